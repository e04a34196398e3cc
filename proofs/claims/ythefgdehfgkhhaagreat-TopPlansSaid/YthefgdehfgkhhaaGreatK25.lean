/-
  planNet: a ledger of five parties, and the graph of their channels.
-/
import Derived.Test.YthefgdehfgkhhaaGreatK01
import Derived.Test.YthefgdehfgkhhaaGreatK22
import Derived.Test.YthefgdehfgkhhaaGreatK23
namespace Go.Proofs.YthefgdehfgkhhaaGreat
open Go.RowKit Go.Maps
set_option linter.unusedVariables false
set_option linter.unusedSimpArgs false
attribute [local go_sem] Oper.semAt_some
/-- A link as the statements tell it. -/
structure Lk where
 a : Nat
 b : Nat
 h0 : Nat
 h1 : Nat
 b0 : Nat
 b1 : Nat
 p0 : Nat
 p1 : Nat
def Lk.cs (l : Lk) : Array Value := #[.int .u8 (l.a : Int), .int .u8 (l.b : Int), .int .u16 (l.h0 : Int), .int .u16 (l.h1 : Int), .int .u8 (l.b0 : Int), .int .u8 (l.b1 : Int), .int .u16 (l.p0 : Int), .int .u16 (l.p1 : Int)]
def Lk.ok (l : Lk) : Prop := (l.a < 256 ∧ l.b < 256) ∧ (l.h0 < 65536 ∧ l.h1 < 65536) ∧ (l.b0 < 256 ∧ l.b1 < 256) ∧ l.p0 < 65536 ∧ l.p1 < 65536
def kcs (ls : List Lk) : List (Array Value) := ls.map Lk.cs
/-- A slice that reads as links. -/
structure RK (w : World) (A : Option Addr) (n : Nat) (ls : List Lk) : Prop where
 klen : ls.length = n
 at_ : 0 < n → ∃ b off, A = some ⟨b, off, none⟩ ∧ b < w.heap.size ∧ ∀ (i : Nat) (l : Lk), ls[i]? = some l → ∀ (j : Nat) (v : Value), l.cs[j]? = some v → w.cell? ⟨b, off + i * 8 + j, none⟩ = some v
theorem RK.on {w w' : World} {A : Option Addr} {n : Nat} {ls : List Lk} (h : RK w A n ls) (hb : Below w.heap.size w w') : RK w' A n ls :=
 ⟨h.klen, fun h0 => by
  obtain ⟨b, off, e, hlt, hc⟩ := h.at_ h0
  exact ⟨b, off, e, Nat.lt_of_lt_of_le hlt hb.size, fun i l hi j v hv => (hb.cell (p := ⟨b, off + i * 8 + j, none⟩) hlt).trans (hc i l hi j v hv)⟩⟩
theorem RK.link {w : World} {A : Option Addr} {n : Nat} {ls : List Lk} (h : RK w A n ls) {i : Nat} (hi : i < n) :
 ∃ b off l, A = some ⟨b, off, none⟩ ∧ b < w.heap.size ∧ ls[i]? = some l ∧ w.cell? ⟨b, off + i * 8, none⟩ = some (.int .u8 (l.a : Int)) ∧ w.cell? ⟨b, off + i * 8 + 1, none⟩ = some (.int .u8 (l.b : Int)) ∧ w.cell? ⟨b, off + i * 8 + 2, none⟩ = some (.int .u16 (l.h0 : Int)) ∧
  w.cell? ⟨b, off + i * 8 + 3, none⟩ = some (.int .u16 (l.h1 : Int)) ∧ w.cell? ⟨b, off + i * 8 + 4, none⟩ = some (.int .u8 (l.b0 : Int)) ∧ w.cell? ⟨b, off + i * 8 + 5, none⟩ = some (.int .u8 (l.b1 : Int)) ∧ w.cell? ⟨b, off + i * 8 + 6, none⟩ = some (.int .u16 (l.p0 : Int)) ∧ w.cell? ⟨b, off + i * 8 + 7, none⟩ = some (.int .u16 (l.p1 : Int)) := by
 obtain ⟨b, off, e, hb, hc⟩ := h.at_ (by omega)
 have hlen : i < ls.length := by rw [h.klen]; exact hi
 have hl := List.getElem?_eq_getElem hlen
 exact ⟨b, off, ls[i], e, hb, hl, hc i _ hl 0 _ rfl, hc i _ hl 1 _ rfl, hc i _ hl 2 _ rfl, hc i _ hl 3 _ rfl, hc i _ hl 4 _ rfl, hc i _ hl 5 _ rfl, hc i _ hl 6 _ rfl, hc i _ hl 7 _ rfl⟩
/-- What the links become: what the parties own, the channels, the edges. -/
structure NetS where
 own : List Int
 S : List Cn
 es : List Ed
def Lk.cn (l : Lk) (i : Nat) : Cn := ⟨i, (l.a % 5 : Nat), (l.b % 5 : Nat), l.h0, l.h1⟩
def Lk.e0 (l : Lk) (i : Nat) : Ed := ⟨(l.a % 5 : Nat), (l.b % 5 : Nat), i, (l.h0 + l.h1 : Nat), l.b0, l.p0, 1, 0, 1125899906842624⟩
def Lk.e1 (l : Lk) (i : Nat) : Ed := ⟨(l.b % 5 : Nat), (l.a % 5 : Nat), i, (l.h0 + l.h1 : Nat), l.b1, l.p1, 2, 0, 1125899906842624⟩
def netStep (x : NetS) (l : Lk) (i : Nat) : NetS := if l.a % 5 = l.b % 5 ∨ l.h0 + l.h1 = 0 then x else ⟨openO x.own (l.cn i) (l.a % 5) (l.b % 5), putS x.S (l.cn i), x.es ++ [l.e0 i, l.e1 i]⟩
def netF : List Lk → Nat → NetS → NetS
 | [], _, x => x
 | l :: ls, i, x => netF ls (i + 1) (netStep x l i)
def netO (ls : List Lk) : NetS := netF (ls.take 8) 0 ⟨own5, [], []⟩
theorem netF_snoc : ∀ (ls : List Lk) (l : Lk) (i : Nat) (x : NetS), netF (ls ++ [l]) i x = netStep (netF ls i x) l (i + ls.length)
 | [], l, i, x => rfl
 | a :: ls, l, i, x => by
  show netF (ls ++ [l]) (i + 1) (netStep x a i) = _
  rw [netF_snoc ls l (i + 1)]
  congr 1
  simp
  omega
def netT (ls : List Lk) (i : Nat) : NetS := netF (ls.take i) 0 ⟨own5, [], []⟩
theorem netT_succ {ls : List Lk} {i : Nat} {l : Lk} (h : ls[i]? = some l) : netT ls (i + 1) = netStep (netT ls i) l i := by
 have hi := (List.getElem?_eq_some_iff.1 h).1
 unfold netT
 rw [List.take_add_one, h]
 show netF (ls.take i ++ [l]) 0 _ = _
 rw [netF_snoc, List.length_take, Nat.min_eq_left (by omega), Nat.zero_add]
/-- What holds of a net. -/
structure NetOk (x : NetS) (i : Nat) : Prop where
 len : x.own.length = 5
 own : ∀ q, q < 5 → 1073741824 - 65535 * (i : Int) ≤ x.own.getD q 0 ∧ x.own.getD q 0 ≤ 1073741824
 keys : ∀ s ∈ x.S, 0 ≤ s.c ∧ s.c < i
 elen : x.es.length ≤ 2 * i
theorem openO_get {own : List Int} {s : Cn} {q0 q1 : Nat} (hne : q0 ≠ q1) (h0 : q0 < own.length) (h1 : q1 < own.length) (q : Nat) : (openO own s q0 q1).getD q 0 = if q = q1 then own.getD q1 0 - s.h1 else if q = q0 then own.getD q0 0 - s.h0 else own.getD q 0 := by
 unfold openO
 simp only [List.getD_eq_getElem?_getD, List.getElem?_set, List.length_set]
 by_cases e1 : q = q1
 ·subst e1
  simp [h1]
 ·by_cases e0 : q = q0
  ·subst e0
   simp [h0, e1, Ne.symm e1]
  ·simp [e0, e1, Ne.symm e0, Ne.symm e1]
theorem NetOk.step {x : NetS} {i : Nat} (h : NetOk x i) {l : Lk} (hl : l.ok) : NetOk (netStep x l i) (i + 1) := by
 obtain ⟨_, ⟨l3, l4⟩, _⟩ := hl
 unfold netStep
 split
 ·exact ⟨h.len, fun q hq => by have := h.own q hq; omega, fun s hs => by have := h.keys s hs; omega, by have := h.elen; omega⟩
 ·rename_i hc
  refine ⟨?_, fun q hq => ?_, fun s hs => ?_, by have := h.elen; simp; omega⟩
  ·show (openO _ _ _ _).length = 5
   unfold openO
   rw [List.length_set, List.length_set]
   exact h.len
  ·have hlen := h.len
   have hm1 : l.a % 5 < 5 := Nat.mod_lt _ (by decide)
   have hm2 : l.b % 5 < 5 := Nat.mod_lt _ (by decide)
   show _ ≤ (openO _ _ _ _).getD q 0 ∧ (openO _ _ _ _).getD q 0 ≤ _
   rw [openO_get (fun e => hc (.inl e)) (by omega) (by omega)]
   have h1 := h.own _ hm1
   have h2 := h.own _ hm2
   have h3 := h.own q hq
   have e1 : (l.cn i).h0 = (l.h0 : Int) := rfl
   have e2 : (l.cn i).h1 = (l.h1 : Int) := rfl
   rw [e1, e2]
   split
   ·omega
   ·split <;> omega
  ·rcases mem_putS hs with hs | rfl
   ·have := h.keys s hs; omega
   ·show 0 ≤ (i : Int) ∧ (i : Int) < ((i + 1 : Nat) : Int)
    omega
theorem netT_ok {ls : List Lk} (hl : ∀ l ∈ ls, l.ok) : ∀ i, i ≤ ls.length → NetOk (netT ls i) i
 | 0, _ => ⟨rfl, fun q hq => by
  have : q = 0 ∨ q = 1 ∨ q = 2 ∨ q = 3 ∨ q = 4 := by omega
  have e : (netT ls 0).own = own5 := rfl
  rw [e]
  rcases this with rfl | rfl | rfl | rfl | rfl <;> decide, fun s hs => by simp [netT, netF] at hs, by simp [netT, netF]⟩
 | i + 1, hi => by
  have hg := List.getElem?_eq_getElem (l := ls) (i := i) (by omega)
  rw [netT_succ hg]
  exact (netT_ok hl i (by omega)).step (hl _ (List.getElem_mem _))
theorem look_none_keys {S : List Cn} {i : Nat} (h : ∀ s ∈ S, 0 ≤ s.c ∧ s.c < (i : Int)) : lookS S i = none := by
 cases hl : lookS S i with
 | none => rfl
 | some s =>
  obtain ⟨h1, h2⟩ := lookS_mem hl
  have := h s h1
  omega
theorem LedAt.low {w w' : World} {p go co bs bh ns : Nat} {own : List Int} {S : List Cn} {lost : Int} {B : Nat} (h : LedAt w p go co bs bh ns own S lost) (hb : Below B w w') (h1 : p < B) (h2 : go < B) (h3 : bs < B) (h4 : bh < B) : LedAt w' p go co bs bh ns own S lost :=
 ⟨h.box.below hb h1, h.row.stay (hb.block _ h2), h.len, h.cap, h.map.stay (hb.block _ h3), by
  obtain ⟨es, cl, hm, r⟩ := h.hold
  exact ⟨es, cl, (hb.block _ h4).trans hm, r⟩, h.ne⟩
theorem Gr.low {M : Nat → Prop} {w a a' : World} (h : Gr M w a) (hb : Below w.heap.size a a') : Gr M w a' :=
 ⟨hb.os.trans h.os, hb.tape.trans h.tape, hb.output.trans h.output, Nat.le_trans h.size hb.size, fun i hi hn => (hb.block i hi).trans (h.block i hi hn)⟩
def RetNet (w : World) (x : NetS) (e : Ending) (w' : World) : Prop :=
 ∃ p go co bs bh ns A c, e = .returned (.tuple #[.pointer (some ⟨p, 0, none⟩), .slice A (ofG x.es).length c]) ∧ LedAt w' p go co bs bh ns x.own x.S 0 ∧ ns ≤ 8 ∧ RE w' A (ofG x.es).length c (ofG x.es) ∧ (ofG x.es).length ≤ 16 ∧ Below w.heap.size w w' ∧ w.heap.size ≤ p
def fiveL (i : Nat) : List Int := List.replicate i 1073741824 ++ List.replicate (5 - i) 0
theorem five_set {i : Nat} (h : i < 5) : (fiveL i).set i 1073741824 = fiveL (i + 1) := by
 have : i = 0 ∨ i = 1 ∨ i = 2 ∨ i = 3 ∨ i = 4 := by omega
 rcases this with rfl | rfl | rfl | rfl | rfl <;> rfl
theorem five_len {i : Nat} (h : i ≤ 5) : (fiveL i).length = 5 := by simp [fiveL]; omega
set_option maxRecDepth 100000 in
set_option maxHeartbeats 8000000 in
theorem net_any (w : World) (A : Option Addr) (n c : Nat) (ls : List Lk) (h : RK w A n ls) (hl : ∀ l ∈ ls, l.ok) :
 Calls Tryz.prog 7 #[.slice A n c] w (RetNet w (netO ls)) := by
 have HL := Lib.hid h
 have HLEN := Lib.hid h.klen
 have HOK := Lib.hid hl
 have HNO : Hid (netO ls = netT ls 8) := Lib.hid rfl
 have mk := make_int 5 5 rfl (by omega)
 clear h hl
 go_enter Tryz.func7, Tryz.ntmps7
 go_wp2_with fail
 obtain ⟨W0, hW0⟩ : ∃ W, W = w.alloc (.cells (icells [0, 0, 0, 0, 0]) 3) := ⟨_, rfl⟩
 have hb0 : Below w.heap.size w W0 := by rw [hW0]; exact (Below.refl _ _).alloc (Nat.le_refl _) _
 have k4 : Blk W0 w.heap.size 3 (icells (fiveL 0)) := by rw [hW0]; exact Blk.new w _ _
 rw [← hW0]
 obtain ⟨G4, hG4⟩ : ∃ z, w.heap.size = z := ⟨_, rfl⟩
 rw [hG4] at k4 ⊢
 have HG4 := Lib.hid hG4
 have HK4 := Lib.hid k4
 have HB0 := Lib.hid hb0
 clear hW0 hG4 k4 hb0 mk
 go_loopw [5] (fun iv wr => ∃ i : Nat, i ≤ 5 ∧ iv = .int .i64 i ∧ Hid (Blk wr G4 3 (icells (fiveL i))) ∧ Hid (Below w.heap.size w wr)) (fun iv _ => 5 - (intOf iv).toNat)
 case atStart => exact ⟨0, by omega, rfl, HK4, HB0⟩
 case round =>
  obtain ⟨i, hi, rfl, HK, HB⟩ := hrel
  clear HK4 HB0
  by_cases hlt : i < 5
  ·have hlt' : (i : Int) < 5 := by omega
   have c0 := (HK.out.cell i).trans (icells_at _ (by rw [five_len hi]; exact hlt))
   have f0 := HK.out.frozen i
   have k2 := HK.out.set_ i (.int .i64 1073741824)
   rw [icells_set, five_set hlt] at k2
   have hb2 := HB.out.setCell (p := ⟨G4, i, none⟩) (show w.heap.size ≤ G4 from Nat.le_of_eq HG4.out) (.int .i64 1073741824)
   have K2 := Lib.hid k2
   have B2 := Lib.hid hb2
   clear k2 hb2
   go_wp2_with fail
   go_roundw
   case rel => exact ⟨i + 1, by omega, by go_num, K2, B2⟩
   case measure => simp [intOf]; omega
  ·have hin : i = 5 := by omega
   subst hin
   clear hi
   go_wp2_with fail
   refine (new_any wr G4 HK.out).mono ?_
   rintro y W1 ⟨p, go, co, bs, bh, rfl, hL, hfr, hb⟩
   have HL1 := Lib.hid hL
   have HFR : Hid (w.heap.size ≤ p ∧ w.heap.size ≤ go ∧ w.heap.size ≤ bs ∧ w.heap.size ≤ bh) := Lib.hid (by have := HB.out.size; omega)
   have HBW1 := Lib.hid (bltB HB.out HB.out.size hb)
   obtain ⟨i0, hi0, hz0', hz1, hz2⟩ := info_parts infoE
   have HI := Lib.hid (And.intro hi0 (And.intro hz0' (And.intro hz1 hz2)))
   clear hL hfr hb HK HB hi0 hz0' hz1 hz2
   go_wp2_with fail
   go_loopw [7, 8] (fun gv iv wr => ∃ (v : Value) (i : Nat), v = gv ∧ i ≤ n ∧ i ≤ 8 ∧ iv = .int .i64 i ∧ Hid (OwnE wr W1.heap.size v (netT ls i).es) ∧ Hid (∃ ns, ns ≤ i ∧ LedAt wr p go co bs bh ns (netT ls i).own (netT ls i).S 0) ∧ Hid (Gr (fun k => k = go ∨ k = p ∨ k = bs) W1 wr)) (fun _ iv _ => 8 - (intOf iv).toNat)
   case atStart => exact ⟨_, 0, rfl, Nat.zero_le _, Nat.zero_le _, rfl, Lib.hid (World.ownsRow_nil _ _ _ _), Lib.hid ⟨0, Nat.le_refl _, HL1.out⟩, Lib.hid (Gr.refl _ _)⟩
   case round =>
    obtain ⟨v, i, rfl, hi, hi8, rfl, HO, HLX, HGR⟩ := hrel
    have HBW : Hid (Below w.heap.size w wr) := Lib.hid (HBW1.out.trans (HGR.out.below (B := w.heap.size) HBW1.out.size (fun k hk e => by have h1 := HFR.out; omega)))
    by_cases hc8 : i < n ∧ i < 8
    ·obtain ⟨hin, hi9⟩ := hc8
     obtain ⟨ba, oa, l, hA, hba, hx, a0, a1, a2, a3, a4, a5, a6, a7⟩ := (HL.out.on HBW.out).link hin
     subst hA
     have HX := Lib.hid hx
     have HLO := Lib.hid (HOK.out l (List.mem_of_getElem? hx))
     have HNT := Lib.hid (netT_succ hx)
     have HNK := Lib.hid (netT_ok HOK.out i (by rw [HLEN.out]; omega))
     have hi10 : (i : Int) < (n : Int) := by omega
     have hi11 : (i : Int) < 8 := by omega
     obtain ⟨la, lb, h0, h1, b0, b1, p0, p1⟩ := l
     dsimp only at a0 a1 a2 a3 a4 a5 a6 a7
     obtain ⟨⟨l1, l2⟩, ⟨l3, l4⟩, ⟨l5, l6⟩, l7, l8⟩ := HLO.out
     dsimp only at l1 l2 l3 l4 l5 l6 l7 l8
     clear hx hin
     obtain ⟨ai, hai⟩ : ∃ z : Nat, la % 5 = z := ⟨_, rfl⟩
     obtain ⟨bi, hbi⟩ : ∃ z : Nat, lb % 5 = z := ⟨_, rfl⟩
     have ha5 : ai < 5 := by omega
     have hb5 : bi < 5 := by omega
     have eai : (la : Int) % 5 = (ai : Int) := by omega
     have ebi : (lb : Int) % 5 = (bi : Int) := by omega
     have HAB := Lib.hid (And.intro hai hbi)
     go_upto_region 13 with (fail)
     rw [eai, ebi]
     clear eai ebi hai hbi
     go_big_region
     all_goals (
      obtain ⟨W2, hW2⟩ : ∃ W, W = (wr.alloc (.cells #[.int .i64 (h0 : Int), .int .i64 (h1 : Int)] 68)).drew := ⟨_, rfl⟩
      have hb2 : Below wr.heap.size wr W2 := by rw [hW2]; exact ((Below.refl _ _).alloc (Nat.le_refl _) _).drew
      have k11 : Blk W2 wr.heap.size 68 #[.int .i64 (h0 : Int), .int .i64 (h1 : Int)] := by rw [hW2]; exact (Blk.new wr _ _).drew
      rw [← hW2]
      obtain ⟨G11, hG11⟩ : ∃ z, wr.heap.size = z := ⟨_, rfl⟩
      rw [hG11] at k11 ⊢
      have HG11 := Lib.hid (And.intro hG11 hb2.size)
      have HO2 : Hid (OwnE W2 W1.heap.size v (netT ls i).es) := Lib.hid (HO.out.on hb2)
      have HLX2 : Hid (∃ ns, ns ≤ i ∧ LedAt W2 p go co bs bh ns (netT ls i).own (netT ls i).S 0) := Lib.hid (by obtain ⟨ns, q1, q2⟩ := HLX.out; exact ⟨ns, q1, q2.on hb2⟩)
      have HGR2 := Lib.hid (HGR.out.trans (Gr.of_below hb2))
      have HBW2 := Lib.hid (bltB HBW.out HBW.out.size hb2)
      clear hW2 hb2 hG11 a0 a1 a2 a3 a4 a5 a6 a7
      have y0 := k11.cell 0
      have y1 := k11.cell 1
      simp at y0 y1
      by_cases hskip : ai = bi ∨ h0 + h1 = 0
      ·have HNE : Hid (netT ls (i + 1) = netT ls i) := Lib.hid (by rw [HNT.out]; unfold netStep; rw [if_pos]; dsimp only; rw [HAB.out.1, HAB.out.2]; exact hskip)
       have HO3 : Hid (OwnE W2 W1.heap.size v (netT ls (i + 1)).es) := Lib.hid (by rw [HNE.out]; exact HO2.out)
       have HL3 : Hid (∃ ns, ns ≤ i + 1 ∧ LedAt W2 p go co bs bh ns (netT ls (i + 1)).own (netT ls (i + 1)).S 0) := Lib.hid (by rw [HNE.out]; obtain ⟨ns, q1, q2⟩ := HLX2.out; exact ⟨ns, by omega, q2⟩)
       by_cases hab : (ai : Int) = (bi : Int)
       ·have g0 : ((ai : Int) == (bi : Int)) = true := by simpa using hab
        clear hskip hab
        go_wp2_with fail
        go_roundw
        case rel => exact ⟨v, i + 1, rfl, by omega, by omega, by go_num, HO3, HL3, HGR2⟩
        case measure => simp [intOf]; omega
       ·have g0 : ((ai : Int) == (bi : Int)) = false := by simpa using hab
        have g1 : ((h0 : Int) + (h1 : Int) == 0) = true := by simp; omega
        clear hskip hab
        go_wp2_with fail
        go_roundw
        case rel => exact ⟨v, i + 1, rfl, by omega, by omega, by go_num, HO3, HL3, HGR2⟩
        case measure => simp [intOf]; omega
      ·have hab : ¬ (ai : Int) = (bi : Int) := by omega
       have g0 : ((ai : Int) == (bi : Int)) = false := by simpa using hab
       have g1 : ((h0 : Int) + (h1 : Int) == 0) = false := by simp; omega
       have HSK := Lib.hid hskip
       have HNE : Hid (netT ls (i + 1) = ⟨openO (netT ls i).own ⟨i, ai, bi, h0, h1⟩ ai bi, putS (netT ls i).S ⟨i, ai, bi, h0, h1⟩, (netT ls i).es ++ [⟨ai, bi, i, (h0 + h1 : Nat), b0, p0, 1, 0, 1125899906842624⟩, ⟨bi, ai, i, (h0 + h1 : Nat), b1, p1, 2, 0, 1125899906842624⟩]⟩) := Lib.hid (by
        rw [HNT.out]
        unfold netStep Lk.cn Lk.e0 Lk.e1
        dsimp only
        rw [HAB.out.1, HAB.out.2, if_neg hskip])
       have HCM : Hid (Cn.may ⟨i, ai, bi, h0, h1⟩) := Lib.hid ⟨⟨by dsimp only; omega, by dsimp only; omega⟩, ⟨⟨by dsimp only; omega, by dsimp only; omega⟩, ⟨by dsimp only; omega, by dsimp only; omega⟩, hab⟩, ⟨by dsimp only; omega, by dsimp only; omega⟩, by dsimp only; omega, by dsimp only; omega⟩
       obtain ⟨ns, hns, hL2⟩ := HLX2.out
       have HL2 := Lib.hid hL2
       have HOW := Lib.hid HNK.out.own
       have HLK := Lib.hid (look_none_keys HNK.out.keys)
       clear hskip hab hL2
       go_wp2_with fail
       refine (open_any W2 p go co bs bh ns (netT ls i).own (netT ls i).S 0 HL2.out ⟨i, ai, bi, h0, h1⟩ HCM.out HLK.out ai bi rfl rfl (by have := HOW.out ai ha5; dsimp only; omega) (by have := HOW.out bi hb5; dsimp only; omega) ⟨by omega, by omega⟩ (by omega)).mono ?_
       rintro y W3 ⟨rfl, hL3, hg3⟩
       have HLT : Hid (p < W1.heap.size ∧ go < W1.heap.size ∧ bs < W1.heap.size ∧ bh < W1.heap.size) := Lib.hid (by
        obtain ⟨es, cl, hm, _⟩ := HL1.out.hold
        exact ⟨HL1.out.box.lt, HL1.out.row.lt, HL1.out.map.lt, blk_lt hm⟩)
       have HSZ : Hid (W1.heap.size ≤ G11) := Lib.hid (by rw [← HG11.out.1]; exact HGR.out.size)
       have HK11 := Lib.hid (k11.gr hg3 (fun e => by have h1 := HLT.out; have h2 := HSZ.out; omega))
       have HO3 : Hid (OwnE W3 W1.heap.size v (netT ls i).es) := Lib.hid (own_gr HO2.out hg3 (fun g' hg' e => by have h1 := HLT.out; have h2 := (HO2.out.lt g' hg').1; omega))
       have HL3 := Lib.hid hL3
       have HGR3 := Lib.hid (HGR2.out.trans hg3)
       clear hL3 hg3 k11 y0 y1 HO2 HL2 HLX2
       go_wp2_with fail
       go_loopw [7, 12] (fun gv jv wr => ∃ (v2 : Value) (j : Nat), v2 = gv ∧ j ≤ 2 ∧ jv = .int .i64 j ∧ Hid (OwnE wr W1.heap.size v2 ((netT ls i).es ++ [(⟨ai, bi, i, (h0 + h1 : Nat), b0, p0, 1, 0, 1125899906842624⟩ : Ed), ⟨bi, ai, i, (h0 + h1 : Nat), b1, p1, 2, 0, 1125899906842624⟩].take j)) ∧ Hid (Blk wr G11 68 #[.int .i64 (h0 : Int), .int .i64 (h1 : Int)]) ∧ Hid (Below W1.heap.size W3 wr)) (fun _ jv _ => 2 - (intOf jv).toNat)
       case atStart => exact ⟨_, 0, rfl, by omega, rfl, Lib.hid (by simpa using HO3.out), HK11, Lib.hid (Below.refl _ _)⟩
       case round =>
        obtain ⟨v2, j, rfl, hj, rfl, HOJ, HKJ, HBJ⟩ := hrel
        have HBJW : Hid (Below w.heap.size w wr) := Lib.hid (HBW1.out.trans ((HGR3.out.below (B := w.heap.size) HBW1.out.size (fun k hk e => by have h1 := HFR.out; omega)).trans (HBJ.out.mono HBW1.out.size)))
        have hj3 : j = 0 ∨ j = 1 ∨ j = 2 := by omega
        have y0 := HKJ.out.cell 0
        have y1 := HKJ.out.cell 1
        simp at y0 y1
        obtain ⟨ba', oa', l', hA', hba', hx', a0, a1, a2, a3, a4, a5, a6, a7⟩ := (HL.out.on HBJW.out).link (show i < n by omega)
        injection hA' with hA'
        injection hA' with q1 q2
        subst q1 q2
        have hll := Option.some.inj (hx'.symm.trans HX.out)
        subst hll
        dsimp only at a4 a5 a6 a7
        have hl11 := HKJ.out.lt
        have hw4 : IntKind.i64.wrap ((h0 : Int) + (h1 : Int)) = (h0 : Int) + (h1 : Int) := IntWalk.i64_in _ (by omega)
        clear hx' a0 a1 a2 a3
        rcases hj3 with rfl | rfl | rfl
        ·go_upto_region 20 with (fail)
         go_big_region
         all_goals (
          obtain ⟨W4, hW4⟩ : ∃ W, W = (wr.alloc (.cells #[.int .i64 (ai : Int), .int .i64 (bi : Int), .int .i64 (i : Int), .int .i64 ((h0 : Int) + (h1 : Int)), .int .i64 (b0 : Int), .int .i64 (p0 : Int), .int .i64 1, .int .i64 0, .int .i64 1125899906842624] 56)).drew := ⟨_, rfl⟩
          have hb4 : Below wr.heap.size wr W4 := by rw [hW4]; exact ((Below.refl _ _).alloc (Nat.le_refl _) _).drew
          have k13 : Blk W4 wr.heap.size 56 #[.int .i64 (ai : Int), .int .i64 (bi : Int), .int .i64 (i : Int), .int .i64 ((h0 : Int) + (h1 : Int)), .int .i64 (b0 : Int), .int .i64 (p0 : Int), .int .i64 1, .int .i64 0, .int .i64 1125899906842624] := by rw [hW4]; exact (Blk.new wr _ _).drew
          rw [← hW4]
          obtain ⟨G13, hG13⟩ : ∃ z, wr.heap.size = z := ⟨_, rfl⟩
          rw [hG13] at k13 ⊢
          have HO4 := Lib.hid (show OwnE W4 W1.heap.size v2 _ from HOJ.out.on hb4)
          have HK4 := Lib.hid (HKJ.out.below hb4 HKJ.out.lt)
          have hsz1 : W1.heap.size ≤ wr.heap.size := Nat.le_trans HGR3.out.size HBJ.out.size
          have HB4 := Lib.hid (bltB HBJ.out hsz1 hb4)
          have HG13 := Lib.hid (And.intro hG13 hsz1)
          have HSZ4 := Lib.hid (Nat.le_trans hsz1 hb4.size)
          clear hW4 hG13 hb4 hw4 a4 a5 a6 a7 y0 y1 hl11 hsz1
          have c0 := k13.cell 0
          have c1 := k13.cell 1
          have c2 := k13.cell 2
          have c3 := k13.cell 3
          have c4 := k13.cell 4
          have c5 := k13.cell 5
          have c6 := k13.cell 6
          have c7 := k13.cell 7
          have c8 := k13.cell 8
          simp at c0 c1 c2 c3 c4 c5 c6 c7 c8
          have HLN : Hid (((netT ls i).es ++ [(⟨ai, bi, i, (h0 + h1 : Nat), b0, p0, 1, 0, 1125899906842624⟩ : Ed), ⟨bi, ai, i, (h0 + h1 : Nat), b1, p1, 2, 0, 1125899906842624⟩].take 0).length ≤ 18) := Lib.hid (by have := HNK.out.elen; simp; omega)
          obtain ⟨E, hE⟩ : ∃ E : Ed, E = ⟨ai, bi, i, (h0 + h1 : Nat), b0, p0, 1, 0, 1125899906842624⟩ := ⟨_, rfl⟩
          have HEV : Hid (E.cs = #[.int .i64 (ai : Int), .int .i64 (bi : Int), .int .i64 (i : Int), .int .i64 ((h0 : Int) + (h1 : Int)), .int .i64 (b0 : Int), .int .i64 (p0 : Int), .int .i64 1, .int .i64 0, .int .i64 1125899906842624]) := Lib.hid (by rw [hE]; rfl)
          obtain ⟨fs, hfs⟩ : ∃ z, (netT ls i).es ++ [(⟨ai, bi, i, (h0 + h1 : Nat), b0, p0, 1, 0, 1125899906842624⟩ : Ed), ⟨bi, ai, i, (h0 + h1 : Nat), b1, p1, 2, 0, 1125899906842624⟩].take 0 = z := ⟨_, rfl⟩
          rw [hfs] at HO4 HLN
          have HFS : Hid (fs ++ [E] = (netT ls i).es ++ [(⟨ai, bi, i, (h0 + h1 : Nat), b0, p0, 1, 0, 1125899906842624⟩ : Ed), ⟨bi, ai, i, (h0 + h1 : Nat), b1, p1, 2, 0, 1125899906842624⟩].take 1) := Lib.hid (by rw [← hfs, hE]; simp)
          clear hfs hE
          go_wp2_with (at_builtin
                       rw [← HEV.out]
                       go_loud (refine wpList_append_any _ rfl (.tmp 125) (.tmp 127) 26 rfl W1.heap.size 56 i0 Ed.zv 9 72 Tryz.underlying26 HI.out.1 HI.out.2.1 HI.out.2.2.1 HI.out.2.2.2 rfl (by decide) v2 _ _ rfl (HO4.out.alloc _) _ (some ⟨W4.heap.size, 0, none⟩) 1 1 (efl [E]) rfl ((blk_reads E (Blk.new W4 _ E.cs)).more (Nat.le_refl _)) (efl_one _) (by have := HLN.out; simp only [maxLen]; omega) (by have := HLN.out; omega) (Nat.le_trans HSZ4.out (by simp)) ?_)
                       intro v3 W6 own1 gr1 at1)
          have HO6 : Hid (OwnE W6 W1.heap.size v3 ((netT ls i).es ++ [(⟨ai, bi, i, (h0 + h1 : Nat), b0, p0, 1, 0, 1125899906842624⟩ : Ed), ⟨bi, ai, i, (h0 + h1 : Nat), b1, p1, 2, 0, 1125899906842624⟩].take 1)) := Lib.hid (by rw [← HFS.out]; unfold OwnE; rw [List.length_append, efl_append]; exact own1)
          have HK6 := Lib.hid (show Blk W6 G11 68 _ from (own_else gr1 HK4.out (fun g' hg' e => by obtain ⟨cs2, h2⟩ := own_type HO4.out hg'; subst e; exact blk_ne HK4.out h2 (by decide) rfl)).trans HK4.out)
          have HB6 := Lib.hid ((HB4.out.alloc HSZ4.out _).grown gr1 (Nat.le_trans HSZ4.out (by simp)) (fun k hk => (HO4.out.lt k hk).1))
          clear own1 gr1 at1 k13 c0 c1 c2 c3 c4 c5 c6 c7 c8
          go_wp2_with fail
          go_roundw
          case rel => exact ⟨v3, 1, rfl, by omega, rfl, HO6, HK6, HB6⟩
          case measure => simp [intOf])
        ·go_upto_region 20 with (fail)
         go_big_region
         all_goals (
          obtain ⟨W4, hW4⟩ : ∃ W, W = (wr.alloc (.cells #[.int .i64 (ai : Int), .int .i64 (bi : Int), .int .i64 (i : Int), .int .i64 ((h0 : Int) + (h1 : Int)), .int .i64 (b1 : Int), .int .i64 (p1 : Int), .int .i64 2, .int .i64 0, .int .i64 1125899906842624] 56)).drew := ⟨_, rfl⟩
          have hb4 : Below wr.heap.size wr W4 := by rw [hW4]; exact ((Below.refl _ _).alloc (Nat.le_refl _) _).drew
          have k13 : Blk W4 wr.heap.size 56 #[.int .i64 (ai : Int), .int .i64 (bi : Int), .int .i64 (i : Int), .int .i64 ((h0 : Int) + (h1 : Int)), .int .i64 (b1 : Int), .int .i64 (p1 : Int), .int .i64 2, .int .i64 0, .int .i64 1125899906842624] := by rw [hW4]; exact (Blk.new wr _ _).drew
          rw [← hW4]
          obtain ⟨G13, hG13⟩ : ∃ z, wr.heap.size = z := ⟨_, rfl⟩
          rw [hG13] at k13 ⊢
          have HO4 := Lib.hid (show OwnE W4 W1.heap.size v2 _ from HOJ.out.on hb4)
          have HK4 := Lib.hid (HKJ.out.below hb4 HKJ.out.lt)
          have hsz1 : W1.heap.size ≤ wr.heap.size := Nat.le_trans HGR3.out.size HBJ.out.size
          have HB4 := Lib.hid (bltB HBJ.out hsz1 hb4)
          have HG13 := Lib.hid (And.intro hG13 hsz1)
          have HSZ4 := Lib.hid (Nat.le_trans hsz1 hb4.size)
          clear hW4 hG13 hb4 hw4 a4 a5 a6 a7 y0 y1 hl11 hsz1
          have z0 := k13.cell 0
          have z1 := k13.cell 1
          have f0 := k13.frozen 0
          have f1 := k13.frozen 1
          simp at z0 z1
          go_upto_region 24 with (fail)
          obtain ⟨W5, hW5⟩ : ∃ W, W = (W4.setCell ⟨G13, 0, none⟩ (.int .i64 (bi : Int))).setCell ⟨G13, 1, none⟩ (.int .i64 (ai : Int)) := ⟨_, rfl⟩
          have hg5 : Gr (· = G13) W4 W5 := by rw [hW5]; exact ((Gr.refl (· = G13) W4).setCell (g := G13) (i := 0) (fun _ => show G13 = G13 from rfl) _).setCell (g := G13) (i := 1) (fun _ => show G13 = G13 from rfl) _
          have k13b := (k13.set_ 0 (.int .i64 (bi : Int))).set_ 1 (.int .i64 (ai : Int))
          rw [← hW5] at k13b ⊢
          have HOlt := Lib.hid (fun g' hg' => (HOJ.out.lt g' hg').2)
          have HO5 := Lib.hid (show OwnE W5 W1.heap.size v2 _ from own_gr HO4.out hg5 (fun g' hg' e => by have e : g' = G13 := e; have h1 := HOlt.out g' hg'; have h2 := HG13.out.1; omega))
          have HK5 := Lib.hid (HK4.out.gr hg5 (fun e => by have e : G11 = G13 := e; have h1 := HKJ.out.lt; have h2 := HG13.out.1; omega))
          have HB5 := Lib.hid (HB4.out.trans (hg5.below (B := W1.heap.size) HSZ4.out (fun k hk e => by have e : k = G13 := e; have h2 := HG13.out; omega)))
          have HSZ5 := Lib.hid (Nat.le_trans HSZ4.out hg5.size)
          simp at k13b
          clear hW5 hg5 z0 z1 f0 f1 HO4 HK4 HB4 HSZ4 HOlt k13
          have c0 := k13b.cell 0
          have c1 := k13b.cell 1
          have c2 := k13b.cell 2
          have c3 := k13b.cell 3
          have c4 := k13b.cell 4
          have c5 := k13b.cell 5
          have c6 := k13b.cell 6
          have c7 := k13b.cell 7
          have c8 := k13b.cell 8
          simp at c0 c1 c2 c3 c4 c5 c6 c7 c8
          have HLN : Hid (((netT ls i).es ++ [(⟨ai, bi, i, (h0 + h1 : Nat), b0, p0, 1, 0, 1125899906842624⟩ : Ed), ⟨bi, ai, i, (h0 + h1 : Nat), b1, p1, 2, 0, 1125899906842624⟩].take 1).length ≤ 18) := Lib.hid (by have := HNK.out.elen; simp; omega)
          obtain ⟨E, hE⟩ : ∃ E : Ed, E = ⟨bi, ai, i, (h0 + h1 : Nat), b1, p1, 2, 0, 1125899906842624⟩ := ⟨_, rfl⟩
          have HEV : Hid (E.cs = #[.int .i64 (bi : Int), .int .i64 (ai : Int), .int .i64 (i : Int), .int .i64 ((h0 : Int) + (h1 : Int)), .int .i64 (b1 : Int), .int .i64 (p1 : Int), .int .i64 2, .int .i64 0, .int .i64 1125899906842624]) := Lib.hid (by rw [hE]; rfl)
          obtain ⟨fs, hfs⟩ : ∃ z, (netT ls i).es ++ [(⟨ai, bi, i, (h0 + h1 : Nat), b0, p0, 1, 0, 1125899906842624⟩ : Ed), ⟨bi, ai, i, (h0 + h1 : Nat), b1, p1, 2, 0, 1125899906842624⟩].take 1 = z := ⟨_, rfl⟩
          rw [hfs] at HO5 HLN
          have HFS : Hid (fs ++ [E] = (netT ls i).es ++ [(⟨ai, bi, i, (h0 + h1 : Nat), b0, p0, 1, 0, 1125899906842624⟩ : Ed), ⟨bi, ai, i, (h0 + h1 : Nat), b1, p1, 2, 0, 1125899906842624⟩].take 2) := Lib.hid (by rw [← hfs, hE]; simp)
          clear hfs hE
          go_wp2_with (at_builtin
                       rw [← HEV.out]
                       go_loud (refine wpList_append_any _ rfl (.tmp 125) (.tmp 127) 26 rfl W1.heap.size 56 i0 Ed.zv 9 72 Tryz.underlying26 HI.out.1 HI.out.2.1 HI.out.2.2.1 HI.out.2.2.2 rfl (by decide) v2 _ _ rfl (HO5.out.alloc _) _ (some ⟨W5.heap.size, 0, none⟩) 1 1 (efl [E]) rfl ((blk_reads E (Blk.new W5 _ E.cs)).more (Nat.le_refl _)) (efl_one _) (by have := HLN.out; simp only [maxLen]; omega) (by have := HLN.out; omega) (Nat.le_trans HSZ5.out (by simp)) ?_)
                       intro v3 W6 own1 gr1 at1)
          have HO6 : Hid (OwnE W6 W1.heap.size v3 ((netT ls i).es ++ [(⟨ai, bi, i, (h0 + h1 : Nat), b0, p0, 1, 0, 1125899906842624⟩ : Ed), ⟨bi, ai, i, (h0 + h1 : Nat), b1, p1, 2, 0, 1125899906842624⟩].take 2)) := Lib.hid (by rw [← HFS.out]; unfold OwnE; rw [List.length_append, efl_append]; exact own1)
          have HK6 := Lib.hid (show Blk W6 G11 68 _ from (own_else gr1 HK5.out (fun g' hg' e => by obtain ⟨cs2, h2⟩ := own_type HO5.out hg'; subst e; exact blk_ne HK5.out h2 (by decide) rfl)).trans HK5.out)
          have HB6 := Lib.hid ((HB5.out.alloc HSZ5.out _).grown gr1 (Nat.le_trans HSZ5.out (by simp)) (fun k hk => (HO5.out.lt k hk).1))
          clear own1 gr1 at1 k13b c0 c1 c2 c3 c4 c5 c6 c7 c8
          go_wp2_with fail
          go_roundw
          case rel => exact ⟨v3, 2, rfl, by omega, rfl, HO6, HK6, HB6⟩
          case measure => simp [intOf])
        ·have HOE : Hid (OwnE wr W1.heap.size v2 (netT ls (i + 1)).es) := Lib.hid (by rw [HNE.out]; exact HOJ.out)
         have HLE : Hid (∃ ns, ns ≤ i + 1 ∧ LedAt wr p go co bs bh ns (netT ls (i + 1)).own (netT ls (i + 1)).S 0) := Lib.hid (by
          rw [HNE.out]
          exact ⟨ns + 1, by omega, HL3.out.low HBJ.out HLT.out.1 HLT.out.2.1 HLT.out.2.2.1 HLT.out.2.2.2⟩)
         have HGE := Lib.hid (HGR3.out.low HBJ.out)
         clear y0 y1 hl11 hw4 a4 a5 a6 a7
         go_wp2_with fail
         go_roundw
         case rel => exact ⟨v2, i + 1, rfl, by omega, by omega, by go_num, HOE, HLE, HGE⟩
         case measure => simp [intOf]; omega)
    ·have HNI : Hid (netO ls = netT ls i) := Lib.hid (by
      rw [HNO.out]
      rcases Nat.lt_or_ge i 8 with h8 | h8
      ·have hin : i = n := by omega
       unfold netT
       rw [List.take_of_length_le (by rw [HLEN.out]; omega), List.take_of_length_le (by rw [HLEN.out]; omega)]
      ·have : i = 8 := by omega
       rw [this])
     have HNK := Lib.hid (netT_ok HOK.out i (by rw [HLEN.out]; omega))
     obtain ⟨A1, c1, rfl, hre⟩ := HO.out.row
     obtain ⟨m1, hm1⟩ : ∃ z, (netT ls i).es.length = z := ⟨_, rfl⟩
     rw [hm1] at hre ⊢
     have HRE := Lib.hid hre
     have HM1 : Hid (m1 ≤ 16) := Lib.hid (by rw [← hm1]; have := HNK.out.elen; omega)
     have HOL : Hid ((ofG (netT ls i).es).length ≤ 16) := Lib.hid (by
      unfold ofG
      rw [sort_len]
      exact Nat.le_trans (List.length_filter_le _ _) (by rw [hm1]; exact HM1.out))
     obtain ⟨ns, hns, hL⟩ := HLX.out
     have HL9 := Lib.hid hL
     clear hre hm1 hL
     by_cases hin : (i : Int) < (n : Int)
     all_goals (
      (first | (have h8 : ¬ (i : Int) < 8 := by omega) | skip)
      go_wp2_with fail
      refine (gof_any wr A1 m1 c1 _ HRE.out (by have := HM1.out; omega)).mono ?_
      rintro y W2 ⟨A2, c2, rfl, hr2, hb2⟩
      have HF : Hid (RetNet w (netO ls) (.returned (.tuple #[.pointer (some ⟨p, 0, none⟩), .slice A2 (ofG (netT ls i).es).length c2])) W2) := Lib.hid (by
       rw [HNI.out]
       exact ⟨p, go, co, bs, bh, ns, A2, c2, rfl, HL9.out.on hb2, by omega, hr2, HOL.out, bltB HBW.out HBW.out.size hb2, HFR.out.1⟩)
      clear hr2 hb2
      go_wp2_with fail
      refine bodyPost_ret (v := .tuple #[.pointer (some ⟨p, 0, none⟩), .slice A2 (ofG (netT ls i).es).length c2]) ?_ rfl HF.out
      simp [results, Tryz.f7, go_sem])
end Go.Proofs.YthefgdehfgkhhaaGreat
namespace Go.Proofs.YthefgdehfgkhhaaGreat
set_option linter.unusedVariables false
set_option linter.unusedSimpArgs false
def awkL : List Lk := [⟨0, 1, 100, 0, 0, 0, 0, 0⟩, ⟨1, 3, 10, 990, 5, 5, 0, 0⟩, ⟨0, 2, 100, 0, 0, 0, 0, 0⟩, ⟨2, 3, 60, 0, 7, 7, 0, 0⟩]
def awkG : List Ed := ofG (netO awkL).es
def awkP : PlanR := planF awkG 0 3 50 (1 : Nat) 12 0 (netO awkL).S []
theorem awk_len : awkG.length = 8 := by kernel_rfl
theorem awk_right : rightG awkG = true := by kernel_rfl
theorem awk_paid : (awkP.paid, awkP.tries, awkP.parts.length) = (true, 2, 1) := by kernel_rfl
theorem awk_worth : (worthF (netO awkL).own awkP.S 0, worthF (netO awkL).own awkP.S 1, worthF (netO awkL).own awkP.S 2, worthF (netO awkL).own awkP.S 3) = (1073741767, 1073741824, 1073741831, 1073741874) := by kernel_rfl
end Go.Proofs.YthefgdehfgkhhaaGreat
namespace Go.Proofs.YthefgdehfgkhhaaGreat
set_option linter.unusedVariables false
set_option linter.unusedSimpArgs false
/-- What is noted of a channel's two ways holds what its sides have. -/
def Tr (s : Cn) (L : Notes) : Prop := ((cnt L (s.p0, s.c) (s.h0 + s.h1)).1 ≤ s.h0 ∧ s.h0 < (cnt L (s.p0, s.c) (s.h0 + s.h1)).2) ∧ ((cnt L (s.p1, s.c) (s.h0 + s.h1)).1 ≤ s.h1 ∧ s.h1 < (cnt L (s.p1, s.c) (s.h0 + s.h1)).2)
def TrueW (S : List Cn) (L : Notes) : Prop := ∀ s ∈ S, Tr s L
/-- The edge's channel. -/
structure Ch (S : List Cn) (e : Ed) (s : Cn) : Prop where
 look : lookS S e.c = some s
 ends : (s.p0 = e.f ∧ s.p1 = e.t) ∨ (s.p0 = e.t ∧ s.p1 = e.f)
 room : s.h0 + s.h1 = e.r
 ne : e.f ≠ e.t
 pos : 0 ≤ s.h0 ∧ 0 ≤ s.h1
theorem look_mem : ∀ {S : List Cn}, (S.Pairwise fun a b => a.c ≠ b.c) → ∀ {s : Cn}, s ∈ S → lookS S s.c = some s
 | x :: S, h, s, hs => by
  rw [List.pairwise_cons] at h
  unfold lookS
  rcases List.mem_cons.1 hs with rfl | hs
  ·rw [if_pos rfl]
  ·rw [if_neg (h.1 s hs), look_mem h.2 hs]
theorem Ch.has {S : List Cn} {e : Ed} {s : Cn} (h : Ch S e s) : (s.p0 = e.f ∧ s.p1 = e.t ∧ hasF S e = s.h0 ∧ sideF S e = 0) ∨ (s.p0 = e.t ∧ s.p1 = e.f ∧ hasF S e = s.h1 ∧ sideF S e = 1) := by
 have h1 := sideF_eq h.look
 have h2 := hasF_eq h.look
 rcases h.ends with ⟨a, b⟩ | ⟨a, b⟩
 ·rw [if_pos a] at h1
  rw [h1] at h2
  exact .inl ⟨a, b, h2, h1⟩
 ·rw [if_neg (fun e' => h.ne (e'.symm.trans a))] at h1
  rw [h1] at h2
  exact .inr ⟨a, b, h2, h1⟩
theorem Tr.other {s : Cn} {L L' : Notes} (h : Tr s L) (h0 : ∀ r, cnt L' (s.p0, s.c) r = cnt L (s.p0, s.c) r) (h1 : ∀ r, cnt L' (s.p1, s.c) r = cnt L (s.p1, s.c) r) : Tr s L' := by
 unfold Tr at *
 rw [h0, h1]
 exact h
theorem key_ne {a b c d : Int} (h : b ≠ d) : ¬ (a, b) = (c, d) := fun e => h (by injection e)
theorem cnt_bd {L : Notes} (hg : Good L) {k : Int × Int} {r : Int} (hr : 0 < r) : 0 ≤ (cnt L k r).1 ∧ (cnt L k r).1 < (cnt L k r).2 ∧ (cnt L k r).2 ≤ r + 1 := cnt_ok hg k hr
theorem pass_true {S : List Cn} {L : Notes} {e : Ed} {s : Cn} {x : Int} (ho : S.Pairwise fun a b => a.c ≠ b.c) (hT : TrueW S L) (hc : Ch S e s) (hx : x ≤ hasF S e) : TrueW S (passL L e.e4 x) := by
 unfold passL
 split
 ·intro s' hs'
  have ht := hT s' hs'
  by_cases hcc : s'.c = e.c
  ·have : s' = s := Option.some.inj ((look_mem ho hs').symm.trans (by rw [hcc]; exact hc.look))
   subst this
   have hkf : (e.e4.f, e.e4.c) = (e.f, e.c) := rfl
   have hr : e.e4.r = e.r := rfl
   have hroom := hc.room
   have hp := hc.pos
   unfold Tr at ht ⊢
   rw [cnt_put, cnt_put, hkf, hr, hcc]
   rw [hcc, hroom] at ht
   rw [hroom]
   rcases hc.has with ⟨a, b, h1, _⟩ | ⟨a, b, h1, _⟩
   ·rw [a, b] at ht ⊢
    rw [if_pos rfl, if_neg (fun e' => hc.ne (by injection e' with e1 _; exact e1.symm))]
    unfold cnt1
    rw [h1] at hx
    dsimp only at ht ⊢
    omega
   ·rw [a, b] at ht ⊢
    rw [if_neg (fun e' => hc.ne (by injection e' with e1 _; exact e1.symm)), if_pos rfl]
    unfold cnt1
    rw [h1] at hx
    dsimp only at ht ⊢
    omega
  ·exact ht.other (fun r => by rw [cnt_put]; exact if_neg (key_ne hcc)) (fun r => by rw [cnt_put]; exact if_neg (key_ne hcc))
 ·exact hT
theorem fail_true {S : List Cn} {L : Notes} {e : Ed} {s : Cn} {x : Int} (ho : S.Pairwise fun a b => a.c ≠ b.c) (hT : TrueW S L) (hc : Ch S e s) (hx : hasF S e < x) : TrueW S (failL L e.e4 x) := by
 unfold failL
 split
 ·intro s' hs'
  have ht := hT s' hs'
  by_cases hcc : s'.c = e.c
  ·have : s' = s := Option.some.inj ((look_mem ho hs').symm.trans (by rw [hcc]; exact hc.look))
   subst this
   have hkf : (e.e4.f, e.e4.c) = (e.f, e.c) := rfl
   have hr : e.e4.r = e.r := rfl
   have hroom := hc.room
   have hp := hc.pos
   unfold Tr at ht ⊢
   rw [cnt_put, cnt_put, hkf, hr, hcc]
   rw [hcc, hroom] at ht
   rw [hroom]
   rcases hc.has with ⟨a, b, h1, _⟩ | ⟨a, b, h1, _⟩
   ·rw [a, b] at ht ⊢
    rw [if_pos rfl, if_neg (fun e' => hc.ne (by injection e' with e1 _; exact e1.symm))]
    unfold cnt1
    rw [h1] at hx
    dsimp only at ht ⊢
    omega
   ·rw [a, b] at ht ⊢
    rw [if_neg (fun e' => hc.ne (by injection e' with e1 _; exact e1.symm)), if_pos rfl]
    unfold cnt1
    rw [h1] at hx
    dsimp only at ht ⊢
    omega
  ·exact ht.other (fun r => by rw [cnt_put]; exact if_neg (key_ne hcc)) (fun r => by rw [cnt_put]; exact if_neg (key_ne hcc))
 ·exact hT
theorem move_true {S : List Cn} {L : Notes} {e : Ed} {s : Cn} {x : Int} {l : Lg} (ho : S.Pairwise fun a b => a.c ≠ b.c) (hT : TrueW S L) (hc : Ch S e s) (hx : x ≤ hasF S e) (h0 : 0 < x) (hm : e.e4.may x = true) (hl : l.s = sideF S e ∧ l.a = x) : TrueW (putS S (moveS s l)) (moveL L e.e4 x) := by
 have hsc : s.c = e.c := (lookS_mem hc.look).2
 unfold moveL
 rw [if_pos hm]
 have hkf : (e.e4.f, e.e4.c) = (e.f, e.c) := rfl
 have hkt : (e.e4.t, e.e4.c) = (e.t, e.c) := rfl
 have hr : e.e4.r = e.r := rfl
 have hroom := hc.room
 have hp := hc.pos
 rw [hkf, hkt, hr]
 intro s' hs'
 by_cases hcc : s'.c = e.c
 ·have ht := hT s (lookS_mem hc.look).1
  have hmc : (moveS s l).c = e.c := by rw [move_c]; exact hsc
  have hes : s' = moveS s l := by
   have h1 := look_mem (once_putS ho (moveS s l)) hs'
   rw [hcc, lookS_put, if_pos hmc.symm] at h1
   exact (Option.some.inj h1).symm
  subst hes
  obtain ⟨m0, m1, m2⟩ := moveS_sum s l
  unfold Tr at ht ⊢
  rw [m2, m0, m1, hcc, hroom]
  rw [hsc, hroom] at ht
  rw [cnt_put, cnt_put, cnt_put, cnt_put]
  rcases hc.has with ⟨a, b, h1, h2⟩ | ⟨a, b, h1, h2⟩
  ·have e0 : (moveS s l).h0 = s.h0 - x := by unfold moveS; rw [hl.1, h2, if_pos rfl, hl.2]
   have e1 : (moveS s l).h1 = s.h1 + x := by unfold moveS; rw [hl.1, h2, if_pos rfl, hl.2]
   rw [e0, e1]
   rw [a, b] at ht ⊢
   have hne : ¬ (e.f, e.c) = (e.t, e.c) := fun e' => hc.ne (by injection e')
   have hne2 : ¬ (e.t, e.c) = (e.f, e.c) := fun e' => hc.ne (by injection e' with q _; exact q.symm)
   rw [if_neg hne, if_pos rfl, if_pos rfl]
   rw [h1] at hx
   unfold cnt1
   dsimp only at ht ⊢
   omega
  ·have e0 : (moveS s l).h0 = s.h0 + x := by unfold moveS; rw [hl.1, h2, if_neg (by decide), hl.2]
   have e1 : (moveS s l).h1 = s.h1 - x := by unfold moveS; rw [hl.1, h2, if_neg (by decide), hl.2]
   rw [e0, e1]
   rw [a, b] at ht ⊢
   have hne : ¬ (e.f, e.c) = (e.t, e.c) := fun e' => hc.ne (by injection e')
   have hne2 : ¬ (e.t, e.c) = (e.f, e.c) := fun e' => hc.ne (by injection e' with q _; exact q.symm)
   rw [if_pos rfl, if_neg hne, if_pos rfl]
   rw [h1] at hx
   unfold cnt1
   dsimp only at ht ⊢
   omega
 ·have hs2 : s' ∈ S := by
   rcases mem_putS hs' with h | h
   ·exact h
   ·exact absurd (by rw [h, move_c]; exact hsc) hcc
  exact (hT s' hs2).other (fun r => by rw [cnt_put, cnt_put, if_neg (key_ne hcc), if_neg (key_ne hcc)]) (fun r => by rw [cnt_put, cnt_put, if_neg (key_ne hcc), if_neg (key_ne hcc)])
end Go.Proofs.YthefgdehfgkhhaaGreat
namespace Go.Proofs.YthefgdehfgkhhaaGreat
set_option linter.unusedVariables false
set_option linter.unusedSimpArgs false
theorem note_cons (L : Notes) (e : Ed) (es : List Ed) (x : Int) (xs : List Int) (k : Int) : noteF L (e :: es) (x :: xs) k = if k = 0 then failL L e.e4 x else noteF (passL L e.e4 x) es xs (k - 1) := by rw [noteF]
theorem note_true {S : List Cn} (ho : S.Pairwise fun a b => a.c ≠ b.c) : ∀ (es : List Ed) (xs : List Int) (k : Int) (L : Notes) (i : Int), 0 ≤ i → TrueW S L → (∀ e ∈ es, ∃ s, Ch S e s) → (lacksF S es xs i = if k < 0 then -1 else i + k) → TrueW S (noteF L es xs k)
 | [], xs, k, L, i, _, hT, _, _ => by cases xs <;> exact hT
 | e :: es, [], k, L, i, _, hT, _, _ => hT
 | e :: es, x :: xs, k, L, i, hi, hT, hc, hl => by
  obtain ⟨s, hs⟩ := hc e (List.mem_cons_self ..)
  have hc' := fun b hb => hc b (List.mem_cons_of_mem _ hb)
  rw [lacks_cons] at hl
  rw [note_cons]
  have hr := lacks_range S es xs (i + 1)
  by_cases hlt : hasF S e < x
  ·rw [if_pos hlt] at hl
   have hk : k = 0 := by split at hl <;> omega
   rw [if_pos hk]
   exact fail_true ho hT hs hlt
  ·rw [if_neg hlt] at hl
   have hk : ¬ k = 0 := by
    intro e'
    rw [if_neg (by omega), e'] at hl
    rcases hr with h | h <;> omega
   rw [if_neg hk]
   refine note_true ho es xs (k - 1) _ (i + 1) (by omega) (pass_true ho hT hs (by omega)) hc' ?_
   rw [hl]
   by_cases h : k < 0
   ·rw [if_pos h, if_pos (by omega)]
   ·rw [if_neg h, if_neg (by omega)]; omega
theorem edge_ok {e : Ed} (h : edgeB e = true) : e.e4.ok = true := by
 obtain ⟨h1, h2, h3, h4, h5, _⟩ := edge_spec h
 have e1 : e.e4.f = e.f := rfl
 have e2 : e.e4.t = e.t := rfl
 have e3 : e.e4.c = e.c := rfl
 have e4 : e.e4.r = e.r := rfl
 unfold E4.ok
 rw [mayB_iff, e1, e2, e3, e4]
 exact ⟨by omega, by omega, h3, by omega, by omega⟩
theorem may_of {e : Ed} {x : Int} (h : e.e4.ok = true) (h0 : 0 < x) (h1 : x ≤ e.r) : e.e4.may x = true := by
 have e4 : e.e4.r = e.r := rfl
 unfold E4.may
 rw [h, e4, decide_eq_true h0, decide_eq_true h1]
 rfl
theorem ch_put {S : List Cn} {b : Ed} {s t : Cn} (h : Ch S b s) (hne : t.c ≠ b.c) : Ch (putS S t) b s := ⟨by rw [lookS_put, if_neg (fun e => hne e.symm)]; exact h.look, h.ends, h.room, h.ne, h.pos⟩
theorem side_look {S S' : List Cn} {e : Ed} (h : lookS S e.c = lookS S' e.c) : sideF S e = sideF S' e := by unfold sideF; rw [h]
/-- Moving notes as the ledger moves. -/
theorem mv_true (S0 : List Cn) : ∀ (es : List Ed) (xs : List Int) (S' : List Cn) (L : Notes) (S2 : List Cn), (S'.Pairwise fun a b => a.c ≠ b.c) → TrueW S' L → (∀ e ∈ es, (∃ s, Ch S' e s) ∧ sideF S0 e = sideF S' e ∧ e.e4.ok = true) → (es.Pairwise fun a b => a.c ≠ b.c) → (∀ x ∈ xs, 0 < x) → payF S' (legsF S0 false es xs) = some S2 → TrueW S2 (mvL L es xs)
 | [], xs, S', L, S2, ho, hT, hc, hd, hx, hp => by
  have : S2 = S' := by cases xs <;> simp [legsF, payF] at hp <;> exact hp.symm
  subst this
  cases xs <;> exact hT
 | e :: es, [], S', L, S2, ho, hT, hc, hd, hx, hp => by
  simp [legsF, payF] at hp
  subst hp
  exact hT
 | e :: es, x :: xs, S', L, S2, ho, hT, hc, hd, hx, hp => by
  obtain ⟨⟨s, hs⟩, hside, hok⟩ := hc e (List.mem_cons_self ..)
  rw [List.pairwise_cons] at hd
  have h0 := hx x (List.mem_cons_self ..)
  rw [legsF, pay_cons _ _ _ (show lookS S' (legF S0 false e x).c = some s from hs.look)] at hp
  split at hp
  ·simp at hp
  ·rename_i hh
   have hhas : haveS s (legF S0 false e x).s = hasF S' e := by
    rw [hasF_eq hs.look, ← hside]
    rfl
   rw [hhas] at hh
   have hxe : x ≤ hasF S' e := by have : (legF S0 false e x).a = x := rfl; omega
   have hxr : x ≤ e.r := by
    have := hs.pos
    have := hs.room
    rcases hs.has with ⟨_, _, h, _⟩ | ⟨_, _, h, _⟩ <;> omega
   have hmc : (moveS s (legF S0 false e x)).c = e.c := by rw [move_c]; exact (lookS_mem hs.look).2
   rw [mv_cons]
   refine mv_true S0 es xs _ _ S2 (once_putS ho _) (move_true ho hT hs hxe h0 (may_of hok h0 hxr) ⟨hside, rfl⟩) (fun b hb => ?_) hd.2 (fun y hy => hx y (List.mem_cons_of_mem _ hy)) hp
   obtain ⟨⟨t, ht⟩, h1, h2⟩ := hc b (List.mem_cons_of_mem _ hb)
   have hne : e.c ≠ b.c := hd.1 b hb
   exact ⟨⟨t, ch_put ht (by rw [hmc]; exact hne)⟩, h1.trans (side_look (by rw [lookS_put, if_neg (by rw [hmc]; exact fun e' => hne e'.symm)])), h2⟩
/-! Parts. -/
theorem ginv_ch {S : List Cn} {g : List Ed} (hg : GInv S g) {e : Ed} (he : e ∈ g) (hb : edgeB e = true) : ∃ s, Ch S e s := by
 obtain ⟨⟨s, hs, hp, hr⟩, _⟩ := hg.1 e he
 have hpos := hg.2.1 s (lookS_mem hs).1
 exact ⟨s, hs, hp, hr, (edge_spec hb).2.2.1, by omega⟩
theorem POk.edge {g : List Ed} {P : Prt} (h : POk g P) {e : Ed} (he : e ∈ P.way) : e ∈ g ∧ edgeB e = true := by
 obtain ⟨i, hi, rfl⟩ := List.mem_iff_getElem.1 he
 exact ⟨h.1 _ he, way_edges h.way.1 (List.getElem?_eq_getElem hi)⟩
theorem POk.pos {g : List Ed} {P : Prt} (h : POk g P) : ∀ x ∈ P.s, 0 < x := by
 intro x hx
 obtain ⟨i, hi, rfl⟩ := List.mem_iff_getElem.1 hx
 have := cost_bounds h.2 (List.getElem?_eq_getElem hi)
 omega
/-- A part that goes. -/
theorem part_true {S : List Cn} {g : List Ed} {P : Prt} {L : Notes} (hg : GInv S g) (hp : POk g P) (hT : TrueW S L) (hl : lacksF S P.way P.s 0 < 0) : TrueW (pay1 S P) (mvL (noteF L P.way P.s (-1)) P.way P.s) := by
 have hl1 : lacksF S P.way P.s 0 = -1 := by rcases lacks_range S P.way P.s 0 with h | h <;> omega
 have h1 : TrueW S (noteF L P.way P.s (-1)) := note_true hg.2.2 _ _ _ _ 0 (Int.le_refl _) hT (fun e he => ginv_ch hg (hp.edge he).1 (hp.edge he).2) (by rw [hl1]; rfl)
 rcases lacks_iff hg hp with ⟨_, S2, h2⟩ | ⟨h, _⟩
 ·have : pay1 S P = S2 := by unfold pay1; rw [h2]; rfl
  rw [this]
  exact mv_true S P.way P.s S _ S2 hg.2.2 h1 (fun e he => ⟨ginv_ch hg (hp.edge he).1 (hp.edge he).2, rfl, edge_ok (hp.edge he).2⟩) (way_once hg hp.1 hp.way.1) hp.pos h2
 ·omega
theorem parts_true {g : List Ed} : ∀ (ps : List Prt) (S : List Cn) (L : Notes), GInv S g → (∀ P ∈ ps, POk g P) → TrueW S L → (∀ j P, ps[j]? = some P → lacksF (stF S (ps.take j)) P.way P.s 0 < 0) → TrueW (stF S ps) (lnF L ps)
 | [], S, L, _, _, hT, _ => hT
 | P :: ps, S, L, hg, hp, hT, hl => by
  have hP := hp P (List.mem_cons_self ..)
  refine parts_true ps _ _ (pay1_inv hg hP) (fun Q hQ => hp Q (List.mem_cons_of_mem _ hQ)) (part_true hg hP hT (hl 0 P rfl)) (fun j Q hj => ?_)
  have := hl (j + 1) Q (by simpa using hj)
  simpa [stF] using this
theorem ch_back {S : List Cn} {e : Ed} {s : Cn} (h : Ch S e s) : Ch S (backE e) s := ⟨h.look, h.ends.symm.imp id id |>.elim (fun q => .inl q) (fun q => .inr q), h.room, h.ne.symm, h.pos⟩
theorem side_back {S : List Cn} {e : Ed} {s : Cn} (h : Ch S e s) : sideF S (backE e) = 1 - sideF S e := by
 rcases h.has with ⟨a, b, _, h1⟩ | ⟨a, b, _, h1⟩ <;> rcases (ch_back h).has with ⟨c, d, _, h2⟩ | ⟨c, d, _, h2⟩
 ·exact absurd (a.symm.trans c) h.ne
 ·rw [h1, h2]; rfl
 ·rw [h1, h2]; rfl
 ·exact absurd (c.symm.trans a) h.ne
theorem legs_back {S : List Cn} : ∀ (es : List Ed) (xs : List Int), (∀ e ∈ es, ∃ s, Ch S e s) → legsF S true es xs = legsF S false (es.map backE) xs
 | [], xs, _ => by cases xs <;> rfl
 | e :: es, [], _ => rfl
 | e :: es, x :: xs, h => by
  obtain ⟨s, hs⟩ := h e (List.mem_cons_self ..)
  rw [legsF, List.map_cons, legsF, legs_back es xs (fun b hb => h b (List.mem_cons_of_mem _ hb))]
  congr 1
  unfold legF
  rw [side_back hs]
  rfl
theorem back_edge {e : Ed} (h : edgeB e = true) : (backE e).e4.ok = true := by
 have h1 := edge_ok h
 unfold E4.ok at h1 ⊢
 rw [mayB_iff] at h1 ⊢
 have e1 : (backE e).e4.f = e.e4.t := rfl
 have e2 : (backE e).e4.t = e.e4.f := rfl
 have e3 : (backE e).e4.c = e.e4.c := rfl
 have e4 : (backE e).e4.r = e.e4.r := rfl
 rw [e1, e2, e3, e4]
 exact ⟨h1.2.1, h1.1, h1.2.2.1.symm, h1.2.2.2⟩
/-- A part that comes back. -/
theorem part_back {S S2 : List Cn} {g : List Ed} {P : Prt} {L : Notes} (hg : GInv S g) (hp : POk g P) (h2 : payF S (legsF S false P.way P.s) = some S2) (hT : TrueW S2 L) : TrueW S (mvL L (P.way.map backE) P.s) := by
 have hg2 := hg.pay hp false h2
 have hb := pay_back hg hp h2
 have hch : ∀ e ∈ P.way, ∃ s, Ch S2 e s := fun e he => ginv_ch hg2 (hp.edge he).1 (hp.edge he).2
 rw [legs_back _ _ hch] at hb
 refine mv_true S2 (P.way.map backE) P.s S2 L S hg2.2.2 hT (fun e he => ?_) ?_ hp.pos hb
 ·obtain ⟨a, ha, rfl⟩ := List.mem_map.1 he
  obtain ⟨s, hs⟩ := hch a ha
  exact ⟨⟨s, ch_back hs⟩, rfl, back_edge (hp.edge ha).2⟩
 ·rw [List.pairwise_map]
  exact way_once hg hp.1 hp.way.1
theorem backs_true {g : List Ed} {ps : List Prt} {S : List Cn} (hg : GInv S g) (hp : ∀ P ∈ ps, POk g P) : ∀ (j : Nat) (L : Notes), j ≤ ps.length → (∀ q P, q < j → ps[q]? = some P → lacksF (stF S (ps.take q)) P.way P.s 0 < 0) → TrueW (stF S (ps.take j)) L → TrueW S (bkL L ((ps.take j).reverse))
 | 0, L, _, _, hT => hT
 | j + 1, L, hj, hl, hT => by
  have hx := List.getElem?_eq_getElem (l := ps) (i := j) (by omega)
  rw [take_snoc hx, List.reverse_append]
  show TrueW S (bkL L (ps[j] :: (ps.take j).reverse))
  rw [bk_cons]
  have hP := hp _ (List.getElem_mem (by omega : j < ps.length))
  have hgj := stF_inv (ps.take j) S hg (fun Q hQ => hp Q (List.mem_of_mem_take hQ))
  have hlj := hl j _ (Nat.lt_succ_self _) hx
  rcases lacks_iff hgj hP with ⟨_, S2, h2⟩ | ⟨h, _⟩
  ·rw [take_snoc hx, stF_snoc] at hT
   have : pay1 (stF S (ps.take j)) ps[j] = S2 := by unfold pay1; rw [h2]; rfl
   rw [this] at hT
   exact backs_true hg hp j _ (by omega) (fun q P hq => hl q P (by omega)) (part_back hgj hP h2 hT)
  ·omega
theorem stop_none : ∀ (ps : List Prt) (S : List Cn) (i : Nat), stopF S ps i = none → ∀ j P, ps[j]? = some P → lacksF (stF S (ps.take j)) P.way P.s 0 < 0
 | [], S, i, _, j, P, h => by simp at h
 | Q :: ps, S, i, h, j, P, hj => by
  rw [stop_cons] at h
  split at h
  ·simp at h
  ·rename_i hl
   cases j with
   | zero => simp at hj; subst hj; simpa [stF] using hl
   | succ j =>
    have := stop_none ps _ _ h j P (by simpa using hj)
    simpa [stF] using this
/-- T4: what is known stays true, whatever was tried. -/
theorem plan_true {g : List Ed} {fr td a : Int} {N : Nat} {S : List Cn} (hg : GInv S g) : ∀ (f t : Nat) (L : Notes), TrueW S L → TrueW (planF g fr td a (N : Int) f t S L).S (planF g fr td a (N : Int) f t S L).L ∧ GInv (planF g fr td a (N : Int) f t S L).S g
 | 0, t, L, hT => ⟨hT, hg⟩
 | f + 1, t, L, hT => by
  rw [planF]
  cases hs : splitF L g fr td a 100 (N : Int) with
  | none => exact ⟨hT, hg⟩
  | some r =>
   have hp := (split_ok hs).1
   cases hst : stopF S r.1 0 with
   | none =>
    simp only [hst]
    exact ⟨parts_true r.1 S L hg hp hT (stop_none _ _ _ hst), stF_inv _ _ hg hp⟩
   | some k =>
    simp only [hst]
    obtain ⟨q, h1, ⟨P, h2, h3, h4⟩, h5⟩ := stop_spec r.1 S 0 k hst
    have hq : q = k.1 := by omega
    subst hq
    have hql : k.1 < r.1.length := (List.getElem?_eq_some_iff.1 h2).1
    have hgk := stF_inv (r.1.take k.1) S hg (fun Q hQ => hp Q (List.mem_of_mem_take hQ))
    have hP := hp P (List.mem_of_getElem? h2)
    have hT1 : TrueW (stF S (r.1.take k.1)) (lnF L (r.1.take k.1)) := parts_true _ S L hg (fun Q hQ => hp Q (List.mem_of_mem_take hQ)) hT (fun j Q hj => by
     have hjl := (List.getElem?_eq_some_iff.1 hj).1
     rw [List.length_take] at hjl
     rw [List.getElem?_take, if_pos (by omega)] at hj
     rw [List.take_take, Nat.min_eq_left (by omega)]
     exact h5 j Q (by omega) hj)
    have hgd : r.1.getD k.1 ⟨0, [], [], []⟩ = P := by rw [List.getD_eq_getElem?_getD, h2]; rfl
    rw [hgd]
    have hT2 : TrueW (stF S (r.1.take k.1)) (noteF (lnF L (r.1.take k.1)) P.way P.s k.2) := note_true hgk.2.2 _ _ _ _ 0 (Int.le_refl _) hT1 (fun e he => ginv_ch hgk (hP.edge he).1 (hP.edge he).2) (by rw [← h4, if_neg (by omega)]; omega)
    exact plan_true hg f (t + 1) _ (backs_true hg hp k.1 _ (by omega) h5 hT2)
end Go.Proofs.YthefgdehfgkhhaaGreat
namespace Go.Proofs.YthefgdehfgkhhaaGreat
set_option linter.unusedVariables false
set_option linter.unusedSimpArgs false
/-! Edges in order are the edges. -/
theorem mem_insE {e x : Ed} : ∀ {l : List Ed}, x ∈ insE e l → x = e ∨ x ∈ l
 | [], h => by simp [insE] at h; exact .inl h
 | a :: l, h => by
  rw [insE_step] at h
  split at h
  ·rcases List.mem_cons.1 h with h | h
   ·exact .inr (by rw [h]; exact List.mem_cons_self ..)
   ·rcases mem_insE h with h | h
    ·exact .inl h
    ·exact .inr (List.mem_cons_of_mem _ h)
  ·rcases List.mem_cons.1 h with h | h
   ·exact .inl h
   ·exact .inr h
theorem mem_fold_ins {x : Ed} : ∀ (es r : List Ed), x ∈ es.foldl (fun r e => insE e r) r → x ∈ r ∨ x ∈ es
 | [], r, h => .inl h
 | e :: es, r, h => by
  rw [List.foldl_cons] at h
  rcases mem_fold_ins es _ h with h | h
  ·rcases mem_insE h with h | h
   ·exact .inr (by rw [h]; exact List.mem_cons_self ..)
   ·exact .inl h
  ·exact .inr (List.mem_cons_of_mem _ h)
theorem mem_ofG {es : List Ed} {x : Ed} (h : x ∈ ofG es) : x ∈ es ∧ edgeB x = true := by
 unfold ofG sortE at h
 rw [List.mem_reverse] at h
 rcases mem_fold_ins _ _ h with h | h
 ·simp at h
 ·rw [List.mem_filter] at h
  exact h
/-! The net. -/
structure NetG (x : NetS) (i : Nat) : Prop where
 edge : ∀ e ∈ x.es, EOn x.S e ∧ 0 ≤ e.c ∧ e.c < i
 ok : SOk x.S
 once : x.S.Pairwise fun a b => a.c ≠ b.c
 worth : ∀ q, q < 5 → worthF x.own x.S q = 1073741824
theorem sumW_put {S : List Cn} {s : Cn} (h : lookS S s.c = none) (i : Int) : sumW (putS S s) i = sumW S i + partW s i := by
 induction S with
 | nil => simp [putS, sumW]
 | cons x S ih =>
  unfold lookS at h
  split at h
  ·simp at h
  ·rename_i hne
   unfold putS
   rw [if_neg hne]
   have := ih h
   unfold sumW at this ⊢
   rw [List.map_cons, List.sum_cons, List.map_cons, List.sum_cons, this]
   omega
theorem EOn.put {S : List Cn} {e : Ed} (h : EOn S e) {s : Cn} (hne : s.c ≠ e.c) : EOn (putS S s) e := by
 obtain ⟨t, h1, h2⟩ := h
 exact ⟨t, by rw [lookS_put, if_neg (fun e' => hne e'.symm)]; exact h1, h2⟩
theorem NetG.step {x : NetS} {i : Nat} (hk : NetOk x i) (h : NetG x i) {l : Lk} (hl : l.ok) : NetG (netStep x l i) (i + 1) := by
 obtain ⟨_, ⟨l3, l4⟩, _⟩ := hl
 unfold netStep
 split
 ·exact ⟨fun e he => by obtain ⟨h1, h2, h3⟩ := h.edge e he; exact ⟨h1, h2, by omega⟩, h.ok, h.once, h.worth⟩
 ·rename_i hc
  have hno : lookS x.S (l.cn i).c = none := look_none_keys hk.keys
  have hcc : (l.cn i).c = (i : Int) := rfl
  have e1 : (l.cn i).h0 = (l.h0 : Int) := rfl
  have e2 : (l.cn i).h1 = (l.h1 : Int) := rfl
  have e3 : (l.cn i).p0 = ((l.a % 5 : Nat) : Int) := rfl
  have e4 : (l.cn i).p1 = ((l.b % 5 : Nat) : Int) := rfl
  refine ⟨fun e he => ?_, fun s hs => ?_, once_putS h.once _, fun q hq => ?_⟩
  ·have hl : lookS (putS x.S (l.cn i)) (i : Int) = some (l.cn i) := by rw [lookS_put, if_pos hcc.symm]
   rcases List.mem_append.1 he with he | he
   ·obtain ⟨h1, h2, h3⟩ := h.edge e he
    exact ⟨h1.put (by rw [hcc]; omega), h2, by omega⟩
   ·have : e = l.e0 i ∨ e = l.e1 i := by simpa using he
    rcases this with rfl | rfl
    ·exact ⟨⟨l.cn i, hl, .inl ⟨rfl, rfl⟩, by rw [e1, e2]; show (l.h0 : Int) + l.h1 = ((l.h0 + l.h1 : Nat) : Int); omega⟩, by show (0 : Int) ≤ (i : Int); omega, by show (i : Int) < ((i + 1 : Nat) : Int); omega⟩
    ·exact ⟨⟨l.cn i, hl, .inr ⟨rfl, rfl⟩, by rw [e1, e2]; show (l.h0 : Int) + l.h1 = ((l.h0 + l.h1 : Nat) : Int); omega⟩, by show (0 : Int) ≤ (i : Int); omega, by show (i : Int) < ((i + 1 : Nat) : Int); omega⟩
  ·rcases mem_putS hs with hs | rfl
   ·exact h.ok s hs
   ·rw [e1, e2]; omega
  ·have hlen := hk.len
   have hm1 : l.a % 5 < 5 := Nat.mod_lt _ (by decide)
   have hm2 : l.b % 5 < 5 := Nat.mod_lt _ (by decide)
   have hw := h.worth q hq
   have hne : l.a % 5 ≠ l.b % 5 := fun e => hc (.inl e)
   unfold worthF at hw ⊢
   show (openO _ _ _ _).getD q 0 + sumW (putS x.S (l.cn i)) q = _
   rw [openO_get hne (by omega) (by omega), sumW_put hno, e1, e2]
   unfold partW
   rw [e1, e2, e3, e4]
   by_cases q1 : q = l.b % 5
   ·rw [if_pos q1, if_neg (by omega), if_pos (by omega)]
    rw [q1] at hw ⊢
    omega
   ·by_cases q0 : q = l.a % 5
    ·rw [if_neg q1, if_pos q0, if_pos (by omega), if_neg (by omega)]
     rw [q0] at hw ⊢
     omega
    ·rw [if_neg q1, if_neg q0, if_neg (by omega), if_neg (by omega)]
     omega
theorem netT_g {ls : List Lk} (hl : ∀ l ∈ ls, l.ok) : ∀ i, i ≤ ls.length → NetG (netT ls i) i
 | 0, _ => ⟨fun e he => by simp [netT, netF] at he, fun s hs => by simp [netT, netF] at hs, List.Pairwise.nil, fun q hq => by
  have : q = 0 ∨ q = 1 ∨ q = 2 ∨ q = 3 ∨ q = 4 := by omega
  have e : (netT ls 0) = ⟨own5, [], []⟩ := rfl
  rw [e]
  rcases this with rfl | rfl | rfl | rfl | rfl <;> rfl⟩
 | i + 1, hi => by
  have hg := List.getElem?_eq_getElem (l := ls) (i := i) (by omega)
  rw [netT_succ hg]
  exact (netT_g hl i (by omega)).step (netT_ok hl i (by omega)) (hl _ (List.getElem_mem _))
theorem netO_at {ls : List Lk} : ∃ i, i ≤ ls.length ∧ i ≤ 8 ∧ netO ls = netT ls i := by
 rcases Nat.lt_or_ge ls.length 8 with h | h
 ·refine ⟨ls.length, Nat.le_refl _, by omega, ?_⟩
  show netF (ls.take 8) 0 _ = netF (ls.take ls.length) 0 _
  rw [List.take_of_length_le (by omega), List.take_of_length_le (Nat.le_refl _)]
 ·exact ⟨8, h, Nat.le_refl _, rfl⟩
theorem net_inv {ls : List Lk} (hl : ∀ l ∈ ls, l.ok) : GInv (netO ls).S (ofG (netO ls).es) := by
 obtain ⟨i, h1, h2, h3⟩ := netO_at (ls := ls)
 rw [h3]
 have hg := netT_g hl i h1
 exact ⟨fun e he => by obtain ⟨q1, q2, q3⟩ := hg.edge e (mem_ofG he).1; exact ⟨q1, by omega, by omega⟩, hg.ok, hg.once⟩
theorem net_worth {ls : List Lk} (hl : ∀ l ∈ ls, l.ok) {q : Nat} (hq : q < 5) : worthF (netO ls).own (netO ls).S q = 1073741824 := by
 obtain ⟨i, h1, h2, h3⟩ := netO_at (ls := ls)
 rw [h3]
 exact (netT_g hl i h1).worth q hq
theorem net_own {ls : List Lk} (hl : ∀ l ∈ ls, l.ok) {q : Nat} (hq : q < 5) : 0 ≤ (netO ls).own.getD q 0 ∧ (netO ls).own.getD q 0 ≤ 1073741824 := by
 obtain ⟨i, h1, h2, h3⟩ := netO_at (ls := ls)
 rw [h3]
 have := (netT_ok hl i h1).own q hq
 omega
theorem true_nil {S : List Cn} (h : SOk S) : TrueW S [] := by
 intro s hs
 have := h s hs
 unfold Tr cnt look
 simp
 omega
/-- Between what is noted of an edge lies what it has. -/
theorem true_edge {S : List Cn} {g : List Ed} {L : Notes} (hg : GInv S g) (hT : TrueW S L) {e : Ed} (he : e ∈ g) (hb : edgeB e = true) : TrueE S L e := by
 obtain ⟨s, hs⟩ := ginv_ch hg he hb
 have hok := edge_ok hb
 have ht := hT s (lookS_mem hs.look).1
 have hc : s.c = e.c := (lookS_mem hs.look).2
 unfold TrueE bnd
 rw [if_pos hok]
 have e1 : (e.e4.f, e.e4.c) = (e.f, e.c) := rfl
 have e2 : e.e4.r = e.r := rfl
 rw [e1, e2]
 unfold Tr at ht
 rw [hc, hs.room] at ht
 rcases hs.has with ⟨a, b, h1, _⟩ | ⟨a, b, h1, _⟩
 ·rw [a, b] at ht
  rw [h1]
  exact ht.1
 ·rw [a, b] at ht
  rw [h1]
  exact ht.2
end Go.Proofs.YthefgdehfgkhhaaGreat
