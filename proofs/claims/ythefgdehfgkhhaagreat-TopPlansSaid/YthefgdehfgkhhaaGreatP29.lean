/-
  TopPlans: what the planner allows is settled whole, and else nothing is changed.
-/
import Derived.Test.YthefgdehfgkhhaaGreatK01
import Derived.Test.YthefgdehfgkhhaaGreatP26
import Derived.Test.YthefgdehfgkhhaaGreatP27
import Derived.Test.YthefgdehfgkhhaaGreatP28
namespace Go.Proofs.YthefgdehfgkhhaaGreat
open Go.RowKit Go.Maps
set_option linter.unusedVariables false
set_option linter.unusedSimpArgs false
attribute [local go_sem] Oper.semAt_some
def frontI (l : List Int) (i : Nat) : List Int := l.take i ++ List.replicate (5 - i) 0
theorem frontI_len {l : List Int} (hl : l.length = 5) {i : Nat} (h : i ≤ 5) : (frontI l i).length = 5 := by simp [frontI, hl]; omega
theorem frontI_set {l : List Int} (hl : l.length = 5) {i : Nat} (h : i < 5) : (frontI l i).set i (l.getD i 0) = frontI l (i + 1) := by
 unfold frontI
 have e : 5 - i = (5 - (i + 1)) + 1 := by omega
 rw [List.set_append_right _ _ (by rw [List.length_take]; omega), List.length_take, hl, show i - min i 5 = 0 by omega, e, List.replicate_succ, List.set_cons_zero, List.take_add_one, List.append_assoc]
 rw [List.getElem?_eq_getElem (by omega), List.getD_eq_getElem?_getD, List.getElem?_eq_getElem (by omega)]
 rfl
theorem frontI_all {l : List Int} (hl : l.length = 5) : frontI l 5 = l := by
 unfold frontI
 rw [List.take_of_length_le (by omega)]
 simp
/-! What each party has of the parts so far. -/
def WantIn (parts : List Prt) (es : List Ed) (xs : List Int) (rest : List Prt) (wl : List Int) (B : Int) : Prop :=
 wl.length = 5 ∧ ∀ q : Nat, q < 5 → wl.getD q 0 + wantW (q : Int) es xs + wantF (q : Int) rest = wantF (q : Int) parts ∧ -B ≤ wl.getD q 0 ∧ wl.getD q 0 ≤ B
theorem WantIn.start (parts : List Prt) : WantIn parts [] [] (parts.drop 0) [0, 0, 0, 0, 0] 0 := by
 refine ⟨rfl, fun q hq => ?_⟩
 have h0 : [(0 : Int), 0, 0, 0, 0].getD q 0 = 0 := by
  have : q = 0 ∨ q = 1 ∨ q = 2 ∨ q = 3 ∨ q = 4 := by omega
  rcases this with rfl | rfl | rfl | rfl | rfl <;> rfl
 rw [h0, wantW_nil, List.drop_zero]
 omega
theorem WantIn.open {parts : List Prt} {wl : List Int} {B : Int} {i : Nat} {P : Prt} (h : WantIn parts [] [] (parts.drop i) wl B) (hx : parts[i]? = some P) : WantIn parts P.way P.s (parts.drop (i + 1)) wl B := by
 refine ⟨h.1, fun q hq => ?_⟩
 have h2 := h.2 q hq
 rw [wantW_nil, drop_at hx, wantF_cons] at h2
 omega
theorem WantIn.weak {parts rest : List Prt} {wl : List Int} {B B' : Int} {es : List Ed} {xs : List Int} (h : WantIn parts es xs rest wl B) (hB : B ≤ B') : WantIn parts es xs rest wl B' := by
 refine ⟨h.1, fun q hq => ?_⟩
 have h2 := h.2 q hq
 omega
theorem WantIn.close {parts rest : List Prt} {wl : List Int} {B B' : Int} {k : Nat} {es : List Ed} {xs : List Int} (h : WantIn parts (es.drop k) (xs.drop k) rest wl B) (hk : es.length ≤ k) (hB : B ≤ B') : WantIn parts [] [] rest wl B' := by
 refine ⟨h.1, fun q hq => ?_⟩
 have h2 := h.2 q hq
 rw [List.drop_of_length_le hk, wantW_nil] at h2
 rw [wantW_nil]
 omega
theorem getDI_set {wl : List Int} {f q : Nat} (hf : f < wl.length) (v : Int) : (wl.set f v).getD q 0 = if f = q then v else wl.getD q 0 := by
 rw [List.getD_eq_getElem?_getD, List.getElem?_set]
 split
 ·rename_i e
  subst e
  first | rfl | (rw [if_pos hf]; rfl)
 ·rw [List.getD_eq_getElem?_getD]
theorem WantIn.step {parts rest : List Prt} {wl : List Int} {B : Int} {k : Nat} {es : List Ed} {xs : List Int} {e : Ed} {x : Int} {f t : Nat} (h : WantIn parts (es.drop k) (xs.drop k) rest wl B) (he : es[k]? = some e) (hx : xs[k]? = some x) (hb : 0 ≤ x ∧ x ≤ 1125899906842624) (hf : e.f = (f : Int)) (ht : e.t = (t : Int)) (hf5 : f < 5) (ht5 : t < 5) :
 WantIn parts (es.drop (k + 1)) (xs.drop (k + 1)) rest ((wl.set f (wl.getD f 0 - x)).set t ((wl.set f (wl.getD f 0 - x)).getD t 0 + x)) (B + 2251799813685248) := by
 refine ⟨by rw [List.length_set, List.length_set]; exact h.1, fun q hq => ?_⟩
 have h2 := h.2 q hq
 rw [drop_at he, drop_at hx, wantW_cons, hf, ht] at h2
 rw [getDI_set (by rw [List.length_set, h.1]; exact ht5), getDI_set (by rw [h.1]; exact hf5), getDI_set (by rw [h.1]; exact hf5)]
 by_cases e1 : f = q
 ·subst e1
  by_cases e2 : t = f
  ·subst e2
   simp at h2 ⊢
   omega
  ·have e3 : ¬ (t : Int) = (f : Int) := by omega
   have e4 : ¬ f = t := fun e => e2 e.symm
   simp [e2, e3, e4] at h2 ⊢
   omega
 ·have e5 : ¬ (f : Int) = (q : Int) := by omega
  by_cases e2 : t = q
  ·subst e2
   simp [e1, e5] at h2 ⊢
   omega
  ·have e3 : ¬ (t : Int) = (q : Int) := by omega
   simp [e1, e5, e2, e3] at h2 ⊢
   omega
/-! What the others take. -/
def othF (a b : Int) (F : Int → Int) : Nat → Int
 | 0 => 0
 | i + 1 => othF a b F i + (if (i : Int) ≠ a ∧ (i : Int) ≠ b then F (i : Int) else 0)
theorem oth_bd {a b : Int} {F : Int → Int} : ∀ {i : Nat}, (∀ r : Nat, r < i → -6442450944 ≤ F (r : Int) ∧ F (r : Int) ≤ 6442450944) → -(6442450944 * (i : Int)) ≤ othF a b F i ∧ othF a b F i ≤ 6442450944 * (i : Int)
 | 0, _ => by simp [othF]
 | i + 1, h => by
  have h1 := oth_bd (a := a) (b := b) (F := F) (i := i) (fun r hr => h r (by omega))
  have h2 := h i (by omega)
  rw [othF]
  split <;> omega
theorem oth_sum {a b : Nat} {F : Int → Int} (ha : a < 5) (hb : b < 5) (hab : a ≠ b) : sum5 F = F (a : Int) + F (b : Int) + othF (a : Int) (b : Int) F 5 := by
 have h1 : a = 0 ∨ a = 1 ∨ a = 2 ∨ a = 3 ∨ a = 4 := by omega
 have h2 : b = 0 ∨ b = 1 ∨ b = 2 ∨ b = 3 ∨ b = 4 := by omega
 rcases h1 with rfl | rfl | rfl | rfl | rfl <;> rcases h2 with rfl | rfl | rfl | rfl | rfl <;> first | exact absurd rfl hab | (simp [othF, sum5]; omega)
theorem pok_head {g : List Ed} {P : Prt} (h : POk g P) : 0 ≤ P.s.headD 0 ∧ P.s.headD 0 ≤ 1125899906842624 := by
 cases hs : P.s with
 | nil => simp
 | cons x xs =>
  have := cost_bounds h.2 (i := 0) (z := x) (by rw [hs]; rfl)
  show 0 ≤ x ∧ x ≤ _
  omega
theorem take_sum {own : List Int} (hl : own.length = 5) {q : Nat} (hq : q < 5) : (own.take (q + 1)).sum = (own.take q).sum + own.getD q 0 := by
 rw [List.take_add_one, List.getElem?_eq_getElem (by omega), List.getD_eq_getElem?_getD, List.getElem?_eq_getElem (by omega), List.sum_append]
 simp
theorem take_bd {own : List Int} : ∀ {q : Nat}, (∀ r, r < q → 0 ≤ own.getD r 0 ∧ own.getD r 0 ≤ 1073741824) → own.length = 5 → q ≤ 5 → 0 ≤ (own.take q).sum ∧ (own.take q).sum ≤ 1073741824 * (q : Int)
 | 0, _, _, _ => by simp
 | q + 1, h, hl, hq => by
  have h1 := take_bd (q := q) (fun r hr => h r (by omega)) hl (by omega)
  have h2 := h q (by omega)
  rw [take_sum hl (by omega)]
  omega
theorem sum_five {own : List Int} (hl : own.length = 5) : (own.take 5).sum = own.getD 0 0 + own.getD 1 0 + own.getD 2 0 + own.getD 3 0 + own.getD 4 0 := by
 rw [take_sum hl (by decide), take_sum hl (by decide), take_sum hl (by decide), take_sum hl (by decide), take_sum hl (by decide), List.take_zero, List.sum_nil]
 omega
theorem allS_pos {S : List Cn} (h : SOk S) : 0 ≤ allS S := by
 induction S with
 | nil => exact Int.le_refl _
 | cons s S ih =>
  have h1 := ih (fun x hx => h x (List.mem_cons_of_mem _ hx))
  have h2 := h s (List.mem_cons_self ..)
  rw [allS_cons]
  omega
theorem seat_at {w : World} {A : Option Addr} {n c : Nat} {T : List Cn} (h : RS w A n c T) {i : Nat} (hi : i < n) :
 ∃ b off s, A = some ⟨b, off, none⟩ ∧ b < w.heap.size ∧ T[i]? = some s ∧ w.cell? ⟨b, off + i * 5 + 3, none⟩ = some (.int .i64 s.h0) ∧ w.cell? ⟨b, off + i * 5 + 4, none⟩ = some (.int .i64 s.h1) := by
 obtain ⟨b, off, a, e, hb, ha, hc⟩ := h.cells hi
 unfold scs at ha
 rw [List.getElem?_map, Option.map_eq_some_iff] at ha
 obtain ⟨s, hs, rfl⟩ := ha
 exact ⟨b, off, s, e, hb, hs, hc 3 _ rfl, hc 4 _ rfl⟩
theorem led_gr {w w' : World} {p go co bs bh ns : Nat} {own : List Int} {S : List Cn} {lost : Int} (h : LedAt w p go co bs bh ns own S lost) {g : Nat} (hg : Gr (· = g) w w') {T : TypeId} {cs : Array Value} (k : Blk w g T cs) (hT : T ≠ 103) (hI : T ≠ 3) : LedAt w' p go co bs bh ns own S lost := by
 refine ⟨h.box.gr hg (fun e => blk_ne k h.box hT.symm e), ?_, h.len, h.cap, ?_, ?_, h.ne⟩
 ·obtain ⟨cur, hh, _⟩ := h.row
  exact h.row.stay (hg.block _ h.row.lt (fun e => blk_ne k hh hI.symm e))
 ·obtain ⟨es', cl', hm'⟩ := h.map.isMap
  exact h.map.stay (hg.block _ h.map.lt (fun e => map_cells hm' k e.symm))
 ·obtain ⟨es', cl', hm', r⟩ := h.hold
  exact ⟨es', cl', (hg.block _ (blk_lt hm') (fun e => map_cells hm' k e.symm)).trans hm', r⟩
set_option maxRecDepth 100000 in
set_option maxHeartbeats 8000000 in
theorem tplans_any (w : World) (A : Option Addr) (n c : Nat) (ls : List Lk) (h : RK w A n ls) (hl : ∀ l ∈ ls, l.ok) (fr td am mo : Nat) (hfr : fr < 256) (htd : td < 256) (ham : am < 65536) (hmo : mo < 256) :
 Calls Tryz.prog 5 #[.slice A n c, .int .u8 (fr : Int), .int .u8 (td : Int), .int .u16 (am : Int), .int .u8 (mo : Int)] w fun e w' => e = .returned (.bool true) ∧ Below w.heap.size w w' := by
 have HR := Lib.hid h
 have HOK := Lib.hid hl
 obtain ⟨fr5, hf5⟩ : ∃ z : Nat, fr % 5 = z := ⟨_, rfl⟩
 obtain ⟨td5, ht5⟩ : ∃ z : Nat, td % 5 = z := ⟨_, rfl⟩
 obtain ⟨NM, hNM⟩ : ∃ z : Nat, 1 + mo % 3 = z := ⟨_, rfl⟩
 have hq1 : fr5 < 5 := by omega
 have hq2 : td5 < 5 := by omega
 have hq3 : 1 ≤ NM ∧ NM ≤ 3 := by omega
 have ef5 : (fr : Int) % 5 = (fr5 : Int) := by omega
 have et5 : (td : Int) % 5 = (td5 : Int) := by omega
 have em3 : (1 : Int) + (mo : Int) % 3 = (NM : Int) := by omega
 clear h hl hf5 ht5 hNM
 go_enter Tryz.func5, Tryz.ntmps5
 go_wp2_with fail
 refine (awake_any w).mono ?_
 rintro y W1 ⟨rfl, hb⟩
 have HB1 := Lib.hid hb
 clear hb
 go_wp2_with fail
 refine (net_any W1 A n c ls (HR.out.on HB1.out) HOK.out).mono ?_
 rintro y W2 ⟨p, go, co, bs, bh, ns, Ag, cg, rfl, hL, hns, hg, hlen, hb, hpn⟩
 have HL2 := Lib.hid hL
 have HG2 := Lib.hid hg
 have HNS := Lib.hid hns
 have HLE := Lib.hid hlen
 have HPW : Hid (w.heap.size ≤ p) := Lib.hid (Nat.le_trans HB1.out.size hpn)
 have HB2 := Lib.hid (bltB HB1.out HB1.out.size hb)
 clear hL hg hns hlen hb hpn HB1
 obtain ⟨NG, hNG⟩ : ∃ z, (ofG (netO ls).es).length = z := ⟨_, rfl⟩
 rw [hNG] at HG2 HLE ⊢
 clear hNG
 go_wp2_with fail
 refine (lnew_any W2).mono ?_
 rintro y W3 ⟨pm, bm, rfl, hM, hpm, hbm, hb⟩
 have HL3 := Lib.hid (HL2.out.on hb)
 have HG3 := Lib.hid (HG2.out.on hb)
 have HM3 := Lib.hid hM
 have HB3 := Lib.hid (bltB HB2.out HB2.out.size hb)
 have HFR : Hid (w.heap.size ≤ p ∧ w.heap.size ≤ bm) := Lib.hid (by have h1 := HB2.out.size; have h2 := HPW.out; omega)
 have HNE : Hid (bs ≠ bm ∧ bh ≠ bm) := Lib.hid (by
  have h1 := HL2.out.map.lt
  obtain ⟨es, cl, hm, _⟩ := HL2.out.hold
  have h2 := blk_lt hm
  omega)
 clear hM hb hpm hbm HL2 HG2 HB2 HPW
 go_upto_region 9 with (fail)
 rw [ef5, et5]
 clear ef5 et5
 go_upto_region 10 with (fail)
 obtain ⟨W4, hW4⟩ : ∃ W, W = W3.alloc (.cells #[.int .i64 0, .int .i64 0, .int .i64 0, .int .i64 0, .int .i64 0] 63) := ⟨_, rfl⟩
 have hb4 : Below W3.heap.size W3 W4 := by rw [hW4]; exact (Below.refl _ _).alloc (Nat.le_refl _) _
 have k18 : Blk W4 W3.heap.size 63 (icells (frontI (netO ls).own 0)) := by rw [hW4]; exact Blk.new W3 _ _
 rw [← hW4]
 obtain ⟨G18, hG18⟩ : ∃ z, W3.heap.size = z := ⟨_, rfl⟩
 rw [hG18] at k18 ⊢
 have HG18 : Hid (w.heap.size ≤ G18) := Lib.hid (by rw [← hG18]; exact HB3.out.size)
 have HK18 := Lib.hid k18
 have HL4 := Lib.hid (HL3.out.on hb4)
 have HG4 := Lib.hid (HG3.out.on hb4)
 have HM4 := Lib.hid (HM3.out.on hb4)
 have HB4 := Lib.hid (bltB HB3.out HB3.out.size hb4)
 have HW4 : Hid (Below G18 W3 W4) := Lib.hid (by rw [← hG18]; exact hb4)
 have HOL := Lib.hid HL3.out.len
 obtain ⟨own, hown⟩ : ∃ z, (netO ls).own = z := ⟨_, rfl⟩
 have HWN := Lib.hid (fun (q : Nat) (hq : q < 5) => net_own HOK.out hq)
 have HWO := Lib.hid (fun (q : Nat) (hq : q < 5) => net_worth HOK.out hq)
 rw [hown] at HL4 HK18 HOL HWN HWO
 clear hW4 hb4 hG18 k18 HL3 HG3 HM3 HB3 hown
 go_wp2_with fail
 go_loopw [19] (fun iv wr => ∃ i : Nat, i ≤ 5 ∧ iv = .int .i64 i ∧ Hid (Blk wr G18 63 (icells (frontI own i))) ∧ Hid (Gr (· = G18) W4 wr)) (fun iv _ => 5 - (intOf iv).toNat)
 case atStart => exact ⟨0, by omega, rfl, HK18, Lib.hid (Gr.refl _ _)⟩
 case round =>
  obtain ⟨i, hi, rfl, HK, HG⟩ := hrel
  have HLW : Hid (LedAt wr p go co bs bh ns own (netO ls).S 0) := Lib.hid (led_gr HL4.out HG.out HK18.out (by decide) (by decide))
  by_cases hlt : i < 5
  ·have hlt' : (i : Int) < 5 := by omega
   have f0 := HK.out.frozen i
   have c0 := (HK.out.cell i).trans (icells_at _ (by rw [frontI_len HOL.out hi]; exact hlt))
   have k2 := HK.out.set_ i (.int .i64 (own.getD i 0))
   rw [icells_set, frontI_set HOL.out hlt] at k2
   have g2 := HG.out.setCell (g := G18) (i := i) (fun _ => show G18 = G18 from rfl) (.int .i64 (own.getD i 0))
   have K2 := Lib.hid k2
   have B2 := Lib.hid g2
   obtain ⟨ov, hov⟩ : ∃ z, own.getD i 0 = z := ⟨_, rfl⟩
   have HOV := Lib.hid hov
   rw [hov] at K2 B2
   clear k2 g2
   go_wp2_with fail
   refine (own_any wr p go co bs bh ns own _ 0 HLW.out i hlt).mono ?_
   rintro y W5 ⟨rfl, rfl⟩
   rw [hov]
   clear hov
   go_wp2_with fail
   go_roundw
   case rel => exact ⟨i + 1, by omega, by go_num, K2, B2⟩
   case measure => simp [intOf]; omega
  ·have hin : i = 5 := by omega
   subst hin
   clear hi hlt
   have HM : Hid (MindAt wr pm bm 0 []) := Lib.hid (by
    obtain ⟨es, cl, hmap⟩ := HM4.out.isMap
    exact HM4.out.gr HG.out (fun e => blk_ne HK18.out HM4.out.box (by decide) e) (fun e => map_cells hmap HK18.out e.symm))
   have HRE : Hid (RE wr Ag NG cg (ofG (netO ls).es)) := Lib.hid (Rg.gr HG4.out HG.out (fun b cs fr hh e => blk_ne HK18.out hh (by decide) e))
   have HB5 : Hid (Below w.heap.size w wr) := Lib.hid (HB4.out.trans (HG.out.below (B := w.heap.size) HB4.out.size (fun k hk e => by have h1 := HG18.out; have e : k = G18 := e; omega)))
   have HK5 : Hid (Blk wr G18 63 (icells own)) := Lib.hid (by have h1 := HK.out; rwa [frontI_all HOL.out] at h1)
   have HP0 := Lib.hid (pay_start HLW.out HM.out HNE.out.1 HNE.out.2 HNS.out)
   clear HK HK18 HG HM4 HG4 HL4 HB4 HM HLW HNE HNS HW4
   go_upto_region 14 with (fail)
   go_wp2_with fail
   clear em3
   have HPP := planpay_any wr p go co bh own 0 pm bm (netO ls).S [] 8 HP0.out (by omega) Ag NG cg _ HRE.out (by have := HLE.out; omega) (net_inv HOK.out) (fr5 : Int) (td5 : Int) ((1 : Int) + (am : Int)) NM hq3.1 (by omega)
   have HPL := plan_law (own := own) (g := ofG (netO ls).es) (fr := (fr5 : Int)) (td := (td5 : Int)) (a := (1 : Int) + (am : Int)) (N := NM) (S := (netO ls).S) (f := 12) (t := 0) (L := []) Good.nil (net_inv HOK.out) (net_in ls) HWO.out
   obtain ⟨RR, hRR⟩ : ∃ z, (planF (ofG (netO ls).es) (fr5 : Int) (td5 : Int) ((1 : Int) + (am : Int)) (NM : Int) 12 0 (netO ls).S []) = z := ⟨_, rfl⟩
   rw [hRR] at HPP HPL
   have HTT := Lib.hid HPL.total
   have HBD := Lib.hid (HPL.bound (fun q hq => (HWN.out q hq).1))
   have HPL := Lib.hid HPL
   refine HPP.mono ?_
   rintro y W6 ⟨A4, c4, rfl, hrp, hpay⟩
   clear hRR HPP HRE HLE
   obtain ⟨paid, parts, tries, S4, L4⟩ := RR
   dsimp only at hrp hpay ⊢
   have HK6 := Lib.hid (HP0.out.blk hpay (by decide) HK5.out)
   have HB6 : Hid (Below w.heap.size w W6) := Lib.hid (HB5.out.trans (hpay.gr.below (B := w.heap.size) HB5.out.size (fun k hk e => by have h1 := HFR.out; omega)))
   obtain ⟨bs4, nss, hnss, hL4, hbm4⟩ := hpay.led
   have HL6 := Lib.hid hL4
   have HN6 := Lib.hid hnss
   obtain ⟨NP, hNP⟩ : ∃ z, parts.length = z := ⟨_, rfl⟩
   rw [hNP] at hrp ⊢
   have HR6 := Lib.hid hrp
   have HWT : Hid (∀ q : Nat, q < 5 → worthF own S4 q = 1073741824 + wantF (q : Int) parts) := Lib.hid HPL.out.worth
   have HOS : Hid (SOk S4) := Lib.hid HPL.out.ok
   have HPK : Hid ((∀ P ∈ parts, POk (ofG (netO ls).es) P) ∧ parts.length ≤ 8) := Lib.hid HPL.out.parts
   have HED : Hid (∀ P ∈ parts, ∀ e ∈ P.way, (0 ≤ e.f ∧ e.f < 5) ∧ (0 ≤ e.t ∧ e.t < 5)) := Lib.hid HPL.out.edges
   have HZR : Hid (paid = false → parts = []) := Lib.hid HPL.out.zero
   have HSM : Hid (sum5 (fun q => wantF q parts) = 0) := Lib.hid HPL.out.sum
   have HWS : Hid (paid = true → (fr5 : Int) ≠ (td5 : Int) ∧ (∀ q, q ≠ (fr5 : Int) → q ≠ (td5 : Int) → wantF q parts = feesF q parts) ∧ wantF (td5 : Int) parts = 1 + (am : Int) ∧ wantF (fr5 : Int) parts = - ptotF parts) := Lib.hid HPL.out.wants
   have HTT : Hid (totF own S4 5 = 5368709120 ∧ (own.getD 0 0 + own.getD 1 0 + own.getD 2 0 + own.getD 3 0 + own.getD 4 0) + allS S4 = 5368709120) := HTT
   have HBD : Hid (∀ q : Nat, q < 5 → 0 ≤ worthF own S4 q ∧ worthF own S4 q ≤ 5368709120) := HBD
   have HNP := Lib.hid hNP
   clear hpay hrp hNP hL4 hnss hbm4 HPL HP0 HK5 HB5
   go_upto_region 15 with (fail)
   obtain ⟨W7, hW7⟩ : ∃ W, W = W6.alloc (.cells #[.bool paid, .slice A4 NP c4, .int .i64 (tries : Int), .bool true] 45) := ⟨_, rfl⟩
   have hb7 : Below W6.heap.size W6 W7 := by rw [hW7]; exact (Below.refl _ _).alloc (Nat.le_refl _) _
   have k20 : Blk W7 W6.heap.size 45 #[.bool paid, .slice A4 NP c4, .int .i64 (tries : Int), .bool true] := by rw [hW7]; exact Blk.new W6 _ _
   rw [← hW7]
   obtain ⟨G20, hG20⟩ : ∃ z, W6.heap.size = z := ⟨_, rfl⟩
   rw [hG20] at k20 ⊢
   have HK20 := Lib.hid k20
   have HK7 := Lib.hid (HK6.out.below hb7 HK6.out.lt)
   have HL7 := Lib.hid (HL6.out.on hb7)
   have HR7 := Lib.hid (HR6.out.on hb7)
   have HB7 := Lib.hid (bltB HB6.out HB6.out.size hb7)
   have y0 := k20.cell 0
   have y3 := k20.cell 3
   simp at y0 y3
   clear hW7 hb7 hG20 k20 HK6 HL6 HR6 HB6
   have mk := make_int 5 5 rfl (by omega)
   go_upto_region 18 with (fail)
   obtain ⟨W8, hW8⟩ : ∃ W, W = W7.alloc (.cells (icells [0, 0, 0, 0, 0]) 3) := ⟨_, rfl⟩
   have hb8 : Below W7.heap.size W7 W8 := by rw [hW8]; exact (Below.refl _ _).alloc (Nat.le_refl _) _
   have k21 : Blk W8 W7.heap.size 3 (icells [0, 0, 0, 0, 0]) := by rw [hW8]; exact Blk.new W7 _ _
   rw [← hW8]
   obtain ⟨G21, hG21⟩ : ∃ z, W7.heap.size = z := ⟨_, rfl⟩
   rw [hG21] at k21 ⊢
   have HG21 : Hid (W7.heap.size ≤ G21) := Lib.hid (by omega)
   have HK21 := Lib.hid k21
   have HB8 := Lib.hid hb8
   have y0 := (hb8.cell (p := ⟨G20, _, none⟩) HK20.out.lt).trans y0
   have HW0 : Hid (WantIn parts [] [] (parts.drop 0) [0, 0, 0, 0, 0] 0) := Lib.hid (WantIn.start parts)
   clear hW8 hb8 hG21 k21 mk y3
   cases paid
   case' false =>
    have hpe := HZR.out rfl
    subst hpe
    go_upto_region 38 with (fail)
    have HWL : Hid ([(0 : Int), 0, 0, 0, 0].length = 5 ∧ ∀ q : Nat, q < 5 → [(0 : Int), 0, 0, 0, 0].getD q 0 = wantF (q : Int) []) := Lib.hid ⟨rfl, fun q hq => by
     have h1 := (HW0.out.2 q hq).1
     rw [wantW_nil, List.drop_nil] at h1
     have h2 : wantF (q : Int) [] = 0 := rfl
     omega⟩
    have HLT := Lib.hid (HL7.out.on HB8.out)
    have HKO := Lib.hid (HK7.out.below HB8.out HK7.out.lt)
    have HKW := HK21
    have HBT := Lib.hid (bltB HB7.out HB7.out.size HB8.out)
    clear HB8 HB7 HK7 HL7 HK21 HW0 HR7 y0 HZR HK20
    obtain ⟨wl, hwl⟩ : ∃ l, l = [(0 : Int), 0, 0, 0, 0] := ⟨_, rfl⟩
    rw [← hwl] at HWL HKW
    clear hwl
    obtain ⟨parts, hparts⟩ : ∃ l : List Prt, l = [] := ⟨_, rfl⟩
    rw [← hparts] at HWT HWL
    clear hparts
    obtain ⟨Wt, rfl⟩ : ∃ W, W = W8 := ⟨_, rfl⟩
   case' true =>
    clear HZR
    have hNP8 : NP ≤ 8 := by have h1 := HPK.out.2; have h2 := HNP.out; omega
    go_wp2_with fail
    clear y0
    go_loopw [22] (fun iv wr => ∃ (i : Nat) (wl : List Int), i ≤ NP ∧ iv = .int .i64 i ∧ Hid (WantIn parts [] [] (parts.drop i) wl (18014398509481984 * i)) ∧ Hid (Blk wr G21 3 (icells wl)) ∧ Hid (Below W7.heap.size W7 wr)) (fun iv _ => NP - (intOf iv).toNat)
    case atStart => exact ⟨0, [0, 0, 0, 0, 0], Nat.zero_le _, rfl, HW0, HK21, HB8⟩
    clear HK21 HB8 HW0
    obtain ⟨i, wl, hi, rfl, HWI, HK, HB⟩ := hrel
    have k20 := HK20.out.below HB.out HK20.out.lt
    have y1 := k20.cell 1
    simp at y1
    by_cases hlt : i < NP
    case pos =>
     as_aux_lemma =>
      have hlt' : (i : Int) < (NP : Int) := by omega
      obtain ⟨b2, o2, P, Aw, nw, cw, As, ns_, cs, At, nt, ct, hA, hb2, hx, hpv, q0, q1, q2, q3⟩ := HR7.out.at_ hlt
      subst hA
      have hmem := List.mem_of_getElem? hx
      have HWP := Lib.hid (HWI.out.open hx)
      have HPO := Lib.hid (HPK.out.1 P hmem)
      have HEP := Lib.hid (HED.out P hmem)
      have HPV := Lib.hid hpv
      obtain ⟨pa, hpa⟩ : ∃ z, P.a = z := ⟨_, rfl⟩
      rw [hpa] at q0 HPV
      have x0 := (HB.out.cell (p := ⟨b2, _, none⟩) hb2).trans q0
      have x1 := (HB.out.cell (p := ⟨b2, _, none⟩) hb2).trans q1
      have x2 := (HB.out.cell (p := ⟨b2, _, none⟩) hb2).trans q2
      have x3 := (HB.out.cell (p := ⟨b2, _, none⟩) hb2).trans q3
      clear hx hmem hpv hpa q0 q1 q2 q3 HWI hb2
      (try simp at x0 x1 x2 x3)
      go_upto_region 23 with (fail)
      obtain ⟨W9, hW9⟩ : ∃ W, W = wr.alloc (.cells #[.int .i64 pa, .slice Aw nw cw, .slice As ns_ cs, .slice At nt ct] 51) := ⟨_, rfl⟩
      have hb9 : Below wr.heap.size wr W9 := by rw [hW9]; exact (Below.refl _ _).alloc (Nat.le_refl _) _
      have k23 : Blk W9 wr.heap.size 51 #[.int .i64 pa, .slice Aw nw cw, .slice As ns_ cs, .slice At nt ct] := by rw [hW9]; exact Blk.new wr _ _
      rw [← hW9]
      have hne0 : G21 ≠ wr.heap.size := by have := HK.out.lt; omega
      obtain ⟨G23, hG23⟩ : ∃ z, wr.heap.size = z := ⟨_, rfl⟩
      rw [hG23] at k23 hne0 ⊢
      have HNE := Lib.hid hne0
      have HK23 := Lib.hid k23
      have HK9 := Lib.hid (HK.out.below hb9 HK.out.lt)
      have HB9 := Lib.hid (bltB HB.out HB.out.size hb9)
      clear hW9 hb9 hG23 k23 hne0 HK HB x0 x1 x2 x3 y1 k20
      obtain ⟨Aw2, nw2, cw2, As2, ns2, cs2, At2, nt2, ct2, ecs, rW, rS, rT, hn8, hnn⟩ := HPV.out
      simp at ecs
      obtain ⟨e0, ⟨rfl, rfl, rfl⟩, ⟨rfl, rfl, rfl⟩, rfl, rfl, rfl⟩ := ecs
      subst hnn
      have HRW := Lib.hid rW
      have HRS := Lib.hid rS
      clear rW rS rT e0 HPV
      go_wp2_with fail
      go_loopw [24] (fun kv wr => ∃ (k : Nat) (wl : List Int), k ≤ ns_ ∧ kv = .int .i64 k ∧ Hid (WantIn parts (P.way.drop k) (P.s.drop k) (parts.drop (i + 1)) wl (18014398509481984 * i + 2251799813685248 * k)) ∧ Hid (Blk wr G21 3 (icells wl)) ∧ Hid (Blk wr G23 51 #[.int .i64 pa, .slice Aw ns_ cw, .slice As ns_ cs, .slice At nt ct]) ∧ Hid (Below W7.heap.size W7 wr)) (fun kv _ => ns_ - (intOf kv).toNat)
      case atStart => exact ⟨0, wl, Nat.zero_le _, rfl, Lib.hid (by have h1 := HWP.out; simpa using h1), HK9, HK23, HB9⟩
      clear HK9 HK23 HB9 HWP
      obtain ⟨k, wl2, hk, rfl, HWI, HK, HK23, HB⟩ := hrel
      have k23 := HK23.out
      have y1 := k23.cell 1
      have y2 := k23.cell 2
      simp at y1 y2
      by_cases hlk : k < ns_
      case pos =>
       as_aux_lemma =>
        have hlk' : (k : Int) < (ns_ : Int) := by omega
        obtain ⟨ba, oa, e, hA, hba, hx, _, a0, a1, a2, a3, a4, a5, a6, a7, a8⟩ := HRW.out.edge hlk
        obtain ⟨bs9, os9, hAs, hbs9, hxs, s0⟩ := HRS.out.num hlk
        subst hA
        subst hAs
        obtain ⟨x, hxx⟩ : ∃ z, P.s.getD k 0 = z := ⟨_, rfl⟩
        rw [hxx] at s0 hxs
        have hem := HEP.out e (List.mem_of_getElem? hx)
        have hxb := cost_bounds HPO.out.2 hxs
        obtain ⟨f, t1, ch, r_, p0, p1, p2, p3, p4⟩ := e
        dsimp only at a0 a1 hem
        obtain ⟨fn, rfl⟩ : ∃ z : Nat, f = (z : Int) := ⟨f.toNat, by omega⟩
        obtain ⟨tn, rfl⟩ : ∃ z : Nat, t1 = (z : Int) := ⟨t1.toNat, by omega⟩
        have hfn : fn < 5 := by omega
        have hfn' : (fn : Int) < 5 := by omega
        have htn' : (tn : Int) < 5 := by omega
        have htn : tn < 5 := by omega
        have HST := Lib.hid (HWI.out.step hx hxs ⟨by omega, hxb.2⟩ rfl rfl hfn htn)
        have hl5 := HWI.out.1
        obtain ⟨wf, hwf⟩ : ∃ z, wl2.getD fn 0 = z := ⟨_, rfl⟩
        have c0 := (HK.out.cell fn).trans (icells_at _ (by omega))
        have f0 := HK.out.frozen fn
        have k2 := HK.out.set_ fn (.int .i64 (wf - x))
        rw [icells_set] at k2
        rw [hwf] at c0 HST
        have hbf := (HWI.out.2 fn hfn).2
        have hbt := (HWI.out.2 tn htn).2
        rw [hwf] at hbf
        have hw1 : IntKind.i64.wrap (wf - x) = wf - x := IntWalk.i64_in _ (by omega)
        have hwt := getDI_set (wl := wl2) (f := fn) (q := tn) (by omega) (wf - x)
        obtain ⟨wt, hwt0⟩ : ∃ z, (wl2.set fn (wf - x)).getD tn 0 = z := ⟨_, rfl⟩
        rw [hwt0] at hwt HST
        have HW2 : Hid (IntKind.i64.wrap (wt + x) = wt + x) := Lib.hid (by
         refine IntWalk.i64_in _ ?_
         split at hwt <;> omega)
        have HCT := Lib.hid hwt0
        have HHB := Lib.hid (And.intro hba hbs9)
        have HA := Lib.hid (And.intro a1 s0)
        have hG21l := HK.out.lt
        have a0 := (HB.out.cell (p := ⟨ba, _, none⟩) hba).trans a0
        have s0 := (HB.out.cell (p := ⟨bs9, _, none⟩) hbs9).trans s0
        have hba := Nat.lt_of_lt_of_le hba HB.out.size
        have hbs9 := Nat.lt_of_lt_of_le hbs9 HB.out.size
        have c0d : wr.drew.cell? ⟨G21, fn, none⟩ = some (.int .i64 wf) := c0
        have f0d : wr.drew.frozen? ⟨G21, fn, none⟩ = false := f0
        have K2 := Lib.hid k2
        clear hx hxs hxx hem hwf a1 a2 a3 a4 a5 a6 a7 a8 k2 hbf hbt hwt hwt0
        go_upto_region 26 with (fail)
        refine wp_region_noPanic ?_
        refine ord_begin 23 (fun wx => Below wr.heap.size wr wx) (by kernel_rfl) ?_
        have hx0 : Below wr.heap.size wr wr.drew := (Below.refl _ _).drew
        refine ord_take (i := 0) (v := ?_) (by kernel_rfl) rfl (by decide) (by kernel_rfl) (by kernel_rfl) (fun _ _ _ h => h) (Or.inl ⟨by rfl, ?_⟩) hx0 ?_
        rotate_left
        ·intro wz hz; go_simp; (try with_reducible rfl)
        try simp only [Act.put, pu]
        refine ord_take (i := 1) (v := ?_) (by kernel_rfl) rfl (by decide) (by kernel_rfl) (by kernel_rfl) (fun _ _ _ h => h) (Or.inl ⟨by rfl, ?_⟩) hx0 ?_
        rotate_left
        ·intro wz hz; go_simp; (try with_reducible rfl)
        try simp only [Act.put, pu]
        refine ord_take (i := 2) (v := ?_) (by kernel_rfl) rfl (by decide) (by kernel_rfl) (by kernel_rfl) (fun _ _ _ h => h) (Or.inl ⟨by rfl, ?_⟩) hx0 ?_
        rotate_left
        ·intro wz hz; have j3 := k23.below hz k23.lt; have z1 := j3.cell 1; simp at z1; go_simp; (try with_reducible rfl)
        try simp only [Act.put, pu]
        refine ord_take (i := 3) (v := ?_) (by kernel_rfl) rfl (by decide) (by kernel_rfl) (by kernel_rfl) (fun _ _ _ h => h) (Or.inl ⟨by rfl, ?_⟩) hx0 ?_
        rotate_left
        ·intro wz hz; go_simp; (try with_reducible rfl)
        try simp only [Act.put, pu]
        refine ord_take (i := 4) (v := ?_) (by kernel_rfl) rfl (by decide) (by kernel_rfl) (by kernel_rfl) (fun _ _ _ h => h) (Or.inl ⟨by rfl, ?_⟩) hx0 ?_
        rotate_left
        ·intro wz hz; go_simp; (try with_reducible rfl)
        try simp only [Act.put, pu]
        refine ord_take (i := 5) (v := ?_) (by kernel_rfl) rfl (by decide) (by kernel_rfl) (by kernel_rfl) (fun _ _ _ h => h) (Or.inl ⟨by rfl, ?_⟩) hx0 ?_
        rotate_left
        ·intro wz hz; go_simp; (try with_reducible rfl)
        try simp only [Act.put, pu]
        refine ord_take (i := 6) (v := ?_) (by kernel_rfl) rfl (by decide) (by kernel_rfl) (by kernel_rfl) (fun _ _ _ h => h) (Or.inl ⟨by rfl, ?_⟩) hx0 ?_
        rotate_left
        ·intro wz hz; have z3 := (hz.cell (p := ⟨ba, _, none⟩) hba).trans a0; go_simp; (try with_reducible rfl)
        try simp only [Act.put, pu]
        refine ord_take (i := 7) (v := ?_) (by kernel_rfl) rfl (by decide) (by kernel_rfl) (by kernel_rfl) (fun _ _ _ h => h) (Or.inl ⟨by rfl, ?_⟩) hx0 ?_
        rotate_left
        ·intro wz hz; go_simp; (try with_reducible rfl)
        try simp only [Act.put, pu]
        refine ord_take (i := 8) (v := ?_) (by kernel_rfl) rfl (by decide) (by kernel_rfl) (by kernel_rfl) (fun _ _ _ h => h) (Or.inl ⟨by rfl, ?_⟩) hx0 ?_
        rotate_left
        ·intro wz hz; go_simp; (try with_reducible rfl)
        try simp only [Act.put, pu]
        refine ord_take (i := 9) (v := ?_) (by kernel_rfl) rfl (by decide) (by kernel_rfl) (by kernel_rfl) (fun _ _ _ h => h) (Or.inl ⟨by rfl, ?_⟩) hx0 ?_
        rotate_left
        ·intro wz hz; have j3 := k23.below hz k23.lt; have z1 := j3.cell 1; simp at z1; go_simp; (try with_reducible rfl)
        try simp only [Act.put, pu]
        refine ord_take (i := 10) (v := ?_) (by kernel_rfl) rfl (by decide) (by kernel_rfl) (by kernel_rfl) (fun _ _ _ h => h) (Or.inl ⟨by rfl, ?_⟩) hx0 ?_
        rotate_left
        ·intro wz hz; go_simp; (try with_reducible rfl)
        try simp only [Act.put, pu]
        refine ord_take (i := 11) (v := ?_) (by kernel_rfl) rfl (by decide) (by kernel_rfl) (by kernel_rfl) (fun _ _ _ h => h) (Or.inl ⟨by rfl, ?_⟩) hx0 ?_
        rotate_left
        ·intro wz hz; go_simp; (try with_reducible rfl)
        try simp only [Act.put, pu]
        refine ord_take (i := 12) (v := ?_) (by kernel_rfl) rfl (by decide) (by kernel_rfl) (by kernel_rfl) (fun _ _ _ h => h) (Or.inl ⟨by rfl, ?_⟩) hx0 ?_
        rotate_left
        ·intro wz hz; go_simp; (try with_reducible rfl)
        try simp only [Act.put, pu]
        refine ord_take (i := 13) (v := ?_) (by kernel_rfl) rfl (by decide) (by kernel_rfl) (by kernel_rfl) (fun _ _ _ h => h) (Or.inl ⟨by rfl, ?_⟩) hx0 ?_
        rotate_left
        ·intro wz hz; have z3 := (hz.cell (p := ⟨ba, _, none⟩) hba).trans a0; go_simp; (try with_reducible rfl)
        try simp only [Act.put, pu]
        refine ord_take (i := 14) (v := ?_) (by kernel_rfl) rfl (by decide) (by kernel_rfl) (by kernel_rfl) (fun _ _ _ h => h) (Or.inl ⟨by rfl, ?_⟩) hx0 ?_
        rotate_left
        ·intro wz hz; go_simp; (try with_reducible rfl)
        try simp only [Act.put, pu]
        refine ord_take (i := 15) (v := ?_) (by kernel_rfl) rfl (by decide) (by kernel_rfl) (by kernel_rfl) (fun _ _ _ h => h) (Or.inl ⟨by rfl, ?_⟩) hx0 ?_
        rotate_left
        ·intro wz hz; have z5 := (hz.cell (p := ⟨G21, _, none⟩) hG21l).trans c0; go_simp; (try with_reducible rfl)
        try simp only [Act.put, pu]
        refine ord_take (i := 16) (v := ?_) (by kernel_rfl) rfl (by decide) (by kernel_rfl) (by kernel_rfl) (fun _ _ _ h => h) (Or.inl ⟨by rfl, ?_⟩) hx0 ?_
        rotate_left
        ·intro wz hz; go_simp; (try with_reducible rfl)
        try simp only [Act.put, pu]
        refine ord_take (i := 17) (v := ?_) (by kernel_rfl) rfl (by decide) (by kernel_rfl) (by kernel_rfl) (fun _ _ _ h => h) (Or.inl ⟨by rfl, ?_⟩) hx0 ?_
        rotate_left
        ·intro wz hz; have j3 := k23.below hz k23.lt; have z2 := j3.cell 2; simp at z2; go_simp; (try with_reducible rfl)
        try simp only [Act.put, pu]
        refine ord_take (i := 18) (v := ?_) (by kernel_rfl) rfl (by decide) (by kernel_rfl) (by kernel_rfl) (fun _ _ _ h => h) (Or.inl ⟨by rfl, ?_⟩) hx0 ?_
        rotate_left
        ·intro wz hz; go_simp; (try with_reducible rfl)
        try simp only [Act.put, pu]
        refine ord_take (i := 19) (v := ?_) (by kernel_rfl) rfl (by decide) (by kernel_rfl) (by kernel_rfl) (fun _ _ _ h => h) (Or.inl ⟨by rfl, ?_⟩) hx0 ?_
        rotate_left
        ·intro wz hz; go_simp; (try with_reducible rfl)
        try simp only [Act.put, pu]
        refine ord_take (i := 20) (v := ?_) (by kernel_rfl) rfl (by decide) (by kernel_rfl) (by kernel_rfl) (fun _ _ _ h => h) (Or.inl ⟨by rfl, ?_⟩) hx0 ?_
        rotate_left
        ·intro wz hz; have z6 := (hz.cell (p := ⟨bs9, _, none⟩) hbs9).trans s0; go_simp; (try with_reducible rfl)
        try simp only [Act.put, pu]
        refine ord_take (i := 21) (v := ?_) (by kernel_rfl) rfl (by decide) (by kernel_rfl) (by kernel_rfl) (fun _ _ _ h => h) (Or.inl ⟨by rfl, ?_⟩) hx0 ?_
        rotate_left
        ·intro wz hz; go_simp; (try with_reducible rfl)
        try simp only [Act.put, pu]
        refine ord_take (i := 22) (v := ?_) (by kernel_rfl) rfl (by decide) (by kernel_rfl) (by kernel_rfl) (fun _ _ _ h => h) (Or.inl ⟨by rfl, ?_⟩) hx0 ?_
        rotate_left
        ·intro wz hz; go_simp; (try with_reducible rfl)
        try simp only [Act.put, pu]
        refine ord_rest (by kernel_rfl) ?_
        refine any_step (i := 23) rfl (by kernel_rfl) (by rfl) (fun K hK => ?_)
        go_simp
        refine hK _ _ ?_
        clear hK K
        try simp only [Act.put, pu]
        refine wpAny_done (by kernel_rfl) ?_ _
        refine NoPanic.normal ?_
        obtain ⟨Y1, hY1⟩ : ∃ W, W = (wr.setCell ⟨G21, fn, none⟩ (.int .i64 (wf - x))).drew := ⟨_, rfl⟩
        have k3 : Blk Y1 G21 3 (icells (wl2.set fn (wf - x))) := by rw [hY1]; exact K2.out.drew
        have gY : Gr (· = G21) wr Y1 := by rw [hY1]; exact ((show Gr (· = G21) wr wr from Gr.refl _ _).setCell (g := G21) (i := fn) (fun _ => show G21 = G21 from rfl) _).drew
        rw [← hY1]
        have HBY : Hid (Below W7.heap.size W7 Y1) := Lib.hid (HB.out.trans (gY.below HB.out.size (fun k hk e => by have h1 := HG21.out; have e : k = G21 := e; omega)))
        replace k23 := k23.gr gY (fun e => HNE.out e.symm)
        clear hY1 gY K2 c0 f0 c0d f0d hw1 a0 s0 hx0 y1 y2 HK HK23 HB hG21l
        have a0 := (HBY.out.cell (p := ⟨ba, _, none⟩) HHB.out.1).trans HA.out.1
        have s0 := (HBY.out.cell (p := ⟨bs9, _, none⟩) HHB.out.2).trans HA.out.2
        have hba := Nat.lt_of_lt_of_le HHB.out.1 HBY.out.size
        have hbs9 := Nat.lt_of_lt_of_le HHB.out.2 HBY.out.size
        have hG21l := k3.lt
        have c0 := (k3.cell tn).trans (icells_at _ (by rw [List.length_set]; omega))
        rw [HCT.out] at c0
        have f0 := k3.frozen tn
        have k4 := k3.set_ tn (.int .i64 (wt + x))
        rw [icells_set] at k4
        have c0d : Y1.drew.cell? ⟨G21, tn, none⟩ = some (.int .i64 wt) := c0
        have f0d : Y1.drew.frozen? ⟨G21, tn, none⟩ = false := f0
        have K4 := Lib.hid k4
        have y1 := k23.cell 1
        have y2 := k23.cell 2
        simp at y1 y2
        have hw2 := HW2.out
        clear k3 k4
        go_upto_region 27 with (fail)
        refine wp_region_noPanic ?_
        refine ord_begin 23 (fun wx => Below Y1.heap.size Y1 wx) (by kernel_rfl) ?_
        have hx0 : Below Y1.heap.size Y1 Y1.drew := (Below.refl _ _).drew
        refine ord_take (i := 0) (v := ?_) (by kernel_rfl) rfl (by decide) (by kernel_rfl) (by kernel_rfl) (fun _ _ _ h => h) (Or.inl ⟨by rfl, ?_⟩) hx0 ?_
        rotate_left
        ·intro wz hz; go_simp; (try with_reducible rfl)
        try simp only [Act.put, pu]
        refine ord_take (i := 1) (v := ?_) (by kernel_rfl) rfl (by decide) (by kernel_rfl) (by kernel_rfl) (fun _ _ _ h => h) (Or.inl ⟨by rfl, ?_⟩) hx0 ?_
        rotate_left
        ·intro wz hz; go_simp; (try with_reducible rfl)
        try simp only [Act.put, pu]
        refine ord_take (i := 2) (v := ?_) (by kernel_rfl) rfl (by decide) (by kernel_rfl) (by kernel_rfl) (fun _ _ _ h => h) (Or.inl ⟨by rfl, ?_⟩) hx0 ?_
        rotate_left
        ·intro wz hz; have j3 := k23.below hz k23.lt; have z1 := j3.cell 1; simp at z1; go_simp; (try with_reducible rfl)
        try simp only [Act.put, pu]
        refine ord_take (i := 3) (v := ?_) (by kernel_rfl) rfl (by decide) (by kernel_rfl) (by kernel_rfl) (fun _ _ _ h => h) (Or.inl ⟨by rfl, ?_⟩) hx0 ?_
        rotate_left
        ·intro wz hz; go_simp; (try with_reducible rfl)
        try simp only [Act.put, pu]
        refine ord_take (i := 4) (v := ?_) (by kernel_rfl) rfl (by decide) (by kernel_rfl) (by kernel_rfl) (fun _ _ _ h => h) (Or.inl ⟨by rfl, ?_⟩) hx0 ?_
        rotate_left
        ·intro wz hz; go_simp; (try with_reducible rfl)
        try simp only [Act.put, pu]
        refine ord_take (i := 5) (v := ?_) (by kernel_rfl) rfl (by decide) (by kernel_rfl) (by kernel_rfl) (fun _ _ _ h => h) (Or.inl ⟨by rfl, ?_⟩) hx0 ?_
        rotate_left
        ·intro wz hz; go_simp; (try with_reducible rfl)
        try simp only [Act.put, pu]
        refine ord_take (i := 6) (v := ?_) (by kernel_rfl) rfl (by decide) (by kernel_rfl) (by kernel_rfl) (fun _ _ _ h => h) (Or.inl ⟨by rfl, ?_⟩) hx0 ?_
        rotate_left
        ·intro wz hz; have z3 := (hz.cell (p := ⟨ba, _, none⟩) hba).trans a0; go_simp; (try with_reducible rfl)
        try simp only [Act.put, pu]
        refine ord_take (i := 7) (v := ?_) (by kernel_rfl) rfl (by decide) (by kernel_rfl) (by kernel_rfl) (fun _ _ _ h => h) (Or.inl ⟨by rfl, ?_⟩) hx0 ?_
        rotate_left
        ·intro wz hz; go_simp; (try with_reducible rfl)
        try simp only [Act.put, pu]
        refine ord_take (i := 8) (v := ?_) (by kernel_rfl) rfl (by decide) (by kernel_rfl) (by kernel_rfl) (fun _ _ _ h => h) (Or.inl ⟨by rfl, ?_⟩) hx0 ?_
        rotate_left
        ·intro wz hz; go_simp; (try with_reducible rfl)
        try simp only [Act.put, pu]
        refine ord_take (i := 9) (v := ?_) (by kernel_rfl) rfl (by decide) (by kernel_rfl) (by kernel_rfl) (fun _ _ _ h => h) (Or.inl ⟨by rfl, ?_⟩) hx0 ?_
        rotate_left
        ·intro wz hz; have j3 := k23.below hz k23.lt; have z1 := j3.cell 1; simp at z1; go_simp; (try with_reducible rfl)
        try simp only [Act.put, pu]
        refine ord_take (i := 10) (v := ?_) (by kernel_rfl) rfl (by decide) (by kernel_rfl) (by kernel_rfl) (fun _ _ _ h => h) (Or.inl ⟨by rfl, ?_⟩) hx0 ?_
        rotate_left
        ·intro wz hz; go_simp; (try with_reducible rfl)
        try simp only [Act.put, pu]
        refine ord_take (i := 11) (v := ?_) (by kernel_rfl) rfl (by decide) (by kernel_rfl) (by kernel_rfl) (fun _ _ _ h => h) (Or.inl ⟨by rfl, ?_⟩) hx0 ?_
        rotate_left
        ·intro wz hz; go_simp; (try with_reducible rfl)
        try simp only [Act.put, pu]
        refine ord_take (i := 12) (v := ?_) (by kernel_rfl) rfl (by decide) (by kernel_rfl) (by kernel_rfl) (fun _ _ _ h => h) (Or.inl ⟨by rfl, ?_⟩) hx0 ?_
        rotate_left
        ·intro wz hz; go_simp; (try with_reducible rfl)
        try simp only [Act.put, pu]
        refine ord_take (i := 13) (v := ?_) (by kernel_rfl) rfl (by decide) (by kernel_rfl) (by kernel_rfl) (fun _ _ _ h => h) (Or.inl ⟨by rfl, ?_⟩) hx0 ?_
        rotate_left
        ·intro wz hz; have z3 := (hz.cell (p := ⟨ba, _, none⟩) hba).trans a0; go_simp; (try with_reducible rfl)
        try simp only [Act.put, pu]
        refine ord_take (i := 14) (v := ?_) (by kernel_rfl) rfl (by decide) (by kernel_rfl) (by kernel_rfl) (fun _ _ _ h => h) (Or.inl ⟨by rfl, ?_⟩) hx0 ?_
        rotate_left
        ·intro wz hz; go_simp; (try with_reducible rfl)
        try simp only [Act.put, pu]
        refine ord_take (i := 15) (v := ?_) (by kernel_rfl) rfl (by decide) (by kernel_rfl) (by kernel_rfl) (fun _ _ _ h => h) (Or.inl ⟨by rfl, ?_⟩) hx0 ?_
        rotate_left
        ·intro wz hz; have z5 := (hz.cell (p := ⟨G21, _, none⟩) hG21l).trans c0; go_simp; (try with_reducible rfl)
        try simp only [Act.put, pu]
        refine ord_take (i := 16) (v := ?_) (by kernel_rfl) rfl (by decide) (by kernel_rfl) (by kernel_rfl) (fun _ _ _ h => h) (Or.inl ⟨by rfl, ?_⟩) hx0 ?_
        rotate_left
        ·intro wz hz; go_simp; (try with_reducible rfl)
        try simp only [Act.put, pu]
        refine ord_take (i := 17) (v := ?_) (by kernel_rfl) rfl (by decide) (by kernel_rfl) (by kernel_rfl) (fun _ _ _ h => h) (Or.inl ⟨by rfl, ?_⟩) hx0 ?_
        rotate_left
        ·intro wz hz; have j3 := k23.below hz k23.lt; have z2 := j3.cell 2; simp at z2; go_simp; (try with_reducible rfl)
        try simp only [Act.put, pu]
        refine ord_take (i := 18) (v := ?_) (by kernel_rfl) rfl (by decide) (by kernel_rfl) (by kernel_rfl) (fun _ _ _ h => h) (Or.inl ⟨by rfl, ?_⟩) hx0 ?_
        rotate_left
        ·intro wz hz; go_simp; (try with_reducible rfl)
        try simp only [Act.put, pu]
        refine ord_take (i := 19) (v := ?_) (by kernel_rfl) rfl (by decide) (by kernel_rfl) (by kernel_rfl) (fun _ _ _ h => h) (Or.inl ⟨by rfl, ?_⟩) hx0 ?_
        rotate_left
        ·intro wz hz; go_simp; (try with_reducible rfl)
        try simp only [Act.put, pu]
        refine ord_take (i := 20) (v := ?_) (by kernel_rfl) rfl (by decide) (by kernel_rfl) (by kernel_rfl) (fun _ _ _ h => h) (Or.inl ⟨by rfl, ?_⟩) hx0 ?_
        rotate_left
        ·intro wz hz; have z6 := (hz.cell (p := ⟨bs9, _, none⟩) hbs9).trans s0; go_simp; (try with_reducible rfl)
        try simp only [Act.put, pu]
        refine ord_take (i := 21) (v := ?_) (by kernel_rfl) rfl (by decide) (by kernel_rfl) (by kernel_rfl) (fun _ _ _ h => h) (Or.inl ⟨by rfl, ?_⟩) hx0 ?_
        rotate_left
        ·intro wz hz; go_simp; (try with_reducible rfl)
        try simp only [Act.put, pu]
        refine ord_take (i := 22) (v := ?_) (by kernel_rfl) rfl (by decide) (by kernel_rfl) (by kernel_rfl) (fun _ _ _ h => h) (Or.inl ⟨by rfl, ?_⟩) hx0 ?_
        rotate_left
        ·intro wz hz; go_simp; (try with_reducible rfl)
        try simp only [Act.put, pu]
        refine ord_rest (by kernel_rfl) ?_
        refine any_step (i := 23) rfl (by kernel_rfl) (by rfl) (fun K hK => ?_)
        go_simp
        refine hK _ _ ?_
        clear hK K
        try simp only [Act.put, pu]
        refine wpAny_done (by kernel_rfl) ?_ _
        refine NoPanic.normal ?_
        obtain ⟨Y2, hY2⟩ : ∃ W, W = (Y1.setCell ⟨G21, tn, none⟩ (.int .i64 (wt + x))).drew := ⟨_, rfl⟩
        have K5 : Hid (Blk Y2 G21 3 (icells ((wl2.set fn (wf - x)).set tn (wt + x)))) := Lib.hid (by rw [hY2]; exact K4.out.drew)
        have gY : Gr (· = G21) Y1 Y2 := by rw [hY2]; exact ((show Gr (· = G21) Y1 Y1 from Gr.refl _ _).setCell (g := G21) (i := tn) (fun _ => show G21 = G21 from rfl) _).drew
        rw [← hY2]
        have HBZ : Hid (Below W7.heap.size W7 Y2) := Lib.hid (HBY.out.trans (gY.below HBY.out.size (fun k hk e => by have h1 := HG21.out; have e : k = G21 := e; omega)))
        have K23 := Lib.hid (k23.gr gY (fun e => HNE.out e.symm))
        have HST2 : Hid (WantIn parts (P.way.drop (k + 1)) (P.s.drop (k + 1)) (parts.drop (i + 1)) ((wl2.set fn (wf - x)).set tn (wt + x)) (18014398509481984 * i + 2251799813685248 * (k + 1 : Nat))) := Lib.hid (HST.out.weak (by omega))
        clear hY2 gY K4 hw2 c0 f0 c0d f0d a0 s0 hx0 y1 y2 k23 HBY hG21l HST HWI
        go_wp2_with fail
        go_roundw
        case rel => exact ⟨k + 1, _, by omega, by go_num, HST2, K5, K23, HBZ⟩
        case measure => simp [intOf]; omega
      have hkn : k = ns_ := by omega
      subst hkn
      have HWC : Hid (WantIn parts [] [] (parts.drop (i + 1)) wl2 (18014398509481984 * (i + 1 : Nat))) := Lib.hid (HWI.out.close (by rw [HRW.out.elen]; exact Nat.le_refl _) (by omega))
      clear k23 HWI HK23
      go_wp2_with fail
      go_roundw
      case rel => exact ⟨i + 1, _, by omega, by go_num, HWC, HK, HB⟩
      case measure => simp [intOf]; omega
    have hin : NP = i := by omega
    subst hin
    clear hi hlt
    have HWL : Hid (wl.length = 5 ∧ ∀ q : Nat, q < 5 → wl.getD q 0 = wantF (q : Int) parts) := Lib.hid ⟨HWI.out.1, fun q hq => by
     have h1 := (HWI.out.2 q hq).1
     rw [wantW_nil, List.drop_of_length_le (by rw [HNP.out]; omega)] at h1
     have h2 : wantF (q : Int) [] = 0 := rfl
     omega⟩
    clear HWI
    go_wp2_with fail
    clear y1 y0
    obtain ⟨W10, rfl⟩ : ∃ W, W = wr := ⟨_, rfl⟩
    have HL10 := Lib.hid (HL7.out.on HB.out)
    have HR10 := Lib.hid (HR7.out.on HB.out)
    have HK10 := Lib.hid (HK7.out.below HB.out HK7.out.lt)
    have HK20 := Lib.hid k20
    have HB10 := Lib.hid (bltB HB7.out HB7.out.size HB.out)
    have HBQ : Hid (∀ q : Nat, q < 5 → -6442450944 ≤ wantF (q : Int) parts ∧ wantF (q : Int) parts ≤ 6442450944) := Lib.hid (fun q hq => by
     have h1 := HWT.out q hq
     have h2 := HBD.out q hq
     omega)
    obtain ⟨hf1, hf2, hf3, hf4⟩ := HWS.out trivial
    have HF1 : Hid (fr5 ≠ td5) := Lib.hid (by omega)
    have HF2 := Lib.hid hf2
    have HF3 := Lib.hid hf3
    have HF4 := Lib.hid hf4
    clear hf1 hf2 hf3 hf4 k20 HB HL7 HR7 HK7 HB7 HWS
    go_loopw [25, 26] (fun fv pv wr => ∃ (i : Nat) (f0 : Int), i ≤ 5 ∧ pv = .int .i64 i ∧ fv = .int .i64 f0 ∧ Hid (f0 = othF (fr5 : Int) (td5 : Int) (fun q => wantF q parts) i) ∧ Hid (Below W10.heap.size W10 wr)) (fun _ pv _ => 5 - (intOf pv).toNat)
    case atStart => exact ⟨0, 0, by omega, rfl, rfl, Lib.hid rfl, Lib.hid (Below.refl _ _)⟩
    obtain ⟨q, f0, hi, rfl, rfl, HFO, HB⟩ := hrel
    have hG21l := Nat.lt_of_lt_of_le HK.out.lt HB.out.size
    have k20 := HK20.out.below HB.out HK20.out.lt
    have y1 := k20.cell 1
    simp at y1
    by_cases hlt : q < 5
    case pos =>
     as_aux_lemma =>
      have hlt' : (q : Int) < 5 := by omega
      have hwl := HWL.out.2 q hlt
      have hbq := HBQ.out q hlt
      have c0 := (HB.out.cell (p := ⟨G21, _, none⟩) HK.out.lt).trans ((HK.out.cell q).trans (icells_at _ (by rw [HWL.out.1]; exact hlt)))
      rw [hwl] at c0
      obtain ⟨vq, hvq⟩ : ∃ z, wantF (q : Int) parts = z := ⟨_, rfl⟩
      rw [hvq] at c0 hbq
      have HVQ := Lib.hid hvq
      clear hwl hvq
      have HOS1 : Hid (othF (fr5 : Int) (td5 : Int) (fun q => wantF q parts) (q + 1) = othF (fr5 : Int) (td5 : Int) (fun q => wantF q parts) q + (if (q : Int) ≠ (fr5 : Int) ∧ (q : Int) ≠ (td5 : Int) then wantF (q : Int) parts else 0)) := Lib.hid rfl
      have hbf : -(6442450944 * (q : Int)) ≤ f0 ∧ f0 ≤ 6442450944 * (q : Int) := by
       rw [HFO.out]
       exact oth_bd (fun r hr => HBQ.out r (by omega))
      by_cases hA : q = fr5
      case pos =>
       have HFN : Hid (f0 = othF (fr5 : Int) (td5 : Int) (fun q => wantF q parts) (q + 1)) := Lib.hid (by rw [HOS1.out, if_neg (fun h => h.1 (by rw [hA])), HFO.out]; omega)
       subst hA
       go_upto_region 32 with (fail)
       refine region_still (by kernel_rfl) (by kernel_rfl) ?_
       replace c0 := (show wr.drew.cell? _ = _ from c0)
       replace y1 := (show wr.drew.cell? _ = _ from y1)
       replace HB := Lib.hid HB.out.drew
       generalize wr.drew = wrd at c0 y1 HB ⊢
       with_reducible refine still_take ?_ ?_
       ·rfl
       intro K hK
       go_simp
       refine hK _ ?_
       clear hK K
       try simp only [Act.put, pu]
       with_reducible refine still_take ?_ ?_
       ·rfl
       intro K hK
       go_simp
       refine hK _ ?_
       clear hK K
       try simp only [Act.put, pu]
       with_reducible refine still_take ?_ ?_
       ·rfl
       intro K hK
       go_simp
       refine hK _ ?_
       clear hK K
       try simp only [Act.put, pu]
       with_reducible refine still_take ?_ ?_
       ·rfl
       intro K hK
       go_simp
       refine hK _ ?_
       clear hK K
       try simp only [Act.put, pu]
       with_reducible refine still_skip ?_ ?_
       ·rfl
       try simp only [Act.put, pu]
       with_reducible refine still_skip ?_ ?_
       ·rfl
       try simp only [Act.put, pu]
       with_reducible refine still_skip ?_ ?_
       ·rfl
       try simp only [Act.put, pu]
       with_reducible refine still_skip ?_ ?_
       ·rfl
       try simp only [Act.put, pu]
       with_reducible refine still_skip ?_ ?_
       ·rfl
       try simp only [Act.put, pu]
       with_reducible refine still_take ?_ ?_
       ·rfl
       intro K hK
       go_simp
       refine hK _ ?_
       clear hK K
       try simp only [Act.put, pu]
       with_reducible refine still_take ?_ ?_
       ·rfl
       intro K hK
       go_simp
       refine hK _ ?_
       clear hK K
       try simp only [Act.put, pu]
       with_reducible refine still_take ?_ ?_
       ·rfl
       intro K hK
       go_simp
       refine hK _ ?_
       clear hK K
       try simp only [Act.put, pu]
       with_reducible refine still_take ?_ ?_
       ·rfl
       intro K hK
       go_simp
       refine hK _ ?_
       clear hK K
       try simp only [Act.put, pu]
       with_reducible refine still_take ?_ ?_
       ·rfl
       intro K hK
       go_simp
       refine hK _ ?_
       clear hK K
       try simp only [Act.put, pu]
       with_reducible refine still_take ?_ ?_
       ·rfl
       intro K hK
       go_simp
       refine hK _ ?_
       clear hK K
       try simp only [Act.put, pu]
       with_reducible refine still_skip ?_ ?_
       ·rfl
       try simp only [Act.put, pu]
       with_reducible refine still_skip ?_ ?_
       ·rfl
       try simp only [Act.put, pu]
       with_reducible refine still_skip ?_ ?_
       ·rfl
       try simp only [Act.put, pu]
       with_reducible refine still_take ?_ ?_
       ·rfl
       intro K hK
       go_simp
       refine hK _ ?_
       clear hK K
       try simp only [Act.put, pu]
       with_reducible refine still_take ?_ ?_
       ·rfl
       intro K hK
       go_simp
       refine hK _ ?_
       clear hK K
       try simp only [Act.put, pu]
       with_reducible refine still_skip ?_ ?_
       ·rfl
       try simp only [Act.put, pu]
       with_reducible refine still_skip ?_ ?_
       ·rfl
       try simp only [Act.put, pu]
       with_reducible refine still_skip ?_ ?_
       ·rfl
       try simp only [Act.put, pu]
       with_reducible refine still_skip ?_ ?_
       ·rfl
       try simp only [Act.put, pu]
       with_reducible refine still_skip ?_ ?_
       ·rfl
       try simp only [Act.put, pu]
       with_reducible refine still_skip ?_ ?_
       ·rfl
       try simp only [Act.put, pu]
       with_reducible refine still_skip ?_ ?_
       ·rfl
       try simp only [Act.put, pu]
       with_reducible refine still_skip ?_ ?_
       ·rfl
       try simp only [Act.put, pu]
       with_reducible refine still_skip ?_ ?_
       ·rfl
       try simp only [Act.put, pu]
       with_reducible refine still_take ?_ ?_
       ·rfl
       intro K hK
       go_simp
       refine hK _ ?_
       clear hK K
       try simp only [Act.put, pu]
       with_reducible refine still_take ?_ ?_
       ·rfl
       intro K hK
       go_simp
       refine hK _ ?_
       clear hK K
       try simp only [Act.put, pu]
       with_reducible refine wpStill_nil ?_
       go_wp2_with fail
       go_roundw
       case rel => exact ⟨q + 1, f0, by omega, by go_num, rfl, HFN, HB⟩
       case measure => simp [intOf]; omega
      by_cases hB : q = td5
      case pos =>
       have HFN : Hid (f0 = othF (fr5 : Int) (td5 : Int) (fun q => wantF q parts) (q + 1)) := Lib.hid (by rw [HOS1.out, if_neg (fun h => h.2 (by rw [hB])), HFO.out]; omega)
       have hv0 : ¬ vq < 0 := by
        have h1 := HF3.out
        rw [← hB, HVQ.out] at h1
        omega
       subst hB
       have hA2 : ((q : Int) != (fr5 : Int)) = true := by simp; omega
       go_upto_region 32 with (fail)
       refine region_still (by kernel_rfl) (by kernel_rfl) ?_
       replace c0 := (show wr.drew.cell? _ = _ from c0)
       replace y1 := (show wr.drew.cell? _ = _ from y1)
       replace HB := Lib.hid HB.out.drew
       generalize wr.drew = wrd at c0 y1 HB ⊢
       with_reducible refine still_take ?_ ?_
       ·rfl
       intro K hK
       go_simp
       refine hK _ ?_
       clear hK K
       try simp only [Act.put, pu]
       with_reducible refine still_take ?_ ?_
       ·rfl
       intro K hK
       go_simp
       refine hK _ ?_
       clear hK K
       try simp only [Act.put, pu]
       with_reducible refine still_take ?_ ?_
       ·rfl
       intro K hK
       go_simp
       refine hK _ ?_
       clear hK K
       try simp only [Act.put, pu]
       with_reducible refine still_take ?_ ?_
       ·rfl
       intro K hK
       go_simp
       refine hK _ ?_
       clear hK K
       try simp only [Act.put, pu]
       with_reducible refine still_take ?_ ?_
       ·rfl
       intro K hK
       go_simp
       refine hK _ ?_
       clear hK K
       try simp only [Act.put, pu]
       with_reducible refine still_take ?_ ?_
       ·rfl
       intro K hK
       go_simp
       refine hK _ ?_
       clear hK K
       try simp only [Act.put, pu]
       with_reducible refine still_take ?_ ?_
       ·rfl
       intro K hK
       go_simp
       refine hK _ ?_
       clear hK K
       try simp only [Act.put, pu]
       with_reducible refine still_take ?_ ?_
       ·rfl
       intro K hK
       go_simp
       refine hK _ ?_
       clear hK K
       try simp only [Act.put, pu]
       with_reducible refine still_take ?_ ?_
       ·rfl
       intro K hK
       go_simp
       refine hK _ ?_
       clear hK K
       try simp only [Act.put, pu]
       with_reducible refine still_take ?_ ?_
       ·rfl
       intro K hK
       go_simp
       refine hK _ ?_
       clear hK K
       try simp only [Act.put, pu]
       with_reducible refine still_take ?_ ?_
       ·rfl
       intro K hK
       go_simp
       refine hK _ ?_
       clear hK K
       try simp only [Act.put, pu]
       with_reducible refine still_take ?_ ?_
       ·rfl
       intro K hK
       go_simp
       refine hK _ ?_
       clear hK K
       try simp only [Act.put, pu]
       with_reducible refine still_take ?_ ?_
       ·rfl
       intro K hK
       go_simp
       refine hK _ ?_
       clear hK K
       try simp only [Act.put, pu]
       with_reducible refine still_take ?_ ?_
       ·rfl
       intro K hK
       go_simp
       refine hK _ ?_
       clear hK K
       try simp only [Act.put, pu]
       with_reducible refine still_take ?_ ?_
       ·rfl
       intro K hK
       go_simp
       refine hK _ ?_
       clear hK K
       try simp only [Act.put, pu]
       with_reducible refine still_take ?_ ?_
       ·rfl
       intro K hK
       go_simp
       refine hK _ ?_
       clear hK K
       try simp only [Act.put, pu]
       with_reducible refine still_take ?_ ?_
       ·rfl
       intro K hK
       go_simp
       refine hK _ ?_
       clear hK K
       try simp only [Act.put, pu]
       with_reducible refine still_take ?_ ?_
       ·rfl
       intro K hK
       go_simp
       refine hK _ ?_
       clear hK K
       try simp only [Act.put, pu]
       with_reducible refine still_take ?_ ?_
       ·rfl
       intro K hK
       go_simp
       refine hK _ ?_
       clear hK K
       try simp only [Act.put, pu]
       with_reducible refine still_take ?_ ?_
       ·rfl
       intro K hK
       go_simp
       refine hK _ ?_
       clear hK K
       try simp only [Act.put, pu]
       with_reducible refine still_skip ?_ ?_
       ·rfl
       try simp only [Act.put, pu]
       with_reducible refine still_skip ?_ ?_
       ·rfl
       try simp only [Act.put, pu]
       with_reducible refine still_skip ?_ ?_
       ·rfl
       try simp only [Act.put, pu]
       with_reducible refine still_skip ?_ ?_
       ·rfl
       try simp only [Act.put, pu]
       with_reducible refine still_skip ?_ ?_
       ·rfl
       try simp only [Act.put, pu]
       with_reducible refine still_skip ?_ ?_
       ·rfl
       try simp only [Act.put, pu]
       with_reducible refine still_skip ?_ ?_
       ·rfl
       try simp only [Act.put, pu]
       with_reducible refine still_skip ?_ ?_
       ·rfl
       try simp only [Act.put, pu]
       with_reducible refine still_skip ?_ ?_
       ·rfl
       try simp only [Act.put, pu]
       with_reducible refine still_take ?_ ?_
       ·rfl
       intro K hK
       go_simp
       refine hK _ ?_
       clear hK K
       try simp only [Act.put, pu]
       with_reducible refine still_take ?_ ?_
       ·rfl
       intro K hK
       go_simp
       refine hK _ ?_
       clear hK K
       try simp only [Act.put, pu]
       with_reducible refine wpStill_nil ?_
       go_wp2_with fail
       go_roundw
       case rel => exact ⟨q + 1, f0, by omega, by go_num, rfl, HFN, HB⟩
       case measure => simp [intOf]; omega
      have HFN : Hid (f0 + vq = othF (fr5 : Int) (td5 : Int) (fun q => wantF q parts) (q + 1)) := Lib.hid (by rw [HOS1.out, if_pos ⟨by omega, by omega⟩, HFO.out, HVQ.out])
      have HFE : Hid (feesF (q : Int) parts = vq) := Lib.hid (by rw [← HF2.out _ (by omega) (by omega), HVQ.out])
      have HPW : Hid ((∀ P ∈ parts, ∀ e ∈ P.way, polB e = true) ∧ ∀ P ∈ parts, P.way.length ≤ 8) := Lib.hid ⟨fun P hP e he => (edge_spec ((HPK.out.1 P hP).edge he).2).2.2.2.2.2, fun P hP => (way_lens (HPK.out.1 P hP).way.1).2⟩
      have hv0 : ¬ vq < 0 := by
       have h1 := (feesF_bd (q : Int) HPW.out.2).1
       rw [HFE.out] at h1
       omega
      have hw1 : wrap64 (f0 + vq) = f0 + vq := wrap64_of_isI ⟨by omega, by omega⟩
      have hA2 : ((q : Int) != (fr5 : Int)) = true := by simp; omega
      have hB2 : ((q : Int) != (td5 : Int)) = true := by simp; omega
      go_upto_region 32 with (fail)
      refine wp_region_noPanic ?_
      refine ord_begin 30 (fun wx => Below wr.heap.size wr wx) (by kernel_rfl) ?_
      have hx0 : Below wr.heap.size wr wr.drew := (Below.refl _ _).drew
      refine ord_take (i := 0) (v := ?_) (by kernel_rfl) rfl (by decide) (by kernel_rfl) (by kernel_rfl) (fun _ _ _ h => h) (Or.inl ⟨by rfl, ?_⟩) hx0 ?_
      rotate_left
      ·intro wz hz; go_simp; (try with_reducible rfl)
      try simp only [Act.put, pu]
      refine ord_take (i := 1) (v := ?_) (by kernel_rfl) rfl (by decide) (by kernel_rfl) (by kernel_rfl) (fun _ _ _ h => h) (Or.inl ⟨by rfl, ?_⟩) hx0 ?_
      rotate_left
      ·intro wz hz; go_simp; (try with_reducible rfl)
      try simp only [Act.put, pu]
      refine ord_take (i := 2) (v := ?_) (by kernel_rfl) rfl (by decide) (by kernel_rfl) (by kernel_rfl) (fun _ _ _ h => h) (Or.inl ⟨by rfl, ?_⟩) hx0 ?_
      rotate_left
      ·intro wz hz; go_simp; (try with_reducible rfl)
      try simp only [Act.put, pu]
      refine ord_take (i := 3) (v := ?_) (by kernel_rfl) rfl (by decide) (by kernel_rfl) (by kernel_rfl) (fun _ _ _ h => h) (Or.inl ⟨by rfl, ?_⟩) hx0 ?_
      rotate_left
      ·intro wz hz; go_simp; (try with_reducible rfl)
      try simp only [Act.put, pu]
      refine ord_take (i := 4) (v := ?_) (by kernel_rfl) rfl (by decide) (by kernel_rfl) (by kernel_rfl) (fun _ _ _ h => h) (Or.inl ⟨by rfl, ?_⟩) hx0 ?_
      rotate_left
      ·intro wz hz; go_simp; (try with_reducible rfl)
      try simp only [Act.put, pu]
      refine ord_take (i := 5) (v := ?_) (by kernel_rfl) rfl (by decide) (by kernel_rfl) (by kernel_rfl) (fun _ _ _ h => h) (Or.inl ⟨by rfl, ?_⟩) hx0 ?_
      rotate_left
      ·intro wz hz; go_simp; (try with_reducible rfl)
      try simp only [Act.put, pu]
      refine ord_take (i := 6) (v := ?_) (by kernel_rfl) rfl (by decide) (by kernel_rfl) (by kernel_rfl) (fun _ _ _ h => h) (Or.inl ⟨by rfl, ?_⟩) hx0 ?_
      rotate_left
      ·intro wz hz; go_simp; (try with_reducible rfl)
      try simp only [Act.put, pu]
      refine ord_take (i := 7) (v := ?_) (by kernel_rfl) rfl (by decide) (by kernel_rfl) (by kernel_rfl) (fun _ _ _ h => h) (Or.inl ⟨by rfl, ?_⟩) hx0 ?_
      rotate_left
      ·intro wz hz; have z5 := (hz.cell (p := ⟨G21, _, none⟩) hG21l).trans c0; go_simp; (try with_reducible rfl)
      try simp only [Act.put, pu]
      refine ord_take (i := 8) (v := ?_) (by kernel_rfl) rfl (by decide) (by kernel_rfl) (by kernel_rfl) (fun _ _ _ h => h) (Or.inl ⟨by rfl, ?_⟩) hx0 ?_
      rotate_left
      ·intro wz hz; go_simp; (try with_reducible rfl)
      try simp only [Act.put, pu]
      refine ord_take (i := 9) (v := ?_) (by kernel_rfl) rfl (by decide) (by kernel_rfl) (by kernel_rfl) (fun _ _ _ h => h) (Or.inl ⟨by rfl, ?_⟩) hx0 ?_
      rotate_left
      ·intro wz hz; go_simp; (try with_reducible rfl)
      try simp only [Act.put, pu]
      refine ord_take (i := 10) (v := ?_) (by kernel_rfl) rfl (by decide) (by kernel_rfl) (by kernel_rfl) (fun _ _ _ h => h) (Or.inl ⟨by rfl, ?_⟩) hx0 ?_
      rotate_left
      ·intro wz hz; go_simp; (try with_reducible rfl)
      try simp only [Act.put, pu]
      refine ord_take (i := 11) (v := ?_) (by kernel_rfl) rfl (by decide) (by kernel_rfl) (by kernel_rfl) (fun _ _ _ h => h) (Or.inl ⟨by rfl, ?_⟩) hx0 ?_
      rotate_left
      ·intro wz hz; go_simp; (try with_reducible rfl)
      try simp only [Act.put, pu]
      refine ord_take (i := 12) (v := ?_) (by kernel_rfl) rfl (by decide) (by kernel_rfl) (by kernel_rfl) (fun _ _ _ h => h) (Or.inl ⟨by rfl, ?_⟩) hx0 ?_
      rotate_left
      ·intro wz hz; go_simp; (try with_reducible rfl)
      try simp only [Act.put, pu]
      refine ord_take (i := 13) (v := ?_) (by kernel_rfl) rfl (by decide) (by kernel_rfl) (by kernel_rfl) (fun _ _ _ h => h) (Or.inl ⟨by rfl, ?_⟩) hx0 ?_
      rotate_left
      ·intro wz hz; go_simp; (try with_reducible rfl)
      try simp only [Act.put, pu]
      refine ord_take (i := 14) (v := ?_) (by kernel_rfl) rfl (by decide) (by kernel_rfl) (by kernel_rfl) (fun _ _ _ h => h) (Or.inl ⟨by rfl, ?_⟩) hx0 ?_
      rotate_left
      ·intro wz hz; go_simp; (try with_reducible rfl)
      try simp only [Act.put, pu]
      refine ord_take (i := 15) (v := ?_) (by kernel_rfl) rfl (by decide) (by kernel_rfl) (by kernel_rfl) (fun _ _ _ h => h) (Or.inl ⟨by rfl, ?_⟩) hx0 ?_
      rotate_left
      ·intro wz hz; go_simp; (try with_reducible rfl)
      try simp only [Act.put, pu]
      refine ord_take (i := 16) (v := ?_) (by kernel_rfl) rfl (by decide) (by kernel_rfl) (by kernel_rfl) (fun _ _ _ h => h) (Or.inl ⟨by rfl, ?_⟩) hx0 ?_
      rotate_left
      ·intro wz hz; go_simp; (try with_reducible rfl)
      try simp only [Act.put, pu]
      refine ord_take (i := 17) (v := ?_) (by kernel_rfl) rfl (by decide) (by kernel_rfl) (by kernel_rfl) (fun _ _ _ h => h) (Or.inl ⟨by rfl, ?_⟩) hx0 ?_
      rotate_left
      ·intro wz hz; go_simp; (try with_reducible rfl)
      try simp only [Act.put, pu]
      refine ord_take (i := 18) (v := ?_) (by kernel_rfl) rfl (by decide) (by kernel_rfl) (by kernel_rfl) (fun _ _ _ h => h) (Or.inl ⟨by rfl, ?_⟩) hx0 ?_
      rotate_left
      ·intro wz hz; go_simp; (try with_reducible rfl)
      try simp only [Act.put, pu]
      refine ord_take (i := 19) (v := ?_) (by kernel_rfl) rfl (by decide) (by kernel_rfl) (by kernel_rfl) (fun _ _ _ h => h) (Or.inl ⟨by rfl, ?_⟩) hx0 ?_
      rotate_left
      ·intro wz hz; go_simp; (try with_reducible rfl)
      try simp only [Act.put, pu]
      refine ord_take (i := 20) (v := ?_) (by kernel_rfl) rfl (by decide) (by kernel_rfl) (by kernel_rfl) (fun _ _ _ h => h) (Or.inl ⟨by rfl, ?_⟩) hx0 ?_
      rotate_left
      ·intro wz hz; go_simp; (try with_reducible rfl)
      try simp only [Act.put, pu]
      refine ord_take (i := 21) (v := ?_) (by kernel_rfl) rfl (by decide) (by kernel_rfl) (by kernel_rfl) (fun _ _ _ h => h) (Or.inl ⟨by rfl, ?_⟩) hx0 ?_
      rotate_left
      ·intro wz hz; go_simp; (try with_reducible rfl)
      try simp only [Act.put, pu]
      refine ord_take (i := 22) (v := ?_) (by kernel_rfl) rfl (by decide) (by kernel_rfl) (by kernel_rfl) (fun _ _ _ h => h) (Or.inl ⟨by rfl, ?_⟩) hx0 ?_
      rotate_left
      ·intro wz hz; go_simp; (try with_reducible rfl)
      try simp only [Act.put, pu]
      refine ord_take (i := 23) (v := ?_) (by kernel_rfl) rfl (by decide) (by kernel_rfl) (by kernel_rfl) (fun _ _ _ h => h) (Or.inl ⟨by rfl, ?_⟩) hx0 ?_
      rotate_left
      ·intro wz hz; have z5 := (hz.cell (p := ⟨G21, _, none⟩) hG21l).trans c0; go_simp; (try with_reducible rfl)
      try simp only [Act.put, pu]
      refine ord_take (i := 24) (v := ?_) (by kernel_rfl) rfl (by decide) (by kernel_rfl) (by kernel_rfl) (fun _ _ _ h => h) (Or.inl ⟨by rfl, ?_⟩) hx0 ?_
      rotate_left
      ·intro wz hz; go_simp; (try with_reducible rfl)
      try simp only [Act.put, pu]
      refine ord_take (i := 25) (v := ?_) (by kernel_rfl) rfl (by decide) (by kernel_rfl) (by kernel_rfl) (fun _ _ _ h => h) (Or.inl ⟨by rfl, ?_⟩) hx0 ?_
      rotate_left
      ·intro wz hz; have j3 := k20.below hz k20.lt; have z1 := j3.cell 1; simp at z1; go_simp; (try with_reducible rfl)
      try simp only [Act.put, pu]
      refine ord_take (i := 26) (v := ?_) (by kernel_rfl) rfl (by decide) (by kernel_rfl) (by kernel_rfl) (fun _ _ _ h => h) (Or.inl ⟨by rfl, ?_⟩) hx0 ?_
      rotate_left
      ·intro wz hz; go_simp; (try with_reducible rfl)
      try simp only [Act.put, pu]
      refine ord_step (i := 27) rfl (by decide) (by kernel_rfl) (by rfl) (fun K hK => ?_)
      go_simp
      refine (pfees_any wr.drew A4 NP c4 parts (HR10.out.on (bltB HB.out HB.out.size hx0)) hNP8 HPW.out.1 HPW.out.2 (q : Int)).mono ?_
      rintro y X32_1 ⟨rfl, hb⟩
      rw [HFE.out]
      have hx1 := bltB hx0 hx0.size hb
      clear hb hx0
      refine hK _ _ hx1 ?_
      clear hK K
      try simp only [Act.put, pu]
      refine ord_take (i := 28) (v := ?_) (by kernel_rfl) rfl (by decide) (by kernel_rfl) (by kernel_rfl) (fun _ _ _ h => h) (Or.inl ⟨by rfl, ?_⟩) hx1 ?_
      rotate_left
      ·intro wz hz; go_simp; (try with_reducible rfl)
      try simp only [Act.put, pu]
      refine ord_take (i := 29) (v := ?_) (by kernel_rfl) rfl (by decide) (by kernel_rfl) (by kernel_rfl) (fun _ _ _ h => h) (Or.inl ⟨by rfl, ?_⟩) hx1 ?_
      rotate_left
      ·intro wz hz; go_simp; (try with_reducible rfl)
      try simp only [Act.put, pu]
      refine ord_rest (by kernel_rfl) ?_
      refine wpAny_take (i := 30) (v := ?_) rfl (by kernel_rfl) (by kernel_rfl) (by kernel_rfl) (fun _ _ _ h => h) (Or.inl ⟨by rfl, ?_⟩) ?_
      rotate_left
      ·intro wz; go_simp; (try with_reducible rfl)
      try simp only [Act.put, pu]
      refine wpAny_done (by kernel_rfl) ?_ _
      refine NoPanic.normal ?_
      have c1 := (hx1.cell (p := ⟨G21, _, none⟩) hG21l).trans c0
      have HB2 := Lib.hid (bltB HB.out HB.out.size hx1)
      clear c0 k20 y1 hx1 HB
      go_wp2_with fail
      go_roundw
      case rel => exact ⟨q + 1, f0 + vq, by omega, by go_num, rfl, HFN, HB2⟩
      case measure => simp [intOf]; omega
    have hq5 : q = 5 := by omega
    subst hq5
    have hbf : -(6442450944 * (5 : Int)) ≤ f0 ∧ f0 ≤ 6442450944 * (5 : Int) := by
     rw [HFO.out]
     exact oth_bd (i := 5) (fun r hr => HBQ.out r (by omega))
    obtain ⟨T0, hT0⟩ : ∃ z, ptotF parts = z := ⟨_, rfl⟩
    have HT0 := Lib.hid hT0
    have HS5 : Hid (1 + (am : Int) + f0 = T0) := Lib.hid (by
     have h1 := oth_sum (F := fun q => wantF q parts) hq1 hq2 HF1.out
     have h2 := HSM.out
     have h3 := HF3.out
     have h4 := HF4.out
     rw [h1] at h2
     rw [hT0] at h4
     have h5 := HFO.out
     rw [← h5] at h2
     omega)
    have hT1 : -6442450944 ≤ -T0 ∧ -T0 ≤ 6442450944 := by
     have h1 := HBQ.out fr5 hq1
     rw [HF4.out, hT0] at h1
     exact h1
    have c0 := (HB.out.cell (p := ⟨G21, _, none⟩) HK.out.lt).trans ((HK.out.cell td5).trans (icells_at _ (by rw [HWL.out.1]; exact hq2)))
    have d0 := (HB.out.cell (p := ⟨G21, _, none⟩) HK.out.lt).trans ((HK.out.cell fr5).trans (icells_at _ (by rw [HWL.out.1]; exact hq1)))
    rw [HWL.out.2 td5 hq2, HF3.out] at c0
    rw [HWL.out.2 fr5 hq1, HF4.out, hT0] at d0
    have hws : IntKind.i64.wrap (1 + (am : Int) + f0) = T0 := by rw [HS5.out]; exact IntWalk.i64_in _ (by omega)
    have hwn : IntKind.i64.wrap (-T0) = -T0 := IntWalk.i64_in _ (by omega)
    have hq1' : (fr5 : Int) < 5 := by omega
    have hq2' : (td5 : Int) < 5 := by omega
    have HPH : Hid (∀ P ∈ parts, 0 ≤ P.s.headD 0 ∧ P.s.headD 0 ≤ 1125899906842624) := Lib.hid (fun P hP => pok_head (HPK.out.1 P hP))
    clear hi hlt hT0 hbf
    go_upto_region 36 with (fail)
    refine wp_region_noPanic ?_
    refine ord_begin 25 (fun wx => Below wr.heap.size wr wx) (by kernel_rfl) ?_
    have hx0 : Below wr.heap.size wr wr.drew := (Below.refl _ _).drew
    refine ord_take (i := 0) (v := ?_) (by kernel_rfl) rfl (by decide) (by kernel_rfl) (by kernel_rfl) (fun _ _ _ h => h) (Or.inl ⟨by rfl, ?_⟩) hx0 ?_
    rotate_left
    ·intro wz hz; go_simp; (try with_reducible rfl)
    try simp only [Act.put, pu]
    refine ord_take (i := 1) (v := ?_) (by kernel_rfl) rfl (by decide) (by kernel_rfl) (by kernel_rfl) (fun _ _ _ h => h) (Or.inl ⟨by rfl, ?_⟩) hx0 ?_
    rotate_left
    ·intro wz hz; go_simp; (try with_reducible rfl)
    try simp only [Act.put, pu]
    refine ord_take (i := 2) (v := ?_) (by kernel_rfl) rfl (by decide) (by kernel_rfl) (by kernel_rfl) (fun _ _ _ h => h) (Or.inl ⟨by rfl, ?_⟩) hx0 ?_
    rotate_left
    ·intro wz hz; go_simp; (try with_reducible rfl)
    try simp only [Act.put, pu]
    refine ord_take (i := 3) (v := ?_) (by kernel_rfl) rfl (by decide) (by kernel_rfl) (by kernel_rfl) (fun _ _ _ h => h) (Or.inl ⟨by rfl, ?_⟩) hx0 ?_
    rotate_left
    ·intro wz hz; have z5 := (hz.cell (p := ⟨G21, _, none⟩) hG21l).trans c0; go_simp; (try with_reducible rfl)
    try simp only [Act.put, pu]
    refine ord_take (i := 4) (v := ?_) (by kernel_rfl) rfl (by decide) (by kernel_rfl) (by kernel_rfl) (fun _ _ _ h => h) (Or.inl ⟨by rfl, ?_⟩) hx0 ?_
    rotate_left
    ·intro wz hz; go_simp; (try with_reducible rfl)
    try simp only [Act.put, pu]
    refine ord_take (i := 5) (v := ?_) (by kernel_rfl) rfl (by decide) (by kernel_rfl) (by kernel_rfl) (fun _ _ _ h => h) (Or.inl ⟨by rfl, ?_⟩) hx0 ?_
    rotate_left
    ·intro wz hz; go_simp; (try with_reducible rfl)
    try simp only [Act.put, pu]
    refine ord_take (i := 6) (v := ?_) (by kernel_rfl) rfl (by decide) (by kernel_rfl) (by kernel_rfl) (fun _ _ _ h => h) (Or.inl ⟨by rfl, ?_⟩) hx0 ?_
    rotate_left
    ·intro wz hz; go_simp; (try with_reducible rfl)
    try simp only [Act.put, pu]
    refine ord_take (i := 7) (v := ?_) (by kernel_rfl) rfl (by decide) (by kernel_rfl) (by kernel_rfl) (fun _ _ _ h => h) (Or.inl ⟨by rfl, ?_⟩) hx0 ?_
    rotate_left
    ·intro wz hz; go_simp; (try with_reducible rfl)
    try simp only [Act.put, pu]
    refine ord_take (i := 8) (v := ?_) (by kernel_rfl) rfl (by decide) (by kernel_rfl) (by kernel_rfl) (fun _ _ _ h => h) (Or.inl ⟨by rfl, ?_⟩) hx0 ?_
    rotate_left
    ·intro wz hz; go_simp; (try with_reducible rfl)
    try simp only [Act.put, pu]
    refine ord_take (i := 9) (v := ?_) (by kernel_rfl) rfl (by decide) (by kernel_rfl) (by kernel_rfl) (fun _ _ _ h => h) (Or.inl ⟨by rfl, ?_⟩) hx0 ?_
    rotate_left
    ·intro wz hz; go_simp; (try with_reducible rfl)
    try simp only [Act.put, pu]
    refine ord_take (i := 10) (v := ?_) (by kernel_rfl) rfl (by decide) (by kernel_rfl) (by kernel_rfl) (fun _ _ _ h => h) (Or.inl ⟨by rfl, ?_⟩) hx0 ?_
    rotate_left
    ·intro wz hz; have z5 := (hz.cell (p := ⟨G21, _, none⟩) hG21l).trans d0; go_simp; (try with_reducible rfl)
    try simp only [Act.put, pu]
    refine ord_take (i := 11) (v := ?_) (by kernel_rfl) rfl (by decide) (by kernel_rfl) (by kernel_rfl) (fun _ _ _ h => h) (Or.inl ⟨by rfl, ?_⟩) hx0 ?_
    rotate_left
    ·intro wz hz; go_simp; (try with_reducible rfl)
    try simp only [Act.put, pu]
    refine ord_take (i := 12) (v := ?_) (by kernel_rfl) rfl (by decide) (by kernel_rfl) (by kernel_rfl) (fun _ _ _ h => h) (Or.inl ⟨by rfl, ?_⟩) hx0 ?_
    rotate_left
    ·intro wz hz; have j3 := k20.below hz k20.lt; have z1 := j3.cell 1; simp at z1; go_simp; (try with_reducible rfl)
    try simp only [Act.put, pu]
    refine ord_step (i := 13) rfl (by decide) (by kernel_rfl) (by rfl) (fun K hK => ?_)
    go_simp
    refine (ptotal_any wr.drew A4 NP c4 parts (HR10.out.on (bltB HB.out HB.out.size hx0)) hNP8 HPH.out).mono ?_
    rintro y X36_1 ⟨rfl, hb⟩
    rw [HT0.out]
    have hx1 := bltB hx0 hx0.size hb
    clear hb hx0
    refine hK _ _ hx1 ?_
    clear hK K
    try simp only [Act.put, pu]
    refine ord_take (i := 14) (v := ?_) (by kernel_rfl) rfl (by decide) (by kernel_rfl) (by kernel_rfl) (fun _ _ _ h => h) (Or.inl ⟨by rfl, ?_⟩) hx1 ?_
    rotate_left
    ·intro wz hz; go_simp; (try with_reducible rfl)
    try simp only [Act.put, pu]
    refine ord_take (i := 15) (v := ?_) (by kernel_rfl) rfl (by decide) (by kernel_rfl) (by kernel_rfl) (fun _ _ _ h => h) (Or.inl ⟨by rfl, ?_⟩) hx1 ?_
    rotate_left
    ·intro wz hz; go_simp; (try with_reducible rfl)
    try simp only [Act.put, pu]
    refine ord_take (i := 16) (v := ?_) (by kernel_rfl) rfl (by decide) (by kernel_rfl) (by kernel_rfl) (fun _ _ _ h => h) (Or.inl ⟨by rfl, ?_⟩) hx1 ?_
    rotate_left
    ·intro wz hz; go_simp; (try with_reducible rfl)
    try simp only [Act.put, pu]
    refine ord_take (i := 17) (v := ?_) (by kernel_rfl) rfl (by decide) (by kernel_rfl) (by kernel_rfl) (fun _ _ _ h => h) (Or.inl ⟨by rfl, ?_⟩) hx1 ?_
    rotate_left
    ·intro wz hz; go_simp; (try with_reducible rfl)
    try simp only [Act.put, pu]
    refine ord_take (i := 18) (v := ?_) (by kernel_rfl) rfl (by decide) (by kernel_rfl) (by kernel_rfl) (fun _ _ _ h => h) (Or.inl ⟨by rfl, ?_⟩) hx1 ?_
    rotate_left
    ·intro wz hz; go_simp; (try with_reducible rfl)
    try simp only [Act.put, pu]
    refine ord_take (i := 19) (v := ?_) (by kernel_rfl) rfl (by decide) (by kernel_rfl) (by kernel_rfl) (fun _ _ _ h => h) (Or.inl ⟨by rfl, ?_⟩) hx1 ?_
    rotate_left
    ·intro wz hz; have j3 := k20.below hz k20.lt; have z1 := j3.cell 1; simp at z1; go_simp; (try with_reducible rfl)
    try simp only [Act.put, pu]
    refine ord_take (i := 21) (v := ?_) (by kernel_rfl) rfl (by decide) (by kernel_rfl) (by kernel_rfl) (fun _ _ _ h => h) (Or.inl ⟨by rfl, ?_⟩) hx1 ?_
    rotate_left
    ·intro wz hz; go_simp; (try with_reducible rfl)
    try simp only [Act.put, pu]
    refine ord_take (i := 22) (v := ?_) (by kernel_rfl) rfl (by decide) (by kernel_rfl) (by kernel_rfl) (fun _ _ _ h => h) (Or.inl ⟨by rfl, ?_⟩) hx1 ?_
    rotate_left
    ·intro wz hz; go_simp; (try with_reducible rfl)
    try simp only [Act.put, pu]
    refine ord_take (i := 23) (v := ?_) (by kernel_rfl) rfl (by decide) (by kernel_rfl) (by kernel_rfl) (fun _ _ _ h => h) (Or.inl ⟨by rfl, ?_⟩) hx1 ?_
    rotate_left
    ·intro wz hz; go_simp; (try with_reducible rfl)
    try simp only [Act.put, pu]
    refine ord_step (i := 20) rfl (by decide) (by kernel_rfl) (by rfl) (fun K hK => ?_)
    go_simp
    refine (ptotal_any X36_1 A4 NP c4 parts (HR10.out.on (bltB HB.out HB.out.size hx1)) hNP8 HPH.out).mono ?_
    rintro y X36_2 ⟨rfl, hb⟩
    rw [HT0.out]
    have hx2 := bltB hx1 hx1.size hb
    clear hb hx1
    refine hK _ _ hx2 ?_
    clear hK K
    try simp only [Act.put, pu]
    refine ord_take (i := 24) (v := ?_) (by kernel_rfl) rfl (by decide) (by kernel_rfl) (by kernel_rfl) (fun _ _ _ h => h) (Or.inl ⟨by rfl, ?_⟩) hx2 ?_
    rotate_left
    ·intro wz hz; go_simp; (try with_reducible rfl)
    try simp only [Act.put, pu]
    refine ord_rest (by kernel_rfl) ?_
    refine wpAny_take (i := 25) (v := ?_) rfl (by kernel_rfl) (by kernel_rfl) (by kernel_rfl) (fun _ _ _ h => h) (Or.inl ⟨by rfl, ?_⟩) ?_
    rotate_left
    ·intro wz; go_simp; (try with_reducible rfl)
    try simp only [Act.put, pu]
    refine wpAny_done (by kernel_rfl) ?_ _
    refine NoPanic.normal ?_
    go_upto_region 38 with (fail)
    have HXH := Lib.hid hx2
    have HLT := Lib.hid (HL10.out.on (bltB HB.out HB.out.size HXH.out))
    have HKO := Lib.hid (HK10.out.below (bltB HB.out HB.out.size HXH.out) HK10.out.lt)
    have HKW := Lib.hid (HK.out.below (bltB HB.out HB.out.size HXH.out) HK.out.lt)
    have HBT := Lib.hid (bltB HB10.out HB10.out.size (bltB HB.out HB.out.size HXH.out))
    clear hx2 HXH HB HK HK10 HL10 HR10 HB10 HBQ HF1 HF2 HF3 HF4 HFO HS5 HT0 HPH HK20 k20 y1 c0 d0 hws hwn hT1 hG21l
    obtain ⟨Wt, rfl⟩ : ∃ W, W = X36_2 := ⟨_, rfl⟩
   all_goals (as_aux_lemma =>
    go_wp2_with fail
    go_loopw [27, 28] (fun sv pv wr => ∃ (i : Nat) (s0 : Int), i ≤ 5 ∧ pv = .int .i64 i ∧ sv = .int .i64 s0 ∧ Hid (s0 = (own.take i).sum) ∧ Hid (Below Wt.heap.size Wt wr)) (fun _ pv _ => 5 - (intOf pv).toNat)
    case atStart => exact ⟨0, 0, by omega, rfl, rfl, Lib.hid rfl, Lib.hid (Below.refl _ _)⟩
    obtain ⟨q, s0, hi, rfl, rfl, HS, HB⟩ := hrel
    by_cases hlt : q < 5
    case pos =>
     as_aux_lemma =>
      have hlt' : (q : Int) < 5 := by omega
      have HLW := Lib.hid (HLT.out.on HB.out)
      have hG21l := Nat.lt_of_lt_of_le HKW.out.lt HB.out.size
      have hG18l := Nat.lt_of_lt_of_le HKO.out.lt HB.out.size
      have c0 := (HB.out.cell (p := ⟨G21, _, none⟩) HKW.out.lt).trans ((HKW.out.cell q).trans (icells_at _ (by rw [HWL.out.1]; exact hlt)))
      have d0 := (HB.out.cell (p := ⟨G18, _, none⟩) HKO.out.lt).trans ((HKO.out.cell q).trans (icells_at _ (by rw [HOL.out]; exact hlt)))
      rw [HWL.out.2 q hlt] at c0
      have hw0 := HWT.out q hlt
      have hbd := HBD.out q hlt
      have hob := HWN.out q hlt
      obtain ⟨vq, hvq⟩ : ∃ z, wantF (q : Int) parts = z := ⟨_, rfl⟩
      obtain ⟨wv, hwv⟩ : ∃ z, worthF own S4 q = z := ⟨_, rfl⟩
      obtain ⟨ov, hov⟩ : ∃ z, own.getD q 0 = z := ⟨_, rfl⟩
      rw [hvq] at c0 hw0
      rw [hwv] at hw0 hbd
      rw [hov] at d0 hob
      have hsb : 0 ≤ s0 ∧ s0 ≤ 1073741824 * (q : Int) := by
       rw [HS.out]
       exact take_bd (fun r hr => HWN.out r (by omega)) HOL.out (by omega)
      have HSN : Hid (s0 + ov = (own.take (q + 1)).sum) := Lib.hid (by rw [take_sum HOL.out hlt, ← HS.out, hov])
      have HWV := Lib.hid hwv
      have HOV := Lib.hid hov
      have hwr : IntKind.i64.wrap (1073741824 + vq) = wv := by rw [← hw0]; exact IntWalk.i64_in _ (by omega)
      have hws : wrap64 (s0 + ov) = s0 + ov := wrap64_of_isI ⟨by omega, by omega⟩
      clear hvq hwv hov hw0
      go_upto_region 42 with (fail)
      refine wp_region_noPanic ?_
      refine ord_begin 17 (fun wx => Below wr.heap.size wr wx) (by kernel_rfl) ?_
      have hx0 : Below wr.heap.size wr wr.drew := (Below.refl _ _).drew
      refine ord_take (i := 0) (v := ?_) (by kernel_rfl) rfl (by decide) (by kernel_rfl) (by kernel_rfl) (fun _ _ _ h => h) (Or.inl ⟨by rfl, ?_⟩) hx0 ?_
      rotate_left
      ·intro wz hz; go_simp; (try with_reducible rfl)
      try simp only [Act.put, pu]
      refine ord_take (i := 1) (v := ?_) (by kernel_rfl) rfl (by decide) (by kernel_rfl) (by kernel_rfl) (fun _ _ _ h => h) (Or.inl ⟨by rfl, ?_⟩) hx0 ?_
      rotate_left
      ·intro wz hz; go_simp; (try with_reducible rfl)
      try simp only [Act.put, pu]
      refine ord_take (i := 3) (v := ?_) (by kernel_rfl) rfl (by decide) (by kernel_rfl) (by kernel_rfl) (fun _ _ _ h => h) (Or.inl ⟨by rfl, ?_⟩) hx0 ?_
      rotate_left
      ·intro wz hz; go_simp; (try with_reducible rfl)
      try simp only [Act.put, pu]
      refine ord_take (i := 4) (v := ?_) (by kernel_rfl) rfl (by decide) (by kernel_rfl) (by kernel_rfl) (fun _ _ _ h => h) (Or.inl ⟨by rfl, ?_⟩) hx0 ?_
      rotate_left
      ·intro wz hz; go_simp; (try with_reducible rfl)
      try simp only [Act.put, pu]
      refine ord_take (i := 5) (v := ?_) (by kernel_rfl) rfl (by decide) (by kernel_rfl) (by kernel_rfl) (fun _ _ _ h => h) (Or.inl ⟨by rfl, ?_⟩) hx0 ?_
      rotate_left
      ·intro wz hz; go_simp; (try with_reducible rfl)
      try simp only [Act.put, pu]
      refine ord_take (i := 6) (v := ?_) (by kernel_rfl) rfl (by decide) (by kernel_rfl) (by kernel_rfl) (fun _ _ _ h => h) (Or.inl ⟨by rfl, ?_⟩) hx0 ?_
      rotate_left
      ·intro wz hz; have z5 := (hz.cell (p := ⟨G21, _, none⟩) hG21l).trans c0; go_simp; (try with_reducible rfl)
      try simp only [Act.put, pu]
      refine ord_take (i := 7) (v := ?_) (by kernel_rfl) rfl (by decide) (by kernel_rfl) (by kernel_rfl) (fun _ _ _ h => h) (Or.inl ⟨by rfl, ?_⟩) hx0 ?_
      rotate_left
      ·intro wz hz; go_simp; (try with_reducible rfl)
      try simp only [Act.put, pu]
      refine ord_step (i := 2) rfl (by decide) (by kernel_rfl) (by rfl) (fun K hK => ?_)
      go_simp
      refine (worth_any wr.drew p go co bs4 bh nss own S4 0 (HLW.out.on hx0) q hlt (fun s hs => by have := HOS.out s hs; omega) (HWN.out q hlt).1 (by have := HBD.out q hlt; omega)).mono ?_
      rintro y X42_1 ⟨rfl, hb⟩
      rw [HWV.out]
      have hx1 := bltB hx0 hx0.size hb
      clear hb hx0
      refine hK _ _ hx1 ?_
      clear hK K
      try simp only [Act.put, pu]
      refine ord_take (i := 8) (v := ?_) (by kernel_rfl) rfl (by decide) (by kernel_rfl) (by kernel_rfl) (fun _ _ _ h => h) (Or.inl ⟨by rfl, ?_⟩) hx1 ?_
      rotate_left
      ·intro wz hz; go_simp; (try with_reducible rfl)
      try simp only [Act.put, pu]
      refine ord_take (i := 9) (v := ?_) (by kernel_rfl) rfl (by decide) (by kernel_rfl) (by kernel_rfl) (fun _ _ _ h => h) (Or.inl ⟨by rfl, ?_⟩) hx1 ?_
      rotate_left
      ·intro wz hz; go_simp; (try with_reducible rfl)
      try simp only [Act.put, pu]
      refine ord_take (i := 10) (v := ?_) (by kernel_rfl) rfl (by decide) (by kernel_rfl) (by kernel_rfl) (fun _ _ _ h => h) (Or.inl ⟨by rfl, ?_⟩) hx1 ?_
      rotate_left
      ·intro wz hz; go_simp; (try with_reducible rfl)
      try simp only [Act.put, pu]
      refine ord_take (i := 11) (v := ?_) (by kernel_rfl) rfl (by decide) (by kernel_rfl) (by kernel_rfl) (fun _ _ _ h => h) (Or.inl ⟨by rfl, ?_⟩) hx1 ?_
      rotate_left
      ·intro wz hz; go_simp; (try with_reducible rfl)
      try simp only [Act.put, pu]
      refine ord_take (i := 13) (v := ?_) (by kernel_rfl) rfl (by decide) (by kernel_rfl) (by kernel_rfl) (fun _ _ _ h => h) (Or.inl ⟨by rfl, ?_⟩) hx1 ?_
      rotate_left
      ·intro wz hz; go_simp; (try with_reducible rfl)
      try simp only [Act.put, pu]
      refine ord_take (i := 14) (v := ?_) (by kernel_rfl) rfl (by decide) (by kernel_rfl) (by kernel_rfl) (fun _ _ _ h => h) (Or.inl ⟨by rfl, ?_⟩) hx1 ?_
      rotate_left
      ·intro wz hz; go_simp; (try with_reducible rfl)
      try simp only [Act.put, pu]
      refine ord_take (i := 15) (v := ?_) (by kernel_rfl) rfl (by decide) (by kernel_rfl) (by kernel_rfl) (fun _ _ _ h => h) (Or.inl ⟨by rfl, ?_⟩) hx1 ?_
      rotate_left
      ·intro wz hz; have z5 := (hz.cell (p := ⟨G18, _, none⟩) hG18l).trans d0; go_simp; (try with_reducible rfl)
      try simp only [Act.put, pu]
      refine ord_step (i := 12) rfl (by decide) (by kernel_rfl) (by rfl) (fun K hK => ?_)
      go_simp
      refine (own_any X42_1 p go co bs4 bh nss own S4 0 (HLW.out.on hx1) q hlt).mono ?_
      rintro y Wo ⟨rfl, hwo⟩
      subst hwo
      rw [HOV.out]
      refine hK _ _ hx1 ?_
      clear hK K
      try simp only [Act.put, pu]
      refine ord_take (i := 16) (v := ?_) (by kernel_rfl) rfl (by decide) (by kernel_rfl) (by kernel_rfl) (fun _ _ _ h => h) (Or.inl ⟨by rfl, ?_⟩) hx1 ?_
      rotate_left
      ·intro wz hz; go_simp; (try with_reducible rfl)
      try simp only [Act.put, pu]
      refine ord_rest (by kernel_rfl) ?_
      refine wpAny_take (i := 17) (v := ?_) rfl (by kernel_rfl) (by kernel_rfl) (by kernel_rfl) (fun _ _ _ h => h) (Or.inl ⟨by rfl, ?_⟩) ?_
      rotate_left
      ·intro wz; go_simp; (try with_reducible rfl)
      try simp only [Act.put, pu]
      refine wpAny_done (by kernel_rfl) ?_ _
      refine NoPanic.normal ?_
      have HLX := Lib.hid (HLW.out.on hx1)
      have HB2 := Lib.hid (bltB HB.out HB.out.size hx1)
      clear c0 d0 hx1 HB HLW hwr
      go_wp2_with fail
      refine (own_any _ p go co bs4 bh nss own S4 0 HLX.out q hlt).mono ?_
      rintro y Wo ⟨rfl, hwo⟩
      subst hwo
      rw [HOV.out]
      go_wp2_with fail
      go_roundw
      case rel => exact ⟨q + 1, s0 + ov, by omega, by go_num, rfl, HSN, HB2⟩
      case measure => simp [intOf]; omega
    have hq5 : q = 5 := by omega
    subst hq5
    have HSO : Hid (s0 + allS S4 = 5368709120) := Lib.hid (by
     have h1 := HTT.out.2
     rw [← sum_five HOL.out, ← HS.out] at h1
     exact h1)
    have hs0 : 0 ≤ s0 := by
     rw [HS.out]
     exact (take_bd (fun r hr => HWN.out r hr) HOL.out (by decide)).1
    have HL8 := Lib.hid (HLT.out.on HB.out)
    have HB8 := Lib.hid (bltB HBT.out HBT.out.size HB.out)
    clear hi hlt HB HLT HBT HS
    go_wp2_with fail
    refine (seats_any wr p go co bs4 bh nss own S4 0 HL8.out (by have := HN6.out; omega)).mono ?_
    rintro y Ws ⟨As, cs_, T, rfl, hperm, hTn, hrs, hb⟩
    have HPM := Lib.hid hperm
    have HRS := Lib.hid hrs
    have HL9 := Lib.hid (HL8.out.on hb)
    have HB9 := Lib.hid (bltB HB8.out HB8.out.size hb)
    obtain ⟨NT, hNT⟩ : ∃ z, T.length = z := ⟨_, rfl⟩
    have HNT := Lib.hid hNT
    rw [hNT] at HRS hTn ⊢
    have hNTb : NT ≤ 7208 := by have := HN6.out; omega
    have HSA : Hid (s0 + allS (T.drop 0) = 5368709120) := Lib.hid (by rw [List.drop_zero, allS_perm HPM.out]; exact HSO.out)
    have HTO : Hid (SOk T) := Lib.hid (fun s hs => HOS.out s (HPM.out.mem_iff.1 hs))
    clear hperm hrs hb hNT hTn HL8 HB8
    go_wp2_with fail
    go_loopw [27, 30] (fun sv iv wr => ∃ (i : Nat) (s1 : Int), i ≤ NT ∧ iv = .int .i64 i ∧ sv = .int .i64 s1 ∧ Hid (0 ≤ s1 ∧ s1 + allS (T.drop i) = 5368709120) ∧ Hid (Below Ws.heap.size Ws wr)) (fun _ iv _ => NT - (intOf iv).toNat)
    case atStart => exact ⟨0, s0, Nat.zero_le _, rfl, rfl, Lib.hid ⟨hs0, HSA.out⟩, Lib.hid (Below.refl _ _)⟩
    obtain ⟨i, s1, hi, rfl, rfl, HS, HB⟩ := hrel
    by_cases hlt : i < NT
    case pos =>
     as_aux_lemma =>
      have hlt' : (i : Int) < (NT : Int) := by omega
      obtain ⟨bt, ot, s, hA, hbt, hx, t3, t4⟩ := seat_at HRS.out hlt
      subst hA
      have HDR : Hid (allS (T.drop i) = (s.h0 + s.h1) + allS (T.drop (i + 1))) := Lib.hid (by rw [drop_at hx]; rfl)
      have hso := HTO.out s (List.mem_of_getElem? hx)
      have hap := allS_pos (S := T.drop (i + 1)) (fun z hz => HTO.out z (List.mem_of_mem_drop hz))
      have t3 := (HB.out.cell (p := ⟨bt, _, none⟩) hbt).trans t3
      have t4 := (HB.out.cell (p := ⟨bt, _, none⟩) hbt).trans t4
      have hbt := Nat.lt_of_lt_of_le hbt HB.out.size
      obtain ⟨c0, q0, q1, h0, h1⟩ := s
      dsimp only at t3 t4 hso HDR
      have hs1 := HS.out
      rw [HDR.out] at hs1
      have HSN : Hid (0 ≤ s1 + h0 + h1 ∧ s1 + h0 + h1 + allS (T.drop (i + 1)) = 5368709120) := Lib.hid (by omega)
      have hw1 : IntKind.i64.wrap (s1 + h0) = s1 + h0 := IntWalk.i64_in _ (by omega)
      have hw2 : IntKind.i64.wrap (s1 + h0 + h1) = s1 + h0 + h1 := IntWalk.i64_in _ (by omega)
      have HB2 := Lib.hid HB.out.drew
      clear hx hs1 hap hso
      go_upto_region 49 with (fail)
      refine wp_region_noPanic ?_
      refine ord_begin 15 (fun wx => Below wr.heap.size wr wx) (by kernel_rfl) ?_
      have hx0 : Below wr.heap.size wr wr.drew := (Below.refl _ _).drew
      refine ord_take (i := 0) (v := ?_) (by kernel_rfl) rfl (by decide) (by kernel_rfl) (by kernel_rfl) (fun _ _ _ h => h) (Or.inl ⟨by rfl, ?_⟩) hx0 ?_
      rotate_left
      ·intro wz hz; go_simp; (try with_reducible rfl)
      try simp only [Act.put, pu]
      refine ord_take (i := 1) (v := ?_) (by kernel_rfl) rfl (by decide) (by kernel_rfl) (by kernel_rfl) (fun _ _ _ h => h) (Or.inl ⟨by rfl, ?_⟩) hx0 ?_
      rotate_left
      ·intro wz hz; go_simp; (try with_reducible rfl)
      try simp only [Act.put, pu]
      refine ord_take (i := 2) (v := ?_) (by kernel_rfl) rfl (by decide) (by kernel_rfl) (by kernel_rfl) (fun _ _ _ h => h) (Or.inl ⟨by rfl, ?_⟩) hx0 ?_
      rotate_left
      ·intro wz hz; go_simp; (try with_reducible rfl)
      try simp only [Act.put, pu]
      refine ord_take (i := 3) (v := ?_) (by kernel_rfl) rfl (by decide) (by kernel_rfl) (by kernel_rfl) (fun _ _ _ h => h) (Or.inl ⟨by rfl, ?_⟩) hx0 ?_
      rotate_left
      ·intro wz hz; go_simp; (try with_reducible rfl)
      try simp only [Act.put, pu]
      refine ord_take (i := 4) (v := ?_) (by kernel_rfl) rfl (by decide) (by kernel_rfl) (by kernel_rfl) (fun _ _ _ h => h) (Or.inl ⟨by rfl, ?_⟩) hx0 ?_
      rotate_left
      ·intro wz hz; go_simp; (try with_reducible rfl)
      try simp only [Act.put, pu]
      refine ord_take (i := 5) (v := ?_) (by kernel_rfl) rfl (by decide) (by kernel_rfl) (by kernel_rfl) (fun _ _ _ h => h) (Or.inl ⟨by rfl, ?_⟩) hx0 ?_
      rotate_left
      ·intro wz hz; go_simp; (try with_reducible rfl)
      try simp only [Act.put, pu]
      refine ord_take (i := 6) (v := ?_) (by kernel_rfl) rfl (by decide) (by kernel_rfl) (by kernel_rfl) (fun _ _ _ h => h) (Or.inl ⟨by rfl, ?_⟩) hx0 ?_
      rotate_left
      ·intro wz hz; have z5 := (hz.cell (p := ⟨bt, _, none⟩) hbt).trans t3; go_simp; (try with_reducible rfl)
      try simp only [Act.put, pu]
      refine ord_take (i := 7) (v := ?_) (by kernel_rfl) rfl (by decide) (by kernel_rfl) (by kernel_rfl) (fun _ _ _ h => h) (Or.inl ⟨by rfl, ?_⟩) hx0 ?_
      rotate_left
      ·intro wz hz; go_simp; (try with_reducible rfl)
      try simp only [Act.put, pu]
      refine ord_take (i := 8) (v := ?_) (by kernel_rfl) rfl (by decide) (by kernel_rfl) (by kernel_rfl) (fun _ _ _ h => h) (Or.inl ⟨by rfl, ?_⟩) hx0 ?_
      rotate_left
      ·intro wz hz; go_simp; (try with_reducible rfl)
      try simp only [Act.put, pu]
      refine ord_take (i := 9) (v := ?_) (by kernel_rfl) rfl (by decide) (by kernel_rfl) (by kernel_rfl) (fun _ _ _ h => h) (Or.inl ⟨by rfl, ?_⟩) hx0 ?_
      rotate_left
      ·intro wz hz; go_simp; (try with_reducible rfl)
      try simp only [Act.put, pu]
      refine ord_take (i := 10) (v := ?_) (by kernel_rfl) rfl (by decide) (by kernel_rfl) (by kernel_rfl) (fun _ _ _ h => h) (Or.inl ⟨by rfl, ?_⟩) hx0 ?_
      rotate_left
      ·intro wz hz; go_simp; (try with_reducible rfl)
      try simp only [Act.put, pu]
      refine ord_take (i := 11) (v := ?_) (by kernel_rfl) rfl (by decide) (by kernel_rfl) (by kernel_rfl) (fun _ _ _ h => h) (Or.inl ⟨by rfl, ?_⟩) hx0 ?_
      rotate_left
      ·intro wz hz; go_simp; (try with_reducible rfl)
      try simp only [Act.put, pu]
      refine ord_take (i := 12) (v := ?_) (by kernel_rfl) rfl (by decide) (by kernel_rfl) (by kernel_rfl) (fun _ _ _ h => h) (Or.inl ⟨by rfl, ?_⟩) hx0 ?_
      rotate_left
      ·intro wz hz; go_simp; (try with_reducible rfl)
      try simp only [Act.put, pu]
      refine ord_take (i := 13) (v := ?_) (by kernel_rfl) rfl (by decide) (by kernel_rfl) (by kernel_rfl) (fun _ _ _ h => h) (Or.inl ⟨by rfl, ?_⟩) hx0 ?_
      rotate_left
      ·intro wz hz; have z5 := (hz.cell (p := ⟨bt, _, none⟩) hbt).trans t4; go_simp; (try with_reducible rfl)
      try simp only [Act.put, pu]
      refine ord_take (i := 14) (v := ?_) (by kernel_rfl) rfl (by decide) (by kernel_rfl) (by kernel_rfl) (fun _ _ _ h => h) (Or.inl ⟨by rfl, ?_⟩) hx0 ?_
      rotate_left
      ·intro wz hz; go_simp; (try with_reducible rfl)
      try simp only [Act.put, pu]
      refine ord_rest (by kernel_rfl) ?_
      refine any_step (i := 15) rfl (by kernel_rfl) (by rfl) (fun K hK => ?_)
      go_simp
      refine hK _ _ ?_
      clear hK K
      try simp only [Act.put, pu]
      refine wpAny_done (by kernel_rfl) ?_ _
      refine NoPanic.normal ?_
      clear t3 t4 hw1 hw2 HB hx0
      go_wp2_with fail
      go_roundw
      case rel => exact ⟨i + 1, s1 + h0 + h1, by omega, by go_num, rfl, HSN, HB2⟩
      case measure => simp [intOf]; omega
    have hin : NT = i := by omega
    subst hin
    have hs5 : s1 = 5368709120 := by
     have h1 := HS.out.2
     rw [List.drop_of_length_le (by rw [HNT.out]; exact Nat.le_refl _)] at h1
     have h2 : allS [] = 0 := rfl
     omega
    subst hs5
    have HLF := Lib.hid (HL9.out.on HB.out)
    have HBF := Lib.hid (bltB HB9.out HB9.out.size HB.out)
    clear hi hlt HB HL9 HB9 HS
    go_wp2_with fail
    refine (lost_any wr p go co bs4 bh nss own S4 0 HLF.out).mono ?_
    rintro y Wl ⟨rfl, hwl⟩
    subst hwl
    go_wp2_with fail
    refine (total_any wr p go co bs4 bh nss own S4 0 HLF.out (fun s hs => by have := HOS.out s hs; omega) (fun q hq => (HWN.out q hq).1) (fun q hq => by have := HBD.out q hq; omega)).mono ?_
    rintro y Wz ⟨rfl, hb⟩
    rw [HTT.out.1]
    have HBZ := Lib.hid (bltB HBF.out HBF.out.size hb)
    clear hb
    go_wp2_with fail
    go_ret
    exact ⟨rfl, HBZ.out⟩)
end Go.Proofs.YthefgdehfgkhhaaGreat
