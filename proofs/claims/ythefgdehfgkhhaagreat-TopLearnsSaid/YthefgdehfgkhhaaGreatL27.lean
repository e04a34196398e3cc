/-
  TopLearns: whatever a payer has tried, what it knows is true; what it knows for certain is settled at once.
-/
import Derived.Test.YthefgdehfgkhhaaGreatK01
import Derived.Test.YthefgdehfgkhhaaGreatK26
import Derived.Test.YthefgdehfgkhhaaGreatRows
import Derived.ProofKit
import Derived.Deep.Slices
import Derived.Deep.Fields
import Derived.ChangeSame
import Derived.OpenShut
import Derived.SizedLaws
import Derived.Lib.SmallJoins
namespace Go.Proofs.YthefgdehfgkhhaaGreat
open Go.RowKit Go.Maps
set_option linter.unusedVariables false
set_option linter.unusedSimpArgs false
attribute [local go_sem] Oper.semAt_some
theorem cmpQ_ne {q : Rat} (h : q ≠ 1) : (cmpQ q 1 == 0) = false := by
 have : cmpQ q 1 ≠ 0 := by
  unfold cmpQ
  split
  ·decide
  ·split
   ·decide
   ·rename_i h1 h2
    exact absurd (Rat.le_antisymm (Rat.not_lt.1 h2) (Rat.not_lt.1 h1)) h
 simpa using this
/-- A payment that is asked for: who, whom, how much. -/
structure Pq where
 a : Nat
 b : Nat
 n : Nat
def Pq.cs (q : Pq) : Array Value := #[.int .u16 (q.a : Int), .int .u16 (q.b : Int), .int .u16 (q.n : Int)]
def Pq.ok (q : Pq) : Prop := q.a < 65536 ∧ q.b < 65536 ∧ q.n < 65536
/-- A slice that reads as payments. -/
structure RQ (w : World) (A : Option Addr) (n : Nat) (ls : List Pq) : Prop where
 qlen : ls.length = n
 at_ : 0 < n → ∃ b off, A = some ⟨b, off, none⟩ ∧ b < w.heap.size ∧ ∀ (i : Nat) (l : Pq), ls[i]? = some l → ∀ (j : Nat) (v : Value), l.cs[j]? = some v → w.cell? ⟨b, off + i * 3 + j, none⟩ = some v
theorem RQ.on {w w' : World} {A : Option Addr} {n : Nat} {ls : List Pq} (h : RQ w A n ls) (hb : Below w.heap.size w w') : RQ w' A n ls :=
 ⟨h.qlen, fun h0 => by
  obtain ⟨b, off, e, hlt, hc⟩ := h.at_ h0
  exact ⟨b, off, e, Nat.lt_of_lt_of_le hlt hb.size, fun i l hi j v hv => (hb.cell (p := ⟨b, off + i * 3 + j, none⟩) hlt).trans (hc i l hi j v hv)⟩⟩
theorem RQ.pq {w : World} {A : Option Addr} {n : Nat} {ls : List Pq} (h : RQ w A n ls) {i : Nat} (hi : i < n) :
 ∃ b off l, A = some ⟨b, off, none⟩ ∧ b < w.heap.size ∧ l ∈ ls ∧ w.cell? ⟨b, off + i * 3, none⟩ = some (.int .u16 (l.a : Int)) ∧ w.cell? ⟨b, off + i * 3 + 1, none⟩ = some (.int .u16 (l.b : Int)) ∧ w.cell? ⟨b, off + i * 3 + 2, none⟩ = some (.int .u16 (l.n : Int)) := by
 obtain ⟨b, off, e, hb, hc⟩ := h.at_ (by omega)
 have hlen : i < ls.length := by rw [h.qlen]; exact hi
 have hl := List.getElem?_eq_getElem hlen
 exact ⟨b, off, ls[i], e, hb, List.getElem_mem hlen, hc i _ hl 0 _ rfl, hc i _ hl 1 _ rfl, hc i _ hl 2 _ rfl⟩
theorem true_all {S : List Cn} {es : List Ed} {L : Notes} (hg : GInv S (ofG es)) (hT : TrueW S L) : ∀ e ∈ ofG es, TrueE S L e := fun e he => true_edge hg hT he (mem_ofG he).2
theorem in_all {S : List Cn} {g : List Ed} (hg : GInv S g) : ∀ e ∈ g, EIn S e := fun e he => ((hg.1 e he).1).isIn (hg.1 e he).2
/-! A fraction stays where a plan turns. -/
theorem led_ne {w : World} {p go co bs bh ns : Nat} {own : List Int} {S : List Cn} {lost : Int} (h : LedAt w p go co bs bh ns own S lost) (o : Nat) (d : Int) : w.cell? ⟨p, o, none⟩ ≠ some (.int .u32 d) := by
 rw [h.box.cell o]
 match o with
 | 0 => simp
 | 1 => simp
 | 2 => simp
 | 3 => simp
 | o + 4 => simp
theorem map_ne32 {w : World} {b : Nat} {es : Array MapEntry} {cl : Nat} (h : w.heap[b]? = some (.map es cl)) (o : Nat) (d : Int) : w.cell? ⟨b, o, none⟩ ≠ some (.int .u32 d) := by
 simp [World.cell?, h]
theorem Rd.gr2 {M : Nat → Prop} {w w' : World} {A : Option Addr} {n c : Nat} {l : List Nat} (h : Rd w w.heap.size A n c l) (hg : Gr M w w') (hne : ∀ b, M b → ∀ (o : Nat) (d : Int), w.cell? ⟨b, o, none⟩ ≠ some (.int .u32 d)) : Rd w' w'.heap.size A n c l :=
 ⟨h.len, h.cap, h.dig, fun h0 => by
  obtain ⟨b, off, e, hb, hc⟩ := h.at_ h0
  have hbb : ¬ M b := fun hm => hne b hm (off + 0) _ (hc 0 h0)
  exact ⟨b, off, e, Nat.lt_of_lt_of_le hb hg.size, fun k hk => (hg.cell hb hbb).trans (hc k hk)⟩⟩
theorem PayAt.isq {w0 w : World} {p go co bh : Nat} {own : List Int} {lost : Int} {pm bm : Nat} {S S0 : List Cn} {L L0 : Notes} {K K0 : Nat} (h0 : PayAt w0 w0 p go co bh own lost pm bm S0 L0 K0) (h : PayAt w0 w p go co bh own lost pm bm S L K) {v : Value} {q : Rat} {b : Nat} (I : IsQ w0 v q b) : IsQ w v q b := by
 obtain ⟨bs, ns, h1, h2, h3⟩ := h0.led
 obtain ⟨m, h4, h5⟩ := h0.mind
 obtain ⟨es, cl, hmap⟩ := h5.isMap
 have hne : ∀ k, (k = p ∨ k = bm) → ∀ (o : Nat) (d : Int), w0.cell? ⟨k, o, none⟩ ≠ some (.int .u32 d) := by
  rintro k (rfl | rfl) o d
  ·exact led_ne h2 o d
  ·exact map_ne32 hmap o d
 obtain ⟨A, n, c, B, m', d, rfl, r, t, f⟩ := I
 exact ⟨A, n, c, B, m', d, rfl, r.gr2 h.gr hne, t.gr2 h.gr hne, f⟩
set_option maxRecDepth 100000 in
set_option maxHeartbeats 8000000 in
theorem tlearn_any (w : World) (A : Option Addr) (n c : Nat) (ls : List Lk) (h : RK w A n ls) (hl : ∀ l ∈ ls, l.ok) (Aq : Option Addr) (nq cq : Nat) (qs : List Pq) (hq : RQ w Aq nq qs) (hqo : ∀ q ∈ qs, q.ok) :
 Calls Tryz.prog 3 #[.slice A n c, .slice Aq nq cq] w fun e w' => e = .returned (.bool true) ∧ Below w.heap.size w w' := by
 have HR := Lib.hid h
 have HOK := Lib.hid hl
 have HQ := Lib.hid hq
 have HQO := Lib.hid hqo
 clear h hl hq hqo
 go_enter Tryz.func3, Tryz.ntmps3
 go_wp2_with fail
 refine (awake_any w).mono ?_
 rintro y W1 ⟨rfl, hb⟩
 have HB1 := Lib.hid hb
 clear hb
 go_wp2_with fail
 refine (net_any W1 A n c ls (HR.out.on HB1.out) HOK.out).mono ?_
 rintro y W2 ⟨p, go, co, bs, bh, ns, Ag, cg, rfl, hL, hns, hg, hlen, hb, hpn⟩
 have HL2 := Lib.hid hL
 have HG2 := Lib.hid hg
 have HNS := Lib.hid hns
 have HLE := Lib.hid hlen
 have HPW : Hid (w.heap.size ≤ p) := Lib.hid (Nat.le_trans HB1.out.size hpn)
 have HB2 := Lib.hid (bltB HB1.out HB1.out.size hb)
 clear hL hg hns hlen hb hpn HB1
 obtain ⟨NG, hNG⟩ : ∃ z, (ofG (netO ls).es).length = z := ⟨_, rfl⟩
 rw [hNG] at HG2 HLE ⊢
 clear hNG
 go_wp2_with fail
 refine (lnew_any W2).mono ?_
 rintro y W3 ⟨pm, bm, rfl, hM, hpm, hbm, hb⟩
 have HL3 := Lib.hid (HL2.out.on hb)
 have HG3 := Lib.hid (HG2.out.on hb)
 have HM3 := Lib.hid hM
 have HB3 := Lib.hid (bltB HB2.out HB2.out.size hb)
 have HFR : Hid (w.heap.size ≤ p ∧ w.heap.size ≤ bm) := Lib.hid (by have h1 := HB2.out.size; have h2 := HPW.out; omega)
 have HNE : Hid (bs ≠ bm ∧ bh ≠ bm) := Lib.hid (by
  have h1 := HL2.out.map.lt
  obtain ⟨es, cl, hm, _⟩ := HL2.out.hold
  have h2 := blk_lt hm
  omega)
 clear hM hb hpm hbm HL2 HG2 HB2 HPW
 have HGI := Lib.hid (net_inv HOK.out)
 have HTN := Lib.hid (true_nil (net_inv HOK.out).2.1)
 have HP3 := Lib.hid (pay_start HL3.out HM3.out HNE.out.1 HNE.out.2 HNS.out)
 obtain ⟨own, hown⟩ : ∃ z, (netO ls).own = z := ⟨_, rfl⟩
 obtain ⟨S0, hS0⟩ : ∃ z, (netO ls).S = z := ⟨_, rfl⟩
 obtain ⟨es, hes⟩ : ∃ z, (netO ls).es = z := ⟨_, rfl⟩
 rw [hown, hS0] at HL3 HP3
 rw [hS0, hes] at HGI
 rw [hS0] at HTN
 rw [hes] at HG3
 have HOWN := Lib.hid (And.intro hown (And.intro hS0 hes))
 clear hown hS0 hes
 by_cases h4 : 4 < (nq : Int)
 ·go_wp2_with fail
  go_ret
  exact ⟨rfl, HB3.out⟩
 have hq4 : nq ≤ 4 := by omega
 go_wp2_with fail
 refine (ptrue_any W3 p go co bs bh ns own S0 0 HL3.out pm bm 0 [] HM3.out Good.nil Ag NG cg (ofG es) HG3.out (by have := HLE.out; omega) (in_all HGI.out) (true_all HGI.out HTN.out)).mono ?_
 rintro y W4 ⟨rfl, hb⟩
 have HP4 := Lib.hid (HP3.out.on hb)
 have HG4 := Lib.hid (HG3.out.on hb)
 have HB4 := Lib.hid (bltB HB3.out HB3.out.size hb)
 clear hb HP3 HG3 HB3 HL3 HM3
 go_wp2_with fail
 refine (fof_v W4 1 1 (by decide) (by decide)).mono ?_
 rintro y W6 ⟨v_o, rfl, I_o, hb⟩
 rw [show decide (0 < 1) = true from rfl]
 replace I_o := I_o.as (show mkRat ((1 : Nat) : Int) 1 = 1 from rfl)
 have HP6 := Lib.hid (HP4.out.on hb)
 have HG6 := Lib.hid (HG4.out.on hb)
 have HB6 := Lib.hid (bltB HB4.out HB4.out.size hb)
 clear hb HP4 HG4 HB4
 obtain ⟨A_o, n_o, c_o, B_o, m_o, d_o, rfl, hI⟩ := I_o
 have I_o : IsQ W6 (.agg #[.slice A_o n_o c_o, .slice B_o m_o d_o]) _ _ := ⟨_, _, _, _, _, _, rfl, hI⟩
 clear hI
 go_upto_region 9 with (fail)
 obtain ⟨W7, hW7⟩ : ∃ W, W = W6.alloc (.cells #[.slice A_o n_o c_o, .slice B_o m_o d_o] 34) := ⟨_, rfl⟩
 have hb : Below W6.heap.size W6 W7 := by rw [hW7]; exact (Below.refl _ _).alloc (Nat.le_refl _) _
 have k14 : Blk W7 W6.heap.size 34 #[.slice A_o n_o c_o, .slice B_o m_o d_o] := by rw [hW7]; exact Blk.new W6 _ _
 rw [← hW7]
 obtain ⟨G14, hG14⟩ : ∃ G, W6.heap.size = G := ⟨_, rfl⟩
 rw [hG14] at k14 ⊢
 have HK14 := Lib.hid k14
 have IO7 := Lib.hid (I_o.on hb)
 have HP7 := Lib.hid ((HP6.out.on hb).base)
 have HG7 := Lib.hid (HG6.out.on hb)
 have HB7 := Lib.hid (bltB HB6.out HB6.out.size hb)
 clear hb hW7 hG14 I_o HP6 HG6 HB6 k14
 go_wp2_with fail
 go_loopw [11] (fun iv wr => ∃ (i : Nat) (S : List Cn) (L : Notes), i ≤ nq ∧ iv = .int .i64 i ∧ Hid (PayAt W7 wr p go co bh own 0 pm bm S L (8 + 7200 * i)) ∧ Hid (GInv S (ofG es)) ∧ Hid (TrueW S L)) (fun iv _ => nq - (intOf iv).toNat)
 case atStart => exact ⟨0, S0, [], Nat.zero_le _, rfl, HP7, HGI, HTN⟩
 case round =>
  obtain ⟨i, S, L, hi, rfl, HP, HGI, HTN⟩ := hrel
  have HBW : Hid (Below w.heap.size w wr) := Lib.hid (HB7.out.trans (HP.out.gr.below (B := w.heap.size) HB7.out.size (fun k hk e => by have h1 := HFR.out; omega)))
  by_cases hlt : i < nq
  ·have hlt' : (i : Int) < (nq : Int) := by omega
   obtain ⟨ba, oa, q, hA, hba, hm, a0, a1, a2⟩ := (HQ.out.on HBW.out).pq hlt
   subst hA
   obtain ⟨fr, td, am⟩ := q
   have hqk := HQO.out _ hm
   unfold Pq.ok at hqk
   dsimp only at hqk a0 a1 a2
   obtain ⟨hk1, hk2, hk3⟩ := hqk
   obtain ⟨fr5, hf5⟩ : ∃ z : Nat, fr % 5 = z := ⟨_, rfl⟩
   obtain ⟨td5, ht5⟩ : ∃ z : Nat, td % 5 = z := ⟨_, rfl⟩
   have hq1 : fr5 < 5 := by omega
   have hq2 : td5 < 5 := by omega
   have ef5 : (fr : Int) % 5 = (fr5 : Int) := by omega
   have et5 : (td : Int) % 5 = (td5 : Int) := by omega
   clear hf5 ht5 hm
   go_upto_region 15 with (fail)
   rw [ef5, et5]
   clear ef5 et5 a0 a1 a2 hk1 hk2
   obtain ⟨am1, ham1⟩ : ∃ z : Int, (1 : Int) + (am : Int) = z := ⟨_, rfl⟩
   (try rw [ham1])
   clear ham1
   obtain ⟨m, hm, hM⟩ := HP.out.mind
   have hg := HP7.out.rg HP.out (by decide) HG7.out
   have HRG := Lib.hid hg
   go_wp2_with fail
   refine (sbest_any wr pm bm m L hM HP.out.good (by omega) Ag NG cg (ofG es) hg (by have := HLE.out; omega) (fr5 : Int) (td5 : Int) am1 100 2 (by omega) (by omega)).mono ?_
   rintro y W8 ⟨hb, hs⟩
   have HP8 := Lib.hid (HP.out.on hb)
   have HRG8 := Lib.hid (HRG.out.on hb)
   have HB8 := Lib.hid (bltB HBW.out HBW.out.size hb)
   clear hb hM hg hm HRG
   obtain ⟨os, hos⟩ : ∃ z, splitF L (ofG es) (fr5 : Int) (td5 : Int) am1 100 ((2 : Nat) : Int) = z := ⟨_, rfl⟩
   rw [hos] at hs
   have HOS := Lib.hid hos
   clear hos
   have HPP := fun (W : World) (hP : PayAt W7 W p go co bh own 0 pm bm S L (8 + 7200 * i)) (hr : RE W Ag NG cg (ofG es)) => planpay_any W p go co bh own 0 pm bm S L (8 + 7200 * i) hP.base (by omega) Ag NG cg _ hr (by have := HLE.out; omega) HGI.out (fr5 : Int) (td5 : Int) am1 2 (by omega) (by omega)
   have HPL := Lib.hid (plan_true (g := ofG es) (fr := (fr5 : Int)) (td := (td5 : Int)) (a := am1) (N := 2) HGI.out 12 0 L HTN.out)
   rcases os with _ | r
   ·obtain ⟨z, hz, rfl⟩ := hs
    have hz1 : (z == 0) = false := by simpa using hz
    clear hz
    go_upto_region 16 with (fail)
    obtain ⟨W9, hW9⟩ : ∃ W, W = W8.alloc (.cells #[.slice none 0 0, .slice none 0 0] 34) := ⟨_, rfl⟩
    have hb : Below W8.heap.size W8 W9 := by rw [hW9]; exact (Below.refl _ _).alloc (Nat.le_refl _) _
    have k16 : Blk W9 W8.heap.size 34 #[.slice none 0 0, .slice none 0 0] := by rw [hW9]; exact Blk.new W8 _ _
    rw [← hW9]
    obtain ⟨G16, hG16⟩ : ∃ G, W8.heap.size = G := ⟨_, rfl⟩
    rw [hG16] at k16 ⊢
    have HK16 := Lib.hid k16
    have HP9 := Lib.hid (HP8.out.on hb)
    have HRG9 := Lib.hid (HRG8.out.on hb)
    have HB9 := Lib.hid (bltB HB8.out HB8.out.size hb)
    clear hb hW9 hG16 k16 HP8 HRG8 HB8
    go_wp2_with fail
    have HPQ := HPP W9 HP9.out HRG9.out
    obtain ⟨RR, hRR⟩ : ∃ z, planF (ofG es) (fr5 : Int) (td5 : Int) am1 ((2 : Nat) : Int) 12 0 S L = z := ⟨_, rfl⟩
    rw [hRR] at HPQ HPL
    clear hRR
    obtain ⟨paid, parts, tries, S4, L4⟩ := RR
    dsimp only at HPL
    refine HPQ.mono ?_
    rintro y W10 ⟨A4, c4, rfl, hrp, hpay⟩
    have hpay2 := hpay.rebase HP9.out.gr
    have k16 := HP9.out.base.blk hpay (by decide) HK16.out
    have HP10 := Lib.hid hpay2
    clear hpay hpay2 hrp HPQ HPP HP9 HRG9 HB9 HK16
    dsimp only at HP10 HPL ⊢
    go_upto_region 17 with (fail)
    obtain ⟨W11, hW11⟩ : ∃ W, W = W10.alloc (.cells #[.bool paid, .slice A4 parts.length c4, .int .i64 (tries : Int), .bool true] 45) := ⟨_, rfl⟩
    have hb : Below W10.heap.size W10 W11 := by rw [hW11]; exact (Below.refl _ _).alloc (Nat.le_refl _) _
    have k18 : Blk W11 W10.heap.size 45 #[.bool paid, .slice A4 parts.length c4, .int .i64 (tries : Int), .bool true] := by rw [hW11]; exact Blk.new W10 _ _
    rw [← hW11]
    obtain ⟨G18, hG18⟩ : ∃ G, W10.heap.size = G := ⟨_, rfl⟩
    rw [hG18] at k18 ⊢
    replace k16 := k16.below hb k16.lt
    have HP11 := Lib.hid (HP10.out.on hb)
    clear hb hW11 hG18 HP10
    have y3 := k18.cell 3
    simp at y3
    obtain ⟨bs4, ns4, _, hL4, _⟩ := HP11.out.led
    obtain ⟨m4, _, hM4⟩ := HP11.out.mind
    go_wp2_with fail
    refine (ptrue_any W11 p go co bs4 bh ns4 own S4 0 hL4 pm bm m4 L4 hM4 HP11.out.good Ag NG cg (ofG es) (HP7.out.rg HP11.out (by decide) HG7.out) (by have := HLE.out; omega) (in_all HPL.out.2) (true_all HPL.out.2 HPL.out.1)).mono ?_
    rintro y W12 ⟨rfl, hb⟩
    replace k16 := k16.below hb k16.lt
    replace k18 := k18.below hb k18.lt
    have HP12 := Lib.hid (HP11.out.on hb)
    clear hb HP11 y3 hL4 hM4
    have HGN := Lib.hid HPL.out.2
    have HTW := Lib.hid HPL.out.1
    have HPZ := HP12
    go_wp2_with fail
    go_roundw
    case rel => exact ⟨i + 1, S4, L4, by omega, by go_num, Lib.hid (HPZ.out.more (by omega)), HGN, HTW⟩
    case measure => simp [intOf]; omega
   ·obtain ⟨h0, A1, c1, A_x, n_x, c_x, B_x, m_x, d_x, rfl, _, I_x⟩ := hs
    clear h0
    by_cases h1 : r.2 = 1
    ·go_upto_region 16 with (fail)
     obtain ⟨W9, hW9⟩ : ∃ W, W = W8.alloc (.cells #[.slice A_x n_x c_x, .slice B_x m_x d_x] 34) := ⟨_, rfl⟩
     have hb : Below W8.heap.size W8 W9 := by rw [hW9]; exact (Below.refl _ _).alloc (Nat.le_refl _) _
     have k16 : Blk W9 W8.heap.size 34 #[.slice A_x n_x c_x, .slice B_x m_x d_x] := by rw [hW9]; exact Blk.new W8 _ _
     rw [← hW9]
     obtain ⟨G16, hG16⟩ : ∃ G, W8.heap.size = G := ⟨_, rfl⟩
     rw [hG16] at k16 ⊢
     have HK16 := Lib.hid k16
     have HP9 := Lib.hid (HP8.out.on hb)
     have HRG9 := Lib.hid (HRG8.out.on hb)
     have HB9 := Lib.hid (bltB HB8.out HB8.out.size hb)
     have I9 := I_x.on hb
     clear hb hW9 hG16 k16 HP8 HRG8 HB8
     go_wp2_with fail
     have HPQ := HPP W9 HP9.out HRG9.out
     have hst : stopF S r.1 0 = none := split_sure (N := 2) HP9.out.good HGI.out HTN.out HOS.out h1
     have hRR := planF_paid (f := 11) (t := 0) HOS.out hst
     rw [hRR] at HPQ HPL
     clear hRR hst
     obtain ⟨paid, hpd⟩ : ∃ z, true = z := ⟨_, rfl⟩
     obtain ⟨parts, hpt⟩ : ∃ z, r.1 = z := ⟨_, rfl⟩
     obtain ⟨tries, htr⟩ : ∃ z : Nat, 0 + 1 = z := ⟨_, rfl⟩
     obtain ⟨S4, hS4⟩ : ∃ z, stF S r.1 = z := ⟨_, rfl⟩
     obtain ⟨L4, hL4⟩ : ∃ z, lnF L r.1 = z := ⟨_, rfl⟩
     rw [hS4, hL4, hpt, hpd, htr] at HPQ HPL
     have HPT := Lib.hid (And.intro hpd htr)
     clear hS4 hL4 hpt hpd htr
     dsimp only at HPL
     refine HPQ.mono ?_
     rintro y W10 ⟨A4, c4, rfl, hrp, hpay⟩
     have hpay2 := hpay.rebase HP9.out.gr
     have k16 := HP9.out.base.blk hpay (by decide) HK16.out
     have I10 := HP9.out.base.isq hpay I9
     have IO10 := HP7.out.isq hpay2 IO7.out
     have K14 := HP7.out.blk hpay2 (by decide) HK14.out
     have HP10 := Lib.hid hpay2
     clear hpay hpay2 hrp HPQ HPP HP9 HRG9 HB9 HK16
     dsimp only at HP10 HPL ⊢
     go_upto_region 17 with (fail)
     obtain ⟨W11, hW11⟩ : ∃ W, W = W10.alloc (.cells #[.bool paid, .slice A4 parts.length c4, .int .i64 (tries : Int), .bool true] 45) := ⟨_, rfl⟩
     have hb : Below W10.heap.size W10 W11 := by rw [hW11]; exact (Below.refl _ _).alloc (Nat.le_refl _) _
     have k18 : Blk W11 W10.heap.size 45 #[.bool paid, .slice A4 parts.length c4, .int .i64 (tries : Int), .bool true] := by rw [hW11]; exact Blk.new W10 _ _
     rw [← hW11]
     obtain ⟨G18, hG18⟩ : ∃ G, W10.heap.size = G := ⟨_, rfl⟩
     rw [hG18] at k18 ⊢
     replace k16 := k16.below hb k16.lt
     have HP11 := Lib.hid (HP10.out.on hb)
     have I11 := I10.on hb
     have IO11 := IO10.on hb
     replace K14 := K14.below hb K14.lt
     clear hb hW11 hG18 HP10
     have y3 := k18.cell 3
     simp at y3
     obtain ⟨bs4, ns4, _, hL4, _⟩ := HP11.out.led
     obtain ⟨m4, _, hM4⟩ := HP11.out.mind
     go_wp2_with fail
     refine (ptrue_any W11 p go co bs4 bh ns4 own S4 0 hL4 pm bm m4 L4 hM4 HP11.out.good Ag NG cg (ofG es) (HP7.out.rg HP11.out (by decide) HG7.out) (by have := HLE.out; omega) (in_all HPL.out.2) (true_all HPL.out.2 HPL.out.1)).mono ?_
     rintro y W12 ⟨rfl, hb⟩
     replace k16 := k16.below hb k16.lt
     replace k18 := k18.below hb k18.lt
     have HP12 := Lib.hid (HP11.out.on hb)
     have I12 := I11.on hb
     have IO12 := IO11.on hb
     replace K14 := K14.below hb K14.lt
     clear hb HP11 y3 hL4 hM4
     have HGN := Lib.hid HPL.out.2
     have HTW := Lib.hid HPL.out.1
     have a0 := K14.cell 0
     have a1 := K14.cell 1
     have b0 := k16.cell 0
     have b1 := k16.cell 1
     simp at a0 a1 b0 b1
     go_wp2_with fail
     refine (fcmp_v I12 IO12 (by decide) (by decide)).mono ?_
     rintro y W13 ⟨rfl, hb⟩
     replace k18 := k18.below hb k18.lt
     have HPZ := Lib.hid (HP12.out.on hb)
     clear hb a0 a1 b0 b1 I9 I10 I11 I12 IO10 IO11 IO12 K14 k16 HP12
     have hpd := HPT.out.1
     have htr := HPT.out.2
     subst hpd
     subst htr
     rw [h1, show cmpQ 1 1 = 0 from cmpQ_eq rfl]
     have x0 := k18.cell 0
     have x2 := k18.cell 2
     simp at x0 x2
     go_wp2_with fail
     go_roundw
     case rel => exact ⟨i + 1, S4, L4, by omega, by go_num, Lib.hid (HPZ.out.more (by omega)), HGN, HTW⟩
     case measure => simp [intOf]; omega
    ·go_upto_region 16 with (fail)
     obtain ⟨W9, hW9⟩ : ∃ W, W = W8.alloc (.cells #[.slice A_x n_x c_x, .slice B_x m_x d_x] 34) := ⟨_, rfl⟩
     have hb : Below W8.heap.size W8 W9 := by rw [hW9]; exact (Below.refl _ _).alloc (Nat.le_refl _) _
     have k16 : Blk W9 W8.heap.size 34 #[.slice A_x n_x c_x, .slice B_x m_x d_x] := by rw [hW9]; exact Blk.new W8 _ _
     rw [← hW9]
     obtain ⟨G16, hG16⟩ : ∃ G, W8.heap.size = G := ⟨_, rfl⟩
     rw [hG16] at k16 ⊢
     have HK16 := Lib.hid k16
     have HP9 := Lib.hid (HP8.out.on hb)
     have HRG9 := Lib.hid (HRG8.out.on hb)
     have HB9 := Lib.hid (bltB HB8.out HB8.out.size hb)
     have I9 := I_x.on hb
     clear hb hW9 hG16 k16 HP8 HRG8 HB8
     go_wp2_with fail
     have HPQ := HPP W9 HP9.out HRG9.out
     obtain ⟨RR, hRR⟩ : ∃ z, planF (ofG es) (fr5 : Int) (td5 : Int) am1 ((2 : Nat) : Int) 12 0 S L = z := ⟨_, rfl⟩
     rw [hRR] at HPQ HPL
     clear hRR
     obtain ⟨paid, parts, tries, S4, L4⟩ := RR
     dsimp only at HPL
     refine HPQ.mono ?_
     rintro y W10 ⟨A4, c4, rfl, hrp, hpay⟩
     have hpay2 := hpay.rebase HP9.out.gr
     have k16 := HP9.out.base.blk hpay (by decide) HK16.out
     have I10 := HP9.out.base.isq hpay I9
     have IO10 := HP7.out.isq hpay2 IO7.out
     have K14 := HP7.out.blk hpay2 (by decide) HK14.out
     have HP10 := Lib.hid hpay2
     clear hpay hpay2 hrp HPQ HPP HP9 HRG9 HB9 HK16
     dsimp only at HP10 HPL ⊢
     go_upto_region 17 with (fail)
     obtain ⟨W11, hW11⟩ : ∃ W, W = W10.alloc (.cells #[.bool paid, .slice A4 parts.length c4, .int .i64 (tries : Int), .bool true] 45) := ⟨_, rfl⟩
     have hb : Below W10.heap.size W10 W11 := by rw [hW11]; exact (Below.refl _ _).alloc (Nat.le_refl _) _
     have k18 : Blk W11 W10.heap.size 45 #[.bool paid, .slice A4 parts.length c4, .int .i64 (tries : Int), .bool true] := by rw [hW11]; exact Blk.new W10 _ _
     rw [← hW11]
     obtain ⟨G18, hG18⟩ : ∃ G, W10.heap.size = G := ⟨_, rfl⟩
     rw [hG18] at k18 ⊢
     replace k16 := k16.below hb k16.lt
     have HP11 := Lib.hid (HP10.out.on hb)
     have I11 := I10.on hb
     have IO11 := IO10.on hb
     replace K14 := K14.below hb K14.lt
     clear hb hW11 hG18 HP10
     have y3 := k18.cell 3
     simp at y3
     obtain ⟨bs4, ns4, _, hL4, _⟩ := HP11.out.led
     obtain ⟨m4, _, hM4⟩ := HP11.out.mind
     go_wp2_with fail
     refine (ptrue_any W11 p go co bs4 bh ns4 own S4 0 hL4 pm bm m4 L4 hM4 HP11.out.good Ag NG cg (ofG es) (HP7.out.rg HP11.out (by decide) HG7.out) (by have := HLE.out; omega) (in_all HPL.out.2) (true_all HPL.out.2 HPL.out.1)).mono ?_
     rintro y W12 ⟨rfl, hb⟩
     replace k16 := k16.below hb k16.lt
     replace k18 := k18.below hb k18.lt
     have HP12 := Lib.hid (HP11.out.on hb)
     have I12 := I11.on hb
     have IO12 := IO11.on hb
     replace K14 := K14.below hb K14.lt
     clear hb HP11 y3 hL4 hM4
     have HGN := Lib.hid HPL.out.2
     have HTW := Lib.hid HPL.out.1
     have a0 := K14.cell 0
     have a1 := K14.cell 1
     have b0 := k16.cell 0
     have b1 := k16.cell 1
     simp at a0 a1 b0 b1
     go_wp2_with fail
     refine (fcmp_v I12 IO12 (by decide) (by decide)).mono ?_
     rintro y W13 ⟨rfl, hb⟩
     replace k18 := k18.below hb k18.lt
     have HPZ := Lib.hid (HP12.out.on hb)
     clear hb a0 a1 b0 b1 I9 I10 I11 I12 IO10 IO11 IO12 K14 k16 HP12
     have hc1 := cmpQ_ne h1
     go_wp2_with fail
     go_roundw
     case rel => exact ⟨i + 1, S4, L4, by omega, by go_num, Lib.hid (HPZ.out.more (by omega)), HGN, HTW⟩
     case measure => simp [intOf]; omega
  ·have hin : i = nq := by omega
   subst hin
   go_wp2_with fail
   go_ret
   exact ⟨rfl, HBW.out⟩
end Go.Proofs.YthefgdehfgkhhaaGreat
namespace Go.Proofs.YthefgdehfgkhhaaGreat
open Go.ChangeShapes Go.WideShapes Go.ChangeAt Go.RowKit Go.Deep
set_option linter.unusedVariables false
set_option linter.unusedSimpArgs false
theorem own : ownKnob Tryz.prog.godebug = none := by kernel_rfl
theorem laidOut : laidOutB Tryz.prog = true := by kernel_rfl
theorem cellsU8 : Tryz.prog.cellsOf 5 = 1 := by kernel_rfl
theorem cellsU16 : Tryz.prog.cellsOf 38 = 1 := by kernel_rfl
theorem cells2U8 : Tryz.prog.cellsOf 74 = 2 := by kernel_rfl
theorem cells2U16 : Tryz.prog.cellsOf 73 = 2 := by kernel_rfl
theorem cells3U16 : Tryz.prog.cellsOf 39 = 3 := by kernel_rfl
theorem bytes3U16 : Tryz.prog.bytesOf 39 = 6 := by kernel_rfl
theorem cellsLk : Tryz.prog.cellsOf 76 = 8 := by kernel_rfl
section
variable {H : Type} {enc : TypeId × Value → H} {P : Program}
theorem post_of_below {f : Func} {s : ChangeSpec} {apart fresh handsOn again : Bool} {W W' : World} {args : Array Value} {v : Value} {ds gs : List (DataW H)} {before pa pv : List MemPlace}
 (hW : DataW.Whole enc P f.params.toList s.vars apart W args.toList ds gs before)
 (hres : ∀ (b : Nat) (sp : Nat → Bool) (hd : Bool), DataW.TrodAll enc P W' b sp hd f.resultTypes.toList (v.resultList f.resultTypes.size) (s.fn H (ds ++ gs)).results [])
 (hargs : ∀ sp : Nat → Bool, (∀ p ∈ before, sp p.block = true) → DataW.TrodAll enc P W' 0 sp true f.params.toList args.toList (s.fn H (ds ++ gs)).args pa)
 (hvars : ∀ sp : Nat → Bool, (∀ p ∈ before, sp p.block = true) → DataW.TrodVars enc P W' sp s.vars (s.fn H (ds ++ gs)).vars pv)
 (hps : before = pa ++ pv) (hb : Below W.heap.size W W')
 (hok : ∀ (j : Nat) (t : TypeId) (r : Value), f.resultTypes[j]? = some t → (v.resultList f.resultTypes.size)[j]? = some r → Value.okWide P W' .any 0 t r) :
 s.post enc P f apart fresh handsOn again W args v W' := by
 have hlt : ∀ p ∈ before, p.block < W.heap.size := fun p hp => hW.lt p hp
 have hold : ∀ p ∈ before, (fun b => decide (b < W.heap.size)) p.block = true := fun p hp => by simpa using hlt p hp
 refine ⟨ds, gs, before, [], pa, pv, hW, hres _ _ _, hargs _ hold, hvars _ hold, World.keptBut_mono (fun p hp => ⟨hp, ?_⟩) (hb.frame (· ∈ before)), fun _ => ?_⟩
 ·rw [hps, List.mem_append] at hp
  exact Or.inr hp
 ·obtain ⟨_, _, _, _, _, hz, hn⟩ := hW
  refine ⟨hok, _, _, ([] ++ pa) ++ pv, ⟨[] ++ pa, pv, trodAll_append (hargs _ (fun _ _ => rfl)) (hres _ _ _), hvars _ (fun _ _ => rfl), rfl, ?_, ?_⟩, ?_⟩
  ·intro b off hp
   have hin : MemPlace.cell b off ∈ before := by rw [hps]; simpa using hp
   rw [hb.frozen (hlt _ hin)]
   exact hz b off hin
  ·intro ha
   have := hn ha
   rw [hps] at this
   simpa using this
  ·intro p hp _
   rw [hps]
   simpa using hp
end
theorem wf_u8 {n : Int} (h : (Lit.int .u8 n).wf = true) : ∃ m : Nat, n = (m : Int) ∧ m < 256 := by
 simp [Lit.wf, IntKind.min, IntKind.max, IntKind.signed, IntKind.bits] at h
 exact ⟨n.toNat, by omega, by omega⟩
theorem wf_u16 {n : Int} (h : (Lit.int .u16 n).wf = true) : ∃ m : Nat, n = (m : Int) ∧ m < 65536 := by
 simp [Lit.wf, IntKind.min, IntKind.max, IntKind.signed, IntKind.bits] at h
 exact ⟨n.toNat, by omega, by omega⟩
section
variable {H : Type} {enc : TypeId × Value → H} {w : World} {base : Nat} {spare : Nat → Bool} {held : Bool} {n : Nat} {x : DataW H × List MemPlace}
theorem trod_u8 {cs : List Value} (h : DataW.trod enc Tryz.prog w base spare held n 5 cs = some x) : ∃ a : Nat, cs = [.int .u8 (a : Int)] ∧ a < 256 := by
 obtain ⟨k, q, _, hw⟩ := DataW.trod_int Tryz.underlying5 h
 obtain ⟨m, rfl, hm⟩ := wf_u8 hw
 exact ⟨m, q, hm⟩
theorem trod_u16 {cs : List Value} (h : DataW.trod enc Tryz.prog w base spare held n 38 cs = some x) : ∃ a : Nat, cs = [.int .u16 (a : Int)] ∧ a < 65536 := by
 obtain ⟨k, q, _, hw⟩ := DataW.trod_int Tryz.underlying38 h
 obtain ⟨m, rfl, hm⟩ := wf_u16 hw
 exact ⟨m, q, hm⟩
set_option maxRecDepth 100000 in
theorem trod_2u8 {cs : List Value} (h : DataW.trod enc Tryz.prog w base spare held n 74 cs = some x) : ∃ a b : Nat, cs = [.int .u8 (a : Int), .int .u8 (b : Int)] ∧ a < 256 ∧ b < 256 := by
 obtain ⟨xs, m, _, rfl, hl, hlen, hf⟩ := DataW.trod_array Tryz.underlying74 h
 rw [cells2U8] at hl
 match cs, hl with
 | [b0, b1], _ =>
  match xs, hlen with
  | [x0, x1], _ =>
   have h0 := hf 0 (by omega)
   have h1 := hf 1 (by omega)
   simp [cellsU8] at h0 h1
   obtain ⟨a0, e0, l0⟩ := trod_u8 h0
   obtain ⟨a1, e1, l1⟩ := trod_u8 h1
   simp at e0 e1
   exact ⟨a0, a1, by rw [e0, e1], l0, l1⟩
set_option maxRecDepth 100000 in
theorem trod_2u16 {cs : List Value} (h : DataW.trod enc Tryz.prog w base spare held n 73 cs = some x) : ∃ a b : Nat, cs = [.int .u16 (a : Int), .int .u16 (b : Int)] ∧ a < 65536 ∧ b < 65536 := by
 obtain ⟨xs, m, _, rfl, hl, hlen, hf⟩ := DataW.trod_array Tryz.underlying73 h
 rw [cells2U16] at hl
 match cs, hl with
 | [b0, b1], _ =>
  match xs, hlen with
  | [x0, x1], _ =>
   have h0 := hf 0 (by omega)
   have h1 := hf 1 (by omega)
   simp [cellsU16] at h0 h1
   obtain ⟨a0, e0, l0⟩ := trod_u16 h0
   obtain ⟨a1, e1, l1⟩ := trod_u16 h1
   simp at e0 e1
   exact ⟨a0, a1, by rw [e0, e1], l0, l1⟩
set_option maxRecDepth 100000 in
theorem trod_3u16 {cs : List Value} (h : DataW.trod enc Tryz.prog w base spare held n 39 cs = some x) : ∃ a b c : Nat, cs = [.int .u16 (a : Int), .int .u16 (b : Int), .int .u16 (c : Int)] ∧ a < 65536 ∧ b < 65536 ∧ c < 65536 := by
 obtain ⟨xs, m, _, rfl, hl, hlen, hf⟩ := DataW.trod_array Tryz.underlying39 h
 rw [cells3U16] at hl
 match cs, hl with
 | [b0, b1, b2], _ =>
  match xs, hlen with
  | [x0, x1, x2], _ =>
   have h0 := hf 0 (by omega)
   have h1 := hf 1 (by omega)
   have h2 := hf 2 (by omega)
   simp [cellsU16] at h0 h1 h2
   obtain ⟨a0, e0, l0⟩ := trod_u16 h0
   obtain ⟨a1, e1, l1⟩ := trod_u16 h1
   obtain ⟨a2, e2, l2⟩ := trod_u16 h2
   simp at e0 e1 e2
   exact ⟨a0, a1, a2, by rw [e0, e1, e2], l0, l1, l2⟩
set_option maxRecDepth 100000 in
theorem open_lkL {cs : List Value} (h : DataW.trod enc Tryz.prog w base spare held n 76 cs = some x) : ∃ l : Lk, cs = l.cs.toList ∧ l.ok := by
 obtain ⟨xs, m, _, rfl, hl, hlen, hf⟩ := DataW.trod_struct Tryz.underlying76 h
 rw [cellsLk] at hl
 match cs, hl with
 | [b0, b1, b2, b3, b4, b5, b6, b7], _ =>
  match xs, hlen with
  | [x0, x1, x2, x3, x4], _ =>
   have h0 := hf 0 _ rfl
   have h1 := hf 1 _ rfl
   have h2 := hf 2 _ rfl
   have h3 := hf 3 _ rfl
   have h4 := hf 4 _ rfl
   simp [cellsU8, cellsU16, cells2U8, cells2U16] at h0 h1 h2 h3 h4
   obtain ⟨a0, e0, l0⟩ := trod_u8 h0
   obtain ⟨a1, e1, l1⟩ := trod_u8 h1
   obtain ⟨a2, a3, e2, l2, l3⟩ := trod_2u16 h2
   obtain ⟨a4, a5, e4, l4, l5⟩ := trod_2u8 h3
   obtain ⟨a6, a7, e6, l6, l7⟩ := trod_2u16 h4
   simp at e0 e1 e2 e4 e6
   obtain ⟨rfl, rfl⟩ := e2
   obtain ⟨rfl, rfl⟩ := e4
   obtain ⟨rfl, rfl⟩ := e6
   subst e0 e1
   exact ⟨⟨a0, a1, a2, a3, a4, a5, a6, a7⟩, rfl, ⟨l0, l1⟩, ⟨l2, l3⟩, ⟨l4, l5⟩, l6, l7⟩
end
section
variable {H : Type} {enc : TypeId × Value → H}
/-- The address of a cell that is there. -/
theorem addr_plain {w : World} {a : Addr} {v : Value} (h : w.cell? (a.add 0) = some v) : ∃ b off, a = ⟨b, off, none⟩ ∧ b < w.heap.size := by
 obtain ⟨b, off, vw⟩ := a
 cases vw with
 | some q =>
  exfalso
  simp [Addr.add, World.cell?] at h
  split at h <;> simp at h
 | none =>
  refine ⟨b, off, rfl, ?_⟩
  exact World.block_lt_of_cell? w ⟨b, off, none⟩ (by simpa [Addr.add] using h)
theorem add_at (b off i : Nat) : (⟨b, off, none⟩ : Addr).add i = ⟨b, off + i, none⟩ := by
 unfold Addr.add
 split <;> simp_all
instance : Inhabited Lk := ⟨⟨0, 0, 0, 0, 0, 0, 0, 0⟩⟩
/-- A slice of links, as it reads. -/
theorem open_links {w : World} {v : Value} {d : DataW H} {p : List MemPlace} (hv : ∃ A n c, v = .slice A n c) (h : DataW.Trod enc Tryz.prog w 0 (fun _ => true) true 22 v d p) :
 ∃ A n c l, v = .slice A n c ∧ RK w A n l ∧ ∀ x ∈ l, Lk.ok x := by
 obtain ⟨A0, n0, c0, rfl⟩ := hv
 obtain ⟨fuel, hf⟩ := h
 simp only [Value.cells] at hf
 rcases open_slice Tryz.underlying22 hf with ⟨hv, hx⟩ | ⟨a, len, cap, m, n', D, Pl, hv, hb, hl, hm, hmm, hx, hi⟩
 ·simp at hv
  exact ⟨none, 0, 0, [], by simp [hv], ⟨rfl, fun h => by omega⟩, fun x hx => by simp at hx⟩
 ·simp only [if_true] at hmm
  subst hmm
  have hone : ∀ i, i < len → ∃ l : Lk, l.ok ∧ ∀ j u, l.cs[j]? = some u → w.cell? (a.add (i * 8 + j)) = some u := fun i hi' => by
   obtain ⟨cs', hc, ht'⟩ := hi i (by omega)
   rw [cellsLk] at hc
   obtain ⟨l, rfl, hok⟩ := open_lkL ht'
   obtain ⟨_, hcl, hat⟩ := World.cells?_some hc
   refine ⟨l, hok, fun j u hu => ?_⟩
   have hj : j < 8 := by
    have := (Array.getElem?_eq_some_iff.1 hu).1
    simpa [Lk.cs] using this
   rw [← Go.Deep.add_add, hat j hj]
   simpa using hu
  obtain ⟨f, hf'⟩ := choose_lt (α := Lk) hone
  refine ⟨some a, len, m, (List.range len).map f, ?_, ⟨by simp, fun hpos => ?_⟩, fun x hx => ?_⟩
  ·simp at hv
   simp [hv]
  ·obtain ⟨b, off, rfl, hbl⟩ := addr_plain (show w.cell? (a.add 0) = _ from by simpa using (hf' 0 hpos).2 0 _ rfl)
   refine ⟨b, off, rfl, hbl, fun k l hl2 j u hu => ?_⟩
   have hk : k < len := by
    have := (List.getElem?_eq_some_iff.1 hl2).1
    simpa using this
   have hlk : l = f k := by simpa [hk] using hl2.symm
   have h1 := (hf' k hk).2 j u (by rw [← hlk]; exact hu)
   rw [add_at] at h1
   rw [show off + k * 8 + j = off + (k * 8 + j) by omega]
   exact h1
  ·simp at hx
   obtain ⟨k, hk, rfl⟩ := hx
   exact (hf' k hk).1
section
variable {W W' : World} {v : Value} {d : DataW H} {ps : List MemPlace} {sp : Nat → Bool}
theorem stays_8 (h : DataW.Trod enc Tryz.prog W 0 (fun _ => true) true 5 v d ps) (hb : Below W.heap.size W W') (hlt : ∀ x ∈ ps, x.block < W.heap.size) (hsp : ∀ x ∈ ps, sp x.block = true) : DataW.Trod enc Tryz.prog W' 0 sp true 5 v d ps :=
 WideElems.Trod_stays laidOut (by kernel_rfl) (of_decide_eq_true (by kernel_rfl)) h (fun x hx => hb.same (hlt x hx)) hsp
theorem stays_16 (h : DataW.Trod enc Tryz.prog W 0 (fun _ => true) true 38 v d ps) (hb : Below W.heap.size W W') (hlt : ∀ x ∈ ps, x.block < W.heap.size) (hsp : ∀ x ∈ ps, sp x.block = true) : DataW.Trod enc Tryz.prog W' 0 sp true 38 v d ps :=
 WideElems.Trod_stays laidOut (by kernel_rfl) (of_decide_eq_true (by kernel_rfl)) h (fun x hx => hb.same (hlt x hx)) hsp
theorem stays_l (h : DataW.Trod enc Tryz.prog W 0 (fun _ => true) true 22 v d ps) (hb : Below W.heap.size W W') (hlt : ∀ x ∈ ps, x.block < W.heap.size) (hsp : ∀ x ∈ ps, sp x.block = true) : DataW.Trod enc Tryz.prog W' 0 sp true 22 v d ps :=
 WideElems.Trod_stays laidOut (by kernel_rfl) (of_decide_eq_true (by kernel_rfl)) h (fun x hx => hb.same (hlt x hx)) hsp
end
end
end Go.Proofs.YthefgdehfgkhhaaGreat
namespace Go.Proofs.YthefgdehfgkhhaaGreat.topLearnsP
open Go.ChangeShapes Go.WideShapes Go.ChangeAt Go.RowKit Go.Deep
set_option linter.unusedVariables false
set_option linter.unusedSimpArgs false
set_option maxRecDepth 100000 in
theorem open_pqL {H : Type} {enc : TypeId × Value → H} {w : World} {base : Nat} {spare : Nat → Bool} {held : Bool} {n : Nat} {x : DataW H × List MemPlace} {cs : List Value} (h : DataW.trod enc Tryz.prog w base spare held n 39 cs = some x) : ∃ q : Pq, cs = q.cs.toList ∧ q.ok := by
 obtain ⟨a, b, c, e, l0, l1, l2⟩ := trod_3u16 h
 exact ⟨⟨a, b, c⟩, e, l0, l1, l2⟩
instance : Inhabited Pq := ⟨⟨0, 0, 0⟩⟩
/-- A slice of payments, as it reads. -/
theorem open_pays {H : Type} {enc : TypeId × Value → H} {w : World} {v : Value} {d : DataW H} {p : List MemPlace} (hv : ∃ A n c, v = .slice A n c) (h : DataW.Trod enc Tryz.prog w 0 (fun _ => true) true 23 v d p) :
 ∃ A n c l, v = .slice A n c ∧ RQ w A n l ∧ ∀ x ∈ l, Pq.ok x := by
 obtain ⟨A0, n0, c0, rfl⟩ := hv
 obtain ⟨fuel, hf⟩ := h
 simp only [Value.cells] at hf
 rcases open_slice Tryz.underlying23 hf with ⟨hv, hx⟩ | ⟨a, len, cap, m, n', D, Pl, hv, hb, hl, hm, hmm, hx, hi⟩
 ·simp at hv
  exact ⟨none, 0, 0, [], by simp [hv], ⟨rfl, fun h => by omega⟩, fun x hx => by simp at hx⟩
 ·simp only [if_true] at hmm
  subst hmm
  have hone : ∀ i, i < len → ∃ l : Pq, l.ok ∧ ∀ j u, l.cs[j]? = some u → w.cell? (a.add (i * 3 + j)) = some u := fun i hi' => by
   obtain ⟨cs', hc, ht'⟩ := hi i (by omega)
   rw [cells3U16] at hc
   obtain ⟨l, rfl, hok⟩ := open_pqL ht'
   obtain ⟨_, hcl, hat⟩ := World.cells?_some hc
   refine ⟨l, hok, fun j u hu => ?_⟩
   have hj : j < 3 := by
    have := (Array.getElem?_eq_some_iff.1 hu).1
    simpa [Pq.cs] using this
   rw [← Go.Deep.add_add, hat j hj]
   simpa using hu
  obtain ⟨f, hf'⟩ := choose_lt (α := Pq) hone
  refine ⟨some a, len, m, (List.range len).map f, ?_, ⟨by simp, fun hpos => ?_⟩, fun x hx => ?_⟩
  ·simp at hv
   simp [hv]
  ·obtain ⟨b, off, rfl, hbl⟩ := addr_plain (show w.cell? (a.add 0) = _ from by simpa using (hf' 0 hpos).2 0 _ rfl)
   refine ⟨b, off, rfl, hbl, fun k l hl2 j u hu => ?_⟩
   have hk : k < len := by
    have := (List.getElem?_eq_some_iff.1 hl2).1
    simpa using this
   have hlk : l = f k := by simpa [hk] using hl2.symm
   have h1 := (hf' k hk).2 j u (by rw [← hlk]; exact hu)
   rw [add_at] at h1
   rw [show off + k * 3 + j = off + (k * 3 + j) by omega]
   exact h1
  ·simp at hx
   obtain ⟨k, hk, rfl⟩ := hx
   exact (hf' k hk).1
theorem stays_q {H : Type} {enc : TypeId × Value → H} {W W' : World} {v : Value} {d : DataW H} {ps : List MemPlace} {sp : Nat → Bool} (h : DataW.Trod enc Tryz.prog W 0 (fun _ => true) true 23 v d ps) (hb : Below W.heap.size W W') (hlt : ∀ x ∈ ps, x.block < W.heap.size) (hsp : ∀ x ∈ ps, sp x.block = true) : DataW.Trod enc Tryz.prog W' 0 sp true 23 v d ps :=
 WideElems.Trod_stays laidOut (by kernel_rfl) (of_decide_eq_true (by kernel_rfl)) h (fun x hx => hb.same (hlt x hx)) hsp
set_option maxRecDepth 100000 in
theorem lifted (os : Os) (started : os.Started) (H : Type) (enc : TypeId × Value → H) :
 ReturnsInHanded {} Tryz.checked os 3 .any (Rows.topLearnsSpec.pre6 enc Tryz.prog Tryz.f3 Rows.topLearnsRow.domain false) (Rows.topLearnsSpec.post enc Tryz.prog Tryz.f3 false true false false) := by
 refine returnsInHanded_of_change_sized (C := Tryz.checked) own started (by kernel_rfl) Tryz.func3
  (ChangeSpec.witness6 (enc := enc) (C := Tryz.checked) false ⟨#[], #[.slice none 0 0, .slice none 0 0], []⟩ 8 (by kernel_rfl) (by kernel_rfl) (by kernel_rfl) (by kernel_rfl)) ?_
 intro W base args ds gs before hval0 hW hcnd hsz _
 have hval : ∀ (j : Nat) t v, Tryz.f3.params[j]? = some t → args[j]? = some v → Value.okWide Tryz.prog W .any base t v := hval0
 have hW' := hW
 obtain ⟨p, q, hA0, hV, rfl, hfz, hnd⟩ := hW
 have hA : DataW.TrodAll enc Tryz.prog W 0 (fun _ => true) true Tryz.f3.params.toList args.toList ds p := hA0
 rw [Tryz.params3] at hA hval hsz
 obtain ⟨v0, vs0, d0, ds0, p0, q0, hargs, rfl, rfl, h0, r0⟩ := trodAll_cons hA
 obtain ⟨v1, vs1, d1, ds1, p1, q1, rfl, rfl, rfl, h1, r1⟩ := trodAll_cons r0
 obtain ⟨rfl, rfl, rfl⟩ := trodAll_nil r1
 obtain rfl : args = #[v0, v1] := by cases args; simp_all
 obtain ⟨rfl, rfl⟩ := trodVars_none hV
 clear hA0 hval0
 have hlt : ∀ x, x ∈ p0 ++ (p1 ++ ([] : List MemPlace)) → x.block < W.heap.size := fun x hx => by simpa using hW'.lt x (by simpa using hx)
 obtain ⟨A0, m0, c0, l0, e0, s0, k0⟩ := open_links (by obtain ⟨A, n, c, h⟩ := okWide_slice Tryz.underlying22 (hval 0 22 v0 rfl rfl); exact ⟨A, n, c, h⟩) h0
 obtain ⟨A1, m1, c1, l1, e1, s1, k1⟩ := open_pays (by obtain ⟨A, n, c, h⟩ := okWide_slice Tryz.underlying23 (hval 1 23 v1 rfl rfl); exact ⟨A, n, c, h⟩) h1
 have hwalk : Calls Tryz.prog 3 #[v0, v1] W fun e w' => e = .returned (.bool true) ∧ Below W.heap.size W w' := by
  rw [e0, e1]
  exact tlearn_any W A0 m0 c0 l0 s0 k0 A1 m1 c1 l1 s1 k1
 refine hwalk.mono fun e W' ⟨he, hb⟩ => ?_
 subst he
 refine ⟨_, rfl, post_of_below (pa := p0 ++ (p1 ++ [])) (pv := []) hW' (fun _ _ _ => trodAll_cons_mk (shut_bool Tryz.underlying4 _) trodAll_mk0) (fun sp hsp => ?_) (fun _ _ => rfl) (by simp) hb (ok_one (by kernel_rfl) rfl (okWide_bool_mk Tryz.underlying4 _))⟩
 exact trodAll_cons_mk (stays_l h0 hb (fun x hx => hlt x (by simp [hx])) (fun x hx => hsp x (by simp [hx]))) (trodAll_cons_mk (stays_q h1 hb (fun x hx => hlt x (by simp [hx])) (fun x hx => hsp x (by simp [hx]))) (trodAll_mk0))
theorem proved : Rows.TopLearnsSaid :=
 OpenClaim.holds_of_wide 3 Tryz.f3 rfl rfl rfl rfl rfl rfl rfl ⟨rfl, rfl, rfl, rfl, rfl⟩ rfl rfl rfl rfl rfl (by kernel_rfl) Tryz.func3 (by kernel_rfl)
  (of_decide_eq_true (by kernel_rfl)) (by unfold Func.isWrapper; first | (rw [if_pos (by decide +kernel)]; kernel_rfl) | (rw [if_neg (by decide +kernel)]; exact ⟨rfl, rfl⟩))
  (fun os started H enc _ => lifted os started H enc)
#print axioms proved
end Go.Proofs.YthefgdehfgkhhaaGreat.topLearnsP
