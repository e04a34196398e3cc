/-
  planAwake: the small case that each statement begins with.
-/
import Derived.Test.YthefgdehfgkhhaaGreatK01
import Derived.Test.YthefgdehfgkhhaaGreatK24
import Derived.Test.YthefgdehfgkhhaaGreatK25
namespace Go.Proofs.YthefgdehfgkhhaaGreat
open Go.RowKit Go.Maps
set_option linter.unusedVariables false
set_option linter.unusedSimpArgs false
attribute [local go_sem] Oper.semAt_some
theorem awk_ok : ∀ l ∈ awkL, l.ok := by
 intro l hl
 simp [awkL] at hl
 rcases hl with rfl | rfl | rfl | rfl <;> exact ⟨⟨by decide, by decide⟩, ⟨by decide, by decide⟩, ⟨by decide, by decide⟩, by decide, by decide⟩
def awkC : Array Value := #[.int .u8 0, .int .u8 1, .int .u16 100, .int .u16 0, .int .u8 0, .int .u8 0, .int .u16 0, .int .u16 0, .int .u8 1, .int .u8 3, .int .u16 10, .int .u16 990, .int .u8 5, .int .u8 5, .int .u16 0, .int .u16 0, .int .u8 0, .int .u8 2, .int .u16 100, .int .u16 0, .int .u8 0, .int .u8 0, .int .u16 0, .int .u16 0, .int .u8 2, .int .u8 3, .int .u16 60, .int .u16 0, .int .u8 7, .int .u8 7, .int .u16 0, .int .u16 0]
theorem awk_cells : awkC.toList = (kcs awkL).flatMap fun a => a.toList := rfl
theorem kcs_wide (ls : List Lk) : ∀ a ∈ kcs ls, a.size = 8 := by
 intro a ha
 obtain ⟨e, _, rfl⟩ := List.mem_map.1 ha
 rfl
theorem awk_row {w : World} {g : Nat} (h : Blk w g 76 awkC) : RK w (some ⟨g, 0, none⟩) 4 awkL :=
 ⟨rfl, fun _ => ⟨g, 0, rfl, h.lt, fun i l hi j v hv => by
  have hi2 : (kcs awkL)[i]? = some l.cs := by unfold kcs; rw [List.getElem?_map, hi]; rfl
  have := flat_at (k := 8) (kcs awkL) (kcs_wide _) i _ hi2 j v hv
  rw [← awk_cells] at this
  rw [h.cell, Nat.zero_add]
  simpa using this⟩⟩
/-- A new ledger and a new mind are where a plan begins. -/
theorem pay_start {w : World} {p go co bs bh ns : Nat} {own : List Int} {S : List Cn} {lost : Int} {pm bm : Nat} (hL : LedAt w p go co bs bh ns own S lost) (hM : MindAt w pm bm 0 []) (h1 : bs ≠ bm) (h2 : bh ≠ bm) {K : Nat} (hn : ns ≤ K) : PayAt w w p go co bh own lost pm bm S [] K :=
 ⟨⟨bs, ns, hn, hL, h1⟩, ⟨0, Nat.zero_le _, hM⟩, Good.nil, h2, Gr.refl _ _⟩
set_option maxRecDepth 100000 in
set_option maxHeartbeats 4000000 in
theorem awake_any (w : World) : Calls Tryz.prog 6 #[] w fun e w' => e = .returned (.bool true) ∧ Below w.heap.size w w' := by
 obtain ⟨W0, hW0⟩ : ∃ W, W = w.alloc (.cells awkC 76) := ⟨_, rfl⟩
 have hB0 : Below w.heap.size w W0 := by rw [hW0]; exact (Below.refl _ _).alloc (Nat.le_refl _) _
 have hrow : RK W0 (some ⟨w.heap.size, 0, none⟩) 4 awkL := awk_row (by rw [hW0]; exact Blk.new w _ _)
 unfold awkC at hW0
 have HB0 := Lib.hid hB0
 have HR := Lib.hid hrow
 clear hB0 hrow
 go_enter Tryz.func6, Tryz.ntmps6
 go_wp2_with fail
 rw [← hW0]
 clear hW0
 refine (net_any W0 _ 4 4 awkL HR.out awk_ok).mono ?_
 rintro y W1 ⟨p, go, co, bs, bh, ns, A, c, rfl, hL, hns, hg, hlen, hb, hpn⟩
 have h8 : (ofG (netO awkL).es).length = 8 := awk_len
 rw [h8] at hg ⊢
 have HL1 := Lib.hid hL
 have HG1 := Lib.hid hg
 have HNS := Lib.hid hns
 have HB1 := Lib.hid (bltB HB0.out HB0.out.size hb)
 have HB0' : Hid (w.heap.size ≤ p) := Lib.hid (Nat.le_trans HB0.out.size hpn)
 clear hL hg hns hb hlen HR h8 HB0 hpn
 go_wp2_with fail
 refine (lnew_any W1).mono ?_
 rintro y W2 ⟨pm, bm, rfl, hM, hpm, hbm, hb⟩
 have HL2 := Lib.hid (HL1.out.on hb)
 have HG2 := Lib.hid (HG1.out.on hb)
 have HM2 := Lib.hid hM
 have HB2 := Lib.hid (bltB HB1.out HB1.out.size hb)
 have HFR : Hid (w.heap.size ≤ p ∧ w.heap.size ≤ bm) := Lib.hid (by have h1 := HB1.out.size; have h2 := HB0'.out; omega)
 have HNE : Hid (bs ≠ bm ∧ bh ≠ bm) := Lib.hid (by
  have h1 := HL1.out.map.lt
  obtain ⟨es, cl, hm, _⟩ := HL1.out.hold
  have h2 := blk_lt hm
  omega)
 clear hM hb hpm hbm HL1 HG1 HB1
 go_wp2_with fail
 refine (gright_any W2 A 8 c _ HG2.out (by omega)).mono ?_
 rintro y W3 ⟨rfl, hb⟩
 rw [show rightG (ofG (netO awkL).es) = true from awk_right]
 have HL3 := Lib.hid (HL2.out.on hb)
 have HG3 := Lib.hid (HG2.out.on hb)
 have HM3 := Lib.hid (HM2.out.on hb)
 have HB3 := Lib.hid (bltB HB2.out HB2.out.size hb)
 clear hb HL2 HG2 HM2 HB2
 go_wp2_with fail
 have HPP := planpay_any W3 p go co bh _ 0 pm bm (netO awkL).S [] 8 (pay_start HL3.out HM3.out HNE.out.1 HNE.out.2 HNS.out) (by omega) A 8 c _ HG3.out (by omega) (net_inv awk_ok) 0 3 50 1 (by omega) (by omega)
 have hT := plan_true (g := ofG (netO awkL).es) (fr := 0) (td := 3) (a := 50) (N := 1) (net_inv awk_ok) 12 0 [] (true_nil (net_inv awk_ok).2.1)
 rw [show planF (ofG (netO awkL).es) 0 3 50 ((1 : Nat) : Int) 12 0 (netO awkL).S [] = awkP from rfl] at HPP hT
 have hpd := awk_paid
 have hwo := awk_worth
 generalize awkP = R at HPP hT hpd hwo
 obtain ⟨Rp, Rps, Rt, RS, RL⟩ := R
 simp only [Prod.mk.injEq] at hpd hwo
 obtain ⟨rfl, rfl, q3⟩ := hpd
 dsimp only at hwo hT q3
 have HW := Lib.hid hwo
 have HSO := Lib.hid hT.2.2.1
 have HOW := Lib.hid (fun q (h : q < 5) => (net_own awk_ok h).1)
 clear hwo hT
 refine HPP.mono ?_
 rintro y W4 ⟨A4, c4, rfl, hrp, hpay⟩
 dsimp only at hrp hpay ⊢
 rw [q3]
 obtain ⟨bs4, ns4, _, hL4, _⟩ := hpay.led
 have HL4 := Lib.hid hL4
 have HB4 : Hid (Below w.heap.size w W4) := Lib.hid (HB3.out.trans (hpay.gr.below (B := w.heap.size) HB3.out.size (fun k hk e => by have h1 := HFR.out; omega)))
 clear hrp hpay hL4 HPP q3 HL3 HG3 HM3 HB3
 go_upto_region 6 with (fail)
 obtain ⟨W5, hW5⟩ : ∃ W, W = W4.alloc (.cells #[.bool true, .slice A4 1 c4, .int .i64 2, .bool true] 45) := ⟨_, rfl⟩
 have hb5 : Below W4.heap.size W4 W5 := by rw [hW5]; exact (Below.refl _ _).alloc (Nat.le_refl _) _
 have k4 : Blk W5 W4.heap.size 45 #[.bool true, .slice A4 1 c4, .int .i64 2, .bool true] := by rw [hW5]; exact Blk.new W4 _ _
 rw [← hW5]
 have HL5 := Lib.hid (HL4.out.on hb5)
 have HB5 := Lib.hid (bltB HB4.out HB4.out.size hb5)
 clear hW5 hb5 HL4 HB4
 have y0 := k4.cell 0
 have y1 := k4.cell 1
 have y2 := k4.cell 2
 have y3 := k4.cell 3
 simp at y0 y1 y2 y3
 have HPO : Hid (∀ s ∈ RS, 0 ≤ s.h0 ∧ 0 ≤ s.h1) := Lib.hid (fun s hs => by have := HSO.out s hs; omega)
 go_wp2_with fail
 refine (worth_any W5 p go co bs4 bh ns4 _ RS 0 HL5.out 0 (by omega) HPO.out (HOW.out 0 (by omega)) (by rw [HW.out.1]; omega)).mono ?_
 rintro y W6 ⟨rfl, hb⟩
 rw [HW.out.1]
 have HL6 := Lib.hid (HL5.out.on hb)
 have HB6 := Lib.hid (bltB HB5.out HB5.out.size hb)
 clear hb HL5 HB5
 go_wp2_with fail
 refine (worth_any W6 p go co bs4 bh ns4 _ RS 0 HL6.out 3 (by omega) HPO.out (HOW.out 3 (by omega)) (by rw [HW.out.2.2.2]; omega)).mono ?_
 rintro y W7 ⟨rfl, hb⟩
 rw [HW.out.2.2.2]
 have HL7 := Lib.hid (HL6.out.on hb)
 have HB7 := Lib.hid (bltB HB6.out HB6.out.size hb)
 clear hb HL6 HB6
 go_wp2_with fail
 refine (worth_any W7 p go co bs4 bh ns4 _ RS 0 HL7.out 2 (by omega) HPO.out (HOW.out 2 (by omega)) (by rw [HW.out.2.2.1]; omega)).mono ?_
 rintro y W8 ⟨rfl, hb⟩
 rw [HW.out.2.2.1]
 have HL8 := Lib.hid (HL7.out.on hb)
 have HB8 := Lib.hid (bltB HB7.out HB7.out.size hb)
 clear hb HL7 HB7
 go_wp2_with fail
 refine (worth_any W8 p go co bs4 bh ns4 _ RS 0 HL8.out 1 (by omega) HPO.out (HOW.out 1 (by omega)) (by rw [HW.out.2.1]; omega)).mono ?_
 rintro y W9 ⟨rfl, hb⟩
 rw [HW.out.2.1]
 have HL9 := Lib.hid (HL8.out.on hb)
 have HB9 := Lib.hid (bltB HB8.out HB8.out.size hb)
 clear hb HL8 HB8
 go_wp2_with fail
 refine (lost_any W9 p go co bs4 bh ns4 _ RS 0 HL9.out).mono ?_
 rintro y _ ⟨rfl, rfl⟩
 go_wp2_with fail
 go_ret
 exact ⟨rfl, HB9.out⟩
end Go.Proofs.YthefgdehfgkhhaaGreat
namespace Go.Proofs.YthefgdehfgkhhaaGreat
set_option linter.unusedVariables false
set_option linter.unusedSimpArgs false
def unitQ (q : Rat) : Prop := 0 ≤ q ∧ q ≤ 1
theorem unit_one : unitQ 1 := ⟨by decide, Rat.le_refl⟩
theorem unit_mul {a b : Rat} (ha : unitQ a) (hb : unitQ b) : unitQ (a * b) := by
 refine ⟨Rat.mul_nonneg ha.1 hb.1, ?_⟩
 have h := Rat.mul_le_mul_of_nonneg_left hb.2 ha.1
 rw [Rat.mul_one] at h
 exact Rat.le_trans h ha.2
theorem unit_both {a b : Rat} (ha : unitQ a) (hb : unitQ b) (h : a * b = 1) : a = 1 ∧ b = 1 := by
 have h1 := Rat.mul_le_mul_of_nonneg_left hb.2 ha.1
 have h2 := Rat.mul_le_mul_of_nonneg_left ha.2 hb.1
 rw [Rat.mul_one, h] at h1
 rw [Rat.mul_one, Rat.mul_comm, h] at h2
 exact ⟨Rat.le_antisymm ha.2 h1, Rat.le_antisymm hb.2 h2⟩
theorem mk_one (D : Nat) (h : 0 < D) : mkRat (D : Nat) D = 1 := by
 have : (1 : Rat) = mkRat 1 1 := rfl
 rw [this, Rat.mkRat_eq_iff (by omega) (by decide)]
 omega
theorem mk_unit {N D : Nat} (h : N ≤ D) (h0 : 0 < D) : unitQ (mkRat (N : Nat) D) := by
 refine ⟨q_ge0 _ _, ?_⟩
 rw [← mk_one D h0]
 exact (le_q D D N D h0 h0).2 (Nat.mul_le_mul_right _ h)
theorem mk_eq_one {N D : Nat} (h0 : 0 < D) (h : mkRat (N : Nat) D = 1) : N = D := by
 have e : (1 : Rat) = mkRat 1 1 := rfl
 rw [e, Rat.mkRat_eq_iff (by omega) (by decide)] at h
 omega
/-! The odds of one edge. -/
theorem odd_bounds {L : Notes} (hg : Good L) {e : Ed} (hr : 0 < e.r) (x : Int) : 0 < oD L e.e4 ∧ oN L e.e4 x ≤ oD L e.e4 := by
 have e2 : e.e4.r = e.r := rfl
 have := odd_bd hg (e := e.e4) (x := x) (by rw [e2]; exact hr)
 unfold oN oD
 omega
theorem odd_unit {L : Notes} (hg : Good L) {e : Ed} (hr : 0 < e.r) (x : Int) : unitQ (oddQ L e x) := by
 obtain ⟨h1, h2⟩ := odd_bounds hg hr x
 exact mk_unit h2 h1
theorem odd_sure {L : Notes} (hg : Good L) {e : Ed} (hr : 0 < e.r) {x : Int} (h : oddQ L e x = 1) : x ≤ (cnt L (e.f, e.c) e.r).1 := by
 obtain ⟨h1, h2⟩ := odd_bounds hg hr x
 have h3 := mk_eq_one h1 h
 have hc := cnt_ok hg (e.f, e.c) hr
 unfold oN oD oddN oddD at h3
 have e1 : (e.e4.f, e.e4.c) = (e.f, e.c) := rfl
 have e2 : e.e4.r = e.r := rfl
 rw [e1, e2] at h3
 omega
theorem odd_certain {L : Notes} (hg : Good L) {e : Ed} (hr : 0 < e.r) {x : Int} (h : x ≤ (cnt L (e.f, e.c) e.r).1) : oddQ L e x = 1 := by
 obtain ⟨h1, h2⟩ := odd_bounds hg hr x
 have hc := cnt_ok hg (e.f, e.c) hr
 have h3 : oN L e.e4 x = oD L e.e4 := by
  unfold oN oD oddN oddD
  have e1 : (e.e4.f, e.e4.c) = (e.f, e.c) := rfl
  have e2 : e.e4.r = e.r := rfl
  rw [e1, e2]
  congr 1
  omega
 unfold oddQ
 rw [h3]
 exact mk_one _ h1
theorem odds_cons (L : Notes) (e : Ed) (es : List Ed) (x : Int) (xs : List Int) (q : Rat) : oddsL L (e :: es) (x :: xs) q = oddsL L es xs (q * oddQ L e x) := by rw [oddsL]
theorem odds_unit {L : Notes} (hg : Good L) : ∀ (es : List Ed) (xs : List Int) (q : Rat), (∀ e ∈ es, 0 < e.r) → unitQ q → unitQ (oddsL L es xs q)
 | [], xs, q, _, hq => by cases xs <;> exact hq
 | e :: es, [], q, _, hq => hq
 | e :: es, x :: xs, q, hr, hq => by
  rw [odds_cons]
  exact odds_unit hg es xs _ (fun b hb => hr b (List.mem_cons_of_mem _ hb)) (unit_mul hq (odd_unit hg (hr e (List.mem_cons_self ..)) x))
theorem odds_sure {L : Notes} (hg : Good L) : ∀ (es : List Ed) (xs : List Int) (q : Rat), (∀ e ∈ es, 0 < e.r) → unitQ q → oddsL L es xs q = 1 → q = 1 ∧ ∀ (i : Nat) (e : Ed) (x : Int), es[i]? = some e → xs[i]? = some x → x ≤ (cnt L (e.f, e.c) e.r).1
 | [], xs, q, _, _, h => ⟨by cases xs <;> exact h, fun i e x he => by simp at he⟩
 | e :: es, [], q, _, _, h => ⟨h, fun i e x _ hx => by simp at hx⟩
 | e :: es, x :: xs, q, hr, hq, h => by
  have hr0 := hr e (List.mem_cons_self ..)
  have hu := odd_unit hg hr0 x
  rw [odds_cons] at h
  obtain ⟨h1, h2⟩ := odds_sure hg es xs _ (fun b hb => hr b (List.mem_cons_of_mem _ hb)) (unit_mul hq hu) h
  obtain ⟨h3, h4⟩ := unit_both hq hu h1
  refine ⟨h3, fun i e' x' he hx => ?_⟩
  cases i with
  | zero =>
   simp at he hx
   subst he hx
   exact odd_sure hg hr0 h4
  | succ i => exact h2 i e' x' (by simpa using he) (by simpa using hx)
/-! What is certain is there. -/
theorem low_has {S : List Cn} {g : List Ed} {L : Notes} (hg : GInv S g) (hT : TrueW S L) {e : Ed} (he : e ∈ g) (hb : edgeB e = true) : (cnt L (e.f, e.c) e.r).1 ≤ hasF S e := by
 obtain ⟨s, hs⟩ := ginv_ch hg he hb
 have ht := hT s (lookS_mem hs.look).1
 have hc : s.c = e.c := (lookS_mem hs.look).2
 unfold Tr at ht
 rw [hc, hs.room] at ht
 rcases hs.has with ⟨a, b, h1, _⟩ | ⟨a, b, h1, _⟩
 ·rw [a, b] at ht
  rw [h1]
  exact ht.1.1
 ·rw [a, b] at ht
  rw [h1]
  exact ht.2.1
theorem no_lacks (S : List Cn) : ∀ (es : List Ed) (xs : List Int) (i : Int), (∀ (j : Nat) (e : Ed) (x : Int), es[j]? = some e → xs[j]? = some x → x ≤ hasF S e) → lacksF S es xs i = -1
 | [], xs, i, _ => by cases xs <;> rfl
 | e :: es, [], i, _ => rfl
 | e :: es, x :: xs, i, h => by
  have h0 := h 0 e x rfl rfl
  rw [lacks_cons, if_neg (by omega)]
  exact no_lacks S es xs (i + 1) (fun j e' x' h1 h2 => h (j + 1) e' x' (by simpa using h1) (by simpa using h2))
/-- The plan's own mind, as the parts are sent in it, is true as well. -/
theorem sent_cons (L : Notes) (e : Ed) (es : List Ed) (x : Int) (xs : List Int) : sentL L (e :: es) (x :: xs) = sentL (moveL (passL L e.e4 x) e.e4 x) es xs := by rw [sentL]
theorem sent_true (S0 : List Cn) : ∀ (es : List Ed) (xs : List Int) (S' : List Cn) (L : Notes) (S2 : List Cn), (S'.Pairwise fun a b => a.c ≠ b.c) → TrueW S' L → (∀ e ∈ es, (∃ s, Ch S' e s) ∧ sideF S0 e = sideF S' e ∧ e.e4.ok = true) → (es.Pairwise fun a b => a.c ≠ b.c) → (∀ x ∈ xs, 0 < x) → payF S' (legsF S0 false es xs) = some S2 → TrueW S2 (sentL L es xs)
 | [], xs, S', L, S2, ho, hT, hc, hd, hx, hp => by
  have : S2 = S' := by cases xs <;> simp [legsF, payF] at hp <;> exact hp.symm
  subst this
  cases xs <;> exact hT
 | e :: es, [], S', L, S2, ho, hT, hc, hd, hx, hp => by
  simp [legsF, payF] at hp
  subst hp
  exact hT
 | e :: es, x :: xs, S', L, S2, ho, hT, hc, hd, hx, hp => by
  obtain ⟨⟨s, hs⟩, hside, hok⟩ := hc e (List.mem_cons_self ..)
  rw [List.pairwise_cons] at hd
  have h0 := hx x (List.mem_cons_self ..)
  rw [legsF, pay_cons _ _ _ (show lookS S' (legF S0 false e x).c = some s from hs.look)] at hp
  split at hp
  ·simp at hp
  ·rename_i hh
   have hhas : haveS s (legF S0 false e x).s = hasF S' e := by
    rw [hasF_eq hs.look, ← hside]
    rfl
   rw [hhas] at hh
   have hxe : x ≤ hasF S' e := by have : (legF S0 false e x).a = x := rfl; omega
   have hxr : x ≤ e.r := by
    have := hs.pos
    have := hs.room
    rcases hs.has with ⟨_, _, h, _⟩ | ⟨_, _, h, _⟩ <;> omega
   have hmc : (moveS s (legF S0 false e x)).c = e.c := by rw [move_c]; exact (lookS_mem hs.look).2
   rw [sent_cons]
   refine sent_true S0 es xs _ _ S2 (once_putS ho _) (move_true ho (pass_true ho hT hs hxe) hs hxe h0 (may_of hok h0 hxr) ⟨hside, rfl⟩) (fun b hb => ?_) hd.2 (fun y hy => hx y (List.mem_cons_of_mem _ hy)) hp
   obtain ⟨⟨t, ht⟩, h1, h2⟩ := hc b (List.mem_cons_of_mem _ hb)
   have hne : e.c ≠ b.c := hd.1 b hb
   exact ⟨⟨t, ch_put ht (by rw [hmc]; exact hne)⟩, h1.trans (side_look (by rw [lookS_put, if_neg (by rw [hmc]; exact fun e' => hne e'.symm)])), h2⟩
theorem Good.sent {L : Notes} : ∀ (es : List Ed) (xs : List Int) {L : Notes}, Good L → Good (sentL L es xs)
 | [], xs, _, h => by cases xs <;> exact h
 | e :: es, [], _, h => h
 | e :: es, x :: xs, _, h => by
  rw [sent_cons]
  exact Good.sent (L := L) es xs ((h.pass _ _).move _ _)
theorem sends_sure {g : List Ed} {fr td : Int} : ∀ (as_ : List Int) (L : Notes) (q : Rat) (S : List Cn) (r : List Prt × Rat), Good L → GInv S g → TrueW S L → unitQ q → sendsF g fr td 100 L q as_ = some r → unitQ r.2 ∧ (r.2 = 1 → q = 1 ∧ ∀ i, stopF S r.1 i = none)
 | [], L, q, S, r, _, _, _, hq, h => by
  simp [sendsF] at h
  subst h
  exact ⟨hq, fun h1 => ⟨h1, fun i => rfl⟩⟩
 | a :: as_, L, q, S, r, hgd, hg, hT, hq, h => by
  rw [sends_cons] at h
  split at h
  ·simp at h
  ·rename_i P y hs
   rw [Option.map_eq_some_iff] at h
   obtain ⟨r', hr', rfl⟩ := h
   obtain ⟨hp, _, hy, hwy⟩ := send_ok hs
   have hbo := (best_ok hy).2
   obtain ⟨c, hc1, hc2, _⟩ := hbo.cost
   have hcs : c.1 = P.s := by
    have h1 := hp.2
    obtain ⟨_, hpa, _, _⟩ := send_ok hs
    rw [hwy, hpa, hc1] at h1
    injection h1 with h1
    rw [h1]
   have hrm : ∀ e ∈ P.way, 0 < e.r := fun e he => by have := (edge_spec (hp.edge he).2).2.2.2.2.1; omega
   rw [← hwy, hcs] at hc2
   have huy : unitQ y.q := by rw [hc2]; exact odds_unit hgd _ _ _ hrm unit_one
   have hgd2 : Good (sentL L P.way P.s) := Good.sent (L := L) _ _ hgd
   by_cases hone : y.q = 1
   ·obtain ⟨_, hlow⟩ := odds_sure hgd P.way P.s 1 hrm unit_one (hc2.symm.trans hone)
    have hlk : lacksF S P.way P.s 0 = -1 := no_lacks S _ _ _ (fun j e x he hx => Int.le_trans (hlow j e x he hx) (low_has hg hT (hp.edge (List.mem_of_getElem? he)).1 (hp.edge (List.mem_of_getElem? he)).2))
    rcases lacks_iff hg hp with ⟨_, S2, h2⟩ | ⟨hpos, _⟩
    ·have hp1 : pay1 S P = S2 := by unfold pay1; rw [h2]; rfl
     have hT2 : TrueW S2 (sentL L P.way P.s) := sent_true S P.way P.s S L S2 hg.2.2 hT (fun e he => ⟨ginv_ch hg (hp.edge he).1 (hp.edge he).2, rfl, edge_ok (hp.edge he).2⟩) (way_once hg hp.1 hp.way.1) hp.pos h2
     obtain ⟨u1, u2⟩ := sends_sure as_ _ _ S2 r' hgd2 (hg.pay hp false h2) hT2 (unit_mul hq huy) hr'
     refine ⟨u1, fun h1 => ?_⟩
     obtain ⟨v1, v2⟩ := u2 h1
     refine ⟨(unit_both hq huy v1).1, fun i => ?_⟩
     rw [stop_cons, hlk, if_neg (by decide), hp1]
     exact v2 (i + 1)
    ·rw [hlk] at hpos; omega
   ·obtain ⟨u1, u2⟩ : unitQ r'.2 ∧ (r'.2 = 1 → q * y.q = 1) := sends_unit as_ _ _ r' hgd2 (unit_mul hq huy) hr'
    exact ⟨u1, fun h1 => absurd (unit_both hq huy (u2 h1)).2 hone⟩
where
 sends_unit {g : List Ed} {fr td : Int} : ∀ (as_ : List Int) (L : Notes) (q : Rat) (r : List Prt × Rat), Good L → unitQ q → sendsF g fr td 100 L q as_ = some r → unitQ r.2 ∧ (r.2 = 1 → q = 1)
 | [], L, q, r, _, hq, h => by
  simp [sendsF] at h
  subst h
  exact ⟨hq, fun h1 => h1⟩
 | a :: as_, L, q, r, hgd, hq, h => by
  rw [sends_cons] at h
  split at h
  ·simp at h
  ·rename_i P y hs
   rw [Option.map_eq_some_iff] at h
   obtain ⟨r', hr', rfl⟩ := h
   obtain ⟨hp, _, hy, hwy⟩ := send_ok hs
   obtain ⟨c, hc1, hc2, _⟩ := (best_ok hy).2.cost
   have hrm : ∀ e ∈ y.way, 0 < e.r := fun e he => by rw [← hwy] at he; have := (edge_spec (hp.edge he).2).2.2.2.2.1; omega
   have huy : unitQ y.q := by rw [hc2]; exact odds_unit hgd _ _ _ hrm unit_one
   obtain ⟨u1, u2⟩ := sends_unit as_ _ _ r' (Good.sent (L := L) _ _ hgd) (unit_mul hq huy) hr'
   exact ⟨u1, fun h1 => (unit_both hq huy (u2 h1)).1⟩
/-- T4: what is known for certain goes at the first try. -/
theorem split_sure {g : List Ed} {fr td a : Int} {N : Nat} {S : List Cn} {L : Notes} {r : List Prt × Rat} (hgd : Good L) (hg : GInv S g) (hT : TrueW S L) (h : splitF L g fr td a 100 (N : Int) = some r) (h1 : r.2 = 1) : stopF S r.1 0 = none := by
 obtain ⟨_, i, _, ht⟩ := split_try h
 unfold tryF at ht
 split at ht
 ·simp at ht
 ·exact ((sends_sure _ L 1 S r hgd hg hT unit_one ht).2 h1).2 0
end Go.Proofs.YthefgdehfgkhhaaGreat
namespace Go.Proofs.YthefgdehfgkhhaaGreat
set_option linter.unusedVariables false
set_option linter.unusedSimpArgs false
/-! Notes stay good. -/
theorem good_note : ∀ (es : List Ed) (xs : List Int) (k : Int) {L : Notes}, Good L → Good (noteF L es xs k)
 | [], xs, k, L, h => by cases xs <;> exact h
 | e :: es, [], k, L, h => h
 | e :: es, x :: xs, k, L, h => by
  rw [note_cons]
  split
  ·exact h.fail _ _
  ·exact good_note es xs _ (h.pass _ _)
theorem good_mv : ∀ (es : List Ed) (xs : List Int) {L : Notes}, Good L → Good (mvL L es xs)
 | [], xs, L, h => by cases xs <;> exact h
 | e :: es, [], L, h => h
 | e :: es, x :: xs, L, h => by
  rw [mv_cons]
  exact good_mv es xs (h.move _ _)
theorem good_ln : ∀ (ps : List Prt) {L : Notes}, Good L → Good (lnF L ps)
 | [], L, h => h
 | P :: ps, L, h => good_ln ps (good_mv _ _ (good_note _ _ _ h))
theorem good_bk : ∀ (ps : List Prt) {L : Notes}, Good L → Good (bkL L ps)
 | [], L, h => h
 | P :: ps, L, h => by
  rw [bk_cons]
  exact good_bk ps (good_mv _ _ h)
/-- How a plan ends: paid by parts that go, or as it was. -/
theorem plan_ends {g : List Ed} {fr td a : Int} {N : Nat} {S : List Cn} : ∀ (f t : Nat) (L : Notes), Good L →
 Good (planF g fr td a (N : Int) f t S L).L ∧ (((planF g fr td a (N : Int) f t S L).paid = false ∧ (planF g fr td a (N : Int) f t S L).parts = [] ∧ (planF g fr td a (N : Int) f t S L).S = S) ∨ ((planF g fr td a (N : Int) f t S L).paid = true ∧ ∃ L0 r, Good L0 ∧ splitF L0 g fr td a 100 (N : Int) = some r ∧ stopF S r.1 0 = none ∧ (planF g fr td a (N : Int) f t S L).parts = r.1 ∧ (planF g fr td a (N : Int) f t S L).S = stF S r.1 ∧ (planF g fr td a (N : Int) f t S L).L = lnF L0 r.1))
 | 0, t, L, hT => ⟨hT, .inl ⟨rfl, rfl, rfl⟩⟩
 | f + 1, t, L, hT => by
  rw [planF]
  cases hs : splitF L g fr td a 100 (N : Int) with
  | none => exact ⟨hT, .inl ⟨rfl, rfl, rfl⟩⟩
  | some r =>
   cases hst : stopF S r.1 0 with
   | none =>
    simp only [hst]
    exact ⟨good_ln _ hT, .inr ⟨by trivial, L, r, hT, hs, hst, rfl, rfl, rfl⟩⟩
   | some k =>
    simp only [hst]
    exact plan_ends f (t + 1) _ (good_bk _ (good_note _ _ _ (good_ln _ hT)))
/-! What was moved over an edge is noted of the way back. -/
theorem mv_other {c u r : Int} : ∀ (es : List Ed) (xs : List Int) (L : Notes), (∀ e ∈ es, e.c ≠ c) → cnt (mvL L es xs) (u, c) r = cnt L (u, c) r
 | [], xs, L, _ => by cases xs <;> rfl
 | e :: es, [], L, _ => rfl
 | e :: es, x :: xs, L, h => by
  rw [mv_cons, mv_other es xs _ (fun b hb => h b (List.mem_cons_of_mem _ hb))]
  have hc := h e (List.mem_cons_self ..)
  have e3 : e.e4.c = e.c := rfl
  unfold moveL
  split
  ·rw [cnt_put, cnt_put, e3, if_neg (fun e' => hc (by injection e' with _ q; exact q.symm)), if_neg (fun e' => hc (by injection e' with _ q; exact q.symm))]
  ·rfl
theorem move_low {L : Notes} (hg : Good L) {e : Ed} {x : Int} (hm : e.e4.may x = true) (hr : x ≤ e.r) (h0 : 0 < x) : x ≤ (cnt (moveL L e.e4 x) (e.t, e.c) e.r).1 := by
 have hc := cnt_ok hg (e.t, e.c) (show 0 < e.r by omega)
 have e1 : e.e4.t = e.t := rfl
 have e2 : e.e4.c = e.c := rfl
 have e3 : e.e4.r = e.r := rfl
 unfold moveL
 rw [if_pos hm, cnt_put, e1, e2, e3, if_pos rfl]
 unfold cnt1
 dsimp only
 omega
theorem mv_low : ∀ (es : List Ed) (xs : List Int) (L : Notes), Good L → (es.Pairwise fun a b => a.c ≠ b.c) → (∀ (i : Nat) (e : Ed) (x : Int), es[i]? = some e → xs[i]? = some x → e.e4.may x = true ∧ x ≤ e.r ∧ 0 < x) → ∀ (i : Nat) (e : Ed) (x : Int), es[i]? = some e → xs[i]? = some x → x ≤ (cnt (mvL L es xs) (e.t, e.c) e.r).1
 | [], xs, L, _, _, _, i, e, x, h, _ => by simp at h
 | b :: es, [], L, _, _, _, i, e, x, _, h => by simp at h
 | b :: es, y :: xs, L, hg, hd, hm, i, e, x, he, hx => by
  rw [List.pairwise_cons] at hd
  rw [mv_cons]
  cases i with
  | zero =>
   simp at he hx
   subst he hx
   obtain ⟨h1, h2, h3⟩ := hm 0 b y rfl rfl
   rw [mv_other es xs _ (fun d hd' => (hd.1 d hd').symm)]
   exact move_low hg h1 h2 h3
  | succ i => exact mv_low es xs _ (hg.move _ _) hd.2 (fun j e' x' h1 h2 => hm (j + 1) e' x' (by simpa using h1) (by simpa using h2)) i e x (by simpa using he) (by simpa using hx)
/-- What a part sends is no more than its edges' rooms. -/
theorem sent_room {S : List Cn} {g : List Ed} {P : Prt} (hg : GInv S g) (hp : POk g P) (hl : lacksF S P.way P.s 0 < 0) {i : Nat} {e : Ed} {x : Int} (he : P.way[i]? = some e) (hx : P.s[i]? = some x) : x ≤ hasF S e ∧ hasF S e ≤ e.r := by
 obtain ⟨s, hs⟩ := ginv_ch hg (hp.edge (List.mem_of_getElem? he)).1 (hp.edge (List.mem_of_getElem? he)).2
 refine ⟨lacks_all P.way P.s 0 (Int.le_refl _) hl he hx, ?_⟩
 have h1 := hs.pos
 have h2 := hs.room
 rcases hs.has with ⟨_, _, h, _⟩ | ⟨_, _, h, _⟩ <;> omega
where
 lacks_all {S : List Cn} : ∀ (es : List Ed) (xs : List Int) (k : Int), 0 ≤ k → lacksF S es xs k < 0 → ∀ {i : Nat} {e : Ed} {x : Int}, es[i]? = some e → xs[i]? = some x → x ≤ hasF S e
  | [], xs, k, _, _, i, e, x, h, _ => by simp at h
  | b :: es, [], k, _, _, i, e, x, _, h => by simp at h
  | b :: es, y :: xs, k, hk, hl, i, e, x, he, hx => by
   rw [lacks_cons] at hl
   split at hl
   ·omega
   ·cases i with
    | zero =>
     simp at he hx
     subst he hx
     omega
    | succ i => exact lacks_all es xs (k + 1) (by omega) hl (by simpa using he) (by simpa using hx)
/-- T4: what was settled in one part is known to come back, and comes back. -/
theorem one_back {g : List Ed} {fr td a : Int} {S : List Cn} {f t : Nat} {L : Notes} (hgd : Good L) (hg : GInv S g) (h : (planF g fr td a ((1 : Nat) : Int) f t S L).paid = true) :
 ∃ P, (planF g fr td a ((1 : Nat) : Int) f t S L).parts = [P] ∧ POk g P ∧ GInv (planF g fr td a ((1 : Nat) : Int) f t S L).S g ∧
  (∀ (i : Nat) (e : Ed) (x : Int), P.way[i]? = some e → P.s[i]? = some x → oddOk (backE e).e4 x = true ∧ oddQ (planF g fr td a ((1 : Nat) : Int) f t S L).L (backE e) x = 1) ∧
  payF (planF g fr td a ((1 : Nat) : Int) f t S L).S (legsF (planF g fr td a ((1 : Nat) : Int) f t S L).S true P.way P.s) = some S := by
 obtain ⟨hG, hE⟩ := plan_ends (g := g) (fr := fr) (td := td) (a := a) (N := 1) (S := S) f t L hgd
 generalize planF g fr td a ((1 : Nat) : Int) f t S L = R at h hG hE ⊢
 rcases hE with ⟨hE, _⟩ | ⟨_, L0, r, hL0, hs, hst, hps, hS, hL⟩
 ·rw [h] at hE; cases hE
 ·obtain ⟨hp, _⟩ := split_ok hs
  obtain ⟨_, i, hi, ht⟩ := split_try hs
  have hlen : r.1.length = 1 := by
   have hi0 : i = 0 := by omega
   subst hi0
   unfold tryF at ht
   split at ht
   ·simp at ht
   ·rename_i sh hsh
    have h1 := (sends_ok _ _ _ _ ht).2
    have h2 := (shares_len hsh).1
    have : ((0 : Nat) : Int) + 1 = 1 := rfl
    rw [this] at h2
    omega
  obtain ⟨rp, rq⟩ := r
  dsimp only at hp hlen hst hps hS hL
  match rp, hlen with
  | [P], _ =>
   have hP := hp P (List.mem_cons_self ..)
   have hl : lacksF S P.way P.s 0 < 0 := by
    have := stop_none _ _ _ hst 0 P rfl
    simpa [stF] using this
   rcases lacks_iff hg hP with ⟨_, S2, h2⟩ | ⟨hpos, _⟩
   ·have hS2 : R.S = S2 := by
     rw [hS]
     show pay1 S P = S2
     unfold pay1
     rw [h2]
     rfl
    refine ⟨P, hps, hP, by rw [hS2]; exact hg.pay hP false h2, fun i e x he hx => ?_, by rw [hS2]; exact pay_back hg hP h2⟩
    have hem := List.mem_of_getElem? he
    have hrm := sent_room hg hP hl he hx
    have hx0 := hP.pos x (List.mem_of_getElem? hx)
    have hbo := back_edge (hP.edge hem).2
    have hlow : x ≤ (cnt R.L (e.t, e.c) e.r).1 := by
     rw [hL]
     show x ≤ (cnt (mvL (noteF L0 P.way P.s (-1)) P.way P.s) (e.t, e.c) e.r).1
     exact mv_low P.way P.s _ (good_note _ _ _ hL0) (way_once hg hP.1 hP.way.1) (fun j e' x' h1 h2 => by
      have hr' := sent_room hg hP hl h1 h2
      have h0' := hP.pos x' (List.mem_of_getElem? h2)
      exact ⟨may_of (edge_ok (hP.edge (List.mem_of_getElem? h1)).2) h0' (by omega), by omega, h0'⟩) i e x he hx
    have e3 : (backE e).e4.r = e.r := rfl
    refine ⟨?_, odd_certain hG (e := backE e) (by show 0 < e.r; omega) hlow⟩
    unfold oddOk
    rw [hbo, e3, decide_eq_true (by omega : (0 : Int) ≤ x), decide_eq_true (by omega : x ≤ e.r)]
    rfl
   ·omega
end Go.Proofs.YthefgdehfgkhhaaGreat
