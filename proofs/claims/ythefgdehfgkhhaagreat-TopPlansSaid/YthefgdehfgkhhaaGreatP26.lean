/-
  planAwake: the small case that each statement begins with.
-/
import Derived.Test.YthefgdehfgkhhaaGreatK01
import Derived.Test.YthefgdehfgkhhaaGreatK24
import Derived.Test.YthefgdehfgkhhaaGreatK25
namespace Go.Proofs.YthefgdehfgkhhaaGreat
open Go.RowKit Go.Maps
set_option linter.unusedVariables false
set_option linter.unusedSimpArgs false
attribute [local go_sem] Oper.semAt_some
theorem awk_ok : ∀ l ∈ awkL, l.ok := by
 intro l hl
 simp [awkL] at hl
 rcases hl with rfl | rfl | rfl | rfl <;> exact ⟨⟨by decide, by decide⟩, ⟨by decide, by decide⟩, ⟨by decide, by decide⟩, by decide, by decide⟩
def awkC : Array Value := #[.int .u8 0, .int .u8 1, .int .u16 100, .int .u16 0, .int .u8 0, .int .u8 0, .int .u16 0, .int .u16 0, .int .u8 1, .int .u8 3, .int .u16 10, .int .u16 990, .int .u8 5, .int .u8 5, .int .u16 0, .int .u16 0, .int .u8 0, .int .u8 2, .int .u16 100, .int .u16 0, .int .u8 0, .int .u8 0, .int .u16 0, .int .u16 0, .int .u8 2, .int .u8 3, .int .u16 60, .int .u16 0, .int .u8 7, .int .u8 7, .int .u16 0, .int .u16 0]
theorem awk_cells : awkC.toList = (kcs awkL).flatMap fun a => a.toList := rfl
theorem kcs_wide (ls : List Lk) : ∀ a ∈ kcs ls, a.size = 8 := by
 intro a ha
 obtain ⟨e, _, rfl⟩ := List.mem_map.1 ha
 rfl
theorem awk_row {w : World} {g : Nat} (h : Blk w g 76 awkC) : RK w (some ⟨g, 0, none⟩) 4 awkL :=
 ⟨rfl, fun _ => ⟨g, 0, rfl, h.lt, fun i l hi j v hv => by
  have hi2 : (kcs awkL)[i]? = some l.cs := by unfold kcs; rw [List.getElem?_map, hi]; rfl
  have := flat_at (k := 8) (kcs awkL) (kcs_wide _) i _ hi2 j v hv
  rw [← awk_cells] at this
  rw [h.cell, Nat.zero_add]
  simpa using this⟩⟩
/-- A new ledger and a new mind are where a plan begins. -/
theorem pay_start {w : World} {p go co bs bh ns : Nat} {own : List Int} {S : List Cn} {lost : Int} {pm bm : Nat} (hL : LedAt w p go co bs bh ns own S lost) (hM : MindAt w pm bm 0 []) (h1 : bs ≠ bm) (h2 : bh ≠ bm) {K : Nat} (hn : ns ≤ K) : PayAt w w p go co bh own lost pm bm S [] K :=
 ⟨⟨bs, ns, hn, hL, h1⟩, ⟨0, Nat.zero_le _, hM⟩, Good.nil, h2, Gr.refl _ _⟩
set_option maxRecDepth 100000 in
set_option maxHeartbeats 4000000 in
theorem awake_any (w : World) : Calls Tryz.prog 6 #[] w fun e w' => e = .returned (.bool true) ∧ Below w.heap.size w w' := by
 obtain ⟨W0, hW0⟩ : ∃ W, W = w.alloc (.cells awkC 76) := ⟨_, rfl⟩
 have hB0 : Below w.heap.size w W0 := by rw [hW0]; exact (Below.refl _ _).alloc (Nat.le_refl _) _
 have hrow : RK W0 (some ⟨w.heap.size, 0, none⟩) 4 awkL := awk_row (by rw [hW0]; exact Blk.new w _ _)
 unfold awkC at hW0
 have HB0 := Lib.hid hB0
 have HR := Lib.hid hrow
 clear hB0 hrow
 go_enter Tryz.func6, Tryz.ntmps6
 go_wp2_with fail
 rw [← hW0]
 clear hW0
 refine (net_any W0 _ 4 4 awkL HR.out awk_ok).mono ?_
 rintro y W1 ⟨p, go, co, bs, bh, ns, A, c, rfl, hL, hns, hg, hlen, hb, hpn⟩
 have h8 : (ofG (netO awkL).es).length = 8 := awk_len
 rw [h8] at hg ⊢
 have HL1 := Lib.hid hL
 have HG1 := Lib.hid hg
 have HNS := Lib.hid hns
 have HB1 := Lib.hid (bltB HB0.out HB0.out.size hb)
 have HB0' : Hid (w.heap.size ≤ p) := Lib.hid (Nat.le_trans HB0.out.size hpn)
 clear hL hg hns hb hlen HR h8 HB0 hpn
 go_wp2_with fail
 refine (lnew_any W1).mono ?_
 rintro y W2 ⟨pm, bm, rfl, hM, hpm, hbm, hb⟩
 have HL2 := Lib.hid (HL1.out.on hb)
 have HG2 := Lib.hid (HG1.out.on hb)
 have HM2 := Lib.hid hM
 have HB2 := Lib.hid (bltB HB1.out HB1.out.size hb)
 have HFR : Hid (w.heap.size ≤ p ∧ w.heap.size ≤ bm) := Lib.hid (by have h1 := HB1.out.size; have h2 := HB0'.out; omega)
 have HNE : Hid (bs ≠ bm ∧ bh ≠ bm) := Lib.hid (by
  have h1 := HL1.out.map.lt
  obtain ⟨es, cl, hm, _⟩ := HL1.out.hold
  have h2 := blk_lt hm
  omega)
 clear hM hb hpm hbm HL1 HG1 HB1
 go_wp2_with fail
 refine (gright_any W2 A 8 c _ HG2.out (by omega)).mono ?_
 rintro y W3 ⟨rfl, hb⟩
 rw [show rightG (ofG (netO awkL).es) = true from awk_right]
 have HL3 := Lib.hid (HL2.out.on hb)
 have HG3 := Lib.hid (HG2.out.on hb)
 have HM3 := Lib.hid (HM2.out.on hb)
 have HB3 := Lib.hid (bltB HB2.out HB2.out.size hb)
 clear hb HL2 HG2 HM2 HB2
 go_wp2_with fail
 have HPP := planpay_any W3 p go co bh _ 0 pm bm (netO awkL).S [] 8 (pay_start HL3.out HM3.out HNE.out.1 HNE.out.2 HNS.out) (by omega) A 8 c _ HG3.out (by omega) (net_inv awk_ok) 0 3 50 1 (by omega) (by omega)
 have hT := plan_true (g := ofG (netO awkL).es) (fr := 0) (td := 3) (a := 50) (N := 1) (net_inv awk_ok) 12 0 [] (true_nil (net_inv awk_ok).2.1)
 rw [show planF (ofG (netO awkL).es) 0 3 50 ((1 : Nat) : Int) 12 0 (netO awkL).S [] = awkP from rfl] at HPP hT
 have hpd := awk_paid
 have hwo := awk_worth
 generalize awkP = R at HPP hT hpd hwo
 obtain ⟨Rp, Rps, Rt, RS, RL⟩ := R
 simp only [Prod.mk.injEq] at hpd hwo
 obtain ⟨rfl, rfl, q3⟩ := hpd
 dsimp only at hwo hT q3
 have HW := Lib.hid hwo
 have HSO := Lib.hid hT.2.2.1
 have HOW := Lib.hid (fun q (h : q < 5) => (net_own awk_ok h).1)
 clear hwo hT
 refine HPP.mono ?_
 rintro y W4 ⟨A4, c4, rfl, hrp, hpay⟩
 dsimp only at hrp hpay ⊢
 rw [q3]
 obtain ⟨bs4, ns4, _, hL4, _⟩ := hpay.led
 have HL4 := Lib.hid hL4
 have HB4 : Hid (Below w.heap.size w W4) := Lib.hid (HB3.out.trans (hpay.gr.below (B := w.heap.size) HB3.out.size (fun k hk e => by have h1 := HFR.out; omega)))
 clear hrp hpay hL4 HPP q3 HL3 HG3 HM3 HB3
 go_upto_region 6 with (fail)
 obtain ⟨W5, hW5⟩ : ∃ W, W = W4.alloc (.cells #[.bool true, .slice A4 1 c4, .int .i64 2, .bool true] 45) := ⟨_, rfl⟩
 have hb5 : Below W4.heap.size W4 W5 := by rw [hW5]; exact (Below.refl _ _).alloc (Nat.le_refl _) _
 have k4 : Blk W5 W4.heap.size 45 #[.bool true, .slice A4 1 c4, .int .i64 2, .bool true] := by rw [hW5]; exact Blk.new W4 _ _
 rw [← hW5]
 have HL5 := Lib.hid (HL4.out.on hb5)
 have HB5 := Lib.hid (bltB HB4.out HB4.out.size hb5)
 clear hW5 hb5 HL4 HB4
 have y0 := k4.cell 0
 have y1 := k4.cell 1
 have y2 := k4.cell 2
 have y3 := k4.cell 3
 simp at y0 y1 y2 y3
 have HPO : Hid (∀ s ∈ RS, 0 ≤ s.h0 ∧ 0 ≤ s.h1) := Lib.hid (fun s hs => by have := HSO.out s hs; omega)
 go_wp2_with fail
 refine (worth_any W5 p go co bs4 bh ns4 _ RS 0 HL5.out 0 (by omega) HPO.out (HOW.out 0 (by omega)) (by rw [HW.out.1]; omega)).mono ?_
 rintro y W6 ⟨rfl, hb⟩
 rw [HW.out.1]
 have HL6 := Lib.hid (HL5.out.on hb)
 have HB6 := Lib.hid (bltB HB5.out HB5.out.size hb)
 clear hb HL5 HB5
 go_wp2_with fail
 refine (worth_any W6 p go co bs4 bh ns4 _ RS 0 HL6.out 3 (by omega) HPO.out (HOW.out 3 (by omega)) (by rw [HW.out.2.2.2]; omega)).mono ?_
 rintro y W7 ⟨rfl, hb⟩
 rw [HW.out.2.2.2]
 have HL7 := Lib.hid (HL6.out.on hb)
 have HB7 := Lib.hid (bltB HB6.out HB6.out.size hb)
 clear hb HL6 HB6
 go_wp2_with fail
 refine (worth_any W7 p go co bs4 bh ns4 _ RS 0 HL7.out 2 (by omega) HPO.out (HOW.out 2 (by omega)) (by rw [HW.out.2.2.1]; omega)).mono ?_
 rintro y W8 ⟨rfl, hb⟩
 rw [HW.out.2.2.1]
 have HL8 := Lib.hid (HL7.out.on hb)
 have HB8 := Lib.hid (bltB HB7.out HB7.out.size hb)
 clear hb HL7 HB7
 go_wp2_with fail
 refine (worth_any W8 p go co bs4 bh ns4 _ RS 0 HL8.out 1 (by omega) HPO.out (HOW.out 1 (by omega)) (by rw [HW.out.2.1]; omega)).mono ?_
 rintro y W9 ⟨rfl, hb⟩
 rw [HW.out.2.1]
 have HL9 := Lib.hid (HL8.out.on hb)
 have HB9 := Lib.hid (bltB HB8.out HB8.out.size hb)
 clear hb HL8 HB8
 go_wp2_with fail
 refine (lost_any W9 p go co bs4 bh ns4 _ RS 0 HL9.out).mono ?_
 rintro y _ ⟨rfl, rfl⟩
 go_wp2_with fail
 go_ret
 exact ⟨rfl, HB9.out⟩
end Go.Proofs.YthefgdehfgkhhaaGreat
