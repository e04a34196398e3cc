/-
  Add: the digits of the sum.
-/
import Derived.Test.YthkgeafidbihmaaGreatDoorMake
namespace Go.Proofs.YthkgeafidbihmaaGreatDoor
open Go.RowKit
set_option linter.unusedVariables false
set_option linter.unusedSimpArgs false

/-- One digit more of a sum. -/
theorem add_step {k : Nat} {os a b : List Nat} {cr : Nat} (ho : os.length = k) (h : val os + 4294967296 ^ k * cr = val (a.take k) + val (b.take k)) (s : Nat) (hs : s = a.getD k 0 + b.getD k 0 + cr) :
    val (os ++ [s % 4294967296]) + 4294967296 ^ (k + 1) * (s / 4294967296) = val (a.take (k + 1)) + val (b.take (k + 1)) := by
  rw [val_snoc, val_take_succ, val_take_succ, ho, Nat.pow_succ, Nat.mul_assoc]
  have e : s = s % 4294967296 + 4294967296 * (s / 4294967296) := by omega
  have e2 : 4294967296 ^ k * s = 4294967296 ^ k * (s % 4294967296) + 4294967296 ^ k * (4294967296 * (s / 4294967296)) := by rw [← Nat.mul_add, ← e]
  rw [hs, Nat.mul_add, Nat.mul_add] at e2
  rw [← hs] at e2
  omega

theorem add_end {n : Nat} {os a b : List Nat} {cr : Nat} (ho : os.length = n) (ha : a.length = n) (hb : b.length ≤ n) (h : val os + 4294967296 ^ n * cr = val (a.take n) + val (b.take n)) : val (os ++ [cr]) = val a + val b := by
  rw [List.take_of_length_le (by omega), List.take_of_length_le (by omega)] at h
  rw [val_snoc, ho, h]

set_option maxRecDepth 100000 in
theorem add_any (w : World) (A1 A2 : Option Addr) (n1 c1 n2 c2 : Nat) (l1 l2 : List Nat) (h1 : Rd w w.heap.size A1 n1 c1 l1) (h2 : Rd w w.heap.size A2 n2 c2 l2) (hn1 : n1 ≤ 65536) (hn2 : n2 ≤ 65536) :
    Calls Tryz.prog 39 #[.slice A1 n1 c1, .slice A2 n2 c2] w (RetN w (tv l1 + tv l2)) := by
  go_enter Tryz.func39, Tryz.ntmps39
  go_wp2_with fail
  refine (taken_any _ _ A1 n1 c1 l1 h1 (by omega)).mono ?_
  rintro e w' ⟨⟨P1, m1, d1, rfl, hm1, r1⟩, rfl⟩
  go_wp2_with fail
  refine (taken_any _ _ A2 n2 c2 l2 h2 (by omega)).mono ?_
  rintro e w' ⟨⟨P2, m2, d2, rfl, hm2, r2⟩, rfl⟩
  have hm1 : m1 ≤ 65536 := by omega
  have hm2 : m2 ≤ 65536 := by omega
  clear h1 h2
  generalize tv l1 = X1 at *
  generalize tv l2 = X2 at *
  by_cases hsw : m1 < m2
  · have hfin : ∀ (wr : World) (os : List Nat) (cr : Nat), os.length = m2 → Dig os → cr ≤ 1 → val os + 4294967296 ^ m2 * cr = val ((digs X2).take m2) + val ((digs X1).take m2) → ∀ (e : Ending) (w1 : World), HasD w1 w1.heap.size (m2 + 1) (val (os ++ [cr])) e → Below w.heap.size w w1 → RetN w (X1 + X2) e w1 := by
      intro wr os cr ho hd hc hv e w1 hh hb
      have := add_end ho r2.len (by rw [r1.len]; omega) hv
      rw [val_digs, val_digs] at this
      rw [this] at hh
      rw [show X1 + X2 = X2 + X1 by omega]
      exact hh.ret hb
    have HF := Lib.hid hfin
    have HS : Hid (∀ k, m1 ≤ k → (digs X1).getD k 0 = 0) := Lib.hid (fun k hk => getD_zero_of_ge (by rw [r1.len]; exact hk))
    have hdL := dig_digs X2
    have hdS := dig_digs X1
    clear hfin
    generalize digs X2 = lL at *
    generalize digs X1 = lS at *
    clear hn1 hn2
    have hmk := make_u32 ((m2 : Int) + 1) (m2 + 1) (by omega) (by omega)
    have hL1 := r2.at_
    have hS1 := r1.at_
    have HR := Lib.hid (And.intro hL1 (And.intro hS1 (And.intro hdL hdS)))
    clear hL1 hS1 hdL hdS r1 r2
    go_wp2_with fail
    have hsz : w.heap.size < (w.alloc (.cells (cells (List.replicate (m2 + 1) 0)) 38)).heap.size := by simp
    go_loopw [6, 26] (fun cv iv wr => ∃ (k : Nat) (os : List Nat) (cr : Nat), k ≤ m2 ∧ iv = .int .i64 k ∧ cv = .int .u32 (cr : Int) ∧ cr ≤ 1 ∧ Hid (os.length = k) ∧ Dig os ∧
        Hid (val os + 4294967296 ^ k * cr = val (lL.take k) + val (lS.take k)) ∧ Hid (Blk wr w.heap.size 38 (cells (os ++ List.replicate (m2 + 1 - k) 0))) ∧ Below w.heap.size w wr) (fun _ iv _ => m2 - (intOf iv).toNat)
    case atStart => exact ⟨0, [], 0, Nat.zero_le _, rfl, rfl, Nat.zero_le _, rfl, Dig.nil, by simp [Hid, val], Lib.hid (by rw [List.nil_append]; exact Blk.new _ _ _), (Below.refl _ _).alloc (Nat.le_refl _) _⟩
    case round =>
      obtain ⟨k, os, cr, hk, rfl, rfl, hcr, HO, hdo, HV, HB, hbel⟩ := hrel
      by_cases hlt : k < m2
      · obtain ⟨b, off, rfl, hbb, hcell⟩ := HR.out.1 (by omega)
        have hcL := (hbel.cell (p := ⟨b, off + k, none⟩) hbb).trans (hcell k hlt)
        have hxL := HR.out.2.2.1.getD k
        have hxS := HR.out.2.2.2.getD k
        obtain ⟨x, hx⟩ : ∃ x, lL.getD k 0 = x := ⟨_, rfl⟩
        obtain ⟨y, hy⟩ : ∃ y, lS.getD k 0 = y := ⟨_, rfl⟩
        have HXY := Lib.hid (And.intro hx hy)
        rw [hx] at hcL hxL
        rw [hy] at hxS
        have hb0 : wr.cell? ⟨w.heap.size, k, none⟩ = some (.int .u32 ((os ++ List.replicate (m2 + 1 - k) 0).getD k 0 : Nat)) := by
          rw [HB.out.cell, cells_in _ _ _ (by rw [HO.out]; omega)]
        have hf0 := HB.out.frozen k
        have HB2 : Hid (Blk (wr.setCell ⟨w.heap.size, k, none⟩ (.int .u32 (((x + y + cr) % 4294967296 : Nat) : Int))) w.heap.size 38 (cells ((os ++ [(x + y + cr) % 4294967296]) ++ List.replicate (m2 + 1 - (k + 1)) 0))) := by
          have := HB.out.set_ k (.int .u32 (((x + y + cr) % 4294967296 : Nat) : Int))
          rw [show m2 + 1 - k = (m2 + 1 - (k + 1)) + 1 by omega] at this
          have e := cells_step os (m2 + 1 - (k + 1)) ((x + y + cr) % 4294967296)
          rw [HO.out] at e
          rw [e] at this
          exact this
        have HV2 : Hid (val (os ++ [(x + y + cr) % 4294967296]) + 4294967296 ^ (k + 1) * ((x + y + cr) / 4294967296) = val (lL.take (k + 1)) + val (lS.take (k + 1))) := add_step HO.out HV.out _ (by rw [HXY.out.1, HXY.out.2])
        have hbel2 := hbel.setCell (p := ⟨w.heap.size, k, none⟩) (Nat.le_refl _) (.int .u32 (((x + y + cr) % 4294967296 : Nat) : Int))
        clear hx hy hcell
        generalize (os ++ List.replicate (m2 + 1 - k) 0).getD k 0 = old at *
        by_cases hks : k < m1
        · obtain ⟨b2, off2, rfl, hbb2, hcell2⟩ := HR.out.2.1 (by omega)
          have hcS := (hbel.cell (p := ⟨b2, off2 + k, none⟩) hbb2).trans (hcell2 k hks)
          rw [HXY.out.2] at hcS
          clear hcell2
          have hq : (x + y + cr) / 4294967296 ≤ 1 := by omega
          go_wp2_with fail
          refine (add32_any x y cr _ hxL hxS hcr).mono ?_
          rintro e w1 ⟨rfl, rfl⟩
          go_wp2_with fail
          go_roundw
          case rel => exact ⟨k + 1, _, _, by omega, by go_num, rfl, hq, Lib.hid (by rw [List.length_append, HO.out]; rfl), hdo.append (Dig.cons (Nat.mod_lt _ (by decide)) Dig.nil), HV2, HB2, hbel2⟩
          case measure => simp [intOf]; omega
        · have hy0 : y = 0 := by rw [← HXY.out.2]; exact HS.out k (by omega)
          subst hy0
          have hq : (x + 0 + cr) / 4294967296 ≤ 1 := by omega
          go_wp2_with fail
          refine (add32_any x 0 cr _ hxL hxS hcr).mono ?_
          rintro e w1 ⟨rfl, rfl⟩
          go_wp2_with fail
          go_roundw
          case rel => exact ⟨k + 1, _, _, by omega, by go_num, rfl, hq, Lib.hid (by rw [List.length_append, HO.out]; rfl), hdo.append (Dig.cons (Nat.mod_lt _ (by decide)) Dig.nil), HV2, HB2, hbel2⟩
          case measure => simp [intOf]; omega
      · obtain rfl : k = m2 := by omega
        have hb0 : wr.cell? ⟨w.heap.size, k, none⟩ = some (.int .u32 ((os ++ List.replicate (k + 1 - k) 0).getD k 0 : Nat)) := by
          rw [HB.out.cell, cells_in _ _ _ (by rw [HO.out]; omega)]
        have hf0 := HB.out.frozen k
        have hB2 : Blk (wr.setCell ⟨w.heap.size, k, none⟩ (.int .u32 (cr : Int))) w.heap.size 38 (cells (os ++ [cr])) := by
          have := HB.out.set_ k (.int .u32 (cr : Int))
          rw [show k + 1 - k = 0 + 1 by omega] at this
          have e := cells_step os 0 cr
          rw [HO.out, List.replicate_zero, List.append_nil] at e
          rw [e] at this
          exact this
        have hr := Rd.of_blk hB2 (hdo.append (Dig.cons (show cr < 4294967296 by omega) Dig.nil))
        have hl : (os ++ [cr]).length = k + 1 := by rw [List.length_append, HO.out]; rfl
        rw [hl] at hr
        have hbel2 := hbel.setCell (p := ⟨w.heap.size, k, none⟩) (Nat.le_refl _) (.int .u32 (cr : Int))
        have HG := Lib.hid (HF.out wr os cr HO.out hdo hcr HV.out)
        have HRR := Lib.hid hr
        clear hl hr hB2
        generalize (os ++ List.replicate (k + 1 - k) 0).getD k 0 = old at *
        go_wp2_with fail
        refine (low_any _ _ _ _ _ _ HRR.out (by omega)).mono ?_
        rintro e w1 ⟨⟨P, mm, dd, rfl, hmm, rr⟩, rfl⟩
        go_wp2_with fail
        go_ret
        exact HG.out _ _ ⟨_, _, _, rfl, hmm, rr⟩ hbel2
  · have hfin : ∀ (wr : World) (os : List Nat) (cr : Nat), os.length = m1 → Dig os → cr ≤ 1 → val os + 4294967296 ^ m1 * cr = val ((digs X1).take m1) + val ((digs X2).take m1) → ∀ (e : Ending) (w1 : World), HasD w1 w1.heap.size (m1 + 1) (val (os ++ [cr])) e → Below w.heap.size w w1 → RetN w (X1 + X2) e w1 := by
      intro wr os cr ho hd hc hv e w1 hh hb
      have := add_end ho r1.len (by rw [r2.len]; omega) hv
      rw [val_digs, val_digs] at this
      rw [this] at hh
      rw [show X1 + X2 = X1 + X2 by omega]
      exact hh.ret hb
    have HF := Lib.hid hfin
    have HS : Hid (∀ k, m2 ≤ k → (digs X2).getD k 0 = 0) := Lib.hid (fun k hk => getD_zero_of_ge (by rw [r2.len]; exact hk))
    have hdL := dig_digs X1
    have hdS := dig_digs X2
    clear hfin
    generalize digs X1 = lL at *
    generalize digs X2 = lS at *
    clear hn1 hn2
    have hmk := make_u32 ((m1 : Int) + 1) (m1 + 1) (by omega) (by omega)
    have hL1 := r1.at_
    have hS1 := r2.at_
    have HR := Lib.hid (And.intro hL1 (And.intro hS1 (And.intro hdL hdS)))
    clear hL1 hS1 hdL hdS r1 r2
    go_wp2_with fail
    have hsz : w.heap.size < (w.alloc (.cells (cells (List.replicate (m1 + 1) 0)) 38)).heap.size := by simp
    go_loopw [6, 26] (fun cv iv wr => ∃ (k : Nat) (os : List Nat) (cr : Nat), k ≤ m1 ∧ iv = .int .i64 k ∧ cv = .int .u32 (cr : Int) ∧ cr ≤ 1 ∧ Hid (os.length = k) ∧ Dig os ∧
        Hid (val os + 4294967296 ^ k * cr = val (lL.take k) + val (lS.take k)) ∧ Hid (Blk wr w.heap.size 38 (cells (os ++ List.replicate (m1 + 1 - k) 0))) ∧ Below w.heap.size w wr) (fun _ iv _ => m1 - (intOf iv).toNat)
    case atStart => exact ⟨0, [], 0, Nat.zero_le _, rfl, rfl, Nat.zero_le _, rfl, Dig.nil, by simp [Hid, val], Lib.hid (by rw [List.nil_append]; exact Blk.new _ _ _), (Below.refl _ _).alloc (Nat.le_refl _) _⟩
    case round =>
      obtain ⟨k, os, cr, hk, rfl, rfl, hcr, HO, hdo, HV, HB, hbel⟩ := hrel
      by_cases hlt : k < m1
      · obtain ⟨b, off, rfl, hbb, hcell⟩ := HR.out.1 (by omega)
        have hcL := (hbel.cell (p := ⟨b, off + k, none⟩) hbb).trans (hcell k hlt)
        have hxL := HR.out.2.2.1.getD k
        have hxS := HR.out.2.2.2.getD k
        obtain ⟨x, hx⟩ : ∃ x, lL.getD k 0 = x := ⟨_, rfl⟩
        obtain ⟨y, hy⟩ : ∃ y, lS.getD k 0 = y := ⟨_, rfl⟩
        have HXY := Lib.hid (And.intro hx hy)
        rw [hx] at hcL hxL
        rw [hy] at hxS
        have hb0 : wr.cell? ⟨w.heap.size, k, none⟩ = some (.int .u32 ((os ++ List.replicate (m1 + 1 - k) 0).getD k 0 : Nat)) := by
          rw [HB.out.cell, cells_in _ _ _ (by rw [HO.out]; omega)]
        have hf0 := HB.out.frozen k
        have HB2 : Hid (Blk (wr.setCell ⟨w.heap.size, k, none⟩ (.int .u32 (((x + y + cr) % 4294967296 : Nat) : Int))) w.heap.size 38 (cells ((os ++ [(x + y + cr) % 4294967296]) ++ List.replicate (m1 + 1 - (k + 1)) 0))) := by
          have := HB.out.set_ k (.int .u32 (((x + y + cr) % 4294967296 : Nat) : Int))
          rw [show m1 + 1 - k = (m1 + 1 - (k + 1)) + 1 by omega] at this
          have e := cells_step os (m1 + 1 - (k + 1)) ((x + y + cr) % 4294967296)
          rw [HO.out] at e
          rw [e] at this
          exact this
        have HV2 : Hid (val (os ++ [(x + y + cr) % 4294967296]) + 4294967296 ^ (k + 1) * ((x + y + cr) / 4294967296) = val (lL.take (k + 1)) + val (lS.take (k + 1))) := add_step HO.out HV.out _ (by rw [HXY.out.1, HXY.out.2])
        have hbel2 := hbel.setCell (p := ⟨w.heap.size, k, none⟩) (Nat.le_refl _) (.int .u32 (((x + y + cr) % 4294967296 : Nat) : Int))
        clear hx hy hcell
        generalize (os ++ List.replicate (m1 + 1 - k) 0).getD k 0 = old at *
        by_cases hks : k < m2
        · obtain ⟨b2, off2, rfl, hbb2, hcell2⟩ := HR.out.2.1 (by omega)
          have hcS := (hbel.cell (p := ⟨b2, off2 + k, none⟩) hbb2).trans (hcell2 k hks)
          rw [HXY.out.2] at hcS
          clear hcell2
          have hq : (x + y + cr) / 4294967296 ≤ 1 := by omega
          go_wp2_with fail
          refine (add32_any x y cr _ hxL hxS hcr).mono ?_
          rintro e w1 ⟨rfl, rfl⟩
          go_wp2_with fail
          go_roundw
          case rel => exact ⟨k + 1, _, _, by omega, by go_num, rfl, hq, Lib.hid (by rw [List.length_append, HO.out]; rfl), hdo.append (Dig.cons (Nat.mod_lt _ (by decide)) Dig.nil), HV2, HB2, hbel2⟩
          case measure => simp [intOf]; omega
        · have hy0 : y = 0 := by rw [← HXY.out.2]; exact HS.out k (by omega)
          subst hy0
          have hq : (x + 0 + cr) / 4294967296 ≤ 1 := by omega
          go_wp2_with fail
          refine (add32_any x 0 cr _ hxL hxS hcr).mono ?_
          rintro e w1 ⟨rfl, rfl⟩
          go_wp2_with fail
          go_roundw
          case rel => exact ⟨k + 1, _, _, by omega, by go_num, rfl, hq, Lib.hid (by rw [List.length_append, HO.out]; rfl), hdo.append (Dig.cons (Nat.mod_lt _ (by decide)) Dig.nil), HV2, HB2, hbel2⟩
          case measure => simp [intOf]; omega
      · obtain rfl : k = m1 := by omega
        have hb0 : wr.cell? ⟨w.heap.size, k, none⟩ = some (.int .u32 ((os ++ List.replicate (k + 1 - k) 0).getD k 0 : Nat)) := by
          rw [HB.out.cell, cells_in _ _ _ (by rw [HO.out]; omega)]
        have hf0 := HB.out.frozen k
        have hB2 : Blk (wr.setCell ⟨w.heap.size, k, none⟩ (.int .u32 (cr : Int))) w.heap.size 38 (cells (os ++ [cr])) := by
          have := HB.out.set_ k (.int .u32 (cr : Int))
          rw [show k + 1 - k = 0 + 1 by omega] at this
          have e := cells_step os 0 cr
          rw [HO.out, List.replicate_zero, List.append_nil] at e
          rw [e] at this
          exact this
        have hr := Rd.of_blk hB2 (hdo.append (Dig.cons (show cr < 4294967296 by omega) Dig.nil))
        have hl : (os ++ [cr]).length = k + 1 := by rw [List.length_append, HO.out]; rfl
        rw [hl] at hr
        have hbel2 := hbel.setCell (p := ⟨w.heap.size, k, none⟩) (Nat.le_refl _) (.int .u32 (cr : Int))
        have HG := Lib.hid (HF.out wr os cr HO.out hdo hcr HV.out)
        have HRR := Lib.hid hr
        clear hl hr hB2
        generalize (os ++ List.replicate (k + 1 - k) 0).getD k 0 = old at *
        go_wp2_with fail
        refine (low_any _ _ _ _ _ _ HRR.out (by omega)).mono ?_
        rintro e w1 ⟨⟨P, mm, dd, rfl, hmm, rr⟩, rfl⟩
        go_wp2_with fail
        go_ret
        exact HG.out _ _ ⟨_, _, _, rfl, hmm, rr⟩ hbel2

end Go.Proofs.YthkgeafidbihmaaGreatDoor
