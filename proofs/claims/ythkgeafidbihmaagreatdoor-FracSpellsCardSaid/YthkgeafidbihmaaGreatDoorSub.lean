/-
  Sub: the digits of the difference, if there is one.
-/
import Derived.Test.YthkgeafidbihmaaGreatDoorCmp
namespace Go.Proofs.YthkgeafidbihmaaGreatDoor
open Go.RowKit
set_option linter.unusedVariables false
set_option linter.unusedSimpArgs false

/-- One digit more of a difference. -/
theorem sub_step {k : Nat} {os a b : List Nat} {br : Nat} (ho : os.length = k) (h : val os + val (b.take k) = val (a.take k) + 4294967296 ^ k * br) (hx : a.getD k 0 < 4294967296) (hy : b.getD k 0 < 4294967296) (hb : br ≤ 1) :
    val (os ++ [subD (a.getD k 0) (b.getD k 0) br]) + val (b.take (k + 1)) = val (a.take (k + 1)) + 4294967296 ^ (k + 1) * subB (a.getD k 0) (b.getD k 0) br := by
  have hs := sub_eq _ _ _ hx hy hb
  rw [val_snoc, val_take_succ, val_take_succ, ho, Nat.pow_succ, Nat.mul_assoc]
  generalize subD (a.getD k 0) (b.getD k 0) br = d at *
  generalize subB (a.getD k 0) (b.getD k 0) br = q at *
  generalize a.getD k 0 = x at *
  generalize b.getD k 0 = y at *
  have e : 4294967296 ^ k * (d + y + br) = 4294967296 ^ k * (x + 4294967296 * q) := by rw [hs]
  rw [Nat.mul_add, Nat.mul_add, Nat.mul_add] at e
  omega

theorem sub_end {n : Nat} {os a b : List Nat} {br : Nat} (ho : os.length = n) (hd : Dig os) (ha : a.length = n) (hb : b.length ≤ n) (hle : val b ≤ val a) (h : val os + val (b.take n) = val (a.take n) + 4294967296 ^ n * br) : val os = val a - val b := by
  rw [List.take_of_length_le (by omega), List.take_of_length_le (by omega)] at h
  have h1 := val_lt hd
  rw [ho] at h1
  rcases Nat.eq_zero_or_pos br with h0 | h0
  · subst h0; omega
  · have := Nat.mul_le_mul_left (4294967296 ^ n) h0
    omega

/-- A difference is handed back, and whether there is one. -/
def RetS (w : World) (X1 X2 : Nat) (e : Ending) (w' : World) : Prop :=
  ∃ A n c, e = .returned (.tuple #[.slice A n c, .bool (decide (X2 ≤ X1))]) ∧ Rd w' w'.heap.size A n c (digs (X1 - X2)) ∧ Below w.heap.size w w'

set_option maxRecDepth 100000 in
set_option maxHeartbeats 1000000 in
theorem sub_any (w : World) (A1 A2 : Option Addr) (n1 c1 n2 c2 : Nat) (l1 l2 : List Nat) (h1 : Rd w w.heap.size A1 n1 c1 l1) (h2 : Rd w w.heap.size A2 n2 c2 l2) (hn1 : n1 ≤ 65536) (hn2 : n2 ≤ 65536) :
    Calls Tryz.prog 37 #[.slice A1 n1 c1, .slice A2 n2 c2] w (RetS w (tv l1) (tv l2)) := by
  go_enter Tryz.func37, Tryz.ntmps37
  go_wp2_with fail
  refine (taken_any _ _ A1 n1 c1 l1 h1 (by omega)).mono ?_
  rintro e w' ⟨⟨P1, m1, d1, rfl, hm1, r1⟩, rfl⟩
  go_wp2_with fail
  refine (taken_any _ _ A2 n2 c2 l2 h2 (by omega)).mono ?_
  rintro e w' ⟨⟨P2, m2, d2, rfl, hm2, r2⟩, rfl⟩
  have hm1 : m1 ≤ 65536 := by omega
  have hm2 : m2 ≤ 65536 := by omega
  clear h1 h2
  generalize tv l1 = X1 at *
  generalize tv l2 = X2 at *
  have HC : Hid (cmpI (X1 : Int) (X2 : Int) = if X1 < X2 then -1 else if X2 < X1 then 1 else 0) := Lib.hid (cmpI_nat X1 X2)
  go_wp2_with fail
  refine (cmp_any _ P1 P2 m1 d1 m2 d2 _ _ r1 r2 (by omega) (by omega)).mono ?_
  rintro e w1 ⟨rfl, hb1⟩
  rw [tv_digs, tv_digs]
  generalize cmpI (X1 : Int) (X2 : Int) = r at *
  by_cases hlt : X1 < X2
  · have hr : r < 0 := by have := HC.out; rw [if_pos hlt] at this; omega
    have hf : RetS w X1 X2 (.returned (.tuple #[.slice none 0 0, .bool false])) w1 := by
      refine ⟨none, 0, 0, ?_, ?_, hb1⟩
      · rw [decide_eq_false (by omega)]
      · rw [show X1 - X2 = 0 by omega, digs_zero]; exact Rd.nil _ _
    have HF := Lib.hid hf
    clear hf r1 r2 hlt
    go_wp2_with fail
    go_ret2
    exact HF.out
  · have hr : ¬ r < 0 := by
      have := HC.out
      rw [if_neg hlt] at this
      split at this <;> omega
    have R1 := r1.below hb1
    have R2 := r2.below hb1
    have hlen : m2 ≤ m1 := by
      have := digs_len_mono (m := X2) (n := X1) (by omega)
      rw [r1.len, r2.len] at this
      exact this
    have hfin : ∀ (wr : World) (os : List Nat) (br : Nat), os.length = m1 → Dig os → val os + val ((digs X2).take m1) = val ((digs X1).take m1) + 4294967296 ^ m1 * br → ∀ (A : Option Addr) (n c : Nat) (w2 : World), Rd w2 w2.heap.size A n c (digs (val os)) → Below w.heap.size w w2 → RetS w X1 X2 (.returned (.tuple #[.slice A n c, .bool true])) w2 := by
      intro wr os br ho hd hv A n c w2 hh hb
      have := sub_end ho hd R1.len (by rw [R2.len]; exact hlen) (by rw [val_digs, val_digs]; omega) hv
      rw [val_digs, val_digs] at this
      rw [this] at hh
      exact ⟨A, n, c, by rw [decide_eq_true (by omega)], hh, hb⟩
    have HF := Lib.hid hfin
    have HS : Hid (∀ k, m2 ≤ k → (digs X2).getD k 0 = 0) := Lib.hid (fun k hk => getD_zero_of_ge (by rw [r2.len]; exact hk))
    have HR := Lib.hid (And.intro R1.at_ (And.intro R2.at_ (And.intro (dig_digs X1) (dig_digs X2))))
    clear hfin r1 r2 R1 R2 hn1 hn2 HC
    generalize digs X1 = lL at *
    generalize digs X2 = lS at *
    have hmk := make_u32 (m1 : Int) m1 (by omega) (by omega)
    have hsz1 := hb1.size
    go_wp2_with fail
    go_loopw [7, 23] (fun cv iv wr => ∃ (k : Nat) (os : List Nat) (br : Nat), k ≤ m1 ∧ iv = .int .i64 k ∧ cv = .int .u32 (br : Int) ∧ br ≤ 1 ∧ Hid (os.length = k) ∧ Dig os ∧
        Hid (val os + val (lS.take k) = val (lL.take k) + 4294967296 ^ k * br) ∧ Hid (Blk wr w1.heap.size 38 (cells (os ++ List.replicate (m1 - k) 0))) ∧ Below w.heap.size w wr) (fun _ iv _ => m1 - (intOf iv).toNat)
    case atStart => exact ⟨0, [], 0, Nat.zero_le _, rfl, rfl, Nat.zero_le _, rfl, Dig.nil, by simp [Hid, val], Lib.hid (by rw [List.nil_append]; exact Blk.new _ _ _), hb1.alloc hsz1 _⟩
    case round =>
      obtain ⟨k, os, br, hk, rfl, rfl, hbr, HO, hdo, HV, HB, hbel⟩ := hrel
      by_cases hkl : k < m1
      · obtain ⟨b, off, rfl, hbb, hcell⟩ := HR.out.1 (by omega)
        have hbw : Below w.heap.size w1 wr := ⟨hbel.os.trans hb1.os.symm, hbel.tape.trans hb1.tape.symm, hbel.output.trans hb1.output.symm, by
          have := HB.out.lt; omega, fun j hj => (hbel.block j hj).trans (hb1.block j hj).symm⟩
        have hcL := (hbw.cell (p := ⟨b, off + k, none⟩) hbb).trans (hcell k hkl)
        have hxL := HR.out.2.2.1.getD k
        have hxS := HR.out.2.2.2.getD k
        have hV2 := sub_step HO.out HV.out hxL hxS hbr
        obtain ⟨x, hx⟩ : ∃ x, lL.getD k 0 = x := ⟨_, rfl⟩
        obtain ⟨y, hy⟩ : ∃ y, lS.getD k 0 = y := ⟨_, rfl⟩
        have HXY := Lib.hid (And.intro hx hy)
        rw [hx] at hcL hxL hV2
        rw [hy] at hxS hV2
        have HV2 := Lib.hid hV2
        have hb0 : wr.cell? ⟨w1.heap.size, k, none⟩ = some (.int .u32 ((os ++ List.replicate (m1 - k) 0).getD k 0 : Nat)) := by
          rw [HB.out.cell, cells_in _ _ _ (by rw [HO.out]; omega)]
        have hf0 := HB.out.frozen k
        have HB2 : Hid (Blk (wr.setCell ⟨w1.heap.size, k, none⟩ (.int .u32 (subD x y br : Nat))) w1.heap.size 38 (cells ((os ++ [subD x y br]) ++ List.replicate (m1 - (k + 1)) 0))) := by
          have := HB.out.set_ k (.int .u32 (subD x y br : Nat))
          rw [show m1 - k = (m1 - (k + 1)) + 1 by omega] at this
          have e := cells_step os (m1 - (k + 1)) (subD x y br)
          rw [HO.out] at e
          rw [e] at this
          exact this
        have hbel2 := hbel.setCell (p := ⟨w1.heap.size, k, none⟩) hsz1 (.int .u32 (subD x y br : Nat))
        have hq := subB_le x y br
        have hdl := subD_lt x y br
        clear hx hy hcell hV2
        generalize (os ++ List.replicate (m1 - k) 0).getD k 0 = old at *
        by_cases hks : k < m2
        · obtain ⟨b2, off2, rfl, hbb2, hcell2⟩ := HR.out.2.1 (by omega)
          have hcS := (hbw.cell (p := ⟨b2, off2 + k, none⟩) hbb2).trans (hcell2 k hks)
          rw [HXY.out.2] at hcS
          clear hcell2 hbw
          go_wp2_with fail
          refine (sub32_any x y br _ hxL hxS hbr).mono ?_
          rintro e w2 ⟨rfl, rfl⟩
          go_wp2_with fail
          go_roundw
          case rel => exact ⟨k + 1, _, subB x y br, by omega, by go_num, rfl, hq, Lib.hid (by rw [List.length_append, HO.out]; rfl), hdo.append (Dig.cons hdl Dig.nil), HV2, HB2, hbel2⟩
          case measure => simp [intOf]; omega
        · have hy0 : y = 0 := by rw [← HXY.out.2]; exact HS.out k (by omega)
          subst hy0
          clear hbw
          go_wp2_with fail
          refine (sub32_any x 0 br _ hxL hxS hbr).mono ?_
          rintro e w2 ⟨rfl, rfl⟩
          go_wp2_with fail
          go_roundw
          case rel => exact ⟨k + 1, _, subB x 0 br, by omega, by go_num, rfl, hq, Lib.hid (by rw [List.length_append, HO.out]; rfl), hdo.append (Dig.cons hdl Dig.nil), HV2, HB2, hbel2⟩
          case measure => simp [intOf]; omega
      · obtain rfl : k = m1 := by omega
        have hB2 : Blk wr w1.heap.size 38 (cells os) := by
          have := HB.out
          rw [Nat.sub_self, List.replicate_zero, List.append_nil] at this
          exact this
        have hr := Rd.of_blk hB2 hdo
        rw [HO.out] at hr
        have HG := Lib.hid (HF.out wr os br HO.out hdo HV.out)
        have HRR := Lib.hid hr
        clear hr hB2
        go_wp2_with fail
        refine (low_any _ _ _ _ _ _ HRR.out (by omega)).mono ?_
        rintro e w2 ⟨⟨P, mm, dd, rfl, hmm, rr⟩, rfl⟩
        go_wp2_with fail
        go_ret2
        exact HG.out _ _ _ _ rr hbel

end Go.Proofs.YthkgeafidbihmaaGreatDoor
