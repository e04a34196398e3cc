/-
  The law WhenLadder: its walk.
-/
import Derived.Test.YtolapebihnipdaaSml
import Derived.Deep.RegionHeld3
import Derived.Deep.DrawnRows
namespace Go.Proofs.Ytolapebihnipdaa
open Go.RowKit
set_option linter.unusedVariables false
attribute [local go_sem ↓] Go.wp_at_zero Go.wp_at_succ

set_option maxRecDepth 100000 in
set_option maxHeartbeats 8000000 in
theorem ladder_any (j b n j2 b2 n2 x y z : Int) (w : World) : Calls Try.prog 7 #[.agg #[.int .i64 j, .int .i64 b, .int .i64 n], .agg #[.int .i64 j2, .int .i64 b2, .int .i64 n2], .int .i64 x, .int .i64 y, .int .i64 z] w fun e w' => e = .returned (.bool true) ∧ Below w.heap.size w w' := by
  rcases Bool.eq_false_or_eq_true (rightB j b n) with hr | hr
  · by_cases hc : x < 0 ∨ y < 0 ∨ z < 0 ∨ 100000 < x ∨ 100000 < y ∨ 100000 < z
    · 
      go_enter Try.func7, Try.ntmps7
      go_wp2_with fail
      refine (small_any _).mono ?_
      rintro e w1 ⟨rfl, hb1⟩
      have t7 : Below w.heap.size w w1 := blt (bla (bla (Below.refl _ _) _) _) hb1
      have t6 : w.heap.size + 1 < w1.heap.size := by have := hb1.size; simp at this; omega
      have t0 : w1.cell? ⟨w.heap.size, 0, none⟩ = some (.int .i64 j) := by rw [hb1.cell (by simp; omega)]; simp
      have t1 : w1.cell? ⟨w.heap.size, 1, none⟩ = some (.int .i64 b) := by rw [hb1.cell (by simp; omega)]; simp
      have t2 : w1.cell? ⟨w.heap.size, 2, none⟩ = some (.int .i64 n) := by rw [hb1.cell (by simp; omega)]; simp
      have t3 : w1.cell? ⟨w.heap.size + 1, 0, none⟩ = some (.int .i64 j2) := by rw [hb1.cell (by simp)]; simp
      have t4 : w1.cell? ⟨w.heap.size + 1, 1, none⟩ = some (.int .i64 b2) := by rw [hb1.cell (by simp)]; simp
      have t5 : w1.cell? ⟨w.heap.size + 1, 2, none⟩ = some (.int .i64 n2) := by rw [hb1.cell (by simp)]; simp
      clear hb1
      go_wp2_with fail
      refine (right_any _ _ _ _).mono ?_
      rintro e w2 ⟨rfl, hb⟩
      rw [hr]
      have t0 := (hb.cell (p := ⟨w.heap.size, 0, none⟩) (Nat.lt_of_succ_lt t6)).trans t0
      have t1 := (hb.cell (p := ⟨w.heap.size, 1, none⟩) (Nat.lt_of_succ_lt t6)).trans t1
      have t2 := (hb.cell (p := ⟨w.heap.size, 2, none⟩) (Nat.lt_of_succ_lt t6)).trans t2
      have t3 := (hb.cell (p := ⟨w.heap.size + 1, 0, none⟩) t6).trans t3
      have t4 := (hb.cell (p := ⟨w.heap.size + 1, 1, none⟩) t6).trans t4
      have t5 := (hb.cell (p := ⟨w.heap.size + 1, 2, none⟩) t6).trans t5
      have t6 : w.heap.size + 1 < w2.heap.size := Nat.lt_of_lt_of_le t6 hb.size
      have t7 := blt t7 hb
      clear hb
      go_wp2_with fail
      all_goals first | (go_ret; exact ⟨rfl, t7⟩) | (exfalso; omega)
    · have x0 : 0 ≤ x := by omega
      have y0 : 0 ≤ y := by omega
      have z0 : 0 ≤ z := by omega
      have x1 : x ≤ 100000 := by omega
      have y1 : y ≤ 100000 := by omega
      have z1 : z ≤ 100000 := by omega
      clear hc
      obtain ⟨g1, g2, g3, g4, g5, g6⟩ := right_bds hr
      have hx : heightB x = true := by simp [heightB]; omega
      have hy : heightB y = true := by simp [heightB]; omega
      have hz : heightB z = true := by simp [heightB]; omega
      have k1 : delta y z j b n = y + z + 4 * (n + j + b + 13) := by simp [delta, hy, hz, hr]
      have hlh : heightB (x + (y + z + 4 * (n + j + b + 13))) = true := by simp [heightB]; omega
      have k2 : publish (x + (y + z + 4 * (n + j + b + 13))) z j b n = x + (y + z + 4 * (n + j + b + 13)) - z - 2 * (n + j + b + 13) := by simp [publish, hlh, hz, hr]
      have k3 : span j b n = n + j + b + 13 := by simp [span, hr]
      have k4 : least j b n = n + j + b + 14 := by simp [least, hr]
      have k5 : reach j b n = n + j + b + 1 := by simp [reach, hr]
      have k6 : publish x z j b n = x - z - 2 * (n + j + b + 13) := by simp [publish, hx, hz, hr]
      clear hlh
      by_cases hm : rightB j2 b2 n2 = true ∧ j ≤ j2 ∧ b ≤ b2 ∧ n ≤ n2
      · obtain ⟨hr2, m1, m2, m3⟩ := hm
        obtain ⟨h1, h2, h3, h4, h5, h6⟩ := right_bds hr2
        have q1 : reach j2 b2 n2 = n2 + j2 + b2 + 1 := by simp [reach, hr2]
        have q2 : publish x z j2 b2 n2 = x - z - 2 * (n2 + j2 + b2 + 13) := by simp [publish, hx, hz, hr2]
        have q3 : delta y z j2 b2 n2 = y + z + 4 * (n2 + j2 + b2 + 13) := by simp [delta, hy, hz, hr2]
        obtain ⟨DD, hDD⟩ : ∃ v, v = y + z + 4 * (n + j + b + 13) := ⟨_, rfl⟩
        rw [← hDD] at k1 k2
        obtain ⟨PP, hPP⟩ : ∃ v, v = x + DD - z - 2 * (n + j + b + 13) := ⟨_, rfl⟩
        rw [← hPP] at k2
        obtain ⟨SP, hSP⟩ : ∃ v, v = n + j + b + 13 := ⟨_, rfl⟩
        rw [← hSP] at k3
        obtain ⟨LE, hLE⟩ : ∃ v, v = n + j + b + 14 := ⟨_, rfl⟩
        rw [← hLE] at k4
        obtain ⟨RE, hRE⟩ : ∃ v, v = n + j + b + 1 := ⟨_, rfl⟩
        rw [← hRE] at k5
        have b1 : 0 ≤ DD := by omega
        have b2' : DD ≤ 100000000 := by omega
        have b3 : 0 ≤ SP := by omega
        have b4 : SP ≤ 100000000 := by omega
        have w1' : IntKind.i64.wrap (x + y) = x + y := IntWalk.i64_in _ (by omega)
        have w2' : IntKind.i64.wrap (2 * SP) = 2 * SP := IntWalk.i64_in _ (by omega)
        have w3' : IntKind.i64.wrap (x + y + 2 * SP) = x + y + 2 * SP := IntWalk.i64_in _ (by omega)
        have d1 : decide (PP < x + y + 2 * SP) = false := decide_eq_false (by omega)
        have d2 : decide (LE ≤ SP) = false := decide_eq_false (by omega)
        have d3 : decide (SP ≤ RE) = false := decide_eq_false (by omega)
        have d4 : decide (RE < 2) = false := decide_eq_false (by omega)
        obtain ⟨PB, hPB⟩ : ∃ v, v = x - z - 2 * (n + j + b + 13) := ⟨_, rfl⟩
        obtain ⟨RC, hRC⟩ : ∃ v, v = n2 + j2 + b2 + 1 := ⟨_, rfl⟩
        obtain ⟨PC, hPC⟩ : ∃ v, v = x - z - 2 * (n2 + j2 + b2 + 13) := ⟨_, rfl⟩
        obtain ⟨DC, hDC⟩ : ∃ v, v = y + z + 4 * (n2 + j2 + b2 + 13) := ⟨_, rfl⟩
        rw [← hPB] at k6
        rw [← hRC] at q1
        rw [← hPC] at q2
        rw [← hDC] at q3
        have e1 : decide (RE ≤ RC) = true := decide_eq_true (by omega)
        have e2 : decide (PC ≤ PB) = true := decide_eq_true (by omega)
        have e3 : decide (DD ≤ DC) = true := decide_eq_true (by omega)
        have K := Lib.hid (And.intro k1 (And.intro k2 (And.intro k3 (And.intro k4 (And.intro k5 (And.intro k6 (And.intro q1 (And.intro q2 q3))))))))
        clear k1 k2 k3 k4 k5 k6 q1 q2 q3 hx hy hz hSP hLE hRE hPP hDD hPB hRC hPC hDC g1 g2 g3 g4 g5 g6 h1 h2 h3 h4 h5 h6
        go_enter Try.func7, Try.ntmps7
        go_wp2_with fail
        refine (small_any _).mono ?_
        rintro e w1 ⟨rfl, hb1⟩
        have t7 : Below w.heap.size w w1 := blt (bla (bla (Below.refl _ _) _) _) hb1
        have t6 : w.heap.size + 1 < w1.heap.size := by have := hb1.size; simp at this; omega
        have t0 : w1.cell? ⟨w.heap.size, 0, none⟩ = some (.int .i64 j) := by rw [hb1.cell (by simp; omega)]; simp
        have t1 : w1.cell? ⟨w.heap.size, 1, none⟩ = some (.int .i64 b) := by rw [hb1.cell (by simp; omega)]; simp
        have t2 : w1.cell? ⟨w.heap.size, 2, none⟩ = some (.int .i64 n) := by rw [hb1.cell (by simp; omega)]; simp
        have t3 : w1.cell? ⟨w.heap.size + 1, 0, none⟩ = some (.int .i64 j2) := by rw [hb1.cell (by simp)]; simp
        have t4 : w1.cell? ⟨w.heap.size + 1, 1, none⟩ = some (.int .i64 b2) := by rw [hb1.cell (by simp)]; simp
        have t5 : w1.cell? ⟨w.heap.size + 1, 2, none⟩ = some (.int .i64 n2) := by rw [hb1.cell (by simp)]; simp
        clear hb1
        go_wp2_with fail
        refine (right_any _ _ _ _).mono ?_
        rintro e w2 ⟨rfl, hb⟩
        rw [hr]
        have t0 := (hb.cell (p := ⟨w.heap.size, 0, none⟩) (Nat.lt_of_succ_lt t6)).trans t0
        have t1 := (hb.cell (p := ⟨w.heap.size, 1, none⟩) (Nat.lt_of_succ_lt t6)).trans t1
        have t2 := (hb.cell (p := ⟨w.heap.size, 2, none⟩) (Nat.lt_of_succ_lt t6)).trans t2
        have t3 := (hb.cell (p := ⟨w.heap.size + 1, 0, none⟩) t6).trans t3
        have t4 := (hb.cell (p := ⟨w.heap.size + 1, 1, none⟩) t6).trans t4
        have t5 := (hb.cell (p := ⟨w.heap.size + 1, 2, none⟩) t6).trans t5
        have t6 : w.heap.size + 1 < w2.heap.size := Nat.lt_of_lt_of_le t6 hb.size
        have t7 := blt t7 hb
        clear hb
        go_wp2_with fail
        refine (delta_any _ _ _ _ _ _).mono ?_
        rintro e w3 ⟨rfl, hb⟩
        rw [K.out.1]
        have t0 := (hb.cell (p := ⟨w.heap.size, 0, none⟩) (Nat.lt_of_succ_lt t6)).trans t0
        have t1 := (hb.cell (p := ⟨w.heap.size, 1, none⟩) (Nat.lt_of_succ_lt t6)).trans t1
        have t2 := (hb.cell (p := ⟨w.heap.size, 2, none⟩) (Nat.lt_of_succ_lt t6)).trans t2
        have t3 := (hb.cell (p := ⟨w.heap.size + 1, 0, none⟩) t6).trans t3
        have t4 := (hb.cell (p := ⟨w.heap.size + 1, 1, none⟩) t6).trans t4
        have t5 := (hb.cell (p := ⟨w.heap.size + 1, 2, none⟩) t6).trans t5
        have t6 : w.heap.size + 1 < w3.heap.size := Nat.lt_of_lt_of_le t6 hb.size
        have t7 := blt t7 hb
        clear hb
        go_wp2_with fail
        go_region_held3 (fun wx => wx.cell? ⟨w.heap.size, 0, none⟩ = some (.int .i64 j) ∧ wx.cell? ⟨w.heap.size, 1, none⟩ = some (.int .i64 b) ∧ wx.cell? ⟨w.heap.size, 2, none⟩ = some (.int .i64 n) ∧ wx.cell? ⟨w.heap.size + 1, 0, none⟩ = some (.int .i64 j2) ∧ wx.cell? ⟨w.heap.size + 1, 1, none⟩ = some (.int .i64 b2) ∧ wx.cell? ⟨w.heap.size + 1, 2, none⟩ = some (.int .i64 n2) ∧ w.heap.size + 1 < wx.heap.size ∧ Below w.heap.size w wx) (first | exact ⟨t0, t1, t2, t3, t4, t5, t6, t7⟩ | exact ⟨t0, t1, t2, t3, t4, t5, t6, t7.drew⟩) (first | (go_at_call 17; refine (publish_any _ _ _ _ _ _).mono ?_; rintro e w' ⟨rfl, hb⟩; rw [K.out.2.1]; go_split_ands; have t0 := (hb.cell (p := ⟨w.heap.size, 0, none⟩) (Nat.lt_of_succ_lt (by assumption))).trans (by assumption); have t1 := (hb.cell (p := ⟨w.heap.size, 1, none⟩) (Nat.lt_of_succ_lt (by assumption))).trans (by assumption); have t2 := (hb.cell (p := ⟨w.heap.size, 2, none⟩) (Nat.lt_of_succ_lt (by assumption))).trans (by assumption); have t3 := (hb.cell (p := ⟨w.heap.size + 1, 0, none⟩) (by assumption)).trans (by assumption); have t4 := (hb.cell (p := ⟨w.heap.size + 1, 1, none⟩) (by assumption)).trans (by assumption); have t5 := (hb.cell (p := ⟨w.heap.size + 1, 2, none⟩) (by assumption)).trans (by assumption); have t6 : w.heap.size + 1 < w'.heap.size := Nat.lt_of_lt_of_le (by assumption) hb.size; have t7 := blt (by assumption) hb; clear hb) | (go_at_call 13; refine (span_any _ _ _ _).mono ?_; rintro e w' ⟨rfl, hb⟩; rw [K.out.2.2.1]; go_split_ands; have t0 := (hb.cell (p := ⟨w.heap.size, 0, none⟩) (Nat.lt_of_succ_lt (by assumption))).trans (by assumption); have t1 := (hb.cell (p := ⟨w.heap.size, 1, none⟩) (Nat.lt_of_succ_lt (by assumption))).trans (by assumption); have t2 := (hb.cell (p := ⟨w.heap.size, 2, none⟩) (Nat.lt_of_succ_lt (by assumption))).trans (by assumption); have t3 := (hb.cell (p := ⟨w.heap.size + 1, 0, none⟩) (by assumption)).trans (by assumption); have t4 := (hb.cell (p := ⟨w.heap.size + 1, 1, none⟩) (by assumption)).trans (by assumption); have t5 := (hb.cell (p := ⟨w.heap.size + 1, 2, none⟩) (by assumption)).trans (by assumption); have t6 : w.heap.size + 1 < w'.heap.size := Nat.lt_of_lt_of_le (by assumption) hb.size; have t7 := blt (by assumption) hb; clear hb) | (go_at_call 15; refine (least_any _ _ _ _).mono ?_; rintro e w' ⟨rfl, hb⟩; rw [K.out.2.2.2.1]; go_split_ands; have t0 := (hb.cell (p := ⟨w.heap.size, 0, none⟩) (Nat.lt_of_succ_lt (by assumption))).trans (by assumption); have t1 := (hb.cell (p := ⟨w.heap.size, 1, none⟩) (Nat.lt_of_succ_lt (by assumption))).trans (by assumption); have t2 := (hb.cell (p := ⟨w.heap.size, 2, none⟩) (Nat.lt_of_succ_lt (by assumption))).trans (by assumption); have t3 := (hb.cell (p := ⟨w.heap.size + 1, 0, none⟩) (by assumption)).trans (by assumption); have t4 := (hb.cell (p := ⟨w.heap.size + 1, 1, none⟩) (by assumption)).trans (by assumption); have t5 := (hb.cell (p := ⟨w.heap.size + 1, 2, none⟩) (by assumption)).trans (by assumption); have t6 : w.heap.size + 1 < w'.heap.size := Nat.lt_of_lt_of_le (by assumption) hb.size; have t7 := blt (by assumption) hb; clear hb) | (go_at_call 11; refine (reach_any _ _ _ _).mono ?_; rintro e w' ⟨rfl, hb⟩; rw [K.out.2.2.2.2.1]; go_split_ands; have t0 := (hb.cell (p := ⟨w.heap.size, 0, none⟩) (Nat.lt_of_succ_lt (by assumption))).trans (by assumption); have t1 := (hb.cell (p := ⟨w.heap.size, 1, none⟩) (Nat.lt_of_succ_lt (by assumption))).trans (by assumption); have t2 := (hb.cell (p := ⟨w.heap.size, 2, none⟩) (Nat.lt_of_succ_lt (by assumption))).trans (by assumption); have t3 := (hb.cell (p := ⟨w.heap.size + 1, 0, none⟩) (by assumption)).trans (by assumption); have t4 := (hb.cell (p := ⟨w.heap.size + 1, 1, none⟩) (by assumption)).trans (by assumption); have t5 := (hb.cell (p := ⟨w.heap.size + 1, 2, none⟩) (by assumption)).trans (by assumption); have t6 : w.heap.size + 1 < w'.heap.size := Nat.lt_of_lt_of_le (by assumption) hb.size; have t7 := blt (by assumption) hb; clear hb))
        go_split_ands
        go_wp2_with fail
        refine (right_any _ _ _ _).mono ?_
        rintro e w6 ⟨rfl, hb⟩
        rw [hr2]
        have t0 := (hb.cell (p := ⟨w.heap.size, 0, none⟩) (Nat.lt_of_succ_lt (by assumption))).trans (by assumption)
        have t1 := (hb.cell (p := ⟨w.heap.size, 1, none⟩) (Nat.lt_of_succ_lt (by assumption))).trans (by assumption)
        have t2 := (hb.cell (p := ⟨w.heap.size, 2, none⟩) (Nat.lt_of_succ_lt (by assumption))).trans (by assumption)
        have t3 := (hb.cell (p := ⟨w.heap.size + 1, 0, none⟩) (by assumption)).trans (by assumption)
        have t4 := (hb.cell (p := ⟨w.heap.size + 1, 1, none⟩) (by assumption)).trans (by assumption)
        have t5 := (hb.cell (p := ⟨w.heap.size + 1, 2, none⟩) (by assumption)).trans (by assumption)
        have t6 : w.heap.size + 1 < w6.heap.size := Nat.lt_of_lt_of_le (by assumption) hb.size
        have t7 := blt (by assumption) hb
        clear hb
        go_wp2_with fail
        go_region_held3 (fun wx => wx.cell? ⟨w.heap.size, 0, none⟩ = some (.int .i64 j) ∧ wx.cell? ⟨w.heap.size, 1, none⟩ = some (.int .i64 b) ∧ wx.cell? ⟨w.heap.size, 2, none⟩ = some (.int .i64 n) ∧ wx.cell? ⟨w.heap.size + 1, 0, none⟩ = some (.int .i64 j2) ∧ wx.cell? ⟨w.heap.size + 1, 1, none⟩ = some (.int .i64 b2) ∧ wx.cell? ⟨w.heap.size + 1, 2, none⟩ = some (.int .i64 n2) ∧ w.heap.size + 1 < wx.heap.size ∧ Below w.heap.size w wx) (first | exact ⟨t0, t1, t2, t3, t4, t5, t6, t7⟩ | exact ⟨t0, t1, t2, t3, t4, t5, t6, t7.drew⟩) (first | (go_at_call 17; refine (publish_any _ _ _ _ _ _).mono ?_; rintro e w' ⟨rfl, hb⟩; (first | rw [K.out.2.2.2.2.2.2.2.1] | rw [K.out.2.2.2.2.2.1]); go_split_ands; have t0 := (hb.cell (p := ⟨w.heap.size, 0, none⟩) (Nat.lt_of_succ_lt (by assumption))).trans (by assumption); have t1 := (hb.cell (p := ⟨w.heap.size, 1, none⟩) (Nat.lt_of_succ_lt (by assumption))).trans (by assumption); have t2 := (hb.cell (p := ⟨w.heap.size, 2, none⟩) (Nat.lt_of_succ_lt (by assumption))).trans (by assumption); have t3 := (hb.cell (p := ⟨w.heap.size + 1, 0, none⟩) (by assumption)).trans (by assumption); have t4 := (hb.cell (p := ⟨w.heap.size + 1, 1, none⟩) (by assumption)).trans (by assumption); have t5 := (hb.cell (p := ⟨w.heap.size + 1, 2, none⟩) (by assumption)).trans (by assumption); have t6 : w.heap.size + 1 < w'.heap.size := Nat.lt_of_lt_of_le (by assumption) hb.size; have t7 := blt (by assumption) hb; clear hb) | (go_at_call 19; refine (delta_any _ _ _ _ _ _).mono ?_; rintro e w' ⟨rfl, hb⟩; (first | rw [K.out.2.2.2.2.2.2.2.2] | rw [K.out.1]); go_split_ands; have t0 := (hb.cell (p := ⟨w.heap.size, 0, none⟩) (Nat.lt_of_succ_lt (by assumption))).trans (by assumption); have t1 := (hb.cell (p := ⟨w.heap.size, 1, none⟩) (Nat.lt_of_succ_lt (by assumption))).trans (by assumption); have t2 := (hb.cell (p := ⟨w.heap.size, 2, none⟩) (Nat.lt_of_succ_lt (by assumption))).trans (by assumption); have t3 := (hb.cell (p := ⟨w.heap.size + 1, 0, none⟩) (by assumption)).trans (by assumption); have t4 := (hb.cell (p := ⟨w.heap.size + 1, 1, none⟩) (by assumption)).trans (by assumption); have t5 := (hb.cell (p := ⟨w.heap.size + 1, 2, none⟩) (by assumption)).trans (by assumption); have t6 : w.heap.size + 1 < w'.heap.size := Nat.lt_of_lt_of_le (by assumption) hb.size; have t7 := blt (by assumption) hb; clear hb) | (go_at_call 11; refine (reach_any _ _ _ _).mono ?_; rintro e w' ⟨rfl, hb⟩; (first | rw [K.out.2.2.2.2.2.2.1] | rw [K.out.2.2.2.2.1]); go_split_ands; have t0 := (hb.cell (p := ⟨w.heap.size, 0, none⟩) (Nat.lt_of_succ_lt (by assumption))).trans (by assumption); have t1 := (hb.cell (p := ⟨w.heap.size, 1, none⟩) (Nat.lt_of_succ_lt (by assumption))).trans (by assumption); have t2 := (hb.cell (p := ⟨w.heap.size, 2, none⟩) (Nat.lt_of_succ_lt (by assumption))).trans (by assumption); have t3 := (hb.cell (p := ⟨w.heap.size + 1, 0, none⟩) (by assumption)).trans (by assumption); have t4 := (hb.cell (p := ⟨w.heap.size + 1, 1, none⟩) (by assumption)).trans (by assumption); have t5 := (hb.cell (p := ⟨w.heap.size + 1, 2, none⟩) (by assumption)).trans (by assumption); have t6 : w.heap.size + 1 < w'.heap.size := Nat.lt_of_lt_of_le (by assumption) hb.size; have t7 := blt (by assumption) hb; clear hb))
        go_split_ands
        go_wp2
        go_ret
        exact ⟨rfl, by assumption⟩
      · obtain ⟨DD, hDD⟩ : ∃ v, v = y + z + 4 * (n + j + b + 13) := ⟨_, rfl⟩
        rw [← hDD] at k1 k2
        obtain ⟨PP, hPP⟩ : ∃ v, v = x + DD - z - 2 * (n + j + b + 13) := ⟨_, rfl⟩
        rw [← hPP] at k2
        obtain ⟨SP, hSP⟩ : ∃ v, v = n + j + b + 13 := ⟨_, rfl⟩
        rw [← hSP] at k3
        obtain ⟨LE, hLE⟩ : ∃ v, v = n + j + b + 14 := ⟨_, rfl⟩
        rw [← hLE] at k4
        obtain ⟨RE, hRE⟩ : ∃ v, v = n + j + b + 1 := ⟨_, rfl⟩
        rw [← hRE] at k5
        have b1 : 0 ≤ DD := by omega
        have b2' : DD ≤ 100000000 := by omega
        have b3 : 0 ≤ SP := by omega
        have b4 : SP ≤ 100000000 := by omega
        have w1' : IntKind.i64.wrap (x + y) = x + y := IntWalk.i64_in _ (by omega)
        have w2' : IntKind.i64.wrap (2 * SP) = 2 * SP := IntWalk.i64_in _ (by omega)
        have w3' : IntKind.i64.wrap (x + y + 2 * SP) = x + y + 2 * SP := IntWalk.i64_in _ (by omega)
        have d1 : decide (PP < x + y + 2 * SP) = false := decide_eq_false (by omega)
        have d2 : decide (LE ≤ SP) = false := decide_eq_false (by omega)
        have d3 : decide (SP ≤ RE) = false := decide_eq_false (by omega)
        have d4 : decide (RE < 2) = false := decide_eq_false (by omega)
        have K := Lib.hid (And.intro k1 (And.intro k2 (And.intro k3 (And.intro k4 (And.intro k5 k6)))))
        clear k1 k2 k3 k4 k5 k6 hx hy hz hSP hLE hRE hPP hDD
        go_enter Try.func7, Try.ntmps7
        go_wp2_with fail
        refine (small_any _).mono ?_
        rintro e w1 ⟨rfl, hb1⟩
        have t7 : Below w.heap.size w w1 := blt (bla (bla (Below.refl _ _) _) _) hb1
        have t6 : w.heap.size + 1 < w1.heap.size := by have := hb1.size; simp at this; omega
        have t0 : w1.cell? ⟨w.heap.size, 0, none⟩ = some (.int .i64 j) := by rw [hb1.cell (by simp; omega)]; simp
        have t1 : w1.cell? ⟨w.heap.size, 1, none⟩ = some (.int .i64 b) := by rw [hb1.cell (by simp; omega)]; simp
        have t2 : w1.cell? ⟨w.heap.size, 2, none⟩ = some (.int .i64 n) := by rw [hb1.cell (by simp; omega)]; simp
        have t3 : w1.cell? ⟨w.heap.size + 1, 0, none⟩ = some (.int .i64 j2) := by rw [hb1.cell (by simp)]; simp
        have t4 : w1.cell? ⟨w.heap.size + 1, 1, none⟩ = some (.int .i64 b2) := by rw [hb1.cell (by simp)]; simp
        have t5 : w1.cell? ⟨w.heap.size + 1, 2, none⟩ = some (.int .i64 n2) := by rw [hb1.cell (by simp)]; simp
        clear hb1
        go_wp2_with fail
        refine (right_any _ _ _ _).mono ?_
        rintro e w2 ⟨rfl, hb⟩
        rw [hr]
        have t0 := (hb.cell (p := ⟨w.heap.size, 0, none⟩) (Nat.lt_of_succ_lt t6)).trans t0
        have t1 := (hb.cell (p := ⟨w.heap.size, 1, none⟩) (Nat.lt_of_succ_lt t6)).trans t1
        have t2 := (hb.cell (p := ⟨w.heap.size, 2, none⟩) (Nat.lt_of_succ_lt t6)).trans t2
        have t3 := (hb.cell (p := ⟨w.heap.size + 1, 0, none⟩) t6).trans t3
        have t4 := (hb.cell (p := ⟨w.heap.size + 1, 1, none⟩) t6).trans t4
        have t5 := (hb.cell (p := ⟨w.heap.size + 1, 2, none⟩) t6).trans t5
        have t6 : w.heap.size + 1 < w2.heap.size := Nat.lt_of_lt_of_le t6 hb.size
        have t7 := blt t7 hb
        clear hb
        go_wp2_with fail
        refine (delta_any _ _ _ _ _ _).mono ?_
        rintro e w3 ⟨rfl, hb⟩
        rw [K.out.1]
        have t0 := (hb.cell (p := ⟨w.heap.size, 0, none⟩) (Nat.lt_of_succ_lt t6)).trans t0
        have t1 := (hb.cell (p := ⟨w.heap.size, 1, none⟩) (Nat.lt_of_succ_lt t6)).trans t1
        have t2 := (hb.cell (p := ⟨w.heap.size, 2, none⟩) (Nat.lt_of_succ_lt t6)).trans t2
        have t3 := (hb.cell (p := ⟨w.heap.size + 1, 0, none⟩) t6).trans t3
        have t4 := (hb.cell (p := ⟨w.heap.size + 1, 1, none⟩) t6).trans t4
        have t5 := (hb.cell (p := ⟨w.heap.size + 1, 2, none⟩) t6).trans t5
        have t6 : w.heap.size + 1 < w3.heap.size := Nat.lt_of_lt_of_le t6 hb.size
        have t7 := blt t7 hb
        clear hb
        go_wp2_with fail
        go_region_held3 (fun wx => wx.cell? ⟨w.heap.size, 0, none⟩ = some (.int .i64 j) ∧ wx.cell? ⟨w.heap.size, 1, none⟩ = some (.int .i64 b) ∧ wx.cell? ⟨w.heap.size, 2, none⟩ = some (.int .i64 n) ∧ wx.cell? ⟨w.heap.size + 1, 0, none⟩ = some (.int .i64 j2) ∧ wx.cell? ⟨w.heap.size + 1, 1, none⟩ = some (.int .i64 b2) ∧ wx.cell? ⟨w.heap.size + 1, 2, none⟩ = some (.int .i64 n2) ∧ w.heap.size + 1 < wx.heap.size ∧ Below w.heap.size w wx) (first | exact ⟨t0, t1, t2, t3, t4, t5, t6, t7⟩ | exact ⟨t0, t1, t2, t3, t4, t5, t6, t7.drew⟩) (first | (go_at_call 17; refine (publish_any _ _ _ _ _ _).mono ?_; rintro e w' ⟨rfl, hb⟩; rw [K.out.2.1]; go_split_ands; have t0 := (hb.cell (p := ⟨w.heap.size, 0, none⟩) (Nat.lt_of_succ_lt (by assumption))).trans (by assumption); have t1 := (hb.cell (p := ⟨w.heap.size, 1, none⟩) (Nat.lt_of_succ_lt (by assumption))).trans (by assumption); have t2 := (hb.cell (p := ⟨w.heap.size, 2, none⟩) (Nat.lt_of_succ_lt (by assumption))).trans (by assumption); have t3 := (hb.cell (p := ⟨w.heap.size + 1, 0, none⟩) (by assumption)).trans (by assumption); have t4 := (hb.cell (p := ⟨w.heap.size + 1, 1, none⟩) (by assumption)).trans (by assumption); have t5 := (hb.cell (p := ⟨w.heap.size + 1, 2, none⟩) (by assumption)).trans (by assumption); have t6 : w.heap.size + 1 < w'.heap.size := Nat.lt_of_lt_of_le (by assumption) hb.size; have t7 := blt (by assumption) hb; clear hb) | (go_at_call 13; refine (span_any _ _ _ _).mono ?_; rintro e w' ⟨rfl, hb⟩; rw [K.out.2.2.1]; go_split_ands; have t0 := (hb.cell (p := ⟨w.heap.size, 0, none⟩) (Nat.lt_of_succ_lt (by assumption))).trans (by assumption); have t1 := (hb.cell (p := ⟨w.heap.size, 1, none⟩) (Nat.lt_of_succ_lt (by assumption))).trans (by assumption); have t2 := (hb.cell (p := ⟨w.heap.size, 2, none⟩) (Nat.lt_of_succ_lt (by assumption))).trans (by assumption); have t3 := (hb.cell (p := ⟨w.heap.size + 1, 0, none⟩) (by assumption)).trans (by assumption); have t4 := (hb.cell (p := ⟨w.heap.size + 1, 1, none⟩) (by assumption)).trans (by assumption); have t5 := (hb.cell (p := ⟨w.heap.size + 1, 2, none⟩) (by assumption)).trans (by assumption); have t6 : w.heap.size + 1 < w'.heap.size := Nat.lt_of_lt_of_le (by assumption) hb.size; have t7 := blt (by assumption) hb; clear hb) | (go_at_call 15; refine (least_any _ _ _ _).mono ?_; rintro e w' ⟨rfl, hb⟩; rw [K.out.2.2.2.1]; go_split_ands; have t0 := (hb.cell (p := ⟨w.heap.size, 0, none⟩) (Nat.lt_of_succ_lt (by assumption))).trans (by assumption); have t1 := (hb.cell (p := ⟨w.heap.size, 1, none⟩) (Nat.lt_of_succ_lt (by assumption))).trans (by assumption); have t2 := (hb.cell (p := ⟨w.heap.size, 2, none⟩) (Nat.lt_of_succ_lt (by assumption))).trans (by assumption); have t3 := (hb.cell (p := ⟨w.heap.size + 1, 0, none⟩) (by assumption)).trans (by assumption); have t4 := (hb.cell (p := ⟨w.heap.size + 1, 1, none⟩) (by assumption)).trans (by assumption); have t5 := (hb.cell (p := ⟨w.heap.size + 1, 2, none⟩) (by assumption)).trans (by assumption); have t6 : w.heap.size + 1 < w'.heap.size := Nat.lt_of_lt_of_le (by assumption) hb.size; have t7 := blt (by assumption) hb; clear hb) | (go_at_call 11; refine (reach_any _ _ _ _).mono ?_; rintro e w' ⟨rfl, hb⟩; rw [K.out.2.2.2.2.1]; go_split_ands; have t0 := (hb.cell (p := ⟨w.heap.size, 0, none⟩) (Nat.lt_of_succ_lt (by assumption))).trans (by assumption); have t1 := (hb.cell (p := ⟨w.heap.size, 1, none⟩) (Nat.lt_of_succ_lt (by assumption))).trans (by assumption); have t2 := (hb.cell (p := ⟨w.heap.size, 2, none⟩) (Nat.lt_of_succ_lt (by assumption))).trans (by assumption); have t3 := (hb.cell (p := ⟨w.heap.size + 1, 0, none⟩) (by assumption)).trans (by assumption); have t4 := (hb.cell (p := ⟨w.heap.size + 1, 1, none⟩) (by assumption)).trans (by assumption); have t5 := (hb.cell (p := ⟨w.heap.size + 1, 2, none⟩) (by assumption)).trans (by assumption); have t6 : w.heap.size + 1 < w'.heap.size := Nat.lt_of_lt_of_le (by assumption) hb.size; have t7 := blt (by assumption) hb; clear hb))
        go_split_ands
        rcases Bool.eq_false_or_eq_true (rightB j2 b2 n2) with hr2 | hr2
        · have hor : j2 < j ∨ b2 < b ∨ n2 < n := by simp [hr2] at hm; omega
          clear hm
          go_wp2_with fail
          refine (right_any _ _ _ _).mono ?_
          rintro e w6 ⟨rfl, hb⟩
          rw [hr2]
          have t0 := (hb.cell (p := ⟨w.heap.size, 0, none⟩) (Nat.lt_of_succ_lt (by assumption))).trans (by assumption)
          have t1 := (hb.cell (p := ⟨w.heap.size, 1, none⟩) (Nat.lt_of_succ_lt (by assumption))).trans (by assumption)
          have t2 := (hb.cell (p := ⟨w.heap.size, 2, none⟩) (Nat.lt_of_succ_lt (by assumption))).trans (by assumption)
          have t3 := (hb.cell (p := ⟨w.heap.size + 1, 0, none⟩) (by assumption)).trans (by assumption)
          have t4 := (hb.cell (p := ⟨w.heap.size + 1, 1, none⟩) (by assumption)).trans (by assumption)
          have t5 := (hb.cell (p := ⟨w.heap.size + 1, 2, none⟩) (by assumption)).trans (by assumption)
          have t6 : w.heap.size + 1 < w6.heap.size := Nat.lt_of_lt_of_le (by assumption) hb.size
          have t7 := blt (by assumption) hb
          clear hb
          go_wp2_with fail
          all_goals first | (go_ret; exact ⟨rfl, t7⟩) | (exfalso; omega)
        · clear hm
          go_wp2_with fail
          refine (right_any _ _ _ _).mono ?_
          rintro e w6 ⟨rfl, hb⟩
          rw [hr2]
          have t0 := (hb.cell (p := ⟨w.heap.size, 0, none⟩) (Nat.lt_of_succ_lt (by assumption))).trans (by assumption)
          have t1 := (hb.cell (p := ⟨w.heap.size, 1, none⟩) (Nat.lt_of_succ_lt (by assumption))).trans (by assumption)
          have t2 := (hb.cell (p := ⟨w.heap.size, 2, none⟩) (Nat.lt_of_succ_lt (by assumption))).trans (by assumption)
          have t3 := (hb.cell (p := ⟨w.heap.size + 1, 0, none⟩) (by assumption)).trans (by assumption)
          have t4 := (hb.cell (p := ⟨w.heap.size + 1, 1, none⟩) (by assumption)).trans (by assumption)
          have t5 := (hb.cell (p := ⟨w.heap.size + 1, 2, none⟩) (by assumption)).trans (by assumption)
          have t6 : w.heap.size + 1 < w6.heap.size := Nat.lt_of_lt_of_le (by assumption) hb.size
          have t7 := blt (by assumption) hb
          clear hb
          go_wp2_with fail
          go_ret
          exact ⟨rfl, t7⟩
  · 
    go_enter Try.func7, Try.ntmps7
    go_wp2_with fail
    refine (small_any _).mono ?_
    rintro e w1 ⟨rfl, hb1⟩
    have t7 : Below w.heap.size w w1 := blt (bla (bla (Below.refl _ _) _) _) hb1
    have t6 : w.heap.size + 1 < w1.heap.size := by have := hb1.size; simp at this; omega
    have t0 : w1.cell? ⟨w.heap.size, 0, none⟩ = some (.int .i64 j) := by rw [hb1.cell (by simp; omega)]; simp
    have t1 : w1.cell? ⟨w.heap.size, 1, none⟩ = some (.int .i64 b) := by rw [hb1.cell (by simp; omega)]; simp
    have t2 : w1.cell? ⟨w.heap.size, 2, none⟩ = some (.int .i64 n) := by rw [hb1.cell (by simp; omega)]; simp
    have t3 : w1.cell? ⟨w.heap.size + 1, 0, none⟩ = some (.int .i64 j2) := by rw [hb1.cell (by simp)]; simp
    have t4 : w1.cell? ⟨w.heap.size + 1, 1, none⟩ = some (.int .i64 b2) := by rw [hb1.cell (by simp)]; simp
    have t5 : w1.cell? ⟨w.heap.size + 1, 2, none⟩ = some (.int .i64 n2) := by rw [hb1.cell (by simp)]; simp
    clear hb1
    go_wp2_with fail
    refine (right_any _ _ _ _).mono ?_
    rintro e w2 ⟨rfl, hb⟩
    rw [hr]
    have t0 := (hb.cell (p := ⟨w.heap.size, 0, none⟩) (Nat.lt_of_succ_lt t6)).trans t0
    have t1 := (hb.cell (p := ⟨w.heap.size, 1, none⟩) (Nat.lt_of_succ_lt t6)).trans t1
    have t2 := (hb.cell (p := ⟨w.heap.size, 2, none⟩) (Nat.lt_of_succ_lt t6)).trans t2
    have t3 := (hb.cell (p := ⟨w.heap.size + 1, 0, none⟩) t6).trans t3
    have t4 := (hb.cell (p := ⟨w.heap.size + 1, 1, none⟩) t6).trans t4
    have t5 := (hb.cell (p := ⟨w.heap.size + 1, 2, none⟩) t6).trans t5
    have t6 : w.heap.size + 1 < w2.heap.size := Nat.lt_of_lt_of_le t6 hb.size
    have t7 := blt t7 hb
    clear hb
    go_wp2_with fail
    go_ret
    exact ⟨rfl, t7⟩

end Go.Proofs.Ytolapebihnipdaa
