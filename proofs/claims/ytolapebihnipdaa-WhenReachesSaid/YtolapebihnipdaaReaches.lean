/-
  The law WhenReaches: its walk.
-/
import Derived.Test.YtolapebihnipdaaSml
import Derived.Test.YtolapebihnipdaaRace2
import Derived.Deep.RegionHeld3
import Derived.Deep.DrawnRows
namespace Go.Proofs.Ytolapebihnipdaa
open Go.RowKit
set_option linter.unusedVariables false
attribute [local go_sem ↓] Go.wp_at_zero Go.wp_at_succ

set_option maxRecDepth 100000 in
set_option maxHeartbeats 8000000 in
theorem reaches_any (j b n x y : Int) (A : Option Addr) (m c : Nat) (l : List St) (w : World) (hs : Steps w w.heap.size A m l) (hy : -9223372036854775808 ≤ y) : Calls Try.prog 5 #[.agg #[.int .i64 j, .int .i64 b, .int .i64 n], .int .i64 x, .int .i64 y, .slice A m c] w fun e w' => e = .returned (.bool true) ∧ Below w.heap.size w w' := by
  rcases Bool.eq_false_or_eq_true (fewB l) with hf | hf
  · rcases Bool.eq_false_or_eq_true (withinAll j b n x l) with hw | hw
    · by_cases c1 : y < x
      · have d1 : decide (y < x) = true := decide_eq_true c1
        have HSS := Lib.hid hs
        clear hs
        go_enter Try.func5, Try.ntmps5
        go_wp2_with fail
        refine (small_any _).mono ?_
        rintro e w1 ⟨rfl, hb1⟩
        have hb0 : Below w.heap.size w w1 := blt (bla (Below.refl _ _) _) hb1
        have t3 : w.heap.size < w1.heap.size := by have := hb1.size; simp at this; omega
        have t0 : w1.cell? ⟨w.heap.size, 0, none⟩ = some (.int .i64 j) := by rw [hb1.cell (by simp)]; simp
        have t1 : w1.cell? ⟨w.heap.size, 1, none⟩ = some (.int .i64 b) := by rw [hb1.cell (by simp)]; simp
        have t2 : w1.cell? ⟨w.heap.size, 2, none⟩ = some (.int .i64 n) := by rw [hb1.cell (by simp)]; simp
        have t4 := hb0
        clear hb0 hb1
        have t5 := HSS.out.below t4
        go_wp2_with fail
        refine (few_any _ A m c l t5).mono ?_
        rintro e w2 ⟨rfl, rfl⟩
        rw [hf]
        go_wp2_with fail
        refine (within_any _ j b n x A m c l t5).mono ?_
        rintro e w3 ⟨rfl, hb⟩
        rw [hw]
        go_wp2_with fail
        go_ret
        exact ⟨rfl, blt t4 hb⟩
      · by_cases c2 : 1048576 < y
        · have d1 : decide (y < x) = false := decide_eq_false c1
          have d2 : decide (1048576 < y) = true := decide_eq_true c2
          have HSS := Lib.hid hs
          clear hs
          go_enter Try.func5, Try.ntmps5
          go_wp2_with fail
          refine (small_any _).mono ?_
          rintro e w1 ⟨rfl, hb1⟩
          have hb0 : Below w.heap.size w w1 := blt (bla (Below.refl _ _) _) hb1
          have t3 : w.heap.size < w1.heap.size := by have := hb1.size; simp at this; omega
          have t0 : w1.cell? ⟨w.heap.size, 0, none⟩ = some (.int .i64 j) := by rw [hb1.cell (by simp)]; simp
          have t1 : w1.cell? ⟨w.heap.size, 1, none⟩ = some (.int .i64 b) := by rw [hb1.cell (by simp)]; simp
          have t2 : w1.cell? ⟨w.heap.size, 2, none⟩ = some (.int .i64 n) := by rw [hb1.cell (by simp)]; simp
          have t4 := hb0
          clear hb0 hb1
          have t5 := HSS.out.below t4
          go_wp2_with fail
          refine (few_any _ A m c l t5).mono ?_
          rintro e w2 ⟨rfl, rfl⟩
          rw [hf]
          go_wp2_with fail
          refine (within_any _ j b n x A m c l t5).mono ?_
          rintro e w3 ⟨rfl, hb⟩
          rw [hw]
          go_wp2_with fail
          go_ret
          exact ⟨rfl, blt t4 hb⟩
        · have d1 : decide (y < x) = false := decide_eq_false c1
          have d2 : decide (1048576 < y) = false := decide_eq_false c2
          have hR := reaches j b n x y l hw (by omega) (by omega)
          have hrb : rightB j b n = true := by
            simp only [withinAll, Bool.and_eq_true] at hw
            exact hw.1.1.1
          have hxb : heightB x = true := by
            simp only [withinAll, Bool.and_eq_true] at hw
            exact hw.1.1.2
          obtain ⟨g1, g2, g3, g4, g5, g6⟩ := right_bds hrb
          obtain ⟨g7, g8⟩ := height_bds hxb
          have hrv : reach j b n = n + j + b + 1 := by simp [reach, hrb]
          have hr1 : 0 ≤ reach j b n := by omega
          have hr2 : reach j b n ≤ 3001 := by omega
          clear hrv g1 g2 g3 g4 g5 g6 hrb hxb
          have ht : total l ≤ 1000000 := by have := (few_bds hf).1; omega
          obtain ⟨a1, a2, hab⟩ : ∃ a1 a2, raceAll x y l = (a1, a2) := ⟨_, _, rfl⟩
          rw [hab] at hR
          obtain ⟨hR1, hR2⟩ := hR
          have HAB := Lib.hid hab
          have HR2 := Lib.hid hR2
          clear hab hR2
          have HSS := Lib.hid hs
          clear hs
          go_enter Try.func5, Try.ntmps5
          go_wp2_with fail
          refine (small_any _).mono ?_
          rintro e w1 ⟨rfl, hb1⟩
          have hb0 : Below w.heap.size w w1 := blt (bla (Below.refl _ _) _) hb1
          have t3 : w.heap.size < w1.heap.size := by have := hb1.size; simp at this; omega
          have t0 : w1.cell? ⟨w.heap.size, 0, none⟩ = some (.int .i64 j) := by rw [hb1.cell (by simp)]; simp
          have t1 : w1.cell? ⟨w.heap.size, 1, none⟩ = some (.int .i64 b) := by rw [hb1.cell (by simp)]; simp
          have t2 : w1.cell? ⟨w.heap.size, 2, none⟩ = some (.int .i64 n) := by rw [hb1.cell (by simp)]; simp
          have t4 := hb0
          clear hb0 hb1
          have t5 := HSS.out.below t4
          go_wp2_with fail
          refine (few_any _ A m c l t5).mono ?_
          rintro e w2 ⟨rfl, rfl⟩
          rw [hf]
          go_wp2_with fail
          refine (within_any _ j b n x A m c l t5).mono ?_
          rintro e w3 ⟨rfl, hb⟩
          rw [hw]
          obtain ⟨RR, hRR⟩ : ∃ RR, RR = reach j b n := ⟨_, rfl⟩
          rw [← hRR] at hr1 hr2
          have HRR := Lib.hid hRR
          clear hRR
          have u0 := (hb.cell (p := ⟨w.heap.size, 0, none⟩) t3).trans t0
          have u1 := (hb.cell (p := ⟨w.heap.size, 1, none⟩) t3).trans t1
          have u2 := (hb.cell (p := ⟨w.heap.size, 2, none⟩) t3).trans t2
          have u3 : w.heap.size < w3.heap.size := Nat.lt_of_lt_of_le t3 hb.size
          have u4 := blt t4 hb
          have u5 := t5.below hb
          clear t0 t1 t2 t3 t4 t5 hb
          go_wp2_with fail
          refine (race_all _ x y A m c l u5 ht hy a1 a2 HAB.out).mono ?_
          rintro e w4 ⟨rfl, hb⟩
          have t0 := (hb.cell (p := ⟨w.heap.size, 0, none⟩) u3).trans u0
          have t1 := (hb.cell (p := ⟨w.heap.size, 1, none⟩) u3).trans u1
          have t2 := (hb.cell (p := ⟨w.heap.size, 2, none⟩) u3).trans u2
          have t3 : w.heap.size < w4.heap.size := Nat.lt_of_lt_of_le u3 hb.size
          have t4 := blt u4 hb
          have t5 := u5.below hb
          clear u0 u1 u2 u3 u4 u5 hb
          by_cases c3 : a2 = 0
          · subst c3
            have hlt : a1 < y + RR := by
              have := HR2.out
              rw [← HRR.out] at this
              simp at this
              omega
            have d3 : decide (a1 < y + RR) = true := decide_eq_true hlt
            go_wp2_with (go_at_call 11; refine (reach_any j b n _).mono ?_; rintro e w5 ⟨rfl, hb5⟩; rw [← HRR.out])
            go_ret
            exact ⟨rfl, blt t4 hb5⟩
          · have e3 : (a2 != 0) = true := by simpa using c3
            have e4 : ¬ a2 < y := by omega
            have e5 : ¬ a1 < a2 := by omega
            have e6 : ¬ a2 ≤ x := by omega
            have d4 : decide (a2 < y) = false := decide_eq_false e4
            have d5 : decide (a1 < a2) = false := decide_eq_false e5
            have d6 : decide (a2 ≤ x) = false := decide_eq_false e6
            by_cases hlt : a1 < y + RR
            · have d3 : decide (a1 < y + RR) = true := decide_eq_true hlt
              go_wp2_with (go_at_call 11; refine (reach_any j b n _).mono ?_; rintro e w5 ⟨rfl, hb5⟩; rw [← HRR.out])
              go_ret
              exact ⟨rfl, blt t4 hb5⟩
            · have d3 : decide (a1 < y + RR) = false := decide_eq_false hlt
              have h7 := HR2.out (by rw [← HRR.out]; omega)
              rw [← HRR.out] at h7
              obtain ⟨h8, h9⟩ := h7
              have d7 : decide (0 < a2) = true := decide_eq_true h8
              have d8 : decide (a2 < y + RR) = true := decide_eq_true h9
              go_wp2_with fail
              refine (reach_any j b n _).mono ?_
              rintro e w5 ⟨rfl, hb⟩
              rw [← HRR.out]
              have u0 := (hb.cell (p := ⟨w.heap.size, 0, none⟩) t3).trans t0
              have u1 := (hb.cell (p := ⟨w.heap.size, 1, none⟩) t3).trans t1
              have u2 := (hb.cell (p := ⟨w.heap.size, 2, none⟩) t3).trans t2
              have u3 : w.heap.size < w5.heap.size := Nat.lt_of_lt_of_le t3 hb.size
              have u4 := blt t4 hb
              have u5 := t5.below hb
              clear t0 t1 t2 t3 t4 t5 hb
              go_wp2_with fail
              refine (reach_any j b n _).mono ?_
              rintro e w6 ⟨rfl, hb⟩
              rw [← HRR.out]
              go_wp2_with fail
              go_ret
              exact ⟨rfl, blt u4 hb⟩
    · 
      have HSS := Lib.hid hs
      clear hs
      go_enter Try.func5, Try.ntmps5
      go_wp2_with fail
      refine (small_any _).mono ?_
      rintro e w1 ⟨rfl, hb1⟩
      have hb0 : Below w.heap.size w w1 := blt (bla (Below.refl _ _) _) hb1
      have t3 : w.heap.size < w1.heap.size := by have := hb1.size; simp at this; omega
      have t0 : w1.cell? ⟨w.heap.size, 0, none⟩ = some (.int .i64 j) := by rw [hb1.cell (by simp)]; simp
      have t1 : w1.cell? ⟨w.heap.size, 1, none⟩ = some (.int .i64 b) := by rw [hb1.cell (by simp)]; simp
      have t2 : w1.cell? ⟨w.heap.size, 2, none⟩ = some (.int .i64 n) := by rw [hb1.cell (by simp)]; simp
      have t4 := hb0
      clear hb0 hb1
      have t5 := HSS.out.below t4
      go_wp2_with fail
      refine (few_any _ A m c l t5).mono ?_
      rintro e w2 ⟨rfl, rfl⟩
      rw [hf]
      go_wp2_with fail
      refine (within_any _ j b n x A m c l t5).mono ?_
      rintro e w3 ⟨rfl, hb⟩
      rw [hw]
      go_wp2_with fail
      go_ret
      exact ⟨rfl, blt t4 hb⟩
  · 
    have HSS := Lib.hid hs
    clear hs
    go_enter Try.func5, Try.ntmps5
    go_wp2_with fail
    refine (small_any _).mono ?_
    rintro e w1 ⟨rfl, hb1⟩
    have hb0 : Below w.heap.size w w1 := blt (bla (Below.refl _ _) _) hb1
    have t3 : w.heap.size < w1.heap.size := by have := hb1.size; simp at this; omega
    have t0 : w1.cell? ⟨w.heap.size, 0, none⟩ = some (.int .i64 j) := by rw [hb1.cell (by simp)]; simp
    have t1 : w1.cell? ⟨w.heap.size, 1, none⟩ = some (.int .i64 b) := by rw [hb1.cell (by simp)]; simp
    have t2 : w1.cell? ⟨w.heap.size, 2, none⟩ = some (.int .i64 n) := by rw [hb1.cell (by simp)]; simp
    have t4 := hb0
    clear hb0 hb1
    have t5 := HSS.out.below t4
    go_wp2_with fail
    refine (few_any _ A m c l t5).mono ?_
    rintro e w2 ⟨rfl, rfl⟩
    rw [hf]
    go_wp2_with fail
    go_ret
    exact ⟨rfl, t4⟩

end Go.Proofs.Ytolapebihnipdaa
