/-
  What the small functions of both texts tell, of any bounds and numbers.
-/
import Derived.Test.YtolapebihnipdaaProg
import Derived.Test.YtolapebihnipdaaPlain
import Derived.WalkKit
import Derived.WalkLawsBesides
import Derived.BigQuiet
import Derived.Deep.QuietTactic
import Derived.Deep.RegionHeld3
import Derived.Deep.DeepCutAuto
import Derived.Lib.Hide
import Derived.Outline
namespace Go.Proofs.Ytolapebihnipdaa
open Go.RowKit

theorem height_any (n : Int) (w : World) : Calls Try.prog 27 #[.int .i64 n] w fun e w' => e = .returned (.bool (heightB n)) ∧ w = w' := by
  by_cases h0 : 0 ≤ n
  · by_cases h1 : n ≤ 1048576
    · have H := Lib.hid (show heightB n = true by simp [heightB, h0, h1])
      go_enter Try.func27, Try.ntmps27
      go_wp2
      go_ret
      rw [H.out]; exact ⟨rfl, rfl⟩
    · have H := Lib.hid (show heightB n = false by simp [heightB, h1])
      go_enter Try.func27, Try.ntmps27
      go_wp2
      go_ret
      rw [H.out]; exact ⟨rfl, rfl⟩
  · have H := Lib.hid (show heightB n = false by simp [heightB, h0])
    go_enter Try.func27, Try.ntmps27
    go_wp2
    go_ret
    rw [H.out]; exact ⟨rfl, rfl⟩

theorem ret_bool {a b : Bool} (h : a = b) : Ending.returned (.bool a) = Ending.returned (.bool b) := by rw [h]
theorem ret_int {k : IntKind} {a b : Int} (h : a = b) : Ending.returned (.int k a) = Ending.returned (.int k b) := by rw [h]

theorem right_any (j b n : Int) (w : World) : Calls Try.prog 9 #[.agg #[.int .i64 j, .int .i64 b, .int .i64 n]] w fun e w' => e = .returned (.bool (rightB j b n)) ∧ Below w.heap.size w w' := by
  go_enter Try.func9, Try.ntmps9
  go_wp2
  all_goals (go_ret; refine ⟨ret_bool ?_, (Below.refl _ _).alloc (Nat.le_refl _) _⟩; rw [Bool.eq_iff_iff]; simp [rightB]; omega)

theorem right_ref (j b n : Int) (w : World) : Calls Try.prog 10 #[.agg #[.int .i64 j, .int .i64 b, .int .i64 n]] w fun e w' => e = .returned (.bool (rightB j b n)) ∧ Below w.heap.size w w' := by
  go_enter Try.func10, Try.ntmps10
  go_wp2
  all_goals (go_ret; refine ⟨ret_bool ?_, (Below.refl _ _).alloc (Nat.le_refl _) _⟩; rw [Bool.eq_iff_iff]; simp [rightB]; omega)

theorem bcell {W w1 : World} (hb : Below W.heap.size W w1) : (∀ b o, b < W.heap.size → w1.cell? ⟨b, o, none⟩ = W.cell? ⟨b, o, none⟩) ∧ (∀ b o, b < W.heap.size → w1.frozen? ⟨b, o, none⟩ = W.frozen? ⟨b, o, none⟩) :=
  ⟨fun b o h => hb.cell (p := ⟨b, o, none⟩) h, fun b o h => hb.frozen (p := ⟨b, o, none⟩) h⟩

theorem right_bds {j b n : Int} (h : rightB j b n = true) : 0 ≤ j ∧ j ≤ 1000 ∧ 0 ≤ b ∧ b ≤ 1000 ∧ 1 ≤ n ∧ n ≤ 1000 := by simpa [rightB] using h

theorem blt {W w1 w2 : World} (h1 : Below W.heap.size W w1) (h2 : Below w1.heap.size w1 w2) : Below W.heap.size W w2 := h1.trans (h2.mono h1.size)
theorem bla {W w1 : World} (h1 : Below W.heap.size W w1) (o : Obj) : Below W.heap.size W (w1.alloc o) := h1.alloc h1.size o
theorem bld {W w1 : World} (h1 : Below W.heap.size W w1) : Below W.heap.size W w1.drew := h1.drew
theorem height_bds {x : Int} (h : heightB x = true) : 0 ≤ x ∧ x ≤ 1048576 := by simpa [heightB] using h

theorem reach_any (j b n : Int) (w : World) : Calls Try.prog 11 #[.agg #[.int .i64 j, .int .i64 b, .int .i64 n]] w fun e w' => e = .returned (.int .i64 (reach j b n)) ∧ Below w.heap.size w w' := by
  by_cases h : rightB j b n = true
  · obtain ⟨a1, a2, a3, a4, a5, a6⟩ := right_bds h
    have H := Lib.hid (show reach j b n = n + j + b + 1 by simp [reach, h])

    go_enter Try.func11, Try.ntmps11
    go_wp2_with (go_at_call 9; refine (right_any _ _ _ _).mono ?_; rintro e w' ⟨rfl, hb⟩; obtain ⟨hc, hf⟩ := bcell hb)
    all_goals (go_ret; refine ⟨ret_int (by rw [H.out]; try omega), ?_⟩; repeat (first | exact Below.refl _ _ | refine bla ?_ _ | refine bld ?_ | (apply blt; rotate_left 1; assumption)))
  · simp only [Bool.not_eq_true] at h
    have H := Lib.hid (show reach j b n = 0 by simp [reach, h])
    go_enter Try.func11, Try.ntmps11
    go_wp2_with (go_at_call 9; refine (right_any _ _ _ _).mono ?_; rintro e w' ⟨rfl, hb⟩; obtain ⟨hc, hf⟩ := bcell hb)
    all_goals (go_ret; refine ⟨ret_int (by rw [H.out]; try omega), ?_⟩; repeat (first | exact Below.refl _ _ | refine bla ?_ _ | refine bld ?_ | (apply blt; rotate_left 1; assumption)))

theorem span_any (j b n : Int) (w : World) : Calls Try.prog 13 #[.agg #[.int .i64 j, .int .i64 b, .int .i64 n]] w fun e w' => e = .returned (.int .i64 (span j b n)) ∧ Below w.heap.size w w' := by
  by_cases h : rightB j b n = true
  · obtain ⟨a1, a2, a3, a4, a5, a6⟩ := right_bds h
    have H := Lib.hid (show span j b n = n + j + b + 13 by simp [span, h])
    have hq : reach j b n = n + j + b + 1 := by simp [reach, h]
    go_enter Try.func13, Try.ntmps13
    go_wp2_with (first | (go_at_call 9; refine (right_any _ _ _ _).mono ?_; rintro e w' ⟨rfl, hb⟩; obtain ⟨hc, hf⟩ := bcell hb) | (go_at_call 11; refine (reach_any _ _ _ _).mono ?_; rintro e w' ⟨rfl, hb⟩; obtain ⟨hc, hf⟩ := bcell hb))
    all_goals (go_ret; refine ⟨ret_int (by rw [H.out]; try omega), ?_⟩; repeat (first | exact Below.refl _ _ | refine bla ?_ _ | refine bld ?_ | (apply blt; rotate_left 1; assumption)))
  · simp only [Bool.not_eq_true] at h
    have H := Lib.hid (show span j b n = 0 by simp [span, h])
    go_enter Try.func13, Try.ntmps13
    go_wp2_with (first | (go_at_call 9; refine (right_any _ _ _ _).mono ?_; rintro e w' ⟨rfl, hb⟩; obtain ⟨hc, hf⟩ := bcell hb) | (go_at_call 11; refine (reach_any _ _ _ _).mono ?_; rintro e w' ⟨rfl, hb⟩; obtain ⟨hc, hf⟩ := bcell hb))
    all_goals (go_ret; refine ⟨ret_int (by rw [H.out]; try omega), ?_⟩; repeat (first | exact Below.refl _ _ | refine bla ?_ _ | refine bld ?_ | (apply blt; rotate_left 1; assumption)))

theorem least_any (j b n : Int) (w : World) : Calls Try.prog 15 #[.agg #[.int .i64 j, .int .i64 b, .int .i64 n]] w fun e w' => e = .returned (.int .i64 (least j b n)) ∧ Below w.heap.size w w' := by
  by_cases h : rightB j b n = true
  · obtain ⟨a1, a2, a3, a4, a5, a6⟩ := right_bds h
    have H := Lib.hid (show least j b n = n + j + b + 14 by simp [least, h])
    have hq : span j b n = n + j + b + 13 := by simp [span, h]
    go_enter Try.func15, Try.ntmps15
    go_wp2_with (first | (go_at_call 9; refine (right_any _ _ _ _).mono ?_; rintro e w' ⟨rfl, hb⟩; obtain ⟨hc, hf⟩ := bcell hb) | (go_at_call 13; refine (span_any _ _ _ _).mono ?_; rintro e w' ⟨rfl, hb⟩; obtain ⟨hc, hf⟩ := bcell hb))
    all_goals (go_ret; refine ⟨ret_int (by rw [H.out]; try omega), ?_⟩; repeat (first | exact Below.refl _ _ | refine bla ?_ _ | refine bld ?_ | (apply blt; rotate_left 1; assumption)))
  · simp only [Bool.not_eq_true] at h
    have H := Lib.hid (show least j b n = 0 by simp [least, h])
    go_enter Try.func15, Try.ntmps15
    go_wp2_with (first | (go_at_call 9; refine (right_any _ _ _ _).mono ?_; rintro e w' ⟨rfl, hb⟩; obtain ⟨hc, hf⟩ := bcell hb) | (go_at_call 13; refine (span_any _ _ _ _).mono ?_; rintro e w' ⟨rfl, hb⟩; obtain ⟨hc, hf⟩ := bcell hb))
    all_goals (go_ret; refine ⟨ret_int (by rw [H.out]; try omega), ?_⟩; repeat (first | exact Below.refl _ _ | refine bla ?_ _ | refine bld ?_ | (apply blt; rotate_left 1; assumption)))

theorem publish_any (x y j b n : Int) (w : World) : Calls Try.prog 17 #[.int .i64 x, .int .i64 y, .agg #[.int .i64 j, .int .i64 b, .int .i64 n]] w fun e w' => e = .returned (.int .i64 (publish x y j b n)) ∧ Below w.heap.size w w' := by
  rcases Bool.eq_false_or_eq_true (heightB x) with hx | hx <;> rcases Bool.eq_false_or_eq_true (heightB y) with hy | hy <;> rcases Bool.eq_false_or_eq_true (rightB j b n) with h | h
  · obtain ⟨a1, a2, a3, a4, a5, a6⟩ := right_bds h
    obtain ⟨b1, b2⟩ := height_bds hx
    obtain ⟨b3, b4⟩ := height_bds hy
    have H := Lib.hid (show publish x y j b n = x - y - 2 * (n + j + b + 13) by simp [publish, h, hx, hy])
    have hq : span j b n = n + j + b + 13 := by simp [span, h]
    go_enter Try.func17, Try.ntmps17
    go_wp2_with (first | (go_at_call 27; refine (height_any _ _).mono ?_; rintro e w' ⟨rfl, rfl⟩) | (go_at_call 9; refine (right_any _ _ _ _).mono ?_; rintro e w' ⟨rfl, hb⟩; obtain ⟨hc, hf⟩ := bcell hb) | (go_at_call 13; refine (span_any _ _ _ _).mono ?_; rintro e w' ⟨rfl, hb⟩; obtain ⟨hc, hf⟩ := bcell hb))
    all_goals (go_ret; refine ⟨ret_int (by rw [H.out]; try omega), ?_⟩; repeat (first | exact Below.refl _ _ | refine bla ?_ _ | refine bld ?_ | (apply blt; rotate_left 1; assumption)))
  all_goals
    have H := Lib.hid (show publish x y j b n = 0 by simp [publish, h, hx, hy])
    go_enter Try.func17, Try.ntmps17
    go_wp2_with (first | (go_at_call 27; refine (height_any _ _).mono ?_; rintro e w' ⟨rfl, rfl⟩) | (go_at_call 9; refine (right_any _ _ _ _).mono ?_; rintro e w' ⟨rfl, hb⟩; obtain ⟨hc, hf⟩ := bcell hb) | (go_at_call 13; refine (span_any _ _ _ _).mono ?_; rintro e w' ⟨rfl, hb⟩; obtain ⟨hc, hf⟩ := bcell hb))
    all_goals (go_ret; refine ⟨ret_int (by rw [H.out]; try omega), ?_⟩; repeat (first | exact Below.refl _ _ | refine bla ?_ _ | refine bld ?_ | (apply blt; rotate_left 1; assumption)))

theorem delta_any (x y j b n : Int) (w : World) : Calls Try.prog 19 #[.int .i64 x, .int .i64 y, .agg #[.int .i64 j, .int .i64 b, .int .i64 n]] w fun e w' => e = .returned (.int .i64 (delta x y j b n)) ∧ Below w.heap.size w w' := by
  rcases Bool.eq_false_or_eq_true (heightB x) with hx | hx <;> rcases Bool.eq_false_or_eq_true (heightB y) with hy | hy <;> rcases Bool.eq_false_or_eq_true (rightB j b n) with h | h
  · obtain ⟨a1, a2, a3, a4, a5, a6⟩ := right_bds h
    obtain ⟨b1, b2⟩ := height_bds hx
    obtain ⟨b3, b4⟩ := height_bds hy
    have H := Lib.hid (show delta x y j b n = x + y + 4 * (n + j + b + 13) by simp [delta, h, hx, hy])
    have hq : span j b n = n + j + b + 13 := by simp [span, h]
    go_enter Try.func19, Try.ntmps19
    go_wp2_with (first | (go_at_call 27; refine (height_any _ _).mono ?_; rintro e w' ⟨rfl, rfl⟩) | (go_at_call 9; refine (right_any _ _ _ _).mono ?_; rintro e w' ⟨rfl, hb⟩; obtain ⟨hc, hf⟩ := bcell hb) | (go_at_call 13; refine (span_any _ _ _ _).mono ?_; rintro e w' ⟨rfl, hb⟩; obtain ⟨hc, hf⟩ := bcell hb))
    all_goals (go_ret; refine ⟨ret_int (by rw [H.out]; try omega), ?_⟩; repeat (first | exact Below.refl _ _ | refine bla ?_ _ | refine bld ?_ | (apply blt; rotate_left 1; assumption)))
  all_goals
    have H := Lib.hid (show delta x y j b n = 0 by simp [delta, h, hx, hy])
    go_enter Try.func19, Try.ntmps19
    go_wp2_with (first | (go_at_call 27; refine (height_any _ _).mono ?_; rintro e w' ⟨rfl, rfl⟩) | (go_at_call 9; refine (right_any _ _ _ _).mono ?_; rintro e w' ⟨rfl, hb⟩; obtain ⟨hc, hf⟩ := bcell hb) | (go_at_call 13; refine (span_any _ _ _ _).mono ?_; rintro e w' ⟨rfl, hb⟩; obtain ⟨hc, hf⟩ := bcell hb))
    all_goals (go_ret; refine ⟨ret_int (by rw [H.out]; try omega), ?_⟩; repeat (first | exact Below.refl _ _ | refine bla ?_ _ | refine bld ?_ | (apply blt; rotate_left 1; assumption)))

theorem height_ref (n : Int) (w : World) : Calls Try.prog 28 #[.int .i64 n] w fun e w' => e = .returned (.bool (heightB n)) ∧ w = w' := by
  by_cases h0 : 0 ≤ n
  · by_cases h1 : n ≤ 1048576
    · have H := Lib.hid (show heightB n = true by simp [heightB, h0, h1])
      go_enter Try.func28, Try.ntmps28
      go_wp2
      go_ret
      rw [H.out]; exact ⟨rfl, rfl⟩
    · have H := Lib.hid (show heightB n = false by simp [heightB, h1])
      go_enter Try.func28, Try.ntmps28
      go_wp2
      go_ret
      rw [H.out]; exact ⟨rfl, rfl⟩
  · have H := Lib.hid (show heightB n = false by simp [heightB, h0])
    go_enter Try.func28, Try.ntmps28
    go_wp2
    go_ret
    rw [H.out]; exact ⟨rfl, rfl⟩


theorem reach_ref (j b n : Int) (w : World) : Calls Try.prog 12 #[.agg #[.int .i64 j, .int .i64 b, .int .i64 n]] w fun e w' => e = .returned (.int .i64 (reach j b n)) ∧ Below w.heap.size w w' := by
  by_cases h : rightB j b n = true
  · obtain ⟨a1, a2, a3, a4, a5, a6⟩ := right_bds h
    have H := Lib.hid (show reach j b n = n + j + b + 1 by simp [reach, h])

    go_enter Try.func12, Try.ntmps12
    go_wp2_with (go_at_call 10; refine (right_ref _ _ _ _).mono ?_; rintro e w' ⟨rfl, hb⟩; obtain ⟨hc, hf⟩ := bcell hb)
    all_goals (go_ret; refine ⟨ret_int (by rw [H.out]; try omega), ?_⟩; repeat (first | exact Below.refl _ _ | refine bla ?_ _ | refine bld ?_ | (apply blt; rotate_left 1; assumption)))
  · simp only [Bool.not_eq_true] at h
    have H := Lib.hid (show reach j b n = 0 by simp [reach, h])
    go_enter Try.func12, Try.ntmps12
    go_wp2_with (go_at_call 10; refine (right_ref _ _ _ _).mono ?_; rintro e w' ⟨rfl, hb⟩; obtain ⟨hc, hf⟩ := bcell hb)
    all_goals (go_ret; refine ⟨ret_int (by rw [H.out]; try omega), ?_⟩; repeat (first | exact Below.refl _ _ | refine bla ?_ _ | refine bld ?_ | (apply blt; rotate_left 1; assumption)))

theorem span_ref (j b n : Int) (w : World) : Calls Try.prog 14 #[.agg #[.int .i64 j, .int .i64 b, .int .i64 n]] w fun e w' => e = .returned (.int .i64 (span j b n)) ∧ Below w.heap.size w w' := by
  by_cases h : rightB j b n = true
  · obtain ⟨a1, a2, a3, a4, a5, a6⟩ := right_bds h
    have H := Lib.hid (show span j b n = n + j + b + 13 by simp [span, h])
    have hq : reach j b n = n + j + b + 1 := by simp [reach, h]
    go_enter Try.func14, Try.ntmps14
    go_wp2_with (first | (go_at_call 10; refine (right_ref _ _ _ _).mono ?_; rintro e w' ⟨rfl, hb⟩; obtain ⟨hc, hf⟩ := bcell hb) | (go_at_call 12; refine (reach_ref _ _ _ _).mono ?_; rintro e w' ⟨rfl, hb⟩; obtain ⟨hc, hf⟩ := bcell hb))
    all_goals (go_ret; refine ⟨ret_int (by rw [H.out]; try omega), ?_⟩; repeat (first | exact Below.refl _ _ | refine bla ?_ _ | refine bld ?_ | (apply blt; rotate_left 1; assumption)))
  · simp only [Bool.not_eq_true] at h
    have H := Lib.hid (show span j b n = 0 by simp [span, h])
    go_enter Try.func14, Try.ntmps14
    go_wp2_with (first | (go_at_call 10; refine (right_ref _ _ _ _).mono ?_; rintro e w' ⟨rfl, hb⟩; obtain ⟨hc, hf⟩ := bcell hb) | (go_at_call 12; refine (reach_ref _ _ _ _).mono ?_; rintro e w' ⟨rfl, hb⟩; obtain ⟨hc, hf⟩ := bcell hb))
    all_goals (go_ret; refine ⟨ret_int (by rw [H.out]; try omega), ?_⟩; repeat (first | exact Below.refl _ _ | refine bla ?_ _ | refine bld ?_ | (apply blt; rotate_left 1; assumption)))

theorem least_ref (j b n : Int) (w : World) : Calls Try.prog 16 #[.agg #[.int .i64 j, .int .i64 b, .int .i64 n]] w fun e w' => e = .returned (.int .i64 (least j b n)) ∧ Below w.heap.size w w' := by
  by_cases h : rightB j b n = true
  · obtain ⟨a1, a2, a3, a4, a5, a6⟩ := right_bds h
    have H := Lib.hid (show least j b n = n + j + b + 14 by simp [least, h])
    have hq : span j b n = n + j + b + 13 := by simp [span, h]
    go_enter Try.func16, Try.ntmps16
    go_wp2_with (first | (go_at_call 10; refine (right_ref _ _ _ _).mono ?_; rintro e w' ⟨rfl, hb⟩; obtain ⟨hc, hf⟩ := bcell hb) | (go_at_call 14; refine (span_ref _ _ _ _).mono ?_; rintro e w' ⟨rfl, hb⟩; obtain ⟨hc, hf⟩ := bcell hb))
    all_goals (go_ret; refine ⟨ret_int (by rw [H.out]; try omega), ?_⟩; repeat (first | exact Below.refl _ _ | refine bla ?_ _ | refine bld ?_ | (apply blt; rotate_left 1; assumption)))
  · simp only [Bool.not_eq_true] at h
    have H := Lib.hid (show least j b n = 0 by simp [least, h])
    go_enter Try.func16, Try.ntmps16
    go_wp2_with (first | (go_at_call 10; refine (right_ref _ _ _ _).mono ?_; rintro e w' ⟨rfl, hb⟩; obtain ⟨hc, hf⟩ := bcell hb) | (go_at_call 14; refine (span_ref _ _ _ _).mono ?_; rintro e w' ⟨rfl, hb⟩; obtain ⟨hc, hf⟩ := bcell hb))
    all_goals (go_ret; refine ⟨ret_int (by rw [H.out]; try omega), ?_⟩; repeat (first | exact Below.refl _ _ | refine bla ?_ _ | refine bld ?_ | (apply blt; rotate_left 1; assumption)))

theorem publish_ref (x y j b n : Int) (w : World) : Calls Try.prog 18 #[.int .i64 x, .int .i64 y, .agg #[.int .i64 j, .int .i64 b, .int .i64 n]] w fun e w' => e = .returned (.int .i64 (publish x y j b n)) ∧ Below w.heap.size w w' := by
  rcases Bool.eq_false_or_eq_true (heightB x) with hx | hx <;> rcases Bool.eq_false_or_eq_true (heightB y) with hy | hy <;> rcases Bool.eq_false_or_eq_true (rightB j b n) with h | h
  · obtain ⟨a1, a2, a3, a4, a5, a6⟩ := right_bds h
    obtain ⟨b1, b2⟩ := height_bds hx
    obtain ⟨b3, b4⟩ := height_bds hy
    have H := Lib.hid (show publish x y j b n = x - y - 2 * (n + j + b + 13) by simp [publish, h, hx, hy])
    have hq : span j b n = n + j + b + 13 := by simp [span, h]
    go_enter Try.func18, Try.ntmps18
    go_wp2_with (first | (go_at_call 28; refine (height_ref _ _).mono ?_; rintro e w' ⟨rfl, rfl⟩) | (go_at_call 10; refine (right_ref _ _ _ _).mono ?_; rintro e w' ⟨rfl, hb⟩; obtain ⟨hc, hf⟩ := bcell hb) | (go_at_call 14; refine (span_ref _ _ _ _).mono ?_; rintro e w' ⟨rfl, hb⟩; obtain ⟨hc, hf⟩ := bcell hb))
    all_goals (go_ret; refine ⟨ret_int (by rw [H.out]; try omega), ?_⟩; repeat (first | exact Below.refl _ _ | refine bla ?_ _ | refine bld ?_ | (apply blt; rotate_left 1; assumption)))
  all_goals
    have H := Lib.hid (show publish x y j b n = 0 by simp [publish, h, hx, hy])
    go_enter Try.func18, Try.ntmps18
    go_wp2_with (first | (go_at_call 28; refine (height_ref _ _).mono ?_; rintro e w' ⟨rfl, rfl⟩) | (go_at_call 10; refine (right_ref _ _ _ _).mono ?_; rintro e w' ⟨rfl, hb⟩; obtain ⟨hc, hf⟩ := bcell hb) | (go_at_call 14; refine (span_ref _ _ _ _).mono ?_; rintro e w' ⟨rfl, hb⟩; obtain ⟨hc, hf⟩ := bcell hb))
    all_goals (go_ret; refine ⟨ret_int (by rw [H.out]; try omega), ?_⟩; repeat (first | exact Below.refl _ _ | refine bla ?_ _ | refine bld ?_ | (apply blt; rotate_left 1; assumption)))

theorem delta_ref (x y j b n : Int) (w : World) : Calls Try.prog 20 #[.int .i64 x, .int .i64 y, .agg #[.int .i64 j, .int .i64 b, .int .i64 n]] w fun e w' => e = .returned (.int .i64 (delta x y j b n)) ∧ Below w.heap.size w w' := by
  rcases Bool.eq_false_or_eq_true (heightB x) with hx | hx <;> rcases Bool.eq_false_or_eq_true (heightB y) with hy | hy <;> rcases Bool.eq_false_or_eq_true (rightB j b n) with h | h
  · obtain ⟨a1, a2, a3, a4, a5, a6⟩ := right_bds h
    obtain ⟨b1, b2⟩ := height_bds hx
    obtain ⟨b3, b4⟩ := height_bds hy
    have H := Lib.hid (show delta x y j b n = x + y + 4 * (n + j + b + 13) by simp [delta, h, hx, hy])
    have hq : span j b n = n + j + b + 13 := by simp [span, h]
    go_enter Try.func20, Try.ntmps20
    go_wp2_with (first | (go_at_call 28; refine (height_ref _ _).mono ?_; rintro e w' ⟨rfl, rfl⟩) | (go_at_call 10; refine (right_ref _ _ _ _).mono ?_; rintro e w' ⟨rfl, hb⟩; obtain ⟨hc, hf⟩ := bcell hb) | (go_at_call 14; refine (span_ref _ _ _ _).mono ?_; rintro e w' ⟨rfl, hb⟩; obtain ⟨hc, hf⟩ := bcell hb))
    all_goals (go_ret; refine ⟨ret_int (by rw [H.out]; try omega), ?_⟩; repeat (first | exact Below.refl _ _ | refine bla ?_ _ | refine bld ?_ | (apply blt; rotate_left 1; assumption)))
  all_goals
    have H := Lib.hid (show delta x y j b n = 0 by simp [delta, h, hx, hy])
    go_enter Try.func20, Try.ntmps20
    go_wp2_with (first | (go_at_call 28; refine (height_ref _ _).mono ?_; rintro e w' ⟨rfl, rfl⟩) | (go_at_call 10; refine (right_ref _ _ _ _).mono ?_; rintro e w' ⟨rfl, hb⟩; obtain ⟨hc, hf⟩ := bcell hb) | (go_at_call 14; refine (span_ref _ _ _ _).mono ?_; rintro e w' ⟨rfl, hb⟩; obtain ⟨hc, hf⟩ := bcell hb))
    all_goals (go_ret; refine ⟨ret_int (by rw [H.out]; try omega), ?_⟩; repeat (first | exact Below.refl _ _ | refine bla ?_ _ | refine bld ?_ | (apply blt; rotate_left 1; assumption)))

end Go.Proofs.Ytolapebihnipdaa
