/-
  A race of any heights, by both texts.
-/
import Derived.Test.YtolapebihnipdaaSml
import Derived.Deep.RegionHeld3
import Derived.Deep.DrawnRows
namespace Go.Proofs.Ytolapebihnipdaa
open Go.RowKit
set_option linter.unusedVariables false
attribute [local go_sem ↓] Go.wp_at_zero Go.wp_at_succ

theorem race_no (w : World) (fr op : Int) (A : Option Addr) (n c : Nat) (h : fr < 0 ∨ 2097152 < fr ∨ 2097152 < op) :
    Calls Try.prog 22 #[.int .i64 fr, .int .i64 op, .slice A n c] w fun e w' => e = .returned (.tuple #[.int .i64 0, .int .i64 0]) ∧ w = w' := by
  by_cases h0 : fr < 0
  · go_enter Try.func22, Try.ntmps22
    go_wp2_with fail
    go_ret2
    exact ⟨rfl, rfl⟩
  · obtain ⟨M, hM, hM1⟩ : ∃ M : Int, (if fr < op then op else fr) = M ∧ 2097152 < M := ⟨_, rfl, by split <;> omega⟩
    go_enter Try.func22, Try.ntmps22
    go_wp2_with fail
    go_ret2
    exact ⟨rfl, rfl⟩

theorem race_ref_no (w : World) (fr op : Int) (A : Option Addr) (n c : Nat) (h : fr < 0 ∨ 2097152 < fr ∨ 2097152 < op) :
    Calls Try.prog 23 #[.int .i64 fr, .int .i64 op, .slice A n c] w fun e w' => e = .returned (.tuple #[.int .i64 0, .int .i64 0]) ∧ w = w' := by
  by_cases h0 : fr < 0
  · go_enter Try.func23, Try.ntmps23
    go_wp2_with fail
    go_ret2
    exact ⟨rfl, rfl⟩
  · by_cases h1 : 2097152 < fr
    · go_enter Try.func23, Try.ntmps23
      go_wp2_with fail
      go_ret2
      exact ⟨rfl, rfl⟩
    · have h2 : 2097152 < op := by omega
      go_enter Try.func23, Try.ntmps23
      go_wp2_with fail
      go_ret2
      exact ⟨rfl, rfl⟩

theorem race_all (w : World) (fr op : Int) (A : Option Addr) (n c : Nat) (l : List St) (hs : Steps w w.heap.size A n l) (ht : total l ≤ 1000000) (hop1 : -9223372036854775808 ≤ op) (a b : Int) (hab : raceAll fr op l = (a, b)) :
    Calls Try.prog 22 #[.int .i64 fr, .int .i64 op, .slice A n c] w fun e w' => e = .returned (.tuple #[.int .i64 a, .int .i64 b]) ∧ Below w.heap.size w w' := by
  unfold raceAll at hab
  by_cases h : fr < 0 ∨ 2097152 < fr ∨ 2097152 < op
  · rw [if_pos h] at hab
    injection hab with h1 h2
    subst h1; subst h2
    refine (race_no w fr op A n c h).mono ?_
    rintro e w' ⟨rfl, rfl⟩
    exact ⟨rfl, Below.refl _ _⟩
  · rw [if_neg h] at hab
    refine (race_any w fr op A n c l hs ht (by omega) (by omega) (by omega) hop1).mono ?_
    rintro e w' ⟨rfl, hb⟩
    rw [hab]
    exact ⟨rfl, hb⟩

theorem race_ref_all (w : World) (fr op : Int) (A : Option Addr) (n c : Nat) (l : List St) (hs : Steps w w.heap.size A n l) (ht : total l ≤ 1000000) (hop1 : -9223372036854775808 ≤ op) (a b : Int) (hab : raceAll fr op l = (a, b)) :
    Calls Try.prog 23 #[.int .i64 fr, .int .i64 op, .slice A n c] w fun e w' => e = .returned (.tuple #[.int .i64 a, .int .i64 b]) ∧ w = w' := by
  unfold raceAll at hab
  by_cases h : fr < 0 ∨ 2097152 < fr ∨ 2097152 < op
  · rw [if_pos h] at hab
    injection hab with h1 h2
    subst h1; subst h2
    exact race_ref_no w fr op A n c h
  · rw [if_neg h] at hab
    exact race_ref w fr op A n c l hs ht (by omega) (by omega) (by omega) hop1 (a, b) hab

theorem few_bds {l : List St} (h : fewB l = true) : total l ≤ 2000 ∧ l.length ≤ 1100 := by simpa [fewB] using h

end Go.Proofs.Ytolapebihnipdaa
