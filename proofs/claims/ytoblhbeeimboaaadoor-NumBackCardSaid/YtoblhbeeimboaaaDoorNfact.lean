/-
  Plain facts of the laws.
-/
import Derived.Test.YtoblhbeeimboaaaDoorNsml
namespace Go.Proofs.YtoblhbeeimboaaaDoor
set_option linter.unusedVariables false
set_option linter.unusedSimpArgs false

theorem nB_text {l : List UInt8} {low high : Int} (h : nB l low high = true) : Lib.itoa (nval l) = l := by
  unfold nB at h
  simp only [Bool.and_eq_true] at h
  exact (fine_canon (fine_parts h.1).1).1 h.1

theorem nfit_iff {l : List UInt8} : nfit l = true ↔ -9223372036854775808 ≤ nval l ∧ nval l ≤ 9223372036854775807 := by
  unfold nfit
  simp

theorem nB_range {l : List UInt8} {low high : Int} (h : nB l low high = true) : -9223372036854775808 ≤ nval l ∧ nval l ≤ 9223372036854775807 := by
  unfold nB at h
  simp only [Bool.and_eq_true] at h
  exact nfit_iff.1 h.2.1

/-- A number's text, as it is read. -/
theorem itoa_facts (a : Int) : (nD (Lib.itoa a)).all digB = true ∧ nval (Lib.itoa a) = a := by
  rcases Int.lt_or_le a 0 with h | h
  · obtain ⟨n, rfl⟩ : ∃ n : Nat, a = -(n : Int) := ⟨a.natAbs, by omega⟩
    obtain ⟨h1, h2, h3, _⟩ := dec_facts n
    obtain ⟨e1, e2⟩ := nD_cons 45 (Lib.decDigits n)
    have e2 : nD (45 :: Lib.decDigits n) = Lib.decDigits n := e2
    rw [Lib.itoa_neg n (by omega)]
    refine ⟨by rw [e2]; exact h2, ?_⟩
    unfold nval
    rw [e1, if_pos (by decide), e2, h3]
  · obtain ⟨n, rfl⟩ := Int.eq_ofNat_of_zero_le h
    obtain ⟨h1, h2, h3, _⟩ := dec_facts n
    rw [Lib.itoa_nonneg]
    generalize Lib.decDigits n = l at *
    cases l with
    | nil => exact absurd rfl h1
    | cons c r =>
      have hc : (c == 45) = false := by
        rw [List.all_cons, Bool.and_eq_true] at h2
        have := digB_yes h2.1
        refine beq_eq_false_iff_ne.2 (fun e => ?_)
        subst e
        exact absurd this.1 (by decide)
      obtain ⟨e1, e2⟩ := nD_cons c r
      rw [hc] at e1 e2
      have e2 : nD (c :: r) = c :: r := e2
      refine ⟨by rw [e2]; exact h2, ?_⟩
      unfold nval
      rw [e1, if_neg (by decide), e2, h3]

theorem nB_itoa {a : Int} (h0 : -9223372036854775808 ≤ a) (h1 : a ≤ 9223372036854775807) : nB (Lib.itoa a) (-9223372036854775808) 9223372036854775807 = true := by
  obtain ⟨e1, e2⟩ := itoa_facts a
  rw [nB_canon e1 (nfit_iff.2 (by rw [e2]; exact ⟨h0, h1⟩)), e2, decide_eq_true h0, decide_eq_true h1]
  simp

theorem addB_comm (a b : Int) : addB a b = addB b a := by
  unfold addB coinB
  rw [Bool.eq_iff_iff]
  simp
  omega
theorem subB_back {a b : Int} (h : addB a b = true) : subB (a + b) b = true := by
  have := addB_bound h
  unfold subB coinB
  simp
  omega

/-! Parts. -/
theorem partB_yes {a n d : Int} (h0 : 0 ≤ a) (h1 : a ≤ 1125899906842624) (h2 : 0 ≤ n) (h3 : 1 ≤ d) (h4 : a * n / d ≤ 1125899906842624) : partB a n d = true := by
  unfold partB
  rw [coinB_true.2 ⟨h0, h1⟩, decide_eq_true h2, decide_eq_true h3, decide_eq_true h4]
  rfl
theorem partB_over {a n d : Int} (h4 : 1125899906842624 < a * n / d) : partB a n d = false := by
  unfold partB
  rw [decide_eq_false (by omega : ¬ a * n / d ≤ 1125899906842624)]
  simp
theorem partB_le {a n d : Int} (h : partB a n d = true) : a * n / d ≤ 1125899906842624 := by
  unfold partB at h
  simp only [Bool.and_eq_true, decide_eq_true_eq] at h
  exact h.2.2.2

theorem part_self {a d : Int} (hd : 1 ≤ d) : a * d / d = a := Int.mul_ediv_cancel a (by omega)
theorem part_two (a n d : Int) : a * (2 * n) / (2 * d) = a * n / d := by
  rw [show a * (2 * n) = 2 * (a * n) by rw [Int.mul_left_comm], Int.mul_ediv_mul_of_pos _ _ (by decide)]
theorem partB_two {a n d : Int} : partB a (2 * n) (2 * d) = partB a n d := by
  unfold partB
  rw [part_two]
  have e1 : decide (0 ≤ 2 * n) = decide (0 ≤ n) := by rw [decide_eq_decide]; omega
  have e2 : decide (1 ≤ 2 * d) = decide (1 ≤ d) := by rw [decide_eq_decide]; omega
  rw [e1, e2]
theorem part_mono {a b n d : Int} (hb : a ≤ b) (hn : 0 ≤ n) (hd : 1 ≤ d) : a * n / d ≤ b * n / d :=
  Int.ediv_le_ediv (by omega) (Int.mul_le_mul_of_nonneg_right hb hn)
theorem part_both {a b n d : Int} (hd : 1 ≤ d) : a * n / d + b * n / d ≤ (a + b) * n / d ∧ (a + b) * n / d ≤ a * n / d + b * n / d + 1 := by
  rw [Int.add_mul]
  generalize a * n = x
  generalize b * n = y
  have h1 := Int.mul_ediv_add_emod x d
  have h2 := Int.mul_ediv_add_emod y d
  have r1 := Int.emod_nonneg x (by omega : d ≠ 0)
  have r2 := Int.emod_nonneg y (by omega : d ≠ 0)
  have s1 := Int.emod_lt_of_pos x (by omega : 0 < d)
  have s2 := Int.emod_lt_of_pos y (by omega : 0 < d)
  have e : x + y = (x % d + y % d) + (x / d + y / d) * d := by
    rw [Int.add_mul, Int.mul_comm (x / d), Int.mul_comm (y / d)]
    omega
  rw [e, Int.add_mul_ediv_right _ _ (by omega : d ≠ 0)]
  have q1 : 0 ≤ (x % d + y % d) / d := Int.ediv_nonneg (by omega) (by omega)
  have q2 : (x % d + y % d) / d < 2 := Int.ediv_lt_of_lt_mul (by omega) (by omega)
  omega

theorem upB_even {a n d : Int} (h : partB a n d = true) (hl : a * n % d = 0) : upB a n d = true ∧ upV a n d = a * n / d := by
  unfold upB upV
  rw [h, hl]
  simp
theorem upB_more {a n d : Int} (h : partB a n d = true) (hl : 0 < a * n % d) (hq : a * n / d ≤ 1125899906842623) : upB a n d = true ∧ upV a n d = a * n / d + 1 := by
  unfold upB upV
  rw [h, if_pos hl, decide_eq_true hl, decide_eq_true hq]
  simp
theorem upB_top {a n d : Int} (hl : 0 < a * n % d) (hq : 1125899906842623 < a * n / d) : upB a n d = false := by
  unfold upB
  rw [decide_eq_true hl, decide_eq_false (by omega : ¬ a * n / d ≤ 1125899906842623)]
  simp
theorem upB_no {a n d : Int} (h : partB a n d = false) : upB a n d = false := by
  unfold upB
  rw [h]
  rfl

end Go.Proofs.YtoblhbeeimboaaaDoor
