/-
  What a text spells, and how strconv.Atoi ends at it. Plain law.
-/
import Derived.Test.YtoblhbeeimboaaaDoorFine
import Derived.Lib.AtoiAll
namespace Go.Proofs.YtoblhbeeimboaaaDoor
set_option linter.unusedVariables false
set_option linter.unusedSimpArgs false

def pstep (n : Nat) (b : UInt8) : Nat := n * 10 + (b.toNat - 48)
def pval (l : List UInt8) : Nat := l.foldl pstep 0

theorem fold_ge : ∀ (l : List UInt8) (a : Nat), a ≤ l.foldl pstep a
  | [], a => Nat.le_refl _
  | b :: l, a => Nat.le_trans (by unfold pstep; omega) (fold_ge l (pstep a b))

theorem uint10 : ∀ (l : List UInt8) (acc : Nat), l.all digB = true → acc < 18446744073709551616 → Lib.parseUint10 acc l = if l.foldl pstep acc < 18446744073709551616 then .ok (l.foldl pstep acc) else .range
  | [], acc, _, h => by simp [Lib.parseUint10, h]
  | b :: l, acc, hd, h => by
    simp only [List.all_cons, Bool.and_eq_true] at hd
    have hb := digB_yes hd.1
    have hge := fold_ge l (pstep acc b)
    have hps : pstep acc b = acc * 10 + (b.toNat - 48) := rfl
    have e : (b :: l).foldl pstep acc = l.foldl pstep (pstep acc b) := rfl
    rw [e]
    simp only [Lib.parseUint10]
    rw [if_pos hb]
    by_cases h1 : 1844674407370955162 ≤ acc
    · rw [if_pos h1, if_neg (by omega)]
    · rw [if_neg h1]
      by_cases h2 : 18446744073709551616 ≤ acc * 10 + (b.toNat - 48)
      · rw [if_pos h2, if_neg (by omega)]
      · rw [if_neg h2]
        exact uint10 l _ hd.2 (by omega)

/-- A text's digits, and the number that it spells. -/
def nD (l : List UInt8) : List UInt8 := Lib.trimPrefix l [45]
def nNeg (l : List UInt8) : Bool := Lib.hasPrefix l [45]
def nval (l : List UInt8) : Int := if nNeg l then -(pval (nD l) : Int) else (pval (nD l) : Int)
def nfit (l : List UInt8) : Bool := decide (-9223372036854775808 ≤ nval l) && decide (nval l ≤ 9223372036854775807)

theorem nD_cons (c : UInt8) (r : List UInt8) : nNeg (c :: r) = (c == 45) ∧ nD (c :: r) = if c == 45 then r else c :: r := by
  unfold nD nNeg Lib.trimPrefix Lib.hasPrefix
  by_cases h : c = 45
  · subst h; simp
  · have h2 : ¬ 45 = c := fun e => h e.symm
    have h3 : (45 == c) = false := beq_eq_false_iff_ne.2 h2
    have h4 : (c == 45) = false := beq_eq_false_iff_ne.2 h
    simp [List.isPrefixOf, h3, h4]

theorem fine_parts {l : List UInt8} (h : fineB (nD l) l = true) : (nD l).all digB = true ∧ nD l ≠ [] := by
  unfold fineB at h
  simp only [Bool.and_eq_true] at h
  refine ⟨h.1, fun e => ?_⟩
  rw [e] at h
  simp at h

theorem atoi_fine {l : List UInt8} (h : fineB (nD l) l = true) : Lib.atoiAll l = if nfit l then .ok (nval l) else .range := by
  obtain ⟨h1, h2⟩ := fine_parts h
  cases l with
  | nil => simp [nD, Lib.trimPrefix, Lib.hasPrefix] at h2
  | cons c r =>
    obtain ⟨e1, e2⟩ := nD_cons c r
    have hu := uint10 (nD (c :: r)) 0 h1 (by decide)
    have hm : Lib.parseMag (nD (c :: r)) = Lib.parseUint10 0 (nD (c :: r)) := by unfold Lib.parseMag; rw [if_neg h2]
    rw [hu] at hm
    have hpv : (nD (c :: r)).foldl pstep 0 = pval (nD (c :: r)) := rfl
    rw [hpv] at hm
    have hsel : (if c.toNat = 43 ∨ c.toNat = 45 then r else c :: r) = nD (c :: r) := by
      by_cases hc : c = 45
      · subst hc; rw [e2]; simp
      · have e2' : nD (c :: r) = c :: r := by rw [e2, if_neg (by simpa using hc)]
        rw [e2']
        have hcd : digB c = true := by
          rw [e2'] at h1
          simp only [List.all_cons, Bool.and_eq_true] at h1
          exact h1.1
        have := digB_yes hcd
        rw [if_neg (by omega)]
    simp only [Lib.atoiAll]
    rw [hsel, hm]
    unfold nfit nval
    rw [e1]
    generalize pval (nD (c :: r)) = u
    by_cases hc : c = 45
    · subst hc
      by_cases hu : u < 18446744073709551616
      · rw [if_pos hu]
        simp
        by_cases h3 : 9223372036854775808 < u
        · rw [if_pos h3, if_neg (by omega)]
        · rw [if_neg h3, if_pos (by omega)]
      · rw [if_neg hu]
        simp
        omega
    · have hcn : ¬ c.toNat = 45 := fun e => hc (UInt8.toNat_inj.1 e)
      have hcb : (c == 45) = false := by simpa using hc
      by_cases hu : u < 18446744073709551616
      · rw [if_pos hu]
        simp [hcn, hcb]
        by_cases h3 : 9223372036854775808 ≤ u
        · rw [if_pos h3, if_neg (by omega)]
        · rw [if_neg h3, if_pos (by omega)]
      · rw [if_neg hu]
        simp [hcn, hcb]
        omega

end Go.Proofs.YtoblhbeeimboaaaDoor
