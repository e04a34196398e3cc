/-
  A number's text is read as it was, and what is read has that text: plain.
-/
import Derived.Test.YthkgeafidbihmaaDoorParse
namespace Go.Proofs.YthkgeafidbihmaaDoor
set_option linter.unusedVariables false
set_option linter.unusedSimpArgs false

theorem digB_digit {d : Nat} (h : d < 10) : digB (UInt8.ofNat (48 + d)) = true ∧ (UInt8.ofNat (48 + d)).toNat = 48 + d := by
  have e : (UInt8.ofNat (48 + d)).toNat = 48 + d := by
    rw [UInt8.toNat_ofNat']
    exact Nat.mod_eq_of_lt (by omega)
  refine ⟨?_, e⟩
  simp only [digB, e, Bool.and_eq_true, decide_eq_true_eq]
  omega

theorem pval_snoc (l : List UInt8) (b : UInt8) : pval (l ++ [b]) = pval l * 10 + (b.toNat - 48) := by
  rw [pval, List.foldl_append]; rfl

/-- The text of a number: not empty, all digits, its own number; no nought ahead, but in "0". -/
theorem dec_facts (X : Nat) : Lib.decDigits X ≠ [] ∧ (Lib.decDigits X).all digB = true ∧ pval (Lib.decDigits X) = X ∧ (0 < X → ((Lib.decDigits X).headD 0).toNat ≠ 48) := by
  induction X using Nat.strongRecOn with
  | _ X ih =>
    by_cases h : X < 10
    · obtain ⟨h1, h2⟩ := digB_digit h
      rw [Lib.decDigits_one h]
      refine ⟨by simp, by rw [List.all_cons, h1]; rfl, by show pstep 0 _ = X; rw [pstep, h2]; omega, fun hX => ?_⟩
      rw [List.headD_cons, h2]
      omega
    · obtain ⟨g1, g2, g3, g4⟩ := ih (X / 10) (by omega)
      obtain ⟨h1, h2⟩ := digB_digit (d := X % 10) (by omega)
      rw [Lib.decDigits, dif_neg h]
      refine ⟨by simp, by rw [List.all_append, g2, List.all_cons, h1]; rfl, by rw [pval_snoc, g3, h2]; omega, fun _ => ?_⟩
      have := g4 (by omega)
      generalize Lib.decDigits (X / 10) = l at *
      cases l with
      | nil => exact absurd rfl g1
      | cons b l => simpa using this

theorem dec_pok (X : Nat) : pok (Lib.decDigits X) = true ∧ pval (Lib.decDigits X) = X := by
  obtain ⟨h1, h2, h3, h4⟩ := dec_facts X
  refine ⟨?_, h3⟩
  have e1 : (Lib.decDigits X).isEmpty = false := by
    cases h : Lib.decDigits X with
    | nil => exact absurd h h1
    | cons => rfl
  unfold pok
  rw [h2, e1]
  rcases Nat.eq_zero_or_pos X with h0 | h0
  · subst h0
    rw [Lib.decDigits_one (by omega)]
    rfl
  · have := h4 h0
    have e3 : (((Lib.decDigits X).headD 0).toNat == 48) = false := by rw [beq_eq_false_iff_ne]; exact this
    rw [e3]
    simp

theorem digB_back {b : UInt8} (h : digB b = true) : UInt8.ofNat (48 + (b.toNat - 48)) = b ∧ b.toNat - 48 < 10 := by
  simp only [digB, Bool.and_eq_true, decide_eq_true_eq] at h
  refine ⟨?_, by omega⟩
  rw [show 48 + (b.toNat - 48) = b.toNat by omega, UInt8.ofNat_toNat]

theorem pval_back : ∀ (n : Nat) (l : List UInt8), l.length = n → l ≠ [] → l.all digB = true → (l.headD 0).toNat ≠ 48 → 0 < pval l ∧ Lib.decDigits (pval l) = l := by
  intro n
  induction n with
  | zero => intro l hl hn; exact absurd (List.eq_nil_of_length_eq_zero hl) hn
  | succ n ih =>
    intro l hl hn ha hh
    rcases List.eq_nil_or_concat l with rfl | ⟨l', b, rfl⟩
    · exact absurd rfl hn
    · rw [List.concat_eq_append] at *
      rw [List.all_append] at ha
      simp only [List.all_cons, List.all_nil, Bool.and_true, Bool.and_eq_true] at ha
      obtain ⟨hb1, hb2⟩ := digB_back ha.2
      rw [pval_snoc]
      by_cases hl' : l' = []
      · subst hl'
        simp at hh
        have hd := ha.2
        simp only [digB, Bool.and_eq_true, decide_eq_true_eq] at hd
        have e : pval [] * 10 + (b.toNat - 48) = b.toNat - 48 := by simp [pval]
        rw [e]
        refine ⟨by omega, ?_⟩
        rw [Lib.decDigits_one hb2, hb1]
        rfl
      · have hh' : (l'.headD 0).toNat ≠ 48 := by
          cases l' with
          | nil => exact absurd rfl hl'
          | cons c l' => simpa using hh
        obtain ⟨g1, g2⟩ := ih l' (by simpa using hl) hl' ha.1 hh'
        refine ⟨by omega, ?_⟩
        rw [Lib.decDigits, dif_neg (by omega), show (pval l' * 10 + (b.toNat - 48)) / 10 = pval l' by omega, show (pval l' * 10 + (b.toNat - 48)) % 10 = b.toNat - 48 by omega, g2, hb1]

theorem pok_dec {l : List UInt8} (h : pok l = true) : Lib.decDigits (pval l) = l := by
  unfold pok at h
  simp only [Bool.and_eq_true, Bool.not_eq_true'] at h
  obtain ⟨⟨h1, h2⟩, h3⟩ := h
  have hn : l ≠ [] := by rintro rfl; cases h1
  by_cases hz : (l.headD 0).toNat = 48
  · cases l with
    | nil => exact absurd rfl hn
    | cons b l =>
      simp only [List.headD_cons] at hz
      have hl : l = [] := by
        cases l with
        | nil => rfl
        | cons c l => simp [hz] at h2
      subst hl
      have e : b = 48 := UInt8.toNat_inj.1 hz
      subst e
      have e2 : pval [48] = 0 := by decide
      rw [e2, Lib.decDigits_one (by omega)]
      rfl
  · exact (pval_back _ l rfl hn h3 hz).2

end Go.Proofs.YthkgeafidbihmaaDoor
