/-
  A text is a number's just if it is the number's own text. Plain law.
-/
import Derived.Test.YtoblhbeeimboaaaDoorNparse
import Derived.Lib.ItoaMem
namespace Go.Proofs.YtoblhbeeimboaaaDoor
set_option linter.unusedVariables false
set_option linter.unusedSimpArgs false

theorem digB_digit {d : Nat} (h : d < 10) : digB (UInt8.ofNat (48 + d)) = true ∧ (UInt8.ofNat (48 + d)).toNat = 48 + d := by
  have e : (UInt8.ofNat (48 + d)).toNat = 48 + d := by
    rw [UInt8.toNat_ofNat']
    exact Nat.mod_eq_of_lt (by omega)
  refine ⟨?_, e⟩
  simp only [digB, e, Bool.and_eq_true, decide_eq_true_eq]
  omega

theorem pval_snoc (l : List UInt8) (b : UInt8) : pval (l ++ [b]) = pval l * 10 + (b.toNat - 48) := by
  rw [pval, List.foldl_append]; rfl

/-- The text of a number: not empty, all digits, its own number; no nought ahead, but in "0". -/
theorem dec_facts (X : Nat) : Lib.decDigits X ≠ [] ∧ (Lib.decDigits X).all digB = true ∧ pval (Lib.decDigits X) = X ∧ (0 < X → ((Lib.decDigits X).headD 0).toNat ≠ 48) := by
  induction X using Nat.strongRecOn with
  | _ X ih =>
    by_cases h : X < 10
    · obtain ⟨h1, h2⟩ := digB_digit h
      rw [Lib.decDigits_one h]
      refine ⟨by simp, by rw [List.all_cons, h1]; rfl, by show pstep 0 _ = X; rw [pstep, h2]; omega, fun hX => ?_⟩
      rw [List.headD_cons, h2]
      omega
    · obtain ⟨g1, g2, g3, g4⟩ := ih (X / 10) (by omega)
      obtain ⟨h1, h2⟩ := digB_digit (d := X % 10) (by omega)
      rw [Lib.decDigits, dif_neg h]
      refine ⟨by simp, by rw [List.all_append, g2, List.all_cons, h1]; rfl, by rw [pval_snoc, g3, h2]; omega, fun _ => ?_⟩
      have := g4 (by omega)
      generalize Lib.decDigits (X / 10) = l at *
      cases l with
      | nil => exact absurd rfl g1
      | cons b l => simpa using this

theorem digB_back {b : UInt8} (h : digB b = true) : UInt8.ofNat (48 + (b.toNat - 48)) = b ∧ b.toNat - 48 < 10 := by
  simp only [digB, Bool.and_eq_true, decide_eq_true_eq] at h
  refine ⟨?_, by omega⟩
  rw [show 48 + (b.toNat - 48) = b.toNat by omega, UInt8.ofNat_toNat]

theorem pval_back : ∀ (n : Nat) (l : List UInt8), l.length = n → l ≠ [] → l.all digB = true → (l.headD 0).toNat ≠ 48 → 0 < pval l ∧ Lib.decDigits (pval l) = l := by
  intro n
  induction n with
  | zero => intro l hl hn; exact absurd (List.eq_nil_of_length_eq_zero hl) hn
  | succ n ih =>
    intro l hl hn ha hh
    rcases List.eq_nil_or_concat l with rfl | ⟨l', b, rfl⟩
    · exact absurd rfl hn
    · rw [List.concat_eq_append] at *
      rw [List.all_append] at ha
      simp only [List.all_cons, List.all_nil, Bool.and_true, Bool.and_eq_true] at ha
      obtain ⟨hb1, hb2⟩ := digB_back ha.2
      rw [pval_snoc]
      by_cases hl' : l' = []
      · subst hl'
        simp at hh
        have hd := ha.2
        simp only [digB, Bool.and_eq_true, decide_eq_true_eq] at hd
        have e : pval [] * 10 + (b.toNat - 48) = b.toNat - 48 := by simp [pval]
        rw [e]
        refine ⟨by omega, ?_⟩
        rw [Lib.decDigits_one hb2, hb1]
        rfl
      · have hh' : (l'.headD 0).toNat ≠ 48 := by
          cases l' with
          | nil => exact absurd rfl hl'
          | cons c l' => simpa using hh
        obtain ⟨g1, g2⟩ := ih l' (by simpa using hl) hl' ha.1 hh'
        refine ⟨by omega, ?_⟩
        rw [Lib.decDigits, dif_neg (by omega), show (pval l' * 10 + (b.toNat - 48)) / 10 = pval l' by omega, show (pval l' * 10 + (b.toNat - 48)) % 10 = b.toNat - 48 by omega, g2, hb1]


theorem dec_head {X : Nat} (h : 0 < X) : ((Lib.decDigits X).headD 0).toNat ≠ 48 := (dec_facts X).2.2.2 h
theorem dec_zero : Lib.decDigits 0 = [48] := Lib.decDigits_one (i := 0) (by decide)

theorem digs_canon {l : List UInt8} (h : l.all digB = true) : (l ≠ [] ∧ ((l.headD 0).toNat ≠ 48 ∨ l = [48])) ↔ Lib.decDigits (pval l) = l := by
  constructor
  · rintro ⟨h0, h1 | h1⟩
    · exact (pval_back l.length l rfl h0 h h1).2
    · subst h1
      exact dec_zero
  · intro e
    refine ⟨fun e0 => ?_, ?_⟩
    · rw [e0] at e
      exact (dec_facts _).1 e
    · rcases Nat.eq_zero_or_pos (pval l) with h0 | h0
      · rw [h0, dec_zero] at e
        exact Or.inr e.symm
      · have := dec_head h0
        rw [e] at this
        exact Or.inl this

theorem fine_iff {l s : List UInt8} : fineB l s = true ↔ l.all digB = true ∧ l ≠ [] ∧ ((l.headD 0).toNat ≠ 48 ∨ s = [48]) := by
  unfold fineB
  cases l <;> simp

/-- A text is fine just if it is its number's own text. -/
theorem fine_canon {l : List UInt8} (h : (nD l).all digB = true) : fineB (nD l) l = true ↔ Lib.itoa (nval l) = l := by
  rw [fine_iff]
  cases l with
  | nil =>
    have e1 : nD [] = [] := rfl
    have e2 : nval [] = 0 := rfl
    rw [e1, e2]
    constructor
    · intro h; exact absurd rfl h.2.1
    · intro e
      have : Lib.itoa (0 : Int) = [48] := by rw [show (0 : Int) = ((0 : Nat) : Int) from rfl, Lib.itoa_nonneg, dec_zero]
      rw [this] at e
      cases e
  | cons c r =>
    obtain ⟨e1, e2⟩ := nD_cons c r
    by_cases hc : c = 45
    · subst hc
      have e2 : nD (45 :: r) = r := e2
      have e3 : nval (45 :: r) = -(pval r : Int) := by unfold nval; rw [e1, e2]; rfl
      rw [e2] at h ⊢
      rw [e3]
      constructor
      · rintro ⟨_, h0, h1⟩
        have h1 : (r.headD 0).toNat ≠ 48 := h1.resolve_right (fun e => by
          have := congrArg List.headD e
          have h2 : (45 : UInt8) = 48 := (List.cons.inj e).1
          exact absurd h2 (by decide))
        obtain ⟨g1, g2⟩ := pval_back r.length r rfl h0 h h1
        rw [Lib.itoa_neg _ g1, g2]
      · intro e
        rcases Nat.eq_zero_or_pos (pval r) with h0 | h0
        · rw [h0] at e
          have : Lib.itoa (-((0 : Nat) : Int)) = [48] := by rw [show -((0 : Nat) : Int) = ((0 : Nat) : Int) from rfl, Lib.itoa_nonneg, dec_zero]
          rw [this] at e
          exact absurd (List.cons.inj e).1 (by decide)
        · rw [Lib.itoa_neg _ h0] at e
          have e := (List.cons.inj e).2
          refine ⟨h, fun e0 => ?_, Or.inl ?_⟩
          · rw [e0] at e
            exact (dec_facts _).1 e
          · have := dec_head h0
            rwa [e] at this
    · have hcb : (c == 45) = false := by simpa using hc
      have e2 : nD (c :: r) = c :: r := by rw [e2, hcb]; rfl
      have e3 : nval (c :: r) = (pval (c :: r) : Int) := by unfold nval; rw [e1, e2, hcb]; rfl
      rw [e2] at h ⊢
      rw [e3, Lib.itoa_nonneg, ← digs_canon h]
      exact ⟨fun h => h.2, fun h' => ⟨h, h'⟩⟩

theorem fold_take_le (l : List UInt8) (i : Nat) : pval (l.take i) ≤ pval l := by
  unfold pval
  conv => rhs; rw [← List.take_append_drop i l, List.foldl_append]
  exact fold_ge _ _
theorem pval_take {l : List UInt8} {i : Nat} (hi : i < l.length) : pval (l.take (i + 1)) = pval (l.take i) * 10 + (l[i].toNat - 48) := by
  rw [List.take_add_one, List.getElem?_eq_getElem hi, Option.toList_some, pval_snoc]

end Go.Proofs.YtoblhbeeimboaaaDoor
