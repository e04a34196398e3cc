/-
  Fractions' texts, read again. Plain law.
-/
import Derived.Test.YthkgeafidbihmaaDoorFracI
import Derived.Test.YthkgeafidbihmaaDoorTextLaw
namespace Go.Proofs.YthkgeafidbihmaaDoor
open Go.RowKit Go.Shelf
set_option linter.unusedVariables false
set_option linter.unusedSimpArgs false

theorem IsQ.more {w : World} {v : Value} {q : Rat} {b b' : Nat} (h : IsQ w v q b) (hb : b ≤ b') : IsQ w v q b' := by
  obtain ⟨A, n, c, B, m, d, e, r, t, f⟩ := h
  exact ⟨A, n, c, B, m, d, e, r, t, f.mono hb⟩

theorem frG (l k : List Nat) : Nat.gcd (frN l k) (frD l k) = 1 := by
  unfold frN frD
  split
  · rename_i h
    unfold frR at h
    simp only [Bool.and_eq_true, decide_eq_true_eq] at h
    exact h.2.2.2
  · decide
theorem frN_rn (l k : List Nat) : frN l k = rn (frQ l k) := by
  unfold frQ
  rw [← low_rn _ _ (frD_pos l k), frG, Nat.div_one]
theorem frD_rd (l k : List Nat) : frD l k = rd (frQ l k) := by
  unfold frQ
  rw [← low_rd _ _ (frD_pos l k), frG, Nat.div_one]

theorem ftext_g {w : World} {A1 B1 : Option Addr} {n1 c1 m1 d1 : Nat} {l1 k1 : List Nat} (h1 : Rd w w.heap.size A1 n1 c1 l1) (g1 : Rd w w.heap.size B1 m1 d1 k1) (hT : Tab w) (hn : n1 ≤ 50000) (hm : m1 ≤ 50000) :
    Calls Tryd.prog 12 #[.agg #[.slice A1 n1 c1, .slice B1 m1 d1]] w fun e w' => e = .returned (txt (qTxt (frQ l1 k1))) ∧ Below w.heap.size w w' := by
  have := ftext_any w hT _ _ _ _ _ _ _ _ h1 g1 hn hm
  rw [frN_rn, frD_rd] at this
  exact this

theorem index_no : ∀ (l : List UInt8), l.all digB = true → Lib.indexByte l 47 = -1
  | [], _ => rfl
  | b :: l, h => by
    simp only [List.all_cons, Bool.and_eq_true] at h
    have ih := index_no l h.2
    have hb : b ≠ 47 := fun e => by subst e; exact absurd h.1 (by decide)
    simp [Lib.indexByte, ih, hb]
theorem index_at : ∀ (l m : List UInt8), l.all digB = true → Lib.indexByte (l ++ 47 :: m) 47 = l.length
  | [], m, _ => by simp [Lib.indexByte]
  | b :: l, m, h => by
    simp only [List.all_cons, Bool.and_eq_true] at h
    have ih := index_at l m h.2
    have hb : b ≠ 47 := fun e => by subst e; exact absurd h.1 (by decide)
    simp only [List.cons_append, Lib.indexByte, ih]
    simp [hb]
theorem cut_no {l : List UInt8} (h : l.all digB = true) : Lib.cut l [47] = (l, [], false) := by
  unfold Lib.cut
  rw [Lib.index_one, index_no l h, if_neg (by decide)]
theorem cut_at {l : List UInt8} (m : List UInt8) (h : l.all digB = true) : Lib.cut (l ++ 47 :: m) [47] = (l, m, true) := by
  unfold Lib.cut
  rw [Lib.index_one, index_at l m h, if_pos (by omega)]
  simp

theorem fpl_dec (X : Nat) : fpl (Lib.decDigits X) = digs X := by
  unfold fpl
  rw [if_pos (dec_pok X).1, (dec_pok X).2]

/-- A fraction's text is read as it was. -/
theorem parse_text {q : Rat} (h : 0 ≤ q) : fpok (qTxt q) = true ∧ fpq (qTxt q) = q := by
  have hN : fcN (qTxt q) = Lib.decDigits (rn q) := by
    unfold fcN qTxt fTxt
    split
    · rw [cut_no (dec_facts _).2.1]
    · rw [cut_at _ (dec_facts _).2.1]
  have hD : fcD (qTxt q) = Lib.decDigits (rd q) := by
    unfold fcD qTxt fTxt
    split
    · rename_i e
      rw [cut_no (dec_facts _).2.1, e, Lib.decDigits_one (i := 1) (by decide)]
      rfl
    · rw [cut_at _ (dec_facts _).2.1]
      rfl
  have hok : fpok (qTxt q) = true := by
    unfold fpok
    rw [hN, hD, (dec_pok _).1, (dec_pok _).1, fpl_dec, fpl_dec, frR_q h, frN_q h, frD_q h]
    simp [qTxt]
  refine ⟨hok, ?_⟩
  unfold fpq
  rw [if_pos hok, hN, hD, fpl_dec, fpl_dec, frQ_q h]

/-- What is read would be written so. -/
theorem text_parse {l : List UInt8} (h : fpok l = true) : qTxt (fpq l) = l := by
  unfold fpq
  rw [if_pos h]
  unfold qTxt
  rw [← frN_rn, ← frD_rd]
  unfold fpok at h
  simp only [Bool.and_eq_true, decide_eq_true_eq] at h
  exact h.2.2.2
theorem fpq_no {l : List UInt8} (h : fpok l = false) : fpq l = 0 := by
  unfold fpq
  rw [if_neg (by rw [h]; decide)]

end Go.Proofs.YthkgeafidbihmaaDoor
