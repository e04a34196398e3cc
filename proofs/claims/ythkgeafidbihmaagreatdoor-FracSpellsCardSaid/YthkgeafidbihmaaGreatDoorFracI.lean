/-
  Fractions as values: a value that means a rational number, in a world; the contracts in these words.
-/
import Derived.Test.YthkgeafidbihmaaGreatDoorFracW
import Derived.Test.YthkgeafidbihmaaGreatDoorOrd2
namespace Go.Proofs.YthkgeafidbihmaaGreatDoor
open Go.RowKit Go.Shelf
set_option linter.unusedVariables false
set_option linter.unusedSimpArgs false

/-- The value v is the fraction q in lowest terms, of at most b digits above and below. -/
def IsQ (w : World) (v : Value) (q : Rat) (b : Nat) : Prop :=
  ∃ A n c B m d, v = .agg #[.slice A n c, .slice B m d] ∧ Rd w w.heap.size A n c (digs (rn q)) ∧ Rd w w.heap.size B m d (digs (rd q)) ∧ FQ (digs (rn q)) (digs (rd q)) q b

section
variable {w w' : World} {v : Value} {q : Rat} {b : Nat}
theorem IsQ.on (h : IsQ w v q b) (hb : Below w.heap.size w w') : IsQ w' v q b := by
  obtain ⟨A, n, c, B, m, d, e, r, t, f⟩ := h
  exact ⟨A, n, c, B, m, d, e, r.on hb, t.on hb, f⟩
theorem IsQ.drew (h : IsQ w v q b) : IsQ w.drew v q b := h.on (Below.refl _ _).drew
theorem IsQ.ge0 (h : IsQ w v q b) : 0 ≤ q := by
  obtain ⟨A, n, c, B, m, d, e, r, t, f⟩ := h
  exact f.ge0
theorem IsQ.as {q' : Rat} (h : IsQ w v q b) (e : q = q') : IsQ w v q' b := e ▸ h
theorem IsQ.mk {A B : Option Addr} {n c m d : Nat} (r : Rd w w.heap.size A n c (digs (rn q))) (t : Rd w w.heap.size B m d (digs (rd q))) (f : FQ (digs (rn q)) (digs (rd q)) q b) : IsQ w (.agg #[.slice A n c, .slice B m d]) q b := ⟨A, n, c, B, m, d, rfl, r, t, f⟩
end

def RetV (w : World) (q : Rat) (b : Nat) (e : Ending) (w' : World) : Prop := ∃ v, e = .returned v ∧ IsQ w' v q b ∧ Below w.heap.size w w'
def RetVO (w : World) (ok : Bool) (q : Rat) (b : Nat) (e : Ending) (w' : World) : Prop := ∃ v, e = .returned (.tuple #[v, .bool ok]) ∧ IsQ w' v q b ∧ Below w.heap.size w w'
theorem RetQ.v {w w' : World} {q : Rat} {b : Nat} {e : Ending} (h : RetQ w q b e w') : RetV w q b e w' := by
  obtain ⟨A, n, c, B, m, d, e1, r, t, f, hb⟩ := h
  exact ⟨_, e1, ⟨A, n, c, B, m, d, rfl, r, t, f⟩, hb⟩
theorem RetQO.v {w w' : World} {q : Rat} {b : Nat} {ok : Bool} {e : Ending} (h : RetQO w ok q b e w') : RetVO w ok q b e w' := by
  obtain ⟨A, n, c, B, m, d, e1, r, t, f, hb⟩ := h
  exact ⟨_, e1, ⟨A, n, c, B, m, d, rfl, r, t, f⟩, hb⟩

section
variable {w : World} {v1 v2 : Value} {q1 q2 : Rat} {b1 b2 : Nat}
theorem fadd_v (h1 : IsQ w v1 q1 b1) (h2 : IsQ w v2 q2 b2) (hb1 : b1 ≤ 9000) (hb2 : b2 ≤ 9000) : Calls Tryz.prog 15 #[v1, v2] w (RetV w (q1 + q2) (b1 + b2 + 3)) := by
  obtain ⟨A, n, c, B, m, d, rfl, r, t, f⟩ := h1
  obtain ⟨A', n', c', B', m', d', rfl, r', t', f'⟩ := h2
  exact (fadd_q r t f r' t' f' hb1 hb2).mono fun e w' h => h.v
theorem fsub_v (h1 : IsQ w v1 q1 b1) (h2 : IsQ w v2 q2 b2) (hb1 : b1 ≤ 9000) (hb2 : b2 ≤ 9000) : Calls Tryz.prog 12 #[v1, v2] w (RetVO w (decide (q2 ≤ q1)) (if q2 ≤ q1 then q1 - q2 else 0) (b1 + b2 + 3)) := by
  obtain ⟨A, n, c, B, m, d, rfl, r, t, f⟩ := h1
  obtain ⟨A', n', c', B', m', d', rfl, r', t', f'⟩ := h2
  exact (fsub_q r t f r' t' f' hb1 hb2).mono fun e w' h => h.v
theorem fquo_v (h1 : IsQ w v1 q1 b1) (h2 : IsQ w v2 q2 b2) (hb1 : b1 ≤ 9000) (hb2 : b2 ≤ 9000) : Calls Tryz.prog 13 #[v1, v2] w (RetVO w (decide (q2 ≠ 0)) (q1 / q2) (b1 + b2 + 3)) := by
  obtain ⟨A, n, c, B, m, d, rfl, r, t, f⟩ := h1
  obtain ⟨A', n', c', B', m', d', rfl, r', t', f'⟩ := h2
  exact (fquo_q r t f r' t' f' hb1 hb2).mono fun e w' h => h.v
theorem fcmp_v (h1 : IsQ w v1 q1 b1) (h2 : IsQ w v2 q2 b2) (hb1 : b1 ≤ 9000) (hb2 : b2 ≤ 9000) : Calls Tryz.prog 18 #[v1, v2] w fun e w' => e = .returned (.int .i64 (cmpQ q1 q2)) ∧ Below w.heap.size w w' := by
  obtain ⟨A, n, c, B, m, d, rfl, r, t, f⟩ := h1
  obtain ⟨A', n', c', B', m', d', rfl, r', t', f'⟩ := h2
  exact fcmp_q r t f r' t' f' hb1 hb2
theorem fsame_v (h1 : IsQ w v1 q1 b1) (h2 : IsQ w v2 q2 b2) (hb1 : b1 ≤ 9000) : Calls Tryz.prog 8 #[v1, v2] w fun e w' => e = .returned (.bool (decide (q1 = q2))) ∧ Below w.heap.size w w' := by
  obtain ⟨A, n, c, B, m, d, rfl, r, t, f⟩ := h1
  obtain ⟨A', n', c', B', m', d', rfl, r', t', f'⟩ := h2
  exact fsame_q r t f r' t' f' hb1
theorem fright_v (h1 : IsQ w v1 q1 b1) (hb1 : b1 ≤ 9000) : Calls Tryz.prog 19 #[v1] w fun e w' => e = .returned (.bool true) ∧ Below w.heap.size w w' := by
  obtain ⟨A, n, c, B, m, d, rfl, r, t, f⟩ := h1
  have := fright_q r t f hb1
  rw [f.right] at this
  exact this
theorem ftext_v (h1 : IsQ w v1 q1 b1) (hT : Tab w) (hb1 : b1 ≤ 9000) : Calls Tryz.prog 9 #[v1] w fun e w' => e = .returned (txt (qTxt q1)) ∧ Below w.heap.size w w' := by
  obtain ⟨A, n, c, B, m, d, rfl, r, t, f⟩ := h1
  exact ftext_q r t f hT hb1 f.right
theorem fpow_v (h1 : IsQ w v1 q1 b1) (hb1 : b1 ≤ 200) (z : Nat) (hz : z ≤ 64) : Calls Tryz.prog 14 #[v1, .int .i64 z] w (RetVO w true (q1 ^ z) ((b1 + 1) * z + 1)) := by
  obtain ⟨A, n, c, B, m, d, rfl, r, t, f⟩ := h1
  exact (fpow_q r t f hb1 z hz).mono fun e w' h => h.v
theorem ffloor_v (h1 : IsQ w v1 q1 b1) (hb1 : b1 ≤ 9000) : Calls Tryz.prog 17 #[v1] w (RetN w (rn q1 / rd q1)) := by
  obtain ⟨A, n, c, B, m, d, rfl, r, t, f⟩ := h1
  exact ffloor_w r t f hb1
end

theorem fof_v (w : World) (N D : Nat) (hN : N < 18446744073709551616) (hD : D < 18446744073709551616) : Calls Tryz.prog 11 #[.int .u64 N, .int .u64 D] w (RetVO w (decide (0 < D)) (mkRat N D) 2) :=
  (fof_q w N D hN hD).mono fun e w' h => h.v
theorem fparse_v (w : World) (hT : Tab w) (s : ByteArray) (hs : s.size ≤ 4000) : Calls Tryz.prog 6 #[.string s] w (RetVO w (fpok s.data.toList) (fpq s.data.toList) (s.size + 1)) :=
  (fparse_any w hT s hs).mono fun e w' h => h.v
/-- A fraction is stored into its own new block. -/
theorem isq_store {cw W : World} {G : Nat} {t : TypeId} {A B : Option Addr} {n c m d b : Nat} {q : Rat} (hB : Blk W G t #[.slice none 0 0, .slice none 0 0]) (I : IsQ W (.agg #[.slice A n c, .slice B m d]) q b) (hb : Below cw.heap.size cw W) (hG : cw.heap.size ≤ G) :
    let V := (W.setCell ⟨G, 0, none⟩ (.slice A n c)).setCell ⟨G, 1, none⟩ (.slice B m d)
    Blk V G t #[.slice A n c, .slice B m d] ∧ IsQ V (.agg #[.slice A n c, .slice B m d]) q b ∧ Below cw.heap.size cw V := by
  obtain ⟨A', n', c', B', m', d', e, r, t', f⟩ := I
  injection e with e
  have e := congrArg Array.toList e
  simp only [List.cons.injEq, and_true, Value.slice.injEq] at e
  obtain ⟨⟨rfl, rfl, rfl⟩, rfl, rfl, rfl⟩ := e
  obtain ⟨h1, h2, h3, h4⟩ := fr_store hB r t' hb hG
  exact ⟨h1, ⟨_, _, _, _, _, _, rfl, h2, h3, f⟩, h4⟩

/-- All orders end alike: what is left is walked once. -/
theorem ord_funnelT {P : Program} {ops : Array Oper} {Q : Exit → Act → World → Prop} {S : World → Prop} {N : Nat} {F : Value → Value → Nat → Act} {fuel k : Nat} {listed : Array Bool} {a : Act} {w : World} (listed' : Array Bool) (R : Value → Value → Nat → World → Prop)
    (g : (∀ x y z W, R x y z W → Ord P ops N Q S k listed' (F x y z) W) → Ord P ops N Q S fuel listed a w)
    (h : ∀ x y z W, R x y z W → Ord P ops N Q S k listed' (F x y z) W) : Ord P ops N Q S fuel listed a w := g h

theorem ord_funnelV {P : Program} {ops : Array Oper} {Q : Exit → Act → World → Prop} {S : World → Prop} {N : Nat} {F : Value → Nat → Act} {fuel k : Nat} {listed : Array Bool} {a : Act} {w : World} (listed' : Array Bool) (R : Value → Nat → World → Prop)
    (g : (∀ x z W, R x z W → Ord P ops N Q S k listed' (F x z) W) → Ord P ops N Q S fuel listed a w)
    (h : ∀ x z W, R x z W → Ord P ops N Q S k listed' (F x z) W) : Ord P ops N Q S fuel listed a w := g h

theorem few_le {n m : Nat} (h : fewB n m = true) : n ≤ 12 ∧ m ≤ 12 := by
  unfold fewB at h
  simpa using h
theorem few_le2 {n m n' m' : Nat} (h : (fewB n m && fewB n' m') = true) : (n ≤ 12 ∧ m ≤ 12) ∧ (n' ≤ 12 ∧ m' ≤ 12) := by
  rw [Bool.and_eq_true] at h
  exact ⟨few_le h.1, few_le h.2⟩
theorem rn_pos {q : Rat} (h : 0 ≤ q) : 0 < rn q ↔ q ≠ 0 := by
  have h2 := Rat.num_nonneg.2 h
  have h3 := Rat.num_eq_zero (q := q)
  unfold rn
  constructor
  · intro h e
    have := h3.2 e
    omega
  · intro h
    have : q.num ≠ 0 := fun e => h (h3.1 e)
    omega
theorem len_pos_q {q : Rat} (h : 0 ≤ q) : 0 < (digs (rn q)).length ↔ q ≠ 0 := by
  rw [← rn_pos h]
  constructor
  · intro h
    rcases Nat.eq_zero_or_pos (rn q) with h0 | h0
    · rw [h0, digs_zero] at h; simp at h
    · exact h0
  · exact digs_len_of'

end Go.Proofs.YthkgeafidbihmaaGreatDoor
