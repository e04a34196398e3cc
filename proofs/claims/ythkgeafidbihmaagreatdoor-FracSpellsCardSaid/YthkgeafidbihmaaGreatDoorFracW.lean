/-
  Fractions as rational numbers: Text, Right, Floor of what is in lowest terms; what the laws' walks want.
-/
import Derived.Test.YthkgeafidbihmaaGreatDoorFracPs
import Derived.Test.YthkgeafidbihmaaGreatDoorFsame
import Derived.Test.YthkgeafidbihmaaGreatDoorFew3
namespace Go.Proofs.YthkgeafidbihmaaGreatDoor
open Go.RowKit Go.Shelf
set_option linter.unusedVariables false
set_option linter.unusedSimpArgs false

/-- The text of a rational number. -/
def qTxt (q : Rat) : List UInt8 := fTxt (rn q) (rd q)

theorem ftext_q {w : World} {A1 B1 : Option Addr} {n1 c1 m1 d1 b1 : Nat} {l1 k1 : List Nat} {q1 : Rat} (h1 : Rd w w.heap.size A1 n1 c1 l1) (g1 : Rd w w.heap.size B1 m1 d1 k1) (f1 : FQ l1 k1 q1 b1) (hT : Tab w) (hb1 : b1 ≤ 9000) (hr : frR l1 k1 = true) :
    Calls Tryz.prog 9 #[.agg #[.slice A1 n1 c1, .slice B1 m1 d1]] w fun e w' => e = .returned (txt (qTxt q1)) ∧ Below w.heap.size w w' := by
  have h := frQ_lists hr h1.dig g1.dig
  rw [f1.val] at h
  have hN : frN l1 k1 = rn q1 := by
    have := frN_q f1.ge0
    rw [h.1, h.2] at this
    exact this
  have hD : frD l1 k1 = rd q1 := by
    have := frD_q f1.ge0
    rw [h.1, h.2] at this
    exact this
  have := ftext_any w hT _ _ _ _ _ _ _ _ h1 g1 (by have := h1.len; have := f1.ll; omega) (by have := g1.len; have := f1.lk; omega)
  rw [hN, hD] at this
  exact this

theorem ffloor_w {w : World} {A1 B1 : Option Addr} {n1 c1 m1 d1 b1 : Nat} {q1 : Rat} (h1 : Rd w w.heap.size A1 n1 c1 (digs (rn q1))) (g1 : Rd w w.heap.size B1 m1 d1 (digs (rd q1))) (f1 : FQ (digs (rn q1)) (digs (rd q1)) q1 b1) (hb1 : b1 ≤ 9000) :
    Calls Tryz.prog 17 #[.agg #[.slice A1 n1 c1, .slice B1 m1 d1]] w (RetN w (rn q1 / rd q1)) := by
  have := ffloor_q h1 g1 f1 hb1
  rw [frN_q f1.ge0, frD_q f1.ge0] at this
  exact this

theorem bel_alloc (W : World) (o : Obj) : Below W.heap.size W (W.alloc o) := (Below.refl _ _).alloc (Nat.le_refl _) o
theorem digs_lt {n : Nat} (h0 : 0 < n) (h : n < 4294967296) : digs n = [n] := by
  rw [digs_pos (by omega), Nat.mod_eq_of_lt h, Nat.div_eq_of_lt h, digs_zero]
theorem rd_litW (W : World) {d : Nat} (h0 : 0 < d) (hd : d < 4294967296) : Rd (W.alloc (.cells #[.int .u32 (d : Int)] 38)) (W.alloc (.cells #[.int .u32 (d : Int)] 38)).heap.size (some ⟨W.heap.size, 0, none⟩) 1 1 (digs d) := by
  rw [digs_lt h0 hd]
  exact rd_one hd

theorem FQ.right {q : Rat} {b : Nat} (h : FQ (digs (rn q)) (digs (rd q)) q b) : frR (digs (rn q)) (digs (rd q)) = true := frR_q h.ge0

theorem fq_n {w : World} {B : Nat} {A : Option Addr} {n c b : Nat} {l k : List Nat} {q : Rat} (h : Rd w B A n c l) (f : FQ l k q b) : n ≤ b := by have := h.len; have := f.ll; omega
theorem fq_m {w : World} {B : Nat} {A : Option Addr} {n c b : Nat} {l k : List Nat} {q : Rat} (h : Rd w B A n c k) (f : FQ l k q b) : n ≤ b := by have := h.len; have := f.lk; omega

/-- A fraction of few digits that is right is a rational number in lowest terms. -/
theorem as_q {w : World} {A B : Option Addr} {n c m d : Nat} {l k : List Nat} (h1 : Rd w w.heap.size A n c l) (h2 : Rd w w.heap.size B m d k) (hn : n ≤ 12) (hm : m ≤ 12) (hr : frR l k = true) : ∃ q : Rat, l = digs (rn q) ∧ k = digs (rd q) ∧ FQ (digs (rn q)) (digs (rd q)) q 12 := by
  obtain ⟨e1, e2⟩ := frQ_lists hr h1.dig h2.dig
  refine ⟨frQ l k, e1.symm, e2.symm, frQ_q (frQ_ge0 _ _), ?_, ?_⟩
  · rw [e1]; have := h1.len; omega
  · rw [e2]; have := h2.len; omega

end Go.Proofs.YthkgeafidbihmaaGreatDoor
