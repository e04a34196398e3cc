/-
  Fractions: Cmp, Mul.
-/
import Derived.Test.YthkgeafidbihmaaGreatDoorFracX
namespace Go.Proofs.YthkgeafidbihmaaGreatDoor
open Go.RowKit Go.Shelf
set_option linter.unusedVariables false
set_option linter.unusedSimpArgs false
attribute [local go_sem] Oper.semAt_some

theorem frD_pos (l k : List Nat) : 0 < frD l k := by
  unfold frD
  split
  · rename_i hr
    unfold frR at hr
    simp only [Bool.and_eq_true, decide_eq_true_eq] at hr
    rw [tv_right hr.2.1]
    rcases Nat.eq_zero_or_pos (val k) with h | h
    · have := val_eq_zero h hr.2.1
      have h2 := hr.2.2.1
      rw [this] at h2
      simp at h2
    · exact h
  · decide

theorem len_mul (x y : Nat) : (digs (x * y)).length ≤ (digs x).length + (digs y).length :=
  digs_len_le (bd_mul (lt_of_digs_len x) (lt_of_digs_len y))

theorem fcmp_any (w : World) (A1 B1 A2 B2' : Option Addr) (n1 c1 m1 d1 n2 c2 m2 d2 : Nat) (l1 k1 l2 k2 : List Nat) (h1 : Rd w w.heap.size A1 n1 c1 l1) (g1 : Rd w w.heap.size B1 m1 d1 k1) (h2 : Rd w w.heap.size A2 n2 c2 l2) (g2 : Rd w w.heap.size B2' m2 d2 k2)
    (hn1 : n1 ≤ 50000) (hm1 : m1 ≤ 50000) (hn2 : n2 ≤ 50000) (hm2 : m2 ≤ 50000) :
    Calls Tryz.prog 18 #[.agg #[.slice A1 n1 c1, .slice B1 m1 d1], .agg #[.slice A2 n2 c2, .slice B2' m2 d2]] w fun e w' => e = .returned (.int .i64 (cmpI ((frN l1 k1 * frD l2 k2 : Nat) : Int) ((frN l2 k2 * frD l1 k1 : Nat) : Int))) ∧ Below w.heap.size w w' := by
  obtain ⟨w0, hw0⟩ : ∃ w0, w0 = (w.alloc (.cells #[.slice A1 n1 c1, .slice B1 m1 d1] 24)).alloc (.cells #[.slice A2 n2 c2, .slice B2' m2 d2] 24) := ⟨_, rfl⟩
  have hb0 : Below w.heap.size w w0 := by rw [hw0]; exact ((Below.refl _ _).alloc (Nat.le_refl _) _).alloc (by simp) _
  have J0 : B2 w0 w.heap.size A1 n1 c1 B1 m1 d1 A2 n2 c2 B2' m2 d2 := by
    rw [hw0]
    refine ⟨(Blk.new w _ _).alloc _, ?_⟩
    have := Blk.new (w.alloc (.cells #[.slice A1 n1 c1, .slice B1 m1 d1] 24)) 24 #[.slice A2 n2 c2, .slice B2' m2 d2]
    rw [World.size_alloc] at this
    exact this
  have HL := Lib.hid (And.intro (frN_len (k := k1) h1.dig) (And.intro (frD_len (l := l1) g1.dig) (And.intro (frN_len (k := k2) h2.dig) (And.intro (frD_len (l := l2) g2.dig) (And.intro h1.len (And.intro g1.len (And.intro h2.len g2.len)))))))
  have h1 := h1.on hb0
  have g1 := g1.on hb0
  have h2 := h2.on hb0
  have g2 := g2.on hb0
  have hc0 := J0.a.cell 0
  have hc1 := J0.a.cell 1
  have hc2 := J0.b.cell 0
  have hc3 := J0.b.cell 1
  go_enter Tryz.func18, Tryz.ntmps18
  go_wp2_with fail
  rw [← hw0]
  clear hw0
  go_wp2_with fail
  refine (cross_any _ _ _ _ _ _ _ _ _ _ _ _ _ _ _ _ _ h1 g1 h2 g2 hn1 hm1 hn2 hm2).mono ?_
  rintro e w1 ⟨A, n, c, B, m, d, C, p, q, rfl, r1, r2, r3, hb⟩
  have hb1 := bltB hb0 hb0.size hb
  have hn : n ≤ 131072 := by
    have h1 := len_mul (frN l1 k1) (frD l2 k2)
    have h2 := r1.len
    have h3 := HL.out
    omega
  have hm : m ≤ 131072 := by
    have h1 := len_mul (frN l2 k2) (frD l1 k1)
    have h2 := r2.len
    have h3 := HL.out
    omega
  clear hb h1 g1 h2 g2 hc0 hc1 hc2 hc3 J0 hb0 r3
  go_wp2_with fail
  refine (cmp_any _ _ _ _ _ _ _ _ _ r1 r2 (by omega) (by omega)).mono ?_
  rintro e w2 ⟨rfl, hb⟩
  rw [tv_digs, tv_digs]
  have hb2 := bltB hb1 hb1.size hb
  clear hb hb1 r1 r2
  obtain ⟨cz, hcz⟩ : ∃ z, cmpI ((frN l1 k1 * frD l2 k2 : Nat) : Int) ((frN l2 k2 * frD l1 k1 : Nat) : Int) = z := ⟨_, rfl⟩
  rw [hcz]
  have HZ := Lib.hid hcz
  clear hcz
  go_wp2_with fail
  go_ret
  exact ⟨by rw [HZ.out]; rfl, hb2⟩

end Go.Proofs.YthkgeafidbihmaaGreatDoor
