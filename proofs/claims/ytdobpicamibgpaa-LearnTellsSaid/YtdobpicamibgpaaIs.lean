/-
  The law's own functions: edge, is.
-/
import Derived.Test.YtdobpicamibgpaaOdds
import Derived.Test.YtdobpicamibgpaaFracC
import Derived.Test.YtdobpicamibgpaaBd
namespace Go.Proofs.Ytdobpicamibgpaa
open Go.RowKit Go.Maps Go.Shelf
set_option linter.unusedVariables false
set_option linter.unusedSimpArgs false
attribute [local go_sem] Oper.semAt_some

theorem ledge_any (r : Int) (w : World) : Calls Try.prog 26 #[.int .i64 r] w fun e w' => e = .returned (Ed.v ⟨1, 2, 3, r, 0, 0, 0, 0, 0⟩) ∧ Below w.heap.size w w' := by
  go_enter Try.func26, Try.ntmps26
  go_wp2_with fail
  have hB : Blk (w.alloc (.cells #[.int .i64 1, .int .i64 2, .int .i64 3, .int .i64 r, .int .i64 0, .int .i64 0, .int .i64 0, .int .i64 0, .int .i64 0] 26)) w.heap.size 26 #[.int .i64 1, .int .i64 2, .int .i64 3, .int .i64 r, .int .i64 0, .int .i64 0, .int .i64 0, .int .i64 0, .int .i64 0] := Blk.new w _ _
  have hb : Below w.heap.size w (w.alloc (.cells #[.int .i64 1, .int .i64 2, .int .i64 3, .int .i64 r, .int .i64 0, .int .i64 0, .int .i64 0, .int .i64 0, .int .i64 0] 26)) := (Below.refl _ _).alloc (Nat.le_refl _) _
  generalize w.alloc (.cells #[.int .i64 1, .int .i64 2, .int .i64 3, .int .i64 r, .int .i64 0, .int .i64 0, .int .i64 0, .int .i64 0, .int .i64 0] 26) = w1 at *
  refine bodyPost_ret (v := Ed.v ⟨1, 2, 3, r, 0, 0, 0, 0, 0⟩) ?_ rfl ⟨rfl, hb⟩
  have e0 := hB.cell 0
  have e1 := hB.cell 1
  have e2 := hB.cell 2
  have e3 := hB.cell 3
  have e4 := hB.cell 4
  have e5 := hB.cell 5
  have e6 := hB.cell 6
  have e7 := hB.cell 7
  have e8 := hB.cell 8
  simp [results, Try.f26, go_sem, e0, e1, e2, e3, e4, e5, e6, e7, e8, Ed.v, Ed.cs]

theorem gcd_pos_of {N D : Nat} (hD : 0 < D) : 0 < Nat.gcd N D := Nat.gcd_pos_of_pos_right _ hD

/-- What is in lowest terms is a fraction. -/
theorem frR_low {N D : Nat} (hD : 0 < D) : frR (digs (N / Nat.gcd N D)) (digs (D / Nat.gcd N D)) = true := by
  have hg := gcd_pos_of (N := N) hD
  have hq : 0 < D / Nat.gcd N D := Nat.div_pos (Nat.le_of_dvd hD (Nat.gcd_dvd_right _ _)) hg
  unfold frR
  have hcop : Nat.gcd (N / Nat.gcd N D) (D / Nat.gcd N D) = 1 := by rw [Nat.gcd_div (Nat.gcd_dvd_left _ _) (Nat.gcd_dvd_right _ _), Nat.div_self hg]
  rw [rightB_digs, rightB_digs, tv_digs, tv_digs, decide_eq_true hcop]
  have hl : 0 < (digs (D / Nat.gcd N D)).length := by
    rcases Nat.eq_zero_or_pos (digs (D / Nat.gcd N D)).length with h | h
    · have := digs_nil_iff.1 (List.eq_nil_of_length_eq_zero h); omega
    · exact h
  simp [hl]

theorem frN_low {N D : Nat} (hD : 0 < D) : frN (digs (N / Nat.gcd N D)) (digs (D / Nat.gcd N D)) = N / Nat.gcd N D := by
  unfold frN; rw [if_pos (frR_low hD), tv_digs]
theorem frD_low {N D : Nat} (hD : 0 < D) : frD (digs (N / Nat.gcd N D)) (digs (D / Nat.gcd N D)) = D / Nat.gcd N D := by
  unfold frD; rw [if_pos (frR_low hD), tv_digs]

/-- Cross-multiplied, in lowest terms or not. -/
theorem cross_low {N D a b : Nat} (hD : 0 < D) (hb : 0 < b) : ∃ k, 0 < k ∧ N * b = k * (N / Nat.gcd N D * (b / Nat.gcd a b)) ∧ a * D = k * (a / Nat.gcd a b * (D / Nat.gcd N D)) := by
  have h1 : N = Nat.gcd N D * (N / Nat.gcd N D) := (Nat.mul_div_cancel' (Nat.gcd_dvd_left _ _)).symm
  have h2 : D = Nat.gcd N D * (D / Nat.gcd N D) := (Nat.mul_div_cancel' (Nat.gcd_dvd_right _ _)).symm
  have h3 : a = Nat.gcd a b * (a / Nat.gcd a b) := (Nat.mul_div_cancel' (Nat.gcd_dvd_left _ _)).symm
  have h4 : b = Nat.gcd a b * (b / Nat.gcd a b) := (Nat.mul_div_cancel' (Nat.gcd_dvd_right _ _)).symm
  have hg := gcd_pos_of (N := N) hD
  have hh := gcd_pos_of (N := a) hb
  refine ⟨Nat.gcd N D * Nat.gcd a b, Nat.mul_pos hg hh, ?_, ?_⟩
  · generalize Nat.gcd N D = g at *
    generalize Nat.gcd a b = h at *
    generalize N / g = x at *
    generalize b / h = y at *
    rw [h1, h4]; grind
  · generalize Nat.gcd N D = g at *
    generalize Nat.gcd a b = h at *
    generalize a / h = x at *
    generalize D / g = y at *
    rw [h3, h2]; grind

theorem cmpI_scale {k x y x' y' : Nat} (hk : 0 < k) (hx : x' = k * x) (hy : y' = k * y) : cmpI (x : Int) (y : Int) = cmpI (x' : Int) (y' : Int) := by
  rcases Nat.lt_trichotomy x y with h | h | h
  · rw [cmp_lt h, cmp_lt (show x' < y' by rw [hx, hy]; exact (Nat.mul_lt_mul_left hk).2 h)]
  · rw [cmp_eq h, cmp_eq (show x' = y' by rw [hx, hy, h])]
  · rw [cmp_gt h, cmp_gt (show y' < x' by rw [hx, hy]; exact (Nat.mul_lt_mul_left hk).2 h)]

/-- Two fractions in lowest terms compare as what they were told of. -/
theorem cmp_low {N D a b : Nat} (hD : 0 < D) (hb : 0 < b) :
    cmpI ((frN (digs (N / Nat.gcd N D)) (digs (D / Nat.gcd N D)) * frD (digs (a / Nat.gcd a b)) (digs (b / Nat.gcd a b)) : Nat) : Int) ((frN (digs (a / Nat.gcd a b)) (digs (b / Nat.gcd a b)) * frD (digs (N / Nat.gcd N D)) (digs (D / Nat.gcd N D)) : Nat) : Int) = cmpI ((N * b : Nat) : Int) ((a * D : Nat) : Int) := by
  obtain ⟨k, hk, h1, h2⟩ := cross_low (N := N) (a := a) hD hb
  rw [frN_low hD, frD_low hD, frN_low hb, frD_low hb]
  exact cmpI_scale hk h1 h2

theorem cmpI_zero (x y : Nat) : (cmpI (x : Int) (y : Int) == 0) = decide (x = y) := by
  rcases Nat.lt_trichotomy x y with h | h | h
  · rw [cmp_lt h, decide_eq_false (by omega)]; rfl
  · rw [cmp_eq h, decide_eq_true h]; rfl
  · rw [cmp_gt h, decide_eq_false (by omega)]; rfl

set_option maxRecDepth 100000 in
theorem is_any (w : World) (A B : Option Addr) (n c m d N D : Nat) (h1 : Rd w w.heap.size A n c (digs (N / Nat.gcd N D))) (h2 : Rd w w.heap.size B m d (digs (D / Nat.gcd N D))) (hD : 0 < D) (hn : n ≤ 50000) (hm : m ≤ 50000) (a b : Nat) (hb0 : 0 < b) (ha : a < 18446744073709551616) (hb : b < 18446744073709551616) :
    Calls Try.prog 30 #[.agg #[.slice A n c, .slice B m d], .int .u64 a, .int .u64 b] w fun e w' => e = .returned (.bool (decide (N * b = a * D))) ∧ Below w.heap.size w w' := by
  obtain ⟨w0, hw0⟩ : ∃ w0, w0 = w.alloc (.cells #[.slice A n c, .slice B m d] 42) := ⟨_, rfl⟩
  have hb0' : Below w.heap.size w w0 := by rw [hw0]; exact (Below.refl _ _).alloc (Nat.le_refl _) _
  have J0 : Blk w0 w.heap.size 42 #[.slice A n c, .slice B m d] := by rw [hw0]; exact Blk.new w _ _
  have h1 := h1.on hb0'
  have h2 := h2.on hb0'
  have HH := Lib.hid (And.intro hD (And.intro hb0 (And.intro ha hb)))
  clear hD hb0 ha hb
  go_enter Try.func30, Try.ntmps30
  go_wp2_with fail
  rw [← hw0]
  clear hw0
  go_wp2_with fail
  refine (fof_any w0 a b HH.out.2.2.1 HH.out.2.2.2).mono ?_
  rintro y w1 ⟨A2, n2, c2, B2, m2, d2, rfl, r1, r2, hb⟩
  rw [if_neg (Nat.pos_iff_ne_zero.1 HH.out.2.1)] at r1 r2
  have hn2 : n2 ≤ 2 := rd_le r1 (Nat.lt_of_le_of_lt (Nat.div_le_self _ _) (show a < 4294967296 ^ 2 from HH.out.2.2.1))
  have hm2 : m2 ≤ 2 := rd_le r2 (Nat.lt_of_le_of_lt (Nat.div_le_self _ _) (show b < 4294967296 ^ 2 from HH.out.2.2.2))
  have J1 := J0.below hb J0.lt
  have h1 := h1.on hb
  have h2 := h2.on hb
  have hb1 := bltB hb0' hb0'.size hb
  have i0 := J1.cell 0
  have i1 := J1.cell 1
  have hlt := J1.lt
  clear hb J0 hb0'
  go_wp2_with fail
  obtain ⟨w2, hw2⟩ : ∃ w2, w2 = w1.alloc (.cells #[.slice A2 n2 c2, .slice B2 m2 d2] 42) := ⟨_, rfl⟩
  have ha : Below w1.heap.size w1 w2 := by rw [hw2]; exact (Below.refl _ _).alloc (Nat.le_refl _) _
  have h1 := h1.on ha
  have h2 := h2.on ha
  have r1 := r1.on ha
  have r2 := r2.on ha
  have hb2 := bltB hb1 hb1.size ha
  rw [← hw2]
  clear hw2 ha J1 hb1 i0 i1 hlt
  refine (fcmp_any w2 _ _ _ _ _ _ _ _ _ _ _ _ _ _ _ _ h1 h2 r1 r2 hn hm (by omega) (by omega)).mono ?_
  rintro y w3 ⟨rfl, hb⟩
  have hb3 := bltB hb2 hb2.size hb
  have HC : Hid ((cmpI ((frN (digs (N / Nat.gcd N D)) (digs (D / Nat.gcd N D)) * frD (digs (a / Nat.gcd a b)) (digs (b / Nat.gcd a b)) : Nat) : Int) ((frN (digs (a / Nat.gcd a b)) (digs (b / Nat.gcd a b)) * frD (digs (N / Nat.gcd N D)) (digs (D / Nat.gcd N D)) : Nat) : Int) == 0) = decide (N * b = a * D)) := Lib.hid (by rw [cmp_low HH.out.1 HH.out.2.1]; exact cmpI_zero _ _)
  generalize cmpI ((frN (digs (N / Nat.gcd N D)) (digs (D / Nat.gcd N D)) * frD (digs (a / Nat.gcd a b)) (digs (b / Nat.gcd a b)) : Nat) : Int) ((frN (digs (a / Nat.gcd a b)) (digs (b / Nat.gcd a b)) * frD (digs (N / Nat.gcd N D)) (digs (D / Nat.gcd N D)) : Nat) : Int) = z at *
  clear hb hb2 h1 h2 r1 r2 hn2 hm2
  go_wp2_with fail
  go_ret
  exact ⟨by rw [← HC.out]; rfl, hb3⟩

end Go.Proofs.Ytdobpicamibgpaa
