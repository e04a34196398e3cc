/-
  Fractions: Right, taken, cross, Cmp, Mul.
-/
import Derived.Test.YthkgeafidbihmaaGreatDoorFrac
import Derived.Test.YthkgeafidbihmaaGreatDoorOrd
import Derived.Test.YthkgeafidbihmaaGreatDoorMul
namespace Go.Proofs.YthkgeafidbihmaaGreatDoor
open Go.RowKit Go.Shelf
set_option linter.unusedVariables false
set_option linter.unusedSimpArgs false

/-- Whether two rows of digits are a fraction in lowest terms. -/
def frR (l k : List Nat) : Bool := rightB l && (rightB k && (decide (0 < k.length) && decide (Nat.gcd (tv l) (tv k) = 1)))
def frN (l k : List Nat) : Nat := if frR l k then tv l else 0
def frD (l k : List Nat) : Nat := if frR l k then tv k else 1

set_option maxRecDepth 100000 in
theorem fright_any (w : World) (A B : Option Addr) (n c m d : Nat) (l k : List Nat) (h1 : Rd w w.heap.size A n c l) (h2 : Rd w w.heap.size B m d k) (hn : n ≤ 60000) (hm : m ≤ 60000) :
    Calls Tryz.prog 19 #[.agg #[.slice A n c, .slice B m d]] w fun e w' => e = .returned (.bool (frR l k)) ∧ Below w.heap.size w w' := by
  have hB0 : Blk (w.alloc (.cells #[.slice A n c, .slice B m d] 24)) w.heap.size 24 #[.slice A n c, .slice B m d] := Blk.new w _ _
  have hb0 : Below w.heap.size w (w.alloc (.cells #[.slice A n c, .slice B m d] 24)) := (Below.refl _ _).alloc (Nat.le_refl _) _
  have k1 := h1.on hb0
  have k2 := h2.on hb0
  have hkl := h2.len
  clear h1 h2
  obtain ⟨w0, hw0⟩ : ∃ w0, w0 = w.alloc (.cells #[.slice A n c, .slice B m d] 24) := ⟨_, rfl⟩
  rw [← hw0] at hB0 hb0 k1 k2
  have hc0 := hB0.cell 0
  have hc1 := hB0.cell 1
  rcases hr : rightB l with _ | _
  · have HF : Hid (frR l k = false) := Lib.hid (by unfold frR; rw [hr]; rfl)
    have HR := Lib.hid hr
    clear hr
    go_enter Tryz.func19, Tryz.ntmps19
    go_wp2_with fail
    rw [← hw0]
    clear hw0
    go_wp2_with fail
    refine (right_any _ _ _ _ _ _ k1 (by omega)).mono ?_
    rintro e w' ⟨rfl, rfl⟩
    rw [HR.out]
    go_wp2_with fail
    go_ret
    exact ⟨by rw [HF.out]; rfl, hb0⟩
  · have HR := Lib.hid hr
    rcases hk : rightB k with _ | _
    · have HF : Hid (frR l k = false) := Lib.hid (by unfold frR; rw [hr, hk]; rfl)
      have HK := Lib.hid hk
      clear hr hk
      go_enter Tryz.func19, Tryz.ntmps19
      go_wp2_with fail
      rw [← hw0]
      clear hw0
      go_wp2_with fail
      refine (right_any _ _ _ _ _ _ k1 (by omega)).mono ?_
      rintro e w' ⟨rfl, rfl⟩
      rw [HR.out]
      go_wp2_with fail
      refine (right_any _ _ _ _ _ _ k2 (by omega)).mono ?_
      rintro e w' ⟨rfl, rfl⟩
      rw [HK.out]
      go_wp2_with fail
      go_ret
      exact ⟨by rw [HF.out]; rfl, hb0⟩
    · have HK := Lib.hid hk
      rcases Nat.eq_zero_or_pos m with hm0 | hm0
      · have HF : Hid (frR l k = false) := Lib.hid (by unfold frR; rw [hr, hk, hkl, hm0]; rfl)
        subst hm0
        clear hr hk
        go_enter Tryz.func19, Tryz.ntmps19
        go_wp2_with fail
        rw [← hw0]
        clear hw0
        go_wp2_with fail
        refine (right_any _ _ _ _ _ _ k1 (by omega)).mono ?_
        rintro e w' ⟨rfl, rfl⟩
        rw [HR.out]
        go_wp2_with fail
        refine (right_any _ _ _ _ _ _ k2 (by omega)).mono ?_
        rintro e w' ⟨rfl, rfl⟩
        rw [HK.out]
        go_wp2_with fail
        go_ret
        exact ⟨by rw [HF.out]; rfl, hb0⟩
      · have hpos : (0 : Int) < (m : Int) := by omega
        obtain ⟨X, rfl⟩ := as_digs k1.dig hr
        obtain ⟨Y, rfl⟩ := as_digs k2.dig hk
        have HF : Hid (frR (digs X) (digs Y) = decide (Nat.gcd X Y = 1)) := Lib.hid (by
          unfold frR
          rw [rightB_digs, rightB_digs, hkl, tv_digs, tv_digs, decide_eq_true hm0]
          rfl)
        clear hr hk
        go_enter Tryz.func19, Tryz.ntmps19
        go_wp2_with fail
        rw [← hw0]
        clear hw0
        go_wp2_with fail
        refine (right_any _ _ _ _ _ _ k1 (by omega)).mono ?_
        rintro e w' ⟨rfl, rfl⟩
        rw [HR.out]
        go_wp2_with fail
        refine (right_any _ _ _ _ _ _ k2 (by omega)).mono ?_
        rintro e w' ⟨rfl, rfl⟩
        rw [HK.out]
        go_wp2_with fail
        refine (gcd_any _ _ _ _ _ _ _ _ _ k1 k2 (by omega) (by omega)).mono ?_
        rintro e w1 ⟨C, p, q, rfl, r, hb⟩
        rw [tv_digs, tv_digs] at r
        have hp : p ≤ 60000 := by
          have h1 := rd_lt k1 (Nat.le_refl _)
          have h2 := rd_lt k2 (Nat.le_refl _)
          have h3 := rd_le r (bd_gcd (m := 60000) h1 h2 (by omega) (by omega) (by decide))
          exact h3
        have hb1 := bltB hb0 hb0.size hb
        clear hb k1 k2 hc0 hc1 hB0 hb0
        go_wp2_with fail
        refine (one_any w1).mono ?_
        rintro e w2 ⟨D, p2, q2, rfl, r2, hb⟩
        have hp2 : p2 ≤ 60000 := by have := rd_le r2 (show 1 < 4294967296 ^ 1 by decide); omega
        have r := r.on hb
        have hb2 := bltB hb1 hb1.size hb
        clear hb hb1
        go_wp2_with fail
        refine (cmp_any _ _ _ _ _ _ _ _ _ r r2 (by omega) (by omega)).mono ?_
        rintro e w3 ⟨rfl, hb⟩
        rw [tv_digs, tv_digs]
        have hb3 := bltB hb2 hb2.size hb
        have HC : Hid ((cmpI ((Nat.gcd X Y : Nat) : Int) ((1 : Nat) : Int) == 0) = decide (Nat.gcd X Y = 1)) := Lib.hid (by
          rw [cmpI_nat]
          by_cases h : Nat.gcd X Y = 1
          · rw [decide_eq_true h, if_neg (by omega), if_neg (by omega)]; rfl
          · rw [decide_eq_false h]; split <;> (try split) <;> first | rfl | omega)
        clear hb hb2 r r2
        generalize cmpI ((Nat.gcd X Y : Nat) : Int) ((1 : Nat) : Int) = cz at *
        go_wp2_with fail
        go_ret
        exact ⟨by rw [HF.out, ← HC.out]; rfl, hb3⟩

/-- What counts of a fraction. -/
theorem ftaken_any (w : World) (A B : Option Addr) (n c m d : Nat) (l k : List Nat) (h1 : Rd w w.heap.size A n c l) (h2 : Rd w w.heap.size B m d k) (hn : n ≤ 60000) (hm : m ≤ 60000) :
    Calls Tryz.prog 27 #[.agg #[.slice A n c, .slice B m d]] w (RetFr w (frN l k) (frD l k)) := by
  have hb0 : Below w.heap.size w ((w.alloc (.cells #[.slice A n c, .slice B m d] 24)).alloc (.cells #[.slice none 0 0, .slice none 0 0] 24)) := ((Below.refl _ _).alloc (Nat.le_refl _) _).alloc (by simp) _
  have hB0 : Blk ((w.alloc (.cells #[.slice A n c, .slice B m d] 24)).alloc (.cells #[.slice none 0 0, .slice none 0 0] 24)) w.heap.size 24 #[.slice A n c, .slice B m d] := (Blk.new w _ _).alloc _
  have hR0 : Blk ((w.alloc (.cells #[.slice A n c, .slice B m d] 24)).alloc (.cells #[.slice none 0 0, .slice none 0 0] 24)) (w.heap.size + 1) 24 #[.slice none 0 0, .slice none 0 0] := by
    have := Blk.new (w.alloc (.cells #[.slice A n c, .slice B m d] 24)) 24 #[.slice none 0 0, .slice none 0 0]
    rw [World.size_alloc] at this
    exact this
  have k1 := h1.on hb0
  have k2 := h2.on hb0
  clear h1 h2
  obtain ⟨w0, hw0⟩ : ∃ w0, w0 = (w.alloc (.cells #[.slice A n c, .slice B m d] 24)).alloc (.cells #[.slice none 0 0, .slice none 0 0] 24) := ⟨_, rfl⟩
  rw [← hw0] at hB0 hR0 hb0 k1 k2
  have hc0 := hB0.cell 0
  have hc1 := hB0.cell 1
  go_enter Tryz.func27, Tryz.ntmps27
  go_wp2_with fail
  rw [← hw0]
  clear hw0
  go_wp2_with fail
  refine (fright_any _ _ _ _ _ _ _ _ _ k1 k2 hn hm).mono ?_
  rintro e w1 ⟨rfl, hb⟩
  have hB1 := hB0.below hb hB0.lt
  have hR1 := hR0.below hb hR0.lt
  have hb1 := bltB hb0 hb0.size hb
  have k1 := k1.on hb
  have k2 := k2.on hb
  have hc0 := hB1.cell 0
  have hc1 := hB1.cell 1
  have hd0 := hR1.cell 0
  have hd1 := hR1.cell 1
  have hf0 := hR1.frozen 0
  have hf1 := hR1.frozen 1
  clear hb hB0 hR0 hb0
  rcases hr : frR l k with _ | _
  · have HN : Hid (frN l k = 0 ∧ frD l k = 1) := Lib.hid (by unfold frN frD; rw [hr]; exact ⟨rfl, rfl⟩)
    clear hr
    go_wp2_with fail
    refine (nought_any w1).mono ?_
    rintro e w2 ⟨A2, n2, c2, B2, m2, d2, rfl, r1, r2, hb⟩
    have hR2 := hR1.below hb hR1.lt
    have hb2 := bltB hb1 hb1.size hb
    have hd0 := hR2.cell 0
    have hd1 := hR2.cell 1
    have hf0 := hR2.frozen 0
    have hf1 := hR2.frozen 1
    clear hb hB1 hR1 hb1 hc0 hc1
    go_wp2_with fail
    obtain ⟨h4, hr1, hr2, hb4⟩ := fr_store hR2 r1 r2 hb2 (by omega)
    refine bodyPost_ret (v := .agg #[.slice A2 n2 c2, .slice B2 m2 d2]) ?_ rfl ?_
    · have e0 := h4.cell 0
      have e1 := h4.cell 1
      simp [results, Tryz.f27, go_sem, e0, e1]
    · exact ⟨A2, n2, c2, B2, m2, d2, rfl, by rw [HN.out.1]; exact hr1, by rw [HN.out.2]; exact hr2, hb4⟩
  · have hrr := hr
    unfold frR at hrr
    simp only [Bool.and_eq_true] at hrr
    have HN : Hid (digs (frN l k) = l ∧ digs (frD l k) = k) := Lib.hid (by
      unfold frN frD
      rw [hr, if_pos rfl, if_pos rfl, tv_right hrr.1, tv_right hrr.2.1]
      exact ⟨digs_val k1.dig hrr.1, digs_val k2.dig hrr.2.1⟩)
    clear hr hrr
    go_wp2_with fail
    obtain ⟨h4, hr1, hr2, hb4⟩ := fr_store hR1 k1 k2 hb1 (by omega)
    refine bodyPost_ret (v := .agg #[.slice A n c, .slice B m d]) ?_ rfl ?_
    · have e0 := h4.cell 0
      have e1 := h4.cell 1
      simp [results, Tryz.f27, go_sem, e0, e1]
    · exact ⟨A, n, c, B, m, d, rfl, by rw [HN.out.1]; exact hr1, by rw [HN.out.2]; exact hr2, hb4⟩

end Go.Proofs.YthkgeafidbihmaaGreatDoor
