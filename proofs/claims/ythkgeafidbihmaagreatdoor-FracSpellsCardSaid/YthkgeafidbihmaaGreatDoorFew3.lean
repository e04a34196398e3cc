/-
  The laws' few, of two fractions.
-/
import Derived.Test.YthkgeafidbihmaaGreatDoorFracV
namespace Go.Proofs.YthkgeafidbihmaaGreatDoor
open Go.RowKit Go.Shelf
set_option linter.unusedVariables false
set_option linter.unusedSimpArgs false

def fewB (n m : Nat) : Bool := decide (n ≤ 12) && decide (m ≤ 12)

theorem few_any (w : World) (A1 B1 A2 B2' : Option Addr) (n1 c1 m1 d1 n2 c2 m2 d2 : Nat) (hn1 : n1 ≤ 9223372036854775807) (hm1 : m1 ≤ 9223372036854775807) (hn2 : n2 ≤ 9223372036854775807) (hm2 : m2 ≤ 9223372036854775807) :
    Calls Tryz.prog 5 #[.agg #[.slice A1 n1 c1, .slice B1 m1 d1], .agg #[.slice A2 n2 c2, .slice B2' m2 d2]] w fun e w' => e = .returned (.bool (fewB n1 m1 && fewB n2 m2)) ∧ Below w.heap.size w w' := by
  obtain ⟨w0, hw0⟩ : ∃ w0, w0 = (w.alloc (.cells #[.slice A1 n1 c1, .slice B1 m1 d1] 24)).alloc (.cells #[.slice A2 n2 c2, .slice B2' m2 d2] 24) := ⟨_, rfl⟩
  have hb0 : Below w.heap.size w w0 := by rw [hw0]; exact ((Below.refl _ _).alloc (Nat.le_refl _) _).alloc (by simp) _
  have J0 : B2 w0 w.heap.size A1 n1 c1 B1 m1 d1 A2 n2 c2 B2' m2 d2 := by
    rw [hw0]
    refine ⟨(Blk.new w _ _).alloc _, ?_⟩
    have := Blk.new (w.alloc (.cells #[.slice A1 n1 c1, .slice B1 m1 d1] 24)) 24 #[.slice A2 n2 c2, .slice B2' m2 d2]
    rw [World.size_alloc] at this
    exact this
  have hc0 := J0.a.cell 0
  have hc1 := J0.a.cell 1
  have hc2 := J0.b.cell 0
  have hc3 := J0.b.cell 1
  by_cases h0 : n1 ≤ 12
  · have g0 : (n1 : Int) ≤ 12 := by omega
    by_cases h1 : m1 ≤ 12
    · have g1 : (m1 : Int) ≤ 12 := by omega
      by_cases h2 : n2 ≤ 12
      · have g2 : (n2 : Int) ≤ 12 := by omega
        by_cases h3 : m2 ≤ 12
        · have g3 : (m2 : Int) ≤ 12 := by omega
          have HF : Hid ((fewB n1 m1 && fewB n2 m2) = true) := Lib.hid (by unfold fewB; simp; omega)
          go_enter Tryz.func5, Tryz.ntmps5
          go_wp2_with fail
          rw [← hw0]
          clear hw0
          go_wp2_with fail
          go_ret
          exact ⟨by rw [HF.out]; rfl, hb0⟩
        · have g3 : ¬ (m2 : Int) ≤ 12 := by omega
          have HF : Hid ((fewB n1 m1 && fewB n2 m2) = false) := Lib.hid (by unfold fewB; simp; omega)
          go_enter Tryz.func5, Tryz.ntmps5
          go_wp2_with fail
          rw [← hw0]
          clear hw0
          go_wp2_with fail
          go_ret
          exact ⟨by rw [HF.out]; rfl, hb0⟩
      · have g2 : ¬ (n2 : Int) ≤ 12 := by omega
        have HF : Hid ((fewB n1 m1 && fewB n2 m2) = false) := Lib.hid (by unfold fewB; simp; omega)
        go_enter Tryz.func5, Tryz.ntmps5
        go_wp2_with fail
        rw [← hw0]
        clear hw0
        go_wp2_with fail
        go_ret
        exact ⟨by rw [HF.out]; rfl, hb0⟩
    · have g1 : ¬ (m1 : Int) ≤ 12 := by omega
      have HF : Hid ((fewB n1 m1 && fewB n2 m2) = false) := Lib.hid (by unfold fewB; simp; omega)
      go_enter Tryz.func5, Tryz.ntmps5
      go_wp2_with fail
      rw [← hw0]
      clear hw0
      go_wp2_with fail
      go_ret
      exact ⟨by rw [HF.out]; rfl, hb0⟩
  · have g0 : ¬ (n1 : Int) ≤ 12 := by omega
    have HF : Hid ((fewB n1 m1 && fewB n2 m2) = false) := Lib.hid (by unfold fewB; simp; omega)
    go_enter Tryz.func5, Tryz.ntmps5
    go_wp2_with fail
    rw [← hw0]
    clear hw0
    go_wp2_with fail
    go_ret
    exact ⟨by rw [HF.out]; rfl, hb0⟩

end Go.Proofs.YthkgeafidbihmaaGreatDoor
