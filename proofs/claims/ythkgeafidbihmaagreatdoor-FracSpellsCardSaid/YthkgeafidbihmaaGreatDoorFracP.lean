/-
  Fractions: Pow.
-/
import Derived.Test.YthkgeafidbihmaaGreatDoorFracQ
namespace Go.Proofs.YthkgeafidbihmaaGreatDoor
open Go.RowKit Go.Shelf
set_option linter.unusedVariables false
set_option linter.unusedSimpArgs false
attribute [local go_sem] Oper.semAt_some

theorem fpow_no (w : World) (A B : Option Addr) (n c m d : Nat) (z : Int) (hz : z < 0 ∨ 64 < z) :
    Calls Tryz.prog 14 #[.agg #[.slice A n c, .slice B m d], .int .i64 z] w (RetFrO w false 0 1) := by
  obtain ⟨w0, hw0⟩ : ∃ w0, w0 = (w.alloc (.cells #[.slice A n c, .slice B m d] 24)).alloc (.cells #[.slice none 0 0, .slice none 0 0] 24) := ⟨_, rfl⟩
  have hb0 : Below w.heap.size w w0 := by rw [hw0]; exact ((Below.refl _ _).alloc (Nat.le_refl _) _).alloc (by simp) _
  have R0 : Blk w0 (w.heap.size + 1) 24 #[.slice none 0 0, .slice none 0 0] := by
    rw [hw0]
    have := Blk.new (w.alloc (.cells #[.slice A n c, .slice B m d] 24)) 24 #[.slice none 0 0, .slice none 0 0]
    rw [World.size_alloc] at this
    exact this
  rcases hz with h | h
  · have hz1 : decide (z < 0) = true := decide_eq_true h
    go_enter Tryz.func14, Tryz.ntmps14
    go_wp2_with fail
    rw [← hw0]
    clear hw0
    refine (nought_any _).mono ?_
    rintro e w1 ⟨A5, n5, c5, B5, m5, d5, rfl, q1, q2, hb⟩
    have R3 := R0.below hb R0.lt
    have hb3 := bltB hb0 hb0.size hb
    clear hb hb0 R0
    have hc0 := R3.cell 0
    have hc1 := R3.cell 1
    have hf0 := R3.frozen 0
    have hf1 := R3.frozen 1
    obtain ⟨j4, t1, t2, hb4⟩ := fr_store R3 q1 q2 hb3 (by omega)
    go_wp2_with fail
    refine bodyPost_ret (v := .tuple #[.agg #[.slice A5 n5 c5, .slice B5 m5 d5], .bool false]) ?_ rfl ?_
    · have e0 := j4.cell 0
      have e1 := j4.cell 1
      simp [results, Tryz.f14, go_sem, e0, e1]
    · exact ⟨A5, n5, c5, B5, m5, d5, rfl, t1, t2, hb4⟩
  · have hz1 : decide (z < 0) = false := decide_eq_false (by omega)
    have hz2 : decide (64 < z) = true := decide_eq_true h
    go_enter Tryz.func14, Tryz.ntmps14
    go_wp2_with fail
    rw [← hw0]
    clear hw0
    refine (nought_any _).mono ?_
    rintro e w1 ⟨A5, n5, c5, B5, m5, d5, rfl, q1, q2, hb⟩
    have R3 := R0.below hb R0.lt
    have hb3 := bltB hb0 hb0.size hb
    clear hb hb0 R0
    have hc0 := R3.cell 0
    have hc1 := R3.cell 1
    have hf0 := R3.frozen 0
    have hf1 := R3.frozen 1
    obtain ⟨j4, t1, t2, hb4⟩ := fr_store R3 q1 q2 hb3 (by omega)
    go_wp2_with fail
    refine bodyPost_ret (v := .tuple #[.agg #[.slice A5 n5 c5, .slice B5 m5 d5], .bool false]) ?_ rfl ?_
    · have e0 := j4.cell 0
      have e1 := j4.cell 1
      simp [results, Tryz.f14, go_sem, e0, e1]
    · exact ⟨A5, n5, c5, B5, m5, d5, rfl, t1, t2, hb4⟩

end Go.Proofs.YthkgeafidbihmaaGreatDoor
