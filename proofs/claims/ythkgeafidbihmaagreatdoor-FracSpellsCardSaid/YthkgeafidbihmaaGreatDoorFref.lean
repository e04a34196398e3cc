/-
  The document's fractions: One, Zero, low, Of, Same.
-/
import Derived.Test.YthkgeafidbihmaaGreatDoorFracX
import Derived.Test.YthkgeafidbihmaaGreatDoorRefK
import Derived.Test.YthkgeafidbihmaaGreatDoorNats
namespace Go.Proofs.YthkgeafidbihmaaGreatDoor
open Go.RowKit Go.Shelf
set_option linter.unusedVariables false
set_option linter.unusedSimpArgs false

theorem rone_any (w : World) : Calls Tryz.prog 24 #[] w (RetN w 1) := by
  go_enter Tryz.func24, Tryz.ntmps24
  go_wp2_with fail
  refine (rof_any w 1 (by decide)).mono ?_
  rintro e w1 ⟨A, n, c, rfl, r, hb⟩
  have HF : Hid (RetN w 1 (.returned (.slice A n c)) w1) := Lib.hid ⟨A, n, c, rfl, r, hb⟩
  clear r hb
  go_wp2_with fail
  go_ret
  exact HF.out

theorem rzero_any (w : World) : Calls Tryz.prog 26 #[] w (RetFr w 0 1) := by
  go_enter Tryz.func26, Tryz.ntmps26
  go_wp2_with fail
  have hB0 : Blk (w.alloc (.cells #[.slice none 0 0, .slice none 0 0] 24)) w.heap.size 24 #[.slice none 0 0, .slice none 0 0] := Blk.new w _ _
  have hb0 : Below w.heap.size w (w.alloc (.cells #[.slice none 0 0, .slice none 0 0] 24)) := (Below.refl _ _).alloc (Nat.le_refl _) _
  generalize w.alloc (.cells #[.slice none 0 0, .slice none 0 0] 24) = w0 at *
  refine (rof_any w0 0 (by decide)).mono ?_
  rintro e w1 ⟨A, n, c, rfl, r, hb⟩
  have hB1 := hB0.below hb hB0.lt
  have hb1 := bltB hb0 hb0.size hb
  clear hb hB0 hb0
  go_wp2_with fail
  refine (rone_any w1).mono ?_
  rintro e w2 ⟨B, m, d, rfl, r2, hb⟩
  have hB2 := hB1.below hb hB1.lt
  have hb2 := bltB hb1 hb1.size hb
  have r1 := r.on hb
  have hc0 := hB2.cell 0
  have hc1 := hB2.cell 1
  have hf0 := hB2.frozen 0
  have hf1 := hB2.frozen 1
  clear hb hB1 hb1 r
  go_wp2_with fail
  obtain ⟨h3, hr1, hr2, hb3⟩ := fr_store hB2 r1 r2 hb2 (Nat.le_refl _)
  refine bodyPost_ret (v := .agg #[.slice A n c, .slice B m d]) ?_ rfl ?_
  · have e0 := h3.cell 0
    have e1 := h3.cell 1
    simp [results, Tryz.f26, go_sem, e0, e1]
  · exact ⟨A, n, c, B, m, d, rfl, hr1, hr2, hb3⟩

end Go.Proofs.YthkgeafidbihmaaGreatDoor
