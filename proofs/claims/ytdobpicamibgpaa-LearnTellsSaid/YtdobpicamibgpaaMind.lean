/-
  A mind: a map of notes in a box, as a list of entries.
-/
import Derived.Test.YtdobpicamibgpaaLmap
namespace Go.Proofs.Ytdobpicamibgpaa
open Go.RowKit Go.Maps
set_option linter.unusedVariables false
set_option linter.unusedSimpArgs false

/-- The map that reads as D says what the list says. -/
structure Says (D : DataW Unit) (L : Notes) : Prop where
  key : ∀ e ∈ L, isI e.1.1 ∧ isI e.1.2 ∧ isI e.2.1 ∧ isI e.2.2.1 ∧ isI e.2.2.2
  once : L.Pairwise fun a b => a.1 ≠ b.1
  has : ∀ f c, isI f → isI c → Maps.has D (wayL f c) = (look L (f, c)).isSome
  at_ : ∀ f c a b r z, isI f → isI c → look L (f, c) = some (a, b, r) → D.atKey (wayL f c) z = noteD a b r
  size : Maps.size D = L.length

theorem Says.empty : Says (.map []) [] := ⟨by simp, List.Pairwise.nil, fun _ _ _ _ => rfl, fun _ _ _ _ _ _ _ _ h => by simp [look] at h, rfl⟩

/-- Block p holds a mind: the map b, which says L. -/
structure MindAt (w : World) (p b n : Nat) (L : Notes) : Prop where
  box : Blk w p 60 #[.map (some b)]
  own : ∃ D, w.ownsMap Try.prog 75 (noteElem (H := Unit)) b n D ∧ Says D L
  ne : p ≠ b

theorem lnew_any (w : World) : Calls Try.prog 10 #[] w fun e w' => ∃ p b, e = .returned (.pointer (some ⟨p, 0, none⟩)) ∧ MindAt w' p b 0 [] ∧ w.heap.size ≤ p ∧ w.heap.size ≤ b ∧ Below w.heap.size w w' := by
  have hmm := @run_makeMap Try.prog
  go_enter Try.func10, Try.ntmps10
  go_wp2
  go_ret
  refine ⟨w.heap.size + 1, w.heap.size, rfl, ⟨?_, ⟨_, (World.ownsMap_made w _ _ _).alloc _, Says.empty⟩, by omega⟩, by omega, Nat.le_refl _, ((Below.refl _ _).alloc (Nat.le_refl _) _).alloc (by simp) _⟩
  have := Blk.new (w.alloc (.map #[] 0)) 60 #[.map (some w.heap.size)]
  rw [World.size_alloc] at this
  exact this

end Go.Proofs.Ytdobpicamibgpaa
