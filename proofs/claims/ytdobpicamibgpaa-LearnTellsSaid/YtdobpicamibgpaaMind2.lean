/-
  A mind: Known; what is looked up, stored, struck.
-/
import Derived.Test.YtdobpicamibgpaaMind
namespace Go.Proofs.Ytdobpicamibgpaa
open Go.RowKit Go.Maps
set_option linter.unusedVariables false
set_option linter.unusedSimpArgs false

theorem known_any (w : World) (p b n : Nat) (L : Notes) (h : MindAt w p b n L) : Calls Try.prog 19 #[.pointer (some ⟨p, 0, none⟩)] w fun e w' => e = .returned (.int .i64 L.length) ∧ w = w' := by
  obtain ⟨D, hown, hs⟩ := h.own
  have hc : w.cell? ⟨p, 0, none⟩ = some (.map (some b)) := h.box.cell 0
  have hlen := fun ty => hown.len Try.underlying58 ty
  rw [hs.size] at hlen
  have HO := Lib.hid hown
  have HS := Lib.hid hs
  clear hown hs h
  go_enter Try.func19, Try.ntmps19
  go_wp2
  go_ret
  exact ⟨rfl, rfl⟩

/-- Two ways that read as one key are one. -/
theorem way_inj {f c f' c' : Int} (hf : isI f) (hc : isI c) (hf' : isI f') (hc' : isI c') (h : wayL f c = wayL f' c') : f = f' ∧ c = c' := by
  have h1 := lawWay.inj (keyOf_way hf hc) (by rw [h]; exact keyOf_way hf' hc')
  unfold wayV at h1
  injection h1 with h2
  injection h2 with h3
  injection h3 with h4 h5
  injection h5 with h6
  injection h4 with _ h7
  injection h6 with _ h8
  exact ⟨h7, h8⟩

end Go.Proofs.Ytdobpicamibgpaa
