/-
  A mind: a note put.
-/
import Derived.Test.YtdobpicamibgpaaMind2
namespace Go.Proofs.Ytdobpicamibgpaa
open Go.RowKit Go.Maps
set_option linter.unusedVariables false
set_option linter.unusedSimpArgs false

theorem Says.put {D : DataW Unit} {L : Notes} (h : Says D L) (ht : Maps.Tidy D) {f c a b r : Int} (hf : isI f) (hc : isI c) (ha : isI a) (hb : isI b) (hr : isI r) : Says (D.put (wayL f c) (noteD a b r)) (putL L (f, c) (a, b, r)) := by
  have hk : WideAt.IsKeyLit (wayL f c) := lawWay.key (keyOf_way hf hc)
  refine ⟨fun e he => ?_, once_put h.once _ _, fun f' c' hf' hc' => ?_, fun f' c' a' b' r' z hf' hc' hl => ?_, ?_⟩
  · rcases mem_put he with h1 | h1
    · exact h.key e h1
    · subst h1; exact ⟨hf, hc, ha, hb, hr⟩
  · rw [look_put]
    by_cases e : (f', c') = (f, c)
    · injection e with e1 e2
      subst e1 e2
      rw [if_pos rfl, Maps.has_put_same ht.isMap hk]; rfl
    · rw [if_neg e, Maps.has_put_other (fun hw => e (by obtain ⟨h1, h2⟩ := way_inj hf' hc' hf hc hw; rw [h1, h2])), h.has f' c' hf' hc']
  · rw [look_put] at hl
    by_cases e : (f', c') = (f, c)
    · rw [if_pos e] at hl
      injection e with e1 e2
      subst e1 e2
      injection hl with hl
      injection hl with h1 h2
      injection h2 with h2 h3
      subst h1 h2 h3
      exact Maps.atKey_put_same ht.isMap hk _ _
    · rw [if_neg e] at hl
      rw [Maps.atKey_put_other (fun hw => e (by obtain ⟨h1, h2⟩ := way_inj hf' hc' hf hc hw; rw [h1, h2]))]
      exact h.at_ f' c' a' b' r' z hf' hc' hl
  · rw [Maps.size_put ht, length_put, h.has f c hf hc, h.size]

end Go.Proofs.Ytdobpicamibgpaa
