/-
  A mind: a note struck.
-/
import Derived.Test.YtdobpicamibgpaaMind3
namespace Go.Proofs.Ytdobpicamibgpaa
open Go.RowKit Go.Maps
set_option linter.unusedVariables false
set_option linter.unusedSimpArgs false

theorem Says.del {D : DataW Unit} {L : Notes} (h : Says D L) (ht : Maps.Tidy D) {f c : Int} (hf : isI f) (hc : isI c) : Says (D.del (wayL f c)) (delL L (f, c)) := by
  refine ⟨fun e he => h.key e (List.mem_filter.1 he).1, h.once.filter _, fun f' c' hf' hc' => ?_, fun f' c' a' b' r' z hf' hc' hl => ?_, ?_⟩
  · rw [look_del]
    by_cases e : (f', c') = (f, c)
    · injection e with e1 e2
      subst e1 e2
      rw [if_pos rfl, Maps.has_del_same]; rfl
    · rw [if_neg e, Maps.has_del_other (fun hw => e (by obtain ⟨h1, h2⟩ := way_inj hf' hc' hf hc hw; rw [h1, h2])), h.has f' c' hf' hc']
  · rw [look_del] at hl
    by_cases e : (f', c') = (f, c)
    · rw [if_pos e] at hl; cases hl
    · rw [if_neg e] at hl
      rw [Maps.atKey_del_other (fun hw => e (by obtain ⟨h1, h2⟩ := way_inj hf' hc' hf hc hw; rw [h1, h2]))]
      exact h.at_ f' c' a' b' r' z hf' hc' hl
  · have h1 := Maps.size_del (k := wayL f c) ht
    have h2 := once_len h.once (f, c)
    rw [h.has f c hf hc, h.size] at h1
    omega

end Go.Proofs.Ytdobpicamibgpaa
