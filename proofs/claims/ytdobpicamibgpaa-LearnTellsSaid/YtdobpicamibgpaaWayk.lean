/-
  What reads as a key of a mind is a way.
-/
import Derived.Test.YtdobpicamibgpaaMof
import Derived.Test.YtdobpicamibgpaaRange
namespace Go.Proofs.Ytdobpicamibgpaa
open Go.RowKit Go.Maps
set_option linter.unusedVariables false
set_option linter.unusedSimpArgs false

theorem keyLits_int_inv {d : Nat} {v : Value} {ls : List Lit} (h : Try.prog.keyLits (d + 1) 3 [v] = some ls) : ∃ z, v = .int .i64 z ∧ isI z ∧ ls = [.int .i64 z] := by
  cases v <;> simp [Program.keyLits, Try.underlying3] at h
  obtain ⟨⟨rfl, hw⟩, rfl⟩ := h
  refine ⟨_, rfl, ?_, rfl⟩
  simp [Lit.wf, IntKind.min, IntKind.max, IntKind.signed, IntKind.bits] at hw
  exact hw

theorem wayL_eq {f c f' c' : Int} (h : wayV f c = wayV f' c') : f = f' ∧ c = c' := by
  unfold wayV at h
  injection h with h
  injection h with h
  injection h with h1 h2
  injection h2 with h2 _
  injection h1 with _ h1
  injection h2 with _ h2
  exact ⟨h1, h2⟩

set_option maxRecDepth 100000 in
theorem way_of_key {key : Value} {kl : Lit} (h : keyOf Try.prog 75 key = some kl) : ∃ f c, key = wayV f c ∧ isI f ∧ isI c ∧ kl = wayL f c := by
  have h0 := h
  unfold keyOf at h
  rw [Try.underlying75] at h
  simp only [] at h
  split at h
  · rename_i hc
    simp only [Bool.and_eq_true] at hc
    have hfo := hc.2
    have hl := Option.map_eq_some_iff.1 h
    obtain ⟨ls, hl, rfl⟩ := hl
    cases key <;> simp [Value.formed, Try.underlying75, cellsWay] at hfo
    rename_i cs
    obtain ⟨d, hd⟩ : ∃ d, Try.prog.types.size = d + 1 := ⟨_, (Nat.succ_pred_eq_of_pos (Nat.lt_of_le_of_lt (Nat.zero_le _) rowWay)).symm⟩
    rw [hd] at hl
    obtain ⟨x, y, hcs⟩ : ∃ x y, cs.toList = [x, y] := by
      have : cs.toList.length = 2 := by simpa using hfo
      match hq : cs.toList with
      | [x, y] => exact ⟨x, y, rfl⟩
      | [] | [_] | _ :: _ :: _ :: _ => rw [hq] at this; simp at this
    have hcs2 : cs = #[x, y] := by rw [← hcs]
    subst hcs2
    simp only [Value.cells] at hl
    have h1 := hl
    unfold Program.keyLits at hl
    simp only [Try.underlying75] at hl
    simp [cellsWay, cellsInt] at hl
    cases hx : Try.prog.keyLits (d + 1) 3 [x] with
    | none => rw [hx] at hl; cases hl
    | some a =>
      rw [hx] at hl
      cases hy : Try.prog.keyLits (d + 1) 3 [y] with
      | none => rw [hy] at hl; cases hl
      | some b =>
        obtain ⟨f, rfl, hf, rfl⟩ := keyLits_int_inv hx
        obtain ⟨c, rfl, hc', rfl⟩ := keyLits_int_inv hy
        refine ⟨f, c, rfl, hf, hc', ?_⟩
        exact Option.some.inj (h0.symm.trans (keyOf_way hf hc'))
  · cases h

end Go.Proofs.Ytdobpicamibgpaa
