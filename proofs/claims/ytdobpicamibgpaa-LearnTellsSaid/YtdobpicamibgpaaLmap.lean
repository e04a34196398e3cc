/-
  The map of a mind: its keys are ways (two ints), its elements notes (three ints).
-/
import Derived.Test.YtdobpicamibgpaaLway
import Derived.Maps.Own
import Derived.Maps.OwnSet
import Derived.DeepKeys4
namespace Go.Proofs.Ytdobpicamibgpaa
open Go.RowKit Go.Maps
set_option linter.unusedVariables false
set_option linter.unusedSimpArgs false

theorem laidOutM : laidOutB Try.prog = true := by kernel_rfl
theorem rowWay : (75 : TypeId) < Try.prog.types.size := of_decide_eq_true (by kernel_rfl)
theorem wideWay : (match Try.prog.underlying 75 with | some (.array _ _) | some (.struct _) => true | _ => false) = true := by kernel_rfl
set_option maxRecDepth 100000 in
theorem keyLawWay : WideMaps.KeyLaw Try.prog 75 := deep_law_laid laidOutM (m := 2) (by omega) rowWay (by kernel_rfl) wideWay
theorem lawWay : Keyed Try.prog 75 := Keyed.of_law keyLawWay

/-- How a way reads as a key. -/
def wayL (f c : Int) : Lit := .string (keyBytes [.int .i64 f, .int .i64 c])

def isI (z : Int) : Prop := -9223372036854775808 ≤ z ∧ z ≤ 9223372036854775807

theorem keyTypeWay : Try.prog.keyType 75 = true := by kernel_rfl
theorem cellsWay : Try.prog.cellsOf 75 = 2 := by kernel_rfl
theorem cellsInt : Try.prog.cellsOf 3 = 1 := by kernel_rfl

theorem wfI {z : Int} (h : isI z) : (Lit.int .i64 z).wf = true := by
  simp [Lit.wf, IntKind.min, IntKind.max, IntKind.signed, IntKind.bits]
  exact h

theorem keyLits_int (d : Nat) {z : Int} (h : isI z) : Try.prog.keyLits (d + 1) 3 [.int .i64 z] = some [.int .i64 z] := by
  have hw : (Lit.int .i64 z).wf = true := by
    simp [Lit.wf, IntKind.min, IntKind.max, IntKind.signed, IntKind.bits]
    exact h
  simp [Program.keyLits, Try.underlying3, hw]

theorem keyLits_way (d : Nat) {f c : Int} (hf : isI f) (hc : isI c) : Try.prog.keyLits (d + 2) 75 [.int .i64 f, .int .i64 c] = some [.int .i64 f, .int .i64 c] := by
  rw [show d + 2 = (d + 1) + 1 from rfl]
  simp [Program.keyLits, Try.underlying75, Try.underlying3, cellsWay, cellsInt, wfI hf, wfI hc]

set_option maxRecDepth 100000 in
theorem keyOf_way {f c : Int} (hf : isI f) (hc : isI c) : keyOf Try.prog 75 (wayV f c) = some (wayL f c) := by
  have hL := fun d => keyLits_way d hf hc
  have hfo : (wayV f c).formed Try.prog 75 = true := by
    simp [Value.formed, Try.underlying75, cellsWay, wayV]
  obtain ⟨d, hd⟩ : ∃ d, Try.prog.types.size = d + 1 := ⟨_, (Nat.succ_pred_eq_of_pos (Nat.lt_of_le_of_lt (Nat.zero_le _) rowWay)).symm⟩
  unfold keyOf
  rw [Try.underlying75, hd, keyTypeWay, hfo]
  show (if (true && true) = true then (Try.prog.keyLits (d + 2) 75 [.int .i64 f, .int .i64 c]).map _ else none) = _
  rw [hL d]
  rfl

/-- A note, as a value, and as it reads. -/
def noteV (a b r : Int) : Value := .agg #[.int .i64 a, .int .i64 b, .int .i64 r]
def noteD {H : Type} (a b r : Int) : DataW H := .agg [.lit (.int .i64 a), .lit (.int .i64 b), .lit (.int .i64 r)]
def noteElem {H : Type} : Value → Option (DataW H × List MemPlace)
  | .agg cs => match cs.toList with
    | [.int .i64 a, .int .i64 b, .int .i64 r] => some (noteD a b r, [])
    | _ => none
  | _ => none

theorem noteElem_mk {H : Type} (a b r : Int) : noteElem (H := H) (noteV a b r) = some (noteD a b r, []) := rfl

theorem noteElem_inv {H : Type} {v : Value} {z : DataW H × List MemPlace} (h : noteElem v = some z) : ∃ a b r, v = noteV a b r ∧ z = (noteD a b r, []) := by
  unfold noteElem at h
  split at h
  · rename_i cs
    split at h
    · rename_i a b r hcs
      refine ⟨a, b, r, ?_, (Option.some.inj h).symm⟩
      rw [noteV, ← hcs]
    · cases h
  · cases h

end Go.Proofs.Ytdobpicamibgpaa
