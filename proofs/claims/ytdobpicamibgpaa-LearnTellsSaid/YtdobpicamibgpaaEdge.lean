/-
  Edges: which may be learnt; their ways.
-/
import Derived.Test.YtdobpicamibgpaaMem
import Derived.Test.YtdobpicamibgpaaNote
import Derived.Test.YtdobpicamibgpaaProg
import Derived.WalkKit
import Derived.Handy
namespace Go.Proofs.Ytdobpicamibgpaa
open Go.RowKit
set_option linter.unusedVariables false
set_option linter.unusedSimpArgs false

/-- An edge, as a value. -/
structure Ed where
  f : Int
  t : Int
  c : Int
  r : Int
  p0 : Int
  p1 : Int
  p2 : Int
  p3 : Int
  p4 : Int
def Ed.cs (e : Ed) : Array Value := #[.int .i64 e.f, .int .i64 e.t, .int .i64 e.c, .int .i64 e.r, .int .i64 e.p0, .int .i64 e.p1, .int .i64 e.p2, .int .i64 e.p3, .int .i64 e.p4]
/-- A struct in a struct lies flat, in the value as in memory. -/
def Ed.v (e : Ed) : Value := .agg e.cs

theorem party_any (n : Int) (w : World) : Calls Try.prog 60 #[.int .i64 n] w fun e w' => e = .returned (.bool (partyB n)) ∧ w = w' := by
  by_cases h1 : 0 ≤ n
  · by_cases h2 : n < 12
    · have HF : Hid (partyB n = true) := Lib.hid (by unfold partyB; rw [decide_eq_true h1, decide_eq_true h2]; rfl)
      go_enter Try.func60, Try.ntmps60
      go_wp2
      go_ret
      exact ⟨by rw [HF.out]; rfl, rfl⟩
    · have HF : Hid (partyB n = false) := Lib.hid (by unfold partyB; rw [decide_eq_false h2, Bool.and_false])
      go_enter Try.func60, Try.ntmps60
      go_wp2
      go_ret
      exact ⟨by rw [HF.out]; rfl, rfl⟩
  · have HF : Hid (partyB n = false) := Lib.hid (by unfold partyB; rw [decide_eq_false h1]; rfl)
    go_enter Try.func60, Try.ntmps60
    go_wp2
    go_ret
    exact ⟨by rw [HF.out]; rfl, rfl⟩

set_option maxRecDepth 100000 in
theorem may_any (e : Ed) (w : World) : Calls Try.prog 40 #[e.v] w fun x w' => x = .returned (.bool (mayB e.f e.t e.c e.r)) ∧ Below w.heap.size w w' := by
  obtain ⟨f, t, c, r, p0, p1, p2, p3, p4⟩ := e
  simp only [Ed.v, Ed.cs]
  go_enter Try.func40, Try.ntmps40
  go_wp2_with (go_at_call 60; refine (party_any _ _).mono ?_; rintro e w' ⟨rfl, rfl⟩)
  all_goals go_ret
  all_goals (refine ⟨?_, (Below.refl _ _).alloc (Nat.le_refl _) _⟩)
  all_goals (refine congrArg (fun b => Ending.returned (.bool b)) ?_)
  all_goals (unfold mayB)
  all_goals (first | (simp [*]; done) | (simp [*]; omega))

end Go.Proofs.Ytdobpicamibgpaa
