/-
  No cell of these rows narrows 'for every input' (looked for: loops, veiled, ifaces, maps, wideKeys, modest, calm, conditions, laid).
  DERIVED. THE GIVEN ROWS OF THIS SEAT. 5 by the template 'for every input the law returns true; each argument reads behind the call as it read before'; 0 by the template 'total and deterministic' (their statements: YtolapebihnipdaaTotals.lean).
  GIVEN WITH THE SEED: the statements are not yours to turn. If you find one false, say at which input.
  Laid BY PROGRAM, IN A SANDBOX (cutbox-rows.mjs): the forced cells as the released guide's own fill.sh prints them over the translation f94dad1af4600e2b… (all of the seat's roots in one cut). By AI agents, Wed Nov 11 2026. No macro, syntax, notation, axiom, sorry.
-/
import Derived.Test.YtolapebihnipdaaChecked
import GoSem.Claim
import GoSem.ClaimJoined
import GoSem.ClaimMapViews
import Derived.JoinedTies
import Derived.KernelRfl
namespace Go.Proofs.Ytolapebihnipdaa
/- THE CELL 'sum', in the pinned program and in every row, IS THE sha256 OF THE DUMP (.gsa) THAT YtolapebihnipdaaProg.lean LOADS. Nothing in Lean hashes anything: it is a label: what it is worth is what the hold of that sum in a sandbox is worth. -/
noncomputable def Try.pinned : Pinned := { name := "ytolapebihnipdaa", sum := "f94dad1af4600e2b2b2c11dea930175ccf16a85bf524ae4e2743de5e9194743d", checked := Try.checked }
namespace Rows
def none {H : Type} : Left H := { results := [], args := [] }

/-- 'corsnedlaw40.WhenTells': WHATEVER THE INPUT: true; the input reads as it did. -/
def whenTellsSpec : ChangeSpec := { name := "whenTells", fn := fun _ => fun
  | [d1, d2, d3] => { results := [.lit (.bool true)], args := [d1, d2, d3] }
  | _ => none }
def whenTellsRow : OpenClaim := { program := "ytolapebihnipdaa", sum := "f94dad1af4600e2b2b2c11dea930175ccf16a85bf524ae4e2743de5e9194743d", func := "corsned/corsnedlaw40.WhenTells", spec := "whenTells", apart := false }
def WhenTellsSaid : Prop := whenTellsRow.holds Try.pinned (OpenSpec.ofChange whenTellsSpec)

/-- ITS FALSE NEIGHBOUR: 'it returns false'. Refute it at one input. -/
def whenTellsWrong : ChangeSpec := { name := "whenTells", fn := fun _ => fun
  | [d1, d2, d3] => { results := [.lit (.bool false)], args := [d1, d2, d3] }
  | _ => none }
def WhenTellsWrongFalsely : Prop := whenTellsRow.holds Try.pinned (OpenSpec.ofChange whenTellsWrong)

/-- 'corsnedlaw40.WhenRaces': WHATEVER THE INPUT: true; the input reads as it did. -/
def whenRacesSpec : ChangeSpec := { name := "whenRaces", fn := fun _ => fun
  | [d1, d2, d3, d4] => { results := [.lit (.bool true)], args := [d1, d2, d3, d4] }
  | _ => none }
def whenRacesRow : OpenClaim := { program := "ytolapebihnipdaa", sum := "f94dad1af4600e2b2b2c11dea930175ccf16a85bf524ae4e2743de5e9194743d", func := "corsned/corsnedlaw40.WhenRaces", spec := "whenRaces", apart := false }
def WhenRacesSaid : Prop := whenRacesRow.holds Try.pinned (OpenSpec.ofChange whenRacesSpec)

/-- ITS FALSE NEIGHBOUR: 'it returns false'. Refute it at one input. -/
def whenRacesWrong : ChangeSpec := { name := "whenRaces", fn := fun _ => fun
  | [d1, d2, d3, d4] => { results := [.lit (.bool false)], args := [d1, d2, d3, d4] }
  | _ => none }
def WhenRacesWrongFalsely : Prop := whenRacesRow.holds Try.pinned (OpenSpec.ofChange whenRacesWrong)

/-- 'corsnedlaw40.WhenReaches': WHATEVER THE INPUT: true; the input reads as it did. -/
def whenReachesSpec : ChangeSpec := { name := "whenReaches", fn := fun _ => fun
  | [d1, d2, d3, d4] => { results := [.lit (.bool true)], args := [d1, d2, d3, d4] }
  | _ => none }
def whenReachesRow : OpenClaim := { program := "ytolapebihnipdaa", sum := "f94dad1af4600e2b2b2c11dea930175ccf16a85bf524ae4e2743de5e9194743d", func := "corsned/corsnedlaw40.WhenReaches", spec := "whenReaches", apart := false }
def WhenReachesSaid : Prop := whenReachesRow.holds Try.pinned (OpenSpec.ofChange whenReachesSpec)

/-- ITS FALSE NEIGHBOUR: 'it returns false'. Refute it at one input. -/
def whenReachesWrong : ChangeSpec := { name := "whenReaches", fn := fun _ => fun
  | [d1, d2, d3, d4] => { results := [.lit (.bool false)], args := [d1, d2, d3, d4] }
  | _ => none }
def WhenReachesWrongFalsely : Prop := whenReachesRow.holds Try.pinned (OpenSpec.ofChange whenReachesWrong)

/-- 'corsnedlaw40.WhenAnyway': WHATEVER THE INPUT: true; the input reads as it did. -/
def whenAnywaySpec : ChangeSpec := { name := "whenAnyway", fn := fun _ => fun
  | [d1, d2, d3, d4, d5, d6] => { results := [.lit (.bool true)], args := [d1, d2, d3, d4, d5, d6] }
  | _ => none }
def whenAnywayRow : OpenClaim := { program := "ytolapebihnipdaa", sum := "f94dad1af4600e2b2b2c11dea930175ccf16a85bf524ae4e2743de5e9194743d", func := "corsned/corsnedlaw40.WhenAnyway", spec := "whenAnyway", apart := false }
def WhenAnywaySaid : Prop := whenAnywayRow.holds Try.pinned (OpenSpec.ofChange whenAnywaySpec)

/-- ITS FALSE NEIGHBOUR: 'it returns false'. Refute it at one input. -/
def whenAnywayWrong : ChangeSpec := { name := "whenAnyway", fn := fun _ => fun
  | [d1, d2, d3, d4, d5, d6] => { results := [.lit (.bool false)], args := [d1, d2, d3, d4, d5, d6] }
  | _ => none }
def WhenAnywayWrongFalsely : Prop := whenAnywayRow.holds Try.pinned (OpenSpec.ofChange whenAnywayWrong)

/-- 'corsnedlaw40.WhenLadder': WHATEVER THE INPUT: true; the input reads as it did. -/
def whenLadderSpec : ChangeSpec := { name := "whenLadder", fn := fun _ => fun
  | [d1, d2, d3, d4, d5] => { results := [.lit (.bool true)], args := [d1, d2, d3, d4, d5] }
  | _ => none }
def whenLadderRow : OpenClaim := { program := "ytolapebihnipdaa", sum := "f94dad1af4600e2b2b2c11dea930175ccf16a85bf524ae4e2743de5e9194743d", func := "corsned/corsnedlaw40.WhenLadder", spec := "whenLadder", apart := false }
def WhenLadderSaid : Prop := whenLadderRow.holds Try.pinned (OpenSpec.ofChange whenLadderSpec)

/-- ITS FALSE NEIGHBOUR: 'it returns false'. Refute it at one input. -/
def whenLadderWrong : ChangeSpec := { name := "whenLadder", fn := fun _ => fun
  | [d1, d2, d3, d4, d5] => { results := [.lit (.bool false)], args := [d1, d2, d3, d4, d5] }
  | _ => none }
def WhenLadderWrongFalsely : Prop := whenLadderRow.holds Try.pinned (OpenSpec.ofChange whenLadderWrong)

/- THE SECOND FORM. 'bulk': how many values and letters a reading holds, each counted each time it is reached (what is shared counts as often as it is met; a slice's spare places count too). A statement '..UptoSaid' is the law's where the arguments, and the package variables that the reading takes, are together of bulk at most 1048576: NARROWER than '..Said'. Prove '..Said' where nothing that the law and all that it calls make is longer than what came in: it says more and counts as full. Else prove '..UptoSaid'. A law counts once. -/
mutual
def uptoBulk {H : Type} : DataW H → Nat
  | .lit (.string bytes) => bytes.length + 1
  | .lit _ => 1
  | .nil => 1
  | .ptr d => uptoBulk d + 1
  | .slice elems spare => uptoBulkAll elems + uptoBulkAll spare + 1
  | .agg parts => uptoBulkAll parts + 1
  | .iface _ d => uptoBulk d + 1
  | .map entries => uptoBulkEntries entries + 1
  | .held _ => 1
def uptoBulkAll {H : Type} : List (DataW H) → Nat
  | [] => 0
  | d :: r => uptoBulk d + uptoBulkAll r
def uptoBulkEntries {H : Type} : List (Lit × DataW H) → Nat
  | [] => 0
  | x :: r => uptoBulkEntry x + uptoBulkEntries r
def uptoBulkEntry {H : Type} : Lit × DataW H → Nat
  | (.string bytes, d) => bytes.length + uptoBulk d + 1
  | (_, d) => uptoBulk d + 1
 end
def uptoSmall : (H : Type) → List (DataW H) → Bool := fun _ ds => decide (uptoBulkAll ds ≤ 1048576)
def OpenSpec.upto (s : _root_.Go.ChangeSpec) : _root_.Go.OpenSpec := { _root_.Go.OpenSpec.ofChange s with cond := some uptoSmall }

/-- 'corsnedlaw40.WhenTells', WHERE WHAT IT READS IS OF BULK AT MOST 1048576: true; the input reads as it did. -/
def whenTellsUptoRow : OpenClaim := { program := "ytolapebihnipdaa", sum := "f94dad1af4600e2b2b2c11dea930175ccf16a85bf524ae4e2743de5e9194743d", func := "corsned/corsnedlaw40.WhenTells", spec := "whenTells", apart := false, narrowed := true }
def WhenTellsUptoSaid : Prop := whenTellsUptoRow.holds Try.pinned (OpenSpec.upto whenTellsSpec)

/-- 'corsnedlaw40.WhenRaces', WHERE WHAT IT READS IS OF BULK AT MOST 1048576: true; the input reads as it did. -/
def whenRacesUptoRow : OpenClaim := { program := "ytolapebihnipdaa", sum := "f94dad1af4600e2b2b2c11dea930175ccf16a85bf524ae4e2743de5e9194743d", func := "corsned/corsnedlaw40.WhenRaces", spec := "whenRaces", apart := false, narrowed := true }
def WhenRacesUptoSaid : Prop := whenRacesUptoRow.holds Try.pinned (OpenSpec.upto whenRacesSpec)

/-- 'corsnedlaw40.WhenReaches', WHERE WHAT IT READS IS OF BULK AT MOST 1048576: true; the input reads as it did. -/
def whenReachesUptoRow : OpenClaim := { program := "ytolapebihnipdaa", sum := "f94dad1af4600e2b2b2c11dea930175ccf16a85bf524ae4e2743de5e9194743d", func := "corsned/corsnedlaw40.WhenReaches", spec := "whenReaches", apart := false, narrowed := true }
def WhenReachesUptoSaid : Prop := whenReachesUptoRow.holds Try.pinned (OpenSpec.upto whenReachesSpec)

/-- 'corsnedlaw40.WhenAnyway', WHERE WHAT IT READS IS OF BULK AT MOST 1048576: true; the input reads as it did. -/
def whenAnywayUptoRow : OpenClaim := { program := "ytolapebihnipdaa", sum := "f94dad1af4600e2b2b2c11dea930175ccf16a85bf524ae4e2743de5e9194743d", func := "corsned/corsnedlaw40.WhenAnyway", spec := "whenAnyway", apart := false, narrowed := true }
def WhenAnywayUptoSaid : Prop := whenAnywayUptoRow.holds Try.pinned (OpenSpec.upto whenAnywaySpec)

/-- 'corsnedlaw40.WhenLadder', WHERE WHAT IT READS IS OF BULK AT MOST 1048576: true; the input reads as it did. -/
def whenLadderUptoRow : OpenClaim := { program := "ytolapebihnipdaa", sum := "f94dad1af4600e2b2b2c11dea930175ccf16a85bf524ae4e2743de5e9194743d", func := "corsned/corsnedlaw40.WhenLadder", spec := "whenLadder", apart := false, narrowed := true }
def WhenLadderUptoSaid : Prop := whenLadderUptoRow.holds Try.pinned (OpenSpec.upto whenLadderSpec)

end Rows
end Go.Proofs.Ytolapebihnipdaa
