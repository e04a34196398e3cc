/-
  No cell of these rows narrows 'for every input' (looked for: loops, veiled, ifaces, maps, wideKeys, modest, calm, conditions, laid).
  DERIVED. THE GIVEN ROWS OF THIS SEAT. 3 by the template 'for every input the law returns true; each argument reads behind the call as it read before'; 0 by the template 'total and deterministic' (their statements: YthefgdehfgkhhaaGreatTotals.lean).
  GIVEN WITH THE SEED: the statements are not yours to turn. If you find one false, say at which input.
  Laid BY PROGRAM, IN A SANDBOX (cutbox-rows.mjs): the forced cells as the released guide's own fill.sh prints them over the translation 31edbadf2b7a3dfd… (all of the seat's roots in one cut). By AI agents, Wed Nov 11 2026. No macro, syntax, notation, axiom, sorry.
-/
import Derived.Test.YthefgdehfgkhhaaGreatChecked
import GoSem.Claim
import GoSem.ClaimJoined
import GoSem.ClaimMapViews
import Derived.JoinedTies
import Derived.KernelRfl
namespace Go.Proofs.YthefgdehfgkhhaaGreat
/- THE CELL 'sum', in the pinned program and in every row, IS THE sha256 OF THE DUMP (.gsa) THAT YthefgdehfgkhhaaGreatProg.lean LOADS. Nothing in Lean hashes anything: it is a label: what it is worth is what the hold of that sum in a sandbox is worth. -/
noncomputable def Tryz.pinned : Pinned := { name := "ythefgdehfgkhhaagreat", sum := "31edbadf2b7a3dfdf2a4519c15328e6ce70b2f58f2da6da97012c04d05f3dc76", checked := Tryz.checked }
namespace Rows
def none {H : Type} : Left H := { results := [], args := [] }

/-- 'corsnedtop.TopLearns': WHATEVER THE INPUT: true; the input reads as it did. -/
def topLearnsSpec : ChangeSpec := { name := "topLearns", fn := fun _ => fun
  | [d1, d2] => { results := [.lit (.bool true)], args := [d1, d2] }
  | _ => none }
def topLearnsRow : OpenClaim := { program := "ythefgdehfgkhhaagreat", sum := "31edbadf2b7a3dfdf2a4519c15328e6ce70b2f58f2da6da97012c04d05f3dc76", func := "corsned/corsnedtop.TopLearns", spec := "topLearns", inPlace := ["maps.clone"], unfollowed := true, recurses := true, named := ["math/bits.divideError", "math/bits.overflowError"], plainKeys := false, apart := false }
def TopLearnsSaid : Prop := topLearnsRow.holds Tryz.pinned (OpenSpec.ofChange topLearnsSpec)

/-- ITS FALSE NEIGHBOUR: 'it returns false'. Refute it at one input. -/
def topLearnsWrong : ChangeSpec := { name := "topLearns", fn := fun _ => fun
  | [d1, d2] => { results := [.lit (.bool false)], args := [d1, d2] }
  | _ => none }
def TopLearnsWrongFalsely : Prop := topLearnsRow.holds Tryz.pinned (OpenSpec.ofChange topLearnsWrong)

/-- 'corsnedtop.TopReturns': WHATEVER THE INPUT: true; the input reads as it did. -/
def topReturnsSpec : ChangeSpec := { name := "topReturns", fn := fun _ => fun
  | [d1, d2, d3, d4] => { results := [.lit (.bool true)], args := [d1, d2, d3, d4] }
  | _ => none }
def topReturnsRow : OpenClaim := { program := "ythefgdehfgkhhaagreat", sum := "31edbadf2b7a3dfdf2a4519c15328e6ce70b2f58f2da6da97012c04d05f3dc76", func := "corsned/corsnedtop.TopReturns", spec := "topReturns", inPlace := ["maps.clone"], unfollowed := true, recurses := true, named := ["math/bits.divideError", "math/bits.overflowError"], plainKeys := false, apart := false }
def TopReturnsSaid : Prop := topReturnsRow.holds Tryz.pinned (OpenSpec.ofChange topReturnsSpec)

/-- ITS FALSE NEIGHBOUR: 'it returns false'. Refute it at one input. -/
def topReturnsWrong : ChangeSpec := { name := "topReturns", fn := fun _ => fun
  | [d1, d2, d3, d4] => { results := [.lit (.bool false)], args := [d1, d2, d3, d4] }
  | _ => none }
def TopReturnsWrongFalsely : Prop := topReturnsRow.holds Tryz.pinned (OpenSpec.ofChange topReturnsWrong)

/-- 'corsnedtop.TopPlans': WHATEVER THE INPUT: true; the input reads as it did. -/
def topPlansSpec : ChangeSpec := { name := "topPlans", fn := fun _ => fun
  | [d1, d2, d3, d4, d5] => { results := [.lit (.bool true)], args := [d1, d2, d3, d4, d5] }
  | _ => none }
def topPlansRow : OpenClaim := { program := "ythefgdehfgkhhaagreat", sum := "31edbadf2b7a3dfdf2a4519c15328e6ce70b2f58f2da6da97012c04d05f3dc76", func := "corsned/corsnedtop.TopPlans", spec := "topPlans", inPlace := ["maps.clone"], unfollowed := true, recurses := true, named := ["math/bits.divideError", "math/bits.overflowError"], plainKeys := false, apart := false }
def TopPlansSaid : Prop := topPlansRow.holds Tryz.pinned (OpenSpec.ofChange topPlansSpec)

/-- ITS FALSE NEIGHBOUR: 'it returns false'. Refute it at one input. -/
def topPlansWrong : ChangeSpec := { name := "topPlans", fn := fun _ => fun
  | [d1, d2, d3, d4, d5] => { results := [.lit (.bool false)], args := [d1, d2, d3, d4, d5] }
  | _ => none }
def TopPlansWrongFalsely : Prop := topPlansRow.holds Tryz.pinned (OpenSpec.ofChange topPlansWrong)

/- THE SECOND FORM. 'bulk': how many values and letters a reading holds, each counted each time it is reached (what is shared counts as often as it is met; a slice's spare places count too). A statement '..UptoSaid' is the law's where the arguments, and the package variables that the reading takes, are together of bulk at most 1048576: NARROWER than '..Said'. Prove '..Said' where nothing that the law and all that it calls make is longer than what came in: it says more and counts as full. Else prove '..UptoSaid'. A law counts once. -/
mutual
def uptoBulk {H : Type} : DataW H → Nat
  | .lit (.string bytes) => bytes.length + 1
  | .lit _ => 1
  | .nil => 1
  | .ptr d => uptoBulk d + 1
  | .slice elems spare => uptoBulkAll elems + uptoBulkAll spare + 1
  | .agg parts => uptoBulkAll parts + 1
  | .iface _ d => uptoBulk d + 1
  | .map entries => uptoBulkEntries entries + 1
  | .held _ => 1
def uptoBulkAll {H : Type} : List (DataW H) → Nat
  | [] => 0
  | d :: r => uptoBulk d + uptoBulkAll r
def uptoBulkEntries {H : Type} : List (Lit × DataW H) → Nat
  | [] => 0
  | x :: r => uptoBulkEntry x + uptoBulkEntries r
def uptoBulkEntry {H : Type} : Lit × DataW H → Nat
  | (.string bytes, d) => bytes.length + uptoBulk d + 1
  | (_, d) => uptoBulk d + 1
 end
def uptoSmall : (H : Type) → List (DataW H) → Bool := fun _ ds => decide (uptoBulkAll ds ≤ 1048576)
def OpenSpec.upto (s : _root_.Go.ChangeSpec) : _root_.Go.OpenSpec := { _root_.Go.OpenSpec.ofChange s with cond := some uptoSmall }

/-- 'corsnedtop.TopLearns', WHERE WHAT IT READS IS OF BULK AT MOST 1048576: true; the input reads as it did. -/
def topLearnsUptoRow : OpenClaim := { program := "ythefgdehfgkhhaagreat", sum := "31edbadf2b7a3dfdf2a4519c15328e6ce70b2f58f2da6da97012c04d05f3dc76", func := "corsned/corsnedtop.TopLearns", spec := "topLearns", inPlace := ["maps.clone"], unfollowed := true, recurses := true, named := ["math/bits.divideError", "math/bits.overflowError"], plainKeys := false, apart := false, narrowed := true }
def TopLearnsUptoSaid : Prop := topLearnsUptoRow.holds Tryz.pinned (OpenSpec.upto topLearnsSpec)

/-- 'corsnedtop.TopReturns', WHERE WHAT IT READS IS OF BULK AT MOST 1048576: true; the input reads as it did. -/
def topReturnsUptoRow : OpenClaim := { program := "ythefgdehfgkhhaagreat", sum := "31edbadf2b7a3dfdf2a4519c15328e6ce70b2f58f2da6da97012c04d05f3dc76", func := "corsned/corsnedtop.TopReturns", spec := "topReturns", inPlace := ["maps.clone"], unfollowed := true, recurses := true, named := ["math/bits.divideError", "math/bits.overflowError"], plainKeys := false, apart := false, narrowed := true }
def TopReturnsUptoSaid : Prop := topReturnsUptoRow.holds Tryz.pinned (OpenSpec.upto topReturnsSpec)

/-- 'corsnedtop.TopPlans', WHERE WHAT IT READS IS OF BULK AT MOST 1048576: true; the input reads as it did. -/
def topPlansUptoRow : OpenClaim := { program := "ythefgdehfgkhhaagreat", sum := "31edbadf2b7a3dfdf2a4519c15328e6ce70b2f58f2da6da97012c04d05f3dc76", func := "corsned/corsnedtop.TopPlans", spec := "topPlans", inPlace := ["maps.clone"], unfollowed := true, recurses := true, named := ["math/bits.divideError", "math/bits.overflowError"], plainKeys := false, apart := false, narrowed := true }
def TopPlansUptoSaid : Prop := topPlansUptoRow.holds Tryz.pinned (OpenSpec.upto topPlansSpec)

end Rows
end Go.Proofs.YthefgdehfgkhhaaGreat
