/-
  No cell of these rows narrows 'for every input' (looked for: loops, veiled, ifaces, maps, wideKeys, modest, calm, conditions, laid).
  DERIVED. THE GIVEN ROWS OF THIS SEAT. 6 by the template 'for every input the law returns true; each argument reads behind the call as it read before'; 0 by the template 'total and deterministic' (their statements: YtdobpicamibgpaaTotals.lean).
  GIVEN WITH THE SEED: the statements are not yours to turn. If you find one false, say at which input.
  Laid BY PROGRAM, IN A SANDBOX (cutbox-rows.mjs): the forced cells as the released guide's own fill.sh prints them over the translation b6e7aa186e16933d… (all of the seat's roots in one cut). By AI agents, Wed Nov 11 2026. No macro, syntax, notation, axiom, sorry.
-/
import Derived.Test.YtdobpicamibgpaaChecked
import GoSem.Claim
import GoSem.ClaimJoined
import GoSem.ClaimMapViews
import Derived.JoinedTies
import Derived.KernelRfl
namespace Go.Proofs.Ytdobpicamibgpaa
/- THE CELL 'sum', in the pinned program and in every row, IS THE sha256 OF THE DUMP (.gsa) THAT YtdobpicamibgpaaProg.lean LOADS. Nothing in Lean hashes anything: it is a label: what it is worth is what the hold of that sum in a sandbox is worth. -/
noncomputable def Try.pinned : Pinned := { name := "ytdobpicamibgpaa", sum := "b6e7aa186e16933d734c831bfd2dd395bee0f63a60cd4372714865b558a1584d", checked := Try.checked }
namespace Rows
def none {H : Type} : Left H := { results := [], args := [] }

/-- 'corsnedlaw37.LearnTells': WHATEVER THE INPUT: true; the input reads as it did. -/
def learnTellsSpec : ChangeSpec := { name := "learnTells", fn := fun _ => fun
  | [d1, d2, d3] => { results := [.lit (.bool true)], args := [d1, d2, d3] }
  | _ => none }
def learnTellsRow : OpenClaim := { program := "ytdobpicamibgpaa", sum := "b6e7aa186e16933d734c831bfd2dd395bee0f63a60cd4372714865b558a1584d", func := "corsned/corsnedlaw37.LearnTells", spec := "learnTells", inPlace := ["maps.clone"], unfollowed := true, recurses := true, plainKeys := false, apart := false }
def LearnTellsSaid : Prop := learnTellsRow.holds Try.pinned (OpenSpec.ofChange learnTellsSpec)

/-- ITS FALSE NEIGHBOUR: 'it returns false'. Refute it at one input. -/
def learnTellsWrong : ChangeSpec := { name := "learnTells", fn := fun _ => fun
  | [d1, d2, d3] => { results := [.lit (.bool false)], args := [d1, d2, d3] }
  | _ => none }
def LearnTellsWrongFalsely : Prop := learnTellsRow.holds Try.pinned (OpenSpec.ofChange learnTellsWrong)

/-- 'corsnedlaw37.LearnTrue': WHATEVER THE INPUT: true; the input reads as it did. -/
def learnTrueSpec : ChangeSpec := { name := "learnTrue", fn := fun _ => fun
  | [d1, d2, d3] => { results := [.lit (.bool true)], args := [d1, d2, d3] }
  | _ => none }
def learnTrueRow : OpenClaim := { program := "ytdobpicamibgpaa", sum := "b6e7aa186e16933d734c831bfd2dd395bee0f63a60cd4372714865b558a1584d", func := "corsned/corsnedlaw37.LearnTrue", spec := "learnTrue", inPlace := ["maps.clone"], unfollowed := true, recurses := true, plainKeys := false, apart := false }
def LearnTrueSaid : Prop := learnTrueRow.holds Try.pinned (OpenSpec.ofChange learnTrueSpec)

/-- ITS FALSE NEIGHBOUR: 'it returns false'. Refute it at one input. -/
def learnTrueWrong : ChangeSpec := { name := "learnTrue", fn := fun _ => fun
  | [d1, d2, d3] => { results := [.lit (.bool false)], args := [d1, d2, d3] }
  | _ => none }
def LearnTrueWrongFalsely : Prop := learnTrueRow.holds Try.pinned (OpenSpec.ofChange learnTrueWrong)

/-- 'corsnedlaw37.LearnNotes': WHATEVER THE INPUT: true; the input reads as it did. -/
def learnNotesSpec : ChangeSpec := { name := "learnNotes", fn := fun _ => fun
  | [d1, d2, d3, d4] => { results := [.lit (.bool true)], args := [d1, d2, d3, d4] }
  | _ => none }
def learnNotesRow : OpenClaim := { program := "ytdobpicamibgpaa", sum := "b6e7aa186e16933d734c831bfd2dd395bee0f63a60cd4372714865b558a1584d", func := "corsned/corsnedlaw37.LearnNotes", spec := "learnNotes", inPlace := ["maps.clone"], unfollowed := true, recurses := true, plainKeys := false, apart := false }
def LearnNotesSaid : Prop := learnNotesRow.holds Try.pinned (OpenSpec.ofChange learnNotesSpec)

/-- ITS FALSE NEIGHBOUR: 'it returns false'. Refute it at one input. -/
def learnNotesWrong : ChangeSpec := { name := "learnNotes", fn := fun _ => fun
  | [d1, d2, d3, d4] => { results := [.lit (.bool false)], args := [d1, d2, d3, d4] }
  | _ => none }
def LearnNotesWrongFalsely : Prop := learnNotesRow.holds Try.pinned (OpenSpec.ofChange learnNotesWrong)

/-- 'corsnedlaw37.LearnOlder': WHATEVER THE INPUT: true; the input reads as it did. -/
def learnOlderSpec : ChangeSpec := { name := "learnOlder", fn := fun _ => fun
  | [d1, d2, d3] => { results := [.lit (.bool true)], args := [d1, d2, d3] }
  | _ => none }
def learnOlderRow : OpenClaim := { program := "ytdobpicamibgpaa", sum := "b6e7aa186e16933d734c831bfd2dd395bee0f63a60cd4372714865b558a1584d", func := "corsned/corsnedlaw37.LearnOlder", spec := "learnOlder", inPlace := ["maps.clone"], unfollowed := true, recurses := true, plainKeys := false, apart := false }
def LearnOlderSaid : Prop := learnOlderRow.holds Try.pinned (OpenSpec.ofChange learnOlderSpec)

/-- ITS FALSE NEIGHBOUR: 'it returns false'. Refute it at one input. -/
def learnOlderWrong : ChangeSpec := { name := "learnOlder", fn := fun _ => fun
  | [d1, d2, d3] => { results := [.lit (.bool false)], args := [d1, d2, d3] }
  | _ => none }
def LearnOlderWrongFalsely : Prop := learnOlderRow.holds Try.pinned (OpenSpec.ofChange learnOlderWrong)

/-- 'corsnedlaw37.LearnApart': WHATEVER THE INPUT: true; the input reads as it did. -/
def learnApartSpec : ChangeSpec := { name := "learnApart", fn := fun _ => fun
  | [d1, d2, d3] => { results := [.lit (.bool true)], args := [d1, d2, d3] }
  | _ => none }
def learnApartRow : OpenClaim := { program := "ytdobpicamibgpaa", sum := "b6e7aa186e16933d734c831bfd2dd395bee0f63a60cd4372714865b558a1584d", func := "corsned/corsnedlaw37.LearnApart", spec := "learnApart", inPlace := ["maps.clone"], unfollowed := true, recurses := true, plainKeys := false, apart := false }
def LearnApartSaid : Prop := learnApartRow.holds Try.pinned (OpenSpec.ofChange learnApartSpec)

/-- ITS FALSE NEIGHBOUR: 'it returns false'. Refute it at one input. -/
def learnApartWrong : ChangeSpec := { name := "learnApart", fn := fun _ => fun
  | [d1, d2, d3] => { results := [.lit (.bool false)], args := [d1, d2, d3] }
  | _ => none }
def LearnApartWrongFalsely : Prop := learnApartRow.holds Try.pinned (OpenSpec.ofChange learnApartWrong)

/-- 'corsnedlaw37.LearnChain': WHATEVER THE INPUT: true; the input reads as it did. -/
def learnChainSpec : ChangeSpec := { name := "learnChain", fn := fun _ => fun
  | [d1, d2, d3, d4] => { results := [.lit (.bool true)], args := [d1, d2, d3, d4] }
  | _ => none }
def learnChainRow : OpenClaim := { program := "ytdobpicamibgpaa", sum := "b6e7aa186e16933d734c831bfd2dd395bee0f63a60cd4372714865b558a1584d", func := "corsned/corsnedlaw37.LearnChain", spec := "learnChain", inPlace := ["maps.clone"], unfollowed := true, recurses := true, plainKeys := false, apart := false }
def LearnChainSaid : Prop := learnChainRow.holds Try.pinned (OpenSpec.ofChange learnChainSpec)

/-- ITS FALSE NEIGHBOUR: 'it returns false'. Refute it at one input. -/
def learnChainWrong : ChangeSpec := { name := "learnChain", fn := fun _ => fun
  | [d1, d2, d3, d4] => { results := [.lit (.bool false)], args := [d1, d2, d3, d4] }
  | _ => none }
def LearnChainWrongFalsely : Prop := learnChainRow.holds Try.pinned (OpenSpec.ofChange learnChainWrong)

/- THE SECOND FORM. 'bulk': how many values and letters a reading holds, each counted each time it is reached (what is shared counts as often as it is met; a slice's spare places count too). A statement '..UptoSaid' is the law's where the arguments, and the package variables that the reading takes, are together of bulk at most 1048576: NARROWER than '..Said'. Prove '..Said' where nothing that the law and all that it calls make is longer than what came in: it says more and counts as full. Else prove '..UptoSaid'. A law counts once. -/
mutual
def uptoBulk {H : Type} : DataW H → Nat
  | .lit (.string bytes) => bytes.length + 1
  | .lit _ => 1
  | .nil => 1
  | .ptr d => uptoBulk d + 1
  | .slice elems spare => uptoBulkAll elems + uptoBulkAll spare + 1
  | .agg parts => uptoBulkAll parts + 1
  | .iface _ d => uptoBulk d + 1
  | .map entries => uptoBulkEntries entries + 1
  | .held _ => 1
def uptoBulkAll {H : Type} : List (DataW H) → Nat
  | [] => 0
  | d :: r => uptoBulk d + uptoBulkAll r
def uptoBulkEntries {H : Type} : List (Lit × DataW H) → Nat
  | [] => 0
  | x :: r => uptoBulkEntry x + uptoBulkEntries r
def uptoBulkEntry {H : Type} : Lit × DataW H → Nat
  | (.string bytes, d) => bytes.length + uptoBulk d + 1
  | (_, d) => uptoBulk d + 1
 end
def uptoSmall : (H : Type) → List (DataW H) → Bool := fun _ ds => decide (uptoBulkAll ds ≤ 1048576)
def OpenSpec.upto (s : _root_.Go.ChangeSpec) : _root_.Go.OpenSpec := { _root_.Go.OpenSpec.ofChange s with cond := some uptoSmall }

/-- 'corsnedlaw37.LearnTells', WHERE WHAT IT READS IS OF BULK AT MOST 1048576: true; the input reads as it did. -/
def learnTellsUptoRow : OpenClaim := { program := "ytdobpicamibgpaa", sum := "b6e7aa186e16933d734c831bfd2dd395bee0f63a60cd4372714865b558a1584d", func := "corsned/corsnedlaw37.LearnTells", spec := "learnTells", inPlace := ["maps.clone"], unfollowed := true, recurses := true, plainKeys := false, apart := false, narrowed := true }
def LearnTellsUptoSaid : Prop := learnTellsUptoRow.holds Try.pinned (OpenSpec.upto learnTellsSpec)

/-- 'corsnedlaw37.LearnTrue', WHERE WHAT IT READS IS OF BULK AT MOST 1048576: true; the input reads as it did. -/
def learnTrueUptoRow : OpenClaim := { program := "ytdobpicamibgpaa", sum := "b6e7aa186e16933d734c831bfd2dd395bee0f63a60cd4372714865b558a1584d", func := "corsned/corsnedlaw37.LearnTrue", spec := "learnTrue", inPlace := ["maps.clone"], unfollowed := true, recurses := true, plainKeys := false, apart := false, narrowed := true }
def LearnTrueUptoSaid : Prop := learnTrueUptoRow.holds Try.pinned (OpenSpec.upto learnTrueSpec)

/-- 'corsnedlaw37.LearnNotes', WHERE WHAT IT READS IS OF BULK AT MOST 1048576: true; the input reads as it did. -/
def learnNotesUptoRow : OpenClaim := { program := "ytdobpicamibgpaa", sum := "b6e7aa186e16933d734c831bfd2dd395bee0f63a60cd4372714865b558a1584d", func := "corsned/corsnedlaw37.LearnNotes", spec := "learnNotes", inPlace := ["maps.clone"], unfollowed := true, recurses := true, plainKeys := false, apart := false, narrowed := true }
def LearnNotesUptoSaid : Prop := learnNotesUptoRow.holds Try.pinned (OpenSpec.upto learnNotesSpec)

/-- 'corsnedlaw37.LearnOlder', WHERE WHAT IT READS IS OF BULK AT MOST 1048576: true; the input reads as it did. -/
def learnOlderUptoRow : OpenClaim := { program := "ytdobpicamibgpaa", sum := "b6e7aa186e16933d734c831bfd2dd395bee0f63a60cd4372714865b558a1584d", func := "corsned/corsnedlaw37.LearnOlder", spec := "learnOlder", inPlace := ["maps.clone"], unfollowed := true, recurses := true, plainKeys := false, apart := false, narrowed := true }
def LearnOlderUptoSaid : Prop := learnOlderUptoRow.holds Try.pinned (OpenSpec.upto learnOlderSpec)

/-- 'corsnedlaw37.LearnApart', WHERE WHAT IT READS IS OF BULK AT MOST 1048576: true; the input reads as it did. -/
def learnApartUptoRow : OpenClaim := { program := "ytdobpicamibgpaa", sum := "b6e7aa186e16933d734c831bfd2dd395bee0f63a60cd4372714865b558a1584d", func := "corsned/corsnedlaw37.LearnApart", spec := "learnApart", inPlace := ["maps.clone"], unfollowed := true, recurses := true, plainKeys := false, apart := false, narrowed := true }
def LearnApartUptoSaid : Prop := learnApartUptoRow.holds Try.pinned (OpenSpec.upto learnApartSpec)

/-- 'corsnedlaw37.LearnChain', WHERE WHAT IT READS IS OF BULK AT MOST 1048576: true; the input reads as it did. -/
def learnChainUptoRow : OpenClaim := { program := "ytdobpicamibgpaa", sum := "b6e7aa186e16933d734c831bfd2dd395bee0f63a60cd4372714865b558a1584d", func := "corsned/corsnedlaw37.LearnChain", spec := "learnChain", inPlace := ["maps.clone"], unfollowed := true, recurses := true, plainKeys := false, apart := false, narrowed := true }
def LearnChainUptoSaid : Prop := learnChainUptoRow.holds Try.pinned (OpenSpec.upto learnChainSpec)

end Rows
end Go.Proofs.Ytdobpicamibgpaa
