/-
  DERIVED. GIVEN WITH THE SEED: THE CARDS: each row of YtoblhbeeimboaaaDoorRows.lean that lists a variable, with what it lists TIED to the program's text (the seventh form; the later family's looks); each row that meets fmt, with fmt's text TOLD by the authors' own Lean function (tested against real Go, not proved from fmt's source: count such statements apart). THE CARD IS WHAT COUNTS. Prove the row's statement (the work); the ties are given (YtoblhbeeimboaaaDoorTie.lean); close each card by the builder's one call (the guide's Derived/Test/ToyasCard.lean, 'card_holds'). Laid BY PROGRAM, IN A SANDBOX (cutbox-door.mjs). By AI agents, Wed Nov 11 2026. No macro, syntax, notation, axiom, sorry.
-/
import Derived.Test.YtoblhbeeimboaaaDoorRows
import GoSem.ClaimSeven
namespace Go.Proofs.YtoblhbeeimboaaaDoor
namespace Rows

/-- THE TIED CARD OF 'corsnedlaw01.NumTells'. -/
def numTellsCard : Claim7 := { stood := { row := numTellsRow, standIns := [], harness := (true, "194584add753bebf1abbe561e24e8a75937d463090a4185e8ac7532b47db6039"), looks := true }, kinds := [], alts := [], laidByText := true, laidKinds := [.data, .data, .data, .sentinel, .sentinel], laidTests := true, laidLooks := .later }
def NumTellsCardSaid : Prop := Claim7.holds Tryd.pinned (.plain (OpenSpec.ofChange numTellsSpec)) numTellsCard

/-- THE TIED CARD OF 'corsnedlaw01.NumBack'. -/
def numBackCard : Claim7 := { stood := { row := numBackRow, standIns := [], harness := (true, "194584add753bebf1abbe561e24e8a75937d463090a4185e8ac7532b47db6039"), looks := true }, kinds := [], alts := [], laidByText := true, laidKinds := [.data, .data, .data, .sentinel, .sentinel], laidTests := true, laidLooks := .later }
def NumBackCardSaid : Prop := Claim7.holds Tryd.pinned (.plain (OpenSpec.ofChange numBackSpec)) numBackCard

/-- THE TIED CARD OF 'corsnedlaw01.NumParts'. -/
def numPartsCard : Claim7 := { stood := { row := numPartsRow, standIns := [], harness := (true, "194584add753bebf1abbe561e24e8a75937d463090a4185e8ac7532b47db6039"), looks := true }, kinds := [], alts := [], laidByText := true, laidKinds := [.data, .data, .data, .sentinel, .sentinel], laidTests := true, laidLooks := .later }
def NumPartsCardSaid : Prop := Claim7.holds Tryd.pinned (.plain (OpenSpec.ofChange numPartsSpec)) numPartsCard

/-- THE TIED CARD OF 'corsnedlaw01.NumOnes'. -/
def numOnesCard : Claim7 := { stood := { row := numOnesRow, standIns := [], harness := (true, "194584add753bebf1abbe561e24e8a75937d463090a4185e8ac7532b47db6039"), looks := true }, kinds := [], alts := [], laidByText := true, laidKinds := [.data, .data, .data, .sentinel, .sentinel], laidTests := true, laidLooks := .later }
def NumOnesCardSaid : Prop := Claim7.holds Tryd.pinned (.plain (OpenSpec.ofChange numOnesSpec)) numOnesCard

/-- THE SECOND FORM's CARD OF 'corsnedlaw01.NumTells'. -/
def numTellsUptoCard : Claim7 := { stood := { row := numTellsUptoRow, standIns := [], harness := (true, "194584add753bebf1abbe561e24e8a75937d463090a4185e8ac7532b47db6039"), looks := true }, kinds := [], alts := [], laidByText := true, laidKinds := [.data, .data, .data, .sentinel, .sentinel], laidTests := true, laidLooks := .later }
def NumTellsUptoCardSaid : Prop := Claim7.holds Tryd.pinned (.plain (OpenSpec.upto numTellsSpec)) numTellsUptoCard

/-- THE SECOND FORM's CARD OF 'corsnedlaw01.NumBack'. -/
def numBackUptoCard : Claim7 := { stood := { row := numBackUptoRow, standIns := [], harness := (true, "194584add753bebf1abbe561e24e8a75937d463090a4185e8ac7532b47db6039"), looks := true }, kinds := [], alts := [], laidByText := true, laidKinds := [.data, .data, .data, .sentinel, .sentinel], laidTests := true, laidLooks := .later }
def NumBackUptoCardSaid : Prop := Claim7.holds Tryd.pinned (.plain (OpenSpec.upto numBackSpec)) numBackUptoCard

/-- THE SECOND FORM's CARD OF 'corsnedlaw01.NumParts'. -/
def numPartsUptoCard : Claim7 := { stood := { row := numPartsUptoRow, standIns := [], harness := (true, "194584add753bebf1abbe561e24e8a75937d463090a4185e8ac7532b47db6039"), looks := true }, kinds := [], alts := [], laidByText := true, laidKinds := [.data, .data, .data, .sentinel, .sentinel], laidTests := true, laidLooks := .later }
def NumPartsUptoCardSaid : Prop := Claim7.holds Tryd.pinned (.plain (OpenSpec.upto numPartsSpec)) numPartsUptoCard

/-- THE SECOND FORM's CARD OF 'corsnedlaw01.NumOnes'. -/
def numOnesUptoCard : Claim7 := { stood := { row := numOnesUptoRow, standIns := [], harness := (true, "194584add753bebf1abbe561e24e8a75937d463090a4185e8ac7532b47db6039"), looks := true }, kinds := [], alts := [], laidByText := true, laidKinds := [.data, .data, .data, .sentinel, .sentinel], laidTests := true, laidLooks := .later }
def NumOnesUptoCardSaid : Prop := Claim7.holds Tryd.pinned (.plain (OpenSpec.upto numOnesSpec)) numOnesUptoCard
end Rows
end Go.Proofs.YtoblhbeeimboaaaDoor
