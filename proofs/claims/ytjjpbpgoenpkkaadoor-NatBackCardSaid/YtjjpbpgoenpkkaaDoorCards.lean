/-
  DERIVED. GIVEN WITH THE SEED: THE CARDS: each row of YtjjpbpgoenpkkaaDoorRows.lean that lists a variable, with what it lists TIED to the program's text (the seventh form; the later family's looks); each row that meets fmt, with fmt's text TOLD by the authors' own Lean function (tested against real Go, not proved from fmt's source: count such statements apart). THE CARD IS WHAT COUNTS. Prove the row's statement (the work); the ties are given (YtjjpbpgoenpkkaaDoorTie.lean); close each card by the builder's one call (the guide's Derived/Test/ToyasCard.lean, 'card_holds'). Laid BY PROGRAM, IN A SANDBOX (cutbox-door.mjs). By AI agents, Wed Nov 11 2026. No macro, syntax, notation, axiom, sorry.
-/
import Derived.Test.YtjjpbpgoenpkkaaDoorRows
import GoSem.ClaimSeven
namespace Go.Proofs.YtjjpbpgoenpkkaaDoor
namespace Rows

/-- THE TIED CARD OF 'corsnedlaw02.NatTells'. -/
def natTellsCard : Claim7 := { stood := { row := natTellsRow, standIns := [], harness := (true, "fe7d36125f44de5c217bcb817bce64f83e423c16cc8ba1a36367d76aa610840e"), looks := false }, kinds := [], alts := [], laidByText := true, laidKinds := [.data, .data, .data], laidTests := true, laidLooks := .later }
def NatTellsCardSaid : Prop := Claim7.holds Tryd.pinned (.plain (OpenSpec.ofChange natTellsSpec)) natTellsCard

/-- THE TIED CARD OF 'corsnedlaw02.NatRings'. -/
def natRingsCard : Claim7 := { stood := { row := natRingsRow, standIns := [], harness := (true, "fe7d36125f44de5c217bcb817bce64f83e423c16cc8ba1a36367d76aa610840e"), looks := false }, kinds := [], alts := [], laidByText := true, laidKinds := [.data, .data, .data], laidTests := true, laidLooks := .later }
def NatRingsCardSaid : Prop := Claim7.holds Tryd.pinned (.plain (OpenSpec.ofChange natRingsSpec)) natRingsCard

/-- THE TIED CARD OF 'corsnedlaw02.NatParts'. -/
def natPartsCard : Claim7 := { stood := { row := natPartsRow, standIns := [], harness := (true, "fe7d36125f44de5c217bcb817bce64f83e423c16cc8ba1a36367d76aa610840e"), looks := false }, kinds := [], alts := [], laidByText := true, laidKinds := [.data, .data, .data], laidTests := true, laidLooks := .later }
def NatPartsCardSaid : Prop := Claim7.holds Tryd.pinned (.plain (OpenSpec.ofChange natPartsSpec)) natPartsCard

/-- THE TIED CARD OF 'corsnedlaw02.NatOrder'. -/
def natOrderCard : Claim7 := { stood := { row := natOrderRow, standIns := [], harness := (true, "fe7d36125f44de5c217bcb817bce64f83e423c16cc8ba1a36367d76aa610840e"), looks := false }, kinds := [], alts := [], laidByText := true, laidKinds := [.data, .data, .data], laidTests := true, laidLooks := .later }
def NatOrderCardSaid : Prop := Claim7.holds Tryd.pinned (.plain (OpenSpec.ofChange natOrderSpec)) natOrderCard

/-- THE TIED CARD OF 'corsnedlaw02.NatBack'. -/
def natBackCard : Claim7 := { stood := { row := natBackRow, standIns := [], harness := (true, "fe7d36125f44de5c217bcb817bce64f83e423c16cc8ba1a36367d76aa610840e"), looks := false }, kinds := [], alts := [], laidByText := true, laidKinds := [.data, .data, .data], laidTests := true, laidLooks := .later }
def NatBackCardSaid : Prop := Claim7.holds Tryd.pinned (.plain (OpenSpec.ofChange natBackSpec)) natBackCard

/-- THE TIED CARD OF 'corsnedlaw02.NatDivides'. -/
def natDividesCard : Claim7 := { stood := { row := natDividesRow, standIns := [], harness := (true, "fe7d36125f44de5c217bcb817bce64f83e423c16cc8ba1a36367d76aa610840e"), looks := false }, kinds := [], alts := [], laidByText := true, laidKinds := [.data, .data, .data], laidTests := true, laidLooks := .later }
def NatDividesCardSaid : Prop := Claim7.holds Tryd.pinned (.plain (OpenSpec.ofChange natDividesSpec)) natDividesCard

/-- THE SECOND FORM's CARD OF 'corsnedlaw02.NatTells'. -/
def natTellsUptoCard : Claim7 := { stood := { row := natTellsUptoRow, standIns := [], harness := (true, "fe7d36125f44de5c217bcb817bce64f83e423c16cc8ba1a36367d76aa610840e"), looks := false }, kinds := [], alts := [], laidByText := true, laidKinds := [.data, .data, .data], laidTests := true, laidLooks := .later }
def NatTellsUptoCardSaid : Prop := Claim7.holds Tryd.pinned (.plain (OpenSpec.upto natTellsSpec)) natTellsUptoCard

/-- THE SECOND FORM's CARD OF 'corsnedlaw02.NatRings'. -/
def natRingsUptoCard : Claim7 := { stood := { row := natRingsUptoRow, standIns := [], harness := (true, "fe7d36125f44de5c217bcb817bce64f83e423c16cc8ba1a36367d76aa610840e"), looks := false }, kinds := [], alts := [], laidByText := true, laidKinds := [.data, .data, .data], laidTests := true, laidLooks := .later }
def NatRingsUptoCardSaid : Prop := Claim7.holds Tryd.pinned (.plain (OpenSpec.upto natRingsSpec)) natRingsUptoCard

/-- THE SECOND FORM's CARD OF 'corsnedlaw02.NatParts'. -/
def natPartsUptoCard : Claim7 := { stood := { row := natPartsUptoRow, standIns := [], harness := (true, "fe7d36125f44de5c217bcb817bce64f83e423c16cc8ba1a36367d76aa610840e"), looks := false }, kinds := [], alts := [], laidByText := true, laidKinds := [.data, .data, .data], laidTests := true, laidLooks := .later }
def NatPartsUptoCardSaid : Prop := Claim7.holds Tryd.pinned (.plain (OpenSpec.upto natPartsSpec)) natPartsUptoCard

/-- THE SECOND FORM's CARD OF 'corsnedlaw02.NatOrder'. -/
def natOrderUptoCard : Claim7 := { stood := { row := natOrderUptoRow, standIns := [], harness := (true, "fe7d36125f44de5c217bcb817bce64f83e423c16cc8ba1a36367d76aa610840e"), looks := false }, kinds := [], alts := [], laidByText := true, laidKinds := [.data, .data, .data], laidTests := true, laidLooks := .later }
def NatOrderUptoCardSaid : Prop := Claim7.holds Tryd.pinned (.plain (OpenSpec.upto natOrderSpec)) natOrderUptoCard

/-- THE SECOND FORM's CARD OF 'corsnedlaw02.NatBack'. -/
def natBackUptoCard : Claim7 := { stood := { row := natBackUptoRow, standIns := [], harness := (true, "fe7d36125f44de5c217bcb817bce64f83e423c16cc8ba1a36367d76aa610840e"), looks := false }, kinds := [], alts := [], laidByText := true, laidKinds := [.data, .data, .data], laidTests := true, laidLooks := .later }
def NatBackUptoCardSaid : Prop := Claim7.holds Tryd.pinned (.plain (OpenSpec.upto natBackSpec)) natBackUptoCard

/-- THE SECOND FORM's CARD OF 'corsnedlaw02.NatDivides'. -/
def natDividesUptoCard : Claim7 := { stood := { row := natDividesUptoRow, standIns := [], harness := (true, "fe7d36125f44de5c217bcb817bce64f83e423c16cc8ba1a36367d76aa610840e"), looks := false }, kinds := [], alts := [], laidByText := true, laidKinds := [.data, .data, .data], laidTests := true, laidLooks := .later }
def NatDividesUptoCardSaid : Prop := Claim7.holds Tryd.pinned (.plain (OpenSpec.upto natDividesSpec)) natDividesUptoCard
end Rows
end Go.Proofs.YtjjpbpgoenpkkaaDoor
