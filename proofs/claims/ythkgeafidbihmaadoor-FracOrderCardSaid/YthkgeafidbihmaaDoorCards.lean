/-
  DERIVED. GIVEN WITH THE SEED: THE CARDS: each row of YthkgeafidbihmaaDoorRows.lean that lists a variable, with what it lists TIED to the program's text (the seventh form; the later family's looks); each row that meets fmt, with fmt's text TOLD by the authors' own Lean function (tested against real Go, not proved from fmt's source: count such statements apart). THE CARD IS WHAT COUNTS. Prove the row's statement (the work); the ties are given (YthkgeafidbihmaaDoorTie.lean); close each card by the builder's one call (the guide's Derived/Test/ToyasCard.lean, 'card_holds'). Laid BY PROGRAM, IN A SANDBOX (cutbox-door.mjs). By AI agents, Wed Nov 11 2026. No macro, syntax, notation, axiom, sorry.
-/
import Derived.Test.YthkgeafidbihmaaDoorRows
import GoSem.ClaimSeven
namespace Go.Proofs.YthkgeafidbihmaaDoor
namespace Rows

/-- THE TIED CARD OF 'corsnedlaw03.FracTexts'. -/
def fracTextsCard : Claim7 := { stood := { row := fracTextsRow, standIns := [], harness := (true, "0de4f6431efbe6afbec1c01ce59c755945481772f73b4c1373e3663d8e945066"), looks := false }, kinds := [], alts := [], laidByText := true, laidKinds := [.data, .data, .data], laidTests := true, laidLooks := .later }
def FracTextsCardSaid : Prop := Claim7.holds Tryd.pinned (.plain (OpenSpec.ofChange fracTextsSpec)) fracTextsCard

/-- THE TIED CARD OF 'corsnedlaw03.FracLow'. -/
def fracLowCard : Claim7 := { stood := { row := fracLowRow, standIns := [], harness := (true, "0de4f6431efbe6afbec1c01ce59c755945481772f73b4c1373e3663d8e945066"), looks := false }, kinds := [], alts := [], laidByText := true, laidKinds := [.data, .data, .data], laidTests := true, laidLooks := .later }
def FracLowCardSaid : Prop := Claim7.holds Tryd.pinned (.plain (OpenSpec.ofChange fracLowSpec)) fracLowCard

/-- THE TIED CARD OF 'corsnedlaw03.FracRing'. -/
def fracRingCard : Claim7 := { stood := { row := fracRingRow, standIns := [], harness := (true, "0de4f6431efbe6afbec1c01ce59c755945481772f73b4c1373e3663d8e945066"), looks := false }, kinds := [], alts := [], laidByText := true, laidKinds := [.data, .data, .data], laidTests := true, laidLooks := .later }
def FracRingCardSaid : Prop := Claim7.holds Tryd.pinned (.plain (OpenSpec.ofChange fracRingSpec)) fracRingCard

/-- THE TIED CARD OF 'corsnedlaw03.FracOrder'. -/
def fracOrderCard : Claim7 := { stood := { row := fracOrderRow, standIns := [], harness := (true, "0de4f6431efbe6afbec1c01ce59c755945481772f73b4c1373e3663d8e945066"), looks := false }, kinds := [], alts := [], laidByText := true, laidKinds := [.data, .data, .data], laidTests := true, laidLooks := .later }
def FracOrderCardSaid : Prop := Claim7.holds Tryd.pinned (.plain (OpenSpec.ofChange fracOrderSpec)) fracOrderCard

/-- THE TIED CARD OF 'corsnedlaw03.FracPowers'. -/
def fracPowersCard : Claim7 := { stood := { row := fracPowersRow, standIns := [], harness := (true, "0de4f6431efbe6afbec1c01ce59c755945481772f73b4c1373e3663d8e945066"), looks := false }, kinds := [], alts := [], laidByText := true, laidKinds := [.data, .data, .data], laidTests := true, laidLooks := .later }
def FracPowersCardSaid : Prop := Claim7.holds Tryd.pinned (.plain (OpenSpec.ofChange fracPowersSpec)) fracPowersCard

/-- THE TIED CARD OF 'corsnedlaw03.FracFloors'. -/
def fracFloorsCard : Claim7 := { stood := { row := fracFloorsRow, standIns := [], harness := (true, "0de4f6431efbe6afbec1c01ce59c755945481772f73b4c1373e3663d8e945066"), looks := false }, kinds := [], alts := [], laidByText := true, laidKinds := [.data, .data, .data], laidTests := true, laidLooks := .later }
def FracFloorsCardSaid : Prop := Claim7.holds Tryd.pinned (.plain (OpenSpec.ofChange fracFloorsSpec)) fracFloorsCard

/-- THE SECOND FORM's CARD OF 'corsnedlaw03.FracTexts'. -/
def fracTextsUptoCard : Claim7 := { stood := { row := fracTextsUptoRow, standIns := [], harness := (true, "0de4f6431efbe6afbec1c01ce59c755945481772f73b4c1373e3663d8e945066"), looks := false }, kinds := [], alts := [], laidByText := true, laidKinds := [.data, .data, .data], laidTests := true, laidLooks := .later }
def FracTextsUptoCardSaid : Prop := Claim7.holds Tryd.pinned (.plain (OpenSpec.upto fracTextsSpec)) fracTextsUptoCard

/-- THE SECOND FORM's CARD OF 'corsnedlaw03.FracLow'. -/
def fracLowUptoCard : Claim7 := { stood := { row := fracLowUptoRow, standIns := [], harness := (true, "0de4f6431efbe6afbec1c01ce59c755945481772f73b4c1373e3663d8e945066"), looks := false }, kinds := [], alts := [], laidByText := true, laidKinds := [.data, .data, .data], laidTests := true, laidLooks := .later }
def FracLowUptoCardSaid : Prop := Claim7.holds Tryd.pinned (.plain (OpenSpec.upto fracLowSpec)) fracLowUptoCard

/-- THE SECOND FORM's CARD OF 'corsnedlaw03.FracRing'. -/
def fracRingUptoCard : Claim7 := { stood := { row := fracRingUptoRow, standIns := [], harness := (true, "0de4f6431efbe6afbec1c01ce59c755945481772f73b4c1373e3663d8e945066"), looks := false }, kinds := [], alts := [], laidByText := true, laidKinds := [.data, .data, .data], laidTests := true, laidLooks := .later }
def FracRingUptoCardSaid : Prop := Claim7.holds Tryd.pinned (.plain (OpenSpec.upto fracRingSpec)) fracRingUptoCard

/-- THE SECOND FORM's CARD OF 'corsnedlaw03.FracOrder'. -/
def fracOrderUptoCard : Claim7 := { stood := { row := fracOrderUptoRow, standIns := [], harness := (true, "0de4f6431efbe6afbec1c01ce59c755945481772f73b4c1373e3663d8e945066"), looks := false }, kinds := [], alts := [], laidByText := true, laidKinds := [.data, .data, .data], laidTests := true, laidLooks := .later }
def FracOrderUptoCardSaid : Prop := Claim7.holds Tryd.pinned (.plain (OpenSpec.upto fracOrderSpec)) fracOrderUptoCard

/-- THE SECOND FORM's CARD OF 'corsnedlaw03.FracPowers'. -/
def fracPowersUptoCard : Claim7 := { stood := { row := fracPowersUptoRow, standIns := [], harness := (true, "0de4f6431efbe6afbec1c01ce59c755945481772f73b4c1373e3663d8e945066"), looks := false }, kinds := [], alts := [], laidByText := true, laidKinds := [.data, .data, .data], laidTests := true, laidLooks := .later }
def FracPowersUptoCardSaid : Prop := Claim7.holds Tryd.pinned (.plain (OpenSpec.upto fracPowersSpec)) fracPowersUptoCard

/-- THE SECOND FORM's CARD OF 'corsnedlaw03.FracFloors'. -/
def fracFloorsUptoCard : Claim7 := { stood := { row := fracFloorsUptoRow, standIns := [], harness := (true, "0de4f6431efbe6afbec1c01ce59c755945481772f73b4c1373e3663d8e945066"), looks := false }, kinds := [], alts := [], laidByText := true, laidKinds := [.data, .data, .data], laidTests := true, laidLooks := .later }
def FracFloorsUptoCardSaid : Prop := Claim7.holds Tryd.pinned (.plain (OpenSpec.upto fracFloorsSpec)) fracFloorsUptoCard
end Rows
end Go.Proofs.YthkgeafidbihmaaDoor
