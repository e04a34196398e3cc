/-
  DERIVED. GIVEN WITH THE SEED: THE CARDS: each row of YthkgeafidbihmaaGreatDoorRows.lean that lists a variable, with what it lists TIED to the program's text (the seventh form; the later family's looks); each row that meets fmt, with fmt's text TOLD by the authors' own Lean function (tested against real Go, not proved from fmt's source: count such statements apart). THE CARD IS WHAT COUNTS. Prove the row's statement (the work); the ties are given (YthkgeafidbihmaaGreatDoorTie.lean); close each card by the builder's one call (the guide's Derived/Test/ToyasCard.lean, 'card_holds'). Laid BY PROGRAM, IN A SANDBOX (cutbox-door.mjs). By AI agents, Wed Nov 11 2026. No macro, syntax, notation, axiom, sorry.
-/
import Derived.Test.YthkgeafidbihmaaGreatDoorRows
import GoSem.ClaimSeven
namespace Go.Proofs.YthkgeafidbihmaaGreatDoor
namespace Rows

/-- THE TIED CARD OF 'corsnedlaw03.FracSpells'. -/
def fracSpellsCard : Claim7 := { stood := { row := fracSpellsRow, standIns := [], harness := (true, "06c45ca45844df5321e316df1ea9586676e9a8dcf076f3ad20945dd96eccb9a7"), looks := false }, kinds := [], alts := [], laidByText := true, laidKinds := [.data, .data, .data], laidTests := true, laidLooks := .later }
def FracSpellsCardSaid : Prop := Claim7.holds Tryz.pinned (.plain (OpenSpec.ofChange fracSpellsSpec)) fracSpellsCard

/-- THE SECOND FORM's CARD OF 'corsnedlaw03.FracSpells'. -/
def fracSpellsUptoCard : Claim7 := { stood := { row := fracSpellsUptoRow, standIns := [], harness := (true, "06c45ca45844df5321e316df1ea9586676e9a8dcf076f3ad20945dd96eccb9a7"), looks := false }, kinds := [], alts := [], laidByText := true, laidKinds := [.data, .data, .data], laidTests := true, laidLooks := .later }
def FracSpellsUptoCardSaid : Prop := Claim7.holds Tryz.pinned (.plain (OpenSpec.upto fracSpellsSpec)) fracSpellsUptoCard
end Rows
end Go.Proofs.YthkgeafidbihmaaGreatDoor
