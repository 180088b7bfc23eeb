/-
  DERIVED. GIVEN WITH THE SEED: THE CARDS: each row of YteheedbhcfllfaaGreatDoorRows.lean that lists a variable, with what it lists TIED to the program's text (the seventh form; the later family's looks); each row that meets fmt, with fmt's text TOLD by the authors' own Lean function (tested against real Go, not proved from fmt's source: count such statements apart). THE CARD IS WHAT COUNTS. Prove the row's statement (the work); the ties are given (YteheedbhcfllfaaGreatDoorTie.lean); close each card by the builder's one call (the guide's Derived/Test/ToyasCard.lean, 'card_holds'). Laid BY PROGRAM, IN A SANDBOX (cutbox-door.mjs). By AI agents, Wed Nov 11 2026. No macro, syntax, notation, axiom, sorry.
-/
import Derived.Test.YteheedbhcfllfaaGreatDoorRows
import GoSem.ClaimSeven
namespace Go.Proofs.YteheedbhcfllfaaGreatDoor
namespace Rows

/-- THE TIED CARD OF 'codewrighttop.WholeTrellises'. -/
def wholeTrellisesCard : Claim7 := { stood := { row := wholeTrellisesRow, standIns := [], harness := (true, "1fb6ec7921bf9436f80090e87aa7c026b36d28d102c1c52b8b394c1d584c6759"), looks := true }, kinds := [], alts := [], laidByText := true, laidKinds := [.data, .data, .data], laidTests := true, laidLooks := .later }
def WholeTrellisesCardSaid : Prop := Claim7.holds Tryz.pinned (.plain (OpenSpec.ofChange wholeTrellisesSpec)) wholeTrellisesCard

/-- THE SECOND FORM's CARD OF 'codewrighttop.WholeTrellises'. -/
def wholeTrellisesUptoCard : Claim7 := { stood := { row := wholeTrellisesUptoRow, standIns := [], harness := (true, "1fb6ec7921bf9436f80090e87aa7c026b36d28d102c1c52b8b394c1d584c6759"), looks := true }, kinds := [], alts := [], laidByText := true, laidKinds := [.data, .data, .data], laidTests := true, laidLooks := .later }
def WholeTrellisesUptoCardSaid : Prop := Claim7.holds Tryz.pinned (.plain (OpenSpec.upto wholeTrellisesSpec)) wholeTrellisesUptoCard
end Rows
end Go.Proofs.YteheedbhcfllfaaGreatDoor
