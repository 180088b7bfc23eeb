/-
  DERIVED. GIVEN WITH THE SEED: THE CARDS: each row of YtcfbigmjjpknfaaGreatDoorRows.lean that lists a variable, with what it lists TIED to the program's text (the seventh form; the later family's looks); each row that meets fmt, with fmt's text TOLD by the authors' own Lean function (tested against real Go, not proved from fmt's source: count such statements apart). THE CARD IS WHAT COUNTS. Prove the row's statement (the work); the ties are given (YtcfbigmjjpknfaaGreatDoorTie.lean); close each card by the builder's one call (the guide's Derived/Test/ToyasCard.lean, 'card_holds'). Laid BY PROGRAM, IN A SANDBOX (cutbox-door.mjs). By AI agents, Wed Nov 11 2026. No macro, syntax, notation, axiom, sorry.
-/
import Derived.Test.YtcfbigmjjpknfaaGreatDoorRows
import GoSem.ClaimSeven
namespace Go.Proofs.YtcfbigmjjpknfaaGreatDoor
namespace Rows

/-- THE TIED CARD OF 'codewrighttop.WholeErasures'. -/
def wholeErasuresCard : Claim7 := { stood := { row := wholeErasuresRow, standIns := [], harness := (true, "2676827f84a690ad04ddcfffebe67f6f8af1b61aab911d1c2132617faca72c4a"), looks := true }, kinds := [], alts := [], laidByText := true, laidKinds := [.data, .data, .data], laidTests := true, laidLooks := .later }
def WholeErasuresCardSaid : Prop := Claim7.holds Tryz.pinned (.plain (OpenSpec.ofChange wholeErasuresSpec)) wholeErasuresCard

/-- THE SECOND FORM's CARD OF 'codewrighttop.WholeErasures'. -/
def wholeErasuresUptoCard : Claim7 := { stood := { row := wholeErasuresUptoRow, standIns := [], harness := (true, "2676827f84a690ad04ddcfffebe67f6f8af1b61aab911d1c2132617faca72c4a"), looks := true }, kinds := [], alts := [], laidByText := true, laidKinds := [.data, .data, .data], laidTests := true, laidLooks := .later }
def WholeErasuresUptoCardSaid : Prop := Claim7.holds Tryz.pinned (.plain (OpenSpec.upto wholeErasuresSpec)) wholeErasuresUptoCard
end Rows
end Go.Proofs.YtcfbigmjjpknfaaGreatDoor
