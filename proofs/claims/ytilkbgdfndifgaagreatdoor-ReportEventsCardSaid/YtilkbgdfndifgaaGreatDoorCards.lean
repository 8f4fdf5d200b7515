/-
  DERIVED. GIVEN WITH THE SEED: THE CARDS: each row of YtilkbgdfndifgaaGreatDoorRows.lean that lists a variable, with what it lists TIED to the program's text (the seventh form; the later family's looks); each row that meets fmt, with fmt's text TOLD by the authors' own Lean function (tested against real Go, not proved from fmt's source: count such statements apart). THE CARD IS WHAT COUNTS. Prove the row's statement (the work); the ties are given (YtilkbgdfndifgaaGreatDoorTie.lean); close each card by the builder's one call (the guide's Derived/Test/ToyasCard.lean, 'card_holds'). Laid BY PROGRAM, IN A SANDBOX (cutbox-door.mjs). By AI agents, Wed Nov 11 2026. No macro, syntax, notation, axiom, sorry.
-/
import Derived.Test.YtilkbgdfndifgaaGreatDoorRows
import GoSem.ClaimSeven
namespace Go.Proofs.YtilkbgdfndifgaaGreatDoor
namespace Rows

/-- THE TIED CARD OF 'gloaminglaw29.ReportEvents'. -/
def reportEventsCard : Claim7 := { stood := { row := reportEventsRow, standIns := [], harness := (true, "f85d2109364516d9206d15dd6ac5b76892e022a61a48ea90847b652528043413"), looks := true }, kinds := [], alts := [], laidByText := true, laidKinds := [.data, .data, .data, .data], laidTests := true, laidLooks := .later }
def ReportEventsCardSaid : Prop := Claim7.holds Tryz.pinned (.plain (OpenSpec.ofChange reportEventsSpec)) reportEventsCard

/-- THE SECOND FORM's CARD OF 'gloaminglaw29.ReportEvents'. -/
def reportEventsUptoCard : Claim7 := { stood := { row := reportEventsUptoRow, standIns := [], harness := (true, "f85d2109364516d9206d15dd6ac5b76892e022a61a48ea90847b652528043413"), looks := true }, kinds := [], alts := [], laidByText := true, laidKinds := [.data, .data, .data, .data], laidTests := true, laidLooks := .later }
def ReportEventsUptoCardSaid : Prop := Claim7.holds Tryz.pinned (.plain (OpenSpec.upto reportEventsSpec)) reportEventsUptoCard
end Rows
end Go.Proofs.YtilkbgdfndifgaaGreatDoor
