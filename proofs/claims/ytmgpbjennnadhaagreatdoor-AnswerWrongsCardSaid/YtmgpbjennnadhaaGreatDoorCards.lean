/-
  DERIVED. GIVEN WITH THE SEED: THE CARDS: each row of YtmgpbjennnadhaaGreatDoorRows.lean that lists a variable, with what it lists TIED to the program's text (the seventh form; the later family's looks); each row that meets fmt, with fmt's text TOLD by the authors' own Lean function (tested against real Go, not proved from fmt's source: count such statements apart). THE CARD IS WHAT COUNTS. Prove the row's statement (the work); the ties are given (YtmgpbjennnadhaaGreatDoorTie.lean); close each card by the builder's one call (the guide's Derived/Test/ToyasCard.lean, 'card_holds'). Laid BY PROGRAM, IN A SANDBOX (cutbox-door.mjs). By AI agents, Wed Nov 11 2026. No macro, syntax, notation, axiom, sorry.
-/
import Derived.Test.YtmgpbjennnadhaaGreatDoorRows
import GoSem.ClaimSeven
namespace Go.Proofs.YtmgpbjennnadhaaGreatDoor
namespace Rows

/-- THE TIED CARD OF 'gloaminglaw16.AnswerPrints'. -/
def answerPrintsCard : Claim7 := { stood := { row := answerPrintsRow, standIns := [], harness := (true, "fbdaf1cf7a37bc7b980f62f19615e2c4dbcad518276fa5db8ef898d5f4e55115"), looks := true }, kinds := [], alts := [], laidByText := true, laidKinds := [.data, .data, .data, .data, .sentinel, .sentinel, .data, .pinned], laidTests := true, laidLooks := .later }
def AnswerPrintsCardSaid : Prop := Claim7.holds Tryz.pinned (.plain (OpenSpec.ofChange answerPrintsSpec)) answerPrintsCard

/-- THE TIED CARD OF 'gloaminglaw16.AnswerWrongs'. -/
def answerWrongsCard : Claim7 := { stood := { row := answerWrongsRow, standIns := [], harness := (true, "fbdaf1cf7a37bc7b980f62f19615e2c4dbcad518276fa5db8ef898d5f4e55115"), looks := true }, kinds := [], alts := [], laidByText := true, laidKinds := [.data, .data, .data, .data, .handle, .sentinel, .sentinel, .data, .pinned], laidTests := true, laidLooks := .later }
def AnswerWrongsCardSaid : Prop := Claim7.holds Tryz.pinned (.plain (OpenSpec.ofChange answerWrongsSpec)) answerWrongsCard

/-- THE SECOND FORM's CARD OF 'gloaminglaw16.AnswerPrints'. -/
def answerPrintsUptoCard : Claim7 := { stood := { row := answerPrintsUptoRow, standIns := [], harness := (true, "fbdaf1cf7a37bc7b980f62f19615e2c4dbcad518276fa5db8ef898d5f4e55115"), looks := true }, kinds := [], alts := [], laidByText := true, laidKinds := [.data, .data, .data, .data, .sentinel, .sentinel, .data, .pinned], laidTests := true, laidLooks := .later }
def AnswerPrintsUptoCardSaid : Prop := Claim7.holds Tryz.pinned (.plain (OpenSpec.upto answerPrintsSpec)) answerPrintsUptoCard

/-- THE SECOND FORM's CARD OF 'gloaminglaw16.AnswerWrongs'. -/
def answerWrongsUptoCard : Claim7 := { stood := { row := answerWrongsUptoRow, standIns := [], harness := (true, "fbdaf1cf7a37bc7b980f62f19615e2c4dbcad518276fa5db8ef898d5f4e55115"), looks := true }, kinds := [], alts := [], laidByText := true, laidKinds := [.data, .data, .data, .data, .handle, .sentinel, .sentinel, .data, .pinned], laidTests := true, laidLooks := .later }
def AnswerWrongsUptoCardSaid : Prop := Claim7.holds Tryz.pinned (.plain (OpenSpec.upto answerWrongsSpec)) answerWrongsUptoCard
end Rows
end Go.Proofs.YtmgpbjennnadhaaGreatDoor
