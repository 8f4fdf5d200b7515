/-
  DERIVED. GIVEN WITH THE SEED: THE CARDS: each row of YtmgpbjennnadhaaDoorRows.lean that lists a variable, with what it lists TIED to the program's text (the seventh form; the later family's looks); each row that meets fmt, with fmt's text TOLD by the authors' own Lean function (tested against real Go, not proved from fmt's source: count such statements apart). THE CARD IS WHAT COUNTS. Prove the row's statement (the work); the ties are given (YtmgpbjennnadhaaDoorTie.lean); close each card by the builder's one call (the guide's Derived/Test/ToyasCard.lean, 'card_holds'). Laid BY PROGRAM, IN A SANDBOX (cutbox-door.mjs). By AI agents, Wed Nov 11 2026. No macro, syntax, notation, axiom, sorry.
-/
import Derived.Test.YtmgpbjennnadhaaDoorRows
import GoSem.ClaimSeven
namespace Go.Proofs.YtmgpbjennnadhaaDoor
namespace Rows

/-- THE TIED CARD OF 'gloaminglaw16.AnswerLooks'. -/
def answerLooksCard : Claim7 := { stood := { row := answerLooksRow, standIns := [], harness := (true, "773eb129e2e00d264a51b795cfc24fd12389973a73973f90be77cdd3c89cd2af"), looks := true }, kinds := [], alts := [], laidByText := true, laidKinds := [.data, .data, .data, .data, .sentinel, .sentinel, .data, .pinned], laidTests := true, laidLooks := .later }
def AnswerLooksCardSaid : Prop := Claim7.holds Tryd.pinned (.plain (OpenSpec.ofChange answerLooksSpec)) answerLooksCard

/-- THE SECOND FORM's CARD OF 'gloaminglaw16.AnswerLooks'. -/
def answerLooksUptoCard : Claim7 := { stood := { row := answerLooksUptoRow, standIns := [], harness := (true, "773eb129e2e00d264a51b795cfc24fd12389973a73973f90be77cdd3c89cd2af"), looks := true }, kinds := [], alts := [], laidByText := true, laidKinds := [.data, .data, .data, .data, .sentinel, .sentinel, .data, .pinned], laidTests := true, laidLooks := .later }
def AnswerLooksUptoCardSaid : Prop := Claim7.holds Tryd.pinned (.plain (OpenSpec.upto answerLooksSpec)) answerLooksUptoCard
end Rows
end Go.Proofs.YtmgpbjennnadhaaDoor
