/-
  DERIVED. GIVEN WITH THE SEED: THE CARDS: each row of YtifghdombpcpjaaDoorRows.lean that lists a variable, with what it lists TIED to the program's text (the seventh form; the later family's looks); each row that meets fmt, with fmt's text TOLD by the authors' own Lean function (tested against real Go, not proved from fmt's source: count such statements apart). THE CARD IS WHAT COUNTS. Prove the row's statement (the work); the ties are given (YtifghdombpcpjaaDoorTie.lean); close each card by the builder's one call (the guide's Derived/Test/ToyasCard.lean, 'card_holds'). Laid BY PROGRAM, IN A SANDBOX (cutbox-door.mjs). By AI agents, Wed Nov 11 2026. No macro, syntax, notation, axiom, sorry.
-/
import Derived.Test.YtifghdombpcpjaaDoorRows
import GoSem.ClaimSeven
namespace Go.Proofs.YtifghdombpcpjaaDoor
namespace Rows

/-- THE TIED CARD OF 'gloaminglaw05.RulesCounts'. -/
def rulesCountsCard : Claim7 := { stood := { row := rulesCountsRow, standIns := [], harness := (true, "70b5e428185185fd7ab48ebab3ef38bd08df10d8897d1ff614f7d6494f7909ee"), looks := true }, kinds := [], alts := [], laidByText := true, laidKinds := [.handle], laidTests := true, laidLooks := .later }
def RulesCountsCardSaid : Prop := Claim7.holds Tryd.pinned (.plain (OpenSpec.ofChange rulesCountsSpec)) rulesCountsCard

/-- THE SECOND FORM's CARD OF 'gloaminglaw05.RulesCounts'. -/
def rulesCountsUptoCard : Claim7 := { stood := { row := rulesCountsUptoRow, standIns := [], harness := (true, "70b5e428185185fd7ab48ebab3ef38bd08df10d8897d1ff614f7d6494f7909ee"), looks := true }, kinds := [], alts := [], laidByText := true, laidKinds := [.handle], laidTests := true, laidLooks := .later }
def RulesCountsUptoCardSaid : Prop := Claim7.holds Tryd.pinned (.plain (OpenSpec.upto rulesCountsSpec)) rulesCountsUptoCard
end Rows
end Go.Proofs.YtifghdombpcpjaaDoor
