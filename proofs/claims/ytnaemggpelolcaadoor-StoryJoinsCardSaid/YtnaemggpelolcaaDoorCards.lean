/-
  DERIVED. GIVEN WITH THE SEED: THE CARDS: each row of YtnaemggpelolcaaDoorRows.lean that lists a variable, with what it lists TIED to the program's text (the seventh form; the later family's looks); each row that meets fmt, with fmt's text TOLD by the authors' own Lean function (tested against real Go, not proved from fmt's source: count such statements apart). THE CARD IS WHAT COUNTS. Prove the row's statement (the work); the ties are given (YtnaemggpelolcaaDoorTie.lean); close each card by the builder's one call (the guide's Derived/Test/ToyasCard.lean, 'card_holds'). Laid BY PROGRAM, IN A SANDBOX (cutbox-door.mjs). By AI agents, Wed Nov 11 2026. No macro, syntax, notation, axiom, sorry.
-/
import Derived.Test.YtnaemggpelolcaaDoorRows
import GoSem.ClaimSeven
namespace Go.Proofs.YtnaemggpelolcaaDoor
namespace Rows

/-- THE TIED CARD OF 'gloaminglaw26.StoryJoins'. -/
def storyJoinsCard : Claim7 := { stood := { row := storyJoinsRow, standIns := [], harness := (true, "be23cdb9d401441fa0a22bc2c6f5be3a34e15a3d0e74376066bb7f6f29558615"), looks := true }, kinds := [], alts := [], laidByText := true, laidKinds := [.data, .data, .data, .data, .sentinel, .sentinel, .pinned], laidTests := true, laidLooks := .later }
def StoryJoinsCardSaid : Prop := Claim7.holds Tryd.pinned (.plain (OpenSpec.ofChange storyJoinsSpec)) storyJoinsCard

/-- THE SECOND FORM's CARD OF 'gloaminglaw26.StoryJoins'. -/
def storyJoinsUptoCard : Claim7 := { stood := { row := storyJoinsUptoRow, standIns := [], harness := (true, "be23cdb9d401441fa0a22bc2c6f5be3a34e15a3d0e74376066bb7f6f29558615"), looks := true }, kinds := [], alts := [], laidByText := true, laidKinds := [.data, .data, .data, .data, .sentinel, .sentinel, .pinned], laidTests := true, laidLooks := .later }
def StoryJoinsUptoCardSaid : Prop := Claim7.holds Tryd.pinned (.plain (OpenSpec.upto storyJoinsSpec)) storyJoinsUptoCard
end Rows
end Go.Proofs.YtnaemggpelolcaaDoor
