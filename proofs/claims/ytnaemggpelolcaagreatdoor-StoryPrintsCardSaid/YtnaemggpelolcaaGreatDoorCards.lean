/-
  DERIVED. GIVEN WITH THE SEED: THE CARDS: each row of YtnaemggpelolcaaGreatDoorRows.lean that lists a variable, with what it lists TIED to the program's text (the seventh form; the later family's looks); each row that meets fmt, with fmt's text TOLD by the authors' own Lean function (tested against real Go, not proved from fmt's source: count such statements apart). THE CARD IS WHAT COUNTS. Prove the row's statement (the work); the ties are given (YtnaemggpelolcaaGreatDoorTie.lean); close each card by the builder's one call (the guide's Derived/Test/ToyasCard.lean, 'card_holds'). Laid BY PROGRAM, IN A SANDBOX (cutbox-door.mjs). By AI agents, Wed Nov 11 2026. No macro, syntax, notation, axiom, sorry.
-/
import Derived.Test.YtnaemggpelolcaaGreatDoorRows
import GoSem.ClaimSeven
namespace Go.Proofs.YtnaemggpelolcaaGreatDoor
namespace Rows

/-- THE TIED CARD OF 'gloaminglaw26.StoryParses'. -/
def storyParsesCard : Claim7 := { stood := { row := storyParsesRow, standIns := [], harness := (true, "c20e59e1bd5b9625c249537bcecd4f284de2062ef539f8de36d2035b04e9a007"), looks := true }, kinds := [], alts := [], laidByText := true, laidKinds := [.data, .data, .data, .data, .handle, .sentinel, .sentinel, .pinned], laidTests := true, laidLooks := .later }
def StoryParsesCardSaid : Prop := Claim7.holds Tryz.pinned (.plain (OpenSpec.ofChange storyParsesSpec)) storyParsesCard

/-- THE TIED CARD OF 'gloaminglaw26.StoryPrints'. -/
def storyPrintsCard : Claim7 := { stood := { row := storyPrintsRow, standIns := [], harness := (true, "c20e59e1bd5b9625c249537bcecd4f284de2062ef539f8de36d2035b04e9a007"), looks := true }, kinds := [], alts := [], laidByText := true, laidKinds := [.data, .data, .data, .data, .handle, .sentinel, .sentinel, .pinned], laidTests := true, laidLooks := .later }
def StoryPrintsCardSaid : Prop := Claim7.holds Tryz.pinned (.plain (OpenSpec.ofChange storyPrintsSpec)) storyPrintsCard

/-- THE SECOND FORM's CARD OF 'gloaminglaw26.StoryParses'. -/
def storyParsesUptoCard : Claim7 := { stood := { row := storyParsesUptoRow, standIns := [], harness := (true, "c20e59e1bd5b9625c249537bcecd4f284de2062ef539f8de36d2035b04e9a007"), looks := true }, kinds := [], alts := [], laidByText := true, laidKinds := [.data, .data, .data, .data, .handle, .sentinel, .sentinel, .pinned], laidTests := true, laidLooks := .later }
def StoryParsesUptoCardSaid : Prop := Claim7.holds Tryz.pinned (.plain (OpenSpec.upto storyParsesSpec)) storyParsesUptoCard

/-- THE SECOND FORM's CARD OF 'gloaminglaw26.StoryPrints'. -/
def storyPrintsUptoCard : Claim7 := { stood := { row := storyPrintsUptoRow, standIns := [], harness := (true, "c20e59e1bd5b9625c249537bcecd4f284de2062ef539f8de36d2035b04e9a007"), looks := true }, kinds := [], alts := [], laidByText := true, laidKinds := [.data, .data, .data, .data, .handle, .sentinel, .sentinel, .pinned], laidTests := true, laidLooks := .later }
def StoryPrintsUptoCardSaid : Prop := Claim7.holds Tryz.pinned (.plain (OpenSpec.upto storyPrintsSpec)) storyPrintsUptoCard
end Rows
end Go.Proofs.YtnaemggpelolcaaGreatDoor
