/-
  DERIVED. GIVEN WITH THE SEED: THE CARDS: each row of YtobacchojjfpfaaGreatDoorRows.lean that lists a variable, with what it lists TIED to the program's text (the seventh form; the later family's looks); each row that meets fmt, with fmt's text TOLD by the authors' own Lean function (tested against real Go, not proved from fmt's source: count such statements apart). THE CARD IS WHAT COUNTS. Prove the row's statement (the work); the ties are given (YtobacchojjfpfaaGreatDoorTie.lean); close each card by the builder's one call (the guide's Derived/Test/ToyasCard.lean, 'card_holds'). Laid BY PROGRAM, IN A SANDBOX (cutbox-door.mjs). By AI agents, Wed Nov 11 2026. No macro, syntax, notation, axiom, sorry.
-/
import Derived.Test.YtobacchojjfpfaaGreatDoorRows
import GoSem.ClaimSeven
namespace Go.Proofs.YtobacchojjfpfaaGreatDoor
namespace Rows

/-- THE TIED CARD OF 'gloaminglaw15.LineBack'. -/
def lineBackCard : Claim7 := { stood := { row := lineBackRow, standIns := [], harness := (true, "3cdc45c9e90e9844ca661e621d21f11cf8eabfc7ff74ef25de49f7c125aca0ab"), looks := true }, kinds := [], alts := [], laidByText := true, laidKinds := [.data, .data, .data, .data, .handle, .sentinel, .sentinel, .data, .pinned], laidTests := true, laidLooks := .later }
def LineBackCardSaid : Prop := Claim7.holds Tryz.pinned (.plain (OpenSpec.ofChange lineBackSpec)) lineBackCard

/-- THE TIED CARD OF 'gloaminglaw15.LinePrints'. -/
def linePrintsCard : Claim7 := { stood := { row := linePrintsRow, standIns := [], harness := (true, "3cdc45c9e90e9844ca661e621d21f11cf8eabfc7ff74ef25de49f7c125aca0ab"), looks := true }, kinds := [], alts := [], laidByText := true, laidKinds := [.data, .data, .data, .data, .handle, .sentinel, .sentinel, .data, .pinned], laidTests := true, laidLooks := .later }
def LinePrintsCardSaid : Prop := Claim7.holds Tryz.pinned (.plain (OpenSpec.ofChange linePrintsSpec)) linePrintsCard

/-- THE SECOND FORM's CARD OF 'gloaminglaw15.LineBack'. -/
def lineBackUptoCard : Claim7 := { stood := { row := lineBackUptoRow, standIns := [], harness := (true, "3cdc45c9e90e9844ca661e621d21f11cf8eabfc7ff74ef25de49f7c125aca0ab"), looks := true }, kinds := [], alts := [], laidByText := true, laidKinds := [.data, .data, .data, .data, .handle, .sentinel, .sentinel, .data, .pinned], laidTests := true, laidLooks := .later }
def LineBackUptoCardSaid : Prop := Claim7.holds Tryz.pinned (.plain (OpenSpec.upto lineBackSpec)) lineBackUptoCard

/-- THE SECOND FORM's CARD OF 'gloaminglaw15.LinePrints'. -/
def linePrintsUptoCard : Claim7 := { stood := { row := linePrintsUptoRow, standIns := [], harness := (true, "3cdc45c9e90e9844ca661e621d21f11cf8eabfc7ff74ef25de49f7c125aca0ab"), looks := true }, kinds := [], alts := [], laidByText := true, laidKinds := [.data, .data, .data, .data, .handle, .sentinel, .sentinel, .data, .pinned], laidTests := true, laidLooks := .later }
def LinePrintsUptoCardSaid : Prop := Claim7.holds Tryz.pinned (.plain (OpenSpec.upto linePrintsSpec)) linePrintsUptoCard
end Rows
end Go.Proofs.YtobacchojjfpfaaGreatDoor
