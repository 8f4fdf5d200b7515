/-
  DERIVED. GIVEN WITH THE SEED: THE CARDS: each row of YtnbnjkbkjmlomaaDoorRows.lean that lists a variable, with what it lists TIED to the program's text (the seventh form; the later family's looks); each row that meets fmt, with fmt's text TOLD by the authors' own Lean function (tested against real Go, not proved from fmt's source: count such statements apart). THE CARD IS WHAT COUNTS. Prove the row's statement (the work); the ties are given (YtnbnjkbkjmlomaaDoorTie.lean); close each card by the builder's one call (the guide's Derived/Test/ToyasCard.lean, 'card_holds'). Laid BY PROGRAM, IN A SANDBOX (cutbox-door.mjs). By AI agents, Wed Nov 11 2026. No macro, syntax, notation, axiom, sorry.
-/
import Derived.Test.YtnbnjkbkjmlomaaDoorRows
import GoSem.ClaimSeven
namespace Go.Proofs.YtnbnjkbkjmlomaaDoor
namespace Rows

/-- THE TIED CARD OF 'gloaminglaw02.FieldPacks'. -/
def fieldPacksCard : Claim7 := { stood := { row := fieldPacksRow, standIns := [], harness := (true, "33f78d855c50c8ee2f214f5194b7aef48c9ed4ef8cd31653d419d726fb544805"), looks := true }, kinds := [], alts := [], laidByText := true, laidKinds := [.handle], laidTests := true, laidLooks := .later }
def FieldPacksCardSaid : Prop := Claim7.holds Tryd.pinned (.plain (OpenSpec.ofChange fieldPacksSpec)) fieldPacksCard

/-- THE SECOND FORM's CARD OF 'gloaminglaw02.FieldPacks'. -/
def fieldPacksUptoCard : Claim7 := { stood := { row := fieldPacksUptoRow, standIns := [], harness := (true, "33f78d855c50c8ee2f214f5194b7aef48c9ed4ef8cd31653d419d726fb544805"), looks := true }, kinds := [], alts := [], laidByText := true, laidKinds := [.handle], laidTests := true, laidLooks := .later }
def FieldPacksUptoCardSaid : Prop := Claim7.holds Tryd.pinned (.plain (OpenSpec.upto fieldPacksSpec)) fieldPacksUptoCard
end Rows
end Go.Proofs.YtnbnjkbkjmlomaaDoor
