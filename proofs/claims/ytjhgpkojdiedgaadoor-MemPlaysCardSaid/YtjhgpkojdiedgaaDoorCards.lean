/-
  DERIVED. GIVEN WITH THE SEED: THE CARDS: each row of YtjhgpkojdiedgaaDoorRows.lean that lists a variable, with what it lists TIED to the program's text (the seventh form; the later family's looks); each row that meets fmt, with fmt's text TOLD by the authors' own Lean function (tested against real Go, not proved from fmt's source: count such statements apart). THE CARD IS WHAT COUNTS. Prove the row's statement (the work); the ties are given (YtjhgpkojdiedgaaDoorTie.lean); close each card by the builder's one call (the guide's Derived/Test/ToyasCard.lean, 'card_holds'). Laid BY PROGRAM, IN A SANDBOX (cutbox-door.mjs). By AI agents, Wed Nov 11 2026. No macro, syntax, notation, axiom, sorry.
-/
import Derived.Test.YtjhgpkojdiedgaaDoorRows
import GoSem.ClaimSeven
namespace Go.Proofs.YtjhgpkojdiedgaaDoor
namespace Rows

/-- THE TIED CARD OF 'gloaminglaw03.MemPlays'. -/
def memPlaysCard : Claim7 := { stood := { row := memPlaysRow, standIns := [], harness := (true, "ae26577ebd511ae60188721dccbdf4ec71030d38e9474264146ddf0cef3a8a5a"), looks := true }, kinds := [], alts := [], laidByText := true, laidKinds := [.handle], laidTests := true, laidLooks := .later }
def MemPlaysCardSaid : Prop := Claim7.holds Tryd.pinned (.plain (OpenSpec.ofChange memPlaysSpec)) memPlaysCard

/-- THE SECOND FORM's CARD OF 'gloaminglaw03.MemPlays'. -/
def memPlaysUptoCard : Claim7 := { stood := { row := memPlaysUptoRow, standIns := [], harness := (true, "ae26577ebd511ae60188721dccbdf4ec71030d38e9474264146ddf0cef3a8a5a"), looks := true }, kinds := [], alts := [], laidByText := true, laidKinds := [.handle], laidTests := true, laidLooks := .later }
def MemPlaysUptoCardSaid : Prop := Claim7.holds Tryd.pinned (.plain (OpenSpec.upto memPlaysSpec)) memPlaysUptoCard
end Rows
end Go.Proofs.YtjhgpkojdiedgaaDoor
