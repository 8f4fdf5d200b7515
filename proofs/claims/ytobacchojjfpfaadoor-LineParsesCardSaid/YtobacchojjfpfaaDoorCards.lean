/-
  DERIVED. GIVEN WITH THE SEED: THE CARDS: each row of YtobacchojjfpfaaDoorRows.lean that lists a variable, with what it lists TIED to the program's text (the seventh form; the later family's looks); each row that meets fmt, with fmt's text TOLD by the authors' own Lean function (tested against real Go, not proved from fmt's source: count such statements apart). THE CARD IS WHAT COUNTS. Prove the row's statement (the work); the ties are given (YtobacchojjfpfaaDoorTie.lean); close each card by the builder's one call (the guide's Derived/Test/ToyasCard.lean, 'card_holds'). Laid BY PROGRAM, IN A SANDBOX (cutbox-door.mjs). By AI agents, Wed Nov 11 2026. No macro, syntax, notation, axiom, sorry.
-/
import Derived.Test.YtobacchojjfpfaaDoorRows
import GoSem.ClaimSeven
namespace Go.Proofs.YtobacchojjfpfaaDoor
namespace Rows

/-- THE TIED CARD OF 'gloaminglaw15.LineApart'. -/
def lineApartCard : Claim7 := { stood := { row := lineApartRow, standIns := [], harness := (true, "16718f9384468b2b8e382b1a50f466520a3233d2f5eea5c527913a6d5dc652f3"), looks := true }, kinds := [], alts := [], laidByText := true, laidKinds := [.data, .data, .data, .data, .handle, .sentinel, .sentinel, .data, .pinned], laidTests := true, laidLooks := .later }
def LineApartCardSaid : Prop := Claim7.holds Tryd.pinned (.plain (OpenSpec.ofChange lineApartSpec)) lineApartCard

/-- THE TIED CARD OF 'gloaminglaw15.LineParses'. -/
def lineParsesCard : Claim7 := { stood := { row := lineParsesRow, standIns := [], harness := (true, "16718f9384468b2b8e382b1a50f466520a3233d2f5eea5c527913a6d5dc652f3"), looks := true }, kinds := [], alts := [], laidByText := true, laidKinds := [.data, .data, .data, .data, .handle, .sentinel, .sentinel, .data, .pinned], laidTests := true, laidLooks := .later }
def LineParsesCardSaid : Prop := Claim7.holds Tryd.pinned (.plain (OpenSpec.ofChange lineParsesSpec)) lineParsesCard

/-- THE SECOND FORM's CARD OF 'gloaminglaw15.LineApart'. -/
def lineApartUptoCard : Claim7 := { stood := { row := lineApartUptoRow, standIns := [], harness := (true, "16718f9384468b2b8e382b1a50f466520a3233d2f5eea5c527913a6d5dc652f3"), looks := true }, kinds := [], alts := [], laidByText := true, laidKinds := [.data, .data, .data, .data, .handle, .sentinel, .sentinel, .data, .pinned], laidTests := true, laidLooks := .later }
def LineApartUptoCardSaid : Prop := Claim7.holds Tryd.pinned (.plain (OpenSpec.upto lineApartSpec)) lineApartUptoCard

/-- THE SECOND FORM's CARD OF 'gloaminglaw15.LineParses'. -/
def lineParsesUptoCard : Claim7 := { stood := { row := lineParsesUptoRow, standIns := [], harness := (true, "16718f9384468b2b8e382b1a50f466520a3233d2f5eea5c527913a6d5dc652f3"), looks := true }, kinds := [], alts := [], laidByText := true, laidKinds := [.data, .data, .data, .data, .handle, .sentinel, .sentinel, .data, .pinned], laidTests := true, laidLooks := .later }
def LineParsesUptoCardSaid : Prop := Claim7.holds Tryd.pinned (.plain (OpenSpec.upto lineParsesSpec)) lineParsesUptoCard
end Rows
end Go.Proofs.YtobacchojjfpfaaDoor
