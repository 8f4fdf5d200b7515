/-
  DERIVED. GIVEN WITH THE SEED: THE CARDS: each row of YtnaokofklgbbcaaDoorRows.lean that lists a variable, with what it lists TIED to the program's text (the seventh form; the later family's looks); each row that meets fmt, with fmt's text TOLD by the authors' own Lean function (tested against real Go, not proved from fmt's source: count such statements apart). THE CARD IS WHAT COUNTS. Prove the row's statement (the work); the ties are given (YtnaokofklgbbcaaDoorTie.lean); close each card by the builder's one call (the guide's Derived/Test/ToyasCard.lean, 'card_holds'). Laid BY PROGRAM, IN A SANDBOX (cutbox-door.mjs). By AI agents, Wed Nov 11 2026. No macro, syntax, notation, axiom, sorry.
-/
import Derived.Test.YtnaokofklgbbcaaDoorRows
import GoSem.ClaimSeven
namespace Go.Proofs.YtnaokofklgbbcaaDoor
namespace Rows

/-- THE TIED CARD OF 'gloaminglaw01.FaultDeep'. -/
def faultDeepCard : Claim7 := { stood := { row := faultDeepRow, standIns := [], harness := (true, "ceb5e066d601eaa3a1d46fa1b940edae9f85f6806fcc644fb6b7a0450037cf3d"), looks := true }, kinds := [], alts := [], laidByText := true, laidKinds := [.handle], laidTests := true, laidLooks := .later }
def FaultDeepCardSaid : Prop := Claim7.holds Tryd.pinned (.plain (OpenSpec.ofChange faultDeepSpec)) faultDeepCard

/-- THE TIED CARD OF 'gloaminglaw01.FaultWraps'. -/
def faultWrapsCard : Claim7 := { stood := { row := faultWrapsRow, standIns := [], harness := (true, "ceb5e066d601eaa3a1d46fa1b940edae9f85f6806fcc644fb6b7a0450037cf3d"), looks := true }, kinds := [], alts := [], laidByText := true, laidKinds := [.handle], laidTests := true, laidLooks := .later }
def FaultWrapsCardSaid : Prop := Claim7.holds Tryd.pinned (.plain (OpenSpec.ofChange faultWrapsSpec)) faultWrapsCard

/-- THE TIED CARD OF 'gloaminglaw01.FaultMany'. -/
def faultManyCard : Claim7 := { stood := { row := faultManyRow, standIns := [], harness := (true, "ceb5e066d601eaa3a1d46fa1b940edae9f85f6806fcc644fb6b7a0450037cf3d"), looks := true }, kinds := [], alts := [], laidByText := true, laidKinds := [.handle], laidTests := true, laidLooks := .later }
def FaultManyCardSaid : Prop := Claim7.holds Tryd.pinned (.plain (OpenSpec.ofChange faultManySpec)) faultManyCard

/-- THE SECOND FORM's CARD OF 'gloaminglaw01.FaultDeep'. -/
def faultDeepUptoCard : Claim7 := { stood := { row := faultDeepUptoRow, standIns := [], harness := (true, "ceb5e066d601eaa3a1d46fa1b940edae9f85f6806fcc644fb6b7a0450037cf3d"), looks := true }, kinds := [], alts := [], laidByText := true, laidKinds := [.handle], laidTests := true, laidLooks := .later }
def FaultDeepUptoCardSaid : Prop := Claim7.holds Tryd.pinned (.plain (OpenSpec.upto faultDeepSpec)) faultDeepUptoCard

/-- THE SECOND FORM's CARD OF 'gloaminglaw01.FaultWraps'. -/
def faultWrapsUptoCard : Claim7 := { stood := { row := faultWrapsUptoRow, standIns := [], harness := (true, "ceb5e066d601eaa3a1d46fa1b940edae9f85f6806fcc644fb6b7a0450037cf3d"), looks := true }, kinds := [], alts := [], laidByText := true, laidKinds := [.handle], laidTests := true, laidLooks := .later }
def FaultWrapsUptoCardSaid : Prop := Claim7.holds Tryd.pinned (.plain (OpenSpec.upto faultWrapsSpec)) faultWrapsUptoCard

/-- THE SECOND FORM's CARD OF 'gloaminglaw01.FaultMany'. -/
def faultManyUptoCard : Claim7 := { stood := { row := faultManyUptoRow, standIns := [], harness := (true, "ceb5e066d601eaa3a1d46fa1b940edae9f85f6806fcc644fb6b7a0450037cf3d"), looks := true }, kinds := [], alts := [], laidByText := true, laidKinds := [.handle], laidTests := true, laidLooks := .later }
def FaultManyUptoCardSaid : Prop := Claim7.holds Tryd.pinned (.plain (OpenSpec.upto faultManySpec)) faultManyUptoCard
end Rows
end Go.Proofs.YtnaokofklgbbcaaDoor
