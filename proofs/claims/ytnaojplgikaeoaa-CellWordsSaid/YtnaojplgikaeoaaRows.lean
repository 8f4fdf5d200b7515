/-
  No cell of these rows narrows 'for every input' (looked for: loops, veiled, ifaces, maps, wideKeys, modest, calm, conditions, laid).
  DERIVED. THE GIVEN ROWS OF THIS SEAT. 4 by the template 'for every input the law returns true; each argument reads behind the call as it read before'; 0 by the template 'total and deterministic' (their statements: YtnaojplgikaeoaaTotals.lean).
  GIVEN WITH THE SEED: the statements are not yours to turn. If you find one false, say at which input.
  Laid BY PROGRAM, IN A SANDBOX (cutbox-rows.mjs): the forced cells as the released guide's own fill.sh prints them over the translation 6ecbd5ef5e6939f8… (all of the seat's roots in one cut). By AI agents, Wed Nov 11 2026. No macro, syntax, notation, axiom, sorry.
-/
import Derived.Test.YtnaojplgikaeoaaChecked
import GoSem.Claim
import GoSem.ClaimJoined
import GoSem.ClaimMapViews
import Derived.JoinedTies
import Derived.KernelRfl
namespace Go.Proofs.Ytnaojplgikaeoaa
/- THE CELL 'sum', in the pinned program and in every row, IS THE sha256 OF THE DUMP (.gsa) THAT YtnaojplgikaeoaaProg.lean LOADS. Nothing in Lean hashes anything: it is a label: what it is worth is what the hold of that sum in a sandbox is worth. -/
noncomputable def Try.pinned : Pinned := { name := "ytnaojplgikaeoaa", sum := "6ecbd5ef5e6939f849b14f5a454d6903a78f823053aec3ad1daf30a82044e7f7", checked := Try.checked }
namespace Rows
def none {H : Type} : Left H := { results := [], args := [] }

/-- 'gloaminglaw06.CellStays': WHATEVER THE INPUT: true; the input reads as it did. -/
def cellStaysSpec : ChangeSpec := { name := "cellStays", fn := fun _ => fun
  | [d1, d2, d3] => { results := [.lit (.bool true)], args := [d1, d2, d3] }
  | _ => none }
def cellStaysRow : OpenClaim := { program := "ytnaojplgikaeoaa", sum := "6ecbd5ef5e6939f849b14f5a454d6903a78f823053aec3ad1daf30a82044e7f7", func := "gloaming/gloaminglaw06.CellStays", spec := "cellStays", apart := false }
def CellStaysSaid : Prop := cellStaysRow.holds Try.pinned (OpenSpec.ofChange cellStaysSpec)

/-- ITS FALSE NEIGHBOUR: 'it returns false'. Refute it at one input. -/
def cellStaysWrong : ChangeSpec := { name := "cellStays", fn := fun _ => fun
  | [d1, d2, d3] => { results := [.lit (.bool false)], args := [d1, d2, d3] }
  | _ => none }
def CellStaysWrongFalsely : Prop := cellStaysRow.holds Try.pinned (OpenSpec.ofChange cellStaysWrong)

/-- 'gloaminglaw06.CellPaths': WHATEVER THE INPUT: true; the input reads as it did. -/
def cellPathsSpec : ChangeSpec := { name := "cellPaths", fn := fun _ => fun
  | [d1, d2, d3] => { results := [.lit (.bool true)], args := [d1, d2, d3] }
  | _ => none }
def cellPathsRow : OpenClaim := { program := "ytnaojplgikaeoaa", sum := "6ecbd5ef5e6939f849b14f5a454d6903a78f823053aec3ad1daf30a82044e7f7", func := "gloaming/gloaminglaw06.CellPaths", spec := "cellPaths", apart := false }
def CellPathsSaid : Prop := cellPathsRow.holds Try.pinned (OpenSpec.ofChange cellPathsSpec)

/-- ITS FALSE NEIGHBOUR: 'it returns false'. Refute it at one input. -/
def cellPathsWrong : ChangeSpec := { name := "cellPaths", fn := fun _ => fun
  | [d1, d2, d3] => { results := [.lit (.bool false)], args := [d1, d2, d3] }
  | _ => none }
def CellPathsWrongFalsely : Prop := cellPathsRow.holds Try.pinned (OpenSpec.ofChange cellPathsWrong)

/-- 'gloaminglaw06.CellTurns': WHATEVER THE INPUT: true; the input reads as it did. -/
def cellTurnsSpec : ChangeSpec := { name := "cellTurns", fn := fun _ => fun
  | [d1, d2, d3, d4] => { results := [.lit (.bool true)], args := [d1, d2, d3, d4] }
  | _ => none }
def cellTurnsRow : OpenClaim := { program := "ytnaojplgikaeoaa", sum := "6ecbd5ef5e6939f849b14f5a454d6903a78f823053aec3ad1daf30a82044e7f7", func := "gloaming/gloaminglaw06.CellTurns", spec := "cellTurns", inPlace := ["internal/reflectlite.TypeOf"], unfollowed := true, recurses := true, apart := false }
def CellTurnsSaid : Prop := cellTurnsRow.holds Try.pinned (OpenSpec.ofChange cellTurnsSpec)

/-- ITS FALSE NEIGHBOUR: 'it returns false'. Refute it at one input. -/
def cellTurnsWrong : ChangeSpec := { name := "cellTurns", fn := fun _ => fun
  | [d1, d2, d3, d4] => { results := [.lit (.bool false)], args := [d1, d2, d3, d4] }
  | _ => none }
def CellTurnsWrongFalsely : Prop := cellTurnsRow.holds Try.pinned (OpenSpec.ofChange cellTurnsWrong)

/-- 'gloaminglaw06.CellWords': WHATEVER THE INPUT: true; the input reads as it did. -/
def cellWordsSpec : ChangeSpec := { name := "cellWords", fn := fun _ => fun
  | [d1, d2] => { results := [.lit (.bool true)], args := [d1, d2] }
  | _ => none }
def cellWordsRow : OpenClaim := { program := "ytnaojplgikaeoaa", sum := "6ecbd5ef5e6939f849b14f5a454d6903a78f823053aec3ad1daf30a82044e7f7", func := "gloaming/gloaminglaw06.CellWords", spec := "cellWords", inPlace := ["internal/reflectlite.TypeOf"], unfollowed := true, recurses := true, apart := false }
def CellWordsSaid : Prop := cellWordsRow.holds Try.pinned (OpenSpec.ofChange cellWordsSpec)

/-- ITS FALSE NEIGHBOUR: 'it returns false'. Refute it at one input. -/
def cellWordsWrong : ChangeSpec := { name := "cellWords", fn := fun _ => fun
  | [d1, d2] => { results := [.lit (.bool false)], args := [d1, d2] }
  | _ => none }
def CellWordsWrongFalsely : Prop := cellWordsRow.holds Try.pinned (OpenSpec.ofChange cellWordsWrong)

/- THE SECOND FORM. 'bulk': how many values and letters a reading holds, each counted each time it is reached (what is shared counts as often as it is met; a slice's spare places count too). A statement '..UptoSaid' is the law's where the arguments, and the package variables that the reading takes, are together of bulk at most 1048576: NARROWER than '..Said'. Prove '..Said' where nothing that the law and all that it calls make is longer than what came in: it says more and counts as full. Else prove '..UptoSaid'. A law counts once. -/
mutual
def uptoBulk {H : Type} : DataW H → Nat
  | .lit (.string bytes) => bytes.length + 1
  | .lit _ => 1
  | .nil => 1
  | .ptr d => uptoBulk d + 1
  | .slice elems spare => uptoBulkAll elems + uptoBulkAll spare + 1
  | .agg parts => uptoBulkAll parts + 1
  | .iface _ d => uptoBulk d + 1
  | .map entries => uptoBulkEntries entries + 1
  | .held _ => 1
def uptoBulkAll {H : Type} : List (DataW H) → Nat
  | [] => 0
  | d :: r => uptoBulk d + uptoBulkAll r
def uptoBulkEntries {H : Type} : List (Lit × DataW H) → Nat
  | [] => 0
  | x :: r => uptoBulkEntry x + uptoBulkEntries r
def uptoBulkEntry {H : Type} : Lit × DataW H → Nat
  | (.string bytes, d) => bytes.length + uptoBulk d + 1
  | (_, d) => uptoBulk d + 1
 end
def uptoSmall : (H : Type) → List (DataW H) → Bool := fun _ ds => decide (uptoBulkAll ds ≤ 1048576)
def OpenSpec.upto (s : _root_.Go.ChangeSpec) : _root_.Go.OpenSpec := { _root_.Go.OpenSpec.ofChange s with cond := some uptoSmall }

/-- 'gloaminglaw06.CellStays', WHERE WHAT IT READS IS OF BULK AT MOST 1048576: true; the input reads as it did. -/
def cellStaysUptoRow : OpenClaim := { program := "ytnaojplgikaeoaa", sum := "6ecbd5ef5e6939f849b14f5a454d6903a78f823053aec3ad1daf30a82044e7f7", func := "gloaming/gloaminglaw06.CellStays", spec := "cellStays", apart := false, narrowed := true }
def CellStaysUptoSaid : Prop := cellStaysUptoRow.holds Try.pinned (OpenSpec.upto cellStaysSpec)

/-- 'gloaminglaw06.CellPaths', WHERE WHAT IT READS IS OF BULK AT MOST 1048576: true; the input reads as it did. -/
def cellPathsUptoRow : OpenClaim := { program := "ytnaojplgikaeoaa", sum := "6ecbd5ef5e6939f849b14f5a454d6903a78f823053aec3ad1daf30a82044e7f7", func := "gloaming/gloaminglaw06.CellPaths", spec := "cellPaths", apart := false, narrowed := true }
def CellPathsUptoSaid : Prop := cellPathsUptoRow.holds Try.pinned (OpenSpec.upto cellPathsSpec)

/-- 'gloaminglaw06.CellTurns', WHERE WHAT IT READS IS OF BULK AT MOST 1048576: true; the input reads as it did. -/
def cellTurnsUptoRow : OpenClaim := { program := "ytnaojplgikaeoaa", sum := "6ecbd5ef5e6939f849b14f5a454d6903a78f823053aec3ad1daf30a82044e7f7", func := "gloaming/gloaminglaw06.CellTurns", spec := "cellTurns", inPlace := ["internal/reflectlite.TypeOf"], unfollowed := true, recurses := true, apart := false, narrowed := true }
def CellTurnsUptoSaid : Prop := cellTurnsUptoRow.holds Try.pinned (OpenSpec.upto cellTurnsSpec)

/-- 'gloaminglaw06.CellWords', WHERE WHAT IT READS IS OF BULK AT MOST 1048576: true; the input reads as it did. -/
def cellWordsUptoRow : OpenClaim := { program := "ytnaojplgikaeoaa", sum := "6ecbd5ef5e6939f849b14f5a454d6903a78f823053aec3ad1daf30a82044e7f7", func := "gloaming/gloaminglaw06.CellWords", spec := "cellWords", inPlace := ["internal/reflectlite.TypeOf"], unfollowed := true, recurses := true, apart := false, narrowed := true }
def CellWordsUptoSaid : Prop := cellWordsUptoRow.holds Try.pinned (OpenSpec.upto cellWordsSpec)

end Rows
end Go.Proofs.Ytnaojplgikaeoaa
