/-
  No cell of these rows narrows 'for every input' (looked for: loops, veiled, ifaces, maps, wideKeys, modest, calm, conditions, laid).
  DERIVED. THE GIVEN ROWS OF THIS SEAT. 5 by the template 'for every input the law returns true; each argument reads behind the call as it read before'; 0 by the template 'total and deterministic' (their statements: YtkjcpgnmkjkbbaaTotals.lean).
  GIVEN WITH THE SEED: the statements are not yours to turn. If you find one false, say at which input.
  Laid BY PROGRAM, IN A SANDBOX (cutbox-rows.mjs): the forced cells as the released guide's own fill.sh prints them over the translation cf4564197cd4a2f6… (all of the seat's roots in one cut). By AI agents, Wed Nov 11 2026. No macro, syntax, notation, axiom, sorry.
-/
import Derived.Test.YtkjcpgnmkjkbbaaChecked
import GoSem.Claim
import GoSem.ClaimJoined
import GoSem.ClaimMapViews
import Derived.JoinedTies
import Derived.KernelRfl
namespace Go.Proofs.Ytkjcpgnmkjkbbaa
/- THE CELL 'sum', in the pinned program and in every row, IS THE sha256 OF THE DUMP (.gsa) THAT YtkjcpgnmkjkbbaaProg.lean LOADS. Nothing in Lean hashes anything: it is a label: what it is worth is what the hold of that sum in a sandbox is worth. -/
noncomputable def Try.pinned : Pinned := { name := "ytkjcpgnmkjkbbaa", sum := "cf4564197cd4a2f6f4d4707acca46acbc0af0a69e6d062bd1c7869bd58af66fd", checked := Try.checked }
namespace Rows
def none {H : Type} : Left H := { results := [], args := [] }

/-- 'gloaminglaw08.RecordWaits': WHATEVER THE INPUT: true; the input reads as it did. -/
def recordWaitsSpec : ChangeSpec := { name := "recordWaits", fn := fun _ => fun
  | [d1, d2, d3, d4] => { results := [.lit (.bool true)], args := [d1, d2, d3, d4] }
  | _ => none }
def recordWaitsRow : OpenClaim := { program := "ytkjcpgnmkjkbbaa", sum := "cf4564197cd4a2f6f4d4707acca46acbc0af0a69e6d062bd1c7869bd58af66fd", func := "gloaming/gloaminglaw08.RecordWaits", spec := "recordWaits", apart := false }
def RecordWaitsSaid : Prop := recordWaitsRow.holds Try.pinned (OpenSpec.ofChange recordWaitsSpec)

/-- ITS FALSE NEIGHBOUR: 'it returns false'. Refute it at one input. -/
def recordWaitsWrong : ChangeSpec := { name := "recordWaits", fn := fun _ => fun
  | [d1, d2, d3, d4] => { results := [.lit (.bool false)], args := [d1, d2, d3, d4] }
  | _ => none }
def RecordWaitsWrongFalsely : Prop := recordWaitsRow.holds Try.pinned (OpenSpec.ofChange recordWaitsWrong)

/-- 'gloaminglaw08.RecordNext': WHATEVER THE INPUT: true; the input reads as it did. -/
def recordNextSpec : ChangeSpec := { name := "recordNext", fn := fun _ => fun
  | [d1, d2, d3, d4] => { results := [.lit (.bool true)], args := [d1, d2, d3, d4] }
  | _ => none }
def recordNextRow : OpenClaim := { program := "ytkjcpgnmkjkbbaa", sum := "cf4564197cd4a2f6f4d4707acca46acbc0af0a69e6d062bd1c7869bd58af66fd", func := "gloaming/gloaminglaw08.RecordNext", spec := "recordNext", apart := false }
def RecordNextSaid : Prop := recordNextRow.holds Try.pinned (OpenSpec.ofChange recordNextSpec)

/-- ITS FALSE NEIGHBOUR: 'it returns false'. Refute it at one input. -/
def recordNextWrong : ChangeSpec := { name := "recordNext", fn := fun _ => fun
  | [d1, d2, d3, d4] => { results := [.lit (.bool false)], args := [d1, d2, d3, d4] }
  | _ => none }
def RecordNextWrongFalsely : Prop := recordNextRow.holds Try.pinned (OpenSpec.ofChange recordNextWrong)

/-- 'gloaminglaw08.RecordReads': WHATEVER THE INPUT: true; the input reads as it did. -/
def recordReadsSpec : ChangeSpec := { name := "recordReads", fn := fun _ => fun
  | [d1, d2, d3] => { results := [.lit (.bool true)], args := [d1, d2, d3] }
  | _ => none }
def recordReadsRow : OpenClaim := { program := "ytkjcpgnmkjkbbaa", sum := "cf4564197cd4a2f6f4d4707acca46acbc0af0a69e6d062bd1c7869bd58af66fd", func := "gloaming/gloaminglaw08.RecordReads", spec := "recordReads", apart := false }
def RecordReadsSaid : Prop := recordReadsRow.holds Try.pinned (OpenSpec.ofChange recordReadsSpec)

/-- ITS FALSE NEIGHBOUR: 'it returns false'. Refute it at one input. -/
def recordReadsWrong : ChangeSpec := { name := "recordReads", fn := fun _ => fun
  | [d1, d2, d3] => { results := [.lit (.bool false)], args := [d1, d2, d3] }
  | _ => none }
def RecordReadsWrongFalsely : Prop := recordReadsRow.holds Try.pinned (OpenSpec.ofChange recordReadsWrong)

/-- 'gloaminglaw08.RecordApart': WHATEVER THE INPUT: true; the input reads as it did. -/
def recordApartSpec : ChangeSpec := { name := "recordApart", fn := fun _ => fun
  | [d1, d2, d3, d4] => { results := [.lit (.bool true)], args := [d1, d2, d3, d4] }
  | _ => none }
def recordApartRow : OpenClaim := { program := "ytkjcpgnmkjkbbaa", sum := "cf4564197cd4a2f6f4d4707acca46acbc0af0a69e6d062bd1c7869bd58af66fd", func := "gloaming/gloaminglaw08.RecordApart", spec := "recordApart", apart := false }
def RecordApartSaid : Prop := recordApartRow.holds Try.pinned (OpenSpec.ofChange recordApartSpec)

/-- ITS FALSE NEIGHBOUR: 'it returns false'. Refute it at one input. -/
def recordApartWrong : ChangeSpec := { name := "recordApart", fn := fun _ => fun
  | [d1, d2, d3, d4] => { results := [.lit (.bool false)], args := [d1, d2, d3, d4] }
  | _ => none }
def RecordApartWrongFalsely : Prop := recordApartRow.holds Try.pinned (OpenSpec.ofChange recordApartWrong)

/-- 'gloaminglaw08.RecordWords': WHATEVER THE INPUT: true; the input reads as it did. -/
def recordWordsSpec : ChangeSpec := { name := "recordWords", fn := fun _ => fun
  | [d1, d2, d3, d4] => { results := [.lit (.bool true)], args := [d1, d2, d3, d4] }
  | _ => none }
def recordWordsRow : OpenClaim := { program := "ytkjcpgnmkjkbbaa", sum := "cf4564197cd4a2f6f4d4707acca46acbc0af0a69e6d062bd1c7869bd58af66fd", func := "gloaming/gloaminglaw08.RecordWords", spec := "recordWords", inPlace := ["internal/reflectlite.TypeOf"], unfollowed := true, recurses := true, apart := false }
def RecordWordsSaid : Prop := recordWordsRow.holds Try.pinned (OpenSpec.ofChange recordWordsSpec)

/-- ITS FALSE NEIGHBOUR: 'it returns false'. Refute it at one input. -/
def recordWordsWrong : ChangeSpec := { name := "recordWords", fn := fun _ => fun
  | [d1, d2, d3, d4] => { results := [.lit (.bool false)], args := [d1, d2, d3, d4] }
  | _ => none }
def RecordWordsWrongFalsely : Prop := recordWordsRow.holds Try.pinned (OpenSpec.ofChange recordWordsWrong)

/- THE SECOND FORM. 'bulk': how many values and letters a reading holds, each counted each time it is reached (what is shared counts as often as it is met; a slice's spare places count too). A statement '..UptoSaid' is the law's where the arguments, and the package variables that the reading takes, are together of bulk at most 1048576: NARROWER than '..Said'. Prove '..Said' where nothing that the law and all that it calls make is longer than what came in: it says more and counts as full. Else prove '..UptoSaid'. A law counts once. -/
mutual
def uptoBulk {H : Type} : DataW H → Nat
  | .lit (.string bytes) => bytes.length + 1
  | .lit _ => 1
  | .nil => 1
  | .ptr d => uptoBulk d + 1
  | .slice elems spare => uptoBulkAll elems + uptoBulkAll spare + 1
  | .agg parts => uptoBulkAll parts + 1
  | .iface _ d => uptoBulk d + 1
  | .map entries => uptoBulkEntries entries + 1
  | .held _ => 1
def uptoBulkAll {H : Type} : List (DataW H) → Nat
  | [] => 0
  | d :: r => uptoBulk d + uptoBulkAll r
def uptoBulkEntries {H : Type} : List (Lit × DataW H) → Nat
  | [] => 0
  | x :: r => uptoBulkEntry x + uptoBulkEntries r
def uptoBulkEntry {H : Type} : Lit × DataW H → Nat
  | (.string bytes, d) => bytes.length + uptoBulk d + 1
  | (_, d) => uptoBulk d + 1
 end
def uptoSmall : (H : Type) → List (DataW H) → Bool := fun _ ds => decide (uptoBulkAll ds ≤ 1048576)
def OpenSpec.upto (s : _root_.Go.ChangeSpec) : _root_.Go.OpenSpec := { _root_.Go.OpenSpec.ofChange s with cond := some uptoSmall }

/-- 'gloaminglaw08.RecordWaits', WHERE WHAT IT READS IS OF BULK AT MOST 1048576: true; the input reads as it did. -/
def recordWaitsUptoRow : OpenClaim := { program := "ytkjcpgnmkjkbbaa", sum := "cf4564197cd4a2f6f4d4707acca46acbc0af0a69e6d062bd1c7869bd58af66fd", func := "gloaming/gloaminglaw08.RecordWaits", spec := "recordWaits", apart := false, narrowed := true }
def RecordWaitsUptoSaid : Prop := recordWaitsUptoRow.holds Try.pinned (OpenSpec.upto recordWaitsSpec)

/-- 'gloaminglaw08.RecordNext', WHERE WHAT IT READS IS OF BULK AT MOST 1048576: true; the input reads as it did. -/
def recordNextUptoRow : OpenClaim := { program := "ytkjcpgnmkjkbbaa", sum := "cf4564197cd4a2f6f4d4707acca46acbc0af0a69e6d062bd1c7869bd58af66fd", func := "gloaming/gloaminglaw08.RecordNext", spec := "recordNext", apart := false, narrowed := true }
def RecordNextUptoSaid : Prop := recordNextUptoRow.holds Try.pinned (OpenSpec.upto recordNextSpec)

/-- 'gloaminglaw08.RecordReads', WHERE WHAT IT READS IS OF BULK AT MOST 1048576: true; the input reads as it did. -/
def recordReadsUptoRow : OpenClaim := { program := "ytkjcpgnmkjkbbaa", sum := "cf4564197cd4a2f6f4d4707acca46acbc0af0a69e6d062bd1c7869bd58af66fd", func := "gloaming/gloaminglaw08.RecordReads", spec := "recordReads", apart := false, narrowed := true }
def RecordReadsUptoSaid : Prop := recordReadsUptoRow.holds Try.pinned (OpenSpec.upto recordReadsSpec)

/-- 'gloaminglaw08.RecordApart', WHERE WHAT IT READS IS OF BULK AT MOST 1048576: true; the input reads as it did. -/
def recordApartUptoRow : OpenClaim := { program := "ytkjcpgnmkjkbbaa", sum := "cf4564197cd4a2f6f4d4707acca46acbc0af0a69e6d062bd1c7869bd58af66fd", func := "gloaming/gloaminglaw08.RecordApart", spec := "recordApart", apart := false, narrowed := true }
def RecordApartUptoSaid : Prop := recordApartUptoRow.holds Try.pinned (OpenSpec.upto recordApartSpec)

/-- 'gloaminglaw08.RecordWords', WHERE WHAT IT READS IS OF BULK AT MOST 1048576: true; the input reads as it did. -/
def recordWordsUptoRow : OpenClaim := { program := "ytkjcpgnmkjkbbaa", sum := "cf4564197cd4a2f6f4d4707acca46acbc0af0a69e6d062bd1c7869bd58af66fd", func := "gloaming/gloaminglaw08.RecordWords", spec := "recordWords", inPlace := ["internal/reflectlite.TypeOf"], unfollowed := true, recurses := true, apart := false, narrowed := true }
def RecordWordsUptoSaid : Prop := recordWordsUptoRow.holds Try.pinned (OpenSpec.upto recordWordsSpec)

end Rows
end Go.Proofs.Ytkjcpgnmkjkbbaa
