/-
  No cell of these rows narrows 'for every input' (looked for: loops, veiled, ifaces, maps, wideKeys, modest, calm, conditions, laid).
  DERIVED. THE GIVEN ROWS OF THIS SEAT. 3 by the template 'for every input the law returns true; each argument reads behind the call as it read before'; 0 by the template 'total and deterministic' (their statements: YtofkbhilhgmnlaaTotals.lean).
  GIVEN WITH THE SEED: the statements are not yours to turn. If you find one false, say at which input.
  Laid BY PROGRAM, IN A SANDBOX (cutbox-rows.mjs): the forced cells as the released guide's own fill.sh prints them over the translation 0ab8c8e595b52dad… (all of the seat's roots in one cut). By AI agents, Wed Nov 11 2026. No macro, syntax, notation, axiom, sorry.
-/
import Derived.Test.YtofkbhilhgmnlaaChecked
import GoSem.Claim
import GoSem.ClaimJoined
import GoSem.ClaimMapViews
import Derived.JoinedTies
import Derived.KernelRfl
namespace Go.Proofs.Ytofkbhilhgmnlaa
/- THE CELL 'sum', in the pinned program and in every row, IS THE sha256 OF THE DUMP (.gsa) THAT YtofkbhilhgmnlaaProg.lean LOADS. Nothing in Lean hashes anything: it is a label: what it is worth is what the hold of that sum in a sandbox is worth. -/
noncomputable def Try.pinned : Pinned := { name := "ytofkbhilhgmnlaa", sum := "0ab8c8e595b52dad90cd29331232f6bdbdb0d9f32981499c33a6699b399d60b6", checked := Try.checked }
namespace Rows
def none {H : Type} : Left H := { results := [], args := [] }

/-- 'gloaminglaw09.TraceBegins': WHATEVER THE INPUT: true; the input reads as it did. -/
def traceBeginsSpec : ChangeSpec := { name := "traceBegins", fn := fun _ => fun
  | [d1, d2, d3] => { results := [.lit (.bool true)], args := [d1, d2, d3] }
  | _ => none }
def traceBeginsRow : OpenClaim := { program := "ytofkbhilhgmnlaa", sum := "0ab8c8e595b52dad90cd29331232f6bdbdb0d9f32981499c33a6699b399d60b6", func := "gloaming/gloaminglaw09.TraceBegins", spec := "traceBegins", unfollowed := true, recurses := true, plainKeys := false, apart := false }
def TraceBeginsSaid : Prop := traceBeginsRow.holds Try.pinned (OpenSpec.ofChange traceBeginsSpec)

/-- ITS FALSE NEIGHBOUR: 'it returns false'. Refute it at one input. -/
def traceBeginsWrong : ChangeSpec := { name := "traceBegins", fn := fun _ => fun
  | [d1, d2, d3] => { results := [.lit (.bool false)], args := [d1, d2, d3] }
  | _ => none }
def TraceBeginsWrongFalsely : Prop := traceBeginsRow.holds Try.pinned (OpenSpec.ofChange traceBeginsWrong)

/-- 'gloaminglaw09.TraceLies': WHATEVER THE INPUT: true; the input reads as it did. -/
def traceLiesSpec : ChangeSpec := { name := "traceLies", fn := fun _ => fun
  | [d1, d2, d3] => { results := [.lit (.bool true)], args := [d1, d2, d3] }
  | _ => none }
def traceLiesRow : OpenClaim := { program := "ytofkbhilhgmnlaa", sum := "0ab8c8e595b52dad90cd29331232f6bdbdb0d9f32981499c33a6699b399d60b6", func := "gloaming/gloaminglaw09.TraceLies", spec := "traceLies", unfollowed := true, recurses := true, plainKeys := false, apart := false }
def TraceLiesSaid : Prop := traceLiesRow.holds Try.pinned (OpenSpec.ofChange traceLiesSpec)

/-- ITS FALSE NEIGHBOUR: 'it returns false'. Refute it at one input. -/
def traceLiesWrong : ChangeSpec := { name := "traceLies", fn := fun _ => fun
  | [d1, d2, d3] => { results := [.lit (.bool false)], args := [d1, d2, d3] }
  | _ => none }
def TraceLiesWrongFalsely : Prop := traceLiesRow.holds Try.pinned (OpenSpec.ofChange traceLiesWrong)

/-- 'gloaminglaw09.TraceSums': WHATEVER THE INPUT: true; the input reads as it did. -/
def traceSumsSpec : ChangeSpec := { name := "traceSums", fn := fun _ => fun
  | [d1, d2] => { results := [.lit (.bool true)], args := [d1, d2] }
  | _ => none }
def traceSumsRow : OpenClaim := { program := "ytofkbhilhgmnlaa", sum := "0ab8c8e595b52dad90cd29331232f6bdbdb0d9f32981499c33a6699b399d60b6", func := "gloaming/gloaminglaw09.TraceSums", spec := "traceSums", inPlace := ["internal/reflectlite.TypeOf"], unfollowed := true, recurses := true, plainKeys := false, apart := false }
def TraceSumsSaid : Prop := traceSumsRow.holds Try.pinned (OpenSpec.ofChange traceSumsSpec)

/-- ITS FALSE NEIGHBOUR: 'it returns false'. Refute it at one input. -/
def traceSumsWrong : ChangeSpec := { name := "traceSums", fn := fun _ => fun
  | [d1, d2] => { results := [.lit (.bool false)], args := [d1, d2] }
  | _ => none }
def TraceSumsWrongFalsely : Prop := traceSumsRow.holds Try.pinned (OpenSpec.ofChange traceSumsWrong)

/- THE SECOND FORM. 'bulk': how many values and letters a reading holds, each counted each time it is reached (what is shared counts as often as it is met; a slice's spare places count too). A statement '..UptoSaid' is the law's where the arguments, and the package variables that the reading takes, are together of bulk at most 1048576: NARROWER than '..Said'. Prove '..Said' where nothing that the law and all that it calls make is longer than what came in: it says more and counts as full. Else prove '..UptoSaid'. A law counts once. -/
mutual
def uptoBulk {H : Type} : DataW H → Nat
  | .lit (.string bytes) => bytes.length + 1
  | .lit _ => 1
  | .nil => 1
  | .ptr d => uptoBulk d + 1
  | .slice elems spare => uptoBulkAll elems + uptoBulkAll spare + 1
  | .agg parts => uptoBulkAll parts + 1
  | .iface _ d => uptoBulk d + 1
  | .map entries => uptoBulkEntries entries + 1
  | .held _ => 1
def uptoBulkAll {H : Type} : List (DataW H) → Nat
  | [] => 0
  | d :: r => uptoBulk d + uptoBulkAll r
def uptoBulkEntries {H : Type} : List (Lit × DataW H) → Nat
  | [] => 0
  | x :: r => uptoBulkEntry x + uptoBulkEntries r
def uptoBulkEntry {H : Type} : Lit × DataW H → Nat
  | (.string bytes, d) => bytes.length + uptoBulk d + 1
  | (_, d) => uptoBulk d + 1
 end
def uptoSmall : (H : Type) → List (DataW H) → Bool := fun _ ds => decide (uptoBulkAll ds ≤ 1048576)
def OpenSpec.upto (s : _root_.Go.ChangeSpec) : _root_.Go.OpenSpec := { _root_.Go.OpenSpec.ofChange s with cond := some uptoSmall }

/-- 'gloaminglaw09.TraceBegins', WHERE WHAT IT READS IS OF BULK AT MOST 1048576: true; the input reads as it did. -/
def traceBeginsUptoRow : OpenClaim := { program := "ytofkbhilhgmnlaa", sum := "0ab8c8e595b52dad90cd29331232f6bdbdb0d9f32981499c33a6699b399d60b6", func := "gloaming/gloaminglaw09.TraceBegins", spec := "traceBegins", unfollowed := true, recurses := true, plainKeys := false, apart := false, narrowed := true }
def TraceBeginsUptoSaid : Prop := traceBeginsUptoRow.holds Try.pinned (OpenSpec.upto traceBeginsSpec)

/-- 'gloaminglaw09.TraceLies', WHERE WHAT IT READS IS OF BULK AT MOST 1048576: true; the input reads as it did. -/
def traceLiesUptoRow : OpenClaim := { program := "ytofkbhilhgmnlaa", sum := "0ab8c8e595b52dad90cd29331232f6bdbdb0d9f32981499c33a6699b399d60b6", func := "gloaming/gloaminglaw09.TraceLies", spec := "traceLies", unfollowed := true, recurses := true, plainKeys := false, apart := false, narrowed := true }
def TraceLiesUptoSaid : Prop := traceLiesUptoRow.holds Try.pinned (OpenSpec.upto traceLiesSpec)

/-- 'gloaminglaw09.TraceSums', WHERE WHAT IT READS IS OF BULK AT MOST 1048576: true; the input reads as it did. -/
def traceSumsUptoRow : OpenClaim := { program := "ytofkbhilhgmnlaa", sum := "0ab8c8e595b52dad90cd29331232f6bdbdb0d9f32981499c33a6699b399d60b6", func := "gloaming/gloaminglaw09.TraceSums", spec := "traceSums", inPlace := ["internal/reflectlite.TypeOf"], unfollowed := true, recurses := true, plainKeys := false, apart := false, narrowed := true }
def TraceSumsUptoSaid : Prop := traceSumsUptoRow.holds Try.pinned (OpenSpec.upto traceSumsSpec)

end Rows
end Go.Proofs.Ytofkbhilhgmnlaa
