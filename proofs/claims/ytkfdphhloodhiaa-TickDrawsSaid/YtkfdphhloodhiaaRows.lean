/-
  No cell of these rows narrows 'for every input' (looked for: loops, veiled, ifaces, maps, wideKeys, modest, calm, conditions, laid).
  DERIVED. THE GIVEN ROWS OF THIS SEAT. 3 by the template 'for every input the law returns true; each argument reads behind the call as it read before'; 0 by the template 'total and deterministic' (their statements: YtkfdphhloodhiaaTotals.lean).
  GIVEN WITH THE SEED: the statements are not yours to turn. If you find one false, say at which input.
  Laid BY PROGRAM, IN A SANDBOX (cutbox-rows.mjs): the forced cells as the released guide's own fill.sh prints them over the translation bcce7103d8c67f67… (all of the seat's roots in one cut). By AI agents, Wed Nov 11 2026. No macro, syntax, notation, axiom, sorry.
-/
import Derived.Test.YtkfdphhloodhiaaChecked
import GoSem.Claim
import GoSem.ClaimJoined
import GoSem.ClaimMapViews
import Derived.JoinedTies
import Derived.KernelRfl
namespace Go.Proofs.Ytkfdphhloodhiaa
/- THE CELL 'sum', in the pinned program and in every row, IS THE sha256 OF THE DUMP (.gsa) THAT YtkfdphhloodhiaaProg.lean LOADS. Nothing in Lean hashes anything: it is a label: what it is worth is what the hold of that sum in a sandbox is worth. -/
noncomputable def Try.pinned : Pinned := { name := "ytkfdphhloodhiaa", sum := "bcce7103d8c67f677e3c890095bbc3bb91263a79036f917956dc9f0fcde5bf1d", checked := Try.checked }
namespace Rows
def none {H : Type} : Left H := { results := [], args := [] }

/-- 'gloaminglaw04.TickGoes': WHATEVER THE INPUT: true; the input reads as it did. -/
def tickGoesSpec : ChangeSpec := { name := "tickGoes", fn := fun _ => fun
  | [d1, d2, d3] => { results := [.lit (.bool true)], args := [d1, d2, d3] }
  | _ => none }
def tickGoesRow : OpenClaim := { program := "ytkfdphhloodhiaa", sum := "bcce7103d8c67f677e3c890095bbc3bb91263a79036f917956dc9f0fcde5bf1d", func := "gloaming/gloaminglaw04.TickGoes", spec := "tickGoes", apart := false }
def TickGoesSaid : Prop := tickGoesRow.holds Try.pinned (OpenSpec.ofChange tickGoesSpec)

/-- ITS FALSE NEIGHBOUR: 'it returns false'. Refute it at one input. -/
def tickGoesWrong : ChangeSpec := { name := "tickGoes", fn := fun _ => fun
  | [d1, d2, d3] => { results := [.lit (.bool false)], args := [d1, d2, d3] }
  | _ => none }
def TickGoesWrongFalsely : Prop := tickGoesRow.holds Try.pinned (OpenSpec.ofChange tickGoesWrong)

/-- 'gloaminglaw04.TickDraws': WHATEVER THE INPUT: true; the input reads as it did. -/
def tickDrawsSpec : ChangeSpec := { name := "tickDraws", fn := fun _ => fun
  | [d1, d2] => { results := [.lit (.bool true)], args := [d1, d2] }
  | _ => none }
def tickDrawsRow : OpenClaim := { program := "ytkfdphhloodhiaa", sum := "bcce7103d8c67f677e3c890095bbc3bb91263a79036f917956dc9f0fcde5bf1d", func := "gloaming/gloaminglaw04.TickDraws", spec := "tickDraws", apart := false }
def TickDrawsSaid : Prop := tickDrawsRow.holds Try.pinned (OpenSpec.ofChange tickDrawsSpec)

/-- ITS FALSE NEIGHBOUR: 'it returns false'. Refute it at one input. -/
def tickDrawsWrong : ChangeSpec := { name := "tickDraws", fn := fun _ => fun
  | [d1, d2] => { results := [.lit (.bool false)], args := [d1, d2] }
  | _ => none }
def TickDrawsWrongFalsely : Prop := tickDrawsRow.holds Try.pinned (OpenSpec.ofChange tickDrawsWrong)

/-- 'gloaminglaw04.TickTapes': WHATEVER THE INPUT: true; the input reads as it did. -/
def tickTapesSpec : ChangeSpec := { name := "tickTapes", fn := fun _ => fun
  | [d] => { results := [.lit (.bool true)], args := [d] }
  | _ => none }
def tickTapesRow : OpenClaim := { program := "ytkfdphhloodhiaa", sum := "bcce7103d8c67f677e3c890095bbc3bb91263a79036f917956dc9f0fcde5bf1d", func := "gloaming/gloaminglaw04.TickTapes", spec := "tickTapes", apart := false }
def TickTapesSaid : Prop := tickTapesRow.holds Try.pinned (OpenSpec.ofChange tickTapesSpec)

/-- ITS FALSE NEIGHBOUR: 'it returns false'. Refute it at one input. -/
def tickTapesWrong : ChangeSpec := { name := "tickTapes", fn := fun _ => fun
  | [d] => { results := [.lit (.bool false)], args := [d] }
  | _ => none }
def TickTapesWrongFalsely : Prop := tickTapesRow.holds Try.pinned (OpenSpec.ofChange tickTapesWrong)

/- THE SECOND FORM. 'bulk': how many values and letters a reading holds, each counted each time it is reached (what is shared counts as often as it is met; a slice's spare places count too). A statement '..UptoSaid' is the law's where the arguments, and the package variables that the reading takes, are together of bulk at most 1048576: NARROWER than '..Said'. Prove '..Said' where nothing that the law and all that it calls make is longer than what came in: it says more and counts as full. Else prove '..UptoSaid'. A law counts once. -/
mutual
def uptoBulk {H : Type} : DataW H → Nat
  | .lit (.string bytes) => bytes.length + 1
  | .lit _ => 1
  | .nil => 1
  | .ptr d => uptoBulk d + 1
  | .slice elems spare => uptoBulkAll elems + uptoBulkAll spare + 1
  | .agg parts => uptoBulkAll parts + 1
  | .iface _ d => uptoBulk d + 1
  | .map entries => uptoBulkEntries entries + 1
  | .held _ => 1
def uptoBulkAll {H : Type} : List (DataW H) → Nat
  | [] => 0
  | d :: r => uptoBulk d + uptoBulkAll r
def uptoBulkEntries {H : Type} : List (Lit × DataW H) → Nat
  | [] => 0
  | x :: r => uptoBulkEntry x + uptoBulkEntries r
def uptoBulkEntry {H : Type} : Lit × DataW H → Nat
  | (.string bytes, d) => bytes.length + uptoBulk d + 1
  | (_, d) => uptoBulk d + 1
 end
def uptoSmall : (H : Type) → List (DataW H) → Bool := fun _ ds => decide (uptoBulkAll ds ≤ 1048576)
def OpenSpec.upto (s : _root_.Go.ChangeSpec) : _root_.Go.OpenSpec := { _root_.Go.OpenSpec.ofChange s with cond := some uptoSmall }

/-- 'gloaminglaw04.TickGoes', WHERE WHAT IT READS IS OF BULK AT MOST 1048576: true; the input reads as it did. -/
def tickGoesUptoRow : OpenClaim := { program := "ytkfdphhloodhiaa", sum := "bcce7103d8c67f677e3c890095bbc3bb91263a79036f917956dc9f0fcde5bf1d", func := "gloaming/gloaminglaw04.TickGoes", spec := "tickGoes", apart := false, narrowed := true }
def TickGoesUptoSaid : Prop := tickGoesUptoRow.holds Try.pinned (OpenSpec.upto tickGoesSpec)

/-- 'gloaminglaw04.TickDraws', WHERE WHAT IT READS IS OF BULK AT MOST 1048576: true; the input reads as it did. -/
def tickDrawsUptoRow : OpenClaim := { program := "ytkfdphhloodhiaa", sum := "bcce7103d8c67f677e3c890095bbc3bb91263a79036f917956dc9f0fcde5bf1d", func := "gloaming/gloaminglaw04.TickDraws", spec := "tickDraws", apart := false, narrowed := true }
def TickDrawsUptoSaid : Prop := tickDrawsUptoRow.holds Try.pinned (OpenSpec.upto tickDrawsSpec)

/-- 'gloaminglaw04.TickTapes', WHERE WHAT IT READS IS OF BULK AT MOST 1048576: true; the input reads as it did. -/
def tickTapesUptoRow : OpenClaim := { program := "ytkfdphhloodhiaa", sum := "bcce7103d8c67f677e3c890095bbc3bb91263a79036f917956dc9f0fcde5bf1d", func := "gloaming/gloaminglaw04.TickTapes", spec := "tickTapes", apart := false, narrowed := true }
def TickTapesUptoSaid : Prop := tickTapesUptoRow.holds Try.pinned (OpenSpec.upto tickTapesSpec)

end Rows
end Go.Proofs.Ytkfdphhloodhiaa
