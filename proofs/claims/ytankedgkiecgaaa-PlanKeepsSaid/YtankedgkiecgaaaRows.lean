/-
  No cell of these rows narrows 'for every input' (looked for: loops, veiled, ifaces, maps, wideKeys, modest, calm, conditions, laid).
  DERIVED. THE GIVEN ROWS OF THIS SEAT. 5 by the template 'for every input the law returns true; each argument reads behind the call as it read before'; 0 by the template 'total and deterministic' (their statements: YtankedgkiecgaaaTotals.lean).
  GIVEN WITH THE SEED: the statements are not yours to turn. If you find one false, say at which input.
  Laid BY PROGRAM, IN A SANDBOX (cutbox-rows.mjs): the forced cells as the released guide's own fill.sh prints them over the translation d3c3b590348eaeba… (all of the seat's roots in one cut). By AI agents, Wed Nov 11 2026. No macro, syntax, notation, axiom, sorry.
-/
import Derived.Test.YtankedgkiecgaaaChecked
import GoSem.Claim
import GoSem.ClaimJoined
import GoSem.ClaimMapViews
import Derived.JoinedTies
import Derived.KernelRfl
namespace Go.Proofs.Ytankedgkiecgaaa
/- THE CELL 'sum', in the pinned program and in every row, IS THE sha256 OF THE DUMP (.gsa) THAT YtankedgkiecgaaaProg.lean LOADS. Nothing in Lean hashes anything: it is a label: what it is worth is what the hold of that sum in a sandbox is worth. -/
noncomputable def Try.pinned : Pinned := { name := "ytankedgkiecgaaa", sum := "d3c3b590348eaeba710161b0d9198acfb0aaf00c0209754551ef7cb8c2ea31a1", checked := Try.checked }
namespace Rows
def none {H : Type} : Left H := { results := [], args := [] }

/-- 'gloaminglaw21.PlanMixes': WHATEVER THE INPUT: true; the input reads as it did. -/
def planMixesSpec : ChangeSpec := { name := "planMixes", fn := fun _ => fun
  | [d1, d2] => { results := [.lit (.bool true)], args := [d1, d2] }
  | _ => none }
def planMixesRow : OpenClaim := { program := "ytankedgkiecgaaa", sum := "d3c3b590348eaeba710161b0d9198acfb0aaf00c0209754551ef7cb8c2ea31a1", func := "gloaming/gloaminglaw21.PlanMixes", spec := "planMixes", unfollowed := true, recurses := true, apart := false }
def PlanMixesSaid : Prop := planMixesRow.holds Try.pinned (OpenSpec.ofChange planMixesSpec)

/-- ITS FALSE NEIGHBOUR: 'it returns false'. Refute it at one input. -/
def planMixesWrong : ChangeSpec := { name := "planMixes", fn := fun _ => fun
  | [d1, d2] => { results := [.lit (.bool false)], args := [d1, d2] }
  | _ => none }
def PlanMixesWrongFalsely : Prop := planMixesRow.holds Try.pinned (OpenSpec.ofChange planMixesWrong)

/-- 'gloaminglaw21.PlanCounts': WHATEVER THE INPUT: true; the input reads as it did. -/
def planCountsSpec : ChangeSpec := { name := "planCounts", fn := fun _ => fun
  | [d1, d2, d3, d4] => { results := [.lit (.bool true)], args := [d1, d2, d3, d4] }
  | _ => none }
def planCountsRow : OpenClaim := { program := "ytankedgkiecgaaa", sum := "d3c3b590348eaeba710161b0d9198acfb0aaf00c0209754551ef7cb8c2ea31a1", func := "gloaming/gloaminglaw21.PlanCounts", spec := "planCounts", unfollowed := true, recurses := true, apart := false }
def PlanCountsSaid : Prop := planCountsRow.holds Try.pinned (OpenSpec.ofChange planCountsSpec)

/-- ITS FALSE NEIGHBOUR: 'it returns false'. Refute it at one input. -/
def planCountsWrong : ChangeSpec := { name := "planCounts", fn := fun _ => fun
  | [d1, d2, d3, d4] => { results := [.lit (.bool false)], args := [d1, d2, d3, d4] }
  | _ => none }
def PlanCountsWrongFalsely : Prop := planCountsRow.holds Try.pinned (OpenSpec.ofChange planCountsWrong)

/-- 'gloaminglaw21.PlanLays': WHATEVER THE INPUT: true; the input reads as it did. -/
def planLaysSpec : ChangeSpec := { name := "planLays", fn := fun _ => fun
  | [d1, d2, d3, d4, d5] => { results := [.lit (.bool true)], args := [d1, d2, d3, d4, d5] }
  | _ => none }
def planLaysRow : OpenClaim := { program := "ytankedgkiecgaaa", sum := "d3c3b590348eaeba710161b0d9198acfb0aaf00c0209754551ef7cb8c2ea31a1", func := "gloaming/gloaminglaw21.PlanLays", spec := "planLays", unfollowed := true, recurses := true, apart := false }
def PlanLaysSaid : Prop := planLaysRow.holds Try.pinned (OpenSpec.ofChange planLaysSpec)

/-- ITS FALSE NEIGHBOUR: 'it returns false'. Refute it at one input. -/
def planLaysWrong : ChangeSpec := { name := "planLays", fn := fun _ => fun
  | [d1, d2, d3, d4, d5] => { results := [.lit (.bool false)], args := [d1, d2, d3, d4, d5] }
  | _ => none }
def PlanLaysWrongFalsely : Prop := planLaysRow.holds Try.pinned (OpenSpec.ofChange planLaysWrong)

/-- 'gloaminglaw21.PlanRounds': WHATEVER THE INPUT: true; the input reads as it did. -/
def planRoundsSpec : ChangeSpec := { name := "planRounds", fn := fun _ => fun
  | [d1, d2] => { results := [.lit (.bool true)], args := [d1, d2] }
  | _ => none }
def planRoundsRow : OpenClaim := { program := "ytankedgkiecgaaa", sum := "d3c3b590348eaeba710161b0d9198acfb0aaf00c0209754551ef7cb8c2ea31a1", func := "gloaming/gloaminglaw21.PlanRounds", spec := "planRounds", unfollowed := true, recurses := true, apart := false }
def PlanRoundsSaid : Prop := planRoundsRow.holds Try.pinned (OpenSpec.ofChange planRoundsSpec)

/-- ITS FALSE NEIGHBOUR: 'it returns false'. Refute it at one input. -/
def planRoundsWrong : ChangeSpec := { name := "planRounds", fn := fun _ => fun
  | [d1, d2] => { results := [.lit (.bool false)], args := [d1, d2] }
  | _ => none }
def PlanRoundsWrongFalsely : Prop := planRoundsRow.holds Try.pinned (OpenSpec.ofChange planRoundsWrong)

/-- 'gloaminglaw21.PlanKeeps': WHATEVER THE INPUT: true; the input reads as it did. -/
def planKeepsSpec : ChangeSpec := { name := "planKeeps", fn := fun _ => fun
  | [d1, d2, d3] => { results := [.lit (.bool true)], args := [d1, d2, d3] }
  | _ => none }
def planKeepsRow : OpenClaim := { program := "ytankedgkiecgaaa", sum := "d3c3b590348eaeba710161b0d9198acfb0aaf00c0209754551ef7cb8c2ea31a1", func := "gloaming/gloaminglaw21.PlanKeeps", spec := "planKeeps", unfollowed := true, recurses := true, apart := false }
def PlanKeepsSaid : Prop := planKeepsRow.holds Try.pinned (OpenSpec.ofChange planKeepsSpec)

/-- ITS FALSE NEIGHBOUR: 'it returns false'. Refute it at one input. -/
def planKeepsWrong : ChangeSpec := { name := "planKeeps", fn := fun _ => fun
  | [d1, d2, d3] => { results := [.lit (.bool false)], args := [d1, d2, d3] }
  | _ => none }
def PlanKeepsWrongFalsely : Prop := planKeepsRow.holds Try.pinned (OpenSpec.ofChange planKeepsWrong)

/- THE SECOND FORM. 'bulk': how many values and letters a reading holds, each counted each time it is reached (what is shared counts as often as it is met; a slice's spare places count too). A statement '..UptoSaid' is the law's where the arguments, and the package variables that the reading takes, are together of bulk at most 1048576: NARROWER than '..Said'. Prove '..Said' where nothing that the law and all that it calls make is longer than what came in: it says more and counts as full. Else prove '..UptoSaid'. A law counts once. -/
mutual
def uptoBulk {H : Type} : DataW H → Nat
  | .lit (.string bytes) => bytes.length + 1
  | .lit _ => 1
  | .nil => 1
  | .ptr d => uptoBulk d + 1
  | .slice elems spare => uptoBulkAll elems + uptoBulkAll spare + 1
  | .agg parts => uptoBulkAll parts + 1
  | .iface _ d => uptoBulk d + 1
  | .map entries => uptoBulkEntries entries + 1
  | .held _ => 1
def uptoBulkAll {H : Type} : List (DataW H) → Nat
  | [] => 0
  | d :: r => uptoBulk d + uptoBulkAll r
def uptoBulkEntries {H : Type} : List (Lit × DataW H) → Nat
  | [] => 0
  | x :: r => uptoBulkEntry x + uptoBulkEntries r
def uptoBulkEntry {H : Type} : Lit × DataW H → Nat
  | (.string bytes, d) => bytes.length + uptoBulk d + 1
  | (_, d) => uptoBulk d + 1
 end
def uptoSmall : (H : Type) → List (DataW H) → Bool := fun _ ds => decide (uptoBulkAll ds ≤ 1048576)
def OpenSpec.upto (s : _root_.Go.ChangeSpec) : _root_.Go.OpenSpec := { _root_.Go.OpenSpec.ofChange s with cond := some uptoSmall }

/-- 'gloaminglaw21.PlanMixes', WHERE WHAT IT READS IS OF BULK AT MOST 1048576: true; the input reads as it did. -/
def planMixesUptoRow : OpenClaim := { program := "ytankedgkiecgaaa", sum := "d3c3b590348eaeba710161b0d9198acfb0aaf00c0209754551ef7cb8c2ea31a1", func := "gloaming/gloaminglaw21.PlanMixes", spec := "planMixes", unfollowed := true, recurses := true, apart := false, narrowed := true }
def PlanMixesUptoSaid : Prop := planMixesUptoRow.holds Try.pinned (OpenSpec.upto planMixesSpec)

/-- 'gloaminglaw21.PlanCounts', WHERE WHAT IT READS IS OF BULK AT MOST 1048576: true; the input reads as it did. -/
def planCountsUptoRow : OpenClaim := { program := "ytankedgkiecgaaa", sum := "d3c3b590348eaeba710161b0d9198acfb0aaf00c0209754551ef7cb8c2ea31a1", func := "gloaming/gloaminglaw21.PlanCounts", spec := "planCounts", unfollowed := true, recurses := true, apart := false, narrowed := true }
def PlanCountsUptoSaid : Prop := planCountsUptoRow.holds Try.pinned (OpenSpec.upto planCountsSpec)

/-- 'gloaminglaw21.PlanLays', WHERE WHAT IT READS IS OF BULK AT MOST 1048576: true; the input reads as it did. -/
def planLaysUptoRow : OpenClaim := { program := "ytankedgkiecgaaa", sum := "d3c3b590348eaeba710161b0d9198acfb0aaf00c0209754551ef7cb8c2ea31a1", func := "gloaming/gloaminglaw21.PlanLays", spec := "planLays", unfollowed := true, recurses := true, apart := false, narrowed := true }
def PlanLaysUptoSaid : Prop := planLaysUptoRow.holds Try.pinned (OpenSpec.upto planLaysSpec)

/-- 'gloaminglaw21.PlanRounds', WHERE WHAT IT READS IS OF BULK AT MOST 1048576: true; the input reads as it did. -/
def planRoundsUptoRow : OpenClaim := { program := "ytankedgkiecgaaa", sum := "d3c3b590348eaeba710161b0d9198acfb0aaf00c0209754551ef7cb8c2ea31a1", func := "gloaming/gloaminglaw21.PlanRounds", spec := "planRounds", unfollowed := true, recurses := true, apart := false, narrowed := true }
def PlanRoundsUptoSaid : Prop := planRoundsUptoRow.holds Try.pinned (OpenSpec.upto planRoundsSpec)

/-- 'gloaminglaw21.PlanKeeps', WHERE WHAT IT READS IS OF BULK AT MOST 1048576: true; the input reads as it did. -/
def planKeepsUptoRow : OpenClaim := { program := "ytankedgkiecgaaa", sum := "d3c3b590348eaeba710161b0d9198acfb0aaf00c0209754551ef7cb8c2ea31a1", func := "gloaming/gloaminglaw21.PlanKeeps", spec := "planKeeps", unfollowed := true, recurses := true, apart := false, narrowed := true }
def PlanKeepsUptoSaid : Prop := planKeepsUptoRow.holds Try.pinned (OpenSpec.upto planKeepsSpec)

end Rows
end Go.Proofs.Ytankedgkiecgaaa
