/-
  No cell of these rows narrows 'for every input' (looked for: loops, veiled, ifaces, maps, wideKeys, modest, calm, conditions, laid).
  DERIVED. THE GIVEN ROWS OF THIS SEAT. 4 by the template 'for every input the law returns true; each argument reads behind the call as it read before'; 0 by the template 'total and deterministic' (their statements: YtifghdombpcpjaaTotals.lean).
  GIVEN WITH THE SEED: the statements are not yours to turn. If you find one false, say at which input.
  Laid BY PROGRAM, IN A SANDBOX (cutbox-rows.mjs): the forced cells as the released guide's own fill.sh prints them over the translation 194dafc77e367af5… (all of the seat's roots in one cut). By AI agents, Wed Nov 11 2026. No macro, syntax, notation, axiom, sorry.
-/
import Derived.Test.YtifghdombpcpjaaChecked
import GoSem.Claim
import GoSem.ClaimJoined
import GoSem.ClaimMapViews
import Derived.JoinedTies
import Derived.KernelRfl
namespace Go.Proofs.Ytifghdombpcpjaa
/- THE CELL 'sum', in the pinned program and in every row, IS THE sha256 OF THE DUMP (.gsa) THAT YtifghdombpcpjaaProg.lean LOADS. Nothing in Lean hashes anything: it is a label: what it is worth is what the hold of that sum in a sandbox is worth. -/
noncomputable def Try.pinned : Pinned := { name := "ytifghdombpcpjaa", sum := "194dafc77e367af5c38cc709f8215390067b648e02631188741faa7a44a94829", checked := Try.checked }
namespace Rows
def none {H : Type} : Left H := { results := [], args := [] }

/-- 'gloaminglaw05.RulesPlaces': WHATEVER THE INPUT: true; the input reads as it did. -/
def rulesPlacesSpec : ChangeSpec := { name := "rulesPlaces", fn := fun _ => fun
  | [d1, d2, d3, d4] => { results := [.lit (.bool true)], args := [d1, d2, d3, d4] }
  | _ => none }
def rulesPlacesRow : OpenClaim := { program := "ytifghdombpcpjaa", sum := "194dafc77e367af5c38cc709f8215390067b648e02631188741faa7a44a94829", func := "gloaming/gloaminglaw05.RulesPlaces", spec := "rulesPlaces", apart := false }
def RulesPlacesSaid : Prop := rulesPlacesRow.holds Try.pinned (OpenSpec.ofChange rulesPlacesSpec)

/-- ITS FALSE NEIGHBOUR: 'it returns false'. Refute it at one input. -/
def rulesPlacesWrong : ChangeSpec := { name := "rulesPlaces", fn := fun _ => fun
  | [d1, d2, d3, d4] => { results := [.lit (.bool false)], args := [d1, d2, d3, d4] }
  | _ => none }
def RulesPlacesWrongFalsely : Prop := rulesPlacesRow.holds Try.pinned (OpenSpec.ofChange rulesPlacesWrong)

/-- 'gloaminglaw05.RulesAgents': WHATEVER THE INPUT: true; the input reads as it did. -/
def rulesAgentsSpec : ChangeSpec := { name := "rulesAgents", fn := fun _ => fun
  | [d] => { results := [.lit (.bool true)], args := [d] }
  | _ => none }
def rulesAgentsRow : OpenClaim := { program := "ytifghdombpcpjaa", sum := "194dafc77e367af5c38cc709f8215390067b648e02631188741faa7a44a94829", func := "gloaming/gloaminglaw05.RulesAgents", spec := "rulesAgents", apart := false }
def RulesAgentsSaid : Prop := rulesAgentsRow.holds Try.pinned (OpenSpec.ofChange rulesAgentsSpec)

/-- ITS FALSE NEIGHBOUR: 'it returns false'. Refute it at one input. -/
def rulesAgentsWrong : ChangeSpec := { name := "rulesAgents", fn := fun _ => fun
  | [d] => { results := [.lit (.bool false)], args := [d] }
  | _ => none }
def RulesAgentsWrongFalsely : Prop := rulesAgentsRow.holds Try.pinned (OpenSpec.ofChange rulesAgentsWrong)

/-- 'gloaminglaw05.RulesShards': WHATEVER THE INPUT: true; the input reads as it did. -/
def rulesShardsSpec : ChangeSpec := { name := "rulesShards", fn := fun _ => fun
  | [d1, d2, d3, d4] => { results := [.lit (.bool true)], args := [d1, d2, d3, d4] }
  | _ => none }
def rulesShardsRow : OpenClaim := { program := "ytifghdombpcpjaa", sum := "194dafc77e367af5c38cc709f8215390067b648e02631188741faa7a44a94829", func := "gloaming/gloaminglaw05.RulesShards", spec := "rulesShards", apart := false }
def RulesShardsSaid : Prop := rulesShardsRow.holds Try.pinned (OpenSpec.ofChange rulesShardsSpec)

/-- ITS FALSE NEIGHBOUR: 'it returns false'. Refute it at one input. -/
def rulesShardsWrong : ChangeSpec := { name := "rulesShards", fn := fun _ => fun
  | [d1, d2, d3, d4] => { results := [.lit (.bool false)], args := [d1, d2, d3, d4] }
  | _ => none }
def RulesShardsWrongFalsely : Prop := rulesShardsRow.holds Try.pinned (OpenSpec.ofChange rulesShardsWrong)

/-- 'gloaminglaw05.RulesBands': WHATEVER THE INPUT: true; the input reads as it did. -/
def rulesBandsSpec : ChangeSpec := { name := "rulesBands", fn := fun _ => fun
  | [d1, d2, d3, d4] => { results := [.lit (.bool true)], args := [d1, d2, d3, d4] }
  | _ => none }
def rulesBandsRow : OpenClaim := { program := "ytifghdombpcpjaa", sum := "194dafc77e367af5c38cc709f8215390067b648e02631188741faa7a44a94829", func := "gloaming/gloaminglaw05.RulesBands", spec := "rulesBands", apart := false }
def RulesBandsSaid : Prop := rulesBandsRow.holds Try.pinned (OpenSpec.ofChange rulesBandsSpec)

/-- ITS FALSE NEIGHBOUR: 'it returns false'. Refute it at one input. -/
def rulesBandsWrong : ChangeSpec := { name := "rulesBands", fn := fun _ => fun
  | [d1, d2, d3, d4] => { results := [.lit (.bool false)], args := [d1, d2, d3, d4] }
  | _ => none }
def RulesBandsWrongFalsely : Prop := rulesBandsRow.holds Try.pinned (OpenSpec.ofChange rulesBandsWrong)

/- THE SECOND FORM. 'bulk': how many values and letters a reading holds, each counted each time it is reached (what is shared counts as often as it is met; a slice's spare places count too). A statement '..UptoSaid' is the law's where the arguments, and the package variables that the reading takes, are together of bulk at most 1048576: NARROWER than '..Said'. Prove '..Said' where nothing that the law and all that it calls make is longer than what came in: it says more and counts as full. Else prove '..UptoSaid'. A law counts once. -/
mutual
def uptoBulk {H : Type} : DataW H → Nat
  | .lit (.string bytes) => bytes.length + 1
  | .lit _ => 1
  | .nil => 1
  | .ptr d => uptoBulk d + 1
  | .slice elems spare => uptoBulkAll elems + uptoBulkAll spare + 1
  | .agg parts => uptoBulkAll parts + 1
  | .iface _ d => uptoBulk d + 1
  | .map entries => uptoBulkEntries entries + 1
  | .held _ => 1
def uptoBulkAll {H : Type} : List (DataW H) → Nat
  | [] => 0
  | d :: r => uptoBulk d + uptoBulkAll r
def uptoBulkEntries {H : Type} : List (Lit × DataW H) → Nat
  | [] => 0
  | x :: r => uptoBulkEntry x + uptoBulkEntries r
def uptoBulkEntry {H : Type} : Lit × DataW H → Nat
  | (.string bytes, d) => bytes.length + uptoBulk d + 1
  | (_, d) => uptoBulk d + 1
 end
def uptoSmall : (H : Type) → List (DataW H) → Bool := fun _ ds => decide (uptoBulkAll ds ≤ 1048576)
def OpenSpec.upto (s : _root_.Go.ChangeSpec) : _root_.Go.OpenSpec := { _root_.Go.OpenSpec.ofChange s with cond := some uptoSmall }

/-- 'gloaminglaw05.RulesPlaces', WHERE WHAT IT READS IS OF BULK AT MOST 1048576: true; the input reads as it did. -/
def rulesPlacesUptoRow : OpenClaim := { program := "ytifghdombpcpjaa", sum := "194dafc77e367af5c38cc709f8215390067b648e02631188741faa7a44a94829", func := "gloaming/gloaminglaw05.RulesPlaces", spec := "rulesPlaces", apart := false, narrowed := true }
def RulesPlacesUptoSaid : Prop := rulesPlacesUptoRow.holds Try.pinned (OpenSpec.upto rulesPlacesSpec)

/-- 'gloaminglaw05.RulesAgents', WHERE WHAT IT READS IS OF BULK AT MOST 1048576: true; the input reads as it did. -/
def rulesAgentsUptoRow : OpenClaim := { program := "ytifghdombpcpjaa", sum := "194dafc77e367af5c38cc709f8215390067b648e02631188741faa7a44a94829", func := "gloaming/gloaminglaw05.RulesAgents", spec := "rulesAgents", apart := false, narrowed := true }
def RulesAgentsUptoSaid : Prop := rulesAgentsUptoRow.holds Try.pinned (OpenSpec.upto rulesAgentsSpec)

/-- 'gloaminglaw05.RulesShards', WHERE WHAT IT READS IS OF BULK AT MOST 1048576: true; the input reads as it did. -/
def rulesShardsUptoRow : OpenClaim := { program := "ytifghdombpcpjaa", sum := "194dafc77e367af5c38cc709f8215390067b648e02631188741faa7a44a94829", func := "gloaming/gloaminglaw05.RulesShards", spec := "rulesShards", apart := false, narrowed := true }
def RulesShardsUptoSaid : Prop := rulesShardsUptoRow.holds Try.pinned (OpenSpec.upto rulesShardsSpec)

/-- 'gloaminglaw05.RulesBands', WHERE WHAT IT READS IS OF BULK AT MOST 1048576: true; the input reads as it did. -/
def rulesBandsUptoRow : OpenClaim := { program := "ytifghdombpcpjaa", sum := "194dafc77e367af5c38cc709f8215390067b648e02631188741faa7a44a94829", func := "gloaming/gloaminglaw05.RulesBands", spec := "rulesBands", apart := false, narrowed := true }
def RulesBandsUptoSaid : Prop := rulesBandsUptoRow.holds Try.pinned (OpenSpec.upto rulesBandsSpec)

end Rows
end Go.Proofs.Ytifghdombpcpjaa
