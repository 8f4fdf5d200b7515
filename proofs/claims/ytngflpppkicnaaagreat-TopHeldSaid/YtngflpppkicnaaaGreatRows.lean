/-
  No cell of these rows narrows 'for every input' (looked for: loops, veiled, ifaces, maps, wideKeys, modest, calm, conditions, laid).
  DERIVED. THE GIVEN ROWS OF THIS SEAT. 7 by the template 'for every input the law returns true; each argument reads behind the call as it read before'; 0 by the template 'total and deterministic' (their statements: YtngflpppkicnaaaGreatTotals.lean).
  GIVEN WITH THE SEED: the statements are not yours to turn. If you find one false, say at which input.
  Laid BY PROGRAM, IN A SANDBOX (cutbox-rows.mjs): the forced cells as the released guide's own fill.sh prints them over the translation ab6293c85e3d2cd9… (all of the seat's roots in one cut). By AI agents, Wed Nov 11 2026. No macro, syntax, notation, axiom, sorry.
-/
import Derived.Test.YtngflpppkicnaaaGreatChecked
import GoSem.Claim
import GoSem.ClaimJoined
import GoSem.ClaimMapViews
import Derived.JoinedTies
import Derived.KernelRfl
namespace Go.Proofs.YtngflpppkicnaaaGreat
/- THE CELL 'sum', in the pinned program and in every row, IS THE sha256 OF THE DUMP (.gsa) THAT YtngflpppkicnaaaGreatProg.lean LOADS. Nothing in Lean hashes anything: it is a label: what it is worth is what the hold of that sum in a sandbox is worth. -/
noncomputable def Tryz.pinned : Pinned := { name := "ytngflpppkicnaaagreat", sum := "ab6293c85e3d2cd900ab73deee7eb917da7705a8aae1854313cf17dec49b3467", checked := Tryz.checked }
namespace Rows
def none {H : Type} : Left H := { results := [], args := [] }

/-- 'gloamingtop.TopEnds': WHATEVER THE INPUT: true; the input reads as it did. -/
def topEndsSpec : ChangeSpec := { name := "topEnds", fn := fun _ => fun
  | [d1, d2] => { results := [.lit (.bool true)], args := [d1, d2] }
  | _ => none }
def topEndsRow : OpenClaim := { program := "ytngflpppkicnaaagreat", sum := "ab6293c85e3d2cd900ab73deee7eb917da7705a8aae1854313cf17dec49b3467", func := "gloaming/gloamingtop.TopEnds", spec := "topEnds", unfollowed := true, recurses := true, plainKeys := false, apart := false }
def TopEndsSaid : Prop := topEndsRow.holds Tryz.pinned (OpenSpec.ofChange topEndsSpec)

/-- ITS FALSE NEIGHBOUR: 'it returns false'. Refute it at one input. -/
def topEndsWrong : ChangeSpec := { name := "topEnds", fn := fun _ => fun
  | [d1, d2] => { results := [.lit (.bool false)], args := [d1, d2] }
  | _ => none }
def TopEndsWrongFalsely : Prop := topEndsRow.holds Tryz.pinned (OpenSpec.ofChange topEndsWrong)

/-- 'gloamingtop.TopQuotas': WHATEVER THE INPUT: true; the input reads as it did. -/
def topQuotasSpec : ChangeSpec := { name := "topQuotas", fn := fun _ => fun
  | [d1, d2] => { results := [.lit (.bool true)], args := [d1, d2] }
  | _ => none }
def topQuotasRow : OpenClaim := { program := "ytngflpppkicnaaagreat", sum := "ab6293c85e3d2cd900ab73deee7eb917da7705a8aae1854313cf17dec49b3467", func := "gloaming/gloamingtop.TopQuotas", spec := "topQuotas", unfollowed := true, recurses := true, plainKeys := false, apart := false }
def TopQuotasSaid : Prop := topQuotasRow.holds Tryz.pinned (OpenSpec.ofChange topQuotasSpec)

/-- ITS FALSE NEIGHBOUR: 'it returns false'. Refute it at one input. -/
def topQuotasWrong : ChangeSpec := { name := "topQuotas", fn := fun _ => fun
  | [d1, d2] => { results := [.lit (.bool false)], args := [d1, d2] }
  | _ => none }
def TopQuotasWrongFalsely : Prop := topQuotasRow.holds Tryz.pinned (OpenSpec.ofChange topQuotasWrong)

/-- 'gloamingtop.TopTwins': WHATEVER THE INPUT: true; the input reads as it did. -/
def topTwinsSpec : ChangeSpec := { name := "topTwins", fn := fun _ => fun
  | [d1, d2] => { results := [.lit (.bool true)], args := [d1, d2] }
  | _ => none }
def topTwinsRow : OpenClaim := { program := "ytngflpppkicnaaagreat", sum := "ab6293c85e3d2cd900ab73deee7eb917da7705a8aae1854313cf17dec49b3467", func := "gloaming/gloamingtop.TopTwins", spec := "topTwins", unfollowed := true, recurses := true, plainKeys := false, apart := false }
def TopTwinsSaid : Prop := topTwinsRow.holds Tryz.pinned (OpenSpec.ofChange topTwinsSpec)

/-- ITS FALSE NEIGHBOUR: 'it returns false'. Refute it at one input. -/
def topTwinsWrong : ChangeSpec := { name := "topTwins", fn := fun _ => fun
  | [d1, d2] => { results := [.lit (.bool false)], args := [d1, d2] }
  | _ => none }
def TopTwinsWrongFalsely : Prop := topTwinsRow.holds Tryz.pinned (OpenSpec.ofChange topTwinsWrong)

/-- 'gloamingtop.TopHeld': WHATEVER THE INPUT: true; the input reads as it did. -/
def topHeldSpec : ChangeSpec := { name := "topHeld", fn := fun _ => fun
  | [d1, d2] => { results := [.lit (.bool true)], args := [d1, d2] }
  | _ => none }
def topHeldRow : OpenClaim := { program := "ytngflpppkicnaaagreat", sum := "ab6293c85e3d2cd900ab73deee7eb917da7705a8aae1854313cf17dec49b3467", func := "gloaming/gloamingtop.TopHeld", spec := "topHeld", unfollowed := true, recurses := true, plainKeys := false, apart := false }
def TopHeldSaid : Prop := topHeldRow.holds Tryz.pinned (OpenSpec.ofChange topHeldSpec)

/-- ITS FALSE NEIGHBOUR: 'it returns false'. Refute it at one input. -/
def topHeldWrong : ChangeSpec := { name := "topHeld", fn := fun _ => fun
  | [d1, d2] => { results := [.lit (.bool false)], args := [d1, d2] }
  | _ => none }
def TopHeldWrongFalsely : Prop := topHeldRow.holds Tryz.pinned (OpenSpec.ofChange topHeldWrong)

/-- 'gloamingtop.TopCancels': WHATEVER THE INPUT: true; the input reads as it did. -/
def topCancelsSpec : ChangeSpec := { name := "topCancels", fn := fun _ => fun
  | [d1, d2, d3] => { results := [.lit (.bool true)], args := [d1, d2, d3] }
  | _ => none }
def topCancelsRow : OpenClaim := { program := "ytngflpppkicnaaagreat", sum := "ab6293c85e3d2cd900ab73deee7eb917da7705a8aae1854313cf17dec49b3467", func := "gloaming/gloamingtop.TopCancels", spec := "topCancels", unfollowed := true, recurses := true, plainKeys := false, apart := false }
def TopCancelsSaid : Prop := topCancelsRow.holds Tryz.pinned (OpenSpec.ofChange topCancelsSpec)

/-- ITS FALSE NEIGHBOUR: 'it returns false'. Refute it at one input. -/
def topCancelsWrong : ChangeSpec := { name := "topCancels", fn := fun _ => fun
  | [d1, d2, d3] => { results := [.lit (.bool false)], args := [d1, d2, d3] }
  | _ => none }
def TopCancelsWrongFalsely : Prop := topCancelsRow.holds Tryz.pinned (OpenSpec.ofChange topCancelsWrong)

/-- 'gloamingtop.TopPolls': WHATEVER THE INPUT: true; the input reads as it did. -/
def topPollsSpec : ChangeSpec := { name := "topPolls", fn := fun _ => fun
  | [d1, d2, d3, d4] => { results := [.lit (.bool true)], args := [d1, d2, d3, d4] }
  | _ => none }
def topPollsRow : OpenClaim := { program := "ytngflpppkicnaaagreat", sum := "ab6293c85e3d2cd900ab73deee7eb917da7705a8aae1854313cf17dec49b3467", func := "gloaming/gloamingtop.TopPolls", spec := "topPolls", unfollowed := true, recurses := true, plainKeys := false, apart := false }
def TopPollsSaid : Prop := topPollsRow.holds Tryz.pinned (OpenSpec.ofChange topPollsSpec)

/-- ITS FALSE NEIGHBOUR: 'it returns false'. Refute it at one input. -/
def topPollsWrong : ChangeSpec := { name := "topPolls", fn := fun _ => fun
  | [d1, d2, d3, d4] => { results := [.lit (.bool false)], args := [d1, d2, d3, d4] }
  | _ => none }
def TopPollsWrongFalsely : Prop := topPollsRow.holds Tryz.pinned (OpenSpec.ofChange topPollsWrong)

/-- 'gloamingtop.TopAsked': WHATEVER THE INPUT: true; the input reads as it did. -/
def topAskedSpec : ChangeSpec := { name := "topAsked", fn := fun _ => fun
  | [d1, d2] => { results := [.lit (.bool true)], args := [d1, d2] }
  | _ => none }
def topAskedRow : OpenClaim := { program := "ytngflpppkicnaaagreat", sum := "ab6293c85e3d2cd900ab73deee7eb917da7705a8aae1854313cf17dec49b3467", func := "gloaming/gloamingtop.TopAsked", spec := "topAsked", unfollowed := true, recurses := true, plainKeys := false, apart := false }
def TopAskedSaid : Prop := topAskedRow.holds Tryz.pinned (OpenSpec.ofChange topAskedSpec)

/-- ITS FALSE NEIGHBOUR: 'it returns false'. Refute it at one input. -/
def topAskedWrong : ChangeSpec := { name := "topAsked", fn := fun _ => fun
  | [d1, d2] => { results := [.lit (.bool false)], args := [d1, d2] }
  | _ => none }
def TopAskedWrongFalsely : Prop := topAskedRow.holds Tryz.pinned (OpenSpec.ofChange topAskedWrong)

/- THE SECOND FORM. 'bulk': how many values and letters a reading holds, each counted each time it is reached (what is shared counts as often as it is met; a slice's spare places count too). A statement '..UptoSaid' is the law's where the arguments, and the package variables that the reading takes, are together of bulk at most 1048576: NARROWER than '..Said'. Prove '..Said' where nothing that the law and all that it calls make is longer than what came in: it says more and counts as full. Else prove '..UptoSaid'. A law counts once. -/
mutual
def uptoBulk {H : Type} : DataW H → Nat
  | .lit (.string bytes) => bytes.length + 1
  | .lit _ => 1
  | .nil => 1
  | .ptr d => uptoBulk d + 1
  | .slice elems spare => uptoBulkAll elems + uptoBulkAll spare + 1
  | .agg parts => uptoBulkAll parts + 1
  | .iface _ d => uptoBulk d + 1
  | .map entries => uptoBulkEntries entries + 1
  | .held _ => 1
def uptoBulkAll {H : Type} : List (DataW H) → Nat
  | [] => 0
  | d :: r => uptoBulk d + uptoBulkAll r
def uptoBulkEntries {H : Type} : List (Lit × DataW H) → Nat
  | [] => 0
  | x :: r => uptoBulkEntry x + uptoBulkEntries r
def uptoBulkEntry {H : Type} : Lit × DataW H → Nat
  | (.string bytes, d) => bytes.length + uptoBulk d + 1
  | (_, d) => uptoBulk d + 1
 end
def uptoSmall : (H : Type) → List (DataW H) → Bool := fun _ ds => decide (uptoBulkAll ds ≤ 1048576)
def OpenSpec.upto (s : _root_.Go.ChangeSpec) : _root_.Go.OpenSpec := { _root_.Go.OpenSpec.ofChange s with cond := some uptoSmall }

/-- 'gloamingtop.TopEnds', WHERE WHAT IT READS IS OF BULK AT MOST 1048576: true; the input reads as it did. -/
def topEndsUptoRow : OpenClaim := { program := "ytngflpppkicnaaagreat", sum := "ab6293c85e3d2cd900ab73deee7eb917da7705a8aae1854313cf17dec49b3467", func := "gloaming/gloamingtop.TopEnds", spec := "topEnds", unfollowed := true, recurses := true, plainKeys := false, apart := false, narrowed := true }
def TopEndsUptoSaid : Prop := topEndsUptoRow.holds Tryz.pinned (OpenSpec.upto topEndsSpec)

/-- 'gloamingtop.TopQuotas', WHERE WHAT IT READS IS OF BULK AT MOST 1048576: true; the input reads as it did. -/
def topQuotasUptoRow : OpenClaim := { program := "ytngflpppkicnaaagreat", sum := "ab6293c85e3d2cd900ab73deee7eb917da7705a8aae1854313cf17dec49b3467", func := "gloaming/gloamingtop.TopQuotas", spec := "topQuotas", unfollowed := true, recurses := true, plainKeys := false, apart := false, narrowed := true }
def TopQuotasUptoSaid : Prop := topQuotasUptoRow.holds Tryz.pinned (OpenSpec.upto topQuotasSpec)

/-- 'gloamingtop.TopTwins', WHERE WHAT IT READS IS OF BULK AT MOST 1048576: true; the input reads as it did. -/
def topTwinsUptoRow : OpenClaim := { program := "ytngflpppkicnaaagreat", sum := "ab6293c85e3d2cd900ab73deee7eb917da7705a8aae1854313cf17dec49b3467", func := "gloaming/gloamingtop.TopTwins", spec := "topTwins", unfollowed := true, recurses := true, plainKeys := false, apart := false, narrowed := true }
def TopTwinsUptoSaid : Prop := topTwinsUptoRow.holds Tryz.pinned (OpenSpec.upto topTwinsSpec)

/-- 'gloamingtop.TopHeld', WHERE WHAT IT READS IS OF BULK AT MOST 1048576: true; the input reads as it did. -/
def topHeldUptoRow : OpenClaim := { program := "ytngflpppkicnaaagreat", sum := "ab6293c85e3d2cd900ab73deee7eb917da7705a8aae1854313cf17dec49b3467", func := "gloaming/gloamingtop.TopHeld", spec := "topHeld", unfollowed := true, recurses := true, plainKeys := false, apart := false, narrowed := true }
def TopHeldUptoSaid : Prop := topHeldUptoRow.holds Tryz.pinned (OpenSpec.upto topHeldSpec)

/-- 'gloamingtop.TopCancels', WHERE WHAT IT READS IS OF BULK AT MOST 1048576: true; the input reads as it did. -/
def topCancelsUptoRow : OpenClaim := { program := "ytngflpppkicnaaagreat", sum := "ab6293c85e3d2cd900ab73deee7eb917da7705a8aae1854313cf17dec49b3467", func := "gloaming/gloamingtop.TopCancels", spec := "topCancels", unfollowed := true, recurses := true, plainKeys := false, apart := false, narrowed := true }
def TopCancelsUptoSaid : Prop := topCancelsUptoRow.holds Tryz.pinned (OpenSpec.upto topCancelsSpec)

/-- 'gloamingtop.TopPolls', WHERE WHAT IT READS IS OF BULK AT MOST 1048576: true; the input reads as it did. -/
def topPollsUptoRow : OpenClaim := { program := "ytngflpppkicnaaagreat", sum := "ab6293c85e3d2cd900ab73deee7eb917da7705a8aae1854313cf17dec49b3467", func := "gloaming/gloamingtop.TopPolls", spec := "topPolls", unfollowed := true, recurses := true, plainKeys := false, apart := false, narrowed := true }
def TopPollsUptoSaid : Prop := topPollsUptoRow.holds Tryz.pinned (OpenSpec.upto topPollsSpec)

/-- 'gloamingtop.TopAsked', WHERE WHAT IT READS IS OF BULK AT MOST 1048576: true; the input reads as it did. -/
def topAskedUptoRow : OpenClaim := { program := "ytngflpppkicnaaagreat", sum := "ab6293c85e3d2cd900ab73deee7eb917da7705a8aae1854313cf17dec49b3467", func := "gloaming/gloamingtop.TopAsked", spec := "topAsked", unfollowed := true, recurses := true, plainKeys := false, apart := false, narrowed := true }
def TopAskedUptoSaid : Prop := topAskedUptoRow.holds Tryz.pinned (OpenSpec.upto topAskedSpec)

end Rows
end Go.Proofs.YtngflpppkicnaaaGreat
