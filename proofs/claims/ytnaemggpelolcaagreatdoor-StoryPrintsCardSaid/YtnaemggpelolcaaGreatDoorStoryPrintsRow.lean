/-
  StoryPrints: every input the law lets in makes it return true and reads behind the call as before.
-/
import Derived.Test.YtnaemggpelolcaaGreatDoorRows
import Derived.Test.YtnaemggpelolcaaGreatDoorOpenS
import Derived.Test.YtnaemggpelolcaaGreatDoorAllOkD
import Derived.Test.YtnaemggpelolcaaGreatDoorPrintsS
import Derived.WalkKit
import Derived.ProofKit
import Derived.OpenShut
import Derived.ShutString
import Derived.ChangeOld
import Derived.Below
import Derived.Lib.SmallJoins
import Derived.SizedLaws
import Derived.Test.YtnaemggpelolcaaGreatDoorLaid
import Derived.Lay
import Derived.ChangeMade
import Derived.Test.YtnaemggpelolcaaGreatDoorCards
import Derived.Test.YtnaemggpelolcaaGreatDoorTie
import Derived.SevenTiedAt
import Derived.LaidLaws
import Derived.LaidHandle
import Derived.Stop.Joined
import Derived.JoinedOf
import Derived.ChangeVars
import Derived.ChangeSame
namespace Go.Proofs.YtnaemggpelolcaaGreatDoor.storyPrints
open Go.ChangeShapes Go.WideShapes Go.ChangeAt Go.RowKit Go.Joins Go.Deep

open Go.ChangeMaps (open_string shut_string)
open Go.Proofs.YtnaemggpelolcaaGreatDoor.Eng Go.Proofs.YtnaemggpelolcaaGreatDoor.Open
set_option linter.unusedVariables false

theorem own : ownKnob Tryz.prog.godebug = none := by kernel_rfl
theorem laidOut : laidOutB Tryz.prog = true := by kernel_rfl
theorem hsig : Eng.sigOf Tryz.prog cfg 4 = some ([.one (.slice 39)], [.one .bool], 3) := by kernel_rfl

noncomputable def laid : List (String × DataW Unit) := Rows.storyPrintsRow.laid
noncomputable def others : List (String × DataW Unit) := [("math/bits.deBruijn32tab", Rows.laid_math_bits_deBruijn32tab), ("math/bits.deBruijn64tab", Rows.laid_math_bits_deBruijn64tab), ("internal/strconv.uint64pow10", Rows.laid_internal_strconv_uint64pow10), ("unicode/utf8.acceptRanges", Rows.laid_unicode_utf8_acceptRanges), ("strconv.ErrRange", Rows.laid_strconv_ErrRange), ("strconv.ErrSyntax", Rows.laid_strconv_ErrSyntax), ("unicode/utf8.first", Rows.laid_unicode_utf8_first)]
theorem others_eq : (laid.filter fun x => x.2.handleName?.isNone) = others := by kernel_rfl
noncomputable def world0 (os : Os) : World :=
  let w0 := World.holding Tryz.prog os ⟨#[], #[], []⟩
  { w0 with heap := w0.heap.modify 0 fun
      | .cells _ t frozen => .cells #[.iface 102 (.agg #[.pointer (some ⟨9, 27, none⟩)])] t frozen
      | o => o }
noncomputable def laidWorld (os : Os) : World := (world0 os).layVars Tryz.prog others
theorem laidWorld_os (os : Os) : (laidWorld os).os = os := World.layVars_os _ _ _
theorem laidWorld_met0 (os : Os) : laidMet Tryz.prog others (laidWorld os) := by
  have e1 : (others.filter fun x => (others.map (·.1)).contains x.1) = others := List.filter_eq_self.2 fun x hx => List.contains_iff_mem.2 (List.mem_map.2 ⟨x, hx, rfl⟩)
  have e2 : (others.filter fun x => !(others.map (·.1)).contains x.1) = [] := List.filter_eq_nil_iff.2 fun x hx => by rw [List.contains_iff_mem.2 (List.mem_map.2 ⟨x, hx, rfl⟩)]; simp
  exact laidMet_layVars (w0 := world0 os) (others.map (·.1)) [] (by rw [e1]; rfl) (by rw [e1]; kernel_rfl) (by rw [e1]; kernel_rfl) (by rw [e2]; exact LaidIn.none)
theorem laidWorld_met (os : Os) (args : Array Value) : laidMetH Tryz.prog laid ((laidWorld os).forCall (fun _ _ => 0) ⟨#[], args, []⟩).memory :=
  laidMetH_of_parts (by rw [others_eq]; exact (laidWorld_met0 os).of_heap (by simp [World.memory, World.forCall, Input.heap])) (by kernel_rfl)
theorem tab_is : Rows.laid_internal_strconv_uint64pow10 (H := Unit) = Lib.tabData .u64 Lib.pow10Tab := by kernel_rfl
theorem gl_of {W : World} (h : laidMetH Tryz.prog laid W) (hs : W.ShapedOpen Tryz.prog) : ErrD.gl.ok W ⟨fun b => b < W.heap.size, [], cfg.hc⟩ := by
  have h' : laidMet Tryz.prog (laid.filter fun x => x.2.handleName?.isNone) W ∧ handlesMet Tryz.prog [("errors.errorType", Rows.laid_errors_errorType)] W := h
  rw [others_eq] at h'
  refine Laid.gl_ok (x := ("errors.errorType", Rows.laid_errors_errorType)) (l := others) rfl (Laid.maxLen_cell hs) rfl rfl rfl h'.2 h'.1 ?_
  · rw [← tab_is]; exact (List.Mem.tail _ (List.Mem.tail _ (List.Mem.head _)))

set_option maxRecDepth 100000 in
theorem lifted (os : Os) (started : os.Started) (H : Type) (enc : TypeId × Value → H) :
    ReturnsInHanded {} Tryz.checked os 4 .any (fun w args => (Rows.storyPrintsSpec.pre enc Tryz.prog Tryz.f4 Rows.storyPrintsRow.domain false w args ∧ laidMetH Tryz.prog laid w) ∧ sizedMet enc Tryz.prog Tryz.f4 (OpenSpec.ofChange Rows.storyPrintsSpec) false w args) (Rows.storyPrintsSpec.post enc Tryz.prog Tryz.f4 false true false false) := by
  refine Laid.handed_and_shaped (C := Tryz.checked) (X := fun w _ => laidMetH Tryz.prog laid w) (fun _ _ _ hh h => h.of_heap hh) own started (by kernel_rfl) Tryz.func4
    (Laid.witness_shaped (enc := enc) (C := Tryz.checked) (X := fun w _ => laidMetH Tryz.prog laid w) false (laidWorld os) #[.slice none 0 0] 8 (laidWorld_os os) (World.shaped_of_ZipB (by kernel_rfl) (by kernel_rfl)) (by kernel_rfl) (by kernel_rfl) (by kernel_rfl) (laidWorld_met os _)) ?_
  intro W base args ds gs before hval0 hW hcnd hsz0 hL hSh _
  have hg := gl_of hL hSh
  have hsz : (DataW.weightsEach Tryz.prog (Tryz.f4.params.toList ++ Rows.storyPrintsSpec.plain.varTypes Tryz.prog) (ds ++ gs)).all (· ≤ reachBytes) = true := hsz0
  have hval : ∀ (j : Nat) t v, Tryz.f4.params[j]? = some t → args[j]? = some v → Value.okWide Tryz.prog W .any base t v := hval0
  have hW' := hW
  obtain ⟨p, q, hA0, hV, rfl, hfz, hnd⟩ := hW
  have hA : DataW.TrodAll enc Tryz.prog W 0 (fun _ => true) true Tryz.f4.params.toList args.toList ds p := hA0
  rw [Tryz.params4] at hA hval hsz
  obtain ⟨v0, vs0, d0, ds0, p0, q0, hargs, rfl, rfl, h0, r0⟩ := trodAll_cons hA
  obtain ⟨rfl, rfl, rfl⟩ := trodAll_nil r0
  obtain rfl : args = #[v0] := by cases args; simp_all
  obtain ⟨rfl, rfl⟩ := trodVars_none hV
  have k0 := h0
  have lt0 : ∀ x ∈ p0, x.block < W.heap.size := by obtain ⟨m, hm⟩ := k0; exact DataW.trod_lt m _ _ _ hm
  obtain ⟨a0, len0, cap0, rfl⟩ := okWide_slice Tryz.underlying30 (hval 0 30 v0 rfl rfl)
  obtain ⟨x0, rd0, wf0⟩ := open_one (γ := []) (hc := cfg.hc) (t := 30) (u := .slice 39) (by kernel_rfl) rfl k0 (fun n hn => by have hq := List.all_eq_true.1 hsz n (DataW.weights_mem_each (j := 0) (t := 30) (d := d0) rfl rfl n hn); simpa using hq)
  clear hA0 hval0
  refine (Eng.law_callsG (G := ErrD.gl) (all_ok 4 _ _ _ _ [.bool true] hsig (StoD.prints x0 wf0)) (by omega) rfl hg (args_one rd0 args_nil)).mono fun e W' ⟨he, bel⟩ => ?_
  subst he
  exact ⟨_, rfl, _, _, _, [], _, [], hW', trodAll_mk1 (shut_bool Tryz.underlying4 _), (trodAll_cons_mk (Below.trod laidOut (by kernel_rfl) (of_decide_eq_true (by kernel_rfl)) k0 bel lt0) trodAll_mk0), rfl, bel.frame _, fun h => by cases h⟩

theorem over : Rows.storyPrintsRow.holds Tryz.pinned (OpenSpec.ofChange Rows.storyPrintsSpec) :=
  OpenClaim.holds_of_wide 4 Tryz.f4 rfl rfl rfl rfl rfl rfl rfl ⟨rfl, rfl, rfl, rfl, rfl⟩ rfl rfl rfl rfl rfl (by kernel_rfl) Tryz.func4 (by kernel_rfl)
    (of_decide_eq_true (by kernel_rfl)) (by unfold Func.isWrapper; first | (rw [if_pos (by decide +kernel)]; kernel_rfl) | (rw [if_neg (by decide +kernel)]; exact ⟨rfl, rfl⟩))
    (fun os started H enc _ => lifted os started H enc)

theorem proved : Rows.StoryPrintsSaid := over
#print axioms proved
open Go in
theorem row_tie : Rows.storyPrintsRow.laidByTextAt .later Tryz.pinned [.data, .data, .data, .data, .handle, .sentinel, .sentinel, .pinned] true := storyPrints_row_tie
open Go in
theorem card : Rows.StoryPrintsCardSaid :=
  Claim7.holds_tied_plain_at .later [] [.data, .data, .data, .data, .handle, .sentinel, .sentinel, .pinned] true (true, "c20e59e1bd5b9625c249537bcecd4f284de2062ef539f8de36d2035b04e9a007") true
    over (fun _ h => by cases h) (by kernel_rfl) (fun _ h => by cases h) row_tie rfl ⟨rfl, rfl⟩ (by kernel_rfl) rfl
    (fun f fn hf hfn => by
      obtain rfl : f = 4 := Option.some.inj ((show Tryz.prog.funcNamed "gloaming/gloaminglaw26.StoryPrints" = some 4 by kernel_rfl).symm.trans hf) |>.symm
      obtain rfl : fn = Tryz.f4 := (Option.some.inj (Tryz.func4.symm.trans hfn)).symm
      exact ⟨by kernel_rfl, fun j t ht => by
        rw [Tryz.params4] at ht
        rcases j with _ | j
        · obtain rfl : t = 30 := by simpa using ht.symm
          exact (show Tryz.prog.wantsStandIn 30 = false by kernel_rfl)
        · simp at ht⟩)
    (by kernel_rfl)
#print axioms card
end Go.Proofs.YtnaemggpelolcaaGreatDoor.storyPrints
