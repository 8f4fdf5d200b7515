/-
  ReportEvents: every input the law lets in makes it return true and reads behind the call as before.
-/
import Derived.Test.YtilkbgdfndifgaaGreatDoorRows
import Derived.Test.YtilkbgdfndifgaaGreatDoorOpenS
import Derived.Test.YtilkbgdfndifgaaGreatDoorAllOkD
import Derived.Test.YtilkbgdfndifgaaGreatDoorRepLaw
import Derived.WalkKit
import Derived.ProofKit
import Derived.OpenShut
import Derived.ShutString
import Derived.ChangeOld
import Derived.Below
import Derived.Lib.SmallJoins
import Derived.SizedLaws
import Derived.Test.YtilkbgdfndifgaaGreatDoorLaid
import Derived.Lay
import Derived.ChangeMade
import Derived.Test.YtilkbgdfndifgaaGreatDoorCards
import Derived.Test.YtilkbgdfndifgaaGreatDoorTie
import Derived.SevenTiedAt
import Derived.LaidLaws
import Derived.LaidHandle
import Derived.Stop.Joined
import Derived.JoinedOf
import Derived.ChangeVars
import Derived.ChangeSame
namespace Go.Proofs.YtilkbgdfndifgaaGreatDoor.reportEvents
open Go.ChangeShapes Go.WideShapes Go.ChangeAt Go.RowKit Go.Joins Go.Deep

open Go.ChangeMaps (open_string shut_string)
open Go.Proofs.YtilkbgdfndifgaaGreatDoor.Eng Go.Proofs.YtilkbgdfndifgaaGreatDoor.Open
set_option linter.unusedVariables false

theorem own : ownKnob Tryz.prog.godebug = none := by kernel_rfl
theorem laidOut : laidOutB Tryz.prog = true := by kernel_rfl
theorem hsig : Eng.sigOf Tryz.prog cfg 3 = some ([.agg [.int .i64, .int .i64, .int .i64, .int .i64, .int .i64, .int .i64, .int .i64, .int .i64, .int .i64, .int .i64, .int .i64, .int .i64, .int .i64, .int .i64]], [.one .bool], 3) := by kernel_rfl

noncomputable def laid : List (String × DataW Unit) := Rows.reportEventsRow.laid
theorem laidH_plain {W : World} : laidMetH Tryz.prog laid W ↔ laidMet Tryz.prog laid W := Iff.rfl
noncomputable def world0 (os : Os) : World := World.holding Tryz.prog os ⟨#[], #[], []⟩
noncomputable def laidWorld (os : Os) : World := (world0 os).layVars Tryz.prog laid
theorem laidWorld_os (os : Os) : (laidWorld os).os = os := World.layVars_os _ _ _
theorem laidWorld_met0 (os : Os) : laidMet Tryz.prog laid (laidWorld os) := by
  have e1 : (laid.filter fun x => (laid.map (·.1)).contains x.1) = laid := List.filter_eq_self.2 fun x hx => List.contains_iff_mem.2 (List.mem_map.2 ⟨x, hx, rfl⟩)
  have e2 : (laid.filter fun x => !(laid.map (·.1)).contains x.1) = [] := List.filter_eq_nil_iff.2 fun x hx => by rw [List.contains_iff_mem.2 (List.mem_map.2 ⟨x, hx, rfl⟩)]; simp
  exact laidMet_layVars (w0 := world0 os) (laid.map (·.1)) [] (by rw [e1]; rfl) (by rw [e1]; kernel_rfl) (by rw [e1]; kernel_rfl) (by rw [e2]; exact LaidIn.none)
theorem laidWorld_met (os : Os) (args : Array Value) : laidMetH Tryz.prog laid ((laidWorld os).forCall (fun _ _ => 0) ⟨#[], args, []⟩).memory :=
  laidH_plain.2 ((laidWorld_met0 os).of_heap (by simp [World.memory, World.forCall, Input.heap]))
theorem verbs_is : Rows.laid_gloaming_report_kinds (H := Unit) = .agg (Laid.kindsL.map fun z => .lit (.string z)) := rfl
theorem tab_is : Rows.laid_internal_strconv_uint64pow10 (H := Unit) = Lib.tabData .u64 Lib.pow10Tab := by kernel_rfl
theorem gl_of {W : World} (h : laidMetH Tryz.prog laid W) (hs : W.ShapedOpen Tryz.prog) : ErrD.gl.ok W ⟨fun b => b < W.heap.size, [], cfg.hc⟩ := by
  refine Laid.gl_ok (l := laid) rfl (Laid.maxLen_cell hs) (laidH_plain.1 h) ?_ ?_
  · rw [← verbs_is]; exact (List.Mem.tail _ (List.Mem.tail _ (List.Mem.tail _ (List.Mem.head _))))
  · rw [← tab_is]; exact (List.Mem.tail _ (List.Mem.tail _ (List.Mem.head _)))

set_option maxRecDepth 100000 in
theorem lifted (os : Os) (started : os.Started) (H : Type) (enc : TypeId × Value → H) :
    ReturnsInHanded {} Tryz.checked os 3 .any (fun w args => (Rows.reportEventsSpec.pre enc Tryz.prog Tryz.f3 Rows.reportEventsRow.domain false w args ∧ laidMetH Tryz.prog laid w) ∧ sizedMet enc Tryz.prog Tryz.f3 (OpenSpec.ofChange Rows.reportEventsSpec) false w args) (Rows.reportEventsSpec.post enc Tryz.prog Tryz.f3 false true false false) := by
  refine Laid.handed_and_shaped (C := Tryz.checked) (X := fun w _ => laidMetH Tryz.prog laid w) (fun _ _ _ hh h => h.of_heap hh) own started (by kernel_rfl) Tryz.func3
    (Laid.witness_shaped (enc := enc) (C := Tryz.checked) (X := fun w _ => laidMetH Tryz.prog laid w) false (laidWorld os) #[.agg #[.int .i64 0, .int .i64 0, .int .i64 0, .int .i64 0, .int .i64 0, .int .i64 0, .int .i64 0, .int .i64 0, .int .i64 0, .int .i64 0, .int .i64 0, .int .i64 0, .int .i64 0, .int .i64 0]] 8 (laidWorld_os os) (World.shaped_of_ZipB (by kernel_rfl) (by kernel_rfl)) (by kernel_rfl) (by kernel_rfl) (by kernel_rfl) (laidWorld_met os _)) ?_
  intro W base args ds gs before hval0 hW hcnd hsz0 hL hSh _
  have hg := gl_of hL hSh
  have hsz : (DataW.weightsEach Tryz.prog (Tryz.f3.params.toList ++ Rows.reportEventsSpec.plain.varTypes Tryz.prog) (ds ++ gs)).all (· ≤ reachBytes) = true := hsz0
  have hval : ∀ (j : Nat) t v, Tryz.f3.params[j]? = some t → args[j]? = some v → Value.okWide Tryz.prog W .any base t v := hval0
  have hW' := hW
  obtain ⟨p, q, hA0, hV, rfl, hfz, hnd⟩ := hW
  have hA : DataW.TrodAll enc Tryz.prog W 0 (fun _ => true) true Tryz.f3.params.toList args.toList ds p := hA0
  rw [Tryz.params3] at hA hval hsz
  obtain ⟨v0, vs0, d0, ds0, p0, q0, hargs, rfl, rfl, h0, r0⟩ := trodAll_cons hA
  obtain ⟨rfl, rfl, rfl⟩ := trodAll_nil r0
  obtain rfl : args = #[v0] := by cases args; simp_all
  obtain ⟨rfl, rfl⟩ := trodVars_none hV
  have k0 := h0
  have lt0 : ∀ x ∈ p0, x.block < W.heap.size := by obtain ⟨m, hm⟩ := k0; exact DataW.trod_lt m _ _ _ hm
  obtain ⟨c0, rfl, _⟩ := okWide_struct Tryz.underlying25 (hval 0 25 v0 rfl rfl)
  obtain ⟨x0, rd0, wf0⟩ := open_many (γ := []) (hc := cfg.hc) (t := 25) (ts := [.int .i64, .int .i64, .int .i64, .int .i64, .int .i64, .int .i64, .int .i64, .int .i64, .int .i64, .int .i64, .int .i64, .int .i64, .int .i64, .int .i64]) (by kernel_rfl) k0 (fun n hn => by have hq := List.all_eq_true.1 hsz n (DataW.weights_mem_each (j := 0) (t := 25) (d := d0) rfl rfl n hn); simpa using hq)
  clear hA0 hval0
  refine (Eng.law_callsG (G := ErrD.gl) (all_ok 3 _ _ _ _ [.bool true] hsig (RepD.events x0 wf0)) (by omega) rfl hg (by have q := args_agg rd0 args_nil; rw [List.append_nil] at q; exact q)).mono fun e W' ⟨he, bel⟩ => ?_
  subst he
  exact ⟨_, rfl, _, _, _, [], _, [], hW', trodAll_mk1 (shut_bool Tryz.underlying4 _), (trodAll_cons_mk (Below.trod laidOut (by kernel_rfl) (of_decide_eq_true (by kernel_rfl)) k0 bel lt0) trodAll_mk0), rfl, bel.frame _, fun h => by cases h⟩

theorem over : Rows.reportEventsRow.holds Tryz.pinned (OpenSpec.ofChange Rows.reportEventsSpec) :=
  OpenClaim.holds_of_wide 3 Tryz.f3 rfl rfl rfl rfl rfl rfl rfl ⟨rfl, rfl, rfl, rfl, rfl⟩ rfl rfl rfl rfl rfl (by kernel_rfl) Tryz.func3 (by kernel_rfl)
    (of_decide_eq_true (by kernel_rfl)) (by unfold Func.isWrapper; first | (rw [if_pos (by decide +kernel)]; kernel_rfl) | (rw [if_neg (by decide +kernel)]; exact ⟨rfl, rfl⟩))
    (fun os started H enc _ => lifted os started H enc)

theorem proved : Rows.ReportEventsSaid := over
#print axioms proved
open Go in
theorem row_tie : Rows.reportEventsRow.laidByTextAt .later Tryz.pinned [.data, .data, .data, .data] true := reportEvents_row_tie
open Go in
theorem card : Rows.ReportEventsCardSaid :=
  Claim7.holds_tied_plain_at .later [] [.data, .data, .data, .data] true (true, "f85d2109364516d9206d15dd6ac5b76892e022a61a48ea90847b652528043413") true
    over (fun _ h => by cases h) (by kernel_rfl) (fun _ h => by cases h) row_tie rfl ⟨rfl, rfl⟩ (by kernel_rfl) rfl
    (fun f fn hf hfn => by
      obtain rfl : f = 3 := Option.some.inj ((show Tryz.prog.funcNamed "gloaming/gloaminglaw29.ReportEvents" = some 3 by kernel_rfl).symm.trans hf) |>.symm
      obtain rfl : fn = Tryz.f3 := (Option.some.inj (Tryz.func3.symm.trans hfn)).symm
      exact ⟨by kernel_rfl, fun j t ht => by
        rw [Tryz.params3] at ht
        rcases j with _ | j
        · obtain rfl : t = 25 := by simpa using ht.symm
          exact (show Tryz.prog.wantsStandIn 25 = false by kernel_rfl)
        · simp at ht⟩)
    (by kernel_rfl)
#print axioms card
end Go.Proofs.YtilkbgdfndifgaaGreatDoor.reportEvents
