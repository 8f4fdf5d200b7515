/-
  RecordWords: every input the law lets in makes it return true and reads behind the call as before.
-/
import Derived.Test.YtkjcpgnmkjkbbaaRows
import Derived.Test.YtkjcpgnmkjkbbaaWordsW
import Derived.Test.YtkjcpgnmkjkbbaaKit
import Derived.WalkKit
import Derived.ProofKit
import Derived.OpenShut
import Derived.ShutString
import Derived.ChangeOld
import Derived.Below
import Derived.Lib.SmallJoins
import Derived.SizedLaws
namespace Go.Proofs.Ytkjcpgnmkjkbbaa.recordWords
open Go.ChangeShapes Go.WideShapes Go.ChangeAt Go.RowKit Go.Joins Go.Deep
open Go.ChangeMaps (open_string shut_string)
set_option linter.unusedVariables false

theorem own : ownKnob Try.prog.godebug = none := by kernel_rfl
theorem laidOut : laidOutB Try.prog = true := by kernel_rfl
open Go.Proofs.Ytkjcpgnmkjkbbaa.Eng Go.Proofs.Ytkjcpgnmkjkbbaa.Dat
theorem walk (c0_0 : Int) (c0_1 : Int) (c0_2 : Int) (c0_3 : Int) (c0_4 : Int) (c0_5 : Int) (v1 : Int) (c2_0 : Int) (c2_1 : Bool) (c2_2 : Int) (c2_3 : Int) (c2_4 : Int) (v3 : Int) (W : World) (w0_0 : (Lit.int .i64 c0_0).wf = true) (w0_1 : (Lit.int .i64 c0_1).wf = true) (w0_2 : (Lit.int .i64 c0_2).wf = true) (w0_3 : (Lit.int .i64 c0_3).wf = true) (w0_4 : (Lit.int .i64 c0_4).wf = true) (w0_5 : (Lit.int .i64 c0_5).wf = true) (w1 : (Lit.int .u64 v1).wf = true) (w2_0 : (Lit.int .i64 c2_0).wf = true) (w2_2 : (Lit.int .i64 c2_2).wf = true) (w2_3 : (Lit.int .i64 c2_3).wf = true) (w2_4 : (Lit.int .i64 c2_4).wf = true) (w3 : (Lit.int .i64 v3).wf = true) :
    Calls Try.prog 7 #[.agg #[.int .i64 c0_0, .int .i64 c0_1, .int .i64 c0_2, .int .i64 c0_3, .int .i64 c0_4, .int .i64 c0_5], .int .u64 v1, .agg #[.int .i64 c2_0, .bool c2_1, .int .i64 c2_2, .int .i64 c2_3, .int .i64 c2_4], .int .i64 v3] W fun e w' => e = .returned (.bool true) ∧ Below W.heap.size W w' := by
  have hsig : Eng.sigOf Try.prog 7 = some ([.agg [.int .i64, .int .i64, .int .i64, .int .i64, .int .i64, .int .i64], .one (.int .u64), .agg [.int .i64, .bool, .int .i64, .int .i64, .int .i64], .one (.int .i64)], [.one .bool]) := by kernel_rfl
  exact Eng.law_calls (all_ok 7 _ _ _ [.bool true] hsig (RW.words_true c0_0 c0_1 c0_2 c0_3 c0_4 c0_5 v1 c2_0 c2_1 c2_2 c2_3 c2_4 v3 w0_0 w0_1 w0_2 w0_3 w0_4 w0_5 w1 w2_0 w2_2 w2_3 w2_4 w3)) (args_agg (d1 := [D.int c0_0, D.int c0_1, D.int c0_2, D.int c0_3, D.int c0_4, D.int c0_5]) (us := [.int .i64 c0_0, .int .i64 c0_1, .int .i64 c0_2, .int .i64 c0_3, .int .i64 c0_4, .int .i64 c0_5]) ⟨Rd.int rfl, Rd.int rfl, Rd.int rfl, Rd.int rfl, Rd.int rfl, Rd.int rfl, trivial⟩ (args_one (Rd.int rfl) (args_agg (d1 := [D.int c2_0, D.bool c2_1, D.int c2_2, D.int c2_3, D.int c2_4]) (us := [.int .i64 c2_0, .bool c2_1, .int .i64 c2_2, .int .i64 c2_3, .int .i64 c2_4]) ⟨Rd.int rfl, Rd.bool rfl, Rd.int rfl, Rd.int rfl, Rd.int rfl, trivial⟩ (args_one (Rd.int rfl) (args_nil)))))

set_option maxRecDepth 100000 in
theorem lifted (os : Os) (started : os.Started) (H : Type) (enc : TypeId × Value → H) :
    ReturnsInHanded {} Try.checked os 7 .any (Rows.recordWordsSpec.pre6 enc Try.prog Try.f7 Rows.recordWordsRow.domain false) (Rows.recordWordsSpec.post enc Try.prog Try.f7 false true false false) := by
  refine returnsInHanded_of_change_sized (C := Try.checked) own started (by kernel_rfl) Try.func7
    (ChangeSpec.witness6 (enc := enc) (C := Try.checked) false ⟨#[], #[.agg #[.int .i64 0, .int .i64 0, .int .i64 0, .int .i64 0, .int .i64 0, .int .i64 0], .int .u64 0, .agg #[.int .i64 0, .bool false, .int .i64 0, .int .i64 0, .int .i64 0], .int .i64 0], []⟩ 8 (by kernel_rfl) (by kernel_rfl) (by kernel_rfl) (by kernel_rfl)) ?_
  intro W base args ds gs before hval0 hW hcnd hsz0 _
  have hsz : (DataW.weightsEach Try.prog (Try.f7.params.toList ++ Rows.recordWordsSpec.plain.varTypes Try.prog) (ds ++ gs)).all (· ≤ reachBytes) = true := hsz0
  have hval : ∀ (j : Nat) t v, Try.f7.params[j]? = some t → args[j]? = some v → Value.okWide Try.prog W .any base t v := hval0
  have hW' := hW
  obtain ⟨p, q, hA0, hV, rfl, hfz, hnd⟩ := hW
  have hA : DataW.TrodAll enc Try.prog W 0 (fun _ => true) true Try.f7.params.toList args.toList ds p := hA0
  rw [Try.params7] at hA hval hsz
  obtain ⟨v0, vs0, d0, ds0, p0, q0, hargs, rfl, rfl, h0, r0⟩ := trodAll_cons hA
  obtain ⟨v1, vs1, d1, ds1, p1, q1, rfl, rfl, rfl, h1, r1⟩ := trodAll_cons r0
  obtain ⟨v2, vs2, d2, ds2, p2, q2, rfl, rfl, rfl, h2, r2⟩ := trodAll_cons r1
  obtain ⟨v3, vs3, d3, ds3, p3, q3, rfl, rfl, rfl, h3, r3⟩ := trodAll_cons r2
  obtain ⟨rfl, rfl, rfl⟩ := trodAll_nil r3
  obtain rfl : args = #[v0, v1, v2, v3] := by cases args; simp_all
  obtain ⟨rfl, rfl⟩ := trodVars_none hV
  have k0 := h0
  have lt0 : ∀ x ∈ p0, x.block < W.heap.size := by obtain ⟨m, hm⟩ := k0; exact DataW.trod_lt m _ _ _ hm
  have k1 := h1
  have lt1 : ∀ x ∈ p1, x.block < W.heap.size := by obtain ⟨m, hm⟩ := k1; exact DataW.trod_lt m _ _ _ hm
  have k2 := h2
  have lt2 : ∀ x ∈ p2, x.block < W.heap.size := by obtain ⟨m, hm⟩ := k2; exact DataW.trod_lt m _ _ _ hm
  have k3 := h3
  have lt3 : ∀ x ∈ p3, x.block < W.heap.size := by obtain ⟨m, hm⟩ := k3; exact DataW.trod_lt m _ _ _ hm
  obtain ⟨c0_0, c0_1, c0_2, c0_3, c0_4, c0_5, y0_0, y0_1, y0_2, y0_3, y0_4, y0_5, m0, rfl, _, _, hy0_0, hy0_1, hy0_2, hy0_3, hy0_4, hy0_5⟩ := open_agg6 Try.underlying25 (by kernel_rfl) (by kernel_rfl : Try.prog.cellsOf 25 = 6) (hval 0 25 v0 rfl rfl) h0
  obtain ⟨a0_0, e0_0, _, w0_0⟩ := DataW.trod_int Try.underlying3 hy0_0
  simp only [List.cons.injEq, and_true] at e0_0
  subst e0_0
  obtain ⟨a0_1, e0_1, _, w0_1⟩ := DataW.trod_int Try.underlying3 hy0_1
  simp only [List.cons.injEq, and_true] at e0_1
  subst e0_1
  obtain ⟨a0_2, e0_2, _, w0_2⟩ := DataW.trod_int Try.underlying3 hy0_2
  simp only [List.cons.injEq, and_true] at e0_2
  subst e0_2
  obtain ⟨a0_3, e0_3, _, w0_3⟩ := DataW.trod_int Try.underlying3 hy0_3
  simp only [List.cons.injEq, and_true] at e0_3
  subst e0_3
  obtain ⟨a0_4, e0_4, _, w0_4⟩ := DataW.trod_int Try.underlying3 hy0_4
  simp only [List.cons.injEq, and_true] at e0_4
  subst e0_4
  obtain ⟨a0_5, e0_5, _, w0_5⟩ := DataW.trod_int Try.underlying3 hy0_5
  simp only [List.cons.injEq, and_true] at e0_5
  subst e0_5
  obtain ⟨a1, rfl, rfl, rfl, w1⟩ := open_int Try.underlying41 (hval 1 41 v1 rfl rfl) h1
  obtain ⟨c2_0, c2_1, c2_2, c2_3, c2_4, y2_0, y2_1, y2_2, y2_3, y2_4, m2, rfl, _, _, hy2_0, hy2_1, hy2_2, hy2_3, hy2_4⟩ := open_agg5 Try.underlying40 (by kernel_rfl) (by kernel_rfl : Try.prog.cellsOf 40 = 5) (hval 2 40 v2 rfl rfl) h2
  obtain ⟨a2_0, e2_0, _, w2_0⟩ := DataW.trod_int Try.underlying3 hy2_0
  simp only [List.cons.injEq, and_true] at e2_0
  subst e2_0
  obtain ⟨a2_1, e2_1, _⟩ := DataW.trod_bool Try.underlying4 hy2_1
  simp only [List.cons.injEq, and_true] at e2_1
  subst e2_1
  obtain ⟨a2_2, e2_2, _, w2_2⟩ := DataW.trod_int Try.underlying3 hy2_2
  simp only [List.cons.injEq, and_true] at e2_2
  subst e2_2
  obtain ⟨a2_3, e2_3, _, w2_3⟩ := DataW.trod_int Try.underlying3 hy2_3
  simp only [List.cons.injEq, and_true] at e2_3
  subst e2_3
  obtain ⟨a2_4, e2_4, _, w2_4⟩ := DataW.trod_int Try.underlying3 hy2_4
  simp only [List.cons.injEq, and_true] at e2_4
  subst e2_4
  obtain ⟨a3, rfl, rfl, rfl, w3⟩ := open_int Try.underlying3 (hval 3 3 v3 rfl rfl) h3
  clear hA0 hval0
  refine (walk a0_0 a0_1 a0_2 a0_3 a0_4 a0_5 a1 a2_0 a2_1 a2_2 a2_3 a2_4 a3 W w0_0 w0_1 w0_2 w0_3 w0_4 w0_5 w1 w2_0 w2_2 w2_3 w2_4 w3).mono fun e W' ⟨he, bel⟩ => ?_
  subst he
  exact ⟨_, rfl, _, _, _, [], _, [], hW', trodAll_mk1 (shut_bool Try.underlying4 _), (trodAll_cons_mk (Below.trod laidOut (by kernel_rfl) (of_decide_eq_true (by kernel_rfl)) k0 bel lt0) (trodAll_cons_mk (Below.trod laidOut (by kernel_rfl) (of_decide_eq_true (by kernel_rfl)) k1 bel lt1) (trodAll_cons_mk (Below.trod laidOut (by kernel_rfl) (of_decide_eq_true (by kernel_rfl)) k2 bel lt2) (trodAll_cons_mk (Below.trod laidOut (by kernel_rfl) (of_decide_eq_true (by kernel_rfl)) k3 bel lt3) trodAll_mk0)))), rfl, bel.frame _, fun h => by cases h⟩

theorem over : Rows.recordWordsRow.holds Try.pinned (OpenSpec.ofChange Rows.recordWordsSpec) :=
  OpenClaim.holds_of_wide 7 Try.f7 rfl rfl rfl rfl rfl rfl rfl ⟨rfl, rfl, rfl, rfl, rfl⟩ rfl rfl rfl rfl rfl (by kernel_rfl) Try.func7 (by kernel_rfl)
    (of_decide_eq_true (by kernel_rfl)) (by unfold Func.isWrapper; first | (rw [if_pos (by decide +kernel)]; kernel_rfl) | (rw [if_neg (by decide +kernel)]; exact ⟨rfl, rfl⟩))
    (fun os started H enc _ => lifted os started H enc)

theorem proved : Rows.RecordWordsSaid := over
#print axioms proved
end Go.Proofs.Ytkjcpgnmkjkbbaa.recordWords
