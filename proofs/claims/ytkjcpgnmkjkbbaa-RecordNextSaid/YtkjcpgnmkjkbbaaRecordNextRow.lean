/-
  RecordNext: every input the law lets in makes it return true and reads behind the call as before.
-/
import Derived.Test.YtkjcpgnmkjkbbaaRows
import Derived.Test.YtkjcpgnmkjkbbaaRNext
import Derived.WalkKit
import Derived.ProofKit
import Derived.OpenShut
import Derived.ShutString
import Derived.ChangeOld
import Derived.Below
import Derived.Lib.SmallJoins
namespace Go.Proofs.Ytkjcpgnmkjkbbaa.recordNext
open Go.ChangeShapes Go.WideShapes Go.ChangeAt Go.RowKit Go.Joins Go.Deep
open Go.ChangeMaps (open_string shut_string)
set_option linter.unusedVariables false

theorem own : ownKnob Try.prog.godebug = none := by kernel_rfl
theorem laidOut : laidOutB Try.prog = true := by kernel_rfl
theorem walk (a0 a1 : Int) (b0 b1 b2 b3 b4 b5 : Int) (c0 c1 c2 c3 c4 c5 : Int) (W : World) (w0 : (Lit.int .i64 a0).wf = true) (w1 : (Lit.int .i64 a1).wf = true)
    (x0 : (Lit.int .i64 b0).wf = true) (x1 : (Lit.int .i64 b1).wf = true) (x2 : (Lit.int .i64 b2).wf = true) (x3 : (Lit.int .i64 b3).wf = true) (x4 : (Lit.int .i64 b4).wf = true) (x5 : (Lit.int .i64 b5).wf = true)
    (y0 : (Lit.int .i64 c0).wf = true) (y1 : (Lit.int .i64 c1).wf = true) (y2 : (Lit.int .i64 c2).wf = true) (y3 : (Lit.int .i64 c3).wf = true) (y4 : (Lit.int .i64 c4).wf = true) (y5 : (Lit.int .i64 c5).wf = true) :
    Calls Try.prog 4 #[.int .i64 a0, .int .i64 a1, .agg #[.int .i64 b0, .int .i64 b1, .int .i64 b2, .int .i64 b3, .int .i64 b4, .int .i64 b5], .agg #[.int .i64 c0, .int .i64 c1, .int .i64 c2, .int .i64 c3, .int .i64 c4, .int .i64 c5]] W fun e w' => e = .returned (.bool true) ∧ Below W.heap.size W w' :=
  (rnext_walk a0 a1 b0 b1 b2 b3 b4 b5 c0 c1 c2 c3 c4 c5 (bounds_i64 w0).1 (bounds_i64 w1).1 W).mono fun _ _ h => h

set_option maxRecDepth 100000 in
theorem lifted (os : Os) (started : os.Started) (H : Type) (enc : TypeId × Value → H) :
    ReturnsInHanded {} Try.checked os 4 .any (Rows.recordNextSpec.pre6 enc Try.prog Try.f4 Rows.recordNextRow.domain false) (Rows.recordNextSpec.post enc Try.prog Try.f4 false true false false) := by
  refine returnsInHanded_of_change (C := Try.checked) own started (by kernel_rfl) Try.func4
    (ChangeSpec.witness6 (enc := enc) (C := Try.checked) false ⟨#[], #[.int .i64 0, .int .i64 0, .agg #[.int .i64 0, .int .i64 0, .int .i64 0, .int .i64 0, .int .i64 0, .int .i64 0], .agg #[.int .i64 0, .int .i64 0, .int .i64 0, .int .i64 0, .int .i64 0, .int .i64 0]], []⟩ 8 (by kernel_rfl) (by kernel_rfl) (by kernel_rfl) (by kernel_rfl)) ?_
  intro W base args ds gs before hval0 hW hcnd hsz
  have hval : ∀ (j : Nat) t v, Try.f4.params[j]? = some t → args[j]? = some v → Value.okWide Try.prog W .any base t v := hval0
  have hW' := hW
  obtain ⟨p, q, hA0, hV, rfl, hfz, hnd⟩ := hW
  have hA : DataW.TrodAll enc Try.prog W 0 (fun _ => true) true Try.f4.params.toList args.toList ds p := hA0
  rw [Try.params4] at hA hval
  obtain ⟨v0, vs0, d0, ds0, p0, q0, hargs, rfl, rfl, h0, r0⟩ := trodAll_cons hA
  obtain ⟨v1, vs1, d1, ds1, p1, q1, rfl, rfl, rfl, h1, r1⟩ := trodAll_cons r0
  obtain ⟨v2, vs2, d2, ds2, p2, q2, rfl, rfl, rfl, h2, r2⟩ := trodAll_cons r1
  obtain ⟨v3, vs3, d3, ds3, p3, q3, rfl, rfl, rfl, h3, r3⟩ := trodAll_cons r2
  obtain ⟨rfl, rfl, rfl⟩ := trodAll_nil r3
  obtain rfl : args = #[v0, v1, v2, v3] := by cases args; simp_all
  obtain ⟨rfl, rfl⟩ := trodVars_none hV
  have k0 := h0
  have lt0 : ∀ x ∈ p0, x.block < W.heap.size := by obtain ⟨m, hm⟩ := k0; exact DataW.trod_lt m _ _ _ hm
  have k1 := h1
  have lt1 : ∀ x ∈ p1, x.block < W.heap.size := by obtain ⟨m, hm⟩ := k1; exact DataW.trod_lt m _ _ _ hm
  have k2 := h2
  have lt2 : ∀ x ∈ p2, x.block < W.heap.size := by obtain ⟨m, hm⟩ := k2; exact DataW.trod_lt m _ _ _ hm
  have k3 := h3
  have lt3 : ∀ x ∈ p3, x.block < W.heap.size := by obtain ⟨m, hm⟩ := k3; exact DataW.trod_lt m _ _ _ hm
  obtain ⟨a0, rfl, rfl, rfl, w0⟩ := open_int Try.underlying3 (hval 0 3 v0 rfl rfl) h0
  obtain ⟨a1, rfl, rfl, rfl, w1⟩ := open_int Try.underlying3 (hval 1 3 v1 rfl rfl) h1
  obtain ⟨c2_0, c2_1, c2_2, c2_3, c2_4, c2_5, y2_0, y2_1, y2_2, y2_3, y2_4, y2_5, m2, rfl, _, _, hy2_0, hy2_1, hy2_2, hy2_3, hy2_4, hy2_5⟩ := open_agg6 Try.underlying25 (by kernel_rfl) (by kernel_rfl : Try.prog.cellsOf 25 = 6) (hval 2 25 v2 rfl rfl) h2
  obtain ⟨a2_0, e2_0, _, w2_0⟩ := DataW.trod_int Try.underlying3 hy2_0
  simp only [List.cons.injEq, and_true] at e2_0
  subst e2_0
  obtain ⟨a2_1, e2_1, _, w2_1⟩ := DataW.trod_int Try.underlying3 hy2_1
  simp only [List.cons.injEq, and_true] at e2_1
  subst e2_1
  obtain ⟨a2_2, e2_2, _, w2_2⟩ := DataW.trod_int Try.underlying3 hy2_2
  simp only [List.cons.injEq, and_true] at e2_2
  subst e2_2
  obtain ⟨a2_3, e2_3, _, w2_3⟩ := DataW.trod_int Try.underlying3 hy2_3
  simp only [List.cons.injEq, and_true] at e2_3
  subst e2_3
  obtain ⟨a2_4, e2_4, _, w2_4⟩ := DataW.trod_int Try.underlying3 hy2_4
  simp only [List.cons.injEq, and_true] at e2_4
  subst e2_4
  obtain ⟨a2_5, e2_5, _, w2_5⟩ := DataW.trod_int Try.underlying3 hy2_5
  simp only [List.cons.injEq, and_true] at e2_5
  subst e2_5
  obtain ⟨c3_0, c3_1, c3_2, c3_3, c3_4, c3_5, y3_0, y3_1, y3_2, y3_3, y3_4, y3_5, m3, rfl, _, _, hy3_0, hy3_1, hy3_2, hy3_3, hy3_4, hy3_5⟩ := open_agg6 Try.underlying25 (by kernel_rfl) (by kernel_rfl : Try.prog.cellsOf 25 = 6) (hval 3 25 v3 rfl rfl) h3
  obtain ⟨a3_0, e3_0, _, w3_0⟩ := DataW.trod_int Try.underlying3 hy3_0
  simp only [List.cons.injEq, and_true] at e3_0
  subst e3_0
  obtain ⟨a3_1, e3_1, _, w3_1⟩ := DataW.trod_int Try.underlying3 hy3_1
  simp only [List.cons.injEq, and_true] at e3_1
  subst e3_1
  obtain ⟨a3_2, e3_2, _, w3_2⟩ := DataW.trod_int Try.underlying3 hy3_2
  simp only [List.cons.injEq, and_true] at e3_2
  subst e3_2
  obtain ⟨a3_3, e3_3, _, w3_3⟩ := DataW.trod_int Try.underlying3 hy3_3
  simp only [List.cons.injEq, and_true] at e3_3
  subst e3_3
  obtain ⟨a3_4, e3_4, _, w3_4⟩ := DataW.trod_int Try.underlying3 hy3_4
  simp only [List.cons.injEq, and_true] at e3_4
  subst e3_4
  obtain ⟨a3_5, e3_5, _, w3_5⟩ := DataW.trod_int Try.underlying3 hy3_5
  simp only [List.cons.injEq, and_true] at e3_5
  subst e3_5
  clear hA0 hval0
  refine (walk a0 a1 a2_0 a2_1 a2_2 a2_3 a2_4 a2_5 a3_0 a3_1 a3_2 a3_3 a3_4 a3_5 W w0 w1 w2_0 w2_1 w2_2 w2_3 w2_4 w2_5 w3_0 w3_1 w3_2 w3_3 w3_4 w3_5).mono fun e W' ⟨he, bel⟩ => ?_
  subst he
  exact ⟨_, rfl, _, _, _, [], _, [], hW', trodAll_mk1 (shut_bool Try.underlying4 _), (trodAll_cons_mk (Below.trod laidOut (by kernel_rfl) (of_decide_eq_true (by kernel_rfl)) k0 bel lt0) (trodAll_cons_mk (Below.trod laidOut (by kernel_rfl) (of_decide_eq_true (by kernel_rfl)) k1 bel lt1) (trodAll_cons_mk (Below.trod laidOut (by kernel_rfl) (of_decide_eq_true (by kernel_rfl)) k2 bel lt2) (trodAll_cons_mk (Below.trod laidOut (by kernel_rfl) (of_decide_eq_true (by kernel_rfl)) k3 bel lt3) trodAll_mk0)))), rfl, bel.frame _, fun h => by cases h⟩

theorem over : Rows.recordNextRow.holds Try.pinned (OpenSpec.ofChange Rows.recordNextSpec) :=
  OpenClaim.holds_of_wide 4 Try.f4 rfl rfl rfl rfl rfl rfl rfl ⟨rfl, rfl, rfl, rfl, rfl⟩ rfl rfl rfl rfl rfl (by kernel_rfl) Try.func4 (by kernel_rfl)
    (of_decide_eq_true (by kernel_rfl)) (by unfold Func.isWrapper; first | (rw [if_pos (by decide +kernel)]; kernel_rfl) | (rw [if_neg (by decide +kernel)]; exact ⟨rfl, rfl⟩))
    (fun os started H enc _ => lifted os started H enc)

theorem proved : Rows.RecordNextSaid := over
#print axioms proved
end Go.Proofs.Ytkjcpgnmkjkbbaa.recordNext
