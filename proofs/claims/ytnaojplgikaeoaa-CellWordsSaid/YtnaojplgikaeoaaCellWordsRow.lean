/-
  CellWords: every input the law lets in makes it return true and reads behind the call as before.
-/
import Derived.Test.YtnaojplgikaeoaaRows
import Derived.Test.YtnaojplgikaeoaaWordsW
import Derived.Test.YtnaojplgikaeoaaKit
import Derived.WalkKit
import Derived.ProofKit
import Derived.OpenShut
import Derived.ShutString
import Derived.ChangeOld
import Derived.Below
import Derived.Lib.SmallJoins
import Derived.SizedLaws
namespace Go.Proofs.Ytnaojplgikaeoaa.cellWords
open Go.ChangeShapes Go.WideShapes Go.ChangeAt Go.RowKit Go.Joins Go.Deep
open Go.ChangeMaps (open_string shut_string)
set_option linter.unusedVariables false

theorem own : ownKnob Try.prog.godebug = none := by kernel_rfl
theorem laidOut : laidOutB Try.prog = true := by kernel_rfl
open Go.Proofs.Ytnaojplgikaeoaa.Eng Go.Proofs.Ytnaojplgikaeoaa.Dat
theorem walk (c0_0 : Int) (c0_1 : Bool) (c0_2 : Int) (c0_3 : Int) (c0_4 : Int) (v1 : Int) (W : World) (w0_0 : (Lit.int .i64 c0_0).wf = true) (w0_2 : (Lit.int .i64 c0_2).wf = true) (w0_3 : (Lit.int .i64 c0_3).wf = true) (w0_4 : (Lit.int .i64 c0_4).wf = true) (w1 : (Lit.int .u64 v1).wf = true) :
    Calls Try.prog 6 #[.agg #[.int .i64 c0_0, .bool c0_1, .int .i64 c0_2, .int .i64 c0_3, .int .i64 c0_4], .int .u64 v1] W fun e w' => e = .returned (.bool true) ∧ Below W.heap.size W w' := by
  have hsig : Eng.sigOf Try.prog 6 = some ([.agg [.int .i64, .bool, .int .i64, .int .i64, .int .i64], .one (.int .u64)], [.one .bool]) := by kernel_rfl
  exact Eng.law_calls (all_ok 6 _ _ _ [.bool true] hsig (CW.words_true c0_0 c0_1 c0_2 c0_3 c0_4 v1 w0_0 w0_2 w0_3 w0_4 w1)) (args_agg (d1 := [D.int c0_0, D.bool c0_1, D.int c0_2, D.int c0_3, D.int c0_4]) (us := [.int .i64 c0_0, .bool c0_1, .int .i64 c0_2, .int .i64 c0_3, .int .i64 c0_4]) ⟨Rd.int rfl, Rd.bool rfl, Rd.int rfl, Rd.int rfl, Rd.int rfl, trivial⟩ (args_one (Rd.int rfl) (args_nil)))

set_option maxRecDepth 100000 in
theorem lifted (os : Os) (started : os.Started) (H : Type) (enc : TypeId × Value → H) :
    ReturnsInHanded {} Try.checked os 6 .any (Rows.cellWordsSpec.pre6 enc Try.prog Try.f6 Rows.cellWordsRow.domain false) (Rows.cellWordsSpec.post enc Try.prog Try.f6 false true false false) := by
  refine returnsInHanded_of_change_sized (C := Try.checked) own started (by kernel_rfl) Try.func6
    (ChangeSpec.witness6 (enc := enc) (C := Try.checked) false ⟨#[], #[.agg #[.int .i64 0, .bool false, .int .i64 0, .int .i64 0, .int .i64 0], .int .u64 0], []⟩ 8 (by kernel_rfl) (by kernel_rfl) (by kernel_rfl) (by kernel_rfl)) ?_
  intro W base args ds gs before hval0 hW hcnd hsz0 _
  have hsz : (DataW.weightsEach Try.prog (Try.f6.params.toList ++ Rows.cellWordsSpec.plain.varTypes Try.prog) (ds ++ gs)).all (· ≤ reachBytes) = true := hsz0
  have hval : ∀ (j : Nat) t v, Try.f6.params[j]? = some t → args[j]? = some v → Value.okWide Try.prog W .any base t v := hval0
  have hW' := hW
  obtain ⟨p, q, hA0, hV, rfl, hfz, hnd⟩ := hW
  have hA : DataW.TrodAll enc Try.prog W 0 (fun _ => true) true Try.f6.params.toList args.toList ds p := hA0
  rw [Try.params6] at hA hval hsz
  obtain ⟨v0, vs0, d0, ds0, p0, q0, hargs, rfl, rfl, h0, r0⟩ := trodAll_cons hA
  obtain ⟨v1, vs1, d1, ds1, p1, q1, rfl, rfl, rfl, h1, r1⟩ := trodAll_cons r0
  obtain ⟨rfl, rfl, rfl⟩ := trodAll_nil r1
  obtain rfl : args = #[v0, v1] := by cases args; simp_all
  obtain ⟨rfl, rfl⟩ := trodVars_none hV
  have k0 := h0
  have lt0 : ∀ x ∈ p0, x.block < W.heap.size := by obtain ⟨m, hm⟩ := k0; exact DataW.trod_lt m _ _ _ hm
  have k1 := h1
  have lt1 : ∀ x ∈ p1, x.block < W.heap.size := by obtain ⟨m, hm⟩ := k1; exact DataW.trod_lt m _ _ _ hm
  obtain ⟨c0_0, c0_1, c0_2, c0_3, c0_4, y0_0, y0_1, y0_2, y0_3, y0_4, m0, rfl, _, _, hy0_0, hy0_1, hy0_2, hy0_3, hy0_4⟩ := open_agg5 Try.underlying23 (by kernel_rfl) (by kernel_rfl : Try.prog.cellsOf 23 = 5) (hval 0 23 v0 rfl rfl) h0
  obtain ⟨a0_0, e0_0, _, w0_0⟩ := DataW.trod_int Try.underlying3 hy0_0
  simp only [List.cons.injEq, and_true] at e0_0
  subst e0_0
  obtain ⟨a0_1, e0_1, _⟩ := DataW.trod_bool Try.underlying4 hy0_1
  simp only [List.cons.injEq, and_true] at e0_1
  subst e0_1
  obtain ⟨a0_2, e0_2, _, w0_2⟩ := DataW.trod_int Try.underlying3 hy0_2
  simp only [List.cons.injEq, and_true] at e0_2
  subst e0_2
  obtain ⟨a0_3, e0_3, _, w0_3⟩ := DataW.trod_int Try.underlying3 hy0_3
  simp only [List.cons.injEq, and_true] at e0_3
  subst e0_3
  obtain ⟨a0_4, e0_4, _, w0_4⟩ := DataW.trod_int Try.underlying3 hy0_4
  simp only [List.cons.injEq, and_true] at e0_4
  subst e0_4
  obtain ⟨a1, rfl, rfl, rfl, w1⟩ := open_int Try.underlying42 (hval 1 42 v1 rfl rfl) h1
  clear hA0 hval0
  refine (walk a0_0 a0_1 a0_2 a0_3 a0_4 a1 W w0_0 w0_2 w0_3 w0_4 w1).mono fun e W' ⟨he, bel⟩ => ?_
  subst he
  exact ⟨_, rfl, _, _, _, [], _, [], hW', trodAll_mk1 (shut_bool Try.underlying4 _), (trodAll_cons_mk (Below.trod laidOut (by kernel_rfl) (of_decide_eq_true (by kernel_rfl)) k0 bel lt0) (trodAll_cons_mk (Below.trod laidOut (by kernel_rfl) (of_decide_eq_true (by kernel_rfl)) k1 bel lt1) trodAll_mk0)), rfl, bel.frame _, fun h => by cases h⟩

theorem over : Rows.cellWordsRow.holds Try.pinned (OpenSpec.ofChange Rows.cellWordsSpec) :=
  OpenClaim.holds_of_wide 6 Try.f6 rfl rfl rfl rfl rfl rfl rfl ⟨rfl, rfl, rfl, rfl, rfl⟩ rfl rfl rfl rfl rfl (by kernel_rfl) Try.func6 (by kernel_rfl)
    (of_decide_eq_true (by kernel_rfl)) (by unfold Func.isWrapper; first | (rw [if_pos (by decide +kernel)]; kernel_rfl) | (rw [if_neg (by decide +kernel)]; exact ⟨rfl, rfl⟩))
    (fun os started H enc _ => lifted os started H enc)

theorem proved : Rows.CellWordsSaid := over
#print axioms proved
end Go.Proofs.Ytnaojplgikaeoaa.cellWords
