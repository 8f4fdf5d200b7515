/-
  MemNil on data.
-/
import Derived.Test.YtjhgpkojdiedgaaMemD
import Derived.Test.YtjhgpkojdiedgaaNumI
namespace Go.Proofs.Ytjhgpkojdiedgaa.MemD
open Go.Proofs.Ytjhgpkojdiedgaa.Eng Go.Proofs.Ytjhgpkojdiedgaa Go.Proofs.Ytjhgpkojdiedgaa.Dat Go.Proofs.Ytjhgpkojdiedgaa.Open Go.Proofs.Ytjhgpkojdiedgaa.NumD
set_option linter.unusedVariables false
set_option linter.unusedSimpArgs false

theorem may_nil (x h : D) : FX 18 [.nil, x, h] = some [code 2] := by
  rw [E_p_mem_Mem_may]; rfl
theorem memnil (d0 d1 : D) (w0 : Wf Try.prog (.int .i64) d0) (w1 : Wf Try.prog (.int .u64) d1) : FX 4 [d0, d1] = some [.bool true] := by
  have hn : (code 2).isNil = false := rfl
  have e1 : ∀ h, FX 8 [.nil, d0, h] = some [.int 0, code 2, h] := fun h => by
    rw [E_p_mem_Mem_Load, may_nil]; simp [bindC, hn]
  have e2 : ∀ h, FX 10 [.nil, d0, d1, d1, h] = some [.bool false, code 2, h] := fun h => by
    rw [E_p_mem_Mem_Swap, may_nil]; simp [bindC, hn]
  have e3 : ∀ h, FX 9 [.nil, d0, d1, h] = some [code 2, h] := fun h => by
    rw [E_p_mem_Mem_Store, may_nil]; simp [bindC, hn]
  have e4 := num_code 2 (by omega)
  obtain ⟨z, e5⟩ := awake []
  rw [E_law03_MemNil]
  simp only [e1, e2, e3, e4, e5, bindC, List.length_cons, List.length_nil, if_true, List.getD_cons_zero, List.getD_cons_succ, D.toBool_bool, D.toInt_int, beq_self_eq_true,
    E_p_mem_Mem_Len, E_p_mem_Mem_Steps, E_p_mem_Mem_Last, E_p_mem_Mem_Words, E_p_mem_Mem_Twin, D.isNil_nil, D.toL_agg, Bool.and_self]
  simp
end Go.Proofs.Ytjhgpkojdiedgaa.MemD
