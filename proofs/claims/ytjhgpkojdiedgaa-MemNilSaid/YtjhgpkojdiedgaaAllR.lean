/-
  The functions come to that: the reader says so.
-/
import Derived.Test.YtjhgpkojdiedgaaAll
import Derived.Test.YtjhgpkojdiedgaaProg
namespace Go.Proofs.Ytjhgpkojdiedgaa
open Go.Proofs.Ytjhgpkojdiedgaa.Eng
set_option linter.unusedVariables false
set_option maxRecDepth 20000
theorem R_mem_New : execFn Try.prog cfg [] 5 = T_mem_New := by kernel_rfl
theorem R_fault_At : execFn Try.prog cfg [] 22 = T_fault_At := by kernel_rfl
theorem R_p_mem_Mem_may : execFn Try.prog cfg [] 18 = T_p_mem_Mem_may := by kernel_rfl
theorem R_p_mem_Mem_step : execFn Try.prog cfg [] 19 = T_p_mem_Mem_step := by kernel_rfl
theorem R_p_mem_Mem_Swap : execFn Try.prog cfg [] 10 = T_p_mem_Mem_Swap := by kernel_rfl
theorem R_slices_Clone_uint64_uint64 : execFn Try.prog cfg [] 20 = T_slices_Clone_uint64_uint64 := by kernel_rfl
theorem R_p_mem_Mem_Words : execFn Try.prog cfg [] 12 = T_p_mem_Mem_Words := by kernel_rfl
theorem R_law03_awake : execFn Try.prog cfg [] 6 = T_law03_awake := by kernel_rfl
theorem R_p_mem_Mem_Load : execFn Try.prog cfg [] 8 = T_p_mem_Mem_Load := by kernel_rfl
theorem R_p_mem_Mem_Store : execFn Try.prog cfg [] 9 = T_p_mem_Mem_Store := by kernel_rfl
theorem R_law03_MemTwins_1 : execFn Try.prog cfg [(1, ⟨[8], [0, 6, 7], [], [], [], [], 0, true⟩)] 7 = T_law03_MemTwins_1 := by kernel_rfl
theorem R_law03_MemTwins_2 : execFn Try.prog cfg [(4, ⟨[13], [0, 1, 12], [], [], [], [], 0, false⟩)] 11 = T_law03_MemTwins_2 := by kernel_rfl
theorem R_p_mem_Mem_Twin : execFn Try.prog cfg [] 13 = T_p_mem_Mem_Twin := by kernel_rfl
theorem R_p_mem_Mem_Steps : execFn Try.prog cfg [] 14 = T_p_mem_Mem_Steps := by kernel_rfl
theorem R_p_mem_Mem_Last : execFn Try.prog cfg [] 15 = T_p_mem_Mem_Last := by kernel_rfl
theorem R_law03_MemTwins : execFn Try.prog cfg [] 3 = T_law03_MemTwins := by kernel_rfl
theorem R_law01_Num : execFn Try.prog cfg [(4, ⟨[3], [0], [], [], [], [], 0, false⟩)] 16 = T_law01_Num := by kernel_rfl
theorem R_p_mem_Mem_Len : execFn Try.prog cfg [] 17 = T_p_mem_Mem_Len := by kernel_rfl
theorem R_law03_MemNil : execFn Try.prog cfg [] 4 = T_law03_MemNil := by kernel_rfl
theorem prog_ok : ∀ p ∈ prog, ∃ hints, execFn Try.prog cfg hints p.1 = p.2 := by
  unfold prog
  refine List.forall_mem_cons.2 ⟨⟨_, R_mem_New⟩, ?_⟩
  refine List.forall_mem_cons.2 ⟨⟨_, R_fault_At⟩, ?_⟩
  refine List.forall_mem_cons.2 ⟨⟨_, R_p_mem_Mem_may⟩, ?_⟩
  refine List.forall_mem_cons.2 ⟨⟨_, R_p_mem_Mem_step⟩, ?_⟩
  refine List.forall_mem_cons.2 ⟨⟨_, R_p_mem_Mem_Swap⟩, ?_⟩
  refine List.forall_mem_cons.2 ⟨⟨_, R_slices_Clone_uint64_uint64⟩, ?_⟩
  refine List.forall_mem_cons.2 ⟨⟨_, R_p_mem_Mem_Words⟩, ?_⟩
  refine List.forall_mem_cons.2 ⟨⟨_, R_law03_awake⟩, ?_⟩
  refine List.forall_mem_cons.2 ⟨⟨_, R_p_mem_Mem_Load⟩, ?_⟩
  refine List.forall_mem_cons.2 ⟨⟨_, R_p_mem_Mem_Store⟩, ?_⟩
  refine List.forall_mem_cons.2 ⟨⟨_, R_law03_MemTwins_1⟩, ?_⟩
  refine List.forall_mem_cons.2 ⟨⟨_, R_law03_MemTwins_2⟩, ?_⟩
  refine List.forall_mem_cons.2 ⟨⟨_, R_p_mem_Mem_Twin⟩, ?_⟩
  refine List.forall_mem_cons.2 ⟨⟨_, R_p_mem_Mem_Steps⟩, ?_⟩
  refine List.forall_mem_cons.2 ⟨⟨_, R_p_mem_Mem_Last⟩, ?_⟩
  refine List.forall_mem_cons.2 ⟨⟨_, R_law03_MemTwins⟩, ?_⟩
  refine List.forall_mem_cons.2 ⟨⟨_, R_law01_Num⟩, ?_⟩
  refine List.forall_mem_cons.2 ⟨⟨_, R_p_mem_Mem_Len⟩, ?_⟩
  refine List.forall_mem_cons.2 ⟨⟨_, R_law03_MemNil⟩, ?_⟩
  exact fun p h => nomatch h
end Go.Proofs.Ytjhgpkojdiedgaa
