/-
  The functions come to that: the reader says so.
-/
import Derived.Test.YtjhgpkojdiedgaaDoorAll
import Derived.Test.YtjhgpkojdiedgaaDoorProg
namespace Go.Proofs.YtjhgpkojdiedgaaDoor
open Go.Proofs.YtjhgpkojdiedgaaDoor.Eng
set_option linter.unusedVariables false
set_option maxRecDepth 20000
theorem R_mem_New : execFn Tryd.prog cfg [] 4 = T_mem_New := by kernel_rfl
theorem R_fault_At : execFn Tryd.prog cfg [] 24 = T_fault_At := by kernel_rfl
theorem R_p_mem_Mem_may : execFn Tryd.prog cfg [] 18 = T_p_mem_Mem_may := by kernel_rfl
theorem R_p_mem_Mem_step : execFn Tryd.prog cfg [] 19 = T_p_mem_Mem_step := by kernel_rfl
theorem R_p_mem_Mem_Swap : execFn Tryd.prog cfg [] 11 = T_p_mem_Mem_Swap := by kernel_rfl
theorem R_slices_Clone_uint64_uint64 : execFn Tryd.prog cfg [] 20 = T_slices_Clone_uint64_uint64 := by kernel_rfl
theorem R_p_mem_Mem_Words : execFn Tryd.prog cfg [] 16 = T_p_mem_Mem_Words := by kernel_rfl
theorem R_law03_awake : execFn Tryd.prog cfg [] 5 = T_law03_awake := by kernel_rfl
theorem R_law01_Num : execFn Tryd.prog cfg [(4, ⟨[3], [0], [], [], [], [], 0, false⟩)] 6 = T_law01_Num := by kernel_rfl
theorem R_p_mem_Mem_Len : execFn Tryd.prog cfg [] 7 = T_p_mem_Mem_Len := by kernel_rfl
theorem R_ref03_At : execFn Tryd.prog cfg [(2, ⟨[5], [0, 1], [], [], [], [], 0, false⟩)] 8 = T_ref03_At := by kernel_rfl
theorem R_p_mem_Mem_Load : execFn Tryd.prog cfg [] 9 = T_p_mem_Mem_Load := by kernel_rfl
theorem R_p_mem_Mem_Store : execFn Tryd.prog cfg [] 10 = T_p_mem_Mem_Store := by kernel_rfl
theorem R_p_mem_Mem_Twin : execFn Tryd.prog cfg [] 12 = T_p_mem_Mem_Twin := by kernel_rfl
theorem R_fault_Place : execFn Tryd.prog cfg [] 13 = T_fault_Place := by kernel_rfl
theorem R_p_mem_Mem_Steps : execFn Tryd.prog cfg [] 14 = T_p_mem_Mem_Steps := by kernel_rfl
theorem R_p_mem_Mem_Last : execFn Tryd.prog cfg [] 15 = T_p_mem_Mem_Last := by kernel_rfl
theorem R_law03_MemPlays : execFn Tryd.prog cfg [(50, ⟨[224], [7, 222, 223], [], [], [], [], 0, false⟩), (9, ⟨[5, 7, 8, 57, 68, 69, 70, 71, 97, 98, 99, 102, 103, 104, 105, 106, 107, 136, 137, 138, 139, 166, 167, 170, 171, 172, 173, 176, 177, 178, 179, 186, 187, 188, 189, 192, 193, 194, 195], [0, 55, 56, 217, 218, 219, 220], [7], [(7, 0, 48)], [], [], 0, true⟩), (36, ⟨[], [0, 7, 8, 10, 11, 12, 13, 55, 56, 57, 68, 69, 70, 71, 166, 167, 170, 171, 172, 173, 176, 177, 178, 179, 186, 187, 188, 189, 192, 193, 194, 195, 217, 218, 219, 220], [13], [], [], [(5, false, [(.ptr 54)]), (14, false, [.ifc])], 1, true⟩), (45, ⟨[7, 68, 69, 70, 71], [0, 55, 56, 57, 217, 218, 219, 220], [7], [(7, 0, 48)], [], [(5, false, [(.ptr 54)]), (8, false, [(.int .i64)])], 1, true⟩), (46, ⟨[7], [0, 217, 218, 219, 220], [7], [(7, 0, 48)], [], [(5, false, [(.ptr 54)]), (8, false, [(.int .i64)])], 1, true⟩)] 3 = T_law03_MemPlays := by kernel_rfl
theorem prog_ok : ∀ p ∈ prog, ∃ hints, execFn Tryd.prog cfg hints p.1 = p.2 := by
  unfold prog
  refine List.forall_mem_cons.2 ⟨⟨_, R_mem_New⟩, ?_⟩
  refine List.forall_mem_cons.2 ⟨⟨_, R_fault_At⟩, ?_⟩
  refine List.forall_mem_cons.2 ⟨⟨_, R_p_mem_Mem_may⟩, ?_⟩
  refine List.forall_mem_cons.2 ⟨⟨_, R_p_mem_Mem_step⟩, ?_⟩
  refine List.forall_mem_cons.2 ⟨⟨_, R_p_mem_Mem_Swap⟩, ?_⟩
  refine List.forall_mem_cons.2 ⟨⟨_, R_slices_Clone_uint64_uint64⟩, ?_⟩
  refine List.forall_mem_cons.2 ⟨⟨_, R_p_mem_Mem_Words⟩, ?_⟩
  refine List.forall_mem_cons.2 ⟨⟨_, R_law03_awake⟩, ?_⟩
  refine List.forall_mem_cons.2 ⟨⟨_, R_law01_Num⟩, ?_⟩
  refine List.forall_mem_cons.2 ⟨⟨_, R_p_mem_Mem_Len⟩, ?_⟩
  refine List.forall_mem_cons.2 ⟨⟨_, R_ref03_At⟩, ?_⟩
  refine List.forall_mem_cons.2 ⟨⟨_, R_p_mem_Mem_Load⟩, ?_⟩
  refine List.forall_mem_cons.2 ⟨⟨_, R_p_mem_Mem_Store⟩, ?_⟩
  refine List.forall_mem_cons.2 ⟨⟨_, R_p_mem_Mem_Twin⟩, ?_⟩
  refine List.forall_mem_cons.2 ⟨⟨_, R_fault_Place⟩, ?_⟩
  refine List.forall_mem_cons.2 ⟨⟨_, R_p_mem_Mem_Steps⟩, ?_⟩
  refine List.forall_mem_cons.2 ⟨⟨_, R_p_mem_Mem_Last⟩, ?_⟩
  refine List.forall_mem_cons.2 ⟨⟨_, R_law03_MemPlays⟩, ?_⟩
  exact fun p h => nomatch h
end Go.Proofs.YtjhgpkojdiedgaaDoor
