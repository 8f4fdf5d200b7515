/-
  The functions come to that: the reader says so.
-/
import Derived.Test.YtnaokofklgbbcaaDoorAll
import Derived.Test.YtnaokofklgbbcaaDoorProg
namespace Go.Proofs.YtnaokofklgbbcaaDoor
open Go.Proofs.YtnaokofklgbbcaaDoor.Eng
set_option linter.unusedVariables false
set_option maxRecDepth 20000
theorem R_fault_At : execFn Tryd.prog cfg [] 8 = T_fault_At := by kernel_rfl
theorem R_fault_Place : execFn Tryd.prog cfg [] 10 = T_fault_Place := by kernel_rfl
theorem R_fault_Code : execFn Tryd.prog cfg [] 12 = T_fault_Code := by kernel_rfl
theorem R_law01_awake : execFn Tryd.prog cfg [] 6 = T_law01_awake := by kernel_rfl
theorem R_fault_With : execFn Tryd.prog cfg [] 9 = T_fault_With := by kernel_rfl
theorem R_law01_wrapped : execFn Tryd.prog cfg [(2, ⟨[1, 5], [0], [], [], [], [], 0, false⟩)] 7 = T_law01_wrapped := by kernel_rfl
theorem R_fault_Words : execFn Tryd.prog cfg [(3, ⟨[0, 3, 4, 9, 10], [], [3], [(3, 0, 9)], [], [], 0, true⟩)] 11 = T_fault_Words := by kernel_rfl
theorem R_law01_FaultDeep : execFn Tryd.prog cfg [] 3 = T_law01_FaultDeep := by kernel_rfl
theorem R_ref01_Place : execFn Tryd.prog cfg [(2, ⟨[4], [0], [], [], [], [], 0, false⟩)] 13 = T_ref01_Place := by kernel_rfl
theorem R_ref01_Words : execFn Tryd.prog cfg [(3, ⟨[3, 4], [0], [3], [(3, 0, 9)], [], [], 0, false⟩)] 14 = T_ref01_Words := by kernel_rfl
theorem R_fault_Has : execFn Tryd.prog cfg [] 15 = T_fault_Has := by kernel_rfl
theorem R_law01_FaultWraps : execFn Tryd.prog cfg [(10, ⟨[54], [0, 1, 2, 7, 12, 13, 53, 69, 70, 71, 72, 75, 76, 77, 80, 81, 82, 83, 84, 85, 86, 89, 90, 91, 92, 95, 96, 97], [], [], [], [], 0, false⟩)] 4 = T_law01_FaultWraps := by kernel_rfl
theorem R_fault_All : execFn Tryd.prog cfg [(3, ⟨[3, 8], [6, 7], [3], [(3, 0, 25)], [], [], 0, false⟩)] 17 = T_fault_All := by kernel_rfl
theorem R_fault_First : execFn Tryd.prog cfg [(2, ⟨[7], [5, 6], [], [], [], [], 0, false⟩)] 18 = T_fault_First := by kernel_rfl
theorem R_law01_FaultMany : execFn Tryd.prog cfg [(20, ⟨[14, 64, 77, 78, 79], [1, 2, 8, 12, 13, 62, 63, 88, 89, 92, 93, 96, 97, 98, 99, 100, 103, 104, 105, 106, 109, 110, 111, 112], [], [], [], [], 0, false⟩), (6, ⟨[7, 8, 9, 23], [0, 1, 2, 21, 22, 55, 56, 59, 60, 77, 78, 79, 88, 89, 92, 93, 96, 97, 98, 99, 100, 103, 104, 105, 106, 109, 110, 111, 112], [7], [(7, 0, 25)], [], [], 0, false⟩)] 5 = T_law01_FaultMany := by kernel_rfl
theorem prog_ok : ∀ p ∈ prog, ∃ hints, execFn Tryd.prog cfg hints p.1 = p.2 := by
  unfold prog
  refine List.forall_mem_cons.2 ⟨⟨_, R_fault_At⟩, ?_⟩
  refine List.forall_mem_cons.2 ⟨⟨_, R_fault_Place⟩, ?_⟩
  refine List.forall_mem_cons.2 ⟨⟨_, R_fault_Code⟩, ?_⟩
  refine List.forall_mem_cons.2 ⟨⟨_, R_law01_awake⟩, ?_⟩
  refine List.forall_mem_cons.2 ⟨⟨_, R_fault_With⟩, ?_⟩
  refine List.forall_mem_cons.2 ⟨⟨_, R_law01_wrapped⟩, ?_⟩
  refine List.forall_mem_cons.2 ⟨⟨_, R_fault_Words⟩, ?_⟩
  refine List.forall_mem_cons.2 ⟨⟨_, R_law01_FaultDeep⟩, ?_⟩
  refine List.forall_mem_cons.2 ⟨⟨_, R_ref01_Place⟩, ?_⟩
  refine List.forall_mem_cons.2 ⟨⟨_, R_ref01_Words⟩, ?_⟩
  refine List.forall_mem_cons.2 ⟨⟨_, R_fault_Has⟩, ?_⟩
  refine List.forall_mem_cons.2 ⟨⟨_, R_law01_FaultWraps⟩, ?_⟩
  refine List.forall_mem_cons.2 ⟨⟨_, R_fault_All⟩, ?_⟩
  refine List.forall_mem_cons.2 ⟨⟨_, R_fault_First⟩, ?_⟩
  refine List.forall_mem_cons.2 ⟨⟨_, R_law01_FaultMany⟩, ?_⟩
  exact fun p h => nomatch h
end Go.Proofs.YtnaokofklgbbcaaDoor
