/-
  The functions come to that: the reader says so.
-/
import Derived.Test.YtnbnjkbkjmlomaaDoorAll
import Derived.Test.YtnbnjkbkjmlomaaDoorProg
namespace Go.Proofs.YtnbnjkbkjmlomaaDoor
open Go.Proofs.YtnbnjkbkjmlomaaDoor.Eng
set_option linter.unusedVariables false
set_option maxRecDepth 20000
theorem R_law02_light : execFn Tryd.prog cfg [] 4 = T_law02_light := by kernel_rfl
theorem R_fault_At : execFn Tryd.prog cfg [] 17 = T_fault_At := by kernel_rfl
theorem R_field_New : execFn Tryd.prog cfg [(3, ⟨[4, 9, 17, 18], [0, 2, 7, 8], [], [], [], [], 0, false⟩)] 6 = T_field_New := by kernel_rfl
theorem R_field_Layout_Most : execFn Tryd.prog cfg [] 16 = T_field_Layout_Most := by kernel_rfl
theorem R_field_Layout_low : execFn Tryd.prog cfg [(3, ⟨[5, 13], [11, 12], [], [], [], [], 0, false⟩)] 20 = T_field_Layout_low := by kernel_rfl
theorem R_field_Layout_Pack : execFn Tryd.prog cfg [(5, ⟨[6, 18, 26, 27, 28, 29, 30, 31], [2, 16, 17], [], [], [], [], 0, false⟩)] 11 = T_field_Layout_Pack := by kernel_rfl
theorem R_law02_awake : execFn Tryd.prog cfg [] 5 = T_law02_awake := by kernel_rfl
theorem R_ref02_Check : execFn Tryd.prog cfg [(3, ⟨[4, 5, 18, 19, 20, 21, 22], [0], [], [], [], [], 0, false⟩)] 7 = T_ref02_Check := by kernel_rfl
theorem R_law01_Num : execFn Tryd.prog cfg [(4, ⟨[3], [0], [], [], [], [], 0, false⟩)] 8 = T_law01_Num := by kernel_rfl
theorem R_fault_Place : execFn Tryd.prog cfg [] 9 = T_fault_Place := by kernel_rfl
theorem R_field_Layout_Fields : execFn Tryd.prog cfg [] 10 = T_field_Layout_Fields := by kernel_rfl
theorem R_ref02_Pack : execFn Tryd.prog cfg [(20, ⟨[10, 12], [0, 1, 11], [], [], [], [], 0, false⟩), (17, ⟨[10, 11], [0, 1], [], [], [], [], 0, false⟩), (10, ⟨[8, 9], [0, 1, 7], [], [], [], [], 0, false⟩), (4, ⟨[7], [0, 1], [], [], [], [], 0, false⟩)] 12 = T_ref02_Pack := by kernel_rfl
theorem R_field_Layout_Get : execFn Tryd.prog cfg [] 14 = T_field_Layout_Get := by kernel_rfl
theorem R_field_Layout_All : execFn Tryd.prog cfg [(3, ⟨[5, 10], [1, 2, 9], [5], [(5, 0, 3)], [], [], 0, false⟩)] 13 = T_field_Layout_All := by kernel_rfl
theorem R_ref02_bit : execFn Tryd.prog cfg [(2, ⟨[0, 5], [1], [], [], [], [], 0, false⟩)] 21 = T_ref02_bit := by kernel_rfl
theorem R_ref02_Get : execFn Tryd.prog cfg [(10, ⟨[9, 10], [1, 7], [], [], [], [], 0, false⟩), (5, ⟨[7, 8], [0, 1, 2], [], [], [], [], 0, false⟩)] 15 = T_ref02_Get := by kernel_rfl
theorem R_law02_FieldPacks : execFn Tryd.prog cfg [(22, ⟨[132, 145, 146, 147, 148, 149, 150, 151, 152, 153, 154], [0, 2, 9, 22, 131], [], [], [], [], 0, false⟩), (18, ⟨[], [0, 2, 3, 9, 120, 121, 122, 123, 124, 125, 126, 127, 128, 145, 146, 147, 148, 149, 150, 151, 152, 153, 154], [], [], [], [], 1, true⟩)] 3 = T_law02_FieldPacks := by kernel_rfl
theorem prog_ok : ∀ p ∈ prog, ∃ hints, execFn Tryd.prog cfg hints p.1 = p.2 := by
  unfold prog
  refine List.forall_mem_cons.2 ⟨⟨_, R_law02_light⟩, ?_⟩
  refine List.forall_mem_cons.2 ⟨⟨_, R_fault_At⟩, ?_⟩
  refine List.forall_mem_cons.2 ⟨⟨_, R_field_New⟩, ?_⟩
  refine List.forall_mem_cons.2 ⟨⟨_, R_field_Layout_Most⟩, ?_⟩
  refine List.forall_mem_cons.2 ⟨⟨_, R_field_Layout_low⟩, ?_⟩
  refine List.forall_mem_cons.2 ⟨⟨_, R_field_Layout_Pack⟩, ?_⟩
  refine List.forall_mem_cons.2 ⟨⟨_, R_law02_awake⟩, ?_⟩
  refine List.forall_mem_cons.2 ⟨⟨_, R_ref02_Check⟩, ?_⟩
  refine List.forall_mem_cons.2 ⟨⟨_, R_law01_Num⟩, ?_⟩
  refine List.forall_mem_cons.2 ⟨⟨_, R_fault_Place⟩, ?_⟩
  refine List.forall_mem_cons.2 ⟨⟨_, R_field_Layout_Fields⟩, ?_⟩
  refine List.forall_mem_cons.2 ⟨⟨_, R_ref02_Pack⟩, ?_⟩
  refine List.forall_mem_cons.2 ⟨⟨_, R_field_Layout_Get⟩, ?_⟩
  refine List.forall_mem_cons.2 ⟨⟨_, R_field_Layout_All⟩, ?_⟩
  refine List.forall_mem_cons.2 ⟨⟨_, R_ref02_bit⟩, ?_⟩
  refine List.forall_mem_cons.2 ⟨⟨_, R_ref02_Get⟩, ?_⟩
  refine List.forall_mem_cons.2 ⟨⟨_, R_law02_FieldPacks⟩, ?_⟩
  exact fun p h => nomatch h
end Go.Proofs.YtnbnjkbkjmlomaaDoor
