/-
  The functions come to that: the reader says so.
-/
import Derived.Test.YtnaojplgikaeoaaAll
import Derived.Test.YtnaojplgikaeoaaProg
namespace Go.Proofs.Ytnaojplgikaeoaa
open Go.Proofs.Ytnaojplgikaeoaa.Eng
set_option linter.unusedVariables false
set_option maxRecDepth 20000
theorem R_cell_Over : execFn Try.prog [] 7 = T_cell_Over := by kernel_rfl
theorem R_cell_Loose : execFn Try.prog [] 17 = T_cell_Loose := by kernel_rfl
theorem R_cell_ended : execFn Try.prog [] 32 = T_cell_ended := by kernel_rfl
theorem R_cell_Take : execFn Try.prog [] 8 = T_cell_Take := by kernel_rfl
theorem R_cell_Held : execFn Try.prog [] 16 = T_cell_Held := by kernel_rfl
theorem R_cell_loosen : execFn Try.prog [] 33 = T_cell_loosen := by kernel_rfl
theorem R_cell_Release : execFn Try.prog [] 9 = T_cell_Release := by kernel_rfl
theorem R_cell_Cancel : execFn Try.prog [] 10 = T_cell_Cancel := by kernel_rfl
theorem R_cell_Expire : execFn Try.prog [] 11 = T_cell_Expire := by kernel_rfl
theorem R_cell_Promote : execFn Try.prog [] 12 = T_cell_Promote := by kernel_rfl
theorem R_law06_awake : execFn Try.prog [] 13 = T_law06_awake := by kernel_rfl
theorem R_cell_Hold : execFn Try.prog [] 14 = T_cell_Hold := by kernel_rfl
theorem R_cell_Live : execFn Try.prog [] 15 = T_cell_Live := by kernel_rfl
theorem R_cell_Begin : execFn Try.prog [] 18 = T_cell_Begin := by kernel_rfl
theorem R_law06_CellPaths : execFn Try.prog [(7, ⟨[11, 45, 114, 115, 116, 119, 120, 121, 130, 131, 132, 135, 136, 137, 138, 139, 140, 143, 144, 145, 146, 149, 150, 151, 154, 155, 156], [7, 8, 9, 43, 44], [9], [], [], [], 0⟩), (17, ⟨[], [7, 8, 9, 11, 13, 14, 15, 16, 17, 43, 44, 45, 55, 114, 115, 116, 119, 120, 121, 130, 131, 132, 135, 136, 137, 138, 139, 140, 143, 144, 145, 146, 149, 150, 151, 154, 155, 156], [], [], [], [(61, false, [.bool])], 1⟩), (22, ⟨[], [7, 8, 9, 11, 13, 14, 15, 16, 43, 44, 45, 55, 114, 115, 116, 119, 120, 121, 130, 131, 132, 135, 136, 137, 138, 139, 140, 143, 144, 145, 146, 149, 150, 151, 154, 155, 156], [], [], [], [(75, false, [.bool])], 1⟩), (28, ⟨[], [7, 8, 9, 11, 13, 14, 16, 43, 44, 45, 114, 115, 116, 119, 120, 121, 130, 131, 132, 135, 136, 137, 138, 139, 140, 143, 144, 145, 146, 149, 150, 151, 154, 155, 156], [16], [], [], [(15, false, [(.int .i64)]), (17, false, [.ifc])], 1⟩), (31, ⟨[114, 115, 116, 119, 120, 121], [7, 8, 9, 14, 16, 43, 44, 45, 130, 131, 132, 135, 136, 137, 138, 139, 140, 143, 144, 145, 146, 149, 150, 151, 154, 155, 156], [], [], [], [(11, false, [(.int .i64)])], 1⟩), (34, ⟨[], [7, 8, 9, 43, 44, 45], [9], [], [], [(11, false, [(.int .i64)])], 1⟩)] 4 = T_law06_CellPaths := by kernel_rfl
theorem R_law01_Num : execFn Try.prog [(4, ⟨[3], [0], [], [], [], [], 0⟩)] 20 = T_law01_Num := by kernel_rfl
theorem R_ref06_Loose : execFn Try.prog [] 24 = T_ref06_Loose := by kernel_rfl
theorem R_fault_At : execFn Try.prog [] 36 = T_fault_At := by kernel_rfl
theorem R_field_New : execFn Try.prog [(3, ⟨[4, 9, 17, 18], [0, 2, 7, 8], [], [], [], [], 0⟩)] 44 = T_field_New := by kernel_rfl
theorem R_cell_layout : execFn Try.prog [] 37 = T_cell_layout := by kernel_rfl
theorem R_field_Layout_Most : execFn Try.prog [] 45 = T_field_Layout_Most := by kernel_rfl
theorem R_field_Layout_low : execFn Try.prog [(3, ⟨[5, 13], [11, 12], [], [], [], [], 0⟩)] 46 = T_field_Layout_low := by kernel_rfl
theorem R_field_Layout_Pack : execFn Try.prog [(5, ⟨[6, 18, 26, 27, 28, 29, 30, 31], [2, 16, 17], [], [], [], [], 0⟩)] 38 = T_field_Layout_Pack := by kernel_rfl
theorem R_cell_Word : execFn Try.prog [] 25 = T_cell_Word := by kernel_rfl
theorem R_ref02_Pack : execFn Try.prog [(20, ⟨[10, 12], [0, 1, 11], [], [], [], [], 0⟩), (17, ⟨[10, 11], [0, 1], [], [], [], [], 0⟩), (10, ⟨[8, 9], [0, 1, 7], [], [], [], [], 0⟩), (4, ⟨[7], [0, 1], [], [], [], [], 0⟩)] 39 = T_ref02_Pack := by kernel_rfl
theorem R_ref06_Word : execFn Try.prog [] 26 = T_ref06_Word := by kernel_rfl
theorem R_field_Layout_Get : execFn Try.prog [] 40 = T_field_Layout_Get := by kernel_rfl
theorem R_cell_State : execFn Try.prog [] 27 = T_cell_State := by kernel_rfl
theorem R_ref02_bit : execFn Try.prog [(2, ⟨[0, 5], [1], [], [], [], [], 0⟩)] 47 = T_ref02_bit := by kernel_rfl
theorem R_ref02_Get : execFn Try.prog [(10, ⟨[9, 10], [1, 7], [], [], [], [], 0⟩), (5, ⟨[7, 8], [0, 1, 2], [], [], [], [], 0⟩)] 41 = T_ref02_Get := by kernel_rfl
theorem R_ref06_State : execFn Try.prog [] 28 = T_ref06_State := by kernel_rfl
theorem R_ref06_Held : execFn Try.prog [] 29 = T_ref06_Held := by kernel_rfl
theorem R_cell_Kind : execFn Try.prog [(8, ⟨[], [4], [], [], [], [(7, false, [.bool])], 1⟩)] 30 = T_cell_Kind := by kernel_rfl
theorem R_ref06_Name : execFn Try.prog [] 31 = T_ref06_Name := by kernel_rfl
theorem R_law06_CellWords : execFn Try.prog [] 6 = T_law06_CellWords := by kernel_rfl
theorem prog_ok : ∀ p ∈ prog, ∃ hints, execFn Try.prog hints p.1 = p.2 := by
  unfold prog
  refine List.forall_mem_cons.2 ⟨⟨_, R_cell_Over⟩, ?_⟩
  refine List.forall_mem_cons.2 ⟨⟨_, R_cell_Loose⟩, ?_⟩
  refine List.forall_mem_cons.2 ⟨⟨_, R_cell_ended⟩, ?_⟩
  refine List.forall_mem_cons.2 ⟨⟨_, R_cell_Take⟩, ?_⟩
  refine List.forall_mem_cons.2 ⟨⟨_, R_cell_Held⟩, ?_⟩
  refine List.forall_mem_cons.2 ⟨⟨_, R_cell_loosen⟩, ?_⟩
  refine List.forall_mem_cons.2 ⟨⟨_, R_cell_Release⟩, ?_⟩
  refine List.forall_mem_cons.2 ⟨⟨_, R_cell_Cancel⟩, ?_⟩
  refine List.forall_mem_cons.2 ⟨⟨_, R_cell_Expire⟩, ?_⟩
  refine List.forall_mem_cons.2 ⟨⟨_, R_cell_Promote⟩, ?_⟩
  refine List.forall_mem_cons.2 ⟨⟨_, R_law06_awake⟩, ?_⟩
  refine List.forall_mem_cons.2 ⟨⟨_, R_cell_Hold⟩, ?_⟩
  refine List.forall_mem_cons.2 ⟨⟨_, R_cell_Live⟩, ?_⟩
  refine List.forall_mem_cons.2 ⟨⟨_, R_cell_Begin⟩, ?_⟩
  refine List.forall_mem_cons.2 ⟨⟨_, R_law06_CellPaths⟩, ?_⟩
  refine List.forall_mem_cons.2 ⟨⟨_, R_law01_Num⟩, ?_⟩
  refine List.forall_mem_cons.2 ⟨⟨_, R_ref06_Loose⟩, ?_⟩
  refine List.forall_mem_cons.2 ⟨⟨_, R_fault_At⟩, ?_⟩
  refine List.forall_mem_cons.2 ⟨⟨_, R_field_New⟩, ?_⟩
  refine List.forall_mem_cons.2 ⟨⟨_, R_cell_layout⟩, ?_⟩
  refine List.forall_mem_cons.2 ⟨⟨_, R_field_Layout_Most⟩, ?_⟩
  refine List.forall_mem_cons.2 ⟨⟨_, R_field_Layout_low⟩, ?_⟩
  refine List.forall_mem_cons.2 ⟨⟨_, R_field_Layout_Pack⟩, ?_⟩
  refine List.forall_mem_cons.2 ⟨⟨_, R_cell_Word⟩, ?_⟩
  refine List.forall_mem_cons.2 ⟨⟨_, R_ref02_Pack⟩, ?_⟩
  refine List.forall_mem_cons.2 ⟨⟨_, R_ref06_Word⟩, ?_⟩
  refine List.forall_mem_cons.2 ⟨⟨_, R_field_Layout_Get⟩, ?_⟩
  refine List.forall_mem_cons.2 ⟨⟨_, R_cell_State⟩, ?_⟩
  refine List.forall_mem_cons.2 ⟨⟨_, R_ref02_bit⟩, ?_⟩
  refine List.forall_mem_cons.2 ⟨⟨_, R_ref02_Get⟩, ?_⟩
  refine List.forall_mem_cons.2 ⟨⟨_, R_ref06_State⟩, ?_⟩
  refine List.forall_mem_cons.2 ⟨⟨_, R_ref06_Held⟩, ?_⟩
  refine List.forall_mem_cons.2 ⟨⟨_, R_cell_Kind⟩, ?_⟩
  refine List.forall_mem_cons.2 ⟨⟨_, R_ref06_Name⟩, ?_⟩
  refine List.forall_mem_cons.2 ⟨⟨_, R_law06_CellWords⟩, ?_⟩
  exact fun p h => nomatch h
end Go.Proofs.Ytnaojplgikaeoaa
