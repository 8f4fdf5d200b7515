/-
  The functions come to that: the reader says so.
-/
import Derived.Test.YtkjcpgnmkjkbbaaAll
import Derived.Test.YtkjcpgnmkjkbbaaProg
namespace Go.Proofs.Ytkjcpgnmkjkbbaa
open Go.Proofs.Ytkjcpgnmkjkbbaa.Eng
set_option linter.unusedVariables false
set_option maxRecDepth 20000
theorem R_record_IsEnd : execFn Try.prog [] 14 = T_record_IsEnd := by kernel_rfl
theorem R_record_Next : execFn Try.prog [] 8 = T_record_Next := by kernel_rfl
theorem R_record_End : execFn Try.prog [] 13 = T_record_End := by kernel_rfl
theorem R_law08_awake : execFn Try.prog [] 9 = T_law08_awake := by kernel_rfl
theorem R_record_First : execFn Try.prog [] 11 = T_record_First := by kernel_rfl
theorem R_law08_RecordReads : execFn Try.prog [(33, ⟨[148], [8, 146, 147], [], [], [], [], 0⟩), (14, ⟨[12, 72], [0, 1, 7, 8, 11, 71, 142, 143, 144], [7, 11, 12], [(12, 0, 25)], [], [], 0⟩), (6, ⟨[39], [0, 1, 2, 7, 8, 37, 38, 142, 143, 144], [8], [], [], [], 0⟩), (19, ⟨[], [0, 1, 7, 8, 11, 12, 71, 72, 142, 143, 144], [], [], [], [(14, false, [(.int .i64)])], 1⟩), (21, ⟨[], [0, 1, 7, 8, 11, 12, 71, 72, 142, 143, 144], [7], [], [], [], 1⟩), (24, ⟨[], [0, 1, 7, 8, 11, 12, 15, 71, 72, 142, 143, 144], [15], [], [], [], 1⟩), (29, ⟨[12], [0, 1, 7, 8, 11, 71, 72, 142, 143, 144], [7, 11, 12], [(12, 0, 25)], [], [], 1⟩)] 5 = T_law08_RecordReads := by kernel_rfl
theorem R_fault_At : execFn Try.prog [] 22 = T_fault_At := by kernel_rfl
theorem R_field_New : execFn Try.prog [(3, ⟨[4, 9, 17, 18], [0, 2, 7, 8], [], [], [], [], 0⟩)] 31 = T_field_New := by kernel_rfl
theorem R_record_layout : execFn Try.prog [] 23 = T_record_layout := by kernel_rfl
theorem R_field_Layout_Most : execFn Try.prog [] 32 = T_field_Layout_Most := by kernel_rfl
theorem R_field_Layout_low : execFn Try.prog [(3, ⟨[5, 13], [11, 12], [], [], [], [], 0⟩)] 33 = T_field_Layout_low := by kernel_rfl
theorem R_field_Layout_Pack : execFn Try.prog [(5, ⟨[6, 18, 26, 27, 28, 29, 30, 31], [2, 16, 17], [], [], [], [], 0⟩)] 24 = T_field_Layout_Pack := by kernel_rfl
theorem R_record_Word : execFn Try.prog [] 12 = T_record_Word := by kernel_rfl
theorem R_law08_RecordApart : execFn Try.prog [] 6 = T_law08_RecordApart := by kernel_rfl
theorem R_ref02_Pack : execFn Try.prog [(20, ⟨[10, 12], [0, 1, 11], [], [], [], [], 0⟩), (17, ⟨[10, 11], [0, 1], [], [], [], [], 0⟩), (10, ⟨[8, 9], [0, 1, 7], [], [], [], [], 0⟩), (4, ⟨[7], [0, 1], [], [], [], [], 0⟩)] 25 = T_ref02_Pack := by kernel_rfl
theorem R_ref08_widths : execFn Try.prog [] 26 = T_ref08_widths := by kernel_rfl
theorem R_ref08_Word : execFn Try.prog [] 15 = T_ref08_Word := by kernel_rfl
theorem R_law01_Num : execFn Try.prog [(4, ⟨[3], [0], [], [], [], [], 0⟩)] 16 = T_law01_Num := by kernel_rfl
theorem R_field_Layout_Get : execFn Try.prog [] 28 = T_field_Layout_Get := by kernel_rfl
theorem R_record_Of : execFn Try.prog [] 17 = T_record_Of := by kernel_rfl
theorem R_ref02_bit : execFn Try.prog [(2, ⟨[0, 5], [1], [], [], [], [], 0⟩)] 36 = T_ref02_bit := by kernel_rfl
theorem R_ref02_Get : execFn Try.prog [(10, ⟨[9, 10], [1, 7], [], [], [], [], 0⟩), (5, ⟨[7, 8], [0, 1, 2], [], [], [], [], 0⟩)] 29 = T_ref02_Get := by kernel_rfl
theorem R_ref08_Of : execFn Try.prog [] 18 = T_ref08_Of := by kernel_rfl
theorem R_ref08_End : execFn Try.prog [] 19 = T_ref08_End := by kernel_rfl
theorem R_cell_Kind : execFn Try.prog [(8, ⟨[], [4], [], [], [], [(7, false, [.bool])], 1⟩)] 30 = T_cell_Kind := by kernel_rfl
theorem R_record_Name : execFn Try.prog [] 20 = T_record_Name := by kernel_rfl
theorem R_ref08_Name : execFn Try.prog [] 21 = T_ref08_Name := by kernel_rfl
theorem R_law08_RecordWords : execFn Try.prog [] 7 = T_law08_RecordWords := by kernel_rfl
theorem prog_ok : ∀ p ∈ prog, ∃ hints, execFn Try.prog hints p.1 = p.2 := by
  unfold prog
  refine List.forall_mem_cons.2 ⟨⟨_, R_record_IsEnd⟩, ?_⟩
  refine List.forall_mem_cons.2 ⟨⟨_, R_record_Next⟩, ?_⟩
  refine List.forall_mem_cons.2 ⟨⟨_, R_record_End⟩, ?_⟩
  refine List.forall_mem_cons.2 ⟨⟨_, R_law08_awake⟩, ?_⟩
  refine List.forall_mem_cons.2 ⟨⟨_, R_record_First⟩, ?_⟩
  refine List.forall_mem_cons.2 ⟨⟨_, R_law08_RecordReads⟩, ?_⟩
  refine List.forall_mem_cons.2 ⟨⟨_, R_fault_At⟩, ?_⟩
  refine List.forall_mem_cons.2 ⟨⟨_, R_field_New⟩, ?_⟩
  refine List.forall_mem_cons.2 ⟨⟨_, R_record_layout⟩, ?_⟩
  refine List.forall_mem_cons.2 ⟨⟨_, R_field_Layout_Most⟩, ?_⟩
  refine List.forall_mem_cons.2 ⟨⟨_, R_field_Layout_low⟩, ?_⟩
  refine List.forall_mem_cons.2 ⟨⟨_, R_field_Layout_Pack⟩, ?_⟩
  refine List.forall_mem_cons.2 ⟨⟨_, R_record_Word⟩, ?_⟩
  refine List.forall_mem_cons.2 ⟨⟨_, R_law08_RecordApart⟩, ?_⟩
  refine List.forall_mem_cons.2 ⟨⟨_, R_ref02_Pack⟩, ?_⟩
  refine List.forall_mem_cons.2 ⟨⟨_, R_ref08_widths⟩, ?_⟩
  refine List.forall_mem_cons.2 ⟨⟨_, R_ref08_Word⟩, ?_⟩
  refine List.forall_mem_cons.2 ⟨⟨_, R_law01_Num⟩, ?_⟩
  refine List.forall_mem_cons.2 ⟨⟨_, R_field_Layout_Get⟩, ?_⟩
  refine List.forall_mem_cons.2 ⟨⟨_, R_record_Of⟩, ?_⟩
  refine List.forall_mem_cons.2 ⟨⟨_, R_ref02_bit⟩, ?_⟩
  refine List.forall_mem_cons.2 ⟨⟨_, R_ref02_Get⟩, ?_⟩
  refine List.forall_mem_cons.2 ⟨⟨_, R_ref08_Of⟩, ?_⟩
  refine List.forall_mem_cons.2 ⟨⟨_, R_ref08_End⟩, ?_⟩
  refine List.forall_mem_cons.2 ⟨⟨_, R_cell_Kind⟩, ?_⟩
  refine List.forall_mem_cons.2 ⟨⟨_, R_record_Name⟩, ?_⟩
  refine List.forall_mem_cons.2 ⟨⟨_, R_ref08_Name⟩, ?_⟩
  refine List.forall_mem_cons.2 ⟨⟨_, R_law08_RecordWords⟩, ?_⟩
  exact fun p h => nomatch h
end Go.Proofs.Ytkjcpgnmkjkbbaa
