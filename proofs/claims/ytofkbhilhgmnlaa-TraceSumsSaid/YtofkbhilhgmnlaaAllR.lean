/-
  The functions come to that: the reader says so.
-/
import Derived.Test.YtofkbhilhgmnlaaAll
import Derived.Test.YtofkbhilhgmnlaaProg
namespace Go.Proofs.Ytofkbhilhgmnlaa
open Go.Proofs.Ytofkbhilhgmnlaa.Eng
set_option linter.unusedVariables false
set_option maxRecDepth 20000
theorem R_rules_Rules_All : execFn Try.prog cfg [] 35 = T_rules_Rules_All := by kernel_rfl
theorem R_rules_Rules_Owner : execFn Try.prog cfg [] 24 = T_rules_Rules_Owner := by kernel_rfl
theorem R_slices_IndexFunc_trace_Order_trace_Order : execFn Try.prog cfg [(2, ⟨[8], [0, 1, 7], [], [], [], [], 0, false⟩)] 31 = T_slices_IndexFunc_trace_Order_trace_Order := by kernel_rfl
theorem R_p_trace_Model_find_1 : execFn Try.prog cfg [] 32 = T_p_trace_Model_find_1 := by kernel_rfl
theorem R_p_trace_Model_find : execFn Try.prog cfg [] 22 = T_p_trace_Model_find := by kernel_rfl
theorem R_p_trace_Model_live : execFn Try.prog cfg [] 27 = T_p_trace_Model_live := by kernel_rfl
theorem R_fault_First : execFn Try.prog cfg [(2, ⟨[7], [5, 6], [], [], [], [], 0, false⟩)] 28 = T_fault_First := by kernel_rfl
theorem R_p_trace_Model_over : execFn Try.prog cfg [] 29 = T_p_trace_Model_over := by kernel_rfl
theorem R_field_up : execFn Try.prog cfg [] 37 = T_field_up := by kernel_rfl
theorem R_field_Mid : execFn Try.prog cfg [] 36 = T_field_Mid := by kernel_rfl
theorem R_terms_Match : execFn Try.prog cfg [(4, ⟨[], [2, 3, 4, 5, 8, 9, 10, 23, 24, 25, 28, 29, 30, 31, 32, 44, 45, 48, 49, 50, 51, 52, 53, 54], [9, 10], [], [], [], 1, false⟩)] 30 = T_terms_Match := by kernel_rfl
theorem R_p_trace_Model_fill : execFn Try.prog cfg [(15, ⟨[3], [], [], [], [], [], 3, false⟩)] 18 = T_p_trace_Model_fill := by kernel_rfl
theorem R_p_trace_Model_ends : execFn Try.prog cfg [] 19 = T_p_trace_Model_ends := by kernel_rfl
theorem R_rules_limits : execFn Try.prog cfg [] 13 = T_rules_limits := by kernel_rfl
theorem R_fault_At : execFn Try.prog cfg [] 14 = T_fault_At := by kernel_rfl
theorem R_fault_With : execFn Try.prog cfg [] 15 = T_fault_With := by kernel_rfl
theorem R_rules_New : execFn Try.prog cfg [(2, ⟨[9, 20, 21, 22, 23, 24], [1, 2, 7, 8], [], [], [], [], 0, false⟩)] 6 = T_rules_New := by kernel_rfl
theorem R_p_trace_Model_Order : execFn Try.prog cfg [] 11 = T_p_trace_Model_Order := by kernel_rfl
theorem R_trace_New : execFn Try.prog cfg [] 8 = T_trace_New := by kernel_rfl
theorem R_p_trace_Model_last : execFn Try.prog cfg [(3, ⟨[5, 13], [1, 11, 12], [], [], [], [], 0, false⟩)] 25 = T_p_trace_Model_last := by kernel_rfl
theorem R_terms_Check : execFn Try.prog cfg [] 26 = T_terms_Check := by kernel_rfl
theorem R_p_trace_Model_submit : execFn Try.prog cfg [(9, ⟨[], [0, 3], [], [], [], [(5, false, [(.int .i64)])], 1, true⟩)] 17 = T_p_trace_Model_submit := by kernel_rfl
theorem R_p_trace_Model_turn : execFn Try.prog cfg [] 20 = T_p_trace_Model_turn := by kernel_rfl
theorem R_p_trace_Model_Do : execFn Try.prog cfg [(15, ⟨[], [0, 3, 18], [], [], [], [(30, false, [.bool])], 1, true⟩), (19, ⟨[], [0, 3], [], [], [], [(5, false, [.ifc])], 1, true⟩)] 9 = T_p_trace_Model_Do := by kernel_rfl
theorem R_trace_Play : execFn Try.prog cfg [(3, ⟨[14], [6, 12, 13], [], [], [], [], 0, true⟩)] 16 = T_trace_Play := by kernel_rfl
theorem R_law09_awake : execFn Try.prog cfg [] 7 = T_law09_awake := by kernel_rfl
theorem R_slices_Clone_trace_Order_trace_Order : execFn Try.prog cfg [] 21 = T_slices_Clone_trace_Order_trace_Order := by kernel_rfl
theorem R_p_trace_Model_Orders : execFn Try.prog cfg [] 10 = T_p_trace_Model_Orders := by kernel_rfl
theorem R_law01_Num : execFn Try.prog cfg [(4, ⟨[3], [0], [], [], [], [], 0, false⟩)] 12 = T_law01_Num := by kernel_rfl
theorem R_law09_TraceSums : execFn Try.prog cfg [(24, ⟨[9, 96, 114, 115, 116, 119, 120, 121, 122, 123], [2, 7, 8, 30, 31, 32, 88, 89, 90, 94, 95, 136, 137, 138, 139, 140, 143, 144, 145, 146], [9], [(9, 0, 43)], [], [], 0, false⟩), (16, ⟨[72, 88, 89, 90], [2, 7, 8, 30, 31, 32, 70, 71, 114, 115, 116, 119, 120, 121, 122, 123, 136, 137, 138, 139, 140, 143, 144, 145, 146], [], [], [], [], 0, false⟩), (8, ⟨[9, 32, 88, 89, 90, 114, 115, 116, 119, 120, 121, 122, 123], [2, 7, 8, 30, 31, 136, 137, 138, 139, 140, 143, 144, 145, 146], [8], [], [(9, 0, 43)], [], 0, true⟩), (15, ⟨[], [2, 7, 8, 9, 30, 31, 32, 88, 89, 90, 114, 115, 116, 119, 120, 121, 122, 123, 136, 137, 138, 139, 140, 143, 144, 145, 146], [8], [], [], [], 1, true⟩)] 5 = T_law09_TraceSums := by kernel_rfl
theorem prog_ok : ∀ p ∈ prog, ∃ hints, execFn Try.prog cfg hints p.1 = p.2 := by
  unfold prog
  refine List.forall_mem_cons.2 ⟨⟨_, R_rules_Rules_All⟩, ?_⟩
  refine List.forall_mem_cons.2 ⟨⟨_, R_rules_Rules_Owner⟩, ?_⟩
  refine List.forall_mem_cons.2 ⟨⟨_, R_slices_IndexFunc_trace_Order_trace_Order⟩, ?_⟩
  refine List.forall_mem_cons.2 ⟨⟨_, R_p_trace_Model_find_1⟩, ?_⟩
  refine List.forall_mem_cons.2 ⟨⟨_, R_p_trace_Model_find⟩, ?_⟩
  refine List.forall_mem_cons.2 ⟨⟨_, R_p_trace_Model_live⟩, ?_⟩
  refine List.forall_mem_cons.2 ⟨⟨_, R_fault_First⟩, ?_⟩
  refine List.forall_mem_cons.2 ⟨⟨_, R_p_trace_Model_over⟩, ?_⟩
  refine List.forall_mem_cons.2 ⟨⟨_, R_field_up⟩, ?_⟩
  refine List.forall_mem_cons.2 ⟨⟨_, R_field_Mid⟩, ?_⟩
  refine List.forall_mem_cons.2 ⟨⟨_, R_terms_Match⟩, ?_⟩
  refine List.forall_mem_cons.2 ⟨⟨_, R_p_trace_Model_fill⟩, ?_⟩
  refine List.forall_mem_cons.2 ⟨⟨_, R_p_trace_Model_ends⟩, ?_⟩
  refine List.forall_mem_cons.2 ⟨⟨_, R_rules_limits⟩, ?_⟩
  refine List.forall_mem_cons.2 ⟨⟨_, R_fault_At⟩, ?_⟩
  refine List.forall_mem_cons.2 ⟨⟨_, R_fault_With⟩, ?_⟩
  refine List.forall_mem_cons.2 ⟨⟨_, R_rules_New⟩, ?_⟩
  refine List.forall_mem_cons.2 ⟨⟨_, R_p_trace_Model_Order⟩, ?_⟩
  refine List.forall_mem_cons.2 ⟨⟨_, R_trace_New⟩, ?_⟩
  refine List.forall_mem_cons.2 ⟨⟨_, R_p_trace_Model_last⟩, ?_⟩
  refine List.forall_mem_cons.2 ⟨⟨_, R_terms_Check⟩, ?_⟩
  refine List.forall_mem_cons.2 ⟨⟨_, R_p_trace_Model_submit⟩, ?_⟩
  refine List.forall_mem_cons.2 ⟨⟨_, R_p_trace_Model_turn⟩, ?_⟩
  refine List.forall_mem_cons.2 ⟨⟨_, R_p_trace_Model_Do⟩, ?_⟩
  refine List.forall_mem_cons.2 ⟨⟨_, R_trace_Play⟩, ?_⟩
  refine List.forall_mem_cons.2 ⟨⟨_, R_law09_awake⟩, ?_⟩
  refine List.forall_mem_cons.2 ⟨⟨_, R_slices_Clone_trace_Order_trace_Order⟩, ?_⟩
  refine List.forall_mem_cons.2 ⟨⟨_, R_p_trace_Model_Orders⟩, ?_⟩
  refine List.forall_mem_cons.2 ⟨⟨_, R_law01_Num⟩, ?_⟩
  refine List.forall_mem_cons.2 ⟨⟨_, R_law09_TraceSums⟩, ?_⟩
  exact fun p h => nomatch h
end Go.Proofs.Ytofkbhilhgmnlaa
