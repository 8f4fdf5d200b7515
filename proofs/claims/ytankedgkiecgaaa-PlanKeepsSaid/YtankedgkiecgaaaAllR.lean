/-
  The functions come to that: the reader says so.
-/
import Derived.Test.YtankedgkiecgaaaAll
import Derived.Test.YtankedgkiecgaaaProg
namespace Go.Proofs.Ytankedgkiecgaaa
open Go.Proofs.Ytankedgkiecgaaa.Eng
set_option linter.unusedVariables false
set_option maxRecDepth 20000
theorem R_slices_IndexFunc_2_int_2_int : execFn Try.prog cfg [(2, ⟨[8], [0, 1, 7], [], [], [], [], 0, false⟩)] 41 = T_slices_IndexFunc_2_int_2_int := by kernel_rfl
theorem R_slices_DeleteFunc_2_int_2_int : execFn Try.prog cfg [(5, ⟨[5, 6], [0, 1], [0], [], [], [], 0, false⟩)] 34 = T_slices_DeleteFunc_2_int_2_int := by kernel_rfl
theorem R_plan_Runs_1 : execFn Try.prog cfg [] 35 = T_plan_Runs_1 := by kernel_rfl
theorem R_plan_Runs : execFn Try.prog cfg [(3, ⟨[3, 9, 33, 34, 35, 36, 37, 38, 39, 40, 41, 44, 45, 46, 47, 48, 49, 50], [7, 8], [3], [(3, 0, 47)], [], [], 0, false⟩)] 18 = T_plan_Runs := by kernel_rfl
theorem R_math_bits_Mul32 : execFn Try.prog cfg [] 43 = T_math_bits_Mul32 := by kernel_rfl
theorem R_math_bits_Mul64 : execFn Try.prog cfg [] 44 = T_math_bits_Mul64 := by kernel_rfl
theorem R_math_bits_Mul : execFn Try.prog cfg [] 42 = T_math_bits_Mul := by kernel_rfl
theorem R_slices_Repeat_pool_Event_pool_Event : execFn Try.prog cfg [(8, ⟨[8], [7], [7], [], [], [], 0, false⟩)] 36 = T_slices_Repeat_pool_Event_pool_Event := by kernel_rfl
theorem R_plan_pick : execFn Try.prog cfg [] 37 = T_plan_pick := by kernel_rfl
theorem R_plan_Burst : execFn Try.prog cfg [] 23 = T_plan_Burst := by kernel_rfl
theorem R_law21_awake : execFn Try.prog cfg [] 8 = T_law21_awake := by kernel_rfl
theorem R_law21_events : execFn Try.prog cfg [(3, ⟨[3, 9], [7, 8], [3], [(3, 0, 64)], [], [], 0, false⟩)] 9 = T_law21_events := by kernel_rfl
theorem R_ref21_Mix : execFn Try.prog cfg [(12, ⟨[3, 7], [0, 4, 6], [3], [(3, 0, 3)], [], [], 0, false⟩), (9, ⟨[3, 6], [0, 4], [3], [(3, 0, 3)], [], [], 0, false⟩), (4, ⟨[4, 5], [0, 3], [], [], [], [], 0, false⟩)] 10 = T_ref21_Mix := by kernel_rfl
theorem R_plan_Mix : execFn Try.prog cfg [(6, ⟨[3, 5, 12], [0, 4, 10, 11], [3], [(3, 0, 64)], [], [], 0, false⟩), (4, ⟨[3, 4], [0], [3], [(3, 0, 64)], [], [], 0, false⟩)] 11 = T_plan_Mix := by kernel_rfl
theorem R_law21_same : execFn Try.prog cfg [(4, ⟨[14, 23, 24, 25, 26, 27, 33, 34, 35, 36, 37, 38, 39, 42, 43, 44], [1, 12, 13], [], [], [], [], 0, false⟩)] 12 = T_law21_same := by kernel_rfl
theorem R_slices_IndexFunc_pool_Event_pool_Event : execFn Try.prog cfg [(2, ⟨[8], [0, 1, 7], [], [], [], [], 0, false⟩)] 40 = T_slices_IndexFunc_pool_Event_pool_Event := by kernel_rfl
theorem R_slices_DeleteFunc_pool_Event_pool_Event : execFn Try.prog cfg [(5, ⟨[5, 6], [0, 1], [0], [], [], [], 0, false⟩)] 28 = T_slices_DeleteFunc_pool_Event_pool_Event := by kernel_rfl
theorem R_slices_Clone_pool_Event_pool_Event : execFn Try.prog cfg [] 29 = T_slices_Clone_pool_Event_pool_Event := by kernel_rfl
theorem R_plan_Without_1 : execFn Try.prog cfg [] 30 = T_plan_Without_1 := by kernel_rfl
theorem R_plan_Without : execFn Try.prog cfg [] 13 = T_plan_Without := by kernel_rfl
theorem R_law21_PlanMixes : execFn Try.prog cfg [(15, ⟨[10, 39, 47, 48], [1, 8, 9, 37, 38, 57, 58, 59, 62, 63, 64, 65, 66], [10], [(10, 0, 3)], [], [], 0, false⟩), (5, ⟨[5, 19], [0, 1, 17, 18, 47, 48, 57, 58, 59, 62, 63, 64, 65, 66], [5], [(5, 0, 26)], [], [], 0, false⟩)] 3 = T_law21_PlanMixes := by kernel_rfl
theorem R_rules_limits : execFn Try.prog cfg [] 31 = T_rules_limits := by kernel_rfl
theorem R_fault_At : execFn Try.prog cfg [] 32 = T_fault_At := by kernel_rfl
theorem R_fault_With : execFn Try.prog cfg [] 33 = T_fault_With := by kernel_rfl
theorem R_rules_New : execFn Try.prog cfg [(2, ⟨[9, 20, 21, 22, 23, 24], [1, 2, 7, 8], [], [], [], [], 0, false⟩)] 14 = T_rules_New := by kernel_rfl
theorem R_ref05_Check : execFn Try.prog cfg [(5, ⟨[6, 40, 41, 42, 43, 44, 45, 46, 47, 48], [3, 4, 5], [], [], [], [], 0, false⟩)] 15 = T_ref05_Check := by kernel_rfl
theorem R_rules_Rules_Shards : execFn Try.prog cfg [] 39 = T_rules_Rules_Shards := by kernel_rfl
theorem R_rules_Rules_Agents : execFn Try.prog cfg [] 27 = T_rules_Rules_Agents := by kernel_rfl
theorem R_plan_Picked : execFn Try.prog cfg [(3, ⟨[13, 21, 22, 23, 26, 27, 28, 29, 30], [5, 11, 12], [5], [], [], [], 0, false⟩)] 16 = T_plan_Picked := by kernel_rfl
theorem R_ref21_Gap : execFn Try.prog cfg [(6, ⟨[7, 21, 22, 23, 24, 25, 26, 27, 28], [0, 1, 5, 6], [], [], [], [], 0, false⟩), (3, ⟨[5, 6, 21, 22, 23, 24, 25, 26, 27, 28], [0, 1], [], [], [], [], 0, false⟩)] 17 = T_ref21_Gap := by kernel_rfl
theorem R_ref21_Runs : execFn Try.prog cfg [(5, ⟨[5, 17, 18, 19, 20, 21, 22, 23, 24, 25, 26, 27], [0, 3, 4], [], [], [], [], 0, false⟩), (3, ⟨[3, 4, 17, 18, 19, 20, 21, 22, 23, 24, 25, 26, 27], [0], [3], [(3, 0, 47)], [], [], 0, false⟩)] 19 = T_ref21_Runs := by kernel_rfl
theorem R_plan_Gap : execFn Try.prog cfg [(3, ⟨[5, 6, 11, 21, 22, 23, 24], [0, 9, 10], [], [], [], [], 0, false⟩)] 20 = T_plan_Gap := by kernel_rfl
theorem R_plan_Fair : execFn Try.prog cfg [(2, ⟨[10], [1, 2, 9], [], [], [], [], 0, false⟩)] 21 = T_plan_Fair := by kernel_rfl
theorem R_law21_PlanCounts : execFn Try.prog cfg [(28, ⟨[105], [1, 2, 3, 9, 11, 14, 19, 20, 104, 121, 122, 123, 124, 125, 126, 127, 131, 132, 133, 134, 135, 136], [], [], [], [], 0, false⟩), (15, ⟨[16, 68], [1, 2, 3, 9, 11, 13, 14, 15, 62, 63, 66, 67, 86, 87, 88, 89, 90, 91, 121, 122, 123, 124, 125, 126, 127, 131, 132, 133, 134, 135, 136], [], [], [], [], 0, false⟩), (11, ⟨[14, 63, 86, 87, 88, 89, 90, 91], [1, 2, 3, 9, 11, 13, 62, 121, 122, 123, 124, 125, 126, 127, 131, 132, 133, 134, 135, 136], [], [], [], [], 0, false⟩)] 4 = T_law21_PlanCounts := by kernel_rfl
theorem R_ref04_Pick : execFn Try.prog cfg [] 22 = T_ref04_Pick := by kernel_rfl
theorem R_tick_Pick : execFn Try.prog cfg [] 38 = T_tick_Pick := by kernel_rfl
theorem R_plan_Drawn : execFn Try.prog cfg [(3, ⟨[5, 10], [2, 8, 9], [5], [(5, 0, 64)], [], [], 0, false⟩)] 24 = T_plan_Drawn := by kernel_rfl
theorem R_plan_Round : execFn Try.prog cfg [(5, ⟨[5, 14], [2, 9, 10, 13], [5], [(5, 0, 64)], [], [], 0, false⟩), (3, ⟨[5, 10], [2, 9], [5], [(5, 0, 64)], [], [], 0, false⟩)] 25 = T_plan_Round := by kernel_rfl
theorem R_plan_Weighted : execFn Try.prog cfg [(5, ⟨[5, 15], [0, 10, 11, 13, 14], [5], [(5, 0, 64)], [], [], 0, false⟩), (3, ⟨[5, 11], [0, 10], [5], [(5, 0, 64)], [], [], 0, false⟩)] 26 = T_plan_Weighted := by kernel_rfl
theorem R_law21_PlanLays : execFn Try.prog cfg [(28, ⟨[16, 106], [1, 2, 3, 4, 11, 13, 14, 15, 17, 18, 104, 105, 121, 122, 123, 124, 125, 126, 127, 130, 131, 132, 133, 134, 138, 139, 140, 141, 142, 145, 146, 147, 148, 149, 152, 153, 154, 155, 156, 159, 160, 161, 162, 163], [16], [(16, 0, 3)], [], [], 0, false⟩), (22, ⟨[17, 95], [1, 2, 3, 4, 11, 13, 14, 15, 16, 18, 20, 73, 74, 85, 86, 87, 94, 121, 122, 123, 124, 125, 126, 127, 130, 131, 132, 133, 134, 138, 139, 140, 141, 142, 145, 146, 147, 148, 149, 152, 153, 154, 155, 156, 159, 160, 161, 162, 163], [17], [(17, 0, 3)], [], [], 0, false⟩), (19, ⟨[17, 87], [1, 2, 3, 4, 11, 13, 14, 15, 16, 18, 73, 74, 85, 86, 121, 122, 123, 124, 125, 126, 127, 130, 131, 132, 133, 134, 138, 139, 140, 141, 142, 145, 146, 147, 148, 149, 152, 153, 154, 155, 156, 159, 160, 161, 162, 163], [17], [(17, 0, 3)], [], [], 0, false⟩), (14, ⟨[15, 77], [1, 2, 3, 4, 11, 13, 14, 16, 17, 18, 73, 74, 76, 121, 122, 123, 124, 125, 126, 127, 130, 131, 132, 133, 134, 138, 139, 140, 141, 142, 145, 146, 147, 148, 149, 152, 153, 154, 155, 156, 159, 160, 161, 162, 163], [15], [(15, 0, 3)], [], [], 0, false⟩), (12, ⟨[15, 17, 74], [1, 2, 3, 4, 11, 13, 14, 16, 18, 73, 121, 122, 123, 124, 125, 126, 127, 130, 131, 132, 133, 134, 138, 139, 140, 141, 142, 145, 146, 147, 148, 149, 152, 153, 154, 155, 156, 159, 160, 161, 162, 163], [15, 17], [(15, 0, 3), (17, 0, 3)], [], [], 0, false⟩), (7, ⟨[14, 63], [1, 2, 3, 4, 11, 13, 15, 16, 17, 62, 121, 122, 123, 124, 125, 126, 127, 130, 131, 132, 133, 134, 138, 139, 140, 141, 142, 145, 146, 147, 148, 149, 152, 153, 154, 155, 156, 159, 160, 161, 162, 163], [14], [(14, 0, 3)], [], [], 0, false⟩)] 5 = T_law21_PlanLays := by kernel_rfl
theorem R_law21_PlanRounds : execFn Try.prog cfg [(7, ⟨[29], [5, 7, 8, 27, 28, 39, 40, 41, 42, 43, 44, 45, 48, 49, 50, 51, 52, 55, 56, 57, 58, 59, 60, 61, 62, 63, 64, 65], [], [], [], [], 0, false⟩)] 6 = T_law21_PlanRounds := by kernel_rfl
theorem R_law21_PlanKeeps : execFn Try.prog cfg [(34, ⟨[120, 132, 133, 134, 135, 136, 137, 138, 139, 140, 141, 142, 145, 146, 147, 148, 149, 150, 151, 152, 153, 154], [2, 10, 16, 17, 20, 118, 119, 159, 160, 161], [], [], [], [], 0, false⟩), (28, ⟨[20, 106], [2, 7, 10, 15, 16, 17, 104, 105, 132, 133, 134, 135, 136, 137, 138, 139, 140, 141, 142, 145, 146, 147, 148, 149, 150, 151, 152, 153, 154, 159, 160, 161], [], [], [], [], 0, false⟩), (22, ⟨[17, 95], [2, 7, 10, 15, 16, 93, 94, 132, 133, 134, 135, 136, 137, 138, 139, 140, 141, 142, 145, 146, 147, 148, 149, 150, 151, 152, 153, 154, 159, 160, 161], [], [], [], [], 0, false⟩), (13, ⟨[71], [2, 7, 9, 10, 51, 52, 53, 69, 70, 132, 133, 134, 135, 136, 137, 138, 139, 140, 141, 142, 145, 146, 147, 148, 149, 150, 151, 152, 153, 154, 159, 160, 161], [10], [], [], [], 0, false⟩), (7, ⟨[9, 53], [2, 7, 10, 51, 52, 132, 133, 134, 135, 136, 137, 138, 139, 140, 141, 142, 145, 146, 147, 148, 149, 150, 151, 152, 153, 154, 159, 160, 161], [9, 10], [(9, 0, 26)], [], [], 0, false⟩)] 7 = T_law21_PlanKeeps := by kernel_rfl
theorem prog_ok : ∀ p ∈ prog, ∃ hints, execFn Try.prog cfg hints p.1 = p.2 := by
  unfold prog
  refine List.forall_mem_cons.2 ⟨⟨_, R_slices_IndexFunc_2_int_2_int⟩, ?_⟩
  refine List.forall_mem_cons.2 ⟨⟨_, R_slices_DeleteFunc_2_int_2_int⟩, ?_⟩
  refine List.forall_mem_cons.2 ⟨⟨_, R_plan_Runs_1⟩, ?_⟩
  refine List.forall_mem_cons.2 ⟨⟨_, R_plan_Runs⟩, ?_⟩
  refine List.forall_mem_cons.2 ⟨⟨_, R_math_bits_Mul32⟩, ?_⟩
  refine List.forall_mem_cons.2 ⟨⟨_, R_math_bits_Mul64⟩, ?_⟩
  refine List.forall_mem_cons.2 ⟨⟨_, R_math_bits_Mul⟩, ?_⟩
  refine List.forall_mem_cons.2 ⟨⟨_, R_slices_Repeat_pool_Event_pool_Event⟩, ?_⟩
  refine List.forall_mem_cons.2 ⟨⟨_, R_plan_pick⟩, ?_⟩
  refine List.forall_mem_cons.2 ⟨⟨_, R_plan_Burst⟩, ?_⟩
  refine List.forall_mem_cons.2 ⟨⟨_, R_law21_awake⟩, ?_⟩
  refine List.forall_mem_cons.2 ⟨⟨_, R_law21_events⟩, ?_⟩
  refine List.forall_mem_cons.2 ⟨⟨_, R_ref21_Mix⟩, ?_⟩
  refine List.forall_mem_cons.2 ⟨⟨_, R_plan_Mix⟩, ?_⟩
  refine List.forall_mem_cons.2 ⟨⟨_, R_law21_same⟩, ?_⟩
  refine List.forall_mem_cons.2 ⟨⟨_, R_slices_IndexFunc_pool_Event_pool_Event⟩, ?_⟩
  refine List.forall_mem_cons.2 ⟨⟨_, R_slices_DeleteFunc_pool_Event_pool_Event⟩, ?_⟩
  refine List.forall_mem_cons.2 ⟨⟨_, R_slices_Clone_pool_Event_pool_Event⟩, ?_⟩
  refine List.forall_mem_cons.2 ⟨⟨_, R_plan_Without_1⟩, ?_⟩
  refine List.forall_mem_cons.2 ⟨⟨_, R_plan_Without⟩, ?_⟩
  refine List.forall_mem_cons.2 ⟨⟨_, R_law21_PlanMixes⟩, ?_⟩
  refine List.forall_mem_cons.2 ⟨⟨_, R_rules_limits⟩, ?_⟩
  refine List.forall_mem_cons.2 ⟨⟨_, R_fault_At⟩, ?_⟩
  refine List.forall_mem_cons.2 ⟨⟨_, R_fault_With⟩, ?_⟩
  refine List.forall_mem_cons.2 ⟨⟨_, R_rules_New⟩, ?_⟩
  refine List.forall_mem_cons.2 ⟨⟨_, R_ref05_Check⟩, ?_⟩
  refine List.forall_mem_cons.2 ⟨⟨_, R_rules_Rules_Shards⟩, ?_⟩
  refine List.forall_mem_cons.2 ⟨⟨_, R_rules_Rules_Agents⟩, ?_⟩
  refine List.forall_mem_cons.2 ⟨⟨_, R_plan_Picked⟩, ?_⟩
  refine List.forall_mem_cons.2 ⟨⟨_, R_ref21_Gap⟩, ?_⟩
  refine List.forall_mem_cons.2 ⟨⟨_, R_ref21_Runs⟩, ?_⟩
  refine List.forall_mem_cons.2 ⟨⟨_, R_plan_Gap⟩, ?_⟩
  refine List.forall_mem_cons.2 ⟨⟨_, R_plan_Fair⟩, ?_⟩
  refine List.forall_mem_cons.2 ⟨⟨_, R_law21_PlanCounts⟩, ?_⟩
  refine List.forall_mem_cons.2 ⟨⟨_, R_ref04_Pick⟩, ?_⟩
  refine List.forall_mem_cons.2 ⟨⟨_, R_tick_Pick⟩, ?_⟩
  refine List.forall_mem_cons.2 ⟨⟨_, R_plan_Drawn⟩, ?_⟩
  refine List.forall_mem_cons.2 ⟨⟨_, R_plan_Round⟩, ?_⟩
  refine List.forall_mem_cons.2 ⟨⟨_, R_plan_Weighted⟩, ?_⟩
  refine List.forall_mem_cons.2 ⟨⟨_, R_law21_PlanLays⟩, ?_⟩
  refine List.forall_mem_cons.2 ⟨⟨_, R_law21_PlanRounds⟩, ?_⟩
  refine List.forall_mem_cons.2 ⟨⟨_, R_law21_PlanKeeps⟩, ?_⟩
  exact fun p h => nomatch h
end Go.Proofs.Ytankedgkiecgaaa
