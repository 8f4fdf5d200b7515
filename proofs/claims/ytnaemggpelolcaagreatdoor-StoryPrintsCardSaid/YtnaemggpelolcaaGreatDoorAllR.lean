/-
  The functions come to that: the reader says so.
-/
import Derived.Test.YtnaemggpelolcaaGreatDoorAll
import Derived.Test.YtnaemggpelolcaaGreatDoorProg
namespace Go.Proofs.YtnaemggpelolcaaGreatDoor
open Go.Proofs.YtnaemggpelolcaaGreatDoor.Eng
set_option linter.unusedVariables false
set_option maxRecDepth 20000
theorem R_law26_light : execFn Tryz.prog cfg [(9, ⟨[22], [0, 3, 5, 7, 8, 9, 21], [], [], [], [], 0, false⟩), (3, ⟨[3, 9], [0, 7, 8], [], [], [], [], 0, false⟩)] 5 = T_law26_light := by kernel_rfl
theorem R_internal_stringslite_HasPrefix : execFn Tryz.prog cfg [] 28 = T_internal_stringslite_HasPrefix := by kernel_rfl
theorem R_strings_HasPrefix : execFn Tryz.prog cfg [] 15 = T_strings_HasPrefix := by kernel_rfl
theorem R_slices_Index_string_string : execFn Tryz.prog cfg [(2, ⟨[8], [0, 1, 7], [], [], [], [], 0, false⟩)] 45 = T_slices_Index_string_string := by kernel_rfl
theorem R_slices_Contains_string_string : execFn Tryz.prog cfg [] 30 = T_slices_Contains_string_string := by kernel_rfl
theorem R_story_known : execFn Tryz.prog cfg [] 16 = T_story_known := by kernel_rfl
theorem R_fault_With : execFn Tryz.prog cfg [] 17 = T_fault_With := by kernel_rfl
theorem R_fault_At : execFn Tryz.prog cfg [] 19 = T_fault_At := by kernel_rfl
theorem R_internal_stringslite_CutPrefix : execFn Tryz.prog cfg [] 60 = T_internal_stringslite_CutPrefix := by kernel_rfl
theorem R_strings_CutPrefix : execFn Tryz.prog cfg [] 47 = T_strings_CutPrefix := by kernel_rfl
theorem R_line_Digits : execFn Tryz.prog cfg [(4, ⟨[22, 30, 31, 32, 33], [0, 21], [], [], [], [], 0, false⟩)] 48 = T_line_Digits := by kernel_rfl
theorem R_story_number : execFn Tryz.prog cfg [] 32 = T_story_number := by kernel_rfl
theorem R_math_bits_Mul32 : execFn Tryz.prog cfg [] 65 = T_math_bits_Mul32 := by kernel_rfl
theorem R_math_bits_Mul64 : execFn Tryz.prog cfg [] 66 = T_math_bits_Mul64 := by kernel_rfl
theorem R_math_bits_Mul : execFn Tryz.prog cfg [] 51 = T_math_bits_Mul := by kernel_rfl
theorem R_slices_Repeat_gate_Event_gate_Event : execFn Tryz.prog cfg [(8, ⟨[8], [7], [7], [], [], [], 0, false⟩)] 34 = T_slices_Repeat_gate_Event_gate_Event := by kernel_rfl
theorem R_story_parse : execFn Tryz.prog cfg [(10, ⟨[12, 51], [4, 49, 50, 76, 77, 78, 89, 90, 91, 102, 103, 104, 107, 108, 109, 110, 113, 114, 115, 116, 131, 132, 133], [12], [(12, 0, 3)], [], [], 0, false⟩)] 20 = T_story_parse := by kernel_rfl
theorem R_story_Parse : execFn Tryz.prog cfg [(3, ⟨[4, 11, 19, 20], [9, 10], [4], [(4, 0, 40)], [], [], 0, false⟩)] 7 = T_story_Parse := by kernel_rfl
theorem R_law26_awake : execFn Tryz.prog cfg [] 6 = T_law26_awake := by kernel_rfl
theorem R_ref15_Split : execFn Tryz.prog cfg [(4, ⟨[3, 4, 5, 17, 18, 19, 20], [0], [3], [(3, 0, 55)], [], [], 0, false⟩)] 21 = T_ref15_Split := by kernel_rfl
theorem R_ref01_Decimal : execFn Tryz.prog cfg [] 12 = T_ref01_Decimal := by kernel_rfl
theorem R_ref15_Num : execFn Tryz.prog cfg [(5, ⟨[4, 5, 25, 26, 27, 28], [0], [], [], [], [], 0, false⟩)] 35 = T_ref15_Num := by kernel_rfl
theorem R_ref26_Num : execFn Tryz.prog cfg [] 22 = T_ref26_Num := by kernel_rfl
theorem R_ref26_One : execFn Tryz.prog cfg [(35, ⟨[14, 15], [9, 13], [14], [(14, 0, 39)], [], [], 0, false⟩), (18, ⟨[9, 10], [5, 6, 101, 102, 103, 113, 114, 115, 128, 129, 130, 133, 134, 135, 136, 139, 140, 141, 142, 150, 151, 152], [9], [(9, 0, 3)], [], [], 0, false⟩), (7, ⟨[], [0, 5, 6, 101, 102, 103, 113, 114, 115, 128, 129, 130, 133, 134, 135, 136, 139, 140, 141, 142, 150, 151, 152], [], [], [], [], 1, false⟩), (26, ⟨[], [6, 9, 113, 114, 115, 128, 129, 130, 133, 134, 135, 136, 139, 140, 141, 142, 150, 151, 152], [], [], [], [], 1, false⟩), (28, ⟨[], [6, 9, 128, 129, 130, 133, 134, 135, 136, 139, 140, 141, 142, 150, 151, 152], [], [], [], [], 1, false⟩), (30, ⟨[], [6, 9, 13, 150, 151, 152], [], [], [], [(143, false, [.bool])], 1, false⟩)] 8 = T_ref26_One := by kernel_rfl
theorem R_fault_Place : execFn Tryz.prog cfg [] 9 = T_fault_Place := by kernel_rfl
theorem R_fault_Words : execFn Tryz.prog cfg [(3, ⟨[0, 3, 4, 9, 10], [], [3], [(3, 0, 9)], [], [], 0, true⟩)] 10 = T_fault_Words := by kernel_rfl
theorem R_law01_Num : execFn Tryz.prog cfg [(4, ⟨[3], [0], [], [], [], [], 0, false⟩)] 11 = T_law01_Num := by kernel_rfl
theorem R_law26_StoryParses : execFn Tryz.prog cfg [(20, ⟨[99], [3, 5, 98], [], [], [], [], 0, false⟩), (6, ⟨[5, 26, 48, 49, 50, 53, 54, 55, 56, 59, 62, 63, 64, 67, 68, 69, 72, 73, 74, 75, 76, 77, 78], [3, 4, 24, 25, 91, 92, 93, 94, 95], [5], [(5, 0, 39)], [], [], 0, true⟩)] 3 = T_law26_StoryParses := by kernel_rfl
theorem R_story_print_1 : execFn Tryz.prog cfg [] 42 = T_story_print_1 := by kernel_rfl
theorem R_story_print : execFn Tryz.prog cfg [(6, ⟨[], [1, 2, 7, 8, 57, 58, 59, 68, 69, 70, 73, 74, 87, 88, 89], [], [], [], [(27, false, [.bool])], 1, false⟩), (10, ⟨[], [1, 2, 7, 8, 68, 69, 70, 73, 74, 87, 88, 89], [], [], [], [(52, false, [.bool])], 1, false⟩), (12, ⟨[], [1, 2, 7, 8, 87, 88, 89], [], [], [], [(63, false, [.bool])], 1, false⟩)] 26 = T_story_print := by kernel_rfl
theorem R_story_Print : execFn Tryz.prog cfg [(5, ⟨[6, 20, 21, 24, 25, 26, 27, 28, 29, 32, 33, 34, 35, 36, 37, 38, 39, 40, 41, 42], [0, 4, 5], [], [], [], [], 0, false⟩), (3, ⟨[4, 5, 20, 21, 24, 25, 26, 27, 28, 29, 32, 33, 34, 35, 36, 37, 38, 39, 40, 41, 42], [0], [4], [(4, 0, 9)], [], [], 0, false⟩)] 13 = T_story_Print := by kernel_rfl
theorem R_ref26_Line : execFn Tryz.prog cfg [(10, ⟨[10], [2, 8], [], [], [], [], 0, false⟩), (2, ⟨[17, 24, 25], [1, 2, 15, 16], [], [], [], [], 0, false⟩)] 27 = T_ref26_Line := by kernel_rfl
theorem R_ref26_Print : execFn Tryz.prog cfg [(5, ⟨[6, 20, 21, 22, 23, 24, 25, 28, 29, 32, 33, 34, 35, 36, 37, 38, 39, 40, 41, 42], [0, 4, 5], [], [], [], [], 0, false⟩), (3, ⟨[4, 5, 20, 21, 22, 23, 24, 25, 28, 29, 32, 33, 34, 35, 36, 37, 38, 39, 40, 41, 42], [0], [4], [(4, 0, 9)], [], [], 0, false⟩)] 14 = T_ref26_Print := by kernel_rfl
theorem R_law26_StoryPrints : execFn Tryz.prog cfg [(28, ⟨[113], [4, 14, 112], [], [], [], [], 0, false⟩), (19, ⟨[84], [4, 7, 9, 83, 105, 106, 107, 108, 109], [], [], [], [], 0, false⟩), (4, ⟨[3, 4, 19], [0, 17, 18, 56, 57, 58, 61, 62, 63, 66, 69, 70, 71, 76, 77, 78, 79, 80, 105, 106, 107, 108, 109], [4], [(4, 0, 40)], [], [], 0, false⟩)] 4 = T_law26_StoryPrints := by kernel_rfl
theorem prog_ok : ∀ p ∈ prog, ∃ hints, execFn Tryz.prog cfg hints p.1 = p.2 := by
  unfold prog
  refine List.forall_mem_cons.2 ⟨⟨_, R_law26_light⟩, ?_⟩
  refine List.forall_mem_cons.2 ⟨⟨_, R_internal_stringslite_HasPrefix⟩, ?_⟩
  refine List.forall_mem_cons.2 ⟨⟨_, R_strings_HasPrefix⟩, ?_⟩
  refine List.forall_mem_cons.2 ⟨⟨_, R_slices_Index_string_string⟩, ?_⟩
  refine List.forall_mem_cons.2 ⟨⟨_, R_slices_Contains_string_string⟩, ?_⟩
  refine List.forall_mem_cons.2 ⟨⟨_, R_story_known⟩, ?_⟩
  refine List.forall_mem_cons.2 ⟨⟨_, R_fault_With⟩, ?_⟩
  refine List.forall_mem_cons.2 ⟨⟨_, R_fault_At⟩, ?_⟩
  refine List.forall_mem_cons.2 ⟨⟨_, R_internal_stringslite_CutPrefix⟩, ?_⟩
  refine List.forall_mem_cons.2 ⟨⟨_, R_strings_CutPrefix⟩, ?_⟩
  refine List.forall_mem_cons.2 ⟨⟨_, R_line_Digits⟩, ?_⟩
  refine List.forall_mem_cons.2 ⟨⟨_, R_story_number⟩, ?_⟩
  refine List.forall_mem_cons.2 ⟨⟨_, R_math_bits_Mul32⟩, ?_⟩
  refine List.forall_mem_cons.2 ⟨⟨_, R_math_bits_Mul64⟩, ?_⟩
  refine List.forall_mem_cons.2 ⟨⟨_, R_math_bits_Mul⟩, ?_⟩
  refine List.forall_mem_cons.2 ⟨⟨_, R_slices_Repeat_gate_Event_gate_Event⟩, ?_⟩
  refine List.forall_mem_cons.2 ⟨⟨_, R_story_parse⟩, ?_⟩
  refine List.forall_mem_cons.2 ⟨⟨_, R_story_Parse⟩, ?_⟩
  refine List.forall_mem_cons.2 ⟨⟨_, R_law26_awake⟩, ?_⟩
  refine List.forall_mem_cons.2 ⟨⟨_, R_ref15_Split⟩, ?_⟩
  refine List.forall_mem_cons.2 ⟨⟨_, R_ref01_Decimal⟩, ?_⟩
  refine List.forall_mem_cons.2 ⟨⟨_, R_ref15_Num⟩, ?_⟩
  refine List.forall_mem_cons.2 ⟨⟨_, R_ref26_Num⟩, ?_⟩
  refine List.forall_mem_cons.2 ⟨⟨_, R_ref26_One⟩, ?_⟩
  refine List.forall_mem_cons.2 ⟨⟨_, R_fault_Place⟩, ?_⟩
  refine List.forall_mem_cons.2 ⟨⟨_, R_fault_Words⟩, ?_⟩
  refine List.forall_mem_cons.2 ⟨⟨_, R_law01_Num⟩, ?_⟩
  refine List.forall_mem_cons.2 ⟨⟨_, R_law26_StoryParses⟩, ?_⟩
  refine List.forall_mem_cons.2 ⟨⟨_, R_story_print_1⟩, ?_⟩
  refine List.forall_mem_cons.2 ⟨⟨_, R_story_print⟩, ?_⟩
  refine List.forall_mem_cons.2 ⟨⟨_, R_story_Print⟩, ?_⟩
  refine List.forall_mem_cons.2 ⟨⟨_, R_ref26_Line⟩, ?_⟩
  refine List.forall_mem_cons.2 ⟨⟨_, R_ref26_Print⟩, ?_⟩
  refine List.forall_mem_cons.2 ⟨⟨_, R_law26_StoryPrints⟩, ?_⟩
  exact fun p h => nomatch h
end Go.Proofs.YtnaemggpelolcaaGreatDoor
