/-
  The functions come to that: the reader says so.
-/
import Derived.Test.YtnaemggpelolcaaDoorAll
import Derived.Test.YtnaemggpelolcaaDoorProg
namespace Go.Proofs.YtnaemggpelolcaaDoor
open Go.Proofs.YtnaemggpelolcaaDoor.Eng
set_option linter.unusedVariables false
set_option maxRecDepth 20000
theorem R_law26_light : execFn Tryd.prog cfg [(9, ⟨[22], [0, 3, 5, 7, 8, 9, 21], [], [], [], [], 0, false⟩), (3, ⟨[3, 9], [0, 7, 8], [], [], [], [], 0, false⟩)] 4 = T_law26_light := by kernel_rfl
theorem R_internal_stringslite_HasPrefix : execFn Tryd.prog cfg [] 13 = T_internal_stringslite_HasPrefix := by kernel_rfl
theorem R_strings_HasPrefix : execFn Tryd.prog cfg [] 7 = T_strings_HasPrefix := by kernel_rfl
theorem R_slices_Index_string_string : execFn Tryd.prog cfg [(2, ⟨[8], [0, 1, 7], [], [], [], [], 0, false⟩)] 21 = T_slices_Index_string_string := by kernel_rfl
theorem R_slices_Contains_string_string : execFn Tryd.prog cfg [] 15 = T_slices_Contains_string_string := by kernel_rfl
theorem R_story_known : execFn Tryd.prog cfg [] 8 = T_story_known := by kernel_rfl
theorem R_fault_With : execFn Tryd.prog cfg [] 9 = T_fault_With := by kernel_rfl
theorem R_fault_At : execFn Tryd.prog cfg [] 11 = T_fault_At := by kernel_rfl
theorem R_internal_stringslite_CutPrefix : execFn Tryd.prog cfg [] 33 = T_internal_stringslite_CutPrefix := by kernel_rfl
theorem R_strings_CutPrefix : execFn Tryd.prog cfg [] 23 = T_strings_CutPrefix := by kernel_rfl
theorem R_line_Digits : execFn Tryd.prog cfg [(4, ⟨[22, 30, 31, 32, 33], [0, 21], [], [], [], [], 0, false⟩)] 24 = T_line_Digits := by kernel_rfl
theorem R_story_number : execFn Tryd.prog cfg [] 17 = T_story_number := by kernel_rfl
theorem R_math_bits_Mul32 : execFn Tryd.prog cfg [] 39 = T_math_bits_Mul32 := by kernel_rfl
theorem R_math_bits_Mul64 : execFn Tryd.prog cfg [] 40 = T_math_bits_Mul64 := by kernel_rfl
theorem R_math_bits_Mul : execFn Tryd.prog cfg [] 27 = T_math_bits_Mul := by kernel_rfl
theorem R_slices_Repeat_gate_Event_gate_Event : execFn Tryd.prog cfg [(8, ⟨[8], [7], [7], [], [], [], 0, false⟩)] 19 = T_slices_Repeat_gate_Event_gate_Event := by kernel_rfl
theorem R_story_parse : execFn Tryd.prog cfg [(10, ⟨[12, 51], [4, 49, 50, 76, 77, 78, 89, 90, 91, 102, 103, 104, 107, 108, 109, 110, 113, 114, 115, 116, 131, 132, 133], [12], [(12, 0, 3)], [], [], 0, false⟩)] 12 = T_story_parse := by kernel_rfl
theorem R_story_Parse : execFn Tryd.prog cfg [(3, ⟨[4, 11, 19, 20], [9, 10], [4], [(4, 0, 31)], [], [], 0, false⟩)] 6 = T_story_Parse := by kernel_rfl
theorem R_law26_awake : execFn Tryd.prog cfg [] 5 = T_law26_awake := by kernel_rfl
theorem R_law26_StoryJoins : execFn Tryd.prog cfg [(12, ⟨[73, 81, 82, 83, 84, 85, 86, 87, 88, 89, 92, 93, 94, 95, 96, 97, 98, 99, 100, 101, 102, 103, 104, 105, 106, 107, 108, 109], [5, 7, 10, 72], [], [], [], [], 0, false⟩)] 3 = T_law26_StoryJoins := by kernel_rfl
theorem prog_ok : ∀ p ∈ prog, ∃ hints, execFn Tryd.prog cfg hints p.1 = p.2 := by
  unfold prog
  refine List.forall_mem_cons.2 ⟨⟨_, R_law26_light⟩, ?_⟩
  refine List.forall_mem_cons.2 ⟨⟨_, R_internal_stringslite_HasPrefix⟩, ?_⟩
  refine List.forall_mem_cons.2 ⟨⟨_, R_strings_HasPrefix⟩, ?_⟩
  refine List.forall_mem_cons.2 ⟨⟨_, R_slices_Index_string_string⟩, ?_⟩
  refine List.forall_mem_cons.2 ⟨⟨_, R_slices_Contains_string_string⟩, ?_⟩
  refine List.forall_mem_cons.2 ⟨⟨_, R_story_known⟩, ?_⟩
  refine List.forall_mem_cons.2 ⟨⟨_, R_fault_With⟩, ?_⟩
  refine List.forall_mem_cons.2 ⟨⟨_, R_fault_At⟩, ?_⟩
  refine List.forall_mem_cons.2 ⟨⟨_, R_internal_stringslite_CutPrefix⟩, ?_⟩
  refine List.forall_mem_cons.2 ⟨⟨_, R_strings_CutPrefix⟩, ?_⟩
  refine List.forall_mem_cons.2 ⟨⟨_, R_line_Digits⟩, ?_⟩
  refine List.forall_mem_cons.2 ⟨⟨_, R_story_number⟩, ?_⟩
  refine List.forall_mem_cons.2 ⟨⟨_, R_math_bits_Mul32⟩, ?_⟩
  refine List.forall_mem_cons.2 ⟨⟨_, R_math_bits_Mul64⟩, ?_⟩
  refine List.forall_mem_cons.2 ⟨⟨_, R_math_bits_Mul⟩, ?_⟩
  refine List.forall_mem_cons.2 ⟨⟨_, R_slices_Repeat_gate_Event_gate_Event⟩, ?_⟩
  refine List.forall_mem_cons.2 ⟨⟨_, R_story_parse⟩, ?_⟩
  refine List.forall_mem_cons.2 ⟨⟨_, R_story_Parse⟩, ?_⟩
  refine List.forall_mem_cons.2 ⟨⟨_, R_law26_awake⟩, ?_⟩
  refine List.forall_mem_cons.2 ⟨⟨_, R_law26_StoryJoins⟩, ?_⟩
  exact fun p h => nomatch h
end Go.Proofs.YtnaemggpelolcaaDoor
