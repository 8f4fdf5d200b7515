/-
  The functions come to that: the reader says so.
-/
import Derived.Test.YtmgpbjennnadhaaGreatDoorAll
import Derived.Test.YtmgpbjennnadhaaGreatDoorProg
namespace Go.Proofs.YtmgpbjennnadhaaGreatDoor
open Go.Proofs.YtmgpbjennnadhaaGreatDoor.Eng
set_option linter.unusedVariables false
set_option maxRecDepth 20000
theorem R_cell_Kind : execFn Tryz.prog cfg [(8, ⟨[], [4], [], [], [], [(7, false, [.bool])], 1, false⟩)] 41 = T_cell_Kind := by kernel_rfl
theorem R_answer_word : execFn Tryz.prog cfg [] 24 = T_answer_word := by kernel_rfl
theorem R_answer_small : execFn Tryz.prog cfg [] 27 = T_answer_small := by kernel_rfl
theorem R_answer_told : execFn Tryz.prog cfg [] 26 = T_answer_told := by kernel_rfl
theorem R_answer_Right : execFn Tryz.prog cfg [(8, ⟨[89, 98, 99, 100, 101, 104, 105, 106, 107], [1, 87, 88, 127, 128, 129], [], [], [], [], 0, false⟩), (3, ⟨[], [1], [], [], [], [], 1, false⟩), (5, ⟨[], [1], [], [], [], [], 1, false⟩), (7, ⟨[], [1], [], [], [], [], 1, false⟩), (13, ⟨[], [1], [], [], [], [], 1, false⟩)] 9 = T_answer_Right := by kernel_rfl
theorem R_line_Verb : execFn Tryz.prog cfg [] 21 = T_line_Verb := by kernel_rfl
theorem R_record_Name : execFn Tryz.prog cfg [] 23 = T_record_Name := by kernel_rfl
theorem R_answer_Print : execFn Tryz.prog cfg [(23, ⟨[101], [4, 5, 99, 100], [4], [], [], [], 0, false⟩), (3, ⟨[], [], [], [], [], [], 4, false⟩), (12, ⟨[], [1, 4, 5, 62, 63, 64, 65], [4], [], [], [], 1, false⟩), (239999, ⟨[], [], [], [], [], [], 0, false⟩), (230001, ⟨[7], [1, 5, 6], [1], [], [], [], 0, false⟩)] 8 = T_answer_Print := by kernel_rfl
theorem R_p_answer_reader_next : execFn Tryz.prog cfg [] 34 = T_p_answer_reader_next := by kernel_rfl
theorem R_line_Digits : execFn Tryz.prog cfg [(4, ⟨[22, 30, 31, 32, 33], [0, 21], [], [], [], [], 0, false⟩)] 50 = T_line_Digits := by kernel_rfl
theorem R_p_answer_reader_num : execFn Tryz.prog cfg [] 33 = T_p_answer_reader_num := by kernel_rfl
theorem R_p_answer_reader_look : execFn Tryz.prog cfg [(3, ⟨[10], [0, 2, 3, 8, 9], [], [], [], [], 0, true⟩)] 51 = T_p_answer_reader_look := by kernel_rfl
theorem R_answer_Parse : execFn Tryz.prog cfg [(5, ⟨[7], [2, 4, 5, 6, 45, 46, 47, 48, 49, 57, 58, 59, 60, 63, 64, 65, 66, 67, 68, 71, 72, 73], [5], [(5, 12, 54)], [], [], 0, false⟩), (15, ⟨[], [2, 4, 5, 45, 46, 47, 48, 49, 57, 58, 59, 60, 63, 64, 65, 66, 67, 68, 71, 72, 73], [5], [(5, 12, 54)], [], [], 1, true⟩), (17, ⟨[], [2, 4, 5, 57, 58, 59, 60, 63, 64, 65, 66, 67, 68, 71, 72, 73], [4, 5], [(5, 12, 54)], [], [], 1, true⟩), (369999, ⟨[], [], [], [], [], [], 0, false⟩), (360005, ⟨[53, 54, 55, 56, 57], [0, 1], [1], [(1, 12, 54)], [], [], 0, true⟩), (539999, ⟨[], [], [], [], [], [], 0, false⟩), (530002, ⟨[6], [0, 1, 2], [], [], [], [], 0, true⟩)] 12 = T_answer_Parse := by kernel_rfl
theorem R_ref16_most : execFn Tryz.prog cfg [] 19 = T_ref16_most := by kernel_rfl
theorem R_ref16_Right : execFn Tryz.prog cfg [(12, ⟨[4, 138, 139, 140, 143, 144, 145, 148, 149, 150, 153, 154, 155, 156, 157, 158, 159, 160, 163, 164, 165, 166, 169, 170, 171, 172], [1], [], [], [], [], 0, false⟩), (3, ⟨[], [1], [], [], [], [], 1, false⟩), (5, ⟨[], [1], [], [], [], [], 1, false⟩), (7, ⟨[], [1], [], [], [], [], 1, false⟩), (11, ⟨[], [1], [], [], [], [], 1, false⟩)] 6 = T_ref16_Right := by kernel_rfl
theorem R_law16_awake : execFn Tryz.prog cfg [] 5 = T_law16_awake := by kernel_rfl
theorem R_law11_From : execFn Tryz.prog cfg [(3, ⟨[24], [2, 3, 22, 23], [3], [(3, 12, 53)], [], [], 0, false⟩)] 7 = T_law11_From := by kernel_rfl
theorem R_law01_Num : execFn Tryz.prog cfg [(4, ⟨[3], [0], [], [], [], [], 0, false⟩)] 10 = T_law01_Num := by kernel_rfl
theorem R_ref01_Decimal : execFn Tryz.prog cfg [] 29 = T_ref01_Decimal := by kernel_rfl
theorem R_ref08_Name : execFn Tryz.prog cfg [] 30 = T_ref08_Name := by kernel_rfl
theorem R_ref06_Name : execFn Tryz.prog cfg [] 31 = T_ref06_Name := by kernel_rfl
theorem R_ref16_Print : execFn Tryz.prog cfg [(18, ⟨[3, 4], [1], [], [], [], [], 0, false⟩), (4, ⟨[], [1], [], [], [], [(3, false, [.str])], 1, false⟩), (6, ⟨[], [1], [], [], [], [(3, false, [.str])], 1, false⟩)] 11 = T_ref16_Print := by kernel_rfl
theorem R_seat_Same : execFn Tryz.prog cfg [(4, ⟨[16], [2, 3, 15, 37, 38, 39, 40, 41, 44, 45, 46, 47, 48, 51, 52, 53, 54, 55, 58, 59, 60, 61, 62, 65, 66, 67, 68, 69, 72, 73, 74, 75, 76], [], [], [], [], 0, false⟩)] 13 = T_seat_Same := by kernel_rfl
theorem R_law16_AnswerPrints : execFn Tryz.prog cfg [] 3 = T_law16_AnswerPrints := by kernel_rfl
theorem prog_ok : ∀ p ∈ prog, ∃ hints, execFn Tryz.prog cfg hints p.1 = p.2 := by
  unfold prog
  refine List.forall_mem_cons.2 ⟨⟨_, R_cell_Kind⟩, ?_⟩
  refine List.forall_mem_cons.2 ⟨⟨_, R_answer_word⟩, ?_⟩
  refine List.forall_mem_cons.2 ⟨⟨_, R_answer_small⟩, ?_⟩
  refine List.forall_mem_cons.2 ⟨⟨_, R_answer_told⟩, ?_⟩
  refine List.forall_mem_cons.2 ⟨⟨_, R_answer_Right⟩, ?_⟩
  refine List.forall_mem_cons.2 ⟨⟨_, R_line_Verb⟩, ?_⟩
  refine List.forall_mem_cons.2 ⟨⟨_, R_record_Name⟩, ?_⟩
  refine List.forall_mem_cons.2 ⟨⟨_, R_answer_Print⟩, ?_⟩
  refine List.forall_mem_cons.2 ⟨⟨_, R_p_answer_reader_next⟩, ?_⟩
  refine List.forall_mem_cons.2 ⟨⟨_, R_line_Digits⟩, ?_⟩
  refine List.forall_mem_cons.2 ⟨⟨_, R_p_answer_reader_num⟩, ?_⟩
  refine List.forall_mem_cons.2 ⟨⟨_, R_p_answer_reader_look⟩, ?_⟩
  refine List.forall_mem_cons.2 ⟨⟨_, R_answer_Parse⟩, ?_⟩
  refine List.forall_mem_cons.2 ⟨⟨_, R_ref16_most⟩, ?_⟩
  refine List.forall_mem_cons.2 ⟨⟨_, R_ref16_Right⟩, ?_⟩
  refine List.forall_mem_cons.2 ⟨⟨_, R_law16_awake⟩, ?_⟩
  refine List.forall_mem_cons.2 ⟨⟨_, R_law11_From⟩, ?_⟩
  refine List.forall_mem_cons.2 ⟨⟨_, R_law01_Num⟩, ?_⟩
  refine List.forall_mem_cons.2 ⟨⟨_, R_ref01_Decimal⟩, ?_⟩
  refine List.forall_mem_cons.2 ⟨⟨_, R_ref08_Name⟩, ?_⟩
  refine List.forall_mem_cons.2 ⟨⟨_, R_ref06_Name⟩, ?_⟩
  refine List.forall_mem_cons.2 ⟨⟨_, R_ref16_Print⟩, ?_⟩
  refine List.forall_mem_cons.2 ⟨⟨_, R_seat_Same⟩, ?_⟩
  refine List.forall_mem_cons.2 ⟨⟨_, R_law16_AnswerPrints⟩, ?_⟩
  exact fun p h => nomatch h
end Go.Proofs.YtmgpbjennnadhaaGreatDoor
