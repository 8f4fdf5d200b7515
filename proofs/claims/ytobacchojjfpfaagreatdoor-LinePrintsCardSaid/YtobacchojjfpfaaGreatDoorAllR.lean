/-
  The functions come to that: the reader says so.
-/
import Derived.Test.YtobacchojjfpfaaGreatDoorAll
import Derived.Test.YtobacchojjfpfaaGreatDoorProg
namespace Go.Proofs.YtobacchojjfpfaaGreatDoor
open Go.Proofs.YtobacchojjfpfaaGreatDoor.Eng
set_option linter.unusedVariables false
set_option maxRecDepth 20000
theorem R_fault_At : execFn Tryz.prog cfg [] 15 = T_fault_At := by kernel_rfl
theorem R_line_bytes : execFn Tryz.prog cfg [(2, ⟨[6, 14, 15, 16, 17], [0, 5], [], [], [], [], 0, false⟩)] 16 = T_line_bytes := by kernel_rfl
theorem R_fault_First : execFn Tryz.prog cfg [(2, ⟨[7], [5, 6], [], [], [], [], 0, false⟩)] 32 = T_fault_First := by kernel_rfl
theorem R_p_line_reader_fail : execFn Tryz.prog cfg [] 21 = T_p_line_reader_fail := by kernel_rfl
theorem R_p_line_reader_next : execFn Tryz.prog cfg [] 18 = T_p_line_reader_next := by kernel_rfl
theorem R_line_Digits : execFn Tryz.prog cfg [(4, ⟨[22, 30, 31, 32, 33], [0, 21], [], [], [], [], 0, false⟩)] 30 = T_line_Digits := by kernel_rfl
theorem R_p_line_reader_num : execFn Tryz.prog cfg [] 19 = T_p_line_reader_num := by kernel_rfl
theorem R_terms_Name : execFn Tryz.prog cfg [] 23 = T_terms_Name := by kernel_rfl
theorem R_p_line_reader_side : execFn Tryz.prog cfg [] 20 = T_p_line_reader_side := by kernel_rfl
theorem R_line_Parse : execFn Tryz.prog cfg [] 6 = T_line_Parse := by kernel_rfl
theorem R_fault_Place : execFn Tryz.prog cfg [] 12 = T_fault_Place := by kernel_rfl
theorem R_fault_Code : execFn Tryz.prog cfg [] 14 = T_fault_Code := by kernel_rfl
theorem R_law15_awake : execFn Tryz.prog cfg [] 5 = T_law15_awake := by kernel_rfl
theorem R_line_Verb : execFn Tryz.prog cfg [] 13 = T_line_Verb := by kernel_rfl
theorem R_line_numbers : execFn Tryz.prog cfg [] 22 = T_line_numbers := by kernel_rfl
theorem R_line_Print : execFn Tryz.prog cfg [(5, ⟨[4, 23, 31, 32, 41, 42, 49, 50, 51, 52], [1, 21, 22], [4], [(4, 0, 9)], [], [], 0, false⟩), (3, ⟨[], [], [], [], [], [], 4, false⟩)] 7 = T_line_Print := by kernel_rfl
theorem R_law11_To : execFn Tryz.prog cfg [] 8 = T_law11_To := by kernel_rfl
theorem R_law15_From : execFn Tryz.prog cfg [] 9 = T_law15_From := by kernel_rfl
theorem R_law15_LineBack : execFn Tryz.prog cfg [] 3 = T_law15_LineBack := by kernel_rfl
theorem R_ref01_Decimal : execFn Tryz.prog cfg [] 26 = T_ref01_Decimal := by kernel_rfl
theorem R_ref15_Print : execFn Tryz.prog cfg [(17, ⟨[6, 7, 57, 58, 59, 60, 61, 68, 69, 76, 77, 78, 79], [1, 5], [], [], [(5, 0, 3)], [], 0, false⟩)] 10 = T_ref15_Print := by kernel_rfl
theorem R_law01_Num : execFn Tryz.prog cfg [(4, ⟨[3], [0], [], [], [], [], 0, false⟩)] 11 = T_law01_Num := by kernel_rfl
theorem R_law15_LinePrints : execFn Tryz.prog cfg [] 4 = T_law15_LinePrints := by kernel_rfl
theorem prog_ok : ∀ p ∈ prog, ∃ hints, execFn Tryz.prog cfg hints p.1 = p.2 := by
  unfold prog
  refine List.forall_mem_cons.2 ⟨⟨_, R_fault_At⟩, ?_⟩
  refine List.forall_mem_cons.2 ⟨⟨_, R_line_bytes⟩, ?_⟩
  refine List.forall_mem_cons.2 ⟨⟨_, R_fault_First⟩, ?_⟩
  refine List.forall_mem_cons.2 ⟨⟨_, R_p_line_reader_fail⟩, ?_⟩
  refine List.forall_mem_cons.2 ⟨⟨_, R_p_line_reader_next⟩, ?_⟩
  refine List.forall_mem_cons.2 ⟨⟨_, R_line_Digits⟩, ?_⟩
  refine List.forall_mem_cons.2 ⟨⟨_, R_p_line_reader_num⟩, ?_⟩
  refine List.forall_mem_cons.2 ⟨⟨_, R_terms_Name⟩, ?_⟩
  refine List.forall_mem_cons.2 ⟨⟨_, R_p_line_reader_side⟩, ?_⟩
  refine List.forall_mem_cons.2 ⟨⟨_, R_line_Parse⟩, ?_⟩
  refine List.forall_mem_cons.2 ⟨⟨_, R_fault_Place⟩, ?_⟩
  refine List.forall_mem_cons.2 ⟨⟨_, R_fault_Code⟩, ?_⟩
  refine List.forall_mem_cons.2 ⟨⟨_, R_law15_awake⟩, ?_⟩
  refine List.forall_mem_cons.2 ⟨⟨_, R_line_Verb⟩, ?_⟩
  refine List.forall_mem_cons.2 ⟨⟨_, R_line_numbers⟩, ?_⟩
  refine List.forall_mem_cons.2 ⟨⟨_, R_line_Print⟩, ?_⟩
  refine List.forall_mem_cons.2 ⟨⟨_, R_law11_To⟩, ?_⟩
  refine List.forall_mem_cons.2 ⟨⟨_, R_law15_From⟩, ?_⟩
  refine List.forall_mem_cons.2 ⟨⟨_, R_law15_LineBack⟩, ?_⟩
  refine List.forall_mem_cons.2 ⟨⟨_, R_ref01_Decimal⟩, ?_⟩
  refine List.forall_mem_cons.2 ⟨⟨_, R_ref15_Print⟩, ?_⟩
  refine List.forall_mem_cons.2 ⟨⟨_, R_law01_Num⟩, ?_⟩
  refine List.forall_mem_cons.2 ⟨⟨_, R_law15_LinePrints⟩, ?_⟩
  exact fun p h => nomatch h
end Go.Proofs.YtobacchojjfpfaaGreatDoor
