/-
  The functions come to that: the reader says so.
-/
import Derived.Test.YtobacchojjfpfaaDoorAll
import Derived.Test.YtobacchojjfpfaaDoorProg
namespace Go.Proofs.YtobacchojjfpfaaDoor
open Go.Proofs.YtobacchojjfpfaaDoor.Eng
set_option linter.unusedVariables false
set_option maxRecDepth 20000
theorem R_fault_At : execFn Tryd.prog cfg [] 14 = T_fault_At := by kernel_rfl
theorem R_line_bytes : execFn Tryd.prog cfg [(2, ⟨[6, 14, 15, 16, 17], [0, 5], [], [], [], [], 0, false⟩)] 15 = T_line_bytes := by kernel_rfl
theorem R_fault_First : execFn Tryd.prog cfg [(2, ⟨[7], [5, 6], [], [], [], [], 0, false⟩)] 29 = T_fault_First := by kernel_rfl
theorem R_p_line_reader_fail : execFn Tryd.prog cfg [] 20 = T_p_line_reader_fail := by kernel_rfl
theorem R_p_line_reader_next : execFn Tryd.prog cfg [] 17 = T_p_line_reader_next := by kernel_rfl
theorem R_line_Digits : execFn Tryd.prog cfg [(4, ⟨[22, 30, 31, 32, 33], [0, 21], [], [], [], [], 0, false⟩)] 12 = T_line_Digits := by kernel_rfl
theorem R_p_line_reader_num : execFn Tryd.prog cfg [] 18 = T_p_line_reader_num := by kernel_rfl
theorem R_terms_Name : execFn Tryd.prog cfg [] 28 = T_terms_Name := by kernel_rfl
theorem R_p_line_reader_side : execFn Tryd.prog cfg [] 19 = T_p_line_reader_side := by kernel_rfl
theorem R_line_Parse : execFn Tryd.prog cfg [] 6 = T_line_Parse := by kernel_rfl
theorem R_fault_Place : execFn Tryd.prog cfg [] 10 = T_fault_Place := by kernel_rfl
theorem R_fault_Code : execFn Tryd.prog cfg [] 13 = T_fault_Code := by kernel_rfl
theorem R_law15_awake : execFn Tryd.prog cfg [] 5 = T_law15_awake := by kernel_rfl
theorem R_law15_LineApart : execFn Tryd.prog cfg [(11, ⟨[], [], [], [], [], [(13, false, [.ifc])], 1, true⟩)] 3 = T_law15_LineApart := by kernel_rfl
theorem R_ref01_Decimal : execFn Tryd.prog cfg [] 25 = T_ref01_Decimal := by kernel_rfl
theorem R_ref15_Num : execFn Tryd.prog cfg [(5, ⟨[4, 5, 25, 26, 27, 28], [0], [], [], [], [], 0, false⟩)] 11 = T_ref15_Num := by kernel_rfl
theorem R_ref15_Split : execFn Tryd.prog cfg [(4, ⟨[3, 4, 5, 17, 18, 19, 20], [0], [3], [(3, 0, 61)], [], [], 0, false⟩)] 21 = T_ref15_Split := by kernel_rfl
theorem R_ref15_shape : execFn Tryd.prog cfg [] 22 = T_ref15_shape := by kernel_rfl
theorem R_ref15_Parse : execFn Tryd.prog cfg [(15, ⟨[10, 11, 79, 80, 81], [0, 2, 5, 7, 8, 9], [10], [(10, 0, 3)], [], [], 0, false⟩), (5, ⟨[6, 32, 33, 34, 35], [0, 2, 5, 79, 80, 81], [], [], [], [], 0, false⟩)] 7 = T_ref15_Parse := by kernel_rfl
theorem R_law01_Num : execFn Tryd.prog cfg [(4, ⟨[3], [0], [], [], [], [], 0, false⟩)] 8 = T_law01_Num := by kernel_rfl
theorem R_law15_From : execFn Tryd.prog cfg [] 9 = T_law15_From := by kernel_rfl
theorem R_law15_LineParses : execFn Tryd.prog cfg [] 4 = T_law15_LineParses := by kernel_rfl
theorem prog_ok : ∀ p ∈ prog, ∃ hints, execFn Tryd.prog cfg hints p.1 = p.2 := by
  unfold prog
  refine List.forall_mem_cons.2 ⟨⟨_, R_fault_At⟩, ?_⟩
  refine List.forall_mem_cons.2 ⟨⟨_, R_line_bytes⟩, ?_⟩
  refine List.forall_mem_cons.2 ⟨⟨_, R_fault_First⟩, ?_⟩
  refine List.forall_mem_cons.2 ⟨⟨_, R_p_line_reader_fail⟩, ?_⟩
  refine List.forall_mem_cons.2 ⟨⟨_, R_p_line_reader_next⟩, ?_⟩
  refine List.forall_mem_cons.2 ⟨⟨_, R_line_Digits⟩, ?_⟩
  refine List.forall_mem_cons.2 ⟨⟨_, R_p_line_reader_num⟩, ?_⟩
  refine List.forall_mem_cons.2 ⟨⟨_, R_terms_Name⟩, ?_⟩
  refine List.forall_mem_cons.2 ⟨⟨_, R_p_line_reader_side⟩, ?_⟩
  refine List.forall_mem_cons.2 ⟨⟨_, R_line_Parse⟩, ?_⟩
  refine List.forall_mem_cons.2 ⟨⟨_, R_fault_Place⟩, ?_⟩
  refine List.forall_mem_cons.2 ⟨⟨_, R_fault_Code⟩, ?_⟩
  refine List.forall_mem_cons.2 ⟨⟨_, R_law15_awake⟩, ?_⟩
  refine List.forall_mem_cons.2 ⟨⟨_, R_law15_LineApart⟩, ?_⟩
  refine List.forall_mem_cons.2 ⟨⟨_, R_ref01_Decimal⟩, ?_⟩
  refine List.forall_mem_cons.2 ⟨⟨_, R_ref15_Num⟩, ?_⟩
  refine List.forall_mem_cons.2 ⟨⟨_, R_ref15_Split⟩, ?_⟩
  refine List.forall_mem_cons.2 ⟨⟨_, R_ref15_shape⟩, ?_⟩
  refine List.forall_mem_cons.2 ⟨⟨_, R_ref15_Parse⟩, ?_⟩
  refine List.forall_mem_cons.2 ⟨⟨_, R_law01_Num⟩, ?_⟩
  refine List.forall_mem_cons.2 ⟨⟨_, R_law15_From⟩, ?_⟩
  refine List.forall_mem_cons.2 ⟨⟨_, R_law15_LineParses⟩, ?_⟩
  exact fun p h => nomatch h
end Go.Proofs.YtobacchojjfpfaaDoor
