/-
  The functions come to that: the reader says so.
-/
import Derived.Test.YtkfdphhloodhiaaAll
import Derived.Test.YtkfdphhloodhiaaProg
namespace Go.Proofs.Ytkfdphhloodhiaa
open Go.Proofs.Ytkfdphhloodhiaa.Eng
set_option linter.unusedVariables false
set_option maxRecDepth 20000
theorem R_field_Add : execFn Try.prog cfg [(3, ⟨[5, 10, 18, 19, 20, 21, 22], [0, 8, 9], [], [], [], [], 0, false⟩)] 17 = T_field_Add := by kernel_rfl
theorem R_p_tick_Clock_Go : execFn Try.prog cfg [(4, ⟨[11], [0, 9, 10], [0], [], [], [], 0, true⟩)] 7 = T_p_tick_Clock_Go := by kernel_rfl
theorem R_tick_Pick : execFn Try.prog cfg [] 16 = T_tick_Pick := by kernel_rfl
theorem R_law04_awake : execFn Try.prog cfg [] 6 = T_law04_awake := by kernel_rfl
theorem R_p_tick_Tape_Put : execFn Try.prog cfg [] 12 = T_p_tick_Tape_Put := by kernel_rfl
theorem R_p_tick_Tape_Take : execFn Try.prog cfg [] 13 = T_p_tick_Tape_Take := by kernel_rfl
theorem R_p_tick_Tape_Left : execFn Try.prog cfg [] 14 = T_p_tick_Tape_Left := by kernel_rfl
theorem R_p_tick_Tape_Taken : execFn Try.prog cfg [] 15 = T_p_tick_Tape_Taken := by kernel_rfl
theorem R_law04_TickDraws : execFn Try.prog cfg [(16, ⟨[7, 48, 69, 70, 71], [1, 5, 6, 22, 23, 24, 47, 81, 82, 83, 96, 97, 100, 101, 102, 105, 106, 107], [], [], [], [], 0, true⟩), (7, ⟨[6, 7, 24, 69, 70, 71, 81, 82, 83], [1, 5, 22, 23, 96, 97, 100, 101, 102, 105, 106, 107], [6], [(6, 0, 3)], [], [], 0, true⟩), (15, ⟨[], [1, 5, 6, 7, 22, 23, 24, 69, 70, 71, 81, 82, 83, 96, 97, 100, 101, 102, 105, 106, 107], [], [], [], [(10, false, [(.int .i64)])], 1, true⟩), (28, ⟨[], [96, 97, 100, 101, 102, 105, 106, 107], [], [], [], [], 1, true⟩)] 4 = T_law04_TickDraws := by kernel_rfl
theorem prog_ok : ∀ p ∈ prog, ∃ hints, execFn Try.prog cfg hints p.1 = p.2 := by
  unfold prog
  refine List.forall_mem_cons.2 ⟨⟨_, R_field_Add⟩, ?_⟩
  refine List.forall_mem_cons.2 ⟨⟨_, R_p_tick_Clock_Go⟩, ?_⟩
  refine List.forall_mem_cons.2 ⟨⟨_, R_tick_Pick⟩, ?_⟩
  refine List.forall_mem_cons.2 ⟨⟨_, R_law04_awake⟩, ?_⟩
  refine List.forall_mem_cons.2 ⟨⟨_, R_p_tick_Tape_Put⟩, ?_⟩
  refine List.forall_mem_cons.2 ⟨⟨_, R_p_tick_Tape_Take⟩, ?_⟩
  refine List.forall_mem_cons.2 ⟨⟨_, R_p_tick_Tape_Left⟩, ?_⟩
  refine List.forall_mem_cons.2 ⟨⟨_, R_p_tick_Tape_Taken⟩, ?_⟩
  refine List.forall_mem_cons.2 ⟨⟨_, R_law04_TickDraws⟩, ?_⟩
  exact fun p h => nomatch h
end Go.Proofs.Ytkfdphhloodhiaa
