/-
  The functions come to that: the reader says so.
-/
import Derived.Test.YtifghdombpcpjaaAll
import Derived.Test.YtifghdombpcpjaaProg
namespace Go.Proofs.Ytifghdombpcpjaa
open Go.Proofs.Ytifghdombpcpjaa.Eng
set_option linter.unusedVariables false
set_option maxRecDepth 20000
theorem R_rules_limits : execFn Try.prog cfg [] 25 = T_rules_limits := by kernel_rfl
theorem R_fault_At : execFn Try.prog cfg [] 26 = T_fault_At := by kernel_rfl
theorem R_fault_With : execFn Try.prog cfg [] 27 = T_fault_With := by kernel_rfl
theorem R_rules_New : execFn Try.prog cfg [(2, ⟨[9, 20, 21, 22, 23, 24], [1, 2, 7, 8], [], [], [], [], 0, false⟩)] 7 = T_rules_New := by kernel_rfl
theorem R_rules_Rules_Cell : execFn Try.prog cfg [] 28 = T_rules_Rules_Cell := by kernel_rfl
theorem R_rules_Rules_All : execFn Try.prog cfg [] 30 = T_rules_Rules_All := by kernel_rfl
theorem R_rules_Rules_Owner : execFn Try.prog cfg [] 29 = T_rules_Rules_Owner := by kernel_rfl
theorem R_law05_awake : execFn Try.prog cfg [] 9 = T_law05_awake := by kernel_rfl
theorem R_rules_Rules_Shards : execFn Try.prog cfg [] 15 = T_rules_Rules_Shards := by kernel_rfl
theorem R_rules_Rules_Sweeper : execFn Try.prog cfg [] 16 = T_rules_Rules_Sweeper := by kernel_rfl
theorem R_rules_Rules_Reaper : execFn Try.prog cfg [] 17 = T_rules_Rules_Reaper := by kernel_rfl
theorem R_rules_Rules_Agents : execFn Try.prog cfg [] 18 = T_rules_Rules_Agents := by kernel_rfl
theorem R_law05_RulesAgents : execFn Try.prog cfg [(17, ⟨[42], [1, 3, 5, 41, 52, 53, 54, 55, 56, 59, 60, 61, 62, 63, 64, 65, 66, 67], [], [], [], [], 0, false⟩), (11, ⟨[28], [1, 3, 5, 27, 52, 53, 54, 55, 56, 59, 60, 61, 62, 63, 64, 65, 66, 67], [5], [], [], [], 0, false⟩), (6, ⟨[20], [1, 3, 5, 19, 52, 53, 54, 55, 56, 59, 60, 61, 62, 63, 64, 65, 66, 67], [5], [], [], [], 0, false⟩)] 4 = T_law05_RulesAgents := by kernel_rfl
theorem prog_ok : ∀ p ∈ prog, ∃ hints, execFn Try.prog cfg hints p.1 = p.2 := by
  unfold prog
  refine List.forall_mem_cons.2 ⟨⟨_, R_rules_limits⟩, ?_⟩
  refine List.forall_mem_cons.2 ⟨⟨_, R_fault_At⟩, ?_⟩
  refine List.forall_mem_cons.2 ⟨⟨_, R_fault_With⟩, ?_⟩
  refine List.forall_mem_cons.2 ⟨⟨_, R_rules_New⟩, ?_⟩
  refine List.forall_mem_cons.2 ⟨⟨_, R_rules_Rules_Cell⟩, ?_⟩
  refine List.forall_mem_cons.2 ⟨⟨_, R_rules_Rules_All⟩, ?_⟩
  refine List.forall_mem_cons.2 ⟨⟨_, R_rules_Rules_Owner⟩, ?_⟩
  refine List.forall_mem_cons.2 ⟨⟨_, R_law05_awake⟩, ?_⟩
  refine List.forall_mem_cons.2 ⟨⟨_, R_rules_Rules_Shards⟩, ?_⟩
  refine List.forall_mem_cons.2 ⟨⟨_, R_rules_Rules_Sweeper⟩, ?_⟩
  refine List.forall_mem_cons.2 ⟨⟨_, R_rules_Rules_Reaper⟩, ?_⟩
  refine List.forall_mem_cons.2 ⟨⟨_, R_rules_Rules_Agents⟩, ?_⟩
  refine List.forall_mem_cons.2 ⟨⟨_, R_law05_RulesAgents⟩, ?_⟩
  exact fun p h => nomatch h
end Go.Proofs.Ytifghdombpcpjaa
