/-
  The functions come to that: the reader says so.
-/
import Derived.Test.YtifghdombpcpjaaAll
import Derived.Test.YtifghdombpcpjaaProg
namespace Go.Proofs.Ytifghdombpcpjaa
open Go.Proofs.Ytifghdombpcpjaa.Eng
set_option linter.unusedVariables false
set_option maxRecDepth 20000
theorem R_rules_limits : execFn Try.prog [] 25 = T_rules_limits := by kernel_rfl
theorem R_fault_At : execFn Try.prog [] 26 = T_fault_At := by kernel_rfl
theorem R_fault_With : execFn Try.prog [] 27 = T_fault_With := by kernel_rfl
theorem R_rules_New : execFn Try.prog [(2, ⟨[9, 20, 21, 22, 23, 24], [1, 2, 7, 8], [], [], []⟩)] 7 = T_rules_New := by kernel_rfl
theorem R_ref05_Check : execFn Try.prog [(5, ⟨[6, 40, 41, 42, 43, 44, 45, 46, 47, 48], [3, 4, 5], [], [], []⟩)] 8 = T_ref05_Check := by kernel_rfl
theorem R_rules_Rules_Cell : execFn Try.prog [] 28 = T_rules_Rules_Cell := by kernel_rfl
theorem R_rules_Rules_All : execFn Try.prog [] 30 = T_rules_Rules_All := by kernel_rfl
theorem R_rules_Rules_Owner : execFn Try.prog [] 29 = T_rules_Rules_Owner := by kernel_rfl
theorem R_law05_awake : execFn Try.prog [] 9 = T_law05_awake := by kernel_rfl
theorem R_ref05_Places : execFn Try.prog [(4, ⟨[3, 5], [1, 4], [3], [(3, 0, 35)], []⟩), (8, ⟨[3, 6], [1, 4], [3], [(3, 0, 35)], []⟩), (11, ⟨[3, 7], [1, 4, 6], [3], [(3, 0, 35)], []⟩), (14, ⟨[3, 8], [1, 4, 6, 7], [3], [(3, 0, 35)], []⟩)] 10 = T_ref05_Places := by kernel_rfl
theorem R_rules_Rules_StateAt : execFn Try.prog [] 11 = T_rules_Rules_StateAt := by kernel_rfl
theorem R_rules_Rules_TermsAt : execFn Try.prog [] 12 = T_rules_Rules_TermsAt := by kernel_rfl
theorem R_rules_Rules_SlotAt : execFn Try.prog [] 13 = T_rules_Rules_SlotAt := by kernel_rfl
theorem R_ref05_At : execFn Try.prog [(2, ⟨[5], [0, 3], [], [], []⟩)] 14 = T_ref05_At := by kernel_rfl
theorem R_law05_RulesPlaces : execFn Try.prog [(6, ⟨[32], [1, 2, 3, 9, 10, 11, 30, 31, 65, 66, 69, 70, 71, 72, 73, 74, 75, 76, 77, 78, 79, 80], [], [], []⟩)] 3 = T_law05_RulesPlaces := by kernel_rfl
theorem R_rules_Rules_Band : execFn Try.prog [] 20 = T_rules_Rules_Band := by kernel_rfl
theorem R_rules_Rules_Crossing : execFn Try.prog [(6, ⟨[7, 9], [8], [7], [(7, 0, 3)], []⟩), (11, ⟨[7, 10], [8], [7], [(7, 0, 3)], []⟩)] 22 = T_rules_Rules_Crossing := by kernel_rfl
theorem R_ref05_Band : execFn Try.prog [(4, ⟨[5], [1, 2], [], [], []⟩)] 24 = T_ref05_Band := by kernel_rfl
theorem R_ref05_Crosses : execFn Try.prog [(4, ⟨[8, 9, 19, 20, 35, 36, 37, 40, 41, 42, 43, 44, 45, 46], [1, 3, 7], [8], [(8, 0, 3)], []⟩)] 23 = T_ref05_Crosses := by kernel_rfl
theorem R_law05_RulesBands : execFn Try.prog [(8, ⟨[57], [2, 3, 9, 11, 12, 56, 73, 74, 77, 78, 81, 82, 83, 96, 97, 98, 99, 100, 113, 114, 115, 116, 117, 122, 125], [], [], []⟩), (17, ⟨[14, 90, 96, 97, 98, 99, 100], [2, 3, 9, 15, 88, 89, 113, 114, 115, 116, 117, 122, 125], [], [], []⟩), (22, ⟨[15, 107, 113, 114, 115, 116, 117], [2, 9, 14, 105, 106, 122, 125], [], [], []⟩)] 6 = T_law05_RulesBands := by kernel_rfl
theorem R_rules_Rules_Shards : execFn Try.prog [] 15 = T_rules_Rules_Shards := by kernel_rfl
theorem R_rules_Rules_Shard : execFn Try.prog [] 19 = T_rules_Rules_Shard := by kernel_rfl
theorem R_rules_Rules_Parted : execFn Try.prog [] 21 = T_rules_Rules_Parted := by kernel_rfl
theorem R_law05_RulesShards : execFn Try.prog [] 5 = T_law05_RulesShards := by kernel_rfl
theorem prog_ok : ∀ p ∈ prog, ∃ hints, execFn Try.prog hints p.1 = p.2 := by
  unfold prog
  refine List.forall_mem_cons.2 ⟨⟨_, R_rules_limits⟩, ?_⟩
  refine List.forall_mem_cons.2 ⟨⟨_, R_fault_At⟩, ?_⟩
  refine List.forall_mem_cons.2 ⟨⟨_, R_fault_With⟩, ?_⟩
  refine List.forall_mem_cons.2 ⟨⟨_, R_rules_New⟩, ?_⟩
  refine List.forall_mem_cons.2 ⟨⟨_, R_ref05_Check⟩, ?_⟩
  refine List.forall_mem_cons.2 ⟨⟨_, R_rules_Rules_Cell⟩, ?_⟩
  refine List.forall_mem_cons.2 ⟨⟨_, R_rules_Rules_All⟩, ?_⟩
  refine List.forall_mem_cons.2 ⟨⟨_, R_rules_Rules_Owner⟩, ?_⟩
  refine List.forall_mem_cons.2 ⟨⟨_, R_law05_awake⟩, ?_⟩
  refine List.forall_mem_cons.2 ⟨⟨_, R_ref05_Places⟩, ?_⟩
  refine List.forall_mem_cons.2 ⟨⟨_, R_rules_Rules_StateAt⟩, ?_⟩
  refine List.forall_mem_cons.2 ⟨⟨_, R_rules_Rules_TermsAt⟩, ?_⟩
  refine List.forall_mem_cons.2 ⟨⟨_, R_rules_Rules_SlotAt⟩, ?_⟩
  refine List.forall_mem_cons.2 ⟨⟨_, R_ref05_At⟩, ?_⟩
  refine List.forall_mem_cons.2 ⟨⟨_, R_law05_RulesPlaces⟩, ?_⟩
  refine List.forall_mem_cons.2 ⟨⟨_, R_rules_Rules_Band⟩, ?_⟩
  refine List.forall_mem_cons.2 ⟨⟨_, R_rules_Rules_Crossing⟩, ?_⟩
  refine List.forall_mem_cons.2 ⟨⟨_, R_ref05_Band⟩, ?_⟩
  refine List.forall_mem_cons.2 ⟨⟨_, R_ref05_Crosses⟩, ?_⟩
  refine List.forall_mem_cons.2 ⟨⟨_, R_law05_RulesBands⟩, ?_⟩
  refine List.forall_mem_cons.2 ⟨⟨_, R_rules_Rules_Shards⟩, ?_⟩
  refine List.forall_mem_cons.2 ⟨⟨_, R_rules_Rules_Shard⟩, ?_⟩
  refine List.forall_mem_cons.2 ⟨⟨_, R_rules_Rules_Parted⟩, ?_⟩
  refine List.forall_mem_cons.2 ⟨⟨_, R_law05_RulesShards⟩, ?_⟩
  exact fun p h => nomatch h
end Go.Proofs.Ytifghdombpcpjaa
