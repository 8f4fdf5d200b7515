/-
  The functions come to that: the reader says so.
-/
import Derived.Test.YtifghdombpcpjaaDoorAll
import Derived.Test.YtifghdombpcpjaaDoorProg
namespace Go.Proofs.YtifghdombpcpjaaDoor
open Go.Proofs.YtifghdombpcpjaaDoor.Eng
set_option linter.unusedVariables false
set_option maxRecDepth 20000
theorem R_rules_limits : execFn Tryd.prog cfg [] 23 = T_rules_limits := by kernel_rfl
theorem R_fault_At : execFn Tryd.prog cfg [] 24 = T_fault_At := by kernel_rfl
theorem R_fault_With : execFn Tryd.prog cfg [] 25 = T_fault_With := by kernel_rfl
theorem R_rules_New : execFn Tryd.prog cfg [(2, ⟨[9, 20, 21, 22, 23, 24], [1, 2, 7, 8], [], [], [], [], 0, false⟩)] 4 = T_rules_New := by kernel_rfl
theorem R_ref05_Check : execFn Tryd.prog cfg [(5, ⟨[6, 40, 41, 42, 43, 44, 45, 46, 47, 48], [3, 4, 5], [], [], [], [], 0, false⟩)] 5 = T_ref05_Check := by kernel_rfl
theorem R_fault_Place : execFn Tryd.prog cfg [] 6 = T_fault_Place := by kernel_rfl
theorem R_fault_Words : execFn Tryd.prog cfg [(3, ⟨[0, 3, 4, 9, 10], [], [3], [(3, 0, 9)], [], [], 0, true⟩)] 7 = T_fault_Words := by kernel_rfl
theorem R_rules_Rules_All : execFn Tryd.prog cfg [] 11 = T_rules_Rules_All := by kernel_rfl
theorem R_rules_Rules_Owner : execFn Tryd.prog cfg [] 16 = T_rules_Rules_Owner := by kernel_rfl
theorem R_rules_Rules_Cell : execFn Tryd.prog cfg [] 21 = T_rules_Rules_Cell := by kernel_rfl
theorem R_law05_awake : execFn Tryd.prog cfg [] 8 = T_law05_awake := by kernel_rfl
theorem R_law01_Num : execFn Tryd.prog cfg [(4, ⟨[3], [0], [], [], [], [], 0, false⟩)] 9 = T_law01_Num := by kernel_rfl
theorem R_ref05_Word : execFn Tryd.prog cfg [] 10 = T_ref05_Word := by kernel_rfl
theorem R_rules_Rules_Shards : execFn Tryd.prog cfg [] 12 = T_rules_Rules_Shards := by kernel_rfl
theorem R_rules_Rules_Agents : execFn Tryd.prog cfg [] 13 = T_rules_Rules_Agents := by kernel_rfl
theorem R_rules_Rules_Words : execFn Tryd.prog cfg [] 14 = T_rules_Rules_Words := by kernel_rfl
theorem R_ref05_Places : execFn Tryd.prog cfg [(14, ⟨[3, 8], [1, 4, 6, 7], [3], [(3, 0, 65)], [], [], 0, false⟩), (11, ⟨[3, 7], [1, 4, 6], [3], [(3, 0, 65)], [], [], 0, false⟩), (8, ⟨[3, 6], [1, 4], [3], [(3, 0, 65)], [], [], 0, false⟩), (4, ⟨[3, 5], [1, 4], [3], [(3, 0, 65)], [], [], 0, false⟩)] 15 = T_ref05_Places := by kernel_rfl
theorem R_rules_Rules_Own : execFn Tryd.prog cfg [] 17 = T_rules_Rules_Own := by kernel_rfl
theorem R_rules_Rules_Parted : execFn Tryd.prog cfg [] 18 = T_rules_Rules_Parted := by kernel_rfl
theorem R_rules_Rules_Sweeper : execFn Tryd.prog cfg [] 19 = T_rules_Rules_Sweeper := by kernel_rfl
theorem R_rules_Rules_Reaper : execFn Tryd.prog cfg [] 20 = T_rules_Rules_Reaper := by kernel_rfl
theorem R_rules_Rules_Shard : execFn Tryd.prog cfg [] 22 = T_rules_Rules_Shard := by kernel_rfl
theorem R_law05_RulesCounts : execFn Tryd.prog cfg [(29, ⟨[14, 15, 156, 163, 164, 165, 178, 179, 180, 183, 184, 185, 186, 187, 188, 189, 190, 193, 194, 195, 196, 197, 198, 199, 200, 201, 202, 203], [1, 2, 3, 7, 13, 18, 150, 151, 155, 212, 213, 214, 215, 222, 223, 224, 225, 230, 231, 232, 233, 244, 245, 248, 249, 250, 251, 254, 255, 256, 257, 261, 262, 263, 264, 265, 266, 269, 270, 271, 272, 273, 274], [], [], [], [], 0, false⟩), (26, ⟨[14, 15, 151, 163, 164, 165, 178, 179, 180, 183, 184, 185, 186, 187, 188, 189, 190, 193, 194, 195, 196, 197, 198, 199, 200, 201, 202, 203], [1, 2, 3, 7, 13, 150, 212, 213, 214, 215, 222, 223, 224, 225, 230, 231, 232, 233, 244, 245, 248, 249, 250, 251, 254, 255, 256, 257, 261, 262, 263, 264, 265, 266, 269, 270, 271, 272, 273, 274], [], [], [], [], 0, false⟩), (15, ⟨[13, 15, 121, 128, 129, 130, 139, 140, 141, 142, 143], [1, 2, 3, 7, 14, 16, 115, 116, 120, 163, 164, 165, 178, 179, 180, 183, 184, 185, 186, 187, 188, 189, 190, 193, 194, 195, 196, 197, 198, 199, 200, 201, 202, 203, 212, 213, 214, 215, 222, 223, 224, 225, 230, 231, 232, 233, 244, 245, 248, 249, 250, 251, 254, 255, 256, 257, 261, 262, 263, 264, 265, 266, 269, 270, 271, 272, 273, 274], [], [], [], [], 0, false⟩), (12, ⟨[13, 15, 116, 128, 129, 130, 139, 140, 141, 142, 143], [1, 2, 3, 7, 14, 115, 163, 164, 165, 178, 179, 180, 183, 184, 185, 186, 187, 188, 189, 190, 193, 194, 195, 196, 197, 198, 199, 200, 201, 202, 203, 212, 213, 214, 215, 222, 223, 224, 225, 230, 231, 232, 233, 244, 245, 248, 249, 250, 251, 254, 255, 256, 257, 261, 262, 263, 264, 265, 266, 269, 270, 271, 272, 273, 274], [], [], [], [], 0, false⟩)] 3 = T_law05_RulesCounts := by kernel_rfl
theorem prog_ok : ∀ p ∈ prog, ∃ hints, execFn Tryd.prog cfg hints p.1 = p.2 := by
  unfold prog
  refine List.forall_mem_cons.2 ⟨⟨_, R_rules_limits⟩, ?_⟩
  refine List.forall_mem_cons.2 ⟨⟨_, R_fault_At⟩, ?_⟩
  refine List.forall_mem_cons.2 ⟨⟨_, R_fault_With⟩, ?_⟩
  refine List.forall_mem_cons.2 ⟨⟨_, R_rules_New⟩, ?_⟩
  refine List.forall_mem_cons.2 ⟨⟨_, R_ref05_Check⟩, ?_⟩
  refine List.forall_mem_cons.2 ⟨⟨_, R_fault_Place⟩, ?_⟩
  refine List.forall_mem_cons.2 ⟨⟨_, R_fault_Words⟩, ?_⟩
  refine List.forall_mem_cons.2 ⟨⟨_, R_rules_Rules_All⟩, ?_⟩
  refine List.forall_mem_cons.2 ⟨⟨_, R_rules_Rules_Owner⟩, ?_⟩
  refine List.forall_mem_cons.2 ⟨⟨_, R_rules_Rules_Cell⟩, ?_⟩
  refine List.forall_mem_cons.2 ⟨⟨_, R_law05_awake⟩, ?_⟩
  refine List.forall_mem_cons.2 ⟨⟨_, R_law01_Num⟩, ?_⟩
  refine List.forall_mem_cons.2 ⟨⟨_, R_ref05_Word⟩, ?_⟩
  refine List.forall_mem_cons.2 ⟨⟨_, R_rules_Rules_Shards⟩, ?_⟩
  refine List.forall_mem_cons.2 ⟨⟨_, R_rules_Rules_Agents⟩, ?_⟩
  refine List.forall_mem_cons.2 ⟨⟨_, R_rules_Rules_Words⟩, ?_⟩
  refine List.forall_mem_cons.2 ⟨⟨_, R_ref05_Places⟩, ?_⟩
  refine List.forall_mem_cons.2 ⟨⟨_, R_rules_Rules_Own⟩, ?_⟩
  refine List.forall_mem_cons.2 ⟨⟨_, R_rules_Rules_Parted⟩, ?_⟩
  refine List.forall_mem_cons.2 ⟨⟨_, R_rules_Rules_Sweeper⟩, ?_⟩
  refine List.forall_mem_cons.2 ⟨⟨_, R_rules_Rules_Reaper⟩, ?_⟩
  refine List.forall_mem_cons.2 ⟨⟨_, R_rules_Rules_Shard⟩, ?_⟩
  refine List.forall_mem_cons.2 ⟨⟨_, R_law05_RulesCounts⟩, ?_⟩
  exact fun p h => nomatch h
end Go.Proofs.YtifghdombpcpjaaDoor
