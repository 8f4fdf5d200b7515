/-
  The functions come to that: the reader says so.
-/
import Derived.Test.YtilkbgdfndifgaaGreatDoorAll
import Derived.Test.YtilkbgdfndifgaaGreatDoorProg
namespace Go.Proofs.YtilkbgdfndifgaaGreatDoor
open Go.Proofs.YtilkbgdfndifgaaGreatDoor.Eng
set_option linter.unusedVariables false
set_option maxRecDepth 20000
theorem R_field_Layout_low : execFn Tryz.prog cfg [(3, ⟨[5, 13], [11, 12], [], [], [], [], 0, false⟩)] 150 = T_field_Layout_low := by kernel_rfl
theorem R_fault_At : execFn Tryz.prog cfg [] 34 = T_fault_At := by kernel_rfl
theorem R_field_New : execFn Tryz.prog cfg [(3, ⟨[4, 9, 17, 18], [0, 2, 7, 8], [], [], [], [], 0, false⟩)] 149 = T_field_New := by kernel_rfl
theorem R_p_tick_Clock_Now : execFn Tryz.prog cfg [] 42 = T_p_tick_Clock_Now := by kernel_rfl
theorem R_p_seat_Program_code : execFn Tryz.prog cfg [] 89 = T_p_seat_Program_code := by kernel_rfl
theorem R_rules_Rules_All : execFn Tryz.prog cfg [] 46 = T_rules_Rules_All := by kernel_rfl
theorem R_rules_Rules_SlotAt : execFn Tryz.prog cfg [] 104 = T_rules_Rules_SlotAt := by kernel_rfl
theorem R_rules_Rules_Cell : execFn Tryz.prog cfg [] 107 = T_rules_Rules_Cell := by kernel_rfl
theorem R_p_mem_Mem_may : execFn Tryz.prog cfg [] 121 = T_p_mem_Mem_may := by kernel_rfl
theorem R_p_mem_Mem_step : execFn Tryz.prog cfg [] 122 = T_p_mem_Mem_step := by kernel_rfl
theorem R_p_mem_Mem_Load : execFn Tryz.prog cfg [] 92 = T_p_mem_Mem_Load := by kernel_rfl
theorem R_field_Layout_Most : execFn Tryz.prog cfg [] 151 = T_field_Layout_Most := by kernel_rfl
theorem R_field_Layout_Get : execFn Tryz.prog cfg [] 124 = T_field_Layout_Get := by kernel_rfl
theorem R_record_layout : execFn Tryz.prog cfg [] 130 = T_record_layout := by kernel_rfl
theorem R_record_Of : execFn Tryz.prog cfg [] 139 = T_record_Of := by kernel_rfl
theorem R_seat_slot : execFn Tryz.prog cfg [] 112 = T_seat_slot := by kernel_rfl
theorem R_record_IsEnd : execFn Tryz.prog cfg [] 140 = T_record_IsEnd := by kernel_rfl
theorem R_record_Next : execFn Tryz.prog cfg [] 113 = T_record_Next := by kernel_rfl
theorem R_p_seat_Program_poll : execFn Tryz.prog cfg [(11, ⟨[], [], [], [], [], [], 5, false⟩), (12, ⟨[], [], [], [], [], [], 5, false⟩), (14, ⟨[], [], [], [], [], [], 5, false⟩), (7, ⟨[], [], [], [], [], [], 5, false⟩)] 87 = T_p_seat_Program_poll := by kernel_rfl
theorem R_rules_Rules_StateAt : execFn Tryz.prog cfg [] 93 = T_rules_Rules_StateAt := by kernel_rfl
theorem R_cell_layout : execFn Tryz.prog cfg [] 123 = T_cell_layout := by kernel_rfl
theorem R_cell_State : execFn Tryz.prog cfg [] 94 = T_cell_State := by kernel_rfl
theorem R_p_pair_World_State : execFn Tryz.prog cfg [(1, ⟨[], [], [], [], [], [], 5, false⟩)] 74 = T_p_pair_World_State := by kernel_rfl
theorem R_cell_Live : execFn Tryz.prog cfg [] 141 = T_cell_Live := by kernel_rfl
theorem R_seat_look : execFn Tryz.prog cfg [] 114 = T_seat_look := by kernel_rfl
theorem R_p_seat_Program_view : execFn Tryz.prog cfg [(6, ⟨[], [], [], [], [], [], 5, false⟩), (7, ⟨[], [], [], [], [], [], 5, false⟩)] 88 = T_p_seat_Program_view := by kernel_rfl
theorem R_rules_limits : execFn Tryz.prog cfg [] 33 = T_rules_limits := by kernel_rfl
theorem R_fault_With : execFn Tryz.prog cfg [] 35 = T_fault_With := by kernel_rfl
theorem R_rules_New : execFn Tryz.prog cfg [(2, ⟨[9, 20, 21, 22, 23, 24], [1, 2, 7, 8], [], [], [], [], 0, false⟩)] 21 = T_rules_New := by kernel_rfl
theorem R_record_First : execFn Tryz.prog cfg [] 54 = T_record_First := by kernel_rfl
theorem R_seat_New : execFn Tryz.prog cfg [(3, ⟨[12], [5, 11], [5], [], [], [], 0, true⟩), (4, ⟨[], [], [], [], [], [], 5, false⟩)] 37 = T_seat_New := by kernel_rfl
theorem R_field_Add : execFn Tryz.prog cfg [(3, ⟨[5, 10, 18, 19, 20, 21, 22], [0, 8, 9], [], [], [], [], 0, false⟩)] 55 = T_field_Add := by kernel_rfl
theorem R_p_tick_Clock_Go : execFn Tryz.prog cfg [(4, ⟨[11], [0, 9, 10], [0], [], [], [], 0, true⟩)] 43 = T_p_tick_Clock_Go := by kernel_rfl
theorem R_field_Layout_Pack : execFn Tryz.prog cfg [(5, ⟨[6, 18, 26, 27, 28, 29, 30, 31], [2, 16, 17], [], [], [], [], 0, false⟩)] 131 = T_field_Layout_Pack := by kernel_rfl
theorem R_terms_Check : execFn Tryz.prog cfg [(2, ⟨[], [2, 3, 5, 27, 28, 29, 36, 37, 45, 46, 47, 55, 56, 57, 58, 67, 68, 69], [], [], [], [(9, false, [.bool])], 1, false⟩), (4, ⟨[], [2, 3, 5, 36, 37, 45, 46, 47, 55, 56, 57, 58, 67, 68, 69], [], [], [], [(22, false, [.bool])], 1, false⟩), (6, ⟨[], [2, 3, 5, 45, 46, 47, 55, 56, 57, 58, 67, 68, 69], [], [], [], [(32, false, [.bool])], 1, false⟩), (8, ⟨[], [2, 3, 5, 55, 56, 57, 58, 67, 68, 69], [], [], [], [(40, false, [.bool])], 1, false⟩)] 152 = T_terms_Check := by kernel_rfl
theorem R_rules_Rules_Band : execFn Tryz.prog cfg [] 59 = T_rules_Rules_Band := by kernel_rfl
theorem R_rules_Rules_Crossing : execFn Tryz.prog cfg [(6, ⟨[7, 9], [8], [7], [(7, 0, 3)], [], [], 0, false⟩), (11, ⟨[7, 10], [8], [7], [(7, 0, 3)], [], [], 0, false⟩)] 47 = T_rules_Rules_Crossing := by kernel_rfl
theorem R_rules_Rules_Shard : execFn Tryz.prog cfg [] 127 = T_rules_Rules_Shard := by kernel_rfl
theorem R_seat_Aims : execFn Tryz.prog cfg [(10, ⟨[9, 38], [1, 2, 4, 7, 11, 30, 31, 32, 37], [9], [(9, 0, 170)], [], [], 0, false⟩), (7, ⟨[9, 32], [1, 2, 4, 7, 30, 31], [9], [(9, 0, 170)], [], [], 0, false⟩), (3, ⟨[9, 16], [1, 2, 4, 7, 15], [9], [(9, 0, 170)], [], [], 0, false⟩)] 135 = T_seat_Aims := by kernel_rfl
theorem R_rules_Rules_TermsAt : execFn Tryz.prog cfg [] 95 = T_rules_Rules_TermsAt := by kernel_rfl
theorem R_p_pair_World_Tell : execFn Tryz.prog cfg [] 101 = T_p_pair_World_Tell := by kernel_rfl
theorem R_p_mem_Mem_Store : execFn Tryz.prog cfg [] 103 = T_p_mem_Mem_Store := by kernel_rfl
theorem R_cell_Word : execFn Tryz.prog cfg [] 128 = T_cell_Word := by kernel_rfl
theorem R_p_seat_Program_check : execFn Tryz.prog cfg [] 132 = T_p_seat_Program_check := by kernel_rfl
theorem R_cell_Begin : execFn Tryz.prog cfg [] 133 = T_cell_Begin := by kernel_rfl
theorem R_terms_layout : execFn Tryz.prog cfg [] 125 = T_terms_layout := by kernel_rfl
theorem R_terms_Word : execFn Tryz.prog cfg [] 134 = T_terms_Word := by kernel_rfl
theorem R_p_seat_Program_begin : execFn Tryz.prog cfg [(22, ⟨[], [0, 8], [0], [], [], [], 1, true⟩)] 108 = T_p_seat_Program_begin := by kernel_rfl
theorem R_terms_Of : execFn Tryz.prog cfg [] 96 = T_terms_Of := by kernel_rfl
theorem R_p_pair_World_Terms : execFn Tryz.prog cfg [(1, ⟨[], [], [], [], [], [], 5, false⟩)] 75 = T_p_pair_World_Terms := by kernel_rfl
theorem R_p_mem_Mem_Swap : execFn Tryz.prog cfg [] 129 = T_p_mem_Mem_Swap := by kernel_rfl
theorem R_p_pair_World_Turn : execFn Tryz.prog cfg [(4, ⟨[], [], [], [], [], [], 5, false⟩)] 100 = T_p_pair_World_Turn := by kernel_rfl
theorem R_field_up : execFn Tryz.prog cfg [] 157 = T_field_up := by kernel_rfl
theorem R_field_Mid : execFn Tryz.prog cfg [] 153 = T_field_Mid := by kernel_rfl
theorem R_terms_Match : execFn Tryz.prog cfg [(4, ⟨[], [2, 3, 4, 5, 8, 9, 10, 23, 24, 25, 28, 29, 30, 31, 32, 44, 45, 48, 49, 50, 51, 52, 53, 54], [9, 10], [], [], [], 1, false⟩)] 145 = T_terms_Match := by kernel_rfl
theorem R_terms_Shard : execFn Tryz.prog cfg [] 98 = T_terms_Shard := by kernel_rfl
theorem R_p_pair_Pair_finds : execFn Tryz.prog cfg [] 144 = T_p_pair_Pair_finds := by kernel_rfl
theorem R_cell_Loose : execFn Tryz.prog cfg [] 126 = T_cell_Loose := by kernel_rfl
theorem R_cell_ended : execFn Tryz.prog cfg [] 154 = T_cell_ended := by kernel_rfl
theorem R_cell_Take : execFn Tryz.prog cfg [] 146 = T_cell_Take := by kernel_rfl
theorem R_p_pair_Pair_take : execFn Tryz.prog cfg [(5, ⟨[], [], [], [], [], [], 5, false⟩)] 117 = T_p_pair_Pair_take := by kernel_rfl
theorem R_cell_Over : execFn Tryz.prog cfg [] 137 = T_cell_Over := by kernel_rfl
theorem R_cell_Held : execFn Tryz.prog cfg [] 155 = T_cell_Held := by kernel_rfl
theorem R_cell_loosen : execFn Tryz.prog cfg [] 156 = T_cell_loosen := by kernel_rfl
theorem R_cell_Release : execFn Tryz.prog cfg [] 147 = T_cell_Release := by kernel_rfl
theorem R_p_pair_Pair_let : execFn Tryz.prog cfg [(6, ⟨[], [], [], [], [], [], 5, false⟩), (4, ⟨[], [0, 1, 46, 47, 48, 49, 50, 51, 52, 53, 54, 55, 56, 57, 58], [], [], [], [(4, false, [(.int .i64)])], 1, true⟩)] 119 = T_p_pair_Pair_let := by kernel_rfl
theorem R_record_End : execFn Tryz.prog cfg [] 77 = T_record_End := by kernel_rfl
theorem R_record_Word : execFn Tryz.prog cfg [] 102 = T_record_Word := by kernel_rfl
theorem R_p_pair_World_Note : execFn Tryz.prog cfg [] 78 = T_p_pair_World_Note := by kernel_rfl
theorem R_p_pair_Pair_fillRecord : execFn Tryz.prog cfg [] 148 = T_p_pair_Pair_fillRecord := by kernel_rfl
theorem R_p_pair_Pair_note : execFn Tryz.prog cfg [(1, ⟨[], [0, 1, 57, 58, 59, 60, 99, 100, 101, 102, 143, 144, 145, 146], [], [], [], [(8, false, [.bool])], 1, true⟩), (3, ⟨[], [0, 1, 99, 100, 101, 102, 143, 144, 145, 146], [], [], [], [(50, false, [.bool])], 1, true⟩), (5, ⟨[], [0, 1, 143, 144, 145, 146], [], [], [], [(92, false, [.bool])], 1, true⟩), (9, ⟨[], [0, 1], [], [], [], [(136, false, [.bool])], 1, true⟩)] 120 = T_p_pair_Pair_note := by kernel_rfl
theorem R_p_pair_Pair_Done : execFn Tryz.prog cfg [] 71 = T_p_pair_Pair_Done := by kernel_rfl
theorem R_pair_Begin : execFn Tryz.prog cfg [] 72 = T_pair_Begin := by kernel_rfl
theorem R_rules_Rules_Owner : execFn Tryz.prog cfg [] 115 = T_rules_Rules_Owner := by kernel_rfl
theorem R_p_pair_Pair_idle : execFn Tryz.prog cfg [] 90 = T_p_pair_Pair_idle := by kernel_rfl
theorem R_p_pair_Pair_wants : execFn Tryz.prog cfg [] 142 = T_p_pair_Pair_wants := by kernel_rfl
theorem R_cell_Hold : execFn Tryz.prog cfg [] 143 = T_cell_Hold := by kernel_rfl
theorem R_p_pair_Pair_hold : execFn Tryz.prog cfg [] 116 = T_p_pair_Pair_hold := by kernel_rfl
theorem R_p_pair_Pair_look : execFn Tryz.prog cfg [] 118 = T_p_pair_Pair_look := by kernel_rfl
theorem R_p_pair_Pair_step : execFn Tryz.prog cfg [] 91 = T_p_pair_Pair_step := by kernel_rfl
theorem R_p_pair_Pair_Step : execFn Tryz.prog cfg [] 73 = T_p_pair_Pair_Step := by kernel_rfl
theorem R_p_seat_Program_try : execFn Tryz.prog cfg [(2, ⟨[], [0, 1], [], [], [], [(24, false, [.bool])], 1, true⟩), (7, ⟨[], [0, 1, 5], [5], [], [], [], 1, true⟩), (9, ⟨[], [0, 1], [0], [], [], [], 1, true⟩)] 109 = T_p_seat_Program_try := by kernel_rfl
theorem R_cell_Cancel : execFn Tryz.prog cfg [] 138 = T_cell_Cancel := by kernel_rfl
theorem R_p_seat_Program_turn : execFn Tryz.prog cfg [(14, ⟨[], [], [], [], [], [], 5, false⟩), (3, ⟨[], [0, 1, 3, 65, 66, 67, 68, 69, 70, 71, 74, 75], [], [], [], [(8, false, [(.int .i64)])], 1, true⟩), (6, ⟨[], [0, 1, 3, 8, 9], [], [], [], [(61, false, [.bool])], 1, true⟩)] 111 = T_p_seat_Program_turn := by kernel_rfl
theorem R_p_seat_Program_cancel : execFn Tryz.prog cfg [(12, ⟨[], [0, 1, 2, 6, 8, 30, 105, 106, 107, 108, 109], [], [], [], [(59, false, [.bool])], 1, true⟩), (17, ⟨[], [0, 1, 2, 6, 8, 30, 105, 106, 107, 108, 109], [], [], [], [(80, false, [.bool])], 1, true⟩), (22, ⟨[], [0, 6], [0], [], [], [], 1, true⟩)] 86 = T_p_seat_Program_cancel := by kernel_rfl
theorem R_seat_Start : execFn Tryz.prog cfg [] 67 = T_seat_Start := by kernel_rfl
theorem R_p_pool_session_take : execFn Tryz.prog cfg [] 69 = T_p_pool_session_take := by kernel_rfl
theorem R_p_pool_Pool_step_1 : execFn Tryz.prog cfg [] 68 = T_p_pool_Pool_step_1 := by kernel_rfl
theorem R_cell_Promote : execFn Tryz.prog cfg [] 136 = T_cell_Promote := by kernel_rfl
theorem R_p_seat_Program_rest : execFn Tryz.prog cfg [] 110 = T_p_seat_Program_rest := by kernel_rfl
theorem R_p_seat_Program_submit : execFn Tryz.prog cfg [] 85 = T_p_seat_Program_submit := by kernel_rfl
theorem R_p_seat_Program_Step : execFn Tryz.prog cfg [] 70 = T_p_seat_Program_Step := by kernel_rfl
theorem R_p_pool_Pool_step : execFn Tryz.prog cfg [(0, ⟨[2, 3], [], [], [], [], [], 6, false⟩), (5, ⟨[], [], [], [], [], [], 5, false⟩), (6, ⟨[], [], [], [], [], [], 5, false⟩), (8, ⟨[], [], [], [], [], [], 5, false⟩), (10, ⟨[], [], [], [], [], [], 5, false⟩), (11, ⟨[], [], [], [], [], [], 5, false⟩), (7, ⟨[], [2, 3], [], [], [], [], 1, true⟩)] 56 = T_p_pool_Pool_step := by kernel_rfl
theorem R_p_broom_Sweeper_Step : execFn Tryz.prog cfg [(4, ⟨[], [0, 1, 4], [0], [], [], [], 1, true⟩)] 57 = T_p_broom_Sweeper_Step := by kernel_rfl
theorem R_cell_Expire : execFn Tryz.prog cfg [] 97 = T_cell_Expire := by kernel_rfl
theorem R_p_tick_Clock_Due : execFn Tryz.prog cfg [] 99 = T_p_tick_Clock_Due := by kernel_rfl
theorem R_p_broom_Reaper_end : execFn Tryz.prog cfg [] 76 = T_p_broom_Reaper_end := by kernel_rfl
theorem R_broom_ReapSteps : execFn Tryz.prog cfg [] 79 = T_broom_ReapSteps := by kernel_rfl
theorem R_p_broom_Reaper_Step : execFn Tryz.prog cfg [(13, ⟨[], [0, 1], [0], [], [], [], 1, true⟩)] 58 = T_p_broom_Reaper_Step := by kernel_rfl
theorem R_p_pool_Pool_pick : execFn Tryz.prog cfg [(5, ⟨[], [0, 1, 5, 6], [], [], [], [(33, false, [.bool])], 1, true⟩)] 44 = T_p_pool_Pool_pick := by kernel_rfl
theorem R_tick_Pick : execFn Tryz.prog cfg [] 45 = T_tick_Pick := by kernel_rfl
theorem R_p_pool_Pool_Do : execFn Tryz.prog cfg [(3, ⟨[], [], [], [], [], [], 5, false⟩), (13, ⟨[], [], [], [], [], [], 5, false⟩), (16, ⟨[], [], [], [], [], [], 5, false⟩), (429999, ⟨[], [], [], [], [], [], 0, false⟩)] 23 = T_p_pool_Pool_Do := by kernel_rfl
theorem R_p_pool_Pool_Outs : execFn Tryz.prog cfg [(619999, ⟨[], [], [], [], [], [], 0, false⟩)] 48 = T_p_pool_Pool_Outs := by kernel_rfl
theorem R_p_pool_Pool_Replies : execFn Tryz.prog cfg [(3, ⟨[5, 11], [1, 9, 10], [5], [(5, 0, 66)], [], [], 0, false⟩)] 25 = T_p_pool_Pool_Replies := by kernel_rfl
theorem R_mem_New : execFn Tryz.prog cfg [] 52 = T_mem_New := by kernel_rfl
theorem R_rules_Rules_Words : execFn Tryz.prog cfg [] 53 = T_rules_Rules_Words := by kernel_rfl
theorem R_pair_New : execFn Tryz.prog cfg [] 36 = T_pair_New := by kernel_rfl
theorem R_rules_Rules_Shards : execFn Tryz.prog cfg [] 38 = T_rules_Rules_Shards := by kernel_rfl
theorem R_broom_NewSweeper : execFn Tryz.prog cfg [] 39 = T_broom_NewSweeper := by kernel_rfl
theorem R_broom_NewReaper : execFn Tryz.prog cfg [] 40 = T_broom_NewReaper := by kernel_rfl
theorem R_pool_New : execFn Tryz.prog cfg [(7, ⟨[28], [], [], [], [], [], 8, false⟩), (9, ⟨[32], [4, 7, 31], [7], [(7, 1, 92)], [], [], 0, true⟩), (14, ⟨[52], [7, 51], [7], [(7, 2, 101), (7, 3, 103)], [], [], 0, true⟩), (11, ⟨[], [], [], [], [], [], 5, false⟩), (16, ⟨[], [], [], [], [], [], 5, false⟩), (17, ⟨[], [], [], [], [], [], 5, false⟩), (19, ⟨[2], [], [], [], [], [], 9, false⟩)] 22 = T_pool_New := by kernel_rfl
theorem R_seat_Steps : execFn Tryz.prog cfg [] 24 = T_seat_Steps := by kernel_rfl
theorem R_p_pool_Pool_Idle : execFn Tryz.prog cfg [] 26 = T_p_pool_Pool_Idle := by kernel_rfl
theorem R_law13_awake : execFn Tryz.prog cfg [(9, ⟨[7, 39, 45], [4, 38, 52, 53, 54, 57, 58, 59, 60, 61, 64, 65, 68, 69, 70, 71], [], [], [], [], 0, true⟩)] 16 = T_law13_awake := by kernel_rfl
theorem R_ref01_Decimal : execFn Tryz.prog cfg [] 20 = T_ref01_Decimal := by kernel_rfl
theorem R_ref29_d : execFn Tryz.prog cfg [] 12 = T_ref29_d := by kernel_rfl
theorem R_ref29_side : execFn Tryz.prog cfg [] 15 = T_ref29_side := by kernel_rfl
theorem R_ref29_Terms : execFn Tryz.prog cfg [] 8 = T_ref29_Terms := by kernel_rfl
theorem R_ref06_Name : execFn Tryz.prog cfg [] 13 = T_ref06_Name := by kernel_rfl
theorem R_ref29_Event : execFn Tryz.prog cfg [(4, ⟨[3], [1, 2], [], [], [], [], 1, false⟩)] 6 = T_ref29_Event := by kernel_rfl
theorem R_internal_strconv_FormatBool : execFn Tryz.prog cfg [] 28 = T_internal_strconv_FormatBool := by kernel_rfl
theorem R_strconv_FormatBool : execFn Tryz.prog cfg [] 18 = T_strconv_FormatBool := by kernel_rfl
theorem R_report_words : execFn Tryz.prog cfg [(3, ⟨[3, 11], [9, 10], [3], [(3, 0, 9)], [], [], 0, false⟩)] 10 = T_report_words := by kernel_rfl
theorem R_terms_Name : execFn Tryz.prog cfg [] 14 = T_terms_Name := by kernel_rfl
theorem R_report_Terms : execFn Tryz.prog cfg [] 7 = T_report_Terms := by kernel_rfl
theorem R_cell_Kind : execFn Tryz.prog cfg [] 11 = T_cell_Kind := by kernel_rfl
theorem R_report_Event : execFn Tryz.prog cfg [] 5 = T_report_Event := by kernel_rfl
theorem R_law13_Awake : execFn Tryz.prog cfg [] 9 = T_law13_Awake := by kernel_rfl
theorem R_law29_awake : execFn Tryz.prog cfg [] 4 = T_law29_awake := by kernel_rfl
theorem R_law29_ReportEvents : execFn Tryz.prog cfg [] 3 = T_law29_ReportEvents := by kernel_rfl
theorem prog_ok : ∀ p ∈ prog, ∃ hints, execFn Tryz.prog cfg hints p.1 = p.2 := by
  unfold prog
  refine List.forall_mem_cons.2 ⟨⟨_, R_field_Layout_low⟩, ?_⟩
  refine List.forall_mem_cons.2 ⟨⟨_, R_fault_At⟩, ?_⟩
  refine List.forall_mem_cons.2 ⟨⟨_, R_field_New⟩, ?_⟩
  refine List.forall_mem_cons.2 ⟨⟨_, R_p_tick_Clock_Now⟩, ?_⟩
  refine List.forall_mem_cons.2 ⟨⟨_, R_p_seat_Program_code⟩, ?_⟩
  refine List.forall_mem_cons.2 ⟨⟨_, R_rules_Rules_All⟩, ?_⟩
  refine List.forall_mem_cons.2 ⟨⟨_, R_rules_Rules_SlotAt⟩, ?_⟩
  refine List.forall_mem_cons.2 ⟨⟨_, R_rules_Rules_Cell⟩, ?_⟩
  refine List.forall_mem_cons.2 ⟨⟨_, R_p_mem_Mem_may⟩, ?_⟩
  refine List.forall_mem_cons.2 ⟨⟨_, R_p_mem_Mem_step⟩, ?_⟩
  refine List.forall_mem_cons.2 ⟨⟨_, R_p_mem_Mem_Load⟩, ?_⟩
  refine List.forall_mem_cons.2 ⟨⟨_, R_field_Layout_Most⟩, ?_⟩
  refine List.forall_mem_cons.2 ⟨⟨_, R_field_Layout_Get⟩, ?_⟩
  refine List.forall_mem_cons.2 ⟨⟨_, R_record_layout⟩, ?_⟩
  refine List.forall_mem_cons.2 ⟨⟨_, R_record_Of⟩, ?_⟩
  refine List.forall_mem_cons.2 ⟨⟨_, R_seat_slot⟩, ?_⟩
  refine List.forall_mem_cons.2 ⟨⟨_, R_record_IsEnd⟩, ?_⟩
  refine List.forall_mem_cons.2 ⟨⟨_, R_record_Next⟩, ?_⟩
  refine List.forall_mem_cons.2 ⟨⟨_, R_p_seat_Program_poll⟩, ?_⟩
  refine List.forall_mem_cons.2 ⟨⟨_, R_rules_Rules_StateAt⟩, ?_⟩
  refine List.forall_mem_cons.2 ⟨⟨_, R_cell_layout⟩, ?_⟩
  refine List.forall_mem_cons.2 ⟨⟨_, R_cell_State⟩, ?_⟩
  refine List.forall_mem_cons.2 ⟨⟨_, R_p_pair_World_State⟩, ?_⟩
  refine List.forall_mem_cons.2 ⟨⟨_, R_cell_Live⟩, ?_⟩
  refine List.forall_mem_cons.2 ⟨⟨_, R_seat_look⟩, ?_⟩
  refine List.forall_mem_cons.2 ⟨⟨_, R_p_seat_Program_view⟩, ?_⟩
  refine List.forall_mem_cons.2 ⟨⟨_, R_rules_limits⟩, ?_⟩
  refine List.forall_mem_cons.2 ⟨⟨_, R_fault_With⟩, ?_⟩
  refine List.forall_mem_cons.2 ⟨⟨_, R_rules_New⟩, ?_⟩
  refine List.forall_mem_cons.2 ⟨⟨_, R_record_First⟩, ?_⟩
  refine List.forall_mem_cons.2 ⟨⟨_, R_seat_New⟩, ?_⟩
  refine List.forall_mem_cons.2 ⟨⟨_, R_field_Add⟩, ?_⟩
  refine List.forall_mem_cons.2 ⟨⟨_, R_p_tick_Clock_Go⟩, ?_⟩
  refine List.forall_mem_cons.2 ⟨⟨_, R_field_Layout_Pack⟩, ?_⟩
  refine List.forall_mem_cons.2 ⟨⟨_, R_terms_Check⟩, ?_⟩
  refine List.forall_mem_cons.2 ⟨⟨_, R_rules_Rules_Band⟩, ?_⟩
  refine List.forall_mem_cons.2 ⟨⟨_, R_rules_Rules_Crossing⟩, ?_⟩
  refine List.forall_mem_cons.2 ⟨⟨_, R_rules_Rules_Shard⟩, ?_⟩
  refine List.forall_mem_cons.2 ⟨⟨_, R_seat_Aims⟩, ?_⟩
  refine List.forall_mem_cons.2 ⟨⟨_, R_rules_Rules_TermsAt⟩, ?_⟩
  refine List.forall_mem_cons.2 ⟨⟨_, R_p_pair_World_Tell⟩, ?_⟩
  refine List.forall_mem_cons.2 ⟨⟨_, R_p_mem_Mem_Store⟩, ?_⟩
  refine List.forall_mem_cons.2 ⟨⟨_, R_cell_Word⟩, ?_⟩
  refine List.forall_mem_cons.2 ⟨⟨_, R_p_seat_Program_check⟩, ?_⟩
  refine List.forall_mem_cons.2 ⟨⟨_, R_cell_Begin⟩, ?_⟩
  refine List.forall_mem_cons.2 ⟨⟨_, R_terms_layout⟩, ?_⟩
  refine List.forall_mem_cons.2 ⟨⟨_, R_terms_Word⟩, ?_⟩
  refine List.forall_mem_cons.2 ⟨⟨_, R_p_seat_Program_begin⟩, ?_⟩
  refine List.forall_mem_cons.2 ⟨⟨_, R_terms_Of⟩, ?_⟩
  refine List.forall_mem_cons.2 ⟨⟨_, R_p_pair_World_Terms⟩, ?_⟩
  refine List.forall_mem_cons.2 ⟨⟨_, R_p_mem_Mem_Swap⟩, ?_⟩
  refine List.forall_mem_cons.2 ⟨⟨_, R_p_pair_World_Turn⟩, ?_⟩
  refine List.forall_mem_cons.2 ⟨⟨_, R_field_up⟩, ?_⟩
  refine List.forall_mem_cons.2 ⟨⟨_, R_field_Mid⟩, ?_⟩
  refine List.forall_mem_cons.2 ⟨⟨_, R_terms_Match⟩, ?_⟩
  refine List.forall_mem_cons.2 ⟨⟨_, R_terms_Shard⟩, ?_⟩
  refine List.forall_mem_cons.2 ⟨⟨_, R_p_pair_Pair_finds⟩, ?_⟩
  refine List.forall_mem_cons.2 ⟨⟨_, R_cell_Loose⟩, ?_⟩
  refine List.forall_mem_cons.2 ⟨⟨_, R_cell_ended⟩, ?_⟩
  refine List.forall_mem_cons.2 ⟨⟨_, R_cell_Take⟩, ?_⟩
  refine List.forall_mem_cons.2 ⟨⟨_, R_p_pair_Pair_take⟩, ?_⟩
  refine List.forall_mem_cons.2 ⟨⟨_, R_cell_Over⟩, ?_⟩
  refine List.forall_mem_cons.2 ⟨⟨_, R_cell_Held⟩, ?_⟩
  refine List.forall_mem_cons.2 ⟨⟨_, R_cell_loosen⟩, ?_⟩
  refine List.forall_mem_cons.2 ⟨⟨_, R_cell_Release⟩, ?_⟩
  refine List.forall_mem_cons.2 ⟨⟨_, R_p_pair_Pair_let⟩, ?_⟩
  refine List.forall_mem_cons.2 ⟨⟨_, R_record_End⟩, ?_⟩
  refine List.forall_mem_cons.2 ⟨⟨_, R_record_Word⟩, ?_⟩
  refine List.forall_mem_cons.2 ⟨⟨_, R_p_pair_World_Note⟩, ?_⟩
  refine List.forall_mem_cons.2 ⟨⟨_, R_p_pair_Pair_fillRecord⟩, ?_⟩
  refine List.forall_mem_cons.2 ⟨⟨_, R_p_pair_Pair_note⟩, ?_⟩
  refine List.forall_mem_cons.2 ⟨⟨_, R_p_pair_Pair_Done⟩, ?_⟩
  refine List.forall_mem_cons.2 ⟨⟨_, R_pair_Begin⟩, ?_⟩
  refine List.forall_mem_cons.2 ⟨⟨_, R_rules_Rules_Owner⟩, ?_⟩
  refine List.forall_mem_cons.2 ⟨⟨_, R_p_pair_Pair_idle⟩, ?_⟩
  refine List.forall_mem_cons.2 ⟨⟨_, R_p_pair_Pair_wants⟩, ?_⟩
  refine List.forall_mem_cons.2 ⟨⟨_, R_cell_Hold⟩, ?_⟩
  refine List.forall_mem_cons.2 ⟨⟨_, R_p_pair_Pair_hold⟩, ?_⟩
  refine List.forall_mem_cons.2 ⟨⟨_, R_p_pair_Pair_look⟩, ?_⟩
  refine List.forall_mem_cons.2 ⟨⟨_, R_p_pair_Pair_step⟩, ?_⟩
  refine List.forall_mem_cons.2 ⟨⟨_, R_p_pair_Pair_Step⟩, ?_⟩
  refine List.forall_mem_cons.2 ⟨⟨_, R_p_seat_Program_try⟩, ?_⟩
  refine List.forall_mem_cons.2 ⟨⟨_, R_cell_Cancel⟩, ?_⟩
  refine List.forall_mem_cons.2 ⟨⟨_, R_p_seat_Program_turn⟩, ?_⟩
  refine List.forall_mem_cons.2 ⟨⟨_, R_p_seat_Program_cancel⟩, ?_⟩
  refine List.forall_mem_cons.2 ⟨⟨_, R_seat_Start⟩, ?_⟩
  refine List.forall_mem_cons.2 ⟨⟨_, R_p_pool_session_take⟩, ?_⟩
  refine List.forall_mem_cons.2 ⟨⟨_, R_p_pool_Pool_step_1⟩, ?_⟩
  refine List.forall_mem_cons.2 ⟨⟨_, R_cell_Promote⟩, ?_⟩
  refine List.forall_mem_cons.2 ⟨⟨_, R_p_seat_Program_rest⟩, ?_⟩
  refine List.forall_mem_cons.2 ⟨⟨_, R_p_seat_Program_submit⟩, ?_⟩
  refine List.forall_mem_cons.2 ⟨⟨_, R_p_seat_Program_Step⟩, ?_⟩
  refine List.forall_mem_cons.2 ⟨⟨_, R_p_pool_Pool_step⟩, ?_⟩
  refine List.forall_mem_cons.2 ⟨⟨_, R_p_broom_Sweeper_Step⟩, ?_⟩
  refine List.forall_mem_cons.2 ⟨⟨_, R_cell_Expire⟩, ?_⟩
  refine List.forall_mem_cons.2 ⟨⟨_, R_p_tick_Clock_Due⟩, ?_⟩
  refine List.forall_mem_cons.2 ⟨⟨_, R_p_broom_Reaper_end⟩, ?_⟩
  refine List.forall_mem_cons.2 ⟨⟨_, R_broom_ReapSteps⟩, ?_⟩
  refine List.forall_mem_cons.2 ⟨⟨_, R_p_broom_Reaper_Step⟩, ?_⟩
  refine List.forall_mem_cons.2 ⟨⟨_, R_p_pool_Pool_pick⟩, ?_⟩
  refine List.forall_mem_cons.2 ⟨⟨_, R_tick_Pick⟩, ?_⟩
  refine List.forall_mem_cons.2 ⟨⟨_, R_p_pool_Pool_Do⟩, ?_⟩
  refine List.forall_mem_cons.2 ⟨⟨_, R_p_pool_Pool_Outs⟩, ?_⟩
  refine List.forall_mem_cons.2 ⟨⟨_, R_p_pool_Pool_Replies⟩, ?_⟩
  refine List.forall_mem_cons.2 ⟨⟨_, R_mem_New⟩, ?_⟩
  refine List.forall_mem_cons.2 ⟨⟨_, R_rules_Rules_Words⟩, ?_⟩
  refine List.forall_mem_cons.2 ⟨⟨_, R_pair_New⟩, ?_⟩
  refine List.forall_mem_cons.2 ⟨⟨_, R_rules_Rules_Shards⟩, ?_⟩
  refine List.forall_mem_cons.2 ⟨⟨_, R_broom_NewSweeper⟩, ?_⟩
  refine List.forall_mem_cons.2 ⟨⟨_, R_broom_NewReaper⟩, ?_⟩
  refine List.forall_mem_cons.2 ⟨⟨_, R_pool_New⟩, ?_⟩
  refine List.forall_mem_cons.2 ⟨⟨_, R_seat_Steps⟩, ?_⟩
  refine List.forall_mem_cons.2 ⟨⟨_, R_p_pool_Pool_Idle⟩, ?_⟩
  refine List.forall_mem_cons.2 ⟨⟨_, R_law13_awake⟩, ?_⟩
  refine List.forall_mem_cons.2 ⟨⟨_, R_ref01_Decimal⟩, ?_⟩
  refine List.forall_mem_cons.2 ⟨⟨_, R_ref29_d⟩, ?_⟩
  refine List.forall_mem_cons.2 ⟨⟨_, R_ref29_side⟩, ?_⟩
  refine List.forall_mem_cons.2 ⟨⟨_, R_ref29_Terms⟩, ?_⟩
  refine List.forall_mem_cons.2 ⟨⟨_, R_ref06_Name⟩, ?_⟩
  refine List.forall_mem_cons.2 ⟨⟨_, R_ref29_Event⟩, ?_⟩
  refine List.forall_mem_cons.2 ⟨⟨_, R_internal_strconv_FormatBool⟩, ?_⟩
  refine List.forall_mem_cons.2 ⟨⟨_, R_strconv_FormatBool⟩, ?_⟩
  refine List.forall_mem_cons.2 ⟨⟨_, R_report_words⟩, ?_⟩
  refine List.forall_mem_cons.2 ⟨⟨_, R_terms_Name⟩, ?_⟩
  refine List.forall_mem_cons.2 ⟨⟨_, R_report_Terms⟩, ?_⟩
  refine List.forall_mem_cons.2 ⟨⟨_, R_cell_Kind⟩, ?_⟩
  refine List.forall_mem_cons.2 ⟨⟨_, R_report_Event⟩, ?_⟩
  refine List.forall_mem_cons.2 ⟨⟨_, R_law13_Awake⟩, ?_⟩
  refine List.forall_mem_cons.2 ⟨⟨_, R_law29_awake⟩, ?_⟩
  refine List.forall_mem_cons.2 ⟨⟨_, R_law29_ReportEvents⟩, ?_⟩
  exact fun p h => nomatch h
end Go.Proofs.YtilkbgdfndifgaaGreatDoor
