/-
  The functions, as equations.
-/
import Derived.Test.YtifghdombpcpjaaAll
namespace Go.Proofs.Ytifghdombpcpjaa
open Go.Proofs.Ytifghdombpcpjaa.Eng
set_option linter.unusedVariables false
set_option maxRecDepth 20000
theorem E_rules_limits (x0 x1 x2 x3 x4 x5 x6 : D) : FX 25 [x0, x1, x2, x3, x4, x5, x6] =
  some [(D.agg ((D.agg ((D.str ((.mk #[112, 97, 114, 116, 115]))) :: (x0 :: ((D.int (1 : Int)) :: ((D.int (6 : Int)) :: []))))) :: ((D.agg ((D.str ((.mk #[99, 101, 108, 108, 115]))) :: (x1 :: ((D.int (1 : Int)) :: ((D.int (4 : Int)) :: []))))) :: ((D.agg ((D.str ((.mk #[110, 97, 109, 101, 115]))) :: (x2 :: ((D.int (1 : Int)) :: ((D.int (3 : Int)) :: []))))) :: ((D.agg ((D.str ((.mk #[98, 97, 110, 100, 115]))) :: (x3 :: ((D.int (1 : Int)) :: ((D.int (4 : Int)) :: []))))) :: ((D.agg ((D.str ((.mk #[112, 114, 111, 98, 101, 115]))) :: (x4 :: ((D.int (0 : Int)) :: ((D.int (4 : Int)) :: []))))) :: ((D.agg ((D.str ((.mk #[102, 105, 108, 108, 115]))) :: (x5 :: ((D.int (1 : Int)) :: ((D.int (4 : Int)) :: []))))) :: ((D.agg ((D.str ((.mk #[103, 101, 110, 115]))) :: (x6 :: ((D.int (1 : Int)) :: ((D.int (15 : Int)) :: []))))) :: []))))))))] := (fixP_eq (t := T_rules_limits) (by rfl) _).trans (by kernel_rfl)
theorem E_fault_At (x0 x1 : D) : FX 26 [x0, x1] =
  if (x1).isNil = true then
  some [D.nil]
  else
  some [(D.iface 57 (D.agg (x0 :: (x1 :: []))))] := (fixP_eq (t := T_fault_At) (by rfl) _).trans (by kernel_rfl)
theorem E_fault_With (x0 x1 : D) : FX 27 [x0, x1] =
  if (x1).isNil = true then
  some [D.nil]
  else
  some [(D.iface 60 (D.agg (x0 :: (x1 :: []))))] := (fixP_eq (t := T_fault_With) (by rfl) _).trans (by kernel_rfl)
noncomputable def W_rules_New_1 (x0 x1 x2 x3 x4 x5 x6 x7 : D) : Eng.Fn := loopF fun g xs => evalP FX B_rules_New_1 ([] ++ [g]) ([x0, x1, x2, x3, x4, x5, x6, x7] ++ xs)
theorem W_rules_New_1_eq (x0 x1 x2 x3 x4 x5 x6 x7 : D) (a0 : D) : W_rules_New_1 x0 x1 x2 x3 x4 x5 x6 x7 [a0] =
  if (decide ((a0).toInt < (((x7).toL).length : Int))) = true then
  if (decide ((a0).toInt ≥ (0 : Int))) = true then
    if (decide ((a0).toInt < (((x7).toL).length : Int))) = true then
      if (decide ((((((((x7).toL).getD ((a0).toInt).toNat D.nil)).toL).getD 1 D.nil)).toInt < (((((((x7).toL).getD ((a0).toInt).toNat D.nil)).toL).getD 2 D.nil)).toInt)) = true then
        bindC (FX 27 [((((((x7).toL).getD ((a0).toInt).toNat D.nil)).toL).getD 0 D.nil), (D.iface 56 (D.int (5 : Int)))]) 1 fun r9 =>
          bindC (FX 26 [a0, (r9.getD 0 D.nil)]) 1 fun r10 =>
          some [(D.int (0 : Int)), (D.int (0 : Int)), (D.int (0 : Int)), (D.int (0 : Int)), (D.int (0 : Int)), (D.int (0 : Int)), (D.int (0 : Int)), (r10.getD 0 D.nil)]
        else
        if (decide ((((((((x7).toL).getD ((a0).toInt).toNat D.nil)).toL).getD 1 D.nil)).toInt > (((((((x7).toL).getD ((a0).toInt).toNat D.nil)).toL).getD 3 D.nil)).toInt)) = true then
          bindC (FX 27 [((((((x7).toL).getD ((a0).toInt).toNat D.nil)).toL).getD 0 D.nil), (D.iface 56 (D.int (5 : Int)))]) 1 fun r9 =>
            bindC (FX 26 [a0, (r9.getD 0 D.nil)]) 1 fun r10 =>
            some [(D.int (0 : Int)), (D.int (0 : Int)), (D.int (0 : Int)), (D.int (0 : Int)), (D.int (0 : Int)), (D.int (0 : Int)), (D.int (0 : Int)), (r10.getD 0 D.nil)]
          else
          (W_rules_New_1 x0 x1 x2 x3 x4 x5 x6 x7) [(D.int (IntKind.i64.wrap ((a0).toInt + (1 : Int))))]
      else none
    else none
  else
  some [x0, x1, x2, x3, x4, x5, x6, D.nil] := (loopP_eq FX B_rules_New_1 [] [x0, x1, x2, x3, x4, x5, x6, x7] _).trans (by kernel_rfl)
theorem E_rules_New (x0 x1 x2 x3 x4 x5 x6 : D) : FX 7 [x0, x1, x2, x3, x4, x5, x6] =
  bindC (FX 25 [x0, x1, x2, x3, x4, x5, x6]) 1 fun r7 =>
  W_rules_New_1 x0 x1 x2 x3 x4 x5 x6 (r7.getD 0 D.nil) [(D.int (0 : Int))] := (fixP_eq (t := T_rules_New) (by rfl) _).trans (by kernel_rfl)
theorem E_rules_Rules_Cell (x0 x1 x2 x3 x4 x5 x6 x7 x8 : D) : FX 28 [x0, x1, x2, x3, x4, x5, x6, x7, x8] =
  if (decide ((x7).toInt < (0 : Int))) = true then
  some [(D.int (-1 : Int))]
  else
  if (decide ((x7).toInt ≥ (x0).toInt)) = true then
    some [(D.int (-1 : Int))]
    else
    if (decide ((x8).toInt < (0 : Int))) = true then
      some [(D.int (-1 : Int))]
      else
      if (decide ((x8).toInt ≥ (x1).toInt)) = true then
        some [(D.int (-1 : Int))]
        else
        some [(D.int (IntKind.i64.wrap ((IntKind.i64.wrap ((x7).toInt * (x1).toInt)) + (x8).toInt)))] := (fixP_eq (t := T_rules_Rules_Cell) (by rfl) _).trans (by kernel_rfl)
theorem E_rules_Rules_All (x0 x1 x2 x3 x4 x5 x6 : D) : FX 30 [x0, x1, x2, x3, x4, x5, x6] =
  some [(D.int (IntKind.i64.wrap ((x0).toInt * (x1).toInt)))] := (fixP_eq (t := T_rules_Rules_All) (by rfl) _).trans (by kernel_rfl)
theorem E_rules_Rules_Owner (x0 x1 x2 x3 x4 x5 x6 x7 : D) : FX 29 [x0, x1, x2, x3, x4, x5, x6, x7] =
  if (decide ((x7).toInt < (0 : Int))) = true then
  some [(D.int (-1 : Int))]
  else
  bindC (FX 30 [x0, x1, x2, x3, x4, x5, x6]) 1 fun r8 =>
    if (decide ((x7).toInt ≥ ((r8.getD 0 D.nil)).toInt)) = true then
    some [(D.int (-1 : Int))]
    else
    if ((x1).toInt != (0 : Int)) = true then
      some [(D.int (IntKind.i64.wrap (Int.tdiv (x7).toInt (x1).toInt)))]
      else none := (fixP_eq (t := T_rules_Rules_Owner) (by rfl) _).trans (by kernel_rfl)
theorem E_law05_awake : FX 9 [] =
  bindC (FX 7 [(D.int (2 : Int)), (D.int (3 : Int)), (D.int (1 : Int)), (D.int (1 : Int)), (D.int (0 : Int)), (D.int (1 : Int)), (D.int (1 : Int))]) 8 fun r0 =>
  if ((r0.getD 7 D.nil)).isNil = true then
  bindC (FX 28 [(r0.getD 0 D.nil), (r0.getD 1 D.nil), (r0.getD 2 D.nil), (r0.getD 3 D.nil), (r0.getD 4 D.nil), (r0.getD 5 D.nil), (r0.getD 6 D.nil), (D.int (1 : Int)), (D.int (2 : Int))]) 1 fun r8 =>
    if (((r8.getD 0 D.nil)).toInt == (5 : Int)) = true then
    bindC (FX 29 [(r0.getD 0 D.nil), (r0.getD 1 D.nil), (r0.getD 2 D.nil), (r0.getD 3 D.nil), (r0.getD 4 D.nil), (r0.getD 5 D.nil), (r0.getD 6 D.nil), (D.int (5 : Int))]) 1 fun r9 =>
      some [(D.bool (((r9.getD 0 D.nil)).toInt == (1 : Int)))]
    else
    some [(D.bool false)]
  else
  some [(D.bool false)] := (fixP_eq (t := T_law05_awake) (by rfl) _).trans (by kernel_rfl)
theorem E_rules_Rules_Shards (x0 x1 x2 x3 x4 x5 x6 : D) : FX 15 [x0, x1, x2, x3, x4, x5, x6] =
  some [(D.int (IntKind.i64.wrap ((x2).toInt * (x3).toInt)))] := (fixP_eq (t := T_rules_Rules_Shards) (by rfl) _).trans (by kernel_rfl)
theorem E_rules_Rules_Sweeper (x0 x1 x2 x3 x4 x5 x6 x7 : D) : FX 16 [x0, x1, x2, x3, x4, x5, x6, x7] =
  if (decide ((x7).toInt < (0 : Int))) = true then
  some [(D.int (-1 : Int))]
  else
  bindC (FX 15 [x0, x1, x2, x3, x4, x5, x6]) 1 fun r8 =>
    if (decide ((x7).toInt ≥ ((r8.getD 0 D.nil)).toInt)) = true then
    some [(D.int (-1 : Int))]
    else
    some [(D.int (IntKind.i64.wrap ((x0).toInt + (x7).toInt)))] := (fixP_eq (t := T_rules_Rules_Sweeper) (by rfl) _).trans (by kernel_rfl)
theorem E_rules_Rules_Reaper (x0 x1 x2 x3 x4 x5 x6 x7 : D) : FX 17 [x0, x1, x2, x3, x4, x5, x6, x7] =
  if (decide ((x7).toInt < (0 : Int))) = true then
  some [(D.int (-1 : Int))]
  else
  bindC (FX 15 [x0, x1, x2, x3, x4, x5, x6]) 1 fun r8 =>
    if (decide ((x7).toInt ≥ ((r8.getD 0 D.nil)).toInt)) = true then
    some [(D.int (-1 : Int))]
    else
    bindC (FX 15 [x0, x1, x2, x3, x4, x5, x6]) 1 fun r9 =>
      some [(D.int (IntKind.i64.wrap ((IntKind.i64.wrap ((x0).toInt + ((r9.getD 0 D.nil)).toInt)) + (x7).toInt)))] := (fixP_eq (t := T_rules_Rules_Reaper) (by rfl) _).trans (by kernel_rfl)
theorem E_rules_Rules_Agents (x0 x1 x2 x3 x4 x5 x6 : D) : FX 18 [x0, x1, x2, x3, x4, x5, x6] =
  bindC (FX 15 [x0, x1, x2, x3, x4, x5, x6]) 1 fun r7 =>
  some [(D.int (IntKind.i64.wrap ((x0).toInt + (IntKind.i64.wrap ((2 : Int) * ((r7.getD 0 D.nil)).toInt)))))] := (fixP_eq (t := T_rules_Rules_Agents) (by rfl) _).trans (by kernel_rfl)
noncomputable def W_law05_RulesAgents_3 (x0 x1 x2 x3 x4 x5 x6 x7 x8 x9 x10 x11 x12 x13 x14 x15 x16 x17 x18 x19 x20 : D) (g0 g1 : Eng.Fn) : Eng.Fn := loopF fun g xs => evalP FX B_law05_RulesAgents_3 ([g0, g1] ++ [g]) ([x0, x1, x2, x3, x4, x5, x6, x7, x8, x9, x10, x11, x12, x13, x14, x15, x16, x17, x18, x19, x20] ++ xs)
theorem W_law05_RulesAgents_3_eq (x0 x1 x2 x3 x4 x5 x6 x7 x8 x9 x10 x11 x12 x13 x14 x15 x16 x17 x18 x19 x20 : D) (g0 g1 : Eng.Fn) (a0 : D) : W_law05_RulesAgents_3 x0 x1 x2 x3 x4 x5 x6 x7 x8 x9 x10 x11 x12 x13 x14 x15 x16 x17 x18 x19 x20 g0 g1 [a0] =
  if (decide ((a0).toInt < (x20).toInt)) = true then
  if (!((mgetD [0] (x19).toL a0 (D.bool false))).toBool) = true then
    some [(D.bool false)]
    else
    (W_law05_RulesAgents_3 x0 x1 x2 x3 x4 x5 x6 x7 x8 x9 x10 x11 x12 x13 x14 x15 x16 x17 x18 x19 x20 g0 g1) [(D.int (IntKind.i64.wrap ((a0).toInt + (1 : Int))))]
  else
  bindC (FX 9 []) 1 fun r22 =>
    if ((r22.getD 0 D.nil)).toBool = true then
    bindC (FX 18 [x7, x8, x9, x10, x11, x12, x13]) 1 fun r23 =>
      if ((((x19).toL).length : Int) == ((r23.getD 0 D.nil)).toInt) = true then
      bindC (FX 15 [x7, x8, x9, x10, x11, x12, x13]) 1 fun r24 =>
        some [(D.bool ((((x19).toL).length : Int) == (IntKind.i64.wrap ((x0).toInt + (IntKind.i64.wrap ((2 : Int) * ((r24.getD 0 D.nil)).toInt))))))]
      else
      some [(D.bool false)]
    else
    some [(D.bool false)] := (loopP_eq FX B_law05_RulesAgents_3 [g0, g1] [x0, x1, x2, x3, x4, x5, x6, x7, x8, x9, x10, x11, x12, x13, x14, x15, x16, x17, x18, x19, x20] _).trans (by kernel_rfl)
noncomputable def W_law05_RulesAgents_2 (x0 x1 x2 x3 x4 x5 x6 x7 x8 x9 x10 x11 x12 x13 x14 x15 x16 x17 : D) (g0 : Eng.Fn) : Eng.Fn := loopF fun g xs => evalP FX B_law05_RulesAgents_2 ([g0] ++ [g]) ([x0, x1, x2, x3, x4, x5, x6, x7, x8, x9, x10, x11, x12, x13, x14, x15, x16, x17] ++ xs)
theorem W_law05_RulesAgents_2_eq (x0 x1 x2 x3 x4 x5 x6 x7 x8 x9 x10 x11 x12 x13 x14 x15 x16 x17 : D) (g0 : Eng.Fn) (a0 a1 : D) : W_law05_RulesAgents_2 x0 x1 x2 x3 x4 x5 x6 x7 x8 x9 x10 x11 x12 x13 x14 x15 x16 x17 g0 [a0, a1] =
  if (decide ((a0).toInt < (x17).toInt)) = true then
  bindC (FX 16 [x7, x8, x9, x10, x11, x12, x13, a0]) 1 fun r20 =>
    bindC (FX 17 [x7, x8, x9, x10, x11, x12, x13, a0]) 1 fun r21 =>
    (W_law05_RulesAgents_2 x0 x1 x2 x3 x4 x5 x6 x7 x8 x9 x10 x11 x12 x13 x14 x15 x16 x17 g0) [(D.int (IntKind.i64.wrap ((a0).toInt + (1 : Int)))), (D.agg (mputD [0] (mputD [0] (a1).toL (r20.getD 0 D.nil) (D.bool true)) (r21.getD 0 D.nil) (D.bool true)))]
  else
  bindC (FX 18 [x7, x8, x9, x10, x11, x12, x13]) 1 fun r20 =>
    W_law05_RulesAgents_3 x0 x1 x2 x3 x4 x5 x6 x7 x8 x9 x10 x11 x12 x13 x14 x15 x16 x17 a0 a1 (r20.getD 0 D.nil) g0 ((W_law05_RulesAgents_2 x0 x1 x2 x3 x4 x5 x6 x7 x8 x9 x10 x11 x12 x13 x14 x15 x16 x17 g0)) [(D.int (0 : Int))] := (loopP_eq FX B_law05_RulesAgents_2 [g0] [x0, x1, x2, x3, x4, x5, x6, x7, x8, x9, x10, x11, x12, x13, x14, x15, x16, x17] _).trans (by kernel_rfl)
noncomputable def W_law05_RulesAgents_1 (x0 x1 x2 x3 x4 x5 x6 x7 x8 x9 x10 x11 x12 x13 x14 : D) : Eng.Fn := loopF fun g xs => evalP FX B_law05_RulesAgents_1 ([] ++ [g]) ([x0, x1, x2, x3, x4, x5, x6, x7, x8, x9, x10, x11, x12, x13, x14] ++ xs)
theorem W_law05_RulesAgents_1_eq (x0 x1 x2 x3 x4 x5 x6 x7 x8 x9 x10 x11 x12 x13 x14 : D) (a0 a1 : D) : W_law05_RulesAgents_1 x0 x1 x2 x3 x4 x5 x6 x7 x8 x9 x10 x11 x12 x13 x14 [a0, a1] =
  if (decide ((a0).toInt < (x0).toInt)) = true then
  (W_law05_RulesAgents_1 x0 x1 x2 x3 x4 x5 x6 x7 x8 x9 x10 x11 x12 x13 x14) [(D.int (IntKind.i64.wrap ((a0).toInt + (1 : Int)))), (D.agg (mputD [0] (a1).toL a0 (D.bool true)))]
  else
  bindC (FX 15 [x7, x8, x9, x10, x11, x12, x13]) 1 fun r17 =>
    W_law05_RulesAgents_2 x0 x1 x2 x3 x4 x5 x6 x7 x8 x9 x10 x11 x12 x13 x14 a0 a1 (r17.getD 0 D.nil) ((W_law05_RulesAgents_1 x0 x1 x2 x3 x4 x5 x6 x7 x8 x9 x10 x11 x12 x13 x14)) [(D.int (0 : Int)), a1] := (loopP_eq FX B_law05_RulesAgents_1 [] [x0, x1, x2, x3, x4, x5, x6, x7, x8, x9, x10, x11, x12, x13, x14] _).trans (by kernel_rfl)
theorem E_law05_RulesAgents (x0 x1 x2 x3 x4 x5 x6 : D) : FX 4 [x0, x1, x2, x3, x4, x5, x6] =
  bindC (FX 7 [x0, x1, x2, x3, x4, x5, x6]) 8 fun r7 =>
  if (!((r7.getD 7 D.nil)).isNil) = true then
  bindC (FX 9 []) 1 fun r15 =>
    some [(r15.getD 0 D.nil)]
  else
  W_law05_RulesAgents_1 x0 x1 x2 x3 x4 x5 x6 (r7.getD 0 D.nil) (r7.getD 1 D.nil) (r7.getD 2 D.nil) (r7.getD 3 D.nil) (r7.getD 4 D.nil) (r7.getD 5 D.nil) (r7.getD 6 D.nil) (r7.getD 7 D.nil) [(D.int (0 : Int)), (D.agg [])] := (fixP_eq (t := T_law05_RulesAgents) (by rfl) _).trans (by kernel_rfl)
end Go.Proofs.Ytifghdombpcpjaa
