/-
  The functions, as equations.
-/
import Derived.Test.YtifghdombpcpjaaDoorAll
namespace Go.Proofs.YtifghdombpcpjaaDoor
open Go.Proofs.YtifghdombpcpjaaDoor.Eng
set_option linter.unusedVariables false
set_option maxRecDepth 20000
theorem E_rules_limits (x0 x1 x2 x3 x4 x5 x6 : D) : FX 23 [x0, x1, x2, x3, x4, x5, x6] =
  some [(D.agg ((D.agg ((D.str ((.mk #[112, 97, 114, 116, 115]))) :: (x0 :: ((D.int (1 : Int)) :: ((D.int (6 : Int)) :: []))))) :: ((D.agg ((D.str ((.mk #[99, 101, 108, 108, 115]))) :: (x1 :: ((D.int (1 : Int)) :: ((D.int (4 : Int)) :: []))))) :: ((D.agg ((D.str ((.mk #[110, 97, 109, 101, 115]))) :: (x2 :: ((D.int (1 : Int)) :: ((D.int (3 : Int)) :: []))))) :: ((D.agg ((D.str ((.mk #[98, 97, 110, 100, 115]))) :: (x3 :: ((D.int (1 : Int)) :: ((D.int (4 : Int)) :: []))))) :: ((D.agg ((D.str ((.mk #[112, 114, 111, 98, 101, 115]))) :: (x4 :: ((D.int (0 : Int)) :: ((D.int (4 : Int)) :: []))))) :: ((D.agg ((D.str ((.mk #[102, 105, 108, 108, 115]))) :: (x5 :: ((D.int (1 : Int)) :: ((D.int (4 : Int)) :: []))))) :: ((D.agg ((D.str ((.mk #[103, 101, 110, 115]))) :: (x6 :: ((D.int (1 : Int)) :: ((D.int (15 : Int)) :: []))))) :: []))))))))] := (fixP_eq (t := T_rules_limits) (by rfl) _).trans (by kernel_rfl)
theorem E_fault_At (x0 x1 : D) : FX 24 [x0, x1] =
  if (x1).isNil = true then
  some [D.nil]
  else
  some [(D.iface 54 (D.agg (x0 :: (x1 :: []))))] := (fixP_eq (t := T_fault_At) (by rfl) _).trans (by kernel_rfl)
theorem E_fault_With (x0 x1 : D) : FX 25 [x0, x1] =
  if (x1).isNil = true then
  some [D.nil]
  else
  some [(D.iface 59 (D.agg (x0 :: (x1 :: []))))] := (fixP_eq (t := T_fault_With) (by rfl) _).trans (by kernel_rfl)
noncomputable def W_rules_New_1 (x0 x1 x2 x3 x4 x5 x6 x7 : D) : Eng.Fn := loopF fun g xs => evalP FX B_rules_New_1 ([] ++ [g]) ([x0, x1, x2, x3, x4, x5, x6, x7] ++ xs)
theorem W_rules_New_1_eq (x0 x1 x2 x3 x4 x5 x6 x7 : D) (a0 : D) : W_rules_New_1 x0 x1 x2 x3 x4 x5 x6 x7 [a0] =
  if (decide ((a0).toInt < (((x7).toL).length : Int))) = true then
  if (decide ((a0).toInt ≥ (0 : Int))) = true then
    if (decide ((a0).toInt < (((x7).toL).length : Int))) = true then
      if (decide ((((((((x7).toL).getD ((a0).toInt).toNat D.nil)).toL).getD 1 D.nil)).toInt < (((((((x7).toL).getD ((a0).toInt).toNat D.nil)).toL).getD 2 D.nil)).toInt)) = true then
        bindC (FX 25 [((((((x7).toL).getD ((a0).toInt).toNat D.nil)).toL).getD 0 D.nil), (D.iface 52 (D.int (5 : Int)))]) 1 fun r9 =>
          bindC (FX 24 [a0, (r9.getD 0 D.nil)]) 1 fun r10 =>
          some [(D.int (0 : Int)), (D.int (0 : Int)), (D.int (0 : Int)), (D.int (0 : Int)), (D.int (0 : Int)), (D.int (0 : Int)), (D.int (0 : Int)), (r10.getD 0 D.nil)]
        else
        if (decide ((((((((x7).toL).getD ((a0).toInt).toNat D.nil)).toL).getD 1 D.nil)).toInt > (((((((x7).toL).getD ((a0).toInt).toNat D.nil)).toL).getD 3 D.nil)).toInt)) = true then
          bindC (FX 25 [((((((x7).toL).getD ((a0).toInt).toNat D.nil)).toL).getD 0 D.nil), (D.iface 52 (D.int (5 : Int)))]) 1 fun r9 =>
            bindC (FX 24 [a0, (r9.getD 0 D.nil)]) 1 fun r10 =>
            some [(D.int (0 : Int)), (D.int (0 : Int)), (D.int (0 : Int)), (D.int (0 : Int)), (D.int (0 : Int)), (D.int (0 : Int)), (D.int (0 : Int)), (r10.getD 0 D.nil)]
          else
          (W_rules_New_1 x0 x1 x2 x3 x4 x5 x6 x7) [(D.int (IntKind.i64.wrap ((a0).toInt + (1 : Int))))]
      else none
    else none
  else
  some [x0, x1, x2, x3, x4, x5, x6, D.nil] := (loopP_eq FX B_rules_New_1 [] [x0, x1, x2, x3, x4, x5, x6, x7] _).trans (by kernel_rfl)
theorem E_rules_New (x0 x1 x2 x3 x4 x5 x6 : D) : FX 4 [x0, x1, x2, x3, x4, x5, x6] =
  bindC (FX 23 [x0, x1, x2, x3, x4, x5, x6]) 1 fun r7 =>
  W_rules_New_1 x0 x1 x2 x3 x4 x5 x6 (r7.getD 0 D.nil) [(D.int (0 : Int))] := (fixP_eq (t := T_rules_New) (by rfl) _).trans (by kernel_rfl)
noncomputable def W_ref05_Check_1 (x0 x1 x2 x3 x4 x5 x6 : D) : Eng.Fn := loopF fun g xs => evalP FX B_ref05_Check_1 ([] ++ [g]) ([x0, x1, x2, x3, x4, x5, x6] ++ xs)
theorem W_ref05_Check_1_eq (x0 x1 x2 x3 x4 x5 x6 : D) (a0 : D) : W_ref05_Check_1 x0 x1 x2 x3 x4 x5 x6 [a0] =
  if (decide ((a0).toInt < (((x0 :: (x1 :: (x2 :: (x3 :: (x4 :: (x5 :: (x6 :: [])))))))).length : Int))) = true then
  if (decide ((a0).toInt ≥ (0 : Int))) = true then
    if (decide ((a0).toInt < (((x0 :: (x1 :: (x2 :: (x3 :: (x4 :: (x5 :: (x6 :: [])))))))).length : Int))) = true then
      if (decide ((a0).toInt ≥ (0 : Int))) = true then
        if (decide ((a0).toInt < ((((D.int (1 : Int)) :: ((D.int (1 : Int)) :: ((D.int (1 : Int)) :: ((D.int (1 : Int)) :: ((D.int (0 : Int)) :: ((D.int (1 : Int)) :: ((D.int (1 : Int)) :: [])))))))).length : Int))) = true then
          if (decide (((((x0 :: (x1 :: (x2 :: (x3 :: (x4 :: (x5 :: (x6 :: [])))))))).getD ((a0).toInt).toNat D.nil)).toInt < (((((D.int (1 : Int)) :: ((D.int (1 : Int)) :: ((D.int (1 : Int)) :: ((D.int (1 : Int)) :: ((D.int (0 : Int)) :: ((D.int (1 : Int)) :: ((D.int (1 : Int)) :: [])))))))).getD ((a0).toInt).toNat D.nil)).toInt)) = true then
            some [a0]
            else
            if (decide ((a0).toInt ≥ (0 : Int))) = true then
              if (decide ((a0).toInt < (((x0 :: (x1 :: (x2 :: (x3 :: (x4 :: (x5 :: (x6 :: [])))))))).length : Int))) = true then
                if (decide ((a0).toInt ≥ (0 : Int))) = true then
                  if (decide ((a0).toInt < ((((D.int (6 : Int)) :: ((D.int (4 : Int)) :: ((D.int (3 : Int)) :: ((D.int (4 : Int)) :: ((D.int (4 : Int)) :: ((D.int (4 : Int)) :: ((D.int (15 : Int)) :: [])))))))).length : Int))) = true then
                    if (decide (((((x0 :: (x1 :: (x2 :: (x3 :: (x4 :: (x5 :: (x6 :: [])))))))).getD ((a0).toInt).toNat D.nil)).toInt > (((((D.int (6 : Int)) :: ((D.int (4 : Int)) :: ((D.int (3 : Int)) :: ((D.int (4 : Int)) :: ((D.int (4 : Int)) :: ((D.int (4 : Int)) :: ((D.int (15 : Int)) :: [])))))))).getD ((a0).toInt).toNat D.nil)).toInt)) = true then
                      some [a0]
                      else
                      (W_ref05_Check_1 x0 x1 x2 x3 x4 x5 x6) [(D.int (IntKind.i64.wrap ((a0).toInt + (1 : Int))))]
                    else none
                  else none
                else none
              else none
          else none
        else none
      else none
    else none
  else
  some [(D.int (-1 : Int))] := (loopP_eq FX B_ref05_Check_1 [] [x0, x1, x2, x3, x4, x5, x6] _).trans (by kernel_rfl)
theorem E_ref05_Check (x0 x1 x2 x3 x4 x5 x6 : D) : FX 5 [x0, x1, x2, x3, x4, x5, x6] =
  W_ref05_Check_1 x0 x1 x2 x3 x4 x5 x6 [(D.int (0 : Int))] := (fixP_eq (t := T_ref05_Check) (by rfl) _).trans (by kernel_rfl)
theorem E_fault_Place (x0 x1 : D) : FX 6 [x0, x1] =
  bindC (FX 26 [x0, (D.iface 56 (D.int (((x1).toL).length : Int))), (D.agg ((x1).toL ++ ((D.agg (D.nil :: [])) :: [])))]) 2 fun r2 =>
  if ((r2.getD 0 D.nil)).toBool = true then
  if (!((((((((r2.getD 1 D.nil)).toL).getD ((((x1).toL).length : Int)).toNat D.nil)).toL).getD 0 D.nil)).isNil) = true then
    if (!((((((((r2.getD 1 D.nil)).toL).getD ((((x1).toL).length : Int)).toNat D.nil)).toL).getD 0 D.nil)).isNil) = true then
      some [((((((((((r2.getD 1 D.nil)).toL).getD ((((x1).toL).length : Int)).toNat D.nil)).toL).getD 0 D.nil)).toL).getD 0 D.nil), (D.bool true), (r2.getD 1 D.nil)]
      else none
    else
    some [(D.int (0 : Int)), (D.bool false), (r2.getD 1 D.nil)]
  else
  some [(D.int (0 : Int)), (D.bool false), (r2.getD 1 D.nil)] := (fixP_eq (t := T_fault_Place) (by rfl) _).trans (by kernel_rfl)
noncomputable def W_fault_Words_1 (x0 x1 : D) : Eng.Fn := loopF fun g xs => evalP FX B_fault_Words_1 ([] ++ [g]) ([x0, x1] ++ xs)
theorem W_fault_Words_1_eq (x0 x1 : D) (a0 a1 a2 a3 : D) : W_fault_Words_1 x0 x1 [a0, a1, a2, a3] =
  bindC (FX 26 [a0, (D.iface 60 a1), a3]) 2 fun r6 =>
  if ((r6.getD 0 D.nil)).toBool = true then
  if (!(a1).isNil) = true then
    if (!((((((((r6.getD 1 D.nil)).toL).getD ((a1).toInt).toNat D.nil)).toL).getD 0 D.nil)).isNil) = true then
      if (!(a1).isNil) = true then
        if (!((((((((r6.getD 1 D.nil)).toL).getD ((a1).toInt).toNat D.nil)).toL).getD 0 D.nil)).isNil) = true then
          if (decide (((((a2).toL ++ (((((((((((r6.getD 1 D.nil)).toL).getD ((a1).toInt).toNat D.nil)).toL).getD 0 D.nil)).toL).getD 0 D.nil) :: []))).length : Int) ≤ (8796093022208 : Int))) = true then
            if (!(a1).isNil) = true then
              if (!((((((((r6.getD 1 D.nil)).toL).getD ((a1).toInt).toNat D.nil)).toL).getD 0 D.nil)).isNil) = true then
                (W_fault_Words_1 x0 x1) [((((((((((r6.getD 1 D.nil)).toL).getD ((a1).toInt).toNat D.nil)).toL).getD 0 D.nil)).toL).getD 1 D.nil), (D.int ((((r6.getD 1 D.nil)).toL).length : Int)), (D.agg ((a2).toL ++ (((((((((((r6.getD 1 D.nil)).toL).getD ((a1).toInt).toNat D.nil)).toL).getD 0 D.nil)).toL).getD 0 D.nil) :: []))), (D.agg (((r6.getD 1 D.nil)).toL ++ ((D.agg ((((((((r6.getD 1 D.nil)).toL).getD ((a1).toInt).toNat D.nil)).toL).getD 0 D.nil) :: [])) :: [])))]
                else none
              else none
            else none
          else none
        else none
      else
      some [a2, (r6.getD 1 D.nil)]
    else none
  else
  some [a2, (r6.getD 1 D.nil)] := (loopP_eq FX B_fault_Words_1 [] [x0, x1] _).trans (by kernel_rfl)
theorem E_fault_Words (x0 x1 : D) : FX 7 [x0, x1] =
  W_fault_Words_1 x0 x1 [x0, (D.int (((x1).toL).length : Int)), (D.agg []), (D.agg ((x1).toL ++ ((D.agg (D.nil :: [])) :: [])))] := (fixP_eq (t := T_fault_Words) (by rfl) _).trans (by kernel_rfl)
theorem E_rules_Rules_All (x0 x1 x2 x3 x4 x5 x6 : D) : FX 11 [x0, x1, x2, x3, x4, x5, x6] =
  some [(D.int (IntKind.i64.wrap ((x0).toInt * (x1).toInt)))] := (fixP_eq (t := T_rules_Rules_All) (by rfl) _).trans (by kernel_rfl)
theorem E_rules_Rules_Owner (x0 x1 x2 x3 x4 x5 x6 x7 : D) : FX 16 [x0, x1, x2, x3, x4, x5, x6, x7] =
  if (decide ((x7).toInt < (0 : Int))) = true then
  some [(D.int (-1 : Int))]
  else
  bindC (FX 11 [x0, x1, x2, x3, x4, x5, x6]) 1 fun r8 =>
    if (decide ((x7).toInt ≥ ((r8.getD 0 D.nil)).toInt)) = true then
    some [(D.int (-1 : Int))]
    else
    if ((x1).toInt != (0 : Int)) = true then
      some [(D.int (IntKind.i64.wrap (Int.tdiv (x7).toInt (x1).toInt)))]
      else none := (fixP_eq (t := T_rules_Rules_Owner) (by rfl) _).trans (by kernel_rfl)
theorem E_rules_Rules_Cell (x0 x1 x2 x3 x4 x5 x6 x7 x8 : D) : FX 21 [x0, x1, x2, x3, x4, x5, x6, x7, x8] =
  if (decide ((x7).toInt < (0 : Int))) = true then
  some [(D.int (-1 : Int))]
  else
  if (decide ((x7).toInt ≥ (x0).toInt)) = true then
    some [(D.int (-1 : Int))]
    else
    if (decide ((x8).toInt < (0 : Int))) = true then
      some [(D.int (-1 : Int))]
      else
      if (decide ((x8).toInt ≥ (x1).toInt)) = true then
        some [(D.int (-1 : Int))]
        else
        some [(D.int (IntKind.i64.wrap ((IntKind.i64.wrap ((x7).toInt * (x1).toInt)) + (x8).toInt)))] := (fixP_eq (t := T_rules_Rules_Cell) (by rfl) _).trans (by kernel_rfl)
theorem E_law05_awake : FX 8 [] =
  bindC (FX 4 [(D.int (2 : Int)), (D.int (3 : Int)), (D.int (1 : Int)), (D.int (1 : Int)), (D.int (0 : Int)), (D.int (1 : Int)), (D.int (1 : Int))]) 8 fun r0 =>
  if ((r0.getD 7 D.nil)).isNil = true then
  bindC (FX 21 [(r0.getD 0 D.nil), (r0.getD 1 D.nil), (r0.getD 2 D.nil), (r0.getD 3 D.nil), (r0.getD 4 D.nil), (r0.getD 5 D.nil), (r0.getD 6 D.nil), (D.int (1 : Int)), (D.int (2 : Int))]) 1 fun r8 =>
    if (((r8.getD 0 D.nil)).toInt == (5 : Int)) = true then
    bindC (FX 16 [(r0.getD 0 D.nil), (r0.getD 1 D.nil), (r0.getD 2 D.nil), (r0.getD 3 D.nil), (r0.getD 4 D.nil), (r0.getD 5 D.nil), (r0.getD 6 D.nil), (D.int (5 : Int))]) 1 fun r9 =>
      some [(D.bool (((r9.getD 0 D.nil)).toInt == (1 : Int)))]
    else
    some [(D.bool false)]
  else
  some [(D.bool false)] := (fixP_eq (t := T_law05_awake) (by rfl) _).trans (by kernel_rfl)
noncomputable def W_law01_Num_1 (x0 : D) : Eng.Fn := loopF fun g xs => evalP FX B_law01_Num_1 ([] ++ [g]) ([x0] ++ xs)
theorem W_law01_Num_1_eq (x0 : D) (a0 : D) : W_law01_Num_1 x0 [a0] =
  if (decide ((a0).toInt < (30 : Int))) = true then
  bindC (FX 27 [x0, (D.iface 52 a0)]) 1 fun r2 =>
    if ((r2.getD 0 D.nil)).toBool = true then
    some [a0]
    else
    (W_law01_Num_1 x0) [(D.int (IntKind.i64.wrap ((a0).toInt + (1 : Int))))]
  else
  some [(D.int (-1 : Int))] := (loopP_eq FX B_law01_Num_1 [] [x0] _).trans (by kernel_rfl)
theorem E_law01_Num (x0 : D) : FX 9 [x0] =
  if (x0).isNil = true then
  some [(D.int (0 : Int))]
  else
  W_law01_Num_1 x0 [(D.int (1 : Int))] := (fixP_eq (t := T_law01_Num) (by rfl) _).trans (by kernel_rfl)
theorem E_ref05_Word (x0 : D) : FX 10 [x0] =
  if (decide ((x0).toInt ≥ (0 : Int))) = true then
  if (decide ((x0).toInt < ((((D.str ((.mk #[112, 97, 114, 116, 115]))) :: ((D.str ((.mk #[99, 101, 108, 108, 115]))) :: ((D.str ((.mk #[110, 97, 109, 101, 115]))) :: ((D.str ((.mk #[98, 97, 110, 100, 115]))) :: ((D.str ((.mk #[112, 114, 111, 98, 101, 115]))) :: ((D.str ((.mk #[102, 105, 108, 108, 115]))) :: ((D.str ((.mk #[103, 101, 110, 115]))) :: [])))))))).length : Int))) = true then
    some [((((D.str ((.mk #[112, 97, 114, 116, 115]))) :: ((D.str ((.mk #[99, 101, 108, 108, 115]))) :: ((D.str ((.mk #[110, 97, 109, 101, 115]))) :: ((D.str ((.mk #[98, 97, 110, 100, 115]))) :: ((D.str ((.mk #[112, 114, 111, 98, 101, 115]))) :: ((D.str ((.mk #[102, 105, 108, 108, 115]))) :: ((D.str ((.mk #[103, 101, 110, 115]))) :: [])))))))).getD ((x0).toInt).toNat D.nil)]
    else none
  else none := (fixP_eq (t := T_ref05_Word) (by rfl) _).trans (by kernel_rfl)
theorem E_rules_Rules_Shards (x0 x1 x2 x3 x4 x5 x6 : D) : FX 12 [x0, x1, x2, x3, x4, x5, x6] =
  some [(D.int (IntKind.i64.wrap ((x2).toInt * (x3).toInt)))] := (fixP_eq (t := T_rules_Rules_Shards) (by rfl) _).trans (by kernel_rfl)
theorem E_rules_Rules_Agents (x0 x1 x2 x3 x4 x5 x6 : D) : FX 13 [x0, x1, x2, x3, x4, x5, x6] =
  bindC (FX 12 [x0, x1, x2, x3, x4, x5, x6]) 1 fun r7 =>
  some [(D.int (IntKind.i64.wrap ((x0).toInt + (IntKind.i64.wrap ((2 : Int) * ((r7.getD 0 D.nil)).toInt)))))] := (fixP_eq (t := T_rules_Rules_Agents) (by rfl) _).trans (by kernel_rfl)
theorem E_rules_Rules_Words (x0 x1 x2 x3 x4 x5 x6 : D) : FX 14 [x0, x1, x2, x3, x4, x5, x6] =
  bindC (FX 11 [x0, x1, x2, x3, x4, x5, x6]) 1 fun r7 =>
  bindC (FX 11 [x0, x1, x2, x3, x4, x5, x6]) 1 fun r8 =>
  some [(D.int (IntKind.i64.wrap ((IntKind.i64.wrap (((r7.getD 0 D.nil)).toInt * (2 : Int))) + (IntKind.i64.wrap ((IntKind.i64.wrap (((r8.getD 0 D.nil)).toInt * (x6).toInt)) * (IntKind.i64.wrap ((x5).toInt + (1 : Int))))))))] := (fixP_eq (t := T_rules_Rules_Words) (by rfl) _).trans (by kernel_rfl)
noncomputable def W_ref05_Places_4 (x0 x1 x2 x3 x4 x5 x6 x7 x8 x9 x10 x11 x12 : D) (g0 g1 g2 : Eng.Fn) : Eng.Fn := loopF fun g xs => evalP FX B_ref05_Places_4 ([g0, g1, g2] ++ [g]) ([x0, x1, x2, x3, x4, x5, x6, x7, x8, x9, x10, x11, x12] ++ xs)
theorem W_ref05_Places_4_eq (x0 x1 x2 x3 x4 x5 x6 x7 x8 x9 x10 x11 x12 : D) (g0 g1 g2 : Eng.Fn) (a0 a1 : D) : W_ref05_Places_4 x0 x1 x2 x3 x4 x5 x6 x7 x8 x9 x10 x11 x12 g0 g1 g2 [a0, a1] =
  if (decide ((a0).toInt ≤ (x5).toInt)) = true then
  if (decide (((((a1).toL ++ ((D.agg ((D.int (3 : Int)) :: (x9 :: (x11 :: (a0 :: []))))) :: []))).length : Int) ≤ (4398046511104 : Int))) = true then
    (W_ref05_Places_4 x0 x1 x2 x3 x4 x5 x6 x7 x8 x9 x10 x11 x12 g0 g1 g2) [(D.int (IntKind.i64.wrap ((a0).toInt + (1 : Int)))), (D.agg ((a1).toL ++ ((D.agg ((D.int (3 : Int)) :: (x9 :: (x11 :: (a0 :: []))))) :: [])))]
    else none
  else
  g2 [(D.int (IntKind.i64.wrap ((x11).toInt + (1 : Int)))), a1] := (loopP_eq FX B_ref05_Places_4 [g0, g1, g2] [x0, x1, x2, x3, x4, x5, x6, x7, x8, x9, x10, x11, x12] _).trans (by kernel_rfl)
noncomputable def W_ref05_Places_3 (x0 x1 x2 x3 x4 x5 x6 x7 x8 x9 x10 : D) (g0 g1 : Eng.Fn) : Eng.Fn := loopF fun g xs => evalP FX B_ref05_Places_3 ([g0, g1] ++ [g]) ([x0, x1, x2, x3, x4, x5, x6, x7, x8, x9, x10] ++ xs)
theorem W_ref05_Places_3_eq (x0 x1 x2 x3 x4 x5 x6 x7 x8 x9 x10 : D) (g0 g1 : Eng.Fn) (a0 a1 : D) : W_ref05_Places_3 x0 x1 x2 x3 x4 x5 x6 x7 x8 x9 x10 g0 g1 [a0, a1] =
  if (decide ((a0).toInt ≤ (x6).toInt)) = true then
  W_ref05_Places_4 x0 x1 x2 x3 x4 x5 x6 x7 x8 x9 x10 a0 a1 g0 g1 ((W_ref05_Places_3 x0 x1 x2 x3 x4 x5 x6 x7 x8 x9 x10 g0 g1)) [(D.int (0 : Int)), a1]
  else
  g1 [(D.int (IntKind.i64.wrap ((x9).toInt + (1 : Int)))), a1] := (loopP_eq FX B_ref05_Places_3 [g0, g1] [x0, x1, x2, x3, x4, x5, x6, x7, x8, x9, x10] _).trans (by kernel_rfl)
noncomputable def W_ref05_Places_2 (x0 x1 x2 x3 x4 x5 x6 x7 x8 : D) (g0 : Eng.Fn) : Eng.Fn := loopF fun g xs => evalP FX B_ref05_Places_2 ([g0] ++ [g]) ([x0, x1, x2, x3, x4, x5, x6, x7, x8] ++ xs)
theorem W_ref05_Places_2_eq (x0 x1 x2 x3 x4 x5 x6 x7 x8 : D) (g0 : Eng.Fn) (a0 a1 : D) : W_ref05_Places_2 x0 x1 x2 x3 x4 x5 x6 x7 x8 g0 [a0, a1] =
  if (decide ((a0).toInt < (IntKind.i64.wrap ((x0).toInt * (x1).toInt)))) = true then
  W_ref05_Places_3 x0 x1 x2 x3 x4 x5 x6 x7 x8 a0 a1 g0 ((W_ref05_Places_2 x0 x1 x2 x3 x4 x5 x6 x7 x8 g0)) [(D.int (1 : Int)), a1]
  else
  some [a1] := (loopP_eq FX B_ref05_Places_2 [g0] [x0, x1, x2, x3, x4, x5, x6, x7, x8] _).trans (by kernel_rfl)
noncomputable def W_ref05_Places_1 (x0 x1 x2 x3 x4 x5 x6 : D) : Eng.Fn := loopF fun g xs => evalP FX B_ref05_Places_1 ([] ++ [g]) ([x0, x1, x2, x3, x4, x5, x6] ++ xs)
theorem W_ref05_Places_1_eq (x0 x1 x2 x3 x4 x5 x6 : D) (a0 a1 : D) : W_ref05_Places_1 x0 x1 x2 x3 x4 x5 x6 [a0, a1] =
  if (decide ((a0).toInt < (IntKind.i64.wrap ((x0).toInt * (x1).toInt)))) = true then
  if (decide (((((a1).toL ++ ((D.agg ((D.int (1 : Int)) :: (a0 :: ((D.int (0 : Int)) :: ((D.int (0 : Int)) :: []))))) :: ((D.agg ((D.int (2 : Int)) :: (a0 :: ((D.int (0 : Int)) :: ((D.int (0 : Int)) :: []))))) :: [])))).length : Int) ≤ (4398046511104 : Int))) = true then
    (W_ref05_Places_1 x0 x1 x2 x3 x4 x5 x6) [(D.int (IntKind.i64.wrap ((a0).toInt + (1 : Int)))), (D.agg ((a1).toL ++ ((D.agg ((D.int (1 : Int)) :: (a0 :: ((D.int (0 : Int)) :: ((D.int (0 : Int)) :: []))))) :: ((D.agg ((D.int (2 : Int)) :: (a0 :: ((D.int (0 : Int)) :: ((D.int (0 : Int)) :: []))))) :: []))))]
    else none
  else
  W_ref05_Places_2 x0 x1 x2 x3 x4 x5 x6 a0 a1 ((W_ref05_Places_1 x0 x1 x2 x3 x4 x5 x6)) [(D.int (0 : Int)), a1] := (loopP_eq FX B_ref05_Places_1 [] [x0, x1, x2, x3, x4, x5, x6] _).trans (by kernel_rfl)
theorem E_ref05_Places (x0 x1 x2 x3 x4 x5 x6 : D) : FX 15 [x0, x1, x2, x3, x4, x5, x6] =
  W_ref05_Places_1 x0 x1 x2 x3 x4 x5 x6 [(D.int (0 : Int)), (D.agg [])] := (fixP_eq (t := T_ref05_Places) (by rfl) _).trans (by kernel_rfl)
theorem E_rules_Rules_Own (x0 x1 x2 x3 x4 x5 x6 x7 : D) : FX 17 [x0, x1, x2, x3, x4, x5, x6, x7] =
  if (decide ((x7).toInt < (0 : Int))) = true then
  some [(D.int (-1 : Int))]
  else
  bindC (FX 11 [x0, x1, x2, x3, x4, x5, x6]) 1 fun r8 =>
    if (decide ((x7).toInt ≥ ((r8.getD 0 D.nil)).toInt)) = true then
    some [(D.int (-1 : Int))]
    else
    if ((x1).toInt != (0 : Int)) = true then
      some [(D.int (Int.tmod (x7).toInt (x1).toInt))]
      else none := (fixP_eq (t := T_rules_Rules_Own) (by rfl) _).trans (by kernel_rfl)
theorem E_rules_Rules_Parted (x0 x1 x2 x3 x4 x5 x6 x7 : D) : FX 18 [x0, x1, x2, x3, x4, x5, x6, x7] =
  if (decide ((x7).toInt < (0 : Int))) = true then
  some [(D.int (-1 : Int)), (D.int (-1 : Int))]
  else
  bindC (FX 12 [x0, x1, x2, x3, x4, x5, x6]) 1 fun r8 =>
    if (decide ((x7).toInt ≥ ((r8.getD 0 D.nil)).toInt)) = true then
    some [(D.int (-1 : Int)), (D.int (-1 : Int))]
    else
    if ((x3).toInt != (0 : Int)) = true then
      if ((x3).toInt != (0 : Int)) = true then
        some [(D.int (IntKind.i64.wrap (Int.tdiv (x7).toInt (x3).toInt))), (D.int (Int.tmod (x7).toInt (x3).toInt))]
        else none
      else none := (fixP_eq (t := T_rules_Rules_Parted) (by rfl) _).trans (by kernel_rfl)
theorem E_rules_Rules_Sweeper (x0 x1 x2 x3 x4 x5 x6 x7 : D) : FX 19 [x0, x1, x2, x3, x4, x5, x6, x7] =
  if (decide ((x7).toInt < (0 : Int))) = true then
  some [(D.int (-1 : Int))]
  else
  bindC (FX 12 [x0, x1, x2, x3, x4, x5, x6]) 1 fun r8 =>
    if (decide ((x7).toInt ≥ ((r8.getD 0 D.nil)).toInt)) = true then
    some [(D.int (-1 : Int))]
    else
    some [(D.int (IntKind.i64.wrap ((x0).toInt + (x7).toInt)))] := (fixP_eq (t := T_rules_Rules_Sweeper) (by rfl) _).trans (by kernel_rfl)
theorem E_rules_Rules_Reaper (x0 x1 x2 x3 x4 x5 x6 x7 : D) : FX 20 [x0, x1, x2, x3, x4, x5, x6, x7] =
  if (decide ((x7).toInt < (0 : Int))) = true then
  some [(D.int (-1 : Int))]
  else
  bindC (FX 12 [x0, x1, x2, x3, x4, x5, x6]) 1 fun r8 =>
    if (decide ((x7).toInt ≥ ((r8.getD 0 D.nil)).toInt)) = true then
    some [(D.int (-1 : Int))]
    else
    bindC (FX 12 [x0, x1, x2, x3, x4, x5, x6]) 1 fun r9 =>
      some [(D.int (IntKind.i64.wrap ((IntKind.i64.wrap ((x0).toInt + ((r9.getD 0 D.nil)).toInt)) + (x7).toInt)))] := (fixP_eq (t := T_rules_Rules_Reaper) (by rfl) _).trans (by kernel_rfl)
theorem E_rules_Rules_Shard (x0 x1 x2 x3 x4 x5 x6 x7 x8 : D) : FX 22 [x0, x1, x2, x3, x4, x5, x6, x7, x8] =
  if (decide ((x7).toInt < (0 : Int))) = true then
  some [(D.int (-1 : Int))]
  else
  if (decide ((x7).toInt ≥ (x2).toInt)) = true then
    some [(D.int (-1 : Int))]
    else
    if (decide ((x8).toInt < (0 : Int))) = true then
      some [(D.int (-1 : Int))]
      else
      if (decide ((x8).toInt ≥ (x3).toInt)) = true then
        some [(D.int (-1 : Int))]
        else
        some [(D.int (IntKind.i64.wrap ((IntKind.i64.wrap ((x7).toInt * (x3).toInt)) + (x8).toInt)))] := (fixP_eq (t := T_rules_Rules_Shard) (by rfl) _).trans (by kernel_rfl)
noncomputable def W_law05_RulesCounts_2 (x0 x1 x2 x3 x4 x5 x6 x7 x8 x9 x10 x11 x12 x13 x14 x15 x16 x17 x18 x19 x20 x21 x22 x23 x24 x25 x26 : D) (g0 : Eng.Fn) : Eng.Fn := loopF fun g xs => evalP FX B_law05_RulesCounts_2 ([g0] ++ [g]) ([x0, x1, x2, x3, x4, x5, x6, x7, x8, x9, x10, x11, x12, x13, x14, x15, x16, x17, x18, x19, x20, x21, x22, x23, x24, x25, x26] ++ xs)
theorem W_law05_RulesCounts_2_eq (x0 x1 x2 x3 x4 x5 x6 x7 x8 x9 x10 x11 x12 x13 x14 x15 x16 x17 x18 x19 x20 x21 x22 x23 x24 x25 x26 : D) (g0 : Eng.Fn) (a0 a1 a2 : D) : W_law05_RulesCounts_2 x0 x1 x2 x3 x4 x5 x6 x7 x8 x9 x10 x11 x12 x13 x14 x15 x16 x17 x18 x19 x20 x21 x22 x23 x24 x25 x26 g0 [a0, a1, a2] =
  if (decide ((a2).toInt < (x1).toInt)) = true then
  if ((x26).toInt == (x7).toInt) = true then
    if ((a2).toInt == (x8).toInt) = true then
      bindC (FX 16 [x9, x10, x11, x12, x13, x14, x15, a1]) 1 fun r30 =>
        if (((r30.getD 0 D.nil)).toInt != (x26).toInt) = true then
        some [(D.bool false)]
        else
        bindC (FX 17 [x9, x10, x11, x12, x13, x14, x15, a1]) 1 fun r31 =>
          if (((r31.getD 0 D.nil)).toInt != (a2).toInt) = true then
          some [(D.bool false)]
          else
          (W_law05_RulesCounts_2 x0 x1 x2 x3 x4 x5 x6 x7 x8 x9 x10 x11 x12 x13 x14 x15 x16 x17 x18 x19 x20 x21 x22 x23 x24 x25 x26 g0) [a1, (D.int (IntKind.i64.wrap ((a1).toInt + (1 : Int)))), (D.int (IntKind.i64.wrap ((a2).toInt + (1 : Int))))]
      else
      bindC (FX 16 [x9, x10, x11, x12, x13, x14, x15, a1]) 1 fun r30 =>
        if (((r30.getD 0 D.nil)).toInt != (x26).toInt) = true then
        some [(D.bool false)]
        else
        bindC (FX 17 [x9, x10, x11, x12, x13, x14, x15, a1]) 1 fun r31 =>
          if (((r31.getD 0 D.nil)).toInt != (a2).toInt) = true then
          some [(D.bool false)]
          else
          (W_law05_RulesCounts_2 x0 x1 x2 x3 x4 x5 x6 x7 x8 x9 x10 x11 x12 x13 x14 x15 x16 x17 x18 x19 x20 x21 x22 x23 x24 x25 x26 g0) [a0, (D.int (IntKind.i64.wrap ((a1).toInt + (1 : Int)))), (D.int (IntKind.i64.wrap ((a2).toInt + (1 : Int))))]
    else
    bindC (FX 16 [x9, x10, x11, x12, x13, x14, x15, a1]) 1 fun r30 =>
      if (((r30.getD 0 D.nil)).toInt != (x26).toInt) = true then
      some [(D.bool false)]
      else
      bindC (FX 17 [x9, x10, x11, x12, x13, x14, x15, a1]) 1 fun r31 =>
        if (((r31.getD 0 D.nil)).toInt != (a2).toInt) = true then
        some [(D.bool false)]
        else
        (W_law05_RulesCounts_2 x0 x1 x2 x3 x4 x5 x6 x7 x8 x9 x10 x11 x12 x13 x14 x15 x16 x17 x18 x19 x20 x21 x22 x23 x24 x25 x26 g0) [a0, (D.int (IntKind.i64.wrap ((a1).toInt + (1 : Int)))), (D.int (IntKind.i64.wrap ((a2).toInt + (1 : Int))))]
  else
  g0 [a0, a1, (D.int (IntKind.i64.wrap ((x26).toInt + (1 : Int))))] := (loopP_eq FX B_law05_RulesCounts_2 [g0] [x0, x1, x2, x3, x4, x5, x6, x7, x8, x9, x10, x11, x12, x13, x14, x15, x16, x17, x18, x19, x20, x21, x22, x23, x24, x25, x26] _).trans (by kernel_rfl)
noncomputable def W_law05_RulesCounts_4 (x0 x1 x2 x3 x4 x5 x6 x7 x8 x9 x10 x11 x12 x13 x14 x15 x16 x17 x18 x19 x20 x21 x22 x23 x24 x25 x26 x27 x28 x29 : D) (g0 g1 : Eng.Fn) : Eng.Fn := loopF fun g xs => evalP FX B_law05_RulesCounts_4 ([g0, g1] ++ [g]) ([x0, x1, x2, x3, x4, x5, x6, x7, x8, x9, x10, x11, x12, x13, x14, x15, x16, x17, x18, x19, x20, x21, x22, x23, x24, x25, x26, x27, x28, x29] ++ xs)
theorem W_law05_RulesCounts_4_eq (x0 x1 x2 x3 x4 x5 x6 x7 x8 x9 x10 x11 x12 x13 x14 x15 x16 x17 x18 x19 x20 x21 x22 x23 x24 x25 x26 x27 x28 x29 : D) (g0 g1 : Eng.Fn) (a0 a1 a2 : D) : W_law05_RulesCounts_4 x0 x1 x2 x3 x4 x5 x6 x7 x8 x9 x10 x11 x12 x13 x14 x15 x16 x17 x18 x19 x20 x21 x22 x23 x24 x25 x26 x27 x28 x29 g0 g1 [a0, a1, a2] =
  if (decide ((a2).toInt < (x3).toInt)) = true then
  if ((x29).toInt == (x7).toInt) = true then
    if ((a2).toInt == (x8).toInt) = true then
      bindC (FX 18 [x9, x10, x11, x12, x13, x14, x15, a1]) 2 fun r33 =>
        if (((r33.getD 0 D.nil)).toInt != (x29).toInt) = true then
        some [(D.bool false)]
        else
        if (((r33.getD 1 D.nil)).toInt != (a2).toInt) = true then
          some [(D.bool false)]
          else
          bindC (FX 19 [x9, x10, x11, x12, x13, x14, x15, a1]) 1 fun r35 =>
            if (((r35.getD 0 D.nil)).toInt != (IntKind.i64.wrap ((x0).toInt + (a1).toInt))) = true then
            some [(D.bool false)]
            else
            bindC (FX 20 [x9, x10, x11, x12, x13, x14, x15, a1]) 1 fun r36 =>
              bindC (FX 12 [x9, x10, x11, x12, x13, x14, x15]) 1 fun r37 =>
              if (((r36.getD 0 D.nil)).toInt != (IntKind.i64.wrap ((IntKind.i64.wrap ((x0).toInt + ((r37.getD 0 D.nil)).toInt)) + (a1).toInt))) = true then
              some [(D.bool false)]
              else
              (W_law05_RulesCounts_4 x0 x1 x2 x3 x4 x5 x6 x7 x8 x9 x10 x11 x12 x13 x14 x15 x16 x17 x18 x19 x20 x21 x22 x23 x24 x25 x26 x27 x28 x29 g0 g1) [a1, (D.int (IntKind.i64.wrap ((a1).toInt + (1 : Int)))), (D.int (IntKind.i64.wrap ((a2).toInt + (1 : Int))))]
      else
      bindC (FX 18 [x9, x10, x11, x12, x13, x14, x15, a1]) 2 fun r33 =>
        if (((r33.getD 0 D.nil)).toInt != (x29).toInt) = true then
        some [(D.bool false)]
        else
        if (((r33.getD 1 D.nil)).toInt != (a2).toInt) = true then
          some [(D.bool false)]
          else
          bindC (FX 19 [x9, x10, x11, x12, x13, x14, x15, a1]) 1 fun r35 =>
            if (((r35.getD 0 D.nil)).toInt != (IntKind.i64.wrap ((x0).toInt + (a1).toInt))) = true then
            some [(D.bool false)]
            else
            bindC (FX 20 [x9, x10, x11, x12, x13, x14, x15, a1]) 1 fun r36 =>
              bindC (FX 12 [x9, x10, x11, x12, x13, x14, x15]) 1 fun r37 =>
              if (((r36.getD 0 D.nil)).toInt != (IntKind.i64.wrap ((IntKind.i64.wrap ((x0).toInt + ((r37.getD 0 D.nil)).toInt)) + (a1).toInt))) = true then
              some [(D.bool false)]
              else
              (W_law05_RulesCounts_4 x0 x1 x2 x3 x4 x5 x6 x7 x8 x9 x10 x11 x12 x13 x14 x15 x16 x17 x18 x19 x20 x21 x22 x23 x24 x25 x26 x27 x28 x29 g0 g1) [a0, (D.int (IntKind.i64.wrap ((a1).toInt + (1 : Int)))), (D.int (IntKind.i64.wrap ((a2).toInt + (1 : Int))))]
    else
    bindC (FX 18 [x9, x10, x11, x12, x13, x14, x15, a1]) 2 fun r33 =>
      if (((r33.getD 0 D.nil)).toInt != (x29).toInt) = true then
      some [(D.bool false)]
      else
      if (((r33.getD 1 D.nil)).toInt != (a2).toInt) = true then
        some [(D.bool false)]
        else
        bindC (FX 19 [x9, x10, x11, x12, x13, x14, x15, a1]) 1 fun r35 =>
          if (((r35.getD 0 D.nil)).toInt != (IntKind.i64.wrap ((x0).toInt + (a1).toInt))) = true then
          some [(D.bool false)]
          else
          bindC (FX 20 [x9, x10, x11, x12, x13, x14, x15, a1]) 1 fun r36 =>
            bindC (FX 12 [x9, x10, x11, x12, x13, x14, x15]) 1 fun r37 =>
            if (((r36.getD 0 D.nil)).toInt != (IntKind.i64.wrap ((IntKind.i64.wrap ((x0).toInt + ((r37.getD 0 D.nil)).toInt)) + (a1).toInt))) = true then
            some [(D.bool false)]
            else
            (W_law05_RulesCounts_4 x0 x1 x2 x3 x4 x5 x6 x7 x8 x9 x10 x11 x12 x13 x14 x15 x16 x17 x18 x19 x20 x21 x22 x23 x24 x25 x26 x27 x28 x29 g0 g1) [a0, (D.int (IntKind.i64.wrap ((a1).toInt + (1 : Int)))), (D.int (IntKind.i64.wrap ((a2).toInt + (1 : Int))))]
  else
  g1 [a0, a1, (D.int (IntKind.i64.wrap ((x29).toInt + (1 : Int))))] := (loopP_eq FX B_law05_RulesCounts_4 [g0, g1] [x0, x1, x2, x3, x4, x5, x6, x7, x8, x9, x10, x11, x12, x13, x14, x15, x16, x17, x18, x19, x20, x21, x22, x23, x24, x25, x26, x27, x28, x29] _).trans (by kernel_rfl)
noncomputable def W_law05_RulesCounts_3 (x0 x1 x2 x3 x4 x5 x6 x7 x8 x9 x10 x11 x12 x13 x14 x15 x16 x17 x18 x19 x20 x21 x22 x23 x24 x25 x26 : D) (g0 : Eng.Fn) : Eng.Fn := loopF fun g xs => evalP FX B_law05_RulesCounts_3 ([g0] ++ [g]) ([x0, x1, x2, x3, x4, x5, x6, x7, x8, x9, x10, x11, x12, x13, x14, x15, x16, x17, x18, x19, x20, x21, x22, x23, x24, x25, x26] ++ xs)
theorem W_law05_RulesCounts_3_eq (x0 x1 x2 x3 x4 x5 x6 x7 x8 x9 x10 x11 x12 x13 x14 x15 x16 x17 x18 x19 x20 x21 x22 x23 x24 x25 x26 : D) (g0 : Eng.Fn) (a0 a1 a2 : D) : W_law05_RulesCounts_3 x0 x1 x2 x3 x4 x5 x6 x7 x8 x9 x10 x11 x12 x13 x14 x15 x16 x17 x18 x19 x20 x21 x22 x23 x24 x25 x26 g0 [a0, a1, a2] =
  if (decide ((a2).toInt < (x2).toInt)) = true then
  W_law05_RulesCounts_4 x0 x1 x2 x3 x4 x5 x6 x7 x8 x9 x10 x11 x12 x13 x14 x15 x16 x17 x18 x19 x20 x21 x22 x23 x24 x25 x26 a0 a1 a2 g0 ((W_law05_RulesCounts_3 x0 x1 x2 x3 x4 x5 x6 x7 x8 x9 x10 x11 x12 x13 x14 x15 x16 x17 x18 x19 x20 x21 x22 x23 x24 x25 x26 g0)) [a0, a1, (D.int (0 : Int))]
  else
  if (decide ((x7).toInt < (0 : Int))) = true then
    bindC (FX 16 [x9, x10, x11, x12, x13, x14, x15, x7]) 1 fun r30 =>
      if (((r30.getD 0 D.nil)).toInt != (-1 : Int)) = true then
      some [(D.bool false)]
      else
      bindC (FX 17 [x9, x10, x11, x12, x13, x14, x15, x7]) 1 fun r31 =>
        if (((r31.getD 0 D.nil)).toInt != (-1 : Int)) = true then
        some [(D.bool false)]
        else
        bindC (FX 18 [x9, x10, x11, x12, x13, x14, x15, x7]) 2 fun r32 =>
          if (((r32.getD 0 D.nil)).toInt != (-1 : Int)) = true then
          some [(D.bool false)]
          else
          if (((r32.getD 1 D.nil)).toInt != (-1 : Int)) = true then
            some [(D.bool false)]
            else
            bindC (FX 19 [x9, x10, x11, x12, x13, x14, x15, x7]) 1 fun r34 =>
              if (((r34.getD 0 D.nil)).toInt != (-1 : Int)) = true then
              some [(D.bool false)]
              else
              bindC (FX 20 [x9, x10, x11, x12, x13, x14, x15, x7]) 1 fun r35 =>
                if (((r35.getD 0 D.nil)).toInt != (-1 : Int)) = true then
                some [(D.bool false)]
                else
                bindC (FX 8 []) 1 fun r36 =>
                  if ((r36.getD 0 D.nil)).toBool = true then
                  bindC (FX 21 [x9, x10, x11, x12, x13, x14, x15, x7, x8]) 1 fun r37 =>
                    if (((r37.getD 0 D.nil)).toInt == (x24).toInt) = true then
                    bindC (FX 22 [x9, x10, x11, x12, x13, x14, x15, x7, x8]) 1 fun r38 =>
                      some [(D.bool (((r38.getD 0 D.nil)).toInt == (a0).toInt))]
                    else
                    some [(D.bool false)]
                  else
                  some [(D.bool false)]
    else
    bindC (FX 11 [x9, x10, x11, x12, x13, x14, x15]) 1 fun r30 =>
      if (decide ((x7).toInt ≥ ((r30.getD 0 D.nil)).toInt)) = true then
      bindC (FX 16 [x9, x10, x11, x12, x13, x14, x15, x7]) 1 fun r31 =>
        if (((r31.getD 0 D.nil)).toInt != (-1 : Int)) = true then
        some [(D.bool false)]
        else
        bindC (FX 17 [x9, x10, x11, x12, x13, x14, x15, x7]) 1 fun r32 =>
          if (((r32.getD 0 D.nil)).toInt != (-1 : Int)) = true then
          some [(D.bool false)]
          else
          bindC (FX 12 [x9, x10, x11, x12, x13, x14, x15]) 1 fun r33 =>
            if (decide ((x7).toInt ≥ ((r33.getD 0 D.nil)).toInt)) = true then
            bindC (FX 18 [x9, x10, x11, x12, x13, x14, x15, x7]) 2 fun r34 =>
              if (((r34.getD 0 D.nil)).toInt != (-1 : Int)) = true then
              some [(D.bool false)]
              else
              if (((r34.getD 1 D.nil)).toInt != (-1 : Int)) = true then
                some [(D.bool false)]
                else
                bindC (FX 19 [x9, x10, x11, x12, x13, x14, x15, x7]) 1 fun r36 =>
                  if (((r36.getD 0 D.nil)).toInt != (-1 : Int)) = true then
                  some [(D.bool false)]
                  else
                  bindC (FX 20 [x9, x10, x11, x12, x13, x14, x15, x7]) 1 fun r37 =>
                    if (((r37.getD 0 D.nil)).toInt != (-1 : Int)) = true then
                    some [(D.bool false)]
                    else
                    bindC (FX 8 []) 1 fun r38 =>
                      if ((r38.getD 0 D.nil)).toBool = true then
                      bindC (FX 21 [x9, x10, x11, x12, x13, x14, x15, x7, x8]) 1 fun r39 =>
                        if (((r39.getD 0 D.nil)).toInt == (x24).toInt) = true then
                        bindC (FX 22 [x9, x10, x11, x12, x13, x14, x15, x7, x8]) 1 fun r40 =>
                          some [(D.bool (((r40.getD 0 D.nil)).toInt == (a0).toInt))]
                        else
                        some [(D.bool false)]
                      else
                      some [(D.bool false)]
            else
            bindC (FX 8 []) 1 fun r34 =>
              if ((r34.getD 0 D.nil)).toBool = true then
              bindC (FX 21 [x9, x10, x11, x12, x13, x14, x15, x7, x8]) 1 fun r35 =>
                if (((r35.getD 0 D.nil)).toInt == (x24).toInt) = true then
                bindC (FX 22 [x9, x10, x11, x12, x13, x14, x15, x7, x8]) 1 fun r36 =>
                  some [(D.bool (((r36.getD 0 D.nil)).toInt == (a0).toInt))]
                else
                some [(D.bool false)]
              else
              some [(D.bool false)]
      else
      bindC (FX 12 [x9, x10, x11, x12, x13, x14, x15]) 1 fun r31 =>
        if (decide ((x7).toInt ≥ ((r31.getD 0 D.nil)).toInt)) = true then
        bindC (FX 18 [x9, x10, x11, x12, x13, x14, x15, x7]) 2 fun r32 =>
          if (((r32.getD 0 D.nil)).toInt != (-1 : Int)) = true then
          some [(D.bool false)]
          else
          if (((r32.getD 1 D.nil)).toInt != (-1 : Int)) = true then
            some [(D.bool false)]
            else
            bindC (FX 19 [x9, x10, x11, x12, x13, x14, x15, x7]) 1 fun r34 =>
              if (((r34.getD 0 D.nil)).toInt != (-1 : Int)) = true then
              some [(D.bool false)]
              else
              bindC (FX 20 [x9, x10, x11, x12, x13, x14, x15, x7]) 1 fun r35 =>
                if (((r35.getD 0 D.nil)).toInt != (-1 : Int)) = true then
                some [(D.bool false)]
                else
                bindC (FX 8 []) 1 fun r36 =>
                  if ((r36.getD 0 D.nil)).toBool = true then
                  bindC (FX 21 [x9, x10, x11, x12, x13, x14, x15, x7, x8]) 1 fun r37 =>
                    if (((r37.getD 0 D.nil)).toInt == (x24).toInt) = true then
                    bindC (FX 22 [x9, x10, x11, x12, x13, x14, x15, x7, x8]) 1 fun r38 =>
                      some [(D.bool (((r38.getD 0 D.nil)).toInt == (a0).toInt))]
                    else
                    some [(D.bool false)]
                  else
                  some [(D.bool false)]
        else
        bindC (FX 8 []) 1 fun r32 =>
          if ((r32.getD 0 D.nil)).toBool = true then
          bindC (FX 21 [x9, x10, x11, x12, x13, x14, x15, x7, x8]) 1 fun r33 =>
            if (((r33.getD 0 D.nil)).toInt == (x24).toInt) = true then
            bindC (FX 22 [x9, x10, x11, x12, x13, x14, x15, x7, x8]) 1 fun r34 =>
              some [(D.bool (((r34.getD 0 D.nil)).toInt == (a0).toInt))]
            else
            some [(D.bool false)]
          else
          some [(D.bool false)] := (loopP_eq FX B_law05_RulesCounts_3 [g0] [x0, x1, x2, x3, x4, x5, x6, x7, x8, x9, x10, x11, x12, x13, x14, x15, x16, x17, x18, x19, x20, x21, x22, x23, x24, x25, x26] _).trans (by kernel_rfl)
noncomputable def W_law05_RulesCounts_1 (x0 x1 x2 x3 x4 x5 x6 x7 x8 x9 x10 x11 x12 x13 x14 x15 x16 x17 x18 x19 x20 x21 x22 x23 : D) : Eng.Fn := loopF fun g xs => evalP FX B_law05_RulesCounts_1 ([] ++ [g]) ([x0, x1, x2, x3, x4, x5, x6, x7, x8, x9, x10, x11, x12, x13, x14, x15, x16, x17, x18, x19, x20, x21, x22, x23] ++ xs)
theorem W_law05_RulesCounts_1_eq (x0 x1 x2 x3 x4 x5 x6 x7 x8 x9 x10 x11 x12 x13 x14 x15 x16 x17 x18 x19 x20 x21 x22 x23 : D) (a0 a1 a2 : D) : W_law05_RulesCounts_1 x0 x1 x2 x3 x4 x5 x6 x7 x8 x9 x10 x11 x12 x13 x14 x15 x16 x17 x18 x19 x20 x21 x22 x23 [a0, a1, a2] =
  if (decide ((a2).toInt < (x0).toInt)) = true then
  W_law05_RulesCounts_2 x0 x1 x2 x3 x4 x5 x6 x7 x8 x9 x10 x11 x12 x13 x14 x15 x16 x17 x18 x19 x20 x21 x22 x23 a0 a1 a2 ((W_law05_RulesCounts_1 x0 x1 x2 x3 x4 x5 x6 x7 x8 x9 x10 x11 x12 x13 x14 x15 x16 x17 x18 x19 x20 x21 x22 x23)) [a0, a1, (D.int (0 : Int))]
  else
  W_law05_RulesCounts_3 x0 x1 x2 x3 x4 x5 x6 x7 x8 x9 x10 x11 x12 x13 x14 x15 x16 x17 x18 x19 x20 x21 x22 x23 a0 a1 a2 ((W_law05_RulesCounts_1 x0 x1 x2 x3 x4 x5 x6 x7 x8 x9 x10 x11 x12 x13 x14 x15 x16 x17 x18 x19 x20 x21 x22 x23)) [(D.int (-1 : Int)), (D.int (0 : Int)), (D.int (0 : Int))] := (loopP_eq FX B_law05_RulesCounts_1 [] [x0, x1, x2, x3, x4, x5, x6, x7, x8, x9, x10, x11, x12, x13, x14, x15, x16, x17, x18, x19, x20, x21, x22, x23] _).trans (by kernel_rfl)
theorem E_law05_RulesCounts (x0 x1 x2 x3 x4 x5 x6 x7 x8 : D) : FX 3 [x0, x1, x2, x3, x4, x5, x6, x7, x8] =
  bindC (FX 4 [x0, x1, x2, x3, x4, x5, x6]) 8 fun r9 =>
  bindC (FX 5 [x0, x1, x2, x3, x4, x5, x6]) 1 fun r17 =>
  if (decide (((r17.getD 0 D.nil)).toInt ≥ (0 : Int))) = true then
  bindC (FX 6 [(r9.getD 7 D.nil), (D.agg [])]) 3 fun r18 =>
    bindC (FX 7 [(r9.getD 7 D.nil), (r18.getD 2 D.nil)]) 2 fun r21 =>
    bindC (FX 8 []) 1 fun r23 =>
    if ((r23.getD 0 D.nil)).toBool = true then
    bindC (FX 9 [(r9.getD 7 D.nil)]) 1 fun r24 =>
      if (((r24.getD 0 D.nil)).toInt == (5 : Int)) = true then
      if ((r18.getD 1 D.nil)).toBool = true then
        if (((r18.getD 0 D.nil)).toInt == ((r17.getD 0 D.nil)).toInt) = true then
          if (((((r21.getD 0 D.nil)).toL).length : Int) == (1 : Int)) = true then
            if (decide ((0 : Int) < ((((r21.getD 0 D.nil)).toL).length : Int))) = true then
              bindC (FX 10 [(r17.getD 0 D.nil)]) 1 fun r25 =>
                some [(D.bool (scmpF .eql (((((r21.getD 0 D.nil)).toL).getD ((0 : Int)).toNat D.nil)).toStr ((r25.getD 0 D.nil)).toStr))]
              else none
            else
            some [(D.bool false)]
          else
          some [(D.bool false)]
        else
        some [(D.bool false)]
      else
      some [(D.bool false)]
    else
    some [(D.bool false)]
  else
  if (!((r9.getD 7 D.nil)).isNil) = true then
    some [(D.bool false)]
    else
    if (!((((r9.getD 0 D.nil)).toInt == (x0).toInt) && ((((r9.getD 1 D.nil)).toInt == (x1).toInt) && ((((r9.getD 2 D.nil)).toInt == (x2).toInt) && ((((r9.getD 3 D.nil)).toInt == (x3).toInt) && ((((r9.getD 4 D.nil)).toInt == (x4).toInt) && ((((r9.getD 5 D.nil)).toInt == (x5).toInt) && (((r9.getD 6 D.nil)).toInt == (x6).toInt)))))))) = true then
      some [(D.bool false)]
      else
      bindC (FX 11 [(r9.getD 0 D.nil), (r9.getD 1 D.nil), (r9.getD 2 D.nil), (r9.getD 3 D.nil), (r9.getD 4 D.nil), (r9.getD 5 D.nil), (r9.getD 6 D.nil)]) 1 fun r18 =>
        if (((r18.getD 0 D.nil)).toInt != (IntKind.i64.wrap ((x0).toInt * (x1).toInt))) = true then
        some [(D.bool false)]
        else
        bindC (FX 12 [(r9.getD 0 D.nil), (r9.getD 1 D.nil), (r9.getD 2 D.nil), (r9.getD 3 D.nil), (r9.getD 4 D.nil), (r9.getD 5 D.nil), (r9.getD 6 D.nil)]) 1 fun r19 =>
          if (((r19.getD 0 D.nil)).toInt != (IntKind.i64.wrap ((x2).toInt * (x3).toInt))) = true then
          some [(D.bool false)]
          else
          bindC (FX 13 [(r9.getD 0 D.nil), (r9.getD 1 D.nil), (r9.getD 2 D.nil), (r9.getD 3 D.nil), (r9.getD 4 D.nil), (r9.getD 5 D.nil), (r9.getD 6 D.nil)]) 1 fun r20 =>
            bindC (FX 12 [(r9.getD 0 D.nil), (r9.getD 1 D.nil), (r9.getD 2 D.nil), (r9.getD 3 D.nil), (r9.getD 4 D.nil), (r9.getD 5 D.nil), (r9.getD 6 D.nil)]) 1 fun r21 =>
            if (((r20.getD 0 D.nil)).toInt != (IntKind.i64.wrap ((x0).toInt + (IntKind.i64.wrap ((2 : Int) * ((r21.getD 0 D.nil)).toInt))))) = true then
            some [(D.bool false)]
            else
            bindC (FX 14 [(r9.getD 0 D.nil), (r9.getD 1 D.nil), (r9.getD 2 D.nil), (r9.getD 3 D.nil), (r9.getD 4 D.nil), (r9.getD 5 D.nil), (r9.getD 6 D.nil)]) 1 fun r22 =>
              bindC (FX 15 [x0, x1, x2, x3, x4, x5, x6]) 1 fun r23 =>
              if (((r22.getD 0 D.nil)).toInt != ((((r23.getD 0 D.nil)).toL).length : Int)) = true then
              some [(D.bool false)]
              else
              W_law05_RulesCounts_1 x0 x1 x2 x3 x4 x5 x6 x7 x8 (r9.getD 0 D.nil) (r9.getD 1 D.nil) (r9.getD 2 D.nil) (r9.getD 3 D.nil) (r9.getD 4 D.nil) (r9.getD 5 D.nil) (r9.getD 6 D.nil) (r9.getD 7 D.nil) (r17.getD 0 D.nil) (r18.getD 0 D.nil) (r19.getD 0 D.nil) (r20.getD 0 D.nil) (r21.getD 0 D.nil) (r22.getD 0 D.nil) (r23.getD 0 D.nil) [(D.int (-1 : Int)), (D.int (0 : Int)), (D.int (0 : Int))] := (fixP_eq (t := T_law05_RulesCounts) (by rfl) _).trans (by kernel_rfl)
end Go.Proofs.YtifghdombpcpjaaDoor
