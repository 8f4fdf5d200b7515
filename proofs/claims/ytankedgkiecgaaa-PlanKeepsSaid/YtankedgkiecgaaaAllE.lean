/-
  The functions, as equations.
-/
import Derived.Test.YtankedgkiecgaaaAll
namespace Go.Proofs.Ytankedgkiecgaaa
open Go.Proofs.Ytankedgkiecgaaa.Eng
set_option linter.unusedVariables false
set_option maxRecDepth 20000
noncomputable def W_slices_IndexFunc_2_int_2_int_1 (x0 x1 : D) : Eng.Fn := loopF fun g xs => evalP FX B_slices_IndexFunc_2_int_2_int_1 ([] ++ [g]) ([x0, x1] ++ xs)
theorem W_slices_IndexFunc_2_int_2_int_1_eq (x0 x1 : D) (a0 : D) : W_slices_IndexFunc_2_int_2_int_1 x0 x1 [a0] =
  if (decide ((a0).toInt < (((x0).toL).length : Int))) = true then
  if (decide ((a0).toInt ≥ (0 : Int))) = true then
    if (decide ((a0).toInt < (((x0).toL).length : Int))) = true then
      if (x1.isIf 35) = true then
        if (((((x1).inner).toL).length : Int) == (0 : Int)) = true then
          bindC (FX 35 [((((((x0).toL).getD ((a0).toInt).toNat D.nil)).toL).getD 0 D.nil), ((((((x0).toL).getD ((a0).toInt).toNat D.nil)).toL).getD 1 D.nil)]) 1 fun r3 =>
            if ((r3.getD 0 D.nil)).toBool = true then
            some [a0]
            else
            (W_slices_IndexFunc_2_int_2_int_1 x0 x1) [(D.int (IntKind.i64.wrap ((a0).toInt + (1 : Int))))]
          else none
        else
        none
      else none
    else none
  else
  some [(D.int (-1 : Int))] := (loopP_eq FX B_slices_IndexFunc_2_int_2_int_1 [] [x0, x1] _).trans (by kernel_rfl)
theorem E_slices_IndexFunc_2_int_2_int (x0 x1 : D) : FX 41 [x0, x1] =
  W_slices_IndexFunc_2_int_2_int_1 x0 x1 [(D.int (0 : Int))] := (fixP_eq (t := T_slices_IndexFunc_2_int_2_int) (by rfl) _).trans (by kernel_rfl)
noncomputable def W_slices_DeleteFunc_2_int_2_int_1 (x0 x1 x2 : D) : Eng.Fn := loopF fun g xs => evalP FX B_slices_DeleteFunc_2_int_2_int_1 ([] ++ [g]) ([x0, x1, x2] ++ xs)
theorem W_slices_DeleteFunc_2_int_2_int_1_eq (x0 x1 x2 : D) (a0 a1 a2 : D) : W_slices_DeleteFunc_2_int_2_int_1 x0 x1 x2 [a0, a1, a2] =
  if (decide ((a1).toInt < (((a2).toL).length : Int))) = true then
  if (decide ((a1).toInt ≥ (0 : Int))) = true then
    if (decide ((a1).toInt < (((a2).toL).length : Int))) = true then
      if (x1.isIf 35) = true then
        if (((((x1).inner).toL).length : Int) == (0 : Int)) = true then
          bindC (FX 35 [((((((a2).toL).getD ((a1).toInt).toNat D.nil)).toL).getD 0 D.nil), ((((((a2).toL).getD ((a1).toInt).toNat D.nil)).toL).getD 1 D.nil)]) 1 fun r6 =>
            if (!((r6.getD 0 D.nil)).toBool) = true then
            if (decide ((a0).toInt ≥ (0 : Int))) = true then
              if (decide ((a0).toInt < (((a2).toL).length : Int))) = true then
                (W_slices_DeleteFunc_2_int_2_int_1 x0 x1 x2) [(D.int (IntKind.i64.wrap ((a0).toInt + (1 : Int)))), (D.int (IntKind.i64.wrap ((a1).toInt + (1 : Int)))), (D.agg (((a2).toL).set ((a0).toInt).toNat (D.agg (((((((a2).toL).getD ((a1).toInt).toNat D.nil)).toL).getD 0 D.nil) :: (((((((a2).toL).getD ((a1).toInt).toNat D.nil)).toL).getD 1 D.nil) :: [])))))]
                else none
              else none
            else
            (W_slices_DeleteFunc_2_int_2_int_1 x0 x1 x2) [a0, (D.int (IntKind.i64.wrap ((a1).toInt + (1 : Int)))), a2]
          else none
        else
        none
      else none
    else none
  else
  if (decide ((0 : Int) ≤ (a0).toInt)) = true then
    if (decide ((a0).toInt ≤ (((a2).toL).length : Int))) = true then
      if (decide ((((a2).toL).length : Int) ≤ (((a2).toL).length : Int))) = true then
        if (decide ((0 : Int) ≤ (0 : Int))) = true then
          if (decide ((0 : Int) ≤ (a0).toInt)) = true then
            if (decide ((a0).toInt ≤ (((((((a2).toL).drop ((0 : Int)).toNat).take (((a0).toInt).toNat - ((0 : Int)).toNat)) ++ (List.replicate (((((((a2).toL).drop ((a0).toInt).toNat).take (((((a2).toL).length : Int)).toNat - ((a0).toInt).toNat))).length : Int)).toNat (D.agg ((D.int (0 : Int)) :: ((D.int (0 : Int)) :: [])))))).length : Int))) = true then
              some [(D.agg ((((((((a2).toL).drop ((0 : Int)).toNat).take (((a0).toInt).toNat - ((0 : Int)).toNat)) ++ (List.replicate (((((((a2).toL).drop ((a0).toInt).toNat).take (((((a2).toL).length : Int)).toNat - ((a0).toInt).toNat))).length : Int)).toNat (D.agg ((D.int (0 : Int)) :: ((D.int (0 : Int)) :: [])))))).drop ((0 : Int)).toNat).take (((a0).toInt).toNat - ((0 : Int)).toNat)))]
              else none
            else none
          else none
        else none
      else none
    else none := (loopP_eq FX B_slices_DeleteFunc_2_int_2_int_1 [] [x0, x1, x2] _).trans (by kernel_rfl)
theorem E_slices_DeleteFunc_2_int_2_int (x0 x1 : D) : FX 34 [x0, x1] =
  bindC (FX 41 [x0, x1]) 1 fun r2 =>
  if (((r2.getD 0 D.nil)).toInt == (-1 : Int)) = true then
  some [x0]
  else
  W_slices_DeleteFunc_2_int_2_int_1 x0 x1 (r2.getD 0 D.nil) [(r2.getD 0 D.nil), (D.int (IntKind.i64.wrap (((r2.getD 0 D.nil)).toInt + (1 : Int)))), x0] := (fixP_eq (t := T_slices_DeleteFunc_2_int_2_int) (by rfl) _).trans (by kernel_rfl)
theorem E_plan_Runs_1 (x0 x1 : D) : FX 35 [x0, x1] =
  some [(D.bool ((x1).toInt == (0 : Int)))] := (fixP_eq (t := T_plan_Runs_1) (by rfl) _).trans (by kernel_rfl)
noncomputable def W_plan_Runs_1 (x0 : D) : Eng.Fn := loopF fun g xs => evalP FX B_plan_Runs_1 ([] ++ [g]) ([x0] ++ xs)
theorem W_plan_Runs_1_eq (x0 : D) (a0 a1 : D) : W_plan_Runs_1 x0 [a0, a1] =
  if (decide ((a0).toInt < (((x0).toL).length : Int))) = true then
  if (decide ((a0).toInt ≥ (0 : Int))) = true then
    if (decide ((a0).toInt < (((x0).toL).length : Int))) = true then
      if ((((((((x0).toL).getD ((a0).toInt).toNat D.nil)).toL).getD 0 D.nil)).toInt != (3 : Int)) = true then
        if (decide (((((a1).toL ++ ((D.agg ((D.int (-1 : Int)) :: ((D.int (0 : Int)) :: []))) :: []))).length : Int) ≤ (8796093022208 : Int))) = true then
          (W_plan_Runs_1 x0) [(D.int (IntKind.i64.wrap ((a0).toInt + (1 : Int)))), (D.agg ((a1).toL ++ ((D.agg ((D.int (-1 : Int)) :: ((D.int (0 : Int)) :: []))) :: [])))]
          else none
        else
        if (decide ((((a1).toL).length : Int) > (0 : Int))) = true then
          if (decide ((IntKind.i64.wrap ((((a1).toL).length : Int) - (1 : Int))) ≥ (0 : Int))) = true then
            if (decide ((IntKind.i64.wrap ((((a1).toL).length : Int) - (1 : Int))) < (((a1).toL).length : Int))) = true then
              if ((((((((a1).toL).getD ((IntKind.i64.wrap ((((a1).toL).length : Int) - (1 : Int)))).toNat D.nil)).toL).getD 0 D.nil)).toInt == (((((((x0).toL).getD ((a0).toInt).toNat D.nil)).toL).getD 1 D.nil)).toInt) = true then
                if (decide ((IntKind.i64.wrap ((((a1).toL).length : Int) - (1 : Int))) ≥ (0 : Int))) = true then
                  if (decide ((IntKind.i64.wrap ((((a1).toL).length : Int) - (1 : Int))) < (((a1).toL).length : Int))) = true then
                    if (decide ((((((((a1).toL).getD ((IntKind.i64.wrap ((((a1).toL).length : Int) - (1 : Int)))).toNat D.nil)).toL).getD 1 D.nil)).toInt > (0 : Int))) = true then
                      if (decide ((IntKind.i64.wrap ((((a1).toL).length : Int) - (1 : Int))) ≥ (0 : Int))) = true then
                        if (decide ((IntKind.i64.wrap ((((a1).toL).length : Int) - (1 : Int))) < (((a1).toL).length : Int))) = true then
                          if (decide ((IntKind.i64.wrap ((((a1).toL).length : Int) - (1 : Int))) ≥ (0 : Int))) = true then
                            if (decide ((IntKind.i64.wrap ((((a1).toL).length : Int) - (1 : Int))) < (((a1).toL).length : Int))) = true then
                              (W_plan_Runs_1 x0) [(D.int (IntKind.i64.wrap ((a0).toInt + (1 : Int)))), (D.agg (((a1).toL).set ((IntKind.i64.wrap ((((a1).toL).length : Int) - (1 : Int)))).toNat (D.agg (((List.range 2).map fun j => (((((a1).toL).getD ((IntKind.i64.wrap ((((a1).toL).length : Int) - (1 : Int)))).toNat D.nil)).toL).getD j D.nil).set 1 (D.int (IntKind.i64.wrap ((((((((a1).toL).getD ((IntKind.i64.wrap ((((a1).toL).length : Int) - (1 : Int)))).toNat D.nil)).toL).getD 1 D.nil)).toInt + (1 : Int))))))))]
                              else none
                            else none
                          else none
                        else none
                      else
                      if (decide (((((a1).toL ++ ((D.agg (((((((x0).toL).getD ((a0).toInt).toNat D.nil)).toL).getD 1 D.nil) :: ((D.int (1 : Int)) :: []))) :: []))).length : Int) ≤ (8796093022208 : Int))) = true then
                        (W_plan_Runs_1 x0) [(D.int (IntKind.i64.wrap ((a0).toInt + (1 : Int)))), (D.agg ((a1).toL ++ ((D.agg (((((((x0).toL).getD ((a0).toInt).toNat D.nil)).toL).getD 1 D.nil) :: ((D.int (1 : Int)) :: []))) :: [])))]
                        else none
                    else none
                  else none
                else
                if (decide (((((a1).toL ++ ((D.agg (((((((x0).toL).getD ((a0).toInt).toNat D.nil)).toL).getD 1 D.nil) :: ((D.int (1 : Int)) :: []))) :: []))).length : Int) ≤ (8796093022208 : Int))) = true then
                  (W_plan_Runs_1 x0) [(D.int (IntKind.i64.wrap ((a0).toInt + (1 : Int)))), (D.agg ((a1).toL ++ ((D.agg (((((((x0).toL).getD ((a0).toInt).toNat D.nil)).toL).getD 1 D.nil) :: ((D.int (1 : Int)) :: []))) :: [])))]
                  else none
              else none
            else none
          else
          if (decide (((((a1).toL ++ ((D.agg (((((((x0).toL).getD ((a0).toInt).toNat D.nil)).toL).getD 1 D.nil) :: ((D.int (1 : Int)) :: []))) :: []))).length : Int) ≤ (8796093022208 : Int))) = true then
            (W_plan_Runs_1 x0) [(D.int (IntKind.i64.wrap ((a0).toInt + (1 : Int)))), (D.agg ((a1).toL ++ ((D.agg (((((((x0).toL).getD ((a0).toInt).toNat D.nil)).toL).getD 1 D.nil) :: ((D.int (1 : Int)) :: []))) :: [])))]
            else none
      else none
    else none
  else
  bindC (FX 34 [a1, (D.iface 35 (D.agg []))]) 1 fun r3 =>
    some [(r3.getD 0 D.nil)] := (loopP_eq FX B_plan_Runs_1 [] [x0] _).trans (by kernel_rfl)
theorem E_plan_Runs (x0 : D) : FX 18 [x0] =
  W_plan_Runs_1 x0 [(D.int (0 : Int)), (D.agg [])] := (fixP_eq (t := T_plan_Runs) (by rfl) _).trans (by kernel_rfl)
theorem E_math_bits_Mul32 (x0 x1 : D) : FX 43 [x0, x1] =
  some [(D.int (IntKind.u32.wrap (arF .shr .u64 (IntKind.u64.wrap ((IntKind.u64.wrap (x0).toInt) * (IntKind.u64.wrap (x1).toInt))) (32 : Int)))), (D.int (IntKind.u32.wrap (IntKind.u64.wrap ((IntKind.u64.wrap (x0).toInt) * (IntKind.u64.wrap (x1).toInt)))))] := (fixP_eq (t := T_math_bits_Mul32) (by rfl) _).trans (by kernel_rfl)
theorem E_math_bits_Mul64 (x0 x1 : D) : FX 44 [x0, x1] =
  some [(D.int (IntKind.u64.wrap ((IntKind.u64.wrap ((IntKind.u64.wrap ((arF .shr .u64 (x0).toInt (32 : Int)) * (arF .shr .u64 (x1).toInt (32 : Int)))) + (arF .shr .u64 (IntKind.u64.wrap ((IntKind.u64.wrap ((arF .shr .u64 (x0).toInt (32 : Int)) * (arF .and .u64 (x1).toInt (4294967295 : Int)))) + (arF .shr .u64 (IntKind.u64.wrap ((arF .and .u64 (x0).toInt (4294967295 : Int)) * (arF .and .u64 (x1).toInt (4294967295 : Int)))) (32 : Int)))) (32 : Int)))) + (arF .shr .u64 (IntKind.u64.wrap ((arF .and .u64 (IntKind.u64.wrap ((IntKind.u64.wrap ((arF .shr .u64 (x0).toInt (32 : Int)) * (arF .and .u64 (x1).toInt (4294967295 : Int)))) + (arF .shr .u64 (IntKind.u64.wrap ((arF .and .u64 (x0).toInt (4294967295 : Int)) * (arF .and .u64 (x1).toInt (4294967295 : Int)))) (32 : Int)))) (4294967295 : Int)) + (IntKind.u64.wrap ((arF .and .u64 (x0).toInt (4294967295 : Int)) * (arF .shr .u64 (x1).toInt (32 : Int)))))) (32 : Int))))), (D.int (IntKind.u64.wrap ((x0).toInt * (x1).toInt)))] := (fixP_eq (t := T_math_bits_Mul64) (by rfl) _).trans (by kernel_rfl)
theorem E_math_bits_Mul (x0 x1 : D) : FX 42 [x0, x1] =
  bindC (FX 44 [x0, x1]) 2 fun r2 =>
  some [(r2.getD 0 D.nil), (r2.getD 1 D.nil)] := (fixP_eq (t := T_math_bits_Mul) (by rfl) _).trans (by kernel_rfl)
noncomputable def W_slices_Repeat_pool_Event_pool_Event_1 (x0 x1 x2 x3 : D) : Eng.Fn := loopF fun g xs => evalP FX B_slices_Repeat_pool_Event_pool_Event_1 ([] ++ [g]) ([x0, x1, x2, x3] ++ xs)
theorem W_slices_Repeat_pool_Event_pool_Event_1_eq (x0 x1 x2 x3 : D) (a0 a1 : D) : W_slices_Repeat_pool_Event_pool_Event_1 x0 x1 x2 x3 [a0, a1] =
  if (decide ((a0).toInt < (((a1).toL).length : Int))) = true then
  if (decide ((0 : Int) ≤ (a0).toInt)) = true then
    if (decide ((a0).toInt ≤ (((a1).toL).length : Int))) = true then
      if (decide ((((a1).toL).length : Int) ≤ (((a1).toL).length : Int))) = true then
        if (decide ((0 : Int) ≤ (0 : Int))) = true then
          if (decide ((0 : Int) ≤ (a0).toInt)) = true then
            if (decide ((a0).toInt ≤ (((a1).toL).length : Int))) = true then
              (W_slices_Repeat_pool_Event_pool_Event_1 x0 x1 x2 x3) [(D.int (IntKind.i64.wrap ((a0).toInt + ((if (decide (((((((a1).toL).drop ((0 : Int)).toNat).take (((a0).toInt).toNat - ((0 : Int)).toNat))).length : Int) ≤ ((((((a1).toL).drop ((a0).toInt).toNat).take (((((a1).toL).length : Int)).toNat - ((a0).toInt).toNat))).length : Int))) = true then (D.int ((((((a1).toL).drop ((0 : Int)).toNat).take (((a0).toInt).toNat - ((0 : Int)).toNat))).length : Int)) else (D.int ((((((a1).toL).drop ((a0).toInt).toNat).take (((((a1).toL).length : Int)).toNat - ((a0).toInt).toNat))).length : Int)))).toInt))), (D.agg (((((a1).toL).drop ((0 : Int)).toNat).take (((a0).toInt).toNat - ((0 : Int)).toNat)) ++ ((((((((a1).toL).drop ((0 : Int)).toNat).take (((a0).toInt).toNat - ((0 : Int)).toNat))).drop ((0 : Int)).toNat).take ((((if (decide (((((((a1).toL).drop ((0 : Int)).toNat).take (((a0).toInt).toNat - ((0 : Int)).toNat))).length : Int) ≤ ((((((a1).toL).drop ((a0).toInt).toNat).take (((((a1).toL).length : Int)).toNat - ((a0).toInt).toNat))).length : Int))) = true then (D.int ((((((a1).toL).drop ((0 : Int)).toNat).take (((a0).toInt).toNat - ((0 : Int)).toNat))).length : Int)) else (D.int ((((((a1).toL).drop ((a0).toInt).toNat).take (((((a1).toL).length : Int)).toNat - ((a0).toInt).toNat))).length : Int)))).toInt).toNat - ((0 : Int)).toNat)) ++ (((((((a1).toL).drop ((a0).toInt).toNat).take (((((a1).toL).length : Int)).toNat - ((a0).toInt).toNat))).drop (((if (decide (((((((a1).toL).drop ((0 : Int)).toNat).take (((a0).toInt).toNat - ((0 : Int)).toNat))).length : Int) ≤ ((((((a1).toL).drop ((a0).toInt).toNat).take (((((a1).toL).length : Int)).toNat - ((a0).toInt).toNat))).length : Int))) = true then (D.int ((((((a1).toL).drop ((0 : Int)).toNat).take (((a0).toInt).toNat - ((0 : Int)).toNat))).length : Int)) else (D.int ((((((a1).toL).drop ((a0).toInt).toNat).take (((((a1).toL).length : Int)).toNat - ((a0).toInt).toNat))).length : Int)))).toInt).toNat).take ((((((((a1).toL).drop ((a0).toInt).toNat).take (((((a1).toL).length : Int)).toNat - ((a0).toInt).toNat))).length : Int)).toNat - (((if (decide (((((((a1).toL).drop ((0 : Int)).toNat).take (((a0).toInt).toNat - ((0 : Int)).toNat))).length : Int) ≤ ((((((a1).toL).drop ((a0).toInt).toNat).take (((((a1).toL).length : Int)).toNat - ((a0).toInt).toNat))).length : Int))) = true then (D.int ((((((a1).toL).drop ((0 : Int)).toNat).take (((a0).toInt).toNat - ((0 : Int)).toNat))).length : Int)) else (D.int ((((((a1).toL).drop ((a0).toInt).toNat).take (((((a1).toL).length : Int)).toNat - ((a0).toInt).toNat))).length : Int)))).toInt).toNat)))))]
              else none
            else none
          else none
        else none
      else none
    else none
  else
  some [a1] := (loopP_eq FX B_slices_Repeat_pool_Event_pool_Event_1 [] [x0, x1, x2, x3] _).trans (by kernel_rfl)
theorem E_slices_Repeat_pool_Event_pool_Event (x0 x1 : D) : FX 36 [x0, x1] =
  if (decide ((x1).toInt < (0 : Int))) = true then
  if false = true then
    some []
    else none
  else
  bindC (FX 42 [(D.int (IntKind.u64.wrap (((x0).toL).length : Int))), (D.int (IntKind.u64.wrap (x1).toInt))]) 2 fun r2 =>
    if (decide (((r2.getD 0 D.nil)).toInt > (0 : Int))) = true then
    if false = true then
      some []
      else none
    else
    if (decide (((r2.getD 1 D.nil)).toInt > (9223372036854775807 : Int))) = true then
      if false = true then
        some []
        else none
      else
      if (decide ((IntKind.i64.wrap ((r2.getD 1 D.nil)).toInt) ≥ (0 : Int))) = true then
        if (decide ((IntKind.i64.wrap ((r2.getD 1 D.nil)).toInt) ≤ (1466015503701 : Int))) = true then
          W_slices_Repeat_pool_Event_pool_Event_1 x0 x1 (r2.getD 0 D.nil) (r2.getD 1 D.nil) [(if (decide ((((x0).toL).length : Int) ≤ (((List.replicate ((IntKind.i64.wrap ((r2.getD 1 D.nil)).toInt)).toNat (D.agg ((D.int (0 : Int)) :: ((D.int (0 : Int)) :: ((D.int (0 : Int)) :: ((D.int (0 : Int)) :: ((D.int (0 : Int)) :: ((D.int (0 : Int)) :: ((D.int (0 : Int)) :: ((D.int (0 : Int)) :: ((D.int (0 : Int)) :: ((D.int (0 : Int)) :: ((D.int (0 : Int)) :: ((D.int (0 : Int)) :: []))))))))))))))).length : Int))) = true then (D.int (((x0).toL).length : Int)) else (D.int (((List.replicate ((IntKind.i64.wrap ((r2.getD 1 D.nil)).toInt)).toNat (D.agg ((D.int (0 : Int)) :: ((D.int (0 : Int)) :: ((D.int (0 : Int)) :: ((D.int (0 : Int)) :: ((D.int (0 : Int)) :: ((D.int (0 : Int)) :: ((D.int (0 : Int)) :: ((D.int (0 : Int)) :: ((D.int (0 : Int)) :: ((D.int (0 : Int)) :: ((D.int (0 : Int)) :: ((D.int (0 : Int)) :: []))))))))))))))).length : Int))), (D.agg (((((x0).toL).drop ((0 : Int)).toNat).take ((((if (decide ((((x0).toL).length : Int) ≤ (((List.replicate ((IntKind.i64.wrap ((r2.getD 1 D.nil)).toInt)).toNat (D.agg ((D.int (0 : Int)) :: ((D.int (0 : Int)) :: ((D.int (0 : Int)) :: ((D.int (0 : Int)) :: ((D.int (0 : Int)) :: ((D.int (0 : Int)) :: ((D.int (0 : Int)) :: ((D.int (0 : Int)) :: ((D.int (0 : Int)) :: ((D.int (0 : Int)) :: ((D.int (0 : Int)) :: ((D.int (0 : Int)) :: []))))))))))))))).length : Int))) = true then (D.int (((x0).toL).length : Int)) else (D.int (((List.replicate ((IntKind.i64.wrap ((r2.getD 1 D.nil)).toInt)).toNat (D.agg ((D.int (0 : Int)) :: ((D.int (0 : Int)) :: ((D.int (0 : Int)) :: ((D.int (0 : Int)) :: ((D.int (0 : Int)) :: ((D.int (0 : Int)) :: ((D.int (0 : Int)) :: ((D.int (0 : Int)) :: ((D.int (0 : Int)) :: ((D.int (0 : Int)) :: ((D.int (0 : Int)) :: ((D.int (0 : Int)) :: []))))))))))))))).length : Int)))).toInt).toNat - ((0 : Int)).toNat)) ++ ((((List.replicate ((IntKind.i64.wrap ((r2.getD 1 D.nil)).toInt)).toNat (D.agg ((D.int (0 : Int)) :: ((D.int (0 : Int)) :: ((D.int (0 : Int)) :: ((D.int (0 : Int)) :: ((D.int (0 : Int)) :: ((D.int (0 : Int)) :: ((D.int (0 : Int)) :: ((D.int (0 : Int)) :: ((D.int (0 : Int)) :: ((D.int (0 : Int)) :: ((D.int (0 : Int)) :: ((D.int (0 : Int)) :: []))))))))))))))).drop (((if (decide ((((x0).toL).length : Int) ≤ (((List.replicate ((IntKind.i64.wrap ((r2.getD 1 D.nil)).toInt)).toNat (D.agg ((D.int (0 : Int)) :: ((D.int (0 : Int)) :: ((D.int (0 : Int)) :: ((D.int (0 : Int)) :: ((D.int (0 : Int)) :: ((D.int (0 : Int)) :: ((D.int (0 : Int)) :: ((D.int (0 : Int)) :: ((D.int (0 : Int)) :: ((D.int (0 : Int)) :: ((D.int (0 : Int)) :: ((D.int (0 : Int)) :: []))))))))))))))).length : Int))) = true then (D.int (((x0).toL).length : Int)) else (D.int (((List.replicate ((IntKind.i64.wrap ((r2.getD 1 D.nil)).toInt)).toNat (D.agg ((D.int (0 : Int)) :: ((D.int (0 : Int)) :: ((D.int (0 : Int)) :: ((D.int (0 : Int)) :: ((D.int (0 : Int)) :: ((D.int (0 : Int)) :: ((D.int (0 : Int)) :: ((D.int (0 : Int)) :: ((D.int (0 : Int)) :: ((D.int (0 : Int)) :: ((D.int (0 : Int)) :: ((D.int (0 : Int)) :: []))))))))))))))).length : Int)))).toInt).toNat).take (((((List.replicate ((IntKind.i64.wrap ((r2.getD 1 D.nil)).toInt)).toNat (D.agg ((D.int (0 : Int)) :: ((D.int (0 : Int)) :: ((D.int (0 : Int)) :: ((D.int (0 : Int)) :: ((D.int (0 : Int)) :: ((D.int (0 : Int)) :: ((D.int (0 : Int)) :: ((D.int (0 : Int)) :: ((D.int (0 : Int)) :: ((D.int (0 : Int)) :: ((D.int (0 : Int)) :: ((D.int (0 : Int)) :: []))))))))))))))).length : Int)).toNat - (((if (decide ((((x0).toL).length : Int) ≤ (((List.replicate ((IntKind.i64.wrap ((r2.getD 1 D.nil)).toInt)).toNat (D.agg ((D.int (0 : Int)) :: ((D.int (0 : Int)) :: ((D.int (0 : Int)) :: ((D.int (0 : Int)) :: ((D.int (0 : Int)) :: ((D.int (0 : Int)) :: ((D.int (0 : Int)) :: ((D.int (0 : Int)) :: ((D.int (0 : Int)) :: ((D.int (0 : Int)) :: ((D.int (0 : Int)) :: ((D.int (0 : Int)) :: []))))))))))))))).length : Int))) = true then (D.int (((x0).toL).length : Int)) else (D.int (((List.replicate ((IntKind.i64.wrap ((r2.getD 1 D.nil)).toInt)).toNat (D.agg ((D.int (0 : Int)) :: ((D.int (0 : Int)) :: ((D.int (0 : Int)) :: ((D.int (0 : Int)) :: ((D.int (0 : Int)) :: ((D.int (0 : Int)) :: ((D.int (0 : Int)) :: ((D.int (0 : Int)) :: ((D.int (0 : Int)) :: ((D.int (0 : Int)) :: ((D.int (0 : Int)) :: ((D.int (0 : Int)) :: []))))))))))))))).length : Int)))).toInt).toNat))))]
          else none
        else none := (fixP_eq (t := T_slices_Repeat_pool_Event_pool_Event) (by rfl) _).trans (by kernel_rfl)
theorem E_plan_pick (x0 : D) : FX 37 [x0] =
  some [(D.int (3 : Int)), x0, (D.int (0 : Int)), (D.int (0 : Int)), (D.int (0 : Int)), (D.int (0 : Int)), (D.int (0 : Int)), (D.int (0 : Int)), (D.int (0 : Int)), (D.int (0 : Int)), (D.int (0 : Int)), (D.int (0 : Int))] := (fixP_eq (t := T_plan_pick) (by rfl) _).trans (by kernel_rfl)
theorem E_plan_Burst (x0 x1 : D) : FX 23 [x0, x1] =
  bindC (FX 37 [x0]) 12 fun r2 =>
  bindC (FX 36 [(D.agg ((D.agg ((r2.getD 0 D.nil) :: ((r2.getD 1 D.nil) :: ((r2.getD 2 D.nil) :: ((r2.getD 3 D.nil) :: ((r2.getD 4 D.nil) :: ((r2.getD 5 D.nil) :: ((r2.getD 6 D.nil) :: ((r2.getD 7 D.nil) :: ((r2.getD 8 D.nil) :: ((r2.getD 9 D.nil) :: ((r2.getD 10 D.nil) :: ((r2.getD 11 D.nil) :: []))))))))))))) :: [])), (if (decide (((if (decide ((65536 : Int) < (x1).toInt)) = true then (D.int (65536 : Int)) else x1)).toInt > (0 : Int))) = true then (if (decide ((65536 : Int) < (x1).toInt)) = true then (D.int (65536 : Int)) else x1) else (D.int (0 : Int)))]) 1 fun r14 =>
  some [(r14.getD 0 D.nil)] := (fixP_eq (t := T_plan_Burst) (by rfl) _).trans (by kernel_rfl)
theorem E_law21_awake : FX 8 [] =
  bindC (FX 23 [(D.int (2 : Int)), (D.int (3 : Int))]) 1 fun r0 =>
  bindC (FX 23 [(D.int (0 : Int)), (D.int (1 : Int))]) 1 fun r1 =>
  if (decide ((((((r0.getD 0 D.nil)).toL ++ ((r1.getD 0 D.nil)).toL)).length : Int) ≤ (1466015503701 : Int))) = true then
  bindC (FX 18 [(D.agg (((r0.getD 0 D.nil)).toL ++ ((r1.getD 0 D.nil)).toL))]) 1 fun r2 =>
    if (((((r2.getD 0 D.nil)).toL).length : Int) == (2 : Int)) = true then
    if (decide ((0 : Int) < ((((r2.getD 0 D.nil)).toL).length : Int))) = true then
      if ((((((((((r2.getD 0 D.nil)).toL).getD ((0 : Int)).toNat D.nil)).toL).getD 0 D.nil)).toInt == (2 : Int)) && (((((((((r2.getD 0 D.nil)).toL).getD ((0 : Int)).toNat D.nil)).toL).getD 1 D.nil)).toInt == (3 : Int))) = true then
        if (decide ((1 : Int) < ((((r2.getD 0 D.nil)).toL).length : Int))) = true then
          some [(D.bool ((((((((((r2.getD 0 D.nil)).toL).getD ((1 : Int)).toNat D.nil)).toL).getD 0 D.nil)).toInt == (0 : Int)) && (((((((((r2.getD 0 D.nil)).toL).getD ((1 : Int)).toNat D.nil)).toL).getD 1 D.nil)).toInt == (1 : Int))))]
          else none
        else
        some [(D.bool false)]
      else none
    else
    some [(D.bool false)]
  else none := (fixP_eq (t := T_law21_awake) (by rfl) _).trans (by kernel_rfl)
noncomputable def W_law21_events_1 (x0 : D) : Eng.Fn := loopF fun g xs => evalP FX B_law21_events_1 ([] ++ [g]) ([x0] ++ xs)
theorem W_law21_events_1_eq (x0 : D) (a0 a1 : D) : W_law21_events_1 x0 [a0, a1] =
  if (decide ((a0).toInt < (((x0).toL).length : Int))) = true then
  if (decide ((a0).toInt ≥ (0 : Int))) = true then
    if (decide ((a0).toInt < (((x0).toL).length : Int))) = true then
      if (decide (((((x0).toL).getD ((a0).toInt).toNat D.nil)).toInt < (0 : Int))) = true then
        if (decide (((((a1).toL ++ ((D.agg ((D.int (2 : Int)) :: ((D.int (0 : Int)) :: ((D.int (1 : Int)) :: ((D.int (0 : Int)) :: ((D.int (0 : Int)) :: ((D.int (0 : Int)) :: ((D.int (0 : Int)) :: ((D.int (0 : Int)) :: ((D.int (0 : Int)) :: ((D.int (0 : Int)) :: ((D.int (0 : Int)) :: ((D.int (0 : Int)) :: []))))))))))))) :: []))).length : Int) ≤ (1466015503701 : Int))) = true then
          (W_law21_events_1 x0) [(D.int (IntKind.i64.wrap ((a0).toInt + (1 : Int)))), (D.agg ((a1).toL ++ ((D.agg ((D.int (2 : Int)) :: ((D.int (0 : Int)) :: ((D.int (1 : Int)) :: ((D.int (0 : Int)) :: ((D.int (0 : Int)) :: ((D.int (0 : Int)) :: ((D.int (0 : Int)) :: ((D.int (0 : Int)) :: ((D.int (0 : Int)) :: ((D.int (0 : Int)) :: ((D.int (0 : Int)) :: ((D.int (0 : Int)) :: []))))))))))))) :: [])))]
          else none
        else
        if (decide (((((a1).toL ++ ((D.agg ((D.int (3 : Int)) :: ((((x0).toL).getD ((a0).toInt).toNat D.nil) :: ((D.int (0 : Int)) :: ((D.int (0 : Int)) :: ((D.int (0 : Int)) :: ((D.int (0 : Int)) :: ((D.int (0 : Int)) :: ((D.int (0 : Int)) :: ((D.int (0 : Int)) :: ((D.int (0 : Int)) :: ((D.int (0 : Int)) :: ((D.int (0 : Int)) :: []))))))))))))) :: []))).length : Int) ≤ (1466015503701 : Int))) = true then
          (W_law21_events_1 x0) [(D.int (IntKind.i64.wrap ((a0).toInt + (1 : Int)))), (D.agg ((a1).toL ++ ((D.agg ((D.int (3 : Int)) :: ((((x0).toL).getD ((a0).toInt).toNat D.nil) :: ((D.int (0 : Int)) :: ((D.int (0 : Int)) :: ((D.int (0 : Int)) :: ((D.int (0 : Int)) :: ((D.int (0 : Int)) :: ((D.int (0 : Int)) :: ((D.int (0 : Int)) :: ((D.int (0 : Int)) :: ((D.int (0 : Int)) :: ((D.int (0 : Int)) :: []))))))))))))) :: [])))]
          else none
      else none
    else none
  else
  some [a1] := (loopP_eq FX B_law21_events_1 [] [x0] _).trans (by kernel_rfl)
theorem E_law21_events (x0 : D) : FX 9 [x0] =
  W_law21_events_1 x0 [(D.int (0 : Int)), (D.agg [])] := (fixP_eq (t := T_law21_events) (by rfl) _).trans (by kernel_rfl)
noncomputable def W_ref21_Mix_3 (x0 x1 x2 x3 x4 : D) (g0 g1 : Eng.Fn) : Eng.Fn := loopF fun g xs => evalP FX B_ref21_Mix_3 ([g0, g1] ++ [g]) ([x0, x1, x2, x3, x4] ++ xs)
theorem W_ref21_Mix_3_eq (x0 x1 x2 x3 x4 : D) (g0 g1 : Eng.Fn) (a0 a1 : D) : W_ref21_Mix_3 x0 x1 x2 x3 x4 g0 g1 [a0, a1] =
  if (decide ((a0).toInt < (((x0).toL).length : Int))) = true then
  if (decide ((a0).toInt ≥ (0 : Int))) = true then
    if (decide ((a0).toInt < (((x0).toL).length : Int))) = true then
      if (decide ((x3).toInt < ((((((x0).toL).getD ((a0).toInt).toNat D.nil)).toL).length : Int))) = true then
        if (decide ((a0).toInt ≥ (0 : Int))) = true then
          if (decide ((a0).toInt < (((x0).toL).length : Int))) = true then
            if (decide ((x3).toInt ≥ (0 : Int))) = true then
              if (decide ((x3).toInt < ((((((x0).toL).getD ((a0).toInt).toNat D.nil)).toL).length : Int))) = true then
                if (decide (((((a1).toL ++ (((((((x0).toL).getD ((a0).toInt).toNat D.nil)).toL).getD ((x3).toInt).toNat D.nil) :: []))).length : Int) ≤ (17592186044416 : Int))) = true then
                  (W_ref21_Mix_3 x0 x1 x2 x3 x4 g0 g1) [(D.int (IntKind.i64.wrap ((a0).toInt + (1 : Int)))), (D.agg ((a1).toL ++ (((((((x0).toL).getD ((a0).toInt).toNat D.nil)).toL).getD ((x3).toInt).toNat D.nil) :: [])))]
                  else none
                else none
              else none
            else none
          else none
        else
        (W_ref21_Mix_3 x0 x1 x2 x3 x4 g0 g1) [(D.int (IntKind.i64.wrap ((a0).toInt + (1 : Int)))), a1]
      else none
    else none
  else
  g1 [(D.int (IntKind.i64.wrap ((x3).toInt + (1 : Int)))), a1] := (loopP_eq FX B_ref21_Mix_3 [g0, g1] [x0, x1, x2, x3, x4] _).trans (by kernel_rfl)
noncomputable def W_ref21_Mix_2 (x0 x1 x2 : D) (g0 : Eng.Fn) : Eng.Fn := loopF fun g xs => evalP FX B_ref21_Mix_2 ([g0] ++ [g]) ([x0, x1, x2] ++ xs)
theorem W_ref21_Mix_2_eq (x0 x1 x2 : D) (g0 : Eng.Fn) (a0 a1 : D) : W_ref21_Mix_2 x0 x1 x2 g0 [a0, a1] =
  if (decide ((a0).toInt < (x1).toInt)) = true then
  W_ref21_Mix_3 x0 x1 x2 a0 a1 g0 ((W_ref21_Mix_2 x0 x1 x2 g0)) [(D.int (0 : Int)), a1]
  else
  some [a1] := (loopP_eq FX B_ref21_Mix_2 [g0] [x0, x1, x2] _).trans (by kernel_rfl)
noncomputable def W_ref21_Mix_1 (x0 : D) : Eng.Fn := loopF fun g xs => evalP FX B_ref21_Mix_1 ([] ++ [g]) ([x0] ++ xs)
theorem W_ref21_Mix_1_eq (x0 : D) (a0 a1 : D) : W_ref21_Mix_1 x0 [a0, a1] =
  if (decide ((a1).toInt < (((x0).toL).length : Int))) = true then
  if (decide ((a1).toInt ≥ (0 : Int))) = true then
    if (decide ((a1).toInt < (((x0).toL).length : Int))) = true then
      if (decide (((((((x0).toL).getD ((a1).toInt).toNat D.nil)).toL).length : Int) > (a0).toInt)) = true then
        if (decide ((a1).toInt ≥ (0 : Int))) = true then
          if (decide ((a1).toInt < (((x0).toL).length : Int))) = true then
            (W_ref21_Mix_1 x0) [(D.int ((((((x0).toL).getD ((a1).toInt).toNat D.nil)).toL).length : Int)), (D.int (IntKind.i64.wrap ((a1).toInt + (1 : Int))))]
            else none
          else none
        else
        (W_ref21_Mix_1 x0) [a0, (D.int (IntKind.i64.wrap ((a1).toInt + (1 : Int))))]
      else none
    else none
  else
  W_ref21_Mix_2 x0 a0 a1 ((W_ref21_Mix_1 x0)) [(D.int (0 : Int)), (D.agg [])] := (loopP_eq FX B_ref21_Mix_1 [] [x0] _).trans (by kernel_rfl)
theorem E_ref21_Mix (x0 : D) : FX 10 [x0] =
  W_ref21_Mix_1 x0 [(D.int (0 : Int)), (D.int (0 : Int))] := (fixP_eq (t := T_ref21_Mix) (by rfl) _).trans (by kernel_rfl)
noncomputable def W_plan_Mix_2 (x0 x1 x2 : D) (g0 : Eng.Fn) : Eng.Fn := loopF fun g xs => evalP FX B_plan_Mix_2 ([g0] ++ [g]) ([x0, x1, x2] ++ xs)
theorem W_plan_Mix_2_eq (x0 x1 x2 : D) (g0 : Eng.Fn) (a0 a1 a2 : D) : W_plan_Mix_2 x0 x1 x2 g0 [a0, a1, a2] =
  if (decide ((a1).toInt < (((x0).toL).length : Int))) = true then
  if (decide ((a1).toInt ≥ (0 : Int))) = true then
    if (decide ((a1).toInt < (((x0).toL).length : Int))) = true then
      if (decide ((x1).toInt < ((((((x0).toL).getD ((a1).toInt).toNat D.nil)).toL).length : Int))) = true then
        if (decide ((x1).toInt ≥ (0 : Int))) = true then
          if (decide ((x1).toInt < ((((((x0).toL).getD ((a1).toInt).toNat D.nil)).toL).length : Int))) = true then
            if (decide (((((a2).toL ++ ((D.agg ((((((((((x0).toL).getD ((a1).toInt).toNat D.nil)).toL).getD ((x1).toInt).toNat D.nil)).toL).getD 0 D.nil) :: ((((((((((x0).toL).getD ((a1).toInt).toNat D.nil)).toL).getD ((x1).toInt).toNat D.nil)).toL).getD 1 D.nil) :: ((((((((((x0).toL).getD ((a1).toInt).toNat D.nil)).toL).getD ((x1).toInt).toNat D.nil)).toL).getD 2 D.nil) :: ((((((((((x0).toL).getD ((a1).toInt).toNat D.nil)).toL).getD ((x1).toInt).toNat D.nil)).toL).getD 3 D.nil) :: ((((((((((x0).toL).getD ((a1).toInt).toNat D.nil)).toL).getD ((x1).toInt).toNat D.nil)).toL).getD 4 D.nil) :: ((((((((((x0).toL).getD ((a1).toInt).toNat D.nil)).toL).getD ((x1).toInt).toNat D.nil)).toL).getD 5 D.nil) :: ((((((((((x0).toL).getD ((a1).toInt).toNat D.nil)).toL).getD ((x1).toInt).toNat D.nil)).toL).getD 6 D.nil) :: ((((((((((x0).toL).getD ((a1).toInt).toNat D.nil)).toL).getD ((x1).toInt).toNat D.nil)).toL).getD 7 D.nil) :: ((((((((((x0).toL).getD ((a1).toInt).toNat D.nil)).toL).getD ((x1).toInt).toNat D.nil)).toL).getD 8 D.nil) :: ((((((((((x0).toL).getD ((a1).toInt).toNat D.nil)).toL).getD ((x1).toInt).toNat D.nil)).toL).getD 9 D.nil) :: ((((((((((x0).toL).getD ((a1).toInt).toNat D.nil)).toL).getD ((x1).toInt).toNat D.nil)).toL).getD 10 D.nil) :: ((((((((((x0).toL).getD ((a1).toInt).toNat D.nil)).toL).getD ((x1).toInt).toNat D.nil)).toL).getD 11 D.nil) :: []))))))))))))) :: []))).length : Int) ≤ (1466015503701 : Int))) = true then
              (W_plan_Mix_2 x0 x1 x2 g0) [(D.bool true), (D.int (IntKind.i64.wrap ((a1).toInt + (1 : Int)))), (D.agg ((a2).toL ++ ((D.agg ((((((((((x0).toL).getD ((a1).toInt).toNat D.nil)).toL).getD ((x1).toInt).toNat D.nil)).toL).getD 0 D.nil) :: ((((((((((x0).toL).getD ((a1).toInt).toNat D.nil)).toL).getD ((x1).toInt).toNat D.nil)).toL).getD 1 D.nil) :: ((((((((((x0).toL).getD ((a1).toInt).toNat D.nil)).toL).getD ((x1).toInt).toNat D.nil)).toL).getD 2 D.nil) :: ((((((((((x0).toL).getD ((a1).toInt).toNat D.nil)).toL).getD ((x1).toInt).toNat D.nil)).toL).getD 3 D.nil) :: ((((((((((x0).toL).getD ((a1).toInt).toNat D.nil)).toL).getD ((x1).toInt).toNat D.nil)).toL).getD 4 D.nil) :: ((((((((((x0).toL).getD ((a1).toInt).toNat D.nil)).toL).getD ((x1).toInt).toNat D.nil)).toL).getD 5 D.nil) :: ((((((((((x0).toL).getD ((a1).toInt).toNat D.nil)).toL).getD ((x1).toInt).toNat D.nil)).toL).getD 6 D.nil) :: ((((((((((x0).toL).getD ((a1).toInt).toNat D.nil)).toL).getD ((x1).toInt).toNat D.nil)).toL).getD 7 D.nil) :: ((((((((((x0).toL).getD ((a1).toInt).toNat D.nil)).toL).getD ((x1).toInt).toNat D.nil)).toL).getD 8 D.nil) :: ((((((((((x0).toL).getD ((a1).toInt).toNat D.nil)).toL).getD ((x1).toInt).toNat D.nil)).toL).getD 9 D.nil) :: ((((((((((x0).toL).getD ((a1).toInt).toNat D.nil)).toL).getD ((x1).toInt).toNat D.nil)).toL).getD 10 D.nil) :: ((((((((((x0).toL).getD ((a1).toInt).toNat D.nil)).toL).getD ((x1).toInt).toNat D.nil)).toL).getD 11 D.nil) :: []))))))))))))) :: [])))]
              else none
            else none
          else none
        else
        (W_plan_Mix_2 x0 x1 x2 g0) [a0, (D.int (IntKind.i64.wrap ((a1).toInt + (1 : Int)))), a2]
      else none
    else none
  else
  if (!(a0).toBool) = true then
    some [a2]
    else
    g0 [(D.int (IntKind.i64.wrap ((x1).toInt + (1 : Int)))), a2] := (loopP_eq FX B_plan_Mix_2 [g0] [x0, x1, x2] _).trans (by kernel_rfl)
noncomputable def W_plan_Mix_1 (x0 : D) : Eng.Fn := loopF fun g xs => evalP FX B_plan_Mix_1 ([] ++ [g]) ([x0] ++ xs)
theorem W_plan_Mix_1_eq (x0 : D) (a0 a1 : D) : W_plan_Mix_1 x0 [a0, a1] =
  W_plan_Mix_2 x0 a0 a1 ((W_plan_Mix_1 x0)) [(D.bool false), (D.int (0 : Int)), a1] := (loopP_eq FX B_plan_Mix_1 [] [x0] _).trans (by kernel_rfl)
theorem E_plan_Mix (x0 : D) : FX 11 [x0] =
  W_plan_Mix_1 x0 [(D.int (0 : Int)), (D.agg [])] := (fixP_eq (t := T_plan_Mix) (by rfl) _).trans (by kernel_rfl)
noncomputable def W_law21_same_1 (x0 x1 : D) : Eng.Fn := loopF fun g xs => evalP FX B_law21_same_1 ([] ++ [g]) ([x0, x1] ++ xs)
theorem W_law21_same_1_eq (x0 x1 : D) (a0 : D) : W_law21_same_1 x0 x1 [a0] =
  if (decide ((a0).toInt < (((x0).toL).length : Int))) = true then
  if (decide ((a0).toInt ≥ (0 : Int))) = true then
    if (decide ((a0).toInt < (((x0).toL).length : Int))) = true then
      if ((((((((x0).toL).getD ((a0).toInt).toNat D.nil)).toL).getD 0 D.nil)).toInt == (2 : Int)) = true then
        if (decide ((a0).toInt ≥ (0 : Int))) = true then
          if (decide ((a0).toInt < (((x1).toL).length : Int))) = true then
            if (decide (((((x1).toL).getD ((a0).toInt).toNat D.nil)).toInt < (0 : Int))) = true then
              (W_law21_same_1 x0 x1) [(D.int (IntKind.i64.wrap ((a0).toInt + (1 : Int))))]
              else
              if ((((((((x0).toL).getD ((a0).toInt).toNat D.nil)).toL).getD 0 D.nil)).toInt != (3 : Int)) = true then
                some [(D.bool false)]
                else
                if (decide ((a0).toInt ≥ (0 : Int))) = true then
                  if (decide ((a0).toInt < (((x1).toL).length : Int))) = true then
                    if ((((((((x0).toL).getD ((a0).toInt).toNat D.nil)).toL).getD 1 D.nil)).toInt != ((((x1).toL).getD ((a0).toInt).toNat D.nil)).toInt) = true then
                      some [(D.bool false)]
                      else
                      if ((((((((x0).toL).getD ((a0).toInt).toNat D.nil)).toL).getD 2 D.nil)).toInt != (0 : Int)) = true then
                        some [(D.bool false)]
                        else
                        (W_law21_same_1 x0 x1) [(D.int (IntKind.i64.wrap ((a0).toInt + (1 : Int))))]
                    else none
                  else none
            else none
          else none
        else
        if ((((((((x0).toL).getD ((a0).toInt).toNat D.nil)).toL).getD 0 D.nil)).toInt != (3 : Int)) = true then
          some [(D.bool false)]
          else
          if (decide ((a0).toInt ≥ (0 : Int))) = true then
            if (decide ((a0).toInt < (((x1).toL).length : Int))) = true then
              if ((((((((x0).toL).getD ((a0).toInt).toNat D.nil)).toL).getD 1 D.nil)).toInt != ((((x1).toL).getD ((a0).toInt).toNat D.nil)).toInt) = true then
                some [(D.bool false)]
                else
                if ((((((((x0).toL).getD ((a0).toInt).toNat D.nil)).toL).getD 2 D.nil)).toInt != (0 : Int)) = true then
                  some [(D.bool false)]
                  else
                  (W_law21_same_1 x0 x1) [(D.int (IntKind.i64.wrap ((a0).toInt + (1 : Int))))]
              else none
            else none
      else none
    else none
  else
  some [(D.bool true)] := (loopP_eq FX B_law21_same_1 [] [x0, x1] _).trans (by kernel_rfl)
theorem E_law21_same (x0 x1 : D) : FX 12 [x0, x1] =
  if ((((x0).toL).length : Int) != (((x1).toL).length : Int)) = true then
  some [(D.bool false)]
  else
  W_law21_same_1 x0 x1 [(D.int (0 : Int))] := (fixP_eq (t := T_law21_same) (by rfl) _).trans (by kernel_rfl)
noncomputable def W_slices_IndexFunc_pool_Event_pool_Event_1 (x0 x1 : D) : Eng.Fn := loopF fun g xs => evalP FX B_slices_IndexFunc_pool_Event_pool_Event_1 ([] ++ [g]) ([x0, x1] ++ xs)
theorem W_slices_IndexFunc_pool_Event_pool_Event_1_eq (x0 x1 : D) (a0 : D) : W_slices_IndexFunc_pool_Event_pool_Event_1 x0 x1 [a0] =
  if (decide ((a0).toInt < (((x0).toL).length : Int))) = true then
  if (decide ((a0).toInt ≥ (0 : Int))) = true then
    if (decide ((a0).toInt < (((x0).toL).length : Int))) = true then
      if (x1.isIf 30) = true then
        if (((((x1).inner).toL).length : Int) == (1 : Int)) = true then
          if (((((x1).inner).toL).getD 0 D.nil).isIf 3) = true then
            bindC (FX 30 [((((((x0).toL).getD ((a0).toInt).toNat D.nil)).toL).getD 0 D.nil), ((((((x0).toL).getD ((a0).toInt).toNat D.nil)).toL).getD 1 D.nil), ((((((x0).toL).getD ((a0).toInt).toNat D.nil)).toL).getD 2 D.nil), ((((((x0).toL).getD ((a0).toInt).toNat D.nil)).toL).getD 3 D.nil), ((((((x0).toL).getD ((a0).toInt).toNat D.nil)).toL).getD 4 D.nil), ((((((x0).toL).getD ((a0).toInt).toNat D.nil)).toL).getD 5 D.nil), ((((((x0).toL).getD ((a0).toInt).toNat D.nil)).toL).getD 6 D.nil), ((((((x0).toL).getD ((a0).toInt).toNat D.nil)).toL).getD 7 D.nil), ((((((x0).toL).getD ((a0).toInt).toNat D.nil)).toL).getD 8 D.nil), ((((((x0).toL).getD ((a0).toInt).toNat D.nil)).toL).getD 9 D.nil), ((((((x0).toL).getD ((a0).toInt).toNat D.nil)).toL).getD 10 D.nil), ((((((x0).toL).getD ((a0).toInt).toNat D.nil)).toL).getD 11 D.nil), (((((x1).inner).toL).getD 0 D.nil)).inner]) 1 fun r3 =>
              if ((r3.getD 0 D.nil)).toBool = true then
              some [a0]
              else
              (W_slices_IndexFunc_pool_Event_pool_Event_1 x0 x1) [(D.int (IntKind.i64.wrap ((a0).toInt + (1 : Int))))]
            else none
          else none
        else
        none
      else none
    else none
  else
  some [(D.int (-1 : Int))] := (loopP_eq FX B_slices_IndexFunc_pool_Event_pool_Event_1 [] [x0, x1] _).trans (by kernel_rfl)
theorem E_slices_IndexFunc_pool_Event_pool_Event (x0 x1 : D) : FX 40 [x0, x1] =
  W_slices_IndexFunc_pool_Event_pool_Event_1 x0 x1 [(D.int (0 : Int))] := (fixP_eq (t := T_slices_IndexFunc_pool_Event_pool_Event) (by rfl) _).trans (by kernel_rfl)
noncomputable def W_slices_DeleteFunc_pool_Event_pool_Event_1 (x0 x1 x2 : D) : Eng.Fn := loopF fun g xs => evalP FX B_slices_DeleteFunc_pool_Event_pool_Event_1 ([] ++ [g]) ([x0, x1, x2] ++ xs)
theorem W_slices_DeleteFunc_pool_Event_pool_Event_1_eq (x0 x1 x2 : D) (a0 a1 a2 : D) : W_slices_DeleteFunc_pool_Event_pool_Event_1 x0 x1 x2 [a0, a1, a2] =
  if (decide ((a1).toInt < (((a2).toL).length : Int))) = true then
  if (decide ((a1).toInt ≥ (0 : Int))) = true then
    if (decide ((a1).toInt < (((a2).toL).length : Int))) = true then
      if (x1.isIf 30) = true then
        if (((((x1).inner).toL).length : Int) == (1 : Int)) = true then
          if (((((x1).inner).toL).getD 0 D.nil).isIf 3) = true then
            bindC (FX 30 [((((((a2).toL).getD ((a1).toInt).toNat D.nil)).toL).getD 0 D.nil), ((((((a2).toL).getD ((a1).toInt).toNat D.nil)).toL).getD 1 D.nil), ((((((a2).toL).getD ((a1).toInt).toNat D.nil)).toL).getD 2 D.nil), ((((((a2).toL).getD ((a1).toInt).toNat D.nil)).toL).getD 3 D.nil), ((((((a2).toL).getD ((a1).toInt).toNat D.nil)).toL).getD 4 D.nil), ((((((a2).toL).getD ((a1).toInt).toNat D.nil)).toL).getD 5 D.nil), ((((((a2).toL).getD ((a1).toInt).toNat D.nil)).toL).getD 6 D.nil), ((((((a2).toL).getD ((a1).toInt).toNat D.nil)).toL).getD 7 D.nil), ((((((a2).toL).getD ((a1).toInt).toNat D.nil)).toL).getD 8 D.nil), ((((((a2).toL).getD ((a1).toInt).toNat D.nil)).toL).getD 9 D.nil), ((((((a2).toL).getD ((a1).toInt).toNat D.nil)).toL).getD 10 D.nil), ((((((a2).toL).getD ((a1).toInt).toNat D.nil)).toL).getD 11 D.nil), (((((x1).inner).toL).getD 0 D.nil)).inner]) 1 fun r6 =>
              if (!((r6.getD 0 D.nil)).toBool) = true then
              if (decide ((a0).toInt ≥ (0 : Int))) = true then
                if (decide ((a0).toInt < (((a2).toL).length : Int))) = true then
                  (W_slices_DeleteFunc_pool_Event_pool_Event_1 x0 x1 x2) [(D.int (IntKind.i64.wrap ((a0).toInt + (1 : Int)))), (D.int (IntKind.i64.wrap ((a1).toInt + (1 : Int)))), (D.agg (((a2).toL).set ((a0).toInt).toNat (D.agg (((((((a2).toL).getD ((a1).toInt).toNat D.nil)).toL).getD 0 D.nil) :: (((((((a2).toL).getD ((a1).toInt).toNat D.nil)).toL).getD 1 D.nil) :: (((((((a2).toL).getD ((a1).toInt).toNat D.nil)).toL).getD 2 D.nil) :: (((((((a2).toL).getD ((a1).toInt).toNat D.nil)).toL).getD 3 D.nil) :: (((((((a2).toL).getD ((a1).toInt).toNat D.nil)).toL).getD 4 D.nil) :: (((((((a2).toL).getD ((a1).toInt).toNat D.nil)).toL).getD 5 D.nil) :: (((((((a2).toL).getD ((a1).toInt).toNat D.nil)).toL).getD 6 D.nil) :: (((((((a2).toL).getD ((a1).toInt).toNat D.nil)).toL).getD 7 D.nil) :: (((((((a2).toL).getD ((a1).toInt).toNat D.nil)).toL).getD 8 D.nil) :: (((((((a2).toL).getD ((a1).toInt).toNat D.nil)).toL).getD 9 D.nil) :: (((((((a2).toL).getD ((a1).toInt).toNat D.nil)).toL).getD 10 D.nil) :: (((((((a2).toL).getD ((a1).toInt).toNat D.nil)).toL).getD 11 D.nil) :: [])))))))))))))))]
                  else none
                else none
              else
              (W_slices_DeleteFunc_pool_Event_pool_Event_1 x0 x1 x2) [a0, (D.int (IntKind.i64.wrap ((a1).toInt + (1 : Int)))), a2]
            else none
          else none
        else
        none
      else none
    else none
  else
  if (decide ((0 : Int) ≤ (a0).toInt)) = true then
    if (decide ((a0).toInt ≤ (((a2).toL).length : Int))) = true then
      if (decide ((((a2).toL).length : Int) ≤ (((a2).toL).length : Int))) = true then
        if (decide ((0 : Int) ≤ (0 : Int))) = true then
          if (decide ((0 : Int) ≤ (a0).toInt)) = true then
            if (decide ((a0).toInt ≤ (((((((a2).toL).drop ((0 : Int)).toNat).take (((a0).toInt).toNat - ((0 : Int)).toNat)) ++ (List.replicate (((((((a2).toL).drop ((a0).toInt).toNat).take (((((a2).toL).length : Int)).toNat - ((a0).toInt).toNat))).length : Int)).toNat (D.agg ((D.int (0 : Int)) :: ((D.int (0 : Int)) :: ((D.int (0 : Int)) :: ((D.int (0 : Int)) :: ((D.int (0 : Int)) :: ((D.int (0 : Int)) :: ((D.int (0 : Int)) :: ((D.int (0 : Int)) :: ((D.int (0 : Int)) :: ((D.int (0 : Int)) :: ((D.int (0 : Int)) :: ((D.int (0 : Int)) :: [])))))))))))))))).length : Int))) = true then
              some [(D.agg ((((((((a2).toL).drop ((0 : Int)).toNat).take (((a0).toInt).toNat - ((0 : Int)).toNat)) ++ (List.replicate (((((((a2).toL).drop ((a0).toInt).toNat).take (((((a2).toL).length : Int)).toNat - ((a0).toInt).toNat))).length : Int)).toNat (D.agg ((D.int (0 : Int)) :: ((D.int (0 : Int)) :: ((D.int (0 : Int)) :: ((D.int (0 : Int)) :: ((D.int (0 : Int)) :: ((D.int (0 : Int)) :: ((D.int (0 : Int)) :: ((D.int (0 : Int)) :: ((D.int (0 : Int)) :: ((D.int (0 : Int)) :: ((D.int (0 : Int)) :: ((D.int (0 : Int)) :: [])))))))))))))))).drop ((0 : Int)).toNat).take (((a0).toInt).toNat - ((0 : Int)).toNat)))]
              else none
            else none
          else none
        else none
      else none
    else none := (loopP_eq FX B_slices_DeleteFunc_pool_Event_pool_Event_1 [] [x0, x1, x2] _).trans (by kernel_rfl)
theorem E_slices_DeleteFunc_pool_Event_pool_Event (x0 x1 : D) : FX 28 [x0, x1] =
  bindC (FX 40 [x0, x1]) 1 fun r2 =>
  if (((r2.getD 0 D.nil)).toInt == (-1 : Int)) = true then
  some [x0]
  else
  W_slices_DeleteFunc_pool_Event_pool_Event_1 x0 x1 (r2.getD 0 D.nil) [(r2.getD 0 D.nil), (D.int (IntKind.i64.wrap (((r2.getD 0 D.nil)).toInt + (1 : Int)))), x0] := (fixP_eq (t := T_slices_DeleteFunc_pool_Event_pool_Event) (by rfl) _).trans (by kernel_rfl)
theorem E_slices_Clone_pool_Event_pool_Event (x0 : D) : FX 29 [x0] =
  if ((((x0).toL).length : Int) == (0 : Int)) = true then
  both (some [(D.agg [])]) (if (decide ((((x0).toL).length : Int) ≤ (1466015503701 : Int))) = true then
      some [x0]
      else none)
  else
  if (decide ((((x0).toL).length : Int) ≤ (1466015503701 : Int))) = true then
    some [x0]
    else none := (fixP_eq (t := T_slices_Clone_pool_Event_pool_Event) (by rfl) _).trans (by kernel_rfl)
theorem E_plan_Without_1 (x0 x1 x2 x3 x4 x5 x6 x7 x8 x9 x10 x11 x12 : D) : FX 30 [x0, x1, x2, x3, x4, x5, x6, x7, x8, x9, x10, x11, x12] =
  if ((x0).toInt == (3 : Int)) = true then
  if (!(x12).isNil) = true then
    some [(D.bool ((x1).toInt == ((((x12).toL).getD 0 D.nil)).toInt))]
    else none
  else
  some [(D.bool false)] := (fixP_eq (t := T_plan_Without_1) (by rfl) _).trans (by kernel_rfl)
theorem E_plan_Without (x0 x1 : D) : FX 13 [x0, x1] =
  bindC (FX 29 [x1]) 1 fun r2 =>
  bindC (FX 28 [(r2.getD 0 D.nil), (D.iface 30 (D.agg ((D.iface 3 (D.agg (x0 :: []))) :: [])))]) 1 fun r3 =>
  some [(r3.getD 0 D.nil)] := (fixP_eq (t := T_plan_Without) (by rfl) _).trans (by kernel_rfl)
noncomputable def W_law21_PlanMixes_2 (x0 x1 x2 x3 x4 x5 : D) (g0 : Eng.Fn) : Eng.Fn := loopF fun g xs => evalP FX B_law21_PlanMixes_2 ([g0] ++ [g]) ([x0, x1, x2, x3, x4, x5] ++ xs)
theorem W_law21_PlanMixes_2_eq (x0 x1 x2 x3 x4 x5 : D) (g0 : Eng.Fn) (a0 a1 : D) : W_law21_PlanMixes_2 x0 x1 x2 x3 x4 x5 g0 [a0, a1] =
  if (decide ((a0).toInt < (((x4).toL).length : Int))) = true then
  if (decide ((a0).toInt ≥ (0 : Int))) = true then
    if (decide ((a0).toInt < (((x4).toL).length : Int))) = true then
      if (((((x4).toL).getD ((a0).toInt).toNat D.nil)).toInt != (x1).toInt) = true then
        if (decide (((((a1).toL ++ ((((x4).toL).getD ((a0).toInt).toNat D.nil) :: []))).length : Int) ≤ (17592186044416 : Int))) = true then
          (W_law21_PlanMixes_2 x0 x1 x2 x3 x4 x5 g0) [(D.int (IntKind.i64.wrap ((a0).toInt + (1 : Int)))), (D.agg ((a1).toL ++ ((((x4).toL).getD ((a0).toInt).toNat D.nil) :: [])))]
          else none
        else
        if (decide (((((x4).toL).getD ((a0).toInt).toNat D.nil)).toInt < (0 : Int))) = true then
          if (decide (((((a1).toL ++ ((((x4).toL).getD ((a0).toInt).toNat D.nil) :: []))).length : Int) ≤ (17592186044416 : Int))) = true then
            (W_law21_PlanMixes_2 x0 x1 x2 x3 x4 x5 g0) [(D.int (IntKind.i64.wrap ((a0).toInt + (1 : Int)))), (D.agg ((a1).toL ++ ((((x4).toL).getD ((a0).toInt).toNat D.nil) :: [])))]
            else none
          else
          (W_law21_PlanMixes_2 x0 x1 x2 x3 x4 x5 g0) [(D.int (IntKind.i64.wrap ((a0).toInt + (1 : Int)))), a1]
      else none
    else none
  else
  bindC (FX 8 []) 1 fun r8 =>
    if ((r8.getD 0 D.nil)).toBool = true then
    bindC (FX 12 [x5, x4]) 1 fun r9 =>
      if ((r9.getD 0 D.nil)).toBool = true then
      bindC (FX 13 [x1, x5]) 1 fun r10 =>
        bindC (FX 12 [(r10.getD 0 D.nil), a1]) 1 fun r11 =>
        some [(r11.getD 0 D.nil)]
      else
      some [(D.bool false)]
    else
    some [(D.bool false)] := (loopP_eq FX B_law21_PlanMixes_2 [g0] [x0, x1, x2, x3, x4, x5] _).trans (by kernel_rfl)
noncomputable def W_law21_PlanMixes_1 (x0 x1 : D) : Eng.Fn := loopF fun g xs => evalP FX B_law21_PlanMixes_1 ([] ++ [g]) ([x0, x1] ++ xs)
theorem W_law21_PlanMixes_1_eq (x0 x1 : D) (a0 a1 : D) : W_law21_PlanMixes_1 x0 x1 [a0, a1] =
  if (decide ((a0).toInt < (((x0).toL).length : Int))) = true then
  if (decide ((a0).toInt ≥ (0 : Int))) = true then
    if (decide ((a0).toInt < (((x0).toL).length : Int))) = true then
      if (decide (((((((x0).toL).getD ((a0).toInt).toNat D.nil)).toL).length : Int) > (50 : Int))) = true then
        bindC (FX 8 []) 1 fun r4 =>
          some [(r4.getD 0 D.nil)]
        else
        bindC (FX 9 [(((x0).toL).getD ((a0).toInt).toNat D.nil)]) 1 fun r4 =>
          if (decide (((((a1).toL ++ ((r4.getD 0 D.nil) :: []))).length : Int) ≤ (5864062014805 : Int))) = true then
          (W_law21_PlanMixes_1 x0 x1) [(D.int (IntKind.i64.wrap ((a0).toInt + (1 : Int)))), (D.agg ((a1).toL ++ ((r4.getD 0 D.nil) :: [])))]
          else none
      else none
    else none
  else
  bindC (FX 10 [x0]) 1 fun r4 =>
    bindC (FX 11 [a1]) 1 fun r5 =>
    W_law21_PlanMixes_2 x0 x1 a0 a1 (r4.getD 0 D.nil) (r5.getD 0 D.nil) ((W_law21_PlanMixes_1 x0 x1)) [(D.int (0 : Int)), (D.agg [])] := (loopP_eq FX B_law21_PlanMixes_1 [] [x0, x1] _).trans (by kernel_rfl)
theorem E_law21_PlanMixes (x0 x1 : D) : FX 3 [x0, x1] =
  if (decide ((((x0).toL).length : Int) > (20 : Int))) = true then
  bindC (FX 8 []) 1 fun r2 =>
    some [(r2.getD 0 D.nil)]
  else
  W_law21_PlanMixes_1 x0 x1 [(D.int (0 : Int)), (D.agg [])] := (fixP_eq (t := T_law21_PlanMixes) (by rfl) _).trans (by kernel_rfl)
theorem E_rules_limits (x0 x1 x2 x3 x4 x5 x6 : D) : FX 31 [x0, x1, x2, x3, x4, x5, x6] =
  some [(D.agg ((D.agg ((D.str ((.mk #[112, 97, 114, 116, 115]))) :: (x0 :: ((D.int (1 : Int)) :: ((D.int (6 : Int)) :: []))))) :: ((D.agg ((D.str ((.mk #[99, 101, 108, 108, 115]))) :: (x1 :: ((D.int (1 : Int)) :: ((D.int (4 : Int)) :: []))))) :: ((D.agg ((D.str ((.mk #[110, 97, 109, 101, 115]))) :: (x2 :: ((D.int (1 : Int)) :: ((D.int (3 : Int)) :: []))))) :: ((D.agg ((D.str ((.mk #[98, 97, 110, 100, 115]))) :: (x3 :: ((D.int (1 : Int)) :: ((D.int (4 : Int)) :: []))))) :: ((D.agg ((D.str ((.mk #[112, 114, 111, 98, 101, 115]))) :: (x4 :: ((D.int (0 : Int)) :: ((D.int (4 : Int)) :: []))))) :: ((D.agg ((D.str ((.mk #[102, 105, 108, 108, 115]))) :: (x5 :: ((D.int (1 : Int)) :: ((D.int (4 : Int)) :: []))))) :: ((D.agg ((D.str ((.mk #[103, 101, 110, 115]))) :: (x6 :: ((D.int (1 : Int)) :: ((D.int (15 : Int)) :: []))))) :: []))))))))] := (fixP_eq (t := T_rules_limits) (by rfl) _).trans (by kernel_rfl)
theorem E_fault_At (x0 x1 : D) : FX 32 [x0, x1] =
  if (x1).isNil = true then
  some [D.nil]
  else
  some [(D.iface 81 (D.agg (x0 :: (x1 :: []))))] := (fixP_eq (t := T_fault_At) (by rfl) _).trans (by kernel_rfl)
theorem E_fault_With (x0 x1 : D) : FX 33 [x0, x1] =
  if (x1).isNil = true then
  some [D.nil]
  else
  some [(D.iface 84 (D.agg (x0 :: (x1 :: []))))] := (fixP_eq (t := T_fault_With) (by rfl) _).trans (by kernel_rfl)
noncomputable def W_rules_New_1 (x0 x1 x2 x3 x4 x5 x6 x7 : D) : Eng.Fn := loopF fun g xs => evalP FX B_rules_New_1 ([] ++ [g]) ([x0, x1, x2, x3, x4, x5, x6, x7] ++ xs)
theorem W_rules_New_1_eq (x0 x1 x2 x3 x4 x5 x6 x7 : D) (a0 : D) : W_rules_New_1 x0 x1 x2 x3 x4 x5 x6 x7 [a0] =
  if (decide ((a0).toInt < (((x7).toL).length : Int))) = true then
  if (decide ((a0).toInt ≥ (0 : Int))) = true then
    if (decide ((a0).toInt < (((x7).toL).length : Int))) = true then
      if (decide ((((((((x7).toL).getD ((a0).toInt).toNat D.nil)).toL).getD 1 D.nil)).toInt < (((((((x7).toL).getD ((a0).toInt).toNat D.nil)).toL).getD 2 D.nil)).toInt)) = true then
        bindC (FX 33 [((((((x7).toL).getD ((a0).toInt).toNat D.nil)).toL).getD 0 D.nil), (D.iface 75 (D.int (5 : Int)))]) 1 fun r9 =>
          bindC (FX 32 [a0, (r9.getD 0 D.nil)]) 1 fun r10 =>
          some [(D.int (0 : Int)), (D.int (0 : Int)), (D.int (0 : Int)), (D.int (0 : Int)), (D.int (0 : Int)), (D.int (0 : Int)), (D.int (0 : Int)), (r10.getD 0 D.nil)]
        else
        if (decide ((((((((x7).toL).getD ((a0).toInt).toNat D.nil)).toL).getD 1 D.nil)).toInt > (((((((x7).toL).getD ((a0).toInt).toNat D.nil)).toL).getD 3 D.nil)).toInt)) = true then
          bindC (FX 33 [((((((x7).toL).getD ((a0).toInt).toNat D.nil)).toL).getD 0 D.nil), (D.iface 75 (D.int (5 : Int)))]) 1 fun r9 =>
            bindC (FX 32 [a0, (r9.getD 0 D.nil)]) 1 fun r10 =>
            some [(D.int (0 : Int)), (D.int (0 : Int)), (D.int (0 : Int)), (D.int (0 : Int)), (D.int (0 : Int)), (D.int (0 : Int)), (D.int (0 : Int)), (r10.getD 0 D.nil)]
          else
          (W_rules_New_1 x0 x1 x2 x3 x4 x5 x6 x7) [(D.int (IntKind.i64.wrap ((a0).toInt + (1 : Int))))]
      else none
    else none
  else
  some [x0, x1, x2, x3, x4, x5, x6, D.nil] := (loopP_eq FX B_rules_New_1 [] [x0, x1, x2, x3, x4, x5, x6, x7] _).trans (by kernel_rfl)
theorem E_rules_New (x0 x1 x2 x3 x4 x5 x6 : D) : FX 14 [x0, x1, x2, x3, x4, x5, x6] =
  bindC (FX 31 [x0, x1, x2, x3, x4, x5, x6]) 1 fun r7 =>
  W_rules_New_1 x0 x1 x2 x3 x4 x5 x6 (r7.getD 0 D.nil) [(D.int (0 : Int))] := (fixP_eq (t := T_rules_New) (by rfl) _).trans (by kernel_rfl)
noncomputable def W_ref05_Check_1 (x0 x1 x2 x3 x4 x5 x6 : D) : Eng.Fn := loopF fun g xs => evalP FX B_ref05_Check_1 ([] ++ [g]) ([x0, x1, x2, x3, x4, x5, x6] ++ xs)
theorem W_ref05_Check_1_eq (x0 x1 x2 x3 x4 x5 x6 : D) (a0 : D) : W_ref05_Check_1 x0 x1 x2 x3 x4 x5 x6 [a0] =
  if (decide ((a0).toInt < (((x0 :: (x1 :: (x2 :: (x3 :: (x4 :: (x5 :: (x6 :: [])))))))).length : Int))) = true then
  if (decide ((a0).toInt ≥ (0 : Int))) = true then
    if (decide ((a0).toInt < (((x0 :: (x1 :: (x2 :: (x3 :: (x4 :: (x5 :: (x6 :: [])))))))).length : Int))) = true then
      if (decide ((a0).toInt ≥ (0 : Int))) = true then
        if (decide ((a0).toInt < ((((D.int (1 : Int)) :: ((D.int (1 : Int)) :: ((D.int (1 : Int)) :: ((D.int (1 : Int)) :: ((D.int (0 : Int)) :: ((D.int (1 : Int)) :: ((D.int (1 : Int)) :: [])))))))).length : Int))) = true then
          if (decide (((((x0 :: (x1 :: (x2 :: (x3 :: (x4 :: (x5 :: (x6 :: [])))))))).getD ((a0).toInt).toNat D.nil)).toInt < (((((D.int (1 : Int)) :: ((D.int (1 : Int)) :: ((D.int (1 : Int)) :: ((D.int (1 : Int)) :: ((D.int (0 : Int)) :: ((D.int (1 : Int)) :: ((D.int (1 : Int)) :: [])))))))).getD ((a0).toInt).toNat D.nil)).toInt)) = true then
            some [a0]
            else
            if (decide ((a0).toInt ≥ (0 : Int))) = true then
              if (decide ((a0).toInt < (((x0 :: (x1 :: (x2 :: (x3 :: (x4 :: (x5 :: (x6 :: [])))))))).length : Int))) = true then
                if (decide ((a0).toInt ≥ (0 : Int))) = true then
                  if (decide ((a0).toInt < ((((D.int (6 : Int)) :: ((D.int (4 : Int)) :: ((D.int (3 : Int)) :: ((D.int (4 : Int)) :: ((D.int (4 : Int)) :: ((D.int (4 : Int)) :: ((D.int (15 : Int)) :: [])))))))).length : Int))) = true then
                    if (decide (((((x0 :: (x1 :: (x2 :: (x3 :: (x4 :: (x5 :: (x6 :: [])))))))).getD ((a0).toInt).toNat D.nil)).toInt > (((((D.int (6 : Int)) :: ((D.int (4 : Int)) :: ((D.int (3 : Int)) :: ((D.int (4 : Int)) :: ((D.int (4 : Int)) :: ((D.int (4 : Int)) :: ((D.int (15 : Int)) :: [])))))))).getD ((a0).toInt).toNat D.nil)).toInt)) = true then
                      some [a0]
                      else
                      (W_ref05_Check_1 x0 x1 x2 x3 x4 x5 x6) [(D.int (IntKind.i64.wrap ((a0).toInt + (1 : Int))))]
                    else none
                  else none
                else none
              else none
          else none
        else none
      else none
    else none
  else
  some [(D.int (-1 : Int))] := (loopP_eq FX B_ref05_Check_1 [] [x0, x1, x2, x3, x4, x5, x6] _).trans (by kernel_rfl)
theorem E_ref05_Check (x0 x1 x2 x3 x4 x5 x6 : D) : FX 15 [x0, x1, x2, x3, x4, x5, x6] =
  W_ref05_Check_1 x0 x1 x2 x3 x4 x5 x6 [(D.int (0 : Int))] := (fixP_eq (t := T_ref05_Check) (by rfl) _).trans (by kernel_rfl)
theorem E_rules_Rules_Shards (x0 x1 x2 x3 x4 x5 x6 : D) : FX 39 [x0, x1, x2, x3, x4, x5, x6] =
  some [(D.int (IntKind.i64.wrap ((x2).toInt * (x3).toInt)))] := (fixP_eq (t := T_rules_Rules_Shards) (by rfl) _).trans (by kernel_rfl)
theorem E_rules_Rules_Agents (x0 x1 x2 x3 x4 x5 x6 : D) : FX 27 [x0, x1, x2, x3, x4, x5, x6] =
  bindC (FX 39 [x0, x1, x2, x3, x4, x5, x6]) 1 fun r7 =>
  some [(D.int (IntKind.i64.wrap ((x0).toInt + (IntKind.i64.wrap ((2 : Int) * ((r7.getD 0 D.nil)).toInt)))))] := (fixP_eq (t := T_rules_Rules_Agents) (by rfl) _).trans (by kernel_rfl)
noncomputable def W_plan_Picked_1 (x0 x1 x2 x3 x4 x5 x6 x7 x8 : D) : Eng.Fn := loopF fun g xs => evalP FX B_plan_Picked_1 ([] ++ [g]) ([x0, x1, x2, x3, x4, x5, x6, x7, x8] ++ xs)
theorem W_plan_Picked_1_eq (x0 x1 x2 x3 x4 x5 x6 x7 x8 : D) (a0 a1 : D) : W_plan_Picked_1 x0 x1 x2 x3 x4 x5 x6 x7 x8 [a0, a1] =
  if (decide ((a0).toInt < (((x7).toL).length : Int))) = true then
  if (decide ((a0).toInt ≥ (0 : Int))) = true then
    if (decide ((a0).toInt < (((x7).toL).length : Int))) = true then
      if ((((((((x7).toL).getD ((a0).toInt).toNat D.nil)).toL).getD 0 D.nil)).toInt == (3 : Int)) = true then
        if (decide ((((((((x7).toL).getD ((a0).toInt).toNat D.nil)).toL).getD 1 D.nil)).toInt ≥ (0 : Int))) = true then
          if (decide ((((((((x7).toL).getD ((a0).toInt).toNat D.nil)).toL).getD 1 D.nil)).toInt < (((a1).toL).length : Int))) = true then
            if (decide ((((((((x7).toL).getD ((a0).toInt).toNat D.nil)).toL).getD 1 D.nil)).toInt ≥ (0 : Int))) = true then
              if (decide ((((((((x7).toL).getD ((a0).toInt).toNat D.nil)).toL).getD 1 D.nil)).toInt < (((a1).toL).length : Int))) = true then
                if (decide ((((((((x7).toL).getD ((a0).toInt).toNat D.nil)).toL).getD 1 D.nil)).toInt ≥ (0 : Int))) = true then
                  if (decide ((((((((x7).toL).getD ((a0).toInt).toNat D.nil)).toL).getD 1 D.nil)).toInt < (((a1).toL).length : Int))) = true then
                    (W_plan_Picked_1 x0 x1 x2 x3 x4 x5 x6 x7 x8) [(D.int (IntKind.i64.wrap ((a0).toInt + (1 : Int)))), (D.agg (((a1).toL).set ((((((((x7).toL).getD ((a0).toInt).toNat D.nil)).toL).getD 1 D.nil)).toInt).toNat (D.int (IntKind.i64.wrap (((((a1).toL).getD ((((((((x7).toL).getD ((a0).toInt).toNat D.nil)).toL).getD 1 D.nil)).toInt).toNat D.nil)).toInt + (1 : Int))))))]
                    else none
                  else none
                else none
              else none
            else
            (W_plan_Picked_1 x0 x1 x2 x3 x4 x5 x6 x7 x8) [(D.int (IntKind.i64.wrap ((a0).toInt + (1 : Int)))), a1]
          else
          (W_plan_Picked_1 x0 x1 x2 x3 x4 x5 x6 x7 x8) [(D.int (IntKind.i64.wrap ((a0).toInt + (1 : Int)))), a1]
        else
        (W_plan_Picked_1 x0 x1 x2 x3 x4 x5 x6 x7 x8) [(D.int (IntKind.i64.wrap ((a0).toInt + (1 : Int)))), a1]
      else none
    else none
  else
  some [a1] := (loopP_eq FX B_plan_Picked_1 [] [x0, x1, x2, x3, x4, x5, x6, x7, x8] _).trans (by kernel_rfl)
theorem E_plan_Picked (x0 x1 x2 x3 x4 x5 x6 x7 : D) : FX 16 [x0, x1, x2, x3, x4, x5, x6, x7] =
  bindC (FX 27 [x0, x1, x2, x3, x4, x5, x6]) 1 fun r8 =>
  if (decide (((r8.getD 0 D.nil)).toInt ≥ (0 : Int))) = true then
  if (decide (((r8.getD 0 D.nil)).toInt ≤ (17592186044416 : Int))) = true then
    W_plan_Picked_1 x0 x1 x2 x3 x4 x5 x6 x7 (r8.getD 0 D.nil) [(D.int (0 : Int)), (D.agg (List.replicate (((r8.getD 0 D.nil)).toInt).toNat (D.int (0 : Int))))]
    else none
  else none := (fixP_eq (t := T_plan_Picked) (by rfl) _).trans (by kernel_rfl)
noncomputable def W_ref21_Gap_2 (x0 x1 x2 x3 : D) (g0 : Eng.Fn) : Eng.Fn := loopF fun g xs => evalP FX B_ref21_Gap_2 ([g0] ++ [g]) ([x0, x1, x2, x3] ++ xs)
theorem W_ref21_Gap_2_eq (x0 x1 x2 x3 : D) (g0 : Eng.Fn) (a0 : D) : W_ref21_Gap_2 x0 x1 x2 x3 g0 [a0] =
  if (decide ((IntKind.i64.wrap ((x3).toInt + (a0).toInt)) < (((x1).toL).length : Int))) = true then
  if (decide ((IntKind.i64.wrap ((x3).toInt + (a0).toInt)) ≥ (0 : Int))) = true then
    if (decide ((IntKind.i64.wrap ((x3).toInt + (a0).toInt)) < (((x1).toL).length : Int))) = true then
      if (((((x1).toL).getD ((IntKind.i64.wrap ((x3).toInt + (a0).toInt))).toNat D.nil)).toInt != (x0).toInt) = true then
        (W_ref21_Gap_2 x0 x1 x2 x3 g0) [(D.int (IntKind.i64.wrap ((a0).toInt + (1 : Int))))]
        else
        if (decide ((a0).toInt > (x2).toInt)) = true then
          g0 [a0, (D.int (IntKind.i64.wrap ((x3).toInt + (1 : Int))))]
          else
          g0 [x2, (D.int (IntKind.i64.wrap ((x3).toInt + (1 : Int))))]
      else none
    else none
  else
  if (decide ((a0).toInt > (x2).toInt)) = true then
    g0 [a0, (D.int (IntKind.i64.wrap ((x3).toInt + (1 : Int))))]
    else
    g0 [x2, (D.int (IntKind.i64.wrap ((x3).toInt + (1 : Int))))] := (loopP_eq FX B_ref21_Gap_2 [g0] [x0, x1, x2, x3] _).trans (by kernel_rfl)
noncomputable def W_ref21_Gap_1 (x0 x1 : D) : Eng.Fn := loopF fun g xs => evalP FX B_ref21_Gap_1 ([] ++ [g]) ([x0, x1] ++ xs)
theorem W_ref21_Gap_1_eq (x0 x1 : D) (a0 a1 : D) : W_ref21_Gap_1 x0 x1 [a0, a1] =
  if (decide ((a1).toInt < (((x1).toL).length : Int))) = true then
  W_ref21_Gap_2 x0 x1 a0 a1 ((W_ref21_Gap_1 x0 x1)) [(D.int (0 : Int))]
  else
  some [a0] := (loopP_eq FX B_ref21_Gap_1 [] [x0, x1] _).trans (by kernel_rfl)
theorem E_ref21_Gap (x0 x1 : D) : FX 17 [x0, x1] =
  W_ref21_Gap_1 x0 x1 [(D.int (0 : Int)), (D.int (0 : Int))] := (fixP_eq (t := T_ref21_Gap) (by rfl) _).trans (by kernel_rfl)
noncomputable def W_ref21_Runs_2 (x0 x1 x2 : D) (g0 : Eng.Fn) : Eng.Fn := loopF fun g xs => evalP FX B_ref21_Runs_2 ([g0] ++ [g]) ([x0, x1, x2] ++ xs)
theorem W_ref21_Runs_2_eq (x0 x1 x2 : D) (g0 : Eng.Fn) (a0 : D) : W_ref21_Runs_2 x0 x1 x2 g0 [a0] =
  if (decide ((IntKind.i64.wrap ((x1).toInt + (a0).toInt)) < (((x0).toL).length : Int))) = true then
  if (decide ((IntKind.i64.wrap ((x1).toInt + (a0).toInt)) ≥ (0 : Int))) = true then
    if (decide ((IntKind.i64.wrap ((x1).toInt + (a0).toInt)) < (((x0).toL).length : Int))) = true then
      if (decide ((x1).toInt ≥ (0 : Int))) = true then
        if (decide ((x1).toInt < (((x0).toL).length : Int))) = true then
          if (((((x0).toL).getD ((IntKind.i64.wrap ((x1).toInt + (a0).toInt))).toNat D.nil)).toInt == ((((x0).toL).getD ((x1).toInt).toNat D.nil)).toInt) = true then
            (W_ref21_Runs_2 x0 x1 x2 g0) [(D.int (IntKind.i64.wrap ((a0).toInt + (1 : Int))))]
            else
            if (decide ((x1).toInt ≥ (0 : Int))) = true then
              if (decide ((x1).toInt < (((x0).toL).length : Int))) = true then
                if (decide (((((x0).toL).getD ((x1).toInt).toNat D.nil)).toInt ≥ (0 : Int))) = true then
                  if (decide ((x1).toInt ≥ (0 : Int))) = true then
                    if (decide ((x1).toInt < (((x0).toL).length : Int))) = true then
                      if (decide (((((x2).toL ++ ((D.agg ((((x0).toL).getD ((x1).toInt).toNat D.nil) :: (a0 :: []))) :: []))).length : Int) ≤ (8796093022208 : Int))) = true then
                        g0 [(D.int (IntKind.i64.wrap ((x1).toInt + (a0).toInt))), (D.agg ((x2).toL ++ ((D.agg ((((x0).toL).getD ((x1).toInt).toNat D.nil) :: (a0 :: []))) :: [])))]
                        else none
                      else none
                    else none
                  else
                  g0 [(D.int (IntKind.i64.wrap ((x1).toInt + (a0).toInt))), x2]
                else none
              else none
          else none
        else none
      else none
    else none
  else
  if (decide ((x1).toInt ≥ (0 : Int))) = true then
    if (decide ((x1).toInt < (((x0).toL).length : Int))) = true then
      if (decide (((((x0).toL).getD ((x1).toInt).toNat D.nil)).toInt ≥ (0 : Int))) = true then
        if (decide ((x1).toInt ≥ (0 : Int))) = true then
          if (decide ((x1).toInt < (((x0).toL).length : Int))) = true then
            if (decide (((((x2).toL ++ ((D.agg ((((x0).toL).getD ((x1).toInt).toNat D.nil) :: (a0 :: []))) :: []))).length : Int) ≤ (8796093022208 : Int))) = true then
              g0 [(D.int (IntKind.i64.wrap ((x1).toInt + (a0).toInt))), (D.agg ((x2).toL ++ ((D.agg ((((x0).toL).getD ((x1).toInt).toNat D.nil) :: (a0 :: []))) :: [])))]
              else none
            else none
          else none
        else
        g0 [(D.int (IntKind.i64.wrap ((x1).toInt + (a0).toInt))), x2]
      else none
    else none := (loopP_eq FX B_ref21_Runs_2 [g0] [x0, x1, x2] _).trans (by kernel_rfl)
noncomputable def W_ref21_Runs_1 (x0 : D) : Eng.Fn := loopF fun g xs => evalP FX B_ref21_Runs_1 ([] ++ [g]) ([x0] ++ xs)
theorem W_ref21_Runs_1_eq (x0 : D) (a0 a1 : D) : W_ref21_Runs_1 x0 [a0, a1] =
  if (decide ((a0).toInt < (((x0).toL).length : Int))) = true then
  W_ref21_Runs_2 x0 a0 a1 ((W_ref21_Runs_1 x0)) [(D.int (1 : Int))]
  else
  some [a1] := (loopP_eq FX B_ref21_Runs_1 [] [x0] _).trans (by kernel_rfl)
theorem E_ref21_Runs (x0 : D) : FX 19 [x0] =
  W_ref21_Runs_1 x0 [(D.int (0 : Int)), (D.agg [])] := (fixP_eq (t := T_ref21_Runs) (by rfl) _).trans (by kernel_rfl)
noncomputable def W_plan_Gap_1 (x0 x1 : D) : Eng.Fn := loopF fun g xs => evalP FX B_plan_Gap_1 ([] ++ [g]) ([x0, x1] ++ xs)
theorem W_plan_Gap_1_eq (x0 x1 : D) (a0 a1 a2 : D) : W_plan_Gap_1 x0 x1 [a0, a1, a2] =
  if (decide ((a2).toInt < (((x1).toL).length : Int))) = true then
  if (decide ((a2).toInt ≥ (0 : Int))) = true then
    if (decide ((a2).toInt < (((x1).toL).length : Int))) = true then
      if ((((((((x1).toL).getD ((a2).toInt).toNat D.nil)).toL).getD 0 D.nil)).toInt == (3 : Int)) = true then
        if ((((((((x1).toL).getD ((a2).toInt).toNat D.nil)).toL).getD 1 D.nil)).toInt == (x0).toInt) = true then
          (W_plan_Gap_1 x0 x1) [(if (decide ((0 : Int) > (a0).toInt)) = true then (D.int (0 : Int)) else a0), (D.int (0 : Int)), (D.int (IntKind.i64.wrap ((a2).toInt + (1 : Int))))]
          else
          (W_plan_Gap_1 x0 x1) [(if (decide ((IntKind.i64.wrap ((a1).toInt + (1 : Int))) > (a0).toInt)) = true then (D.int (IntKind.i64.wrap ((a1).toInt + (1 : Int)))) else a0), (D.int (IntKind.i64.wrap ((a1).toInt + (1 : Int)))), (D.int (IntKind.i64.wrap ((a2).toInt + (1 : Int))))]
        else
        (W_plan_Gap_1 x0 x1) [(if (decide ((IntKind.i64.wrap ((a1).toInt + (1 : Int))) > (a0).toInt)) = true then (D.int (IntKind.i64.wrap ((a1).toInt + (1 : Int)))) else a0), (D.int (IntKind.i64.wrap ((a1).toInt + (1 : Int)))), (D.int (IntKind.i64.wrap ((a2).toInt + (1 : Int))))]
      else none
    else none
  else
  some [a0] := (loopP_eq FX B_plan_Gap_1 [] [x0, x1] _).trans (by kernel_rfl)
theorem E_plan_Gap (x0 x1 : D) : FX 20 [x0, x1] =
  W_plan_Gap_1 x0 x1 [(D.int (0 : Int)), (D.int (0 : Int)), (D.int (0 : Int))] := (fixP_eq (t := T_plan_Gap) (by rfl) _).trans (by kernel_rfl)
noncomputable def W_plan_Fair_1 (x0 x1 x2 x3 x4 x5 x6 x7 x8 x9 : D) : Eng.Fn := loopF fun g xs => evalP FX B_plan_Fair_1 ([] ++ [g]) ([x0, x1, x2, x3, x4, x5, x6, x7, x8, x9] ++ xs)
theorem W_plan_Fair_1_eq (x0 x1 x2 x3 x4 x5 x6 x7 x8 x9 : D) (a0 : D) : W_plan_Fair_1 x0 x1 x2 x3 x4 x5 x6 x7 x8 x9 [a0] =
  if (decide ((a0).toInt < (x9).toInt)) = true then
  bindC (FX 20 [a0, x8]) 1 fun r11 =>
    if (decide (((r11.getD 0 D.nil)).toInt ≥ ((if (decide ((1 : Int) > (x7).toInt)) = true then (D.int (1 : Int)) else x7)).toInt)) = true then
    some [(D.bool false)]
    else
    (W_plan_Fair_1 x0 x1 x2 x3 x4 x5 x6 x7 x8 x9) [(D.int (IntKind.i64.wrap ((a0).toInt + (1 : Int))))]
  else
  some [(D.bool true)] := (loopP_eq FX B_plan_Fair_1 [] [x0, x1, x2, x3, x4, x5, x6, x7, x8, x9] _).trans (by kernel_rfl)
theorem E_plan_Fair (x0 x1 x2 x3 x4 x5 x6 x7 x8 : D) : FX 21 [x0, x1, x2, x3, x4, x5, x6, x7, x8] =
  bindC (FX 27 [x0, x1, x2, x3, x4, x5, x6]) 1 fun r9 =>
  W_plan_Fair_1 x0 x1 x2 x3 x4 x5 x6 x7 x8 (r9.getD 0 D.nil) [(D.int (0 : Int))] := (fixP_eq (t := T_plan_Fair) (by rfl) _).trans (by kernel_rfl)
noncomputable def W_law21_PlanCounts_2 (x0 x1 x2 x3 x4 x5 x6 x7 x8 x9 x10 x11 x12 x13 x14 x15 x16 x17 x18 x19 x20 x21 x22 : D) (g0 : Eng.Fn) : Eng.Fn := loopF fun g xs => evalP FX B_law21_PlanCounts_2 ([g0] ++ [g]) ([x0, x1, x2, x3, x4, x5, x6, x7, x8, x9, x10, x11, x12, x13, x14, x15, x16, x17, x18, x19, x20, x21, x22] ++ xs)
theorem W_law21_PlanCounts_2_eq (x0 x1 x2 x3 x4 x5 x6 x7 x8 x9 x10 x11 x12 x13 x14 x15 x16 x17 x18 x19 x20 x21 x22 : D) (g0 : Eng.Fn) (a0 a1 : D) : W_law21_PlanCounts_2 x0 x1 x2 x3 x4 x5 x6 x7 x8 x9 x10 x11 x12 x13 x14 x15 x16 x17 x18 x19 x20 x21 x22 g0 [a0, a1] =
  if (decide ((a1).toInt < (((x7).toL).length : Int))) = true then
  if (decide ((a1).toInt ≥ (0 : Int))) = true then
    if (decide ((a1).toInt < (((x7).toL).length : Int))) = true then
      if (((((x7).toL).getD ((a1).toInt).toNat D.nil)).toInt == (x22).toInt) = true then
        (W_law21_PlanCounts_2 x0 x1 x2 x3 x4 x5 x6 x7 x8 x9 x10 x11 x12 x13 x14 x15 x16 x17 x18 x19 x20 x21 x22 g0) [(D.int (IntKind.i64.wrap ((a0).toInt + (1 : Int)))), (D.int (IntKind.i64.wrap ((a1).toInt + (1 : Int))))]
        else
        (W_law21_PlanCounts_2 x0 x1 x2 x3 x4 x5 x6 x7 x8 x9 x10 x11 x12 x13 x14 x15 x16 x17 x18 x19 x20 x21 x22 g0) [a0, (D.int (IntKind.i64.wrap ((a1).toInt + (1 : Int))))]
      else none
    else none
  else
  if (decide ((x22).toInt ≥ (0 : Int))) = true then
    if (decide ((x22).toInt < (((x20).toL).length : Int))) = true then
      if (((((x20).toL).getD ((x22).toInt).toNat D.nil)).toInt != (a0).toInt) = true then
        some [(D.bool false)]
        else
        if (x21).toBool = true then
          bindC (FX 17 [x22, x7]) 1 fun r25 =>
            g0 [(D.bool (decide (((r25.getD 0 D.nil)).toInt < ((if (decide ((1 : Int) > (x9).toInt)) = true then (D.int (1 : Int)) else x9)).toInt))), (D.int (IntKind.i64.wrap ((x22).toInt + (1 : Int))))]
          else
          g0 [(D.bool false), (D.int (IntKind.i64.wrap ((x22).toInt + (1 : Int))))]
      else none
    else none := (loopP_eq FX B_law21_PlanCounts_2 [g0] [x0, x1, x2, x3, x4, x5, x6, x7, x8, x9, x10, x11, x12, x13, x14, x15, x16, x17, x18, x19, x20, x21, x22] _).trans (by kernel_rfl)
noncomputable def W_law21_PlanCounts_3 (x0 x1 x2 x3 x4 x5 x6 x7 x8 x9 x10 x11 x12 x13 x14 x15 x16 x17 x18 x19 x20 x21 x22 x23 x24 : D) (g0 : Eng.Fn) : Eng.Fn := loopF fun g xs => evalP FX B_law21_PlanCounts_3 ([g0] ++ [g]) ([x0, x1, x2, x3, x4, x5, x6, x7, x8, x9, x10, x11, x12, x13, x14, x15, x16, x17, x18, x19, x20, x21, x22, x23, x24] ++ xs)
theorem W_law21_PlanCounts_3_eq (x0 x1 x2 x3 x4 x5 x6 x7 x8 x9 x10 x11 x12 x13 x14 x15 x16 x17 x18 x19 x20 x21 x22 x23 x24 : D) (g0 : Eng.Fn) (a0 : D) : W_law21_PlanCounts_3 x0 x1 x2 x3 x4 x5 x6 x7 x8 x9 x10 x11 x12 x13 x14 x15 x16 x17 x18 x19 x20 x21 x22 x23 x24 g0 [a0] =
  if (decide ((a0).toInt < (((x23).toL).length : Int))) = true then
  if (decide ((a0).toInt ≥ (0 : Int))) = true then
    if (decide ((a0).toInt < (((x23).toL).length : Int))) = true then
      if (decide ((a0).toInt ≥ (0 : Int))) = true then
        if (decide ((a0).toInt < (((x24).toL).length : Int))) = true then
          if (!(((((((((x23).toL).getD ((a0).toInt).toNat D.nil)).toL).getD 0 D.nil)).toInt == (((((((x24).toL).getD ((a0).toInt).toNat D.nil)).toL).getD 0 D.nil)).toInt) && ((((((((x23).toL).getD ((a0).toInt).toNat D.nil)).toL).getD 1 D.nil)).toInt == (((((((x24).toL).getD ((a0).toInt).toNat D.nil)).toL).getD 1 D.nil)).toInt))) = true then
            some [(D.bool false)]
            else
            (W_law21_PlanCounts_3 x0 x1 x2 x3 x4 x5 x6 x7 x8 x9 x10 x11 x12 x13 x14 x15 x16 x17 x18 x19 x20 x21 x22 x23 x24 g0) [(D.int (IntKind.i64.wrap ((a0).toInt + (1 : Int))))]
          else none
        else none
      else none
    else none
  else
  if (decide ((x8).toInt ≥ (0 : Int))) = true then
    bindC (FX 20 [x8, x19]) 1 fun r26 =>
      bindC (FX 17 [x8, x7]) 1 fun r27 =>
      if (((r26.getD 0 D.nil)).toInt != ((r27.getD 0 D.nil)).toInt) = true then
      some [(D.bool false)]
      else
      bindC (FX 8 []) 1 fun r28 =>
        if ((r28.getD 0 D.nil)).toBool = true then
        bindC (FX 21 [x10, x11, x12, x13, x14, x15, x16, x9, x19]) 1 fun r29 =>
          some [(D.bool (((r29.getD 0 D.nil)).toBool == (x21).toBool))]
        else
        some [(D.bool false)]
    else
    bindC (FX 8 []) 1 fun r26 =>
      if ((r26.getD 0 D.nil)).toBool = true then
      bindC (FX 21 [x10, x11, x12, x13, x14, x15, x16, x9, x19]) 1 fun r27 =>
        some [(D.bool (((r27.getD 0 D.nil)).toBool == (x21).toBool))]
      else
      some [(D.bool false)] := (loopP_eq FX B_law21_PlanCounts_3 [g0] [x0, x1, x2, x3, x4, x5, x6, x7, x8, x9, x10, x11, x12, x13, x14, x15, x16, x17, x18, x19, x20, x21, x22, x23, x24] _).trans (by kernel_rfl)
noncomputable def W_law21_PlanCounts_1 (x0 x1 x2 x3 x4 x5 x6 x7 x8 x9 x10 x11 x12 x13 x14 x15 x16 x17 x18 x19 x20 : D) : Eng.Fn := loopF fun g xs => evalP FX B_law21_PlanCounts_1 ([] ++ [g]) ([x0, x1, x2, x3, x4, x5, x6, x7, x8, x9, x10, x11, x12, x13, x14, x15, x16, x17, x18, x19, x20] ++ xs)
theorem W_law21_PlanCounts_1_eq (x0 x1 x2 x3 x4 x5 x6 x7 x8 x9 x10 x11 x12 x13 x14 x15 x16 x17 x18 x19 x20 : D) (a0 a1 : D) : W_law21_PlanCounts_1 x0 x1 x2 x3 x4 x5 x6 x7 x8 x9 x10 x11 x12 x13 x14 x15 x16 x17 x18 x19 x20 [a0, a1] =
  if (decide ((a1).toInt < (IntKind.i64.wrap ((x0).toInt + (IntKind.i64.wrap ((IntKind.i64.wrap ((2 : Int) * (x2).toInt)) * (x3).toInt)))))) = true then
  W_law21_PlanCounts_2 x0 x1 x2 x3 x4 x5 x6 x7 x8 x9 x10 x11 x12 x13 x14 x15 x16 x17 x18 x19 x20 a0 a1 ((W_law21_PlanCounts_1 x0 x1 x2 x3 x4 x5 x6 x7 x8 x9 x10 x11 x12 x13 x14 x15 x16 x17 x18 x19 x20)) [(D.int (0 : Int)), (D.int (0 : Int))]
  else
  bindC (FX 18 [x19]) 1 fun r23 =>
    bindC (FX 19 [x7]) 1 fun r24 =>
    if (((((r23.getD 0 D.nil)).toL).length : Int) != ((((r24.getD 0 D.nil)).toL).length : Int)) = true then
    some [(D.bool false)]
    else
    W_law21_PlanCounts_3 x0 x1 x2 x3 x4 x5 x6 x7 x8 x9 x10 x11 x12 x13 x14 x15 x16 x17 x18 x19 x20 a0 a1 (r23.getD 0 D.nil) (r24.getD 0 D.nil) ((W_law21_PlanCounts_1 x0 x1 x2 x3 x4 x5 x6 x7 x8 x9 x10 x11 x12 x13 x14 x15 x16 x17 x18 x19 x20)) [(D.int (0 : Int))] := (loopP_eq FX B_law21_PlanCounts_1 [] [x0, x1, x2, x3, x4, x5, x6, x7, x8, x9, x10, x11, x12, x13, x14, x15, x16, x17, x18, x19, x20] _).trans (by kernel_rfl)
theorem E_law21_PlanCounts (x0 x1 x2 x3 x4 x5 x6 x7 x8 x9 : D) : FX 4 [x0, x1, x2, x3, x4, x5, x6, x7, x8, x9] =
  bindC (FX 14 [x0, x1, x2, x3, x4, x5, x6]) 8 fun r10 =>
  bindC (FX 15 [x0, x1, x2, x3, x4, x5, x6]) 1 fun r18 =>
  if (decide (((r18.getD 0 D.nil)).toInt ≥ (0 : Int))) = true then
  bindC (FX 8 []) 1 fun r19 =>
    if ((r19.getD 0 D.nil)).toBool = true then
    bindC (FX 15 [x0, x1, x2, x3, x4, x5, x6]) 1 fun r20 =>
      some [(D.bool (((r10.getD 7 D.nil)).isNil == (decide (((r20.getD 0 D.nil)).toInt < (0 : Int)))))]
    else
    some [(D.bool false)]
  else
  if (decide ((((x7).toL).length : Int) > (100 : Int))) = true then
    bindC (FX 8 []) 1 fun r19 =>
      if ((r19.getD 0 D.nil)).toBool = true then
      bindC (FX 15 [x0, x1, x2, x3, x4, x5, x6]) 1 fun r20 =>
        some [(D.bool (((r10.getD 7 D.nil)).isNil == (decide (((r20.getD 0 D.nil)).toInt < (0 : Int)))))]
      else
      some [(D.bool false)]
    else
    bindC (FX 9 [x7]) 1 fun r19 =>
      bindC (FX 16 [(r10.getD 0 D.nil), (r10.getD 1 D.nil), (r10.getD 2 D.nil), (r10.getD 3 D.nil), (r10.getD 4 D.nil), (r10.getD 5 D.nil), (r10.getD 6 D.nil), (r19.getD 0 D.nil)]) 1 fun r20 =>
      if (((((r20.getD 0 D.nil)).toL).length : Int) != (IntKind.i64.wrap ((x0).toInt + (IntKind.i64.wrap ((IntKind.i64.wrap ((2 : Int) * (x2).toInt)) * (x3).toInt))))) = true then
      some [(D.bool false)]
      else
      W_law21_PlanCounts_1 x0 x1 x2 x3 x4 x5 x6 x7 x8 x9 (r10.getD 0 D.nil) (r10.getD 1 D.nil) (r10.getD 2 D.nil) (r10.getD 3 D.nil) (r10.getD 4 D.nil) (r10.getD 5 D.nil) (r10.getD 6 D.nil) (r10.getD 7 D.nil) (r18.getD 0 D.nil) (r19.getD 0 D.nil) (r20.getD 0 D.nil) [(D.bool true), (D.int (0 : Int))] := (fixP_eq (t := T_law21_PlanCounts) (by rfl) _).trans (by kernel_rfl)
theorem E_ref04_Pick (x0 x1 : D) : FX 22 [x0, x1] =
  if (decide ((x1).toInt < (1 : Int))) = true then
  some [(D.int (0 : Int))]
  else
  if ((x1).toInt != (0 : Int)) = true then
    if (decide ((Int.tmod (x0).toInt (x1).toInt) < (0 : Int))) = true then
      some [(D.int (IntKind.i64.wrap ((Int.tmod (x0).toInt (x1).toInt) + (x1).toInt)))]
      else
      some [(D.int (Int.tmod (x0).toInt (x1).toInt))]
    else none := (fixP_eq (t := T_ref04_Pick) (by rfl) _).trans (by kernel_rfl)
theorem E_tick_Pick (x0 x1 : D) : FX 38 [x0, x1] =
  if (decide ((x1).toInt < (1 : Int))) = true then
  some [(D.int (0 : Int))]
  else
  if ((x1).toInt != (0 : Int)) = true then
    if (decide ((Int.tmod (x0).toInt (x1).toInt) < (0 : Int))) = true then
      some [(D.int (IntKind.i64.wrap ((Int.tmod (x0).toInt (x1).toInt) + (x1).toInt)))]
      else
      some [(D.int (Int.tmod (x0).toInt (x1).toInt))]
    else none := (fixP_eq (t := T_tick_Pick) (by rfl) _).trans (by kernel_rfl)
noncomputable def W_plan_Drawn_1 (x0 x1 x2 x3 x4 x5 x6 x7 : D) : Eng.Fn := loopF fun g xs => evalP FX B_plan_Drawn_1 ([] ++ [g]) ([x0, x1, x2, x3, x4, x5, x6, x7] ++ xs)
theorem W_plan_Drawn_1_eq (x0 x1 x2 x3 x4 x5 x6 x7 : D) (a0 a1 : D) : W_plan_Drawn_1 x0 x1 x2 x3 x4 x5 x6 x7 [a0, a1] =
  if (decide ((a0).toInt < (((x7).toL).length : Int))) = true then
  if (decide ((a0).toInt ≥ (0 : Int))) = true then
    if (decide ((a0).toInt < (((x7).toL).length : Int))) = true then
      bindC (FX 27 [x0, x1, x2, x3, x4, x5, x6]) 1 fun r10 =>
        bindC (FX 38 [(((x7).toL).getD ((a0).toInt).toNat D.nil), (r10.getD 0 D.nil)]) 1 fun r11 =>
        bindC (FX 37 [(r11.getD 0 D.nil)]) 12 fun r12 =>
        if (decide (((((a1).toL ++ ((D.agg ((r12.getD 0 D.nil) :: ((r12.getD 1 D.nil) :: ((r12.getD 2 D.nil) :: ((r12.getD 3 D.nil) :: ((r12.getD 4 D.nil) :: ((r12.getD 5 D.nil) :: ((r12.getD 6 D.nil) :: ((r12.getD 7 D.nil) :: ((r12.getD 8 D.nil) :: ((r12.getD 9 D.nil) :: ((r12.getD 10 D.nil) :: ((r12.getD 11 D.nil) :: []))))))))))))) :: []))).length : Int) ≤ (1466015503701 : Int))) = true then
        (W_plan_Drawn_1 x0 x1 x2 x3 x4 x5 x6 x7) [(D.int (IntKind.i64.wrap ((a0).toInt + (1 : Int)))), (D.agg ((a1).toL ++ ((D.agg ((r12.getD 0 D.nil) :: ((r12.getD 1 D.nil) :: ((r12.getD 2 D.nil) :: ((r12.getD 3 D.nil) :: ((r12.getD 4 D.nil) :: ((r12.getD 5 D.nil) :: ((r12.getD 6 D.nil) :: ((r12.getD 7 D.nil) :: ((r12.getD 8 D.nil) :: ((r12.getD 9 D.nil) :: ((r12.getD 10 D.nil) :: ((r12.getD 11 D.nil) :: []))))))))))))) :: [])))]
        else none
      else none
    else none
  else
  some [a1] := (loopP_eq FX B_plan_Drawn_1 [] [x0, x1, x2, x3, x4, x5, x6, x7] _).trans (by kernel_rfl)
theorem E_plan_Drawn (x0 x1 x2 x3 x4 x5 x6 x7 : D) : FX 24 [x0, x1, x2, x3, x4, x5, x6, x7] =
  W_plan_Drawn_1 x0 x1 x2 x3 x4 x5 x6 x7 [(D.int (0 : Int)), (D.agg [])] := (fixP_eq (t := T_plan_Drawn) (by rfl) _).trans (by kernel_rfl)
noncomputable def W_plan_Round_2 (x0 x1 x2 x3 x4 x5 x6 x7 x8 x9 x10 : D) (g0 : Eng.Fn) : Eng.Fn := loopF fun g xs => evalP FX B_plan_Round_2 ([g0] ++ [g]) ([x0, x1, x2, x3, x4, x5, x6, x7, x8, x9, x10] ++ xs)
theorem W_plan_Round_2_eq (x0 x1 x2 x3 x4 x5 x6 x7 x8 x9 x10 : D) (g0 : Eng.Fn) (a0 a1 : D) : W_plan_Round_2 x0 x1 x2 x3 x4 x5 x6 x7 x8 x9 x10 g0 [a0, a1] =
  if (decide ((a0).toInt < (x10).toInt)) = true then
  bindC (FX 37 [a0]) 12 fun r13 =>
    if (decide (((((a1).toL ++ ((D.agg ((r13.getD 0 D.nil) :: ((r13.getD 1 D.nil) :: ((r13.getD 2 D.nil) :: ((r13.getD 3 D.nil) :: ((r13.getD 4 D.nil) :: ((r13.getD 5 D.nil) :: ((r13.getD 6 D.nil) :: ((r13.getD 7 D.nil) :: ((r13.getD 8 D.nil) :: ((r13.getD 9 D.nil) :: ((r13.getD 10 D.nil) :: ((r13.getD 11 D.nil) :: []))))))))))))) :: []))).length : Int) ≤ (1466015503701 : Int))) = true then
    (W_plan_Round_2 x0 x1 x2 x3 x4 x5 x6 x7 x8 x9 x10 g0) [(D.int (IntKind.i64.wrap ((a0).toInt + (1 : Int)))), (D.agg ((a1).toL ++ ((D.agg ((r13.getD 0 D.nil) :: ((r13.getD 1 D.nil) :: ((r13.getD 2 D.nil) :: ((r13.getD 3 D.nil) :: ((r13.getD 4 D.nil) :: ((r13.getD 5 D.nil) :: ((r13.getD 6 D.nil) :: ((r13.getD 7 D.nil) :: ((r13.getD 8 D.nil) :: ((r13.getD 9 D.nil) :: ((r13.getD 10 D.nil) :: ((r13.getD 11 D.nil) :: []))))))))))))) :: [])))]
    else none
  else
  g0 [(D.int (IntKind.i64.wrap ((x8).toInt + (1 : Int)))), a1] := (loopP_eq FX B_plan_Round_2 [g0] [x0, x1, x2, x3, x4, x5, x6, x7, x8, x9, x10] _).trans (by kernel_rfl)
noncomputable def W_plan_Round_1 (x0 x1 x2 x3 x4 x5 x6 x7 : D) : Eng.Fn := loopF fun g xs => evalP FX B_plan_Round_1 ([] ++ [g]) ([x0, x1, x2, x3, x4, x5, x6, x7] ++ xs)
theorem W_plan_Round_1_eq (x0 x1 x2 x3 x4 x5 x6 x7 : D) (a0 a1 : D) : W_plan_Round_1 x0 x1 x2 x3 x4 x5 x6 x7 [a0, a1] =
  if (decide ((a0).toInt < ((if (decide (((if (decide ((4096 : Int) < (x7).toInt)) = true then (D.int (4096 : Int)) else x7)).toInt > (0 : Int))) = true then (if (decide ((4096 : Int) < (x7).toInt)) = true then (D.int (4096 : Int)) else x7) else (D.int (0 : Int)))).toInt)) = true then
  bindC (FX 27 [x0, x1, x2, x3, x4, x5, x6]) 1 fun r10 =>
    W_plan_Round_2 x0 x1 x2 x3 x4 x5 x6 x7 a0 a1 (r10.getD 0 D.nil) ((W_plan_Round_1 x0 x1 x2 x3 x4 x5 x6 x7)) [(D.int (0 : Int)), a1]
  else
  some [a1] := (loopP_eq FX B_plan_Round_1 [] [x0, x1, x2, x3, x4, x5, x6, x7] _).trans (by kernel_rfl)
theorem E_plan_Round (x0 x1 x2 x3 x4 x5 x6 x7 : D) : FX 25 [x0, x1, x2, x3, x4, x5, x6, x7] =
  W_plan_Round_1 x0 x1 x2 x3 x4 x5 x6 x7 [(D.int (0 : Int)), (D.agg [])] := (fixP_eq (t := T_plan_Round) (by rfl) _).trans (by kernel_rfl)
noncomputable def W_plan_Weighted_2 (x0 x1 x2 x3 : D) (g0 : Eng.Fn) : Eng.Fn := loopF fun g xs => evalP FX B_plan_Weighted_2 ([g0] ++ [g]) ([x0, x1, x2, x3] ++ xs)
theorem W_plan_Weighted_2_eq (x0 x1 x2 x3 : D) (g0 : Eng.Fn) (a0 a1 : D) : W_plan_Weighted_2 x0 x1 x2 x3 g0 [a0, a1] =
  if (decide ((a0).toInt < (((x0).toL).length : Int))) = true then
  if (decide ((a0).toInt ≥ (0 : Int))) = true then
    if (decide ((a0).toInt < (((x0).toL).length : Int))) = true then
      bindC (FX 23 [a0, (if (decide ((64 : Int) < ((((x0).toL).getD ((a0).toInt).toNat D.nil)).toInt)) = true then (D.int (64 : Int)) else (((x0).toL).getD ((a0).toInt).toNat D.nil))]) 1 fun r6 =>
        if (decide (((((a1).toL ++ ((r6.getD 0 D.nil)).toL)).length : Int) ≤ (1466015503701 : Int))) = true then
        (W_plan_Weighted_2 x0 x1 x2 x3 g0) [(D.int (IntKind.i64.wrap ((a0).toInt + (1 : Int)))), (D.agg ((a1).toL ++ ((r6.getD 0 D.nil)).toL))]
        else none
      else none
    else none
  else
  g0 [(D.int (IntKind.i64.wrap ((x2).toInt + (1 : Int)))), a1] := (loopP_eq FX B_plan_Weighted_2 [g0] [x0, x1, x2, x3] _).trans (by kernel_rfl)
noncomputable def W_plan_Weighted_1 (x0 x1 : D) : Eng.Fn := loopF fun g xs => evalP FX B_plan_Weighted_1 ([] ++ [g]) ([x0, x1] ++ xs)
theorem W_plan_Weighted_1_eq (x0 x1 : D) (a0 a1 : D) : W_plan_Weighted_1 x0 x1 [a0, a1] =
  if (decide ((a0).toInt < ((if (decide (((if (decide ((4096 : Int) < (x1).toInt)) = true then (D.int (4096 : Int)) else x1)).toInt > (0 : Int))) = true then (if (decide ((4096 : Int) < (x1).toInt)) = true then (D.int (4096 : Int)) else x1) else (D.int (0 : Int)))).toInt)) = true then
  W_plan_Weighted_2 x0 x1 a0 a1 ((W_plan_Weighted_1 x0 x1)) [(D.int (0 : Int)), a1]
  else
  some [a1] := (loopP_eq FX B_plan_Weighted_1 [] [x0, x1] _).trans (by kernel_rfl)
theorem E_plan_Weighted (x0 x1 : D) : FX 26 [x0, x1] =
  W_plan_Weighted_1 x0 x1 [(D.int (0 : Int)), (D.agg [])] := (fixP_eq (t := T_plan_Weighted) (by rfl) _).trans (by kernel_rfl)
noncomputable def W_law21_PlanLays_5 (x0 x1 x2 x3 x4 x5 x6 x7 x8 x9 x10 x11 x12 x13 x14 x15 x16 x17 x18 x19 x20 x21 x22 x23 x24 x25 x26 x27 x28 : D) (g0 g1 g2 g3 : Eng.Fn) : Eng.Fn := loopF fun g xs => evalP FX B_law21_PlanLays_5 ([g0, g1, g2, g3] ++ [g]) ([x0, x1, x2, x3, x4, x5, x6, x7, x8, x9, x10, x11, x12, x13, x14, x15, x16, x17, x18, x19, x20, x21, x22, x23, x24, x25, x26, x27, x28] ++ xs)
theorem W_law21_PlanLays_5_eq (x0 x1 x2 x3 x4 x5 x6 x7 x8 x9 x10 x11 x12 x13 x14 x15 x16 x17 x18 x19 x20 x21 x22 x23 x24 x25 x26 x27 x28 : D) (g0 g1 g2 g3 : Eng.Fn) (a0 a1 : D) : W_law21_PlanLays_5 x0 x1 x2 x3 x4 x5 x6 x7 x8 x9 x10 x11 x12 x13 x14 x15 x16 x17 x18 x19 x20 x21 x22 x23 x24 x25 x26 x27 x28 g0 g1 g2 g3 [a0, a1] =
  if (decide ((a0).toInt < ((if (decide (((if (decide ((64 : Int) < ((((x10).toL).getD ((x27).toInt).toNat D.nil)).toInt)) = true then (D.int (64 : Int)) else (((x10).toL).getD ((x27).toInt).toNat D.nil))).toInt > (0 : Int))) = true then (if (decide ((64 : Int) < ((((x10).toL).getD ((x27).toInt).toNat D.nil)).toInt)) = true then (D.int (64 : Int)) else (((x10).toL).getD ((x27).toInt).toNat D.nil)) else (D.int (0 : Int)))).toInt)) = true then
  if (decide (((((a1).toL ++ (x27 :: []))).length : Int) ≤ (17592186044416 : Int))) = true then
    (W_law21_PlanLays_5 x0 x1 x2 x3 x4 x5 x6 x7 x8 x9 x10 x11 x12 x13 x14 x15 x16 x17 x18 x19 x20 x21 x22 x23 x24 x25 x26 x27 x28 g0 g1 g2 g3) [(D.int (IntKind.i64.wrap ((a0).toInt + (1 : Int)))), (D.agg ((a1).toL ++ (x27 :: [])))]
    else none
  else
  g3 [(D.int (IntKind.i64.wrap ((x27).toInt + (1 : Int)))), a1] := (loopP_eq FX B_law21_PlanLays_5 [g0, g1, g2, g3] [x0, x1, x2, x3, x4, x5, x6, x7, x8, x9, x10, x11, x12, x13, x14, x15, x16, x17, x18, x19, x20, x21, x22, x23, x24, x25, x26, x27, x28] _).trans (by kernel_rfl)
noncomputable def W_law21_PlanLays_4 (x0 x1 x2 x3 x4 x5 x6 x7 x8 x9 x10 x11 x12 x13 x14 x15 x16 x17 x18 x19 x20 x21 x22 x23 x24 x25 x26 : D) (g0 g1 g2 : Eng.Fn) : Eng.Fn := loopF fun g xs => evalP FX B_law21_PlanLays_4 ([g0, g1, g2] ++ [g]) ([x0, x1, x2, x3, x4, x5, x6, x7, x8, x9, x10, x11, x12, x13, x14, x15, x16, x17, x18, x19, x20, x21, x22, x23, x24, x25, x26] ++ xs)
theorem W_law21_PlanLays_4_eq (x0 x1 x2 x3 x4 x5 x6 x7 x8 x9 x10 x11 x12 x13 x14 x15 x16 x17 x18 x19 x20 x21 x22 x23 x24 x25 x26 : D) (g0 g1 g2 : Eng.Fn) (a0 a1 : D) : W_law21_PlanLays_4 x0 x1 x2 x3 x4 x5 x6 x7 x8 x9 x10 x11 x12 x13 x14 x15 x16 x17 x18 x19 x20 x21 x22 x23 x24 x25 x26 g0 g1 g2 [a0, a1] =
  if (decide ((a0).toInt < (((x10).toL).length : Int))) = true then
  if (decide ((a0).toInt ≥ (0 : Int))) = true then
    if (decide ((a0).toInt < (((x10).toL).length : Int))) = true then
      W_law21_PlanLays_5 x0 x1 x2 x3 x4 x5 x6 x7 x8 x9 x10 x11 x12 x13 x14 x15 x16 x17 x18 x19 x20 x21 x22 x23 x24 x25 x26 a0 a1 g0 g1 g2 ((W_law21_PlanLays_4 x0 x1 x2 x3 x4 x5 x6 x7 x8 x9 x10 x11 x12 x13 x14 x15 x16 x17 x18 x19 x20 x21 x22 x23 x24 x25 x26 g0 g1 g2)) [(D.int (0 : Int)), a1]
      else none
    else none
  else
  g1 [(D.int (IntKind.i64.wrap ((x22).toInt + (1 : Int)))), x26, a1] := (loopP_eq FX B_law21_PlanLays_4 [g0, g1, g2] [x0, x1, x2, x3, x4, x5, x6, x7, x8, x9, x10, x11, x12, x13, x14, x15, x16, x17, x18, x19, x20, x21, x22, x23, x24, x25, x26] _).trans (by kernel_rfl)
noncomputable def W_law21_PlanLays_3 (x0 x1 x2 x3 x4 x5 x6 x7 x8 x9 x10 x11 x12 x13 x14 x15 x16 x17 x18 x19 x20 x21 x22 x23 x24 : D) (g0 g1 : Eng.Fn) : Eng.Fn := loopF fun g xs => evalP FX B_law21_PlanLays_3 ([g0, g1] ++ [g]) ([x0, x1, x2, x3, x4, x5, x6, x7, x8, x9, x10, x11, x12, x13, x14, x15, x16, x17, x18, x19, x20, x21, x22, x23, x24] ++ xs)
theorem W_law21_PlanLays_3_eq (x0 x1 x2 x3 x4 x5 x6 x7 x8 x9 x10 x11 x12 x13 x14 x15 x16 x17 x18 x19 x20 x21 x22 x23 x24 : D) (g0 g1 : Eng.Fn) (a0 a1 : D) : W_law21_PlanLays_3 x0 x1 x2 x3 x4 x5 x6 x7 x8 x9 x10 x11 x12 x13 x14 x15 x16 x17 x18 x19 x20 x21 x22 x23 x24 g0 g1 [a0, a1] =
  if (decide ((a0).toInt < (IntKind.i64.wrap ((x0).toInt + (IntKind.i64.wrap ((IntKind.i64.wrap ((2 : Int) * (x2).toInt)) * (x3).toInt)))))) = true then
  if (decide (((((a1).toL ++ (a0 :: []))).length : Int) ≤ (17592186044416 : Int))) = true then
    (W_law21_PlanLays_3 x0 x1 x2 x3 x4 x5 x6 x7 x8 x9 x10 x11 x12 x13 x14 x15 x16 x17 x18 x19 x20 x21 x22 x23 x24 g0 g1) [(D.int (IntKind.i64.wrap ((a0).toInt + (1 : Int)))), (D.agg ((a1).toL ++ (a0 :: [])))]
    else none
  else
  W_law21_PlanLays_4 x0 x1 x2 x3 x4 x5 x6 x7 x8 x9 x10 x11 x12 x13 x14 x15 x16 x17 x18 x19 x20 x21 x22 x23 x24 a0 a1 g0 g1 ((W_law21_PlanLays_3 x0 x1 x2 x3 x4 x5 x6 x7 x8 x9 x10 x11 x12 x13 x14 x15 x16 x17 x18 x19 x20 x21 x22 x23 x24 g0 g1)) [(D.int (0 : Int)), x24] := (loopP_eq FX B_law21_PlanLays_3 [g0, g1] [x0, x1, x2, x3, x4, x5, x6, x7, x8, x9, x10, x11, x12, x13, x14, x15, x16, x17, x18, x19, x20, x21, x22, x23, x24] _).trans (by kernel_rfl)
noncomputable def W_law21_PlanLays_6 (x0 x1 x2 x3 x4 x5 x6 x7 x8 x9 x10 x11 x12 x13 x14 x15 x16 x17 x18 x19 x20 x21 x22 x23 x24 : D) (g0 g1 : Eng.Fn) : Eng.Fn := loopF fun g xs => evalP FX B_law21_PlanLays_6 ([g0, g1] ++ [g]) ([x0, x1, x2, x3, x4, x5, x6, x7, x8, x9, x10, x11, x12, x13, x14, x15, x16, x17, x18, x19, x20, x21, x22, x23, x24] ++ xs)
theorem W_law21_PlanLays_6_eq (x0 x1 x2 x3 x4 x5 x6 x7 x8 x9 x10 x11 x12 x13 x14 x15 x16 x17 x18 x19 x20 x21 x22 x23 x24 : D) (g0 g1 : Eng.Fn) (a0 a1 : D) : W_law21_PlanLays_6 x0 x1 x2 x3 x4 x5 x6 x7 x8 x9 x10 x11 x12 x13 x14 x15 x16 x17 x18 x19 x20 x21 x22 x23 x24 g0 g1 [a0, a1] =
  if (decide ((a0).toInt < (((x9).toL).length : Int))) = true then
  if (decide ((a0).toInt ≥ (0 : Int))) = true then
    if (decide ((a0).toInt < (((x9).toL).length : Int))) = true then
      bindC (FX 22 [(((x9).toL).getD ((a0).toInt).toNat D.nil), (D.int (IntKind.i64.wrap ((x0).toInt + (IntKind.i64.wrap ((IntKind.i64.wrap ((2 : Int) * (x2).toInt)) * (x3).toInt)))))]) 1 fun r27 =>
        if (decide (((((a1).toL ++ ((r27.getD 0 D.nil) :: []))).length : Int) ≤ (17592186044416 : Int))) = true then
        (W_law21_PlanLays_6 x0 x1 x2 x3 x4 x5 x6 x7 x8 x9 x10 x11 x12 x13 x14 x15 x16 x17 x18 x19 x20 x21 x22 x23 x24 g0 g1) [(D.int (IntKind.i64.wrap ((a0).toInt + (1 : Int)))), (D.agg ((a1).toL ++ ((r27.getD 0 D.nil) :: [])))]
        else none
      else none
    else none
  else
  if (decide ((x7).toInt < (0 : Int))) = true then
    bindC (FX 8 []) 1 fun r27 =>
      if ((r27.getD 0 D.nil)).toBool = true then
      bindC (FX 23 [x7, x8]) 1 fun r28 =>
        if (((((r28.getD 0 D.nil)).toL).length : Int) == (((x21).toL).length : Int)) = true then
        bindC (FX 24 [x11, x12, x13, x14, x15, x16, x17, x9]) 1 fun r29 =>
          bindC (FX 12 [(r29.getD 0 D.nil), a1]) 1 fun r30 =>
          some [(r30.getD 0 D.nil)]
        else
        some [(D.bool false)]
      else
      some [(D.bool false)]
    else
    bindC (FX 8 []) 1 fun r27 =>
      if ((r27.getD 0 D.nil)).toBool = true then
      bindC (FX 23 [x7, x8]) 1 fun r28 =>
        bindC (FX 12 [(r28.getD 0 D.nil), x21]) 1 fun r29 =>
        if ((r29.getD 0 D.nil)).toBool = true then
        bindC (FX 25 [x11, x12, x13, x14, x15, x16, x17, (if (decide (((if (decide ((64 : Int) < (x8).toInt)) = true then (D.int (64 : Int)) else x8)).toInt > (0 : Int))) = true then (if (decide ((64 : Int) < (x8).toInt)) = true then (D.int (64 : Int)) else x8) else (D.int (0 : Int)))]) 1 fun r30 =>
          bindC (FX 12 [(r30.getD 0 D.nil), x23]) 1 fun r31 =>
          if ((r31.getD 0 D.nil)).toBool = true then
          bindC (FX 24 [x11, x12, x13, x14, x15, x16, x17, x9]) 1 fun r32 =>
            bindC (FX 12 [(r32.getD 0 D.nil), a1]) 1 fun r33 =>
            if ((r33.getD 0 D.nil)).toBool = true then
            bindC (FX 26 [x10, (if (decide (((if (decide ((64 : Int) < (x8).toInt)) = true then (D.int (64 : Int)) else x8)).toInt > (0 : Int))) = true then (if (decide ((64 : Int) < (x8).toInt)) = true then (D.int (64 : Int)) else x8) else (D.int (0 : Int)))]) 1 fun r34 =>
              bindC (FX 12 [(r34.getD 0 D.nil), x24]) 1 fun r35 =>
              some [(r35.getD 0 D.nil)]
            else
            some [(D.bool false)]
          else
          some [(D.bool false)]
        else
        some [(D.bool false)]
      else
      some [(D.bool false)] := (loopP_eq FX B_law21_PlanLays_6 [g0, g1] [x0, x1, x2, x3, x4, x5, x6, x7, x8, x9, x10, x11, x12, x13, x14, x15, x16, x17, x18, x19, x20, x21, x22, x23, x24] _).trans (by kernel_rfl)
noncomputable def W_law21_PlanLays_2 (x0 x1 x2 x3 x4 x5 x6 x7 x8 x9 x10 x11 x12 x13 x14 x15 x16 x17 x18 x19 x20 x21 : D) (g0 : Eng.Fn) : Eng.Fn := loopF fun g xs => evalP FX B_law21_PlanLays_2 ([g0] ++ [g]) ([x0, x1, x2, x3, x4, x5, x6, x7, x8, x9, x10, x11, x12, x13, x14, x15, x16, x17, x18, x19, x20, x21] ++ xs)
theorem W_law21_PlanLays_2_eq (x0 x1 x2 x3 x4 x5 x6 x7 x8 x9 x10 x11 x12 x13 x14 x15 x16 x17 x18 x19 x20 x21 : D) (g0 : Eng.Fn) (a0 a1 a2 : D) : W_law21_PlanLays_2 x0 x1 x2 x3 x4 x5 x6 x7 x8 x9 x10 x11 x12 x13 x14 x15 x16 x17 x18 x19 x20 x21 g0 [a0, a1, a2] =
  if (decide ((a0).toInt < ((if (decide (((if (decide ((64 : Int) < (x8).toInt)) = true then (D.int (64 : Int)) else x8)).toInt > (0 : Int))) = true then (if (decide ((64 : Int) < (x8).toInt)) = true then (D.int (64 : Int)) else x8) else (D.int (0 : Int)))).toInt)) = true then
  W_law21_PlanLays_3 x0 x1 x2 x3 x4 x5 x6 x7 x8 x9 x10 x11 x12 x13 x14 x15 x16 x17 x18 x19 x20 x21 a0 a1 a2 g0 ((W_law21_PlanLays_2 x0 x1 x2 x3 x4 x5 x6 x7 x8 x9 x10 x11 x12 x13 x14 x15 x16 x17 x18 x19 x20 x21 g0)) [(D.int (0 : Int)), a1]
  else
  W_law21_PlanLays_6 x0 x1 x2 x3 x4 x5 x6 x7 x8 x9 x10 x11 x12 x13 x14 x15 x16 x17 x18 x19 x20 x21 a0 a1 a2 g0 ((W_law21_PlanLays_2 x0 x1 x2 x3 x4 x5 x6 x7 x8 x9 x10 x11 x12 x13 x14 x15 x16 x17 x18 x19 x20 x21 g0)) [(D.int (0 : Int)), (D.agg [])] := (loopP_eq FX B_law21_PlanLays_2 [g0] [x0, x1, x2, x3, x4, x5, x6, x7, x8, x9, x10, x11, x12, x13, x14, x15, x16, x17, x18, x19, x20, x21] _).trans (by kernel_rfl)
noncomputable def W_law21_PlanLays_1 (x0 x1 x2 x3 x4 x5 x6 x7 x8 x9 x10 x11 x12 x13 x14 x15 x16 x17 x18 x19 : D) : Eng.Fn := loopF fun g xs => evalP FX B_law21_PlanLays_1 ([] ++ [g]) ([x0, x1, x2, x3, x4, x5, x6, x7, x8, x9, x10, x11, x12, x13, x14, x15, x16, x17, x18, x19] ++ xs)
theorem W_law21_PlanLays_1_eq (x0 x1 x2 x3 x4 x5 x6 x7 x8 x9 x10 x11 x12 x13 x14 x15 x16 x17 x18 x19 : D) (a0 a1 : D) : W_law21_PlanLays_1 x0 x1 x2 x3 x4 x5 x6 x7 x8 x9 x10 x11 x12 x13 x14 x15 x16 x17 x18 x19 [a0, a1] =
  if (decide ((a0).toInt < ((if (decide (((if (decide ((65536 : Int) < (x8).toInt)) = true then (D.int (65536 : Int)) else x8)).toInt > (0 : Int))) = true then (if (decide ((65536 : Int) < (x8).toInt)) = true then (D.int (65536 : Int)) else x8) else (D.int (0 : Int)))).toInt)) = true then
  if (decide (((((a1).toL ++ (x7 :: []))).length : Int) ≤ (17592186044416 : Int))) = true then
    (W_law21_PlanLays_1 x0 x1 x2 x3 x4 x5 x6 x7 x8 x9 x10 x11 x12 x13 x14 x15 x16 x17 x18 x19) [(D.int (IntKind.i64.wrap ((a0).toInt + (1 : Int)))), (D.agg ((a1).toL ++ (x7 :: [])))]
    else none
  else
  W_law21_PlanLays_2 x0 x1 x2 x3 x4 x5 x6 x7 x8 x9 x10 x11 x12 x13 x14 x15 x16 x17 x18 x19 a0 a1 ((W_law21_PlanLays_1 x0 x1 x2 x3 x4 x5 x6 x7 x8 x9 x10 x11 x12 x13 x14 x15 x16 x17 x18 x19)) [(D.int (0 : Int)), (D.agg []), (D.agg [])] := (loopP_eq FX B_law21_PlanLays_1 [] [x0, x1, x2, x3, x4, x5, x6, x7, x8, x9, x10, x11, x12, x13, x14, x15, x16, x17, x18, x19] _).trans (by kernel_rfl)
theorem E_law21_PlanLays (x0 x1 x2 x3 x4 x5 x6 x7 x8 x9 x10 : D) : FX 5 [x0, x1, x2, x3, x4, x5, x6, x7, x8, x9, x10] =
  bindC (FX 14 [x0, x1, x2, x3, x4, x5, x6]) 8 fun r11 =>
  bindC (FX 15 [x0, x1, x2, x3, x4, x5, x6]) 1 fun r19 =>
  if (decide (((r19.getD 0 D.nil)).toInt ≥ (0 : Int))) = true then
  bindC (FX 8 []) 1 fun r20 =>
    if ((r20.getD 0 D.nil)).toBool = true then
    bindC (FX 15 [x0, x1, x2, x3, x4, x5, x6]) 1 fun r21 =>
      some [(D.bool (((r11.getD 7 D.nil)).isNil == (decide (((r21.getD 0 D.nil)).toInt < (0 : Int)))))]
    else
    some [(D.bool false)]
  else
  if (decide ((((x9).toL).length : Int) > (200 : Int))) = true then
    bindC (FX 8 []) 1 fun r20 =>
      if ((r20.getD 0 D.nil)).toBool = true then
      bindC (FX 15 [x0, x1, x2, x3, x4, x5, x6]) 1 fun r21 =>
        some [(D.bool (((r11.getD 7 D.nil)).isNil == (decide (((r21.getD 0 D.nil)).toInt < (0 : Int)))))]
      else
      some [(D.bool false)]
    else
    if (decide ((((x10).toL).length : Int) > (20 : Int))) = true then
      bindC (FX 8 []) 1 fun r20 =>
        if ((r20.getD 0 D.nil)).toBool = true then
        bindC (FX 15 [x0, x1, x2, x3, x4, x5, x6]) 1 fun r21 =>
          some [(D.bool (((r11.getD 7 D.nil)).isNil == (decide (((r21.getD 0 D.nil)).toInt < (0 : Int)))))]
        else
        some [(D.bool false)]
      else
      W_law21_PlanLays_1 x0 x1 x2 x3 x4 x5 x6 x7 x8 x9 x10 (r11.getD 0 D.nil) (r11.getD 1 D.nil) (r11.getD 2 D.nil) (r11.getD 3 D.nil) (r11.getD 4 D.nil) (r11.getD 5 D.nil) (r11.getD 6 D.nil) (r11.getD 7 D.nil) (r19.getD 0 D.nil) [(D.int (0 : Int)), (D.agg [])] := (fixP_eq (t := T_law21_PlanLays) (by rfl) _).trans (by kernel_rfl)
noncomputable def W_law21_PlanRounds_1 (x0 x1 x2 x3 x4 x5 x6 x7 x8 x9 x10 x11 x12 x13 x14 x15 x16 x17 : D) : Eng.Fn := loopF fun g xs => evalP FX B_law21_PlanRounds_1 ([] ++ [g]) ([x0, x1, x2, x3, x4, x5, x6, x7, x8, x9, x10, x11, x12, x13, x14, x15, x16, x17] ++ xs)
theorem W_law21_PlanRounds_1_eq (x0 x1 x2 x3 x4 x5 x6 x7 x8 x9 x10 x11 x12 x13 x14 x15 x16 x17 : D) (a0 : D) : W_law21_PlanRounds_1 x0 x1 x2 x3 x4 x5 x6 x7 x8 x9 x10 x11 x12 x13 x14 x15 x16 x17 [a0] =
  if (decide ((a0).toInt < (((x17).toL).length : Int))) = true then
  if (decide ((a0).toInt ≥ (0 : Int))) = true then
    if (decide ((a0).toInt < (((x17).toL).length : Int))) = true then
      if (((((x17).toL).getD ((a0).toInt).toNat D.nil)).toInt != (IntKind.i64.wrap (Int.tmod (x7).toInt (20 : Int)))) = true then
        some [(D.bool false)]
        else
        (W_law21_PlanRounds_1 x0 x1 x2 x3 x4 x5 x6 x7 x8 x9 x10 x11 x12 x13 x14 x15 x16 x17) [(D.int (IntKind.i64.wrap ((a0).toInt + (1 : Int))))]
      else none
    else none
  else
  bindC (FX 8 []) 1 fun r19 =>
    if ((r19.getD 0 D.nil)).toBool = true then
    bindC (FX 27 [x8, x9, x10, x11, x12, x13, x14]) 1 fun r20 =>
      if ((((x16).toL).length : Int) == (IntKind.i64.wrap ((IntKind.i64.wrap (Int.tmod (x7).toInt (20 : Int))) * ((r20.getD 0 D.nil)).toInt))) = true then
      bindC (FX 27 [x8, x9, x10, x11, x12, x13, x14]) 1 fun r21 =>
        bindC (FX 21 [x8, x9, x10, x11, x12, x13, x14, (r21.getD 0 D.nil), x16]) 1 fun r22 =>
        if ((r22.getD 0 D.nil)).toBool = true then
        if (decide ((IntKind.i64.wrap (Int.tmod (x7).toInt (20 : Int))) < (2 : Int))) = true then
          some [(D.bool true)]
          else
          bindC (FX 27 [x8, x9, x10, x11, x12, x13, x14]) 1 fun r23 =>
            bindC (FX 21 [x8, x9, x10, x11, x12, x13, x14, (D.int (IntKind.i64.wrap (((r23.getD 0 D.nil)).toInt - (1 : Int)))), x16]) 1 fun r24 =>
            some [(D.bool (!((r24.getD 0 D.nil)).toBool))]
        else
        some [(D.bool false)]
      else
      some [(D.bool false)]
    else
    some [(D.bool false)] := (loopP_eq FX B_law21_PlanRounds_1 [] [x0, x1, x2, x3, x4, x5, x6, x7, x8, x9, x10, x11, x12, x13, x14, x15, x16, x17] _).trans (by kernel_rfl)
theorem E_law21_PlanRounds (x0 x1 x2 x3 x4 x5 x6 x7 : D) : FX 6 [x0, x1, x2, x3, x4, x5, x6, x7] =
  bindC (FX 14 [x0, x1, x2, x3, x4, x5, x6]) 8 fun r8 =>
  if (!((r8.getD 7 D.nil)).isNil) = true then
  bindC (FX 8 []) 1 fun r16 =>
    some [(r16.getD 0 D.nil)]
  else
  bindC (FX 25 [(r8.getD 0 D.nil), (r8.getD 1 D.nil), (r8.getD 2 D.nil), (r8.getD 3 D.nil), (r8.getD 4 D.nil), (r8.getD 5 D.nil), (r8.getD 6 D.nil), (D.int (IntKind.i64.wrap (Int.tmod (x7).toInt (20 : Int))))]) 1 fun r16 =>
    bindC (FX 16 [(r8.getD 0 D.nil), (r8.getD 1 D.nil), (r8.getD 2 D.nil), (r8.getD 3 D.nil), (r8.getD 4 D.nil), (r8.getD 5 D.nil), (r8.getD 6 D.nil), (r16.getD 0 D.nil)]) 1 fun r17 =>
    W_law21_PlanRounds_1 x0 x1 x2 x3 x4 x5 x6 x7 (r8.getD 0 D.nil) (r8.getD 1 D.nil) (r8.getD 2 D.nil) (r8.getD 3 D.nil) (r8.getD 4 D.nil) (r8.getD 5 D.nil) (r8.getD 6 D.nil) (r8.getD 7 D.nil) (r16.getD 0 D.nil) (r17.getD 0 D.nil) [(D.int (0 : Int))] := (fixP_eq (t := T_law21_PlanRounds) (by rfl) _).trans (by kernel_rfl)
noncomputable def W_law21_PlanKeeps_2 (x0 x1 x2 x3 x4 x5 x6 x7 x8 x9 x10 x11 x12 x13 x14 x15 x16 x17 x18 x19 x20 x21 x22 x23 x24 : D) (g0 : Eng.Fn) : Eng.Fn := loopF fun g xs => evalP FX B_law21_PlanKeeps_2 ([g0] ++ [g]) ([x0, x1, x2, x3, x4, x5, x6, x7, x8, x9, x10, x11, x12, x13, x14, x15, x16, x17, x18, x19, x20, x21, x22, x23, x24] ++ xs)
theorem W_law21_PlanKeeps_2_eq (x0 x1 x2 x3 x4 x5 x6 x7 x8 x9 x10 x11 x12 x13 x14 x15 x16 x17 x18 x19 x20 x21 x22 x23 x24 : D) (g0 : Eng.Fn) (a0 a1 : D) : W_law21_PlanKeeps_2 x0 x1 x2 x3 x4 x5 x6 x7 x8 x9 x10 x11 x12 x13 x14 x15 x16 x17 x18 x19 x20 x21 x22 x23 x24 g0 [a0, a1] =
  if (decide ((a0).toInt < (((x24).toL).length : Int))) = true then
  if (decide ((a0).toInt ≥ (0 : Int))) = true then
    if (decide ((a0).toInt < (((x24).toL).length : Int))) = true then
      if (decide ((a0).toInt ≥ (0 : Int))) = true then
        if (decide ((a0).toInt < (((a1).toL).length : Int))) = true then
          if (decide ((a0).toInt ≥ (0 : Int))) = true then
            if (decide ((a0).toInt < (((a1).toL).length : Int))) = true then
              (W_law21_PlanKeeps_2 x0 x1 x2 x3 x4 x5 x6 x7 x8 x9 x10 x11 x12 x13 x14 x15 x16 x17 x18 x19 x20 x21 x22 x23 x24 g0) [(D.int (IntKind.i64.wrap ((a0).toInt + (1 : Int)))), (D.agg (((a1).toL).set ((a0).toInt).toNat (D.int (IntKind.i64.wrap (((((a1).toL).getD ((a0).toInt).toNat D.nil)).toInt + ((((x24).toL).getD ((a0).toInt).toNat D.nil)).toInt)))))]
              else none
            else none
          else none
        else none
      else none
    else none
  else
  g0 [(D.int (IntKind.i64.wrap ((x19).toInt + (1 : Int)))), (D.agg ((x20).toL ++ (x22 :: []))), a1] := (loopP_eq FX B_law21_PlanKeeps_2 [g0] [x0, x1, x2, x3, x4, x5, x6, x7, x8, x9, x10, x11, x12, x13, x14, x15, x16, x17, x18, x19, x20, x21, x22, x23, x24] _).trans (by kernel_rfl)
noncomputable def W_law21_PlanKeeps_5 (x0 x1 x2 x3 x4 x5 x6 x7 x8 x9 x10 x11 x12 x13 x14 x15 x16 x17 x18 x19 x20 x21 x22 x23 x24 x25 x26 x27 x28 x29 x30 : D) (g0 g1 g2 : Eng.Fn) : Eng.Fn := loopF fun g xs => evalP FX B_law21_PlanKeeps_5 ([g0, g1, g2] ++ [g]) ([x0, x1, x2, x3, x4, x5, x6, x7, x8, x9, x10, x11, x12, x13, x14, x15, x16, x17, x18, x19, x20, x21, x22, x23, x24, x25, x26, x27, x28, x29, x30] ++ xs)
theorem W_law21_PlanKeeps_5_eq (x0 x1 x2 x3 x4 x5 x6 x7 x8 x9 x10 x11 x12 x13 x14 x15 x16 x17 x18 x19 x20 x21 x22 x23 x24 x25 x26 x27 x28 x29 x30 : D) (g0 g1 g2 : Eng.Fn) (a0 : D) : W_law21_PlanKeeps_5 x0 x1 x2 x3 x4 x5 x6 x7 x8 x9 x10 x11 x12 x13 x14 x15 x16 x17 x18 x19 x20 x21 x22 x23 x24 x25 x26 x27 x28 x29 x30 g0 g1 g2 [a0] =
  if (decide ((a0).toInt < (((x30).toL).length : Int))) = true then
  if (decide ((a0).toInt ≥ (0 : Int))) = true then
    if (decide ((a0).toInt < (((x30).toL).length : Int))) = true then
      if (decide ((a0).toInt ≥ (0 : Int))) = true then
        if (decide ((a0).toInt < (((x21).toL).length : Int))) = true then
          if (((((x30).toL).getD ((a0).toInt).toNat D.nil)).toInt != ((((x21).toL).getD ((a0).toInt).toNat D.nil)).toInt) = true then
            some [(D.bool false)]
            else
            if ((a0).toInt != (x8).toInt) = true then
              if (decide ((a0).toInt ≥ (0 : Int))) = true then
                if (decide ((a0).toInt < (((x24).toL).length : Int))) = true then
                  if (((((x24).toL).getD ((a0).toInt).toNat D.nil)).toInt != ((((x30).toL).getD ((a0).toInt).toNat D.nil)).toInt) = true then
                    some [(D.bool false)]
                    else
                    if ((a0).toInt == (x8).toInt) = true then
                      if (decide ((a0).toInt ≥ (0 : Int))) = true then
                        if (decide ((a0).toInt < (((x24).toL).length : Int))) = true then
                          if (((((x24).toL).getD ((a0).toInt).toNat D.nil)).toInt != (0 : Int)) = true then
                            some [(D.bool false)]
                            else
                            (W_law21_PlanKeeps_5 x0 x1 x2 x3 x4 x5 x6 x7 x8 x9 x10 x11 x12 x13 x14 x15 x16 x17 x18 x19 x20 x21 x22 x23 x24 x25 x26 x27 x28 x29 x30 g0 g1 g2) [(D.int (IntKind.i64.wrap ((a0).toInt + (1 : Int))))]
                          else none
                        else none
                      else
                      (W_law21_PlanKeeps_5 x0 x1 x2 x3 x4 x5 x6 x7 x8 x9 x10 x11 x12 x13 x14 x15 x16 x17 x18 x19 x20 x21 x22 x23 x24 x25 x26 x27 x28 x29 x30 g0 g1 g2) [(D.int (IntKind.i64.wrap ((a0).toInt + (1 : Int))))]
                  else none
                else none
              else
              if ((a0).toInt == (x8).toInt) = true then
                if (decide ((a0).toInt ≥ (0 : Int))) = true then
                  if (decide ((a0).toInt < (((x24).toL).length : Int))) = true then
                    if (((((x24).toL).getD ((a0).toInt).toNat D.nil)).toInt != (0 : Int)) = true then
                      some [(D.bool false)]
                      else
                      (W_law21_PlanKeeps_5 x0 x1 x2 x3 x4 x5 x6 x7 x8 x9 x10 x11 x12 x13 x14 x15 x16 x17 x18 x19 x20 x21 x22 x23 x24 x25 x26 x27 x28 x29 x30 g0 g1 g2) [(D.int (IntKind.i64.wrap ((a0).toInt + (1 : Int))))]
                    else none
                  else none
                else
                (W_law21_PlanKeeps_5 x0 x1 x2 x3 x4 x5 x6 x7 x8 x9 x10 x11 x12 x13 x14 x15 x16 x17 x18 x19 x20 x21 x22 x23 x24 x25 x26 x27 x28 x29 x30 g0 g1 g2) [(D.int (IntKind.i64.wrap ((a0).toInt + (1 : Int))))]
          else none
        else none
      else none
    else none
  else
  bindC (FX 8 []) 1 fun r32 =>
    if ((r32.getD 0 D.nil)).toBool = true then
    some [(D.bool ((x26).toInt == (x28).toInt))]
    else
    some [(D.bool false)] := (loopP_eq FX B_law21_PlanKeeps_5 [g0, g1, g2] [x0, x1, x2, x3, x4, x5, x6, x7, x8, x9, x10, x11, x12, x13, x14, x15, x16, x17, x18, x19, x20, x21, x22, x23, x24, x25, x26, x27, x28, x29, x30] _).trans (by kernel_rfl)
noncomputable def W_law21_PlanKeeps_4 (x0 x1 x2 x3 x4 x5 x6 x7 x8 x9 x10 x11 x12 x13 x14 x15 x16 x17 x18 x19 x20 x21 x22 x23 x24 x25 x26 x27 : D) (g0 g1 : Eng.Fn) : Eng.Fn := loopF fun g xs => evalP FX B_law21_PlanKeeps_4 ([g0, g1] ++ [g]) ([x0, x1, x2, x3, x4, x5, x6, x7, x8, x9, x10, x11, x12, x13, x14, x15, x16, x17, x18, x19, x20, x21, x22, x23, x24, x25, x26, x27] ++ xs)
theorem W_law21_PlanKeeps_4_eq (x0 x1 x2 x3 x4 x5 x6 x7 x8 x9 x10 x11 x12 x13 x14 x15 x16 x17 x18 x19 x20 x21 x22 x23 x24 x25 x26 x27 : D) (g0 g1 : Eng.Fn) (a0 a1 : D) : W_law21_PlanKeeps_4 x0 x1 x2 x3 x4 x5 x6 x7 x8 x9 x10 x11 x12 x13 x14 x15 x16 x17 x18 x19 x20 x21 x22 x23 x24 x25 x26 x27 g0 g1 [a0, a1] =
  if (decide ((a1).toInt < (((x22).toL).length : Int))) = true then
  if (decide ((a1).toInt ≥ (0 : Int))) = true then
    if (decide ((a1).toInt < (((x22).toL).length : Int))) = true then
      if ((((((((x22).toL).getD ((a1).toInt).toNat D.nil)).toL).getD 0 D.nil)).toInt == (3 : Int)) = true then
        (W_law21_PlanKeeps_4 x0 x1 x2 x3 x4 x5 x6 x7 x8 x9 x10 x11 x12 x13 x14 x15 x16 x17 x18 x19 x20 x21 x22 x23 x24 x25 x26 x27 g0 g1) [(D.int (IntKind.i64.wrap ((a0).toInt + (1 : Int)))), (D.int (IntKind.i64.wrap ((a1).toInt + (1 : Int))))]
        else
        (W_law21_PlanKeeps_4 x0 x1 x2 x3 x4 x5 x6 x7 x8 x9 x10 x11 x12 x13 x14 x15 x16 x17 x18 x19 x20 x21 x22 x23 x24 x25 x26 x27 g0 g1) [a0, (D.int (IntKind.i64.wrap ((a1).toInt + (1 : Int))))]
      else none
    else none
  else
  bindC (FX 16 [x9, x10, x11, x12, x13, x14, x15, x22]) 1 fun r30 =>
    W_law21_PlanKeeps_5 x0 x1 x2 x3 x4 x5 x6 x7 x8 x9 x10 x11 x12 x13 x14 x15 x16 x17 x18 x19 x20 x21 x22 x23 x24 x25 x26 x27 a0 a1 (r30.getD 0 D.nil) g0 g1 ((W_law21_PlanKeeps_4 x0 x1 x2 x3 x4 x5 x6 x7 x8 x9 x10 x11 x12 x13 x14 x15 x16 x17 x18 x19 x20 x21 x22 x23 x24 x25 x26 x27 g0 g1)) [(D.int (0 : Int))] := (loopP_eq FX B_law21_PlanKeeps_4 [g0, g1] [x0, x1, x2, x3, x4, x5, x6, x7, x8, x9, x10, x11, x12, x13, x14, x15, x16, x17, x18, x19, x20, x21, x22, x23, x24, x25, x26, x27] _).trans (by kernel_rfl)
noncomputable def W_law21_PlanKeeps_3 (x0 x1 x2 x3 x4 x5 x6 x7 x8 x9 x10 x11 x12 x13 x14 x15 x16 x17 x18 x19 x20 x21 x22 x23 x24 x25 : D) (g0 : Eng.Fn) : Eng.Fn := loopF fun g xs => evalP FX B_law21_PlanKeeps_3 ([g0] ++ [g]) ([x0, x1, x2, x3, x4, x5, x6, x7, x8, x9, x10, x11, x12, x13, x14, x15, x16, x17, x18, x19, x20, x21, x22, x23, x24, x25] ++ xs)
theorem W_law21_PlanKeeps_3_eq (x0 x1 x2 x3 x4 x5 x6 x7 x8 x9 x10 x11 x12 x13 x14 x15 x16 x17 x18 x19 x20 x21 x22 x23 x24 x25 : D) (g0 : Eng.Fn) (a0 a1 : D) : W_law21_PlanKeeps_3 x0 x1 x2 x3 x4 x5 x6 x7 x8 x9 x10 x11 x12 x13 x14 x15 x16 x17 x18 x19 x20 x21 x22 x23 x24 x25 g0 [a0, a1] =
  if (decide ((a1).toInt < (((x25).toL).length : Int))) = true then
  if (decide ((a1).toInt ≥ (0 : Int))) = true then
    if (decide ((a1).toInt < (((x25).toL).length : Int))) = true then
      (W_law21_PlanKeeps_3 x0 x1 x2 x3 x4 x5 x6 x7 x8 x9 x10 x11 x12 x13 x14 x15 x16 x17 x18 x19 x20 x21 x22 x23 x24 x25 g0) [(D.int (IntKind.i64.wrap ((a0).toInt + (((((((x25).toL).getD ((a1).toInt).toNat D.nil)).toL).getD 1 D.nil)).toInt))), (D.int (IntKind.i64.wrap ((a1).toInt + (1 : Int))))]
      else none
    else none
  else
  W_law21_PlanKeeps_4 x0 x1 x2 x3 x4 x5 x6 x7 x8 x9 x10 x11 x12 x13 x14 x15 x16 x17 x18 x19 x20 x21 x22 x23 x24 x25 a0 a1 g0 ((W_law21_PlanKeeps_3 x0 x1 x2 x3 x4 x5 x6 x7 x8 x9 x10 x11 x12 x13 x14 x15 x16 x17 x18 x19 x20 x21 x22 x23 x24 x25 g0)) [(D.int (0 : Int)), (D.int (0 : Int))] := (loopP_eq FX B_law21_PlanKeeps_3 [g0] [x0, x1, x2, x3, x4, x5, x6, x7, x8, x9, x10, x11, x12, x13, x14, x15, x16, x17, x18, x19, x20, x21, x22, x23, x24, x25] _).trans (by kernel_rfl)
noncomputable def W_law21_PlanKeeps_1 (x0 x1 x2 x3 x4 x5 x6 x7 x8 x9 x10 x11 x12 x13 x14 x15 x16 x17 x18 : D) : Eng.Fn := loopF fun g xs => evalP FX B_law21_PlanKeeps_1 ([] ++ [g]) ([x0, x1, x2, x3, x4, x5, x6, x7, x8, x9, x10, x11, x12, x13, x14, x15, x16, x17, x18] ++ xs)
theorem W_law21_PlanKeeps_1_eq (x0 x1 x2 x3 x4 x5 x6 x7 x8 x9 x10 x11 x12 x13 x14 x15 x16 x17 x18 : D) (a0 a1 a2 : D) : W_law21_PlanKeeps_1 x0 x1 x2 x3 x4 x5 x6 x7 x8 x9 x10 x11 x12 x13 x14 x15 x16 x17 x18 [a0, a1, a2] =
  if (decide ((a0).toInt < (((x7).toL).length : Int))) = true then
  if (decide ((a0).toInt ≥ (0 : Int))) = true then
    if (decide ((a0).toInt < (((x7).toL).length : Int))) = true then
      if (decide (((((((x7).toL).getD ((a0).toInt).toNat D.nil)).toL).length : Int) > (30 : Int))) = true then
        bindC (FX 8 []) 1 fun r22 =>
          some [(r22.getD 0 D.nil)]
        else
        bindC (FX 9 [(((x7).toL).getD ((a0).toInt).toNat D.nil)]) 1 fun r22 =>
          if (decide (((((a1).toL ++ ((r22.getD 0 D.nil) :: []))).length : Int) ≤ (5864062014805 : Int))) = true then
          bindC (FX 9 [(((x7).toL).getD ((a0).toInt).toNat D.nil)]) 1 fun r23 =>
            bindC (FX 16 [x9, x10, x11, x12, x13, x14, x15, (r23.getD 0 D.nil)]) 1 fun r24 =>
            W_law21_PlanKeeps_2 x0 x1 x2 x3 x4 x5 x6 x7 x8 x9 x10 x11 x12 x13 x14 x15 x16 x17 x18 a0 a1 a2 (r22.getD 0 D.nil) (r23.getD 0 D.nil) (r24.getD 0 D.nil) ((W_law21_PlanKeeps_1 x0 x1 x2 x3 x4 x5 x6 x7 x8 x9 x10 x11 x12 x13 x14 x15 x16 x17 x18)) [(D.int (0 : Int)), a2]
          else none
      else none
    else none
  else
  bindC (FX 11 [a1]) 1 fun r22 =>
    bindC (FX 13 [x8, (r22.getD 0 D.nil)]) 1 fun r23 =>
    bindC (FX 16 [x9, x10, x11, x12, x13, x14, x15, (r23.getD 0 D.nil)]) 1 fun r24 =>
    bindC (FX 18 [(r22.getD 0 D.nil)]) 1 fun r25 =>
    W_law21_PlanKeeps_3 x0 x1 x2 x3 x4 x5 x6 x7 x8 x9 x10 x11 x12 x13 x14 x15 x16 x17 x18 a0 a1 a2 (r22.getD 0 D.nil) (r23.getD 0 D.nil) (r24.getD 0 D.nil) (r25.getD 0 D.nil) ((W_law21_PlanKeeps_1 x0 x1 x2 x3 x4 x5 x6 x7 x8 x9 x10 x11 x12 x13 x14 x15 x16 x17 x18)) [(D.int (0 : Int)), (D.int (0 : Int))] := (loopP_eq FX B_law21_PlanKeeps_1 [] [x0, x1, x2, x3, x4, x5, x6, x7, x8, x9, x10, x11, x12, x13, x14, x15, x16, x17, x18] _).trans (by kernel_rfl)
theorem E_law21_PlanKeeps (x0 x1 x2 x3 x4 x5 x6 x7 x8 : D) : FX 7 [x0, x1, x2, x3, x4, x5, x6, x7, x8] =
  bindC (FX 14 [x0, x1, x2, x3, x4, x5, x6]) 8 fun r9 =>
  if (!((r9.getD 7 D.nil)).isNil) = true then
  bindC (FX 8 []) 1 fun r17 =>
    some [(r17.getD 0 D.nil)]
  else
  if (decide ((((x7).toL).length : Int) > (10 : Int))) = true then
    bindC (FX 8 []) 1 fun r17 =>
      some [(r17.getD 0 D.nil)]
    else
    if (decide ((x8).toInt < (0 : Int))) = true then
      bindC (FX 8 []) 1 fun r17 =>
        some [(r17.getD 0 D.nil)]
      else
      bindC (FX 27 [(r9.getD 0 D.nil), (r9.getD 1 D.nil), (r9.getD 2 D.nil), (r9.getD 3 D.nil), (r9.getD 4 D.nil), (r9.getD 5 D.nil), (r9.getD 6 D.nil)]) 1 fun r17 =>
        if (decide ((x8).toInt ≥ ((r17.getD 0 D.nil)).toInt)) = true then
        bindC (FX 8 []) 1 fun r18 =>
          some [(r18.getD 0 D.nil)]
        else
        bindC (FX 27 [(r9.getD 0 D.nil), (r9.getD 1 D.nil), (r9.getD 2 D.nil), (r9.getD 3 D.nil), (r9.getD 4 D.nil), (r9.getD 5 D.nil), (r9.getD 6 D.nil)]) 1 fun r18 =>
          if (decide (((r18.getD 0 D.nil)).toInt ≥ (0 : Int))) = true then
          if (decide (((r18.getD 0 D.nil)).toInt ≤ (17592186044416 : Int))) = true then
            W_law21_PlanKeeps_1 x0 x1 x2 x3 x4 x5 x6 x7 x8 (r9.getD 0 D.nil) (r9.getD 1 D.nil) (r9.getD 2 D.nil) (r9.getD 3 D.nil) (r9.getD 4 D.nil) (r9.getD 5 D.nil) (r9.getD 6 D.nil) (r9.getD 7 D.nil) (r17.getD 0 D.nil) (r18.getD 0 D.nil) [(D.int (0 : Int)), (D.agg []), (D.agg (List.replicate (((r18.getD 0 D.nil)).toInt).toNat (D.int (0 : Int))))]
            else none
          else none := (fixP_eq (t := T_law21_PlanKeeps) (by rfl) _).trans (by kernel_rfl)
end Go.Proofs.Ytankedgkiecgaaa
