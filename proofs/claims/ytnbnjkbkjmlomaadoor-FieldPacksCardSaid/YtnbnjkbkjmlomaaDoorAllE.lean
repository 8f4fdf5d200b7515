/-
  The functions, as equations.
-/
import Derived.Test.YtnbnjkbkjmlomaaDoorAll
namespace Go.Proofs.YtnbnjkbkjmlomaaDoor
open Go.Proofs.YtnbnjkbkjmlomaaDoor.Eng
set_option linter.unusedVariables false
set_option maxRecDepth 20000
theorem E_law02_light (x0 : D) : FX 4 [x0] =
  some [(D.bool (decide ((((x0).toL).length : Int) ≤ (70 : Int))))] := (fixP_eq (t := T_law02_light) (by rfl) _).trans (by kernel_rfl)
theorem E_fault_At (x0 x1 : D) : FX 17 [x0, x1] =
  if (x1).isNil = true then
  some [D.nil]
  else
  some [(D.iface 50 (D.agg (x0 :: (x1 :: []))))] := (fixP_eq (t := T_fault_At) (by rfl) _).trans (by kernel_rfl)
noncomputable def W_field_New_1 (x0 : D) : Eng.Fn := loopF fun g xs => evalP FX B_field_New_1 ([] ++ [g]) ([x0] ++ xs)
theorem W_field_New_1_eq (x0 : D) (a0 a1 : D) : W_field_New_1 x0 [a0, a1] =
  if (decide ((a1).toInt < (((x0).toL).length : Int))) = true then
  if (decide ((a1).toInt ≥ (0 : Int))) = true then
    if (decide ((a1).toInt < (((x0).toL).length : Int))) = true then
      if (decide (((((x0).toL).getD ((a1).toInt).toNat D.nil)).toInt < (1 : Int))) = true then
        bindC (FX 17 [a1, (D.iface 48 (D.int (5 : Int)))]) 1 fun r3 =>
          some [(D.agg []), (r3.getD 0 D.nil)]
        else
        if (decide (((((x0).toL).getD ((a1).toInt).toNat D.nil)).toInt > (32 : Int))) = true then
          bindC (FX 17 [a1, (D.iface 48 (D.int (5 : Int)))]) 1 fun r3 =>
            some [(D.agg []), (r3.getD 0 D.nil)]
          else
          if (decide ((IntKind.i64.wrap ((a0).toInt + ((((x0).toL).getD ((a1).toInt).toNat D.nil)).toInt)) > (64 : Int))) = true then
            bindC (FX 17 [a1, (D.iface 48 (D.int (4 : Int)))]) 1 fun r3 =>
              some [(D.agg []), (r3.getD 0 D.nil)]
            else
            (W_field_New_1 x0) [(D.int (IntKind.i64.wrap ((a0).toInt + ((((x0).toL).getD ((a1).toInt).toNat D.nil)).toInt))), (D.int (IntKind.i64.wrap ((a1).toInt + (1 : Int))))]
      else none
    else none
  else
  if (decide ((((x0).toL).length : Int) ≤ (17592186044416 : Int))) = true then
    some [x0, D.nil]
    else none := (loopP_eq FX B_field_New_1 [] [x0] _).trans (by kernel_rfl)
theorem E_field_New (x0 : D) : FX 6 [x0] =
  W_field_New_1 x0 [(D.int (0 : Int)), (D.int (0 : Int))] := (fixP_eq (t := T_field_New) (by rfl) _).trans (by kernel_rfl)
theorem E_field_Layout_Most (x0 x1 : D) : FX 16 [x0, x1] =
  if (decide ((x1).toInt < (0 : Int))) = true then
  some [(D.int (0 : Int))]
  else
  if (decide ((x1).toInt ≥ (((x0).toL).length : Int))) = true then
    some [(D.int (0 : Int))]
    else
    if (decide ((x1).toInt ≥ (0 : Int))) = true then
      if (decide ((x1).toInt < (((x0).toL).length : Int))) = true then
        if (decide (((((x0).toL).getD ((x1).toInt).toNat D.nil)).toInt ≥ (0 : Int))) = true then
          some [(D.int (IntKind.u64.wrap ((arF .shl .u64 (1 : Int) ((((x0).toL).getD ((x1).toInt).toNat D.nil)).toInt) - (1 : Int))))]
          else none
        else none
      else none := (fixP_eq (t := T_field_Layout_Most) (by rfl) _).trans (by kernel_rfl)
noncomputable def W_field_Layout_low_1 (x0 x1 : D) : Eng.Fn := loopF fun g xs => evalP FX B_field_Layout_low_1 ([] ++ [g]) ([x0, x1] ++ xs)
theorem W_field_Layout_low_1_eq (x0 x1 : D) (a0 a1 : D) : W_field_Layout_low_1 x0 x1 [a0, a1] =
  if (decide ((a1).toInt < ((((((x0).toL).drop ((0 : Int)).toNat).take (((x1).toInt).toNat - ((0 : Int)).toNat))).length : Int))) = true then
  if (decide ((a1).toInt ≥ (0 : Int))) = true then
    if (decide ((a1).toInt < ((((((x0).toL).drop ((0 : Int)).toNat).take (((x1).toInt).toNat - ((0 : Int)).toNat))).length : Int))) = true then
      (W_field_Layout_low_1 x0 x1) [(D.int (IntKind.i64.wrap ((a0).toInt + (((((((x0).toL).drop ((0 : Int)).toNat).take (((x1).toInt).toNat - ((0 : Int)).toNat))).getD ((a1).toInt).toNat D.nil)).toInt))), (D.int (IntKind.i64.wrap ((a1).toInt + (1 : Int))))]
      else none
    else none
  else
  some [a0] := (loopP_eq FX B_field_Layout_low_1 [] [x0, x1] _).trans (by kernel_rfl)
theorem E_field_Layout_low (x0 x1 : D) : FX 20 [x0, x1] =
  if (decide ((0 : Int) ≤ (0 : Int))) = true then
  if (decide ((0 : Int) ≤ (x1).toInt)) = true then
    if (decide ((x1).toInt ≤ (((x0).toL).length : Int))) = true then
      W_field_Layout_low_1 x0 x1 [(D.int (0 : Int)), (D.int (0 : Int))]
      else none
    else none
  else none := (fixP_eq (t := T_field_Layout_low) (by rfl) _).trans (by kernel_rfl)
noncomputable def W_field_Layout_Pack_1 (x0 x1 : D) : Eng.Fn := loopF fun g xs => evalP FX B_field_Layout_Pack_1 ([] ++ [g]) ([x0, x1] ++ xs)
theorem W_field_Layout_Pack_1_eq (x0 x1 : D) (a0 a1 : D) : W_field_Layout_Pack_1 x0 x1 [a0, a1] =
  if (decide ((a1).toInt < (((x1).toL).length : Int))) = true then
  if (decide ((a1).toInt ≥ (0 : Int))) = true then
    if (decide ((a1).toInt < (((x1).toL).length : Int))) = true then
      if (decide (((((x1).toL).getD ((a1).toInt).toNat D.nil)).toInt < (0 : Int))) = true then
        bindC (FX 17 [a1, (D.iface 48 (D.int (5 : Int)))]) 1 fun r4 =>
          some [(D.int (0 : Int)), (r4.getD 0 D.nil)]
        else
        bindC (FX 16 [x0, a1]) 1 fun r4 =>
          if (decide ((IntKind.u64.wrap ((((x1).toL).getD ((a1).toInt).toNat D.nil)).toInt) > ((r4.getD 0 D.nil)).toInt)) = true then
          bindC (FX 17 [a1, (D.iface 48 (D.int (5 : Int)))]) 1 fun r5 =>
            some [(D.int (0 : Int)), (r5.getD 0 D.nil)]
          else
          bindC (FX 20 [x0, a1]) 1 fun r5 =>
            if (decide (((r5.getD 0 D.nil)).toInt ≥ (0 : Int))) = true then
            (W_field_Layout_Pack_1 x0 x1) [(D.int (arF .or .u64 (a0).toInt (arF .shl .u64 (IntKind.u64.wrap ((((x1).toL).getD ((a1).toInt).toNat D.nil)).toInt) ((r5.getD 0 D.nil)).toInt))), (D.int (IntKind.i64.wrap ((a1).toInt + (1 : Int))))]
            else none
      else none
    else none
  else
  some [a0, D.nil] := (loopP_eq FX B_field_Layout_Pack_1 [] [x0, x1] _).trans (by kernel_rfl)
theorem E_field_Layout_Pack (x0 x1 : D) : FX 11 [x0, x1] =
  if ((((x1).toL).length : Int) != (((x0).toL).length : Int)) = true then
  some [(D.int (0 : Int)), (D.iface 48 (D.int (1 : Int)))]
  else
  W_field_Layout_Pack_1 x0 x1 [(D.int (0 : Int)), (D.int (0 : Int))] := (fixP_eq (t := T_field_Layout_Pack) (by rfl) _).trans (by kernel_rfl)
theorem E_law02_awake : FX 5 [] =
  bindC (FX 6 [(D.agg ((D.int (3 : Int)) :: ((D.int (5 : Int)) :: [])))]) 2 fun r0 =>
  bindC (FX 11 [(r0.getD 0 D.nil), (D.agg ((D.int (1 : Int)) :: ((D.int (2 : Int)) :: [])))]) 2 fun r2 =>
  if ((r0.getD 1 D.nil)).isNil = true then
  if ((r2.getD 1 D.nil)).isNil = true then
    some [(D.bool (((r2.getD 0 D.nil)).toInt == (17 : Int)))]
    else
    some [(D.bool false)]
  else
  some [(D.bool false)] := (fixP_eq (t := T_law02_awake) (by rfl) _).trans (by kernel_rfl)
noncomputable def W_ref02_Check_1 (x0 : D) : Eng.Fn := loopF fun g xs => evalP FX B_ref02_Check_1 ([] ++ [g]) ([x0] ++ xs)
theorem W_ref02_Check_1_eq (x0 : D) (a0 a1 : D) : W_ref02_Check_1 x0 [a0, a1] =
  if (decide ((a1).toInt < (((x0).toL).length : Int))) = true then
  if (decide ((a1).toInt ≥ (0 : Int))) = true then
    if (decide ((a1).toInt < (((x0).toL).length : Int))) = true then
      if (decide (((((x0).toL).getD ((a1).toInt).toNat D.nil)).toInt < (1 : Int))) = true then
        some [(D.int (5 : Int)), a1]
        else
        if (decide ((a1).toInt ≥ (0 : Int))) = true then
          if (decide ((a1).toInt < (((x0).toL).length : Int))) = true then
            if (decide (((((x0).toL).getD ((a1).toInt).toNat D.nil)).toInt > (32 : Int))) = true then
              some [(D.int (5 : Int)), a1]
              else
              if (decide ((a1).toInt ≥ (0 : Int))) = true then
                if (decide ((a1).toInt < (((x0).toL).length : Int))) = true then
                  if (decide ((IntKind.i64.wrap ((a0).toInt + ((((x0).toL).getD ((a1).toInt).toNat D.nil)).toInt)) > (64 : Int))) = true then
                    some [(D.int (4 : Int)), a1]
                    else
                    (W_ref02_Check_1 x0) [(D.int (IntKind.i64.wrap ((a0).toInt + ((((x0).toL).getD ((a1).toInt).toNat D.nil)).toInt))), (D.int (IntKind.i64.wrap ((a1).toInt + (1 : Int))))]
                  else none
                else none
            else none
          else none
      else none
    else none
  else
  some [(D.int (0 : Int)), (D.int (0 : Int))] := (loopP_eq FX B_ref02_Check_1 [] [x0] _).trans (by kernel_rfl)
theorem E_ref02_Check (x0 : D) : FX 7 [x0] =
  W_ref02_Check_1 x0 [(D.int (0 : Int)), (D.int (0 : Int))] := (fixP_eq (t := T_ref02_Check) (by rfl) _).trans (by kernel_rfl)
noncomputable def W_law01_Num_1 (x0 : D) : Eng.Fn := loopF fun g xs => evalP FX B_law01_Num_1 ([] ++ [g]) ([x0] ++ xs)
theorem W_law01_Num_1_eq (x0 : D) (a0 : D) : W_law01_Num_1 x0 [a0] =
  if (decide ((a0).toInt < (30 : Int))) = true then
  bindC (FX 18 [x0, (D.iface 48 a0)]) 1 fun r2 =>
    if ((r2.getD 0 D.nil)).toBool = true then
    some [a0]
    else
    (W_law01_Num_1 x0) [(D.int (IntKind.i64.wrap ((a0).toInt + (1 : Int))))]
  else
  some [(D.int (-1 : Int))] := (loopP_eq FX B_law01_Num_1 [] [x0] _).trans (by kernel_rfl)
theorem E_law01_Num (x0 : D) : FX 8 [x0] =
  if (x0).isNil = true then
  some [(D.int (0 : Int))]
  else
  W_law01_Num_1 x0 [(D.int (1 : Int))] := (fixP_eq (t := T_law01_Num) (by rfl) _).trans (by kernel_rfl)
theorem E_fault_Place (x0 x1 : D) : FX 9 [x0, x1] =
  bindC (FX 19 [x0, (D.iface 52 (D.int (((x1).toL).length : Int))), (D.agg ((x1).toL ++ ((D.agg (D.nil :: [])) :: [])))]) 2 fun r2 =>
  if ((r2.getD 0 D.nil)).toBool = true then
  if (!((((((((r2.getD 1 D.nil)).toL).getD ((((x1).toL).length : Int)).toNat D.nil)).toL).getD 0 D.nil)).isNil) = true then
    if (!((((((((r2.getD 1 D.nil)).toL).getD ((((x1).toL).length : Int)).toNat D.nil)).toL).getD 0 D.nil)).isNil) = true then
      some [((((((((((r2.getD 1 D.nil)).toL).getD ((((x1).toL).length : Int)).toNat D.nil)).toL).getD 0 D.nil)).toL).getD 0 D.nil), (D.bool true), (r2.getD 1 D.nil)]
      else none
    else
    some [(D.int (0 : Int)), (D.bool false), (r2.getD 1 D.nil)]
  else
  some [(D.int (0 : Int)), (D.bool false), (r2.getD 1 D.nil)] := (fixP_eq (t := T_fault_Place) (by rfl) _).trans (by kernel_rfl)
theorem E_field_Layout_Fields (x0 : D) : FX 10 [x0] =
  some [(D.int (((x0).toL).length : Int))] := (fixP_eq (t := T_field_Layout_Fields) (by rfl) _).trans (by kernel_rfl)
noncomputable def W_ref02_Pack_2 (x0 x1 x2 : D) (g0 : Eng.Fn) : Eng.Fn := loopF fun g xs => evalP FX B_ref02_Pack_2 ([g0] ++ [g]) ([x0, x1, x2] ++ xs)
theorem W_ref02_Pack_2_eq (x0 x1 x2 : D) (g0 : Eng.Fn) (a0 a1 : D) : W_ref02_Pack_2 x0 x1 x2 g0 [a0, a1] =
  if (decide ((x2).toInt ≥ (0 : Int))) = true then
  if (decide ((x2).toInt < (((x0).toL).length : Int))) = true then
    if (decide ((a1).toInt < ((((x0).toL).getD ((x2).toInt).toNat D.nil)).toInt)) = true then
      (W_ref02_Pack_2 x0 x1 x2 g0) [(D.int (IntKind.i64.wrap (Int.tdiv (a0).toInt (2 : Int)))), (D.int (IntKind.i64.wrap ((a1).toInt + (1 : Int))))]
      else
      if (decide ((a0).toInt > (0 : Int))) = true then
        some [(D.int (0 : Int)), (D.int (5 : Int)), x2]
        else
        g0 [(D.int (IntKind.i64.wrap ((x2).toInt + (1 : Int))))]
    else none
  else none := (loopP_eq FX B_ref02_Pack_2 [g0] [x0, x1, x2] _).trans (by kernel_rfl)
noncomputable def W_ref02_Pack_4 (x0 x1 x2 x3 x4 : D) (g0 g1 : Eng.Fn) : Eng.Fn := loopF fun g xs => evalP FX B_ref02_Pack_4 ([g0, g1] ++ [g]) ([x0, x1, x2, x3, x4] ++ xs)
theorem W_ref02_Pack_4_eq (x0 x1 x2 x3 x4 : D) (g0 g1 : Eng.Fn) (a0 a1 : D) : W_ref02_Pack_4 x0 x1 x2 x3 x4 g0 g1 [a0, a1] =
  if (decide ((x4).toInt ≥ (0 : Int))) = true then
  if (decide ((x4).toInt < (((x0).toL).length : Int))) = true then
    if (decide ((a1).toInt < ((((x0).toL).getD ((x4).toInt).toNat D.nil)).toInt)) = true then
      (W_ref02_Pack_4 x0 x1 x2 x3 x4 g0 g1) [(D.int (IntKind.u64.wrap ((a0).toInt * (2 : Int)))), (D.int (IntKind.i64.wrap ((a1).toInt + (1 : Int))))]
      else
      if (decide ((x4).toInt ≥ (0 : Int))) = true then
        if (decide ((x4).toInt < (((x1).toL).length : Int))) = true then
          g1 [(D.int (IntKind.u64.wrap ((a0).toInt + (IntKind.u64.wrap ((((x1).toL).getD ((x4).toInt).toNat D.nil)).toInt)))), (D.int (IntKind.i64.wrap ((x4).toInt - (1 : Int))))]
          else none
        else none
    else none
  else none := (loopP_eq FX B_ref02_Pack_4 [g0, g1] [x0, x1, x2, x3, x4] _).trans (by kernel_rfl)
noncomputable def W_ref02_Pack_3 (x0 x1 x2 : D) (g0 : Eng.Fn) : Eng.Fn := loopF fun g xs => evalP FX B_ref02_Pack_3 ([g0] ++ [g]) ([x0, x1, x2] ++ xs)
theorem W_ref02_Pack_3_eq (x0 x1 x2 : D) (g0 : Eng.Fn) (a0 a1 : D) : W_ref02_Pack_3 x0 x1 x2 g0 [a0, a1] =
  if (decide ((a1).toInt ≥ (0 : Int))) = true then
  W_ref02_Pack_4 x0 x1 x2 a0 a1 g0 ((W_ref02_Pack_3 x0 x1 x2 g0)) [a0, (D.int (0 : Int))]
  else
  some [a0, (D.int (0 : Int)), (D.int (0 : Int))] := (loopP_eq FX B_ref02_Pack_3 [g0] [x0, x1, x2] _).trans (by kernel_rfl)
noncomputable def W_ref02_Pack_1 (x0 x1 : D) : Eng.Fn := loopF fun g xs => evalP FX B_ref02_Pack_1 ([] ++ [g]) ([x0, x1] ++ xs)
theorem W_ref02_Pack_1_eq (x0 x1 : D) (a0 : D) : W_ref02_Pack_1 x0 x1 [a0] =
  if (decide ((a0).toInt < (((x1).toL).length : Int))) = true then
  if (decide ((a0).toInt ≥ (0 : Int))) = true then
    if (decide ((a0).toInt < (((x1).toL).length : Int))) = true then
      if (decide (((((x1).toL).getD ((a0).toInt).toNat D.nil)).toInt < (0 : Int))) = true then
        some [(D.int (0 : Int)), (D.int (5 : Int)), a0]
        else
        W_ref02_Pack_2 x0 x1 a0 ((W_ref02_Pack_1 x0 x1)) [(((x1).toL).getD ((a0).toInt).toNat D.nil), (D.int (0 : Int))]
      else none
    else none
  else
  W_ref02_Pack_3 x0 x1 a0 ((W_ref02_Pack_1 x0 x1)) [(D.int (0 : Int)), (D.int (IntKind.i64.wrap ((((x1).toL).length : Int) - (1 : Int))))] := (loopP_eq FX B_ref02_Pack_1 [] [x0, x1] _).trans (by kernel_rfl)
theorem E_ref02_Pack (x0 x1 : D) : FX 12 [x0, x1] =
  if ((((x1).toL).length : Int) != (((x0).toL).length : Int)) = true then
  some [(D.int (0 : Int)), (D.int (1 : Int)), (D.int (0 : Int))]
  else
  W_ref02_Pack_1 x0 x1 [(D.int (0 : Int))] := (fixP_eq (t := T_ref02_Pack) (by rfl) _).trans (by kernel_rfl)
theorem E_field_Layout_Get (x0 x1 x2 : D) : FX 14 [x0, x1, x2] =
  if (decide ((x2).toInt < (0 : Int))) = true then
  some [(D.int (0 : Int))]
  else
  if (decide ((x2).toInt ≥ (((x0).toL).length : Int))) = true then
    some [(D.int (0 : Int))]
    else
    bindC (FX 20 [x0, x2]) 1 fun r3 =>
      if (decide (((r3.getD 0 D.nil)).toInt ≥ (0 : Int))) = true then
      bindC (FX 16 [x0, x2]) 1 fun r4 =>
        some [(D.int (IntKind.i64.wrap (arF .and .u64 (arF .shr .u64 (x1).toInt ((r3.getD 0 D.nil)).toInt) ((r4.getD 0 D.nil)).toInt)))]
      else none := (fixP_eq (t := T_field_Layout_Get) (by rfl) _).trans (by kernel_rfl)
noncomputable def W_field_Layout_All_1 (x0 x1 : D) : Eng.Fn := loopF fun g xs => evalP FX B_field_Layout_All_1 ([] ++ [g]) ([x0, x1] ++ xs)
theorem W_field_Layout_All_1_eq (x0 x1 : D) (a0 a1 : D) : W_field_Layout_All_1 x0 x1 [a0, a1] =
  if (decide ((a0).toInt < (((x0).toL).length : Int))) = true then
  bindC (FX 14 [x0, x1, a0]) 1 fun r4 =>
    if (decide (((((a1).toL ++ ((r4.getD 0 D.nil) :: []))).length : Int) ≤ (17592186044416 : Int))) = true then
    (W_field_Layout_All_1 x0 x1) [(D.int (IntKind.i64.wrap ((a0).toInt + (1 : Int)))), (D.agg ((a1).toL ++ ((r4.getD 0 D.nil) :: [])))]
    else none
  else
  some [a1] := (loopP_eq FX B_field_Layout_All_1 [] [x0, x1] _).trans (by kernel_rfl)
theorem E_field_Layout_All (x0 x1 : D) : FX 13 [x0, x1] =
  W_field_Layout_All_1 x0 x1 [(D.int (0 : Int)), (D.agg [])] := (fixP_eq (t := T_field_Layout_All) (by rfl) _).trans (by kernel_rfl)
noncomputable def W_ref02_bit_1 (x0 x1 : D) : Eng.Fn := loopF fun g xs => evalP FX B_ref02_bit_1 ([] ++ [g]) ([x0, x1] ++ xs)
theorem W_ref02_bit_1_eq (x0 x1 : D) (a0 a1 : D) : W_ref02_bit_1 x0 x1 [a0, a1] =
  if (decide ((a1).toInt < (x1).toInt)) = true then
  (W_ref02_bit_1 x0 x1) [(D.int (IntKind.u64.wrap (Int.tdiv (a0).toInt (2 : Int)))), (D.int (IntKind.i64.wrap ((a1).toInt + (1 : Int))))]
  else
  some [(D.int (IntKind.i64.wrap (Int.tmod (a0).toInt (2 : Int))))] := (loopP_eq FX B_ref02_bit_1 [] [x0, x1] _).trans (by kernel_rfl)
theorem E_ref02_bit (x0 x1 : D) : FX 21 [x0, x1] =
  W_ref02_bit_1 x0 x1 [x0, (D.int (0 : Int))] := (fixP_eq (t := T_ref02_bit) (by rfl) _).trans (by kernel_rfl)
noncomputable def W_ref02_Get_2 (x0 x1 x2 x3 x4 : D) (g0 : Eng.Fn) : Eng.Fn := loopF fun g xs => evalP FX B_ref02_Get_2 ([g0] ++ [g]) ([x0, x1, x2, x3, x4] ++ xs)
theorem W_ref02_Get_2_eq (x0 x1 x2 x3 x4 : D) (g0 : Eng.Fn) (a0 a1 : D) : W_ref02_Get_2 x0 x1 x2 x3 x4 g0 [a0, a1] =
  if (decide ((a1).toInt ≥ (0 : Int))) = true then
  bindC (FX 21 [x1, (D.int (IntKind.i64.wrap ((x3).toInt + (a1).toInt)))]) 1 fun r7 =>
    (W_ref02_Get_2 x0 x1 x2 x3 x4 g0) [(D.int (IntKind.i64.wrap ((IntKind.i64.wrap ((a0).toInt * (2 : Int))) + ((r7.getD 0 D.nil)).toInt))), (D.int (IntKind.i64.wrap ((a1).toInt - (1 : Int))))]
  else
  some [a0] := (loopP_eq FX B_ref02_Get_2 [g0] [x0, x1, x2, x3, x4] _).trans (by kernel_rfl)
noncomputable def W_ref02_Get_1 (x0 x1 x2 : D) : Eng.Fn := loopF fun g xs => evalP FX B_ref02_Get_1 ([] ++ [g]) ([x0, x1, x2] ++ xs)
theorem W_ref02_Get_1_eq (x0 x1 x2 : D) (a0 a1 : D) : W_ref02_Get_1 x0 x1 x2 [a0, a1] =
  if (decide ((a1).toInt < (x2).toInt)) = true then
  if (decide ((a1).toInt ≥ (0 : Int))) = true then
    if (decide ((a1).toInt < (((x0).toL).length : Int))) = true then
      (W_ref02_Get_1 x0 x1 x2) [(D.int (IntKind.i64.wrap ((a0).toInt + ((((x0).toL).getD ((a1).toInt).toNat D.nil)).toInt))), (D.int (IntKind.i64.wrap ((a1).toInt + (1 : Int))))]
      else none
    else none
  else
  if (decide ((x2).toInt ≥ (0 : Int))) = true then
    if (decide ((x2).toInt < (((x0).toL).length : Int))) = true then
      W_ref02_Get_2 x0 x1 x2 a0 a1 ((W_ref02_Get_1 x0 x1 x2)) [(D.int (0 : Int)), (D.int (IntKind.i64.wrap (((((x0).toL).getD ((x2).toInt).toNat D.nil)).toInt - (1 : Int))))]
      else none
    else none := (loopP_eq FX B_ref02_Get_1 [] [x0, x1, x2] _).trans (by kernel_rfl)
theorem E_ref02_Get (x0 x1 x2 : D) : FX 15 [x0, x1, x2] =
  if (decide ((x2).toInt < (0 : Int))) = true then
  some [(D.int (0 : Int))]
  else
  if (decide ((x2).toInt ≥ (((x0).toL).length : Int))) = true then
    some [(D.int (0 : Int))]
    else
    W_ref02_Get_1 x0 x1 x2 [(D.int (0 : Int)), (D.int (0 : Int))] := (fixP_eq (t := T_ref02_Get) (by rfl) _).trans (by kernel_rfl)
noncomputable def W_law02_FieldPacks_2 (x0 x1 x2 x3 x4 x5 x6 x7 x8 x9 x10 x11 x12 x13 x14 x15 x16 x17 x18 x19 x20 : D) : Eng.Fn := loopF fun g xs => evalP FX B_law02_FieldPacks_2 ([] ++ [g]) ([x0, x1, x2, x3, x4, x5, x6, x7, x8, x9, x10, x11, x12, x13, x14, x15, x16, x17, x18, x19, x20] ++ xs)
theorem W_law02_FieldPacks_2_eq (x0 x1 x2 x3 x4 x5 x6 x7 x8 x9 x10 x11 x12 x13 x14 x15 x16 x17 x18 x19 x20 : D) (a0 : D) : W_law02_FieldPacks_2 x0 x1 x2 x3 x4 x5 x6 x7 x8 x9 x10 x11 x12 x13 x14 x15 x16 x17 x18 x19 x20 [a0] =
  if (decide ((a0).toInt < (((x18).toL).length : Int))) = true then
  if (decide ((a0).toInt ≥ (0 : Int))) = true then
    if (decide ((a0).toInt < (((x18).toL).length : Int))) = true then
      bindC (FX 15 [x0, x2, a0]) 1 fun r22 =>
        if (((((x18).toL).getD ((a0).toInt).toNat D.nil)).toInt != ((r22.getD 0 D.nil)).toInt) = true then
        some [(D.bool false)]
        else
        bindC (FX 16 [x5, a0]) 1 fun r23 =>
          if (decide ((a0).toInt ≥ (0 : Int))) = true then
          if (decide ((a0).toInt < (((x0).toL).length : Int))) = true then
            if (decide (((((x0).toL).getD ((a0).toInt).toNat D.nil)).toInt ≥ (0 : Int))) = true then
              if (((r23.getD 0 D.nil)).toInt != (IntKind.u64.wrap ((arF .shl .u64 (1 : Int) ((((x0).toL).getD ((a0).toInt).toNat D.nil)).toInt) - (1 : Int)))) = true then
                some [(D.bool false)]
                else
                (W_law02_FieldPacks_2 x0 x1 x2 x3 x4 x5 x6 x7 x8 x9 x10 x11 x12 x13 x14 x15 x16 x17 x18 x19 x20) [(D.int (IntKind.i64.wrap ((a0).toInt + (1 : Int))))]
              else none
            else none
          else none
      else none
    else none
  else
  bindC (FX 5 []) 1 fun r22 =>
    some [(r22.getD 0 D.nil)] := (loopP_eq FX B_law02_FieldPacks_2 [] [x0, x1, x2, x3, x4, x5, x6, x7, x8, x9, x10, x11, x12, x13, x14, x15, x16, x17, x18, x19, x20] _).trans (by kernel_rfl)
noncomputable def J_law02_FieldPacks_1 (x0 x1 x2 x3 x4 x5 x6 x7 x8 x9 x10 x11 x12 x13 x14 x15 x16 : D) : Eng.Fn := fun xs => evalP FX B_law02_FieldPacks_1 [] ([x0, x1, x2, x3, x4, x5, x6, x7, x8, x9, x10, x11, x12, x13, x14, x15, x16] ++ xs)
theorem J_law02_FieldPacks_1_eq (x0 x1 x2 x3 x4 x5 x6 x7 x8 x9 x10 x11 x12 x13 x14 x15 x16 : D) (a0 : D) : J_law02_FieldPacks_1 x0 x1 x2 x3 x4 x5 x6 x7 x8 x9 x10 x11 x12 x13 x14 x15 x16  [a0] =
  bindC (FX 13 [x5, x2]) 1 fun r18 =>
  if (((((r18.getD 0 D.nil)).toL).length : Int) != (((x0).toL).length : Int)) = true then
  some [(D.bool false)]
  else
  bindC (FX 14 [x5, x2, x3]) 1 fun r19 =>
    bindC (FX 15 [x0, x2, x3]) 1 fun r20 =>
    if (((r19.getD 0 D.nil)).toInt != ((r20.getD 0 D.nil)).toInt) = true then
    some [(D.bool false)]
    else
    W_law02_FieldPacks_2 x0 x1 x2 x3 x4 x5 x6 x7 x8 x9 x10 x11 x12 x13 x14 x15 x16 a0 (r18.getD 0 D.nil) (r19.getD 0 D.nil) (r20.getD 0 D.nil) [(D.int (0 : Int))] := by kernel_rfl
theorem E_law02_FieldPacks (x0 x1 x2 x3 : D) : FX 3 [x0, x1, x2, x3] =
  bindC (FX 4 [x0]) 1 fun r4 =>
  if (!((r4.getD 0 D.nil)).toBool) = true then
  bindC (FX 5 []) 1 fun r5 =>
    some [(r5.getD 0 D.nil)]
  else
  if (decide ((((x1).toL).length : Int) > (70 : Int))) = true then
    bindC (FX 5 []) 1 fun r5 =>
      some [(r5.getD 0 D.nil)]
    else
    bindC (FX 6 [x0]) 2 fun r5 =>
      bindC (FX 7 [x0]) 2 fun r7 =>
      bindC (FX 8 [(r5.getD 1 D.nil)]) 1 fun r9 =>
      if (((r9.getD 0 D.nil)).toInt != ((r7.getD 0 D.nil)).toInt) = true then
      some [(D.bool false)]
      else
      if (((r7.getD 0 D.nil)).toInt != (0 : Int)) = true then
        bindC (FX 9 [(r5.getD 1 D.nil), (D.agg [])]) 3 fun r10 =>
          bindC (FX 5 []) 1 fun r13 =>
          if ((r13.getD 0 D.nil)).toBool = true then
          if ((r10.getD 1 D.nil)).toBool = true then
            if (((r10.getD 0 D.nil)).toInt == ((r7.getD 1 D.nil)).toInt) = true then
              bindC (FX 10 [(r5.getD 0 D.nil)]) 1 fun r14 =>
                some [(D.bool (((r14.getD 0 D.nil)).toInt == (0 : Int)))]
              else
              some [(D.bool false)]
            else
            some [(D.bool false)]
          else
          some [(D.bool false)]
        else
        bindC (FX 11 [(r5.getD 0 D.nil), x1]) 2 fun r10 =>
          bindC (FX 12 [x0, x1]) 3 fun r12 =>
          bindC (FX 8 [(r10.getD 1 D.nil)]) 1 fun r15 =>
          if (((r15.getD 0 D.nil)).toInt != ((r12.getD 1 D.nil)).toInt) = true then
          some [(D.bool false)]
          else
          if (((r10.getD 0 D.nil)).toInt != ((r12.getD 0 D.nil)).toInt) = true then
            some [(D.bool false)]
            else
            bindC (FX 10 [(r5.getD 0 D.nil)]) 1 fun r16 =>
              if (((r16.getD 0 D.nil)).toInt != (((x0).toL).length : Int)) = true then
              some [(D.bool false)]
              else
              if (((r12.getD 1 D.nil)).toInt == (5 : Int)) = true then
                bindC (FX 9 [(r10.getD 1 D.nil), (D.agg [])]) 3 fun r17 =>
                  if (!((r17.getD 1 D.nil)).toBool) = true then
                  some [(D.bool false)]
                  else
                  if (((r17.getD 0 D.nil)).toInt != ((r12.getD 2 D.nil)).toInt) = true then
                    some [(D.bool false)]
                    else
                    (J_law02_FieldPacks_1 x0 x1 x2 x3 (r4.getD 0 D.nil) (r5.getD 0 D.nil) (r5.getD 1 D.nil) (r7.getD 0 D.nil) (r7.getD 1 D.nil) (r9.getD 0 D.nil) (r10.getD 0 D.nil) (r10.getD 1 D.nil) (r12.getD 0 D.nil) (r12.getD 1 D.nil) (r12.getD 2 D.nil) (r15.getD 0 D.nil) (r16.getD 0 D.nil)) [(r17.getD 2 D.nil)]
                else
                (J_law02_FieldPacks_1 x0 x1 x2 x3 (r4.getD 0 D.nil) (r5.getD 0 D.nil) (r5.getD 1 D.nil) (r7.getD 0 D.nil) (r7.getD 1 D.nil) (r9.getD 0 D.nil) (r10.getD 0 D.nil) (r10.getD 1 D.nil) (r12.getD 0 D.nil) (r12.getD 1 D.nil) (r12.getD 2 D.nil) (r15.getD 0 D.nil) (r16.getD 0 D.nil)) [(D.agg [])] := (fixP_eq (t := T_law02_FieldPacks) (by rfl) _).trans (by kernel_rfl)
end Go.Proofs.YtnbnjkbkjmlomaaDoor
