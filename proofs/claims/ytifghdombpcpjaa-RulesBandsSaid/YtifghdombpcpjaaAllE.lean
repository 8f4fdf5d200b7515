/-
  The functions, as equations.
-/
import Derived.Test.YtifghdombpcpjaaAll
namespace Go.Proofs.Ytifghdombpcpjaa
open Go.Proofs.Ytifghdombpcpjaa.Eng
set_option linter.unusedVariables false
set_option maxRecDepth 20000
theorem E_rules_limits (x0 x1 x2 x3 x4 x5 x6 : D) : FX 25 [x0, x1, x2, x3, x4, x5, x6] =
  some [(D.agg ((D.agg ((D.str ((.mk #[112, 97, 114, 116, 115]))) :: (x0 :: ((D.int (1 : Int)) :: ((D.int (6 : Int)) :: []))))) :: ((D.agg ((D.str ((.mk #[99, 101, 108, 108, 115]))) :: (x1 :: ((D.int (1 : Int)) :: ((D.int (4 : Int)) :: []))))) :: ((D.agg ((D.str ((.mk #[110, 97, 109, 101, 115]))) :: (x2 :: ((D.int (1 : Int)) :: ((D.int (3 : Int)) :: []))))) :: ((D.agg ((D.str ((.mk #[98, 97, 110, 100, 115]))) :: (x3 :: ((D.int (1 : Int)) :: ((D.int (4 : Int)) :: []))))) :: ((D.agg ((D.str ((.mk #[112, 114, 111, 98, 101, 115]))) :: (x4 :: ((D.int (0 : Int)) :: ((D.int (4 : Int)) :: []))))) :: ((D.agg ((D.str ((.mk #[102, 105, 108, 108, 115]))) :: (x5 :: ((D.int (1 : Int)) :: ((D.int (4 : Int)) :: []))))) :: ((D.agg ((D.str ((.mk #[103, 101, 110, 115]))) :: (x6 :: ((D.int (1 : Int)) :: ((D.int (15 : Int)) :: []))))) :: []))))))))] := (fixP_eq (t := T_rules_limits) (by rfl) _).trans (by kernel_rfl)
theorem E_fault_At (x0 x1 : D) : FX 26 [x0, x1] =
  if (x1).isNil = true then
  some [D.nil]
  else
  some [(D.iface 57 (D.agg (x0 :: (x1 :: []))))] := (fixP_eq (t := T_fault_At) (by rfl) _).trans (by kernel_rfl)
theorem E_fault_With (x0 x1 : D) : FX 27 [x0, x1] =
  if (x1).isNil = true then
  some [D.nil]
  else
  some [(D.iface 60 (D.agg (x0 :: (x1 :: []))))] := (fixP_eq (t := T_fault_With) (by rfl) _).trans (by kernel_rfl)
noncomputable def W_rules_New_1 (x0 x1 x2 x3 x4 x5 x6 x7 : D) : Eng.Fn := loopF fun g xs => evalP FX B_rules_New_1 ([] ++ [g]) ([x0, x1, x2, x3, x4, x5, x6, x7] ++ xs)
theorem W_rules_New_1_eq (x0 x1 x2 x3 x4 x5 x6 x7 : D) (a0 : D) : W_rules_New_1 x0 x1 x2 x3 x4 x5 x6 x7 [a0] =
  if (decide ((a0).toInt < (((x7).toL).length : Int))) = true then
  if (decide ((a0).toInt ≥ (0 : Int))) = true then
    if (decide ((a0).toInt < (((x7).toL).length : Int))) = true then
      if (decide ((((((((x7).toL).getD ((a0).toInt).toNat D.nil)).toL).getD 1 D.nil)).toInt < (((((((x7).toL).getD ((a0).toInt).toNat D.nil)).toL).getD 2 D.nil)).toInt)) = true then
        bindC (FX 27 [((((((x7).toL).getD ((a0).toInt).toNat D.nil)).toL).getD 0 D.nil), (D.iface 56 (D.int (5 : Int)))]) 1 fun r9 =>
          bindC (FX 26 [a0, (r9.getD 0 D.nil)]) 1 fun r10 =>
          some [(D.int (0 : Int)), (D.int (0 : Int)), (D.int (0 : Int)), (D.int (0 : Int)), (D.int (0 : Int)), (D.int (0 : Int)), (D.int (0 : Int)), (r10.getD 0 D.nil)]
        else
        if (decide ((((((((x7).toL).getD ((a0).toInt).toNat D.nil)).toL).getD 1 D.nil)).toInt > (((((((x7).toL).getD ((a0).toInt).toNat D.nil)).toL).getD 3 D.nil)).toInt)) = true then
          bindC (FX 27 [((((((x7).toL).getD ((a0).toInt).toNat D.nil)).toL).getD 0 D.nil), (D.iface 56 (D.int (5 : Int)))]) 1 fun r9 =>
            bindC (FX 26 [a0, (r9.getD 0 D.nil)]) 1 fun r10 =>
            some [(D.int (0 : Int)), (D.int (0 : Int)), (D.int (0 : Int)), (D.int (0 : Int)), (D.int (0 : Int)), (D.int (0 : Int)), (D.int (0 : Int)), (r10.getD 0 D.nil)]
          else
          (W_rules_New_1 x0 x1 x2 x3 x4 x5 x6 x7) [(D.int (IntKind.i64.wrap ((a0).toInt + (1 : Int))))]
      else none
    else none
  else
  some [x0, x1, x2, x3, x4, x5, x6, D.nil] := (loopP_eq FX B_rules_New_1 [] [x0, x1, x2, x3, x4, x5, x6, x7] _).trans (by kernel_rfl)
theorem E_rules_New (x0 x1 x2 x3 x4 x5 x6 : D) : FX 7 [x0, x1, x2, x3, x4, x5, x6] =
  bindC (FX 25 [x0, x1, x2, x3, x4, x5, x6]) 1 fun r7 =>
  W_rules_New_1 x0 x1 x2 x3 x4 x5 x6 (r7.getD 0 D.nil) [(D.int (0 : Int))] := (fixP_eq (t := T_rules_New) (by rfl) _).trans (by kernel_rfl)
noncomputable def W_ref05_Check_1 (x0 x1 x2 x3 x4 x5 x6 : D) : Eng.Fn := loopF fun g xs => evalP FX B_ref05_Check_1 ([] ++ [g]) ([x0, x1, x2, x3, x4, x5, x6] ++ xs)
theorem W_ref05_Check_1_eq (x0 x1 x2 x3 x4 x5 x6 : D) (a0 : D) : W_ref05_Check_1 x0 x1 x2 x3 x4 x5 x6 [a0] =
  if (decide ((a0).toInt < (((x0 :: (x1 :: (x2 :: (x3 :: (x4 :: (x5 :: (x6 :: [])))))))).length : Int))) = true then
  if (decide ((a0).toInt ≥ (0 : Int))) = true then
    if (decide ((a0).toInt < (((x0 :: (x1 :: (x2 :: (x3 :: (x4 :: (x5 :: (x6 :: [])))))))).length : Int))) = true then
      if (decide ((a0).toInt ≥ (0 : Int))) = true then
        if (decide ((a0).toInt < ((((D.int (1 : Int)) :: ((D.int (1 : Int)) :: ((D.int (1 : Int)) :: ((D.int (1 : Int)) :: ((D.int (0 : Int)) :: ((D.int (1 : Int)) :: ((D.int (1 : Int)) :: [])))))))).length : Int))) = true then
          if (decide (((((x0 :: (x1 :: (x2 :: (x3 :: (x4 :: (x5 :: (x6 :: [])))))))).getD ((a0).toInt).toNat D.nil)).toInt < (((((D.int (1 : Int)) :: ((D.int (1 : Int)) :: ((D.int (1 : Int)) :: ((D.int (1 : Int)) :: ((D.int (0 : Int)) :: ((D.int (1 : Int)) :: ((D.int (1 : Int)) :: [])))))))).getD ((a0).toInt).toNat D.nil)).toInt)) = true then
            some [a0]
            else
            if (decide ((a0).toInt ≥ (0 : Int))) = true then
              if (decide ((a0).toInt < (((x0 :: (x1 :: (x2 :: (x3 :: (x4 :: (x5 :: (x6 :: [])))))))).length : Int))) = true then
                if (decide ((a0).toInt ≥ (0 : Int))) = true then
                  if (decide ((a0).toInt < ((((D.int (6 : Int)) :: ((D.int (4 : Int)) :: ((D.int (3 : Int)) :: ((D.int (4 : Int)) :: ((D.int (4 : Int)) :: ((D.int (4 : Int)) :: ((D.int (15 : Int)) :: [])))))))).length : Int))) = true then
                    if (decide (((((x0 :: (x1 :: (x2 :: (x3 :: (x4 :: (x5 :: (x6 :: [])))))))).getD ((a0).toInt).toNat D.nil)).toInt > (((((D.int (6 : Int)) :: ((D.int (4 : Int)) :: ((D.int (3 : Int)) :: ((D.int (4 : Int)) :: ((D.int (4 : Int)) :: ((D.int (4 : Int)) :: ((D.int (15 : Int)) :: [])))))))).getD ((a0).toInt).toNat D.nil)).toInt)) = true then
                      some [a0]
                      else
                      (W_ref05_Check_1 x0 x1 x2 x3 x4 x5 x6) [(D.int (IntKind.i64.wrap ((a0).toInt + (1 : Int))))]
                    else none
                  else none
                else none
              else none
          else none
        else none
      else none
    else none
  else
  some [(D.int (-1 : Int))] := (loopP_eq FX B_ref05_Check_1 [] [x0, x1, x2, x3, x4, x5, x6] _).trans (by kernel_rfl)
theorem E_ref05_Check (x0 x1 x2 x3 x4 x5 x6 : D) : FX 8 [x0, x1, x2, x3, x4, x5, x6] =
  W_ref05_Check_1 x0 x1 x2 x3 x4 x5 x6 [(D.int (0 : Int))] := (fixP_eq (t := T_ref05_Check) (by rfl) _).trans (by kernel_rfl)
theorem E_rules_Rules_Cell (x0 x1 x2 x3 x4 x5 x6 x7 x8 : D) : FX 28 [x0, x1, x2, x3, x4, x5, x6, x7, x8] =
  if (decide ((x7).toInt < (0 : Int))) = true then
  some [(D.int (-1 : Int))]
  else
  if (decide ((x7).toInt ≥ (x0).toInt)) = true then
    some [(D.int (-1 : Int))]
    else
    if (decide ((x8).toInt < (0 : Int))) = true then
      some [(D.int (-1 : Int))]
      else
      if (decide ((x8).toInt ≥ (x1).toInt)) = true then
        some [(D.int (-1 : Int))]
        else
        some [(D.int (IntKind.i64.wrap ((IntKind.i64.wrap ((x7).toInt * (x1).toInt)) + (x8).toInt)))] := (fixP_eq (t := T_rules_Rules_Cell) (by rfl) _).trans (by kernel_rfl)
theorem E_rules_Rules_All (x0 x1 x2 x3 x4 x5 x6 : D) : FX 30 [x0, x1, x2, x3, x4, x5, x6] =
  some [(D.int (IntKind.i64.wrap ((x0).toInt * (x1).toInt)))] := (fixP_eq (t := T_rules_Rules_All) (by rfl) _).trans (by kernel_rfl)
theorem E_rules_Rules_Owner (x0 x1 x2 x3 x4 x5 x6 x7 : D) : FX 29 [x0, x1, x2, x3, x4, x5, x6, x7] =
  if (decide ((x7).toInt < (0 : Int))) = true then
  some [(D.int (-1 : Int))]
  else
  bindC (FX 30 [x0, x1, x2, x3, x4, x5, x6]) 1 fun r8 =>
    if (decide ((x7).toInt ≥ ((r8.getD 0 D.nil)).toInt)) = true then
    some [(D.int (-1 : Int))]
    else
    if ((x1).toInt != (0 : Int)) = true then
      some [(D.int (IntKind.i64.wrap (Int.tdiv (x7).toInt (x1).toInt)))]
      else none := (fixP_eq (t := T_rules_Rules_Owner) (by rfl) _).trans (by kernel_rfl)
theorem E_law05_awake : FX 9 [] =
  bindC (FX 7 [(D.int (2 : Int)), (D.int (3 : Int)), (D.int (1 : Int)), (D.int (1 : Int)), (D.int (0 : Int)), (D.int (1 : Int)), (D.int (1 : Int))]) 8 fun r0 =>
  if ((r0.getD 7 D.nil)).isNil = true then
  bindC (FX 28 [(r0.getD 0 D.nil), (r0.getD 1 D.nil), (r0.getD 2 D.nil), (r0.getD 3 D.nil), (r0.getD 4 D.nil), (r0.getD 5 D.nil), (r0.getD 6 D.nil), (D.int (1 : Int)), (D.int (2 : Int))]) 1 fun r8 =>
    if (((r8.getD 0 D.nil)).toInt == (5 : Int)) = true then
    bindC (FX 29 [(r0.getD 0 D.nil), (r0.getD 1 D.nil), (r0.getD 2 D.nil), (r0.getD 3 D.nil), (r0.getD 4 D.nil), (r0.getD 5 D.nil), (r0.getD 6 D.nil), (D.int (5 : Int))]) 1 fun r9 =>
      some [(D.bool (((r9.getD 0 D.nil)).toInt == (1 : Int)))]
    else
    some [(D.bool false)]
  else
  some [(D.bool false)] := (fixP_eq (t := T_law05_awake) (by rfl) _).trans (by kernel_rfl)
noncomputable def W_ref05_Places_4 (x0 x1 x2 x3 x4 x5 x6 x7 x8 x9 x10 x11 x12 : D) (g0 g1 g2 : Eng.Fn) : Eng.Fn := loopF fun g xs => evalP FX B_ref05_Places_4 ([g0, g1, g2] ++ [g]) ([x0, x1, x2, x3, x4, x5, x6, x7, x8, x9, x10, x11, x12] ++ xs)
theorem W_ref05_Places_4_eq (x0 x1 x2 x3 x4 x5 x6 x7 x8 x9 x10 x11 x12 : D) (g0 g1 g2 : Eng.Fn) (a0 a1 : D) : W_ref05_Places_4 x0 x1 x2 x3 x4 x5 x6 x7 x8 x9 x10 x11 x12 g0 g1 g2 [a0, a1] =
  if (decide ((a0).toInt ≤ (x5).toInt)) = true then
  if (decide (((((a1).toL ++ ((D.agg ((D.int (3 : Int)) :: (x9 :: (x11 :: (a0 :: []))))) :: []))).length : Int) ≤ (4398046511104 : Int))) = true then
    (W_ref05_Places_4 x0 x1 x2 x3 x4 x5 x6 x7 x8 x9 x10 x11 x12 g0 g1 g2) [(D.int (IntKind.i64.wrap ((a0).toInt + (1 : Int)))), (D.agg ((a1).toL ++ ((D.agg ((D.int (3 : Int)) :: (x9 :: (x11 :: (a0 :: []))))) :: [])))]
    else none
  else
  g2 [(D.int (IntKind.i64.wrap ((x11).toInt + (1 : Int)))), a1] := (loopP_eq FX B_ref05_Places_4 [g0, g1, g2] [x0, x1, x2, x3, x4, x5, x6, x7, x8, x9, x10, x11, x12] _).trans (by kernel_rfl)
noncomputable def W_ref05_Places_3 (x0 x1 x2 x3 x4 x5 x6 x7 x8 x9 x10 : D) (g0 g1 : Eng.Fn) : Eng.Fn := loopF fun g xs => evalP FX B_ref05_Places_3 ([g0, g1] ++ [g]) ([x0, x1, x2, x3, x4, x5, x6, x7, x8, x9, x10] ++ xs)
theorem W_ref05_Places_3_eq (x0 x1 x2 x3 x4 x5 x6 x7 x8 x9 x10 : D) (g0 g1 : Eng.Fn) (a0 a1 : D) : W_ref05_Places_3 x0 x1 x2 x3 x4 x5 x6 x7 x8 x9 x10 g0 g1 [a0, a1] =
  if (decide ((a0).toInt ≤ (x6).toInt)) = true then
  W_ref05_Places_4 x0 x1 x2 x3 x4 x5 x6 x7 x8 x9 x10 a0 a1 g0 g1 ((W_ref05_Places_3 x0 x1 x2 x3 x4 x5 x6 x7 x8 x9 x10 g0 g1)) [(D.int (0 : Int)), a1]
  else
  g1 [(D.int (IntKind.i64.wrap ((x9).toInt + (1 : Int)))), a1] := (loopP_eq FX B_ref05_Places_3 [g0, g1] [x0, x1, x2, x3, x4, x5, x6, x7, x8, x9, x10] _).trans (by kernel_rfl)
noncomputable def W_ref05_Places_2 (x0 x1 x2 x3 x4 x5 x6 x7 x8 : D) (g0 : Eng.Fn) : Eng.Fn := loopF fun g xs => evalP FX B_ref05_Places_2 ([g0] ++ [g]) ([x0, x1, x2, x3, x4, x5, x6, x7, x8] ++ xs)
theorem W_ref05_Places_2_eq (x0 x1 x2 x3 x4 x5 x6 x7 x8 : D) (g0 : Eng.Fn) (a0 a1 : D) : W_ref05_Places_2 x0 x1 x2 x3 x4 x5 x6 x7 x8 g0 [a0, a1] =
  if (decide ((a0).toInt < (IntKind.i64.wrap ((x0).toInt * (x1).toInt)))) = true then
  W_ref05_Places_3 x0 x1 x2 x3 x4 x5 x6 x7 x8 a0 a1 g0 ((W_ref05_Places_2 x0 x1 x2 x3 x4 x5 x6 x7 x8 g0)) [(D.int (1 : Int)), a1]
  else
  some [a1] := (loopP_eq FX B_ref05_Places_2 [g0] [x0, x1, x2, x3, x4, x5, x6, x7, x8] _).trans (by kernel_rfl)
noncomputable def W_ref05_Places_1 (x0 x1 x2 x3 x4 x5 x6 : D) : Eng.Fn := loopF fun g xs => evalP FX B_ref05_Places_1 ([] ++ [g]) ([x0, x1, x2, x3, x4, x5, x6] ++ xs)
theorem W_ref05_Places_1_eq (x0 x1 x2 x3 x4 x5 x6 : D) (a0 a1 : D) : W_ref05_Places_1 x0 x1 x2 x3 x4 x5 x6 [a0, a1] =
  if (decide ((a0).toInt < (IntKind.i64.wrap ((x0).toInt * (x1).toInt)))) = true then
  if (decide (((((a1).toL ++ ((D.agg ((D.int (1 : Int)) :: (a0 :: ((D.int (0 : Int)) :: ((D.int (0 : Int)) :: []))))) :: ((D.agg ((D.int (2 : Int)) :: (a0 :: ((D.int (0 : Int)) :: ((D.int (0 : Int)) :: []))))) :: [])))).length : Int) ≤ (4398046511104 : Int))) = true then
    (W_ref05_Places_1 x0 x1 x2 x3 x4 x5 x6) [(D.int (IntKind.i64.wrap ((a0).toInt + (1 : Int)))), (D.agg ((a1).toL ++ ((D.agg ((D.int (1 : Int)) :: (a0 :: ((D.int (0 : Int)) :: ((D.int (0 : Int)) :: []))))) :: ((D.agg ((D.int (2 : Int)) :: (a0 :: ((D.int (0 : Int)) :: ((D.int (0 : Int)) :: []))))) :: []))))]
    else none
  else
  W_ref05_Places_2 x0 x1 x2 x3 x4 x5 x6 a0 a1 ((W_ref05_Places_1 x0 x1 x2 x3 x4 x5 x6)) [(D.int (0 : Int)), a1] := (loopP_eq FX B_ref05_Places_1 [] [x0, x1, x2, x3, x4, x5, x6] _).trans (by kernel_rfl)
theorem E_ref05_Places (x0 x1 x2 x3 x4 x5 x6 : D) : FX 10 [x0, x1, x2, x3, x4, x5, x6] =
  W_ref05_Places_1 x0 x1 x2 x3 x4 x5 x6 [(D.int (0 : Int)), (D.agg [])] := (fixP_eq (t := T_ref05_Places) (by rfl) _).trans (by kernel_rfl)
theorem E_rules_Rules_StateAt (x0 x1 x2 x3 x4 x5 x6 x7 : D) : FX 11 [x0, x1, x2, x3, x4, x5, x6, x7] =
  some [(D.int (IntKind.i64.wrap ((2 : Int) * (x7).toInt)))] := (fixP_eq (t := T_rules_Rules_StateAt) (by rfl) _).trans (by kernel_rfl)
theorem E_rules_Rules_TermsAt (x0 x1 x2 x3 x4 x5 x6 x7 : D) : FX 12 [x0, x1, x2, x3, x4, x5, x6, x7] =
  some [(D.int (IntKind.i64.wrap ((IntKind.i64.wrap ((2 : Int) * (x7).toInt)) + (1 : Int))))] := (fixP_eq (t := T_rules_Rules_TermsAt) (by rfl) _).trans (by kernel_rfl)
theorem E_rules_Rules_SlotAt (x0 x1 x2 x3 x4 x5 x6 x7 x8 x9 : D) : FX 13 [x0, x1, x2, x3, x4, x5, x6, x7, x8, x9] =
  if (decide ((x7).toInt < (0 : Int))) = true then
  some [(D.int (-1 : Int))]
  else
  bindC (FX 30 [x0, x1, x2, x3, x4, x5, x6]) 1 fun r10 =>
    if (decide ((x7).toInt ≥ ((r10.getD 0 D.nil)).toInt)) = true then
    some [(D.int (-1 : Int))]
    else
    if (decide ((x8).toInt < (1 : Int))) = true then
      some [(D.int (-1 : Int))]
      else
      if (decide ((x8).toInt > (x6).toInt)) = true then
        some [(D.int (-1 : Int))]
        else
        if (decide ((x9).toInt < (0 : Int))) = true then
          some [(D.int (-1 : Int))]
          else
          if (decide ((x9).toInt > (x5).toInt)) = true then
            some [(D.int (-1 : Int))]
            else
            bindC (FX 30 [x0, x1, x2, x3, x4, x5, x6]) 1 fun r11 =>
              some [(D.int (IntKind.i64.wrap ((IntKind.i64.wrap ((IntKind.i64.wrap (((r11.getD 0 D.nil)).toInt * (2 : Int))) + (IntKind.i64.wrap ((IntKind.i64.wrap ((IntKind.i64.wrap ((IntKind.i64.wrap ((x7).toInt * (x6).toInt)) + (x8).toInt)) - (1 : Int))) * (IntKind.i64.wrap ((x5).toInt + (1 : Int))))))) + (x9).toInt)))] := (fixP_eq (t := T_rules_Rules_SlotAt) (by rfl) _).trans (by kernel_rfl)
noncomputable def W_ref05_At_1 (x0 x1 x2 x3 x4 : D) : Eng.Fn := loopF fun g xs => evalP FX B_ref05_At_1 ([] ++ [g]) ([x0, x1, x2, x3, x4] ++ xs)
theorem W_ref05_At_1_eq (x0 x1 x2 x3 x4 : D) (a0 : D) : W_ref05_At_1 x0 x1 x2 x3 x4 [a0] =
  if (decide ((a0).toInt < (((x0).toL).length : Int))) = true then
  if (decide ((a0).toInt ≥ (0 : Int))) = true then
    if (decide ((a0).toInt < (((x0).toL).length : Int))) = true then
      if ((if ((((((((x0).toL).getD ((a0).toInt).toNat D.nil)).toL).getD 0 D.nil)).toInt == (x1).toInt) = true then (if ((((((((x0).toL).getD ((a0).toInt).toNat D.nil)).toL).getD 1 D.nil)).toInt == (x2).toInt) = true then (if ((((((((x0).toL).getD ((a0).toInt).toNat D.nil)).toL).getD 2 D.nil)).toInt == (x3).toInt) = true then (if ((((((((x0).toL).getD ((a0).toInt).toNat D.nil)).toL).getD 3 D.nil)).toInt == (x4).toInt) = true then (D.bool true) else (D.bool false)) else (D.bool false)) else (D.bool false)) else (D.bool false))).toBool = true then
        some [a0]
        else
        (W_ref05_At_1 x0 x1 x2 x3 x4) [(D.int (IntKind.i64.wrap ((a0).toInt + (1 : Int))))]
      else none
    else none
  else
  some [(D.int (-1 : Int))] := (loopP_eq FX B_ref05_At_1 [] [x0, x1, x2, x3, x4] _).trans (by kernel_rfl)
theorem E_ref05_At (x0 x1 x2 x3 x4 : D) : FX 14 [x0, x1, x2, x3, x4] =
  W_ref05_At_1 x0 x1 x2 x3 x4 [(D.int (0 : Int))] := (fixP_eq (t := T_ref05_At) (by rfl) _).trans (by kernel_rfl)
noncomputable def W_law05_RulesPlaces_1 (x0 x1 x2 x3 x4 x5 x6 x7 x8 x9 x10 x11 x12 x13 x14 x15 x16 x17 x18 x19 : D) : Eng.Fn := loopF fun g xs => evalP FX B_law05_RulesPlaces_1 ([] ++ [g]) ([x0, x1, x2, x3, x4, x5, x6, x7, x8, x9, x10, x11, x12, x13, x14, x15, x16, x17, x18, x19] ++ xs)
theorem W_law05_RulesPlaces_1_eq (x0 x1 x2 x3 x4 x5 x6 x7 x8 x9 x10 x11 x12 x13 x14 x15 x16 x17 x18 x19 : D) (a0 : D) : W_law05_RulesPlaces_1 x0 x1 x2 x3 x4 x5 x6 x7 x8 x9 x10 x11 x12 x13 x14 x15 x16 x17 x18 x19 [a0] =
  if (decide ((a0).toInt < (((x19).toL).length : Int))) = true then
  if (decide ((a0).toInt ≥ (0 : Int))) = true then
    if (decide ((a0).toInt < (((x19).toL).length : Int))) = true then
      bindC (FX 11 [x10, x11, x12, x13, x14, x15, x16, ((((((x19).toL).getD ((a0).toInt).toNat D.nil)).toL).getD 1 D.nil)]) 1 fun r21 =>
        if ((((((((x19).toL).getD ((a0).toInt).toNat D.nil)).toL).getD 0 D.nil)).toInt == (2 : Int)) = true then
        bindC (FX 12 [x10, x11, x12, x13, x14, x15, x16, ((((((x19).toL).getD ((a0).toInt).toNat D.nil)).toL).getD 1 D.nil)]) 1 fun r22 =>
          if ((((((((x19).toL).getD ((a0).toInt).toNat D.nil)).toL).getD 0 D.nil)).toInt == (3 : Int)) = true then
          bindC (FX 13 [x10, x11, x12, x13, x14, x15, x16, ((((((x19).toL).getD ((a0).toInt).toNat D.nil)).toL).getD 1 D.nil), ((((((x19).toL).getD ((a0).toInt).toNat D.nil)).toL).getD 2 D.nil), ((((((x19).toL).getD ((a0).toInt).toNat D.nil)).toL).getD 3 D.nil)]) 1 fun r23 =>
            if (((r23.getD 0 D.nil)).toInt != (a0).toInt) = true then
            some [(D.bool false)]
            else
            (W_law05_RulesPlaces_1 x0 x1 x2 x3 x4 x5 x6 x7 x8 x9 x10 x11 x12 x13 x14 x15 x16 x17 x18 x19) [(D.int (IntKind.i64.wrap ((a0).toInt + (1 : Int))))]
          else
          if (((r22.getD 0 D.nil)).toInt != (a0).toInt) = true then
            some [(D.bool false)]
            else
            (W_law05_RulesPlaces_1 x0 x1 x2 x3 x4 x5 x6 x7 x8 x9 x10 x11 x12 x13 x14 x15 x16 x17 x18 x19) [(D.int (IntKind.i64.wrap ((a0).toInt + (1 : Int))))]
        else
        if ((((((((x19).toL).getD ((a0).toInt).toNat D.nil)).toL).getD 0 D.nil)).toInt == (3 : Int)) = true then
          bindC (FX 13 [x10, x11, x12, x13, x14, x15, x16, ((((((x19).toL).getD ((a0).toInt).toNat D.nil)).toL).getD 1 D.nil), ((((((x19).toL).getD ((a0).toInt).toNat D.nil)).toL).getD 2 D.nil), ((((((x19).toL).getD ((a0).toInt).toNat D.nil)).toL).getD 3 D.nil)]) 1 fun r22 =>
            if (((r22.getD 0 D.nil)).toInt != (a0).toInt) = true then
            some [(D.bool false)]
            else
            (W_law05_RulesPlaces_1 x0 x1 x2 x3 x4 x5 x6 x7 x8 x9 x10 x11 x12 x13 x14 x15 x16 x17 x18 x19) [(D.int (IntKind.i64.wrap ((a0).toInt + (1 : Int))))]
          else
          if (((r21.getD 0 D.nil)).toInt != (a0).toInt) = true then
            some [(D.bool false)]
            else
            (W_law05_RulesPlaces_1 x0 x1 x2 x3 x4 x5 x6 x7 x8 x9 x10 x11 x12 x13 x14 x15 x16 x17 x18 x19) [(D.int (IntKind.i64.wrap ((a0).toInt + (1 : Int))))]
      else none
    else none
  else
  bindC (FX 9 []) 1 fun r21 =>
    if ((r21.getD 0 D.nil)).toBool = true then
    if (x17).isNil = true then
      bindC (FX 13 [x10, x11, x12, x13, x14, x15, x16, x7, x8, x9]) 1 fun r22 =>
        bindC (FX 14 [x19, (D.int (3 : Int)), x7, x8, x9]) 1 fun r23 =>
        some [(D.bool (((r22.getD 0 D.nil)).toInt == ((r23.getD 0 D.nil)).toInt))]
      else
      some [(D.bool false)]
    else
    some [(D.bool false)] := (loopP_eq FX B_law05_RulesPlaces_1 [] [x0, x1, x2, x3, x4, x5, x6, x7, x8, x9, x10, x11, x12, x13, x14, x15, x16, x17, x18, x19] _).trans (by kernel_rfl)
theorem E_law05_RulesPlaces (x0 x1 x2 x3 x4 x5 x6 x7 x8 x9 : D) : FX 3 [x0, x1, x2, x3, x4, x5, x6, x7, x8, x9] =
  bindC (FX 7 [x0, x1, x2, x3, x4, x5, x6]) 8 fun r10 =>
  bindC (FX 8 [x0, x1, x2, x3, x4, x5, x6]) 1 fun r18 =>
  if (decide (((r18.getD 0 D.nil)).toInt ≥ (0 : Int))) = true then
  bindC (FX 9 []) 1 fun r19 =>
    if ((r19.getD 0 D.nil)).toBool = true then
    some [(D.bool (!((r10.getD 7 D.nil)).isNil))]
    else
    some [(D.bool false)]
  else
  bindC (FX 10 [x0, x1, x2, x3, x4, x5, x6]) 1 fun r19 =>
    W_law05_RulesPlaces_1 x0 x1 x2 x3 x4 x5 x6 x7 x8 x9 (r10.getD 0 D.nil) (r10.getD 1 D.nil) (r10.getD 2 D.nil) (r10.getD 3 D.nil) (r10.getD 4 D.nil) (r10.getD 5 D.nil) (r10.getD 6 D.nil) (r10.getD 7 D.nil) (r18.getD 0 D.nil) (r19.getD 0 D.nil) [(D.int (0 : Int))] := (fixP_eq (t := T_law05_RulesPlaces) (by rfl) _).trans (by kernel_rfl)
theorem E_rules_Rules_Band (x0 x1 x2 x3 x4 x5 x6 x7 : D) : FX 20 [x0, x1, x2, x3, x4, x5, x6, x7] =
  if (decide ((x7).toInt < (1 : Int))) = true then
  some [(D.int (-1 : Int))]
  else
  if (decide ((x7).toInt > (9999 : Int))) = true then
    some [(D.int (-1 : Int))]
    else
    some [(D.int (IntKind.i64.wrap (Int.tdiv (IntKind.i64.wrap ((IntKind.i64.wrap ((x7).toInt - (1 : Int))) * (x3).toInt)) (9999 : Int))))] := (fixP_eq (t := T_rules_Rules_Band) (by rfl) _).trans (by kernel_rfl)
noncomputable def W_rules_Rules_Crossing_1 (x0 x1 x2 x3 x4 x5 x6 x7 x8 x9 : D) : Eng.Fn := loopF fun g xs => evalP FX B_rules_Rules_Crossing_1 ([] ++ [g]) ([x0, x1, x2, x3, x4, x5, x6, x7, x8, x9] ++ xs)
theorem W_rules_Rules_Crossing_1_eq (x0 x1 x2 x3 x4 x5 x6 x7 x8 x9 : D) (a0 a1 : D) : W_rules_Rules_Crossing_1 x0 x1 x2 x3 x4 x5 x6 x7 x8 x9 [a0, a1] =
  if (decide ((a0).toInt ≤ (x9).toInt)) = true then
  if (decide (((((a1).toL ++ (a0 :: []))).length : Int) ≤ (17592186044416 : Int))) = true then
    (W_rules_Rules_Crossing_1 x0 x1 x2 x3 x4 x5 x6 x7 x8 x9) [(D.int (IntKind.i64.wrap ((a0).toInt + (1 : Int)))), (D.agg ((a1).toL ++ (a0 :: [])))]
    else none
  else
  some [a1] := (loopP_eq FX B_rules_Rules_Crossing_1 [] [x0, x1, x2, x3, x4, x5, x6, x7, x8, x9] _).trans (by kernel_rfl)
noncomputable def W_rules_Rules_Crossing_2 (x0 x1 x2 x3 x4 x5 x6 x7 x8 x9 : D) : Eng.Fn := loopF fun g xs => evalP FX B_rules_Rules_Crossing_2 ([] ++ [g]) ([x0, x1, x2, x3, x4, x5, x6, x7, x8, x9] ++ xs)
theorem W_rules_Rules_Crossing_2_eq (x0 x1 x2 x3 x4 x5 x6 x7 x8 x9 : D) (a0 a1 : D) : W_rules_Rules_Crossing_2 x0 x1 x2 x3 x4 x5 x6 x7 x8 x9 [a0, a1] =
  if (decide ((a0).toInt ≥ (x9).toInt)) = true then
  if (decide (((((a1).toL ++ (a0 :: []))).length : Int) ≤ (17592186044416 : Int))) = true then
    (W_rules_Rules_Crossing_2 x0 x1 x2 x3 x4 x5 x6 x7 x8 x9) [(D.int (IntKind.i64.wrap ((a0).toInt - (1 : Int)))), (D.agg ((a1).toL ++ (a0 :: [])))]
    else none
  else
  some [a1] := (loopP_eq FX B_rules_Rules_Crossing_2 [] [x0, x1, x2, x3, x4, x5, x6, x7, x8, x9] _).trans (by kernel_rfl)
theorem E_rules_Rules_Crossing (x0 x1 x2 x3 x4 x5 x6 x7 x8 : D) : FX 22 [x0, x1, x2, x3, x4, x5, x6, x7, x8] =
  bindC (FX 20 [x0, x1, x2, x3, x4, x5, x6, x8]) 1 fun r9 =>
  if (decide (((r9.getD 0 D.nil)).toInt < (0 : Int))) = true then
  some [(D.agg [])]
  else
  if ((x7).toInt == (0 : Int)) = true then
    W_rules_Rules_Crossing_1 x0 x1 x2 x3 x4 x5 x6 x7 x8 (r9.getD 0 D.nil) [(D.int (0 : Int)), (D.agg [])]
    else
    if ((x7).toInt == (1 : Int)) = true then
      W_rules_Rules_Crossing_2 x0 x1 x2 x3 x4 x5 x6 x7 x8 (r9.getD 0 D.nil) [(D.int (IntKind.i64.wrap ((x3).toInt - (1 : Int)))), (D.agg [])]
      else
      some [(D.agg [])] := (fixP_eq (t := T_rules_Rules_Crossing) (by rfl) _).trans (by kernel_rfl)
noncomputable def W_ref05_Band_1 (x0 x1 x2 x3 x4 x5 x6 x7 : D) : Eng.Fn := loopF fun g xs => evalP FX B_ref05_Band_1 ([] ++ [g]) ([x0, x1, x2, x3, x4, x5, x6, x7] ++ xs)
theorem W_ref05_Band_1_eq (x0 x1 x2 x3 x4 x5 x6 x7 : D) (a0 : D) : W_ref05_Band_1 x0 x1 x2 x3 x4 x5 x6 x7 [a0] =
  if (decide ((IntKind.i64.wrap ((IntKind.i64.wrap ((a0).toInt + (1 : Int))) * (9999 : Int))) ≤ (IntKind.i64.wrap ((IntKind.i64.wrap ((x7).toInt - (1 : Int))) * (x3).toInt)))) = true then
  (W_ref05_Band_1 x0 x1 x2 x3 x4 x5 x6 x7) [(D.int (IntKind.i64.wrap ((a0).toInt + (1 : Int))))]
  else
  some [a0] := (loopP_eq FX B_ref05_Band_1 [] [x0, x1, x2, x3, x4, x5, x6, x7] _).trans (by kernel_rfl)
theorem E_ref05_Band (x0 x1 x2 x3 x4 x5 x6 x7 : D) : FX 24 [x0, x1, x2, x3, x4, x5, x6, x7] =
  if (decide ((x7).toInt < (1 : Int))) = true then
  some [(D.int (-1 : Int))]
  else
  if (decide ((x7).toInt > (9999 : Int))) = true then
    some [(D.int (-1 : Int))]
    else
    W_ref05_Band_1 x0 x1 x2 x3 x4 x5 x6 x7 [(D.int (0 : Int))] := (fixP_eq (t := T_ref05_Band) (by rfl) _).trans (by kernel_rfl)
noncomputable def W_ref05_Crosses_1 (x0 x1 x2 x3 x4 x5 x6 x7 x8 x9 : D) : Eng.Fn := loopF fun g xs => evalP FX B_ref05_Crosses_1 ([] ++ [g]) ([x0, x1, x2, x3, x4, x5, x6, x7, x8, x9] ++ xs)
theorem W_ref05_Crosses_1_eq (x0 x1 x2 x3 x4 x5 x6 x7 x8 x9 : D) (a0 a1 : D) : W_ref05_Crosses_1 x0 x1 x2 x3 x4 x5 x6 x7 x8 x9 [a0, a1] =
  if (decide ((a0).toInt < (x3).toInt)) = true then
  if (decide ((x9).toInt ≥ (0 : Int))) = true then
    if ((x7).toInt == (1 : Int)) = true then
      if ((x7).toInt == (0 : Int)) = true then
        if (decide ((IntKind.i64.wrap ((IntKind.i64.wrap ((x3).toInt - (1 : Int))) - (a0).toInt)) ≤ (x9).toInt)) = true then
          if (decide (((((a1).toL ++ ((D.int (IntKind.i64.wrap ((IntKind.i64.wrap ((x3).toInt - (1 : Int))) - (a0).toInt))) :: []))).length : Int) ≤ (17592186044416 : Int))) = true then
            (W_ref05_Crosses_1 x0 x1 x2 x3 x4 x5 x6 x7 x8 x9) [(D.int (IntKind.i64.wrap ((a0).toInt + (1 : Int)))), (D.agg ((a1).toL ++ ((D.int (IntKind.i64.wrap ((IntKind.i64.wrap ((x3).toInt - (1 : Int))) - (a0).toInt))) :: [])))]
            else none
          else
          if (decide ((IntKind.i64.wrap ((IntKind.i64.wrap ((x3).toInt - (1 : Int))) - (a0).toInt)) ≥ (x9).toInt)) = true then
            if (decide (((((a1).toL ++ ((D.int (IntKind.i64.wrap ((IntKind.i64.wrap ((x3).toInt - (1 : Int))) - (a0).toInt))) :: []))).length : Int) ≤ (17592186044416 : Int))) = true then
              (W_ref05_Crosses_1 x0 x1 x2 x3 x4 x5 x6 x7 x8 x9) [(D.int (IntKind.i64.wrap ((a0).toInt + (1 : Int)))), (D.agg ((a1).toL ++ ((D.int (IntKind.i64.wrap ((IntKind.i64.wrap ((x3).toInt - (1 : Int))) - (a0).toInt))) :: [])))]
              else none
            else
            (W_ref05_Crosses_1 x0 x1 x2 x3 x4 x5 x6 x7 x8 x9) [(D.int (IntKind.i64.wrap ((a0).toInt + (1 : Int)))), a1]
        else
        if (decide ((IntKind.i64.wrap ((IntKind.i64.wrap ((x3).toInt - (1 : Int))) - (a0).toInt)) ≥ (x9).toInt)) = true then
          if (decide (((((a1).toL ++ ((D.int (IntKind.i64.wrap ((IntKind.i64.wrap ((x3).toInt - (1 : Int))) - (a0).toInt))) :: []))).length : Int) ≤ (17592186044416 : Int))) = true then
            (W_ref05_Crosses_1 x0 x1 x2 x3 x4 x5 x6 x7 x8 x9) [(D.int (IntKind.i64.wrap ((a0).toInt + (1 : Int)))), (D.agg ((a1).toL ++ ((D.int (IntKind.i64.wrap ((IntKind.i64.wrap ((x3).toInt - (1 : Int))) - (a0).toInt))) :: [])))]
            else none
          else
          (W_ref05_Crosses_1 x0 x1 x2 x3 x4 x5 x6 x7 x8 x9) [(D.int (IntKind.i64.wrap ((a0).toInt + (1 : Int)))), a1]
      else
      if ((x7).toInt == (0 : Int)) = true then
        if (decide ((a0).toInt ≤ (x9).toInt)) = true then
          if (decide (((((a1).toL ++ (a0 :: []))).length : Int) ≤ (17592186044416 : Int))) = true then
            (W_ref05_Crosses_1 x0 x1 x2 x3 x4 x5 x6 x7 x8 x9) [(D.int (IntKind.i64.wrap ((a0).toInt + (1 : Int)))), (D.agg ((a1).toL ++ (a0 :: [])))]
            else none
          else
          (W_ref05_Crosses_1 x0 x1 x2 x3 x4 x5 x6 x7 x8 x9) [(D.int (IntKind.i64.wrap ((a0).toInt + (1 : Int)))), a1]
        else
        (W_ref05_Crosses_1 x0 x1 x2 x3 x4 x5 x6 x7 x8 x9) [(D.int (IntKind.i64.wrap ((a0).toInt + (1 : Int)))), a1]
    else
    some [a1]
  else
  some [a1] := (loopP_eq FX B_ref05_Crosses_1 [] [x0, x1, x2, x3, x4, x5, x6, x7, x8, x9] _).trans (by kernel_rfl)
theorem E_ref05_Crosses (x0 x1 x2 x3 x4 x5 x6 x7 x8 : D) : FX 23 [x0, x1, x2, x3, x4, x5, x6, x7, x8] =
  bindC (FX 24 [x0, x1, x2, x3, x4, x5, x6, x8]) 1 fun r9 =>
  W_ref05_Crosses_1 x0 x1 x2 x3 x4 x5 x6 x7 x8 (r9.getD 0 D.nil) [(D.int (0 : Int)), (D.agg [])] := (fixP_eq (t := T_ref05_Crosses) (by rfl) _).trans (by kernel_rfl)
noncomputable def W_law05_RulesBands_3 (x0 x1 x2 x3 x4 x5 x6 x7 x8 x9 x10 x11 x12 x13 x14 x15 x16 x17 x18 x19 x20 x21 x22 x23 x24 x25 x26 x27 : D) (g0 g1 : Eng.Fn) : Eng.Fn := loopF fun g xs => evalP FX B_law05_RulesBands_3 ([g0, g1] ++ [g]) ([x0, x1, x2, x3, x4, x5, x6, x7, x8, x9, x10, x11, x12, x13, x14, x15, x16, x17, x18, x19, x20, x21, x22, x23, x24, x25, x26, x27] ++ xs)
theorem W_law05_RulesBands_3_eq (x0 x1 x2 x3 x4 x5 x6 x7 x8 x9 x10 x11 x12 x13 x14 x15 x16 x17 x18 x19 x20 x21 x22 x23 x24 x25 x26 x27 : D) (g0 g1 : Eng.Fn) (a0 a1 : D) : W_law05_RulesBands_3 x0 x1 x2 x3 x4 x5 x6 x7 x8 x9 x10 x11 x12 x13 x14 x15 x16 x17 x18 x19 x20 x21 x22 x23 x24 x25 x26 x27 g0 g1 [a0, a1] =
  if (decide ((a1).toInt < (((x27).toL).length : Int))) = true then
  if (decide ((a1).toInt ≥ (0 : Int))) = true then
    if (decide ((a1).toInt < (((x27).toL).length : Int))) = true then
      if (a0).toBool = true then
        (W_law05_RulesBands_3 x0 x1 x2 x3 x4 x5 x6 x7 x8 x9 x10 x11 x12 x13 x14 x15 x16 x17 x18 x19 x20 x21 x22 x23 x24 x25 x26 x27 g0 g1) [(D.bool true), (D.int (IntKind.i64.wrap ((a1).toInt + (1 : Int))))]
        else
        bindC (FX 20 [x10, x11, x12, x13, x14, x15, x16, x8]) 1 fun r30 =>
          (W_law05_RulesBands_3 x0 x1 x2 x3 x4 x5 x6 x7 x8 x9 x10 x11 x12 x13 x14 x15 x16 x17 x18 x19 x20 x21 x22 x23 x24 x25 x26 x27 g0 g1) [(D.bool (((((x27).toL).getD ((a1).toInt).toNat D.nil)).toInt == ((r30.getD 0 D.nil)).toInt)), (D.int (IntKind.i64.wrap ((a1).toInt + (1 : Int))))]
      else none
    else none
  else
  bindC (FX 9 []) 1 fun r30 =>
    if ((r30.getD 0 D.nil)).toBool = true then
    if (x25).toBool = true then
      some [a0]
      else
      some [(D.bool false)]
    else
    some [(D.bool false)] := (loopP_eq FX B_law05_RulesBands_3 [g0, g1] [x0, x1, x2, x3, x4, x5, x6, x7, x8, x9, x10, x11, x12, x13, x14, x15, x16, x17, x18, x19, x20, x21, x22, x23, x24, x25, x26, x27] _).trans (by kernel_rfl)
noncomputable def W_law05_RulesBands_2 (x0 x1 x2 x3 x4 x5 x6 x7 x8 x9 x10 x11 x12 x13 x14 x15 x16 x17 x18 x19 x20 x21 x22 x23 x24 : D) (g0 : Eng.Fn) : Eng.Fn := loopF fun g xs => evalP FX B_law05_RulesBands_2 ([g0] ++ [g]) ([x0, x1, x2, x3, x4, x5, x6, x7, x8, x9, x10, x11, x12, x13, x14, x15, x16, x17, x18, x19, x20, x21, x22, x23, x24] ++ xs)
theorem W_law05_RulesBands_2_eq (x0 x1 x2 x3 x4 x5 x6 x7 x8 x9 x10 x11 x12 x13 x14 x15 x16 x17 x18 x19 x20 x21 x22 x23 x24 : D) (g0 : Eng.Fn) (a0 a1 : D) : W_law05_RulesBands_2 x0 x1 x2 x3 x4 x5 x6 x7 x8 x9 x10 x11 x12 x13 x14 x15 x16 x17 x18 x19 x20 x21 x22 x23 x24 g0 [a0, a1] =
  if (decide ((a1).toInt < (((x24).toL).length : Int))) = true then
  if (decide ((a1).toInt ≥ (0 : Int))) = true then
    if (decide ((a1).toInt < (((x24).toL).length : Int))) = true then
      if (a0).toBool = true then
        (W_law05_RulesBands_2 x0 x1 x2 x3 x4 x5 x6 x7 x8 x9 x10 x11 x12 x13 x14 x15 x16 x17 x18 x19 x20 x21 x22 x23 x24 g0) [(D.bool true), (D.int (IntKind.i64.wrap ((a1).toInt + (1 : Int))))]
        else
        bindC (FX 20 [x10, x11, x12, x13, x14, x15, x16, x9]) 1 fun r27 =>
          (W_law05_RulesBands_2 x0 x1 x2 x3 x4 x5 x6 x7 x8 x9 x10 x11 x12 x13 x14 x15 x16 x17 x18 x19 x20 x21 x22 x23 x24 g0) [(D.bool (((((x24).toL).getD ((a1).toInt).toNat D.nil)).toInt == ((r27.getD 0 D.nil)).toInt)), (D.int (IntKind.i64.wrap ((a1).toInt + (1 : Int))))]
      else none
    else none
  else
  bindC (FX 22 [x10, x11, x12, x13, x14, x15, x16, (D.int (1 : Int)), x9]) 1 fun r27 =>
    W_law05_RulesBands_3 x0 x1 x2 x3 x4 x5 x6 x7 x8 x9 x10 x11 x12 x13 x14 x15 x16 x17 x18 x19 x20 x21 x22 x23 x24 a0 a1 (r27.getD 0 D.nil) g0 ((W_law05_RulesBands_2 x0 x1 x2 x3 x4 x5 x6 x7 x8 x9 x10 x11 x12 x13 x14 x15 x16 x17 x18 x19 x20 x21 x22 x23 x24 g0)) [(D.bool false), (D.int (0 : Int))] := (loopP_eq FX B_law05_RulesBands_2 [g0] [x0, x1, x2, x3, x4, x5, x6, x7, x8, x9, x10, x11, x12, x13, x14, x15, x16, x17, x18, x19, x20, x21, x22, x23, x24] _).trans (by kernel_rfl)
noncomputable def W_law05_RulesBands_1 (x0 x1 x2 x3 x4 x5 x6 x7 x8 x9 x10 x11 x12 x13 x14 x15 x16 x17 x18 x19 x20 x21 x22 : D) : Eng.Fn := loopF fun g xs => evalP FX B_law05_RulesBands_1 ([] ++ [g]) ([x0, x1, x2, x3, x4, x5, x6, x7, x8, x9, x10, x11, x12, x13, x14, x15, x16, x17, x18, x19, x20, x21, x22] ++ xs)
theorem W_law05_RulesBands_1_eq (x0 x1 x2 x3 x4 x5 x6 x7 x8 x9 x10 x11 x12 x13 x14 x15 x16 x17 x18 x19 x20 x21 x22 : D) (a0 : D) : W_law05_RulesBands_1 x0 x1 x2 x3 x4 x5 x6 x7 x8 x9 x10 x11 x12 x13 x14 x15 x16 x17 x18 x19 x20 x21 x22 [a0] =
  if (decide ((a0).toInt < (((x19).toL).length : Int))) = true then
  if (decide ((a0).toInt ≥ (0 : Int))) = true then
    if (decide ((a0).toInt < (((x19).toL).length : Int))) = true then
      if (decide ((a0).toInt ≥ (0 : Int))) = true then
        if (decide ((a0).toInt < (((x20).toL).length : Int))) = true then
          if (((((x19).toL).getD ((a0).toInt).toNat D.nil)).toInt != ((((x20).toL).getD ((a0).toInt).toNat D.nil)).toInt) = true then
            some [(D.bool false)]
            else
            (W_law05_RulesBands_1 x0 x1 x2 x3 x4 x5 x6 x7 x8 x9 x10 x11 x12 x13 x14 x15 x16 x17 x18 x19 x20 x21 x22) [(D.int (IntKind.i64.wrap ((a0).toInt + (1 : Int))))]
          else none
        else none
      else none
    else none
  else
  if (decide ((x8).toInt < (1 : Int))) = true then
    bindC (FX 9 []) 1 fun r24 =>
      some [(r24.getD 0 D.nil)]
    else
    if (decide ((x8).toInt > (9999 : Int))) = true then
      bindC (FX 9 []) 1 fun r24 =>
        some [(r24.getD 0 D.nil)]
      else
      if (decide ((x9).toInt < (1 : Int))) = true then
        bindC (FX 9 []) 1 fun r24 =>
          some [(r24.getD 0 D.nil)]
        else
        if (decide ((x9).toInt > (x8).toInt)) = true then
          bindC (FX 9 []) 1 fun r24 =>
            some [(r24.getD 0 D.nil)]
          else
          bindC (FX 22 [x10, x11, x12, x13, x14, x15, x16, (D.int (0 : Int)), x8]) 1 fun r24 =>
            W_law05_RulesBands_2 x0 x1 x2 x3 x4 x5 x6 x7 x8 x9 x10 x11 x12 x13 x14 x15 x16 x17 x18 x19 x20 x21 x22 a0 (r24.getD 0 D.nil) ((W_law05_RulesBands_1 x0 x1 x2 x3 x4 x5 x6 x7 x8 x9 x10 x11 x12 x13 x14 x15 x16 x17 x18 x19 x20 x21 x22)) [(D.bool false), (D.int (0 : Int))] := (loopP_eq FX B_law05_RulesBands_1 [] [x0, x1, x2, x3, x4, x5, x6, x7, x8, x9, x10, x11, x12, x13, x14, x15, x16, x17, x18, x19, x20, x21, x22] _).trans (by kernel_rfl)
theorem E_law05_RulesBands (x0 x1 x2 x3 x4 x5 x6 x7 x8 x9 : D) : FX 6 [x0, x1, x2, x3, x4, x5, x6, x7, x8, x9] =
  bindC (FX 7 [x0, x1, x2, x3, x4, x5, x6]) 8 fun r10 =>
  bindC (FX 8 [x0, x1, x2, x3, x4, x5, x6]) 1 fun r18 =>
  if (decide (((r18.getD 0 D.nil)).toInt ≥ (0 : Int))) = true then
  bindC (FX 9 []) 1 fun r19 =>
    if ((r19.getD 0 D.nil)).toBool = true then
    some [(D.bool (!((r10.getD 7 D.nil)).isNil))]
    else
    some [(D.bool false)]
  else
  bindC (FX 22 [(r10.getD 0 D.nil), (r10.getD 1 D.nil), (r10.getD 2 D.nil), (r10.getD 3 D.nil), (r10.getD 4 D.nil), (r10.getD 5 D.nil), (r10.getD 6 D.nil), x7, x8]) 1 fun r19 =>
    bindC (FX 23 [x0, x1, x2, x3, x4, x5, x6, x7, x8]) 1 fun r20 =>
    bindC (FX 20 [(r10.getD 0 D.nil), (r10.getD 1 D.nil), (r10.getD 2 D.nil), (r10.getD 3 D.nil), (r10.getD 4 D.nil), (r10.getD 5 D.nil), (r10.getD 6 D.nil), x8]) 1 fun r21 =>
    bindC (FX 24 [x0, x1, x2, x3, x4, x5, x6, x8]) 1 fun r22 =>
    if (((r21.getD 0 D.nil)).toInt != ((r22.getD 0 D.nil)).toInt) = true then
    some [(D.bool false)]
    else
    if (((((r19.getD 0 D.nil)).toL).length : Int) != ((((r20.getD 0 D.nil)).toL).length : Int)) = true then
      some [(D.bool false)]
      else
      W_law05_RulesBands_1 x0 x1 x2 x3 x4 x5 x6 x7 x8 x9 (r10.getD 0 D.nil) (r10.getD 1 D.nil) (r10.getD 2 D.nil) (r10.getD 3 D.nil) (r10.getD 4 D.nil) (r10.getD 5 D.nil) (r10.getD 6 D.nil) (r10.getD 7 D.nil) (r18.getD 0 D.nil) (r19.getD 0 D.nil) (r20.getD 0 D.nil) (r21.getD 0 D.nil) (r22.getD 0 D.nil) [(D.int (0 : Int))] := (fixP_eq (t := T_law05_RulesBands) (by rfl) _).trans (by kernel_rfl)
theorem E_rules_Rules_Shards (x0 x1 x2 x3 x4 x5 x6 : D) : FX 15 [x0, x1, x2, x3, x4, x5, x6] =
  some [(D.int (IntKind.i64.wrap ((x2).toInt * (x3).toInt)))] := (fixP_eq (t := T_rules_Rules_Shards) (by rfl) _).trans (by kernel_rfl)
theorem E_rules_Rules_Shard (x0 x1 x2 x3 x4 x5 x6 x7 x8 : D) : FX 19 [x0, x1, x2, x3, x4, x5, x6, x7, x8] =
  if (decide ((x7).toInt < (0 : Int))) = true then
  some [(D.int (-1 : Int))]
  else
  if (decide ((x7).toInt ≥ (x2).toInt)) = true then
    some [(D.int (-1 : Int))]
    else
    if (decide ((x8).toInt < (0 : Int))) = true then
      some [(D.int (-1 : Int))]
      else
      if (decide ((x8).toInt ≥ (x3).toInt)) = true then
        some [(D.int (-1 : Int))]
        else
        some [(D.int (IntKind.i64.wrap ((IntKind.i64.wrap ((x7).toInt * (x3).toInt)) + (x8).toInt)))] := (fixP_eq (t := T_rules_Rules_Shard) (by rfl) _).trans (by kernel_rfl)
theorem E_rules_Rules_Parted (x0 x1 x2 x3 x4 x5 x6 x7 : D) : FX 21 [x0, x1, x2, x3, x4, x5, x6, x7] =
  if (decide ((x7).toInt < (0 : Int))) = true then
  some [(D.int (-1 : Int)), (D.int (-1 : Int))]
  else
  bindC (FX 15 [x0, x1, x2, x3, x4, x5, x6]) 1 fun r8 =>
    if (decide ((x7).toInt ≥ ((r8.getD 0 D.nil)).toInt)) = true then
    some [(D.int (-1 : Int)), (D.int (-1 : Int))]
    else
    if ((x3).toInt != (0 : Int)) = true then
      if ((x3).toInt != (0 : Int)) = true then
        some [(D.int (IntKind.i64.wrap (Int.tdiv (x7).toInt (x3).toInt))), (D.int (Int.tmod (x7).toInt (x3).toInt))]
        else none
      else none := (fixP_eq (t := T_rules_Rules_Parted) (by rfl) _).trans (by kernel_rfl)
theorem E_law05_RulesShards (x0 x1 x2 x3 x4 x5 x6 x7 x8 x9 : D) : FX 5 [x0, x1, x2, x3, x4, x5, x6, x7, x8, x9] =
  bindC (FX 7 [x0, x1, x2, x3, x4, x5, x6]) 8 fun r10 =>
  if (!((r10.getD 7 D.nil)).isNil) = true then
  bindC (FX 9 []) 1 fun r18 =>
    some [(r18.getD 0 D.nil)]
  else
  if (decide ((x8).toInt < (1 : Int))) = true then
    bindC (FX 9 []) 1 fun r18 =>
      some [(r18.getD 0 D.nil)]
    else
    if (decide ((x9).toInt < (x8).toInt)) = true then
      bindC (FX 9 []) 1 fun r18 =>
        some [(r18.getD 0 D.nil)]
      else
      if (decide ((x9).toInt > (9999 : Int))) = true then
        bindC (FX 9 []) 1 fun r18 =>
          some [(r18.getD 0 D.nil)]
        else
        if (decide ((x7).toInt < (0 : Int))) = true then
          bindC (FX 9 []) 1 fun r18 =>
            some [(r18.getD 0 D.nil)]
          else
          if (decide ((x7).toInt ≥ (x2).toInt)) = true then
            bindC (FX 9 []) 1 fun r18 =>
              some [(r18.getD 0 D.nil)]
            else
            bindC (FX 20 [(r10.getD 0 D.nil), (r10.getD 1 D.nil), (r10.getD 2 D.nil), (r10.getD 3 D.nil), (r10.getD 4 D.nil), (r10.getD 5 D.nil), (r10.getD 6 D.nil), x8]) 1 fun r18 =>
              bindC (FX 19 [(r10.getD 0 D.nil), (r10.getD 1 D.nil), (r10.getD 2 D.nil), (r10.getD 3 D.nil), (r10.getD 4 D.nil), (r10.getD 5 D.nil), (r10.getD 6 D.nil), x7, (r18.getD 0 D.nil)]) 1 fun r19 =>
              bindC (FX 20 [(r10.getD 0 D.nil), (r10.getD 1 D.nil), (r10.getD 2 D.nil), (r10.getD 3 D.nil), (r10.getD 4 D.nil), (r10.getD 5 D.nil), (r10.getD 6 D.nil), x9]) 1 fun r20 =>
              bindC (FX 19 [(r10.getD 0 D.nil), (r10.getD 1 D.nil), (r10.getD 2 D.nil), (r10.getD 3 D.nil), (r10.getD 4 D.nil), (r10.getD 5 D.nil), (r10.getD 6 D.nil), x7, (r20.getD 0 D.nil)]) 1 fun r21 =>
              bindC (FX 21 [(r10.getD 0 D.nil), (r10.getD 1 D.nil), (r10.getD 2 D.nil), (r10.getD 3 D.nil), (r10.getD 4 D.nil), (r10.getD 5 D.nil), (r10.getD 6 D.nil), (r19.getD 0 D.nil)]) 2 fun r22 =>
              bindC (FX 9 []) 1 fun r24 =>
              if ((r24.getD 0 D.nil)).toBool = true then
              if (decide (((r19.getD 0 D.nil)).toInt ≥ (0 : Int))) = true then
                if (decide (((r21.getD 0 D.nil)).toInt ≥ ((r19.getD 0 D.nil)).toInt)) = true then
                  bindC (FX 15 [(r10.getD 0 D.nil), (r10.getD 1 D.nil), (r10.getD 2 D.nil), (r10.getD 3 D.nil), (r10.getD 4 D.nil), (r10.getD 5 D.nil), (r10.getD 6 D.nil)]) 1 fun r25 =>
                    if (decide (((r21.getD 0 D.nil)).toInt < ((r25.getD 0 D.nil)).toInt)) = true then
                    if (((r22.getD 0 D.nil)).toInt == (x7).toInt) = true then
                      bindC (FX 20 [(r10.getD 0 D.nil), (r10.getD 1 D.nil), (r10.getD 2 D.nil), (r10.getD 3 D.nil), (r10.getD 4 D.nil), (r10.getD 5 D.nil), (r10.getD 6 D.nil), x8]) 1 fun r26 =>
                        if (((r22.getD 1 D.nil)).toInt == ((r26.getD 0 D.nil)).toInt) = true then
                        bindC (FX 20 [(r10.getD 0 D.nil), (r10.getD 1 D.nil), (r10.getD 2 D.nil), (r10.getD 3 D.nil), (r10.getD 4 D.nil), (r10.getD 5 D.nil), (r10.getD 6 D.nil), (D.int (1 : Int))]) 1 fun r27 =>
                          if (((r27.getD 0 D.nil)).toInt == (0 : Int)) = true then
                          bindC (FX 20 [(r10.getD 0 D.nil), (r10.getD 1 D.nil), (r10.getD 2 D.nil), (r10.getD 3 D.nil), (r10.getD 4 D.nil), (r10.getD 5 D.nil), (r10.getD 6 D.nil), (D.int (9999 : Int))]) 1 fun r28 =>
                            some [(D.bool (((r28.getD 0 D.nil)).toInt == (IntKind.i64.wrap ((x3).toInt - (1 : Int)))))]
                          else
                          some [(D.bool false)]
                        else
                        some [(D.bool false)]
                      else
                      some [(D.bool false)]
                    else
                    some [(D.bool false)]
                  else
                  some [(D.bool false)]
                else
                some [(D.bool false)]
              else
              some [(D.bool false)] := (fixP_eq (t := T_law05_RulesShards) (by rfl) _).trans (by kernel_rfl)
end Go.Proofs.Ytifghdombpcpjaa
