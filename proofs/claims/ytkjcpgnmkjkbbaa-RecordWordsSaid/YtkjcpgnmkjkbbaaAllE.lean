/-
  The functions, as equations.
-/
import Derived.Test.YtkjcpgnmkjkbbaaAll
namespace Go.Proofs.Ytkjcpgnmkjkbbaa
open Go.Proofs.Ytkjcpgnmkjkbbaa.Eng
set_option linter.unusedVariables false
set_option maxRecDepth 20000
theorem E_record_IsEnd (x0 x1 x2 x3 x4 x5 : D) : FX 14 [x0, x1, x2, x3, x4, x5] =
  if (decide ((x0).toInt ≥ (2 : Int))) = true then
  some [(D.bool (decide ((x0).toInt ≤ (5 : Int))))]
  else
  some [(D.bool false)] := (fixP_eq (t := T_record_IsEnd) (by rfl) _).trans (by kernel_rfl)
theorem E_record_Next (x0 x1 x2 x3 x4 x5 x6 x7 x8 x9 x10 x11 x12 x13 : D) : FX 8 [x0, x1, x2, x3, x4, x5, x6, x7, x8, x9, x10, x11, x12, x13] =
  if ((x2).toInt == (1 : Int)) = true then
  some [x2, x3, x4, x5, (D.int (0 : Int)), (D.int (0 : Int)), x0, (D.int (IntKind.i64.wrap ((x1).toInt + (1 : Int))))]
  else
  bindC (FX 14 [x8, x9, x10, x11, x12, x13]) 1 fun r14 =>
    if ((r14.getD 0 D.nil)).toBool = true then
    if ((x10).toInt == (x1).toInt) = true then
      some [x8, x9, x10, x11, x12, x13, (D.int (IntKind.i64.wrap ((x0).toInt + (1 : Int)))), (D.int (0 : Int))]
      else
      some [(D.int (0 : Int)), (D.int (0 : Int)), (D.int (0 : Int)), (D.int (0 : Int)), (D.int (0 : Int)), (D.int (0 : Int)), x0, x1]
    else
    some [(D.int (0 : Int)), (D.int (0 : Int)), (D.int (0 : Int)), (D.int (0 : Int)), (D.int (0 : Int)), (D.int (0 : Int)), x0, x1] := (fixP_eq (t := T_record_Next) (by rfl) _).trans (by kernel_rfl)
theorem E_record_End (x0 x1 x2 x3 x4 x5 : D) : FX 13 [x0, x1, x2, x3, x4, x5] =
  if ((x0).toInt == (5 : Int)) = true then
  some [(D.int (2 : Int)), x3, x4, x5, (D.int (0 : Int)), (D.int (0 : Int)), (D.bool true)]
  else
  if ((x0).toInt == (6 : Int)) = true then
    some [(D.int (3 : Int)), x3, x4, x5, (D.int (0 : Int)), (D.int (0 : Int)), (D.bool true)]
    else
    if ((x0).toInt == (7 : Int)) = true then
      some [(D.int (4 : Int)), x3, x4, x5, (D.int (0 : Int)), (D.int (0 : Int)), (D.bool true)]
      else
      if ((x0).toInt == (8 : Int)) = true then
        some [(D.int (5 : Int)), x3, x4, x5, (D.int (0 : Int)), (D.int (0 : Int)), (D.bool true)]
        else
        some [(D.int (0 : Int)), (D.int (0 : Int)), (D.int (0 : Int)), (D.int (0 : Int)), (D.int (0 : Int)), (D.int (0 : Int)), (D.bool false)] := (fixP_eq (t := T_record_End) (by rfl) _).trans (by kernel_rfl)
theorem E_law08_awake : FX 9 [] =
  bindC (FX 13 [(D.int (6 : Int)), (D.bool false), (D.int (0 : Int)), (D.int (3 : Int)), (D.int (1 : Int)), (D.int (9 : Int))]) 7 fun r0 =>
  if ((r0.getD 6 D.nil)).toBool = true then
  some [(D.bool ((((r0.getD 0 D.nil)).toInt == (3 : Int)) && ((((r0.getD 1 D.nil)).toInt == (3 : Int)) && ((((r0.getD 2 D.nil)).toInt == (1 : Int)) && ((((r0.getD 3 D.nil)).toInt == (9 : Int)) && ((((r0.getD 4 D.nil)).toInt == (0 : Int)) && (((r0.getD 5 D.nil)).toInt == (0 : Int))))))))]
  else
  some [(D.bool false)] := (fixP_eq (t := T_law08_awake) (by rfl) _).trans (by kernel_rfl)
theorem E_record_First : FX 11 [] =
  some [(D.int (1 : Int)), (D.int (0 : Int))] := (fixP_eq (t := T_record_First) (by rfl) _).trans (by kernel_rfl)
noncomputable def J_law08_RecordReads_3 (x0 x1 x2 x3 x4 x5 x6 x7 x8 x9 x10 x11 : D) (g0 g1 : Eng.Fn) : Eng.Fn := fun xs => evalP FX B_law08_RecordReads_3 [g0, g1] ([x0, x1, x2, x3, x4, x5, x6, x7, x8, x9, x10, x11] ++ xs)
theorem J_law08_RecordReads_3_eq (x0 x1 x2 x3 x4 x5 x6 x7 x8 x9 x10 x11 : D) (g0 g1 : Eng.Fn) (a0 a1 a2 a3 : D) : J_law08_RecordReads_3 x0 x1 x2 x3 x4 x5 x6 x7 x8 x9 x10 x11 g0 g1 [a0, a1, a2, a3] =
  g1 [(D.int (IntKind.i64.wrap ((x7).toInt + (1 : Int)))), a0, a1, a2, a3] := by kernel_rfl
noncomputable def W_law08_RecordReads_7 (x0 x1 x2 x3 x4 x5 x6 x7 x8 x9 x10 x11 x12 x13 x14 x15 x16 x17 x18 x19 : D) (g0 g1 g2 : Eng.Fn) : Eng.Fn := loopF fun g xs => evalP FX B_law08_RecordReads_7 ([g0, g1, g2] ++ [g]) ([x0, x1, x2, x3, x4, x5, x6, x7, x8, x9, x10, x11, x12, x13, x14, x15, x16, x17, x18, x19] ++ xs)
theorem W_law08_RecordReads_7_eq (x0 x1 x2 x3 x4 x5 x6 x7 x8 x9 x10 x11 x12 x13 x14 x15 x16 x17 x18 x19 : D) (g0 g1 g2 : Eng.Fn) (a0 : D) : W_law08_RecordReads_7 x0 x1 x2 x3 x4 x5 x6 x7 x8 x9 x10 x11 x12 x13 x14 x15 x16 x17 x18 x19 g0 g1 g2 [a0] =
  if (decide ((a0).toInt < (((x11).toL).length : Int))) = true then
  if (decide ((a0).toInt ≥ (0 : Int))) = true then
    if (decide ((a0).toInt < (((x11).toL).length : Int))) = true then
      if (decide ((a0).toInt ≥ (0 : Int))) = true then
        if (decide ((a0).toInt < (((((x4).toL).set ((((x0).toL).length : Int)).toNat (D.agg ((D.int (IntKind.i64.wrap ((2 : Int) + (IntKind.i64.wrap (Int.tmod (x2).toInt (4 : Int)))))) :: ((D.int (0 : Int)) :: ((D.int (((x0).toL).length : Int)) :: ((D.int (9 : Int)) :: ((D.int (0 : Int)) :: ((D.int (0 : Int)) :: []))))))))).length : Int))) = true then
          if (!(((((((((x11).toL).getD ((a0).toInt).toNat D.nil)).toL).getD 0 D.nil)).toInt == (((((((((x4).toL).set ((((x0).toL).length : Int)).toNat (D.agg ((D.int (IntKind.i64.wrap ((2 : Int) + (IntKind.i64.wrap (Int.tmod (x2).toInt (4 : Int)))))) :: ((D.int (0 : Int)) :: ((D.int (((x0).toL).length : Int)) :: ((D.int (9 : Int)) :: ((D.int (0 : Int)) :: ((D.int (0 : Int)) :: []))))))))).getD ((a0).toInt).toNat D.nil)).toL).getD 0 D.nil)).toInt) && (((((((((x11).toL).getD ((a0).toInt).toNat D.nil)).toL).getD 1 D.nil)).toInt == (((((((((x4).toL).set ((((x0).toL).length : Int)).toNat (D.agg ((D.int (IntKind.i64.wrap ((2 : Int) + (IntKind.i64.wrap (Int.tmod (x2).toInt (4 : Int)))))) :: ((D.int (0 : Int)) :: ((D.int (((x0).toL).length : Int)) :: ((D.int (9 : Int)) :: ((D.int (0 : Int)) :: ((D.int (0 : Int)) :: []))))))))).getD ((a0).toInt).toNat D.nil)).toL).getD 1 D.nil)).toInt) && (((((((((x11).toL).getD ((a0).toInt).toNat D.nil)).toL).getD 2 D.nil)).toInt == (((((((((x4).toL).set ((((x0).toL).length : Int)).toNat (D.agg ((D.int (IntKind.i64.wrap ((2 : Int) + (IntKind.i64.wrap (Int.tmod (x2).toInt (4 : Int)))))) :: ((D.int (0 : Int)) :: ((D.int (((x0).toL).length : Int)) :: ((D.int (9 : Int)) :: ((D.int (0 : Int)) :: ((D.int (0 : Int)) :: []))))))))).getD ((a0).toInt).toNat D.nil)).toL).getD 2 D.nil)).toInt) && (((((((((x11).toL).getD ((a0).toInt).toNat D.nil)).toL).getD 3 D.nil)).toInt == (((((((((x4).toL).set ((((x0).toL).length : Int)).toNat (D.agg ((D.int (IntKind.i64.wrap ((2 : Int) + (IntKind.i64.wrap (Int.tmod (x2).toInt (4 : Int)))))) :: ((D.int (0 : Int)) :: ((D.int (((x0).toL).length : Int)) :: ((D.int (9 : Int)) :: ((D.int (0 : Int)) :: ((D.int (0 : Int)) :: []))))))))).getD ((a0).toInt).toNat D.nil)).toL).getD 3 D.nil)).toInt) && (((((((((x11).toL).getD ((a0).toInt).toNat D.nil)).toL).getD 4 D.nil)).toInt == (0 : Int)) && ((((((((x11).toL).getD ((a0).toInt).toNat D.nil)).toL).getD 5 D.nil)).toInt == (0 : Int)))))))) = true then
            some [(D.bool false)]
            else
            (W_law08_RecordReads_7 x0 x1 x2 x3 x4 x5 x6 x7 x8 x9 x10 x11 x12 x13 x14 x15 x16 x17 x18 x19 g0 g1 g2) [(D.int (IntKind.i64.wrap ((a0).toInt + (1 : Int))))]
          else none
        else none
      else none
    else none
  else
  bindC (FX 9 []) 1 fun r21 =>
    some [(r21.getD 0 D.nil)] := (loopP_eq FX B_law08_RecordReads_7 [g0, g1, g2] [x0, x1, x2, x3, x4, x5, x6, x7, x8, x9, x10, x11, x12, x13, x14, x15, x16, x17, x18, x19] _).trans (by kernel_rfl)
noncomputable def J_law08_RecordReads_6 (x0 x1 x2 x3 x4 x5 x6 x7 x8 x9 x10 x11 x12 x13 : D) (g0 g1 g2 : Eng.Fn) : Eng.Fn := fun xs => evalP FX B_law08_RecordReads_6 [g0, g1, g2] ([x0, x1, x2, x3, x4, x5, x6, x7, x8, x9, x10, x11, x12, x13] ++ xs)
theorem J_law08_RecordReads_6_eq (x0 x1 x2 x3 x4 x5 x6 x7 x8 x9 x10 x11 x12 x13 : D) (g0 g1 g2 : Eng.Fn) (a0 a1 a2 a3 a4 a5 : D) : J_law08_RecordReads_6 x0 x1 x2 x3 x4 x5 x6 x7 x8 x9 x10 x11 x12 x13 g0 g1 g2 [a0, a1, a2, a3, a4, a5] =
  if (decide ((x9).toInt > (1 : Int))) = true then
  if ((((x11).toL).length : Int) != (((((x4).toL).set ((((x0).toL).length : Int)).toNat (D.agg ((D.int (IntKind.i64.wrap ((2 : Int) + (IntKind.i64.wrap (Int.tmod (x2).toInt (4 : Int)))))) :: ((D.int (0 : Int)) :: ((D.int (((x0).toL).length : Int)) :: ((D.int (9 : Int)) :: ((D.int (0 : Int)) :: ((D.int (0 : Int)) :: []))))))))).length : Int)) = true then
    some [(D.bool false)]
    else
    if (!(((x9).toInt == (2 : Int)) && ((x10).toInt == (0 : Int)))) = true then
      some [(D.bool false)]
      else
      W_law08_RecordReads_7 x0 x1 x2 x3 x4 x5 x6 x7 x8 x9 x10 x11 x12 x13 a0 a1 a2 a3 a4 a5 g0 g1 g2 [(D.int (0 : Int))]
  else
  if (decide ((((x0).toL).length : Int) ≥ (0 : Int))) = true then
    if (decide ((((x0).toL).length : Int) < (((x13).toL).length : Int))) = true then
      bindC (FX 8 [x9, x10, a0, a1, a2, a3, a4, a5, ((((((x13).toL).getD ((((x0).toL).length : Int)).toNat D.nil)).toL).getD 0 D.nil), ((((((x13).toL).getD ((((x0).toL).length : Int)).toNat D.nil)).toL).getD 1 D.nil), ((((((x13).toL).getD ((((x0).toL).length : Int)).toNat D.nil)).toL).getD 2 D.nil), ((((((x13).toL).getD ((((x0).toL).length : Int)).toNat D.nil)).toL).getD 3 D.nil), ((((((x13).toL).getD ((((x0).toL).length : Int)).toNat D.nil)).toL).getD 4 D.nil), ((((((x13).toL).getD ((((x0).toL).length : Int)).toNat D.nil)).toL).getD 5 D.nil)]) 8 fun r20 =>
        if (((r20.getD 0 D.nil)).toInt != (0 : Int)) = true then
        if (decide (((((x11).toL ++ ((D.agg ((r20.getD 0 D.nil) :: ((r20.getD 1 D.nil) :: ((r20.getD 2 D.nil) :: ((r20.getD 3 D.nil) :: ((r20.getD 4 D.nil) :: ((r20.getD 5 D.nil) :: []))))))) :: []))).length : Int) ≤ (2932031007402 : Int))) = true then
          g2 [x13, (r20.getD 6 D.nil), (r20.getD 7 D.nil), (D.agg ((x11).toL ++ ((D.agg ((r20.getD 0 D.nil) :: ((r20.getD 1 D.nil) :: ((r20.getD 2 D.nil) :: ((r20.getD 3 D.nil) :: ((r20.getD 4 D.nil) :: ((r20.getD 5 D.nil) :: []))))))) :: [])))]
          else none
        else
        g2 [x13, (r20.getD 6 D.nil), (r20.getD 7 D.nil), x11]
      else none
    else none := by kernel_rfl
noncomputable def J_law08_RecordReads_5 (x0 x1 x2 x3 x4 x5 x6 x7 x8 x9 x10 x11 x12 : D) (g0 g1 g2 : Eng.Fn) : Eng.Fn := fun xs => evalP FX B_law08_RecordReads_5 [g0, g1, g2] ([x0, x1, x2, x3, x4, x5, x6, x7, x8, x9, x10, x11, x12] ++ xs)
theorem J_law08_RecordReads_5_eq (x0 x1 x2 x3 x4 x5 x6 x7 x8 x9 x10 x11 x12 : D) (g0 g1 g2 : Eng.Fn) (a0 : D) : J_law08_RecordReads_5 x0 x1 x2 x3 x4 x5 x6 x7 x8 x9 x10 x11 x12 g0 g1 g2 [a0] =
  if (decide ((x10).toInt < (((x0).toL).length : Int))) = true then
  if (decide ((x10).toInt ≥ (0 : Int))) = true then
    if (decide ((x10).toInt < (((a0).toL).length : Int))) = true then
      (J_law08_RecordReads_6 x0 x1 x2 x3 x4 x5 x6 x7 x8 x9 x10 x11 x12 a0 g0 g1 g2) [((((((a0).toL).getD ((x10).toInt).toNat D.nil)).toL).getD 0 D.nil), ((((((a0).toL).getD ((x10).toInt).toNat D.nil)).toL).getD 1 D.nil), ((((((a0).toL).getD ((x10).toInt).toNat D.nil)).toL).getD 2 D.nil), ((((((a0).toL).getD ((x10).toInt).toNat D.nil)).toL).getD 3 D.nil), ((((((a0).toL).getD ((x10).toInt).toNat D.nil)).toL).getD 4 D.nil), ((((((a0).toL).getD ((x10).toInt).toNat D.nil)).toL).getD 5 D.nil)]
      else none
    else none
  else
  (J_law08_RecordReads_6 x0 x1 x2 x3 x4 x5 x6 x7 x8 x9 x10 x11 x12 a0 g0 g1 g2) [(D.int (0 : Int)), (D.int (0 : Int)), (D.int (0 : Int)), (D.int (0 : Int)), (D.int (0 : Int)), (D.int (0 : Int))] := by kernel_rfl
noncomputable def J_law08_RecordReads_4 (x0 x1 x2 x3 x4 x5 x6 x7 x8 x9 x10 x11 : D) (g0 g1 g2 : Eng.Fn) : Eng.Fn := fun xs => evalP FX B_law08_RecordReads_4 [g0, g1, g2] ([x0, x1, x2, x3, x4, x5, x6, x7, x8, x9, x10, x11] ++ xs)
theorem J_law08_RecordReads_4_eq (x0 x1 x2 x3 x4 x5 x6 x7 x8 x9 x10 x11 : D) (g0 g1 g2 : Eng.Fn) (a0 : D) : J_law08_RecordReads_4 x0 x1 x2 x3 x4 x5 x6 x7 x8 x9 x10 x11 g0 g1 g2 [a0] =
  if (decide ((a0).toInt < (((((x4).toL).set ((((x0).toL).length : Int)).toNat (D.agg ((D.int (IntKind.i64.wrap ((2 : Int) + (IntKind.i64.wrap (Int.tmod (x2).toInt (4 : Int)))))) :: ((D.int (0 : Int)) :: ((D.int (((x0).toL).length : Int)) :: ((D.int (9 : Int)) :: ((D.int (0 : Int)) :: ((D.int (0 : Int)) :: []))))))))).length : Int))) = true then
  if (decide ((a0).toInt ≥ (0 : Int))) = true then
    if (decide ((a0).toInt < (((((x4).toL).set ((((x0).toL).length : Int)).toNat (D.agg ((D.int (IntKind.i64.wrap ((2 : Int) + (IntKind.i64.wrap (Int.tmod (x2).toInt (4 : Int)))))) :: ((D.int (0 : Int)) :: ((D.int (((x0).toL).length : Int)) :: ((D.int (9 : Int)) :: ((D.int (0 : Int)) :: ((D.int (0 : Int)) :: []))))))))).length : Int))) = true then
      if (decide ((a0).toInt ≥ (0 : Int))) = true then
        if (decide ((a0).toInt < (((x8).toL).length : Int))) = true then
          (J_law08_RecordReads_5 x0 x1 x2 x3 x4 x5 x6 x7 x8 x9 x10 x11 a0 g0 g1 g2) [(D.agg (((x8).toL).set ((a0).toInt).toNat (D.agg (((((((((x4).toL).set ((((x0).toL).length : Int)).toNat (D.agg ((D.int (IntKind.i64.wrap ((2 : Int) + (IntKind.i64.wrap (Int.tmod (x2).toInt (4 : Int)))))) :: ((D.int (0 : Int)) :: ((D.int (((x0).toL).length : Int)) :: ((D.int (9 : Int)) :: ((D.int (0 : Int)) :: ((D.int (0 : Int)) :: []))))))))).getD ((a0).toInt).toNat D.nil)).toL).getD 0 D.nil) :: (((((((((x4).toL).set ((((x0).toL).length : Int)).toNat (D.agg ((D.int (IntKind.i64.wrap ((2 : Int) + (IntKind.i64.wrap (Int.tmod (x2).toInt (4 : Int)))))) :: ((D.int (0 : Int)) :: ((D.int (((x0).toL).length : Int)) :: ((D.int (9 : Int)) :: ((D.int (0 : Int)) :: ((D.int (0 : Int)) :: []))))))))).getD ((a0).toInt).toNat D.nil)).toL).getD 1 D.nil) :: (((((((((x4).toL).set ((((x0).toL).length : Int)).toNat (D.agg ((D.int (IntKind.i64.wrap ((2 : Int) + (IntKind.i64.wrap (Int.tmod (x2).toInt (4 : Int)))))) :: ((D.int (0 : Int)) :: ((D.int (((x0).toL).length : Int)) :: ((D.int (9 : Int)) :: ((D.int (0 : Int)) :: ((D.int (0 : Int)) :: []))))))))).getD ((a0).toInt).toNat D.nil)).toL).getD 2 D.nil) :: (((((((((x4).toL).set ((((x0).toL).length : Int)).toNat (D.agg ((D.int (IntKind.i64.wrap ((2 : Int) + (IntKind.i64.wrap (Int.tmod (x2).toInt (4 : Int)))))) :: ((D.int (0 : Int)) :: ((D.int (((x0).toL).length : Int)) :: ((D.int (9 : Int)) :: ((D.int (0 : Int)) :: ((D.int (0 : Int)) :: []))))))))).getD ((a0).toInt).toNat D.nil)).toL).getD 3 D.nil) :: (((((((((x4).toL).set ((((x0).toL).length : Int)).toNat (D.agg ((D.int (IntKind.i64.wrap ((2 : Int) + (IntKind.i64.wrap (Int.tmod (x2).toInt (4 : Int)))))) :: ((D.int (0 : Int)) :: ((D.int (((x0).toL).length : Int)) :: ((D.int (9 : Int)) :: ((D.int (0 : Int)) :: ((D.int (0 : Int)) :: []))))))))).getD ((a0).toInt).toNat D.nil)).toL).getD 4 D.nil) :: (((((((((x4).toL).set ((((x0).toL).length : Int)).toNat (D.agg ((D.int (IntKind.i64.wrap ((2 : Int) + (IntKind.i64.wrap (Int.tmod (x2).toInt (4 : Int)))))) :: ((D.int (0 : Int)) :: ((D.int (((x0).toL).length : Int)) :: ((D.int (9 : Int)) :: ((D.int (0 : Int)) :: ((D.int (0 : Int)) :: []))))))))).getD ((a0).toInt).toNat D.nil)).toL).getD 5 D.nil) :: [])))))))))]
          else none
        else none
      else none
    else none
  else
  (J_law08_RecordReads_5 x0 x1 x2 x3 x4 x5 x6 x7 x8 x9 x10 x11 a0 g0 g1 g2) [x8] := by kernel_rfl
noncomputable def W_law08_RecordReads_8 (x0 x1 x2 x3 x4 x5 x6 x7 x8 x9 x10 x11 : D) (g0 g1 : Eng.Fn) : Eng.Fn := loopF fun g xs => evalP FX B_law08_RecordReads_8 ([g0, g1] ++ [g]) ([x0, x1, x2, x3, x4, x5, x6, x7, x8, x9, x10, x11] ++ xs)
theorem W_law08_RecordReads_8_eq (x0 x1 x2 x3 x4 x5 x6 x7 x8 x9 x10 x11 : D) (g0 g1 : Eng.Fn) (a0 : D) : W_law08_RecordReads_8 x0 x1 x2 x3 x4 x5 x6 x7 x8 x9 x10 x11 g0 g1 [a0] =
  if (decide ((a0).toInt < (((x11).toL).length : Int))) = true then
  if (decide ((a0).toInt ≥ (0 : Int))) = true then
    if (decide ((a0).toInt < (((x11).toL).length : Int))) = true then
      if (decide ((a0).toInt ≥ (0 : Int))) = true then
        if (decide ((a0).toInt < (((((x4).toL).set ((((x0).toL).length : Int)).toNat (D.agg ((D.int (IntKind.i64.wrap ((2 : Int) + (IntKind.i64.wrap (Int.tmod (x2).toInt (4 : Int)))))) :: ((D.int (0 : Int)) :: ((D.int (((x0).toL).length : Int)) :: ((D.int (9 : Int)) :: ((D.int (0 : Int)) :: ((D.int (0 : Int)) :: []))))))))).length : Int))) = true then
          if (!(((((((((x11).toL).getD ((a0).toInt).toNat D.nil)).toL).getD 0 D.nil)).toInt == (((((((((x4).toL).set ((((x0).toL).length : Int)).toNat (D.agg ((D.int (IntKind.i64.wrap ((2 : Int) + (IntKind.i64.wrap (Int.tmod (x2).toInt (4 : Int)))))) :: ((D.int (0 : Int)) :: ((D.int (((x0).toL).length : Int)) :: ((D.int (9 : Int)) :: ((D.int (0 : Int)) :: ((D.int (0 : Int)) :: []))))))))).getD ((a0).toInt).toNat D.nil)).toL).getD 0 D.nil)).toInt) && (((((((((x11).toL).getD ((a0).toInt).toNat D.nil)).toL).getD 1 D.nil)).toInt == (((((((((x4).toL).set ((((x0).toL).length : Int)).toNat (D.agg ((D.int (IntKind.i64.wrap ((2 : Int) + (IntKind.i64.wrap (Int.tmod (x2).toInt (4 : Int)))))) :: ((D.int (0 : Int)) :: ((D.int (((x0).toL).length : Int)) :: ((D.int (9 : Int)) :: ((D.int (0 : Int)) :: ((D.int (0 : Int)) :: []))))))))).getD ((a0).toInt).toNat D.nil)).toL).getD 1 D.nil)).toInt) && (((((((((x11).toL).getD ((a0).toInt).toNat D.nil)).toL).getD 2 D.nil)).toInt == (((((((((x4).toL).set ((((x0).toL).length : Int)).toNat (D.agg ((D.int (IntKind.i64.wrap ((2 : Int) + (IntKind.i64.wrap (Int.tmod (x2).toInt (4 : Int)))))) :: ((D.int (0 : Int)) :: ((D.int (((x0).toL).length : Int)) :: ((D.int (9 : Int)) :: ((D.int (0 : Int)) :: ((D.int (0 : Int)) :: []))))))))).getD ((a0).toInt).toNat D.nil)).toL).getD 2 D.nil)).toInt) && (((((((((x11).toL).getD ((a0).toInt).toNat D.nil)).toL).getD 3 D.nil)).toInt == (((((((((x4).toL).set ((((x0).toL).length : Int)).toNat (D.agg ((D.int (IntKind.i64.wrap ((2 : Int) + (IntKind.i64.wrap (Int.tmod (x2).toInt (4 : Int)))))) :: ((D.int (0 : Int)) :: ((D.int (((x0).toL).length : Int)) :: ((D.int (9 : Int)) :: ((D.int (0 : Int)) :: ((D.int (0 : Int)) :: []))))))))).getD ((a0).toInt).toNat D.nil)).toL).getD 3 D.nil)).toInt) && (((((((((x11).toL).getD ((a0).toInt).toNat D.nil)).toL).getD 4 D.nil)).toInt == (0 : Int)) && ((((((((x11).toL).getD ((a0).toInt).toNat D.nil)).toL).getD 5 D.nil)).toInt == (0 : Int)))))))) = true then
            some [(D.bool false)]
            else
            (W_law08_RecordReads_8 x0 x1 x2 x3 x4 x5 x6 x7 x8 x9 x10 x11 g0 g1) [(D.int (IntKind.i64.wrap ((a0).toInt + (1 : Int))))]
          else none
        else none
      else none
    else none
  else
  bindC (FX 9 []) 1 fun r13 =>
    some [(r13.getD 0 D.nil)] := (loopP_eq FX B_law08_RecordReads_8 [g0, g1] [x0, x1, x2, x3, x4, x5, x6, x7, x8, x9, x10, x11] _).trans (by kernel_rfl)
noncomputable def W_law08_RecordReads_2 (x0 x1 x2 x3 x4 x5 x6 : D) (g0 : Eng.Fn) : Eng.Fn := loopF fun g xs => evalP FX B_law08_RecordReads_2 ([g0] ++ [g]) ([x0, x1, x2, x3, x4, x5, x6] ++ xs)
theorem W_law08_RecordReads_2_eq (x0 x1 x2 x3 x4 x5 x6 : D) (g0 : Eng.Fn) (a0 a1 a2 a3 a4 : D) : W_law08_RecordReads_2 x0 x1 x2 x3 x4 x5 x6 g0 [a0, a1, a2, a3, a4] =
  if (decide ((a0).toInt < (IntKind.i64.wrap ((((x1).toL).length : Int) + (IntKind.i64.wrap ((2 : Int) * (((((x4).toL).set ((((x0).toL).length : Int)).toNat (D.agg ((D.int (IntKind.i64.wrap ((2 : Int) + (IntKind.i64.wrap (Int.tmod (x2).toInt (4 : Int)))))) :: ((D.int (0 : Int)) :: ((D.int (((x0).toL).length : Int)) :: ((D.int (9 : Int)) :: ((D.int (0 : Int)) :: ((D.int (0 : Int)) :: []))))))))).length : Int))))))) = true then
  if ((((((x4).toL).set ((((x0).toL).length : Int)).toNat (D.agg ((D.int (IntKind.i64.wrap ((2 : Int) + (IntKind.i64.wrap (Int.tmod (x2).toInt (4 : Int)))))) :: ((D.int (0 : Int)) :: ((D.int (((x0).toL).length : Int)) :: ((D.int (9 : Int)) :: ((D.int (0 : Int)) :: ((D.int (0 : Int)) :: []))))))))).length : Int) != (0 : Int)) = true then
    if (decide ((a0).toInt < (((x1).toL).length : Int))) = true then
      if (decide ((a0).toInt ≥ (0 : Int))) = true then
        if (decide ((a0).toInt < (((x1).toL).length : Int))) = true then
          if ((IntKind.i64.wrap ((2 : Int) * (((((x4).toL).set ((((x0).toL).length : Int)).toNat (D.agg ((D.int (IntKind.i64.wrap ((2 : Int) + (IntKind.i64.wrap (Int.tmod (x2).toInt (4 : Int)))))) :: ((D.int (0 : Int)) :: ((D.int (((x0).toL).length : Int)) :: ((D.int (9 : Int)) :: ((D.int (0 : Int)) :: ((D.int (0 : Int)) :: []))))))))).length : Int))) != (0 : Int)) = true then
            (J_law08_RecordReads_4 x0 x1 x2 x3 x4 x5 x6 a0 a1 a2 a3 a4 g0 (W_law08_RecordReads_2 x0 x1 x2 x3 x4 x5 x6 g0) (J_law08_RecordReads_3 x0 x1 x2 x3 x4 x5 x6 a0 a1 a2 a3 a4 g0 (W_law08_RecordReads_2 x0 x1 x2 x3 x4 x5 x6 g0))) [(D.int (Int.tmod (IntKind.i64.wrap ((((x1).toL).getD ((a0).toInt).toNat D.nil)).toInt) (IntKind.i64.wrap ((2 : Int) * (((((x4).toL).set ((((x0).toL).length : Int)).toNat (D.agg ((D.int (IntKind.i64.wrap ((2 : Int) + (IntKind.i64.wrap (Int.tmod (x2).toInt (4 : Int)))))) :: ((D.int (0 : Int)) :: ((D.int (((x0).toL).length : Int)) :: ((D.int (9 : Int)) :: ((D.int (0 : Int)) :: ((D.int (0 : Int)) :: []))))))))).length : Int)))))]
            else none
          else none
        else none
      else
      (J_law08_RecordReads_4 x0 x1 x2 x3 x4 x5 x6 a0 a1 a2 a3 a4 g0 (W_law08_RecordReads_2 x0 x1 x2 x3 x4 x5 x6 g0) (J_law08_RecordReads_3 x0 x1 x2 x3 x4 x5 x6 a0 a1 a2 a3 a4 g0 (W_law08_RecordReads_2 x0 x1 x2 x3 x4 x5 x6 g0))) [(D.int (Int.tmod (a0).toInt (((((x4).toL).set ((((x0).toL).length : Int)).toNat (D.agg ((D.int (IntKind.i64.wrap ((2 : Int) + (IntKind.i64.wrap (Int.tmod (x2).toInt (4 : Int)))))) :: ((D.int (0 : Int)) :: ((D.int (((x0).toL).length : Int)) :: ((D.int (9 : Int)) :: ((D.int (0 : Int)) :: ((D.int (0 : Int)) :: []))))))))).length : Int)))]
    else none
  else
  if ((((a4).toL).length : Int) != (((((x4).toL).set ((((x0).toL).length : Int)).toNat (D.agg ((D.int (IntKind.i64.wrap ((2 : Int) + (IntKind.i64.wrap (Int.tmod (x2).toInt (4 : Int)))))) :: ((D.int (0 : Int)) :: ((D.int (((x0).toL).length : Int)) :: ((D.int (9 : Int)) :: ((D.int (0 : Int)) :: ((D.int (0 : Int)) :: []))))))))).length : Int)) = true then
    some [(D.bool false)]
    else
    if (!(((a2).toInt == (2 : Int)) && ((a3).toInt == (0 : Int)))) = true then
      some [(D.bool false)]
      else
      W_law08_RecordReads_8 x0 x1 x2 x3 x4 x5 x6 a0 a1 a2 a3 a4 g0 ((W_law08_RecordReads_2 x0 x1 x2 x3 x4 x5 x6 g0)) [(D.int (0 : Int))] := (loopP_eq FX B_law08_RecordReads_2 [g0] [x0, x1, x2, x3, x4, x5, x6] _).trans (by kernel_rfl)
noncomputable def W_law08_RecordReads_1 (x0 x1 x2 : D) : Eng.Fn := loopF fun g xs => evalP FX B_law08_RecordReads_1 ([] ++ [g]) ([x0, x1, x2] ++ xs)
theorem W_law08_RecordReads_1_eq (x0 x1 x2 : D) (a0 a1 : D) : W_law08_RecordReads_1 x0 x1 x2 [a0, a1] =
  if (decide ((a0).toInt < (((x0).toL).length : Int))) = true then
  if (decide ((a0).toInt ≥ (0 : Int))) = true then
    if (decide ((a0).toInt < (((x0).toL).length : Int))) = true then
      if (decide ((a0).toInt ≥ (0 : Int))) = true then
        if (decide ((a0).toInt < (((a1).toL).length : Int))) = true then
          (W_law08_RecordReads_1 x0 x1 x2) [(D.int (IntKind.i64.wrap ((a0).toInt + (1 : Int)))), (D.agg (((a1).toL).set ((a0).toInt).toNat (D.agg ((D.int (1 : Int)) :: ((D.int (IntKind.i64.wrap ((((x0).toL).getD ((a0).toInt).toNat D.nil)).toInt)) :: ((D.int (IntKind.i64.wrap ((7 : Int) + (a0).toInt))) :: (a0 :: ((D.int (3 : Int)) :: ((D.int (2 : Int)) :: [])))))))))]
          else none
        else none
      else none
    else none
  else
  if (decide ((((x0).toL).length : Int) ≥ (0 : Int))) = true then
    if (decide ((((x0).toL).length : Int) < (((a1).toL).length : Int))) = true then
      bindC (FX 11 []) 2 fun r5 =>
        W_law08_RecordReads_2 x0 x1 x2 a0 a1 (r5.getD 0 D.nil) (r5.getD 1 D.nil) ((W_law08_RecordReads_1 x0 x1 x2)) [(D.int (0 : Int)), (D.agg (List.replicate ((IntKind.i64.wrap ((((x0).toL).length : Int) + (1 : Int)))).toNat (D.agg ((D.int (0 : Int)) :: ((D.int (0 : Int)) :: ((D.int (0 : Int)) :: ((D.int (0 : Int)) :: ((D.int (0 : Int)) :: ((D.int (0 : Int)) :: []))))))))), (r5.getD 0 D.nil), (r5.getD 1 D.nil), (D.agg [])]
      else none
    else none := (loopP_eq FX B_law08_RecordReads_1 [] [x0, x1, x2] _).trans (by kernel_rfl)
theorem E_law08_RecordReads (x0 x1 x2 : D) : FX 5 [x0, x1, x2] =
  if (decide ((((x0).toL).length : Int) > (4 : Int))) = true then
  bindC (FX 9 []) 1 fun r3 =>
    some [(r3.getD 0 D.nil)]
  else
  if (decide ((((x1).toL).length : Int) > (60 : Int))) = true then
    bindC (FX 9 []) 1 fun r3 =>
      some [(r3.getD 0 D.nil)]
    else
    if (decide ((IntKind.i64.wrap ((((x0).toL).length : Int) + (1 : Int))) ≥ (0 : Int))) = true then
      if (decide ((IntKind.i64.wrap ((((x0).toL).length : Int) + (1 : Int))) ≤ (2932031007402 : Int))) = true then
        if (decide ((IntKind.i64.wrap ((((x0).toL).length : Int) + (1 : Int))) ≥ (0 : Int))) = true then
          if (decide ((IntKind.i64.wrap ((((x0).toL).length : Int) + (1 : Int))) ≤ (2932031007402 : Int))) = true then
            W_law08_RecordReads_1 x0 x1 x2 [(D.int (0 : Int)), (D.agg (List.replicate ((IntKind.i64.wrap ((((x0).toL).length : Int) + (1 : Int)))).toNat (D.agg ((D.int (0 : Int)) :: ((D.int (0 : Int)) :: ((D.int (0 : Int)) :: ((D.int (0 : Int)) :: ((D.int (0 : Int)) :: ((D.int (0 : Int)) :: [])))))))))]
            else none
          else none
        else none
      else none := (fixP_eq (t := T_law08_RecordReads) (by rfl) _).trans (by kernel_rfl)
theorem E_fault_At (x0 x1 : D) : FX 22 [x0, x1] =
  if (x1).isNil = true then
  some [D.nil]
  else
  some [(D.iface 71 (D.agg (x0 :: (x1 :: []))))] := (fixP_eq (t := T_fault_At) (by rfl) _).trans (by kernel_rfl)
noncomputable def W_field_New_1 (x0 : D) : Eng.Fn := loopF fun g xs => evalP FX B_field_New_1 ([] ++ [g]) ([x0] ++ xs)
theorem W_field_New_1_eq (x0 : D) (a0 a1 : D) : W_field_New_1 x0 [a0, a1] =
  if (decide ((a1).toInt < (((x0).toL).length : Int))) = true then
  if (decide ((a1).toInt ≥ (0 : Int))) = true then
    if (decide ((a1).toInt < (((x0).toL).length : Int))) = true then
      if (decide (((((x0).toL).getD ((a1).toInt).toNat D.nil)).toInt < (1 : Int))) = true then
        bindC (FX 22 [a1, (D.iface 57 (D.int (5 : Int)))]) 1 fun r3 =>
          some [(D.agg []), (r3.getD 0 D.nil)]
        else
        if (decide (((((x0).toL).getD ((a1).toInt).toNat D.nil)).toInt > (32 : Int))) = true then
          bindC (FX 22 [a1, (D.iface 57 (D.int (5 : Int)))]) 1 fun r3 =>
            some [(D.agg []), (r3.getD 0 D.nil)]
          else
          if (decide ((IntKind.i64.wrap ((a0).toInt + ((((x0).toL).getD ((a1).toInt).toNat D.nil)).toInt)) > (64 : Int))) = true then
            bindC (FX 22 [a1, (D.iface 57 (D.int (4 : Int)))]) 1 fun r3 =>
              some [(D.agg []), (r3.getD 0 D.nil)]
            else
            (W_field_New_1 x0) [(D.int (IntKind.i64.wrap ((a0).toInt + ((((x0).toL).getD ((a1).toInt).toNat D.nil)).toInt))), (D.int (IntKind.i64.wrap ((a1).toInt + (1 : Int))))]
      else none
    else none
  else
  if (decide ((((x0).toL).length : Int) ≤ (17592186044416 : Int))) = true then
    some [x0, D.nil]
    else none := (loopP_eq FX B_field_New_1 [] [x0] _).trans (by kernel_rfl)
theorem E_field_New (x0 : D) : FX 31 [x0] =
  W_field_New_1 x0 [(D.int (0 : Int)), (D.int (0 : Int))] := (fixP_eq (t := T_field_New) (by rfl) _).trans (by kernel_rfl)
theorem E_record_layout : FX 23 [] =
  bindC (FX 31 [(D.agg ((D.int (3 : Int)) :: ((D.int (16 : Int)) :: ((D.int (16 : Int)) :: ((D.int (20 : Int)) :: ((D.int (5 : Int)) :: ((D.int (4 : Int)) :: [])))))))]) 2 fun r0 =>
  some [(r0.getD 0 D.nil)] := (fixP_eq (t := T_record_layout) (by rfl) _).trans (by kernel_rfl)
theorem E_field_Layout_Most (x0 x1 : D) : FX 32 [x0, x1] =
  if (decide ((x1).toInt < (0 : Int))) = true then
  some [(D.int (0 : Int))]
  else
  if (decide ((x1).toInt ≥ (((x0).toL).length : Int))) = true then
    some [(D.int (0 : Int))]
    else
    if (decide ((x1).toInt ≥ (0 : Int))) = true then
      if (decide ((x1).toInt < (((x0).toL).length : Int))) = true then
        if (decide (((((x0).toL).getD ((x1).toInt).toNat D.nil)).toInt ≥ (0 : Int))) = true then
          some [(D.int (IntKind.u64.wrap ((arF .shl .u64 (1 : Int) ((((x0).toL).getD ((x1).toInt).toNat D.nil)).toInt) - (1 : Int))))]
          else none
        else none
      else none := (fixP_eq (t := T_field_Layout_Most) (by rfl) _).trans (by kernel_rfl)
noncomputable def W_field_Layout_low_1 (x0 x1 : D) : Eng.Fn := loopF fun g xs => evalP FX B_field_Layout_low_1 ([] ++ [g]) ([x0, x1] ++ xs)
theorem W_field_Layout_low_1_eq (x0 x1 : D) (a0 a1 : D) : W_field_Layout_low_1 x0 x1 [a0, a1] =
  if (decide ((a1).toInt < ((((((x0).toL).drop ((0 : Int)).toNat).take (((x1).toInt).toNat - ((0 : Int)).toNat))).length : Int))) = true then
  if (decide ((a1).toInt ≥ (0 : Int))) = true then
    if (decide ((a1).toInt < ((((((x0).toL).drop ((0 : Int)).toNat).take (((x1).toInt).toNat - ((0 : Int)).toNat))).length : Int))) = true then
      (W_field_Layout_low_1 x0 x1) [(D.int (IntKind.i64.wrap ((a0).toInt + (((((((x0).toL).drop ((0 : Int)).toNat).take (((x1).toInt).toNat - ((0 : Int)).toNat))).getD ((a1).toInt).toNat D.nil)).toInt))), (D.int (IntKind.i64.wrap ((a1).toInt + (1 : Int))))]
      else none
    else none
  else
  some [a0] := (loopP_eq FX B_field_Layout_low_1 [] [x0, x1] _).trans (by kernel_rfl)
theorem E_field_Layout_low (x0 x1 : D) : FX 33 [x0, x1] =
  if (decide ((0 : Int) ≤ (0 : Int))) = true then
  if (decide ((0 : Int) ≤ (x1).toInt)) = true then
    if (decide ((x1).toInt ≤ (((x0).toL).length : Int))) = true then
      W_field_Layout_low_1 x0 x1 [(D.int (0 : Int)), (D.int (0 : Int))]
      else none
    else none
  else none := (fixP_eq (t := T_field_Layout_low) (by rfl) _).trans (by kernel_rfl)
noncomputable def W_field_Layout_Pack_1 (x0 x1 : D) : Eng.Fn := loopF fun g xs => evalP FX B_field_Layout_Pack_1 ([] ++ [g]) ([x0, x1] ++ xs)
theorem W_field_Layout_Pack_1_eq (x0 x1 : D) (a0 a1 : D) : W_field_Layout_Pack_1 x0 x1 [a0, a1] =
  if (decide ((a1).toInt < (((x1).toL).length : Int))) = true then
  if (decide ((a1).toInt ≥ (0 : Int))) = true then
    if (decide ((a1).toInt < (((x1).toL).length : Int))) = true then
      if (decide (((((x1).toL).getD ((a1).toInt).toNat D.nil)).toInt < (0 : Int))) = true then
        bindC (FX 22 [a1, (D.iface 57 (D.int (5 : Int)))]) 1 fun r4 =>
          some [(D.int (0 : Int)), (r4.getD 0 D.nil)]
        else
        bindC (FX 32 [x0, a1]) 1 fun r4 =>
          if (decide ((IntKind.u64.wrap ((((x1).toL).getD ((a1).toInt).toNat D.nil)).toInt) > ((r4.getD 0 D.nil)).toInt)) = true then
          bindC (FX 22 [a1, (D.iface 57 (D.int (5 : Int)))]) 1 fun r5 =>
            some [(D.int (0 : Int)), (r5.getD 0 D.nil)]
          else
          bindC (FX 33 [x0, a1]) 1 fun r5 =>
            if (decide (((r5.getD 0 D.nil)).toInt ≥ (0 : Int))) = true then
            (W_field_Layout_Pack_1 x0 x1) [(D.int (arF .or .u64 (a0).toInt (arF .shl .u64 (IntKind.u64.wrap ((((x1).toL).getD ((a1).toInt).toNat D.nil)).toInt) ((r5.getD 0 D.nil)).toInt))), (D.int (IntKind.i64.wrap ((a1).toInt + (1 : Int))))]
            else none
      else none
    else none
  else
  some [a0, D.nil] := (loopP_eq FX B_field_Layout_Pack_1 [] [x0, x1] _).trans (by kernel_rfl)
theorem E_field_Layout_Pack (x0 x1 : D) : FX 24 [x0, x1] =
  if ((((x1).toL).length : Int) != (((x0).toL).length : Int)) = true then
  some [(D.int (0 : Int)), (D.iface 57 (D.int (1 : Int)))]
  else
  W_field_Layout_Pack_1 x0 x1 [(D.int (0 : Int)), (D.int (0 : Int))] := (fixP_eq (t := T_field_Layout_Pack) (by rfl) _).trans (by kernel_rfl)
theorem E_record_Word (x0 x1 x2 x3 x4 x5 : D) : FX 12 [x0, x1, x2, x3, x4, x5] =
  if (decide ((x0).toInt > (5 : Int))) = true then
  bindC (FX 22 [(D.int (0 : Int)), (D.iface 57 (D.int (5 : Int)))]) 1 fun r6 =>
    some [(D.int (0 : Int)), (r6.getD 0 D.nil)]
  else
  bindC (FX 23 []) 1 fun r6 =>
    bindC (FX 24 [(r6.getD 0 D.nil), (D.agg (x0 :: (x1 :: (x2 :: (x3 :: (x4 :: (x5 :: [])))))))]) 2 fun r7 =>
    some [(r7.getD 0 D.nil), (r7.getD 1 D.nil)] := (fixP_eq (t := T_record_Word) (by rfl) _).trans (by kernel_rfl)
theorem E_law08_RecordApart (x0 x1 x2 x3 x4 x5 x6 x7 x8 x9 x10 x11 x12 x13 x14 x15 x16 x17 : D) : FX 6 [x0, x1, x2, x3, x4, x5, x6, x7, x8, x9, x10, x11, x12, x13, x14, x15, x16, x17] =
  bindC (FX 12 [x0, x1, x2, x3, x4, x5]) 2 fun r18 =>
  bindC (FX 12 [x6, x7, x8, x9, x10, x11]) 2 fun r20 =>
  if ((r18.getD 1 D.nil)).isNil = true then
  if ((r20.getD 1 D.nil)).isNil = true then
    if (!((((r18.getD 0 D.nil)).toInt == ((r20.getD 0 D.nil)).toInt) == (((x0).toInt == (x6).toInt) && (((x1).toInt == (x7).toInt) && (((x2).toInt == (x8).toInt) && (((x3).toInt == (x9).toInt) && (((x4).toInt == (x10).toInt) && ((x5).toInt == (x11).toInt)))))))) = true then
      some [(D.bool false)]
      else
      bindC (FX 13 [x12, x13, x14, x15, x16, x17]) 7 fun r22 =>
        if (!((r22.getD 6 D.nil)).toBool) = true then
        bindC (FX 9 []) 1 fun r29 =>
          if ((r29.getD 0 D.nil)).toBool = true then
          some [(D.bool ((((r22.getD 0 D.nil)).toInt == (0 : Int)) && ((((r22.getD 1 D.nil)).toInt == (0 : Int)) && ((((r22.getD 2 D.nil)).toInt == (0 : Int)) && ((((r22.getD 3 D.nil)).toInt == (0 : Int)) && ((((r22.getD 4 D.nil)).toInt == (0 : Int)) && (((r22.getD 5 D.nil)).toInt == (0 : Int))))))))]
          else
          some [(D.bool false)]
        else
        bindC (FX 9 []) 1 fun r29 =>
          if ((r29.getD 0 D.nil)).toBool = true then
          if (((r22.getD 1 D.nil)).toInt == (x15).toInt) = true then
            if (((r22.getD 2 D.nil)).toInt == (x16).toInt) = true then
              if (((r22.getD 3 D.nil)).toInt == (x17).toInt) = true then
                bindC (FX 14 [(r22.getD 0 D.nil), (r22.getD 1 D.nil), (r22.getD 2 D.nil), (r22.getD 3 D.nil), (r22.getD 4 D.nil), (r22.getD 5 D.nil)]) 1 fun r30 =>
                  if ((r30.getD 0 D.nil)).toBool = true then
                  if (((r22.getD 4 D.nil)).toInt == (0 : Int)) = true then
                    some [(D.bool (((r22.getD 5 D.nil)).toInt == (0 : Int)))]
                    else
                    some [(D.bool false)]
                  else
                  some [(D.bool false)]
                else
                some [(D.bool false)]
              else
              some [(D.bool false)]
            else
            some [(D.bool false)]
          else
          some [(D.bool false)]
    else
    bindC (FX 13 [x12, x13, x14, x15, x16, x17]) 7 fun r22 =>
      if (!((r22.getD 6 D.nil)).toBool) = true then
      bindC (FX 9 []) 1 fun r29 =>
        if ((r29.getD 0 D.nil)).toBool = true then
        some [(D.bool ((((r22.getD 0 D.nil)).toInt == (0 : Int)) && ((((r22.getD 1 D.nil)).toInt == (0 : Int)) && ((((r22.getD 2 D.nil)).toInt == (0 : Int)) && ((((r22.getD 3 D.nil)).toInt == (0 : Int)) && ((((r22.getD 4 D.nil)).toInt == (0 : Int)) && (((r22.getD 5 D.nil)).toInt == (0 : Int))))))))]
        else
        some [(D.bool false)]
      else
      bindC (FX 9 []) 1 fun r29 =>
        if ((r29.getD 0 D.nil)).toBool = true then
        if (((r22.getD 1 D.nil)).toInt == (x15).toInt) = true then
          if (((r22.getD 2 D.nil)).toInt == (x16).toInt) = true then
            if (((r22.getD 3 D.nil)).toInt == (x17).toInt) = true then
              bindC (FX 14 [(r22.getD 0 D.nil), (r22.getD 1 D.nil), (r22.getD 2 D.nil), (r22.getD 3 D.nil), (r22.getD 4 D.nil), (r22.getD 5 D.nil)]) 1 fun r30 =>
                if ((r30.getD 0 D.nil)).toBool = true then
                if (((r22.getD 4 D.nil)).toInt == (0 : Int)) = true then
                  some [(D.bool (((r22.getD 5 D.nil)).toInt == (0 : Int)))]
                  else
                  some [(D.bool false)]
                else
                some [(D.bool false)]
              else
              some [(D.bool false)]
            else
            some [(D.bool false)]
          else
          some [(D.bool false)]
        else
        some [(D.bool false)]
  else
  bindC (FX 13 [x12, x13, x14, x15, x16, x17]) 7 fun r22 =>
    if (!((r22.getD 6 D.nil)).toBool) = true then
    bindC (FX 9 []) 1 fun r29 =>
      if ((r29.getD 0 D.nil)).toBool = true then
      some [(D.bool ((((r22.getD 0 D.nil)).toInt == (0 : Int)) && ((((r22.getD 1 D.nil)).toInt == (0 : Int)) && ((((r22.getD 2 D.nil)).toInt == (0 : Int)) && ((((r22.getD 3 D.nil)).toInt == (0 : Int)) && ((((r22.getD 4 D.nil)).toInt == (0 : Int)) && (((r22.getD 5 D.nil)).toInt == (0 : Int))))))))]
      else
      some [(D.bool false)]
    else
    bindC (FX 9 []) 1 fun r29 =>
      if ((r29.getD 0 D.nil)).toBool = true then
      if (((r22.getD 1 D.nil)).toInt == (x15).toInt) = true then
        if (((r22.getD 2 D.nil)).toInt == (x16).toInt) = true then
          if (((r22.getD 3 D.nil)).toInt == (x17).toInt) = true then
            bindC (FX 14 [(r22.getD 0 D.nil), (r22.getD 1 D.nil), (r22.getD 2 D.nil), (r22.getD 3 D.nil), (r22.getD 4 D.nil), (r22.getD 5 D.nil)]) 1 fun r30 =>
              if ((r30.getD 0 D.nil)).toBool = true then
              if (((r22.getD 4 D.nil)).toInt == (0 : Int)) = true then
                some [(D.bool (((r22.getD 5 D.nil)).toInt == (0 : Int)))]
                else
                some [(D.bool false)]
              else
              some [(D.bool false)]
            else
            some [(D.bool false)]
          else
          some [(D.bool false)]
        else
        some [(D.bool false)]
      else
      some [(D.bool false)] := (fixP_eq (t := T_law08_RecordApart) (by rfl) _).trans (by kernel_rfl)
noncomputable def W_ref02_Pack_2 (x0 x1 x2 : D) (g0 : Eng.Fn) : Eng.Fn := loopF fun g xs => evalP FX B_ref02_Pack_2 ([g0] ++ [g]) ([x0, x1, x2] ++ xs)
theorem W_ref02_Pack_2_eq (x0 x1 x2 : D) (g0 : Eng.Fn) (a0 a1 : D) : W_ref02_Pack_2 x0 x1 x2 g0 [a0, a1] =
  if (decide ((x2).toInt ≥ (0 : Int))) = true then
  if (decide ((x2).toInt < (((x0).toL).length : Int))) = true then
    if (decide ((a1).toInt < ((((x0).toL).getD ((x2).toInt).toNat D.nil)).toInt)) = true then
      (W_ref02_Pack_2 x0 x1 x2 g0) [(D.int (IntKind.i64.wrap (Int.tdiv (a0).toInt (2 : Int)))), (D.int (IntKind.i64.wrap ((a1).toInt + (1 : Int))))]
      else
      if (decide ((a0).toInt > (0 : Int))) = true then
        some [(D.int (0 : Int)), (D.int (5 : Int)), x2]
        else
        g0 [(D.int (IntKind.i64.wrap ((x2).toInt + (1 : Int))))]
    else none
  else none := (loopP_eq FX B_ref02_Pack_2 [g0] [x0, x1, x2] _).trans (by kernel_rfl)
noncomputable def W_ref02_Pack_4 (x0 x1 x2 x3 x4 : D) (g0 g1 : Eng.Fn) : Eng.Fn := loopF fun g xs => evalP FX B_ref02_Pack_4 ([g0, g1] ++ [g]) ([x0, x1, x2, x3, x4] ++ xs)
theorem W_ref02_Pack_4_eq (x0 x1 x2 x3 x4 : D) (g0 g1 : Eng.Fn) (a0 a1 : D) : W_ref02_Pack_4 x0 x1 x2 x3 x4 g0 g1 [a0, a1] =
  if (decide ((x4).toInt ≥ (0 : Int))) = true then
  if (decide ((x4).toInt < (((x0).toL).length : Int))) = true then
    if (decide ((a1).toInt < ((((x0).toL).getD ((x4).toInt).toNat D.nil)).toInt)) = true then
      (W_ref02_Pack_4 x0 x1 x2 x3 x4 g0 g1) [(D.int (IntKind.u64.wrap ((a0).toInt * (2 : Int)))), (D.int (IntKind.i64.wrap ((a1).toInt + (1 : Int))))]
      else
      if (decide ((x4).toInt ≥ (0 : Int))) = true then
        if (decide ((x4).toInt < (((x1).toL).length : Int))) = true then
          g1 [(D.int (IntKind.u64.wrap ((a0).toInt + (IntKind.u64.wrap ((((x1).toL).getD ((x4).toInt).toNat D.nil)).toInt)))), (D.int (IntKind.i64.wrap ((x4).toInt - (1 : Int))))]
          else none
        else none
    else none
  else none := (loopP_eq FX B_ref02_Pack_4 [g0, g1] [x0, x1, x2, x3, x4] _).trans (by kernel_rfl)
noncomputable def W_ref02_Pack_3 (x0 x1 x2 : D) (g0 : Eng.Fn) : Eng.Fn := loopF fun g xs => evalP FX B_ref02_Pack_3 ([g0] ++ [g]) ([x0, x1, x2] ++ xs)
theorem W_ref02_Pack_3_eq (x0 x1 x2 : D) (g0 : Eng.Fn) (a0 a1 : D) : W_ref02_Pack_3 x0 x1 x2 g0 [a0, a1] =
  if (decide ((a1).toInt ≥ (0 : Int))) = true then
  W_ref02_Pack_4 x0 x1 x2 a0 a1 g0 ((W_ref02_Pack_3 x0 x1 x2 g0)) [a0, (D.int (0 : Int))]
  else
  some [a0, (D.int (0 : Int)), (D.int (0 : Int))] := (loopP_eq FX B_ref02_Pack_3 [g0] [x0, x1, x2] _).trans (by kernel_rfl)
noncomputable def W_ref02_Pack_1 (x0 x1 : D) : Eng.Fn := loopF fun g xs => evalP FX B_ref02_Pack_1 ([] ++ [g]) ([x0, x1] ++ xs)
theorem W_ref02_Pack_1_eq (x0 x1 : D) (a0 : D) : W_ref02_Pack_1 x0 x1 [a0] =
  if (decide ((a0).toInt < (((x1).toL).length : Int))) = true then
  if (decide ((a0).toInt ≥ (0 : Int))) = true then
    if (decide ((a0).toInt < (((x1).toL).length : Int))) = true then
      if (decide (((((x1).toL).getD ((a0).toInt).toNat D.nil)).toInt < (0 : Int))) = true then
        some [(D.int (0 : Int)), (D.int (5 : Int)), a0]
        else
        W_ref02_Pack_2 x0 x1 a0 ((W_ref02_Pack_1 x0 x1)) [(((x1).toL).getD ((a0).toInt).toNat D.nil), (D.int (0 : Int))]
      else none
    else none
  else
  W_ref02_Pack_3 x0 x1 a0 ((W_ref02_Pack_1 x0 x1)) [(D.int (0 : Int)), (D.int (IntKind.i64.wrap ((((x1).toL).length : Int) - (1 : Int))))] := (loopP_eq FX B_ref02_Pack_1 [] [x0, x1] _).trans (by kernel_rfl)
theorem E_ref02_Pack (x0 x1 : D) : FX 25 [x0, x1] =
  if ((((x1).toL).length : Int) != (((x0).toL).length : Int)) = true then
  some [(D.int (0 : Int)), (D.int (1 : Int)), (D.int (0 : Int))]
  else
  W_ref02_Pack_1 x0 x1 [(D.int (0 : Int))] := (fixP_eq (t := T_ref02_Pack) (by rfl) _).trans (by kernel_rfl)
theorem E_ref08_widths : FX 26 [] =
  some [(D.agg ((D.int (3 : Int)) :: ((D.int (16 : Int)) :: ((D.int (16 : Int)) :: ((D.int (20 : Int)) :: ((D.int (5 : Int)) :: ((D.int (4 : Int)) :: [])))))))] := (fixP_eq (t := T_ref08_widths) (by rfl) _).trans (by kernel_rfl)
theorem E_ref08_Word (x0 x1 x2 x3 x4 x5 : D) : FX 15 [x0, x1, x2, x3, x4, x5] =
  if (decide ((x0).toInt > (5 : Int))) = true then
  some [(D.int (0 : Int)), (D.int (5 : Int))]
  else
  bindC (FX 26 []) 1 fun r6 =>
    bindC (FX 25 [(r6.getD 0 D.nil), (D.agg (x0 :: (x1 :: (x2 :: (x3 :: (x4 :: (x5 :: [])))))))]) 3 fun r7 =>
    some [(r7.getD 0 D.nil), (r7.getD 1 D.nil)] := (fixP_eq (t := T_ref08_Word) (by rfl) _).trans (by kernel_rfl)
noncomputable def W_law01_Num_1 (x0 : D) : Eng.Fn := loopF fun g xs => evalP FX B_law01_Num_1 ([] ++ [g]) ([x0] ++ xs)
theorem W_law01_Num_1_eq (x0 : D) (a0 : D) : W_law01_Num_1 x0 [a0] =
  if (decide ((a0).toInt < (30 : Int))) = true then
  bindC (FX 27 [x0, (D.iface 57 a0)]) 1 fun r2 =>
    if ((r2.getD 0 D.nil)).toBool = true then
    some [a0]
    else
    (W_law01_Num_1 x0) [(D.int (IntKind.i64.wrap ((a0).toInt + (1 : Int))))]
  else
  some [(D.int (-1 : Int))] := (loopP_eq FX B_law01_Num_1 [] [x0] _).trans (by kernel_rfl)
theorem E_law01_Num (x0 : D) : FX 16 [x0] =
  if (x0).isNil = true then
  some [(D.int (0 : Int))]
  else
  W_law01_Num_1 x0 [(D.int (1 : Int))] := (fixP_eq (t := T_law01_Num) (by rfl) _).trans (by kernel_rfl)
theorem E_field_Layout_Get (x0 x1 x2 : D) : FX 28 [x0, x1, x2] =
  if (decide ((x2).toInt < (0 : Int))) = true then
  some [(D.int (0 : Int))]
  else
  if (decide ((x2).toInt ≥ (((x0).toL).length : Int))) = true then
    some [(D.int (0 : Int))]
    else
    bindC (FX 33 [x0, x2]) 1 fun r3 =>
      if (decide (((r3.getD 0 D.nil)).toInt ≥ (0 : Int))) = true then
      bindC (FX 32 [x0, x2]) 1 fun r4 =>
        some [(D.int (IntKind.i64.wrap (arF .and .u64 (arF .shr .u64 (x1).toInt ((r3.getD 0 D.nil)).toInt) ((r4.getD 0 D.nil)).toInt)))]
      else none := (fixP_eq (t := T_field_Layout_Get) (by rfl) _).trans (by kernel_rfl)
theorem E_record_Of (x0 : D) : FX 17 [x0] =
  bindC (FX 23 []) 1 fun r1 =>
  bindC (FX 28 [(r1.getD 0 D.nil), x0, (D.int (0 : Int))]) 1 fun r2 =>
  bindC (FX 28 [(r1.getD 0 D.nil), x0, (D.int (1 : Int))]) 1 fun r3 =>
  bindC (FX 28 [(r1.getD 0 D.nil), x0, (D.int (2 : Int))]) 1 fun r4 =>
  bindC (FX 28 [(r1.getD 0 D.nil), x0, (D.int (3 : Int))]) 1 fun r5 =>
  bindC (FX 28 [(r1.getD 0 D.nil), x0, (D.int (4 : Int))]) 1 fun r6 =>
  bindC (FX 28 [(r1.getD 0 D.nil), x0, (D.int (5 : Int))]) 1 fun r7 =>
  some [(r2.getD 0 D.nil), (r3.getD 0 D.nil), (r4.getD 0 D.nil), (r5.getD 0 D.nil), (r6.getD 0 D.nil), (r7.getD 0 D.nil)] := (fixP_eq (t := T_record_Of) (by rfl) _).trans (by kernel_rfl)
noncomputable def W_ref02_bit_1 (x0 x1 : D) : Eng.Fn := loopF fun g xs => evalP FX B_ref02_bit_1 ([] ++ [g]) ([x0, x1] ++ xs)
theorem W_ref02_bit_1_eq (x0 x1 : D) (a0 a1 : D) : W_ref02_bit_1 x0 x1 [a0, a1] =
  if (decide ((a1).toInt < (x1).toInt)) = true then
  (W_ref02_bit_1 x0 x1) [(D.int (IntKind.u64.wrap (Int.tdiv (a0).toInt (2 : Int)))), (D.int (IntKind.i64.wrap ((a1).toInt + (1 : Int))))]
  else
  some [(D.int (IntKind.i64.wrap (Int.tmod (a0).toInt (2 : Int))))] := (loopP_eq FX B_ref02_bit_1 [] [x0, x1] _).trans (by kernel_rfl)
theorem E_ref02_bit (x0 x1 : D) : FX 36 [x0, x1] =
  W_ref02_bit_1 x0 x1 [x0, (D.int (0 : Int))] := (fixP_eq (t := T_ref02_bit) (by rfl) _).trans (by kernel_rfl)
noncomputable def W_ref02_Get_2 (x0 x1 x2 x3 x4 : D) (g0 : Eng.Fn) : Eng.Fn := loopF fun g xs => evalP FX B_ref02_Get_2 ([g0] ++ [g]) ([x0, x1, x2, x3, x4] ++ xs)
theorem W_ref02_Get_2_eq (x0 x1 x2 x3 x4 : D) (g0 : Eng.Fn) (a0 a1 : D) : W_ref02_Get_2 x0 x1 x2 x3 x4 g0 [a0, a1] =
  if (decide ((a1).toInt ≥ (0 : Int))) = true then
  bindC (FX 36 [x1, (D.int (IntKind.i64.wrap ((x3).toInt + (a1).toInt)))]) 1 fun r7 =>
    (W_ref02_Get_2 x0 x1 x2 x3 x4 g0) [(D.int (IntKind.i64.wrap ((IntKind.i64.wrap ((a0).toInt * (2 : Int))) + ((r7.getD 0 D.nil)).toInt))), (D.int (IntKind.i64.wrap ((a1).toInt - (1 : Int))))]
  else
  some [a0] := (loopP_eq FX B_ref02_Get_2 [g0] [x0, x1, x2, x3, x4] _).trans (by kernel_rfl)
noncomputable def W_ref02_Get_1 (x0 x1 x2 : D) : Eng.Fn := loopF fun g xs => evalP FX B_ref02_Get_1 ([] ++ [g]) ([x0, x1, x2] ++ xs)
theorem W_ref02_Get_1_eq (x0 x1 x2 : D) (a0 a1 : D) : W_ref02_Get_1 x0 x1 x2 [a0, a1] =
  if (decide ((a1).toInt < (x2).toInt)) = true then
  if (decide ((a1).toInt ≥ (0 : Int))) = true then
    if (decide ((a1).toInt < (((x0).toL).length : Int))) = true then
      (W_ref02_Get_1 x0 x1 x2) [(D.int (IntKind.i64.wrap ((a0).toInt + ((((x0).toL).getD ((a1).toInt).toNat D.nil)).toInt))), (D.int (IntKind.i64.wrap ((a1).toInt + (1 : Int))))]
      else none
    else none
  else
  if (decide ((x2).toInt ≥ (0 : Int))) = true then
    if (decide ((x2).toInt < (((x0).toL).length : Int))) = true then
      W_ref02_Get_2 x0 x1 x2 a0 a1 ((W_ref02_Get_1 x0 x1 x2)) [(D.int (0 : Int)), (D.int (IntKind.i64.wrap (((((x0).toL).getD ((x2).toInt).toNat D.nil)).toInt - (1 : Int))))]
      else none
    else none := (loopP_eq FX B_ref02_Get_1 [] [x0, x1, x2] _).trans (by kernel_rfl)
theorem E_ref02_Get (x0 x1 x2 : D) : FX 29 [x0, x1, x2] =
  if (decide ((x2).toInt < (0 : Int))) = true then
  some [(D.int (0 : Int))]
  else
  if (decide ((x2).toInt ≥ (((x0).toL).length : Int))) = true then
    some [(D.int (0 : Int))]
    else
    W_ref02_Get_1 x0 x1 x2 [(D.int (0 : Int)), (D.int (0 : Int))] := (fixP_eq (t := T_ref02_Get) (by rfl) _).trans (by kernel_rfl)
theorem E_ref08_Of (x0 : D) : FX 18 [x0] =
  bindC (FX 26 []) 1 fun r1 =>
  bindC (FX 29 [(r1.getD 0 D.nil), x0, (D.int (0 : Int))]) 1 fun r2 =>
  bindC (FX 29 [(r1.getD 0 D.nil), x0, (D.int (1 : Int))]) 1 fun r3 =>
  bindC (FX 29 [(r1.getD 0 D.nil), x0, (D.int (2 : Int))]) 1 fun r4 =>
  bindC (FX 29 [(r1.getD 0 D.nil), x0, (D.int (3 : Int))]) 1 fun r5 =>
  bindC (FX 29 [(r1.getD 0 D.nil), x0, (D.int (4 : Int))]) 1 fun r6 =>
  bindC (FX 29 [(r1.getD 0 D.nil), x0, (D.int (5 : Int))]) 1 fun r7 =>
  some [(r2.getD 0 D.nil), (r3.getD 0 D.nil), (r4.getD 0 D.nil), (r5.getD 0 D.nil), (r6.getD 0 D.nil), (r7.getD 0 D.nil)] := (fixP_eq (t := T_ref08_Of) (by rfl) _).trans (by kernel_rfl)
theorem E_ref08_End (x0 x1 x2 x3 x4 x5 : D) : FX 19 [x0, x1, x2, x3, x4, x5] =
  if (decide ((x0).toInt < (5 : Int))) = true then
  some [(D.int (0 : Int)), (D.int (0 : Int)), (D.int (0 : Int)), (D.int (0 : Int)), (D.int (0 : Int)), (D.int (0 : Int)), (D.bool false)]
  else
  if (decide ((x0).toInt > (8 : Int))) = true then
    some [(D.int (0 : Int)), (D.int (0 : Int)), (D.int (0 : Int)), (D.int (0 : Int)), (D.int (0 : Int)), (D.int (0 : Int)), (D.bool false)]
    else
    some [(D.int (IntKind.i64.wrap ((x0).toInt - (3 : Int)))), x3, x4, x5, (D.int (0 : Int)), (D.int (0 : Int)), (D.bool true)] := (fixP_eq (t := T_ref08_End) (by rfl) _).trans (by kernel_rfl)
noncomputable def J_cell_Kind_1 (x0 x1 x2 x3 x4 : D) : Eng.Fn := fun xs => evalP FX B_cell_Kind_1 [] ([x0, x1, x2, x3, x4] ++ xs)
theorem J_cell_Kind_1_eq (x0 x1 x2 x3 x4 : D) (a0 : D) : J_cell_Kind_1 x0 x1 x2 x3 x4  [a0] =
  if (a0).toBool = true then
  some [(D.str ((.mk #[108, 105, 118, 101])))]
  else
  if ((x0).toInt == (5 : Int)) = true then
    some [(D.str ((.mk #[102, 105, 108, 108, 101, 100])))]
    else
    if ((x0).toInt == (6 : Int)) = true then
      some [(D.str ((.mk #[99, 97, 110, 99, 101, 108, 108, 101, 100])))]
      else
      if ((x0).toInt == (7 : Int)) = true then
        some [(D.str ((.mk #[101, 120, 112, 105, 114, 101, 100])))]
        else
        if ((x0).toInt == (8 : Int)) = true then
          some [(D.str ((.mk #[114, 101, 116, 105, 114, 101, 100])))]
          else
          some [(D.str ((.mk #[63])))] := by kernel_rfl
theorem E_cell_Kind (x0 x1 x2 x3 x4 : D) : FX 30 [x0, x1, x2, x3, x4] =
  if ((x0).toInt == (0 : Int)) = true then
  some [(D.str ((.mk #[102, 114, 101, 101])))]
  else
  if ((x0).toInt == (1 : Int)) = true then
    (J_cell_Kind_1 x0 x1 x2 x3 x4) [(D.bool ((x0).toInt == (1 : Int)))]
    else
    if ((x0).toInt == (2 : Int)) = true then
      (J_cell_Kind_1 x0 x1 x2 x3 x4) [(D.bool ((x0).toInt == (2 : Int)))]
      else
      if ((x0).toInt == (3 : Int)) = true then
        (J_cell_Kind_1 x0 x1 x2 x3 x4) [(D.bool ((x0).toInt == (3 : Int)))]
        else
        (J_cell_Kind_1 x0 x1 x2 x3 x4) [(D.bool ((x0).toInt == (4 : Int)))] := (fixP_eq (t := T_cell_Kind) (by rfl) _).trans (by kernel_rfl)
theorem E_record_Name (x0 : D) : FX 20 [x0] =
  if ((x0).toInt == (1 : Int)) = true then
  some [(D.str ((.mk #[102, 105, 108, 108])))]
  else
  if ((x0).toInt == (2 : Int)) = true then
    bindC (FX 30 [(D.int (5 : Int)), (D.bool false), (D.int (0 : Int)), (D.int (0 : Int)), (D.int (0 : Int))]) 1 fun r1 =>
      some [(r1.getD 0 D.nil)]
    else
    if ((x0).toInt == (3 : Int)) = true then
      bindC (FX 30 [(D.int (6 : Int)), (D.bool false), (D.int (0 : Int)), (D.int (0 : Int)), (D.int (0 : Int))]) 1 fun r1 =>
        some [(r1.getD 0 D.nil)]
      else
      if ((x0).toInt == (4 : Int)) = true then
        bindC (FX 30 [(D.int (7 : Int)), (D.bool false), (D.int (0 : Int)), (D.int (0 : Int)), (D.int (0 : Int))]) 1 fun r1 =>
          some [(r1.getD 0 D.nil)]
        else
        if ((x0).toInt == (5 : Int)) = true then
          bindC (FX 30 [(D.int (8 : Int)), (D.bool false), (D.int (0 : Int)), (D.int (0 : Int)), (D.int (0 : Int))]) 1 fun r1 =>
            some [(r1.getD 0 D.nil)]
          else
          some [(D.str ((.mk #[110, 111, 110, 101])))] := (fixP_eq (t := T_record_Name) (by rfl) _).trans (by kernel_rfl)
theorem E_ref08_Name (x0 : D) : FX 21 [x0] =
  if (decide ((x0).toInt < (1 : Int))) = true then
  some [(D.str ((.mk #[110, 111, 110, 101])))]
  else
  if (decide ((x0).toInt > (5 : Int))) = true then
    some [(D.str ((.mk #[110, 111, 110, 101])))]
    else
    if (decide ((IntKind.i64.wrap ((x0).toInt - (1 : Int))) ≥ (0 : Int))) = true then
      if (decide ((IntKind.i64.wrap ((x0).toInt - (1 : Int))) < ((((D.str ((.mk #[102, 105, 108, 108]))) :: ((D.str ((.mk #[102, 105, 108, 108, 101, 100]))) :: ((D.str ((.mk #[99, 97, 110, 99, 101, 108, 108, 101, 100]))) :: ((D.str ((.mk #[101, 120, 112, 105, 114, 101, 100]))) :: ((D.str ((.mk #[114, 101, 116, 105, 114, 101, 100]))) :: [])))))).length : Int))) = true then
        some [((((D.str ((.mk #[102, 105, 108, 108]))) :: ((D.str ((.mk #[102, 105, 108, 108, 101, 100]))) :: ((D.str ((.mk #[99, 97, 110, 99, 101, 108, 108, 101, 100]))) :: ((D.str ((.mk #[101, 120, 112, 105, 114, 101, 100]))) :: ((D.str ((.mk #[114, 101, 116, 105, 114, 101, 100]))) :: [])))))).getD ((IntKind.i64.wrap ((x0).toInt - (1 : Int)))).toNat D.nil)]
        else none
      else none := (fixP_eq (t := T_ref08_Name) (by rfl) _).trans (by kernel_rfl)
theorem E_law08_RecordWords (x0 x1 x2 x3 x4 x5 x6 x7 x8 x9 x10 x11 x12 : D) : FX 7 [x0, x1, x2, x3, x4, x5, x6, x7, x8, x9, x10, x11, x12] =
  bindC (FX 12 [x0, x1, x2, x3, x4, x5]) 2 fun r13 =>
  bindC (FX 15 [x0, x1, x2, x3, x4, x5]) 2 fun r15 =>
  if (((r13.getD 0 D.nil)).toInt != ((r15.getD 0 D.nil)).toInt) = true then
  some [(D.bool false)]
  else
  bindC (FX 16 [(r13.getD 1 D.nil)]) 1 fun r17 =>
    if (((r17.getD 0 D.nil)).toInt != ((r15.getD 1 D.nil)).toInt) = true then
    some [(D.bool false)]
    else
    if (((r15.getD 1 D.nil)).toInt == (0 : Int)) = true then
      bindC (FX 17 [(r13.getD 0 D.nil)]) 6 fun r18 =>
        if (!((((r18.getD 0 D.nil)).toInt == (x0).toInt) && ((((r18.getD 1 D.nil)).toInt == (x1).toInt) && ((((r18.getD 2 D.nil)).toInt == (x2).toInt) && ((((r18.getD 3 D.nil)).toInt == (x3).toInt) && ((((r18.getD 4 D.nil)).toInt == (x4).toInt) && (((r18.getD 5 D.nil)).toInt == (x5).toInt))))))) = true then
        some [(D.bool false)]
        else
        bindC (FX 17 [x6]) 6 fun r24 =>
          bindC (FX 18 [x6]) 6 fun r30 =>
          if (!((((r24.getD 0 D.nil)).toInt == ((r30.getD 0 D.nil)).toInt) && ((((r24.getD 1 D.nil)).toInt == ((r30.getD 1 D.nil)).toInt) && ((((r24.getD 2 D.nil)).toInt == ((r30.getD 2 D.nil)).toInt) && ((((r24.getD 3 D.nil)).toInt == ((r30.getD 3 D.nil)).toInt) && ((((r24.getD 4 D.nil)).toInt == ((r30.getD 4 D.nil)).toInt) && (((r24.getD 5 D.nil)).toInt == ((r30.getD 5 D.nil)).toInt))))))) = true then
          some [(D.bool false)]
          else
          bindC (FX 13 [x7, x8, x9, x10, x11, x12]) 7 fun r36 =>
            bindC (FX 19 [x7, x8, x9, x10, x11, x12]) 7 fun r43 =>
            bindC (FX 9 []) 1 fun r50 =>
            if ((r50.getD 0 D.nil)).toBool = true then
            if ((((r36.getD 0 D.nil)).toInt == ((r43.getD 0 D.nil)).toInt) && ((((r36.getD 1 D.nil)).toInt == ((r43.getD 1 D.nil)).toInt) && ((((r36.getD 2 D.nil)).toInt == ((r43.getD 2 D.nil)).toInt) && ((((r36.getD 3 D.nil)).toInt == ((r43.getD 3 D.nil)).toInt) && ((((r36.getD 4 D.nil)).toInt == ((r43.getD 4 D.nil)).toInt) && (((r36.getD 5 D.nil)).toInt == ((r43.getD 5 D.nil)).toInt)))))) = true then
              if (((r36.getD 6 D.nil)).toBool == ((r43.getD 6 D.nil)).toBool) = true then
                bindC (FX 14 [(r36.getD 0 D.nil), (r36.getD 1 D.nil), (r36.getD 2 D.nil), (r36.getD 3 D.nil), (r36.getD 4 D.nil), (r36.getD 5 D.nil)]) 1 fun r51 =>
                  if (((r51.getD 0 D.nil)).toBool == ((r36.getD 6 D.nil)).toBool) = true then
                  bindC (FX 20 [x0]) 1 fun r52 =>
                    bindC (FX 21 [x0]) 1 fun r53 =>
                    some [(D.bool (scmpF .eql ((r52.getD 0 D.nil)).toStr ((r53.getD 0 D.nil)).toStr))]
                  else
                  some [(D.bool false)]
                else
                some [(D.bool false)]
              else
              some [(D.bool false)]
            else
            some [(D.bool false)]
      else
      bindC (FX 17 [x6]) 6 fun r18 =>
        bindC (FX 18 [x6]) 6 fun r24 =>
        if (!((((r18.getD 0 D.nil)).toInt == ((r24.getD 0 D.nil)).toInt) && ((((r18.getD 1 D.nil)).toInt == ((r24.getD 1 D.nil)).toInt) && ((((r18.getD 2 D.nil)).toInt == ((r24.getD 2 D.nil)).toInt) && ((((r18.getD 3 D.nil)).toInt == ((r24.getD 3 D.nil)).toInt) && ((((r18.getD 4 D.nil)).toInt == ((r24.getD 4 D.nil)).toInt) && (((r18.getD 5 D.nil)).toInt == ((r24.getD 5 D.nil)).toInt))))))) = true then
        some [(D.bool false)]
        else
        bindC (FX 13 [x7, x8, x9, x10, x11, x12]) 7 fun r30 =>
          bindC (FX 19 [x7, x8, x9, x10, x11, x12]) 7 fun r37 =>
          bindC (FX 9 []) 1 fun r44 =>
          if ((r44.getD 0 D.nil)).toBool = true then
          if ((((r30.getD 0 D.nil)).toInt == ((r37.getD 0 D.nil)).toInt) && ((((r30.getD 1 D.nil)).toInt == ((r37.getD 1 D.nil)).toInt) && ((((r30.getD 2 D.nil)).toInt == ((r37.getD 2 D.nil)).toInt) && ((((r30.getD 3 D.nil)).toInt == ((r37.getD 3 D.nil)).toInt) && ((((r30.getD 4 D.nil)).toInt == ((r37.getD 4 D.nil)).toInt) && (((r30.getD 5 D.nil)).toInt == ((r37.getD 5 D.nil)).toInt)))))) = true then
            if (((r30.getD 6 D.nil)).toBool == ((r37.getD 6 D.nil)).toBool) = true then
              bindC (FX 14 [(r30.getD 0 D.nil), (r30.getD 1 D.nil), (r30.getD 2 D.nil), (r30.getD 3 D.nil), (r30.getD 4 D.nil), (r30.getD 5 D.nil)]) 1 fun r45 =>
                if (((r45.getD 0 D.nil)).toBool == ((r30.getD 6 D.nil)).toBool) = true then
                bindC (FX 20 [x0]) 1 fun r46 =>
                  bindC (FX 21 [x0]) 1 fun r47 =>
                  some [(D.bool (scmpF .eql ((r46.getD 0 D.nil)).toStr ((r47.getD 0 D.nil)).toStr))]
                else
                some [(D.bool false)]
              else
              some [(D.bool false)]
            else
            some [(D.bool false)]
          else
          some [(D.bool false)] := (fixP_eq (t := T_law08_RecordWords) (by rfl) _).trans (by kernel_rfl)
end Go.Proofs.Ytkjcpgnmkjkbbaa
