/-
  The functions, as equations.
-/
import Derived.Test.YtkfdphhloodhiaaAll
namespace Go.Proofs.Ytkfdphhloodhiaa
open Go.Proofs.Ytkfdphhloodhiaa.Eng
set_option linter.unusedVariables false
set_option maxRecDepth 20000
noncomputable def W_field_Add_1 (x0 x1 : D) : Eng.Fn := loopF fun g xs => evalP FX B_field_Add_1 ([] ++ [g]) ([x0, x1] ++ xs)
theorem W_field_Add_1_eq (x0 x1 : D) (a0 a1 : D) : W_field_Add_1 x0 x1 [a0, a1] =
  if (decide ((a1).toInt < (((x1).toL).length : Int))) = true then
  if (decide ((a1).toInt ≥ (0 : Int))) = true then
    if (decide ((a1).toInt < (((x1).toL).length : Int))) = true then
      if (decide (((((x1).toL).getD ((a1).toInt).toNat D.nil)).toInt > (x0).toInt)) = true then
        some [x0]
        else
        if (decide ((a0).toInt > (IntKind.u64.wrap ((x0).toInt - ((((x1).toL).getD ((a1).toInt).toNat D.nil)).toInt)))) = true then
          some [x0]
          else
          (W_field_Add_1 x0 x1) [(D.int (IntKind.u64.wrap ((a0).toInt + ((((x1).toL).getD ((a1).toInt).toNat D.nil)).toInt))), (D.int (IntKind.i64.wrap ((a1).toInt + (1 : Int))))]
      else none
    else none
  else
  some [(if (decide ((x0).toInt < (a0).toInt)) = true then x0 else a0)] := (loopP_eq FX B_field_Add_1 [] [x0, x1] _).trans (by kernel_rfl)
theorem E_field_Add (x0 x1 : D) : FX 17 [x0, x1] =
  W_field_Add_1 x0 x1 [(D.int (0 : Int)), (D.int (0 : Int))] := (fixP_eq (t := T_field_Add) (by rfl) _).trans (by kernel_rfl)
noncomputable def W_p_tick_Clock_Go_1 (x0 x1 x2 : D) : Eng.Fn := loopF fun g xs => evalP FX B_p_tick_Clock_Go_1 ([] ++ [g]) ([x0, x1, x2] ++ xs)
theorem W_p_tick_Clock_Go_1_eq (x0 x1 x2 : D) (a0 a1 : D) : W_p_tick_Clock_Go_1 x0 x1 x2 [a0, a1] =
  if (decide ((a0).toInt < (((x1).toL).length : Int))) = true then
  if (decide ((a0).toInt ≥ (0 : Int))) = true then
    if (decide ((a0).toInt < (((x1).toL).length : Int))) = true then
      if (decide (((((x1).toL).getD ((a0).toInt).toNat D.nil)).toInt > (0 : Int))) = true then
        if (!(x0).isNil) = true then
          bindC (FX 17 [(D.int (1000000 : Int)), (D.agg (((((((a1).toL).getD ((x0).toInt).toNat D.nil)).toL).getD 0 D.nil) :: ((D.int (IntKind.u64.wrap ((((x1).toL).getD ((a0).toInt).toNat D.nil)).toInt)) :: [])))]) 1 fun r5 =>
            if (!(x0).isNil) = true then
            (W_p_tick_Clock_Go_1 x0 x1 x2) [(D.int (IntKind.i64.wrap ((a0).toInt + (1 : Int)))), (D.agg (((a1).toL).set ((x0).toInt).toNat (D.agg (((List.range 1).map fun j => (((((a1).toL).getD ((x0).toInt).toNat D.nil)).toL).getD j D.nil).set 0 (r5.getD 0 D.nil)))))]
            else none
          else none
        else
        (W_p_tick_Clock_Go_1 x0 x1 x2) [(D.int (IntKind.i64.wrap ((a0).toInt + (1 : Int)))), a1]
      else none
    else none
  else
  if (!(x0).isNil) = true then
    some [(D.int (IntKind.i64.wrap (((((((a1).toL).getD ((x0).toInt).toNat D.nil)).toL).getD 0 D.nil)).toInt)), a1]
    else none := (loopP_eq FX B_p_tick_Clock_Go_1 [] [x0, x1, x2] _).trans (by kernel_rfl)
theorem E_p_tick_Clock_Go (x0 x1 x2 : D) : FX 7 [x0, x1, x2] =
  if (x0).isNil = true then
  some [(D.int (0 : Int)), x2]
  else
  W_p_tick_Clock_Go_1 x0 x1 x2 [(D.int (0 : Int)), x2] := (fixP_eq (t := T_p_tick_Clock_Go) (by rfl) _).trans (by kernel_rfl)
theorem E_tick_Pick (x0 x1 : D) : FX 16 [x0, x1] =
  if (decide ((x1).toInt < (1 : Int))) = true then
  some [(D.int (0 : Int))]
  else
  if ((x1).toInt != (0 : Int)) = true then
    if (decide ((Int.tmod (x0).toInt (x1).toInt) < (0 : Int))) = true then
      some [(D.int (IntKind.i64.wrap ((Int.tmod (x0).toInt (x1).toInt) + (x1).toInt)))]
      else
      some [(D.int (Int.tmod (x0).toInt (x1).toInt))]
    else none := (fixP_eq (t := T_tick_Pick) (by rfl) _).trans (by kernel_rfl)
theorem E_law04_awake (x0 : D) : FX 6 [x0] =
  bindC (FX 7 [(D.int (((x0).toL).length : Int)), (D.agg ((D.int (3 : Int)) :: ((D.int (-1 : Int)) :: ((D.int (4 : Int)) :: [])))), (D.agg ((x0).toL ++ ((D.agg ((D.int (0 : Int)) :: [])) :: [])))]) 2 fun r1 =>
  if (((r1.getD 0 D.nil)).toInt == (7 : Int)) = true then
  bindC (FX 16 [(D.int (-1 : Int)), (D.int (4 : Int))]) 1 fun r3 =>
    some [(D.bool (((r3.getD 0 D.nil)).toInt == (3 : Int))), (r1.getD 1 D.nil)]
  else
  some [(D.bool false), (r1.getD 1 D.nil)] := (fixP_eq (t := T_law04_awake) (by rfl) _).trans (by kernel_rfl)
theorem E_p_tick_Tape_Put (x0 x1 x2 : D) : FX 12 [x0, x1, x2] =
  if (!(x0).isNil) = true then
  if (!(x0).isNil) = true then
    if (decide (((((((((((x2).toL).getD ((x0).toInt).toNat D.nil)).toL).getD 0 D.nil)).toL ++ (x1).toL)).length : Int) ≤ (17592186044416 : Int))) = true then
      if (!(x0).isNil) = true then
        some [(D.agg (((x2).toL).set ((x0).toInt).toNat (D.agg (((List.range 2).map fun j => (((((x2).toL).getD ((x0).toInt).toNat D.nil)).toL).getD j D.nil).set 0 (D.agg ((((((((x2).toL).getD ((x0).toInt).toNat D.nil)).toL).getD 0 D.nil)).toL ++ (x1).toL))))))]
        else none
      else none
    else none
  else
  some [x2] := (fixP_eq (t := T_p_tick_Tape_Put) (by rfl) _).trans (by kernel_rfl)
theorem E_p_tick_Tape_Take (x0 x1 : D) : FX 13 [x0, x1] =
  if (x0).isNil = true then
  some [(D.int (0 : Int)), (D.bool false), x1]
  else
  if (!(x0).isNil) = true then
    if (!(x0).isNil) = true then
      if ((((((((x1).toL).getD ((x0).toInt).toNat D.nil)).toL).getD 1 D.nil)).toInt == (((((((((x1).toL).getD ((x0).toInt).toNat D.nil)).toL).getD 0 D.nil)).toL).length : Int)) = true then
        some [(D.int (0 : Int)), (D.bool false), x1]
        else
        if (!(x0).isNil) = true then
          if (!(x0).isNil) = true then
            if (!(x0).isNil) = true then
              if (!(x0).isNil) = true then
                if (decide ((IntKind.i64.wrap ((IntKind.i64.wrap ((((((((x1).toL).getD ((x0).toInt).toNat D.nil)).toL).getD 1 D.nil)).toInt + (1 : Int))) - (1 : Int))) ≥ (0 : Int))) = true then
                  if (decide ((IntKind.i64.wrap ((IntKind.i64.wrap ((((((((x1).toL).getD ((x0).toInt).toNat D.nil)).toL).getD 1 D.nil)).toInt + (1 : Int))) - (1 : Int))) < (((((((((x1).toL).getD ((x0).toInt).toNat D.nil)).toL).getD 0 D.nil)).toL).length : Int))) = true then
                    some [(((((((((x1).toL).getD ((x0).toInt).toNat D.nil)).toL).getD 0 D.nil)).toL).getD ((IntKind.i64.wrap ((IntKind.i64.wrap ((((((((x1).toL).getD ((x0).toInt).toNat D.nil)).toL).getD 1 D.nil)).toInt + (1 : Int))) - (1 : Int)))).toNat D.nil), (D.bool true), (D.agg (((x1).toL).set ((x0).toInt).toNat (D.agg (((List.range 2).map fun j => (((((x1).toL).getD ((x0).toInt).toNat D.nil)).toL).getD j D.nil).set 1 (D.int (IntKind.i64.wrap ((((((((x1).toL).getD ((x0).toInt).toNat D.nil)).toL).getD 1 D.nil)).toInt + (1 : Int))))))))]
                    else none
                  else none
                else none
              else none
            else none
          else none
      else none
    else none := (fixP_eq (t := T_p_tick_Tape_Take) (by rfl) _).trans (by kernel_rfl)
theorem E_p_tick_Tape_Left (x0 x1 : D) : FX 14 [x0, x1] =
  if (x0).isNil = true then
  some [(D.int (0 : Int))]
  else
  if (!(x0).isNil) = true then
    if (!(x0).isNil) = true then
      some [(D.int (IntKind.i64.wrap ((((((((((x1).toL).getD ((x0).toInt).toNat D.nil)).toL).getD 0 D.nil)).toL).length : Int) - (((((((x1).toL).getD ((x0).toInt).toNat D.nil)).toL).getD 1 D.nil)).toInt)))]
      else none
    else none := (fixP_eq (t := T_p_tick_Tape_Left) (by rfl) _).trans (by kernel_rfl)
theorem E_p_tick_Tape_Taken (x0 x1 : D) : FX 15 [x0, x1] =
  if (x0).isNil = true then
  some [(D.int (0 : Int))]
  else
  if (!(x0).isNil) = true then
    some [((((((x1).toL).getD ((x0).toInt).toNat D.nil)).toL).getD 1 D.nil)]
    else none := (fixP_eq (t := T_p_tick_Tape_Taken) (by rfl) _).trans (by kernel_rfl)
noncomputable def J_law04_TickDraws_1 (x0 x1 : D) : Eng.Fn := fun xs => evalP FX B_law04_TickDraws_1 [] ([x0, x1] ++ xs)
theorem J_law04_TickDraws_1_eq (x0 x1 : D) (a0 : D) : J_law04_TickDraws_1 x0 x1  [a0] =
  bindC (FX 12 [D.nil, (D.agg ((D.int (1 : Int)) :: [])), a0]) 1 fun r3 =>
  bindC (FX 13 [D.nil, (r3.getD 0 D.nil)]) 3 fun r4 =>
  bindC (FX 6 [(r4.getD 2 D.nil)]) 2 fun r7 =>
  if ((r7.getD 0 D.nil)).toBool = true then
  if (!((r4.getD 1 D.nil)).toBool) = true then
    bindC (FX 14 [D.nil, (r7.getD 1 D.nil)]) 1 fun r9 =>
      if (((r9.getD 0 D.nil)).toInt == (0 : Int)) = true then
      bindC (FX 15 [D.nil, (r7.getD 1 D.nil)]) 1 fun r10 =>
        some [(D.bool (((r10.getD 0 D.nil)).toInt == (0 : Int)))]
      else
      some [(D.bool false)]
    else
    some [(D.bool false)]
  else
  some [(D.bool false)] := by kernel_rfl
noncomputable def W_law04_TickDraws_4 (x0 x1 x2 x3 x4 x5 x6 x7 x8 : D) (g0 g1 : Eng.Fn) : Eng.Fn := loopF fun g xs => evalP FX B_law04_TickDraws_4 ([g0, g1] ++ [g]) ([x0, x1, x2, x3, x4, x5, x6, x7, x8] ++ xs)
theorem W_law04_TickDraws_4_eq (x0 x1 x2 x3 x4 x5 x6 x7 x8 : D) (g0 g1 : Eng.Fn) (a0 a1 a2 : D) : W_law04_TickDraws_4 x0 x1 x2 x3 x4 x5 x6 x7 x8 g0 g1 [a0, a1, a2] =
  if (decide ((a1).toInt < (x8).toInt)) = true then
  bindC (FX 13 [(D.int (0 : Int)), a2]) 3 fun r12 =>
    if (decide ((a0).toInt < ((((x4).toL ++ ((((x0).toL).getD ((x3).toInt).toNat D.nil)).toL)).length : Int))) = true then
    if (decide ((a0).toInt ≥ (0 : Int))) = true then
      if (decide ((a0).toInt < ((((x4).toL ++ ((((x0).toL).getD ((x3).toInt).toNat D.nil)).toL)).length : Int))) = true then
        if (((r12.getD 0 D.nil)).toInt != (((((x4).toL ++ ((((x0).toL).getD ((x3).toInt).toNat D.nil)).toL)).getD ((a0).toInt).toNat D.nil)).toInt) = true then
          some [(D.bool false)]
          else
          if (!(((r12.getD 1 D.nil)).toBool == (decide ((a0).toInt < ((((x4).toL ++ ((((x0).toL).getD ((x3).toInt).toNat D.nil)).toL)).length : Int))))) = true then
            some [(D.bool false)]
            else
            (W_law04_TickDraws_4 x0 x1 x2 x3 x4 x5 x6 x7 x8 g0 g1) [(D.int (IntKind.i64.wrap ((a0).toInt + (1 : Int)))), (D.int (IntKind.i64.wrap ((a1).toInt + (1 : Int)))), (r12.getD 2 D.nil)]
        else none
      else none
    else
    if (((r12.getD 0 D.nil)).toInt != (0 : Int)) = true then
      some [(D.bool false)]
      else
      if (!(((r12.getD 1 D.nil)).toBool == (decide ((a0).toInt < ((((x4).toL ++ ((((x0).toL).getD ((x3).toInt).toNat D.nil)).toL)).length : Int))))) = true then
        some [(D.bool false)]
        else
        (W_law04_TickDraws_4 x0 x1 x2 x3 x4 x5 x6 x7 x8 g0 g1) [a0, (D.int (IntKind.i64.wrap ((a1).toInt + (1 : Int)))), (r12.getD 2 D.nil)]
  else
  bindC (FX 14 [(D.int (0 : Int)), a2]) 1 fun r12 =>
    if (((r12.getD 0 D.nil)).toInt != (IntKind.i64.wrap (((((x4).toL ++ ((((x0).toL).getD ((x3).toInt).toNat D.nil)).toL)).length : Int) - (a0).toInt))) = true then
    some [(D.bool false)]
    else
    bindC (FX 15 [(D.int (0 : Int)), a2]) 1 fun r13 =>
      if (((r13.getD 0 D.nil)).toInt != (a0).toInt) = true then
      some [(D.bool false)]
      else
      g1 [a0, (D.int (IntKind.i64.wrap ((x3).toInt + (1 : Int)))), (D.agg ((x4).toL ++ ((((x0).toL).getD ((x3).toInt).toNat D.nil)).toL)), a2] := (loopP_eq FX B_law04_TickDraws_4 [g0, g1] [x0, x1, x2, x3, x4, x5, x6, x7, x8] _).trans (by kernel_rfl)
noncomputable def J_law04_TickDraws_3 (x0 x1 x2 x3 x4 x5 x6 : D) (g0 g1 : Eng.Fn) : Eng.Fn := fun xs => evalP FX B_law04_TickDraws_3 [g0, g1] ([x0, x1, x2, x3, x4, x5, x6] ++ xs)
theorem J_law04_TickDraws_3_eq (x0 x1 x2 x3 x4 x5 x6 : D) (g0 g1 : Eng.Fn) (a0 a1 : D) : J_law04_TickDraws_3 x0 x1 x2 x3 x4 x5 x6 g0 g1 [a0, a1] =
  W_law04_TickDraws_4 x0 x1 x2 x3 x4 x5 x6 a0 a1 g0 g1 [x2, (D.int (0 : Int)), a0] := by kernel_rfl
noncomputable def W_law04_TickDraws_2 (x0 x1 : D) (g0 : Eng.Fn) : Eng.Fn := loopF fun g xs => evalP FX B_law04_TickDraws_2 ([g0] ++ [g]) ([x0, x1] ++ xs)
theorem W_law04_TickDraws_2_eq (x0 x1 : D) (g0 : Eng.Fn) (a0 a1 a2 a3 : D) : W_law04_TickDraws_2 x0 x1 g0 [a0, a1, a2, a3] =
  if (decide ((a1).toInt < (((x0).toL).length : Int))) = true then
  if (decide ((a1).toInt ≥ (0 : Int))) = true then
    if (decide ((a1).toInt < (((x0).toL).length : Int))) = true then
      if (decide (((((((x0).toL).getD ((a1).toInt).toNat D.nil)).toL).length : Int) > (50 : Int))) = true then
        g0 [a3]
        else
        bindC (FX 12 [(D.int (0 : Int)), (((x0).toL).getD ((a1).toInt).toNat D.nil), a3]) 1 fun r6 =>
          if (decide (((((a2).toL ++ ((((x0).toL).getD ((a1).toInt).toNat D.nil)).toL)).length : Int) ≤ (17592186044416 : Int))) = true then
          if (decide ((a1).toInt < (((x1).toL).length : Int))) = true then
            if (decide ((a1).toInt ≥ (0 : Int))) = true then
              if (decide ((a1).toInt < (((x1).toL).length : Int))) = true then
                (J_law04_TickDraws_3 x0 x1 a0 a1 a2 a3 (r6.getD 0 D.nil) g0 (W_law04_TickDraws_2 x0 x1 g0)) [(r6.getD 0 D.nil), (D.int (IntKind.i64.wrap (Int.tmod ((((x1).toL).getD ((a1).toInt).toNat D.nil)).toInt (8 : Int))))]
                else none
              else none
            else
            (J_law04_TickDraws_3 x0 x1 a0 a1 a2 a3 (r6.getD 0 D.nil) g0 (W_law04_TickDraws_2 x0 x1 g0)) [(r6.getD 0 D.nil), (D.int (0 : Int))]
          else none
      else none
    else none
  else
  g0 [a3] := (loopP_eq FX B_law04_TickDraws_2 [g0] [x0, x1] _).trans (by kernel_rfl)
theorem E_law04_TickDraws (x0 x1 : D) : FX 4 [x0, x1] =
  if (decide ((((x0).toL).length : Int) > (50 : Int))) = true then
  bindC (FX 6 [(D.agg [])]) 2 fun r2 =>
    some [(r2.getD 0 D.nil)]
  else
  W_law04_TickDraws_2 x0 x1 ((J_law04_TickDraws_1 x0 x1)) [(D.int (0 : Int)), (D.int (0 : Int)), (D.agg []), (D.agg ((D.agg ((D.agg []) :: ((D.int (0 : Int)) :: []))) :: []))] := (fixP_eq (t := T_law04_TickDraws) (by rfl) _).trans (by kernel_rfl)
end Go.Proofs.Ytkfdphhloodhiaa
