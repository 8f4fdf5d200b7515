/-
  The functions, as equations.
-/
import Derived.Test.YtnaokofklgbbcaaDoorAll
namespace Go.Proofs.YtnaokofklgbbcaaDoor
open Go.Proofs.YtnaokofklgbbcaaDoor.Eng
set_option linter.unusedVariables false
set_option maxRecDepth 20000
theorem E_fault_At (x0 x1 : D) : FX 8 [x0, x1] =
  if (x1).isNil = true then
  some [D.nil]
  else
  some [(D.iface 47 (D.agg (x0 :: (x1 :: []))))] := (fixP_eq (t := T_fault_At) (by rfl) _).trans (by kernel_rfl)
theorem E_fault_Place (x0 x1 : D) : FX 10 [x0, x1] =
  bindC (FX 19 [x0, (D.iface 54 (D.int (((x1).toL).length : Int))), (D.agg ((x1).toL ++ ((D.agg (D.nil :: [])) :: [])))]) 2 fun r2 =>
  if ((r2.getD 0 D.nil)).toBool = true then
  if (!((((((((r2.getD 1 D.nil)).toL).getD ((((x1).toL).length : Int)).toNat D.nil)).toL).getD 0 D.nil)).isNil) = true then
    if (!((((((((r2.getD 1 D.nil)).toL).getD ((((x1).toL).length : Int)).toNat D.nil)).toL).getD 0 D.nil)).isNil) = true then
      some [((((((((((r2.getD 1 D.nil)).toL).getD ((((x1).toL).length : Int)).toNat D.nil)).toL).getD 0 D.nil)).toL).getD 0 D.nil), (D.bool true), (r2.getD 1 D.nil)]
      else none
    else
    some [(D.int (0 : Int)), (D.bool false), (r2.getD 1 D.nil)]
  else
  some [(D.int (0 : Int)), (D.bool false), (r2.getD 1 D.nil)] := (fixP_eq (t := T_fault_Place) (by rfl) _).trans (by kernel_rfl)
theorem E_fault_Code (x0 x1 : D) : FX 12 [x0, x1] =
  bindC (FX 19 [x0, (D.iface 56 (D.int (((x1).toL).length : Int))), (D.agg ((x1).toL ++ ((D.agg ((D.int (0 : Int)) :: [])) :: [])))]) 2 fun r2 =>
  if ((r2.getD 0 D.nil)).toBool = true then
  some [(((((((r2.getD 1 D.nil)).toL).getD ((((x1).toL).length : Int)).toNat D.nil)).toL).getD 0 D.nil), (r2.getD 1 D.nil)]
  else
  some [(D.int (0 : Int)), (r2.getD 1 D.nil)] := (fixP_eq (t := T_fault_Code) (by rfl) _).trans (by kernel_rfl)
theorem E_law01_awake (x0 : D) : FX 6 [x0] =
  bindC (FX 8 [(D.int (3 : Int)), (D.iface 27 (D.int (27 : Int)))]) 1 fun r1 =>
  bindC (FX 10 [(r1.getD 0 D.nil), x0]) 3 fun r2 =>
  if (!((r1.getD 0 D.nil)).isNil) = true then
  bindC (FX 12 [(r1.getD 0 D.nil), (r2.getD 2 D.nil)]) 2 fun r5 =>
    if (((r5.getD 0 D.nil)).toInt == (27 : Int)) = true then
    if ((r2.getD 1 D.nil)).toBool = true then
      if (((r2.getD 0 D.nil)).toInt == (3 : Int)) = true then
        bindC (FX 8 [(D.int (3 : Int)), D.nil]) 1 fun r7 =>
          some [(D.bool ((r7.getD 0 D.nil)).isNil), (r5.getD 1 D.nil)]
        else
        some [(D.bool false), (r5.getD 1 D.nil)]
      else
      some [(D.bool false), (r5.getD 1 D.nil)]
    else
    some [(D.bool false), (r5.getD 1 D.nil)]
  else
  some [(D.bool false), (r2.getD 2 D.nil)] := (fixP_eq (t := T_law01_awake) (by rfl) _).trans (by kernel_rfl)
theorem E_fault_With (x0 x1 : D) : FX 9 [x0, x1] =
  if (x1).isNil = true then
  some [D.nil]
  else
  some [(D.iface 50 (D.agg (x0 :: (x1 :: []))))] := (fixP_eq (t := T_fault_With) (by rfl) _).trans (by kernel_rfl)
noncomputable def W_law01_wrapped_1 (x0 x1 : D) : Eng.Fn := loopF fun g xs => evalP FX B_law01_wrapped_1 ([] ++ [g]) ([x0, x1] ++ xs)
theorem W_law01_wrapped_1_eq (x0 x1 : D) (a0 a1 : D) : W_law01_wrapped_1 x0 x1 [a0, a1] =
  if (decide ((a1).toInt ≥ (0 : Int))) = true then
  if (decide ((a1).toInt ≥ (0 : Int))) = true then
    if (decide ((a1).toInt < (((x0).toL).length : Int))) = true then
      if (((((((x0).toL).getD ((a1).toInt).toNat D.nil)).toL).getD 0 D.nil)).toBool = true then
        if (decide ((a1).toInt ≥ (0 : Int))) = true then
          if (decide ((a1).toInt < (((x0).toL).length : Int))) = true then
            bindC (FX 8 [((((((x0).toL).getD ((a1).toInt).toNat D.nil)).toL).getD 1 D.nil), a0]) 1 fun r4 =>
              (W_law01_wrapped_1 x0 x1) [(r4.getD 0 D.nil), (D.int (IntKind.i64.wrap ((a1).toInt - (1 : Int))))]
            else none
          else none
        else
        if (decide ((a1).toInt ≥ (0 : Int))) = true then
          if (decide ((a1).toInt < (((x0).toL).length : Int))) = true then
            bindC (FX 9 [((((((x0).toL).getD ((a1).toInt).toNat D.nil)).toL).getD 2 D.nil), a0]) 1 fun r4 =>
              (W_law01_wrapped_1 x0 x1) [(r4.getD 0 D.nil), (D.int (IntKind.i64.wrap ((a1).toInt - (1 : Int))))]
            else none
          else none
      else none
    else none
  else
  some [a0] := (loopP_eq FX B_law01_wrapped_1 [] [x0, x1] _).trans (by kernel_rfl)
theorem E_law01_wrapped (x0 x1 : D) : FX 7 [x0, x1] =
  W_law01_wrapped_1 x0 x1 [x1, (D.int (IntKind.i64.wrap ((((x0).toL).length : Int) - (1 : Int))))] := (fixP_eq (t := T_law01_wrapped) (by rfl) _).trans (by kernel_rfl)
noncomputable def W_fault_Words_1 (x0 x1 : D) : Eng.Fn := loopF fun g xs => evalP FX B_fault_Words_1 ([] ++ [g]) ([x0, x1] ++ xs)
theorem W_fault_Words_1_eq (x0 x1 : D) (a0 a1 a2 a3 : D) : W_fault_Words_1 x0 x1 [a0, a1, a2, a3] =
  bindC (FX 19 [a0, (D.iface 55 a1), a3]) 2 fun r6 =>
  if ((r6.getD 0 D.nil)).toBool = true then
  if (!(a1).isNil) = true then
    if (!((((((((r6.getD 1 D.nil)).toL).getD ((a1).toInt).toNat D.nil)).toL).getD 0 D.nil)).isNil) = true then
      if (!(a1).isNil) = true then
        if (!((((((((r6.getD 1 D.nil)).toL).getD ((a1).toInt).toNat D.nil)).toL).getD 0 D.nil)).isNil) = true then
          if (decide (((((a2).toL ++ (((((((((((r6.getD 1 D.nil)).toL).getD ((a1).toInt).toNat D.nil)).toL).getD 0 D.nil)).toL).getD 0 D.nil) :: []))).length : Int) ≤ (8796093022208 : Int))) = true then
            if (!(a1).isNil) = true then
              if (!((((((((r6.getD 1 D.nil)).toL).getD ((a1).toInt).toNat D.nil)).toL).getD 0 D.nil)).isNil) = true then
                (W_fault_Words_1 x0 x1) [((((((((((r6.getD 1 D.nil)).toL).getD ((a1).toInt).toNat D.nil)).toL).getD 0 D.nil)).toL).getD 1 D.nil), (D.int ((((r6.getD 1 D.nil)).toL).length : Int)), (D.agg ((a2).toL ++ (((((((((((r6.getD 1 D.nil)).toL).getD ((a1).toInt).toNat D.nil)).toL).getD 0 D.nil)).toL).getD 0 D.nil) :: []))), (D.agg (((r6.getD 1 D.nil)).toL ++ ((D.agg ((((((((r6.getD 1 D.nil)).toL).getD ((a1).toInt).toNat D.nil)).toL).getD 0 D.nil) :: [])) :: [])))]
                else none
              else none
            else none
          else none
        else none
      else
      some [a2, (r6.getD 1 D.nil)]
    else none
  else
  some [a2, (r6.getD 1 D.nil)] := (loopP_eq FX B_fault_Words_1 [] [x0, x1] _).trans (by kernel_rfl)
theorem E_fault_Words (x0 x1 : D) : FX 11 [x0, x1] =
  W_fault_Words_1 x0 x1 [x0, (D.int (((x1).toL).length : Int)), (D.agg []), (D.agg ((x1).toL ++ ((D.agg (D.nil :: [])) :: [])))] := (fixP_eq (t := T_fault_Words) (by rfl) _).trans (by kernel_rfl)
theorem E_law01_FaultDeep (x0 x1 x2 x3 : D) : FX 3 [x0, x1, x2, x3] =
  if (decide ((((x0).toL).length : Int) > (30 : Int))) = true then
  bindC (FX 6 [(D.agg [])]) 2 fun r4 =>
    some [(r4.getD 0 D.nil)]
  else
  if (decide ((((x2).toStr).size : Int) > (200 : Int))) = true then
    bindC (FX 6 [(D.agg [])]) 2 fun r4 =>
      some [(r4.getD 0 D.nil)]
    else
    bindC (FX 7 [x0, (D.iface 27 x3)]) 1 fun r4 =>
      bindC (FX 8 [x1, (r4.getD 0 D.nil)]) 1 fun r5 =>
      bindC (FX 9 [x2, (r4.getD 0 D.nil)]) 1 fun r6 =>
      bindC (FX 10 [(r5.getD 0 D.nil), (D.agg [])]) 3 fun r7 =>
      bindC (FX 10 [(r4.getD 0 D.nil), (r7.getD 2 D.nil)]) 3 fun r10 =>
      bindC (FX 10 [(r6.getD 0 D.nil), (r10.getD 2 D.nil)]) 3 fun r13 =>
      bindC (FX 11 [(r4.getD 0 D.nil), (r13.getD 2 D.nil)]) 2 fun r16 =>
      bindC (FX 11 [(r5.getD 0 D.nil), (r16.getD 1 D.nil)]) 2 fun r18 =>
      bindC (FX 11 [(r6.getD 0 D.nil), (r18.getD 1 D.nil)]) 2 fun r20 =>
      bindC (FX 6 [(r20.getD 1 D.nil)]) 2 fun r22 =>
      if ((r22.getD 0 D.nil)).toBool = true then
      if ((r7.getD 1 D.nil)).toBool = true then
        if (((r7.getD 0 D.nil)).toInt == (x1).toInt) = true then
          if (((r13.getD 0 D.nil)).toInt == ((r10.getD 0 D.nil)).toInt) = true then
            if (((r13.getD 1 D.nil)).toBool == ((r10.getD 1 D.nil)).toBool) = true then
              if (((((r16.getD 0 D.nil)).toL).length : Int) == ((((r18.getD 0 D.nil)).toL).length : Int)) = true then
                if (((((r20.getD 0 D.nil)).toL).length : Int) == (IntKind.i64.wrap (((((r16.getD 0 D.nil)).toL).length : Int) + (1 : Int)))) = true then
                  if (decide ((0 : Int) < ((((r20.getD 0 D.nil)).toL).length : Int))) = true then
                    if (scmpF .eql (((((r20.getD 0 D.nil)).toL).getD ((0 : Int)).toNat D.nil)).toStr (x2).toStr) = true then
                      bindC (FX 12 [(r5.getD 0 D.nil), (r22.getD 1 D.nil)]) 2 fun r24 =>
                        if (((r24.getD 0 D.nil)).toInt == (x3).toInt) = true then
                        bindC (FX 12 [(r6.getD 0 D.nil), (r24.getD 1 D.nil)]) 2 fun r26 =>
                          some [(D.bool (((r26.getD 0 D.nil)).toInt == (x3).toInt))]
                        else
                        some [(D.bool false)]
                      else
                      some [(D.bool false)]
                    else none
                  else
                  some [(D.bool false)]
                else
                some [(D.bool false)]
              else
              some [(D.bool false)]
            else
            some [(D.bool false)]
          else
          some [(D.bool false)]
        else
        some [(D.bool false)]
      else
      some [(D.bool false)] := (fixP_eq (t := T_law01_FaultDeep) (by rfl) _).trans (by kernel_rfl)
noncomputable def W_ref01_Place_1 (x0 : D) : Eng.Fn := loopF fun g xs => evalP FX B_ref01_Place_1 ([] ++ [g]) ([x0] ++ xs)
theorem W_ref01_Place_1_eq (x0 : D) (a0 : D) : W_ref01_Place_1 x0 [a0] =
  if (decide ((a0).toInt < (((x0).toL).length : Int))) = true then
  if (decide ((a0).toInt ≥ (0 : Int))) = true then
    if (decide ((a0).toInt < (((x0).toL).length : Int))) = true then
      if (((((((x0).toL).getD ((a0).toInt).toNat D.nil)).toL).getD 0 D.nil)).toBool = true then
        if (decide ((a0).toInt ≥ (0 : Int))) = true then
          if (decide ((a0).toInt < (((x0).toL).length : Int))) = true then
            some [((((((x0).toL).getD ((a0).toInt).toNat D.nil)).toL).getD 1 D.nil), (D.bool true)]
            else none
          else none
        else
        (W_ref01_Place_1 x0) [(D.int (IntKind.i64.wrap ((a0).toInt + (1 : Int))))]
      else none
    else none
  else
  some [(D.int (0 : Int)), (D.bool false)] := (loopP_eq FX B_ref01_Place_1 [] [x0] _).trans (by kernel_rfl)
theorem E_ref01_Place (x0 : D) : FX 13 [x0] =
  W_ref01_Place_1 x0 [(D.int (0 : Int))] := (fixP_eq (t := T_ref01_Place) (by rfl) _).trans (by kernel_rfl)
noncomputable def W_ref01_Words_1 (x0 : D) : Eng.Fn := loopF fun g xs => evalP FX B_ref01_Words_1 ([] ++ [g]) ([x0] ++ xs)
theorem W_ref01_Words_1_eq (x0 : D) (a0 a1 : D) : W_ref01_Words_1 x0 [a0, a1] =
  if (decide ((a0).toInt < (((x0).toL).length : Int))) = true then
  if (decide ((a0).toInt ≥ (0 : Int))) = true then
    if (decide ((a0).toInt < (((x0).toL).length : Int))) = true then
      if (!(((((((x0).toL).getD ((a0).toInt).toNat D.nil)).toL).getD 0 D.nil)).toBool) = true then
        if (decide ((a0).toInt ≥ (0 : Int))) = true then
          if (decide ((a0).toInt < (((x0).toL).length : Int))) = true then
            if (decide (((((a1).toL ++ (((((((x0).toL).getD ((a0).toInt).toNat D.nil)).toL).getD 2 D.nil) :: []))).length : Int) ≤ (8796093022208 : Int))) = true then
              (W_ref01_Words_1 x0) [(D.int (IntKind.i64.wrap ((a0).toInt + (1 : Int)))), (D.agg ((a1).toL ++ (((((((x0).toL).getD ((a0).toInt).toNat D.nil)).toL).getD 2 D.nil) :: [])))]
              else none
            else none
          else none
        else
        (W_ref01_Words_1 x0) [(D.int (IntKind.i64.wrap ((a0).toInt + (1 : Int)))), a1]
      else none
    else none
  else
  some [a1] := (loopP_eq FX B_ref01_Words_1 [] [x0] _).trans (by kernel_rfl)
theorem E_ref01_Words (x0 : D) : FX 14 [x0] =
  W_ref01_Words_1 x0 [(D.int (0 : Int)), (D.agg [])] := (fixP_eq (t := T_ref01_Words) (by rfl) _).trans (by kernel_rfl)
theorem E_fault_Has (x0 x1 : D) : FX 15 [x0, x1] =
  bindC (FX 16 [x0, (D.iface 27 x1)]) 1 fun r2 =>
  some [(r2.getD 0 D.nil)] := (fixP_eq (t := T_fault_Has) (by rfl) _).trans (by kernel_rfl)
noncomputable def W_law01_FaultWraps_1 (x0 x1 x2 x3 x4 x5 x6 x7 x8 x9 x10 x11 : D) : Eng.Fn := loopF fun g xs => evalP FX B_law01_FaultWraps_1 ([] ++ [g]) ([x0, x1, x2, x3, x4, x5, x6, x7, x8, x9, x10, x11] ++ xs)
theorem W_law01_FaultWraps_1_eq (x0 x1 x2 x3 x4 x5 x6 x7 x8 x9 x10 x11 : D) (a0 : D) : W_law01_FaultWraps_1 x0 x1 x2 x3 x4 x5 x6 x7 x8 x9 x10 x11 [a0] =
  if (decide ((a0).toInt < (((x9).toL).length : Int))) = true then
  if (decide ((a0).toInt ≥ (0 : Int))) = true then
    if (decide ((a0).toInt < (((x9).toL).length : Int))) = true then
      if (decide ((a0).toInt ≥ (0 : Int))) = true then
        if (decide ((a0).toInt < (((x11).toL).length : Int))) = true then
          if (scmpF .neq ((((x9).toL).getD ((a0).toInt).toNat D.nil)).toStr ((((x11).toL).getD ((a0).toInt).toNat D.nil)).toStr) = true then
            some [(D.bool false)]
            else
            (W_law01_FaultWraps_1 x0 x1 x2 x3 x4 x5 x6 x7 x8 x9 x10 x11) [(D.int (IntKind.i64.wrap ((a0).toInt + (1 : Int))))]
          else none
        else none
      else none
    else none
  else
  bindC (FX 6 [x10]) 2 fun r13 =>
    if ((r13.getD 0 D.nil)).toBool = true then
    bindC (FX 12 [x3, (r13.getD 1 D.nil)]) 2 fun r15 =>
      if (((r15.getD 0 D.nil)).toInt == (x1).toInt) = true then
      bindC (FX 15 [x3, x1]) 1 fun r17 =>
        if ((r17.getD 0 D.nil)).toBool = true then
        bindC (FX 15 [x3, x2]) 1 fun r18 =>
          if (((r18.getD 0 D.nil)).toBool == ((x1).toInt == (x2).toInt)) = true then
          bindC (FX 16 [x3, (D.iface 27 x1)]) 1 fun r19 =>
            if ((r19.getD 0 D.nil)).toBool = true then
            bindC (FX 7 [x0, D.nil]) 1 fun r20 =>
              some [(D.bool ((r20.getD 0 D.nil)).isNil)]
            else
            some [(D.bool false)]
          else
          some [(D.bool false)]
        else
        some [(D.bool false)]
      else
      some [(D.bool false)]
    else
    some [(D.bool false)] := (loopP_eq FX B_law01_FaultWraps_1 [] [x0, x1, x2, x3, x4, x5, x6, x7, x8, x9, x10, x11] _).trans (by kernel_rfl)
theorem E_law01_FaultWraps (x0 x1 x2 : D) : FX 4 [x0, x1, x2] =
  if (decide ((((x0).toL).length : Int) > (30 : Int))) = true then
  bindC (FX 6 [(D.agg [])]) 2 fun r3 =>
    some [(r3.getD 0 D.nil)]
  else
  bindC (FX 7 [x0, (D.iface 27 x1)]) 1 fun r3 =>
    bindC (FX 10 [(r3.getD 0 D.nil), (D.agg [])]) 3 fun r4 =>
    bindC (FX 13 [x0]) 2 fun r7 =>
    bindC (FX 11 [(r3.getD 0 D.nil), (r4.getD 2 D.nil)]) 2 fun r9 =>
    bindC (FX 14 [x0]) 1 fun r11 =>
    if (((r4.getD 0 D.nil)).toInt != ((r7.getD 0 D.nil)).toInt) = true then
    some [(D.bool false)]
    else
    if (!(((r4.getD 1 D.nil)).toBool == ((r7.getD 1 D.nil)).toBool)) = true then
      some [(D.bool false)]
      else
      if (((((r9.getD 0 D.nil)).toL).length : Int) != ((((r11.getD 0 D.nil)).toL).length : Int)) = true then
        some [(D.bool false)]
        else
        W_law01_FaultWraps_1 x0 x1 x2 (r3.getD 0 D.nil) (r4.getD 0 D.nil) (r4.getD 1 D.nil) (r4.getD 2 D.nil) (r7.getD 0 D.nil) (r7.getD 1 D.nil) (r9.getD 0 D.nil) (r9.getD 1 D.nil) (r11.getD 0 D.nil) [(D.int (0 : Int))] := (fixP_eq (t := T_law01_FaultWraps) (by rfl) _).trans (by kernel_rfl)
noncomputable def W_fault_All_1 (x0 : D) : Eng.Fn := loopF fun g xs => evalP FX B_fault_All_1 ([] ++ [g]) ([x0] ++ xs)
theorem W_fault_All_1_eq (x0 : D) (a0 a1 : D) : W_fault_All_1 x0 [a0, a1] =
  if (decide ((a0).toInt < (((x0).toL).length : Int))) = true then
  if (decide ((a0).toInt ≥ (0 : Int))) = true then
    if (decide ((a0).toInt < (((x0).toL).length : Int))) = true then
      if (!((((x0).toL).getD ((a0).toInt).toNat D.nil)).isNil) = true then
        if (decide (((((a1).toL ++ ((((x0).toL).getD ((a0).toInt).toNat D.nil) :: []))).length : Int) ≤ (8796093022208 : Int))) = true then
          (W_fault_All_1 x0) [(D.int (IntKind.i64.wrap ((a0).toInt + (1 : Int)))), (D.agg ((a1).toL ++ ((((x0).toL).getD ((a0).toInt).toNat D.nil) :: [])))]
          else none
        else
        (W_fault_All_1 x0) [(D.int (IntKind.i64.wrap ((a0).toInt + (1 : Int)))), a1]
      else none
    else none
  else
  if ((((a1).toL).length : Int) == (0 : Int)) = true then
    some [D.nil]
    else
    some [(D.iface 61 a1)] := (loopP_eq FX B_fault_All_1 [] [x0] _).trans (by kernel_rfl)
theorem E_fault_All (x0 : D) : FX 17 [x0] =
  W_fault_All_1 x0 [(D.int (0 : Int)), (D.agg [])] := (fixP_eq (t := T_fault_All) (by rfl) _).trans (by kernel_rfl)
noncomputable def W_fault_First_1 (x0 : D) : Eng.Fn := loopF fun g xs => evalP FX B_fault_First_1 ([] ++ [g]) ([x0] ++ xs)
theorem W_fault_First_1_eq (x0 : D) (a0 : D) : W_fault_First_1 x0 [a0] =
  if (decide ((a0).toInt < (((x0).toL).length : Int))) = true then
  if (decide ((a0).toInt ≥ (0 : Int))) = true then
    if (decide ((a0).toInt < (((x0).toL).length : Int))) = true then
      if (!((((x0).toL).getD ((a0).toInt).toNat D.nil)).isNil) = true then
        some [(((x0).toL).getD ((a0).toInt).toNat D.nil)]
        else
        (W_fault_First_1 x0) [(D.int (IntKind.i64.wrap ((a0).toInt + (1 : Int))))]
      else none
    else none
  else
  some [D.nil] := (loopP_eq FX B_fault_First_1 [] [x0] _).trans (by kernel_rfl)
theorem E_fault_First (x0 : D) : FX 18 [x0] =
  W_fault_First_1 x0 [(D.int (0 : Int))] := (fixP_eq (t := T_fault_First) (by rfl) _).trans (by kernel_rfl)
noncomputable def W_law01_FaultMany_2 (x0 x1 x2 x3 x4 x5 x6 x7 x8 : D) (g0 : Eng.Fn) : Eng.Fn := loopF fun g xs => evalP FX B_law01_FaultMany_2 ([g0] ++ [g]) ([x0, x1, x2, x3, x4, x5, x6, x7, x8] ++ xs)
theorem W_law01_FaultMany_2_eq (x0 x1 x2 x3 x4 x5 x6 x7 x8 : D) (g0 : Eng.Fn) (a0 a1 : D) : W_law01_FaultMany_2 x0 x1 x2 x3 x4 x5 x6 x7 x8 g0 [a0, a1] =
  if (decide ((a1).toInt < (((x0).toL).length : Int))) = true then
  if (decide ((a1).toInt ≥ (0 : Int))) = true then
    if (decide ((a1).toInt < (((x0).toL).length : Int))) = true then
      if (decide ((Int.tmod (a1).toInt (8 : Int)) ≥ (0 : Int))) = true then
        if ((arF .and .u8 (arF .shr .u8 (x1).toInt (Int.tmod (a1).toInt (8 : Int))) (1 : Int)) == (0 : Int)) = true then
          if (a0).toBool = true then
            bindC (FX 15 [x7, (((x0).toL).getD ((a1).toInt).toNat D.nil)]) 1 fun r11 =>
              if (!((r11.getD 0 D.nil)).toBool) = true then
              some [(D.bool false)]
              else
              (W_law01_FaultMany_2 x0 x1 x2 x3 x4 x5 x6 x7 x8 g0) [(D.bool true), (D.int (IntKind.i64.wrap ((a1).toInt + (1 : Int))))]
            else
            bindC (FX 15 [x7, (((x0).toL).getD ((a1).toInt).toNat D.nil)]) 1 fun r11 =>
              if (!((r11.getD 0 D.nil)).toBool) = true then
              some [(D.bool false)]
              else
              (W_law01_FaultMany_2 x0 x1 x2 x3 x4 x5 x6 x7 x8 g0) [(D.bool (((((x0).toL).getD ((a1).toInt).toNat D.nil)).toInt == (x2).toInt)), (D.int (IntKind.i64.wrap ((a1).toInt + (1 : Int))))]
          else
          (W_law01_FaultMany_2 x0 x1 x2 x3 x4 x5 x6 x7 x8 g0) [a0, (D.int (IntKind.i64.wrap ((a1).toInt + (1 : Int))))]
        else none
      else none
    else none
  else
  bindC (FX 6 [(D.agg [])]) 2 fun r11 =>
    if ((r11.getD 0 D.nil)).toBool = true then
    if (!(x7).isNil) = true then
      if (!(x8).isNil) = true then
        bindC (FX 15 [x7, x2]) 1 fun r13 =>
          if (((r13.getD 0 D.nil)).toBool == (a0).toBool) = true then
          bindC (FX 12 [x7, (r11.getD 1 D.nil)]) 2 fun r14 =>
            if (((r14.getD 0 D.nil)).toInt == (x3).toInt) = true then
            bindC (FX 12 [x8, (r14.getD 1 D.nil)]) 2 fun r16 =>
              some [(D.bool (((r16.getD 0 D.nil)).toInt == (x3).toInt))]
            else
            some [(D.bool false)]
          else
          some [(D.bool false)]
        else
        some [(D.bool false)]
      else
      some [(D.bool false)]
    else
    some [(D.bool false)] := (loopP_eq FX B_law01_FaultMany_2 [g0] [x0, x1, x2, x3, x4, x5, x6, x7, x8] _).trans (by kernel_rfl)
noncomputable def W_law01_FaultMany_1 (x0 x1 x2 : D) : Eng.Fn := loopF fun g xs => evalP FX B_law01_FaultMany_1 ([] ++ [g]) ([x0, x1, x2] ++ xs)
theorem W_law01_FaultMany_1_eq (x0 x1 x2 : D) (a0 a1 a2 a3 : D) : W_law01_FaultMany_1 x0 x1 x2 [a0, a1, a2, a3] =
  if (decide ((a2).toInt < (((x0).toL).length : Int))) = true then
  if (decide ((a2).toInt ≥ (0 : Int))) = true then
    if (decide ((a2).toInt < (((x0).toL).length : Int))) = true then
      if (decide ((Int.tmod (a2).toInt (8 : Int)) ≥ (0 : Int))) = true then
        if ((arF .and .u8 (arF .shr .u8 (x1).toInt (Int.tmod (a2).toInt (8 : Int))) (1 : Int)) == (1 : Int)) = true then
          if (decide (((((a3).toL ++ (D.nil :: []))).length : Int) ≤ (8796093022208 : Int))) = true then
            (W_law01_FaultMany_1 x0 x1 x2) [a0, a1, (D.int (IntKind.i64.wrap ((a2).toInt + (1 : Int)))), (D.agg ((a3).toL ++ (D.nil :: [])))]
            else none
          else
          if (!(a1).toBool) = true then
            bindC (FX 9 [(D.str ((.mk #[119]))), (D.iface 27 (((x0).toL).getD ((a2).toInt).toNat D.nil))]) 1 fun r7 =>
              if (decide (((((a3).toL ++ ((r7.getD 0 D.nil) :: []))).length : Int) ≤ (8796093022208 : Int))) = true then
              (W_law01_FaultMany_1 x0 x1 x2) [(((x0).toL).getD ((a2).toInt).toNat D.nil), (D.bool true), (D.int (IntKind.i64.wrap ((a2).toInt + (1 : Int)))), (D.agg ((a3).toL ++ ((r7.getD 0 D.nil) :: [])))]
              else none
            else
            bindC (FX 9 [(D.str ((.mk #[119]))), (D.iface 27 (((x0).toL).getD ((a2).toInt).toNat D.nil))]) 1 fun r7 =>
              if (decide (((((a3).toL ++ ((r7.getD 0 D.nil) :: []))).length : Int) ≤ (8796093022208 : Int))) = true then
              (W_law01_FaultMany_1 x0 x1 x2) [a0, (D.bool true), (D.int (IntKind.i64.wrap ((a2).toInt + (1 : Int)))), (D.agg ((a3).toL ++ ((r7.getD 0 D.nil) :: [])))]
              else none
        else none
      else none
    else none
  else
  bindC (FX 17 [a3]) 1 fun r7 =>
    bindC (FX 18 [a3]) 1 fun r8 =>
    if (!(a1).toBool) = true then
    bindC (FX 6 [(D.agg [])]) 2 fun r9 =>
      if ((r9.getD 0 D.nil)).toBool = true then
      if ((r7.getD 0 D.nil)).isNil = true then
        some [(D.bool ((r8.getD 0 D.nil)).isNil)]
        else
        some [(D.bool false)]
      else
      some [(D.bool false)]
    else
    W_law01_FaultMany_2 x0 x1 x2 a0 a1 a2 a3 (r7.getD 0 D.nil) (r8.getD 0 D.nil) ((W_law01_FaultMany_1 x0 x1 x2)) [(D.bool false), (D.int (0 : Int))] := (loopP_eq FX B_law01_FaultMany_1 [] [x0, x1, x2] _).trans (by kernel_rfl)
theorem E_law01_FaultMany (x0 x1 x2 : D) : FX 5 [x0, x1, x2] =
  if (decide ((((x0).toL).length : Int) > (30 : Int))) = true then
  bindC (FX 6 [(D.agg [])]) 2 fun r3 =>
    some [(r3.getD 0 D.nil)]
  else
  W_law01_FaultMany_1 x0 x1 x2 [(D.int (0 : Int)), (D.bool false), (D.int (0 : Int)), (D.agg [])] := (fixP_eq (t := T_law01_FaultMany) (by rfl) _).trans (by kernel_rfl)
end Go.Proofs.YtnaokofklgbbcaaDoor
