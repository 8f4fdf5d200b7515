/-
  The functions, as equations.
-/
import Derived.Test.YtofkbhilhgmnlaaAllEB
namespace Go.Proofs.Ytofkbhilhgmnlaa
open Go.Proofs.Ytofkbhilhgmnlaa.Eng
set_option linter.unusedVariables false
set_option maxRecDepth 20000
theorem E_p_trace_Model_ends (x0 x1 x2 x3 x4 x5 x6 x7 x8 x9 x10 x11 x12 x13 x14 x15 : D) : FX 19 [x0, x1, x2, x3, x4, x5, x6, x7, x8, x9, x10, x11, x12, x13, x14, x15] =
  bindC (FX 27 [x0, x2, x3, x15]) 2 fun r16 =>
  if (!((r16.getD 1 D.nil)).isNil) = true then
  some [(r16.getD 1 D.nil), x15]
  else
  if (!(x0).isNil) = true then
    if (decide (((r16.getD 0 D.nil)).toInt ≥ (0 : Int))) = true then
      if (decide (((r16.getD 0 D.nil)).toInt < (((((((((x15).toL).getD ((x0).toInt).toNat D.nil)).toL).getD 7 D.nil)).toL).length : Int))) = true then
        bindC (FX 29 [x0, ((((((((((((x15).toL).getD ((x0).toInt).toNat D.nil)).toL).getD 7 D.nil)).toL).getD (((r16.getD 0 D.nil)).toInt).toNat D.nil)).toL).getD 0 D.nil), ((((((((((((x15).toL).getD ((x0).toInt).toNat D.nil)).toL).getD 7 D.nil)).toL).getD (((r16.getD 0 D.nil)).toInt).toNat D.nil)).toL).getD 1 D.nil), ((((((((((((x15).toL).getD ((x0).toInt).toNat D.nil)).toL).getD 7 D.nil)).toL).getD (((r16.getD 0 D.nil)).toInt).toNat D.nil)).toL).getD 2 D.nil), ((((((((((((x15).toL).getD ((x0).toInt).toNat D.nil)).toL).getD 7 D.nil)).toL).getD (((r16.getD 0 D.nil)).toInt).toNat D.nil)).toL).getD 3 D.nil), ((((((((((((x15).toL).getD ((x0).toInt).toNat D.nil)).toL).getD 7 D.nil)).toL).getD (((r16.getD 0 D.nil)).toInt).toNat D.nil)).toL).getD 4 D.nil), ((((((((((((x15).toL).getD ((x0).toInt).toNat D.nil)).toL).getD 7 D.nil)).toL).getD (((r16.getD 0 D.nil)).toInt).toNat D.nil)).toL).getD 5 D.nil), ((((((((((((x15).toL).getD ((x0).toInt).toNat D.nil)).toL).getD 7 D.nil)).toL).getD (((r16.getD 0 D.nil)).toInt).toNat D.nil)).toL).getD 6 D.nil), ((((((((((((x15).toL).getD ((x0).toInt).toNat D.nil)).toL).getD 7 D.nil)).toL).getD (((r16.getD 0 D.nil)).toInt).toNat D.nil)).toL).getD 7 D.nil), ((((((((((((x15).toL).getD ((x0).toInt).toNat D.nil)).toL).getD 7 D.nil)).toL).getD (((r16.getD 0 D.nil)).toInt).toNat D.nil)).toL).getD 8 D.nil), ((((((((((((x15).toL).getD ((x0).toInt).toNat D.nil)).toL).getD 7 D.nil)).toL).getD (((r16.getD 0 D.nil)).toInt).toNat D.nil)).toL).getD 9 D.nil), ((((((((((((x15).toL).getD ((x0).toInt).toNat D.nil)).toL).getD 7 D.nil)).toL).getD (((r16.getD 0 D.nil)).toInt).toNat D.nil)).toL).getD 10 D.nil), ((((((((((((x15).toL).getD ((x0).toInt).toNat D.nil)).toL).getD 7 D.nil)).toL).getD (((r16.getD 0 D.nil)).toInt).toNat D.nil)).toL).getD 11 D.nil), ((((((((((((x15).toL).getD ((x0).toInt).toNat D.nil)).toL).getD 7 D.nil)).toL).getD (((r16.getD 0 D.nil)).toInt).toNat D.nil)).toL).getD 12 D.nil), x15]) 1 fun r18 =>
          if ((x1).toInt == (5 : Int)) = true then
          if (decide ((x13).toInt < (((((((((((((x15).toL).getD ((x0).toInt).toNat D.nil)).toL).getD 7 D.nil)).toL).getD (((r16.getD 0 D.nil)).toInt).toNat D.nil)).toL).getD 6 D.nil)).toInt)) = true then
            some [(D.iface 58 (D.int (26 : Int))), x15]
            else
            if (((r18.getD 0 D.nil)).toInt != (0 : Int)) = true then
              some [(D.iface 58 (D.int (26 : Int))), x15]
              else
              if (((((((((((((x15).toL).getD ((x0).toInt).toNat D.nil)).toL).getD 7 D.nil)).toL).getD (((r16.getD 0 D.nil)).toInt).toNat D.nil)).toL).getD 10 D.nil)).toBool = true then
                some [(D.iface 58 (D.int (26 : Int))), x15]
                else
                some [D.nil, (D.agg (((x15).toL).set ((x0).toInt).toNat (D.agg (((List.range 9).map fun j => (((((x15).toL).getD ((x0).toInt).toNat D.nil)).toL).getD j D.nil).set 7 (D.agg (((((((((x15).toL).getD ((x0).toInt).toNat D.nil)).toL).getD 7 D.nil)).toL).set (((r16.getD 0 D.nil)).toInt).toNat (D.agg (((List.range 13).map fun j => (((((((((((x15).toL).getD ((x0).toInt).toNat D.nil)).toL).getD 7 D.nil)).toL).getD (((r16.getD 0 D.nil)).toInt).toNat D.nil)).toL).getD j D.nil).set 12 (D.int (7 : Int))))))))))]
          else
          if ((x1).toInt == (3 : Int)) = true then
            if (((r18.getD 0 D.nil)).toInt != (0 : Int)) = true then
              some [(D.iface 58 (D.int (29 : Int))), x15]
              else
              if (((((((((((((x15).toL).getD ((x0).toInt).toNat D.nil)).toL).getD 7 D.nil)).toL).getD (((r16.getD 0 D.nil)).toInt).toNat D.nil)).toL).getD 10 D.nil)).toBool = true then
                some [(D.iface 58 (D.int (29 : Int))), x15]
                else
                some [D.nil, (D.agg (((x15).toL).set ((x0).toInt).toNat (D.agg (((List.range 9).map fun j => (((((x15).toL).getD ((x0).toInt).toNat D.nil)).toL).getD j D.nil).set 7 (D.agg (((((((((x15).toL).getD ((x0).toInt).toNat D.nil)).toL).getD 7 D.nil)).toL).set (((r16.getD 0 D.nil)).toInt).toNat (D.agg (((List.range 13).map fun j => (((((((((((x15).toL).getD ((x0).toInt).toNat D.nil)).toL).getD 7 D.nil)).toL).getD (((r16.getD 0 D.nil)).toInt).toNat D.nil)).toL).getD j D.nil).set 12 (D.int (6 : Int))))))))))]
            else
            if ((x1).toInt == (7 : Int)) = true then
              if (((r18.getD 0 D.nil)).toInt == (0 : Int)) = true then
                if (((((((((((((x15).toL).getD ((x0).toInt).toNat D.nil)).toL).getD 7 D.nil)).toL).getD (((r16.getD 0 D.nil)).toInt).toNat D.nil)).toL).getD 10 D.nil)).toBool = true then
                  if ((6 : Int) != (x14).toInt) = true then
                    some [(D.iface 58 (D.int (1 : Int))), x15]
                    else
                    some [D.nil, (D.agg (((x15).toL).set ((x0).toInt).toNat (D.agg (((List.range 9).map fun j => (((((x15).toL).getD ((x0).toInt).toNat D.nil)).toL).getD j D.nil).set 7 (D.agg (((((((((x15).toL).getD ((x0).toInt).toNat D.nil)).toL).getD 7 D.nil)).toL).set (((r16.getD 0 D.nil)).toInt).toNat (D.agg (((List.range 13).map fun j => (((((((((((x15).toL).getD ((x0).toInt).toNat D.nil)).toL).getD 7 D.nil)).toL).getD (((r16.getD 0 D.nil)).toInt).toNat D.nil)).toL).getD j D.nil).set 12 (D.int (6 : Int))))))))))]
                  else
                  some [(D.iface 58 (D.int (1 : Int))), x15]
                else
                if (((r18.getD 0 D.nil)).toInt != (x14).toInt) = true then
                  some [(D.iface 58 (D.int (1 : Int))), x15]
                  else
                  some [D.nil, (D.agg (((x15).toL).set ((x0).toInt).toNat (D.agg (((List.range 9).map fun j => (((((x15).toL).getD ((x0).toInt).toNat D.nil)).toL).getD j D.nil).set 7 (D.agg (((((((((x15).toL).getD ((x0).toInt).toNat D.nil)).toL).getD 7 D.nil)).toL).set (((r16.getD 0 D.nil)).toInt).toNat (D.agg (((List.range 13).map fun j => (((((((((((x15).toL).getD ((x0).toInt).toNat D.nil)).toL).getD 7 D.nil)).toL).getD (((r16.getD 0 D.nil)).toInt).toNat D.nil)).toL).getD j D.nil).set 12 (r18.getD 0 D.nil)))))))))]
              else
              some [D.nil, (D.agg (((x15).toL).set ((x0).toInt).toNat (D.agg (((List.range 9).map fun j => (((((x15).toL).getD ((x0).toInt).toNat D.nil)).toL).getD j D.nil).set 7 (D.agg (((((((((x15).toL).getD ((x0).toInt).toNat D.nil)).toL).getD 7 D.nil)).toL).set (((r16.getD 0 D.nil)).toInt).toNat (D.agg (((List.range 13).map fun j => (((((((((((x15).toL).getD ((x0).toInt).toNat D.nil)).toL).getD 7 D.nil)).toL).getD (((r16.getD 0 D.nil)).toInt).toNat D.nil)).toL).getD j D.nil).set 12 (r18.getD 0 D.nil)))))))))]
        else none
      else none
    else none := (fixP_eq (t := T_p_trace_Model_ends) (by rfl) _).trans (by kernel_rfl)
theorem E_p_trace_Model_turn (x0 x1 x2 x3 x4 x5 x6 x7 x8 x9 x10 x11 x12 x13 x14 x15 : D) : FX 20 [x0, x1, x2, x3, x4, x5, x6, x7, x8, x9, x10, x11, x12, x13, x14, x15] =
  bindC (FX 27 [x0, x2, x3, x15]) 2 fun r16 =>
  if (!((r16.getD 1 D.nil)).isNil) = true then
  some [(r16.getD 1 D.nil), x15]
  else
  if (!(x0).isNil) = true then
    if (decide (((r16.getD 0 D.nil)).toInt ≥ (0 : Int))) = true then
      if (decide (((r16.getD 0 D.nil)).toInt < (((((((((x15).toL).getD ((x0).toInt).toNat D.nil)).toL).getD 7 D.nil)).toL).length : Int))) = true then
        if ((x1).toInt == (6 : Int)) = true then
          if (((((((((((((x15).toL).getD ((x0).toInt).toNat D.nil)).toL).getD 7 D.nil)).toL).getD (((r16.getD 0 D.nil)).toInt).toNat D.nil)).toL).getD 11 D.nil)).toBool = true then
            some [(D.iface 58 (D.int (1 : Int))), x15]
            else
            some [D.nil, (D.agg (((x15).toL).set ((x0).toInt).toNat (D.agg (((List.range 9).map fun j => (((((x15).toL).getD ((x0).toInt).toNat D.nil)).toL).getD j D.nil).set 7 (D.agg (((((((((x15).toL).getD ((x0).toInt).toNat D.nil)).toL).getD 7 D.nil)).toL).set (((r16.getD 0 D.nil)).toInt).toNat (D.agg (((List.range 13).map fun j => (((((((((((x15).toL).getD ((x0).toInt).toNat D.nil)).toL).getD 7 D.nil)).toL).getD (((r16.getD 0 D.nil)).toInt).toNat D.nil)).toL).getD j D.nil).set 11 (D.bool true)))))))))]
          else
          if (((((((((((((x15).toL).getD ((x0).toInt).toNat D.nil)).toL).getD 7 D.nil)).toL).getD (((r16.getD 0 D.nil)).toInt).toNat D.nil)).toL).getD 10 D.nil)).toBool = true then
            some [(D.iface 58 (D.int (1 : Int))), x15]
            else
            some [D.nil, (D.agg (((x15).toL).set ((x0).toInt).toNat (D.agg (((List.range 9).map fun j => (((((x15).toL).getD ((x0).toInt).toNat D.nil)).toL).getD j D.nil).set 7 (D.agg (((((((((x15).toL).getD ((x0).toInt).toNat D.nil)).toL).getD 7 D.nil)).toL).set (((r16.getD 0 D.nil)).toInt).toNat (D.agg (((List.range 13).map fun j => (((((((((((x15).toL).getD ((x0).toInt).toNat D.nil)).toL).getD 7 D.nil)).toL).getD (((r16.getD 0 D.nil)).toInt).toNat D.nil)).toL).getD j D.nil).set 10 (D.bool true)))))))))]
        else none
      else none
    else none := (fixP_eq (t := T_p_trace_Model_turn) (by rfl) _).trans (by kernel_rfl)
noncomputable def J_p_trace_Model_Do_1 (x0 x1 x2 x3 x4 x5 x6 x7 x8 x9 x10 x11 x12 x13 x14 x15 : D) : Eng.Fn := fun xs => evalP FX B_p_trace_Model_Do_1 [] ([x0, x1, x2, x3, x4, x5, x6, x7, x8, x9, x10, x11, x12, x13, x14, x15] ++ xs)
theorem J_p_trace_Model_Do_1_eq (x0 x1 x2 x3 x4 x5 x6 x7 x8 x9 x10 x11 x12 x13 x14 x15 : D) (a0 a1 : D) : J_p_trace_Model_Do_1 x0 x1 x2 x3 x4 x5 x6 x7 x8 x9 x10 x11 x12 x13 x14 x15  [a0, a1] =
  if (a1).isNil = true then
  if (!(x0).isNil) = true then
    some [a1, (D.agg (((a0).toL).set ((x0).toInt).toNat (D.agg (((List.range 9).map fun j => (((((a0).toL).getD ((x0).toInt).toNat D.nil)).toL).getD j D.nil).set 8 x13))))]
    else none
  else
  some [a1, a0] := by kernel_rfl
noncomputable def J_p_trace_Model_Do_2 (x0 x1 x2 x3 x4 x5 x6 x7 x8 x9 x10 x11 x12 x13 x14 x15 : D) (g0 : Eng.Fn) : Eng.Fn := fun xs => evalP FX B_p_trace_Model_Do_2 [g0] ([x0, x1, x2, x3, x4, x5, x6, x7, x8, x9, x10, x11, x12, x13, x14, x15] ++ xs)
theorem J_p_trace_Model_Do_2_eq (x0 x1 x2 x3 x4 x5 x6 x7 x8 x9 x10 x11 x12 x13 x14 x15 : D) (g0 : Eng.Fn) (a0 a1 : D) : J_p_trace_Model_Do_2 x0 x1 x2 x3 x4 x5 x6 x7 x8 x9 x10 x11 x12 x13 x14 x15 g0 [a0, a1] =
  if (a1).toBool = true then
  bindC (FX 19 [x0, x1, x2, x3, x4, x5, x6, x7, x8, x9, x10, x11, x12, x13, x14, a0]) 2 fun r18 =>
    g0 [(r18.getD 1 D.nil), (r18.getD 0 D.nil)]
  else
  if ((x1).toInt == (4 : Int)) = true then
    bindC (FX 20 [x0, x1, x2, x3, x4, x5, x6, x7, x8, x9, x10, x11, x12, x13, x14, a0]) 2 fun r18 =>
      g0 [(r18.getD 1 D.nil), (r18.getD 0 D.nil)]
    else
    if ((x1).toInt == (6 : Int)) = true then
      bindC (FX 20 [x0, x1, x2, x3, x4, x5, x6, x7, x8, x9, x10, x11, x12, x13, x14, a0]) 2 fun r18 =>
        g0 [(r18.getD 1 D.nil), (r18.getD 0 D.nil)]
      else
      g0 [a0, (D.iface 58 (D.int (6 : Int)))] := by kernel_rfl
theorem E_p_trace_Model_Do (x0 x1 x2 x3 x4 x5 x6 x7 x8 x9 x10 x11 x12 x13 x14 x15 : D) : FX 9 [x0, x1, x2, x3, x4, x5, x6, x7, x8, x9, x10, x11, x12, x13, x14, x15] =
  if (x0).isNil = true then
  some [(D.iface 58 (D.int (2 : Int))), x15]
  else
  if (!(x0).isNil) = true then
    if (decide ((x13).toInt < (((((((x15).toL).getD ((x0).toInt).toNat D.nil)).toL).getD 8 D.nil)).toInt)) = true then
      some [(D.iface 58 (D.int (5 : Int))), x15]
      else
      if ((x1).toInt == (1 : Int)) = true then
        bindC (FX 17 [x0, x1, x2, x3, x4, x5, x6, x7, x8, x9, x10, x11, x12, x13, x14, x15]) 2 fun r16 =>
          (J_p_trace_Model_Do_1 x0 x1 x2 x3 x4 x5 x6 x7 x8 x9 x10 x11 x12 x13 x14 x15) [(r16.getD 1 D.nil), (r16.getD 0 D.nil)]
        else
        if ((x1).toInt == (2 : Int)) = true then
          bindC (FX 18 [x0, x1, x2, x3, x4, x5, x6, x7, x8, x9, x10, x11, x12, x13, x14, x15]) 2 fun r16 =>
            (J_p_trace_Model_Do_1 x0 x1 x2 x3 x4 x5 x6 x7 x8 x9 x10 x11 x12 x13 x14 x15) [(r16.getD 1 D.nil), (r16.getD 0 D.nil)]
          else
          if ((x1).toInt == (3 : Int)) = true then
            (J_p_trace_Model_Do_2 x0 x1 x2 x3 x4 x5 x6 x7 x8 x9 x10 x11 x12 x13 x14 x15 (J_p_trace_Model_Do_1 x0 x1 x2 x3 x4 x5 x6 x7 x8 x9 x10 x11 x12 x13 x14 x15)) [x15, (D.bool ((x1).toInt == (3 : Int)))]
            else
            if ((x1).toInt == (5 : Int)) = true then
              (J_p_trace_Model_Do_2 x0 x1 x2 x3 x4 x5 x6 x7 x8 x9 x10 x11 x12 x13 x14 x15 (J_p_trace_Model_Do_1 x0 x1 x2 x3 x4 x5 x6 x7 x8 x9 x10 x11 x12 x13 x14 x15)) [x15, (D.bool ((x1).toInt == (5 : Int)))]
              else
              (J_p_trace_Model_Do_2 x0 x1 x2 x3 x4 x5 x6 x7 x8 x9 x10 x11 x12 x13 x14 x15 (J_p_trace_Model_Do_1 x0 x1 x2 x3 x4 x5 x6 x7 x8 x9 x10 x11 x12 x13 x14 x15)) [x15, (D.bool ((x1).toInt == (7 : Int)))]
    else none := (fixP_eq (t := T_p_trace_Model_Do) (by rfl) _).trans (by kernel_rfl)
noncomputable def W_trace_Play_1 (x0 x1 x2 x3 x4 x5 x6 x7 x8 x9 x10 : D) : Eng.Fn := loopF fun g xs => evalP FX B_trace_Play_1 ([] ++ [g]) ([x0, x1, x2, x3, x4, x5, x6, x7, x8, x9, x10] ++ xs)
theorem W_trace_Play_1_eq (x0 x1 x2 x3 x4 x5 x6 x7 x8 x9 x10 : D) (a0 a1 : D) : W_trace_Play_1 x0 x1 x2 x3 x4 x5 x6 x7 x8 x9 x10 [a0, a1] =
  if (decide ((a0).toInt < (((x7).toL).length : Int))) = true then
  if (decide ((a0).toInt ≥ (0 : Int))) = true then
    if (decide ((a0).toInt < (((x7).toL).length : Int))) = true then
      bindC (FX 9 [x9, ((((((x7).toL).getD ((a0).toInt).toNat D.nil)).toL).getD 0 D.nil), ((((((x7).toL).getD ((a0).toInt).toNat D.nil)).toL).getD 1 D.nil), ((((((x7).toL).getD ((a0).toInt).toNat D.nil)).toL).getD 2 D.nil), ((((((x7).toL).getD ((a0).toInt).toNat D.nil)).toL).getD 3 D.nil), ((((((x7).toL).getD ((a0).toInt).toNat D.nil)).toL).getD 4 D.nil), ((((((x7).toL).getD ((a0).toInt).toNat D.nil)).toL).getD 5 D.nil), ((((((x7).toL).getD ((a0).toInt).toNat D.nil)).toL).getD 6 D.nil), ((((((x7).toL).getD ((a0).toInt).toNat D.nil)).toL).getD 7 D.nil), ((((((x7).toL).getD ((a0).toInt).toNat D.nil)).toL).getD 8 D.nil), ((((((x7).toL).getD ((a0).toInt).toNat D.nil)).toL).getD 9 D.nil), ((((((x7).toL).getD ((a0).toInt).toNat D.nil)).toL).getD 10 D.nil), ((((((x7).toL).getD ((a0).toInt).toNat D.nil)).toL).getD 11 D.nil), ((((((x7).toL).getD ((a0).toInt).toNat D.nil)).toL).getD 12 D.nil), ((((((x7).toL).getD ((a0).toInt).toNat D.nil)).toL).getD 13 D.nil), a1]) 2 fun r13 =>
        if (!((r13.getD 0 D.nil)).isNil) = true then
        bindC (FX 14 [a0, (r13.getD 0 D.nil)]) 1 fun r15 =>
          some [x9, (r15.getD 0 D.nil), (r13.getD 1 D.nil)]
        else
        (W_trace_Play_1 x0 x1 x2 x3 x4 x5 x6 x7 x8 x9 x10) [(D.int (IntKind.i64.wrap ((a0).toInt + (1 : Int)))), (r13.getD 1 D.nil)]
      else none
    else none
  else
  some [x9, D.nil, a1] := (loopP_eq FX B_trace_Play_1 [] [x0, x1, x2, x3, x4, x5, x6, x7, x8, x9, x10] _).trans (by kernel_rfl)
theorem E_trace_Play (x0 x1 x2 x3 x4 x5 x6 x7 x8 : D) : FX 16 [x0, x1, x2, x3, x4, x5, x6, x7, x8] =
  bindC (FX 8 [x0, x1, x2, x3, x4, x5, x6, x8]) 2 fun r9 =>
  W_trace_Play_1 x0 x1 x2 x3 x4 x5 x6 x7 x8 (r9.getD 0 D.nil) (r9.getD 1 D.nil) [(D.int (0 : Int)), (r9.getD 1 D.nil)] := (fixP_eq (t := T_trace_Play) (by rfl) _).trans (by kernel_rfl)
theorem E_law09_awake (x0 : D) : FX 7 [x0] =
  bindC (FX 6 [(D.int (2 : Int)), (D.int (1 : Int)), (D.int (1 : Int)), (D.int (1 : Int)), (D.int (0 : Int)), (D.int (2 : Int)), (D.int (1 : Int))]) 8 fun r1 =>
  bindC (FX 16 [(r1.getD 0 D.nil), (r1.getD 1 D.nil), (r1.getD 2 D.nil), (r1.getD 3 D.nil), (r1.getD 4 D.nil), (r1.getD 5 D.nil), (r1.getD 6 D.nil), (D.agg ((D.agg ((D.int (1 : Int)) :: ((D.int (0 : Int)) :: ((D.int (1 : Int)) :: ((D.int (0 : Int)) :: ((D.int (0 : Int)) :: ((D.int (0 : Int)) :: ((D.int (0 : Int)) :: ((D.int (10 : Int)) :: ((D.int (1 : Int)) :: ((D.int (5 : Int)) :: ((D.int (5 : Int)) :: ((D.int (0 : Int)) :: ((D.int (0 : Int)) :: ((D.int (0 : Int)) :: []))))))))))))))) :: ((D.agg ((D.int (1 : Int)) :: ((D.int (1 : Int)) :: ((D.int (1 : Int)) :: ((D.int (0 : Int)) :: ((D.int (0 : Int)) :: ((D.int (0 : Int)) :: ((D.int (1 : Int)) :: ((D.int (8 : Int)) :: ((D.int (1 : Int)) :: ((D.int (5 : Int)) :: ((D.int (3 : Int)) :: ((D.int (0 : Int)) :: ((D.int (0 : Int)) :: ((D.int (0 : Int)) :: []))))))))))))))) :: ((D.agg ((D.int (2 : Int)) :: ((D.int (0 : Int)) :: ((D.int (1 : Int)) :: ((D.int (1 : Int)) :: ((D.int (1 : Int)) :: ((D.int (0 : Int)) :: ((D.int (0 : Int)) :: ((D.int (0 : Int)) :: ((D.int (0 : Int)) :: ((D.int (0 : Int)) :: ((D.int (3 : Int)) :: ((D.int (9 : Int)) :: ((D.int (0 : Int)) :: ((D.int (0 : Int)) :: []))))))))))))))) :: [])))), x0]) 3 fun r9 =>
  bindC (FX 11 [(r9.getD 0 D.nil), (D.int (1 : Int)), (D.int (1 : Int)), (r9.getD 2 D.nil)]) 14 fun r12 =>
  bindC (FX 11 [(r9.getD 0 D.nil), (D.int (0 : Int)), (D.int (1 : Int)), (r9.getD 2 D.nil)]) 14 fun r26 =>
  if ((r9.getD 1 D.nil)).isNil = true then
  if ((r12.getD 13 D.nil)).toBool = true then
    if ((r26.getD 13 D.nil)).toBool = true then
      if (((r12.getD 12 D.nil)).toInt == (5 : Int)) = true then
        if (((r26.getD 8 D.nil)).toInt == (2 : Int)) = true then
          some [(D.bool (((r26.getD 12 D.nil)).toInt == (0 : Int))), (r9.getD 2 D.nil)]
          else
          some [(D.bool false), (r9.getD 2 D.nil)]
        else
        some [(D.bool false), (r9.getD 2 D.nil)]
      else
      some [(D.bool false), (r9.getD 2 D.nil)]
    else
    some [(D.bool false), (r9.getD 2 D.nil)]
  else
  some [(D.bool false), (r9.getD 2 D.nil)] := (fixP_eq (t := T_law09_awake) (by rfl) _).trans (by kernel_rfl)
theorem E_slices_Clone_trace_Order_trace_Order (x0 : D) : FX 21 [x0] =
  if ((((x0).toL).length : Int) == (0 : Int)) = true then
  both (some [(D.agg [])]) (if (decide ((((x0).toL).length : Int) ≤ (1466015503701 : Int))) = true then
      some [x0]
      else none)
  else
  if (decide ((((x0).toL).length : Int) ≤ (1466015503701 : Int))) = true then
    some [x0]
    else none := (fixP_eq (t := T_slices_Clone_trace_Order_trace_Order) (by rfl) _).trans (by kernel_rfl)
theorem E_p_trace_Model_Orders (x0 x1 : D) : FX 10 [x0, x1] =
  if (x0).isNil = true then
  some [(D.agg [])]
  else
  if (!(x0).isNil) = true then
    bindC (FX 21 [((((((x1).toL).getD ((x0).toInt).toNat D.nil)).toL).getD 7 D.nil)]) 1 fun r2 =>
      some [(r2.getD 0 D.nil)]
    else none := (fixP_eq (t := T_p_trace_Model_Orders) (by rfl) _).trans (by kernel_rfl)
noncomputable def W_law09_TraceBegins_3 (x0 x1 x2 x3 x4 x5 x6 x7 x8 x9 x10 x11 x12 x13 x14 x15 x16 x17 x18 x19 x20 x21 x22 x23 x24 : D) (g0 g1 : Eng.Fn) : Eng.Fn := loopF fun g xs => evalP FX B_law09_TraceBegins_3 ([g0, g1] ++ [g]) ([x0, x1, x2, x3, x4, x5, x6, x7, x8, x9, x10, x11, x12, x13, x14, x15, x16, x17, x18, x19, x20, x21, x22, x23, x24] ++ xs)
theorem W_law09_TraceBegins_3_eq (x0 x1 x2 x3 x4 x5 x6 x7 x8 x9 x10 x11 x12 x13 x14 x15 x16 x17 x18 x19 x20 x21 x22 x23 x24 : D) (g0 g1 : Eng.Fn) (a0 : D) : W_law09_TraceBegins_3 x0 x1 x2 x3 x4 x5 x6 x7 x8 x9 x10 x11 x12 x13 x14 x15 x16 x17 x18 x19 x20 x21 x22 x23 x24 g0 g1 [a0] =
  if (decide ((a0).toInt < (((x21).toL).length : Int))) = true then
  if (decide ((a0).toInt ≥ (0 : Int))) = true then
    if (decide ((a0).toInt < (((x21).toL).length : Int))) = true then
      if (decide ((a0).toInt ≥ (0 : Int))) = true then
        if (decide ((a0).toInt < (((x24).toL).length : Int))) = true then
          if ((((((((x24).toL).getD ((a0).toInt).toNat D.nil)).toL).getD 0 D.nil)).toInt != (((((((x21).toL).getD ((a0).toInt).toNat D.nil)).toL).getD 0 D.nil)).toInt) = true then
            some [(D.bool false)]
            else
            if ((((((((x24).toL).getD ((a0).toInt).toNat D.nil)).toL).getD 1 D.nil)).toInt != (((((((x21).toL).getD ((a0).toInt).toNat D.nil)).toL).getD 1 D.nil)).toInt) = true then
              some [(D.bool false)]
              else
              if (!(((((((((x24).toL).getD ((a0).toInt).toNat D.nil)).toL).getD 2 D.nil)).toInt == (((((((x21).toL).getD ((a0).toInt).toNat D.nil)).toL).getD 2 D.nil)).toInt) && (((((((((x24).toL).getD ((a0).toInt).toNat D.nil)).toL).getD 3 D.nil)).toInt == (((((((x21).toL).getD ((a0).toInt).toNat D.nil)).toL).getD 3 D.nil)).toInt) && (((((((((x24).toL).getD ((a0).toInt).toNat D.nil)).toL).getD 4 D.nil)).toInt == (((((((x21).toL).getD ((a0).toInt).toNat D.nil)).toL).getD 4 D.nil)).toInt) && (((((((((x24).toL).getD ((a0).toInt).toNat D.nil)).toL).getD 5 D.nil)).toInt == (((((((x21).toL).getD ((a0).toInt).toNat D.nil)).toL).getD 5 D.nil)).toInt) && ((((((((x24).toL).getD ((a0).toInt).toNat D.nil)).toL).getD 6 D.nil)).toInt == (((((((x21).toL).getD ((a0).toInt).toNat D.nil)).toL).getD 6 D.nil)).toInt)))))) = true then
                some [(D.bool false)]
                else
                if ((((((((x24).toL).getD ((a0).toInt).toNat D.nil)).toL).getD 7 D.nil)).toInt != (((((((x21).toL).getD ((a0).toInt).toNat D.nil)).toL).getD 7 D.nil)).toInt) = true then
                  some [(D.bool false)]
                  else
                  if (decide ((((((((x24).toL).getD ((a0).toInt).toNat D.nil)).toL).getD 8 D.nil)).toInt > (((((((x21).toL).getD ((a0).toInt).toNat D.nil)).toL).getD 8 D.nil)).toInt)) = true then
                    some [(D.bool false)]
                    else
                    if (decide ((((((((x24).toL).getD ((a0).toInt).toNat D.nil)).toL).getD 9 D.nil)).toInt < (((((((x21).toL).getD ((a0).toInt).toNat D.nil)).toL).getD 9 D.nil)).toInt)) = true then
                      some [(D.bool false)]
                      else
                      if ((((((((x21).toL).getD ((a0).toInt).toNat D.nil)).toL).getD 12 D.nil)).toInt != (0 : Int)) = true then
                        if (!(((((((((x24).toL).getD ((a0).toInt).toNat D.nil)).toL).getD 0 D.nil)).toInt == (((((((x21).toL).getD ((a0).toInt).toNat D.nil)).toL).getD 0 D.nil)).toInt) && (((((((((x24).toL).getD ((a0).toInt).toNat D.nil)).toL).getD 1 D.nil)).toInt == (((((((x21).toL).getD ((a0).toInt).toNat D.nil)).toL).getD 1 D.nil)).toInt) && ((((((((((x24).toL).getD ((a0).toInt).toNat D.nil)).toL).getD 2 D.nil)).toInt == (((((((x21).toL).getD ((a0).toInt).toNat D.nil)).toL).getD 2 D.nil)).toInt) && (((((((((x24).toL).getD ((a0).toInt).toNat D.nil)).toL).getD 3 D.nil)).toInt == (((((((x21).toL).getD ((a0).toInt).toNat D.nil)).toL).getD 3 D.nil)).toInt) && (((((((((x24).toL).getD ((a0).toInt).toNat D.nil)).toL).getD 4 D.nil)).toInt == (((((((x21).toL).getD ((a0).toInt).toNat D.nil)).toL).getD 4 D.nil)).toInt) && (((((((((x24).toL).getD ((a0).toInt).toNat D.nil)).toL).getD 5 D.nil)).toInt == (((((((x21).toL).getD ((a0).toInt).toNat D.nil)).toL).getD 5 D.nil)).toInt) && ((((((((x24).toL).getD ((a0).toInt).toNat D.nil)).toL).getD 6 D.nil)).toInt == (((((((x21).toL).getD ((a0).toInt).toNat D.nil)).toL).getD 6 D.nil)).toInt))))) && (((((((((x24).toL).getD ((a0).toInt).toNat D.nil)).toL).getD 7 D.nil)).toInt == (((((((x21).toL).getD ((a0).toInt).toNat D.nil)).toL).getD 7 D.nil)).toInt) && (((((((((x24).toL).getD ((a0).toInt).toNat D.nil)).toL).getD 8 D.nil)).toInt == (((((((x21).toL).getD ((a0).toInt).toNat D.nil)).toL).getD 8 D.nil)).toInt) && (((((((((x24).toL).getD ((a0).toInt).toNat D.nil)).toL).getD 9 D.nil)).toInt == (((((((x21).toL).getD ((a0).toInt).toNat D.nil)).toL).getD 9 D.nil)).toInt) && (((((((((x24).toL).getD ((a0).toInt).toNat D.nil)).toL).getD 10 D.nil)).toBool == (((((((x21).toL).getD ((a0).toInt).toNat D.nil)).toL).getD 10 D.nil)).toBool) && (((((((((x24).toL).getD ((a0).toInt).toNat D.nil)).toL).getD 11 D.nil)).toBool == (((((((x21).toL).getD ((a0).toInt).toNat D.nil)).toL).getD 11 D.nil)).toBool) && ((((((((x24).toL).getD ((a0).toInt).toNat D.nil)).toL).getD 12 D.nil)).toInt == (((((((x21).toL).getD ((a0).toInt).toNat D.nil)).toL).getD 12 D.nil)).toInt)))))))))) = true then
                          some [(D.bool false)]
                          else
                          if (((((((x21).toL).getD ((a0).toInt).toNat D.nil)).toL).getD 10 D.nil)).toBool = true then
                            if (!(((((((x24).toL).getD ((a0).toInt).toNat D.nil)).toL).getD 10 D.nil)).toBool) = true then
                              some [(D.bool false)]
                              else
                              (W_law09_TraceBegins_3 x0 x1 x2 x3 x4 x5 x6 x7 x8 x9 x10 x11 x12 x13 x14 x15 x16 x17 x18 x19 x20 x21 x22 x23 x24 g0 g1) [(D.int (IntKind.i64.wrap ((a0).toInt + (1 : Int))))]
                            else
                            (W_law09_TraceBegins_3 x0 x1 x2 x3 x4 x5 x6 x7 x8 x9 x10 x11 x12 x13 x14 x15 x16 x17 x18 x19 x20 x21 x22 x23 x24 g0 g1) [(D.int (IntKind.i64.wrap ((a0).toInt + (1 : Int))))]
                        else
                        if (((((((x21).toL).getD ((a0).toInt).toNat D.nil)).toL).getD 10 D.nil)).toBool = true then
                          if (!(((((((x24).toL).getD ((a0).toInt).toNat D.nil)).toL).getD 10 D.nil)).toBool) = true then
                            some [(D.bool false)]
                            else
                            (W_law09_TraceBegins_3 x0 x1 x2 x3 x4 x5 x6 x7 x8 x9 x10 x11 x12 x13 x14 x15 x16 x17 x18 x19 x20 x21 x22 x23 x24 g0 g1) [(D.int (IntKind.i64.wrap ((a0).toInt + (1 : Int))))]
                          else
                          (W_law09_TraceBegins_3 x0 x1 x2 x3 x4 x5 x6 x7 x8 x9 x10 x11 x12 x13 x14 x15 x16 x17 x18 x19 x20 x21 x22 x23 x24 g0 g1) [(D.int (IntKind.i64.wrap ((a0).toInt + (1 : Int))))]
          else none
        else none
      else none
    else none
  else
  bindC (FX 7 [x23]) 2 fun r26 =>
    some [(r26.getD 0 D.nil)] := (loopP_eq FX B_law09_TraceBegins_3 [g0, g1] [x0, x1, x2, x3, x4, x5, x6, x7, x8, x9, x10, x11, x12, x13, x14, x15, x16, x17, x18, x19, x20, x21, x22, x23, x24] _).trans (by kernel_rfl)
noncomputable def W_law09_TraceBegins_2 (x0 x1 x2 x3 x4 x5 x6 x7 x8 x9 x10 x11 x12 x13 x14 x15 x16 x17 x18 x19 x20 x21 : D) (g0 : Eng.Fn) : Eng.Fn := loopF fun g xs => evalP FX B_law09_TraceBegins_2 ([g0] ++ [g]) ([x0, x1, x2, x3, x4, x5, x6, x7, x8, x9, x10, x11, x12, x13, x14, x15, x16, x17, x18, x19, x20, x21] ++ xs)
theorem W_law09_TraceBegins_2_eq (x0 x1 x2 x3 x4 x5 x6 x7 x8 x9 x10 x11 x12 x13 x14 x15 x16 x17 x18 x19 x20 x21 : D) (g0 : Eng.Fn) (a0 a1 : D) : W_law09_TraceBegins_2 x0 x1 x2 x3 x4 x5 x6 x7 x8 x9 x10 x11 x12 x13 x14 x15 x16 x17 x18 x19 x20 x21 g0 [a0, a1] =
  if (decide ((a0).toInt < (((x8).toL).length : Int))) = true then
  if (decide ((a0).toInt ≥ (0 : Int))) = true then
    if (decide ((a0).toInt < (((x8).toL).length : Int))) = true then
      bindC (FX 9 [x17, ((((((x8).toL).getD ((a0).toInt).toNat D.nil)).toL).getD 0 D.nil), ((((((x8).toL).getD ((a0).toInt).toNat D.nil)).toL).getD 1 D.nil), ((((((x8).toL).getD ((a0).toInt).toNat D.nil)).toL).getD 2 D.nil), ((((((x8).toL).getD ((a0).toInt).toNat D.nil)).toL).getD 3 D.nil), ((((((x8).toL).getD ((a0).toInt).toNat D.nil)).toL).getD 4 D.nil), ((((((x8).toL).getD ((a0).toInt).toNat D.nil)).toL).getD 5 D.nil), ((((((x8).toL).getD ((a0).toInt).toNat D.nil)).toL).getD 6 D.nil), ((((((x8).toL).getD ((a0).toInt).toNat D.nil)).toL).getD 7 D.nil), ((((((x8).toL).getD ((a0).toInt).toNat D.nil)).toL).getD 8 D.nil), ((((((x8).toL).getD ((a0).toInt).toNat D.nil)).toL).getD 9 D.nil), ((((((x8).toL).getD ((a0).toInt).toNat D.nil)).toL).getD 10 D.nil), ((((((x8).toL).getD ((a0).toInt).toNat D.nil)).toL).getD 11 D.nil), ((((((x8).toL).getD ((a0).toInt).toNat D.nil)).toL).getD 12 D.nil), ((((((x8).toL).getD ((a0).toInt).toNat D.nil)).toL).getD 13 D.nil), a1]) 2 fun r24 =>
        (W_law09_TraceBegins_2 x0 x1 x2 x3 x4 x5 x6 x7 x8 x9 x10 x11 x12 x13 x14 x15 x16 x17 x18 x19 x20 x21 g0) [(D.int (IntKind.i64.wrap ((a0).toInt + (1 : Int)))), (r24.getD 1 D.nil)]
      else none
    else none
  else
  bindC (FX 10 [x17, a1]) 1 fun r24 =>
    if (decide (((((r24.getD 0 D.nil)).toL).length : Int) < (((x21).toL).length : Int))) = true then
    some [(D.bool false)]
    else
    W_law09_TraceBegins_3 x0 x1 x2 x3 x4 x5 x6 x7 x8 x9 x10 x11 x12 x13 x14 x15 x16 x17 x18 x19 x20 x21 a0 a1 (r24.getD 0 D.nil) g0 ((W_law09_TraceBegins_2 x0 x1 x2 x3 x4 x5 x6 x7 x8 x9 x10 x11 x12 x13 x14 x15 x16 x17 x18 x19 x20 x21 g0)) [(D.int (0 : Int))] := (loopP_eq FX B_law09_TraceBegins_2 [g0] [x0, x1, x2, x3, x4, x5, x6, x7, x8, x9, x10, x11, x12, x13, x14, x15, x16, x17, x18, x19, x20, x21] _).trans (by kernel_rfl)
noncomputable def W_law09_TraceBegins_1 (x0 x1 x2 x3 x4 x5 x6 x7 x8 x9 x10 x11 x12 x13 x14 x15 x16 x17 x18 : D) : Eng.Fn := loopF fun g xs => evalP FX B_law09_TraceBegins_1 ([] ++ [g]) ([x0, x1, x2, x3, x4, x5, x6, x7, x8, x9, x10, x11, x12, x13, x14, x15, x16, x17, x18] ++ xs)
theorem W_law09_TraceBegins_1_eq (x0 x1 x2 x3 x4 x5 x6 x7 x8 x9 x10 x11 x12 x13 x14 x15 x16 x17 x18 : D) (a0 a1 : D) : W_law09_TraceBegins_1 x0 x1 x2 x3 x4 x5 x6 x7 x8 x9 x10 x11 x12 x13 x14 x15 x16 x17 x18 [a0, a1] =
  if (decide ((a0).toInt < (((x7).toL).length : Int))) = true then
  if (decide ((a0).toInt ≥ (0 : Int))) = true then
    if (decide ((a0).toInt < (((x7).toL).length : Int))) = true then
      bindC (FX 9 [x17, ((((((x7).toL).getD ((a0).toInt).toNat D.nil)).toL).getD 0 D.nil), ((((((x7).toL).getD ((a0).toInt).toNat D.nil)).toL).getD 1 D.nil), ((((((x7).toL).getD ((a0).toInt).toNat D.nil)).toL).getD 2 D.nil), ((((((x7).toL).getD ((a0).toInt).toNat D.nil)).toL).getD 3 D.nil), ((((((x7).toL).getD ((a0).toInt).toNat D.nil)).toL).getD 4 D.nil), ((((((x7).toL).getD ((a0).toInt).toNat D.nil)).toL).getD 5 D.nil), ((((((x7).toL).getD ((a0).toInt).toNat D.nil)).toL).getD 6 D.nil), ((((((x7).toL).getD ((a0).toInt).toNat D.nil)).toL).getD 7 D.nil), ((((((x7).toL).getD ((a0).toInt).toNat D.nil)).toL).getD 8 D.nil), ((((((x7).toL).getD ((a0).toInt).toNat D.nil)).toL).getD 9 D.nil), ((((((x7).toL).getD ((a0).toInt).toNat D.nil)).toL).getD 10 D.nil), ((((((x7).toL).getD ((a0).toInt).toNat D.nil)).toL).getD 11 D.nil), ((((((x7).toL).getD ((a0).toInt).toNat D.nil)).toL).getD 12 D.nil), ((((((x7).toL).getD ((a0).toInt).toNat D.nil)).toL).getD 13 D.nil), a1]) 2 fun r21 =>
        (W_law09_TraceBegins_1 x0 x1 x2 x3 x4 x5 x6 x7 x8 x9 x10 x11 x12 x13 x14 x15 x16 x17 x18) [(D.int (IntKind.i64.wrap ((a0).toInt + (1 : Int)))), (r21.getD 1 D.nil)]
      else none
    else none
  else
  bindC (FX 10 [x17, a1]) 1 fun r21 =>
    W_law09_TraceBegins_2 x0 x1 x2 x3 x4 x5 x6 x7 x8 x9 x10 x11 x12 x13 x14 x15 x16 x17 x18 a0 a1 (r21.getD 0 D.nil) ((W_law09_TraceBegins_1 x0 x1 x2 x3 x4 x5 x6 x7 x8 x9 x10 x11 x12 x13 x14 x15 x16 x17 x18)) [(D.int (0 : Int)), a1] := (loopP_eq FX B_law09_TraceBegins_1 [] [x0, x1, x2, x3, x4, x5, x6, x7, x8, x9, x10, x11, x12, x13, x14, x15, x16, x17, x18] _).trans (by kernel_rfl)
theorem E_law09_TraceBegins (x0 x1 x2 x3 x4 x5 x6 x7 x8 : D) : FX 3 [x0, x1, x2, x3, x4, x5, x6, x7, x8] =
  bindC (FX 6 [x0, x1, x2, x3, x4, x5, x6]) 8 fun r9 =>
  if (!((r9.getD 7 D.nil)).isNil) = true then
  bindC (FX 7 [(D.agg [])]) 2 fun r17 =>
    some [(r17.getD 0 D.nil)]
  else
  if (decide ((((x7).toL).length : Int) > (40 : Int))) = true then
    bindC (FX 7 [(D.agg [])]) 2 fun r17 =>
      some [(r17.getD 0 D.nil)]
    else
    if (decide ((((x8).toL).length : Int) > (40 : Int))) = true then
      bindC (FX 7 [(D.agg [])]) 2 fun r17 =>
        some [(r17.getD 0 D.nil)]
      else
      bindC (FX 8 [(r9.getD 0 D.nil), (r9.getD 1 D.nil), (r9.getD 2 D.nil), (r9.getD 3 D.nil), (r9.getD 4 D.nil), (r9.getD 5 D.nil), (r9.getD 6 D.nil), (D.agg [])]) 2 fun r17 =>
        W_law09_TraceBegins_1 x0 x1 x2 x3 x4 x5 x6 x7 x8 (r9.getD 0 D.nil) (r9.getD 1 D.nil) (r9.getD 2 D.nil) (r9.getD 3 D.nil) (r9.getD 4 D.nil) (r9.getD 5 D.nil) (r9.getD 6 D.nil) (r9.getD 7 D.nil) (r17.getD 0 D.nil) (r17.getD 1 D.nil) [(D.int (0 : Int)), (r17.getD 1 D.nil)] := (fixP_eq (t := T_law09_TraceBegins) (by rfl) _).trans (by kernel_rfl)
noncomputable def W_law09_TraceLies_2 (x0 x1 x2 x3 x4 x5 x6 x7 x8 x9 x10 x11 x12 x13 x14 x15 x16 x17 x18 x19 x20 x21 x22 x23 x24 x25 x26 x27 x28 x29 x30 x31 x32 x33 x34 x35 x36 x37 : D) (g0 : Eng.Fn) : Eng.Fn := loopF fun g xs => evalP FX B_law09_TraceLies_2 ([g0] ++ [g]) ([x0, x1, x2, x3, x4, x5, x6, x7, x8, x9, x10, x11, x12, x13, x14, x15, x16, x17, x18, x19, x20, x21, x22, x23, x24, x25, x26, x27, x28, x29, x30, x31, x32, x33, x34, x35, x36, x37] ++ xs)
theorem W_law09_TraceLies_2_eq (x0 x1 x2 x3 x4 x5 x6 x7 x8 x9 x10 x11 x12 x13 x14 x15 x16 x17 x18 x19 x20 x21 x22 x23 x24 x25 x26 x27 x28 x29 x30 x31 x32 x33 x34 x35 x36 x37 : D) (g0 : Eng.Fn) (a0 : D) : W_law09_TraceLies_2 x0 x1 x2 x3 x4 x5 x6 x7 x8 x9 x10 x11 x12 x13 x14 x15 x16 x17 x18 x19 x20 x21 x22 x23 x24 x25 x26 x27 x28 x29 x30 x31 x32 x33 x34 x35 x36 x37 g0 [a0] =
  if (decide ((a0).toInt < (((x34).toL).length : Int))) = true then
  if (decide ((a0).toInt ≥ (0 : Int))) = true then
    if (decide ((a0).toInt < (((x34).toL).length : Int))) = true then
      if (decide ((a0).toInt ≥ (0 : Int))) = true then
        if (decide ((a0).toInt < (((x37).toL).length : Int))) = true then
          if (!(((((((((x34).toL).getD ((a0).toInt).toNat D.nil)).toL).getD 0 D.nil)).toInt == (((((((x37).toL).getD ((a0).toInt).toNat D.nil)).toL).getD 0 D.nil)).toInt) && (((((((((x34).toL).getD ((a0).toInt).toNat D.nil)).toL).getD 1 D.nil)).toInt == (((((((x37).toL).getD ((a0).toInt).toNat D.nil)).toL).getD 1 D.nil)).toInt) && ((((((((((x34).toL).getD ((a0).toInt).toNat D.nil)).toL).getD 2 D.nil)).toInt == (((((((x37).toL).getD ((a0).toInt).toNat D.nil)).toL).getD 2 D.nil)).toInt) && (((((((((x34).toL).getD ((a0).toInt).toNat D.nil)).toL).getD 3 D.nil)).toInt == (((((((x37).toL).getD ((a0).toInt).toNat D.nil)).toL).getD 3 D.nil)).toInt) && (((((((((x34).toL).getD ((a0).toInt).toNat D.nil)).toL).getD 4 D.nil)).toInt == (((((((x37).toL).getD ((a0).toInt).toNat D.nil)).toL).getD 4 D.nil)).toInt) && (((((((((x34).toL).getD ((a0).toInt).toNat D.nil)).toL).getD 5 D.nil)).toInt == (((((((x37).toL).getD ((a0).toInt).toNat D.nil)).toL).getD 5 D.nil)).toInt) && ((((((((x34).toL).getD ((a0).toInt).toNat D.nil)).toL).getD 6 D.nil)).toInt == (((((((x37).toL).getD ((a0).toInt).toNat D.nil)).toL).getD 6 D.nil)).toInt))))) && (((((((((x34).toL).getD ((a0).toInt).toNat D.nil)).toL).getD 7 D.nil)).toInt == (((((((x37).toL).getD ((a0).toInt).toNat D.nil)).toL).getD 7 D.nil)).toInt) && (((((((((x34).toL).getD ((a0).toInt).toNat D.nil)).toL).getD 8 D.nil)).toInt == (((((((x37).toL).getD ((a0).toInt).toNat D.nil)).toL).getD 8 D.nil)).toInt) && (((((((((x34).toL).getD ((a0).toInt).toNat D.nil)).toL).getD 9 D.nil)).toInt == (((((((x37).toL).getD ((a0).toInt).toNat D.nil)).toL).getD 9 D.nil)).toInt) && (((((((((x34).toL).getD ((a0).toInt).toNat D.nil)).toL).getD 10 D.nil)).toBool == (((((((x37).toL).getD ((a0).toInt).toNat D.nil)).toL).getD 10 D.nil)).toBool) && (((((((((x34).toL).getD ((a0).toInt).toNat D.nil)).toL).getD 11 D.nil)).toBool == (((((((x37).toL).getD ((a0).toInt).toNat D.nil)).toL).getD 11 D.nil)).toBool) && ((((((((x34).toL).getD ((a0).toInt).toNat D.nil)).toL).getD 12 D.nil)).toInt == (((((((x37).toL).getD ((a0).toInt).toNat D.nil)).toL).getD 12 D.nil)).toInt)))))))))) = true then
            some [(D.bool false)]
            else
            (W_law09_TraceLies_2 x0 x1 x2 x3 x4 x5 x6 x7 x8 x9 x10 x11 x12 x13 x14 x15 x16 x17 x18 x19 x20 x21 x22 x23 x24 x25 x26 x27 x28 x29 x30 x31 x32 x33 x34 x35 x36 x37 g0) [(D.int (IntKind.i64.wrap ((a0).toInt + (1 : Int))))]
          else none
        else none
      else none
    else none
  else
  bindC (FX 7 [x36]) 2 fun r39 =>
    some [(r39.getD 0 D.nil)] := (loopP_eq FX B_law09_TraceLies_2 [g0] [x0, x1, x2, x3, x4, x5, x6, x7, x8, x9, x10, x11, x12, x13, x14, x15, x16, x17, x18, x19, x20, x21, x22, x23, x24, x25, x26, x27, x28, x29, x30, x31, x32, x33, x34, x35, x36, x37] _).trans (by kernel_rfl)
noncomputable def W_law09_TraceLies_1 (x0 x1 x2 x3 x4 x5 x6 x7 x8 x9 x10 x11 x12 x13 x14 x15 x16 x17 x18 x19 x20 x21 x22 x23 x24 x25 x26 x27 x28 x29 x30 x31 : D) : Eng.Fn := loopF fun g xs => evalP FX B_law09_TraceLies_1 ([] ++ [g]) ([x0, x1, x2, x3, x4, x5, x6, x7, x8, x9, x10, x11, x12, x13, x14, x15, x16, x17, x18, x19, x20, x21, x22, x23, x24, x25, x26, x27, x28, x29, x30, x31] ++ xs)
theorem W_law09_TraceLies_1_eq (x0 x1 x2 x3 x4 x5 x6 x7 x8 x9 x10 x11 x12 x13 x14 x15 x16 x17 x18 x19 x20 x21 x22 x23 x24 x25 x26 x27 x28 x29 x30 x31 : D) (a0 a1 : D) : W_law09_TraceLies_1 x0 x1 x2 x3 x4 x5 x6 x7 x8 x9 x10 x11 x12 x13 x14 x15 x16 x17 x18 x19 x20 x21 x22 x23 x24 x25 x26 x27 x28 x29 x30 x31 [a0, a1] =
  if (decide ((a0).toInt < (((x7).toL).length : Int))) = true then
  if (decide ((a0).toInt ≥ (0 : Int))) = true then
    if (decide ((a0).toInt < (((x7).toL).length : Int))) = true then
      bindC (FX 9 [x30, ((((((x7).toL).getD ((a0).toInt).toNat D.nil)).toL).getD 0 D.nil), ((((((x7).toL).getD ((a0).toInt).toNat D.nil)).toL).getD 1 D.nil), ((((((x7).toL).getD ((a0).toInt).toNat D.nil)).toL).getD 2 D.nil), ((((((x7).toL).getD ((a0).toInt).toNat D.nil)).toL).getD 3 D.nil), ((((((x7).toL).getD ((a0).toInt).toNat D.nil)).toL).getD 4 D.nil), ((((((x7).toL).getD ((a0).toInt).toNat D.nil)).toL).getD 5 D.nil), ((((((x7).toL).getD ((a0).toInt).toNat D.nil)).toL).getD 6 D.nil), ((((((x7).toL).getD ((a0).toInt).toNat D.nil)).toL).getD 7 D.nil), ((((((x7).toL).getD ((a0).toInt).toNat D.nil)).toL).getD 8 D.nil), ((((((x7).toL).getD ((a0).toInt).toNat D.nil)).toL).getD 9 D.nil), ((((((x7).toL).getD ((a0).toInt).toNat D.nil)).toL).getD 10 D.nil), ((((((x7).toL).getD ((a0).toInt).toNat D.nil)).toL).getD 11 D.nil), ((((((x7).toL).getD ((a0).toInt).toNat D.nil)).toL).getD 12 D.nil), ((((((x7).toL).getD ((a0).toInt).toNat D.nil)).toL).getD 13 D.nil), a1]) 2 fun r34 =>
        (W_law09_TraceLies_1 x0 x1 x2 x3 x4 x5 x6 x7 x8 x9 x10 x11 x12 x13 x14 x15 x16 x17 x18 x19 x20 x21 x22 x23 x24 x25 x26 x27 x28 x29 x30 x31) [(D.int (IntKind.i64.wrap ((a0).toInt + (1 : Int)))), (r34.getD 1 D.nil)]
      else none
    else none
  else
  bindC (FX 10 [x30, a1]) 1 fun r34 =>
    bindC (FX 9 [x30, x8, x9, x10, x11, x12, x13, x14, x15, x16, x17, x18, x19, x20, x21, a1]) 2 fun r35 =>
    if ((r35.getD 0 D.nil)).isNil = true then
    bindC (FX 7 [(r35.getD 1 D.nil)]) 2 fun r37 =>
      some [(r37.getD 0 D.nil)]
    else
    bindC (FX 10 [x30, (r35.getD 1 D.nil)]) 1 fun r37 =>
      if (((((r34.getD 0 D.nil)).toL).length : Int) != ((((r37.getD 0 D.nil)).toL).length : Int)) = true then
      some [(D.bool false)]
      else
      W_law09_TraceLies_2 x0 x1 x2 x3 x4 x5 x6 x7 x8 x9 x10 x11 x12 x13 x14 x15 x16 x17 x18 x19 x20 x21 x22 x23 x24 x25 x26 x27 x28 x29 x30 x31 a0 a1 (r34.getD 0 D.nil) (r35.getD 0 D.nil) (r35.getD 1 D.nil) (r37.getD 0 D.nil) ((W_law09_TraceLies_1 x0 x1 x2 x3 x4 x5 x6 x7 x8 x9 x10 x11 x12 x13 x14 x15 x16 x17 x18 x19 x20 x21 x22 x23 x24 x25 x26 x27 x28 x29 x30 x31)) [(D.int (0 : Int))] := (loopP_eq FX B_law09_TraceLies_1 [] [x0, x1, x2, x3, x4, x5, x6, x7, x8, x9, x10, x11, x12, x13, x14, x15, x16, x17, x18, x19, x20, x21, x22, x23, x24, x25, x26, x27, x28, x29, x30, x31] _).trans (by kernel_rfl)
theorem E_law09_TraceLies (x0 x1 x2 x3 x4 x5 x6 x7 x8 x9 x10 x11 x12 x13 x14 x15 x16 x17 x18 x19 x20 x21 : D) : FX 4 [x0, x1, x2, x3, x4, x5, x6, x7, x8, x9, x10, x11, x12, x13, x14, x15, x16, x17, x18, x19, x20, x21] =
  bindC (FX 6 [x0, x1, x2, x3, x4, x5, x6]) 8 fun r22 =>
  if (!((r22.getD 7 D.nil)).isNil) = true then
  bindC (FX 7 [(D.agg [])]) 2 fun r30 =>
    some [(r30.getD 0 D.nil)]
  else
  if (decide ((((x7).toL).length : Int) > (40 : Int))) = true then
    bindC (FX 7 [(D.agg [])]) 2 fun r30 =>
      some [(r30.getD 0 D.nil)]
    else
    bindC (FX 8 [(r22.getD 0 D.nil), (r22.getD 1 D.nil), (r22.getD 2 D.nil), (r22.getD 3 D.nil), (r22.getD 4 D.nil), (r22.getD 5 D.nil), (r22.getD 6 D.nil), (D.agg [])]) 2 fun r30 =>
      W_law09_TraceLies_1 x0 x1 x2 x3 x4 x5 x6 x7 x8 x9 x10 x11 x12 x13 x14 x15 x16 x17 x18 x19 x20 x21 (r22.getD 0 D.nil) (r22.getD 1 D.nil) (r22.getD 2 D.nil) (r22.getD 3 D.nil) (r22.getD 4 D.nil) (r22.getD 5 D.nil) (r22.getD 6 D.nil) (r22.getD 7 D.nil) (r30.getD 0 D.nil) (r30.getD 1 D.nil) [(D.int (0 : Int)), (r30.getD 1 D.nil)] := (fixP_eq (t := T_law09_TraceLies) (by rfl) _).trans (by kernel_rfl)
end Go.Proofs.Ytofkbhilhgmnlaa
