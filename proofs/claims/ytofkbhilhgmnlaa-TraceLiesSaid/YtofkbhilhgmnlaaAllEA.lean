/-
  The functions, as equations.
-/
import Derived.Test.YtofkbhilhgmnlaaAll
namespace Go.Proofs.Ytofkbhilhgmnlaa
open Go.Proofs.Ytofkbhilhgmnlaa.Eng
set_option linter.unusedVariables false
set_option maxRecDepth 20000
theorem E_rules_limits (x0 x1 x2 x3 x4 x5 x6 : D) : FX 13 [x0, x1, x2, x3, x4, x5, x6] =
  some [(D.agg ((D.agg ((D.str ((.mk #[112, 97, 114, 116, 115]))) :: (x0 :: ((D.int (1 : Int)) :: ((D.int (6 : Int)) :: []))))) :: ((D.agg ((D.str ((.mk #[99, 101, 108, 108, 115]))) :: (x1 :: ((D.int (1 : Int)) :: ((D.int (4 : Int)) :: []))))) :: ((D.agg ((D.str ((.mk #[110, 97, 109, 101, 115]))) :: (x2 :: ((D.int (1 : Int)) :: ((D.int (3 : Int)) :: []))))) :: ((D.agg ((D.str ((.mk #[98, 97, 110, 100, 115]))) :: (x3 :: ((D.int (1 : Int)) :: ((D.int (4 : Int)) :: []))))) :: ((D.agg ((D.str ((.mk #[112, 114, 111, 98, 101, 115]))) :: (x4 :: ((D.int (0 : Int)) :: ((D.int (4 : Int)) :: []))))) :: ((D.agg ((D.str ((.mk #[102, 105, 108, 108, 115]))) :: (x5 :: ((D.int (1 : Int)) :: ((D.int (4 : Int)) :: []))))) :: ((D.agg ((D.str ((.mk #[103, 101, 110, 115]))) :: (x6 :: ((D.int (1 : Int)) :: ((D.int (15 : Int)) :: []))))) :: []))))))))] := (fixP_eq (t := T_rules_limits) (by rfl) _).trans (by kernel_rfl)
theorem E_fault_At (x0 x1 : D) : FX 14 [x0, x1] =
  if (x1).isNil = true then
  some [D.nil]
  else
  some [(D.iface 66 (D.agg (x0 :: (x1 :: []))))] := (fixP_eq (t := T_fault_At) (by rfl) _).trans (by kernel_rfl)
theorem E_fault_With (x0 x1 : D) : FX 15 [x0, x1] =
  if (x1).isNil = true then
  some [D.nil]
  else
  some [(D.iface 69 (D.agg (x0 :: (x1 :: []))))] := (fixP_eq (t := T_fault_With) (by rfl) _).trans (by kernel_rfl)
noncomputable def W_rules_New_1 (x0 x1 x2 x3 x4 x5 x6 x7 : D) : Eng.Fn := loopF fun g xs => evalP FX B_rules_New_1 ([] ++ [g]) ([x0, x1, x2, x3, x4, x5, x6, x7] ++ xs)
theorem W_rules_New_1_eq (x0 x1 x2 x3 x4 x5 x6 x7 : D) (a0 : D) : W_rules_New_1 x0 x1 x2 x3 x4 x5 x6 x7 [a0] =
  if (decide ((a0).toInt < (((x7).toL).length : Int))) = true then
  if (decide ((a0).toInt ≥ (0 : Int))) = true then
    if (decide ((a0).toInt < (((x7).toL).length : Int))) = true then
      if (decide ((((((((x7).toL).getD ((a0).toInt).toNat D.nil)).toL).getD 1 D.nil)).toInt < (((((((x7).toL).getD ((a0).toInt).toNat D.nil)).toL).getD 2 D.nil)).toInt)) = true then
        bindC (FX 15 [((((((x7).toL).getD ((a0).toInt).toNat D.nil)).toL).getD 0 D.nil), (D.iface 58 (D.int (5 : Int)))]) 1 fun r9 =>
          bindC (FX 14 [a0, (r9.getD 0 D.nil)]) 1 fun r10 =>
          some [(D.int (0 : Int)), (D.int (0 : Int)), (D.int (0 : Int)), (D.int (0 : Int)), (D.int (0 : Int)), (D.int (0 : Int)), (D.int (0 : Int)), (r10.getD 0 D.nil)]
        else
        if (decide ((((((((x7).toL).getD ((a0).toInt).toNat D.nil)).toL).getD 1 D.nil)).toInt > (((((((x7).toL).getD ((a0).toInt).toNat D.nil)).toL).getD 3 D.nil)).toInt)) = true then
          bindC (FX 15 [((((((x7).toL).getD ((a0).toInt).toNat D.nil)).toL).getD 0 D.nil), (D.iface 58 (D.int (5 : Int)))]) 1 fun r9 =>
            bindC (FX 14 [a0, (r9.getD 0 D.nil)]) 1 fun r10 =>
            some [(D.int (0 : Int)), (D.int (0 : Int)), (D.int (0 : Int)), (D.int (0 : Int)), (D.int (0 : Int)), (D.int (0 : Int)), (D.int (0 : Int)), (r10.getD 0 D.nil)]
          else
          (W_rules_New_1 x0 x1 x2 x3 x4 x5 x6 x7) [(D.int (IntKind.i64.wrap ((a0).toInt + (1 : Int))))]
      else none
    else none
  else
  some [x0, x1, x2, x3, x4, x5, x6, D.nil] := (loopP_eq FX B_rules_New_1 [] [x0, x1, x2, x3, x4, x5, x6, x7] _).trans (by kernel_rfl)
theorem E_rules_New (x0 x1 x2 x3 x4 x5 x6 : D) : FX 6 [x0, x1, x2, x3, x4, x5, x6] =
  bindC (FX 13 [x0, x1, x2, x3, x4, x5, x6]) 1 fun r7 =>
  W_rules_New_1 x0 x1 x2 x3 x4 x5 x6 (r7.getD 0 D.nil) [(D.int (0 : Int))] := (fixP_eq (t := T_rules_New) (by rfl) _).trans (by kernel_rfl)
noncomputable def W_slices_IndexFunc_trace_Order_trace_Order_1 (x0 x1 : D) : Eng.Fn := loopF fun g xs => evalP FX B_slices_IndexFunc_trace_Order_trace_Order_1 ([] ++ [g]) ([x0, x1] ++ xs)
theorem W_slices_IndexFunc_trace_Order_trace_Order_1_eq (x0 x1 : D) (a0 : D) : W_slices_IndexFunc_trace_Order_trace_Order_1 x0 x1 [a0] =
  if (decide ((a0).toInt < (((x0).toL).length : Int))) = true then
  if (decide ((a0).toInt ≥ (0 : Int))) = true then
    if (decide ((a0).toInt < (((x0).toL).length : Int))) = true then
      if (x1.isIf 32) = true then
        if (((((x1).inner).toL).length : Int) == (2 : Int)) = true then
          if (((((x1).inner).toL).getD 0 D.nil).isIf 3) = true then
            if (((((x1).inner).toL).getD 1 D.nil).isIf 3) = true then
              bindC (FX 32 [((((((x0).toL).getD ((a0).toInt).toNat D.nil)).toL).getD 0 D.nil), ((((((x0).toL).getD ((a0).toInt).toNat D.nil)).toL).getD 1 D.nil), ((((((x0).toL).getD ((a0).toInt).toNat D.nil)).toL).getD 2 D.nil), ((((((x0).toL).getD ((a0).toInt).toNat D.nil)).toL).getD 3 D.nil), ((((((x0).toL).getD ((a0).toInt).toNat D.nil)).toL).getD 4 D.nil), ((((((x0).toL).getD ((a0).toInt).toNat D.nil)).toL).getD 5 D.nil), ((((((x0).toL).getD ((a0).toInt).toNat D.nil)).toL).getD 6 D.nil), ((((((x0).toL).getD ((a0).toInt).toNat D.nil)).toL).getD 7 D.nil), ((((((x0).toL).getD ((a0).toInt).toNat D.nil)).toL).getD 8 D.nil), ((((((x0).toL).getD ((a0).toInt).toNat D.nil)).toL).getD 9 D.nil), ((((((x0).toL).getD ((a0).toInt).toNat D.nil)).toL).getD 10 D.nil), ((((((x0).toL).getD ((a0).toInt).toNat D.nil)).toL).getD 11 D.nil), ((((((x0).toL).getD ((a0).toInt).toNat D.nil)).toL).getD 12 D.nil), (((((x1).inner).toL).getD 0 D.nil)).inner, (((((x1).inner).toL).getD 1 D.nil)).inner]) 1 fun r3 =>
                if ((r3.getD 0 D.nil)).toBool = true then
                some [a0]
                else
                (W_slices_IndexFunc_trace_Order_trace_Order_1 x0 x1) [(D.int (IntKind.i64.wrap ((a0).toInt + (1 : Int))))]
              else none
            else none
          else none
        else
        none
      else none
    else none
  else
  some [(D.int (-1 : Int))] := (loopP_eq FX B_slices_IndexFunc_trace_Order_trace_Order_1 [] [x0, x1] _).trans (by kernel_rfl)
theorem E_slices_IndexFunc_trace_Order_trace_Order (x0 x1 : D) : FX 31 [x0, x1] =
  W_slices_IndexFunc_trace_Order_trace_Order_1 x0 x1 [(D.int (0 : Int))] := (fixP_eq (t := T_slices_IndexFunc_trace_Order_trace_Order) (by rfl) _).trans (by kernel_rfl)
theorem E_p_trace_Model_find_1 (x0 x1 x2 x3 x4 x5 x6 x7 x8 x9 x10 x11 x12 x13 x14 : D) : FX 32 [x0, x1, x2, x3, x4, x5, x6, x7, x8, x9, x10, x11, x12, x13, x14] =
  if (!(x13).isNil) = true then
  if ((x0).toInt == ((((x13).toL).getD 0 D.nil)).toInt) = true then
    if (!(x14).isNil) = true then
      some [(D.bool ((x1).toInt == ((((x14).toL).getD 0 D.nil)).toInt))]
      else none
    else
    some [(D.bool false)]
  else none := (fixP_eq (t := T_p_trace_Model_find_1) (by rfl) _).trans (by kernel_rfl)
theorem E_p_trace_Model_find (x0 x1 x2 x3 : D) : FX 22 [x0, x1, x2, x3] =
  if (!(x0).isNil) = true then
  bindC (FX 31 [((((((x3).toL).getD ((x0).toInt).toNat D.nil)).toL).getD 7 D.nil), (D.iface 32 (D.agg ((D.iface 3 (D.agg (x1 :: []))) :: ((D.iface 3 (D.agg (x2 :: []))) :: []))))]) 1 fun r4 =>
    some [(r4.getD 0 D.nil)]
  else none := (fixP_eq (t := T_p_trace_Model_find) (by rfl) _).trans (by kernel_rfl)
theorem E_p_trace_Model_Order (x0 x1 x2 x3 : D) : FX 11 [x0, x1, x2, x3] =
  if (x0).isNil = true then
  some [(D.int (0 : Int)), (D.int (0 : Int)), (D.int (0 : Int)), (D.int (0 : Int)), (D.int (0 : Int)), (D.int (0 : Int)), (D.int (0 : Int)), (D.int (0 : Int)), (D.int (0 : Int)), (D.int (0 : Int)), (D.bool false), (D.bool false), (D.int (0 : Int)), (D.bool false)]
  else
  bindC (FX 22 [x0, x1, x2, x3]) 1 fun r4 =>
    if (decide (((r4.getD 0 D.nil)).toInt < (0 : Int))) = true then
    some [(D.int (0 : Int)), (D.int (0 : Int)), (D.int (0 : Int)), (D.int (0 : Int)), (D.int (0 : Int)), (D.int (0 : Int)), (D.int (0 : Int)), (D.int (0 : Int)), (D.int (0 : Int)), (D.int (0 : Int)), (D.bool false), (D.bool false), (D.int (0 : Int)), (D.bool false)]
    else
    if (!(x0).isNil) = true then
      if (decide (((r4.getD 0 D.nil)).toInt ≥ (0 : Int))) = true then
        if (decide (((r4.getD 0 D.nil)).toInt < (((((((((x3).toL).getD ((x0).toInt).toNat D.nil)).toL).getD 7 D.nil)).toL).length : Int))) = true then
          some [((((((((((((x3).toL).getD ((x0).toInt).toNat D.nil)).toL).getD 7 D.nil)).toL).getD (((r4.getD 0 D.nil)).toInt).toNat D.nil)).toL).getD 0 D.nil), ((((((((((((x3).toL).getD ((x0).toInt).toNat D.nil)).toL).getD 7 D.nil)).toL).getD (((r4.getD 0 D.nil)).toInt).toNat D.nil)).toL).getD 1 D.nil), ((((((((((((x3).toL).getD ((x0).toInt).toNat D.nil)).toL).getD 7 D.nil)).toL).getD (((r4.getD 0 D.nil)).toInt).toNat D.nil)).toL).getD 2 D.nil), ((((((((((((x3).toL).getD ((x0).toInt).toNat D.nil)).toL).getD 7 D.nil)).toL).getD (((r4.getD 0 D.nil)).toInt).toNat D.nil)).toL).getD 3 D.nil), ((((((((((((x3).toL).getD ((x0).toInt).toNat D.nil)).toL).getD 7 D.nil)).toL).getD (((r4.getD 0 D.nil)).toInt).toNat D.nil)).toL).getD 4 D.nil), ((((((((((((x3).toL).getD ((x0).toInt).toNat D.nil)).toL).getD 7 D.nil)).toL).getD (((r4.getD 0 D.nil)).toInt).toNat D.nil)).toL).getD 5 D.nil), ((((((((((((x3).toL).getD ((x0).toInt).toNat D.nil)).toL).getD 7 D.nil)).toL).getD (((r4.getD 0 D.nil)).toInt).toNat D.nil)).toL).getD 6 D.nil), ((((((((((((x3).toL).getD ((x0).toInt).toNat D.nil)).toL).getD 7 D.nil)).toL).getD (((r4.getD 0 D.nil)).toInt).toNat D.nil)).toL).getD 7 D.nil), ((((((((((((x3).toL).getD ((x0).toInt).toNat D.nil)).toL).getD 7 D.nil)).toL).getD (((r4.getD 0 D.nil)).toInt).toNat D.nil)).toL).getD 8 D.nil), ((((((((((((x3).toL).getD ((x0).toInt).toNat D.nil)).toL).getD 7 D.nil)).toL).getD (((r4.getD 0 D.nil)).toInt).toNat D.nil)).toL).getD 9 D.nil), ((((((((((((x3).toL).getD ((x0).toInt).toNat D.nil)).toL).getD 7 D.nil)).toL).getD (((r4.getD 0 D.nil)).toInt).toNat D.nil)).toL).getD 10 D.nil), ((((((((((((x3).toL).getD ((x0).toInt).toNat D.nil)).toL).getD 7 D.nil)).toL).getD (((r4.getD 0 D.nil)).toInt).toNat D.nil)).toL).getD 11 D.nil), ((((((((((((x3).toL).getD ((x0).toInt).toNat D.nil)).toL).getD 7 D.nil)).toL).getD (((r4.getD 0 D.nil)).toInt).toNat D.nil)).toL).getD 12 D.nil), (D.bool true)]
          else none
        else none
      else none := (fixP_eq (t := T_p_trace_Model_Order) (by rfl) _).trans (by kernel_rfl)
theorem E_trace_New (x0 x1 x2 x3 x4 x5 x6 x7 : D) : FX 8 [x0, x1, x2, x3, x4, x5, x6, x7] =
  some [(D.int (((x7).toL).length : Int)), (D.agg ((x7).toL ++ ((D.agg (x0 :: (x1 :: (x2 :: (x3 :: (x4 :: (x5 :: (x6 :: ((D.agg []) :: ((D.int (0 : Int)) :: [])))))))))) :: [])))] := (fixP_eq (t := T_trace_New) (by rfl) _).trans (by kernel_rfl)
theorem E_rules_Rules_All (x0 x1 x2 x3 x4 x5 x6 : D) : FX 35 [x0, x1, x2, x3, x4, x5, x6] =
  some [(D.int (IntKind.i64.wrap ((x0).toInt * (x1).toInt)))] := (fixP_eq (t := T_rules_Rules_All) (by rfl) _).trans (by kernel_rfl)
theorem E_rules_Rules_Owner (x0 x1 x2 x3 x4 x5 x6 x7 : D) : FX 24 [x0, x1, x2, x3, x4, x5, x6, x7] =
  if (decide ((x7).toInt < (0 : Int))) = true then
  some [(D.int (-1 : Int))]
  else
  bindC (FX 35 [x0, x1, x2, x3, x4, x5, x6]) 1 fun r8 =>
    if (decide ((x7).toInt ≥ ((r8.getD 0 D.nil)).toInt)) = true then
    some [(D.int (-1 : Int))]
    else
    if ((x1).toInt != (0 : Int)) = true then
      some [(D.int (IntKind.i64.wrap (Int.tdiv (x7).toInt (x1).toInt)))]
      else none := (fixP_eq (t := T_rules_Rules_Owner) (by rfl) _).trans (by kernel_rfl)
noncomputable def W_p_trace_Model_last_1 (x0 x1 x2 : D) : Eng.Fn := loopF fun g xs => evalP FX B_p_trace_Model_last_1 ([] ++ [g]) ([x0, x1, x2] ++ xs)
theorem W_p_trace_Model_last_1_eq (x0 x1 x2 : D) (a0 a1 : D) : W_p_trace_Model_last_1 x0 x1 x2 [a0, a1] =
  if (decide ((a1).toInt < (((((((((x2).toL).getD ((x0).toInt).toNat D.nil)).toL).getD 7 D.nil)).toL).length : Int))) = true then
  if (decide ((a1).toInt ≥ (0 : Int))) = true then
    if (decide ((a1).toInt < (((((((((x2).toL).getD ((x0).toInt).toNat D.nil)).toL).getD 7 D.nil)).toL).length : Int))) = true then
      if ((((((((((((((x2).toL).getD ((x0).toInt).toNat D.nil)).toL).getD 7 D.nil)).toL).getD ((a1).toInt).toNat D.nil)).toL).getD 0 D.nil)).toInt == (x1).toInt) = true then
        (W_p_trace_Model_last_1 x0 x1 x2) [a1, (D.int (IntKind.i64.wrap ((a1).toInt + (1 : Int))))]
        else
        (W_p_trace_Model_last_1 x0 x1 x2) [a0, (D.int (IntKind.i64.wrap ((a1).toInt + (1 : Int))))]
      else none
    else none
  else
  some [a0] := (loopP_eq FX B_p_trace_Model_last_1 [] [x0, x1, x2] _).trans (by kernel_rfl)
theorem E_p_trace_Model_last (x0 x1 x2 : D) : FX 25 [x0, x1, x2] =
  if (!(x0).isNil) = true then
  W_p_trace_Model_last_1 x0 x1 x2 [(D.int (-1 : Int)), (D.int (0 : Int))]
  else none := (fixP_eq (t := T_p_trace_Model_last) (by rfl) _).trans (by kernel_rfl)
theorem E_terms_Check (x0 x1 x2 x3 x4 x5 x6 x7 x8 x9 x10 x11 x12 x13 : D) : FX 26 [x0, x1, x2, x3, x4, x5, x6, x7, x8, x9, x10, x11, x12, x13] =
  if (decide ((x7).toInt < (0 : Int))) = true then
  some [(D.iface 58 (D.int (22 : Int)))]
  else
  if (decide ((x7).toInt ≥ (x2).toInt)) = true then
    some [(D.iface 58 (D.int (22 : Int)))]
    else
    if ((x8).toInt != (0 : Int)) = true then
      if ((x8).toInt != (1 : Int)) = true then
        some [(D.iface 58 (D.int (1 : Int)))]
        else
        if (decide ((x12).toInt < (1 : Int))) = true then
          some [(D.iface 58 (D.int (23 : Int)))]
          else
          if (decide ((x12).toInt > (9999 : Int))) = true then
            some [(D.iface 58 (D.int (23 : Int)))]
            else
            if (decide ((x9).toInt < (1 : Int))) = true then
              some [(D.iface 58 (D.int (24 : Int)))]
              else
              if (decide ((x9).toInt > (9999 : Int))) = true then
                some [(D.iface 58 (D.int (24 : Int)))]
                else
                if (decide ((x10).toInt < (1 : Int))) = true then
                  some [(D.iface 58 (D.int (25 : Int)))]
                  else
                  if (decide ((x10).toInt > (x12).toInt)) = true then
                    some [(D.iface 58 (D.int (25 : Int)))]
                    else
                    if (decide ((x11).toInt ≤ (x13).toInt)) = true then
                      some [(D.iface 58 (D.int (26 : Int)))]
                      else
                      if (decide ((x11).toInt > (1000000 : Int))) = true then
                        some [(D.iface 58 (D.int (26 : Int)))]
                        else
                        some [D.nil]
      else
      if (decide ((x12).toInt < (1 : Int))) = true then
        some [(D.iface 58 (D.int (23 : Int)))]
        else
        if (decide ((x12).toInt > (9999 : Int))) = true then
          some [(D.iface 58 (D.int (23 : Int)))]
          else
          if (decide ((x9).toInt < (1 : Int))) = true then
            some [(D.iface 58 (D.int (24 : Int)))]
            else
            if (decide ((x9).toInt > (9999 : Int))) = true then
              some [(D.iface 58 (D.int (24 : Int)))]
              else
              if (decide ((x10).toInt < (1 : Int))) = true then
                some [(D.iface 58 (D.int (25 : Int)))]
                else
                if (decide ((x10).toInt > (x12).toInt)) = true then
                  some [(D.iface 58 (D.int (25 : Int)))]
                  else
                  if (decide ((x11).toInt ≤ (x13).toInt)) = true then
                    some [(D.iface 58 (D.int (26 : Int)))]
                    else
                    if (decide ((x11).toInt > (1000000 : Int))) = true then
                      some [(D.iface 58 (D.int (26 : Int)))]
                      else
                      some [D.nil] := (fixP_eq (t := T_terms_Check) (by rfl) _).trans (by kernel_rfl)
noncomputable def J_p_trace_Model_submit_1 (x0 x1 x2 x3 x4 x5 x6 x7 x8 x9 x10 x11 x12 x13 x14 x15 x16 : D) : Eng.Fn := fun xs => evalP FX B_p_trace_Model_submit_1 [] ([x0, x1, x2, x3, x4, x5, x6, x7, x8, x9, x10, x11, x12, x13, x14, x15, x16] ++ xs)
theorem J_p_trace_Model_submit_1_eq (x0 x1 x2 x3 x4 x5 x6 x7 x8 x9 x10 x11 x12 x13 x14 x15 x16 : D) (a0 a1 : D) : J_p_trace_Model_submit_1 x0 x1 x2 x3 x4 x5 x6 x7 x8 x9 x10 x11 x12 x13 x14 x15 x16  [a0, a1] =
  if (!(x0).isNil) = true then
  if (decide ((a1).toInt ≥ (((((((a0).toL).getD ((x0).toInt).toNat D.nil)).toL).getD 6 D.nil)).toInt)) = true then
    some [(D.iface 58 (D.int (28 : Int))), a0]
    else
    if ((x3).toInt != (IntKind.i64.wrap ((a1).toInt + (1 : Int)))) = true then
      some [(D.iface 58 (D.int (20 : Int))), a0]
      else
      if (!(x0).isNil) = true then
        bindC (FX 26 [((((((a0).toL).getD ((x0).toInt).toNat D.nil)).toL).getD 0 D.nil), ((((((a0).toL).getD ((x0).toInt).toNat D.nil)).toL).getD 1 D.nil), ((((((a0).toL).getD ((x0).toInt).toNat D.nil)).toL).getD 2 D.nil), ((((((a0).toL).getD ((x0).toInt).toNat D.nil)).toL).getD 3 D.nil), ((((((a0).toL).getD ((x0).toInt).toNat D.nil)).toL).getD 4 D.nil), ((((((a0).toL).getD ((x0).toInt).toNat D.nil)).toL).getD 5 D.nil), ((((((a0).toL).getD ((x0).toInt).toNat D.nil)).toL).getD 6 D.nil), x6, x7, x8, x9, x10, x11, (D.int (0 : Int))]) 1 fun r19 =>
          if (!((r19.getD 0 D.nil)).isNil) = true then
          some [(r19.getD 0 D.nil), a0]
          else
          if (!(x0).isNil) = true then
            if (decide (((((((((((a0).toL).getD ((x0).toInt).toNat D.nil)).toL).getD 7 D.nil)).toL ++ ((D.agg (x2 :: (x3 :: (x6 :: (x7 :: (x8 :: (x9 :: (x10 :: (x11 :: (x11 :: ((D.int (0 : Int)) :: ((D.bool false) :: ((D.bool false) :: ((D.int (0 : Int)) :: [])))))))))))))) :: []))).length : Int) ≤ (1466015503701 : Int))) = true then
              if (!(x0).isNil) = true then
                some [D.nil, (D.agg (((a0).toL).set ((x0).toInt).toNat (D.agg (((List.range 9).map fun j => (((((a0).toL).getD ((x0).toInt).toNat D.nil)).toL).getD j D.nil).set 7 (D.agg ((((((((a0).toL).getD ((x0).toInt).toNat D.nil)).toL).getD 7 D.nil)).toL ++ ((D.agg (x2 :: (x3 :: (x6 :: (x7 :: (x8 :: (x9 :: (x10 :: (x11 :: (x11 :: ((D.int (0 : Int)) :: ((D.bool false) :: ((D.bool false) :: ((D.int (0 : Int)) :: [])))))))))))))) :: [])))))))]
                else none
              else none
            else none
        else none
  else none := by kernel_rfl
theorem E_p_trace_Model_submit (x0 x1 x2 x3 x4 x5 x6 x7 x8 x9 x10 x11 x12 x13 x14 x15 : D) : FX 17 [x0, x1, x2, x3, x4, x5, x6, x7, x8, x9, x10, x11, x12, x13, x14, x15] =
  if (!(x0).isNil) = true then
  bindC (FX 24 [((((((x15).toL).getD ((x0).toInt).toNat D.nil)).toL).getD 0 D.nil), ((((((x15).toL).getD ((x0).toInt).toNat D.nil)).toL).getD 1 D.nil), ((((((x15).toL).getD ((x0).toInt).toNat D.nil)).toL).getD 2 D.nil), ((((((x15).toL).getD ((x0).toInt).toNat D.nil)).toL).getD 3 D.nil), ((((((x15).toL).getD ((x0).toInt).toNat D.nil)).toL).getD 4 D.nil), ((((((x15).toL).getD ((x0).toInt).toNat D.nil)).toL).getD 5 D.nil), ((((((x15).toL).getD ((x0).toInt).toNat D.nil)).toL).getD 6 D.nil), x2]) 1 fun r16 =>
    if (decide (((r16.getD 0 D.nil)).toInt < (0 : Int))) = true then
    some [(D.iface 58 (D.int (21 : Int))), x15]
    else
    bindC (FX 25 [x0, x2, x15]) 1 fun r17 =>
      if (decide (((r17.getD 0 D.nil)).toInt ≥ (0 : Int))) = true then
      if (!(x0).isNil) = true then
        if (decide (((r17.getD 0 D.nil)).toInt ≥ (0 : Int))) = true then
          if (decide (((r17.getD 0 D.nil)).toInt < (((((((((x15).toL).getD ((x0).toInt).toNat D.nil)).toL).getD 7 D.nil)).toL).length : Int))) = true then
            if ((((((((((((((x15).toL).getD ((x0).toInt).toNat D.nil)).toL).getD 7 D.nil)).toL).getD (((r17.getD 0 D.nil)).toInt).toNat D.nil)).toL).getD 12 D.nil)).toInt == (0 : Int)) = true then
              some [(D.iface 58 (D.int (27 : Int))), x15]
              else
              if (!(x0).isNil) = true then
                if (decide (((r17.getD 0 D.nil)).toInt ≥ (0 : Int))) = true then
                  if (decide (((r17.getD 0 D.nil)).toInt < (((((((((x15).toL).getD ((x0).toInt).toNat D.nil)).toL).getD 7 D.nil)).toL).length : Int))) = true then
                    (J_p_trace_Model_submit_1 x0 x1 x2 x3 x4 x5 x6 x7 x8 x9 x10 x11 x12 x13 x14 x15 (r16.getD 0 D.nil)) [x15, ((((((((((((x15).toL).getD ((x0).toInt).toNat D.nil)).toL).getD 7 D.nil)).toL).getD (((r17.getD 0 D.nil)).toInt).toNat D.nil)).toL).getD 1 D.nil)]
                    else none
                  else none
                else none
            else none
          else none
        else none
      else
      (J_p_trace_Model_submit_1 x0 x1 x2 x3 x4 x5 x6 x7 x8 x9 x10 x11 x12 x13 x14 x15 (r16.getD 0 D.nil)) [x15, (D.int (0 : Int))]
  else none := (fixP_eq (t := T_p_trace_Model_submit) (by rfl) _).trans (by kernel_rfl)
theorem E_p_trace_Model_live (x0 x1 x2 x3 : D) : FX 27 [x0, x1, x2, x3] =
  bindC (FX 22 [x0, x1, x2, x3]) 1 fun r4 =>
  if (decide (((r4.getD 0 D.nil)).toInt < (0 : Int))) = true then
  some [(D.int (-1 : Int)), (D.iface 58 (D.int (3 : Int)))]
  else
  if (!(x0).isNil) = true then
    if (decide (((r4.getD 0 D.nil)).toInt ≥ (0 : Int))) = true then
      if (decide (((r4.getD 0 D.nil)).toInt < (((((((((x3).toL).getD ((x0).toInt).toNat D.nil)).toL).getD 7 D.nil)).toL).length : Int))) = true then
        if ((((((((((((((x3).toL).getD ((x0).toInt).toNat D.nil)).toL).getD 7 D.nil)).toL).getD (((r4.getD 0 D.nil)).toInt).toNat D.nil)).toL).getD 12 D.nil)).toInt != (0 : Int)) = true then
          some [(D.int (-1 : Int)), (D.iface 58 (D.int (29 : Int)))]
          else
          some [(r4.getD 0 D.nil), D.nil]
        else none
      else none
    else none := (fixP_eq (t := T_p_trace_Model_live) (by rfl) _).trans (by kernel_rfl)
noncomputable def W_fault_First_1 (x0 : D) : Eng.Fn := loopF fun g xs => evalP FX B_fault_First_1 ([] ++ [g]) ([x0] ++ xs)
theorem W_fault_First_1_eq (x0 : D) (a0 : D) : W_fault_First_1 x0 [a0] =
  if (decide ((a0).toInt < (((x0).toL).length : Int))) = true then
  if (decide ((a0).toInt ≥ (0 : Int))) = true then
    if (decide ((a0).toInt < (((x0).toL).length : Int))) = true then
      if (!((((x0).toL).getD ((a0).toInt).toNat D.nil)).isNil) = true then
        some [(((x0).toL).getD ((a0).toInt).toNat D.nil)]
        else
        (W_fault_First_1 x0) [(D.int (IntKind.i64.wrap ((a0).toInt + (1 : Int))))]
      else none
    else none
  else
  some [D.nil] := (loopP_eq FX B_fault_First_1 [] [x0] _).trans (by kernel_rfl)
theorem E_fault_First (x0 : D) : FX 28 [x0] =
  W_fault_First_1 x0 [(D.int (0 : Int))] := (fixP_eq (t := T_fault_First) (by rfl) _).trans (by kernel_rfl)
theorem E_p_trace_Model_over (x0 x1 x2 x3 x4 x5 x6 x7 x8 x9 x10 x11 x12 x13 x14 : D) : FX 29 [x0, x1, x2, x3, x4, x5, x6, x7, x8, x9, x10, x11, x12, x13, x14] =
  if ((x9).toInt == (0 : Int)) = true then
  some [(D.int (5 : Int))]
  else
  if (!(x0).isNil) = true then
    if (decide ((x10).toInt ≥ (((((((x14).toL).getD ((x0).toInt).toNat D.nil)).toL).getD 5 D.nil)).toInt)) = true then
      some [(D.int (8 : Int))]
      else
      some [(D.int (0 : Int))]
    else none := (fixP_eq (t := T_p_trace_Model_over) (by rfl) _).trans (by kernel_rfl)
theorem E_field_up (x0 x1 : D) : FX 37 [x0, x1] =
  if (decide ((x1).toInt < (x0).toInt)) = true then
  if ((Int.tmod (IntKind.i64.wrap ((x0).toInt - (x1).toInt)) (2 : Int)) == (1 : Int)) = true then
    some [(D.int (1 : Int))]
    else
    some [(D.int (0 : Int))]
  else
  some [(D.int (0 : Int))] := (fixP_eq (t := T_field_up) (by rfl) _).trans (by kernel_rfl)
theorem E_field_Mid (x0 x1 : D) : FX 36 [x0, x1] =
  bindC (FX 37 [x0, x1]) 1 fun r2 =>
  some [(D.int (IntKind.i64.wrap ((IntKind.i64.wrap ((x0).toInt + (IntKind.i64.wrap (Int.tdiv (IntKind.i64.wrap ((x1).toInt - (x0).toInt)) (2 : Int))))) - ((r2.getD 0 D.nil)).toInt)))] := (fixP_eq (t := T_field_Mid) (by rfl) _).trans (by kernel_rfl)
noncomputable def J_terms_Match_1 (x0 x1 x2 x3 x4 x5 x6 x7 x8 x9 x10 x11 : D) : Eng.Fn := fun xs => evalP FX B_terms_Match_1 [] ([x0, x1, x2, x3, x4, x5, x6, x7, x8, x9, x10, x11] ++ xs)
theorem J_terms_Match_1_eq (x0 x1 x2 x3 x4 x5 x6 x7 x8 x9 x10 x11 : D) (a0 a1 a2 a3 a4 a5 a6 a7 a8 a9 : D) : J_terms_Match_1 x0 x1 x2 x3 x4 x5 x6 x7 x8 x9 x10 x11  [a0, a1, a2, a3, a4, a5, a6, a7, a8, a9] =
  if ((a1).toInt != (0 : Int)) = true then
  some [(D.int (0 : Int)), (D.int (0 : Int))]
  else
  if ((a6).toInt != (1 : Int)) = true then
    some [(D.int (0 : Int)), (D.int (0 : Int))]
    else
    if ((x0).toInt != (x5).toInt) = true then
      some [(D.int (0 : Int)), (D.int (0 : Int))]
      else
      if (decide ((a2).toInt < (a7).toInt)) = true then
        some [(D.int (0 : Int)), (D.int (0 : Int))]
        else
        if (decide (((if (decide ((x11).toInt < (x10).toInt)) = true then x11 else x10)).toInt < (1 : Int))) = true then
          some [(D.int (0 : Int)), (D.int (0 : Int))]
          else
          if (decide (((if (decide ((x11).toInt < (x10).toInt)) = true then x11 else x10)).toInt < ((if (decide ((x8).toInt > (x3).toInt)) = true then x8 else x3)).toInt)) = true then
            some [(D.int (0 : Int)), (D.int (0 : Int))]
            else
            bindC (FX 36 [a7, a2]) 1 fun r22 =>
              some [(if (decide ((x11).toInt < (x10).toInt)) = true then x11 else x10), (r22.getD 0 D.nil)] := by kernel_rfl
theorem E_terms_Match (x0 x1 x2 x3 x4 x5 x6 x7 x8 x9 x10 x11 : D) : FX 30 [x0, x1, x2, x3, x4, x5, x6, x7, x8, x9, x10, x11] =
  if ((x1).toInt == (1 : Int)) = true then
  (J_terms_Match_1 x0 x1 x2 x3 x4 x5 x6 x7 x8 x9 x10 x11) [x5, x6, x7, x8, x9, x0, x1, x2, x3, x4]
  else
  (J_terms_Match_1 x0 x1 x2 x3 x4 x5 x6 x7 x8 x9 x10 x11) [x0, x1, x2, x3, x4, x5, x6, x7, x8, x9] := (fixP_eq (t := T_terms_Match) (by rfl) _).trans (by kernel_rfl)
end Go.Proofs.Ytofkbhilhgmnlaa
