/-
  The functions, as equations.
-/
import Derived.Test.YtofkbhilhgmnlaaAll
namespace Go.Proofs.Ytofkbhilhgmnlaa
open Go.Proofs.Ytofkbhilhgmnlaa.Eng
set_option linter.unusedVariables false
set_option maxRecDepth 20000
theorem E_rules_Rules_All (x0 x1 x2 x3 x4 x5 x6 : D) : FX 35 [x0, x1, x2, x3, x4, x5, x6] =
  some [(D.int (IntKind.i64.wrap ((x0).toInt * (x1).toInt)))] := (fixP_eq (t := T_rules_Rules_All) (by rfl) _).trans (by kernel_rfl)
theorem E_rules_Rules_Owner (x0 x1 x2 x3 x4 x5 x6 x7 : D) : FX 24 [x0, x1, x2, x3, x4, x5, x6, x7] =
  if (decide ((x7).toInt < (0 : Int))) = true then
  some [(D.int (-1 : Int))]
  else
  bindC (FX 35 [x0, x1, x2, x3, x4, x5, x6]) 1 fun r8 =>
    if (decide ((x7).toInt ≥ ((r8.getD 0 D.nil)).toInt)) = true then
    some [(D.int (-1 : Int))]
    else
    if ((x1).toInt != (0 : Int)) = true then
      some [(D.int (IntKind.i64.wrap (Int.tdiv (x7).toInt (x1).toInt)))]
      else none := (fixP_eq (t := T_rules_Rules_Owner) (by rfl) _).trans (by kernel_rfl)
noncomputable def W_slices_IndexFunc_trace_Order_trace_Order_1 (x0 x1 : D) : Eng.Fn := loopF fun g xs => evalP FX B_slices_IndexFunc_trace_Order_trace_Order_1 ([] ++ [g]) ([x0, x1] ++ xs)
theorem W_slices_IndexFunc_trace_Order_trace_Order_1_eq (x0 x1 : D) (a0 : D) : W_slices_IndexFunc_trace_Order_trace_Order_1 x0 x1 [a0] =
  let v0 : D := ((((x1).inner).toL).getD 0 D.nil)
  let v1 : D := ((((x1).inner).toL).getD 1 D.nil)
  let v2 : D := (((x0).toL).getD ((a0).toInt).toNat D.nil)
  if (decide ((a0).toInt < (((x0).toL).length : Int))) = true then
  if (decide ((a0).toInt ≥ (0 : Int))) = true then
    if (decide ((a0).toInt < (((x0).toL).length : Int))) = true then
      if (x1.isIf 32) = true then
        if (((((x1).inner).toL).length : Int) == (2 : Int)) = true then
          if (v0.isIf 3) = true then
            if (v1.isIf 3) = true then
              bindC (FX 32 [(((v2).toL).getD 0 D.nil), (((v2).toL).getD 1 D.nil), (((v2).toL).getD 2 D.nil), (((v2).toL).getD 3 D.nil), (((v2).toL).getD 4 D.nil), (((v2).toL).getD 5 D.nil), (((v2).toL).getD 6 D.nil), (((v2).toL).getD 7 D.nil), (((v2).toL).getD 8 D.nil), (((v2).toL).getD 9 D.nil), (((v2).toL).getD 10 D.nil), (((v2).toL).getD 11 D.nil), (((v2).toL).getD 12 D.nil), (v0).inner, (v1).inner]) 1 fun r3 =>
                if ((r3.getD 0 D.nil)).toBool = true then
                some [a0]
                else
                (W_slices_IndexFunc_trace_Order_trace_Order_1 x0 x1) [(D.int (IntKind.i64.wrap ((a0).toInt + (1 : Int))))]
              else none
            else none
          else none
        else
        none
      else none
    else none
  else
  some [(D.int (-1 : Int))] := (loopP_eq FX B_slices_IndexFunc_trace_Order_trace_Order_1 [] [x0, x1] _).trans (by kernel_rfl)
theorem E_slices_IndexFunc_trace_Order_trace_Order (x0 x1 : D) : FX 31 [x0, x1] =
  W_slices_IndexFunc_trace_Order_trace_Order_1 x0 x1 [(D.int (0 : Int))] := (fixP_eq (t := T_slices_IndexFunc_trace_Order_trace_Order) (by rfl) _).trans (by kernel_rfl)
theorem E_p_trace_Model_find_1 (x0 x1 x2 x3 x4 x5 x6 x7 x8 x9 x10 x11 x12 x13 x14 : D) : FX 32 [x0, x1, x2, x3, x4, x5, x6, x7, x8, x9, x10, x11, x12, x13, x14] =
  if (!(x13).isNil) = true then
  if ((x0).toInt == ((((x13).toL).getD 0 D.nil)).toInt) = true then
    if (!(x14).isNil) = true then
      some [(D.bool ((x1).toInt == ((((x14).toL).getD 0 D.nil)).toInt))]
      else none
    else
    some [(D.bool false)]
  else none := (fixP_eq (t := T_p_trace_Model_find_1) (by rfl) _).trans (by kernel_rfl)
theorem E_p_trace_Model_find (x0 x1 x2 x3 : D) : FX 22 [x0, x1, x2, x3] =
  if (!(x0).isNil) = true then
  bindC (FX 31 [((((((x3).toL).getD ((x0).toInt).toNat D.nil)).toL).getD 7 D.nil), (D.iface 32 (D.agg ((D.iface 3 (D.agg (x1 :: []))) :: ((D.iface 3 (D.agg (x2 :: []))) :: []))))]) 1 fun r4 =>
    some [(r4.getD 0 D.nil)]
  else none := (fixP_eq (t := T_p_trace_Model_find) (by rfl) _).trans (by kernel_rfl)
theorem E_p_trace_Model_live (x0 x1 x2 x3 : D) : FX 27 [x0, x1, x2, x3] =
  let v0 : D := ((((((x3).toL).getD ((x0).toInt).toNat D.nil)).toL).getD 7 D.nil)
  bindC (FX 22 [x0, x1, x2, x3]) 1 fun r4 =>
  if (decide (((r4.getD 0 D.nil)).toInt < (0 : Int))) = true then
  some [(D.int (-1 : Int)), (D.iface 58 (D.int (3 : Int)))]
  else
  if (!(x0).isNil) = true then
    if (decide (((r4.getD 0 D.nil)).toInt ≥ (0 : Int))) = true then
      if (decide (((r4.getD 0 D.nil)).toInt < (((v0).toL).length : Int))) = true then
        if ((((((((v0).toL).getD (((r4.getD 0 D.nil)).toInt).toNat D.nil)).toL).getD 12 D.nil)).toInt != (0 : Int)) = true then
          some [(D.int (-1 : Int)), (D.iface 58 (D.int (29 : Int)))]
          else
          some [(r4.getD 0 D.nil), D.nil]
        else none
      else none
    else none := (fixP_eq (t := T_p_trace_Model_live) (by rfl) _).trans (by kernel_rfl)
noncomputable def W_fault_First_1 (x0 : D) : Eng.Fn := loopF fun g xs => evalP FX B_fault_First_1 ([] ++ [g]) ([x0] ++ xs)
theorem W_fault_First_1_eq (x0 : D) (a0 : D) : W_fault_First_1 x0 [a0] =
  let v0 : D := (((x0).toL).getD ((a0).toInt).toNat D.nil)
  if (decide ((a0).toInt < (((x0).toL).length : Int))) = true then
  if (decide ((a0).toInt ≥ (0 : Int))) = true then
    if (decide ((a0).toInt < (((x0).toL).length : Int))) = true then
      if (!(v0).isNil) = true then
        some [v0]
        else
        (W_fault_First_1 x0) [(D.int (IntKind.i64.wrap ((a0).toInt + (1 : Int))))]
      else none
    else none
  else
  some [D.nil] := (loopP_eq FX B_fault_First_1 [] [x0] _).trans (by kernel_rfl)
theorem E_fault_First (x0 : D) : FX 28 [x0] =
  W_fault_First_1 x0 [(D.int (0 : Int))] := (fixP_eq (t := T_fault_First) (by rfl) _).trans (by kernel_rfl)
theorem E_p_trace_Model_over (x0 x1 x2 x3 x4 x5 x6 x7 x8 x9 x10 x11 x12 x13 x14 : D) : FX 29 [x0, x1, x2, x3, x4, x5, x6, x7, x8, x9, x10, x11, x12, x13, x14] =
  if ((x9).toInt == (0 : Int)) = true then
  some [(D.int (5 : Int))]
  else
  if (!(x0).isNil) = true then
    if (decide ((x10).toInt ≥ (((((((x14).toL).getD ((x0).toInt).toNat D.nil)).toL).getD 5 D.nil)).toInt)) = true then
      some [(D.int (8 : Int))]
      else
      some [(D.int (0 : Int))]
    else none := (fixP_eq (t := T_p_trace_Model_over) (by rfl) _).trans (by kernel_rfl)
theorem E_field_up (x0 x1 : D) : FX 37 [x0, x1] =
  if (decide ((x1).toInt < (x0).toInt)) = true then
  if ((Int.tmod (IntKind.i64.wrap ((x0).toInt - (x1).toInt)) (2 : Int)) == (1 : Int)) = true then
    some [(D.int (1 : Int))]
    else
    some [(D.int (0 : Int))]
  else
  some [(D.int (0 : Int))] := (fixP_eq (t := T_field_up) (by rfl) _).trans (by kernel_rfl)
theorem E_field_Mid (x0 x1 : D) : FX 36 [x0, x1] =
  bindC (FX 37 [x0, x1]) 1 fun r2 =>
  some [(D.int (IntKind.i64.wrap ((IntKind.i64.wrap ((x0).toInt + (IntKind.i64.wrap (Int.tdiv (IntKind.i64.wrap ((x1).toInt - (x0).toInt)) (2 : Int))))) - ((r2.getD 0 D.nil)).toInt)))] := (fixP_eq (t := T_field_Mid) (by rfl) _).trans (by kernel_rfl)
noncomputable def J_terms_Match_1 (x0 x1 x2 x3 x4 x5 x6 x7 x8 x9 x10 x11 : D) : Eng.Fn := fun xs => evalP FX B_terms_Match_1 [] ([x0, x1, x2, x3, x4, x5, x6, x7, x8, x9, x10, x11] ++ xs)
theorem J_terms_Match_1_eq (x0 x1 x2 x3 x4 x5 x6 x7 x8 x9 x10 x11 : D) (a0 a1 a2 a3 a4 a5 a6 a7 a8 a9 : D) : J_terms_Match_1 x0 x1 x2 x3 x4 x5 x6 x7 x8 x9 x10 x11  [a0, a1, a2, a3, a4, a5, a6, a7, a8, a9] =
  let v0 : D := (if (decide ((x11).toInt < (x10).toInt)) = true then x11 else x10)
  if ((a1).toInt != (0 : Int)) = true then
  some [(D.int (0 : Int)), (D.int (0 : Int))]
  else
  if ((a6).toInt != (1 : Int)) = true then
    some [(D.int (0 : Int)), (D.int (0 : Int))]
    else
    if ((x0).toInt != (x5).toInt) = true then
      some [(D.int (0 : Int)), (D.int (0 : Int))]
      else
      if (decide ((a2).toInt < (a7).toInt)) = true then
        some [(D.int (0 : Int)), (D.int (0 : Int))]
        else
        if (decide ((v0).toInt < (1 : Int))) = true then
          some [(D.int (0 : Int)), (D.int (0 : Int))]
          else
          if (decide ((v0).toInt < ((if (decide ((x8).toInt > (x3).toInt)) = true then x8 else x3)).toInt)) = true then
            some [(D.int (0 : Int)), (D.int (0 : Int))]
            else
            bindC (FX 36 [a7, a2]) 1 fun r22 =>
              some [v0, (r22.getD 0 D.nil)] := by kernel_rfl
theorem E_terms_Match (x0 x1 x2 x3 x4 x5 x6 x7 x8 x9 x10 x11 : D) : FX 30 [x0, x1, x2, x3, x4, x5, x6, x7, x8, x9, x10, x11] =
  if ((x1).toInt == (1 : Int)) = true then
  (J_terms_Match_1 x0 x1 x2 x3 x4 x5 x6 x7 x8 x9 x10 x11) [x5, x6, x7, x8, x9, x0, x1, x2, x3, x4]
  else
  (J_terms_Match_1 x0 x1 x2 x3 x4 x5 x6 x7 x8 x9 x10 x11) [x0, x1, x2, x3, x4, x5, x6, x7, x8, x9] := (fixP_eq (t := T_terms_Match) (by rfl) _).trans (by kernel_rfl)
theorem E_p_trace_Model_fill (x0 x1 x2 x3 x4 x5 x6 x7 x8 x9 x10 x11 x12 x13 x14 x15 : D) : FX 18 [x0, x1, x2, x3, x4, x5, x6, x7, x8, x9, x10, x11, x12, x13, x14, x15] =
  let v0 : D := (((x15).toL).getD ((x0).toInt).toNat D.nil)
  let v1 : D := (((v0).toL).getD 7 D.nil)
  let v2 : D := (((v0).toL).getD 0 D.nil)
  let v3 : D := (((v0).toL).getD 1 D.nil)
  let v4 : D := (((v0).toL).getD 2 D.nil)
  let v5 : D := (((v0).toL).getD 3 D.nil)
  let v6 : D := (((v0).toL).getD 4 D.nil)
  let v7 : D := (((v0).toL).getD 5 D.nil)
  let v8 : D := (((v0).toL).getD 6 D.nil)
  let v9 : D := (D.int (((v1).toL).length : Int))
  bindC (FX 27 [x0, x2, x3, x15]) 2 fun r16 =>
  let v10 : D := (((v1).toL).getD (((r16.getD 0 D.nil)).toInt).toNat D.nil)
  let v11 : D := (((v10).toL).getD 0 D.nil)
  let v12 : D := (((v10).toL).getD 2 D.nil)
  let v13 : D := (((v10).toL).getD 3 D.nil)
  let v14 : D := (((v10).toL).getD 4 D.nil)
  let v15 : D := (((v10).toL).getD 5 D.nil)
  let v16 : D := (((v10).toL).getD 6 D.nil)
  let v17 : D := (((v10).toL).getD 8 D.nil)
  bindC (FX 27 [x0, x4, x5, x15]) 2 fun r18 =>
  let v18 : D := (((v1).toL).getD (((r18.getD 0 D.nil)).toInt).toNat D.nil)
  let v19 : D := (((v18).toL).getD 0 D.nil)
  let v20 : D := (((v18).toL).getD 2 D.nil)
  let v21 : D := (((v18).toL).getD 3 D.nil)
  let v22 : D := (((v18).toL).getD 4 D.nil)
  let v23 : D := (((v18).toL).getD 5 D.nil)
  let v24 : D := (((v18).toL).getD 6 D.nil)
  let v25 : D := (((v18).toL).getD 8 D.nil)
  let v26 : D := (((v18).toL).getD 10 D.nil)
  bindC (FX 28 [(D.agg ((r16.getD 1 D.nil) :: ((r18.getD 1 D.nil) :: [])))]) 1 fun r20 =>
  if (!((r20.getD 0 D.nil)).isNil) = true then
  some [(r20.getD 0 D.nil), x15]
  else
  if (!(x0).isNil) = true then
    if (decide (((r16.getD 0 D.nil)).toInt ≥ (0 : Int))) = true then
      if (decide (((r16.getD 0 D.nil)).toInt < (v9).toInt)) = true then
        if (!(x0).isNil) = true then
          if (decide (((r18.getD 0 D.nil)).toInt ≥ (0 : Int))) = true then
            if (decide (((r18.getD 0 D.nil)).toInt < (v9).toInt)) = true then
              if (!(x0).isNil) = true then
                bindC (FX 24 [v2, v3, v4, v5, v6, v7, v8, v11]) 1 fun r21 =>
                  if (!(x0).isNil) = true then
                  bindC (FX 24 [v2, v3, v4, v5, v6, v7, v8, v19]) 1 fun r22 =>
                    if (((r21.getD 0 D.nil)).toInt == ((r22.getD 0 D.nil)).toInt) = true then
                    some [(D.iface 58 (D.int (1 : Int))), x15]
                    else
                    bindC (FX 29 [x0, v11, (((v10).toL).getD 1 D.nil), v12, v13, v14, v15, v16, (((v10).toL).getD 7 D.nil), v17, (((v10).toL).getD 9 D.nil), (((v10).toL).getD 10 D.nil), (((v10).toL).getD 11 D.nil), (((v10).toL).getD 12 D.nil), x15]) 1 fun r23 =>
                      if (((r23.getD 0 D.nil)).toInt != (0 : Int)) = true then
                      some [(D.iface 58 (D.int (29 : Int))), x15]
                      else
                      bindC (FX 29 [x0, v19, (((v18).toL).getD 1 D.nil), v20, v21, v22, v23, v24, (((v18).toL).getD 7 D.nil), v25, (((v18).toL).getD 9 D.nil), v26, (((v18).toL).getD 11 D.nil), (((v18).toL).getD 12 D.nil), x15]) 1 fun r24 =>
                        if (((r24.getD 0 D.nil)).toInt != (0 : Int)) = true then
                        some [(D.iface 58 (D.int (29 : Int))), x15]
                        else
                        if (v26).toBool = true then
                          some [(D.iface 58 (D.int (29 : Int))), x15]
                          else
                          bindC (FX 30 [v12, v13, v14, v15, v16, v20, v21, v22, v23, v24, v17, v25]) 2 fun r25 =>
                            let v27 : D := (D.agg (((v1).toL).set (((r16.getD 0 D.nil)).toInt).toNat (D.agg (((List.range 13).map fun j => ((v10).toL).getD j D.nil).set 8 (D.int (IntKind.i64.wrap ((v17).toInt - ((r25.getD 0 D.nil)).toInt)))))))
                            let v28 : D := (((v27).toL).getD (((r16.getD 0 D.nil)).toInt).toNat D.nil)
                            let v29 : D := (D.agg (((v27).toL).set (((r16.getD 0 D.nil)).toInt).toNat (D.agg (((List.range 13).map fun j => ((v28).toL).getD j D.nil).set 9 (D.int (IntKind.i64.wrap (((((v28).toL).getD 9 D.nil)).toInt + (1 : Int))))))))
                            let v30 : D := (((v29).toL).getD (((r18.getD 0 D.nil)).toInt).toNat D.nil)
                            let v31 : D := (D.agg (((v29).toL).set (((r18.getD 0 D.nil)).toInt).toNat (D.agg (((List.range 13).map fun j => ((v30).toL).getD j D.nil).set 8 (D.int (IntKind.i64.wrap (((((v30).toL).getD 8 D.nil)).toInt - ((r25.getD 0 D.nil)).toInt)))))))
                            let v32 : D := (((v31).toL).getD (((r18.getD 0 D.nil)).toInt).toNat D.nil)
                            let v33 : D := (D.agg (((v31).toL).set (((r18.getD 0 D.nil)).toInt).toNat (D.agg (((List.range 13).map fun j => ((v32).toL).getD j D.nil).set 9 (D.int (IntKind.i64.wrap (((((v32).toL).getD 9 D.nil)).toInt + (1 : Int))))))))
                            let v34 : D := (((v33).toL).getD (((r18.getD 0 D.nil)).toInt).toNat D.nil)
                            if (((r25.getD 0 D.nil)).toInt == (0 : Int)) = true then
                            some [(D.iface 58 (D.int (23 : Int))), x15]
                            else
                            if (!((((r25.getD 0 D.nil)).toInt == (x11).toInt) && (((r25.getD 1 D.nil)).toInt == (x12).toInt))) = true then
                              some [(D.iface 58 (D.int (23 : Int))), x15]
                              else
                              bindC (FX 29 [x0, (((v34).toL).getD 0 D.nil), (((v34).toL).getD 1 D.nil), (((v34).toL).getD 2 D.nil), (((v34).toL).getD 3 D.nil), (((v34).toL).getD 4 D.nil), (((v34).toL).getD 5 D.nil), (((v34).toL).getD 6 D.nil), (((v34).toL).getD 7 D.nil), (((v34).toL).getD 8 D.nil), (((v34).toL).getD 9 D.nil), (((v34).toL).getD 10 D.nil), (((v34).toL).getD 11 D.nil), (((v34).toL).getD 12 D.nil), (D.agg (((x15).toL).set ((x0).toInt).toNat (D.agg (((List.range 9).map fun j => ((v0).toL).getD j D.nil).set 7 v33))))]) 1 fun r27 =>
                                some [D.nil, (D.agg (((x15).toL).set ((x0).toInt).toNat (D.agg (((List.range 9).map fun j => ((v0).toL).getD j D.nil).set 7 (D.agg (((v33).toL).set (((r18.getD 0 D.nil)).toInt).toNat (D.agg (((List.range 13).map fun j => ((v34).toL).getD j D.nil).set 12 (r27.getD 0 D.nil)))))))))]
                  else none
                else none
              else none
            else none
          else none
        else none
      else none
    else none := (fixP_eq (t := T_p_trace_Model_fill) (by rfl) _).trans (by kernel_rfl)
theorem E_p_trace_Model_ends (x0 x1 x2 x3 x4 x5 x6 x7 x8 x9 x10 x11 x12 x13 x14 x15 : D) : FX 19 [x0, x1, x2, x3, x4, x5, x6, x7, x8, x9, x10, x11, x12, x13, x14, x15] =
  let v0 : D := (((x15).toL).getD ((x0).toInt).toNat D.nil)
  let v1 : D := (((v0).toL).getD 7 D.nil)
  bindC (FX 27 [x0, x2, x3, x15]) 2 fun r16 =>
  let v2 : D := (((v1).toL).getD (((r16.getD 0 D.nil)).toInt).toNat D.nil)
  let v3 : D := (((v2).toL).getD 6 D.nil)
  let v4 : D := (((v2).toL).getD 10 D.nil)
  let v5 : D := (D.agg (((x15).toL).set ((x0).toInt).toNat (D.agg (((List.range 9).map fun j => ((v0).toL).getD j D.nil).set 7 (D.agg (((v1).toL).set (((r16.getD 0 D.nil)).toInt).toNat (D.agg (((List.range 13).map fun j => ((v2).toL).getD j D.nil).set 12 (D.int (6 : Int))))))))))
  if (!((r16.getD 1 D.nil)).isNil) = true then
  some [(r16.getD 1 D.nil), x15]
  else
  if (!(x0).isNil) = true then
    if (decide (((r16.getD 0 D.nil)).toInt ≥ (0 : Int))) = true then
      if (decide (((r16.getD 0 D.nil)).toInt < (((v1).toL).length : Int))) = true then
        bindC (FX 29 [x0, (((v2).toL).getD 0 D.nil), (((v2).toL).getD 1 D.nil), (((v2).toL).getD 2 D.nil), (((v2).toL).getD 3 D.nil), (((v2).toL).getD 4 D.nil), (((v2).toL).getD 5 D.nil), v3, (((v2).toL).getD 7 D.nil), (((v2).toL).getD 8 D.nil), (((v2).toL).getD 9 D.nil), v4, (((v2).toL).getD 11 D.nil), (((v2).toL).getD 12 D.nil), x15]) 1 fun r18 =>
          let v6 : D := (D.agg (((x15).toL).set ((x0).toInt).toNat (D.agg (((List.range 9).map fun j => ((v0).toL).getD j D.nil).set 7 (D.agg (((v1).toL).set (((r16.getD 0 D.nil)).toInt).toNat (D.agg (((List.range 13).map fun j => ((v2).toL).getD j D.nil).set 12 (r18.getD 0 D.nil)))))))))
          if ((x1).toInt == (5 : Int)) = true then
          if (decide ((x13).toInt < (v3).toInt)) = true then
            some [(D.iface 58 (D.int (26 : Int))), x15]
            else
            if (((r18.getD 0 D.nil)).toInt != (0 : Int)) = true then
              some [(D.iface 58 (D.int (26 : Int))), x15]
              else
              if (v4).toBool = true then
                some [(D.iface 58 (D.int (26 : Int))), x15]
                else
                some [D.nil, (D.agg (((x15).toL).set ((x0).toInt).toNat (D.agg (((List.range 9).map fun j => ((v0).toL).getD j D.nil).set 7 (D.agg (((v1).toL).set (((r16.getD 0 D.nil)).toInt).toNat (D.agg (((List.range 13).map fun j => ((v2).toL).getD j D.nil).set 12 (D.int (7 : Int))))))))))]
          else
          if ((x1).toInt == (3 : Int)) = true then
            if (((r18.getD 0 D.nil)).toInt != (0 : Int)) = true then
              some [(D.iface 58 (D.int (29 : Int))), x15]
              else
              if (v4).toBool = true then
                some [(D.iface 58 (D.int (29 : Int))), x15]
                else
                some [D.nil, v5]
            else
            if ((x1).toInt == (7 : Int)) = true then
              if (((r18.getD 0 D.nil)).toInt == (0 : Int)) = true then
                if (v4).toBool = true then
                  if ((6 : Int) != (x14).toInt) = true then
                    some [(D.iface 58 (D.int (1 : Int))), x15]
                    else
                    some [D.nil, v5]
                  else
                  some [(D.iface 58 (D.int (1 : Int))), x15]
                else
                if (((r18.getD 0 D.nil)).toInt != (x14).toInt) = true then
                  some [(D.iface 58 (D.int (1 : Int))), x15]
                  else
                  some [D.nil, v6]
              else
              some [D.nil, v6]
        else none
      else none
    else none := (fixP_eq (t := T_p_trace_Model_ends) (by rfl) _).trans (by kernel_rfl)
theorem E_rules_limits (x0 x1 x2 x3 x4 x5 x6 : D) : FX 13 [x0, x1, x2, x3, x4, x5, x6] =
  let v0 : D := (D.agg ((D.int (4 : Int)) :: []))
  let v1 : D := (D.agg ((D.int (1 : Int)) :: (v0).toL))
  some [(D.agg ((D.agg ((D.str ((.mk #[112, 97, 114, 116, 115]))) :: (x0 :: ((D.int (1 : Int)) :: ((D.int (6 : Int)) :: []))))) :: ((D.agg ((D.str ((.mk #[99, 101, 108, 108, 115]))) :: (x1 :: (v1).toL))) :: ((D.agg ((D.str ((.mk #[110, 97, 109, 101, 115]))) :: (x2 :: ((D.int (1 : Int)) :: ((D.int (3 : Int)) :: []))))) :: ((D.agg ((D.str ((.mk #[98, 97, 110, 100, 115]))) :: (x3 :: (v1).toL))) :: ((D.agg ((D.str ((.mk #[112, 114, 111, 98, 101, 115]))) :: (x4 :: ((D.int (0 : Int)) :: (v0).toL)))) :: ((D.agg ((D.str ((.mk #[102, 105, 108, 108, 115]))) :: (x5 :: (v1).toL))) :: ((D.agg ((D.str ((.mk #[103, 101, 110, 115]))) :: (x6 :: ((D.int (1 : Int)) :: ((D.int (15 : Int)) :: []))))) :: []))))))))] := (fixP_eq (t := T_rules_limits) (by rfl) _).trans (by kernel_rfl)
theorem E_fault_At (x0 x1 : D) : FX 14 [x0, x1] =
  if (x1).isNil = true then
  some [D.nil]
  else
  some [(D.iface 66 (D.agg (x0 :: (x1 :: []))))] := (fixP_eq (t := T_fault_At) (by rfl) _).trans (by kernel_rfl)
theorem E_fault_With (x0 x1 : D) : FX 15 [x0, x1] =
  if (x1).isNil = true then
  some [D.nil]
  else
  some [(D.iface 69 (D.agg (x0 :: (x1 :: []))))] := (fixP_eq (t := T_fault_With) (by rfl) _).trans (by kernel_rfl)
noncomputable def W_rules_New_1 (x0 x1 x2 x3 x4 x5 x6 x7 : D) : Eng.Fn := loopF fun g xs => evalP FX B_rules_New_1 ([] ++ [g]) ([x0, x1, x2, x3, x4, x5, x6, x7] ++ xs)
theorem W_rules_New_1_eq (x0 x1 x2 x3 x4 x5 x6 x7 : D) (a0 : D) : W_rules_New_1 x0 x1 x2 x3 x4 x5 x6 x7 [a0] =
  let v0 : D := (((x7).toL).getD ((a0).toInt).toNat D.nil)
  let v1 : D := (((v0).toL).getD 1 D.nil)
  let v2 : D := (((v0).toL).getD 0 D.nil)
  if (decide ((a0).toInt < (((x7).toL).length : Int))) = true then
  if (decide ((a0).toInt ≥ (0 : Int))) = true then
    if (decide ((a0).toInt < (((x7).toL).length : Int))) = true then
      if (decide ((v1).toInt < ((((v0).toL).getD 2 D.nil)).toInt)) = true then
        bindC (FX 15 [v2, (D.iface 58 (D.int (5 : Int)))]) 1 fun r9 =>
          bindC (FX 14 [a0, (r9.getD 0 D.nil)]) 1 fun r10 =>
          some [(D.int (0 : Int)), (D.int (0 : Int)), (D.int (0 : Int)), (D.int (0 : Int)), (D.int (0 : Int)), (D.int (0 : Int)), (D.int (0 : Int)), (r10.getD 0 D.nil)]
        else
        if (decide ((v1).toInt > ((((v0).toL).getD 3 D.nil)).toInt)) = true then
          bindC (FX 15 [v2, (D.iface 58 (D.int (5 : Int)))]) 1 fun r9 =>
            bindC (FX 14 [a0, (r9.getD 0 D.nil)]) 1 fun r10 =>
            some [(D.int (0 : Int)), (D.int (0 : Int)), (D.int (0 : Int)), (D.int (0 : Int)), (D.int (0 : Int)), (D.int (0 : Int)), (D.int (0 : Int)), (r10.getD 0 D.nil)]
          else
          (W_rules_New_1 x0 x1 x2 x3 x4 x5 x6 x7) [(D.int (IntKind.i64.wrap ((a0).toInt + (1 : Int))))]
      else none
    else none
  else
  some [x0, x1, x2, x3, x4, x5, x6, D.nil] := (loopP_eq FX B_rules_New_1 [] [x0, x1, x2, x3, x4, x5, x6, x7] _).trans (by kernel_rfl)
theorem E_rules_New (x0 x1 x2 x3 x4 x5 x6 : D) : FX 6 [x0, x1, x2, x3, x4, x5, x6] =
  bindC (FX 13 [x0, x1, x2, x3, x4, x5, x6]) 1 fun r7 =>
  W_rules_New_1 x0 x1 x2 x3 x4 x5 x6 (r7.getD 0 D.nil) [(D.int (0 : Int))] := (fixP_eq (t := T_rules_New) (by rfl) _).trans (by kernel_rfl)
theorem E_p_trace_Model_Order (x0 x1 x2 x3 : D) : FX 11 [x0, x1, x2, x3] =
  let v0 : D := ((((((x3).toL).getD ((x0).toInt).toNat D.nil)).toL).getD 7 D.nil)
  if (x0).isNil = true then
  some [(D.int (0 : Int)), (D.int (0 : Int)), (D.int (0 : Int)), (D.int (0 : Int)), (D.int (0 : Int)), (D.int (0 : Int)), (D.int (0 : Int)), (D.int (0 : Int)), (D.int (0 : Int)), (D.int (0 : Int)), (D.bool false), (D.bool false), (D.int (0 : Int)), (D.bool false)]
  else
  bindC (FX 22 [x0, x1, x2, x3]) 1 fun r4 =>
    let v1 : D := (((v0).toL).getD (((r4.getD 0 D.nil)).toInt).toNat D.nil)
    if (decide (((r4.getD 0 D.nil)).toInt < (0 : Int))) = true then
    some [(D.int (0 : Int)), (D.int (0 : Int)), (D.int (0 : Int)), (D.int (0 : Int)), (D.int (0 : Int)), (D.int (0 : Int)), (D.int (0 : Int)), (D.int (0 : Int)), (D.int (0 : Int)), (D.int (0 : Int)), (D.bool false), (D.bool false), (D.int (0 : Int)), (D.bool false)]
    else
    if (!(x0).isNil) = true then
      if (decide (((r4.getD 0 D.nil)).toInt ≥ (0 : Int))) = true then
        if (decide (((r4.getD 0 D.nil)).toInt < (((v0).toL).length : Int))) = true then
          some [(((v1).toL).getD 0 D.nil), (((v1).toL).getD 1 D.nil), (((v1).toL).getD 2 D.nil), (((v1).toL).getD 3 D.nil), (((v1).toL).getD 4 D.nil), (((v1).toL).getD 5 D.nil), (((v1).toL).getD 6 D.nil), (((v1).toL).getD 7 D.nil), (((v1).toL).getD 8 D.nil), (((v1).toL).getD 9 D.nil), (((v1).toL).getD 10 D.nil), (((v1).toL).getD 11 D.nil), (((v1).toL).getD 12 D.nil), (D.bool true)]
          else none
        else none
      else none := (fixP_eq (t := T_p_trace_Model_Order) (by rfl) _).trans (by kernel_rfl)
theorem E_trace_New (x0 x1 x2 x3 x4 x5 x6 x7 : D) : FX 8 [x0, x1, x2, x3, x4, x5, x6, x7] =
  some [(D.int (((x7).toL).length : Int)), (D.agg ((x7).toL ++ ((D.agg (x0 :: (x1 :: (x2 :: (x3 :: (x4 :: (x5 :: (x6 :: ((D.agg []) :: ((D.int (0 : Int)) :: [])))))))))) :: [])))] := (fixP_eq (t := T_trace_New) (by rfl) _).trans (by kernel_rfl)
noncomputable def W_p_trace_Model_last_1 (x0 x1 x2 : D) : Eng.Fn := loopF fun g xs => evalP FX B_p_trace_Model_last_1 ([] ++ [g]) ([x0, x1, x2] ++ xs)
theorem W_p_trace_Model_last_1_eq (x0 x1 x2 : D) (a0 a1 : D) : W_p_trace_Model_last_1 x0 x1 x2 [a0, a1] =
  let v0 : D := (D.int (IntKind.i64.wrap ((a1).toInt + (1 : Int))))
  let v1 : D := ((((((x2).toL).getD ((x0).toInt).toNat D.nil)).toL).getD 7 D.nil)
  if (decide ((a1).toInt < (((v1).toL).length : Int))) = true then
  if (decide ((a1).toInt ≥ (0 : Int))) = true then
    if (decide ((a1).toInt < (((v1).toL).length : Int))) = true then
      if ((((((((v1).toL).getD ((a1).toInt).toNat D.nil)).toL).getD 0 D.nil)).toInt == (x1).toInt) = true then
        (W_p_trace_Model_last_1 x0 x1 x2) [a1, v0]
        else
        (W_p_trace_Model_last_1 x0 x1 x2) [a0, v0]
      else none
    else none
  else
  some [a0] := (loopP_eq FX B_p_trace_Model_last_1 [] [x0, x1, x2] _).trans (by kernel_rfl)
theorem E_p_trace_Model_last (x0 x1 x2 : D) : FX 25 [x0, x1, x2] =
  if (!(x0).isNil) = true then
  W_p_trace_Model_last_1 x0 x1 x2 [(D.int (-1 : Int)), (D.int (0 : Int))]
  else none := (fixP_eq (t := T_p_trace_Model_last) (by rfl) _).trans (by kernel_rfl)
theorem E_terms_Check (x0 x1 x2 x3 x4 x5 x6 x7 x8 x9 x10 x11 x12 x13 : D) : FX 26 [x0, x1, x2, x3, x4, x5, x6, x7, x8, x9, x10, x11, x12, x13] =
  if (decide ((x7).toInt < (0 : Int))) = true then
  some [(D.iface 58 (D.int (22 : Int)))]
  else
  if (decide ((x7).toInt ≥ (x2).toInt)) = true then
    some [(D.iface 58 (D.int (22 : Int)))]
    else
    if ((x8).toInt != (0 : Int)) = true then
      if ((x8).toInt != (1 : Int)) = true then
        some [(D.iface 58 (D.int (1 : Int)))]
        else
        if (decide ((x12).toInt < (1 : Int))) = true then
          some [(D.iface 58 (D.int (23 : Int)))]
          else
          if (decide ((x12).toInt > (9999 : Int))) = true then
            some [(D.iface 58 (D.int (23 : Int)))]
            else
            if (decide ((x9).toInt < (1 : Int))) = true then
              some [(D.iface 58 (D.int (24 : Int)))]
              else
              if (decide ((x9).toInt > (9999 : Int))) = true then
                some [(D.iface 58 (D.int (24 : Int)))]
                else
                if (decide ((x10).toInt < (1 : Int))) = true then
                  some [(D.iface 58 (D.int (25 : Int)))]
                  else
                  if (decide ((x10).toInt > (x12).toInt)) = true then
                    some [(D.iface 58 (D.int (25 : Int)))]
                    else
                    if (decide ((x11).toInt ≤ (x13).toInt)) = true then
                      some [(D.iface 58 (D.int (26 : Int)))]
                      else
                      if (decide ((x11).toInt > (1000000 : Int))) = true then
                        some [(D.iface 58 (D.int (26 : Int)))]
                        else
                        some [D.nil]
      else
      if (decide ((x12).toInt < (1 : Int))) = true then
        some [(D.iface 58 (D.int (23 : Int)))]
        else
        if (decide ((x12).toInt > (9999 : Int))) = true then
          some [(D.iface 58 (D.int (23 : Int)))]
          else
          if (decide ((x9).toInt < (1 : Int))) = true then
            some [(D.iface 58 (D.int (24 : Int)))]
            else
            if (decide ((x9).toInt > (9999 : Int))) = true then
              some [(D.iface 58 (D.int (24 : Int)))]
              else
              if (decide ((x10).toInt < (1 : Int))) = true then
                some [(D.iface 58 (D.int (25 : Int)))]
                else
                if (decide ((x10).toInt > (x12).toInt)) = true then
                  some [(D.iface 58 (D.int (25 : Int)))]
                  else
                  if (decide ((x11).toInt ≤ (x13).toInt)) = true then
                    some [(D.iface 58 (D.int (26 : Int)))]
                    else
                    if (decide ((x11).toInt > (1000000 : Int))) = true then
                      some [(D.iface 58 (D.int (26 : Int)))]
                      else
                      some [D.nil] := (fixP_eq (t := T_terms_Check) (by rfl) _).trans (by kernel_rfl)
noncomputable def J_p_trace_Model_submit_1 (x0 x1 x2 x3 x4 x5 x6 x7 x8 x9 x10 x11 x12 x13 x14 x15 x16 : D) : Eng.Fn := fun xs => evalP FX B_p_trace_Model_submit_1 [] ([x0, x1, x2, x3, x4, x5, x6, x7, x8, x9, x10, x11, x12, x13, x14, x15, x16] ++ xs)
theorem J_p_trace_Model_submit_1_eq (x0 x1 x2 x3 x4 x5 x6 x7 x8 x9 x10 x11 x12 x13 x14 x15 x16 : D) (a0 a1 : D) : J_p_trace_Model_submit_1 x0 x1 x2 x3 x4 x5 x6 x7 x8 x9 x10 x11 x12 x13 x14 x15 x16  [a0, a1] =
  let v2 : D := (((a0).toL).getD ((x0).toInt).toNat D.nil)
  let v3 : D := (((v2).toL).getD 6 D.nil)
  let v4 : D := (D.agg (((((v2).toL).getD 7 D.nil)).toL ++ ((D.agg (x2 :: (x3 :: (x6 :: (x7 :: (x8 :: (x9 :: (x10 :: (x11 :: (x11 :: ((D.int (0 : Int)) :: ((D.bool false) :: ((D.bool false) :: ((D.int (0 : Int)) :: [])))))))))))))) :: [])))
  if (!(x0).isNil) = true then
  if (decide ((a1).toInt ≥ (v3).toInt)) = true then
    some [(D.iface 58 (D.int (28 : Int))), a0]
    else
    if ((x3).toInt != (IntKind.i64.wrap ((a1).toInt + (1 : Int)))) = true then
      some [(D.iface 58 (D.int (20 : Int))), a0]
      else
      if (!(x0).isNil) = true then
        bindC (FX 26 [(((v2).toL).getD 0 D.nil), (((v2).toL).getD 1 D.nil), (((v2).toL).getD 2 D.nil), (((v2).toL).getD 3 D.nil), (((v2).toL).getD 4 D.nil), (((v2).toL).getD 5 D.nil), v3, x6, x7, x8, x9, x10, x11, (D.int (0 : Int))]) 1 fun r19 =>
          if (!((r19.getD 0 D.nil)).isNil) = true then
          some [(r19.getD 0 D.nil), a0]
          else
          if (!(x0).isNil) = true then
            if (decide ((((v4).toL).length : Int) ≤ (1466015503701 : Int))) = true then
              if (!(x0).isNil) = true then
                some [D.nil, (D.agg (((a0).toL).set ((x0).toInt).toNat (D.agg (((List.range 9).map fun j => ((v2).toL).getD j D.nil).set 7 v4))))]
                else none
              else none
            else none
        else none
  else none := by kernel_rfl
theorem E_p_trace_Model_submit (x0 x1 x2 x3 x4 x5 x6 x7 x8 x9 x10 x11 x12 x13 x14 x15 : D) : FX 17 [x0, x1, x2, x3, x4, x5, x6, x7, x8, x9, x10, x11, x12, x13, x14, x15] =
  let v0 : D := (((x15).toL).getD ((x0).toInt).toNat D.nil)
  let v1 : D := (((v0).toL).getD 7 D.nil)
  if (!(x0).isNil) = true then
  bindC (FX 24 [(((v0).toL).getD 0 D.nil), (((v0).toL).getD 1 D.nil), (((v0).toL).getD 2 D.nil), (((v0).toL).getD 3 D.nil), (((v0).toL).getD 4 D.nil), (((v0).toL).getD 5 D.nil), (((v0).toL).getD 6 D.nil), x2]) 1 fun r16 =>
    if (decide (((r16.getD 0 D.nil)).toInt < (0 : Int))) = true then
    some [(D.iface 58 (D.int (21 : Int))), x15]
    else
    bindC (FX 25 [x0, x2, x15]) 1 fun r17 =>
      let v5 : D := (((v1).toL).getD (((r17.getD 0 D.nil)).toInt).toNat D.nil)
      if (decide (((r17.getD 0 D.nil)).toInt ≥ (0 : Int))) = true then
      if (!(x0).isNil) = true then
        if (decide (((r17.getD 0 D.nil)).toInt ≥ (0 : Int))) = true then
          if (decide (((r17.getD 0 D.nil)).toInt < (((v1).toL).length : Int))) = true then
            if (((((v5).toL).getD 12 D.nil)).toInt == (0 : Int)) = true then
              some [(D.iface 58 (D.int (27 : Int))), x15]
              else
              if (!(x0).isNil) = true then
                if (decide (((r17.getD 0 D.nil)).toInt ≥ (0 : Int))) = true then
                  if (decide (((r17.getD 0 D.nil)).toInt < (((v1).toL).length : Int))) = true then
                    (J_p_trace_Model_submit_1 x0 x1 x2 x3 x4 x5 x6 x7 x8 x9 x10 x11 x12 x13 x14 x15 (r16.getD 0 D.nil)) [x15, (((v5).toL).getD 1 D.nil)]
                    else none
                  else none
                else none
            else none
          else none
        else none
      else
      (J_p_trace_Model_submit_1 x0 x1 x2 x3 x4 x5 x6 x7 x8 x9 x10 x11 x12 x13 x14 x15 (r16.getD 0 D.nil)) [x15, (D.int (0 : Int))]
  else none := (fixP_eq (t := T_p_trace_Model_submit) (by rfl) _).trans (by kernel_rfl)
theorem E_p_trace_Model_turn (x0 x1 x2 x3 x4 x5 x6 x7 x8 x9 x10 x11 x12 x13 x14 x15 : D) : FX 20 [x0, x1, x2, x3, x4, x5, x6, x7, x8, x9, x10, x11, x12, x13, x14, x15] =
  let v0 : D := (((x15).toL).getD ((x0).toInt).toNat D.nil)
  let v1 : D := (((v0).toL).getD 7 D.nil)
  bindC (FX 27 [x0, x2, x3, x15]) 2 fun r16 =>
  let v2 : D := (((v1).toL).getD (((r16.getD 0 D.nil)).toInt).toNat D.nil)
  if (!((r16.getD 1 D.nil)).isNil) = true then
  some [(r16.getD 1 D.nil), x15]
  else
  if (!(x0).isNil) = true then
    if (decide (((r16.getD 0 D.nil)).toInt ≥ (0 : Int))) = true then
      if (decide (((r16.getD 0 D.nil)).toInt < (((v1).toL).length : Int))) = true then
        if ((x1).toInt == (6 : Int)) = true then
          if ((((v2).toL).getD 11 D.nil)).toBool = true then
            some [(D.iface 58 (D.int (1 : Int))), x15]
            else
            some [D.nil, (D.agg (((x15).toL).set ((x0).toInt).toNat (D.agg (((List.range 9).map fun j => ((v0).toL).getD j D.nil).set 7 (D.agg (((v1).toL).set (((r16.getD 0 D.nil)).toInt).toNat (D.agg (((List.range 13).map fun j => ((v2).toL).getD j D.nil).set 11 (D.bool true)))))))))]
          else
          if ((((v2).toL).getD 10 D.nil)).toBool = true then
            some [(D.iface 58 (D.int (1 : Int))), x15]
            else
            some [D.nil, (D.agg (((x15).toL).set ((x0).toInt).toNat (D.agg (((List.range 9).map fun j => ((v0).toL).getD j D.nil).set 7 (D.agg (((v1).toL).set (((r16.getD 0 D.nil)).toInt).toNat (D.agg (((List.range 13).map fun j => ((v2).toL).getD j D.nil).set 10 (D.bool true)))))))))]
        else none
      else none
    else none := (fixP_eq (t := T_p_trace_Model_turn) (by rfl) _).trans (by kernel_rfl)
noncomputable def J_p_trace_Model_Do_1 (x0 x1 x2 x3 x4 x5 x6 x7 x8 x9 x10 x11 x12 x13 x14 x15 : D) : Eng.Fn := fun xs => evalP FX B_p_trace_Model_Do_1 [] ([x0, x1, x2, x3, x4, x5, x6, x7, x8, x9, x10, x11, x12, x13, x14, x15] ++ xs)
theorem J_p_trace_Model_Do_1_eq (x0 x1 x2 x3 x4 x5 x6 x7 x8 x9 x10 x11 x12 x13 x14 x15 : D) (a0 a1 : D) : J_p_trace_Model_Do_1 x0 x1 x2 x3 x4 x5 x6 x7 x8 x9 x10 x11 x12 x13 x14 x15  [a0, a1] =
  if (a1).isNil = true then
  if (!(x0).isNil) = true then
    some [a1, (D.agg (((a0).toL).set ((x0).toInt).toNat (D.agg (((List.range 9).map fun j => (((((a0).toL).getD ((x0).toInt).toNat D.nil)).toL).getD j D.nil).set 8 x13))))]
    else none
  else
  some [a1, a0] := by kernel_rfl
noncomputable def J_p_trace_Model_Do_2 (x0 x1 x2 x3 x4 x5 x6 x7 x8 x9 x10 x11 x12 x13 x14 x15 : D) (g0 : Eng.Fn) : Eng.Fn := fun xs => evalP FX B_p_trace_Model_Do_2 [g0] ([x0, x1, x2, x3, x4, x5, x6, x7, x8, x9, x10, x11, x12, x13, x14, x15] ++ xs)
theorem J_p_trace_Model_Do_2_eq (x0 x1 x2 x3 x4 x5 x6 x7 x8 x9 x10 x11 x12 x13 x14 x15 : D) (g0 : Eng.Fn) (a0 a1 : D) : J_p_trace_Model_Do_2 x0 x1 x2 x3 x4 x5 x6 x7 x8 x9 x10 x11 x12 x13 x14 x15 g0 [a0, a1] =
  if (a1).toBool = true then
  bindC (FX 19 [x0, x1, x2, x3, x4, x5, x6, x7, x8, x9, x10, x11, x12, x13, x14, a0]) 2 fun r18 =>
    g0 [(r18.getD 1 D.nil), (r18.getD 0 D.nil)]
  else
  if ((x1).toInt == (4 : Int)) = true then
    bindC (FX 20 [x0, x1, x2, x3, x4, x5, x6, x7, x8, x9, x10, x11, x12, x13, x14, a0]) 2 fun r18 =>
      g0 [(r18.getD 1 D.nil), (r18.getD 0 D.nil)]
    else
    if ((x1).toInt == (6 : Int)) = true then
      bindC (FX 20 [x0, x1, x2, x3, x4, x5, x6, x7, x8, x9, x10, x11, x12, x13, x14, a0]) 2 fun r18 =>
        g0 [(r18.getD 1 D.nil), (r18.getD 0 D.nil)]
      else
      g0 [a0, (D.iface 58 (D.int (6 : Int)))] := by kernel_rfl
theorem E_p_trace_Model_Do (x0 x1 x2 x3 x4 x5 x6 x7 x8 x9 x10 x11 x12 x13 x14 x15 : D) : FX 9 [x0, x1, x2, x3, x4, x5, x6, x7, x8, x9, x10, x11, x12, x13, x14, x15] =
  if (x0).isNil = true then
  some [(D.iface 58 (D.int (2 : Int))), x15]
  else
  if (!(x0).isNil) = true then
    if (decide ((x13).toInt < (((((((x15).toL).getD ((x0).toInt).toNat D.nil)).toL).getD 8 D.nil)).toInt)) = true then
      some [(D.iface 58 (D.int (5 : Int))), x15]
      else
      if ((x1).toInt == (1 : Int)) = true then
        bindC (FX 17 [x0, x1, x2, x3, x4, x5, x6, x7, x8, x9, x10, x11, x12, x13, x14, x15]) 2 fun r16 =>
          (J_p_trace_Model_Do_1 x0 x1 x2 x3 x4 x5 x6 x7 x8 x9 x10 x11 x12 x13 x14 x15) [(r16.getD 1 D.nil), (r16.getD 0 D.nil)]
        else
        if ((x1).toInt == (2 : Int)) = true then
          bindC (FX 18 [x0, x1, x2, x3, x4, x5, x6, x7, x8, x9, x10, x11, x12, x13, x14, x15]) 2 fun r16 =>
            (J_p_trace_Model_Do_1 x0 x1 x2 x3 x4 x5 x6 x7 x8 x9 x10 x11 x12 x13 x14 x15) [(r16.getD 1 D.nil), (r16.getD 0 D.nil)]
          else
          if ((x1).toInt == (3 : Int)) = true then
            (J_p_trace_Model_Do_2 x0 x1 x2 x3 x4 x5 x6 x7 x8 x9 x10 x11 x12 x13 x14 x15 (J_p_trace_Model_Do_1 x0 x1 x2 x3 x4 x5 x6 x7 x8 x9 x10 x11 x12 x13 x14 x15)) [x15, (D.bool ((x1).toInt == (3 : Int)))]
            else
            if ((x1).toInt == (5 : Int)) = true then
              (J_p_trace_Model_Do_2 x0 x1 x2 x3 x4 x5 x6 x7 x8 x9 x10 x11 x12 x13 x14 x15 (J_p_trace_Model_Do_1 x0 x1 x2 x3 x4 x5 x6 x7 x8 x9 x10 x11 x12 x13 x14 x15)) [x15, (D.bool ((x1).toInt == (5 : Int)))]
              else
              (J_p_trace_Model_Do_2 x0 x1 x2 x3 x4 x5 x6 x7 x8 x9 x10 x11 x12 x13 x14 x15 (J_p_trace_Model_Do_1 x0 x1 x2 x3 x4 x5 x6 x7 x8 x9 x10 x11 x12 x13 x14 x15)) [x15, (D.bool ((x1).toInt == (7 : Int)))]
    else none := (fixP_eq (t := T_p_trace_Model_Do) (by rfl) _).trans (by kernel_rfl)
noncomputable def W_trace_Play_1 (x0 x1 x2 x3 x4 x5 x6 x7 x8 x9 x10 : D) : Eng.Fn := loopF fun g xs => evalP FX B_trace_Play_1 ([] ++ [g]) ([x0, x1, x2, x3, x4, x5, x6, x7, x8, x9, x10] ++ xs)
theorem W_trace_Play_1_eq (x0 x1 x2 x3 x4 x5 x6 x7 x8 x9 x10 : D) (a0 a1 : D) : W_trace_Play_1 x0 x1 x2 x3 x4 x5 x6 x7 x8 x9 x10 [a0, a1] =
  let v0 : D := (((x7).toL).getD ((a0).toInt).toNat D.nil)
  if (decide ((a0).toInt < (((x7).toL).length : Int))) = true then
  if (decide ((a0).toInt ≥ (0 : Int))) = true then
    if (decide ((a0).toInt < (((x7).toL).length : Int))) = true then
      bindC (FX 9 [x9, (((v0).toL).getD 0 D.nil), (((v0).toL).getD 1 D.nil), (((v0).toL).getD 2 D.nil), (((v0).toL).getD 3 D.nil), (((v0).toL).getD 4 D.nil), (((v0).toL).getD 5 D.nil), (((v0).toL).getD 6 D.nil), (((v0).toL).getD 7 D.nil), (((v0).toL).getD 8 D.nil), (((v0).toL).getD 9 D.nil), (((v0).toL).getD 10 D.nil), (((v0).toL).getD 11 D.nil), (((v0).toL).getD 12 D.nil), (((v0).toL).getD 13 D.nil), a1]) 2 fun r13 =>
        if (!((r13.getD 0 D.nil)).isNil) = true then
        bindC (FX 14 [a0, (r13.getD 0 D.nil)]) 1 fun r15 =>
          some [x9, (r15.getD 0 D.nil), (r13.getD 1 D.nil)]
        else
        (W_trace_Play_1 x0 x1 x2 x3 x4 x5 x6 x7 x8 x9 x10) [(D.int (IntKind.i64.wrap ((a0).toInt + (1 : Int)))), (r13.getD 1 D.nil)]
      else none
    else none
  else
  some [x9, D.nil, a1] := (loopP_eq FX B_trace_Play_1 [] [x0, x1, x2, x3, x4, x5, x6, x7, x8, x9, x10] _).trans (by kernel_rfl)
theorem E_trace_Play (x0 x1 x2 x3 x4 x5 x6 x7 x8 : D) : FX 16 [x0, x1, x2, x3, x4, x5, x6, x7, x8] =
  bindC (FX 8 [x0, x1, x2, x3, x4, x5, x6, x8]) 2 fun r9 =>
  W_trace_Play_1 x0 x1 x2 x3 x4 x5 x6 x7 x8 (r9.getD 0 D.nil) (r9.getD 1 D.nil) [(D.int (0 : Int)), (r9.getD 1 D.nil)] := (fixP_eq (t := T_trace_Play) (by rfl) _).trans (by kernel_rfl)
theorem E_law09_awake (x0 : D) : FX 7 [x0] =
  let v0 : D := (D.agg ((D.int (0 : Int)) :: ((D.int (0 : Int)) :: [])))
  let v1 : D := (D.agg ((D.int (0 : Int)) :: (v0).toL))
  bindC (FX 6 [(D.int (2 : Int)), (D.int (1 : Int)), (D.int (1 : Int)), (D.int (1 : Int)), (D.int (0 : Int)), (D.int (2 : Int)), (D.int (1 : Int))]) 8 fun r1 =>
  bindC (FX 16 [(r1.getD 0 D.nil), (r1.getD 1 D.nil), (r1.getD 2 D.nil), (r1.getD 3 D.nil), (r1.getD 4 D.nil), (r1.getD 5 D.nil), (r1.getD 6 D.nil), (D.agg ((D.agg ((D.int (1 : Int)) :: ((D.int (0 : Int)) :: ((D.int (1 : Int)) :: ((D.int (0 : Int)) :: ((D.int (0 : Int)) :: ((D.int (0 : Int)) :: ((D.int (0 : Int)) :: ((D.int (10 : Int)) :: ((D.int (1 : Int)) :: ((D.int (5 : Int)) :: ((D.int (5 : Int)) :: (v1).toL)))))))))))) :: ((D.agg ((D.int (1 : Int)) :: ((D.int (1 : Int)) :: ((D.int (1 : Int)) :: ((D.int (0 : Int)) :: ((D.int (0 : Int)) :: ((D.int (0 : Int)) :: ((D.int (1 : Int)) :: ((D.int (8 : Int)) :: ((D.int (1 : Int)) :: ((D.int (5 : Int)) :: ((D.int (3 : Int)) :: (v1).toL)))))))))))) :: ((D.agg ((D.int (2 : Int)) :: ((D.int (0 : Int)) :: ((D.int (1 : Int)) :: ((D.int (1 : Int)) :: ((D.int (1 : Int)) :: ((D.int (0 : Int)) :: ((D.int (0 : Int)) :: ((D.int (0 : Int)) :: ((D.int (0 : Int)) :: ((D.int (0 : Int)) :: ((D.int (3 : Int)) :: ((D.int (9 : Int)) :: (v0).toL))))))))))))) :: [])))), x0]) 3 fun r9 =>
  bindC (FX 11 [(r9.getD 0 D.nil), (D.int (1 : Int)), (D.int (1 : Int)), (r9.getD 2 D.nil)]) 14 fun r12 =>
  bindC (FX 11 [(r9.getD 0 D.nil), (D.int (0 : Int)), (D.int (1 : Int)), (r9.getD 2 D.nil)]) 14 fun r26 =>
  if ((r9.getD 1 D.nil)).isNil = true then
  if ((r12.getD 13 D.nil)).toBool = true then
    if ((r26.getD 13 D.nil)).toBool = true then
      if (((r12.getD 12 D.nil)).toInt == (5 : Int)) = true then
        if (((r26.getD 8 D.nil)).toInt == (2 : Int)) = true then
          some [(D.bool (((r26.getD 12 D.nil)).toInt == (0 : Int))), (r9.getD 2 D.nil)]
          else
          some [(D.bool false), (r9.getD 2 D.nil)]
        else
        some [(D.bool false), (r9.getD 2 D.nil)]
      else
      some [(D.bool false), (r9.getD 2 D.nil)]
    else
    some [(D.bool false), (r9.getD 2 D.nil)]
  else
  some [(D.bool false), (r9.getD 2 D.nil)] := (fixP_eq (t := T_law09_awake) (by rfl) _).trans (by kernel_rfl)
theorem E_slices_Clone_trace_Order_trace_Order (x0 : D) : FX 21 [x0] =
  if ((((x0).toL).length : Int) == (0 : Int)) = true then
  both (some [(D.agg [])]) (if (decide ((((x0).toL).length : Int) ≤ (1466015503701 : Int))) = true then
      some [x0]
      else none)
  else
  if (decide ((((x0).toL).length : Int) ≤ (1466015503701 : Int))) = true then
    some [x0]
    else none := (fixP_eq (t := T_slices_Clone_trace_Order_trace_Order) (by rfl) _).trans (by kernel_rfl)
theorem E_p_trace_Model_Orders (x0 x1 : D) : FX 10 [x0, x1] =
  if (x0).isNil = true then
  some [(D.agg [])]
  else
  if (!(x0).isNil) = true then
    bindC (FX 21 [((((((x1).toL).getD ((x0).toInt).toNat D.nil)).toL).getD 7 D.nil)]) 1 fun r2 =>
      some [(r2.getD 0 D.nil)]
    else none := (fixP_eq (t := T_p_trace_Model_Orders) (by rfl) _).trans (by kernel_rfl)
noncomputable def W_law01_Num_1 (x0 : D) : Eng.Fn := loopF fun g xs => evalP FX B_law01_Num_1 ([] ++ [g]) ([x0] ++ xs)
theorem W_law01_Num_1_eq (x0 : D) (a0 : D) : W_law01_Num_1 x0 [a0] =
  if (decide ((a0).toInt < (30 : Int))) = true then
  bindC (FX 23 [x0, (D.iface 58 a0)]) 1 fun r2 =>
    if ((r2.getD 0 D.nil)).toBool = true then
    some [a0]
    else
    (W_law01_Num_1 x0) [(D.int (IntKind.i64.wrap ((a0).toInt + (1 : Int))))]
  else
  some [(D.int (-1 : Int))] := (loopP_eq FX B_law01_Num_1 [] [x0] _).trans (by kernel_rfl)
theorem E_law01_Num (x0 : D) : FX 12 [x0] =
  if (x0).isNil = true then
  some [(D.int (0 : Int))]
  else
  W_law01_Num_1 x0 [(D.int (1 : Int))] := (fixP_eq (t := T_law01_Num) (by rfl) _).trans (by kernel_rfl)
noncomputable def W_law09_TraceSums_4 (x0 x1 x2 x3 x4 x5 x6 x7 x8 x9 x10 x11 x12 x13 x14 x15 x16 x17 x18 x19 x20 x21 x22 x23 x24 x25 x26 x27 : D) (g0 g1 : Eng.Fn) : Eng.Fn := loopF fun g xs => evalP FX B_law09_TraceSums_4 ([g0, g1] ++ [g]) ([x0, x1, x2, x3, x4, x5, x6, x7, x8, x9, x10, x11, x12, x13, x14, x15, x16, x17, x18, x19, x20, x21, x22, x23, x24, x25, x26, x27] ++ xs)
theorem W_law09_TraceSums_4_eq (x0 x1 x2 x3 x4 x5 x6 x7 x8 x9 x10 x11 x12 x13 x14 x15 x16 x17 x18 x19 x20 x21 x22 x23 x24 x25 x26 x27 : D) (g0 g1 : Eng.Fn) (a0 a1 : D) : W_law09_TraceSums_4 x0 x1 x2 x3 x4 x5 x6 x7 x8 x9 x10 x11 x12 x13 x14 x15 x16 x17 x18 x19 x20 x21 x22 x23 x24 x25 x26 x27 g0 g1 [a0, a1] =
  let v13 : D := (((x27).toL).getD ((a0).toInt).toNat D.nil)
  let v14 : D := (D.int (IntKind.i64.wrap ((a0).toInt + (1 : Int))))
  let v15 : D := (((v13).toL).getD 8 D.nil)
  let v16 : D := (((v13).toL).getD 0 D.nil)
  let v17 : D := (((v13).toL).getD 1 D.nil)
  let v18 : D := (((v13).toL).getD 7 D.nil)
  let v19 : D := (((v13).toL).getD 9 D.nil)
  let v20 : D := (((v13).toL).getD 12 D.nil)
  let v21 : D := (D.agg ((a1).toL ++ ((D.agg (v16 :: (v17 :: ((((v13).toL).getD 2 D.nil) :: ((((v13).toL).getD 3 D.nil) :: ((((v13).toL).getD 4 D.nil) :: ((((v13).toL).getD 5 D.nil) :: ((((v13).toL).getD 6 D.nil) :: (v18 :: (v15 :: (v19 :: ((((v13).toL).getD 10 D.nil) :: ((((v13).toL).getD 11 D.nil) :: (v20 :: [])))))))))))))) :: [])))
  if (decide ((a0).toInt < (((x27).toL).length : Int))) = true then
  if (decide ((a0).toInt ≥ (0 : Int))) = true then
    if (decide ((a0).toInt < (((x27).toL).length : Int))) = true then
      if ((IntKind.i64.wrap ((v15).toInt + ((mgetD [0, 0] (x24).toL (D.agg (v16 :: (v17 :: []))) (D.int (0 : Int)))).toInt)) != (v18).toInt) = true then
        some [(D.bool false)]
        else
        if (decide ((v15).toInt < (0 : Int))) = true then
          some [(D.bool false)]
          else
          if (decide ((v19).toInt > (x5).toInt)) = true then
            some [(D.bool false)]
            else
            if ((v20).toInt != (0 : Int)) = true then
              if (decide ((((v21).toL).length : Int) ≤ (1466015503701 : Int))) = true then
                (W_law09_TraceSums_4 x0 x1 x2 x3 x4 x5 x6 x7 x8 x9 x10 x11 x12 x13 x14 x15 x16 x17 x18 x19 x20 x21 x22 x23 x24 x25 x26 x27 g0 g1) [v14, v21]
                else none
              else
              (W_law09_TraceSums_4 x0 x1 x2 x3 x4 x5 x6 x7 x8 x9 x10 x11 x12 x13 x14 x15 x16 x17 x18 x19 x20 x21 x22 x23 x24 x25 x26 x27 g0 g1) [v14, a1]
      else none
    else none
  else
  g0 [a1, (D.int (IntKind.i64.wrap ((x19).toInt + (1 : Int)))), x24, x25] := (loopP_eq FX B_law09_TraceSums_4 [g0, g1] [x0, x1, x2, x3, x4, x5, x6, x7, x8, x9, x10, x11, x12, x13, x14, x15, x16, x17, x18, x19, x20, x21, x22, x23, x24, x25, x26, x27] _).trans (by kernel_rfl)
noncomputable def W_law09_TraceSums_3 (x0 x1 x2 x3 x4 x5 x6 x7 x8 x9 x10 x11 x12 x13 x14 x15 x16 x17 x18 x19 x20 x21 x22 x23 x24 x25 : D) (g0 : Eng.Fn) : Eng.Fn := loopF fun g xs => evalP FX B_law09_TraceSums_3 ([g0] ++ [g]) ([x0, x1, x2, x3, x4, x5, x6, x7, x8, x9, x10, x11, x12, x13, x14, x15, x16, x17, x18, x19, x20, x21, x22, x23, x24, x25] ++ xs)
theorem W_law09_TraceSums_3_eq (x0 x1 x2 x3 x4 x5 x6 x7 x8 x9 x10 x11 x12 x13 x14 x15 x16 x17 x18 x19 x20 x21 x22 x23 x24 x25 : D) (g0 : Eng.Fn) (a0 : D) : W_law09_TraceSums_3 x0 x1 x2 x3 x4 x5 x6 x7 x8 x9 x10 x11 x12 x13 x14 x15 x16 x17 x18 x19 x20 x21 x22 x23 x24 x25 g0 [a0] =
  let v10 : D := (((x18).toL).getD ((a0).toInt).toNat D.nil)
  let v11 : D := (((v10).toL).getD 0 D.nil)
  let v12 : D := (((v10).toL).getD 1 D.nil)
  if (decide ((a0).toInt < (((x18).toL).length : Int))) = true then
  if (decide ((a0).toInt ≥ (0 : Int))) = true then
    if (decide ((a0).toInt < (((x18).toL).length : Int))) = true then
      bindC (FX 11 [x16, v11, v12, x25]) 14 fun r27 =>
        if (!((r27.getD 13 D.nil)).toBool) = true then
        some [(D.bool false)]
        else
        if (!((((r27.getD 0 D.nil)).toInt == (v11).toInt) && ((((r27.getD 1 D.nil)).toInt == (v12).toInt) && (((((r27.getD 2 D.nil)).toInt == ((((v10).toL).getD 2 D.nil)).toInt) && ((((r27.getD 3 D.nil)).toInt == ((((v10).toL).getD 3 D.nil)).toInt) && ((((r27.getD 4 D.nil)).toInt == ((((v10).toL).getD 4 D.nil)).toInt) && ((((r27.getD 5 D.nil)).toInt == ((((v10).toL).getD 5 D.nil)).toInt) && (((r27.getD 6 D.nil)).toInt == ((((v10).toL).getD 6 D.nil)).toInt))))) && ((((r27.getD 7 D.nil)).toInt == ((((v10).toL).getD 7 D.nil)).toInt) && ((((r27.getD 8 D.nil)).toInt == ((((v10).toL).getD 8 D.nil)).toInt) && ((((r27.getD 9 D.nil)).toInt == ((((v10).toL).getD 9 D.nil)).toInt) && ((((r27.getD 10 D.nil)).toBool == ((((v10).toL).getD 10 D.nil)).toBool) && ((((r27.getD 11 D.nil)).toBool == ((((v10).toL).getD 11 D.nil)).toBool) && (((r27.getD 12 D.nil)).toInt == ((((v10).toL).getD 12 D.nil)).toInt)))))))))) = true then
          some [(D.bool false)]
          else
          (W_law09_TraceSums_3 x0 x1 x2 x3 x4 x5 x6 x7 x8 x9 x10 x11 x12 x13 x14 x15 x16 x17 x18 x19 x20 x21 x22 x23 x24 x25 g0) [(D.int (IntKind.i64.wrap ((a0).toInt + (1 : Int))))]
      else none
    else none
  else
  bindC (FX 10 [x16, x25]) 1 fun r27 =>
    W_law09_TraceSums_4 x0 x1 x2 x3 x4 x5 x6 x7 x8 x9 x10 x11 x12 x13 x14 x15 x16 x17 x18 x19 x20 x21 x22 x23 x24 x25 a0 (r27.getD 0 D.nil) g0 ((W_law09_TraceSums_3 x0 x1 x2 x3 x4 x5 x6 x7 x8 x9 x10 x11 x12 x13 x14 x15 x16 x17 x18 x19 x20 x21 x22 x23 x24 x25 g0)) [(D.int (0 : Int)), (D.agg [])] := (loopP_eq FX B_law09_TraceSums_3 [g0] [x0, x1, x2, x3, x4, x5, x6, x7, x8, x9, x10, x11, x12, x13, x14, x15, x16, x17, x18, x19, x20, x21, x22, x23, x24, x25] _).trans (by kernel_rfl)
noncomputable def J_law09_TraceSums_2 (x0 x1 x2 x3 x4 x5 x6 x7 x8 x9 x10 x11 x12 x13 x14 x15 x16 x17 x18 x19 x20 x21 x22 x23 : D) (g0 : Eng.Fn) : Eng.Fn := fun xs => evalP FX B_law09_TraceSums_2 [g0] ([x0, x1, x2, x3, x4, x5, x6, x7, x8, x9, x10, x11, x12, x13, x14, x15, x16, x17, x18, x19, x20, x21, x22, x23] ++ xs)
theorem J_law09_TraceSums_2_eq (x0 x1 x2 x3 x4 x5 x6 x7 x8 x9 x10 x11 x12 x13 x14 x15 x16 x17 x18 x19 x20 x21 x22 x23 : D) (g0 : Eng.Fn) (a0 a1 : D) : J_law09_TraceSums_2 x0 x1 x2 x3 x4 x5 x6 x7 x8 x9 x10 x11 x12 x13 x14 x15 x16 x17 x18 x19 x20 x21 x22 x23 g0 [a0, a1] =
  W_law09_TraceSums_3 x0 x1 x2 x3 x4 x5 x6 x7 x8 x9 x10 x11 x12 x13 x14 x15 x16 x17 x18 x19 x20 x21 x22 x23 a0 a1 g0 [(D.int (0 : Int))] := by kernel_rfl
noncomputable def W_law09_TraceSums_1 (x0 x1 x2 x3 x4 x5 x6 x7 x8 x9 x10 x11 x12 x13 x14 x15 x16 x17 : D) : Eng.Fn := loopF fun g xs => evalP FX B_law09_TraceSums_1 ([] ++ [g]) ([x0, x1, x2, x3, x4, x5, x6, x7, x8, x9, x10, x11, x12, x13, x14, x15, x16, x17] ++ xs)
theorem W_law09_TraceSums_1_eq (x0 x1 x2 x3 x4 x5 x6 x7 x8 x9 x10 x11 x12 x13 x14 x15 x16 x17 : D) (a0 a1 a2 a3 : D) : W_law09_TraceSums_1 x0 x1 x2 x3 x4 x5 x6 x7 x8 x9 x10 x11 x12 x13 x14 x15 x16 x17 [a0, a1, a2, a3] =
  let v0 : D := (((x7).toL).getD ((a1).toInt).toNat D.nil)
  let v1 : D := (((v0).toL).getD 0 D.nil)
  let v2 : D := (((v0).toL).getD 1 D.nil)
  let v3 : D := (((v0).toL).getD 2 D.nil)
  let v4 : D := (((v0).toL).getD 3 D.nil)
  let v5 : D := (((v0).toL).getD 4 D.nil)
  let v6 : D := (((v0).toL).getD 10 D.nil)
  let v7 : D := (D.agg (v2 :: (v3 :: [])))
  let v8 : D := (D.agg (v4 :: (v5 :: [])))
  let v9 : D := (D.agg (mputD [0, 0] (a2).toL v7 (D.int (IntKind.i64.wrap (((mgetD [0, 0] (a2).toL v7 (D.int (0 : Int)))).toInt + (v6).toInt)))))
  if (decide ((a1).toInt < (((x7).toL).length : Int))) = true then
  if (decide ((a1).toInt ≥ (0 : Int))) = true then
    if (decide ((a1).toInt < (((x7).toL).length : Int))) = true then
      if (decide ((a1).toInt ≥ (60 : Int))) = true then
        bindC (FX 7 [a3]) 2 fun r22 =>
          if ((r22.getD 0 D.nil)).toBool = true then
          bindC (FX 9 [D.nil, (D.int (0 : Int)), (D.int (0 : Int)), (D.int (0 : Int)), (D.int (0 : Int)), (D.int (0 : Int)), (D.int (0 : Int)), (D.int (0 : Int)), (D.int (0 : Int)), (D.int (0 : Int)), (D.int (0 : Int)), (D.int (0 : Int)), (D.int (0 : Int)), (D.int (0 : Int)), (D.int (0 : Int)), (r22.getD 1 D.nil)]) 2 fun r24 =>
            bindC (FX 12 [(r24.getD 0 D.nil)]) 1 fun r26 =>
            if (((r26.getD 0 D.nil)).toInt == (2 : Int)) = true then
            bindC (FX 10 [D.nil, (r24.getD 1 D.nil)]) 1 fun r27 =>
              some [(D.bool (((((r27.getD 0 D.nil)).toL).length : Int) == (0 : Int)))]
            else
            some [(D.bool false)]
          else
          some [(D.bool false)]
        else
        bindC (FX 9 [x16, v1, v2, v3, v4, v5, (((v0).toL).getD 5 D.nil), (((v0).toL).getD 6 D.nil), (((v0).toL).getD 7 D.nil), (((v0).toL).getD 8 D.nil), (((v0).toL).getD 9 D.nil), v6, (((v0).toL).getD 11 D.nil), (((v0).toL).getD 12 D.nil), (((v0).toL).getD 13 D.nil), a3]) 2 fun r22 =>
          if (!((r22.getD 0 D.nil)).isNil) = true then
          (W_law09_TraceSums_1 x0 x1 x2 x3 x4 x5 x6 x7 x8 x9 x10 x11 x12 x13 x14 x15 x16 x17) [a0, (D.int (IntKind.i64.wrap ((a1).toInt + (1 : Int)))), a2, (r22.getD 1 D.nil)]
          else
          if ((v1).toInt == (2 : Int)) = true then
            (J_law09_TraceSums_2 x0 x1 x2 x3 x4 x5 x6 x7 x8 x9 x10 x11 x12 x13 x14 x15 x16 x17 a0 a1 a2 a3 (r22.getD 0 D.nil) (r22.getD 1 D.nil) (W_law09_TraceSums_1 x0 x1 x2 x3 x4 x5 x6 x7 x8 x9 x10 x11 x12 x13 x14 x15 x16 x17)) [(D.agg (mputD [0, 0] (v9).toL v8 (D.int (IntKind.i64.wrap (((mgetD [0, 0] (v9).toL v8 (D.int (0 : Int)))).toInt + (v6).toInt))))), (r22.getD 1 D.nil)]
            else
            (J_law09_TraceSums_2 x0 x1 x2 x3 x4 x5 x6 x7 x8 x9 x10 x11 x12 x13 x14 x15 x16 x17 a0 a1 a2 a3 (r22.getD 0 D.nil) (r22.getD 1 D.nil) (W_law09_TraceSums_1 x0 x1 x2 x3 x4 x5 x6 x7 x8 x9 x10 x11 x12 x13 x14 x15 x16 x17)) [a2, (r22.getD 1 D.nil)]
      else none
    else none
  else
  bindC (FX 7 [a3]) 2 fun r22 =>
    if ((r22.getD 0 D.nil)).toBool = true then
    bindC (FX 9 [D.nil, (D.int (0 : Int)), (D.int (0 : Int)), (D.int (0 : Int)), (D.int (0 : Int)), (D.int (0 : Int)), (D.int (0 : Int)), (D.int (0 : Int)), (D.int (0 : Int)), (D.int (0 : Int)), (D.int (0 : Int)), (D.int (0 : Int)), (D.int (0 : Int)), (D.int (0 : Int)), (D.int (0 : Int)), (r22.getD 1 D.nil)]) 2 fun r24 =>
      bindC (FX 12 [(r24.getD 0 D.nil)]) 1 fun r26 =>
      if (((r26.getD 0 D.nil)).toInt == (2 : Int)) = true then
      bindC (FX 10 [D.nil, (r24.getD 1 D.nil)]) 1 fun r27 =>
        some [(D.bool (((((r27.getD 0 D.nil)).toL).length : Int) == (0 : Int)))]
      else
      some [(D.bool false)]
    else
    some [(D.bool false)] := (loopP_eq FX B_law09_TraceSums_1 [] [x0, x1, x2, x3, x4, x5, x6, x7, x8, x9, x10, x11, x12, x13, x14, x15, x16, x17] _).trans (by kernel_rfl)
theorem E_law09_TraceSums (x0 x1 x2 x3 x4 x5 x6 x7 : D) : FX 5 [x0, x1, x2, x3, x4, x5, x6, x7] =
  bindC (FX 6 [x0, x1, x2, x3, x4, x5, x6]) 8 fun r8 =>
  if (!((r8.getD 7 D.nil)).isNil) = true then
  bindC (FX 7 [(D.agg [])]) 2 fun r16 =>
    some [(r16.getD 0 D.nil)]
  else
  bindC (FX 8 [(r8.getD 0 D.nil), (r8.getD 1 D.nil), (r8.getD 2 D.nil), (r8.getD 3 D.nil), (r8.getD 4 D.nil), (r8.getD 5 D.nil), (r8.getD 6 D.nil), (D.agg [])]) 2 fun r16 =>
    W_law09_TraceSums_1 x0 x1 x2 x3 x4 x5 x6 x7 (r8.getD 0 D.nil) (r8.getD 1 D.nil) (r8.getD 2 D.nil) (r8.getD 3 D.nil) (r8.getD 4 D.nil) (r8.getD 5 D.nil) (r8.getD 6 D.nil) (r8.getD 7 D.nil) (r16.getD 0 D.nil) (r16.getD 1 D.nil) [(D.agg []), (D.int (0 : Int)), (D.agg []), (r16.getD 1 D.nil)] := (fixP_eq (t := T_law09_TraceSums) (by rfl) _).trans (by kernel_rfl)
end Go.Proofs.Ytofkbhilhgmnlaa
