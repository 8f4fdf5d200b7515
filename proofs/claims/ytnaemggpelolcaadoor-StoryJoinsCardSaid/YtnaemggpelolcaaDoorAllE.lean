/-
  The functions, as equations.
-/
import Derived.Test.YtnaemggpelolcaaDoorAll
namespace Go.Proofs.YtnaemggpelolcaaDoor
open Go.Proofs.YtnaemggpelolcaaDoor.Eng
set_option linter.unusedVariables false
set_option maxRecDepth 20000
noncomputable def W_law26_light_2 (x0 x1 x2 : D) (g0 : Eng.Fn) : Eng.Fn := loopF fun g xs => evalP FX B_law26_light_2 ([g0] ++ [g]) ([x0, x1, x2] ++ xs)
theorem W_law26_light_2_eq (x0 x1 x2 : D) (g0 : Eng.Fn) (a0 : D) : W_law26_light_2 x0 x1 x2 g0 [a0] =
  let v0 : D := (((x0).toL).getD ((x2).toInt).toNat D.nil)
  let v1 : D := (D.int (((v0).toStr).size : Int))
  if (decide ((a0).toInt < (v1).toInt)) = true then
  if (decide ((a0).toInt ≥ (0 : Int))) = true then
    if (decide ((a0).toInt < (v1).toInt)) = true then
      if (((((v0).toStr).data.getD ((a0).toInt).toNat 0).toNat : Int) == (10 : Int)) = true then
        some [(D.bool false)]
        else
        (W_law26_light_2 x0 x1 x2 g0) [(D.int (IntKind.i64.wrap ((a0).toInt + (1 : Int))))]
      else none
    else none
  else
  g0 [(D.int (IntKind.i64.wrap ((x1).toInt + (IntKind.i64.wrap ((v1).toInt + (1 : Int)))))), (D.int (IntKind.i64.wrap ((x2).toInt + (1 : Int))))] := (loopP_eq FX B_law26_light_2 [g0] [x0, x1, x2] _).trans (by kernel_rfl)
noncomputable def W_law26_light_1 (x0 : D) : Eng.Fn := loopF fun g xs => evalP FX B_law26_light_1 ([] ++ [g]) ([x0] ++ xs)
theorem W_law26_light_1_eq (x0 : D) (a0 a1 : D) : W_law26_light_1 x0 [a0, a1] =
  if (decide ((a1).toInt < (((x0).toL).length : Int))) = true then
  if (decide ((a1).toInt ≥ (0 : Int))) = true then
    if (decide ((a1).toInt < (((x0).toL).length : Int))) = true then
      if (decide ((IntKind.i64.wrap ((a0).toInt + (IntKind.i64.wrap (((((((x0).toL).getD ((a1).toInt).toNat D.nil)).toStr).size : Int) + (1 : Int))))) > (5000 : Int))) = true then
        some [(D.bool false)]
        else
        W_law26_light_2 x0 a0 a1 ((W_law26_light_1 x0)) [(D.int (0 : Int))]
      else none
    else none
  else
  some [(D.bool (decide ((((x0).toL).length : Int) ≤ (100 : Int))))] := (loopP_eq FX B_law26_light_1 [] [x0] _).trans (by kernel_rfl)
theorem E_law26_light (x0 : D) : FX 4 [x0] =
  W_law26_light_1 x0 [(D.int (0 : Int)), (D.int (0 : Int))] := (fixP_eq (t := T_law26_light) (by rfl) _).trans (by kernel_rfl)
theorem E_internal_stringslite_HasPrefix (x0 x1 : D) : FX 13 [x0, x1] =
  if (decide ((((x0).toStr).size : Int) ≥ (((x1).toStr).size : Int))) = true then
  if (decide ((0 : Int) ≤ (0 : Int))) = true then
    if (decide ((0 : Int) ≤ (((x1).toStr).size : Int))) = true then
      if (decide ((((x1).toStr).size : Int) ≤ (((x0).toStr).size : Int))) = true then
        some [(D.bool (scmpF .eql (((x0).toStr).extract ((0 : Int)).toNat ((((x1).toStr).size : Int)).toNat) (x1).toStr))]
        else none
      else none
    else none
  else
  some [(D.bool false)] := (fixP_eq (t := T_internal_stringslite_HasPrefix) (by rfl) _).trans (by kernel_rfl)
theorem E_strings_HasPrefix (x0 x1 : D) : FX 7 [x0, x1] =
  bindC (FX 13 [x0, x1]) 1 fun r2 =>
  some [(r2.getD 0 D.nil)] := (fixP_eq (t := T_strings_HasPrefix) (by rfl) _).trans (by kernel_rfl)
noncomputable def W_slices_Index_string_string_1 (x0 x1 : D) : Eng.Fn := loopF fun g xs => evalP FX B_slices_Index_string_string_1 ([] ++ [g]) ([x0, x1] ++ xs)
theorem W_slices_Index_string_string_1_eq (x0 x1 : D) (a0 : D) : W_slices_Index_string_string_1 x0 x1 [a0] =
  if (decide ((a0).toInt < (((x0).toL).length : Int))) = true then
  if (decide ((a0).toInt ≥ (0 : Int))) = true then
    if (decide ((a0).toInt < (((x0).toL).length : Int))) = true then
      if (scmpF .eql (x1).toStr ((((x0).toL).getD ((a0).toInt).toNat D.nil)).toStr) = true then
        some [a0]
        else
        (W_slices_Index_string_string_1 x0 x1) [(D.int (IntKind.i64.wrap ((a0).toInt + (1 : Int))))]
      else none
    else none
  else
  some [(D.int (-1 : Int))] := (loopP_eq FX B_slices_Index_string_string_1 [] [x0, x1] _).trans (by kernel_rfl)
theorem E_slices_Index_string_string (x0 x1 : D) : FX 21 [x0, x1] =
  W_slices_Index_string_string_1 x0 x1 [(D.int (0 : Int))] := (fixP_eq (t := T_slices_Index_string_string) (by rfl) _).trans (by kernel_rfl)
theorem E_slices_Contains_string_string (x0 x1 : D) : FX 15 [x0, x1] =
  bindC (FX 21 [x0, x1]) 1 fun r2 =>
  some [(D.bool (decide (((r2.getD 0 D.nil)).toInt ≥ (0 : Int))))] := (fixP_eq (t := T_slices_Contains_string_string) (by rfl) _).trans (by kernel_rfl)
theorem E_story_known (x0 : D) : FX 8 [x0] =
  bindC (FX 14 [x0, (D.str ((ByteArray.mk #[32])))]) 3 fun r1 =>
  bindC (FX 15 [(D.agg ((D.str ((ByteArray.mk #[115, 97, 121]))) :: ((D.str ((ByteArray.mk #[116, 105, 99, 107]))) :: ((D.str ((ByteArray.mk #[112, 105, 99, 107]))) :: ((D.str ((ByteArray.mk #[100, 114, 97, 119]))) :: []))))), (r1.getD 0 D.nil)]) 1 fun r4 =>
  some [(r4.getD 0 D.nil)] := (fixP_eq (t := T_story_known) (by rfl) _).trans (by kernel_rfl)
theorem E_fault_With (x0 x1 : D) : FX 9 [x0, x1] =
  if (x1).isNil = true then
  some [D.nil]
  else
  some [(D.iface 43 (D.agg (x0 :: (x1 :: []))))] := (fixP_eq (t := T_fault_With) (by rfl) _).trans (by kernel_rfl)
theorem E_fault_At (x0 x1 : D) : FX 11 [x0, x1] =
  if (x1).isNil = true then
  some [D.nil]
  else
  some [(D.iface 46 (D.agg (x0 :: (x1 :: []))))] := (fixP_eq (t := T_fault_At) (by rfl) _).trans (by kernel_rfl)
theorem E_internal_stringslite_CutPrefix (x0 x1 : D) : FX 33 [x0, x1] =
  bindC (FX 13 [x0, x1]) 1 fun r2 =>
  if (!((r2.getD 0 D.nil)).toBool) = true then
  some [x0, (D.bool false)]
  else
  if (decide ((0 : Int) ≤ (((x1).toStr).size : Int))) = true then
    if (decide ((((x1).toStr).size : Int) ≤ (((x0).toStr).size : Int))) = true then
      if (decide ((((x0).toStr).size : Int) ≤ (((x0).toStr).size : Int))) = true then
        some [(D.str (((x0).toStr).extract ((((x1).toStr).size : Int)).toNat ((((x0).toStr).size : Int)).toNat)), (D.bool true)]
        else none
      else none
    else none := (fixP_eq (t := T_internal_stringslite_CutPrefix) (by rfl) _).trans (by kernel_rfl)
theorem E_strings_CutPrefix (x0 x1 : D) : FX 23 [x0, x1] =
  bindC (FX 33 [x0, x1]) 2 fun r2 =>
  some [(r2.getD 0 D.nil), (r2.getD 1 D.nil)] := (fixP_eq (t := T_strings_CutPrefix) (by rfl) _).trans (by kernel_rfl)
noncomputable def W_line_Digits_1 (x0 : D) : Eng.Fn := loopF fun g xs => evalP FX B_line_Digits_1 ([] ++ [g]) ([x0] ++ xs)
theorem W_line_Digits_1_eq (x0 : D) (a0 : D) : W_line_Digits_1 x0 [a0] =
  let v0 : D := (D.int ((((x0).toStr).data.getD ((a0).toInt).toNat 0).toNat : Int))
  if (decide ((a0).toInt < (((x0).toStr).size : Int))) = true then
  if (decide ((a0).toInt ≥ (0 : Int))) = true then
    if (decide ((a0).toInt < (((x0).toStr).size : Int))) = true then
      if (decide ((v0).toInt < (48 : Int))) = true then
        some [(D.bool false)]
        else
        if (decide ((a0).toInt ≥ (0 : Int))) = true then
          if (decide ((a0).toInt < (((x0).toStr).size : Int))) = true then
            if (decide ((v0).toInt > (57 : Int))) = true then
              some [(D.bool false)]
              else
              (W_line_Digits_1 x0) [(D.int (IntKind.i64.wrap ((a0).toInt + (1 : Int))))]
            else none
          else none
      else none
    else none
  else
  some [(D.bool true)] := (loopP_eq FX B_line_Digits_1 [] [x0] _).trans (by kernel_rfl)
noncomputable def W_line_Digits_2 (x0 : D) : Eng.Fn := loopF fun g xs => evalP FX B_line_Digits_2 ([] ++ [g]) ([x0] ++ xs)
theorem W_line_Digits_2_eq (x0 : D) (a0 : D) : W_line_Digits_2 x0 [a0] =
  let v1 : D := (D.int ((((x0).toStr).data.getD ((a0).toInt).toNat 0).toNat : Int))
  if (decide ((a0).toInt < (((x0).toStr).size : Int))) = true then
  if (decide ((a0).toInt ≥ (0 : Int))) = true then
    if (decide ((a0).toInt < (((x0).toStr).size : Int))) = true then
      if (decide ((v1).toInt < (48 : Int))) = true then
        some [(D.bool false)]
        else
        if (decide ((a0).toInt ≥ (0 : Int))) = true then
          if (decide ((a0).toInt < (((x0).toStr).size : Int))) = true then
            if (decide ((v1).toInt > (57 : Int))) = true then
              some [(D.bool false)]
              else
              (W_line_Digits_2 x0) [(D.int (IntKind.i64.wrap ((a0).toInt + (1 : Int))))]
            else none
          else none
      else none
    else none
  else
  some [(D.bool true)] := (loopP_eq FX B_line_Digits_2 [] [x0] _).trans (by kernel_rfl)
theorem E_line_Digits (x0 : D) : FX 24 [x0] =
  if (scmpF .eql (x0).toStr ((ByteArray.mk #[]))) = true then
  some [(D.bool false)]
  else
  if (decide ((((x0).toStr).size : Int) > (7 : Int))) = true then
    some [(D.bool false)]
    else
    if (decide ((0 : Int) < (((x0).toStr).size : Int))) = true then
      if (((((x0).toStr).data.getD ((0 : Int)).toNat 0).toNat : Int) == (48 : Int)) = true then
        if (scmpF .neq (x0).toStr ((ByteArray.mk #[48]))) = true then
          some [(D.bool false)]
          else
          W_line_Digits_1 x0 [(D.int (0 : Int))]
        else
        W_line_Digits_2 x0 [(D.int (0 : Int))]
      else none := (fixP_eq (t := T_line_Digits) (by rfl) _).trans (by kernel_rfl)
theorem E_story_number (x0 : D) : FX 17 [x0] =
  bindC (FX 23 [x0, (D.str ((ByteArray.mk #[45])))]) 2 fun r1 =>
  bindC (FX 24 [(r1.getD 0 D.nil)]) 1 fun r3 =>
  if (!((r3.getD 0 D.nil)).toBool) = true then
  some [(D.int (0 : Int)), (D.bool false)]
  else
  if ((r1.getD 1 D.nil)).toBool = true then
    if (scmpF .eql ((r1.getD 0 D.nil)).toStr ((ByteArray.mk #[48]))) = true then
      some [(D.int (0 : Int)), (D.bool false)]
      else
      bindC (FX 25 [x0]) 2 fun r4 =>
        some [(r4.getD 0 D.nil), (D.bool true)]
    else
    bindC (FX 25 [x0]) 2 fun r4 =>
      some [(r4.getD 0 D.nil), (D.bool true)] := (fixP_eq (t := T_story_number) (by rfl) _).trans (by kernel_rfl)
theorem E_math_bits_Mul32 (x0 x1 : D) : FX 39 [x0, x1] =
  let v0 : D := (D.int (IntKind.u64.wrap ((IntKind.u64.wrap (x0).toInt) * (IntKind.u64.wrap (x1).toInt))))
  some [(D.int (IntKind.u32.wrap (arF .shr .u64 (v0).toInt (32 : Int)))), (D.int (IntKind.u32.wrap (v0).toInt))] := (fixP_eq (t := T_math_bits_Mul32) (by rfl) _).trans (by kernel_rfl)
theorem E_math_bits_Mul64 (x0 x1 : D) : FX 40 [x0, x1] =
  let v0 : D := (D.int (arF .shr .u64 (x0).toInt (32 : Int)))
  let v1 : D := (D.int (arF .shr .u64 (x1).toInt (32 : Int)))
  let v2 : D := (D.int (arF .and .u64 (x1).toInt (4294967295 : Int)))
  let v3 : D := (D.int (arF .and .u64 (x0).toInt (4294967295 : Int)))
  let v4 : D := (D.int (IntKind.u64.wrap ((IntKind.u64.wrap ((v0).toInt * (v2).toInt)) + (arF .shr .u64 (IntKind.u64.wrap ((v3).toInt * (v2).toInt)) (32 : Int)))))
  some [(D.int (IntKind.u64.wrap ((IntKind.u64.wrap ((IntKind.u64.wrap ((v0).toInt * (v1).toInt)) + (arF .shr .u64 (v4).toInt (32 : Int)))) + (arF .shr .u64 (IntKind.u64.wrap ((arF .and .u64 (v4).toInt (4294967295 : Int)) + (IntKind.u64.wrap ((v3).toInt * (v1).toInt)))) (32 : Int))))), (D.int (IntKind.u64.wrap ((x0).toInt * (x1).toInt)))] := (fixP_eq (t := T_math_bits_Mul64) (by rfl) _).trans (by kernel_rfl)
theorem E_math_bits_Mul (x0 x1 : D) : FX 27 [x0, x1] =
  bindC (FX 40 [x0, x1]) 2 fun r2 =>
  some [(r2.getD 0 D.nil), (r2.getD 1 D.nil)] := (fixP_eq (t := T_math_bits_Mul) (by rfl) _).trans (by kernel_rfl)
noncomputable def W_slices_Repeat_gate_Event_gate_Event_1 (x0 x1 x2 x3 : D) : Eng.Fn := loopF fun g xs => evalP FX B_slices_Repeat_gate_Event_gate_Event_1 ([] ++ [g]) ([x0, x1, x2, x3] ++ xs)
theorem W_slices_Repeat_gate_Event_gate_Event_1_eq (x0 x1 x2 x3 : D) (a0 a1 : D) : W_slices_Repeat_gate_Event_gate_Event_1 x0 x1 x2 x3 [a0, a1] =
  let v3 : D := (D.agg ((((a1).toL).drop ((0 : Int)).toNat).take (((a0).toInt).toNat - ((0 : Int)).toNat)))
  let v4 : D := (D.int (((v3).toL).length : Int))
  let v5 : D := (D.agg ((((a1).toL).drop ((a0).toInt).toNat).take (((((a1).toL).length : Int)).toNat - ((a0).toInt).toNat)))
  let v6 : D := (D.int (((v5).toL).length : Int))
  let v7 : D := (if (decide ((v4).toInt ≤ (v6).toInt)) = true then v4 else v6)
  if (decide ((a0).toInt < (((a1).toL).length : Int))) = true then
  if (decide ((0 : Int) ≤ (a0).toInt)) = true then
    if (decide ((a0).toInt ≤ (((a1).toL).length : Int))) = true then
      if (decide ((((a1).toL).length : Int) ≤ (((a1).toL).length : Int))) = true then
        if (decide ((0 : Int) ≤ (0 : Int))) = true then
          if (decide ((0 : Int) ≤ (a0).toInt)) = true then
            if (decide ((a0).toInt ≤ (((a1).toL).length : Int))) = true then
              (W_slices_Repeat_gate_Event_gate_Event_1 x0 x1 x2 x3) [(D.int (IntKind.i64.wrap ((a0).toInt + (v7).toInt))), (D.agg ((v3).toL ++ (((((v3).toL).drop ((0 : Int)).toNat).take (((v7).toInt).toNat - ((0 : Int)).toNat)) ++ ((((v5).toL).drop ((v7).toInt).toNat).take (((v6).toInt).toNat - ((v7).toInt).toNat)))))]
              else none
            else none
          else none
        else none
      else none
    else none
  else
  some [a1] := (loopP_eq FX B_slices_Repeat_gate_Event_gate_Event_1 [] [x0, x1, x2, x3] _).trans (by kernel_rfl)
theorem E_slices_Repeat_gate_Event_gate_Event (x0 x1 : D) : FX 19 [x0, x1] =
  if (decide ((x1).toInt < (0 : Int))) = true then
  if false = true then
    some []
    else none
  else
  bindC (FX 27 [(D.int (IntKind.u64.wrap (((x0).toL).length : Int))), (D.int (IntKind.u64.wrap (x1).toInt))]) 2 fun r2 =>
    let v0 : D := (D.agg (List.replicate ((IntKind.i64.wrap ((r2.getD 1 D.nil)).toInt)).toNat (D.agg ((D.int (0 : Int)) :: ((D.int (0 : Int)) :: ((D.int (0 : Int)) :: ((D.str ((ByteArray.mk #[]))) :: [])))))))
    let v1 : D := (D.int (((v0).toL).length : Int))
    let v2 : D := (if (decide ((((x0).toL).length : Int) ≤ (v1).toInt)) = true then (D.int (((x0).toL).length : Int)) else v1)
    if (decide (((r2.getD 0 D.nil)).toInt > (0 : Int))) = true then
    if false = true then
      some []
      else none
    else
    if (decide (((r2.getD 1 D.nil)).toInt > (9223372036854775807 : Int))) = true then
      if false = true then
        some []
        else none
      else
      if (decide ((IntKind.i64.wrap ((r2.getD 1 D.nil)).toInt) ≥ (0 : Int))) = true then
        if (decide ((IntKind.i64.wrap ((r2.getD 1 D.nil)).toInt) ≤ (3518437208883 : Int))) = true then
          W_slices_Repeat_gate_Event_gate_Event_1 x0 x1 (r2.getD 0 D.nil) (r2.getD 1 D.nil) [v2, (D.agg (((((x0).toL).drop ((0 : Int)).toNat).take (((v2).toInt).toNat - ((0 : Int)).toNat)) ++ ((((v0).toL).drop ((v2).toInt).toNat).take (((v1).toInt).toNat - ((v2).toInt).toNat))))]
          else none
        else none := (fixP_eq (t := T_slices_Repeat_gate_Event_gate_Event) (by rfl) _).trans (by kernel_rfl)
noncomputable def W_story_parse_1 (x0 x1 x2 x3 x4 : D) : Eng.Fn := loopF fun g xs => evalP FX B_story_parse_1 ([] ++ [g]) ([x0, x1, x2, x3, x4] ++ xs)
theorem W_story_parse_1_eq (x0 x1 x2 x3 x4 : D) (a0 a1 : D) : W_story_parse_1 x0 x1 x2 x3 x4 [a0, a1] =
  let v0 : D := (((a1).toL).getD ((0 : Int)).toNat D.nil)
  let v1 : D := (D.agg ((D.str ((ByteArray.mk #[]))) :: []))
  let v2 : D := (((a1).toL).getD ((1 : Int)).toNat D.nil)
  let v3 : D := (D.agg ((D.agg ((D.int (3 : Int)) :: (v0 :: ((D.int (0 : Int)) :: (v1).toL)))) :: []))
  let v4 : D := (D.agg ((D.agg ((D.int (4 : Int)) :: (v0 :: (v2 :: (v1).toL)))) :: []))
  if (decide ((a0).toInt < (((x4).toL).length : Int))) = true then
  if (decide ((a0).toInt ≥ (0 : Int))) = true then
    if (decide ((a0).toInt < (((x4).toL).length : Int))) = true then
      bindC (FX 17 [(((x4).toL).getD ((a0).toInt).toNat D.nil)]) 2 fun r7 =>
        let v5 : D := (D.agg ((a1).toL ++ ((r7.getD 0 D.nil) :: [])))
        if (!((r7.getD 1 D.nil)).toBool) = true then
        bindC (FX 11 [(D.int (IntKind.i64.wrap ((((x1).toStr).size : Int) + (1 : Int)))), (D.iface 38 (D.int (13 : Int)))]) 1 fun r9 =>
          some [(D.agg []), (r9.getD 0 D.nil)]
        else
        if (decide ((((v5).toL).length : Int) ≤ (17592186044416 : Int))) = true then
          (W_story_parse_1 x0 x1 x2 x3 x4) [(D.int (IntKind.i64.wrap ((a0).toInt + (1 : Int)))), v5]
          else none
      else none
    else none
  else
  if (scmpF .eql (x1).toStr ((ByteArray.mk #[116, 105, 99, 107]))) = true then
    if ((((a1).toL).length : Int) == (1 : Int)) = true then
      if (decide ((0 : Int) < (((a1).toL).length : Int))) = true then
        some [(D.agg ((D.agg ((D.int (2 : Int)) :: ((D.int (0 : Int)) :: (v0 :: (v1).toL)))) :: [])), D.nil]
        else none
      else
      if (scmpF .eql (x1).toStr ((ByteArray.mk #[112, 105, 99, 107]))) = true then
        if ((((a1).toL).length : Int) == (2 : Int)) = true then
          if (decide ((1 : Int) < (((a1).toL).length : Int))) = true then
            if (decide ((v2).toInt ≥ (2 : Int))) = true then
              if (decide ((1 : Int) < (((a1).toL).length : Int))) = true then
                if (decide ((v2).toInt ≤ (10000 : Int))) = true then
                  if (decide ((0 : Int) < (((a1).toL).length : Int))) = true then
                    if (decide ((1 : Int) < (((a1).toL).length : Int))) = true then
                      bindC (FX 19 [v3, v2]) 1 fun r7 =>
                        some [(r7.getD 0 D.nil), D.nil]
                      else none
                    else none
                  else
                  if (scmpF .eql (x1).toStr ((ByteArray.mk #[100, 114, 97, 119]))) = true then
                    if (decide ((0 : Int) < (((a1).toL).length : Int))) = true then
                      if (decide ((1 : Int) < (((a1).toL).length : Int))) = true then
                        some [v4, D.nil]
                        else none
                      else none
                    else
                    bindC (FX 11 [(D.int (0 : Int)), (D.iface 38 (D.int (10 : Int)))]) 1 fun r7 =>
                      some [(D.agg []), (r7.getD 0 D.nil)]
                else none
              else
              if (scmpF .eql (x1).toStr ((ByteArray.mk #[100, 114, 97, 119]))) = true then
                if (decide ((0 : Int) < (((a1).toL).length : Int))) = true then
                  if (decide ((1 : Int) < (((a1).toL).length : Int))) = true then
                    some [v4, D.nil]
                    else none
                  else none
                else
                bindC (FX 11 [(D.int (0 : Int)), (D.iface 38 (D.int (10 : Int)))]) 1 fun r7 =>
                  some [(D.agg []), (r7.getD 0 D.nil)]
            else none
          else
          if (scmpF .eql (x1).toStr ((ByteArray.mk #[100, 114, 97, 119]))) = true then
            bindC (FX 11 [(D.int (0 : Int)), (D.iface 38 (D.int (10 : Int)))]) 1 fun r7 =>
              some [(D.agg []), (r7.getD 0 D.nil)]
            else
            bindC (FX 11 [(D.int (0 : Int)), (D.iface 38 (D.int (10 : Int)))]) 1 fun r7 =>
              some [(D.agg []), (r7.getD 0 D.nil)]
        else
        if (scmpF .eql (x1).toStr ((ByteArray.mk #[100, 114, 97, 119]))) = true then
          if ((((a1).toL).length : Int) == (2 : Int)) = true then
            if (decide ((0 : Int) < (((a1).toL).length : Int))) = true then
              if (decide ((1 : Int) < (((a1).toL).length : Int))) = true then
                some [v4, D.nil]
                else none
              else none
            else
            bindC (FX 11 [(D.int (0 : Int)), (D.iface 38 (D.int (10 : Int)))]) 1 fun r7 =>
              some [(D.agg []), (r7.getD 0 D.nil)]
          else
          bindC (FX 11 [(D.int (0 : Int)), (D.iface 38 (D.int (10 : Int)))]) 1 fun r7 =>
            some [(D.agg []), (r7.getD 0 D.nil)]
    else
    if (scmpF .eql (x1).toStr ((ByteArray.mk #[112, 105, 99, 107]))) = true then
      if ((((a1).toL).length : Int) == (1 : Int)) = true then
        if (decide ((0 : Int) < (((a1).toL).length : Int))) = true then
          some [v3, D.nil]
          else none
        else
        if ((((a1).toL).length : Int) == (2 : Int)) = true then
          if (decide ((1 : Int) < (((a1).toL).length : Int))) = true then
            if (decide ((v2).toInt ≥ (2 : Int))) = true then
              if (decide ((1 : Int) < (((a1).toL).length : Int))) = true then
                if (decide ((v2).toInt ≤ (10000 : Int))) = true then
                  if (decide ((0 : Int) < (((a1).toL).length : Int))) = true then
                    if (decide ((1 : Int) < (((a1).toL).length : Int))) = true then
                      bindC (FX 19 [v3, v2]) 1 fun r7 =>
                        some [(r7.getD 0 D.nil), D.nil]
                      else none
                    else none
                  else
                  if (scmpF .eql (x1).toStr ((ByteArray.mk #[100, 114, 97, 119]))) = true then
                    if (decide ((0 : Int) < (((a1).toL).length : Int))) = true then
                      if (decide ((1 : Int) < (((a1).toL).length : Int))) = true then
                        some [v4, D.nil]
                        else none
                      else none
                    else
                    bindC (FX 11 [(D.int (0 : Int)), (D.iface 38 (D.int (10 : Int)))]) 1 fun r7 =>
                      some [(D.agg []), (r7.getD 0 D.nil)]
                else none
              else
              if (scmpF .eql (x1).toStr ((ByteArray.mk #[100, 114, 97, 119]))) = true then
                if (decide ((0 : Int) < (((a1).toL).length : Int))) = true then
                  if (decide ((1 : Int) < (((a1).toL).length : Int))) = true then
                    some [v4, D.nil]
                    else none
                  else none
                else
                bindC (FX 11 [(D.int (0 : Int)), (D.iface 38 (D.int (10 : Int)))]) 1 fun r7 =>
                  some [(D.agg []), (r7.getD 0 D.nil)]
            else none
          else
          if (scmpF .eql (x1).toStr ((ByteArray.mk #[100, 114, 97, 119]))) = true then
            bindC (FX 11 [(D.int (0 : Int)), (D.iface 38 (D.int (10 : Int)))]) 1 fun r7 =>
              some [(D.agg []), (r7.getD 0 D.nil)]
            else
            bindC (FX 11 [(D.int (0 : Int)), (D.iface 38 (D.int (10 : Int)))]) 1 fun r7 =>
              some [(D.agg []), (r7.getD 0 D.nil)]
      else
      if (scmpF .eql (x1).toStr ((ByteArray.mk #[100, 114, 97, 119]))) = true then
        if ((((a1).toL).length : Int) == (2 : Int)) = true then
          if (decide ((0 : Int) < (((a1).toL).length : Int))) = true then
            if (decide ((1 : Int) < (((a1).toL).length : Int))) = true then
              some [v4, D.nil]
              else none
            else none
          else
          bindC (FX 11 [(D.int (0 : Int)), (D.iface 38 (D.int (10 : Int)))]) 1 fun r7 =>
            some [(D.agg []), (r7.getD 0 D.nil)]
        else
        bindC (FX 11 [(D.int (0 : Int)), (D.iface 38 (D.int (10 : Int)))]) 1 fun r7 =>
          some [(D.agg []), (r7.getD 0 D.nil)] := (loopP_eq FX B_story_parse_1 [] [x0, x1, x2, x3, x4] _).trans (by kernel_rfl)
theorem E_story_parse (x0 : D) : FX 12 [x0] =
  bindC (FX 14 [x0, (D.str ((ByteArray.mk #[32])))]) 3 fun r1 =>
  if (scmpF .eql ((r1.getD 0 D.nil)).toStr ((ByteArray.mk #[115, 97, 121]))) = true then
  bindC (FX 14 [(r1.getD 1 D.nil), (D.str ((ByteArray.mk #[32])))]) 3 fun r4 =>
    bindC (FX 17 [(r4.getD 0 D.nil)]) 2 fun r7 =>
    if (!((r4.getD 2 D.nil)).toBool) = true then
    bindC (FX 11 [(D.int (4 : Int)), (D.iface 38 (D.int (13 : Int)))]) 1 fun r9 =>
      some [(D.agg []), (r9.getD 0 D.nil)]
    else
    if (!((r7.getD 1 D.nil)).toBool) = true then
      bindC (FX 11 [(D.int (4 : Int)), (D.iface 38 (D.int (13 : Int)))]) 1 fun r9 =>
        some [(D.agg []), (r9.getD 0 D.nil)]
      else
      some [(D.agg ((D.agg ((D.int (1 : Int)) :: ((r7.getD 0 D.nil) :: ((D.int (0 : Int)) :: ((r4.getD 1 D.nil) :: []))))) :: [])), D.nil]
  else
  bindC (FX 18 [(r1.getD 1 D.nil), (D.str ((ByteArray.mk #[32])))]) 1 fun r4 =>
    W_story_parse_1 x0 (r1.getD 0 D.nil) (r1.getD 1 D.nil) (r1.getD 2 D.nil) (r4.getD 0 D.nil) [(D.int (0 : Int)), (D.agg [])] := (fixP_eq (t := T_story_parse) (by rfl) _).trans (by kernel_rfl)
noncomputable def W_story_Parse_1 (x0 : D) : Eng.Fn := loopF fun g xs => evalP FX B_story_Parse_1 ([] ++ [g]) ([x0] ++ xs)
theorem W_story_Parse_1_eq (x0 : D) (a0 a1 : D) : W_story_Parse_1 x0 [a0, a1] =
  let v0 : D := (((x0).toL).getD ((a0).toInt).toNat D.nil)
  let v1 : D := (D.int (IntKind.i64.wrap ((a0).toInt + (1 : Int))))
  if (decide ((a0).toInt < (((x0).toL).length : Int))) = true then
  if (decide ((a0).toInt ≥ (0 : Int))) = true then
    if (decide ((a0).toInt < (((x0).toL).length : Int))) = true then
      if (scmpF .eql (v0).toStr ((ByteArray.mk #[]))) = true then
        (W_story_Parse_1 x0) [v1, a1]
        else
        bindC (FX 7 [v0, (D.str ((ByteArray.mk #[35])))]) 1 fun r3 =>
          if ((r3.getD 0 D.nil)).toBool = true then
          (W_story_Parse_1 x0) [v1, a1]
          else
          bindC (FX 8 [v0]) 1 fun r4 =>
            if (!((r4.getD 0 D.nil)).toBool) = true then
            bindC (FX 10 [v1]) 1 fun r5 =>
              bindC (FX 11 [(D.int (0 : Int)), (D.iface 38 (D.int (10 : Int)))]) 1 fun r6 =>
              bindC (FX 9 [(r5.getD 0 D.nil), (r6.getD 0 D.nil)]) 1 fun r7 =>
              some [(D.agg []), (r7.getD 0 D.nil)]
            else
            bindC (FX 12 [v0]) 2 fun r5 =>
              let v2 : D := (D.agg ((a1).toL ++ ((r5.getD 0 D.nil)).toL))
              if (!((r5.getD 1 D.nil)).isNil) = true then
              bindC (FX 10 [v1]) 1 fun r7 =>
                bindC (FX 9 [(r7.getD 0 D.nil), (r5.getD 1 D.nil)]) 1 fun r8 =>
                some [(D.agg []), (r8.getD 0 D.nil)]
              else
              if (decide ((((v2).toL).length : Int) ≤ (3518437208883 : Int))) = true then
                (W_story_Parse_1 x0) [v1, v2]
                else none
      else none
    else none
  else
  some [a1, D.nil] := (loopP_eq FX B_story_Parse_1 [] [x0] _).trans (by kernel_rfl)
theorem E_story_Parse (x0 : D) : FX 6 [x0] =
  W_story_Parse_1 x0 [(D.int (0 : Int)), (D.agg [])] := (fixP_eq (t := T_story_Parse) (by rfl) _).trans (by kernel_rfl)
theorem E_law26_awake : FX 5 [] =
  bindC (FX 6 [(D.agg ((D.str ((ByteArray.mk #[115, 97, 121, 32, 48, 32, 118, 105, 101, 119]))) :: ((D.str ((ByteArray.mk #[112, 105, 99, 107, 32, 48, 32, 51]))) :: [])))]) 2 fun r0 =>
  let v0 : D := ((((r0.getD 0 D.nil)).toL).getD ((0 : Int)).toNat D.nil)
  let v1 : D := ((((r0.getD 0 D.nil)).toL).getD ((3 : Int)).toNat D.nil)
  if ((r0.getD 1 D.nil)).isNil = true then
  if (((((r0.getD 0 D.nil)).toL).length : Int) == (4 : Int)) = true then
    if (decide ((0 : Int) < ((((r0.getD 0 D.nil)).toL).length : Int))) = true then
      if ((((((v0).toL).getD 0 D.nil)).toInt == (1 : Int)) && ((((((v0).toL).getD 1 D.nil)).toInt == (0 : Int)) && ((((((v0).toL).getD 2 D.nil)).toInt == (0 : Int)) && (scmpF .eql ((((v0).toL).getD 3 D.nil)).toStr ((ByteArray.mk #[118, 105, 101, 119])))))) = true then
        if (decide ((3 : Int) < ((((r0.getD 0 D.nil)).toL).length : Int))) = true then
          some [(D.bool ((((((v1).toL).getD 0 D.nil)).toInt == (3 : Int)) && ((((((v1).toL).getD 1 D.nil)).toInt == (0 : Int)) && ((((((v1).toL).getD 2 D.nil)).toInt == (0 : Int)) && (scmpF .eql ((((v1).toL).getD 3 D.nil)).toStr ((ByteArray.mk #[])))))))]
          else none
        else
        some [(D.bool false)]
      else none
    else
    some [(D.bool false)]
  else
  some [(D.bool false)] := (fixP_eq (t := T_law26_awake) (by rfl) _).trans (by kernel_rfl)
noncomputable def W_law26_StoryJoins_1 (x0 x1 x2 x3 x4 x5 x6 x7 x8 x9 : D) : Eng.Fn := loopF fun g xs => evalP FX B_law26_StoryJoins_1 ([] ++ [g]) ([x0, x1, x2, x3, x4, x5, x6, x7, x8, x9] ++ xs)
theorem W_law26_StoryJoins_1_eq (x0 x1 x2 x3 x4 x5 x6 x7 x8 x9 : D) (a0 : D) : W_law26_StoryJoins_1 x0 x1 x2 x3 x4 x5 x6 x7 x8 x9 [a0] =
  let v3 : D := (((x8).toL).getD ((a0).toInt).toNat D.nil)
  let v4 : D := (((x4).toL).getD ((a0).toInt).toNat D.nil)
  let v5 : D := (D.int (IntKind.i64.wrap ((a0).toInt + (1 : Int))))
  let v6 : D := (((v3).toL).getD 0 D.nil)
  let v7 : D := (((v3).toL).getD 1 D.nil)
  let v8 : D := (((v3).toL).getD 2 D.nil)
  let v9 : D := (((v3).toL).getD 3 D.nil)
  let v10 : D := (D.int (IntKind.i64.wrap ((a0).toInt - (((x4).toL).length : Int))))
  let v11 : D := (((x6).toL).getD ((v10).toInt).toNat D.nil)
  if (decide ((a0).toInt < (((x8).toL).length : Int))) = true then
  if (decide ((a0).toInt < (((x4).toL).length : Int))) = true then
    if (decide ((a0).toInt ≥ (0 : Int))) = true then
      if (decide ((a0).toInt < (((x8).toL).length : Int))) = true then
        if (decide ((a0).toInt ≥ (0 : Int))) = true then
          if (decide ((a0).toInt < (((x4).toL).length : Int))) = true then
            if (!(((v6).toInt == ((((v4).toL).getD 0 D.nil)).toInt) && (((v7).toInt == ((((v4).toL).getD 1 D.nil)).toInt) && (((v8).toInt == ((((v4).toL).getD 2 D.nil)).toInt) && (scmpF .eql (v9).toStr ((((v4).toL).getD 3 D.nil)).toStr))))) = true then
              some [(D.bool false)]
              else
              if (decide ((a0).toInt ≥ (((x4).toL).length : Int))) = true then
                if (decide ((a0).toInt ≥ (0 : Int))) = true then
                  if (decide ((a0).toInt < (((x8).toL).length : Int))) = true then
                    if (decide ((v10).toInt ≥ (0 : Int))) = true then
                      if (decide ((v10).toInt < (((x6).toL).length : Int))) = true then
                        if (!(((v6).toInt == ((((v11).toL).getD 0 D.nil)).toInt) && (((v7).toInt == ((((v11).toL).getD 1 D.nil)).toInt) && (((v8).toInt == ((((v11).toL).getD 2 D.nil)).toInt) && (scmpF .eql (v9).toStr ((((v11).toL).getD 3 D.nil)).toStr))))) = true then
                          some [(D.bool false)]
                          else
                          (W_law26_StoryJoins_1 x0 x1 x2 x3 x4 x5 x6 x7 x8 x9) [v5]
                        else none
                      else none
                    else none
                  else none
                else
                (W_law26_StoryJoins_1 x0 x1 x2 x3 x4 x5 x6 x7 x8 x9) [v5]
            else none
          else none
        else none
      else none
    else
    if (decide ((a0).toInt ≥ (((x4).toL).length : Int))) = true then
      if (decide ((a0).toInt ≥ (0 : Int))) = true then
        if (decide ((a0).toInt < (((x8).toL).length : Int))) = true then
          if (decide ((v10).toInt ≥ (0 : Int))) = true then
            if (decide ((v10).toInt < (((x6).toL).length : Int))) = true then
              if (!(((v6).toInt == ((((v11).toL).getD 0 D.nil)).toInt) && (((v7).toInt == ((((v11).toL).getD 1 D.nil)).toInt) && (((v8).toInt == ((((v11).toL).getD 2 D.nil)).toInt) && (scmpF .eql (v9).toStr ((((v11).toL).getD 3 D.nil)).toStr))))) = true then
                some [(D.bool false)]
                else
                (W_law26_StoryJoins_1 x0 x1 x2 x3 x4 x5 x6 x7 x8 x9) [v5]
              else none
            else none
          else none
        else none
      else
      (W_law26_StoryJoins_1 x0 x1 x2 x3 x4 x5 x6 x7 x8 x9) [v5]
  else
  bindC (FX 5 []) 1 fun r11 =>
    some [(r11.getD 0 D.nil)] := (loopP_eq FX B_law26_StoryJoins_1 [] [x0, x1, x2, x3, x4, x5, x6, x7, x8, x9] _).trans (by kernel_rfl)
theorem E_law26_StoryJoins (x0 x1 : D) : FX 3 [x0, x1] =
  let v0 : D := (D.agg ((x0).toL ++ ((D.str ((ByteArray.mk #[]))) :: ((D.str ((ByteArray.mk #[35, 32, 97, 110, 100]))) :: []))))
  let v1 : D := (D.agg ((v0).toL ++ (x1).toL))
  bindC (FX 4 [x0]) 1 fun r2 =>
  if (!((r2.getD 0 D.nil)).toBool) = true then
  bindC (FX 5 []) 1 fun r3 =>
    some [(r3.getD 0 D.nil)]
  else
  bindC (FX 4 [x1]) 1 fun r3 =>
    if (!((r3.getD 0 D.nil)).toBool) = true then
    bindC (FX 5 []) 1 fun r4 =>
      some [(r4.getD 0 D.nil)]
    else
    bindC (FX 6 [x0]) 2 fun r4 =>
      bindC (FX 6 [x1]) 2 fun r6 =>
      let v2 : D := (D.int (IntKind.i64.wrap (((((r4.getD 0 D.nil)).toL).length : Int) + ((((r6.getD 0 D.nil)).toL).length : Int))))
      if (!((r4.getD 1 D.nil)).isNil) = true then
      bindC (FX 5 []) 1 fun r8 =>
        some [(r8.getD 0 D.nil)]
      else
      if (!((r6.getD 1 D.nil)).isNil) = true then
        bindC (FX 5 []) 1 fun r8 =>
          some [(r8.getD 0 D.nil)]
        else
        if (decide ((v2).toInt > (50000 : Int))) = true then
          bindC (FX 5 []) 1 fun r8 =>
            some [(r8.getD 0 D.nil)]
          else
          if (decide ((((x0).toL).length : Int) ≤ (8796093022208 : Int))) = true then
            if (decide ((((v0).toL).length : Int) ≤ (8796093022208 : Int))) = true then
              if (decide ((((v1).toL).length : Int) ≤ (8796093022208 : Int))) = true then
                bindC (FX 6 [v1]) 2 fun r8 =>
                  if (!((r8.getD 1 D.nil)).isNil) = true then
                  some [(D.bool false)]
                  else
                  if (((((r8.getD 0 D.nil)).toL).length : Int) != (v2).toInt) = true then
                    some [(D.bool false)]
                    else
                    W_law26_StoryJoins_1 x0 x1 (r2.getD 0 D.nil) (r3.getD 0 D.nil) (r4.getD 0 D.nil) (r4.getD 1 D.nil) (r6.getD 0 D.nil) (r6.getD 1 D.nil) (r8.getD 0 D.nil) (r8.getD 1 D.nil) [(D.int (0 : Int))]
                else none
              else none
            else none := (fixP_eq (t := T_law26_StoryJoins) (by rfl) _).trans (by kernel_rfl)
end Go.Proofs.YtnaemggpelolcaaDoor
