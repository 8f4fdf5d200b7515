/-
  The functions, as equations.
-/
import Derived.Test.YtnaemggpelolcaaGreatDoorAll
namespace Go.Proofs.YtnaemggpelolcaaGreatDoor
open Go.Proofs.YtnaemggpelolcaaGreatDoor.Eng
set_option linter.unusedVariables false
set_option maxRecDepth 20000
noncomputable def W_law26_light_2 (x0 x1 x2 : D) (g0 : Eng.Fn) : Eng.Fn := loopF fun g xs => evalP FX B_law26_light_2 ([g0] ++ [g]) ([x0, x1, x2] ++ xs)
theorem W_law26_light_2_eq (x0 x1 x2 : D) (g0 : Eng.Fn) (a0 : D) : W_law26_light_2 x0 x1 x2 g0 [a0] =
  let v0 : D := (((x0).toL).getD ((x2).toInt).toNat D.nil)
  let v1 : D := (D.int (((v0).toStr).size : Int))
  if (decide ((a0).toInt < (v1).toInt)) = true then
  if (decide ((a0).toInt ≥ (0 : Int))) = true then
    if (decide ((a0).toInt < (v1).toInt)) = true then
      if (((((v0).toStr).data.getD ((a0).toInt).toNat 0).toNat : Int) == (10 : Int)) = true then
        some [(D.bool false)]
        else
        (W_law26_light_2 x0 x1 x2 g0) [(D.int (IntKind.i64.wrap ((a0).toInt + (1 : Int))))]
      else none
    else none
  else
  g0 [(D.int (IntKind.i64.wrap ((x1).toInt + (IntKind.i64.wrap ((v1).toInt + (1 : Int)))))), (D.int (IntKind.i64.wrap ((x2).toInt + (1 : Int))))] := (loopP_eq FX B_law26_light_2 [g0] [x0, x1, x2] _).trans (by kernel_rfl)
noncomputable def W_law26_light_1 (x0 : D) : Eng.Fn := loopF fun g xs => evalP FX B_law26_light_1 ([] ++ [g]) ([x0] ++ xs)
theorem W_law26_light_1_eq (x0 : D) (a0 a1 : D) : W_law26_light_1 x0 [a0, a1] =
  if (decide ((a1).toInt < (((x0).toL).length : Int))) = true then
  if (decide ((a1).toInt ≥ (0 : Int))) = true then
    if (decide ((a1).toInt < (((x0).toL).length : Int))) = true then
      if (decide ((IntKind.i64.wrap ((a0).toInt + (IntKind.i64.wrap (((((((x0).toL).getD ((a1).toInt).toNat D.nil)).toStr).size : Int) + (1 : Int))))) > (5000 : Int))) = true then
        some [(D.bool false)]
        else
        W_law26_light_2 x0 a0 a1 ((W_law26_light_1 x0)) [(D.int (0 : Int))]
      else none
    else none
  else
  some [(D.bool (decide ((((x0).toL).length : Int) ≤ (100 : Int))))] := (loopP_eq FX B_law26_light_1 [] [x0] _).trans (by kernel_rfl)
theorem E_law26_light (x0 : D) : FX 5 [x0] =
  W_law26_light_1 x0 [(D.int (0 : Int)), (D.int (0 : Int))] := (fixP_eq (t := T_law26_light) (by rfl) _).trans (by kernel_rfl)
theorem E_internal_stringslite_HasPrefix (x0 x1 : D) : FX 28 [x0, x1] =
  if (decide ((((x0).toStr).size : Int) ≥ (((x1).toStr).size : Int))) = true then
  if (decide ((0 : Int) ≤ (0 : Int))) = true then
    if (decide ((0 : Int) ≤ (((x1).toStr).size : Int))) = true then
      if (decide ((((x1).toStr).size : Int) ≤ (((x0).toStr).size : Int))) = true then
        some [(D.bool (scmpF .eql (((x0).toStr).extract ((0 : Int)).toNat ((((x1).toStr).size : Int)).toNat) (x1).toStr))]
        else none
      else none
    else none
  else
  some [(D.bool false)] := (fixP_eq (t := T_internal_stringslite_HasPrefix) (by rfl) _).trans (by kernel_rfl)
theorem E_strings_HasPrefix (x0 x1 : D) : FX 15 [x0, x1] =
  bindC (FX 28 [x0, x1]) 1 fun r2 =>
  some [(r2.getD 0 D.nil)] := (fixP_eq (t := T_strings_HasPrefix) (by rfl) _).trans (by kernel_rfl)
noncomputable def W_slices_Index_string_string_1 (x0 x1 : D) : Eng.Fn := loopF fun g xs => evalP FX B_slices_Index_string_string_1 ([] ++ [g]) ([x0, x1] ++ xs)
theorem W_slices_Index_string_string_1_eq (x0 x1 : D) (a0 : D) : W_slices_Index_string_string_1 x0 x1 [a0] =
  if (decide ((a0).toInt < (((x0).toL).length : Int))) = true then
  if (decide ((a0).toInt ≥ (0 : Int))) = true then
    if (decide ((a0).toInt < (((x0).toL).length : Int))) = true then
      if (scmpF .eql (x1).toStr ((((x0).toL).getD ((a0).toInt).toNat D.nil)).toStr) = true then
        some [a0]
        else
        (W_slices_Index_string_string_1 x0 x1) [(D.int (IntKind.i64.wrap ((a0).toInt + (1 : Int))))]
      else none
    else none
  else
  some [(D.int (-1 : Int))] := (loopP_eq FX B_slices_Index_string_string_1 [] [x0, x1] _).trans (by kernel_rfl)
theorem E_slices_Index_string_string (x0 x1 : D) : FX 45 [x0, x1] =
  W_slices_Index_string_string_1 x0 x1 [(D.int (0 : Int))] := (fixP_eq (t := T_slices_Index_string_string) (by rfl) _).trans (by kernel_rfl)
theorem E_slices_Contains_string_string (x0 x1 : D) : FX 30 [x0, x1] =
  bindC (FX 45 [x0, x1]) 1 fun r2 =>
  some [(D.bool (decide (((r2.getD 0 D.nil)).toInt ≥ (0 : Int))))] := (fixP_eq (t := T_slices_Contains_string_string) (by rfl) _).trans (by kernel_rfl)
theorem E_story_known (x0 : D) : FX 16 [x0] =
  bindC (FX 29 [x0, (D.str ((ByteArray.mk #[32])))]) 3 fun r1 =>
  bindC (FX 30 [(D.agg ((D.str ((ByteArray.mk #[115, 97, 121]))) :: ((D.str ((ByteArray.mk #[116, 105, 99, 107]))) :: ((D.str ((ByteArray.mk #[112, 105, 99, 107]))) :: ((D.str ((ByteArray.mk #[100, 114, 97, 119]))) :: []))))), (r1.getD 0 D.nil)]) 1 fun r4 =>
  some [(r4.getD 0 D.nil)] := (fixP_eq (t := T_story_known) (by rfl) _).trans (by kernel_rfl)
theorem E_fault_With (x0 x1 : D) : FX 17 [x0, x1] =
  if (x1).isNil = true then
  some [D.nil]
  else
  some [(D.iface 63 (D.agg (x0 :: (x1 :: []))))] := (fixP_eq (t := T_fault_With) (by rfl) _).trans (by kernel_rfl)
theorem E_fault_At (x0 x1 : D) : FX 19 [x0, x1] =
  if (x1).isNil = true then
  some [D.nil]
  else
  some [(D.iface 58 (D.agg (x0 :: (x1 :: []))))] := (fixP_eq (t := T_fault_At) (by rfl) _).trans (by kernel_rfl)
theorem E_internal_stringslite_CutPrefix (x0 x1 : D) : FX 60 [x0, x1] =
  bindC (FX 28 [x0, x1]) 1 fun r2 =>
  if (!((r2.getD 0 D.nil)).toBool) = true then
  some [x0, (D.bool false)]
  else
  if (decide ((0 : Int) ≤ (((x1).toStr).size : Int))) = true then
    if (decide ((((x1).toStr).size : Int) ≤ (((x0).toStr).size : Int))) = true then
      if (decide ((((x0).toStr).size : Int) ≤ (((x0).toStr).size : Int))) = true then
        some [(D.str (((x0).toStr).extract ((((x1).toStr).size : Int)).toNat ((((x0).toStr).size : Int)).toNat)), (D.bool true)]
        else none
      else none
    else none := (fixP_eq (t := T_internal_stringslite_CutPrefix) (by rfl) _).trans (by kernel_rfl)
theorem E_strings_CutPrefix (x0 x1 : D) : FX 47 [x0, x1] =
  bindC (FX 60 [x0, x1]) 2 fun r2 =>
  some [(r2.getD 0 D.nil), (r2.getD 1 D.nil)] := (fixP_eq (t := T_strings_CutPrefix) (by rfl) _).trans (by kernel_rfl)
noncomputable def W_line_Digits_1 (x0 : D) : Eng.Fn := loopF fun g xs => evalP FX B_line_Digits_1 ([] ++ [g]) ([x0] ++ xs)
theorem W_line_Digits_1_eq (x0 : D) (a0 : D) : W_line_Digits_1 x0 [a0] =
  let v0 : D := (D.int ((((x0).toStr).data.getD ((a0).toInt).toNat 0).toNat : Int))
  if (decide ((a0).toInt < (((x0).toStr).size : Int))) = true then
  if (decide ((a0).toInt ≥ (0 : Int))) = true then
    if (decide ((a0).toInt < (((x0).toStr).size : Int))) = true then
      if (decide ((v0).toInt < (48 : Int))) = true then
        some [(D.bool false)]
        else
        if (decide ((a0).toInt ≥ (0 : Int))) = true then
          if (decide ((a0).toInt < (((x0).toStr).size : Int))) = true then
            if (decide ((v0).toInt > (57 : Int))) = true then
              some [(D.bool false)]
              else
              (W_line_Digits_1 x0) [(D.int (IntKind.i64.wrap ((a0).toInt + (1 : Int))))]
            else none
          else none
      else none
    else none
  else
  some [(D.bool true)] := (loopP_eq FX B_line_Digits_1 [] [x0] _).trans (by kernel_rfl)
noncomputable def W_line_Digits_2 (x0 : D) : Eng.Fn := loopF fun g xs => evalP FX B_line_Digits_2 ([] ++ [g]) ([x0] ++ xs)
theorem W_line_Digits_2_eq (x0 : D) (a0 : D) : W_line_Digits_2 x0 [a0] =
  let v1 : D := (D.int ((((x0).toStr).data.getD ((a0).toInt).toNat 0).toNat : Int))
  if (decide ((a0).toInt < (((x0).toStr).size : Int))) = true then
  if (decide ((a0).toInt ≥ (0 : Int))) = true then
    if (decide ((a0).toInt < (((x0).toStr).size : Int))) = true then
      if (decide ((v1).toInt < (48 : Int))) = true then
        some [(D.bool false)]
        else
        if (decide ((a0).toInt ≥ (0 : Int))) = true then
          if (decide ((a0).toInt < (((x0).toStr).size : Int))) = true then
            if (decide ((v1).toInt > (57 : Int))) = true then
              some [(D.bool false)]
              else
              (W_line_Digits_2 x0) [(D.int (IntKind.i64.wrap ((a0).toInt + (1 : Int))))]
            else none
          else none
      else none
    else none
  else
  some [(D.bool true)] := (loopP_eq FX B_line_Digits_2 [] [x0] _).trans (by kernel_rfl)
theorem E_line_Digits (x0 : D) : FX 48 [x0] =
  if (scmpF .eql (x0).toStr ((ByteArray.mk #[]))) = true then
  some [(D.bool false)]
  else
  if (decide ((((x0).toStr).size : Int) > (7 : Int))) = true then
    some [(D.bool false)]
    else
    if (decide ((0 : Int) < (((x0).toStr).size : Int))) = true then
      if (((((x0).toStr).data.getD ((0 : Int)).toNat 0).toNat : Int) == (48 : Int)) = true then
        if (scmpF .neq (x0).toStr ((ByteArray.mk #[48]))) = true then
          some [(D.bool false)]
          else
          W_line_Digits_1 x0 [(D.int (0 : Int))]
        else
        W_line_Digits_2 x0 [(D.int (0 : Int))]
      else none := (fixP_eq (t := T_line_Digits) (by rfl) _).trans (by kernel_rfl)
theorem E_story_number (x0 : D) : FX 32 [x0] =
  bindC (FX 47 [x0, (D.str ((ByteArray.mk #[45])))]) 2 fun r1 =>
  bindC (FX 48 [(r1.getD 0 D.nil)]) 1 fun r3 =>
  if (!((r3.getD 0 D.nil)).toBool) = true then
  some [(D.int (0 : Int)), (D.bool false)]
  else
  if ((r1.getD 1 D.nil)).toBool = true then
    if (scmpF .eql ((r1.getD 0 D.nil)).toStr ((ByteArray.mk #[48]))) = true then
      some [(D.int (0 : Int)), (D.bool false)]
      else
      bindC (FX 49 [x0]) 2 fun r4 =>
        some [(r4.getD 0 D.nil), (D.bool true)]
    else
    bindC (FX 49 [x0]) 2 fun r4 =>
      some [(r4.getD 0 D.nil), (D.bool true)] := (fixP_eq (t := T_story_number) (by rfl) _).trans (by kernel_rfl)
theorem E_math_bits_Mul32 (x0 x1 : D) : FX 65 [x0, x1] =
  let v0 : D := (D.int (IntKind.u64.wrap ((IntKind.u64.wrap (x0).toInt) * (IntKind.u64.wrap (x1).toInt))))
  some [(D.int (IntKind.u32.wrap (arF .shr .u64 (v0).toInt (32 : Int)))), (D.int (IntKind.u32.wrap (v0).toInt))] := (fixP_eq (t := T_math_bits_Mul32) (by rfl) _).trans (by kernel_rfl)
theorem E_math_bits_Mul64 (x0 x1 : D) : FX 66 [x0, x1] =
  let v0 : D := (D.int (arF .shr .u64 (x0).toInt (32 : Int)))
  let v1 : D := (D.int (arF .shr .u64 (x1).toInt (32 : Int)))
  let v2 : D := (D.int (arF .and .u64 (x1).toInt (4294967295 : Int)))
  let v3 : D := (D.int (arF .and .u64 (x0).toInt (4294967295 : Int)))
  let v4 : D := (D.int (IntKind.u64.wrap ((IntKind.u64.wrap ((v0).toInt * (v2).toInt)) + (arF .shr .u64 (IntKind.u64.wrap ((v3).toInt * (v2).toInt)) (32 : Int)))))
  some [(D.int (IntKind.u64.wrap ((IntKind.u64.wrap ((IntKind.u64.wrap ((v0).toInt * (v1).toInt)) + (arF .shr .u64 (v4).toInt (32 : Int)))) + (arF .shr .u64 (IntKind.u64.wrap ((arF .and .u64 (v4).toInt (4294967295 : Int)) + (IntKind.u64.wrap ((v3).toInt * (v1).toInt)))) (32 : Int))))), (D.int (IntKind.u64.wrap ((x0).toInt * (x1).toInt)))] := (fixP_eq (t := T_math_bits_Mul64) (by rfl) _).trans (by kernel_rfl)
theorem E_math_bits_Mul (x0 x1 : D) : FX 51 [x0, x1] =
  bindC (FX 66 [x0, x1]) 2 fun r2 =>
  some [(r2.getD 0 D.nil), (r2.getD 1 D.nil)] := (fixP_eq (t := T_math_bits_Mul) (by rfl) _).trans (by kernel_rfl)
noncomputable def W_slices_Repeat_gate_Event_gate_Event_1 (x0 x1 x2 x3 : D) : Eng.Fn := loopF fun g xs => evalP FX B_slices_Repeat_gate_Event_gate_Event_1 ([] ++ [g]) ([x0, x1, x2, x3] ++ xs)
theorem W_slices_Repeat_gate_Event_gate_Event_1_eq (x0 x1 x2 x3 : D) (a0 a1 : D) : W_slices_Repeat_gate_Event_gate_Event_1 x0 x1 x2 x3 [a0, a1] =
  let v3 : D := (D.agg ((((a1).toL).drop ((0 : Int)).toNat).take (((a0).toInt).toNat - ((0 : Int)).toNat)))
  let v4 : D := (D.int (((v3).toL).length : Int))
  let v5 : D := (D.agg ((((a1).toL).drop ((a0).toInt).toNat).take (((((a1).toL).length : Int)).toNat - ((a0).toInt).toNat)))
  let v6 : D := (D.int (((v5).toL).length : Int))
  let v7 : D := (if (decide ((v4).toInt ≤ (v6).toInt)) = true then v4 else v6)
  if (decide ((a0).toInt < (((a1).toL).length : Int))) = true then
  if (decide ((0 : Int) ≤ (a0).toInt)) = true then
    if (decide ((a0).toInt ≤ (((a1).toL).length : Int))) = true then
      if (decide ((((a1).toL).length : Int) ≤ (((a1).toL).length : Int))) = true then
        if (decide ((0 : Int) ≤ (0 : Int))) = true then
          if (decide ((0 : Int) ≤ (a0).toInt)) = true then
            if (decide ((a0).toInt ≤ (((a1).toL).length : Int))) = true then
              (W_slices_Repeat_gate_Event_gate_Event_1 x0 x1 x2 x3) [(D.int (IntKind.i64.wrap ((a0).toInt + (v7).toInt))), (D.agg ((v3).toL ++ (((((v3).toL).drop ((0 : Int)).toNat).take (((v7).toInt).toNat - ((0 : Int)).toNat)) ++ ((((v5).toL).drop ((v7).toInt).toNat).take (((v6).toInt).toNat - ((v7).toInt).toNat)))))]
              else none
            else none
          else none
        else none
      else none
    else none
  else
  some [a1] := (loopP_eq FX B_slices_Repeat_gate_Event_gate_Event_1 [] [x0, x1, x2, x3] _).trans (by kernel_rfl)
theorem E_slices_Repeat_gate_Event_gate_Event (x0 x1 : D) : FX 34 [x0, x1] =
  if (decide ((x1).toInt < (0 : Int))) = true then
  if false = true then
    some []
    else none
  else
  bindC (FX 51 [(D.int (IntKind.u64.wrap (((x0).toL).length : Int))), (D.int (IntKind.u64.wrap (x1).toInt))]) 2 fun r2 =>
    let v0 : D := (D.agg (List.replicate ((IntKind.i64.wrap ((r2.getD 1 D.nil)).toInt)).toNat (D.agg ((D.int (0 : Int)) :: ((D.int (0 : Int)) :: ((D.int (0 : Int)) :: ((D.str ((ByteArray.mk #[]))) :: [])))))))
    let v1 : D := (D.int (((v0).toL).length : Int))
    let v2 : D := (if (decide ((((x0).toL).length : Int) ≤ (v1).toInt)) = true then (D.int (((x0).toL).length : Int)) else v1)
    if (decide (((r2.getD 0 D.nil)).toInt > (0 : Int))) = true then
    if false = true then
      some []
      else none
    else
    if (decide (((r2.getD 1 D.nil)).toInt > (9223372036854775807 : Int))) = true then
      if false = true then
        some []
        else none
      else
      if (decide ((IntKind.i64.wrap ((r2.getD 1 D.nil)).toInt) ≥ (0 : Int))) = true then
        if (decide ((IntKind.i64.wrap ((r2.getD 1 D.nil)).toInt) ≤ (3518437208883 : Int))) = true then
          W_slices_Repeat_gate_Event_gate_Event_1 x0 x1 (r2.getD 0 D.nil) (r2.getD 1 D.nil) [v2, (D.agg (((((x0).toL).drop ((0 : Int)).toNat).take (((v2).toInt).toNat - ((0 : Int)).toNat)) ++ ((((v0).toL).drop ((v2).toInt).toNat).take (((v1).toInt).toNat - ((v2).toInt).toNat))))]
          else none
        else none := (fixP_eq (t := T_slices_Repeat_gate_Event_gate_Event) (by rfl) _).trans (by kernel_rfl)
noncomputable def W_story_parse_1 (x0 x1 x2 x3 x4 : D) : Eng.Fn := loopF fun g xs => evalP FX B_story_parse_1 ([] ++ [g]) ([x0, x1, x2, x3, x4] ++ xs)
theorem W_story_parse_1_eq (x0 x1 x2 x3 x4 : D) (a0 a1 : D) : W_story_parse_1 x0 x1 x2 x3 x4 [a0, a1] =
  let v0 : D := (((a1).toL).getD ((0 : Int)).toNat D.nil)
  let v1 : D := (D.agg ((D.str ((ByteArray.mk #[]))) :: []))
  let v2 : D := (((a1).toL).getD ((1 : Int)).toNat D.nil)
  let v3 : D := (D.agg ((D.agg ((D.int (3 : Int)) :: (v0 :: ((D.int (0 : Int)) :: (v1).toL)))) :: []))
  let v4 : D := (D.agg ((D.agg ((D.int (4 : Int)) :: (v0 :: (v2 :: (v1).toL)))) :: []))
  if (decide ((a0).toInt < (((x4).toL).length : Int))) = true then
  if (decide ((a0).toInt ≥ (0 : Int))) = true then
    if (decide ((a0).toInt < (((x4).toL).length : Int))) = true then
      bindC (FX 32 [(((x4).toL).getD ((a0).toInt).toNat D.nil)]) 2 fun r7 =>
        let v5 : D := (D.agg ((a1).toL ++ ((r7.getD 0 D.nil) :: [])))
        if (!((r7.getD 1 D.nil)).toBool) = true then
        bindC (FX 19 [(D.int (IntKind.i64.wrap ((((x1).toStr).size : Int) + (1 : Int)))), (D.iface 50 (D.int (13 : Int)))]) 1 fun r9 =>
          some [(D.agg []), (r9.getD 0 D.nil)]
        else
        if (decide ((((v5).toL).length : Int) ≤ (17592186044416 : Int))) = true then
          (W_story_parse_1 x0 x1 x2 x3 x4) [(D.int (IntKind.i64.wrap ((a0).toInt + (1 : Int)))), v5]
          else none
      else none
    else none
  else
  if (scmpF .eql (x1).toStr ((ByteArray.mk #[116, 105, 99, 107]))) = true then
    if ((((a1).toL).length : Int) == (1 : Int)) = true then
      if (decide ((0 : Int) < (((a1).toL).length : Int))) = true then
        some [(D.agg ((D.agg ((D.int (2 : Int)) :: ((D.int (0 : Int)) :: (v0 :: (v1).toL)))) :: [])), D.nil]
        else none
      else
      if (scmpF .eql (x1).toStr ((ByteArray.mk #[112, 105, 99, 107]))) = true then
        if ((((a1).toL).length : Int) == (2 : Int)) = true then
          if (decide ((1 : Int) < (((a1).toL).length : Int))) = true then
            if (decide ((v2).toInt ≥ (2 : Int))) = true then
              if (decide ((1 : Int) < (((a1).toL).length : Int))) = true then
                if (decide ((v2).toInt ≤ (10000 : Int))) = true then
                  if (decide ((0 : Int) < (((a1).toL).length : Int))) = true then
                    if (decide ((1 : Int) < (((a1).toL).length : Int))) = true then
                      bindC (FX 34 [v3, v2]) 1 fun r7 =>
                        some [(r7.getD 0 D.nil), D.nil]
                      else none
                    else none
                  else
                  if (scmpF .eql (x1).toStr ((ByteArray.mk #[100, 114, 97, 119]))) = true then
                    if (decide ((0 : Int) < (((a1).toL).length : Int))) = true then
                      if (decide ((1 : Int) < (((a1).toL).length : Int))) = true then
                        some [v4, D.nil]
                        else none
                      else none
                    else
                    bindC (FX 19 [(D.int (0 : Int)), (D.iface 50 (D.int (10 : Int)))]) 1 fun r7 =>
                      some [(D.agg []), (r7.getD 0 D.nil)]
                else none
              else
              if (scmpF .eql (x1).toStr ((ByteArray.mk #[100, 114, 97, 119]))) = true then
                if (decide ((0 : Int) < (((a1).toL).length : Int))) = true then
                  if (decide ((1 : Int) < (((a1).toL).length : Int))) = true then
                    some [v4, D.nil]
                    else none
                  else none
                else
                bindC (FX 19 [(D.int (0 : Int)), (D.iface 50 (D.int (10 : Int)))]) 1 fun r7 =>
                  some [(D.agg []), (r7.getD 0 D.nil)]
            else none
          else
          if (scmpF .eql (x1).toStr ((ByteArray.mk #[100, 114, 97, 119]))) = true then
            bindC (FX 19 [(D.int (0 : Int)), (D.iface 50 (D.int (10 : Int)))]) 1 fun r7 =>
              some [(D.agg []), (r7.getD 0 D.nil)]
            else
            bindC (FX 19 [(D.int (0 : Int)), (D.iface 50 (D.int (10 : Int)))]) 1 fun r7 =>
              some [(D.agg []), (r7.getD 0 D.nil)]
        else
        if (scmpF .eql (x1).toStr ((ByteArray.mk #[100, 114, 97, 119]))) = true then
          if ((((a1).toL).length : Int) == (2 : Int)) = true then
            if (decide ((0 : Int) < (((a1).toL).length : Int))) = true then
              if (decide ((1 : Int) < (((a1).toL).length : Int))) = true then
                some [v4, D.nil]
                else none
              else none
            else
            bindC (FX 19 [(D.int (0 : Int)), (D.iface 50 (D.int (10 : Int)))]) 1 fun r7 =>
              some [(D.agg []), (r7.getD 0 D.nil)]
          else
          bindC (FX 19 [(D.int (0 : Int)), (D.iface 50 (D.int (10 : Int)))]) 1 fun r7 =>
            some [(D.agg []), (r7.getD 0 D.nil)]
    else
    if (scmpF .eql (x1).toStr ((ByteArray.mk #[112, 105, 99, 107]))) = true then
      if ((((a1).toL).length : Int) == (1 : Int)) = true then
        if (decide ((0 : Int) < (((a1).toL).length : Int))) = true then
          some [v3, D.nil]
          else none
        else
        if ((((a1).toL).length : Int) == (2 : Int)) = true then
          if (decide ((1 : Int) < (((a1).toL).length : Int))) = true then
            if (decide ((v2).toInt ≥ (2 : Int))) = true then
              if (decide ((1 : Int) < (((a1).toL).length : Int))) = true then
                if (decide ((v2).toInt ≤ (10000 : Int))) = true then
                  if (decide ((0 : Int) < (((a1).toL).length : Int))) = true then
                    if (decide ((1 : Int) < (((a1).toL).length : Int))) = true then
                      bindC (FX 34 [v3, v2]) 1 fun r7 =>
                        some [(r7.getD 0 D.nil), D.nil]
                      else none
                    else none
                  else
                  if (scmpF .eql (x1).toStr ((ByteArray.mk #[100, 114, 97, 119]))) = true then
                    if (decide ((0 : Int) < (((a1).toL).length : Int))) = true then
                      if (decide ((1 : Int) < (((a1).toL).length : Int))) = true then
                        some [v4, D.nil]
                        else none
                      else none
                    else
                    bindC (FX 19 [(D.int (0 : Int)), (D.iface 50 (D.int (10 : Int)))]) 1 fun r7 =>
                      some [(D.agg []), (r7.getD 0 D.nil)]
                else none
              else
              if (scmpF .eql (x1).toStr ((ByteArray.mk #[100, 114, 97, 119]))) = true then
                if (decide ((0 : Int) < (((a1).toL).length : Int))) = true then
                  if (decide ((1 : Int) < (((a1).toL).length : Int))) = true then
                    some [v4, D.nil]
                    else none
                  else none
                else
                bindC (FX 19 [(D.int (0 : Int)), (D.iface 50 (D.int (10 : Int)))]) 1 fun r7 =>
                  some [(D.agg []), (r7.getD 0 D.nil)]
            else none
          else
          if (scmpF .eql (x1).toStr ((ByteArray.mk #[100, 114, 97, 119]))) = true then
            bindC (FX 19 [(D.int (0 : Int)), (D.iface 50 (D.int (10 : Int)))]) 1 fun r7 =>
              some [(D.agg []), (r7.getD 0 D.nil)]
            else
            bindC (FX 19 [(D.int (0 : Int)), (D.iface 50 (D.int (10 : Int)))]) 1 fun r7 =>
              some [(D.agg []), (r7.getD 0 D.nil)]
      else
      if (scmpF .eql (x1).toStr ((ByteArray.mk #[100, 114, 97, 119]))) = true then
        if ((((a1).toL).length : Int) == (2 : Int)) = true then
          if (decide ((0 : Int) < (((a1).toL).length : Int))) = true then
            if (decide ((1 : Int) < (((a1).toL).length : Int))) = true then
              some [v4, D.nil]
              else none
            else none
          else
          bindC (FX 19 [(D.int (0 : Int)), (D.iface 50 (D.int (10 : Int)))]) 1 fun r7 =>
            some [(D.agg []), (r7.getD 0 D.nil)]
        else
        bindC (FX 19 [(D.int (0 : Int)), (D.iface 50 (D.int (10 : Int)))]) 1 fun r7 =>
          some [(D.agg []), (r7.getD 0 D.nil)] := (loopP_eq FX B_story_parse_1 [] [x0, x1, x2, x3, x4] _).trans (by kernel_rfl)
theorem E_story_parse (x0 : D) : FX 20 [x0] =
  bindC (FX 29 [x0, (D.str ((ByteArray.mk #[32])))]) 3 fun r1 =>
  if (scmpF .eql ((r1.getD 0 D.nil)).toStr ((ByteArray.mk #[115, 97, 121]))) = true then
  bindC (FX 29 [(r1.getD 1 D.nil), (D.str ((ByteArray.mk #[32])))]) 3 fun r4 =>
    bindC (FX 32 [(r4.getD 0 D.nil)]) 2 fun r7 =>
    if (!((r4.getD 2 D.nil)).toBool) = true then
    bindC (FX 19 [(D.int (4 : Int)), (D.iface 50 (D.int (13 : Int)))]) 1 fun r9 =>
      some [(D.agg []), (r9.getD 0 D.nil)]
    else
    if (!((r7.getD 1 D.nil)).toBool) = true then
      bindC (FX 19 [(D.int (4 : Int)), (D.iface 50 (D.int (13 : Int)))]) 1 fun r9 =>
        some [(D.agg []), (r9.getD 0 D.nil)]
      else
      some [(D.agg ((D.agg ((D.int (1 : Int)) :: ((r7.getD 0 D.nil) :: ((D.int (0 : Int)) :: ((r4.getD 1 D.nil) :: []))))) :: [])), D.nil]
  else
  bindC (FX 33 [(r1.getD 1 D.nil), (D.str ((ByteArray.mk #[32])))]) 1 fun r4 =>
    W_story_parse_1 x0 (r1.getD 0 D.nil) (r1.getD 1 D.nil) (r1.getD 2 D.nil) (r4.getD 0 D.nil) [(D.int (0 : Int)), (D.agg [])] := (fixP_eq (t := T_story_parse) (by rfl) _).trans (by kernel_rfl)
noncomputable def W_story_Parse_1 (x0 : D) : Eng.Fn := loopF fun g xs => evalP FX B_story_Parse_1 ([] ++ [g]) ([x0] ++ xs)
theorem W_story_Parse_1_eq (x0 : D) (a0 a1 : D) : W_story_Parse_1 x0 [a0, a1] =
  let v0 : D := (((x0).toL).getD ((a0).toInt).toNat D.nil)
  let v1 : D := (D.int (IntKind.i64.wrap ((a0).toInt + (1 : Int))))
  if (decide ((a0).toInt < (((x0).toL).length : Int))) = true then
  if (decide ((a0).toInt ≥ (0 : Int))) = true then
    if (decide ((a0).toInt < (((x0).toL).length : Int))) = true then
      if (scmpF .eql (v0).toStr ((ByteArray.mk #[]))) = true then
        (W_story_Parse_1 x0) [v1, a1]
        else
        bindC (FX 15 [v0, (D.str ((ByteArray.mk #[35])))]) 1 fun r3 =>
          if ((r3.getD 0 D.nil)).toBool = true then
          (W_story_Parse_1 x0) [v1, a1]
          else
          bindC (FX 16 [v0]) 1 fun r4 =>
            if (!((r4.getD 0 D.nil)).toBool) = true then
            bindC (FX 18 [v1]) 1 fun r5 =>
              bindC (FX 19 [(D.int (0 : Int)), (D.iface 50 (D.int (10 : Int)))]) 1 fun r6 =>
              bindC (FX 17 [(r5.getD 0 D.nil), (r6.getD 0 D.nil)]) 1 fun r7 =>
              some [(D.agg []), (r7.getD 0 D.nil)]
            else
            bindC (FX 20 [v0]) 2 fun r5 =>
              let v2 : D := (D.agg ((a1).toL ++ ((r5.getD 0 D.nil)).toL))
              if (!((r5.getD 1 D.nil)).isNil) = true then
              bindC (FX 18 [v1]) 1 fun r7 =>
                bindC (FX 17 [(r7.getD 0 D.nil), (r5.getD 1 D.nil)]) 1 fun r8 =>
                some [(D.agg []), (r8.getD 0 D.nil)]
              else
              if (decide ((((v2).toL).length : Int) ≤ (3518437208883 : Int))) = true then
                (W_story_Parse_1 x0) [v1, v2]
                else none
      else none
    else none
  else
  some [a1, D.nil] := (loopP_eq FX B_story_Parse_1 [] [x0] _).trans (by kernel_rfl)
theorem E_story_Parse (x0 : D) : FX 7 [x0] =
  W_story_Parse_1 x0 [(D.int (0 : Int)), (D.agg [])] := (fixP_eq (t := T_story_Parse) (by rfl) _).trans (by kernel_rfl)
theorem E_law26_awake : FX 6 [] =
  bindC (FX 7 [(D.agg ((D.str ((ByteArray.mk #[115, 97, 121, 32, 48, 32, 118, 105, 101, 119]))) :: ((D.str ((ByteArray.mk #[112, 105, 99, 107, 32, 48, 32, 51]))) :: [])))]) 2 fun r0 =>
  let v0 : D := ((((r0.getD 0 D.nil)).toL).getD ((0 : Int)).toNat D.nil)
  let v1 : D := ((((r0.getD 0 D.nil)).toL).getD ((3 : Int)).toNat D.nil)
  if ((r0.getD 1 D.nil)).isNil = true then
  if (((((r0.getD 0 D.nil)).toL).length : Int) == (4 : Int)) = true then
    if (decide ((0 : Int) < ((((r0.getD 0 D.nil)).toL).length : Int))) = true then
      if ((((((v0).toL).getD 0 D.nil)).toInt == (1 : Int)) && ((((((v0).toL).getD 1 D.nil)).toInt == (0 : Int)) && ((((((v0).toL).getD 2 D.nil)).toInt == (0 : Int)) && (scmpF .eql ((((v0).toL).getD 3 D.nil)).toStr ((ByteArray.mk #[118, 105, 101, 119])))))) = true then
        if (decide ((3 : Int) < ((((r0.getD 0 D.nil)).toL).length : Int))) = true then
          some [(D.bool ((((((v1).toL).getD 0 D.nil)).toInt == (3 : Int)) && ((((((v1).toL).getD 1 D.nil)).toInt == (0 : Int)) && ((((((v1).toL).getD 2 D.nil)).toInt == (0 : Int)) && (scmpF .eql ((((v1).toL).getD 3 D.nil)).toStr ((ByteArray.mk #[])))))))]
          else none
        else
        some [(D.bool false)]
      else none
    else
    some [(D.bool false)]
  else
  some [(D.bool false)] := (fixP_eq (t := T_law26_awake) (by rfl) _).trans (by kernel_rfl)
noncomputable def W_ref15_Split_1 (x0 : D) : Eng.Fn := loopF fun g xs => evalP FX B_ref15_Split_1 ([] ++ [g]) ([x0] ++ xs)
theorem W_ref15_Split_1_eq (x0 : D) (a0 a1 a2 : D) : W_ref15_Split_1 x0 [a0, a1, a2] =
  let v0 : D := (D.int (IntKind.i64.wrap ((a1).toInt + (1 : Int))))
  let v1 : D := (D.agg ((a2).toL ++ ((D.agg ((D.str (((x0).toStr).extract ((a0).toInt).toNat ((a1).toInt).toNat)) :: (a0 :: []))) :: [])))
  if (decide ((a1).toInt ≤ (((x0).toStr).size : Int))) = true then
  if ((a1).toInt == (((x0).toStr).size : Int)) = true then
    if (decide ((0 : Int) ≤ (a0).toInt)) = true then
      if (decide ((a0).toInt ≤ (a1).toInt)) = true then
        if (decide ((a1).toInt ≤ (((x0).toStr).size : Int))) = true then
          if (decide ((((v1).toL).length : Int) ≤ (5864062014805 : Int))) = true then
            (W_ref15_Split_1 x0) [v0, v0, v1]
            else none
          else none
        else none
      else none
    else
    if (decide ((a1).toInt ≥ (0 : Int))) = true then
      if (decide ((a1).toInt < (((x0).toStr).size : Int))) = true then
        if (((((x0).toStr).data.getD ((a1).toInt).toNat 0).toNat : Int) == (32 : Int)) = true then
          if (decide ((0 : Int) ≤ (a0).toInt)) = true then
            if (decide ((a0).toInt ≤ (a1).toInt)) = true then
              if (decide ((a1).toInt ≤ (((x0).toStr).size : Int))) = true then
                if (decide ((((v1).toL).length : Int) ≤ (5864062014805 : Int))) = true then
                  (W_ref15_Split_1 x0) [v0, v0, v1]
                  else none
                else none
              else none
            else none
          else
          (W_ref15_Split_1 x0) [a0, v0, a2]
        else none
      else none
  else
  some [a2] := (loopP_eq FX B_ref15_Split_1 [] [x0] _).trans (by kernel_rfl)
theorem E_ref15_Split (x0 : D) : FX 21 [x0] =
  W_ref15_Split_1 x0 [(D.int (0 : Int)), (D.int (0 : Int)), (D.agg [])] := (fixP_eq (t := T_ref15_Split) (by rfl) _).trans (by kernel_rfl)
theorem E_ref01_Decimal (x0 : D) : FX 12 [x0] =
  let v0 : D := (D.int (IntKind.i64.wrap (Int.tdiv (x0).toInt (10 : Int))))
  let v1 : D := (D.int (Int.tmod (x0).toInt (10 : Int)))
  if (decide ((x0).toInt < (0 : Int))) = true then
  if ((v0).toInt == (0 : Int)) = true then
    bindC (FX 25 [(D.int (IntKind.i64.wrap ((0 : Int) - (x0).toInt)))]) 1 fun r1 =>
      if (decide ((IntKind.i64.wrap (((((ByteArray.mk #[45]))).size : Int) + ((((r1.getD 0 D.nil)).toStr).size : Int))) ≤ (4611686018427387903 : Int))) = true then
      if (decide (((((ByteArray.mk #[45]))).size : Int) ≤ (4611686018427387903 : Int))) = true then
        if (decide (((((r1.getD 0 D.nil)).toStr).size : Int) ≤ (4611686018427387903 : Int))) = true then
          some [(D.str (((ByteArray.mk #[45])) ++ ((r1.getD 0 D.nil)).toStr))]
          else none
        else none
      else none
    else
    bindC (FX 12 [v0]) 1 fun r1 =>
      bindC (FX 25 [(D.int (IntKind.i64.wrap ((0 : Int) - (v1).toInt)))]) 1 fun r2 =>
      if (decide ((IntKind.i64.wrap (((((r1.getD 0 D.nil)).toStr).size : Int) + ((((r2.getD 0 D.nil)).toStr).size : Int))) ≤ (4611686018427387903 : Int))) = true then
      if (decide (((((r1.getD 0 D.nil)).toStr).size : Int) ≤ (4611686018427387903 : Int))) = true then
        if (decide (((((r2.getD 0 D.nil)).toStr).size : Int) ≤ (4611686018427387903 : Int))) = true then
          some [(D.str (((r1.getD 0 D.nil)).toStr ++ ((r2.getD 0 D.nil)).toStr))]
          else none
        else none
      else none
  else
  if (decide ((x0).toInt < (10 : Int))) = true then
    bindC (FX 25 [x0]) 1 fun r1 =>
      some [(r1.getD 0 D.nil)]
    else
    bindC (FX 12 [v0]) 1 fun r1 =>
      bindC (FX 25 [v1]) 1 fun r2 =>
      if (decide ((IntKind.i64.wrap (((((r1.getD 0 D.nil)).toStr).size : Int) + ((((r2.getD 0 D.nil)).toStr).size : Int))) ≤ (4611686018427387903 : Int))) = true then
      if (decide (((((r1.getD 0 D.nil)).toStr).size : Int) ≤ (4611686018427387903 : Int))) = true then
        if (decide (((((r2.getD 0 D.nil)).toStr).size : Int) ≤ (4611686018427387903 : Int))) = true then
          some [(D.str (((r1.getD 0 D.nil)).toStr ++ ((r2.getD 0 D.nil)).toStr))]
          else none
        else none
      else none := (fixP_eq (t := T_ref01_Decimal) (by rfl) _).trans (by kernel_rfl)
noncomputable def W_ref15_Num_1 (x0 : D) : Eng.Fn := loopF fun g xs => evalP FX B_ref15_Num_1 ([] ++ [g]) ([x0] ++ xs)
theorem W_ref15_Num_1_eq (x0 : D) (a0 a1 : D) : W_ref15_Num_1 x0 [a0, a1] =
  let v0 : D := (D.int ((((x0).toStr).data.getD ((a1).toInt).toNat 0).toNat : Int))
  if (decide ((a1).toInt < (((x0).toStr).size : Int))) = true then
  if (decide ((a1).toInt ≥ (0 : Int))) = true then
    if (decide ((a1).toInt < (((x0).toStr).size : Int))) = true then
      if (decide ((v0).toInt < (48 : Int))) = true then
        some [(D.int (0 : Int)), (D.bool false)]
        else
        if (decide ((a1).toInt ≥ (0 : Int))) = true then
          if (decide ((a1).toInt < (((x0).toStr).size : Int))) = true then
            if (decide ((v0).toInt > (57 : Int))) = true then
              some [(D.int (0 : Int)), (D.bool false)]
              else
              if (decide ((a1).toInt ≥ (0 : Int))) = true then
                if (decide ((a1).toInt < (((x0).toStr).size : Int))) = true then
                  (W_ref15_Num_1 x0) [(D.int (IntKind.i64.wrap ((IntKind.i64.wrap ((a0).toInt * (10 : Int))) + (IntKind.i64.wrap (IntKind.u8.wrap ((v0).toInt - (48 : Int))))))), (D.int (IntKind.i64.wrap ((a1).toInt + (1 : Int))))]
                  else none
                else none
            else none
          else none
      else none
    else none
  else
  bindC (FX 12 [a0]) 1 fun r3 =>
    some [a0, (D.bool (scmpF .eql ((r3.getD 0 D.nil)).toStr (x0).toStr))] := (loopP_eq FX B_ref15_Num_1 [] [x0] _).trans (by kernel_rfl)
theorem E_ref15_Num (x0 : D) : FX 35 [x0] =
  if ((((x0).toStr).size : Int) == (0 : Int)) = true then
  some [(D.int (0 : Int)), (D.bool false)]
  else
  if (decide ((((x0).toStr).size : Int) > (7 : Int))) = true then
    some [(D.int (0 : Int)), (D.bool false)]
    else
    W_ref15_Num_1 x0 [(D.int (0 : Int)), (D.int (0 : Int))] := (fixP_eq (t := T_ref15_Num) (by rfl) _).trans (by kernel_rfl)
theorem E_ref26_Num (x0 : D) : FX 22 [x0] =
  if (decide ((((x0).toStr).size : Int) > (1 : Int))) = true then
  if (decide ((0 : Int) < (((x0).toStr).size : Int))) = true then
    if (((((x0).toStr).data.getD ((0 : Int)).toNat 0).toNat : Int) == (45 : Int)) = true then
      if (decide ((0 : Int) ≤ (1 : Int))) = true then
        if (decide ((1 : Int) ≤ (((x0).toStr).size : Int))) = true then
          if (decide ((((x0).toStr).size : Int) ≤ (((x0).toStr).size : Int))) = true then
            bindC (FX 35 [(D.str (((x0).toStr).extract ((1 : Int)).toNat ((((x0).toStr).size : Int)).toNat))]) 2 fun r1 =>
              let v0 : D := (D.int (IntKind.i64.wrap ((0 : Int) - ((r1.getD 0 D.nil)).toInt)))
              if ((r1.getD 1 D.nil)).toBool = true then
              some [v0, (D.bool (((r1.getD 0 D.nil)).toInt != (0 : Int)))]
              else
              some [v0, (D.bool false)]
            else none
          else none
        else none
      else
      bindC (FX 35 [x0]) 2 fun r1 =>
        some [(r1.getD 0 D.nil), (r1.getD 1 D.nil)]
    else none
  else
  bindC (FX 35 [x0]) 2 fun r1 =>
    some [(r1.getD 0 D.nil), (r1.getD 1 D.nil)] := (fixP_eq (t := T_ref26_Num) (by rfl) _).trans (by kernel_rfl)
noncomputable def W_ref26_One_6 (x0 x1 x2 x3 x4 : D) (g0 : Eng.Fn) : Eng.Fn := loopF fun g xs => evalP FX B_ref26_One_6 ([g0] ++ [g]) ([x0, x1, x2, x3, x4] ++ xs)
theorem W_ref26_One_6_eq (x0 x1 x2 x3 x4 : D) (g0 : Eng.Fn) (a0 a1 : D) : W_ref26_One_6 x0 x1 x2 x3 x4 g0 [a0, a1] =
  let v6 : D := (D.agg ((a1).toL ++ ((D.agg ((D.int (3 : Int)) :: ((((x3).toL).getD ((0 : Int)).toNat D.nil) :: ((D.int (0 : Int)) :: ((D.str ((ByteArray.mk #[]))) :: []))))) :: [])))
  if (decide ((a0).toInt < ((((x3).toL).getD ((1 : Int)).toNat D.nil)).toInt)) = true then
  if (decide ((0 : Int) < (((x3).toL).length : Int))) = true then
    if (decide ((((v6).toL).length : Int) ≤ (3518437208883 : Int))) = true then
      (W_ref26_One_6 x0 x1 x2 x3 x4 g0) [(D.int (IntKind.i64.wrap ((a0).toInt + (1 : Int)))), v6]
      else none
    else none
  else
  some [a1, (D.int (0 : Int)), (D.int (0 : Int))] := (loopP_eq FX B_ref26_One_6 [g0] [x0, x1, x2, x3, x4] _).trans (by kernel_rfl)
noncomputable def W_ref26_One_7 (x0 x1 x2 x3 x4 : D) (g0 : Eng.Fn) : Eng.Fn := loopF fun g xs => evalP FX B_ref26_One_7 ([g0] ++ [g]) ([x0, x1, x2, x3, x4] ++ xs)
theorem W_ref26_One_7_eq (x0 x1 x2 x3 x4 : D) (g0 : Eng.Fn) (a0 a1 : D) : W_ref26_One_7 x0 x1 x2 x3 x4 g0 [a0, a1] =
  let v7 : D := (D.agg ((a1).toL ++ ((D.agg ((D.int (3 : Int)) :: ((((x3).toL).getD ((0 : Int)).toNat D.nil) :: ((D.int (0 : Int)) :: ((D.str ((ByteArray.mk #[]))) :: []))))) :: [])))
  if (decide ((a0).toInt < (1 : Int))) = true then
  if (decide ((0 : Int) < (((x3).toL).length : Int))) = true then
    if (decide ((((v7).toL).length : Int) ≤ (3518437208883 : Int))) = true then
      (W_ref26_One_7 x0 x1 x2 x3 x4 g0) [(D.int (IntKind.i64.wrap ((a0).toInt + (1 : Int)))), v7]
      else none
    else none
  else
  some [a1, (D.int (0 : Int)), (D.int (0 : Int))] := (loopP_eq FX B_ref26_One_7 [g0] [x0, x1, x2, x3, x4] _).trans (by kernel_rfl)
noncomputable def J_ref26_One_5 (x0 x1 x2 x3 : D) (g0 : Eng.Fn) : Eng.Fn := fun xs => evalP FX B_ref26_One_5 [g0] ([x0, x1, x2, x3] ++ xs)
theorem J_ref26_One_5_eq (x0 x1 x2 x3 : D) (g0 : Eng.Fn) (a0 : D) : J_ref26_One_5 x0 x1 x2 x3 g0 [a0] =
  if (a0).toBool = true then
  if (decide ((1 : Int) < (((x3).toL).length : Int))) = true then
    W_ref26_One_6 x0 x1 x2 x3 a0 g0 [(D.int (0 : Int)), (D.agg [])]
    else none
  else
  if (scmpF .neq (((((((x1).toL).getD ((0 : Int)).toNat D.nil)).toL).getD 0 D.nil)).toStr ((ByteArray.mk #[112, 105, 99, 107]))) = true then
    some [(D.agg []), (D.int (10 : Int)), (D.int (0 : Int))]
    else
    if ((((x3).toL).length : Int) != (1 : Int)) = true then
      some [(D.agg []), (D.int (10 : Int)), (D.int (0 : Int))]
      else
      W_ref26_One_7 x0 x1 x2 x3 a0 g0 [(D.int (0 : Int)), (D.agg [])] := by kernel_rfl
noncomputable def J_ref26_One_4 (x0 x1 x2 x3 : D) (g0 : Eng.Fn) : Eng.Fn := fun xs => evalP FX B_ref26_One_4 [g0] ([x0, x1, x2, x3] ++ xs)
theorem J_ref26_One_4_eq (x0 x1 x2 x3 : D) (g0 : Eng.Fn) : J_ref26_One_4 x0 x1 x2 x3 g0 [] =
  let v5 : D := (((x3).toL).getD ((1 : Int)).toNat D.nil)
  if (scmpF .eql (((((((x1).toL).getD ((0 : Int)).toNat D.nil)).toL).getD 0 D.nil)).toStr ((ByteArray.mk #[112, 105, 99, 107]))) = true then
  if ((((x3).toL).length : Int) == (2 : Int)) = true then
    if (decide ((1 : Int) < (((x3).toL).length : Int))) = true then
      if (decide ((v5).toInt ≥ (2 : Int))) = true then
        if (decide ((1 : Int) < (((x3).toL).length : Int))) = true then
          (J_ref26_One_5 x0 x1 x2 x3 g0) [(D.bool (decide ((v5).toInt ≤ (10000 : Int))))]
          else none
        else
        (J_ref26_One_5 x0 x1 x2 x3 g0) [(D.bool false)]
      else none
    else
    (J_ref26_One_5 x0 x1 x2 x3 g0) [(D.bool false)]
  else
  (J_ref26_One_5 x0 x1 x2 x3 g0) [(D.bool false)] := by kernel_rfl
noncomputable def J_ref26_One_3 (x0 x1 x2 x3 : D) (g0 : Eng.Fn) : Eng.Fn := fun xs => evalP FX B_ref26_One_3 [g0] ([x0, x1, x2, x3] ++ xs)
theorem J_ref26_One_3_eq (x0 x1 x2 x3 : D) (g0 : Eng.Fn) : J_ref26_One_3 x0 x1 x2 x3 g0 [] =
  if (scmpF .eql (((((((x1).toL).getD ((0 : Int)).toNat D.nil)).toL).getD 0 D.nil)).toStr ((ByteArray.mk #[100, 114, 97, 119]))) = true then
  if ((((x3).toL).length : Int) == (2 : Int)) = true then
    if (decide ((0 : Int) < (((x3).toL).length : Int))) = true then
      if (decide ((1 : Int) < (((x3).toL).length : Int))) = true then
        some [(D.agg ((D.agg ((D.int (4 : Int)) :: ((((x3).toL).getD ((0 : Int)).toNat D.nil) :: ((((x3).toL).getD ((1 : Int)).toNat D.nil) :: ((D.str ((ByteArray.mk #[]))) :: []))))) :: [])), (D.int (0 : Int)), (D.int (0 : Int))]
        else none
      else none
    else
    (J_ref26_One_4 x0 x1 x2 x3 g0) []
  else
  (J_ref26_One_4 x0 x1 x2 x3 g0) [] := by kernel_rfl
noncomputable def W_ref26_One_2 (x0 x1 : D) : Eng.Fn := loopF fun g xs => evalP FX B_ref26_One_2 ([] ++ [g]) ([x0, x1] ++ xs)
theorem W_ref26_One_2_eq (x0 x1 : D) (a0 a1 : D) : W_ref26_One_2 x0 x1 [a0, a1] =
  let v3 : D := ((((((x1).toL).getD ((0 : Int)).toNat D.nil)).toL).getD 0 D.nil)
  if (decide ((a0).toInt < (((x1).toL).length : Int))) = true then
  if (decide ((a0).toInt ≥ (0 : Int))) = true then
    if (decide ((a0).toInt < (((x1).toL).length : Int))) = true then
      bindC (FX 22 [((((((x1).toL).getD ((a0).toInt).toNat D.nil)).toL).getD 0 D.nil)]) 2 fun r4 =>
        let v4 : D := (D.agg ((a1).toL ++ ((r4.getD 0 D.nil) :: [])))
        if (!((r4.getD 1 D.nil)).toBool) = true then
        some [(D.agg []), (D.int (13 : Int)), (D.int (IntKind.i64.wrap ((((v3).toStr).size : Int) + (1 : Int))))]
        else
        if (decide ((((v4).toL).length : Int) ≤ (17592186044416 : Int))) = true then
          (W_ref26_One_2 x0 x1) [(D.int (IntKind.i64.wrap ((a0).toInt + (1 : Int)))), v4]
          else none
      else none
    else none
  else
  if (scmpF .eql (v3).toStr ((ByteArray.mk #[116, 105, 99, 107]))) = true then
    if ((((a1).toL).length : Int) == (1 : Int)) = true then
      if (decide ((0 : Int) < (((a1).toL).length : Int))) = true then
        some [(D.agg ((D.agg ((D.int (2 : Int)) :: ((D.int (0 : Int)) :: ((((a1).toL).getD ((0 : Int)).toNat D.nil) :: ((D.str ((ByteArray.mk #[]))) :: []))))) :: [])), (D.int (0 : Int)), (D.int (0 : Int))]
        else none
      else
      (J_ref26_One_3 x0 x1 a0 a1 (W_ref26_One_2 x0 x1)) []
    else
    (J_ref26_One_3 x0 x1 a0 a1 (W_ref26_One_2 x0 x1)) [] := (loopP_eq FX B_ref26_One_2 [] [x0, x1] _).trans (by kernel_rfl)
noncomputable def J_ref26_One_1 (x0 x1 : D) : Eng.Fn := fun xs => evalP FX B_ref26_One_1 [] ([x0, x1] ++ xs)
theorem J_ref26_One_1_eq (x0 x1 : D) : J_ref26_One_1 x0 x1  [] =
  let v1 : D := ((((((x1).toL).getD ((0 : Int)).toNat D.nil)).toL).getD 0 D.nil)
  let v2 : D := ((((((x1).toL).getD ((2 : Int)).toNat D.nil)).toL).getD 1 D.nil)
  if (scmpF .eql (v1).toStr ((ByteArray.mk #[115, 97, 121]))) = true then
  if (decide ((((x1).toL).length : Int) < (3 : Int))) = true then
    some [(D.agg []), (D.int (13 : Int)), (D.int (4 : Int))]
    else
    if (decide ((1 : Int) < (((x1).toL).length : Int))) = true then
      bindC (FX 22 [((((((x1).toL).getD ((1 : Int)).toNat D.nil)).toL).getD 0 D.nil)]) 2 fun r2 =>
        if (!((r2.getD 1 D.nil)).toBool) = true then
        some [(D.agg []), (D.int (13 : Int)), (D.int (4 : Int))]
        else
        if (decide ((2 : Int) < (((x1).toL).length : Int))) = true then
          if (decide ((0 : Int) ≤ (v2).toInt)) = true then
            if (decide ((v2).toInt ≤ (((x0).toStr).size : Int))) = true then
              if (decide ((((x0).toStr).size : Int) ≤ (((x0).toStr).size : Int))) = true then
                some [(D.agg ((D.agg ((D.int (1 : Int)) :: ((r2.getD 0 D.nil) :: ((D.int (0 : Int)) :: ((D.str (((x0).toStr).extract ((v2).toInt).toNat ((((x0).toStr).size : Int)).toNat)) :: []))))) :: [])), (D.int (0 : Int)), (D.int (0 : Int))]
                else none
              else none
            else none
          else none
      else none
  else
  if ((((x1).toL).length : Int) == (1 : Int)) = true then
    some [(D.agg []), (D.int (13 : Int)), (D.int (IntKind.i64.wrap ((((v1).toStr).size : Int) + (1 : Int))))]
    else
    W_ref26_One_2 x0 x1 [(D.int (1 : Int)), (D.agg [])] := by kernel_rfl
theorem E_ref26_One (x0 : D) : FX 8 [x0] =
  if ((((x0).toStr).size : Int) == (0 : Int)) = true then
  some [(D.agg []), (D.int (0 : Int)), (D.int (0 : Int))]
  else
  if (decide ((0 : Int) < (((x0).toStr).size : Int))) = true then
    if (((((x0).toStr).data.getD ((0 : Int)).toNat 0).toNat : Int) == (35 : Int)) = true then
      some [(D.agg []), (D.int (0 : Int)), (D.int (0 : Int))]
      else
      bindC (FX 21 [x0]) 1 fun r1 =>
        let v0 : D := (((((((r1.getD 0 D.nil)).toL).getD ((0 : Int)).toNat D.nil)).toL).getD 0 D.nil)
        if (decide ((0 : Int) < ((((r1.getD 0 D.nil)).toL).length : Int))) = true then
        if (scmpF .neq (v0).toStr ((ByteArray.mk #[115, 97, 121]))) = true then
          if (scmpF .neq (v0).toStr ((ByteArray.mk #[116, 105, 99, 107]))) = true then
            if (scmpF .neq (v0).toStr ((ByteArray.mk #[112, 105, 99, 107]))) = true then
              if (scmpF .neq (v0).toStr ((ByteArray.mk #[100, 114, 97, 119]))) = true then
                some [(D.agg []), (D.int (10 : Int)), (D.int (0 : Int))]
                else
                (J_ref26_One_1 x0 (r1.getD 0 D.nil)) []
              else
              (J_ref26_One_1 x0 (r1.getD 0 D.nil)) []
            else
            (J_ref26_One_1 x0 (r1.getD 0 D.nil)) []
          else
          (J_ref26_One_1 x0 (r1.getD 0 D.nil)) []
        else none
    else none := (fixP_eq (t := T_ref26_One) (by rfl) _).trans (by kernel_rfl)
theorem E_fault_Place (x0 x1 : D) : FX 9 [x0, x1] =
  bindC (FX 23 [x0, (D.iface 60 (D.int (((x1).toL).length : Int))), (D.agg ((x1).toL ++ ((D.agg (D.nil :: [])) :: [])))]) 2 fun r2 =>
  let v0 : D := (((((((r2.getD 1 D.nil)).toL).getD ((((x1).toL).length : Int)).toNat D.nil)).toL).getD 0 D.nil)
  if ((r2.getD 0 D.nil)).toBool = true then
  if (!(v0).isNil) = true then
    if (!(v0).isNil) = true then
      some [(((v0).toL).getD 0 D.nil), (D.bool true), (r2.getD 1 D.nil)]
      else none
    else
    some [(D.int (0 : Int)), (D.bool false), (r2.getD 1 D.nil)]
  else
  some [(D.int (0 : Int)), (D.bool false), (r2.getD 1 D.nil)] := (fixP_eq (t := T_fault_Place) (by rfl) _).trans (by kernel_rfl)
noncomputable def W_fault_Words_1 (x0 x1 : D) : Eng.Fn := loopF fun g xs => evalP FX B_fault_Words_1 ([] ++ [g]) ([x0, x1] ++ xs)
theorem W_fault_Words_1_eq (x0 x1 : D) (a0 a1 a2 a3 : D) : W_fault_Words_1 x0 x1 [a0, a1, a2, a3] =
  bindC (FX 23 [a0, (D.iface 64 a1), a3]) 2 fun r6 =>
  let v0 : D := (((((((r6.getD 1 D.nil)).toL).getD ((a1).toInt).toNat D.nil)).toL).getD 0 D.nil)
  let v1 : D := (D.agg ((a2).toL ++ ((((v0).toL).getD 0 D.nil) :: [])))
  if ((r6.getD 0 D.nil)).toBool = true then
  if (!(a1).isNil) = true then
    if (!(v0).isNil) = true then
      if (!(a1).isNil) = true then
        if (!(v0).isNil) = true then
          if (decide ((((v1).toL).length : Int) ≤ (8796093022208 : Int))) = true then
            if (!(a1).isNil) = true then
              if (!(v0).isNil) = true then
                (W_fault_Words_1 x0 x1) [(((v0).toL).getD 1 D.nil), (D.int ((((r6.getD 1 D.nil)).toL).length : Int)), v1, (D.agg (((r6.getD 1 D.nil)).toL ++ ((D.agg (v0 :: [])) :: [])))]
                else none
              else none
            else none
          else none
        else none
      else
      some [a2, (r6.getD 1 D.nil)]
    else none
  else
  some [a2, (r6.getD 1 D.nil)] := (loopP_eq FX B_fault_Words_1 [] [x0, x1] _).trans (by kernel_rfl)
theorem E_fault_Words (x0 x1 : D) : FX 10 [x0, x1] =
  W_fault_Words_1 x0 x1 [x0, (D.int (((x1).toL).length : Int)), (D.agg []), (D.agg ((x1).toL ++ ((D.agg (D.nil :: [])) :: [])))] := (fixP_eq (t := T_fault_Words) (by rfl) _).trans (by kernel_rfl)
noncomputable def W_law01_Num_1 (x0 : D) : Eng.Fn := loopF fun g xs => evalP FX B_law01_Num_1 ([] ++ [g]) ([x0] ++ xs)
theorem W_law01_Num_1_eq (x0 : D) (a0 : D) : W_law01_Num_1 x0 [a0] =
  if (decide ((a0).toInt < (30 : Int))) = true then
  bindC (FX 24 [x0, (D.iface 50 a0)]) 1 fun r2 =>
    if ((r2.getD 0 D.nil)).toBool = true then
    some [a0]
    else
    (W_law01_Num_1 x0) [(D.int (IntKind.i64.wrap ((a0).toInt + (1 : Int))))]
  else
  some [(D.int (-1 : Int))] := (loopP_eq FX B_law01_Num_1 [] [x0] _).trans (by kernel_rfl)
theorem E_law01_Num (x0 : D) : FX 11 [x0] =
  if (x0).isNil = true then
  some [(D.int (0 : Int))]
  else
  W_law01_Num_1 x0 [(D.int (1 : Int))] := (fixP_eq (t := T_law01_Num) (by rfl) _).trans (by kernel_rfl)
noncomputable def W_law26_StoryParses_2 (x0 x1 x2 x3 x4 x5 x6 : D) (g0 : Eng.Fn) : Eng.Fn := loopF fun g xs => evalP FX B_law26_StoryParses_2 ([g0] ++ [g]) ([x0, x1, x2, x3, x4, x5, x6] ++ xs)
theorem W_law26_StoryParses_2_eq (x0 x1 x2 x3 x4 x5 x6 : D) (g0 : Eng.Fn) (a0 : D) : W_law26_StoryParses_2 x0 x1 x2 x3 x4 x5 x6 g0 [a0] =
  let v3 : D := (((x2).toL).getD ((a0).toInt).toNat D.nil)
  let v4 : D := (((x5).toL).getD ((a0).toInt).toNat D.nil)
  if (decide ((a0).toInt < (((x5).toL).length : Int))) = true then
  if (decide ((a0).toInt ≥ (0 : Int))) = true then
    if (decide ((a0).toInt < (((x2).toL).length : Int))) = true then
      if (decide ((a0).toInt ≥ (0 : Int))) = true then
        if (decide ((a0).toInt < (((x5).toL).length : Int))) = true then
          if (!((((((v3).toL).getD 0 D.nil)).toInt == ((((v4).toL).getD 0 D.nil)).toInt) && ((((((v3).toL).getD 1 D.nil)).toInt == ((((v4).toL).getD 1 D.nil)).toInt) && ((((((v3).toL).getD 2 D.nil)).toInt == ((((v4).toL).getD 2 D.nil)).toInt) && (scmpF .eql ((((v3).toL).getD 3 D.nil)).toStr ((((v4).toL).getD 3 D.nil)).toStr))))) = true then
            some [(D.bool false)]
            else
            (W_law26_StoryParses_2 x0 x1 x2 x3 x4 x5 x6 g0) [(D.int (IntKind.i64.wrap ((a0).toInt + (1 : Int))))]
          else none
        else none
      else none
    else none
  else
  bindC (FX 6 []) 1 fun r8 =>
    some [(r8.getD 0 D.nil)] := (loopP_eq FX B_law26_StoryParses_2 [g0] [x0, x1, x2, x3, x4, x5, x6] _).trans (by kernel_rfl)
noncomputable def W_law26_StoryParses_1 (x0 x1 x2 x3 : D) : Eng.Fn := loopF fun g xs => evalP FX B_law26_StoryParses_1 ([] ++ [g]) ([x0, x1, x2, x3] ++ xs)
theorem W_law26_StoryParses_1_eq (x0 x1 x2 x3 : D) (a0 a1 a2 : D) : W_law26_StoryParses_1 x0 x1 x2 x3 [a0, a1, a2] =
  let v0 : D := (D.int (IntKind.i64.wrap ((a0).toInt + (1 : Int))))
  if (decide ((a0).toInt < (((x0).toL).length : Int))) = true then
  if (decide ((a0).toInt ≥ (0 : Int))) = true then
    if (decide ((a0).toInt < (((x0).toL).length : Int))) = true then
      bindC (FX 8 [(((x0).toL).getD ((a0).toInt).toNat D.nil)]) 3 fun r7 =>
        let v1 : D := (D.agg ((a1).toL ++ ((r7.getD 0 D.nil)).toL))
        let v2 : D := (D.int (((v1).toL).length : Int))
        if (((r7.getD 1 D.nil)).toInt != (0 : Int)) = true then
        bindC (FX 9 [x3, a2]) 3 fun r10 =>
          bindC (FX 10 [x3, (r10.getD 2 D.nil)]) 2 fun r13 =>
          bindC (FX 6 []) 1 fun r15 =>
          if ((r15.getD 0 D.nil)).toBool = true then
          if ((((x2).toL).length : Int) == (0 : Int)) = true then
            bindC (FX 11 [x3]) 1 fun r16 =>
              if (((r16.getD 0 D.nil)).toInt == ((r7.getD 1 D.nil)).toInt) = true then
              if ((r10.getD 1 D.nil)).toBool = true then
                if (((r10.getD 0 D.nil)).toInt == ((r7.getD 2 D.nil)).toInt) = true then
                  if (((((r13.getD 0 D.nil)).toL).length : Int) == (1 : Int)) = true then
                    if (decide ((0 : Int) < ((((r13.getD 0 D.nil)).toL).length : Int))) = true then
                      bindC (FX 12 [v0]) 1 fun r17 =>
                        some [(D.bool (scmpF .eql (((((r13.getD 0 D.nil)).toL).getD ((0 : Int)).toNat D.nil)).toStr ((r17.getD 0 D.nil)).toStr))]
                      else none
                    else
                    some [(D.bool false)]
                  else
                  some [(D.bool false)]
                else
                some [(D.bool false)]
              else
              some [(D.bool false)]
            else
            some [(D.bool false)]
          else
          some [(D.bool false)]
        else
        if (decide ((v2).toInt ≤ (3518437208883 : Int))) = true then
          if (decide ((v2).toInt > (50000 : Int))) = true then
            bindC (FX 6 []) 1 fun r10 =>
              some [(r10.getD 0 D.nil)]
            else
            (W_law26_StoryParses_1 x0 x1 x2 x3) [v0, v1, a2]
          else none
      else none
    else none
  else
  if (!(x3).isNil) = true then
    some [(D.bool false)]
    else
    if ((((x2).toL).length : Int) != (((a1).toL).length : Int)) = true then
      some [(D.bool false)]
      else
      W_law26_StoryParses_2 x0 x1 x2 x3 a0 a1 a2 ((W_law26_StoryParses_1 x0 x1 x2 x3)) [(D.int (0 : Int))] := (loopP_eq FX B_law26_StoryParses_1 [] [x0, x1, x2, x3] _).trans (by kernel_rfl)
theorem E_law26_StoryParses (x0 : D) : FX 3 [x0] =
  bindC (FX 5 [x0]) 1 fun r1 =>
  if (!((r1.getD 0 D.nil)).toBool) = true then
  bindC (FX 6 []) 1 fun r2 =>
    some [(r2.getD 0 D.nil)]
  else
  bindC (FX 7 [x0]) 2 fun r2 =>
    W_law26_StoryParses_1 x0 (r1.getD 0 D.nil) (r2.getD 0 D.nil) (r2.getD 1 D.nil) [(D.int (0 : Int)), (D.agg []), (D.agg [])] := (fixP_eq (t := T_law26_StoryParses) (by rfl) _).trans (by kernel_rfl)
theorem E_story_print_1 (x0 : D) : FX 42 [x0] =
  if (decide ((x0).toInt ≥ (-9999999 : Int))) = true then
  some [(D.bool (decide ((x0).toInt ≤ (9999999 : Int))))]
  else
  some [(D.bool false)] := (fixP_eq (t := T_story_print_1) (by rfl) _).trans (by kernel_rfl)
noncomputable def J_story_print_3 (x0 x1 x2 x3 x4 x5 x6 x7 x8 x9 x10 : D) : Eng.Fn := fun xs => evalP FX B_story_print_3 [] ([x0, x1, x2, x3, x4, x5, x6, x7, x8, x9, x10] ++ xs)
theorem J_story_print_3_eq (x0 x1 x2 x3 x4 x5 x6 x7 x8 x9 x10 : D) (a0 : D) : J_story_print_3 x0 x1 x2 x3 x4 x5 x6 x7 x8 x9 x10  [a0] =
  let v4 : D := (D.str (((ByteArray.mk #[112, 105, 99, 107, 32])) ++ (x7).toStr))
  let v5 : D := (D.str (((ByteArray.mk #[100, 114, 97, 119, 32])) ++ (x7).toStr))
  let v6 : D := (D.int (((v4).toStr).size : Int))
  let v7 : D := (D.int (((v5).toStr).size : Int))
  let v8 : D := (D.str ((v4).toStr ++ ((ByteArray.mk #[32]))))
  let v9 : D := (D.str ((v5).toStr ++ ((ByteArray.mk #[32]))))
  let v10 : D := (D.int (((v8).toStr).size : Int))
  let v11 : D := (D.int (((v9).toStr).size : Int))
  let v12 : D := (D.str ((v9).toStr ++ (x8).toStr))
  if (a0).toBool = true then
  if (decide ((IntKind.i64.wrap (((((ByteArray.mk #[112, 105, 99, 107, 32]))).size : Int) + (((x7).toStr).size : Int))) ≤ (4611686018427387903 : Int))) = true then
    if (decide (((((ByteArray.mk #[112, 105, 99, 107, 32]))).size : Int) ≤ (4611686018427387903 : Int))) = true then
      if (decide ((((x7).toStr).size : Int) ≤ (4611686018427387903 : Int))) = true then
        if (decide ((IntKind.i64.wrap ((v6).toInt + ((((ByteArray.mk #[32]))).size : Int))) ≤ (4611686018427387903 : Int))) = true then
          if (decide ((v6).toInt ≤ (4611686018427387903 : Int))) = true then
            if (decide (((((ByteArray.mk #[32]))).size : Int) ≤ (4611686018427387903 : Int))) = true then
              bindC (FX 18 [x4]) 1 fun r12 =>
                if (decide ((IntKind.i64.wrap ((v10).toInt + ((((r12.getD 0 D.nil)).toStr).size : Int))) ≤ (4611686018427387903 : Int))) = true then
                if (decide ((v10).toInt ≤ (4611686018427387903 : Int))) = true then
                  if (decide (((((r12.getD 0 D.nil)).toStr).size : Int) ≤ (4611686018427387903 : Int))) = true then
                    some [(D.str ((v8).toStr ++ ((r12.getD 0 D.nil)).toStr)), (D.bool true)]
                    else none
                  else none
                else none
              else none
            else none
          else none
        else none
      else none
    else none
  else
  if ((x0).toInt == (3 : Int)) = true then
    if ((x2).toInt == (0 : Int)) = true then
      if (decide ((IntKind.i64.wrap (((((ByteArray.mk #[112, 105, 99, 107, 32]))).size : Int) + (((x7).toStr).size : Int))) ≤ (4611686018427387903 : Int))) = true then
        if (decide (((((ByteArray.mk #[112, 105, 99, 107, 32]))).size : Int) ≤ (4611686018427387903 : Int))) = true then
          if (decide ((((x7).toStr).size : Int) ≤ (4611686018427387903 : Int))) = true then
            some [v4, (D.bool true)]
            else none
          else none
        else none
      else
      if ((x0).toInt == (4 : Int)) = true then
        if (decide ((IntKind.i64.wrap (((((ByteArray.mk #[100, 114, 97, 119, 32]))).size : Int) + (((x7).toStr).size : Int))) ≤ (4611686018427387903 : Int))) = true then
          if (decide (((((ByteArray.mk #[100, 114, 97, 119, 32]))).size : Int) ≤ (4611686018427387903 : Int))) = true then
            if (decide ((((x7).toStr).size : Int) ≤ (4611686018427387903 : Int))) = true then
              if (decide ((IntKind.i64.wrap ((v7).toInt + ((((ByteArray.mk #[32]))).size : Int))) ≤ (4611686018427387903 : Int))) = true then
                if (decide ((v7).toInt ≤ (4611686018427387903 : Int))) = true then
                  if (decide (((((ByteArray.mk #[32]))).size : Int) ≤ (4611686018427387903 : Int))) = true then
                    if (decide ((IntKind.i64.wrap ((v11).toInt + (((x8).toStr).size : Int))) ≤ (4611686018427387903 : Int))) = true then
                      if (decide ((v11).toInt ≤ (4611686018427387903 : Int))) = true then
                        if (decide ((((x8).toStr).size : Int) ≤ (4611686018427387903 : Int))) = true then
                          some [v12, (D.bool true)]
                          else none
                        else none
                      else none
                    else none
                  else none
                else none
              else none
            else none
          else none
        else
        some [(D.str ((ByteArray.mk #[]))), (D.bool false)]
    else
    if ((x0).toInt == (4 : Int)) = true then
      if (decide ((IntKind.i64.wrap (((((ByteArray.mk #[100, 114, 97, 119, 32]))).size : Int) + (((x7).toStr).size : Int))) ≤ (4611686018427387903 : Int))) = true then
        if (decide (((((ByteArray.mk #[100, 114, 97, 119, 32]))).size : Int) ≤ (4611686018427387903 : Int))) = true then
          if (decide ((((x7).toStr).size : Int) ≤ (4611686018427387903 : Int))) = true then
            if (decide ((IntKind.i64.wrap ((v7).toInt + ((((ByteArray.mk #[32]))).size : Int))) ≤ (4611686018427387903 : Int))) = true then
              if (decide ((v7).toInt ≤ (4611686018427387903 : Int))) = true then
                if (decide (((((ByteArray.mk #[32]))).size : Int) ≤ (4611686018427387903 : Int))) = true then
                  if (decide ((IntKind.i64.wrap ((v11).toInt + (((x8).toStr).size : Int))) ≤ (4611686018427387903 : Int))) = true then
                    if (decide ((v11).toInt ≤ (4611686018427387903 : Int))) = true then
                      if (decide ((((x8).toStr).size : Int) ≤ (4611686018427387903 : Int))) = true then
                        some [v12, (D.bool true)]
                        else none
                      else none
                    else none
                  else none
                else none
              else none
            else none
          else none
        else none
      else
      some [(D.str ((ByteArray.mk #[]))), (D.bool false)] := by kernel_rfl
noncomputable def J_story_print_2 (x0 x1 x2 x3 x4 x5 x6 x7 x8 x9 : D) : Eng.Fn := fun xs => evalP FX B_story_print_2 [] ([x0, x1, x2, x3, x4, x5, x6, x7, x8, x9] ++ xs)
theorem J_story_print_2_eq (x0 x1 x2 x3 x4 x5 x6 x7 x8 x9 : D) (a0 : D) : J_story_print_2 x0 x1 x2 x3 x4 x5 x6 x7 x8 x9  [a0] =
  if (a0).toBool = true then
  if (decide ((IntKind.i64.wrap (((((ByteArray.mk #[116, 105, 99, 107, 32]))).size : Int) + (((x8).toStr).size : Int))) ≤ (4611686018427387903 : Int))) = true then
    if (decide (((((ByteArray.mk #[116, 105, 99, 107, 32]))).size : Int) ≤ (4611686018427387903 : Int))) = true then
      if (decide ((((x8).toStr).size : Int) ≤ (4611686018427387903 : Int))) = true then
        some [(D.str (((ByteArray.mk #[116, 105, 99, 107, 32])) ++ (x8).toStr)), (D.bool true)]
        else none
      else none
    else none
  else
  if ((x0).toInt == (3 : Int)) = true then
    if ((x2).toInt == (0 : Int)) = true then
      (J_story_print_3 x0 x1 x2 x3 x4 x5 x6 x7 x8 x9 a0) [(D.bool (decide ((x4).toInt > (1 : Int))))]
      else
      (J_story_print_3 x0 x1 x2 x3 x4 x5 x6 x7 x8 x9 a0) [(D.bool false)]
    else
    (J_story_print_3 x0 x1 x2 x3 x4 x5 x6 x7 x8 x9 a0) [(D.bool false)] := by kernel_rfl
noncomputable def J_story_print_1 (x0 x1 x2 x3 x4 x5 x6 x7 x8 : D) : Eng.Fn := fun xs => evalP FX B_story_print_1 [] ([x0, x1, x2, x3, x4, x5, x6, x7, x8] ++ xs)
theorem J_story_print_1_eq (x0 x1 x2 x3 x4 x5 x6 x7 x8 : D) (a0 : D) : J_story_print_1 x0 x1 x2 x3 x4 x5 x6 x7 x8  [a0] =
  let v0 : D := (D.str (((ByteArray.mk #[115, 97, 121, 32])) ++ (x7).toStr))
  let v1 : D := (D.int (((v0).toStr).size : Int))
  let v2 : D := (D.str ((v0).toStr ++ ((ByteArray.mk #[32]))))
  let v3 : D := (D.int (((v2).toStr).size : Int))
  if (a0).toBool = true then
  if (decide ((IntKind.i64.wrap (((((ByteArray.mk #[115, 97, 121, 32]))).size : Int) + (((x7).toStr).size : Int))) ≤ (4611686018427387903 : Int))) = true then
    if (decide (((((ByteArray.mk #[115, 97, 121, 32]))).size : Int) ≤ (4611686018427387903 : Int))) = true then
      if (decide ((((x7).toStr).size : Int) ≤ (4611686018427387903 : Int))) = true then
        if (decide ((IntKind.i64.wrap ((v1).toInt + ((((ByteArray.mk #[32]))).size : Int))) ≤ (4611686018427387903 : Int))) = true then
          if (decide ((v1).toInt ≤ (4611686018427387903 : Int))) = true then
            if (decide (((((ByteArray.mk #[32]))).size : Int) ≤ (4611686018427387903 : Int))) = true then
              if (decide ((IntKind.i64.wrap ((v3).toInt + (((x3).toStr).size : Int))) ≤ (4611686018427387903 : Int))) = true then
                if (decide ((v3).toInt ≤ (4611686018427387903 : Int))) = true then
                  if (decide ((((x3).toStr).size : Int) ≤ (4611686018427387903 : Int))) = true then
                    some [(D.str ((v2).toStr ++ (x3).toStr)), (D.bool true)]
                    else none
                  else none
                else none
              else none
            else none
          else none
        else none
      else none
    else none
  else
  if (scmpF .neq (x3).toStr ((ByteArray.mk #[]))) = true then
    some [(D.str ((ByteArray.mk #[]))), (D.bool false)]
    else
    if ((x0).toInt == (2 : Int)) = true then
      (J_story_print_2 x0 x1 x2 x3 x4 x5 x6 x7 x8 a0) [(D.bool ((x1).toInt == (0 : Int)))]
      else
      (J_story_print_2 x0 x1 x2 x3 x4 x5 x6 x7 x8 a0) [(D.bool false)] := by kernel_rfl
theorem E_story_print (x0 x1 x2 x3 x4 : D) : FX 26 [x0, x1, x2, x3, x4] =
  bindC (FX 42 [x1]) 1 fun r5 =>
  if (!((r5.getD 0 D.nil)).toBool) = true then
  some [(D.str ((ByteArray.mk #[]))), (D.bool false)]
  else
  bindC (FX 42 [x2]) 1 fun r6 =>
    if (!((r6.getD 0 D.nil)).toBool) = true then
    some [(D.str ((ByteArray.mk #[]))), (D.bool false)]
    else
    bindC (FX 18 [x1]) 1 fun r7 =>
      bindC (FX 18 [x2]) 1 fun r8 =>
      if ((x0).toInt == (1 : Int)) = true then
      if ((x2).toInt == (0 : Int)) = true then
        bindC (FX 43 [x3, (D.str ((ByteArray.mk #[10])))]) 1 fun r9 =>
          (J_story_print_1 x0 x1 x2 x3 x4 (r5.getD 0 D.nil) (r6.getD 0 D.nil) (r7.getD 0 D.nil) (r8.getD 0 D.nil)) [(D.bool (!((r9.getD 0 D.nil)).toBool))]
        else
        (J_story_print_1 x0 x1 x2 x3 x4 (r5.getD 0 D.nil) (r6.getD 0 D.nil) (r7.getD 0 D.nil) (r8.getD 0 D.nil)) [(D.bool false)]
      else
      (J_story_print_1 x0 x1 x2 x3 x4 (r5.getD 0 D.nil) (r6.getD 0 D.nil) (r7.getD 0 D.nil) (r8.getD 0 D.nil)) [(D.bool false)] := (fixP_eq (t := T_story_print) (by rfl) _).trans (by kernel_rfl)
noncomputable def W_story_Print_2 (x0 x1 x2 : D) (g0 : Eng.Fn) : Eng.Fn := loopF fun g xs => evalP FX B_story_Print_2 ([g0] ++ [g]) ([x0, x1, x2] ++ xs)
theorem W_story_Print_2_eq (x0 x1 x2 : D) (g0 : Eng.Fn) (a0 : D) : W_story_Print_2 x0 x1 x2 g0 [a0] =
  let v0 : D := (((x0).toL).getD ((x1).toInt).toNat D.nil)
  let v1 : D := (D.int (IntKind.i64.wrap ((x1).toInt + (a0).toInt)))
  let v2 : D := (((v0).toL).getD 0 D.nil)
  let v3 : D := (((v0).toL).getD 1 D.nil)
  let v4 : D := (((v0).toL).getD 2 D.nil)
  let v5 : D := (((v0).toL).getD 3 D.nil)
  let v6 : D := (((x0).toL).getD ((v1).toInt).toNat D.nil)
  if (decide ((x1).toInt ≥ (0 : Int))) = true then
  if (decide ((x1).toInt < (((x0).toL).length : Int))) = true then
    if ((v2).toInt == (3 : Int)) = true then
      if (decide ((a0).toInt < (10000 : Int))) = true then
        if (decide ((v1).toInt < (((x0).toL).length : Int))) = true then
          if (decide ((v1).toInt ≥ (0 : Int))) = true then
            if (decide ((v1).toInt < (((x0).toL).length : Int))) = true then
              if (decide ((x1).toInt ≥ (0 : Int))) = true then
                if (decide ((x1).toInt < (((x0).toL).length : Int))) = true then
                  if ((((((v6).toL).getD 0 D.nil)).toInt == (v2).toInt) && ((((((v6).toL).getD 1 D.nil)).toInt == (v3).toInt) && ((((((v6).toL).getD 2 D.nil)).toInt == (v4).toInt) && (scmpF .eql ((((v6).toL).getD 3 D.nil)).toStr (v5).toStr)))) = true then
                    (W_story_Print_2 x0 x1 x2 g0) [(D.int (IntKind.i64.wrap ((a0).toInt + (1 : Int))))]
                    else
                    if (decide ((x1).toInt ≥ (0 : Int))) = true then
                      if (decide ((x1).toInt < (((x0).toL).length : Int))) = true then
                        bindC (FX 26 [v2, v3, v4, v5, a0]) 2 fun r4 =>
                          let v7 : D := (D.agg ((x2).toL ++ ((r4.getD 0 D.nil) :: [])))
                          if (!((r4.getD 1 D.nil)).toBool) = true then
                          bindC (FX 19 [x1, (D.iface 50 (D.int (6 : Int)))]) 1 fun r6 =>
                            some [(D.agg []), (r6.getD 0 D.nil)]
                          else
                          if (decide ((((v7).toL).length : Int) ≤ (8796093022208 : Int))) = true then
                            g0 [v1, v7]
                            else none
                        else none
                      else none
                  else none
                else none
              else none
            else none
          else
          if (decide ((x1).toInt ≥ (0 : Int))) = true then
            if (decide ((x1).toInt < (((x0).toL).length : Int))) = true then
              bindC (FX 26 [v2, v3, v4, v5, a0]) 2 fun r4 =>
                let v8 : D := (D.agg ((x2).toL ++ ((r4.getD 0 D.nil) :: [])))
                if (!((r4.getD 1 D.nil)).toBool) = true then
                bindC (FX 19 [x1, (D.iface 50 (D.int (6 : Int)))]) 1 fun r6 =>
                  some [(D.agg []), (r6.getD 0 D.nil)]
                else
                if (decide ((((v8).toL).length : Int) ≤ (8796093022208 : Int))) = true then
                  g0 [v1, v8]
                  else none
              else none
            else none
        else
        if (decide ((x1).toInt ≥ (0 : Int))) = true then
          if (decide ((x1).toInt < (((x0).toL).length : Int))) = true then
            bindC (FX 26 [v2, v3, v4, v5, a0]) 2 fun r4 =>
              let v9 : D := (D.agg ((x2).toL ++ ((r4.getD 0 D.nil) :: [])))
              if (!((r4.getD 1 D.nil)).toBool) = true then
              bindC (FX 19 [x1, (D.iface 50 (D.int (6 : Int)))]) 1 fun r6 =>
                some [(D.agg []), (r6.getD 0 D.nil)]
              else
              if (decide ((((v9).toL).length : Int) ≤ (8796093022208 : Int))) = true then
                g0 [v1, v9]
                else none
            else none
          else none
      else
      if (decide ((x1).toInt ≥ (0 : Int))) = true then
        if (decide ((x1).toInt < (((x0).toL).length : Int))) = true then
          bindC (FX 26 [v2, v3, v4, v5, a0]) 2 fun r4 =>
            let v10 : D := (D.agg ((x2).toL ++ ((r4.getD 0 D.nil) :: [])))
            if (!((r4.getD 1 D.nil)).toBool) = true then
            bindC (FX 19 [x1, (D.iface 50 (D.int (6 : Int)))]) 1 fun r6 =>
              some [(D.agg []), (r6.getD 0 D.nil)]
            else
            if (decide ((((v10).toL).length : Int) ≤ (8796093022208 : Int))) = true then
              g0 [v1, v10]
              else none
          else none
        else none
    else none
  else none := (loopP_eq FX B_story_Print_2 [g0] [x0, x1, x2] _).trans (by kernel_rfl)
noncomputable def W_story_Print_1 (x0 : D) : Eng.Fn := loopF fun g xs => evalP FX B_story_Print_1 ([] ++ [g]) ([x0] ++ xs)
theorem W_story_Print_1_eq (x0 : D) (a0 a1 : D) : W_story_Print_1 x0 [a0, a1] =
  if (decide ((a0).toInt < (((x0).toL).length : Int))) = true then
  W_story_Print_2 x0 a0 a1 ((W_story_Print_1 x0)) [(D.int (1 : Int))]
  else
  some [a1, D.nil] := (loopP_eq FX B_story_Print_1 [] [x0] _).trans (by kernel_rfl)
theorem E_story_Print (x0 : D) : FX 13 [x0] =
  W_story_Print_1 x0 [(D.int (0 : Int)), (D.agg [])] := (fixP_eq (t := T_story_Print) (by rfl) _).trans (by kernel_rfl)
noncomputable def W_ref26_Line_2 (x0 x1 x2 x3 x4 x5 x6 x7 : D) (g0 : Eng.Fn) : Eng.Fn := loopF fun g xs => evalP FX B_ref26_Line_2 ([g0] ++ [g]) ([x0, x1, x2, x3, x4, x5, x6, x7] ++ xs)
theorem W_ref26_Line_2_eq (x0 x1 x2 x3 x4 x5 x6 x7 : D) (g0 : Eng.Fn) (a0 : D) : W_ref26_Line_2 x0 x1 x2 x3 x4 x5 x6 x7 g0 [a0] =
  let v10 : D := (D.str (((ByteArray.mk #[115, 97, 121, 32])) ++ (x6).toStr))
  let v11 : D := (D.int (((v10).toStr).size : Int))
  let v12 : D := (D.str ((v10).toStr ++ ((ByteArray.mk #[32]))))
  let v13 : D := (D.int (((v12).toStr).size : Int))
  if (decide ((a0).toInt < (((x3).toStr).size : Int))) = true then
  if (decide ((a0).toInt ≥ (0 : Int))) = true then
    if (decide ((a0).toInt < (((x3).toStr).size : Int))) = true then
      if (((((x3).toStr).data.getD ((a0).toInt).toNat 0).toNat : Int) == (10 : Int)) = true then
        some [(D.str ((ByteArray.mk #[]))), (D.bool false)]
        else
        (W_ref26_Line_2 x0 x1 x2 x3 x4 x5 x6 x7 g0) [(D.int (IntKind.i64.wrap ((a0).toInt + (1 : Int))))]
      else none
    else none
  else
  if (decide ((IntKind.i64.wrap (((((ByteArray.mk #[115, 97, 121, 32]))).size : Int) + (((x6).toStr).size : Int))) ≤ (4611686018427387903 : Int))) = true then
    if (decide (((((ByteArray.mk #[115, 97, 121, 32]))).size : Int) ≤ (4611686018427387903 : Int))) = true then
      if (decide ((((x6).toStr).size : Int) ≤ (4611686018427387903 : Int))) = true then
        if (decide ((IntKind.i64.wrap ((v11).toInt + ((((ByteArray.mk #[32]))).size : Int))) ≤ (4611686018427387903 : Int))) = true then
          if (decide ((v11).toInt ≤ (4611686018427387903 : Int))) = true then
            if (decide (((((ByteArray.mk #[32]))).size : Int) ≤ (4611686018427387903 : Int))) = true then
              if (decide ((IntKind.i64.wrap ((v13).toInt + (((x3).toStr).size : Int))) ≤ (4611686018427387903 : Int))) = true then
                if (decide ((v13).toInt ≤ (4611686018427387903 : Int))) = true then
                  if (decide ((((x3).toStr).size : Int) ≤ (4611686018427387903 : Int))) = true then
                    some [(D.str ((v12).toStr ++ (x3).toStr)), (D.bool ((x2).toInt == (0 : Int)))]
                    else none
                  else none
                else none
              else none
            else none
          else none
        else none
      else none
    else none := (loopP_eq FX B_ref26_Line_2 [g0] [x0, x1, x2, x3, x4, x5, x6, x7] _).trans (by kernel_rfl)
noncomputable def W_ref26_Line_1 (x0 x1 x2 x3 x4 : D) : Eng.Fn := loopF fun g xs => evalP FX B_ref26_Line_1 ([] ++ [g]) ([x0, x1, x2, x3, x4] ++ xs)
theorem W_ref26_Line_1_eq (x0 x1 x2 x3 x4 : D) (a0 : D) : W_ref26_Line_1 x0 x1 x2 x3 x4 [a0] =
  let v0 : D := (D.agg (x1 :: (x2 :: [])))
  let v1 : D := (((v0).toL).getD ((a0).toInt).toNat D.nil)
  if (decide ((a0).toInt < (((v0).toL).length : Int))) = true then
  if (decide ((a0).toInt ≥ (0 : Int))) = true then
    if (decide ((a0).toInt < (((v0).toL).length : Int))) = true then
      if (decide ((v1).toInt < (-9999999 : Int))) = true then
        some [(D.str ((ByteArray.mk #[]))), (D.bool false)]
        else
        if (decide ((v1).toInt > (9999999 : Int))) = true then
          some [(D.str ((ByteArray.mk #[]))), (D.bool false)]
          else
          (W_ref26_Line_1 x0 x1 x2 x3 x4) [(D.int (IntKind.i64.wrap ((a0).toInt + (1 : Int))))]
      else none
    else none
  else
  bindC (FX 12 [x1]) 1 fun r6 =>
    let v2 : D := (D.str (((ByteArray.mk #[112, 105, 99, 107, 32])) ++ ((r6.getD 0 D.nil)).toStr))
    let v3 : D := (D.str (((ByteArray.mk #[100, 114, 97, 119, 32])) ++ ((r6.getD 0 D.nil)).toStr))
    let v4 : D := (D.int (((v2).toStr).size : Int))
    let v5 : D := (D.int (((v3).toStr).size : Int))
    let v6 : D := (D.str ((v2).toStr ++ ((ByteArray.mk #[32]))))
    let v7 : D := (D.str ((v3).toStr ++ ((ByteArray.mk #[32]))))
    let v8 : D := (D.int (((v6).toStr).size : Int))
    let v9 : D := (D.int (((v7).toStr).size : Int))
    bindC (FX 12 [x2]) 1 fun r7 =>
    if ((x0).toInt == (1 : Int)) = true then
    W_ref26_Line_2 x0 x1 x2 x3 x4 a0 (r6.getD 0 D.nil) (r7.getD 0 D.nil) ((W_ref26_Line_1 x0 x1 x2 x3 x4)) [(D.int (0 : Int))]
    else
    if (scmpF .neq (x3).toStr ((ByteArray.mk #[]))) = true then
      some [(D.str ((ByteArray.mk #[]))), (D.bool false)]
      else
      if ((x0).toInt == (2 : Int)) = true then
        if (decide ((IntKind.i64.wrap (((((ByteArray.mk #[116, 105, 99, 107, 32]))).size : Int) + ((((r7.getD 0 D.nil)).toStr).size : Int))) ≤ (4611686018427387903 : Int))) = true then
          if (decide (((((ByteArray.mk #[116, 105, 99, 107, 32]))).size : Int) ≤ (4611686018427387903 : Int))) = true then
            if (decide (((((r7.getD 0 D.nil)).toStr).size : Int) ≤ (4611686018427387903 : Int))) = true then
              some [(D.str (((ByteArray.mk #[116, 105, 99, 107, 32])) ++ ((r7.getD 0 D.nil)).toStr)), (D.bool ((x1).toInt == (0 : Int)))]
              else none
            else none
          else none
        else
        if ((x0).toInt == (3 : Int)) = true then
          if (decide ((x4).toInt > (1 : Int))) = true then
            if (decide ((IntKind.i64.wrap (((((ByteArray.mk #[112, 105, 99, 107, 32]))).size : Int) + ((((r6.getD 0 D.nil)).toStr).size : Int))) ≤ (4611686018427387903 : Int))) = true then
              if (decide (((((ByteArray.mk #[112, 105, 99, 107, 32]))).size : Int) ≤ (4611686018427387903 : Int))) = true then
                if (decide (((((r6.getD 0 D.nil)).toStr).size : Int) ≤ (4611686018427387903 : Int))) = true then
                  if (decide ((IntKind.i64.wrap ((v4).toInt + ((((ByteArray.mk #[32]))).size : Int))) ≤ (4611686018427387903 : Int))) = true then
                    if (decide ((v4).toInt ≤ (4611686018427387903 : Int))) = true then
                      if (decide (((((ByteArray.mk #[32]))).size : Int) ≤ (4611686018427387903 : Int))) = true then
                        bindC (FX 12 [x4]) 1 fun r8 =>
                          if (decide ((IntKind.i64.wrap ((v8).toInt + ((((r8.getD 0 D.nil)).toStr).size : Int))) ≤ (4611686018427387903 : Int))) = true then
                          if (decide ((v8).toInt ≤ (4611686018427387903 : Int))) = true then
                            if (decide (((((r8.getD 0 D.nil)).toStr).size : Int) ≤ (4611686018427387903 : Int))) = true then
                              some [(D.str ((v6).toStr ++ ((r8.getD 0 D.nil)).toStr)), (D.bool ((x2).toInt == (0 : Int)))]
                              else none
                            else none
                          else none
                        else none
                      else none
                    else none
                  else none
                else none
              else none
            else
            if (decide ((IntKind.i64.wrap (((((ByteArray.mk #[112, 105, 99, 107, 32]))).size : Int) + ((((r6.getD 0 D.nil)).toStr).size : Int))) ≤ (4611686018427387903 : Int))) = true then
              if (decide (((((ByteArray.mk #[112, 105, 99, 107, 32]))).size : Int) ≤ (4611686018427387903 : Int))) = true then
                if (decide (((((r6.getD 0 D.nil)).toStr).size : Int) ≤ (4611686018427387903 : Int))) = true then
                  some [v2, (D.bool ((x2).toInt == (0 : Int)))]
                  else none
                else none
              else none
          else
          if ((x0).toInt == (4 : Int)) = true then
            if (decide ((IntKind.i64.wrap (((((ByteArray.mk #[100, 114, 97, 119, 32]))).size : Int) + ((((r6.getD 0 D.nil)).toStr).size : Int))) ≤ (4611686018427387903 : Int))) = true then
              if (decide (((((ByteArray.mk #[100, 114, 97, 119, 32]))).size : Int) ≤ (4611686018427387903 : Int))) = true then
                if (decide (((((r6.getD 0 D.nil)).toStr).size : Int) ≤ (4611686018427387903 : Int))) = true then
                  if (decide ((IntKind.i64.wrap ((v5).toInt + ((((ByteArray.mk #[32]))).size : Int))) ≤ (4611686018427387903 : Int))) = true then
                    if (decide ((v5).toInt ≤ (4611686018427387903 : Int))) = true then
                      if (decide (((((ByteArray.mk #[32]))).size : Int) ≤ (4611686018427387903 : Int))) = true then
                        if (decide ((IntKind.i64.wrap ((v9).toInt + ((((r7.getD 0 D.nil)).toStr).size : Int))) ≤ (4611686018427387903 : Int))) = true then
                          if (decide ((v9).toInt ≤ (4611686018427387903 : Int))) = true then
                            if (decide (((((r7.getD 0 D.nil)).toStr).size : Int) ≤ (4611686018427387903 : Int))) = true then
                              some [(D.str ((v7).toStr ++ ((r7.getD 0 D.nil)).toStr)), (D.bool true)]
                              else none
                            else none
                          else none
                        else none
                      else none
                    else none
                  else none
                else none
              else none
            else
            some [(D.str ((ByteArray.mk #[]))), (D.bool false)] := (loopP_eq FX B_ref26_Line_1 [] [x0, x1, x2, x3, x4] _).trans (by kernel_rfl)
theorem E_ref26_Line (x0 x1 x2 x3 x4 : D) : FX 27 [x0, x1, x2, x3, x4] =
  W_ref26_Line_1 x0 x1 x2 x3 x4 [(D.int (0 : Int))] := (fixP_eq (t := T_ref26_Line) (by rfl) _).trans (by kernel_rfl)
noncomputable def W_ref26_Print_2 (x0 x1 x2 : D) (g0 : Eng.Fn) : Eng.Fn := loopF fun g xs => evalP FX B_ref26_Print_2 ([g0] ++ [g]) ([x0, x1, x2] ++ xs)
theorem W_ref26_Print_2_eq (x0 x1 x2 : D) (g0 : Eng.Fn) (a0 : D) : W_ref26_Print_2 x0 x1 x2 g0 [a0] =
  let v0 : D := (((x0).toL).getD ((x1).toInt).toNat D.nil)
  let v1 : D := (D.int (IntKind.i64.wrap ((x1).toInt + (a0).toInt)))
  let v2 : D := (((v0).toL).getD 0 D.nil)
  let v3 : D := (((v0).toL).getD 1 D.nil)
  let v4 : D := (((v0).toL).getD 2 D.nil)
  let v5 : D := (((v0).toL).getD 3 D.nil)
  let v6 : D := (((x0).toL).getD ((v1).toInt).toNat D.nil)
  if (decide ((x1).toInt ≥ (0 : Int))) = true then
  if (decide ((x1).toInt < (((x0).toL).length : Int))) = true then
    if ((v2).toInt == (3 : Int)) = true then
      if (decide ((v1).toInt < (((x0).toL).length : Int))) = true then
        if (decide ((a0).toInt < (10000 : Int))) = true then
          if (decide ((v1).toInt ≥ (0 : Int))) = true then
            if (decide ((v1).toInt < (((x0).toL).length : Int))) = true then
              if (decide ((x1).toInt ≥ (0 : Int))) = true then
                if (decide ((x1).toInt < (((x0).toL).length : Int))) = true then
                  if ((((((v6).toL).getD 0 D.nil)).toInt == (v2).toInt) && ((((((v6).toL).getD 1 D.nil)).toInt == (v3).toInt) && ((((((v6).toL).getD 2 D.nil)).toInt == (v4).toInt) && (scmpF .eql ((((v6).toL).getD 3 D.nil)).toStr (v5).toStr)))) = true then
                    (W_ref26_Print_2 x0 x1 x2 g0) [(D.int (IntKind.i64.wrap ((a0).toInt + (1 : Int))))]
                    else
                    if (decide ((x1).toInt ≥ (0 : Int))) = true then
                      if (decide ((x1).toInt < (((x0).toL).length : Int))) = true then
                        bindC (FX 27 [v2, v3, v4, v5, a0]) 2 fun r4 =>
                          let v7 : D := (D.agg ((x2).toL ++ ((r4.getD 0 D.nil) :: [])))
                          if (!((r4.getD 1 D.nil)).toBool) = true then
                          some [(D.agg []), x1]
                          else
                          if (decide ((((v7).toL).length : Int) ≤ (8796093022208 : Int))) = true then
                            g0 [v1, v7]
                            else none
                        else none
                      else none
                  else none
                else none
              else none
            else none
          else
          if (decide ((x1).toInt ≥ (0 : Int))) = true then
            if (decide ((x1).toInt < (((x0).toL).length : Int))) = true then
              bindC (FX 27 [v2, v3, v4, v5, a0]) 2 fun r4 =>
                let v8 : D := (D.agg ((x2).toL ++ ((r4.getD 0 D.nil) :: [])))
                if (!((r4.getD 1 D.nil)).toBool) = true then
                some [(D.agg []), x1]
                else
                if (decide ((((v8).toL).length : Int) ≤ (8796093022208 : Int))) = true then
                  g0 [v1, v8]
                  else none
              else none
            else none
        else
        if (decide ((x1).toInt ≥ (0 : Int))) = true then
          if (decide ((x1).toInt < (((x0).toL).length : Int))) = true then
            bindC (FX 27 [v2, v3, v4, v5, a0]) 2 fun r4 =>
              let v9 : D := (D.agg ((x2).toL ++ ((r4.getD 0 D.nil) :: [])))
              if (!((r4.getD 1 D.nil)).toBool) = true then
              some [(D.agg []), x1]
              else
              if (decide ((((v9).toL).length : Int) ≤ (8796093022208 : Int))) = true then
                g0 [v1, v9]
                else none
            else none
          else none
      else
      if (decide ((x1).toInt ≥ (0 : Int))) = true then
        if (decide ((x1).toInt < (((x0).toL).length : Int))) = true then
          bindC (FX 27 [v2, v3, v4, v5, a0]) 2 fun r4 =>
            let v10 : D := (D.agg ((x2).toL ++ ((r4.getD 0 D.nil) :: [])))
            if (!((r4.getD 1 D.nil)).toBool) = true then
            some [(D.agg []), x1]
            else
            if (decide ((((v10).toL).length : Int) ≤ (8796093022208 : Int))) = true then
              g0 [v1, v10]
              else none
          else none
        else none
    else none
  else none := (loopP_eq FX B_ref26_Print_2 [g0] [x0, x1, x2] _).trans (by kernel_rfl)
noncomputable def W_ref26_Print_1 (x0 : D) : Eng.Fn := loopF fun g xs => evalP FX B_ref26_Print_1 ([] ++ [g]) ([x0] ++ xs)
theorem W_ref26_Print_1_eq (x0 : D) (a0 a1 : D) : W_ref26_Print_1 x0 [a0, a1] =
  if (decide ((a0).toInt < (((x0).toL).length : Int))) = true then
  W_ref26_Print_2 x0 a0 a1 ((W_ref26_Print_1 x0)) [(D.int (1 : Int))]
  else
  some [a1, (D.int (-1 : Int))] := (loopP_eq FX B_ref26_Print_1 [] [x0] _).trans (by kernel_rfl)
theorem E_ref26_Print (x0 : D) : FX 14 [x0] =
  W_ref26_Print_1 x0 [(D.int (0 : Int)), (D.agg [])] := (fixP_eq (t := T_ref26_Print) (by rfl) _).trans (by kernel_rfl)
noncomputable def W_law26_StoryPrints_3 (x0 x1 x2 x3 x4 x5 x6 x7 x8 x9 x10 : D) (g0 g1 : Eng.Fn) : Eng.Fn := loopF fun g xs => evalP FX B_law26_StoryPrints_3 ([g0, g1] ++ [g]) ([x0, x1, x2, x3, x4, x5, x6, x7, x8, x9, x10] ++ xs)
theorem W_law26_StoryPrints_3_eq (x0 x1 x2 x3 x4 x5 x6 x7 x8 x9 x10 : D) (g0 g1 : Eng.Fn) (a0 : D) : W_law26_StoryPrints_3 x0 x1 x2 x3 x4 x5 x6 x7 x8 x9 x10 g0 g1 [a0] =
  let v4 : D := (((x9).toL).getD ((a0).toInt).toNat D.nil)
  let v5 : D := (((x3).toL).getD ((a0).toInt).toNat D.nil)
  if (decide ((a0).toInt < (((x9).toL).length : Int))) = true then
  if (decide ((a0).toInt ≥ (0 : Int))) = true then
    if (decide ((a0).toInt < (((x9).toL).length : Int))) = true then
      if (decide ((a0).toInt ≥ (0 : Int))) = true then
        if (decide ((a0).toInt < (((x3).toL).length : Int))) = true then
          if (!((((((v4).toL).getD 0 D.nil)).toInt == ((((v5).toL).getD 0 D.nil)).toInt) && ((((((v4).toL).getD 1 D.nil)).toInt == ((((v5).toL).getD 1 D.nil)).toInt) && ((((((v4).toL).getD 2 D.nil)).toInt == ((((v5).toL).getD 2 D.nil)).toInt) && (scmpF .eql ((((v4).toL).getD 3 D.nil)).toStr ((((v5).toL).getD 3 D.nil)).toStr))))) = true then
            some [(D.bool false)]
            else
            (W_law26_StoryPrints_3 x0 x1 x2 x3 x4 x5 x6 x7 x8 x9 x10 g0 g1) [(D.int (IntKind.i64.wrap ((a0).toInt + (1 : Int))))]
          else none
        else none
      else none
    else none
  else
  bindC (FX 6 []) 1 fun r12 =>
    some [(r12.getD 0 D.nil)] := (loopP_eq FX B_law26_StoryPrints_3 [g0, g1] [x0, x1, x2, x3, x4, x5, x6, x7, x8, x9, x10] _).trans (by kernel_rfl)
noncomputable def W_law26_StoryPrints_2 (x0 x1 x2 x3 x4 x5 x6 x7 : D) (g0 : Eng.Fn) : Eng.Fn := loopF fun g xs => evalP FX B_law26_StoryPrints_2 ([g0] ++ [g]) ([x0, x1, x2, x3, x4, x5, x6, x7] ++ xs)
theorem W_law26_StoryPrints_2_eq (x0 x1 x2 x3 x4 x5 x6 x7 : D) (g0 : Eng.Fn) (a0 : D) : W_law26_StoryPrints_2 x0 x1 x2 x3 x4 x5 x6 x7 g0 [a0] =
  if (decide ((a0).toInt < (((x6).toL).length : Int))) = true then
  if (decide ((a0).toInt ≥ (0 : Int))) = true then
    if (decide ((a0).toInt < (((x4).toL).length : Int))) = true then
      if (decide ((a0).toInt ≥ (0 : Int))) = true then
        if (decide ((a0).toInt < (((x6).toL).length : Int))) = true then
          if (scmpF .neq ((((x4).toL).getD ((a0).toInt).toNat D.nil)).toStr ((((x6).toL).getD ((a0).toInt).toNat D.nil)).toStr) = true then
            some [(D.bool false)]
            else
            (W_law26_StoryPrints_2 x0 x1 x2 x3 x4 x5 x6 x7 g0) [(D.int (IntKind.i64.wrap ((a0).toInt + (1 : Int))))]
          else none
        else none
      else none
    else none
  else
  bindC (FX 7 [x4]) 2 fun r9 =>
    if (!((r9.getD 1 D.nil)).isNil) = true then
    some [(D.bool false)]
    else
    if (((((r9.getD 0 D.nil)).toL).length : Int) != (((x3).toL).length : Int)) = true then
      some [(D.bool false)]
      else
      W_law26_StoryPrints_3 x0 x1 x2 x3 x4 x5 x6 x7 a0 (r9.getD 0 D.nil) (r9.getD 1 D.nil) g0 ((W_law26_StoryPrints_2 x0 x1 x2 x3 x4 x5 x6 x7 g0)) [(D.int (0 : Int))] := (loopP_eq FX B_law26_StoryPrints_2 [g0] [x0, x1, x2, x3, x4, x5, x6, x7] _).trans (by kernel_rfl)
noncomputable def W_law26_StoryPrints_1 (x0 : D) : Eng.Fn := loopF fun g xs => evalP FX B_law26_StoryPrints_1 ([] ++ [g]) ([x0] ++ xs)
theorem W_law26_StoryPrints_1_eq (x0 : D) (a0 a1 a2 : D) : W_law26_StoryPrints_1 x0 [a0, a1, a2] =
  let v0 : D := (((x0).toL).getD ((a1).toInt).toNat D.nil)
  let v1 : D := (((v0).toL).getD 3 D.nil)
  let v2 : D := (D.int (IntKind.i64.wrap ((a0).toInt + (IntKind.i64.wrap ((((v1).toStr).size : Int) + (1 : Int))))))
  let v3 : D := (D.agg ((a2).toL ++ ((D.agg ((((v0).toL).getD 0 D.nil) :: ((((v0).toL).getD 1 D.nil) :: ((((v0).toL).getD 2 D.nil) :: (v1 :: []))))) :: [])))
  if (decide ((a1).toInt < (((x0).toL).length : Int))) = true then
  if (decide ((a1).toInt ≥ (0 : Int))) = true then
    if (decide ((a1).toInt < (((x0).toL).length : Int))) = true then
      if (decide ((v2).toInt > (5000 : Int))) = true then
        bindC (FX 6 []) 1 fun r4 =>
          some [(r4.getD 0 D.nil)]
        else
        if (decide ((((v3).toL).length : Int) ≤ (3518437208883 : Int))) = true then
          (W_law26_StoryPrints_1 x0) [v2, (D.int (IntKind.i64.wrap ((a1).toInt + (1 : Int)))), v3]
          else none
      else none
    else none
  else
  bindC (FX 13 [a2]) 2 fun r4 =>
    bindC (FX 14 [x0]) 2 fun r6 =>
    if (decide (((r6.getD 1 D.nil)).toInt ≥ (0 : Int))) = true then
    bindC (FX 9 [(r4.getD 1 D.nil), (D.agg [])]) 3 fun r8 =>
      bindC (FX 6 []) 1 fun r11 =>
      if ((r11.getD 0 D.nil)).toBool = true then
      if (((((r4.getD 0 D.nil)).toL).length : Int) == (0 : Int)) = true then
        bindC (FX 11 [(r4.getD 1 D.nil)]) 1 fun r12 =>
          if (((r12.getD 0 D.nil)).toInt == (6 : Int)) = true then
          if ((r8.getD 1 D.nil)).toBool = true then
            some [(D.bool (((r8.getD 0 D.nil)).toInt == ((r6.getD 1 D.nil)).toInt))]
            else
            some [(D.bool false)]
          else
          some [(D.bool false)]
        else
        some [(D.bool false)]
      else
      some [(D.bool false)]
    else
    if (!((r4.getD 1 D.nil)).isNil) = true then
      some [(D.bool false)]
      else
      if (((((r4.getD 0 D.nil)).toL).length : Int) != ((((r6.getD 0 D.nil)).toL).length : Int)) = true then
        some [(D.bool false)]
        else
        W_law26_StoryPrints_2 x0 a0 a1 a2 (r4.getD 0 D.nil) (r4.getD 1 D.nil) (r6.getD 0 D.nil) (r6.getD 1 D.nil) ((W_law26_StoryPrints_1 x0)) [(D.int (0 : Int))] := (loopP_eq FX B_law26_StoryPrints_1 [] [x0] _).trans (by kernel_rfl)
theorem E_law26_StoryPrints (x0 : D) : FX 4 [x0] =
  W_law26_StoryPrints_1 x0 [(D.int (0 : Int)), (D.int (0 : Int)), (D.agg [])] := (fixP_eq (t := T_law26_StoryPrints) (by rfl) _).trans (by kernel_rfl)
end Go.Proofs.YtnaemggpelolcaaGreatDoor
