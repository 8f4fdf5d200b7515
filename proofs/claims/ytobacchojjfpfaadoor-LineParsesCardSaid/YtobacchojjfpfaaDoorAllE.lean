/-
  The functions, as equations.
-/
import Derived.Test.YtobacchojjfpfaaDoorAll
namespace Go.Proofs.YtobacchojjfpfaaDoor
open Go.Proofs.YtobacchojjfpfaaDoor.Eng
set_option linter.unusedVariables false
set_option maxRecDepth 20000
theorem E_fault_At (x0 x1 : D) : FX 14 [x0, x1] =
  if (x1).isNil = true then
  some [D.nil]
  else
  some [(D.iface 64 (D.agg (x0 :: (x1 :: []))))] := (fixP_eq (t := T_fault_At) (by rfl) _).trans (by kernel_rfl)
noncomputable def W_line_bytes_1 (x0 : D) : Eng.Fn := loopF fun g xs => evalP FX B_line_bytes_1 ([] ++ [g]) ([x0] ++ xs)
theorem W_line_bytes_1_eq (x0 : D) (a0 : D) : W_line_bytes_1 x0 [a0] =
  let v0 : D := (D.int ((((x0).toStr).data.getD ((a0).toInt).toNat 0).toNat : Int))
  if (decide ((a0).toInt < (((x0).toStr).size : Int))) = true then
  if (decide ((a0).toInt ≥ (0 : Int))) = true then
    if (decide ((a0).toInt < (((x0).toStr).size : Int))) = true then
      if (decide ((v0).toInt < (32 : Int))) = true then
        some [a0]
        else
        if (decide ((a0).toInt ≥ (0 : Int))) = true then
          if (decide ((a0).toInt < (((x0).toStr).size : Int))) = true then
            if (decide ((v0).toInt > (126 : Int))) = true then
              some [a0]
              else
              (W_line_bytes_1 x0) [(D.int (IntKind.i64.wrap ((a0).toInt + (1 : Int))))]
            else none
          else none
      else none
    else none
  else
  some [(D.int (-1 : Int))] := (loopP_eq FX B_line_bytes_1 [] [x0] _).trans (by kernel_rfl)
theorem E_line_bytes (x0 : D) : FX 15 [x0] =
  W_line_bytes_1 x0 [(D.int (0 : Int))] := (fixP_eq (t := T_line_bytes) (by rfl) _).trans (by kernel_rfl)
noncomputable def W_fault_First_1 (x0 : D) : Eng.Fn := loopF fun g xs => evalP FX B_fault_First_1 ([] ++ [g]) ([x0] ++ xs)
theorem W_fault_First_1_eq (x0 : D) (a0 : D) : W_fault_First_1 x0 [a0] =
  let v0 : D := (((x0).toL).getD ((a0).toInt).toNat D.nil)
  if (decide ((a0).toInt < (((x0).toL).length : Int))) = true then
  if (decide ((a0).toInt ≥ (0 : Int))) = true then
    if (decide ((a0).toInt < (((x0).toL).length : Int))) = true then
      if (!(v0).isNil) = true then
        some [v0]
        else
        (W_fault_First_1 x0) [(D.int (IntKind.i64.wrap ((a0).toInt + (1 : Int))))]
      else none
    else none
  else
  some [D.nil] := (loopP_eq FX B_fault_First_1 [] [x0] _).trans (by kernel_rfl)
theorem E_fault_First (x0 : D) : FX 29 [x0] =
  W_fault_First_1 x0 [(D.int (0 : Int))] := (fixP_eq (t := T_fault_First) (by rfl) _).trans (by kernel_rfl)
theorem E_p_line_reader_fail (x0 x1 x2 x3 : D) : FX 20 [x0, x1, x2, x3] =
  let v0 : D := (((x3).toL).getD ((x0).toInt).toNat D.nil)
  if (!(x0).isNil) = true then
  bindC (FX 14 [x1, (D.iface 42 x2)]) 1 fun r4 =>
    bindC (FX 29 [(D.agg ((((v0).toL).getD 4 D.nil) :: ((r4.getD 0 D.nil) :: [])))]) 1 fun r5 =>
    if (!(x0).isNil) = true then
    some [(D.agg (((x3).toL).set ((x0).toInt).toNat (D.agg (((List.range 5).map fun j => ((v0).toL).getD j D.nil).set 4 (r5.getD 0 D.nil)))))]
    else none
  else none := (fixP_eq (t := T_p_line_reader_fail) (by rfl) _).trans (by kernel_rfl)
theorem E_p_line_reader_next (x0 x1 : D) : FX 17 [x0, x1] =
  let v0 : D := (((x1).toL).getD ((x0).toInt).toNat D.nil)
  let v1 : D := (((v0).toL).getD 1 D.nil)
  let v2 : D := (((v0).toL).getD 0 D.nil)
  let v3 : D := (((v0).toL).getD 2 D.nil)
  let v4 : D := (D.int (((v2).toL).length : Int))
  let v5 : D := (((v2).toL).getD ((v1).toInt).toNat D.nil)
  if (!(x0).isNil) = true then
  if (!(x0).isNil) = true then
    if ((v1).toInt == (v4).toInt) = true then
      if (!(x0).isNil) = true then
        bindC (FX 20 [x0, (((v0).toL).getD 3 D.nil), (D.int (11 : Int)), x1]) 1 fun r2 =>
          if (!(x0).isNil) = true then
          some [(D.str ((ByteArray.mk #[]))), (((((((r2.getD 0 D.nil)).toL).getD ((x0).toInt).toNat D.nil)).toL).getD 3 D.nil), (r2.getD 0 D.nil)]
          else none
        else none
      else
      if (!(x0).isNil) = true then
        if (!(x0).isNil) = true then
          if (decide ((v1).toInt ≥ (0 : Int))) = true then
            if (decide ((v1).toInt < (v4).toInt)) = true then
              if (!(x0).isNil) = true then
                if (!(x0).isNil) = true then
                  if (!(x0).isNil) = true then
                    if (!(x0).isNil) = true then
                      if (!(x0).isNil) = true then
                        some [v5, v3, (D.agg (((x1).toL).set ((x0).toInt).toNat (D.agg (((List.range 5).map fun j => ((((List.range 5).map fun j => ((v0).toL).getD j D.nil).set 1 (D.int (IntKind.i64.wrap ((v1).toInt + (1 : Int)))))).getD j D.nil).set 2 (D.int (IntKind.i64.wrap ((v3).toInt + (IntKind.i64.wrap ((((v5).toStr).size : Int) + (1 : Int))))))))))]
                        else none
                      else none
                    else none
                  else none
                else none
              else none
            else none
          else none
        else none
    else none
  else none := (fixP_eq (t := T_p_line_reader_next) (by rfl) _).trans (by kernel_rfl)
noncomputable def W_line_Digits_1 (x0 : D) : Eng.Fn := loopF fun g xs => evalP FX B_line_Digits_1 ([] ++ [g]) ([x0] ++ xs)
theorem W_line_Digits_1_eq (x0 : D) (a0 : D) : W_line_Digits_1 x0 [a0] =
  let v0 : D := (D.int ((((x0).toStr).data.getD ((a0).toInt).toNat 0).toNat : Int))
  if (decide ((a0).toInt < (((x0).toStr).size : Int))) = true then
  if (decide ((a0).toInt ≥ (0 : Int))) = true then
    if (decide ((a0).toInt < (((x0).toStr).size : Int))) = true then
      if (decide ((v0).toInt < (48 : Int))) = true then
        some [(D.bool false)]
        else
        if (decide ((a0).toInt ≥ (0 : Int))) = true then
          if (decide ((a0).toInt < (((x0).toStr).size : Int))) = true then
            if (decide ((v0).toInt > (57 : Int))) = true then
              some [(D.bool false)]
              else
              (W_line_Digits_1 x0) [(D.int (IntKind.i64.wrap ((a0).toInt + (1 : Int))))]
            else none
          else none
      else none
    else none
  else
  some [(D.bool true)] := (loopP_eq FX B_line_Digits_1 [] [x0] _).trans (by kernel_rfl)
noncomputable def W_line_Digits_2 (x0 : D) : Eng.Fn := loopF fun g xs => evalP FX B_line_Digits_2 ([] ++ [g]) ([x0] ++ xs)
theorem W_line_Digits_2_eq (x0 : D) (a0 : D) : W_line_Digits_2 x0 [a0] =
  let v1 : D := (D.int ((((x0).toStr).data.getD ((a0).toInt).toNat 0).toNat : Int))
  if (decide ((a0).toInt < (((x0).toStr).size : Int))) = true then
  if (decide ((a0).toInt ≥ (0 : Int))) = true then
    if (decide ((a0).toInt < (((x0).toStr).size : Int))) = true then
      if (decide ((v1).toInt < (48 : Int))) = true then
        some [(D.bool false)]
        else
        if (decide ((a0).toInt ≥ (0 : Int))) = true then
          if (decide ((a0).toInt < (((x0).toStr).size : Int))) = true then
            if (decide ((v1).toInt > (57 : Int))) = true then
              some [(D.bool false)]
              else
              (W_line_Digits_2 x0) [(D.int (IntKind.i64.wrap ((a0).toInt + (1 : Int))))]
            else none
          else none
      else none
    else none
  else
  some [(D.bool true)] := (loopP_eq FX B_line_Digits_2 [] [x0] _).trans (by kernel_rfl)
theorem E_line_Digits (x0 : D) : FX 12 [x0] =
  if (scmpF .eql (x0).toStr ((ByteArray.mk #[]))) = true then
  some [(D.bool false)]
  else
  if (decide ((((x0).toStr).size : Int) > (7 : Int))) = true then
    some [(D.bool false)]
    else
    if (decide ((0 : Int) < (((x0).toStr).size : Int))) = true then
      if (((((x0).toStr).data.getD ((0 : Int)).toNat 0).toNat : Int) == (48 : Int)) = true then
        if (scmpF .neq (x0).toStr ((ByteArray.mk #[48]))) = true then
          some [(D.bool false)]
          else
          W_line_Digits_1 x0 [(D.int (0 : Int))]
        else
        W_line_Digits_2 x0 [(D.int (0 : Int))]
      else none := (fixP_eq (t := T_line_Digits) (by rfl) _).trans (by kernel_rfl)
theorem E_p_line_reader_num (x0 x1 : D) : FX 18 [x0, x1] =
  bindC (FX 17 [x0, x1]) 3 fun r2 =>
  bindC (FX 12 [(r2.getD 0 D.nil)]) 1 fun r5 =>
  if (!((r5.getD 0 D.nil)).toBool) = true then
  bindC (FX 20 [x0, (r2.getD 1 D.nil), (D.int (13 : Int)), (r2.getD 2 D.nil)]) 1 fun r6 =>
    some [(D.int (0 : Int)), (r6.getD 0 D.nil)]
  else
  bindC (FX 27 [(r2.getD 0 D.nil)]) 2 fun r6 =>
    some [(r6.getD 0 D.nil), (r2.getD 2 D.nil)] := (fixP_eq (t := T_p_line_reader_num) (by rfl) _).trans (by kernel_rfl)
theorem E_terms_Name (x0 : D) : FX 28 [x0] =
  if ((x0).toInt == (0 : Int)) = true then
  some [(D.str ((ByteArray.mk #[98, 117, 121])))]
  else
  if ((x0).toInt == (1 : Int)) = true then
    some [(D.str ((ByteArray.mk #[115, 101, 108, 108])))]
    else
    some [(D.str ((ByteArray.mk #[63])))] := (fixP_eq (t := T_terms_Name) (by rfl) _).trans (by kernel_rfl)
theorem E_p_line_reader_side (x0 x1 : D) : FX 19 [x0, x1] =
  bindC (FX 17 [x0, x1]) 3 fun r2 =>
  bindC (FX 28 [(D.int (0 : Int))]) 1 fun r5 =>
  if (scmpF .eql ((r2.getD 0 D.nil)).toStr ((r5.getD 0 D.nil)).toStr) = true then
  some [(D.int (0 : Int)), (r2.getD 2 D.nil)]
  else
  bindC (FX 28 [(D.int (1 : Int))]) 1 fun r6 =>
    if (scmpF .eql ((r2.getD 0 D.nil)).toStr ((r6.getD 0 D.nil)).toStr) = true then
    some [(D.int (1 : Int)), (r2.getD 2 D.nil)]
    else
    bindC (FX 20 [x0, (r2.getD 1 D.nil), (D.int (10 : Int)), (r2.getD 2 D.nil)]) 1 fun r7 =>
      some [(D.int (0 : Int)), (r7.getD 0 D.nil)] := (fixP_eq (t := T_p_line_reader_side) (by rfl) _).trans (by kernel_rfl)
theorem E_line_Parse (x0 x1 : D) : FX 6 [x0, x1] =
  let v0 : D := (D.agg ((D.str ((ByteArray.mk #[]))) :: ((D.str ((ByteArray.mk #[115, 117, 98, 109, 105, 116]))) :: ((D.str ((ByteArray.mk #[99, 97, 110, 99, 101, 108]))) :: ((D.str ((ByteArray.mk #[112, 111, 108, 108]))) :: ((D.str ((ByteArray.mk #[118, 105, 101, 119]))) :: []))))))
  let v1 : D := (D.int (((v0).toL).length : Int))
  if (decide ((((x0).toStr).size : Int) > (200 : Int))) = true then
  bindC (FX 14 [(D.int (200 : Int)), (D.iface 42 (D.int (14 : Int)))]) 1 fun r2 =>
    some [(D.int (0 : Int)), (D.int (0 : Int)), (D.int (0 : Int)), (D.int (0 : Int)), (D.int (0 : Int)), (D.int (0 : Int)), (D.int (0 : Int)), (D.int (0 : Int)), (D.int (0 : Int)), (r2.getD 0 D.nil), x1]
  else
  bindC (FX 15 [x0]) 1 fun r2 =>
    if (decide (((r2.getD 0 D.nil)).toInt ≥ (0 : Int))) = true then
    bindC (FX 14 [(r2.getD 0 D.nil), (D.iface 42 (D.int (15 : Int)))]) 1 fun r3 =>
      some [(D.int (0 : Int)), (D.int (0 : Int)), (D.int (0 : Int)), (D.int (0 : Int)), (D.int (0 : Int)), (D.int (0 : Int)), (D.int (0 : Int)), (D.int (0 : Int)), (D.int (0 : Int)), (r3.getD 0 D.nil), x1]
    else
    bindC (FX 16 [x0, (D.str ((ByteArray.mk #[32])))]) 1 fun r3 =>
      bindC (FX 17 [(D.int (((x1).toL).length : Int)), (D.agg ((x1).toL ++ ((D.agg ((r3.getD 0 D.nil) :: ((D.int (0 : Int)) :: ((D.int (0 : Int)) :: ((D.int (((x0).toStr).size : Int)) :: (D.nil :: [])))))) :: [])))]) 3 fun r4 =>
      let v2 : D := ((((r4.getD 2 D.nil)).toL).getD ((((x1).toL).length : Int)).toNat D.nil)
      let v3 : D := (((v2).toL).getD 4 D.nil)
      if (decide ((1 : Int) < (v1).toInt)) = true then
      if (decide ((1 : Int) < (5 : Int))) = true then
        if (scmpF .eql ((r4.getD 0 D.nil)).toStr ((((v0).toL).getD ((1 : Int)).toNat D.nil)).toStr) = true then
          bindC (FX 18 [(D.int (((x1).toL).length : Int)), (r4.getD 2 D.nil)]) 2 fun r7 =>
            bindC (FX 18 [(D.int (((x1).toL).length : Int)), (r7.getD 1 D.nil)]) 2 fun r9 =>
            bindC (FX 19 [(D.int (((x1).toL).length : Int)), (r9.getD 1 D.nil)]) 2 fun r11 =>
            bindC (FX 18 [(D.int (((x1).toL).length : Int)), (r11.getD 1 D.nil)]) 2 fun r13 =>
            bindC (FX 18 [(D.int (((x1).toL).length : Int)), (r13.getD 1 D.nil)]) 2 fun r15 =>
            bindC (FX 18 [(D.int (((x1).toL).length : Int)), (r15.getD 1 D.nil)]) 2 fun r17 =>
            bindC (FX 18 [(D.int (((x1).toL).length : Int)), (r17.getD 1 D.nil)]) 2 fun r19 =>
            bindC (FX 18 [(D.int (((x1).toL).length : Int)), (r19.getD 1 D.nil)]) 2 fun r21 =>
            let v4 : D := ((((r21.getD 1 D.nil)).toL).getD ((((x1).toL).length : Int)).toNat D.nil)
            let v5 : D := (((v4).toL).getD 4 D.nil)
            if (v5).isNil = true then
            if (decide (((((v4).toL).getD 1 D.nil)).toInt < ((((((v4).toL).getD 0 D.nil)).toL).length : Int))) = true then
              bindC (FX 20 [(D.int (((x1).toL).length : Int)), (((v4).toL).getD 2 D.nil), (D.int (12 : Int)), (r21.getD 1 D.nil)]) 1 fun r23 =>
                let v6 : D := (((((((r23.getD 0 D.nil)).toL).getD ((((x1).toL).length : Int)).toNat D.nil)).toL).getD 4 D.nil)
                if (!(v6).isNil) = true then
                some [(D.int (0 : Int)), (D.int (0 : Int)), (D.int (0 : Int)), (D.int (0 : Int)), (D.int (0 : Int)), (D.int (0 : Int)), (D.int (0 : Int)), (D.int (0 : Int)), (D.int (0 : Int)), v6, (r23.getD 0 D.nil)]
                else
                some [(D.int (1 : Int)), (r7.getD 0 D.nil), (r9.getD 0 D.nil), (r13.getD 0 D.nil), (r11.getD 0 D.nil), (r17.getD 0 D.nil), (r19.getD 0 D.nil), (r21.getD 0 D.nil), (r15.getD 0 D.nil), D.nil, (r23.getD 0 D.nil)]
              else
              if (!(v5).isNil) = true then
                some [(D.int (0 : Int)), (D.int (0 : Int)), (D.int (0 : Int)), (D.int (0 : Int)), (D.int (0 : Int)), (D.int (0 : Int)), (D.int (0 : Int)), (D.int (0 : Int)), (D.int (0 : Int)), v5, (r21.getD 1 D.nil)]
                else
                some [(D.int (1 : Int)), (r7.getD 0 D.nil), (r9.getD 0 D.nil), (r13.getD 0 D.nil), (r11.getD 0 D.nil), (r17.getD 0 D.nil), (r19.getD 0 D.nil), (r21.getD 0 D.nil), (r15.getD 0 D.nil), D.nil, (r21.getD 1 D.nil)]
            else
            if (!(v5).isNil) = true then
              some [(D.int (0 : Int)), (D.int (0 : Int)), (D.int (0 : Int)), (D.int (0 : Int)), (D.int (0 : Int)), (D.int (0 : Int)), (D.int (0 : Int)), (D.int (0 : Int)), (D.int (0 : Int)), v5, (r21.getD 1 D.nil)]
              else
              some [(D.int (1 : Int)), (r7.getD 0 D.nil), (r9.getD 0 D.nil), (r13.getD 0 D.nil), (r11.getD 0 D.nil), (r17.getD 0 D.nil), (r19.getD 0 D.nil), (r21.getD 0 D.nil), (r15.getD 0 D.nil), D.nil, (r21.getD 1 D.nil)]
          else
          if (decide ((2 : Int) < (v1).toInt)) = true then
            if (decide ((2 : Int) < (5 : Int))) = true then
              if (scmpF .eql ((r4.getD 0 D.nil)).toStr ((((v0).toL).getD ((2 : Int)).toNat D.nil)).toStr) = true then
                bindC (FX 18 [(D.int (((x1).toL).length : Int)), (r4.getD 2 D.nil)]) 2 fun r7 =>
                  bindC (FX 18 [(D.int (((x1).toL).length : Int)), (r7.getD 1 D.nil)]) 2 fun r9 =>
                  let v7 : D := ((((r9.getD 1 D.nil)).toL).getD ((((x1).toL).length : Int)).toNat D.nil)
                  let v8 : D := (((v7).toL).getD 4 D.nil)
                  if (v8).isNil = true then
                  if (decide (((((v7).toL).getD 1 D.nil)).toInt < ((((((v7).toL).getD 0 D.nil)).toL).length : Int))) = true then
                    bindC (FX 20 [(D.int (((x1).toL).length : Int)), (((v7).toL).getD 2 D.nil), (D.int (12 : Int)), (r9.getD 1 D.nil)]) 1 fun r11 =>
                      let v9 : D := (((((((r11.getD 0 D.nil)).toL).getD ((((x1).toL).length : Int)).toNat D.nil)).toL).getD 4 D.nil)
                      if (!(v9).isNil) = true then
                      some [(D.int (0 : Int)), (D.int (0 : Int)), (D.int (0 : Int)), (D.int (0 : Int)), (D.int (0 : Int)), (D.int (0 : Int)), (D.int (0 : Int)), (D.int (0 : Int)), (D.int (0 : Int)), v9, (r11.getD 0 D.nil)]
                      else
                      some [(D.int (2 : Int)), (r7.getD 0 D.nil), (r9.getD 0 D.nil), (D.int (0 : Int)), (D.int (0 : Int)), (D.int (0 : Int)), (D.int (0 : Int)), (D.int (0 : Int)), (D.int (0 : Int)), D.nil, (r11.getD 0 D.nil)]
                    else
                    if (!(v8).isNil) = true then
                      some [(D.int (0 : Int)), (D.int (0 : Int)), (D.int (0 : Int)), (D.int (0 : Int)), (D.int (0 : Int)), (D.int (0 : Int)), (D.int (0 : Int)), (D.int (0 : Int)), (D.int (0 : Int)), v8, (r9.getD 1 D.nil)]
                      else
                      some [(D.int (2 : Int)), (r7.getD 0 D.nil), (r9.getD 0 D.nil), (D.int (0 : Int)), (D.int (0 : Int)), (D.int (0 : Int)), (D.int (0 : Int)), (D.int (0 : Int)), (D.int (0 : Int)), D.nil, (r9.getD 1 D.nil)]
                  else
                  if (!(v8).isNil) = true then
                    some [(D.int (0 : Int)), (D.int (0 : Int)), (D.int (0 : Int)), (D.int (0 : Int)), (D.int (0 : Int)), (D.int (0 : Int)), (D.int (0 : Int)), (D.int (0 : Int)), (D.int (0 : Int)), v8, (r9.getD 1 D.nil)]
                    else
                    some [(D.int (2 : Int)), (r7.getD 0 D.nil), (r9.getD 0 D.nil), (D.int (0 : Int)), (D.int (0 : Int)), (D.int (0 : Int)), (D.int (0 : Int)), (D.int (0 : Int)), (D.int (0 : Int)), D.nil, (r9.getD 1 D.nil)]
                else
                if (decide ((3 : Int) < (v1).toInt)) = true then
                  if (decide ((3 : Int) < (5 : Int))) = true then
                    if (scmpF .eql ((r4.getD 0 D.nil)).toStr ((((v0).toL).getD ((3 : Int)).toNat D.nil)).toStr) = true then
                      bindC (FX 18 [(D.int (((x1).toL).length : Int)), (r4.getD 2 D.nil)]) 2 fun r7 =>
                        let v10 : D := ((((r7.getD 1 D.nil)).toL).getD ((((x1).toL).length : Int)).toNat D.nil)
                        let v11 : D := (((v10).toL).getD 4 D.nil)
                        if (v11).isNil = true then
                        if (decide (((((v10).toL).getD 1 D.nil)).toInt < ((((((v10).toL).getD 0 D.nil)).toL).length : Int))) = true then
                          bindC (FX 20 [(D.int (((x1).toL).length : Int)), (((v10).toL).getD 2 D.nil), (D.int (12 : Int)), (r7.getD 1 D.nil)]) 1 fun r9 =>
                            let v12 : D := (((((((r9.getD 0 D.nil)).toL).getD ((((x1).toL).length : Int)).toNat D.nil)).toL).getD 4 D.nil)
                            if (!(v12).isNil) = true then
                            some [(D.int (0 : Int)), (D.int (0 : Int)), (D.int (0 : Int)), (D.int (0 : Int)), (D.int (0 : Int)), (D.int (0 : Int)), (D.int (0 : Int)), (D.int (0 : Int)), (D.int (0 : Int)), v12, (r9.getD 0 D.nil)]
                            else
                            some [(D.int (3 : Int)), (D.int (0 : Int)), (r7.getD 0 D.nil), (D.int (0 : Int)), (D.int (0 : Int)), (D.int (0 : Int)), (D.int (0 : Int)), (D.int (0 : Int)), (D.int (0 : Int)), D.nil, (r9.getD 0 D.nil)]
                          else
                          if (!(v11).isNil) = true then
                            some [(D.int (0 : Int)), (D.int (0 : Int)), (D.int (0 : Int)), (D.int (0 : Int)), (D.int (0 : Int)), (D.int (0 : Int)), (D.int (0 : Int)), (D.int (0 : Int)), (D.int (0 : Int)), v11, (r7.getD 1 D.nil)]
                            else
                            some [(D.int (3 : Int)), (D.int (0 : Int)), (r7.getD 0 D.nil), (D.int (0 : Int)), (D.int (0 : Int)), (D.int (0 : Int)), (D.int (0 : Int)), (D.int (0 : Int)), (D.int (0 : Int)), D.nil, (r7.getD 1 D.nil)]
                        else
                        if (!(v11).isNil) = true then
                          some [(D.int (0 : Int)), (D.int (0 : Int)), (D.int (0 : Int)), (D.int (0 : Int)), (D.int (0 : Int)), (D.int (0 : Int)), (D.int (0 : Int)), (D.int (0 : Int)), (D.int (0 : Int)), v11, (r7.getD 1 D.nil)]
                          else
                          some [(D.int (3 : Int)), (D.int (0 : Int)), (r7.getD 0 D.nil), (D.int (0 : Int)), (D.int (0 : Int)), (D.int (0 : Int)), (D.int (0 : Int)), (D.int (0 : Int)), (D.int (0 : Int)), D.nil, (r7.getD 1 D.nil)]
                      else
                      if (decide ((4 : Int) < (v1).toInt)) = true then
                        if (decide ((4 : Int) < (5 : Int))) = true then
                          if (scmpF .eql ((r4.getD 0 D.nil)).toStr ((((v0).toL).getD ((4 : Int)).toNat D.nil)).toStr) = true then
                            if (v3).isNil = true then
                              if (decide (((((v2).toL).getD 1 D.nil)).toInt < ((((((v2).toL).getD 0 D.nil)).toL).length : Int))) = true then
                                bindC (FX 20 [(D.int (((x1).toL).length : Int)), (((v2).toL).getD 2 D.nil), (D.int (12 : Int)), (r4.getD 2 D.nil)]) 1 fun r7 =>
                                  let v13 : D := (((((((r7.getD 0 D.nil)).toL).getD ((((x1).toL).length : Int)).toNat D.nil)).toL).getD 4 D.nil)
                                  if (!(v13).isNil) = true then
                                  some [(D.int (0 : Int)), (D.int (0 : Int)), (D.int (0 : Int)), (D.int (0 : Int)), (D.int (0 : Int)), (D.int (0 : Int)), (D.int (0 : Int)), (D.int (0 : Int)), (D.int (0 : Int)), v13, (r7.getD 0 D.nil)]
                                  else
                                  some [(D.int (4 : Int)), (D.int (0 : Int)), (D.int (0 : Int)), (D.int (0 : Int)), (D.int (0 : Int)), (D.int (0 : Int)), (D.int (0 : Int)), (D.int (0 : Int)), (D.int (0 : Int)), D.nil, (r7.getD 0 D.nil)]
                                else
                                if (!(v3).isNil) = true then
                                  some [(D.int (0 : Int)), (D.int (0 : Int)), (D.int (0 : Int)), (D.int (0 : Int)), (D.int (0 : Int)), (D.int (0 : Int)), (D.int (0 : Int)), (D.int (0 : Int)), (D.int (0 : Int)), v3, (r4.getD 2 D.nil)]
                                  else
                                  some [(D.int (4 : Int)), (D.int (0 : Int)), (D.int (0 : Int)), (D.int (0 : Int)), (D.int (0 : Int)), (D.int (0 : Int)), (D.int (0 : Int)), (D.int (0 : Int)), (D.int (0 : Int)), D.nil, (r4.getD 2 D.nil)]
                              else
                              if (!(v3).isNil) = true then
                                some [(D.int (0 : Int)), (D.int (0 : Int)), (D.int (0 : Int)), (D.int (0 : Int)), (D.int (0 : Int)), (D.int (0 : Int)), (D.int (0 : Int)), (D.int (0 : Int)), (D.int (0 : Int)), v3, (r4.getD 2 D.nil)]
                                else
                                some [(D.int (4 : Int)), (D.int (0 : Int)), (D.int (0 : Int)), (D.int (0 : Int)), (D.int (0 : Int)), (D.int (0 : Int)), (D.int (0 : Int)), (D.int (0 : Int)), (D.int (0 : Int)), D.nil, (r4.getD 2 D.nil)]
                            else
                            bindC (FX 20 [(D.int (((x1).toL).length : Int)), (D.int (0 : Int)), (D.int (10 : Int)), (r4.getD 2 D.nil)]) 1 fun r7 =>
                              let v14 : D := ((((r7.getD 0 D.nil)).toL).getD ((((x1).toL).length : Int)).toNat D.nil)
                              let v15 : D := (((v14).toL).getD 4 D.nil)
                              if (v15).isNil = true then
                              if (decide (((((v14).toL).getD 1 D.nil)).toInt < ((((((v14).toL).getD 0 D.nil)).toL).length : Int))) = true then
                                bindC (FX 20 [(D.int (((x1).toL).length : Int)), (((v14).toL).getD 2 D.nil), (D.int (12 : Int)), (r7.getD 0 D.nil)]) 1 fun r8 =>
                                  let v16 : D := (((((((r8.getD 0 D.nil)).toL).getD ((((x1).toL).length : Int)).toNat D.nil)).toL).getD 4 D.nil)
                                  if (!(v16).isNil) = true then
                                  some [(D.int (0 : Int)), (D.int (0 : Int)), (D.int (0 : Int)), (D.int (0 : Int)), (D.int (0 : Int)), (D.int (0 : Int)), (D.int (0 : Int)), (D.int (0 : Int)), (D.int (0 : Int)), v16, (r8.getD 0 D.nil)]
                                  else
                                  some [(D.int (0 : Int)), (D.int (0 : Int)), (D.int (0 : Int)), (D.int (0 : Int)), (D.int (0 : Int)), (D.int (0 : Int)), (D.int (0 : Int)), (D.int (0 : Int)), (D.int (0 : Int)), D.nil, (r8.getD 0 D.nil)]
                                else
                                if (!(v15).isNil) = true then
                                  some [(D.int (0 : Int)), (D.int (0 : Int)), (D.int (0 : Int)), (D.int (0 : Int)), (D.int (0 : Int)), (D.int (0 : Int)), (D.int (0 : Int)), (D.int (0 : Int)), (D.int (0 : Int)), v15, (r7.getD 0 D.nil)]
                                  else
                                  some [(D.int (0 : Int)), (D.int (0 : Int)), (D.int (0 : Int)), (D.int (0 : Int)), (D.int (0 : Int)), (D.int (0 : Int)), (D.int (0 : Int)), (D.int (0 : Int)), (D.int (0 : Int)), D.nil, (r7.getD 0 D.nil)]
                              else
                              if (!(v15).isNil) = true then
                                some [(D.int (0 : Int)), (D.int (0 : Int)), (D.int (0 : Int)), (D.int (0 : Int)), (D.int (0 : Int)), (D.int (0 : Int)), (D.int (0 : Int)), (D.int (0 : Int)), (D.int (0 : Int)), v15, (r7.getD 0 D.nil)]
                                else
                                some [(D.int (0 : Int)), (D.int (0 : Int)), (D.int (0 : Int)), (D.int (0 : Int)), (D.int (0 : Int)), (D.int (0 : Int)), (D.int (0 : Int)), (D.int (0 : Int)), (D.int (0 : Int)), D.nil, (r7.getD 0 D.nil)]
                          else none
                        else none
                    else none
                  else none
              else none
            else none
        else none
      else none := (fixP_eq (t := T_line_Parse) (by rfl) _).trans (by kernel_rfl)
theorem E_fault_Place (x0 x1 : D) : FX 10 [x0, x1] =
  bindC (FX 24 [x0, (D.iface 66 (D.int (((x1).toL).length : Int))), (D.agg ((x1).toL ++ ((D.agg (D.nil :: [])) :: [])))]) 2 fun r2 =>
  let v0 : D := (((((((r2.getD 1 D.nil)).toL).getD ((((x1).toL).length : Int)).toNat D.nil)).toL).getD 0 D.nil)
  if ((r2.getD 0 D.nil)).toBool = true then
  if (!(v0).isNil) = true then
    if (!(v0).isNil) = true then
      some [(((v0).toL).getD 0 D.nil), (D.bool true), (r2.getD 1 D.nil)]
      else none
    else
    some [(D.int (0 : Int)), (D.bool false), (r2.getD 1 D.nil)]
  else
  some [(D.int (0 : Int)), (D.bool false), (r2.getD 1 D.nil)] := (fixP_eq (t := T_fault_Place) (by rfl) _).trans (by kernel_rfl)
theorem E_fault_Code (x0 x1 : D) : FX 13 [x0, x1] =
  bindC (FX 24 [x0, (D.iface 70 (D.int (((x1).toL).length : Int))), (D.agg ((x1).toL ++ ((D.agg ((D.int (0 : Int)) :: [])) :: [])))]) 2 fun r2 =>
  if ((r2.getD 0 D.nil)).toBool = true then
  some [(((((((r2.getD 1 D.nil)).toL).getD ((((x1).toL).length : Int)).toNat D.nil)).toL).getD 0 D.nil), (r2.getD 1 D.nil)]
  else
  some [(D.int (0 : Int)), (r2.getD 1 D.nil)] := (fixP_eq (t := T_fault_Code) (by rfl) _).trans (by kernel_rfl)
theorem E_law15_awake (x0 : D) : FX 5 [x0] =
  bindC (FX 6 [(D.str ((ByteArray.mk #[99, 97, 110, 99, 101, 108, 32, 55, 32, 48]))), x0]) 11 fun r1 =>
  bindC (FX 6 [(D.str ((ByteArray.mk #[99, 97, 110, 99, 101, 108, 32, 48, 55, 32, 48]))), (r1.getD 10 D.nil)]) 11 fun r12 =>
  bindC (FX 10 [(r12.getD 9 D.nil), (r12.getD 10 D.nil)]) 3 fun r23 =>
  if ((r1.getD 9 D.nil)).isNil = true then
  if ((((r1.getD 0 D.nil)).toInt == (2 : Int)) && ((((r1.getD 1 D.nil)).toInt == (7 : Int)) && ((((r1.getD 2 D.nil)).toInt == (0 : Int)) && (((((r1.getD 3 D.nil)).toInt == (0 : Int)) && ((((r1.getD 4 D.nil)).toInt == (0 : Int)) && ((((r1.getD 5 D.nil)).toInt == (0 : Int)) && ((((r1.getD 6 D.nil)).toInt == (0 : Int)) && (((r1.getD 7 D.nil)).toInt == (0 : Int)))))) && (((r1.getD 8 D.nil)).toInt == (0 : Int)))))) = true then
    bindC (FX 13 [(r12.getD 9 D.nil), (r23.getD 2 D.nil)]) 2 fun r26 =>
      if (((r26.getD 0 D.nil)).toInt == (13 : Int)) = true then
      if ((r23.getD 1 D.nil)).toBool = true then
        some [(D.bool (((r23.getD 0 D.nil)).toInt == (7 : Int))), (r26.getD 1 D.nil)]
        else
        some [(D.bool false), (r26.getD 1 D.nil)]
      else
      some [(D.bool false), (r26.getD 1 D.nil)]
    else
    some [(D.bool false), (r23.getD 2 D.nil)]
  else
  some [(D.bool false), (r23.getD 2 D.nil)] := (fixP_eq (t := T_law15_awake) (by rfl) _).trans (by kernel_rfl)
noncomputable def J_law15_LineApart_1 (x0 x1 x2 x3 x4 x5 x6 x7 x8 x9 x10 x11 x12 x13 x14 x15 x16 x17 x18 x19 x20 x21 x22 x23 x24 : D) : Eng.Fn := fun xs => evalP FX B_law15_LineApart_1 [] ([x0, x1, x2, x3, x4, x5, x6, x7, x8, x9, x10, x11, x12, x13, x14, x15, x16, x17, x18, x19, x20, x21, x22, x23, x24] ++ xs)
theorem J_law15_LineApart_1_eq (x0 x1 x2 x3 x4 x5 x6 x7 x8 x9 x10 x11 x12 x13 x14 x15 x16 x17 x18 x19 x20 x21 x22 x23 x24 : D) (a0 a1 : D) : J_law15_LineApart_1 x0 x1 x2 x3 x4 x5 x6 x7 x8 x9 x10 x11 x12 x13 x14 x15 x16 x17 x18 x19 x20 x21 x22 x23 x24  [a0, a1] =
  bindC (FX 5 [a0]) 2 fun r27 =>
  if ((r27.getD 0 D.nil)).toBool = true then
  some [(D.bool (!(a1).isNil))]
  else
  some [(D.bool false)] := by kernel_rfl
noncomputable def J_law15_LineApart_2 (x0 x1 x2 x3 x4 x5 x6 x7 x8 x9 x10 x11 x12 x13 x14 x15 x16 x17 x18 x19 x20 x21 x22 x23 x24 : D) : Eng.Fn := fun xs => evalP FX B_law15_LineApart_2 [] ([x0, x1, x2, x3, x4, x5, x6, x7, x8, x9, x10, x11, x12, x13, x14, x15, x16, x17, x18, x19, x20, x21, x22, x23, x24] ++ xs)
theorem J_law15_LineApart_2_eq (x0 x1 x2 x3 x4 x5 x6 x7 x8 x9 x10 x11 x12 x13 x14 x15 x16 x17 x18 x19 x20 x21 x22 x23 x24 : D) (a0 a1 : D) : J_law15_LineApart_2 x0 x1 x2 x3 x4 x5 x6 x7 x8 x9 x10 x11 x12 x13 x14 x15 x16 x17 x18 x19 x20 x21 x22 x23 x24  [a0, a1] =
  bindC (FX 5 [a0]) 2 fun r27 =>
  if ((r27.getD 0 D.nil)).toBool = true then
  some [(D.bool (!(a1).isNil))]
  else
  some [(D.bool false)] := by kernel_rfl
noncomputable def J_law15_LineApart_3 (x0 x1 x2 x3 x4 x5 x6 x7 x8 x9 x10 x11 x12 x13 x14 x15 x16 x17 x18 x19 x20 x21 x22 x23 x24 : D) : Eng.Fn := fun xs => evalP FX B_law15_LineApart_3 [] ([x0, x1, x2, x3, x4, x5, x6, x7, x8, x9, x10, x11, x12, x13, x14, x15, x16, x17, x18, x19, x20, x21, x22, x23, x24] ++ xs)
theorem J_law15_LineApart_3_eq (x0 x1 x2 x3 x4 x5 x6 x7 x8 x9 x10 x11 x12 x13 x14 x15 x16 x17 x18 x19 x20 x21 x22 x23 x24 : D) (a0 a1 : D) : J_law15_LineApart_3 x0 x1 x2 x3 x4 x5 x6 x7 x8 x9 x10 x11 x12 x13 x14 x15 x16 x17 x18 x19 x20 x21 x22 x23 x24  [a0, a1] =
  bindC (FX 5 [a0]) 2 fun r27 =>
  if ((r27.getD 0 D.nil)).toBool = true then
  some [(D.bool (!(a1).isNil))]
  else
  some [(D.bool false)] := by kernel_rfl
theorem E_law15_LineApart (x0 x1 x2 : D) : FX 3 [x0, x1, x2] =
  let v0 : D := (D.int (IntKind.i64.wrap ((((x0).toStr).size : Int) + (1 : Int))))
  let v1 : D := (D.int (Int.tmod (IntKind.i64.wrap (x2).toInt) (v0).toInt))
  let v2 : D := (D.str (((x0).toStr).extract ((0 : Int)).toNat ((v1).toInt).toNat))
  let v3 : D := (D.int (((v2).toStr).size : Int))
  let v4 : D := (D.str (((x0).toStr).extract ((v1).toInt).toNat ((((x0).toStr).size : Int)).toNat))
  let v5 : D := (D.str ((v2).toStr ++ ((ByteArray.mk #[32]))))
  let v6 : D := (D.int (((v4).toStr).size : Int))
  let v7 : D := (D.int (((v5).toStr).size : Int))
  let v8 : D := (D.str ((v5).toStr ++ (v4).toStr))
  if (decide ((((x0).toStr).size : Int) > (190 : Int))) = true then
  bindC (FX 5 [(D.agg [])]) 2 fun r3 =>
    some [(r3.getD 0 D.nil)]
  else
  if (decide ((((x1).toStr).size : Int) > (190 : Int))) = true then
    bindC (FX 5 [(D.agg [])]) 2 fun r3 =>
      some [(r3.getD 0 D.nil)]
    else
    bindC (FX 6 [x0, (D.agg [])]) 11 fun r3 =>
      bindC (FX 6 [x1, (r3.getD 10 D.nil)]) 11 fun r14 =>
      if ((r3.getD 9 D.nil)).isNil = true then
      if ((r14.getD 9 D.nil)).isNil = true then
        if (!(((((r3.getD 0 D.nil)).toInt == ((r14.getD 0 D.nil)).toInt) && ((((r3.getD 1 D.nil)).toInt == ((r14.getD 1 D.nil)).toInt) && ((((r3.getD 2 D.nil)).toInt == ((r14.getD 2 D.nil)).toInt) && (((((r3.getD 3 D.nil)).toInt == ((r14.getD 3 D.nil)).toInt) && ((((r3.getD 4 D.nil)).toInt == ((r14.getD 4 D.nil)).toInt) && ((((r3.getD 5 D.nil)).toInt == ((r14.getD 5 D.nil)).toInt) && ((((r3.getD 6 D.nil)).toInt == ((r14.getD 6 D.nil)).toInt) && (((r3.getD 7 D.nil)).toInt == ((r14.getD 7 D.nil)).toInt))))) && (((r3.getD 8 D.nil)).toInt == ((r14.getD 8 D.nil)).toInt))))) == (scmpF .eql (x0).toStr (x1).toStr))) = true then
          some [(D.bool false)]
          else
          if (!((r3.getD 9 D.nil)).isNil) = true then
            bindC (FX 5 [(r14.getD 10 D.nil)]) 2 fun r25 =>
              some [(r25.getD 0 D.nil)]
            else
            if ((v0).toInt != (0 : Int)) = true then
              if (decide ((0 : Int) ≤ (0 : Int))) = true then
                if (decide ((0 : Int) ≤ (v1).toInt)) = true then
                  if (decide ((v1).toInt ≤ (((x0).toStr).size : Int))) = true then
                    if (decide ((IntKind.i64.wrap ((v3).toInt + ((((ByteArray.mk #[32]))).size : Int))) ≤ (4611686018427387903 : Int))) = true then
                      if (decide ((v3).toInt ≤ (4611686018427387903 : Int))) = true then
                        if (decide (((((ByteArray.mk #[32]))).size : Int) ≤ (4611686018427387903 : Int))) = true then
                          if (decide ((0 : Int) ≤ (v1).toInt)) = true then
                            if (decide ((v1).toInt ≤ (((x0).toStr).size : Int))) = true then
                              if (decide ((((x0).toStr).size : Int) ≤ (((x0).toStr).size : Int))) = true then
                                if (decide ((IntKind.i64.wrap ((v7).toInt + (v6).toInt)) ≤ (4611686018427387903 : Int))) = true then
                                  if (decide ((v7).toInt ≤ (4611686018427387903 : Int))) = true then
                                    if (decide ((v6).toInt ≤ (4611686018427387903 : Int))) = true then
                                      bindC (FX 6 [v8, (r14.getD 10 D.nil)]) 11 fun r25 =>
                                        (J_law15_LineApart_1 x0 x1 x2 (r3.getD 0 D.nil) (r3.getD 1 D.nil) (r3.getD 2 D.nil) (r3.getD 3 D.nil) (r3.getD 4 D.nil) (r3.getD 5 D.nil) (r3.getD 6 D.nil) (r3.getD 7 D.nil) (r3.getD 8 D.nil) (r3.getD 9 D.nil) (r3.getD 10 D.nil) (r14.getD 0 D.nil) (r14.getD 1 D.nil) (r14.getD 2 D.nil) (r14.getD 3 D.nil) (r14.getD 4 D.nil) (r14.getD 5 D.nil) (r14.getD 6 D.nil) (r14.getD 7 D.nil) (r14.getD 8 D.nil) (r14.getD 9 D.nil) (r14.getD 10 D.nil)) [(r25.getD 10 D.nil), (r25.getD 9 D.nil)]
                                      else none
                                    else none
                                  else none
                                else none
                              else none
                            else none
                          else none
                        else none
                      else none
                    else none
                  else none
                else none
              else none
        else
        if (!((r3.getD 9 D.nil)).isNil) = true then
          bindC (FX 5 [(r14.getD 10 D.nil)]) 2 fun r25 =>
            some [(r25.getD 0 D.nil)]
          else
          if ((v0).toInt != (0 : Int)) = true then
            if (decide ((0 : Int) ≤ (0 : Int))) = true then
              if (decide ((0 : Int) ≤ (v1).toInt)) = true then
                if (decide ((v1).toInt ≤ (((x0).toStr).size : Int))) = true then
                  if (decide ((IntKind.i64.wrap ((v3).toInt + ((((ByteArray.mk #[32]))).size : Int))) ≤ (4611686018427387903 : Int))) = true then
                    if (decide ((v3).toInt ≤ (4611686018427387903 : Int))) = true then
                      if (decide (((((ByteArray.mk #[32]))).size : Int) ≤ (4611686018427387903 : Int))) = true then
                        if (decide ((0 : Int) ≤ (v1).toInt)) = true then
                          if (decide ((v1).toInt ≤ (((x0).toStr).size : Int))) = true then
                            if (decide ((((x0).toStr).size : Int) ≤ (((x0).toStr).size : Int))) = true then
                              if (decide ((IntKind.i64.wrap ((v7).toInt + (v6).toInt)) ≤ (4611686018427387903 : Int))) = true then
                                if (decide ((v7).toInt ≤ (4611686018427387903 : Int))) = true then
                                  if (decide ((v6).toInt ≤ (4611686018427387903 : Int))) = true then
                                    bindC (FX 6 [v8, (r14.getD 10 D.nil)]) 11 fun r25 =>
                                      (J_law15_LineApart_2 x0 x1 x2 (r3.getD 0 D.nil) (r3.getD 1 D.nil) (r3.getD 2 D.nil) (r3.getD 3 D.nil) (r3.getD 4 D.nil) (r3.getD 5 D.nil) (r3.getD 6 D.nil) (r3.getD 7 D.nil) (r3.getD 8 D.nil) (r3.getD 9 D.nil) (r3.getD 10 D.nil) (r14.getD 0 D.nil) (r14.getD 1 D.nil) (r14.getD 2 D.nil) (r14.getD 3 D.nil) (r14.getD 4 D.nil) (r14.getD 5 D.nil) (r14.getD 6 D.nil) (r14.getD 7 D.nil) (r14.getD 8 D.nil) (r14.getD 9 D.nil) (r14.getD 10 D.nil)) [(r25.getD 10 D.nil), (r25.getD 9 D.nil)]
                                    else none
                                  else none
                                else none
                              else none
                            else none
                          else none
                        else none
                      else none
                    else none
                  else none
                else none
              else none
            else none
      else
      if (!((r3.getD 9 D.nil)).isNil) = true then
        bindC (FX 5 [(r14.getD 10 D.nil)]) 2 fun r25 =>
          some [(r25.getD 0 D.nil)]
        else
        if ((v0).toInt != (0 : Int)) = true then
          if (decide ((0 : Int) ≤ (0 : Int))) = true then
            if (decide ((0 : Int) ≤ (v1).toInt)) = true then
              if (decide ((v1).toInt ≤ (((x0).toStr).size : Int))) = true then
                if (decide ((IntKind.i64.wrap ((v3).toInt + ((((ByteArray.mk #[32]))).size : Int))) ≤ (4611686018427387903 : Int))) = true then
                  if (decide ((v3).toInt ≤ (4611686018427387903 : Int))) = true then
                    if (decide (((((ByteArray.mk #[32]))).size : Int) ≤ (4611686018427387903 : Int))) = true then
                      if (decide ((0 : Int) ≤ (v1).toInt)) = true then
                        if (decide ((v1).toInt ≤ (((x0).toStr).size : Int))) = true then
                          if (decide ((((x0).toStr).size : Int) ≤ (((x0).toStr).size : Int))) = true then
                            if (decide ((IntKind.i64.wrap ((v7).toInt + (v6).toInt)) ≤ (4611686018427387903 : Int))) = true then
                              if (decide ((v7).toInt ≤ (4611686018427387903 : Int))) = true then
                                if (decide ((v6).toInt ≤ (4611686018427387903 : Int))) = true then
                                  bindC (FX 6 [v8, (r14.getD 10 D.nil)]) 11 fun r25 =>
                                    (J_law15_LineApart_3 x0 x1 x2 (r3.getD 0 D.nil) (r3.getD 1 D.nil) (r3.getD 2 D.nil) (r3.getD 3 D.nil) (r3.getD 4 D.nil) (r3.getD 5 D.nil) (r3.getD 6 D.nil) (r3.getD 7 D.nil) (r3.getD 8 D.nil) (r3.getD 9 D.nil) (r3.getD 10 D.nil) (r14.getD 0 D.nil) (r14.getD 1 D.nil) (r14.getD 2 D.nil) (r14.getD 3 D.nil) (r14.getD 4 D.nil) (r14.getD 5 D.nil) (r14.getD 6 D.nil) (r14.getD 7 D.nil) (r14.getD 8 D.nil) (r14.getD 9 D.nil) (r14.getD 10 D.nil)) [(r25.getD 10 D.nil), (r25.getD 9 D.nil)]
                                  else none
                                else none
                              else none
                            else none
                          else none
                        else none
                      else none
                    else none
                  else none
                else none
              else none
            else none
          else none := (fixP_eq (t := T_law15_LineApart) (by rfl) _).trans (by kernel_rfl)
theorem E_ref01_Decimal (x0 : D) : FX 25 [x0] =
  let v0 : D := (D.int (IntKind.i64.wrap (Int.tdiv (x0).toInt (10 : Int))))
  let v1 : D := (D.int (Int.tmod (x0).toInt (10 : Int)))
  if (decide ((x0).toInt < (0 : Int))) = true then
  if ((v0).toInt == (0 : Int)) = true then
    bindC (FX 36 [(D.int (IntKind.i64.wrap ((0 : Int) - (x0).toInt)))]) 1 fun r1 =>
      if (decide ((IntKind.i64.wrap (((((ByteArray.mk #[45]))).size : Int) + ((((r1.getD 0 D.nil)).toStr).size : Int))) ≤ (4611686018427387903 : Int))) = true then
      if (decide (((((ByteArray.mk #[45]))).size : Int) ≤ (4611686018427387903 : Int))) = true then
        if (decide (((((r1.getD 0 D.nil)).toStr).size : Int) ≤ (4611686018427387903 : Int))) = true then
          some [(D.str (((ByteArray.mk #[45])) ++ ((r1.getD 0 D.nil)).toStr))]
          else none
        else none
      else none
    else
    bindC (FX 25 [v0]) 1 fun r1 =>
      bindC (FX 36 [(D.int (IntKind.i64.wrap ((0 : Int) - (v1).toInt)))]) 1 fun r2 =>
      if (decide ((IntKind.i64.wrap (((((r1.getD 0 D.nil)).toStr).size : Int) + ((((r2.getD 0 D.nil)).toStr).size : Int))) ≤ (4611686018427387903 : Int))) = true then
      if (decide (((((r1.getD 0 D.nil)).toStr).size : Int) ≤ (4611686018427387903 : Int))) = true then
        if (decide (((((r2.getD 0 D.nil)).toStr).size : Int) ≤ (4611686018427387903 : Int))) = true then
          some [(D.str (((r1.getD 0 D.nil)).toStr ++ ((r2.getD 0 D.nil)).toStr))]
          else none
        else none
      else none
  else
  if (decide ((x0).toInt < (10 : Int))) = true then
    bindC (FX 36 [x0]) 1 fun r1 =>
      some [(r1.getD 0 D.nil)]
    else
    bindC (FX 25 [v0]) 1 fun r1 =>
      bindC (FX 36 [v1]) 1 fun r2 =>
      if (decide ((IntKind.i64.wrap (((((r1.getD 0 D.nil)).toStr).size : Int) + ((((r2.getD 0 D.nil)).toStr).size : Int))) ≤ (4611686018427387903 : Int))) = true then
      if (decide (((((r1.getD 0 D.nil)).toStr).size : Int) ≤ (4611686018427387903 : Int))) = true then
        if (decide (((((r2.getD 0 D.nil)).toStr).size : Int) ≤ (4611686018427387903 : Int))) = true then
          some [(D.str (((r1.getD 0 D.nil)).toStr ++ ((r2.getD 0 D.nil)).toStr))]
          else none
        else none
      else none := (fixP_eq (t := T_ref01_Decimal) (by rfl) _).trans (by kernel_rfl)
noncomputable def W_ref15_Num_1 (x0 : D) : Eng.Fn := loopF fun g xs => evalP FX B_ref15_Num_1 ([] ++ [g]) ([x0] ++ xs)
theorem W_ref15_Num_1_eq (x0 : D) (a0 a1 : D) : W_ref15_Num_1 x0 [a0, a1] =
  let v0 : D := (D.int ((((x0).toStr).data.getD ((a1).toInt).toNat 0).toNat : Int))
  if (decide ((a1).toInt < (((x0).toStr).size : Int))) = true then
  if (decide ((a1).toInt ≥ (0 : Int))) = true then
    if (decide ((a1).toInt < (((x0).toStr).size : Int))) = true then
      if (decide ((v0).toInt < (48 : Int))) = true then
        some [(D.int (0 : Int)), (D.bool false)]
        else
        if (decide ((a1).toInt ≥ (0 : Int))) = true then
          if (decide ((a1).toInt < (((x0).toStr).size : Int))) = true then
            if (decide ((v0).toInt > (57 : Int))) = true then
              some [(D.int (0 : Int)), (D.bool false)]
              else
              if (decide ((a1).toInt ≥ (0 : Int))) = true then
                if (decide ((a1).toInt < (((x0).toStr).size : Int))) = true then
                  (W_ref15_Num_1 x0) [(D.int (IntKind.i64.wrap ((IntKind.i64.wrap ((a0).toInt * (10 : Int))) + (IntKind.i64.wrap (IntKind.u8.wrap ((v0).toInt - (48 : Int))))))), (D.int (IntKind.i64.wrap ((a1).toInt + (1 : Int))))]
                  else none
                else none
            else none
          else none
      else none
    else none
  else
  bindC (FX 25 [a0]) 1 fun r3 =>
    some [a0, (D.bool (scmpF .eql ((r3.getD 0 D.nil)).toStr (x0).toStr))] := (loopP_eq FX B_ref15_Num_1 [] [x0] _).trans (by kernel_rfl)
theorem E_ref15_Num (x0 : D) : FX 11 [x0] =
  if ((((x0).toStr).size : Int) == (0 : Int)) = true then
  some [(D.int (0 : Int)), (D.bool false)]
  else
  if (decide ((((x0).toStr).size : Int) > (7 : Int))) = true then
    some [(D.int (0 : Int)), (D.bool false)]
    else
    W_ref15_Num_1 x0 [(D.int (0 : Int)), (D.int (0 : Int))] := (fixP_eq (t := T_ref15_Num) (by rfl) _).trans (by kernel_rfl)
noncomputable def W_ref15_Split_1 (x0 : D) : Eng.Fn := loopF fun g xs => evalP FX B_ref15_Split_1 ([] ++ [g]) ([x0] ++ xs)
theorem W_ref15_Split_1_eq (x0 : D) (a0 a1 a2 : D) : W_ref15_Split_1 x0 [a0, a1, a2] =
  let v0 : D := (D.int (IntKind.i64.wrap ((a1).toInt + (1 : Int))))
  let v1 : D := (D.agg ((a2).toL ++ ((D.agg ((D.str (((x0).toStr).extract ((a0).toInt).toNat ((a1).toInt).toNat)) :: (a0 :: []))) :: [])))
  if (decide ((a1).toInt ≤ (((x0).toStr).size : Int))) = true then
  if ((a1).toInt == (((x0).toStr).size : Int)) = true then
    if (decide ((0 : Int) ≤ (a0).toInt)) = true then
      if (decide ((a0).toInt ≤ (a1).toInt)) = true then
        if (decide ((a1).toInt ≤ (((x0).toStr).size : Int))) = true then
          if (decide ((((v1).toL).length : Int) ≤ (5864062014805 : Int))) = true then
            (W_ref15_Split_1 x0) [v0, v0, v1]
            else none
          else none
        else none
      else none
    else
    if (decide ((a1).toInt ≥ (0 : Int))) = true then
      if (decide ((a1).toInt < (((x0).toStr).size : Int))) = true then
        if (((((x0).toStr).data.getD ((a1).toInt).toNat 0).toNat : Int) == (32 : Int)) = true then
          if (decide ((0 : Int) ≤ (a0).toInt)) = true then
            if (decide ((a0).toInt ≤ (a1).toInt)) = true then
              if (decide ((a1).toInt ≤ (((x0).toStr).size : Int))) = true then
                if (decide ((((v1).toL).length : Int) ≤ (5864062014805 : Int))) = true then
                  (W_ref15_Split_1 x0) [v0, v0, v1]
                  else none
                else none
              else none
            else none
          else
          (W_ref15_Split_1 x0) [a0, v0, a2]
        else none
      else none
  else
  some [a2] := (loopP_eq FX B_ref15_Split_1 [] [x0] _).trans (by kernel_rfl)
theorem E_ref15_Split (x0 : D) : FX 21 [x0] =
  W_ref15_Split_1 x0 [(D.int (0 : Int)), (D.int (0 : Int)), (D.agg [])] := (fixP_eq (t := T_ref15_Split) (by rfl) _).trans (by kernel_rfl)
theorem E_ref15_shape (x0 : D) : FX 22 [x0] =
  if (scmpF .eql (x0).toStr ((ByteArray.mk #[115, 117, 98, 109, 105, 116]))) = true then
  some [(D.int (1 : Int)), (D.str ((ByteArray.mk #[110, 110, 115, 110, 110, 110, 110, 110])))]
  else
  if (scmpF .eql (x0).toStr ((ByteArray.mk #[99, 97, 110, 99, 101, 108]))) = true then
    some [(D.int (2 : Int)), (D.str ((ByteArray.mk #[110, 110])))]
    else
    if (scmpF .eql (x0).toStr ((ByteArray.mk #[112, 111, 108, 108]))) = true then
      some [(D.int (3 : Int)), (D.str ((ByteArray.mk #[110])))]
      else
      if (scmpF .eql (x0).toStr ((ByteArray.mk #[118, 105, 101, 119]))) = true then
        some [(D.int (4 : Int)), (D.str ((ByteArray.mk #[])))]
        else
        some [(D.int (0 : Int)), (D.str ((ByteArray.mk #[])))] := (fixP_eq (t := T_ref15_shape) (by rfl) _).trans (by kernel_rfl)
noncomputable def W_ref15_Parse_2 (x0 x1 x2 x3 x4 : D) (g0 : Eng.Fn) : Eng.Fn := loopF fun g xs => evalP FX B_ref15_Parse_2 ([g0] ++ [g]) ([x0, x1, x2, x3, x4] ++ xs)
theorem W_ref15_Parse_2_eq (x0 x1 x2 x3 x4 : D) (g0 : Eng.Fn) (a0 a1 : D) : W_ref15_Parse_2 x0 x1 x2 x3 x4 g0 [a0, a1] =
  let v1 : D := (D.int (IntKind.i64.wrap ((a0).toInt + (1 : Int))))
  let v2 : D := (((a1).toL).getD ((0 : Int)).toNat D.nil)
  let v3 : D := (((a1).toL).getD ((1 : Int)).toNat D.nil)
  let v4 : D := (D.int (IntKind.i64.wrap ((((x4).toStr).size : Int) + (1 : Int))))
  let v5 : D := (((x2).toL).getD ((v1).toInt).toNat D.nil)
  let v6 : D := (D.agg ((a1).toL ++ ((D.int (1 : Int)) :: [])))
  let v7 : D := (D.agg ((a1).toL ++ ((D.int (0 : Int)) :: [])))
  let v8 : D := (((v5).toL).getD 0 D.nil)
  let v9 : D := (((v5).toL).getD 1 D.nil)
  if (decide ((a0).toInt < (((x4).toStr).size : Int))) = true then
  if (decide ((v1).toInt ≥ (((x2).toL).length : Int))) = true then
    some [(D.int (0 : Int)), (D.int (0 : Int)), (D.int (0 : Int)), (D.int (0 : Int)), (D.int (0 : Int)), (D.int (0 : Int)), (D.int (0 : Int)), (D.int (0 : Int)), (D.int (0 : Int)), (D.int (11 : Int)), (D.int (((x0).toStr).size : Int))]
    else
    if (decide ((v1).toInt ≥ (0 : Int))) = true then
      if (decide ((v1).toInt < (((x2).toL).length : Int))) = true then
        if (decide ((a0).toInt ≥ (0 : Int))) = true then
          if (decide ((a0).toInt < (((x4).toStr).size : Int))) = true then
            if (((((x4).toStr).data.getD ((a0).toInt).toNat 0).toNat : Int) == (115 : Int)) = true then
              if (scmpF .neq (v8).toStr ((ByteArray.mk #[98, 117, 121]))) = true then
                if (scmpF .neq (v8).toStr ((ByteArray.mk #[115, 101, 108, 108]))) = true then
                  some [(D.int (0 : Int)), (D.int (0 : Int)), (D.int (0 : Int)), (D.int (0 : Int)), (D.int (0 : Int)), (D.int (0 : Int)), (D.int (0 : Int)), (D.int (0 : Int)), (D.int (0 : Int)), (D.int (10 : Int)), v9]
                  else
                  if (scmpF .eql (v8).toStr ((ByteArray.mk #[115, 101, 108, 108]))) = true then
                    if (decide ((((v6).toL).length : Int) ≤ (17592186044416 : Int))) = true then
                      (W_ref15_Parse_2 x0 x1 x2 x3 x4 g0) [v1, v6]
                      else none
                    else
                    if (decide ((((v7).toL).length : Int) ≤ (17592186044416 : Int))) = true then
                      (W_ref15_Parse_2 x0 x1 x2 x3 x4 g0) [v1, v7]
                      else none
                else
                if (scmpF .eql (v8).toStr ((ByteArray.mk #[115, 101, 108, 108]))) = true then
                  if (decide ((((v6).toL).length : Int) ≤ (17592186044416 : Int))) = true then
                    (W_ref15_Parse_2 x0 x1 x2 x3 x4 g0) [v1, v6]
                    else none
                  else
                  if (decide ((((v7).toL).length : Int) ≤ (17592186044416 : Int))) = true then
                    (W_ref15_Parse_2 x0 x1 x2 x3 x4 g0) [v1, v7]
                    else none
              else
              bindC (FX 11 [v8]) 2 fun r7 =>
                let v10 : D := (D.agg ((a1).toL ++ ((r7.getD 0 D.nil) :: [])))
                if (!((r7.getD 1 D.nil)).toBool) = true then
                some [(D.int (0 : Int)), (D.int (0 : Int)), (D.int (0 : Int)), (D.int (0 : Int)), (D.int (0 : Int)), (D.int (0 : Int)), (D.int (0 : Int)), (D.int (0 : Int)), (D.int (0 : Int)), (D.int (13 : Int)), v9]
                else
                if (decide ((((v10).toL).length : Int) ≤ (17592186044416 : Int))) = true then
                  (W_ref15_Parse_2 x0 x1 x2 x3 x4 g0) [v1, v10]
                  else none
            else none
          else none
        else none
      else none
  else
  if (decide ((((x2).toL).length : Int) > (v4).toInt)) = true then
    if (decide ((v4).toInt ≥ (0 : Int))) = true then
      if (decide ((v4).toInt < (((x2).toL).length : Int))) = true then
        some [(D.int (0 : Int)), (D.int (0 : Int)), (D.int (0 : Int)), (D.int (0 : Int)), (D.int (0 : Int)), (D.int (0 : Int)), (D.int (0 : Int)), (D.int (0 : Int)), (D.int (0 : Int)), (D.int (12 : Int)), ((((((x2).toL).getD ((v4).toInt).toNat D.nil)).toL).getD 1 D.nil)]
        else none
      else none
    else
    if ((x3).toInt == (1 : Int)) = true then
      if (decide ((0 : Int) < (((a1).toL).length : Int))) = true then
        if (decide ((1 : Int) < (((a1).toL).length : Int))) = true then
          if (decide ((2 : Int) < (((a1).toL).length : Int))) = true then
            if (decide ((3 : Int) < (((a1).toL).length : Int))) = true then
              if (decide ((4 : Int) < (((a1).toL).length : Int))) = true then
                if (decide ((5 : Int) < (((a1).toL).length : Int))) = true then
                  if (decide ((6 : Int) < (((a1).toL).length : Int))) = true then
                    if (decide ((7 : Int) < (((a1).toL).length : Int))) = true then
                      some [x3, v2, v3, (((a1).toL).getD ((3 : Int)).toNat D.nil), (((a1).toL).getD ((2 : Int)).toNat D.nil), (((a1).toL).getD ((5 : Int)).toNat D.nil), (((a1).toL).getD ((6 : Int)).toNat D.nil), (((a1).toL).getD ((7 : Int)).toNat D.nil), (((a1).toL).getD ((4 : Int)).toNat D.nil), (D.int (0 : Int)), (D.int (0 : Int))]
                      else none
                    else none
                  else none
                else none
              else none
            else none
          else none
        else none
      else
      if ((x3).toInt == (2 : Int)) = true then
        if (decide ((0 : Int) < (((a1).toL).length : Int))) = true then
          if (decide ((1 : Int) < (((a1).toL).length : Int))) = true then
            some [x3, v2, v3, (D.int (0 : Int)), (D.int (0 : Int)), (D.int (0 : Int)), (D.int (0 : Int)), (D.int (0 : Int)), (D.int (0 : Int)), (D.int (0 : Int)), (D.int (0 : Int))]
            else none
          else none
        else
        if ((x3).toInt == (3 : Int)) = true then
          if (decide ((0 : Int) < (((a1).toL).length : Int))) = true then
            some [x3, (D.int (0 : Int)), v2, (D.int (0 : Int)), (D.int (0 : Int)), (D.int (0 : Int)), (D.int (0 : Int)), (D.int (0 : Int)), (D.int (0 : Int)), (D.int (0 : Int)), (D.int (0 : Int))]
            else none
          else
          some [x3, (D.int (0 : Int)), (D.int (0 : Int)), (D.int (0 : Int)), (D.int (0 : Int)), (D.int (0 : Int)), (D.int (0 : Int)), (D.int (0 : Int)), (D.int (0 : Int)), (D.int (0 : Int)), (D.int (0 : Int))] := (loopP_eq FX B_ref15_Parse_2 [g0] [x0, x1, x2, x3, x4] _).trans (by kernel_rfl)
noncomputable def W_ref15_Parse_1 (x0 : D) : Eng.Fn := loopF fun g xs => evalP FX B_ref15_Parse_1 ([] ++ [g]) ([x0] ++ xs)
theorem W_ref15_Parse_1_eq (x0 : D) (a0 : D) : W_ref15_Parse_1 x0 [a0] =
  let v0 : D := (D.int ((((x0).toStr).data.getD ((a0).toInt).toNat 0).toNat : Int))
  if (decide ((a0).toInt < (((x0).toStr).size : Int))) = true then
  if (decide ((a0).toInt ≥ (0 : Int))) = true then
    if (decide ((a0).toInt < (((x0).toStr).size : Int))) = true then
      if (decide ((v0).toInt < (32 : Int))) = true then
        some [(D.int (0 : Int)), (D.int (0 : Int)), (D.int (0 : Int)), (D.int (0 : Int)), (D.int (0 : Int)), (D.int (0 : Int)), (D.int (0 : Int)), (D.int (0 : Int)), (D.int (0 : Int)), (D.int (15 : Int)), a0]
        else
        if (decide ((a0).toInt ≥ (0 : Int))) = true then
          if (decide ((a0).toInt < (((x0).toStr).size : Int))) = true then
            if (decide ((v0).toInt > (126 : Int))) = true then
              some [(D.int (0 : Int)), (D.int (0 : Int)), (D.int (0 : Int)), (D.int (0 : Int)), (D.int (0 : Int)), (D.int (0 : Int)), (D.int (0 : Int)), (D.int (0 : Int)), (D.int (0 : Int)), (D.int (15 : Int)), a0]
              else
              (W_ref15_Parse_1 x0) [(D.int (IntKind.i64.wrap ((a0).toInt + (1 : Int))))]
            else none
          else none
      else none
    else none
  else
  bindC (FX 21 [x0]) 1 fun r2 =>
    if (decide ((0 : Int) < ((((r2.getD 0 D.nil)).toL).length : Int))) = true then
    bindC (FX 22 [(((((((r2.getD 0 D.nil)).toL).getD ((0 : Int)).toNat D.nil)).toL).getD 0 D.nil)]) 2 fun r3 =>
      if (((r3.getD 0 D.nil)).toInt == (0 : Int)) = true then
      some [(D.int (0 : Int)), (D.int (0 : Int)), (D.int (0 : Int)), (D.int (0 : Int)), (D.int (0 : Int)), (D.int (0 : Int)), (D.int (0 : Int)), (D.int (0 : Int)), (D.int (0 : Int)), (D.int (10 : Int)), (D.int (0 : Int))]
      else
      W_ref15_Parse_2 x0 a0 (r2.getD 0 D.nil) (r3.getD 0 D.nil) (r3.getD 1 D.nil) ((W_ref15_Parse_1 x0)) [(D.int (0 : Int)), (D.agg [])]
    else none := (loopP_eq FX B_ref15_Parse_1 [] [x0] _).trans (by kernel_rfl)
theorem E_ref15_Parse (x0 : D) : FX 7 [x0] =
  if (decide ((((x0).toStr).size : Int) > (200 : Int))) = true then
  some [(D.int (0 : Int)), (D.int (0 : Int)), (D.int (0 : Int)), (D.int (0 : Int)), (D.int (0 : Int)), (D.int (0 : Int)), (D.int (0 : Int)), (D.int (0 : Int)), (D.int (0 : Int)), (D.int (14 : Int)), (D.int (200 : Int))]
  else
  W_ref15_Parse_1 x0 [(D.int (0 : Int))] := (fixP_eq (t := T_ref15_Parse) (by rfl) _).trans (by kernel_rfl)
noncomputable def W_law01_Num_1 (x0 : D) : Eng.Fn := loopF fun g xs => evalP FX B_law01_Num_1 ([] ++ [g]) ([x0] ++ xs)
theorem W_law01_Num_1_eq (x0 : D) (a0 : D) : W_law01_Num_1 x0 [a0] =
  if (decide ((a0).toInt < (30 : Int))) = true then
  bindC (FX 23 [x0, (D.iface 42 a0)]) 1 fun r2 =>
    if ((r2.getD 0 D.nil)).toBool = true then
    some [a0]
    else
    (W_law01_Num_1 x0) [(D.int (IntKind.i64.wrap ((a0).toInt + (1 : Int))))]
  else
  some [(D.int (-1 : Int))] := (loopP_eq FX B_law01_Num_1 [] [x0] _).trans (by kernel_rfl)
theorem E_law01_Num (x0 : D) : FX 8 [x0] =
  if (x0).isNil = true then
  some [(D.int (0 : Int))]
  else
  W_law01_Num_1 x0 [(D.int (1 : Int))] := (fixP_eq (t := T_law01_Num) (by rfl) _).trans (by kernel_rfl)
theorem E_law15_From (x0 x1 x2 x3 x4 x5 x6 x7 x8 : D) : FX 9 [x0, x1, x2, x3, x4, x5, x6, x7, x8] =
  some [x0, x1, x2, x3, x4, x5, x6, x7, x8] := (fixP_eq (t := T_law15_From) (by rfl) _).trans (by kernel_rfl)
theorem E_law15_LineParses (x0 x1 : D) : FX 4 [x0, x1] =
  if (decide ((((x0).toStr).size : Int) > (1000 : Int))) = true then
  bindC (FX 5 [(D.agg [])]) 2 fun r2 =>
    some [(r2.getD 0 D.nil)]
  else
  if (decide ((((x1).toStr).size : Int) > (1000 : Int))) = true then
    bindC (FX 5 [(D.agg [])]) 2 fun r2 =>
      some [(r2.getD 0 D.nil)]
    else
    bindC (FX 6 [x0, (D.agg [])]) 11 fun r2 =>
      bindC (FX 7 [x0]) 11 fun r13 =>
      bindC (FX 8 [(r2.getD 9 D.nil)]) 1 fun r24 =>
      if (((r24.getD 0 D.nil)).toInt != ((r13.getD 9 D.nil)).toInt) = true then
      some [(D.bool false)]
      else
      bindC (FX 9 [(r2.getD 0 D.nil), (r2.getD 1 D.nil), (r2.getD 2 D.nil), (r2.getD 3 D.nil), (r2.getD 4 D.nil), (r2.getD 5 D.nil), (r2.getD 6 D.nil), (r2.getD 7 D.nil), (r2.getD 8 D.nil)]) 9 fun r25 =>
        if (!((((r25.getD 0 D.nil)).toInt == ((r13.getD 0 D.nil)).toInt) && ((((r25.getD 1 D.nil)).toInt == ((r13.getD 1 D.nil)).toInt) && ((((r25.getD 2 D.nil)).toInt == ((r13.getD 2 D.nil)).toInt) && (((((r25.getD 3 D.nil)).toInt == ((r13.getD 3 D.nil)).toInt) && ((((r25.getD 4 D.nil)).toInt == ((r13.getD 4 D.nil)).toInt) && ((((r25.getD 5 D.nil)).toInt == ((r13.getD 5 D.nil)).toInt) && ((((r25.getD 6 D.nil)).toInt == ((r13.getD 6 D.nil)).toInt) && (((r25.getD 7 D.nil)).toInt == ((r13.getD 7 D.nil)).toInt))))) && (((r25.getD 8 D.nil)).toInt == ((r13.getD 8 D.nil)).toInt)))))) = true then
        some [(D.bool false)]
        else
        if (((r13.getD 9 D.nil)).toInt != (0 : Int)) = true then
          bindC (FX 10 [(r2.getD 9 D.nil), (r2.getD 10 D.nil)]) 3 fun r34 =>
            if (!((r34.getD 1 D.nil)).toBool) = true then
            some [(D.bool false)]
            else
            if (((r34.getD 0 D.nil)).toInt != ((r13.getD 10 D.nil)).toInt) = true then
              some [(D.bool false)]
              else
              bindC (FX 11 [x1]) 2 fun r37 =>
                bindC (FX 5 [(r34.getD 2 D.nil)]) 2 fun r39 =>
                if ((r39.getD 0 D.nil)).toBool = true then
                bindC (FX 12 [x1]) 1 fun r41 =>
                  some [(D.bool (((r41.getD 0 D.nil)).toBool == ((r37.getD 1 D.nil)).toBool))]
                else
                some [(D.bool false)]
          else
          bindC (FX 11 [x1]) 2 fun r34 =>
            bindC (FX 5 [(r2.getD 10 D.nil)]) 2 fun r36 =>
            if ((r36.getD 0 D.nil)).toBool = true then
            bindC (FX 12 [x1]) 1 fun r38 =>
              some [(D.bool (((r38.getD 0 D.nil)).toBool == ((r34.getD 1 D.nil)).toBool))]
            else
            some [(D.bool false)] := (fixP_eq (t := T_law15_LineParses) (by rfl) _).trans (by kernel_rfl)
end Go.Proofs.YtobacchojjfpfaaDoor
