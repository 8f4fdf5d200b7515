/-
  The functions, as equations.
-/
import Derived.Test.YtobacchojjfpfaaGreatDoorAll
namespace Go.Proofs.YtobacchojjfpfaaGreatDoor
open Go.Proofs.YtobacchojjfpfaaGreatDoor.Eng
set_option linter.unusedVariables false
set_option maxRecDepth 20000
theorem E_fault_At (x0 x1 : D) : FX 15 [x0, x1] =
  if (x1).isNil = true then
  some [D.nil]
  else
  some [(D.iface 62 (D.agg (x0 :: (x1 :: []))))] := (fixP_eq (t := T_fault_At) (by rfl) _).trans (by kernel_rfl)
noncomputable def W_line_bytes_1 (x0 : D) : Eng.Fn := loopF fun g xs => evalP FX B_line_bytes_1 ([] ++ [g]) ([x0] ++ xs)
theorem W_line_bytes_1_eq (x0 : D) (a0 : D) : W_line_bytes_1 x0 [a0] =
  let v0 : D := (D.int ((((x0).toStr).data.getD ((a0).toInt).toNat 0).toNat : Int))
  if (decide ((a0).toInt < (((x0).toStr).size : Int))) = true then
  if (decide ((a0).toInt ≥ (0 : Int))) = true then
    if (decide ((a0).toInt < (((x0).toStr).size : Int))) = true then
      if (decide ((v0).toInt < (32 : Int))) = true then
        some [a0]
        else
        if (decide ((a0).toInt ≥ (0 : Int))) = true then
          if (decide ((a0).toInt < (((x0).toStr).size : Int))) = true then
            if (decide ((v0).toInt > (126 : Int))) = true then
              some [a0]
              else
              (W_line_bytes_1 x0) [(D.int (IntKind.i64.wrap ((a0).toInt + (1 : Int))))]
            else none
          else none
      else none
    else none
  else
  some [(D.int (-1 : Int))] := (loopP_eq FX B_line_bytes_1 [] [x0] _).trans (by kernel_rfl)
theorem E_line_bytes (x0 : D) : FX 16 [x0] =
  W_line_bytes_1 x0 [(D.int (0 : Int))] := (fixP_eq (t := T_line_bytes) (by rfl) _).trans (by kernel_rfl)
noncomputable def W_fault_First_1 (x0 : D) : Eng.Fn := loopF fun g xs => evalP FX B_fault_First_1 ([] ++ [g]) ([x0] ++ xs)
theorem W_fault_First_1_eq (x0 : D) (a0 : D) : W_fault_First_1 x0 [a0] =
  let v0 : D := (((x0).toL).getD ((a0).toInt).toNat D.nil)
  if (decide ((a0).toInt < (((x0).toL).length : Int))) = true then
  if (decide ((a0).toInt ≥ (0 : Int))) = true then
    if (decide ((a0).toInt < (((x0).toL).length : Int))) = true then
      if (!(v0).isNil) = true then
        some [v0]
        else
        (W_fault_First_1 x0) [(D.int (IntKind.i64.wrap ((a0).toInt + (1 : Int))))]
      else none
    else none
  else
  some [D.nil] := (loopP_eq FX B_fault_First_1 [] [x0] _).trans (by kernel_rfl)
theorem E_fault_First (x0 : D) : FX 32 [x0] =
  W_fault_First_1 x0 [(D.int (0 : Int))] := (fixP_eq (t := T_fault_First) (by rfl) _).trans (by kernel_rfl)
theorem E_p_line_reader_fail (x0 x1 x2 x3 : D) : FX 21 [x0, x1, x2, x3] =
  let v0 : D := (((x3).toL).getD ((x0).toInt).toNat D.nil)
  if (!(x0).isNil) = true then
  bindC (FX 15 [x1, (D.iface 45 x2)]) 1 fun r4 =>
    bindC (FX 32 [(D.agg ((((v0).toL).getD 4 D.nil) :: ((r4.getD 0 D.nil) :: [])))]) 1 fun r5 =>
    if (!(x0).isNil) = true then
    some [(D.agg (((x3).toL).set ((x0).toInt).toNat (D.agg (((List.range 5).map fun j => ((v0).toL).getD j D.nil).set 4 (r5.getD 0 D.nil)))))]
    else none
  else none := (fixP_eq (t := T_p_line_reader_fail) (by rfl) _).trans (by kernel_rfl)
theorem E_p_line_reader_next (x0 x1 : D) : FX 18 [x0, x1] =
  let v0 : D := (((x1).toL).getD ((x0).toInt).toNat D.nil)
  let v1 : D := (((v0).toL).getD 1 D.nil)
  let v2 : D := (((v0).toL).getD 0 D.nil)
  let v3 : D := (((v0).toL).getD 2 D.nil)
  let v4 : D := (D.int (((v2).toL).length : Int))
  let v5 : D := (((v2).toL).getD ((v1).toInt).toNat D.nil)
  if (!(x0).isNil) = true then
  if (!(x0).isNil) = true then
    if ((v1).toInt == (v4).toInt) = true then
      if (!(x0).isNil) = true then
        bindC (FX 21 [x0, (((v0).toL).getD 3 D.nil), (D.int (11 : Int)), x1]) 1 fun r2 =>
          if (!(x0).isNil) = true then
          some [(D.str ((ByteArray.mk #[]))), (((((((r2.getD 0 D.nil)).toL).getD ((x0).toInt).toNat D.nil)).toL).getD 3 D.nil), (r2.getD 0 D.nil)]
          else none
        else none
      else
      if (!(x0).isNil) = true then
        if (!(x0).isNil) = true then
          if (decide ((v1).toInt ≥ (0 : Int))) = true then
            if (decide ((v1).toInt < (v4).toInt)) = true then
              if (!(x0).isNil) = true then
                if (!(x0).isNil) = true then
                  if (!(x0).isNil) = true then
                    if (!(x0).isNil) = true then
                      if (!(x0).isNil) = true then
                        some [v5, v3, (D.agg (((x1).toL).set ((x0).toInt).toNat (D.agg (((List.range 5).map fun j => ((((List.range 5).map fun j => ((v0).toL).getD j D.nil).set 1 (D.int (IntKind.i64.wrap ((v1).toInt + (1 : Int)))))).getD j D.nil).set 2 (D.int (IntKind.i64.wrap ((v3).toInt + (IntKind.i64.wrap ((((v5).toStr).size : Int) + (1 : Int))))))))))]
                        else none
                      else none
                    else none
                  else none
                else none
              else none
            else none
          else none
        else none
    else none
  else none := (fixP_eq (t := T_p_line_reader_next) (by rfl) _).trans (by kernel_rfl)
noncomputable def W_line_Digits_1 (x0 : D) : Eng.Fn := loopF fun g xs => evalP FX B_line_Digits_1 ([] ++ [g]) ([x0] ++ xs)
theorem W_line_Digits_1_eq (x0 : D) (a0 : D) : W_line_Digits_1 x0 [a0] =
  let v0 : D := (D.int ((((x0).toStr).data.getD ((a0).toInt).toNat 0).toNat : Int))
  if (decide ((a0).toInt < (((x0).toStr).size : Int))) = true then
  if (decide ((a0).toInt ≥ (0 : Int))) = true then
    if (decide ((a0).toInt < (((x0).toStr).size : Int))) = true then
      if (decide ((v0).toInt < (48 : Int))) = true then
        some [(D.bool false)]
        else
        if (decide ((a0).toInt ≥ (0 : Int))) = true then
          if (decide ((a0).toInt < (((x0).toStr).size : Int))) = true then
            if (decide ((v0).toInt > (57 : Int))) = true then
              some [(D.bool false)]
              else
              (W_line_Digits_1 x0) [(D.int (IntKind.i64.wrap ((a0).toInt + (1 : Int))))]
            else none
          else none
      else none
    else none
  else
  some [(D.bool true)] := (loopP_eq FX B_line_Digits_1 [] [x0] _).trans (by kernel_rfl)
noncomputable def W_line_Digits_2 (x0 : D) : Eng.Fn := loopF fun g xs => evalP FX B_line_Digits_2 ([] ++ [g]) ([x0] ++ xs)
theorem W_line_Digits_2_eq (x0 : D) (a0 : D) : W_line_Digits_2 x0 [a0] =
  let v1 : D := (D.int ((((x0).toStr).data.getD ((a0).toInt).toNat 0).toNat : Int))
  if (decide ((a0).toInt < (((x0).toStr).size : Int))) = true then
  if (decide ((a0).toInt ≥ (0 : Int))) = true then
    if (decide ((a0).toInt < (((x0).toStr).size : Int))) = true then
      if (decide ((v1).toInt < (48 : Int))) = true then
        some [(D.bool false)]
        else
        if (decide ((a0).toInt ≥ (0 : Int))) = true then
          if (decide ((a0).toInt < (((x0).toStr).size : Int))) = true then
            if (decide ((v1).toInt > (57 : Int))) = true then
              some [(D.bool false)]
              else
              (W_line_Digits_2 x0) [(D.int (IntKind.i64.wrap ((a0).toInt + (1 : Int))))]
            else none
          else none
      else none
    else none
  else
  some [(D.bool true)] := (loopP_eq FX B_line_Digits_2 [] [x0] _).trans (by kernel_rfl)
theorem E_line_Digits (x0 : D) : FX 30 [x0] =
  if (scmpF .eql (x0).toStr ((ByteArray.mk #[]))) = true then
  some [(D.bool false)]
  else
  if (decide ((((x0).toStr).size : Int) > (7 : Int))) = true then
    some [(D.bool false)]
    else
    if (decide ((0 : Int) < (((x0).toStr).size : Int))) = true then
      if (((((x0).toStr).data.getD ((0 : Int)).toNat 0).toNat : Int) == (48 : Int)) = true then
        if (scmpF .neq (x0).toStr ((ByteArray.mk #[48]))) = true then
          some [(D.bool false)]
          else
          W_line_Digits_1 x0 [(D.int (0 : Int))]
        else
        W_line_Digits_2 x0 [(D.int (0 : Int))]
      else none := (fixP_eq (t := T_line_Digits) (by rfl) _).trans (by kernel_rfl)
theorem E_p_line_reader_num (x0 x1 : D) : FX 19 [x0, x1] =
  bindC (FX 18 [x0, x1]) 3 fun r2 =>
  bindC (FX 30 [(r2.getD 0 D.nil)]) 1 fun r5 =>
  if (!((r5.getD 0 D.nil)).toBool) = true then
  bindC (FX 21 [x0, (r2.getD 1 D.nil), (D.int (13 : Int)), (r2.getD 2 D.nil)]) 1 fun r6 =>
    some [(D.int (0 : Int)), (r6.getD 0 D.nil)]
  else
  bindC (FX 31 [(r2.getD 0 D.nil)]) 2 fun r6 =>
    some [(r6.getD 0 D.nil), (r2.getD 2 D.nil)] := (fixP_eq (t := T_p_line_reader_num) (by rfl) _).trans (by kernel_rfl)
theorem E_terms_Name (x0 : D) : FX 23 [x0] =
  if ((x0).toInt == (0 : Int)) = true then
  some [(D.str ((ByteArray.mk #[98, 117, 121])))]
  else
  if ((x0).toInt == (1 : Int)) = true then
    some [(D.str ((ByteArray.mk #[115, 101, 108, 108])))]
    else
    some [(D.str ((ByteArray.mk #[63])))] := (fixP_eq (t := T_terms_Name) (by rfl) _).trans (by kernel_rfl)
theorem E_p_line_reader_side (x0 x1 : D) : FX 20 [x0, x1] =
  bindC (FX 18 [x0, x1]) 3 fun r2 =>
  bindC (FX 23 [(D.int (0 : Int))]) 1 fun r5 =>
  if (scmpF .eql ((r2.getD 0 D.nil)).toStr ((r5.getD 0 D.nil)).toStr) = true then
  some [(D.int (0 : Int)), (r2.getD 2 D.nil)]
  else
  bindC (FX 23 [(D.int (1 : Int))]) 1 fun r6 =>
    if (scmpF .eql ((r2.getD 0 D.nil)).toStr ((r6.getD 0 D.nil)).toStr) = true then
    some [(D.int (1 : Int)), (r2.getD 2 D.nil)]
    else
    bindC (FX 21 [x0, (r2.getD 1 D.nil), (D.int (10 : Int)), (r2.getD 2 D.nil)]) 1 fun r7 =>
      some [(D.int (0 : Int)), (r7.getD 0 D.nil)] := (fixP_eq (t := T_p_line_reader_side) (by rfl) _).trans (by kernel_rfl)
theorem E_line_Parse (x0 x1 : D) : FX 6 [x0, x1] =
  let v0 : D := (D.agg ((D.str ((ByteArray.mk #[]))) :: ((D.str ((ByteArray.mk #[115, 117, 98, 109, 105, 116]))) :: ((D.str ((ByteArray.mk #[99, 97, 110, 99, 101, 108]))) :: ((D.str ((ByteArray.mk #[112, 111, 108, 108]))) :: ((D.str ((ByteArray.mk #[118, 105, 101, 119]))) :: []))))))
  let v1 : D := (D.int (((v0).toL).length : Int))
  if (decide ((((x0).toStr).size : Int) > (200 : Int))) = true then
  bindC (FX 15 [(D.int (200 : Int)), (D.iface 45 (D.int (14 : Int)))]) 1 fun r2 =>
    some [(D.int (0 : Int)), (D.int (0 : Int)), (D.int (0 : Int)), (D.int (0 : Int)), (D.int (0 : Int)), (D.int (0 : Int)), (D.int (0 : Int)), (D.int (0 : Int)), (D.int (0 : Int)), (r2.getD 0 D.nil), x1]
  else
  bindC (FX 16 [x0]) 1 fun r2 =>
    if (decide (((r2.getD 0 D.nil)).toInt ≥ (0 : Int))) = true then
    bindC (FX 15 [(r2.getD 0 D.nil), (D.iface 45 (D.int (15 : Int)))]) 1 fun r3 =>
      some [(D.int (0 : Int)), (D.int (0 : Int)), (D.int (0 : Int)), (D.int (0 : Int)), (D.int (0 : Int)), (D.int (0 : Int)), (D.int (0 : Int)), (D.int (0 : Int)), (D.int (0 : Int)), (r3.getD 0 D.nil), x1]
    else
    bindC (FX 17 [x0, (D.str ((ByteArray.mk #[32])))]) 1 fun r3 =>
      bindC (FX 18 [(D.int (((x1).toL).length : Int)), (D.agg ((x1).toL ++ ((D.agg ((r3.getD 0 D.nil) :: ((D.int (0 : Int)) :: ((D.int (0 : Int)) :: ((D.int (((x0).toStr).size : Int)) :: (D.nil :: [])))))) :: [])))]) 3 fun r4 =>
      let v2 : D := ((((r4.getD 2 D.nil)).toL).getD ((((x1).toL).length : Int)).toNat D.nil)
      let v3 : D := (((v2).toL).getD 4 D.nil)
      if (decide ((1 : Int) < (v1).toInt)) = true then
      if (decide ((1 : Int) < (5 : Int))) = true then
        if (scmpF .eql ((r4.getD 0 D.nil)).toStr ((((v0).toL).getD ((1 : Int)).toNat D.nil)).toStr) = true then
          bindC (FX 19 [(D.int (((x1).toL).length : Int)), (r4.getD 2 D.nil)]) 2 fun r7 =>
            bindC (FX 19 [(D.int (((x1).toL).length : Int)), (r7.getD 1 D.nil)]) 2 fun r9 =>
            bindC (FX 20 [(D.int (((x1).toL).length : Int)), (r9.getD 1 D.nil)]) 2 fun r11 =>
            bindC (FX 19 [(D.int (((x1).toL).length : Int)), (r11.getD 1 D.nil)]) 2 fun r13 =>
            bindC (FX 19 [(D.int (((x1).toL).length : Int)), (r13.getD 1 D.nil)]) 2 fun r15 =>
            bindC (FX 19 [(D.int (((x1).toL).length : Int)), (r15.getD 1 D.nil)]) 2 fun r17 =>
            bindC (FX 19 [(D.int (((x1).toL).length : Int)), (r17.getD 1 D.nil)]) 2 fun r19 =>
            bindC (FX 19 [(D.int (((x1).toL).length : Int)), (r19.getD 1 D.nil)]) 2 fun r21 =>
            let v4 : D := ((((r21.getD 1 D.nil)).toL).getD ((((x1).toL).length : Int)).toNat D.nil)
            let v5 : D := (((v4).toL).getD 4 D.nil)
            if (v5).isNil = true then
            if (decide (((((v4).toL).getD 1 D.nil)).toInt < ((((((v4).toL).getD 0 D.nil)).toL).length : Int))) = true then
              bindC (FX 21 [(D.int (((x1).toL).length : Int)), (((v4).toL).getD 2 D.nil), (D.int (12 : Int)), (r21.getD 1 D.nil)]) 1 fun r23 =>
                let v6 : D := (((((((r23.getD 0 D.nil)).toL).getD ((((x1).toL).length : Int)).toNat D.nil)).toL).getD 4 D.nil)
                if (!(v6).isNil) = true then
                some [(D.int (0 : Int)), (D.int (0 : Int)), (D.int (0 : Int)), (D.int (0 : Int)), (D.int (0 : Int)), (D.int (0 : Int)), (D.int (0 : Int)), (D.int (0 : Int)), (D.int (0 : Int)), v6, (r23.getD 0 D.nil)]
                else
                some [(D.int (1 : Int)), (r7.getD 0 D.nil), (r9.getD 0 D.nil), (r13.getD 0 D.nil), (r11.getD 0 D.nil), (r17.getD 0 D.nil), (r19.getD 0 D.nil), (r21.getD 0 D.nil), (r15.getD 0 D.nil), D.nil, (r23.getD 0 D.nil)]
              else
              if (!(v5).isNil) = true then
                some [(D.int (0 : Int)), (D.int (0 : Int)), (D.int (0 : Int)), (D.int (0 : Int)), (D.int (0 : Int)), (D.int (0 : Int)), (D.int (0 : Int)), (D.int (0 : Int)), (D.int (0 : Int)), v5, (r21.getD 1 D.nil)]
                else
                some [(D.int (1 : Int)), (r7.getD 0 D.nil), (r9.getD 0 D.nil), (r13.getD 0 D.nil), (r11.getD 0 D.nil), (r17.getD 0 D.nil), (r19.getD 0 D.nil), (r21.getD 0 D.nil), (r15.getD 0 D.nil), D.nil, (r21.getD 1 D.nil)]
            else
            if (!(v5).isNil) = true then
              some [(D.int (0 : Int)), (D.int (0 : Int)), (D.int (0 : Int)), (D.int (0 : Int)), (D.int (0 : Int)), (D.int (0 : Int)), (D.int (0 : Int)), (D.int (0 : Int)), (D.int (0 : Int)), v5, (r21.getD 1 D.nil)]
              else
              some [(D.int (1 : Int)), (r7.getD 0 D.nil), (r9.getD 0 D.nil), (r13.getD 0 D.nil), (r11.getD 0 D.nil), (r17.getD 0 D.nil), (r19.getD 0 D.nil), (r21.getD 0 D.nil), (r15.getD 0 D.nil), D.nil, (r21.getD 1 D.nil)]
          else
          if (decide ((2 : Int) < (v1).toInt)) = true then
            if (decide ((2 : Int) < (5 : Int))) = true then
              if (scmpF .eql ((r4.getD 0 D.nil)).toStr ((((v0).toL).getD ((2 : Int)).toNat D.nil)).toStr) = true then
                bindC (FX 19 [(D.int (((x1).toL).length : Int)), (r4.getD 2 D.nil)]) 2 fun r7 =>
                  bindC (FX 19 [(D.int (((x1).toL).length : Int)), (r7.getD 1 D.nil)]) 2 fun r9 =>
                  let v7 : D := ((((r9.getD 1 D.nil)).toL).getD ((((x1).toL).length : Int)).toNat D.nil)
                  let v8 : D := (((v7).toL).getD 4 D.nil)
                  if (v8).isNil = true then
                  if (decide (((((v7).toL).getD 1 D.nil)).toInt < ((((((v7).toL).getD 0 D.nil)).toL).length : Int))) = true then
                    bindC (FX 21 [(D.int (((x1).toL).length : Int)), (((v7).toL).getD 2 D.nil), (D.int (12 : Int)), (r9.getD 1 D.nil)]) 1 fun r11 =>
                      let v9 : D := (((((((r11.getD 0 D.nil)).toL).getD ((((x1).toL).length : Int)).toNat D.nil)).toL).getD 4 D.nil)
                      if (!(v9).isNil) = true then
                      some [(D.int (0 : Int)), (D.int (0 : Int)), (D.int (0 : Int)), (D.int (0 : Int)), (D.int (0 : Int)), (D.int (0 : Int)), (D.int (0 : Int)), (D.int (0 : Int)), (D.int (0 : Int)), v9, (r11.getD 0 D.nil)]
                      else
                      some [(D.int (2 : Int)), (r7.getD 0 D.nil), (r9.getD 0 D.nil), (D.int (0 : Int)), (D.int (0 : Int)), (D.int (0 : Int)), (D.int (0 : Int)), (D.int (0 : Int)), (D.int (0 : Int)), D.nil, (r11.getD 0 D.nil)]
                    else
                    if (!(v8).isNil) = true then
                      some [(D.int (0 : Int)), (D.int (0 : Int)), (D.int (0 : Int)), (D.int (0 : Int)), (D.int (0 : Int)), (D.int (0 : Int)), (D.int (0 : Int)), (D.int (0 : Int)), (D.int (0 : Int)), v8, (r9.getD 1 D.nil)]
                      else
                      some [(D.int (2 : Int)), (r7.getD 0 D.nil), (r9.getD 0 D.nil), (D.int (0 : Int)), (D.int (0 : Int)), (D.int (0 : Int)), (D.int (0 : Int)), (D.int (0 : Int)), (D.int (0 : Int)), D.nil, (r9.getD 1 D.nil)]
                  else
                  if (!(v8).isNil) = true then
                    some [(D.int (0 : Int)), (D.int (0 : Int)), (D.int (0 : Int)), (D.int (0 : Int)), (D.int (0 : Int)), (D.int (0 : Int)), (D.int (0 : Int)), (D.int (0 : Int)), (D.int (0 : Int)), v8, (r9.getD 1 D.nil)]
                    else
                    some [(D.int (2 : Int)), (r7.getD 0 D.nil), (r9.getD 0 D.nil), (D.int (0 : Int)), (D.int (0 : Int)), (D.int (0 : Int)), (D.int (0 : Int)), (D.int (0 : Int)), (D.int (0 : Int)), D.nil, (r9.getD 1 D.nil)]
                else
                if (decide ((3 : Int) < (v1).toInt)) = true then
                  if (decide ((3 : Int) < (5 : Int))) = true then
                    if (scmpF .eql ((r4.getD 0 D.nil)).toStr ((((v0).toL).getD ((3 : Int)).toNat D.nil)).toStr) = true then
                      bindC (FX 19 [(D.int (((x1).toL).length : Int)), (r4.getD 2 D.nil)]) 2 fun r7 =>
                        let v10 : D := ((((r7.getD 1 D.nil)).toL).getD ((((x1).toL).length : Int)).toNat D.nil)
                        let v11 : D := (((v10).toL).getD 4 D.nil)
                        if (v11).isNil = true then
                        if (decide (((((v10).toL).getD 1 D.nil)).toInt < ((((((v10).toL).getD 0 D.nil)).toL).length : Int))) = true then
                          bindC (FX 21 [(D.int (((x1).toL).length : Int)), (((v10).toL).getD 2 D.nil), (D.int (12 : Int)), (r7.getD 1 D.nil)]) 1 fun r9 =>
                            let v12 : D := (((((((r9.getD 0 D.nil)).toL).getD ((((x1).toL).length : Int)).toNat D.nil)).toL).getD 4 D.nil)
                            if (!(v12).isNil) = true then
                            some [(D.int (0 : Int)), (D.int (0 : Int)), (D.int (0 : Int)), (D.int (0 : Int)), (D.int (0 : Int)), (D.int (0 : Int)), (D.int (0 : Int)), (D.int (0 : Int)), (D.int (0 : Int)), v12, (r9.getD 0 D.nil)]
                            else
                            some [(D.int (3 : Int)), (D.int (0 : Int)), (r7.getD 0 D.nil), (D.int (0 : Int)), (D.int (0 : Int)), (D.int (0 : Int)), (D.int (0 : Int)), (D.int (0 : Int)), (D.int (0 : Int)), D.nil, (r9.getD 0 D.nil)]
                          else
                          if (!(v11).isNil) = true then
                            some [(D.int (0 : Int)), (D.int (0 : Int)), (D.int (0 : Int)), (D.int (0 : Int)), (D.int (0 : Int)), (D.int (0 : Int)), (D.int (0 : Int)), (D.int (0 : Int)), (D.int (0 : Int)), v11, (r7.getD 1 D.nil)]
                            else
                            some [(D.int (3 : Int)), (D.int (0 : Int)), (r7.getD 0 D.nil), (D.int (0 : Int)), (D.int (0 : Int)), (D.int (0 : Int)), (D.int (0 : Int)), (D.int (0 : Int)), (D.int (0 : Int)), D.nil, (r7.getD 1 D.nil)]
                        else
                        if (!(v11).isNil) = true then
                          some [(D.int (0 : Int)), (D.int (0 : Int)), (D.int (0 : Int)), (D.int (0 : Int)), (D.int (0 : Int)), (D.int (0 : Int)), (D.int (0 : Int)), (D.int (0 : Int)), (D.int (0 : Int)), v11, (r7.getD 1 D.nil)]
                          else
                          some [(D.int (3 : Int)), (D.int (0 : Int)), (r7.getD 0 D.nil), (D.int (0 : Int)), (D.int (0 : Int)), (D.int (0 : Int)), (D.int (0 : Int)), (D.int (0 : Int)), (D.int (0 : Int)), D.nil, (r7.getD 1 D.nil)]
                      else
                      if (decide ((4 : Int) < (v1).toInt)) = true then
                        if (decide ((4 : Int) < (5 : Int))) = true then
                          if (scmpF .eql ((r4.getD 0 D.nil)).toStr ((((v0).toL).getD ((4 : Int)).toNat D.nil)).toStr) = true then
                            if (v3).isNil = true then
                              if (decide (((((v2).toL).getD 1 D.nil)).toInt < ((((((v2).toL).getD 0 D.nil)).toL).length : Int))) = true then
                                bindC (FX 21 [(D.int (((x1).toL).length : Int)), (((v2).toL).getD 2 D.nil), (D.int (12 : Int)), (r4.getD 2 D.nil)]) 1 fun r7 =>
                                  let v13 : D := (((((((r7.getD 0 D.nil)).toL).getD ((((x1).toL).length : Int)).toNat D.nil)).toL).getD 4 D.nil)
                                  if (!(v13).isNil) = true then
                                  some [(D.int (0 : Int)), (D.int (0 : Int)), (D.int (0 : Int)), (D.int (0 : Int)), (D.int (0 : Int)), (D.int (0 : Int)), (D.int (0 : Int)), (D.int (0 : Int)), (D.int (0 : Int)), v13, (r7.getD 0 D.nil)]
                                  else
                                  some [(D.int (4 : Int)), (D.int (0 : Int)), (D.int (0 : Int)), (D.int (0 : Int)), (D.int (0 : Int)), (D.int (0 : Int)), (D.int (0 : Int)), (D.int (0 : Int)), (D.int (0 : Int)), D.nil, (r7.getD 0 D.nil)]
                                else
                                if (!(v3).isNil) = true then
                                  some [(D.int (0 : Int)), (D.int (0 : Int)), (D.int (0 : Int)), (D.int (0 : Int)), (D.int (0 : Int)), (D.int (0 : Int)), (D.int (0 : Int)), (D.int (0 : Int)), (D.int (0 : Int)), v3, (r4.getD 2 D.nil)]
                                  else
                                  some [(D.int (4 : Int)), (D.int (0 : Int)), (D.int (0 : Int)), (D.int (0 : Int)), (D.int (0 : Int)), (D.int (0 : Int)), (D.int (0 : Int)), (D.int (0 : Int)), (D.int (0 : Int)), D.nil, (r4.getD 2 D.nil)]
                              else
                              if (!(v3).isNil) = true then
                                some [(D.int (0 : Int)), (D.int (0 : Int)), (D.int (0 : Int)), (D.int (0 : Int)), (D.int (0 : Int)), (D.int (0 : Int)), (D.int (0 : Int)), (D.int (0 : Int)), (D.int (0 : Int)), v3, (r4.getD 2 D.nil)]
                                else
                                some [(D.int (4 : Int)), (D.int (0 : Int)), (D.int (0 : Int)), (D.int (0 : Int)), (D.int (0 : Int)), (D.int (0 : Int)), (D.int (0 : Int)), (D.int (0 : Int)), (D.int (0 : Int)), D.nil, (r4.getD 2 D.nil)]
                            else
                            bindC (FX 21 [(D.int (((x1).toL).length : Int)), (D.int (0 : Int)), (D.int (10 : Int)), (r4.getD 2 D.nil)]) 1 fun r7 =>
                              let v14 : D := ((((r7.getD 0 D.nil)).toL).getD ((((x1).toL).length : Int)).toNat D.nil)
                              let v15 : D := (((v14).toL).getD 4 D.nil)
                              if (v15).isNil = true then
                              if (decide (((((v14).toL).getD 1 D.nil)).toInt < ((((((v14).toL).getD 0 D.nil)).toL).length : Int))) = true then
                                bindC (FX 21 [(D.int (((x1).toL).length : Int)), (((v14).toL).getD 2 D.nil), (D.int (12 : Int)), (r7.getD 0 D.nil)]) 1 fun r8 =>
                                  let v16 : D := (((((((r8.getD 0 D.nil)).toL).getD ((((x1).toL).length : Int)).toNat D.nil)).toL).getD 4 D.nil)
                                  if (!(v16).isNil) = true then
                                  some [(D.int (0 : Int)), (D.int (0 : Int)), (D.int (0 : Int)), (D.int (0 : Int)), (D.int (0 : Int)), (D.int (0 : Int)), (D.int (0 : Int)), (D.int (0 : Int)), (D.int (0 : Int)), v16, (r8.getD 0 D.nil)]
                                  else
                                  some [(D.int (0 : Int)), (D.int (0 : Int)), (D.int (0 : Int)), (D.int (0 : Int)), (D.int (0 : Int)), (D.int (0 : Int)), (D.int (0 : Int)), (D.int (0 : Int)), (D.int (0 : Int)), D.nil, (r8.getD 0 D.nil)]
                                else
                                if (!(v15).isNil) = true then
                                  some [(D.int (0 : Int)), (D.int (0 : Int)), (D.int (0 : Int)), (D.int (0 : Int)), (D.int (0 : Int)), (D.int (0 : Int)), (D.int (0 : Int)), (D.int (0 : Int)), (D.int (0 : Int)), v15, (r7.getD 0 D.nil)]
                                  else
                                  some [(D.int (0 : Int)), (D.int (0 : Int)), (D.int (0 : Int)), (D.int (0 : Int)), (D.int (0 : Int)), (D.int (0 : Int)), (D.int (0 : Int)), (D.int (0 : Int)), (D.int (0 : Int)), D.nil, (r7.getD 0 D.nil)]
                              else
                              if (!(v15).isNil) = true then
                                some [(D.int (0 : Int)), (D.int (0 : Int)), (D.int (0 : Int)), (D.int (0 : Int)), (D.int (0 : Int)), (D.int (0 : Int)), (D.int (0 : Int)), (D.int (0 : Int)), (D.int (0 : Int)), v15, (r7.getD 0 D.nil)]
                                else
                                some [(D.int (0 : Int)), (D.int (0 : Int)), (D.int (0 : Int)), (D.int (0 : Int)), (D.int (0 : Int)), (D.int (0 : Int)), (D.int (0 : Int)), (D.int (0 : Int)), (D.int (0 : Int)), D.nil, (r7.getD 0 D.nil)]
                          else none
                        else none
                    else none
                  else none
              else none
            else none
        else none
      else none := (fixP_eq (t := T_line_Parse) (by rfl) _).trans (by kernel_rfl)
theorem E_fault_Place (x0 x1 : D) : FX 12 [x0, x1] =
  bindC (FX 28 [x0, (D.iface 64 (D.int (((x1).toL).length : Int))), (D.agg ((x1).toL ++ ((D.agg (D.nil :: [])) :: [])))]) 2 fun r2 =>
  let v0 : D := (((((((r2.getD 1 D.nil)).toL).getD ((((x1).toL).length : Int)).toNat D.nil)).toL).getD 0 D.nil)
  if ((r2.getD 0 D.nil)).toBool = true then
  if (!(v0).isNil) = true then
    if (!(v0).isNil) = true then
      some [(((v0).toL).getD 0 D.nil), (D.bool true), (r2.getD 1 D.nil)]
      else none
    else
    some [(D.int (0 : Int)), (D.bool false), (r2.getD 1 D.nil)]
  else
  some [(D.int (0 : Int)), (D.bool false), (r2.getD 1 D.nil)] := (fixP_eq (t := T_fault_Place) (by rfl) _).trans (by kernel_rfl)
theorem E_fault_Code (x0 x1 : D) : FX 14 [x0, x1] =
  bindC (FX 28 [x0, (D.iface 67 (D.int (((x1).toL).length : Int))), (D.agg ((x1).toL ++ ((D.agg ((D.int (0 : Int)) :: [])) :: [])))]) 2 fun r2 =>
  if ((r2.getD 0 D.nil)).toBool = true then
  some [(((((((r2.getD 1 D.nil)).toL).getD ((((x1).toL).length : Int)).toNat D.nil)).toL).getD 0 D.nil), (r2.getD 1 D.nil)]
  else
  some [(D.int (0 : Int)), (r2.getD 1 D.nil)] := (fixP_eq (t := T_fault_Code) (by rfl) _).trans (by kernel_rfl)
theorem E_law15_awake (x0 : D) : FX 5 [x0] =
  bindC (FX 6 [(D.str ((ByteArray.mk #[99, 97, 110, 99, 101, 108, 32, 55, 32, 48]))), x0]) 11 fun r1 =>
  bindC (FX 6 [(D.str ((ByteArray.mk #[99, 97, 110, 99, 101, 108, 32, 48, 55, 32, 48]))), (r1.getD 10 D.nil)]) 11 fun r12 =>
  bindC (FX 12 [(r12.getD 9 D.nil), (r12.getD 10 D.nil)]) 3 fun r23 =>
  if ((r1.getD 9 D.nil)).isNil = true then
  if ((((r1.getD 0 D.nil)).toInt == (2 : Int)) && ((((r1.getD 1 D.nil)).toInt == (7 : Int)) && ((((r1.getD 2 D.nil)).toInt == (0 : Int)) && (((((r1.getD 3 D.nil)).toInt == (0 : Int)) && ((((r1.getD 4 D.nil)).toInt == (0 : Int)) && ((((r1.getD 5 D.nil)).toInt == (0 : Int)) && ((((r1.getD 6 D.nil)).toInt == (0 : Int)) && (((r1.getD 7 D.nil)).toInt == (0 : Int)))))) && (((r1.getD 8 D.nil)).toInt == (0 : Int)))))) = true then
    bindC (FX 14 [(r12.getD 9 D.nil), (r23.getD 2 D.nil)]) 2 fun r26 =>
      if (((r26.getD 0 D.nil)).toInt == (13 : Int)) = true then
      if ((r23.getD 1 D.nil)).toBool = true then
        some [(D.bool (((r23.getD 0 D.nil)).toInt == (7 : Int))), (r26.getD 1 D.nil)]
        else
        some [(D.bool false), (r26.getD 1 D.nil)]
      else
      some [(D.bool false), (r26.getD 1 D.nil)]
    else
    some [(D.bool false), (r23.getD 2 D.nil)]
  else
  some [(D.bool false), (r23.getD 2 D.nil)] := (fixP_eq (t := T_law15_awake) (by rfl) _).trans (by kernel_rfl)
theorem E_line_Verb (x0 : D) : FX 13 [x0] =
  let v0 : D := (D.agg ((D.str ((ByteArray.mk #[]))) :: ((D.str ((ByteArray.mk #[115, 117, 98, 109, 105, 116]))) :: ((D.str ((ByteArray.mk #[99, 97, 110, 99, 101, 108]))) :: ((D.str ((ByteArray.mk #[112, 111, 108, 108]))) :: ((D.str ((ByteArray.mk #[118, 105, 101, 119]))) :: []))))))
  if (decide ((x0).toInt < (1 : Int))) = true then
  some [(D.str ((ByteArray.mk #[63])))]
  else
  if (decide ((x0).toInt ≥ (5 : Int))) = true then
    some [(D.str ((ByteArray.mk #[63])))]
    else
    if (decide ((x0).toInt ≥ (0 : Int))) = true then
      if (decide ((x0).toInt < (((v0).toL).length : Int))) = true then
        if (decide ((x0).toInt < (5 : Int))) = true then
          some [(((v0).toL).getD ((x0).toInt).toNat D.nil)]
          else none
        else none
      else none := (fixP_eq (t := T_line_Verb) (by rfl) _).trans (by kernel_rfl)
theorem E_line_numbers (x0 x1 x2 x3 x4 x5 x6 x7 x8 : D) : FX 22 [x0, x1, x2, x3, x4, x5, x6, x7, x8] =
  let v0 : D := (D.agg (x2 :: []))
  if ((x0).toInt == (1 : Int)) = true then
  some [(D.agg (x1 :: (x2 :: (x3 :: (x8 :: (x5 :: (x6 :: (x7 :: []))))))))]
  else
  if ((x0).toInt == (2 : Int)) = true then
    some [(D.agg (x1 :: (v0).toL))]
    else
    if ((x0).toInt == (3 : Int)) = true then
      some [v0]
      else
      some [(D.agg [])] := (fixP_eq (t := T_line_numbers) (by rfl) _).trans (by kernel_rfl)
noncomputable def W_line_Print_1 (x0 x1 x2 x3 x4 x5 x6 x7 x8 x9 x10 : D) : Eng.Fn := loopF fun g xs => evalP FX B_line_Print_1 ([] ++ [g]) ([x0, x1, x2, x3, x4, x5, x6, x7, x8, x9, x10] ++ xs)
theorem W_line_Print_1_eq (x0 x1 x2 x3 x4 x5 x6 x7 x8 x9 x10 : D) (a0 a1 : D) : W_line_Print_1 x0 x1 x2 x3 x4 x5 x6 x7 x8 x9 x10 [a0, a1] =
  let v0 : D := (((x10).toL).getD ((a0).toInt).toNat D.nil)
  let v1 : D := (D.int (IntKind.i64.wrap ((a0).toInt + (1 : Int))))
  if (decide ((a0).toInt < (((x10).toL).length : Int))) = true then
  if (decide ((a0).toInt ≥ (0 : Int))) = true then
    if (decide ((a0).toInt < (((x10).toL).length : Int))) = true then
      if (decide ((v0).toInt < (0 : Int))) = true then
        bindC (FX 15 [a0, (D.iface 45 (D.int (5 : Int)))]) 1 fun r13 =>
          some [(D.str ((ByteArray.mk #[]))), (r13.getD 0 D.nil)]
        else
        if (decide ((v0).toInt > (9999999 : Int))) = true then
          bindC (FX 15 [a0, (D.iface 45 (D.int (5 : Int)))]) 1 fun r13 =>
            some [(D.str ((ByteArray.mk #[]))), (r13.getD 0 D.nil)]
          else
          if ((x0).toInt == (1 : Int)) = true then
            if ((a0).toInt == (2 : Int)) = true then
              if ((x4).toInt != (0 : Int)) = true then
                if ((x4).toInt != (1 : Int)) = true then
                  bindC (FX 15 [a0, (D.iface 45 (D.int (1 : Int)))]) 1 fun r13 =>
                    some [(D.str ((ByteArray.mk #[]))), (r13.getD 0 D.nil)]
                  else
                  bindC (FX 23 [x4]) 1 fun r13 =>
                    let v2 : D := (D.agg ((a1).toL ++ ((r13.getD 0 D.nil) :: [])))
                    if (decide ((((v2).toL).length : Int) ≤ (8796093022208 : Int))) = true then
                    bindC (FX 24 [v0]) 1 fun r14 =>
                      let v3 : D := (D.agg ((v2).toL ++ ((r14.getD 0 D.nil) :: [])))
                      if (decide ((((v3).toL).length : Int) ≤ (8796093022208 : Int))) = true then
                      (W_line_Print_1 x0 x1 x2 x3 x4 x5 x6 x7 x8 x9 x10) [v1, v3]
                      else none
                    else none
                else
                bindC (FX 23 [x4]) 1 fun r13 =>
                  let v4 : D := (D.agg ((a1).toL ++ ((r13.getD 0 D.nil) :: [])))
                  if (decide ((((v4).toL).length : Int) ≤ (8796093022208 : Int))) = true then
                  bindC (FX 24 [v0]) 1 fun r14 =>
                    let v5 : D := (D.agg ((v4).toL ++ ((r14.getD 0 D.nil) :: [])))
                    if (decide ((((v5).toL).length : Int) ≤ (8796093022208 : Int))) = true then
                    (W_line_Print_1 x0 x1 x2 x3 x4 x5 x6 x7 x8 x9 x10) [v1, v5]
                    else none
                  else none
              else
              bindC (FX 24 [v0]) 1 fun r13 =>
                let v6 : D := (D.agg ((a1).toL ++ ((r13.getD 0 D.nil) :: [])))
                if (decide ((((v6).toL).length : Int) ≤ (8796093022208 : Int))) = true then
                (W_line_Print_1 x0 x1 x2 x3 x4 x5 x6 x7 x8 x9 x10) [v1, v6]
                else none
            else
            bindC (FX 24 [v0]) 1 fun r13 =>
              let v7 : D := (D.agg ((a1).toL ++ ((r13.getD 0 D.nil) :: [])))
              if (decide ((((v7).toL).length : Int) ≤ (8796093022208 : Int))) = true then
              (W_line_Print_1 x0 x1 x2 x3 x4 x5 x6 x7 x8 x9 x10) [v1, v7]
              else none
      else none
    else none
  else
  bindC (FX 25 [a1, (D.str ((ByteArray.mk #[32])))]) 1 fun r13 =>
    some [(r13.getD 0 D.nil), D.nil] := (loopP_eq FX B_line_Print_1 [] [x0, x1, x2, x3, x4, x5, x6, x7, x8, x9, x10] _).trans (by kernel_rfl)
theorem E_line_Print (x0 x1 x2 x3 x4 x5 x6 x7 x8 : D) : FX 7 [x0, x1, x2, x3, x4, x5, x6, x7, x8] =
  if (decide ((x0).toInt < (1 : Int))) = true then
  some [(D.str ((ByteArray.mk #[]))), (D.iface 45 (D.int (6 : Int)))]
  else
  if (decide ((x0).toInt > (4 : Int))) = true then
    some [(D.str ((ByteArray.mk #[]))), (D.iface 45 (D.int (6 : Int)))]
    else
    bindC (FX 13 [x0]) 1 fun r9 =>
      bindC (FX 22 [x0, x1, x2, x3, x4, x5, x6, x7, x8]) 1 fun r10 =>
      W_line_Print_1 x0 x1 x2 x3 x4 x5 x6 x7 x8 (r9.getD 0 D.nil) (r10.getD 0 D.nil) [(D.int (0 : Int)), (D.agg ((r9.getD 0 D.nil) :: []))] := (fixP_eq (t := T_line_Print) (by rfl) _).trans (by kernel_rfl)
theorem E_law11_To (x0 x1 x2 x3 x4 x5 x6 x7 x8 : D) : FX 8 [x0, x1, x2, x3, x4, x5, x6, x7, x8] =
  some [x0, x1, x2, x3, x4, x5, x6, x7, x8] := (fixP_eq (t := T_law11_To) (by rfl) _).trans (by kernel_rfl)
theorem E_law15_From (x0 x1 x2 x3 x4 x5 x6 x7 x8 : D) : FX 9 [x0, x1, x2, x3, x4, x5, x6, x7, x8] =
  some [x0, x1, x2, x3, x4, x5, x6, x7, x8] := (fixP_eq (t := T_law15_From) (by rfl) _).trans (by kernel_rfl)
theorem E_law15_LineBack (x0 x1 x2 x3 x4 x5 x6 x7 x8 x9 : D) : FX 3 [x0, x1, x2, x3, x4, x5, x6, x7, x8, x9] =
  if (decide ((((x0).toStr).size : Int) > (1000 : Int))) = true then
  bindC (FX 5 [(D.agg [])]) 2 fun r10 =>
    some [(r10.getD 0 D.nil)]
  else
  bindC (FX 6 [x0, (D.agg [])]) 11 fun r10 =>
    if ((r10.getD 9 D.nil)).isNil = true then
    bindC (FX 7 [(r10.getD 0 D.nil), (r10.getD 1 D.nil), (r10.getD 2 D.nil), (r10.getD 3 D.nil), (r10.getD 4 D.nil), (r10.getD 5 D.nil), (r10.getD 6 D.nil), (r10.getD 7 D.nil), (r10.getD 8 D.nil)]) 2 fun r21 =>
      if (!((r21.getD 1 D.nil)).isNil) = true then
      some [(D.bool false)]
      else
      if (scmpF .neq ((r21.getD 0 D.nil)).toStr (x0).toStr) = true then
        some [(D.bool false)]
        else
        bindC (FX 8 [x1, x2, x3, x4, x5, x6, x7, x8, x9]) 9 fun r23 =>
          bindC (FX 7 [(r23.getD 0 D.nil), (r23.getD 1 D.nil), (r23.getD 2 D.nil), (r23.getD 3 D.nil), (r23.getD 4 D.nil), (r23.getD 5 D.nil), (r23.getD 6 D.nil), (r23.getD 7 D.nil), (r23.getD 8 D.nil)]) 2 fun r32 =>
          if (!((r32.getD 1 D.nil)).isNil) = true then
          bindC (FX 5 [(r10.getD 10 D.nil)]) 2 fun r34 =>
            if ((r34.getD 0 D.nil)).toBool = true then
            some [(D.bool (scmpF .eql ((r32.getD 0 D.nil)).toStr ((ByteArray.mk #[]))))]
            else
            some [(D.bool false)]
          else
          bindC (FX 6 [(r32.getD 0 D.nil), (r10.getD 10 D.nil)]) 11 fun r34 =>
            bindC (FX 7 [(r34.getD 0 D.nil), (r34.getD 1 D.nil), (r34.getD 2 D.nil), (r34.getD 3 D.nil), (r34.getD 4 D.nil), (r34.getD 5 D.nil), (r34.getD 6 D.nil), (r34.getD 7 D.nil), (r34.getD 8 D.nil)]) 2 fun r45 =>
            bindC (FX 5 [(r34.getD 10 D.nil)]) 2 fun r47 =>
            if ((r47.getD 0 D.nil)).toBool = true then
            if ((r34.getD 9 D.nil)).isNil = true then
              if ((r45.getD 1 D.nil)).isNil = true then
                if (scmpF .eql ((r32.getD 0 D.nil)).toStr ((r45.getD 0 D.nil)).toStr) = true then
                  if (((r34.getD 0 D.nil)).toInt == (x1).toInt) = true then
                    if ((x1).toInt != (1 : Int)) = true then
                      some [(D.bool true)]
                      else
                      bindC (FX 9 [(r34.getD 0 D.nil), (r34.getD 1 D.nil), (r34.getD 2 D.nil), (r34.getD 3 D.nil), (r34.getD 4 D.nil), (r34.getD 5 D.nil), (r34.getD 6 D.nil), (r34.getD 7 D.nil), (r34.getD 8 D.nil)]) 9 fun r49 =>
                        some [(D.bool ((((r49.getD 0 D.nil)).toInt == (x1).toInt) && ((((r49.getD 1 D.nil)).toInt == (x2).toInt) && ((((r49.getD 2 D.nil)).toInt == (x3).toInt) && (((((r49.getD 3 D.nil)).toInt == (x4).toInt) && ((((r49.getD 4 D.nil)).toInt == (x5).toInt) && ((((r49.getD 5 D.nil)).toInt == (x6).toInt) && ((((r49.getD 6 D.nil)).toInt == (x7).toInt) && (((r49.getD 7 D.nil)).toInt == (x8).toInt))))) && (((r49.getD 8 D.nil)).toInt == (x9).toInt))))))]
                    else
                    some [(D.bool false)]
                  else
                  some [(D.bool false)]
                else
                some [(D.bool false)]
              else
              some [(D.bool false)]
            else
            some [(D.bool false)]
    else
    bindC (FX 8 [x1, x2, x3, x4, x5, x6, x7, x8, x9]) 9 fun r21 =>
      bindC (FX 7 [(r21.getD 0 D.nil), (r21.getD 1 D.nil), (r21.getD 2 D.nil), (r21.getD 3 D.nil), (r21.getD 4 D.nil), (r21.getD 5 D.nil), (r21.getD 6 D.nil), (r21.getD 7 D.nil), (r21.getD 8 D.nil)]) 2 fun r30 =>
      if (!((r30.getD 1 D.nil)).isNil) = true then
      bindC (FX 5 [(r10.getD 10 D.nil)]) 2 fun r32 =>
        if ((r32.getD 0 D.nil)).toBool = true then
        some [(D.bool (scmpF .eql ((r30.getD 0 D.nil)).toStr ((ByteArray.mk #[]))))]
        else
        some [(D.bool false)]
      else
      bindC (FX 6 [(r30.getD 0 D.nil), (r10.getD 10 D.nil)]) 11 fun r32 =>
        bindC (FX 7 [(r32.getD 0 D.nil), (r32.getD 1 D.nil), (r32.getD 2 D.nil), (r32.getD 3 D.nil), (r32.getD 4 D.nil), (r32.getD 5 D.nil), (r32.getD 6 D.nil), (r32.getD 7 D.nil), (r32.getD 8 D.nil)]) 2 fun r43 =>
        bindC (FX 5 [(r32.getD 10 D.nil)]) 2 fun r45 =>
        if ((r45.getD 0 D.nil)).toBool = true then
        if ((r32.getD 9 D.nil)).isNil = true then
          if ((r43.getD 1 D.nil)).isNil = true then
            if (scmpF .eql ((r30.getD 0 D.nil)).toStr ((r43.getD 0 D.nil)).toStr) = true then
              if (((r32.getD 0 D.nil)).toInt == (x1).toInt) = true then
                if ((x1).toInt != (1 : Int)) = true then
                  some [(D.bool true)]
                  else
                  bindC (FX 9 [(r32.getD 0 D.nil), (r32.getD 1 D.nil), (r32.getD 2 D.nil), (r32.getD 3 D.nil), (r32.getD 4 D.nil), (r32.getD 5 D.nil), (r32.getD 6 D.nil), (r32.getD 7 D.nil), (r32.getD 8 D.nil)]) 9 fun r47 =>
                    some [(D.bool ((((r47.getD 0 D.nil)).toInt == (x1).toInt) && ((((r47.getD 1 D.nil)).toInt == (x2).toInt) && ((((r47.getD 2 D.nil)).toInt == (x3).toInt) && (((((r47.getD 3 D.nil)).toInt == (x4).toInt) && ((((r47.getD 4 D.nil)).toInt == (x5).toInt) && ((((r47.getD 5 D.nil)).toInt == (x6).toInt) && ((((r47.getD 6 D.nil)).toInt == (x7).toInt) && (((r47.getD 7 D.nil)).toInt == (x8).toInt))))) && (((r47.getD 8 D.nil)).toInt == (x9).toInt))))))]
                else
                some [(D.bool false)]
              else
              some [(D.bool false)]
            else
            some [(D.bool false)]
          else
          some [(D.bool false)]
        else
        some [(D.bool false)] := (fixP_eq (t := T_law15_LineBack) (by rfl) _).trans (by kernel_rfl)
theorem E_ref01_Decimal (x0 : D) : FX 26 [x0] =
  let v0 : D := (D.int (IntKind.i64.wrap (Int.tdiv (x0).toInt (10 : Int))))
  let v1 : D := (D.int (Int.tmod (x0).toInt (10 : Int)))
  if (decide ((x0).toInt < (0 : Int))) = true then
  if ((v0).toInt == (0 : Int)) = true then
    bindC (FX 37 [(D.int (IntKind.i64.wrap ((0 : Int) - (x0).toInt)))]) 1 fun r1 =>
      if (decide ((IntKind.i64.wrap (((((ByteArray.mk #[45]))).size : Int) + ((((r1.getD 0 D.nil)).toStr).size : Int))) ≤ (4611686018427387903 : Int))) = true then
      if (decide (((((ByteArray.mk #[45]))).size : Int) ≤ (4611686018427387903 : Int))) = true then
        if (decide (((((r1.getD 0 D.nil)).toStr).size : Int) ≤ (4611686018427387903 : Int))) = true then
          some [(D.str (((ByteArray.mk #[45])) ++ ((r1.getD 0 D.nil)).toStr))]
          else none
        else none
      else none
    else
    bindC (FX 26 [v0]) 1 fun r1 =>
      bindC (FX 37 [(D.int (IntKind.i64.wrap ((0 : Int) - (v1).toInt)))]) 1 fun r2 =>
      if (decide ((IntKind.i64.wrap (((((r1.getD 0 D.nil)).toStr).size : Int) + ((((r2.getD 0 D.nil)).toStr).size : Int))) ≤ (4611686018427387903 : Int))) = true then
      if (decide (((((r1.getD 0 D.nil)).toStr).size : Int) ≤ (4611686018427387903 : Int))) = true then
        if (decide (((((r2.getD 0 D.nil)).toStr).size : Int) ≤ (4611686018427387903 : Int))) = true then
          some [(D.str (((r1.getD 0 D.nil)).toStr ++ ((r2.getD 0 D.nil)).toStr))]
          else none
        else none
      else none
  else
  if (decide ((x0).toInt < (10 : Int))) = true then
    bindC (FX 37 [x0]) 1 fun r1 =>
      some [(r1.getD 0 D.nil)]
    else
    bindC (FX 26 [v0]) 1 fun r1 =>
      bindC (FX 37 [v1]) 1 fun r2 =>
      if (decide ((IntKind.i64.wrap (((((r1.getD 0 D.nil)).toStr).size : Int) + ((((r2.getD 0 D.nil)).toStr).size : Int))) ≤ (4611686018427387903 : Int))) = true then
      if (decide (((((r1.getD 0 D.nil)).toStr).size : Int) ≤ (4611686018427387903 : Int))) = true then
        if (decide (((((r2.getD 0 D.nil)).toStr).size : Int) ≤ (4611686018427387903 : Int))) = true then
          some [(D.str (((r1.getD 0 D.nil)).toStr ++ ((r2.getD 0 D.nil)).toStr))]
          else none
        else none
      else none := (fixP_eq (t := T_ref01_Decimal) (by rfl) _).trans (by kernel_rfl)
noncomputable def W_ref15_Print_1 (x0 x1 x2 x3 x4 x5 x6 x7 x8 : D) : Eng.Fn := loopF fun g xs => evalP FX B_ref15_Print_1 ([] ++ [g]) ([x0, x1, x2, x3, x4, x5, x6, x7, x8] ++ xs)
theorem W_ref15_Print_1_eq (x0 x1 x2 x3 x4 x5 x6 x7 x8 : D) (a0 a1 : D) : W_ref15_Print_1 x0 x1 x2 x3 x4 x5 x6 x7 x8 [a0, a1] =
  let v0 : D := (D.str ((a0).toStr ++ ((ByteArray.mk #[32]))))
  let v1 : D := (D.int (IntKind.i64.wrap ((a1).toInt + (1 : Int))))
  let v2 : D := (D.int (((v0).toStr).size : Int))
  let v3 : D := (D.agg ((D.str ((ByteArray.mk #[98, 117, 121]))) :: ((D.str ((ByteArray.mk #[115, 101, 108, 108]))) :: [])))
  let v4 : D := (((v3).toL).getD ((x4).toInt).toNat D.nil)
  let v5 : D := (D.int (((v4).toStr).size : Int))
  let v6 : D := (D.str ((v0).toStr ++ (v4).toStr))
  let v7 : D := (D.int (((v6).toStr).size : Int))
  let v8 : D := (D.str ((v6).toStr ++ ((ByteArray.mk #[32]))))
  let v9 : D := (D.int (((v8).toStr).size : Int))
  let v10 : D := (D.agg (x1 :: (x2 :: (x3 :: (x8 :: (x5 :: (x6 :: (x7 :: []))))))))
  let v11 : D := (((v10).toL).getD ((a1).toInt).toNat D.nil)
  if (decide ((a1).toInt < (((v10).toL).length : Int))) = true then
  if (decide ((a1).toInt ≥ (0 : Int))) = true then
    if (decide ((a1).toInt < (((v10).toL).length : Int))) = true then
      if (decide ((v11).toInt < (0 : Int))) = true then
        some [(D.str ((ByteArray.mk #[]))), (D.int (5 : Int)), a1]
        else
        if (decide ((a1).toInt ≥ (0 : Int))) = true then
          if (decide ((a1).toInt < (((v10).toL).length : Int))) = true then
            if (decide ((v11).toInt > (9999999 : Int))) = true then
              some [(D.str ((ByteArray.mk #[]))), (D.int (5 : Int)), a1]
              else
              if ((a1).toInt == (2 : Int)) = true then
                if ((x4).toInt != (0 : Int)) = true then
                  if ((x4).toInt != (1 : Int)) = true then
                    some [(D.str ((ByteArray.mk #[]))), (D.int (1 : Int)), (D.int (2 : Int))]
                    else
                    if (decide ((IntKind.i64.wrap ((((a0).toStr).size : Int) + ((((ByteArray.mk #[32]))).size : Int))) ≤ (4611686018427387903 : Int))) = true then
                      if (decide ((((a0).toStr).size : Int) ≤ (4611686018427387903 : Int))) = true then
                        if (decide (((((ByteArray.mk #[32]))).size : Int) ≤ (4611686018427387903 : Int))) = true then
                          if (decide ((x4).toInt ≥ (0 : Int))) = true then
                            if (decide ((x4).toInt < (((v3).toL).length : Int))) = true then
                              if (decide ((IntKind.i64.wrap ((v2).toInt + (v5).toInt)) ≤ (4611686018427387903 : Int))) = true then
                                if (decide ((v2).toInt ≤ (4611686018427387903 : Int))) = true then
                                  if (decide ((v5).toInt ≤ (4611686018427387903 : Int))) = true then
                                    if (decide ((IntKind.i64.wrap ((v7).toInt + ((((ByteArray.mk #[32]))).size : Int))) ≤ (4611686018427387903 : Int))) = true then
                                      if (decide ((v7).toInt ≤ (4611686018427387903 : Int))) = true then
                                        if (decide (((((ByteArray.mk #[32]))).size : Int) ≤ (4611686018427387903 : Int))) = true then
                                          if (decide ((a1).toInt ≥ (0 : Int))) = true then
                                            if (decide ((a1).toInt < (((v10).toL).length : Int))) = true then
                                              bindC (FX 26 [v11]) 1 fun r11 =>
                                                if (decide ((IntKind.i64.wrap ((v9).toInt + ((((r11.getD 0 D.nil)).toStr).size : Int))) ≤ (4611686018427387903 : Int))) = true then
                                                if (decide ((v9).toInt ≤ (4611686018427387903 : Int))) = true then
                                                  if (decide (((((r11.getD 0 D.nil)).toStr).size : Int) ≤ (4611686018427387903 : Int))) = true then
                                                    (W_ref15_Print_1 x0 x1 x2 x3 x4 x5 x6 x7 x8) [(D.str ((v8).toStr ++ ((r11.getD 0 D.nil)).toStr)), v1]
                                                    else none
                                                  else none
                                                else none
                                              else none
                                            else none
                                          else none
                                        else none
                                      else none
                                    else none
                                  else none
                                else none
                              else none
                            else none
                          else none
                        else none
                      else none
                  else
                  if (decide ((IntKind.i64.wrap ((((a0).toStr).size : Int) + ((((ByteArray.mk #[32]))).size : Int))) ≤ (4611686018427387903 : Int))) = true then
                    if (decide ((((a0).toStr).size : Int) ≤ (4611686018427387903 : Int))) = true then
                      if (decide (((((ByteArray.mk #[32]))).size : Int) ≤ (4611686018427387903 : Int))) = true then
                        if (decide ((x4).toInt ≥ (0 : Int))) = true then
                          if (decide ((x4).toInt < (((v3).toL).length : Int))) = true then
                            if (decide ((IntKind.i64.wrap ((v2).toInt + (v5).toInt)) ≤ (4611686018427387903 : Int))) = true then
                              if (decide ((v2).toInt ≤ (4611686018427387903 : Int))) = true then
                                if (decide ((v5).toInt ≤ (4611686018427387903 : Int))) = true then
                                  if (decide ((IntKind.i64.wrap ((v7).toInt + ((((ByteArray.mk #[32]))).size : Int))) ≤ (4611686018427387903 : Int))) = true then
                                    if (decide ((v7).toInt ≤ (4611686018427387903 : Int))) = true then
                                      if (decide (((((ByteArray.mk #[32]))).size : Int) ≤ (4611686018427387903 : Int))) = true then
                                        if (decide ((a1).toInt ≥ (0 : Int))) = true then
                                          if (decide ((a1).toInt < (((v10).toL).length : Int))) = true then
                                            bindC (FX 26 [v11]) 1 fun r11 =>
                                              if (decide ((IntKind.i64.wrap ((v9).toInt + ((((r11.getD 0 D.nil)).toStr).size : Int))) ≤ (4611686018427387903 : Int))) = true then
                                              if (decide ((v9).toInt ≤ (4611686018427387903 : Int))) = true then
                                                if (decide (((((r11.getD 0 D.nil)).toStr).size : Int) ≤ (4611686018427387903 : Int))) = true then
                                                  (W_ref15_Print_1 x0 x1 x2 x3 x4 x5 x6 x7 x8) [(D.str ((v8).toStr ++ ((r11.getD 0 D.nil)).toStr)), v1]
                                                  else none
                                                else none
                                              else none
                                            else none
                                          else none
                                        else none
                                      else none
                                    else none
                                  else none
                                else none
                              else none
                            else none
                          else none
                        else none
                      else none
                    else none
                else
                if (decide ((IntKind.i64.wrap ((((a0).toStr).size : Int) + ((((ByteArray.mk #[32]))).size : Int))) ≤ (4611686018427387903 : Int))) = true then
                  if (decide ((((a0).toStr).size : Int) ≤ (4611686018427387903 : Int))) = true then
                    if (decide (((((ByteArray.mk #[32]))).size : Int) ≤ (4611686018427387903 : Int))) = true then
                      if (decide ((a1).toInt ≥ (0 : Int))) = true then
                        if (decide ((a1).toInt < (((v10).toL).length : Int))) = true then
                          bindC (FX 26 [v11]) 1 fun r11 =>
                            if (decide ((IntKind.i64.wrap ((v2).toInt + ((((r11.getD 0 D.nil)).toStr).size : Int))) ≤ (4611686018427387903 : Int))) = true then
                            if (decide ((v2).toInt ≤ (4611686018427387903 : Int))) = true then
                              if (decide (((((r11.getD 0 D.nil)).toStr).size : Int) ≤ (4611686018427387903 : Int))) = true then
                                (W_ref15_Print_1 x0 x1 x2 x3 x4 x5 x6 x7 x8) [(D.str ((v0).toStr ++ ((r11.getD 0 D.nil)).toStr)), v1]
                                else none
                              else none
                            else none
                          else none
                        else none
                      else none
                    else none
                  else none
            else none
          else none
      else none
    else none
  else
  some [a0, (D.int (0 : Int)), (D.int (0 : Int))] := (loopP_eq FX B_ref15_Print_1 [] [x0, x1, x2, x3, x4, x5, x6, x7, x8] _).trans (by kernel_rfl)
noncomputable def W_ref15_Print_2 (x0 x1 x2 x3 x4 x5 x6 x7 x8 : D) : Eng.Fn := loopF fun g xs => evalP FX B_ref15_Print_2 ([] ++ [g]) ([x0, x1, x2, x3, x4, x5, x6, x7, x8] ++ xs)
theorem W_ref15_Print_2_eq (x0 x1 x2 x3 x4 x5 x6 x7 x8 : D) (a0 a1 : D) : W_ref15_Print_2 x0 x1 x2 x3 x4 x5 x6 x7 x8 [a0, a1] =
  let v12 : D := (D.str ((a0).toStr ++ ((ByteArray.mk #[32]))))
  let v13 : D := (D.int (((v12).toStr).size : Int))
  let v14 : D := (D.agg (x1 :: (x2 :: [])))
  let v15 : D := (((v14).toL).getD ((a1).toInt).toNat D.nil)
  if (decide ((a1).toInt < (((v14).toL).length : Int))) = true then
  if (decide ((a1).toInt ≥ (0 : Int))) = true then
    if (decide ((a1).toInt < (((v14).toL).length : Int))) = true then
      if (decide ((v15).toInt < (0 : Int))) = true then
        some [(D.str ((ByteArray.mk #[]))), (D.int (5 : Int)), a1]
        else
        if (decide ((a1).toInt ≥ (0 : Int))) = true then
          if (decide ((a1).toInt < (((v14).toL).length : Int))) = true then
            if (decide ((v15).toInt > (9999999 : Int))) = true then
              some [(D.str ((ByteArray.mk #[]))), (D.int (5 : Int)), a1]
              else
              if (decide ((IntKind.i64.wrap ((((a0).toStr).size : Int) + ((((ByteArray.mk #[32]))).size : Int))) ≤ (4611686018427387903 : Int))) = true then
                if (decide ((((a0).toStr).size : Int) ≤ (4611686018427387903 : Int))) = true then
                  if (decide (((((ByteArray.mk #[32]))).size : Int) ≤ (4611686018427387903 : Int))) = true then
                    if (decide ((a1).toInt ≥ (0 : Int))) = true then
                      if (decide ((a1).toInt < (((v14).toL).length : Int))) = true then
                        bindC (FX 26 [v15]) 1 fun r11 =>
                          if (decide ((IntKind.i64.wrap ((v13).toInt + ((((r11.getD 0 D.nil)).toStr).size : Int))) ≤ (4611686018427387903 : Int))) = true then
                          if (decide ((v13).toInt ≤ (4611686018427387903 : Int))) = true then
                            if (decide (((((r11.getD 0 D.nil)).toStr).size : Int) ≤ (4611686018427387903 : Int))) = true then
                              (W_ref15_Print_2 x0 x1 x2 x3 x4 x5 x6 x7 x8) [(D.str ((v12).toStr ++ ((r11.getD 0 D.nil)).toStr)), (D.int (IntKind.i64.wrap ((a1).toInt + (1 : Int))))]
                              else none
                            else none
                          else none
                        else none
                      else none
                    else none
                  else none
                else none
            else none
          else none
      else none
    else none
  else
  some [a0, (D.int (0 : Int)), (D.int (0 : Int))] := (loopP_eq FX B_ref15_Print_2 [] [x0, x1, x2, x3, x4, x5, x6, x7, x8] _).trans (by kernel_rfl)
noncomputable def W_ref15_Print_3 (x0 x1 x2 x3 x4 x5 x6 x7 x8 : D) : Eng.Fn := loopF fun g xs => evalP FX B_ref15_Print_3 ([] ++ [g]) ([x0, x1, x2, x3, x4, x5, x6, x7, x8] ++ xs)
theorem W_ref15_Print_3_eq (x0 x1 x2 x3 x4 x5 x6 x7 x8 : D) (a0 a1 : D) : W_ref15_Print_3 x0 x1 x2 x3 x4 x5 x6 x7 x8 [a0, a1] =
  let v16 : D := (D.agg (x2 :: []))
  let v17 : D := (D.str ((a0).toStr ++ ((ByteArray.mk #[32]))))
  let v18 : D := (D.int (((v17).toStr).size : Int))
  let v19 : D := (((v16).toL).getD ((a1).toInt).toNat D.nil)
  if (decide ((a1).toInt < (((v16).toL).length : Int))) = true then
  if (decide ((a1).toInt ≥ (0 : Int))) = true then
    if (decide ((a1).toInt < (((v16).toL).length : Int))) = true then
      if (decide ((v19).toInt < (0 : Int))) = true then
        some [(D.str ((ByteArray.mk #[]))), (D.int (5 : Int)), a1]
        else
        if (decide ((a1).toInt ≥ (0 : Int))) = true then
          if (decide ((a1).toInt < (((v16).toL).length : Int))) = true then
            if (decide ((v19).toInt > (9999999 : Int))) = true then
              some [(D.str ((ByteArray.mk #[]))), (D.int (5 : Int)), a1]
              else
              if (decide ((IntKind.i64.wrap ((((a0).toStr).size : Int) + ((((ByteArray.mk #[32]))).size : Int))) ≤ (4611686018427387903 : Int))) = true then
                if (decide ((((a0).toStr).size : Int) ≤ (4611686018427387903 : Int))) = true then
                  if (decide (((((ByteArray.mk #[32]))).size : Int) ≤ (4611686018427387903 : Int))) = true then
                    if (decide ((a1).toInt ≥ (0 : Int))) = true then
                      if (decide ((a1).toInt < (((v16).toL).length : Int))) = true then
                        bindC (FX 26 [v19]) 1 fun r11 =>
                          if (decide ((IntKind.i64.wrap ((v18).toInt + ((((r11.getD 0 D.nil)).toStr).size : Int))) ≤ (4611686018427387903 : Int))) = true then
                          if (decide ((v18).toInt ≤ (4611686018427387903 : Int))) = true then
                            if (decide (((((r11.getD 0 D.nil)).toStr).size : Int) ≤ (4611686018427387903 : Int))) = true then
                              (W_ref15_Print_3 x0 x1 x2 x3 x4 x5 x6 x7 x8) [(D.str ((v17).toStr ++ ((r11.getD 0 D.nil)).toStr)), (D.int (IntKind.i64.wrap ((a1).toInt + (1 : Int))))]
                              else none
                            else none
                          else none
                        else none
                      else none
                    else none
                  else none
                else none
            else none
          else none
      else none
    else none
  else
  some [a0, (D.int (0 : Int)), (D.int (0 : Int))] := (loopP_eq FX B_ref15_Print_3 [] [x0, x1, x2, x3, x4, x5, x6, x7, x8] _).trans (by kernel_rfl)
noncomputable def W_ref15_Print_4 (x0 x1 x2 x3 x4 x5 x6 x7 x8 : D) : Eng.Fn := loopF fun g xs => evalP FX B_ref15_Print_4 ([] ++ [g]) ([x0, x1, x2, x3, x4, x5, x6, x7, x8] ++ xs)
theorem W_ref15_Print_4_eq (x0 x1 x2 x3 x4 x5 x6 x7 x8 : D) (a0 a1 : D) : W_ref15_Print_4 x0 x1 x2 x3 x4 x5 x6 x7 x8 [a0, a1] =
  let v20 : D := ((([] : List D)).getD ((a1).toInt).toNat D.nil)
  let v21 : D := (D.str ((a0).toStr ++ ((ByteArray.mk #[32]))))
  let v22 : D := (D.int (((v21).toStr).size : Int))
  if (decide ((a1).toInt < ((([] : List D)).length : Int))) = true then
  if (decide ((a1).toInt ≥ (0 : Int))) = true then
    if (decide ((a1).toInt < ((([] : List D)).length : Int))) = true then
      if (decide ((v20).toInt < (0 : Int))) = true then
        some [(D.str ((ByteArray.mk #[]))), (D.int (5 : Int)), a1]
        else
        if (decide ((a1).toInt ≥ (0 : Int))) = true then
          if (decide ((a1).toInt < ((([] : List D)).length : Int))) = true then
            if (decide ((v20).toInt > (9999999 : Int))) = true then
              some [(D.str ((ByteArray.mk #[]))), (D.int (5 : Int)), a1]
              else
              if (decide ((IntKind.i64.wrap ((((a0).toStr).size : Int) + ((((ByteArray.mk #[32]))).size : Int))) ≤ (4611686018427387903 : Int))) = true then
                if (decide ((((a0).toStr).size : Int) ≤ (4611686018427387903 : Int))) = true then
                  if (decide (((((ByteArray.mk #[32]))).size : Int) ≤ (4611686018427387903 : Int))) = true then
                    if (decide ((a1).toInt ≥ (0 : Int))) = true then
                      if (decide ((a1).toInt < ((([] : List D)).length : Int))) = true then
                        bindC (FX 26 [v20]) 1 fun r11 =>
                          if (decide ((IntKind.i64.wrap ((v22).toInt + ((((r11.getD 0 D.nil)).toStr).size : Int))) ≤ (4611686018427387903 : Int))) = true then
                          if (decide ((v22).toInt ≤ (4611686018427387903 : Int))) = true then
                            if (decide (((((r11.getD 0 D.nil)).toStr).size : Int) ≤ (4611686018427387903 : Int))) = true then
                              (W_ref15_Print_4 x0 x1 x2 x3 x4 x5 x6 x7 x8) [(D.str ((v21).toStr ++ ((r11.getD 0 D.nil)).toStr)), (D.int (IntKind.i64.wrap ((a1).toInt + (1 : Int))))]
                              else none
                            else none
                          else none
                        else none
                      else none
                    else none
                  else none
                else none
            else none
          else none
      else none
    else none
  else
  some [a0, (D.int (0 : Int)), (D.int (0 : Int))] := (loopP_eq FX B_ref15_Print_4 [] [x0, x1, x2, x3, x4, x5, x6, x7, x8] _).trans (by kernel_rfl)
theorem E_ref15_Print (x0 x1 x2 x3 x4 x5 x6 x7 x8 : D) : FX 10 [x0, x1, x2, x3, x4, x5, x6, x7, x8] =
  if ((x0).toInt == (1 : Int)) = true then
  W_ref15_Print_1 x0 x1 x2 x3 x4 x5 x6 x7 x8 [(D.str ((ByteArray.mk #[115, 117, 98, 109, 105, 116]))), (D.int (0 : Int))]
  else
  if ((x0).toInt == (2 : Int)) = true then
    W_ref15_Print_2 x0 x1 x2 x3 x4 x5 x6 x7 x8 [(D.str ((ByteArray.mk #[99, 97, 110, 99, 101, 108]))), (D.int (0 : Int))]
    else
    if ((x0).toInt == (3 : Int)) = true then
      W_ref15_Print_3 x0 x1 x2 x3 x4 x5 x6 x7 x8 [(D.str ((ByteArray.mk #[112, 111, 108, 108]))), (D.int (0 : Int))]
      else
      if ((x0).toInt == (4 : Int)) = true then
        W_ref15_Print_4 x0 x1 x2 x3 x4 x5 x6 x7 x8 [(D.str ((ByteArray.mk #[118, 105, 101, 119]))), (D.int (0 : Int))]
        else
        some [(D.str ((ByteArray.mk #[]))), (D.int (6 : Int)), (D.int (0 : Int))] := (fixP_eq (t := T_ref15_Print) (by rfl) _).trans (by kernel_rfl)
noncomputable def W_law01_Num_1 (x0 : D) : Eng.Fn := loopF fun g xs => evalP FX B_law01_Num_1 ([] ++ [g]) ([x0] ++ xs)
theorem W_law01_Num_1_eq (x0 : D) (a0 : D) : W_law01_Num_1 x0 [a0] =
  if (decide ((a0).toInt < (30 : Int))) = true then
  bindC (FX 27 [x0, (D.iface 45 a0)]) 1 fun r2 =>
    if ((r2.getD 0 D.nil)).toBool = true then
    some [a0]
    else
    (W_law01_Num_1 x0) [(D.int (IntKind.i64.wrap ((a0).toInt + (1 : Int))))]
  else
  some [(D.int (-1 : Int))] := (loopP_eq FX B_law01_Num_1 [] [x0] _).trans (by kernel_rfl)
theorem E_law01_Num (x0 : D) : FX 11 [x0] =
  if (x0).isNil = true then
  some [(D.int (0 : Int))]
  else
  W_law01_Num_1 x0 [(D.int (1 : Int))] := (fixP_eq (t := T_law01_Num) (by rfl) _).trans (by kernel_rfl)
theorem E_law15_LinePrints (x0 x1 x2 x3 x4 x5 x6 x7 x8 : D) : FX 4 [x0, x1, x2, x3, x4, x5, x6, x7, x8] =
  let v0 : D := (D.int (IntKind.i64.wrap ((x0).toInt - (1 : Int))))
  let v1 : D := (D.agg ((D.str ((ByteArray.mk #[115, 117, 98, 109, 105, 116]))) :: ((D.str ((ByteArray.mk #[99, 97, 110, 99, 101, 108]))) :: ((D.str ((ByteArray.mk #[112, 111, 108, 108]))) :: ((D.str ((ByteArray.mk #[118, 105, 101, 119]))) :: [])))))
  let v2 : D := (((v1).toL).getD ((v0).toInt).toNat D.nil)
  bindC (FX 8 [x0, x1, x2, x3, x4, x5, x6, x7, x8]) 9 fun r9 =>
  bindC (FX 7 [(r9.getD 0 D.nil), (r9.getD 1 D.nil), (r9.getD 2 D.nil), (r9.getD 3 D.nil), (r9.getD 4 D.nil), (r9.getD 5 D.nil), (r9.getD 6 D.nil), (r9.getD 7 D.nil), (r9.getD 8 D.nil)]) 2 fun r18 =>
  bindC (FX 10 [x0, x1, x2, x3, x4, x5, x6, x7, x8]) 3 fun r20 =>
  if (scmpF .neq ((r18.getD 0 D.nil)).toStr ((r20.getD 0 D.nil)).toStr) = true then
  some [(D.bool false)]
  else
  bindC (FX 11 [(r18.getD 1 D.nil)]) 1 fun r23 =>
    if (((r23.getD 0 D.nil)).toInt != ((r20.getD 1 D.nil)).toInt) = true then
    some [(D.bool false)]
    else
    if (((r20.getD 1 D.nil)).toInt == (5 : Int)) = true then
      bindC (FX 12 [(r18.getD 1 D.nil), (D.agg [])]) 3 fun r24 =>
        if (!((r24.getD 1 D.nil)).toBool) = true then
        some [(D.bool false)]
        else
        if (((r24.getD 0 D.nil)).toInt != ((r20.getD 2 D.nil)).toInt) = true then
          some [(D.bool false)]
          else
          if (decide ((x0).toInt ≥ (1 : Int))) = true then
            if (decide ((x0).toInt ≤ (4 : Int))) = true then
              if (decide ((v0).toInt ≥ (0 : Int))) = true then
                if (decide ((v0).toInt < (((v1).toL).length : Int))) = true then
                  bindC (FX 5 [(r24.getD 2 D.nil)]) 2 fun r27 =>
                    if ((r27.getD 0 D.nil)).toBool = true then
                    bindC (FX 13 [x0]) 1 fun r29 =>
                      some [(D.bool (scmpF .eql ((r29.getD 0 D.nil)).toStr (v2).toStr))]
                    else
                    some [(D.bool false)]
                  else none
                else none
              else
              bindC (FX 5 [(r24.getD 2 D.nil)]) 2 fun r27 =>
                if ((r27.getD 0 D.nil)).toBool = true then
                bindC (FX 13 [x0]) 1 fun r29 =>
                  some [(D.bool (scmpF .eql ((r29.getD 0 D.nil)).toStr ((ByteArray.mk #[63]))))]
                else
                some [(D.bool false)]
            else
            bindC (FX 5 [(r24.getD 2 D.nil)]) 2 fun r27 =>
              if ((r27.getD 0 D.nil)).toBool = true then
              bindC (FX 13 [x0]) 1 fun r29 =>
                some [(D.bool (scmpF .eql ((r29.getD 0 D.nil)).toStr ((ByteArray.mk #[63]))))]
              else
              some [(D.bool false)]
      else
      if (((r20.getD 1 D.nil)).toInt == (1 : Int)) = true then
        bindC (FX 12 [(r18.getD 1 D.nil), (D.agg [])]) 3 fun r24 =>
          if (!((r24.getD 1 D.nil)).toBool) = true then
          some [(D.bool false)]
          else
          if (((r24.getD 0 D.nil)).toInt != ((r20.getD 2 D.nil)).toInt) = true then
            some [(D.bool false)]
            else
            if (decide ((x0).toInt ≥ (1 : Int))) = true then
              if (decide ((x0).toInt ≤ (4 : Int))) = true then
                if (decide ((v0).toInt ≥ (0 : Int))) = true then
                  if (decide ((v0).toInt < (((v1).toL).length : Int))) = true then
                    bindC (FX 5 [(r24.getD 2 D.nil)]) 2 fun r27 =>
                      if ((r27.getD 0 D.nil)).toBool = true then
                      bindC (FX 13 [x0]) 1 fun r29 =>
                        some [(D.bool (scmpF .eql ((r29.getD 0 D.nil)).toStr (v2).toStr))]
                      else
                      some [(D.bool false)]
                    else none
                  else none
                else
                bindC (FX 5 [(r24.getD 2 D.nil)]) 2 fun r27 =>
                  if ((r27.getD 0 D.nil)).toBool = true then
                  bindC (FX 13 [x0]) 1 fun r29 =>
                    some [(D.bool (scmpF .eql ((r29.getD 0 D.nil)).toStr ((ByteArray.mk #[63]))))]
                  else
                  some [(D.bool false)]
              else
              bindC (FX 5 [(r24.getD 2 D.nil)]) 2 fun r27 =>
                if ((r27.getD 0 D.nil)).toBool = true then
                bindC (FX 13 [x0]) 1 fun r29 =>
                  some [(D.bool (scmpF .eql ((r29.getD 0 D.nil)).toStr ((ByteArray.mk #[63]))))]
                else
                some [(D.bool false)]
        else
        if (decide ((x0).toInt ≥ (1 : Int))) = true then
          if (decide ((x0).toInt ≤ (4 : Int))) = true then
            if (decide ((v0).toInt ≥ (0 : Int))) = true then
              if (decide ((v0).toInt < (((v1).toL).length : Int))) = true then
                bindC (FX 5 [(D.agg [])]) 2 fun r24 =>
                  if ((r24.getD 0 D.nil)).toBool = true then
                  bindC (FX 13 [x0]) 1 fun r26 =>
                    some [(D.bool (scmpF .eql ((r26.getD 0 D.nil)).toStr (v2).toStr))]
                  else
                  some [(D.bool false)]
                else none
              else none
            else
            bindC (FX 5 [(D.agg [])]) 2 fun r24 =>
              if ((r24.getD 0 D.nil)).toBool = true then
              bindC (FX 13 [x0]) 1 fun r26 =>
                some [(D.bool (scmpF .eql ((r26.getD 0 D.nil)).toStr ((ByteArray.mk #[63]))))]
              else
              some [(D.bool false)]
          else
          bindC (FX 5 [(D.agg [])]) 2 fun r24 =>
            if ((r24.getD 0 D.nil)).toBool = true then
            bindC (FX 13 [x0]) 1 fun r26 =>
              some [(D.bool (scmpF .eql ((r26.getD 0 D.nil)).toStr ((ByteArray.mk #[63]))))]
            else
            some [(D.bool false)] := (fixP_eq (t := T_law15_LinePrints) (by rfl) _).trans (by kernel_rfl)
end Go.Proofs.YtobacchojjfpfaaGreatDoor
