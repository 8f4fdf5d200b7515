/-
  The functions, as equations.
-/
import Derived.Test.YtmgpbjennnadhaaDoorAll
namespace Go.Proofs.YtmgpbjennnadhaaDoor
open Go.Proofs.YtmgpbjennnadhaaDoor.Eng
set_option linter.unusedVariables false
set_option maxRecDepth 20000
noncomputable def J_cell_Kind_1 (x0 x1 x2 x3 x4 : D) : Eng.Fn := fun xs => evalP FX B_cell_Kind_1 [] ([x0, x1, x2, x3, x4] ++ xs)
theorem J_cell_Kind_1_eq (x0 x1 x2 x3 x4 : D) (a0 : D) : J_cell_Kind_1 x0 x1 x2 x3 x4  [a0] =
  if (a0).toBool = true then
  some [(D.str ((ByteArray.mk #[108, 105, 118, 101])))]
  else
  if ((x0).toInt == (5 : Int)) = true then
    some [(D.str ((ByteArray.mk #[102, 105, 108, 108, 101, 100])))]
    else
    if ((x0).toInt == (6 : Int)) = true then
      some [(D.str ((ByteArray.mk #[99, 97, 110, 99, 101, 108, 108, 101, 100])))]
      else
      if ((x0).toInt == (7 : Int)) = true then
        some [(D.str ((ByteArray.mk #[101, 120, 112, 105, 114, 101, 100])))]
        else
        if ((x0).toInt == (8 : Int)) = true then
          some [(D.str ((ByteArray.mk #[114, 101, 116, 105, 114, 101, 100])))]
          else
          some [(D.str ((ByteArray.mk #[63])))] := by kernel_rfl
theorem E_cell_Kind (x0 x1 x2 x3 x4 : D) : FX 25 [x0, x1, x2, x3, x4] =
  if ((x0).toInt == (0 : Int)) = true then
  some [(D.str ((ByteArray.mk #[102, 114, 101, 101])))]
  else
  if ((x0).toInt == (1 : Int)) = true then
    (J_cell_Kind_1 x0 x1 x2 x3 x4) [(D.bool ((x0).toInt == (1 : Int)))]
    else
    if ((x0).toInt == (2 : Int)) = true then
      (J_cell_Kind_1 x0 x1 x2 x3 x4) [(D.bool ((x0).toInt == (2 : Int)))]
      else
      if ((x0).toInt == (3 : Int)) = true then
        (J_cell_Kind_1 x0 x1 x2 x3 x4) [(D.bool ((x0).toInt == (3 : Int)))]
        else
        (J_cell_Kind_1 x0 x1 x2 x3 x4) [(D.bool ((x0).toInt == (4 : Int)))] := (fixP_eq (t := T_cell_Kind) (by rfl) _).trans (by kernel_rfl)
theorem E_answer_word (x0 : D) : FX 16 [x0] =
  if ((x0).toInt == (1 : Int)) = true then
  bindC (FX 25 [x0, (D.bool false), (D.int (0 : Int)), (D.int (0 : Int)), (D.int (0 : Int))]) 1 fun r1 =>
    some [(r1.getD 0 D.nil)]
  else
  if ((x0).toInt == (0 : Int)) = true then
    bindC (FX 25 [x0, (D.bool false), (D.int (0 : Int)), (D.int (0 : Int)), (D.int (0 : Int))]) 1 fun r1 =>
      some [(r1.getD 0 D.nil)]
    else
    if ((x0).toInt == (5 : Int)) = true then
      bindC (FX 25 [x0, (D.bool false), (D.int (0 : Int)), (D.int (0 : Int)), (D.int (0 : Int))]) 1 fun r1 =>
        some [(r1.getD 0 D.nil)]
      else
      if ((x0).toInt == (6 : Int)) = true then
        bindC (FX 25 [x0, (D.bool false), (D.int (0 : Int)), (D.int (0 : Int)), (D.int (0 : Int))]) 1 fun r1 =>
          some [(r1.getD 0 D.nil)]
        else
        if ((x0).toInt == (7 : Int)) = true then
          bindC (FX 25 [x0, (D.bool false), (D.int (0 : Int)), (D.int (0 : Int)), (D.int (0 : Int))]) 1 fun r1 =>
            some [(r1.getD 0 D.nil)]
          else
          if ((x0).toInt == (8 : Int)) = true then
            bindC (FX 25 [x0, (D.bool false), (D.int (0 : Int)), (D.int (0 : Int)), (D.int (0 : Int))]) 1 fun r1 =>
              some [(r1.getD 0 D.nil)]
            else
            some [(D.str ((ByteArray.mk #[])))] := (fixP_eq (t := T_answer_word) (by rfl) _).trans (by kernel_rfl)
theorem E_answer_small (x0 : D) : FX 23 [x0] =
  if (decide ((x0).toInt ≥ (0 : Int))) = true then
  some [(D.bool (decide ((x0).toInt ≤ (9999999 : Int))))]
  else
  some [(D.bool false)] := (fixP_eq (t := T_answer_small) (by rfl) _).trans (by kernel_rfl)
theorem E_answer_told (x0 x1 x2 x3 x4 x5 : D) : FX 22 [x0, x1, x2, x3, x4, x5] =
  if (decide ((x0).toInt ≥ (1 : Int))) = true then
  if (decide ((x0).toInt ≤ (5 : Int))) = true then
    bindC (FX 23 [x1]) 1 fun r6 =>
      if ((r6.getD 0 D.nil)).toBool = true then
      bindC (FX 23 [x2]) 1 fun r7 =>
        if ((r7.getD 0 D.nil)).toBool = true then
        bindC (FX 23 [x3]) 1 fun r8 =>
          if ((r8.getD 0 D.nil)).toBool = true then
          if ((x4).toInt == (0 : Int)) = true then
            some [(D.bool ((x5).toInt == (0 : Int)))]
            else
            some [(D.bool false)]
          else
          some [(D.bool false)]
        else
        some [(D.bool false)]
      else
      some [(D.bool false)]
    else
    some [(D.bool false)]
  else
  some [(D.bool false)] := (fixP_eq (t := T_answer_told) (by rfl) _).trans (by kernel_rfl)
noncomputable def J_answer_Right_4 (x0 x1 x2 x3 x4 x5 x6 x7 x8 x9 x10 x11 x12 : D) : Eng.Fn := fun xs => evalP FX B_answer_Right_4 [] ([x0, x1, x2, x3, x4, x5, x6, x7, x8, x9, x10, x11, x12] ++ xs)
theorem J_answer_Right_4_eq (x0 x1 x2 x3 x4 x5 x6 x7 x8 x9 x10 x11 x12 : D) : J_answer_Right_4 x0 x1 x2 x3 x4 x5 x6 x7 x8 x9 x10 x11 x12  [] =
  if ((x0).toInt == (1 : Int)) = true then
  some [(D.bool true)]
  else
  if ((x0).toInt == (2 : Int)) = true then
    some [(D.bool true)]
    else
    if ((x0).toInt == (3 : Int)) = true then
      some [(D.bool ((x3).toInt == (0 : Int)))]
      else
      if ((x0).toInt == (4 : Int)) = true then
        if ((x3).toInt == (0 : Int)) = true then
          some [(D.bool ((x4).toInt == (0 : Int)))]
          else
          some [(D.bool false)]
        else
        some [(D.bool false)] := by kernel_rfl
noncomputable def W_answer_Right_5 (x0 x1 x2 x3 x4 x5 x6 x7 x8 x9 x10 x11 x12 : D) (g0 : Eng.Fn) : Eng.Fn := loopF fun g xs => evalP FX B_answer_Right_5 ([g0] ++ [g]) ([x0, x1, x2, x3, x4, x5, x6, x7, x8, x9, x10, x11, x12] ++ xs)
theorem W_answer_Right_5_eq (x0 x1 x2 x3 x4 x5 x6 x7 x8 x9 x10 x11 x12 : D) (g0 : Eng.Fn) (a0 : D) : W_answer_Right_5 x0 x1 x2 x3 x4 x5 x6 x7 x8 x9 x10 x11 x12 g0 [a0] =
  let v0 : D := (((x12).toL).getD ((a0).toInt).toNat D.nil)
  if (decide ((a0).toInt < (((x12).toL).length : Int))) = true then
  if (decide ((a0).toInt ≥ (0 : Int))) = true then
    if (decide ((a0).toInt < (((x12).toL).length : Int))) = true then
      bindC (FX 16 [(((v0).toL).getD 0 D.nil)]) 1 fun r14 =>
        if (scmpF .eql ((r14.getD 0 D.nil)).toStr ((ByteArray.mk #[]))) = true then
        some [(D.bool false)]
        else
        bindC (FX 23 [(((v0).toL).getD 1 D.nil)]) 1 fun r15 =>
          if (!((r15.getD 0 D.nil)).toBool) = true then
          some [(D.bool false)]
          else
          bindC (FX 23 [(((v0).toL).getD 2 D.nil)]) 1 fun r16 =>
            if (!((r16.getD 0 D.nil)).toBool) = true then
            some [(D.bool false)]
            else
            (W_answer_Right_5 x0 x1 x2 x3 x4 x5 x6 x7 x8 x9 x10 x11 x12 g0) [(D.int (IntKind.i64.wrap ((a0).toInt + (1 : Int))))]
      else none
    else none
  else
  g0 [] := (loopP_eq FX B_answer_Right_5 [g0] [x0, x1, x2, x3, x4, x5, x6, x7, x8, x9, x10, x11, x12] _).trans (by kernel_rfl)
noncomputable def J_answer_Right_3 (x0 x1 x2 x3 x4 x5 x6 x7 x8 x9 x10 x11 x12 : D) : Eng.Fn := fun xs => evalP FX B_answer_Right_3 [] ([x0, x1, x2, x3, x4, x5, x6, x7, x8, x9, x10, x11, x12] ++ xs)
theorem J_answer_Right_3_eq (x0 x1 x2 x3 x4 x5 x6 x7 x8 x9 x10 x11 x12 : D) : J_answer_Right_3 x0 x1 x2 x3 x4 x5 x6 x7 x8 x9 x10 x11 x12  [] =
  W_answer_Right_5 x0 x1 x2 x3 x4 x5 x6 x7 x8 x9 x10 x11 x12 ((J_answer_Right_4 x0 x1 x2 x3 x4 x5 x6 x7 x8 x9 x10 x11 x12)) [(D.int (0 : Int))] := by kernel_rfl
noncomputable def J_answer_Right_2 (x0 x1 x2 x3 x4 x5 x6 x7 x8 x9 x10 x11 x12 : D) : Eng.Fn := fun xs => evalP FX B_answer_Right_2 [] ([x0, x1, x2, x3, x4, x5, x6, x7, x8, x9, x10, x11, x12] ++ xs)
theorem J_answer_Right_2_eq (x0 x1 x2 x3 x4 x5 x6 x7 x8 x9 x10 x11 x12 : D) : J_answer_Right_2 x0 x1 x2 x3 x4 x5 x6 x7 x8 x9 x10 x11 x12  [] =
  if (!(((x6).toInt == (0 : Int)) && (((x7).toInt == (0 : Int)) && (((x8).toInt == (0 : Int)) && (((x9).toInt == (0 : Int)) && (((x10).toInt == (0 : Int)) && ((x11).toInt == (0 : Int)))))))) = true then
  if ((x0).toInt != (3 : Int)) = true then
    some [(D.bool false)]
    else
    if ((x1).toInt != (0 : Int)) = true then
      some [(D.bool false)]
      else
      bindC (FX 22 [x6, x7, x8, x9, x10, x11]) 1 fun r13 =>
        if (!((r13.getD 0 D.nil)).toBool) = true then
        some [(D.bool false)]
        else
        (J_answer_Right_3 x0 x1 x2 x3 x4 x5 x6 x7 x8 x9 x10 x11 x12) []
  else
  (J_answer_Right_3 x0 x1 x2 x3 x4 x5 x6 x7 x8 x9 x10 x11 x12) [] := by kernel_rfl
noncomputable def J_answer_Right_1 (x0 x1 x2 x3 x4 x5 x6 x7 x8 x9 x10 x11 x12 : D) : Eng.Fn := fun xs => evalP FX B_answer_Right_1 [] ([x0, x1, x2, x3, x4, x5, x6, x7, x8, x9, x10, x11, x12] ++ xs)
theorem J_answer_Right_1_eq (x0 x1 x2 x3 x4 x5 x6 x7 x8 x9 x10 x11 x12 : D) : J_answer_Right_1 x0 x1 x2 x3 x4 x5 x6 x7 x8 x9 x10 x11 x12  [] =
  if (x5).toBool = true then
  if ((x0).toInt != (2 : Int)) = true then
    some [(D.bool false)]
    else
    if ((x1).toInt != (0 : Int)) = true then
      some [(D.bool false)]
      else
      if (decide ((((x12).toL).length : Int) > (0 : Int))) = true then
        if ((x0).toInt != (4 : Int)) = true then
          some [(D.bool false)]
          else
          (J_answer_Right_2 x0 x1 x2 x3 x4 x5 x6 x7 x8 x9 x10 x11 x12) []
        else
        (J_answer_Right_2 x0 x1 x2 x3 x4 x5 x6 x7 x8 x9 x10 x11 x12) []
  else
  if (decide ((((x12).toL).length : Int) > (0 : Int))) = true then
    if ((x0).toInt != (4 : Int)) = true then
      some [(D.bool false)]
      else
      if ((x1).toInt != (0 : Int)) = true then
        some [(D.bool false)]
        else
        (J_answer_Right_2 x0 x1 x2 x3 x4 x5 x6 x7 x8 x9 x10 x11 x12) []
    else
    (J_answer_Right_2 x0 x1 x2 x3 x4 x5 x6 x7 x8 x9 x10 x11 x12) [] := by kernel_rfl
theorem E_answer_Right (x0 x1 x2 x3 x4 x5 x6 x7 x8 x9 x10 x11 x12 : D) : FX 11 [x0, x1, x2, x3, x4, x5, x6, x7, x8, x9, x10, x11, x12] =
  if (decide ((x2).toInt < (0 : Int))) = true then
  some [(D.bool false)]
  else
  if (decide ((x2).toInt > (1000000 : Int))) = true then
    some [(D.bool false)]
    else
    if (decide ((x3).toInt < (0 : Int))) = true then
      some [(D.bool false)]
      else
      if (decide ((x3).toInt > (9999999 : Int))) = true then
        some [(D.bool false)]
        else
        if (decide ((x4).toInt < (0 : Int))) = true then
          some [(D.bool false)]
          else
          if (decide ((x4).toInt > (9999999 : Int))) = true then
            some [(D.bool false)]
            else
            if (decide ((x1).toInt < (0 : Int))) = true then
              some [(D.bool false)]
              else
              (J_answer_Right_1 x0 x1 x2 x3 x4 x5 x6 x7 x8 x9 x10 x11 x12) [] := (fixP_eq (t := T_answer_Right) (by rfl) _).trans (by kernel_rfl)
theorem E_line_Verb (x0 : D) : FX 13 [x0] =
  let v0 : D := (D.agg ((D.str ((ByteArray.mk #[]))) :: ((D.str ((ByteArray.mk #[115, 117, 98, 109, 105, 116]))) :: ((D.str ((ByteArray.mk #[99, 97, 110, 99, 101, 108]))) :: ((D.str ((ByteArray.mk #[112, 111, 108, 108]))) :: ((D.str ((ByteArray.mk #[118, 105, 101, 119]))) :: []))))))
  if (decide ((x0).toInt < (1 : Int))) = true then
  some [(D.str ((ByteArray.mk #[63])))]
  else
  if (decide ((x0).toInt ≥ (5 : Int))) = true then
    some [(D.str ((ByteArray.mk #[63])))]
    else
    if (decide ((x0).toInt ≥ (0 : Int))) = true then
      if (decide ((x0).toInt < (((v0).toL).length : Int))) = true then
        if (decide ((x0).toInt < (5 : Int))) = true then
          some [(((v0).toL).getD ((x0).toInt).toNat D.nil)]
          else none
        else none
      else none := (fixP_eq (t := T_line_Verb) (by rfl) _).trans (by kernel_rfl)
theorem E_record_Name (x0 : D) : FX 15 [x0] =
  if ((x0).toInt == (1 : Int)) = true then
  some [(D.str ((ByteArray.mk #[102, 105, 108, 108])))]
  else
  if ((x0).toInt == (2 : Int)) = true then
    bindC (FX 25 [(D.int (5 : Int)), (D.bool false), (D.int (0 : Int)), (D.int (0 : Int)), (D.int (0 : Int))]) 1 fun r1 =>
      some [(r1.getD 0 D.nil)]
    else
    if ((x0).toInt == (3 : Int)) = true then
      bindC (FX 25 [(D.int (6 : Int)), (D.bool false), (D.int (0 : Int)), (D.int (0 : Int)), (D.int (0 : Int))]) 1 fun r1 =>
        some [(r1.getD 0 D.nil)]
      else
      if ((x0).toInt == (4 : Int)) = true then
        bindC (FX 25 [(D.int (7 : Int)), (D.bool false), (D.int (0 : Int)), (D.int (0 : Int)), (D.int (0 : Int))]) 1 fun r1 =>
          some [(r1.getD 0 D.nil)]
        else
        if ((x0).toInt == (5 : Int)) = true then
          bindC (FX 25 [(D.int (8 : Int)), (D.bool false), (D.int (0 : Int)), (D.int (0 : Int)), (D.int (0 : Int))]) 1 fun r1 =>
            some [(r1.getD 0 D.nil)]
          else
          some [(D.str ((ByteArray.mk #[110, 111, 110, 101])))] := (fixP_eq (t := T_record_Name) (by rfl) _).trans (by kernel_rfl)
noncomputable def W_answer_Print_3 (x0 x1 x2 x3 x4 x5 x6 x7 x8 x9 x10 x11 x12 x13 x14 x15 x16 x17 : D) : Eng.Fn := loopF fun g xs => evalP FX B_answer_Print_3 ([] ++ [g]) ([x0, x1, x2, x3, x4, x5, x6, x7, x8, x9, x10, x11, x12, x13, x14, x15, x16, x17] ++ xs)
theorem W_answer_Print_3_eq (x0 x1 x2 x3 x4 x5 x6 x7 x8 x9 x10 x11 x12 x13 x14 x15 x16 x17 : D) (a0 a1 : D) : W_answer_Print_3 x0 x1 x2 x3 x4 x5 x6 x7 x8 x9 x10 x11 x12 x13 x14 x15 x16 x17 [a0, a1] =
  let v6 : D := (D.agg (x7 :: (x8 :: (x9 :: []))))
  if (decide ((a0).toInt < (((v6).toL).length : Int))) = true then
  if (decide ((a0).toInt ≥ (0 : Int))) = true then
    if (decide ((a0).toInt < (((v6).toL).length : Int))) = true then
      bindC (FX 12 [(((v6).toL).getD ((a0).toInt).toNat D.nil)]) 1 fun r20 =>
        let v7 : D := (D.agg ((a1).toL ++ ((r20.getD 0 D.nil) :: [])))
        if (decide ((((v7).toL).length : Int) ≤ (8796093022208 : Int))) = true then
        (W_answer_Print_3 x0 x1 x2 x3 x4 x5 x6 x7 x8 x9 x10 x11 x12 x13 x14 x15 x16 x17) [(D.int (IntKind.i64.wrap ((a0).toInt + (1 : Int)))), v7]
        else none
      else none
    else none
  else
  bindC (FX 17 [a1, (D.str ((ByteArray.mk #[32])))]) 1 fun r20 =>
    some [(r20.getD 0 D.nil), D.nil] := (loopP_eq FX B_answer_Print_3 [] [x0, x1, x2, x3, x4, x5, x6, x7, x8, x9, x10, x11, x12, x13, x14, x15, x16, x17] _).trans (by kernel_rfl)
noncomputable def W_answer_Print_5 (x0 x1 x2 x3 x4 x5 x6 x7 x8 x9 x10 x11 x12 x13 x14 x15 x16 x17 x18 x19 : D) (g0 : Eng.Fn) : Eng.Fn := loopF fun g xs => evalP FX B_answer_Print_5 ([g0] ++ [g]) ([x0, x1, x2, x3, x4, x5, x6, x7, x8, x9, x10, x11, x12, x13, x14, x15, x16, x17, x18, x19] ++ xs)
theorem W_answer_Print_5_eq (x0 x1 x2 x3 x4 x5 x6 x7 x8 x9 x10 x11 x12 x13 x14 x15 x16 x17 x18 x19 : D) (g0 : Eng.Fn) (a0 a1 : D) : W_answer_Print_5 x0 x1 x2 x3 x4 x5 x6 x7 x8 x9 x10 x11 x12 x13 x14 x15 x16 x17 x18 x19 g0 [a0, a1] =
  let v9 : D := (((x12).toL).getD ((x17).toInt).toNat D.nil)
  let v10 : D := (D.agg ((((v9).toL).getD 1 D.nil) :: ((((v9).toL).getD 2 D.nil) :: [])))
  if (decide ((a0).toInt < (((v10).toL).length : Int))) = true then
  if (decide ((a0).toInt ≥ (0 : Int))) = true then
    if (decide ((a0).toInt < (((v10).toL).length : Int))) = true then
      bindC (FX 12 [(((v10).toL).getD ((a0).toInt).toNat D.nil)]) 1 fun r22 =>
        let v11 : D := (D.agg ((a1).toL ++ ((r22.getD 0 D.nil) :: [])))
        if (decide ((((v11).toL).length : Int) ≤ (8796093022208 : Int))) = true then
        (W_answer_Print_5 x0 x1 x2 x3 x4 x5 x6 x7 x8 x9 x10 x11 x12 x13 x14 x15 x16 x17 x18 x19 g0) [(D.int (IntKind.i64.wrap ((a0).toInt + (1 : Int)))), v11]
        else none
      else none
    else none
  else
  g0 [(D.int (IntKind.i64.wrap ((x17).toInt + (1 : Int)))), a1] := (loopP_eq FX B_answer_Print_5 [g0] [x0, x1, x2, x3, x4, x5, x6, x7, x8, x9, x10, x11, x12, x13, x14, x15, x16, x17, x18, x19] _).trans (by kernel_rfl)
noncomputable def W_answer_Print_4 (x0 x1 x2 x3 x4 x5 x6 x7 x8 x9 x10 x11 x12 x13 x14 x15 x16 : D) : Eng.Fn := loopF fun g xs => evalP FX B_answer_Print_4 ([] ++ [g]) ([x0, x1, x2, x3, x4, x5, x6, x7, x8, x9, x10, x11, x12, x13, x14, x15, x16] ++ xs)
theorem W_answer_Print_4_eq (x0 x1 x2 x3 x4 x5 x6 x7 x8 x9 x10 x11 x12 x13 x14 x15 x16 : D) (a0 a1 : D) : W_answer_Print_4 x0 x1 x2 x3 x4 x5 x6 x7 x8 x9 x10 x11 x12 x13 x14 x15 x16 [a0, a1] =
  if (decide ((a0).toInt < (((x12).toL).length : Int))) = true then
  if (decide ((a0).toInt ≥ (0 : Int))) = true then
    if (decide ((a0).toInt < (((x12).toL).length : Int))) = true then
      bindC (FX 16 [((((((x12).toL).getD ((a0).toInt).toNat D.nil)).toL).getD 0 D.nil)]) 1 fun r19 =>
        let v8 : D := (D.agg ((a1).toL ++ ((r19.getD 0 D.nil) :: [])))
        if (decide ((((v8).toL).length : Int) ≤ (8796093022208 : Int))) = true then
        W_answer_Print_5 x0 x1 x2 x3 x4 x5 x6 x7 x8 x9 x10 x11 x12 x13 x14 x15 x16 a0 a1 (r19.getD 0 D.nil) ((W_answer_Print_4 x0 x1 x2 x3 x4 x5 x6 x7 x8 x9 x10 x11 x12 x13 x14 x15 x16)) [(D.int (0 : Int)), v8]
        else none
      else none
    else none
  else
  bindC (FX 17 [a1, (D.str ((ByteArray.mk #[32])))]) 1 fun r19 =>
    some [(r19.getD 0 D.nil), D.nil] := (loopP_eq FX B_answer_Print_4 [] [x0, x1, x2, x3, x4, x5, x6, x7, x8, x9, x10, x11, x12, x13, x14, x15, x16] _).trans (by kernel_rfl)
noncomputable def J_answer_Print_2 (x0 x1 x2 x3 x4 x5 x6 x7 x8 x9 x10 x11 x12 x13 x14 x15 : D) : Eng.Fn := fun xs => evalP FX B_answer_Print_2 [] ([x0, x1, x2, x3, x4, x5, x6, x7, x8, x9, x10, x11, x12, x13, x14, x15] ++ xs)
theorem J_answer_Print_2_eq (x0 x1 x2 x3 x4 x5 x6 x7 x8 x9 x10 x11 x12 x13 x14 x15 : D) (a0 : D) : J_answer_Print_2 x0 x1 x2 x3 x4 x5 x6 x7 x8 x9 x10 x11 x12 x13 x14 x15  [a0] =
  let v1 : D := (D.agg ((a0).toL ++ ((D.str ((ByteArray.mk #[97, 115, 107, 101, 100]))) :: [])))
  let v2 : D := (D.agg ((a0).toL ++ ((D.str ((ByteArray.mk #[111, 107]))) :: [])))
  if ((x1).toInt != (0 : Int)) = true then
  bindC (FX 12 [x1]) 1 fun r17 =>
    let v3 : D := (D.agg ((a0).toL ++ ((D.str ((ByteArray.mk #[101, 114, 114, 111, 114]))) :: ((r17.getD 0 D.nil) :: []))))
    if (decide ((((v3).toL).length : Int) ≤ (8796093022208 : Int))) = true then
    bindC (FX 17 [v3, (D.str ((ByteArray.mk #[32])))]) 1 fun r18 =>
      some [(r18.getD 0 D.nil), D.nil]
    else none
  else
  if (x5).toBool = true then
    if (decide ((((v1).toL).length : Int) ≤ (8796093022208 : Int))) = true then
      bindC (FX 17 [v1, (D.str ((ByteArray.mk #[32])))]) 1 fun r17 =>
        some [(r17.getD 0 D.nil), D.nil]
      else none
    else
    if ((x0).toInt == (3 : Int)) = true then
      if ((x6).toInt == (0 : Int)) = true then
        bindC (FX 15 [(D.int (0 : Int))]) 1 fun r17 =>
          let v4 : D := (D.agg ((a0).toL ++ ((r17.getD 0 D.nil) :: [])))
          if (decide ((((v4).toL).length : Int) ≤ (8796093022208 : Int))) = true then
          bindC (FX 17 [v4, (D.str ((ByteArray.mk #[32])))]) 1 fun r18 =>
            some [(r18.getD 0 D.nil), D.nil]
          else none
        else
        bindC (FX 15 [x6]) 1 fun r17 =>
          let v5 : D := (D.agg ((a0).toL ++ ((r17.getD 0 D.nil) :: [])))
          if (decide ((((v5).toL).length : Int) ≤ (8796093022208 : Int))) = true then
          W_answer_Print_3 x0 x1 x2 x3 x4 x5 x6 x7 x8 x9 x10 x11 x12 x13 x14 x15 a0 (r17.getD 0 D.nil) [(D.int (0 : Int)), v5]
          else none
      else
      if ((x0).toInt == (4 : Int)) = true then
        W_answer_Print_4 x0 x1 x2 x3 x4 x5 x6 x7 x8 x9 x10 x11 x12 x13 x14 x15 a0 [(D.int (0 : Int)), a0]
        else
        if (decide ((((v2).toL).length : Int) ≤ (8796093022208 : Int))) = true then
          bindC (FX 17 [v2, (D.str ((ByteArray.mk #[32])))]) 1 fun r17 =>
            some [(r17.getD 0 D.nil), D.nil]
          else none := by kernel_rfl
noncomputable def W_answer_Print_7 (x0 x1 x2 x3 x4 x5 x6 x7 x8 x9 x10 x11 x12 x13 x14 x15 x16 x17 : D) (g0 g1 : Eng.Fn) : Eng.Fn := loopF fun g xs => evalP FX B_answer_Print_7 ([g0, g1] ++ [g]) ([x0, x1, x2, x3, x4, x5, x6, x7, x8, x9, x10, x11, x12, x13, x14, x15, x16, x17] ++ xs)
theorem W_answer_Print_7_eq (x0 x1 x2 x3 x4 x5 x6 x7 x8 x9 x10 x11 x12 x13 x14 x15 x16 x17 : D) (g0 g1 : Eng.Fn) (a0 a1 : D) : W_answer_Print_7 x0 x1 x2 x3 x4 x5 x6 x7 x8 x9 x10 x11 x12 x13 x14 x15 x16 x17 g0 g1 [a0, a1] =
  let v14 : D := (D.agg (x4 :: []))
  if (decide ((a0).toInt < (((v14).toL).length : Int))) = true then
  if (decide ((a0).toInt ≥ (0 : Int))) = true then
    if (decide ((a0).toInt < (((v14).toL).length : Int))) = true then
      bindC (FX 12 [(((v14).toL).getD ((a0).toInt).toNat D.nil)]) 1 fun r20 =>
        let v15 : D := (D.agg ((a1).toL ++ ((r20.getD 0 D.nil) :: [])))
        if (decide ((((v15).toL).length : Int) ≤ (8796093022208 : Int))) = true then
        (W_answer_Print_7 x0 x1 x2 x3 x4 x5 x6 x7 x8 x9 x10 x11 x12 x13 x14 x15 x16 x17 g0 g1) [(D.int (IntKind.i64.wrap ((a0).toInt + (1 : Int)))), v15]
        else none
      else none
    else none
  else
  g0 [a1] := (loopP_eq FX B_answer_Print_7 [g0, g1] [x0, x1, x2, x3, x4, x5, x6, x7, x8, x9, x10, x11, x12, x13, x14, x15, x16, x17] _).trans (by kernel_rfl)
noncomputable def W_answer_Print_6 (x0 x1 x2 x3 x4 x5 x6 x7 x8 x9 x10 x11 x12 x13 x14 x15 : D) (g0 : Eng.Fn) : Eng.Fn := loopF fun g xs => evalP FX B_answer_Print_6 ([g0] ++ [g]) ([x0, x1, x2, x3, x4, x5, x6, x7, x8, x9, x10, x11, x12, x13, x14, x15] ++ xs)
theorem W_answer_Print_6_eq (x0 x1 x2 x3 x4 x5 x6 x7 x8 x9 x10 x11 x12 x13 x14 x15 : D) (g0 : Eng.Fn) (a0 a1 : D) : W_answer_Print_6 x0 x1 x2 x3 x4 x5 x6 x7 x8 x9 x10 x11 x12 x13 x14 x15 g0 [a0, a1] =
  let v12 : D := (D.agg (x3 :: []))
  if (decide ((a0).toInt < (((v12).toL).length : Int))) = true then
  if (decide ((a0).toInt ≥ (0 : Int))) = true then
    if (decide ((a0).toInt < (((v12).toL).length : Int))) = true then
      bindC (FX 12 [(((v12).toL).getD ((a0).toInt).toNat D.nil)]) 1 fun r18 =>
        let v13 : D := (D.agg ((a1).toL ++ ((r18.getD 0 D.nil) :: [])))
        if (decide ((((v13).toL).length : Int) ≤ (8796093022208 : Int))) = true then
        (W_answer_Print_6 x0 x1 x2 x3 x4 x5 x6 x7 x8 x9 x10 x11 x12 x13 x14 x15 g0) [(D.int (IntKind.i64.wrap ((a0).toInt + (1 : Int)))), v13]
        else none
      else none
    else none
  else
  W_answer_Print_7 x0 x1 x2 x3 x4 x5 x6 x7 x8 x9 x10 x11 x12 x13 x14 x15 a0 a1 g0 ((W_answer_Print_6 x0 x1 x2 x3 x4 x5 x6 x7 x8 x9 x10 x11 x12 x13 x14 x15 g0)) [(D.int (0 : Int)), a1] := (loopP_eq FX B_answer_Print_6 [g0] [x0, x1, x2, x3, x4, x5, x6, x7, x8, x9, x10, x11, x12, x13, x14, x15] _).trans (by kernel_rfl)
noncomputable def W_answer_Print_9 (x0 x1 x2 x3 x4 x5 x6 x7 x8 x9 x10 x11 x12 x13 x14 x15 x16 x17 : D) (g0 g1 : Eng.Fn) : Eng.Fn := loopF fun g xs => evalP FX B_answer_Print_9 ([g0, g1] ++ [g]) ([x0, x1, x2, x3, x4, x5, x6, x7, x8, x9, x10, x11, x12, x13, x14, x15, x16, x17] ++ xs)
theorem W_answer_Print_9_eq (x0 x1 x2 x3 x4 x5 x6 x7 x8 x9 x10 x11 x12 x13 x14 x15 x16 x17 : D) (g0 g1 : Eng.Fn) (a0 a1 : D) : W_answer_Print_9 x0 x1 x2 x3 x4 x5 x6 x7 x8 x9 x10 x11 x12 x13 x14 x15 x16 x17 g0 g1 [a0, a1] =
  let v18 : D := (D.agg (x4 :: []))
  if (decide ((a0).toInt < (((v18).toL).length : Int))) = true then
  if (decide ((a0).toInt ≥ (0 : Int))) = true then
    if (decide ((a0).toInt < (((v18).toL).length : Int))) = true then
      bindC (FX 12 [(((v18).toL).getD ((a0).toInt).toNat D.nil)]) 1 fun r20 =>
        let v19 : D := (D.agg ((a1).toL ++ ((r20.getD 0 D.nil) :: [])))
        if (decide ((((v19).toL).length : Int) ≤ (8796093022208 : Int))) = true then
        (W_answer_Print_9 x0 x1 x2 x3 x4 x5 x6 x7 x8 x9 x10 x11 x12 x13 x14 x15 x16 x17 g0 g1) [(D.int (IntKind.i64.wrap ((a0).toInt + (1 : Int)))), v19]
        else none
      else none
    else none
  else
  g0 [a1] := (loopP_eq FX B_answer_Print_9 [g0, g1] [x0, x1, x2, x3, x4, x5, x6, x7, x8, x9, x10, x11, x12, x13, x14, x15, x16, x17] _).trans (by kernel_rfl)
noncomputable def W_answer_Print_8 (x0 x1 x2 x3 x4 x5 x6 x7 x8 x9 x10 x11 x12 x13 x14 x15 : D) (g0 : Eng.Fn) : Eng.Fn := loopF fun g xs => evalP FX B_answer_Print_8 ([g0] ++ [g]) ([x0, x1, x2, x3, x4, x5, x6, x7, x8, x9, x10, x11, x12, x13, x14, x15] ++ xs)
theorem W_answer_Print_8_eq (x0 x1 x2 x3 x4 x5 x6 x7 x8 x9 x10 x11 x12 x13 x14 x15 : D) (g0 : Eng.Fn) (a0 a1 : D) : W_answer_Print_8 x0 x1 x2 x3 x4 x5 x6 x7 x8 x9 x10 x11 x12 x13 x14 x15 g0 [a0, a1] =
  let v16 : D := (D.agg (x3 :: []))
  if (decide ((a0).toInt < (((v16).toL).length : Int))) = true then
  if (decide ((a0).toInt ≥ (0 : Int))) = true then
    if (decide ((a0).toInt < (((v16).toL).length : Int))) = true then
      bindC (FX 12 [(((v16).toL).getD ((a0).toInt).toNat D.nil)]) 1 fun r18 =>
        let v17 : D := (D.agg ((a1).toL ++ ((r18.getD 0 D.nil) :: [])))
        if (decide ((((v17).toL).length : Int) ≤ (8796093022208 : Int))) = true then
        (W_answer_Print_8 x0 x1 x2 x3 x4 x5 x6 x7 x8 x9 x10 x11 x12 x13 x14 x15 g0) [(D.int (IntKind.i64.wrap ((a0).toInt + (1 : Int)))), v17]
        else none
      else none
    else none
  else
  W_answer_Print_9 x0 x1 x2 x3 x4 x5 x6 x7 x8 x9 x10 x11 x12 x13 x14 x15 a0 a1 g0 ((W_answer_Print_8 x0 x1 x2 x3 x4 x5 x6 x7 x8 x9 x10 x11 x12 x13 x14 x15 g0)) [(D.int (0 : Int)), a1] := (loopP_eq FX B_answer_Print_8 [g0] [x0, x1, x2, x3, x4, x5, x6, x7, x8, x9, x10, x11, x12, x13, x14, x15] _).trans (by kernel_rfl)
noncomputable def W_answer_Print_10 (x0 x1 x2 x3 x4 x5 x6 x7 x8 x9 x10 x11 x12 x13 x14 x15 : D) (g0 : Eng.Fn) : Eng.Fn := loopF fun g xs => evalP FX B_answer_Print_10 ([g0] ++ [g]) ([x0, x1, x2, x3, x4, x5, x6, x7, x8, x9, x10, x11, x12, x13, x14, x15] ++ xs)
theorem W_answer_Print_10_eq (x0 x1 x2 x3 x4 x5 x6 x7 x8 x9 x10 x11 x12 x13 x14 x15 : D) (g0 : Eng.Fn) (a0 a1 : D) : W_answer_Print_10 x0 x1 x2 x3 x4 x5 x6 x7 x8 x9 x10 x11 x12 x13 x14 x15 g0 [a0, a1] =
  let v20 : D := (D.agg (x4 :: []))
  if (decide ((a0).toInt < (((v20).toL).length : Int))) = true then
  if (decide ((a0).toInt ≥ (0 : Int))) = true then
    if (decide ((a0).toInt < (((v20).toL).length : Int))) = true then
      bindC (FX 12 [(((v20).toL).getD ((a0).toInt).toNat D.nil)]) 1 fun r18 =>
        let v21 : D := (D.agg ((a1).toL ++ ((r18.getD 0 D.nil) :: [])))
        if (decide ((((v21).toL).length : Int) ≤ (8796093022208 : Int))) = true then
        (W_answer_Print_10 x0 x1 x2 x3 x4 x5 x6 x7 x8 x9 x10 x11 x12 x13 x14 x15 g0) [(D.int (IntKind.i64.wrap ((a0).toInt + (1 : Int)))), v21]
        else none
      else none
    else none
  else
  g0 [a1] := (loopP_eq FX B_answer_Print_10 [g0] [x0, x1, x2, x3, x4, x5, x6, x7, x8, x9, x10, x11, x12, x13, x14, x15] _).trans (by kernel_rfl)
noncomputable def J_answer_Print_1 (x0 x1 x2 x3 x4 x5 x6 x7 x8 x9 x10 x11 x12 x13 : D) : Eng.Fn := fun xs => evalP FX B_answer_Print_1 [] ([x0, x1, x2, x3, x4, x5, x6, x7, x8, x9, x10, x11, x12, x13] ++ xs)
theorem J_answer_Print_1_eq (x0 x1 x2 x3 x4 x5 x6 x7 x8 x9 x10 x11 x12 x13 : D) (a0 a1 : D) : J_answer_Print_1 x0 x1 x2 x3 x4 x5 x6 x7 x8 x9 x10 x11 x12 x13  [a0, a1] =
  let v0 : D := (D.agg (a0 :: (a1 :: [])))
  if ((x0).toInt == (1 : Int)) = true then
  W_answer_Print_6 x0 x1 x2 x3 x4 x5 x6 x7 x8 x9 x10 x11 x12 x13 a0 a1 ((J_answer_Print_2 x0 x1 x2 x3 x4 x5 x6 x7 x8 x9 x10 x11 x12 x13 a0 a1)) [(D.int (0 : Int)), v0]
  else
  if ((x0).toInt == (2 : Int)) = true then
    W_answer_Print_8 x0 x1 x2 x3 x4 x5 x6 x7 x8 x9 x10 x11 x12 x13 a0 a1 ((J_answer_Print_2 x0 x1 x2 x3 x4 x5 x6 x7 x8 x9 x10 x11 x12 x13 a0 a1)) [(D.int (0 : Int)), v0]
    else
    if ((x0).toInt == (3 : Int)) = true then
      W_answer_Print_10 x0 x1 x2 x3 x4 x5 x6 x7 x8 x9 x10 x11 x12 x13 a0 a1 ((J_answer_Print_2 x0 x1 x2 x3 x4 x5 x6 x7 x8 x9 x10 x11 x12 x13 a0 a1)) [(D.int (0 : Int)), v0]
      else
      (J_answer_Print_2 x0 x1 x2 x3 x4 x5 x6 x7 x8 x9 x10 x11 x12 x13 a0 a1) [v0] := by kernel_rfl
theorem E_answer_Print (x0 x1 x2 x3 x4 x5 x6 x7 x8 x9 x10 x11 x12 : D) : FX 7 [x0, x1, x2, x3, x4, x5, x6, x7, x8, x9, x10, x11, x12] =
  bindC (FX 11 [x0, x1, x2, x3, x4, x5, x6, x7, x8, x9, x10, x11, x12]) 1 fun r13 =>
  if (!((r13.getD 0 D.nil)).toBool) = true then
  some [(D.str ((ByteArray.mk #[]))), (D.iface 29 (D.int (6 : Int)))]
  else
  bindC (FX 12 [x2]) 1 fun r14 =>
    bindC (FX 13 [x0]) 1 fun r15 =>
    (J_answer_Print_1 x0 x1 x2 x3 x4 x5 x6 x7 x8 x9 x10 x11 x12 (r13.getD 0 D.nil)) [(r14.getD 0 D.nil), (r15.getD 0 D.nil)] := (fixP_eq (t := T_answer_Print) (by rfl) _).trans (by kernel_rfl)
theorem E_p_answer_reader_next (x0 x1 : D) : FX 20 [x0, x1] =
  let v0 : D := (((x1).toL).getD ((x0).toInt).toNat D.nil)
  let v1 : D := (((v0).toL).getD 0 D.nil)
  let v2 : D := (D.int (((v1).toL).length : Int))
  if (!(x0).isNil) = true then
  if ((v2).toInt == (0 : Int)) = true then
    if (!(x0).isNil) = true then
      some [(D.str ((ByteArray.mk #[]))), (D.agg (((x1).toL).set ((x0).toInt).toNat (D.agg (((List.range 2).map fun j => ((v0).toL).getD j D.nil).set 1 (D.bool true)))))]
      else none
    else
    if (!(x0).isNil) = true then
      if (decide ((0 : Int) < (v2).toInt)) = true then
        if (!(x0).isNil) = true then
          if (decide ((0 : Int) ≤ (1 : Int))) = true then
            if (decide ((1 : Int) ≤ (v2).toInt)) = true then
              if (decide ((v2).toInt ≤ (v2).toInt)) = true then
                if (!(x0).isNil) = true then
                  some [(((v1).toL).getD ((0 : Int)).toNat D.nil), (D.agg (((x1).toL).set ((x0).toInt).toNat (D.agg (((List.range 2).map fun j => ((v0).toL).getD j D.nil).set 0 (D.agg ((((v1).toL).drop ((1 : Int)).toNat).take (((v2).toInt).toNat - ((1 : Int)).toNat)))))))]
                  else none
                else none
              else none
            else none
          else none
        else none
      else none
  else none := (fixP_eq (t := T_p_answer_reader_next) (by rfl) _).trans (by kernel_rfl)
noncomputable def W_line_Digits_1 (x0 : D) : Eng.Fn := loopF fun g xs => evalP FX B_line_Digits_1 ([] ++ [g]) ([x0] ++ xs)
theorem W_line_Digits_1_eq (x0 : D) (a0 : D) : W_line_Digits_1 x0 [a0] =
  let v0 : D := (D.int ((((x0).toStr).data.getD ((a0).toInt).toNat 0).toNat : Int))
  if (decide ((a0).toInt < (((x0).toStr).size : Int))) = true then
  if (decide ((a0).toInt ≥ (0 : Int))) = true then
    if (decide ((a0).toInt < (((x0).toStr).size : Int))) = true then
      if (decide ((v0).toInt < (48 : Int))) = true then
        some [(D.bool false)]
        else
        if (decide ((a0).toInt ≥ (0 : Int))) = true then
          if (decide ((a0).toInt < (((x0).toStr).size : Int))) = true then
            if (decide ((v0).toInt > (57 : Int))) = true then
              some [(D.bool false)]
              else
              (W_line_Digits_1 x0) [(D.int (IntKind.i64.wrap ((a0).toInt + (1 : Int))))]
            else none
          else none
      else none
    else none
  else
  some [(D.bool true)] := (loopP_eq FX B_line_Digits_1 [] [x0] _).trans (by kernel_rfl)
noncomputable def W_line_Digits_2 (x0 : D) : Eng.Fn := loopF fun g xs => evalP FX B_line_Digits_2 ([] ++ [g]) ([x0] ++ xs)
theorem W_line_Digits_2_eq (x0 : D) (a0 : D) : W_line_Digits_2 x0 [a0] =
  let v1 : D := (D.int ((((x0).toStr).data.getD ((a0).toInt).toNat 0).toNat : Int))
  if (decide ((a0).toInt < (((x0).toStr).size : Int))) = true then
  if (decide ((a0).toInt ≥ (0 : Int))) = true then
    if (decide ((a0).toInt < (((x0).toStr).size : Int))) = true then
      if (decide ((v1).toInt < (48 : Int))) = true then
        some [(D.bool false)]
        else
        if (decide ((a0).toInt ≥ (0 : Int))) = true then
          if (decide ((a0).toInt < (((x0).toStr).size : Int))) = true then
            if (decide ((v1).toInt > (57 : Int))) = true then
              some [(D.bool false)]
              else
              (W_line_Digits_2 x0) [(D.int (IntKind.i64.wrap ((a0).toInt + (1 : Int))))]
            else none
          else none
      else none
    else none
  else
  some [(D.bool true)] := (loopP_eq FX B_line_Digits_2 [] [x0] _).trans (by kernel_rfl)
theorem E_line_Digits (x0 : D) : FX 31 [x0] =
  if (scmpF .eql (x0).toStr ((ByteArray.mk #[]))) = true then
  some [(D.bool false)]
  else
  if (decide ((((x0).toStr).size : Int) > (7 : Int))) = true then
    some [(D.bool false)]
    else
    if (decide ((0 : Int) < (((x0).toStr).size : Int))) = true then
      if (((((x0).toStr).data.getD ((0 : Int)).toNat 0).toNat : Int) == (48 : Int)) = true then
        if (scmpF .neq (x0).toStr ((ByteArray.mk #[48]))) = true then
          some [(D.bool false)]
          else
          W_line_Digits_1 x0 [(D.int (0 : Int))]
        else
        W_line_Digits_2 x0 [(D.int (0 : Int))]
      else none := (fixP_eq (t := T_line_Digits) (by rfl) _).trans (by kernel_rfl)
theorem E_p_answer_reader_num (x0 x1 : D) : FX 19 [x0, x1] =
  bindC (FX 20 [x0, x1]) 2 fun r2 =>
  let v0 : D := ((((r2.getD 1 D.nil)).toL).getD ((x0).toInt).toNat D.nil)
  let v1 : D := (D.agg ((((r2.getD 1 D.nil)).toL).set ((x0).toInt).toNat (D.agg (((List.range 2).map fun j => ((v0).toL).getD j D.nil).set 1 (D.bool true)))))
  bindC (FX 30 [(r2.getD 0 D.nil)]) 2 fun r4 =>
  if (!(x0).isNil) = true then
  if ((((v0).toL).getD 1 D.nil)).toBool = true then
    if (!(x0).isNil) = true then
      some [(r4.getD 0 D.nil), v1]
      else none
    else
    if (!((r4.getD 1 D.nil)).isNil) = true then
      if (!(x0).isNil) = true then
        some [(r4.getD 0 D.nil), v1]
        else none
      else
      bindC (FX 31 [(r2.getD 0 D.nil)]) 1 fun r6 =>
        if (!(x0).isNil) = true then
        some [(r4.getD 0 D.nil), (D.agg ((((r2.getD 1 D.nil)).toL).set ((x0).toInt).toNat (D.agg (((List.range 2).map fun j => ((v0).toL).getD j D.nil).set 1 (D.bool (!((r6.getD 0 D.nil)).toBool))))))]
        else none
  else none := (fixP_eq (t := T_p_answer_reader_num) (by rfl) _).trans (by kernel_rfl)
noncomputable def W_p_answer_reader_look_1 (x0 x1 x2 x3 : D) : Eng.Fn := loopF fun g xs => evalP FX B_p_answer_reader_look_1 ([] ++ [g]) ([x0, x1, x2, x3] ++ xs)
theorem W_p_answer_reader_look_1_eq (x0 x1 x2 x3 : D) (a0 a1 : D) : W_p_answer_reader_look_1 x0 x1 x2 x3 [a0, a1] =
  let v0 : D := (D.agg ((D.int (0 : Int)) :: ((D.int (1 : Int)) :: ((D.int (5 : Int)) :: ((D.int (6 : Int)) :: ((D.int (7 : Int)) :: ((D.int (8 : Int)) :: [])))))))
  let v1 : D := (((v0).toL).getD ((a0).toInt).toNat D.nil)
  if (decide ((a0).toInt < (((v0).toL).length : Int))) = true then
  if (decide ((a0).toInt ≥ (0 : Int))) = true then
    if (decide ((a0).toInt < (((v0).toL).length : Int))) = true then
      bindC (FX 16 [v1]) 1 fun r6 =>
        if (scmpF .eql ((r6.getD 0 D.nil)).toStr (x2).toStr) = true then
        bindC (FX 19 [x0, a1]) 2 fun r7 =>
          bindC (FX 19 [x0, (r7.getD 1 D.nil)]) 2 fun r9 =>
          some [v1, (r7.getD 0 D.nil), (r9.getD 0 D.nil), (r9.getD 1 D.nil)]
        else
        (W_p_answer_reader_look_1 x0 x1 x2 x3) [(D.int (IntKind.i64.wrap ((a0).toInt + (1 : Int)))), a1]
      else none
    else none
  else
  if (!(x0).isNil) = true then
    some [(D.int (0 : Int)), (D.int (0 : Int)), (D.int (0 : Int)), (D.agg (((a1).toL).set ((x0).toInt).toNat (D.agg (((List.range 2).map fun j => (((((a1).toL).getD ((x0).toInt).toNat D.nil)).toL).getD j D.nil).set 1 (D.bool true)))))]
    else none := (loopP_eq FX B_p_answer_reader_look_1 [] [x0, x1, x2, x3] _).trans (by kernel_rfl)
theorem E_p_answer_reader_look (x0 x1 : D) : FX 32 [x0, x1] =
  bindC (FX 20 [x0, x1]) 2 fun r2 =>
  W_p_answer_reader_look_1 x0 x1 (r2.getD 0 D.nil) (r2.getD 1 D.nil) [(D.int (0 : Int)), (r2.getD 1 D.nil)] := (fixP_eq (t := T_p_answer_reader_look) (by rfl) _).trans (by kernel_rfl)
noncomputable def J_answer_Parse_3 (x0 x1 x2 x3 x4 x5 x6 x7 x8 x9 x10 x11 x12 x13 x14 x15 x16 x17 x18 x19 x20 x21 x22 x23 x24 x25 x26 x27 x28 x29 x30 x31 x32 x33 x34 : D) (g0 : Eng.Fn) : Eng.Fn := fun xs => evalP FX B_answer_Parse_3 [g0] ([x0, x1, x2, x3, x4, x5, x6, x7, x8, x9, x10, x11, x12, x13, x14, x15, x16, x17, x18, x19, x20, x21, x22, x23, x24, x25, x26, x27, x28, x29, x30, x31, x32, x33, x34] ++ xs)
theorem J_answer_Parse_3_eq (x0 x1 x2 x3 x4 x5 x6 x7 x8 x9 x10 x11 x12 x13 x14 x15 x16 x17 x18 x19 x20 x21 x22 x23 x24 x25 x26 x27 x28 x29 x30 x31 x32 x33 x34 : D) (g0 : Eng.Fn) (a0 a1 a2 a3 a4 a5 a6 a7 a8 a9 a10 a11 a12 a13 : D) : J_answer_Parse_3 x0 x1 x2 x3 x4 x5 x6 x7 x8 x9 x10 x11 x12 x13 x14 x15 x16 x17 x18 x19 x20 x21 x22 x23 x24 x25 x26 x27 x28 x29 x30 x31 x32 x33 x34 g0 [a0, a1, a2, a3, a4, a5, a6, a7, a8, a9, a10, a11, a12, a13] =
  let v4 : D := (((a13).toL).getD ((((x1).toL).length : Int)).toNat D.nil)
  if ((a0).toInt == (0 : Int)) = true then
  some [(D.int (0 : Int)), (D.int (0 : Int)), (D.int (0 : Int)), (D.int (0 : Int)), (D.int (0 : Int)), (D.bool false), (D.int (0 : Int)), (D.int (0 : Int)), (D.int (0 : Int)), (D.int (0 : Int)), (D.int (0 : Int)), (D.int (0 : Int)), (D.agg []), (D.iface 29 (D.int (6 : Int))), a13]
  else
  if ((((v4).toL).getD 1 D.nil)).toBool = true then
    some [(D.int (0 : Int)), (D.int (0 : Int)), (D.int (0 : Int)), (D.int (0 : Int)), (D.int (0 : Int)), (D.bool false), (D.int (0 : Int)), (D.int (0 : Int)), (D.int (0 : Int)), (D.int (0 : Int)), (D.int (0 : Int)), (D.int (0 : Int)), (D.agg []), (D.iface 29 (D.int (6 : Int))), a13]
    else
    if (decide (((((((v4).toL).getD 0 D.nil)).toL).length : Int) > (0 : Int))) = true then
      some [(D.int (0 : Int)), (D.int (0 : Int)), (D.int (0 : Int)), (D.int (0 : Int)), (D.int (0 : Int)), (D.bool false), (D.int (0 : Int)), (D.int (0 : Int)), (D.int (0 : Int)), (D.int (0 : Int)), (D.int (0 : Int)), (D.int (0 : Int)), (D.agg []), (D.iface 29 (D.int (6 : Int))), a13]
      else
      bindC (FX 11 [a0, a1, a2, a3, a4, a5, a6, a7, a8, a9, a10, a11, a12]) 1 fun r49 =>
        if (!((r49.getD 0 D.nil)).toBool) = true then
        some [(D.int (0 : Int)), (D.int (0 : Int)), (D.int (0 : Int)), (D.int (0 : Int)), (D.int (0 : Int)), (D.bool false), (D.int (0 : Int)), (D.int (0 : Int)), (D.int (0 : Int)), (D.int (0 : Int)), (D.int (0 : Int)), (D.int (0 : Int)), (D.agg []), (D.iface 29 (D.int (6 : Int))), a13]
        else
        some [a0, a1, a2, a3, a4, a5, a6, a7, a8, a9, a10, a11, a12, D.nil, a13] := by kernel_rfl
noncomputable def W_answer_Parse_4 (x0 x1 x2 x3 x4 x5 x6 x7 x8 x9 x10 x11 x12 x13 x14 x15 x16 x17 x18 x19 x20 x21 x22 x23 x24 x25 x26 x27 x28 x29 x30 x31 x32 x33 x34 : D) (g0 g1 : Eng.Fn) : Eng.Fn := loopF fun g xs => evalP FX B_answer_Parse_4 ([g0, g1] ++ [g]) ([x0, x1, x2, x3, x4, x5, x6, x7, x8, x9, x10, x11, x12, x13, x14, x15, x16, x17, x18, x19, x20, x21, x22, x23, x24, x25, x26, x27, x28, x29, x30, x31, x32, x33, x34] ++ xs)
theorem W_answer_Parse_4_eq (x0 x1 x2 x3 x4 x5 x6 x7 x8 x9 x10 x11 x12 x13 x14 x15 x16 x17 x18 x19 x20 x21 x22 x23 x24 x25 x26 x27 x28 x29 x30 x31 x32 x33 x34 : D) (g0 g1 : Eng.Fn) (a0 a1 a2 a3 a4 a5 a6 a7 a8 a9 a10 a11 a12 a13 : D) : W_answer_Parse_4 x0 x1 x2 x3 x4 x5 x6 x7 x8 x9 x10 x11 x12 x13 x14 x15 x16 x17 x18 x19 x20 x21 x22 x23 x24 x25 x26 x27 x28 x29 x30 x31 x32 x33 x34 g0 g1 [a0, a1, a2, a3, a4, a5, a6, a7, a8, a9, a10, a11, a12, a13] =
  let v6 : D := (((a13).toL).getD ((((x1).toL).length : Int)).toNat D.nil)
  if (decide (((((((v6).toL).getD 0 D.nil)).toL).length : Int) > (0 : Int))) = true then
  if (!((((v6).toL).getD 1 D.nil)).toBool) = true then
    bindC (FX 32 [(D.int (((x1).toL).length : Int)), a13]) 4 fun r49 =>
      let v7 : D := (D.agg ((a12).toL ++ ((D.agg ((r49.getD 0 D.nil) :: ((r49.getD 1 D.nil) :: ((r49.getD 2 D.nil) :: [])))) :: [])))
      if (decide ((((v7).toL).length : Int) ≤ (5864062014805 : Int))) = true then
      (W_answer_Parse_4 x0 x1 x2 x3 x4 x5 x6 x7 x8 x9 x10 x11 x12 x13 x14 x15 x16 x17 x18 x19 x20 x21 x22 x23 x24 x25 x26 x27 x28 x29 x30 x31 x32 x33 x34 g0 g1) [a0, a1, a2, a3, a4, a5, a6, a7, a8, a9, a10, a11, v7, (r49.getD 3 D.nil)]
      else none
    else
    g1 [a0, a1, a2, a3, a4, a5, a6, a7, a8, a9, a10, a11, a12, a13]
  else
  g1 [a0, a1, a2, a3, a4, a5, a6, a7, a8, a9, a10, a11, a12, a13] := (loopP_eq FX B_answer_Parse_4 [g0, g1] [x0, x1, x2, x3, x4, x5, x6, x7, x8, x9, x10, x11, x12, x13, x14, x15, x16, x17, x18, x19, x20, x21, x22, x23, x24, x25, x26, x27, x28, x29, x30, x31, x32, x33, x34] _).trans (by kernel_rfl)
noncomputable def W_answer_Parse_5 (x0 x1 x2 x3 x4 x5 x6 x7 x8 x9 x10 x11 x12 x13 x14 x15 x16 x17 x18 x19 x20 x21 x22 x23 x24 x25 x26 x27 x28 x29 x30 x31 x32 x33 x34 : D) (g0 g1 : Eng.Fn) : Eng.Fn := loopF fun g xs => evalP FX B_answer_Parse_5 ([g0, g1] ++ [g]) ([x0, x1, x2, x3, x4, x5, x6, x7, x8, x9, x10, x11, x12, x13, x14, x15, x16, x17, x18, x19, x20, x21, x22, x23, x24, x25, x26, x27, x28, x29, x30, x31, x32, x33, x34] ++ xs)
theorem W_answer_Parse_5_eq (x0 x1 x2 x3 x4 x5 x6 x7 x8 x9 x10 x11 x12 x13 x14 x15 x16 x17 x18 x19 x20 x21 x22 x23 x24 x25 x26 x27 x28 x29 x30 x31 x32 x33 x34 : D) (g0 g1 : Eng.Fn) (a0 a1 a2 a3 a4 a5 a6 a7 a8 a9 a10 a11 a12 a13 : D) : W_answer_Parse_5 x0 x1 x2 x3 x4 x5 x6 x7 x8 x9 x10 x11 x12 x13 x14 x15 x16 x17 x18 x19 x20 x21 x22 x23 x24 x25 x26 x27 x28 x29 x30 x31 x32 x33 x34 g0 g1 [a0, a1, a2, a3, a4, a5, a6, a7, a8, a9, a10, a11, a12, a13] =
  let v8 : D := (((a13).toL).getD ((((x1).toL).length : Int)).toNat D.nil)
  if (decide (((((((v8).toL).getD 0 D.nil)).toL).length : Int) > (0 : Int))) = true then
  if (!((((v8).toL).getD 1 D.nil)).toBool) = true then
    bindC (FX 32 [(D.int (((x1).toL).length : Int)), a13]) 4 fun r49 =>
      let v9 : D := (D.agg ((a12).toL ++ ((D.agg ((r49.getD 0 D.nil) :: ((r49.getD 1 D.nil) :: ((r49.getD 2 D.nil) :: [])))) :: [])))
      if (decide ((((v9).toL).length : Int) ≤ (5864062014805 : Int))) = true then
      (W_answer_Parse_5 x0 x1 x2 x3 x4 x5 x6 x7 x8 x9 x10 x11 x12 x13 x14 x15 x16 x17 x18 x19 x20 x21 x22 x23 x24 x25 x26 x27 x28 x29 x30 x31 x32 x33 x34 g0 g1) [a0, a1, a2, a3, a4, a5, a6, a7, a8, a9, a10, a11, v9, (r49.getD 3 D.nil)]
      else none
    else
    g1 [a0, a1, a2, a3, a4, a5, a6, a7, a8, a9, a10, a11, a12, a13]
  else
  g1 [a0, a1, a2, a3, a4, a5, a6, a7, a8, a9, a10, a11, a12, a13] := (loopP_eq FX B_answer_Parse_5 [g0, g1] [x0, x1, x2, x3, x4, x5, x6, x7, x8, x9, x10, x11, x12, x13, x14, x15, x16, x17, x18, x19, x20, x21, x22, x23, x24, x25, x26, x27, x28, x29, x30, x31, x32, x33, x34] _).trans (by kernel_rfl)
noncomputable def W_answer_Parse_6 (x0 x1 x2 x3 x4 x5 x6 x7 x8 x9 x10 x11 x12 x13 x14 x15 x16 x17 x18 x19 x20 x21 x22 x23 x24 x25 x26 x27 x28 x29 x30 x31 x32 x33 x34 x35 x36 x37 : D) (g0 g1 : Eng.Fn) : Eng.Fn := loopF fun g xs => evalP FX B_answer_Parse_6 ([g0, g1] ++ [g]) ([x0, x1, x2, x3, x4, x5, x6, x7, x8, x9, x10, x11, x12, x13, x14, x15, x16, x17, x18, x19, x20, x21, x22, x23, x24, x25, x26, x27, x28, x29, x30, x31, x32, x33, x34, x35, x36, x37] ++ xs)
theorem W_answer_Parse_6_eq (x0 x1 x2 x3 x4 x5 x6 x7 x8 x9 x10 x11 x12 x13 x14 x15 x16 x17 x18 x19 x20 x21 x22 x23 x24 x25 x26 x27 x28 x29 x30 x31 x32 x33 x34 x35 x36 x37 : D) (g0 g1 : Eng.Fn) (a0 a1 : D) : W_answer_Parse_6 x0 x1 x2 x3 x4 x5 x6 x7 x8 x9 x10 x11 x12 x13 x14 x15 x16 x17 x18 x19 x20 x21 x22 x23 x24 x25 x26 x27 x28 x29 x30 x31 x32 x33 x34 x35 x36 x37 g0 g1 [a0, a1] =
  if (decide ((a0).toInt ≤ (5 : Int))) = true then
  bindC (FX 15 [a0]) 1 fun r40 =>
    if (scmpF .eql ((r40.getD 0 D.nil)).toStr (x35).toStr) = true then
    bindC (FX 19 [(D.int (((x1).toL).length : Int)), a1]) 2 fun r41 =>
      bindC (FX 19 [(D.int (((x1).toL).length : Int)), (r41.getD 1 D.nil)]) 2 fun r43 =>
      bindC (FX 19 [(D.int (((x1).toL).length : Int)), (r43.getD 1 D.nil)]) 2 fun r45 =>
      g1 [x21, x22, x23, x24, x25, x26, a0, (r41.getD 0 D.nil), (r43.getD 0 D.nil), (r45.getD 0 D.nil), (D.int (0 : Int)), (D.int (0 : Int)), x33, (r45.getD 1 D.nil)]
    else
    (W_answer_Parse_6 x0 x1 x2 x3 x4 x5 x6 x7 x8 x9 x10 x11 x12 x13 x14 x15 x16 x17 x18 x19 x20 x21 x22 x23 x24 x25 x26 x27 x28 x29 x30 x31 x32 x33 x34 x35 x36 x37 g0 g1) [(D.int (IntKind.i64.wrap ((a0).toInt + (1 : Int)))), a1]
  else
  g1 [x21, x22, x23, x24, x25, x26, x27, x28, x29, x30, x31, x32, x33, (D.agg (((a1).toL).set ((((x1).toL).length : Int)).toNat (D.agg (((List.range 2).map fun j => (((((a1).toL).getD ((((x1).toL).length : Int)).toNat D.nil)).toL).getD j D.nil).set 1 (D.bool true)))))] := (loopP_eq FX B_answer_Parse_6 [g0, g1] [x0, x1, x2, x3, x4, x5, x6, x7, x8, x9, x10, x11, x12, x13, x14, x15, x16, x17, x18, x19, x20, x21, x22, x23, x24, x25, x26, x27, x28, x29, x30, x31, x32, x33, x34, x35, x36, x37] _).trans (by kernel_rfl)
noncomputable def W_answer_Parse_7 (x0 x1 x2 x3 x4 x5 x6 x7 x8 x9 x10 x11 x12 x13 x14 x15 x16 x17 x18 x19 x20 x21 x22 x23 x24 x25 x26 x27 x28 x29 x30 x31 x32 x33 x34 x35 x36 x37 : D) (g0 g1 : Eng.Fn) : Eng.Fn := loopF fun g xs => evalP FX B_answer_Parse_7 ([g0, g1] ++ [g]) ([x0, x1, x2, x3, x4, x5, x6, x7, x8, x9, x10, x11, x12, x13, x14, x15, x16, x17, x18, x19, x20, x21, x22, x23, x24, x25, x26, x27, x28, x29, x30, x31, x32, x33, x34, x35, x36, x37] ++ xs)
theorem W_answer_Parse_7_eq (x0 x1 x2 x3 x4 x5 x6 x7 x8 x9 x10 x11 x12 x13 x14 x15 x16 x17 x18 x19 x20 x21 x22 x23 x24 x25 x26 x27 x28 x29 x30 x31 x32 x33 x34 x35 x36 x37 : D) (g0 g1 : Eng.Fn) (a0 a1 : D) : W_answer_Parse_7 x0 x1 x2 x3 x4 x5 x6 x7 x8 x9 x10 x11 x12 x13 x14 x15 x16 x17 x18 x19 x20 x21 x22 x23 x24 x25 x26 x27 x28 x29 x30 x31 x32 x33 x34 x35 x36 x37 g0 g1 [a0, a1] =
  if (decide ((a0).toInt ≤ (5 : Int))) = true then
  bindC (FX 15 [a0]) 1 fun r40 =>
    if (scmpF .eql ((r40.getD 0 D.nil)).toStr (x35).toStr) = true then
    bindC (FX 19 [(D.int (((x1).toL).length : Int)), a1]) 2 fun r41 =>
      bindC (FX 19 [(D.int (((x1).toL).length : Int)), (r41.getD 1 D.nil)]) 2 fun r43 =>
      bindC (FX 19 [(D.int (((x1).toL).length : Int)), (r43.getD 1 D.nil)]) 2 fun r45 =>
      g1 [x21, x22, x23, x24, x25, x26, a0, (r41.getD 0 D.nil), (r43.getD 0 D.nil), (r45.getD 0 D.nil), (D.int (0 : Int)), (D.int (0 : Int)), x33, (r45.getD 1 D.nil)]
    else
    (W_answer_Parse_7 x0 x1 x2 x3 x4 x5 x6 x7 x8 x9 x10 x11 x12 x13 x14 x15 x16 x17 x18 x19 x20 x21 x22 x23 x24 x25 x26 x27 x28 x29 x30 x31 x32 x33 x34 x35 x36 x37 g0 g1) [(D.int (IntKind.i64.wrap ((a0).toInt + (1 : Int)))), a1]
  else
  g1 [x21, x22, x23, x24, x25, x26, x27, x28, x29, x30, x31, x32, x33, (D.agg (((a1).toL).set ((((x1).toL).length : Int)).toNat (D.agg (((List.range 2).map fun j => (((((a1).toL).getD ((((x1).toL).length : Int)).toNat D.nil)).toL).getD j D.nil).set 1 (D.bool true)))))] := (loopP_eq FX B_answer_Parse_7 [g0, g1] [x0, x1, x2, x3, x4, x5, x6, x7, x8, x9, x10, x11, x12, x13, x14, x15, x16, x17, x18, x19, x20, x21, x22, x23, x24, x25, x26, x27, x28, x29, x30, x31, x32, x33, x34, x35, x36, x37] _).trans (by kernel_rfl)
noncomputable def J_answer_Parse_2 (x0 x1 x2 x3 x4 x5 x6 x7 x8 x9 x10 x11 x12 x13 x14 x15 x16 x17 x18 x19 x20 : D) (g0 : Eng.Fn) : Eng.Fn := fun xs => evalP FX B_answer_Parse_2 [g0] ([x0, x1, x2, x3, x4, x5, x6, x7, x8, x9, x10, x11, x12, x13, x14, x15, x16, x17, x18, x19, x20] ++ xs)
theorem J_answer_Parse_2_eq (x0 x1 x2 x3 x4 x5 x6 x7 x8 x9 x10 x11 x12 x13 x14 x15 x16 x17 x18 x19 x20 : D) (g0 : Eng.Fn) (a0 a1 a2 a3 a4 a5 a6 a7 a8 a9 a10 a11 a12 a13 : D) : J_answer_Parse_2 x0 x1 x2 x3 x4 x5 x6 x7 x8 x9 x10 x11 x12 x13 x14 x15 x16 x17 x18 x19 x20 g0 [a0, a1, a2, a3, a4, a5, a6, a7, a8, a9, a10, a11, a12, a13] =
  let v1 : D := (((a13).toL).getD ((((x1).toL).length : Int)).toNat D.nil)
  let v2 : D := (((v1).toL).getD 0 D.nil)
  let v3 : D := (D.int (((v2).toL).length : Int))
  if ((a0).toInt != (0 : Int)) = true then
  if (!((((v1).toL).getD 1 D.nil)).toBool) = true then
    if ((a0).toInt == (4 : Int)) = true then
      if (decide ((v3).toInt > (0 : Int))) = true then
        if (decide ((0 : Int) < (v3).toInt)) = true then
          if (scmpF .eql ((((v2).toL).getD ((0 : Int)).toNat D.nil)).toStr ((ByteArray.mk #[101, 114, 114, 111, 114]))) = true then
            bindC (FX 20 [(D.int (((x1).toL).length : Int)), a13]) 2 fun r35 =>
              bindC (FX 19 [(D.int (((x1).toL).length : Int)), (r35.getD 1 D.nil)]) 2 fun r37 =>
              let v5 : D := ((((r37.getD 1 D.nil)).toL).getD ((((x1).toL).length : Int)).toNat D.nil)
              if ((((v5).toL).getD 1 D.nil)).toBool = true then
              (J_answer_Parse_3 x0 x1 x2 x3 x4 x5 x6 x7 x8 x9 x10 x11 x12 x13 x14 x15 x16 x17 x18 x19 x20 a0 a1 a2 a3 a4 a5 a6 a7 a8 a9 a10 a11 a12 a13 g0) [a0, (r37.getD 0 D.nil), a2, a3, a4, a5, a6, a7, a8, a9, a10, a11, a12, (D.agg ((((r37.getD 1 D.nil)).toL).set ((((x1).toL).length : Int)).toNat (D.agg (((List.range 2).map fun j => ((v5).toL).getD j D.nil).set 1 (D.bool true)))))]
              else
              (J_answer_Parse_3 x0 x1 x2 x3 x4 x5 x6 x7 x8 x9 x10 x11 x12 x13 x14 x15 x16 x17 x18 x19 x20 a0 a1 a2 a3 a4 a5 a6 a7 a8 a9 a10 a11 a12 a13 g0) [a0, (r37.getD 0 D.nil), a2, a3, a4, a5, a6, a7, a8, a9, a10, a11, a12, (D.agg ((((r37.getD 1 D.nil)).toL).set ((((x1).toL).length : Int)).toNat (D.agg (((List.range 2).map fun j => ((v5).toL).getD j D.nil).set 1 (D.bool (((r37.getD 0 D.nil)).toInt == (0 : Int)))))))]
            else
            W_answer_Parse_4 x0 x1 x2 x3 x4 x5 x6 x7 x8 x9 x10 x11 x12 x13 x14 x15 x16 x17 x18 x19 x20 a0 a1 a2 a3 a4 a5 a6 a7 a8 a9 a10 a11 a12 a13 g0 ((J_answer_Parse_3 x0 x1 x2 x3 x4 x5 x6 x7 x8 x9 x10 x11 x12 x13 x14 x15 x16 x17 x18 x19 x20 a0 a1 a2 a3 a4 a5 a6 a7 a8 a9 a10 a11 a12 a13 g0)) [a0, a1, a2, a3, a4, a5, a6, a7, a8, a9, a10, a11, a12, a13]
          else none
        else
        W_answer_Parse_5 x0 x1 x2 x3 x4 x5 x6 x7 x8 x9 x10 x11 x12 x13 x14 x15 x16 x17 x18 x19 x20 a0 a1 a2 a3 a4 a5 a6 a7 a8 a9 a10 a11 a12 a13 g0 ((J_answer_Parse_3 x0 x1 x2 x3 x4 x5 x6 x7 x8 x9 x10 x11 x12 x13 x14 x15 x16 x17 x18 x19 x20 a0 a1 a2 a3 a4 a5 a6 a7 a8 a9 a10 a11 a12 a13 g0)) [a0, a1, a2, a3, a4, a5, a6, a7, a8, a9, a10, a11, a12, a13]
      else
      bindC (FX 20 [(D.int (((x1).toL).length : Int)), a13]) 2 fun r35 =>
        let v10 : D := (D.agg ((((r35.getD 1 D.nil)).toL).set ((((x1).toL).length : Int)).toNat (D.agg (((List.range 2).map fun j => ((((((r35.getD 1 D.nil)).toL).getD ((((x1).toL).length : Int)).toNat D.nil)).toL).getD j D.nil).set 1 (D.bool true)))))
        if (scmpF .eql ((r35.getD 0 D.nil)).toStr ((ByteArray.mk #[101, 114, 114, 111, 114]))) = true then
        bindC (FX 19 [(D.int (((x1).toL).length : Int)), (r35.getD 1 D.nil)]) 2 fun r37 =>
          let v11 : D := ((((r37.getD 1 D.nil)).toL).getD ((((x1).toL).length : Int)).toNat D.nil)
          if ((((v11).toL).getD 1 D.nil)).toBool = true then
          (J_answer_Parse_3 x0 x1 x2 x3 x4 x5 x6 x7 x8 x9 x10 x11 x12 x13 x14 x15 x16 x17 x18 x19 x20 a0 a1 a2 a3 a4 a5 a6 a7 a8 a9 a10 a11 a12 a13 g0) [a0, (r37.getD 0 D.nil), a2, a3, a4, a5, a6, a7, a8, a9, a10, a11, a12, (D.agg ((((r37.getD 1 D.nil)).toL).set ((((x1).toL).length : Int)).toNat (D.agg (((List.range 2).map fun j => ((v11).toL).getD j D.nil).set 1 (D.bool true)))))]
          else
          (J_answer_Parse_3 x0 x1 x2 x3 x4 x5 x6 x7 x8 x9 x10 x11 x12 x13 x14 x15 x16 x17 x18 x19 x20 a0 a1 a2 a3 a4 a5 a6 a7 a8 a9 a10 a11 a12 a13 g0) [a0, (r37.getD 0 D.nil), a2, a3, a4, a5, a6, a7, a8, a9, a10, a11, a12, (D.agg ((((r37.getD 1 D.nil)).toL).set ((((x1).toL).length : Int)).toNat (D.agg (((List.range 2).map fun j => ((v11).toL).getD j D.nil).set 1 (D.bool (((r37.getD 0 D.nil)).toInt == (0 : Int)))))))]
        else
        if ((a0).toInt == (2 : Int)) = true then
          if (scmpF .eql ((r35.getD 0 D.nil)).toStr ((ByteArray.mk #[97, 115, 107, 101, 100]))) = true then
            (J_answer_Parse_3 x0 x1 x2 x3 x4 x5 x6 x7 x8 x9 x10 x11 x12 x13 x14 x15 x16 x17 x18 x19 x20 a0 a1 a2 a3 a4 a5 a6 a7 a8 a9 a10 a11 a12 a13 g0) [a0, a1, a2, a3, a4, (D.bool true), a6, a7, a8, a9, a10, a11, a12, (r35.getD 1 D.nil)]
            else
            if ((a0).toInt == (3 : Int)) = true then
              bindC (FX 15 [(D.int (0 : Int))]) 1 fun r37 =>
                if (scmpF .eql ((r35.getD 0 D.nil)).toStr ((r37.getD 0 D.nil)).toStr) = true then
                (J_answer_Parse_3 x0 x1 x2 x3 x4 x5 x6 x7 x8 x9 x10 x11 x12 x13 x14 x15 x16 x17 x18 x19 x20 a0 a1 a2 a3 a4 a5 a6 a7 a8 a9 a10 a11 a12 a13 g0) [a0, a1, a2, a3, a4, a5, a6, a7, a8, a9, a10, a11, a12, (r35.getD 1 D.nil)]
                else
                W_answer_Parse_6 x0 x1 x2 x3 x4 x5 x6 x7 x8 x9 x10 x11 x12 x13 x14 x15 x16 x17 x18 x19 x20 a0 a1 a2 a3 a4 a5 a6 a7 a8 a9 a10 a11 a12 a13 (r35.getD 0 D.nil) (r35.getD 1 D.nil) (r37.getD 0 D.nil) g0 ((J_answer_Parse_3 x0 x1 x2 x3 x4 x5 x6 x7 x8 x9 x10 x11 x12 x13 x14 x15 x16 x17 x18 x19 x20 a0 a1 a2 a3 a4 a5 a6 a7 a8 a9 a10 a11 a12 a13 g0)) [(D.int (1 : Int)), (r35.getD 1 D.nil)]
              else
              if (scmpF .neq ((r35.getD 0 D.nil)).toStr ((ByteArray.mk #[111, 107]))) = true then
                (J_answer_Parse_3 x0 x1 x2 x3 x4 x5 x6 x7 x8 x9 x10 x11 x12 x13 x14 x15 x16 x17 x18 x19 x20 a0 a1 a2 a3 a4 a5 a6 a7 a8 a9 a10 a11 a12 a13 g0) [a0, a1, a2, a3, a4, a5, a6, a7, a8, a9, a10, a11, a12, v10]
                else
                (J_answer_Parse_3 x0 x1 x2 x3 x4 x5 x6 x7 x8 x9 x10 x11 x12 x13 x14 x15 x16 x17 x18 x19 x20 a0 a1 a2 a3 a4 a5 a6 a7 a8 a9 a10 a11 a12 a13 g0) [a0, a1, a2, a3, a4, a5, a6, a7, a8, a9, a10, a11, a12, (r35.getD 1 D.nil)]
          else
          if ((a0).toInt == (3 : Int)) = true then
            bindC (FX 15 [(D.int (0 : Int))]) 1 fun r37 =>
              if (scmpF .eql ((r35.getD 0 D.nil)).toStr ((r37.getD 0 D.nil)).toStr) = true then
              (J_answer_Parse_3 x0 x1 x2 x3 x4 x5 x6 x7 x8 x9 x10 x11 x12 x13 x14 x15 x16 x17 x18 x19 x20 a0 a1 a2 a3 a4 a5 a6 a7 a8 a9 a10 a11 a12 a13 g0) [a0, a1, a2, a3, a4, a5, a6, a7, a8, a9, a10, a11, a12, (r35.getD 1 D.nil)]
              else
              W_answer_Parse_7 x0 x1 x2 x3 x4 x5 x6 x7 x8 x9 x10 x11 x12 x13 x14 x15 x16 x17 x18 x19 x20 a0 a1 a2 a3 a4 a5 a6 a7 a8 a9 a10 a11 a12 a13 (r35.getD 0 D.nil) (r35.getD 1 D.nil) (r37.getD 0 D.nil) g0 ((J_answer_Parse_3 x0 x1 x2 x3 x4 x5 x6 x7 x8 x9 x10 x11 x12 x13 x14 x15 x16 x17 x18 x19 x20 a0 a1 a2 a3 a4 a5 a6 a7 a8 a9 a10 a11 a12 a13 g0)) [(D.int (1 : Int)), (r35.getD 1 D.nil)]
            else
            if (scmpF .neq ((r35.getD 0 D.nil)).toStr ((ByteArray.mk #[111, 107]))) = true then
              (J_answer_Parse_3 x0 x1 x2 x3 x4 x5 x6 x7 x8 x9 x10 x11 x12 x13 x14 x15 x16 x17 x18 x19 x20 a0 a1 a2 a3 a4 a5 a6 a7 a8 a9 a10 a11 a12 a13 g0) [a0, a1, a2, a3, a4, a5, a6, a7, a8, a9, a10, a11, a12, v10]
              else
              (J_answer_Parse_3 x0 x1 x2 x3 x4 x5 x6 x7 x8 x9 x10 x11 x12 x13 x14 x15 x16 x17 x18 x19 x20 a0 a1 a2 a3 a4 a5 a6 a7 a8 a9 a10 a11 a12 a13 g0) [a0, a1, a2, a3, a4, a5, a6, a7, a8, a9, a10, a11, a12, (r35.getD 1 D.nil)]
    else
    (J_answer_Parse_3 x0 x1 x2 x3 x4 x5 x6 x7 x8 x9 x10 x11 x12 x13 x14 x15 x16 x17 x18 x19 x20 a0 a1 a2 a3 a4 a5 a6 a7 a8 a9 a10 a11 a12 a13 g0) [a0, a1, a2, a3, a4, a5, a6, a7, a8, a9, a10, a11, a12, a13]
  else
  (J_answer_Parse_3 x0 x1 x2 x3 x4 x5 x6 x7 x8 x9 x10 x11 x12 x13 x14 x15 x16 x17 x18 x19 x20 a0 a1 a2 a3 a4 a5 a6 a7 a8 a9 a10 a11 a12 a13 g0) [a0, a1, a2, a3, a4, a5, a6, a7, a8, a9, a10, a11, a12, a13] := by kernel_rfl
noncomputable def W_answer_Parse_1 (x0 x1 x2 x3 x4 x5 x6 : D) : Eng.Fn := loopF fun g xs => evalP FX B_answer_Parse_1 ([] ++ [g]) ([x0, x1, x2, x3, x4, x5, x6] ++ xs)
theorem W_answer_Parse_1_eq (x0 x1 x2 x3 x4 x5 x6 : D) (a0 a1 a2 a3 a4 a5 a6 a7 a8 a9 a10 a11 a12 a13 : D) : W_answer_Parse_1 x0 x1 x2 x3 x4 x5 x6 [a0, a1, a2, a3, a4, a5, a6, a7, a8, a9, a10, a11, a12, a13] =
  let v0 : D := (D.int (IntKind.i64.wrap ((a0).toInt + (1 : Int))))
  if (decide ((a0).toInt ≤ (4 : Int))) = true then
  bindC (FX 13 [a0]) 1 fun r21 =>
    if (scmpF .eql ((r21.getD 0 D.nil)).toStr (x5).toStr) = true then
    (W_answer_Parse_1 x0 x1 x2 x3 x4 x5 x6) [v0, a0, a2, a3, a4, a5, a6, a7, a8, a9, a10, a11, a12, a13]
    else
    (W_answer_Parse_1 x0 x1 x2 x3 x4 x5 x6) [v0, a1, a2, a3, a4, a5, a6, a7, a8, a9, a10, a11, a12, a13]
  else
  if ((a1).toInt == (1 : Int)) = true then
    bindC (FX 19 [(D.int (((x1).toL).length : Int)), x6]) 2 fun r21 =>
      bindC (FX 19 [(D.int (((x1).toL).length : Int)), (r21.getD 1 D.nil)]) 2 fun r23 =>
      (J_answer_Parse_2 x0 x1 x2 x3 x4 x5 x6 a0 a1 a2 a3 a4 a5 a6 a7 a8 a9 a10 a11 a12 a13 (W_answer_Parse_1 x0 x1 x2 x3 x4 x5 x6)) [a1, a2, a3, (r21.getD 0 D.nil), (r23.getD 0 D.nil), a6, a7, a8, a9, a10, a11, a12, a13, (r23.getD 1 D.nil)]
    else
    if ((a1).toInt == (2 : Int)) = true then
      bindC (FX 19 [(D.int (((x1).toL).length : Int)), x6]) 2 fun r21 =>
        bindC (FX 19 [(D.int (((x1).toL).length : Int)), (r21.getD 1 D.nil)]) 2 fun r23 =>
        (J_answer_Parse_2 x0 x1 x2 x3 x4 x5 x6 a0 a1 a2 a3 a4 a5 a6 a7 a8 a9 a10 a11 a12 a13 (W_answer_Parse_1 x0 x1 x2 x3 x4 x5 x6)) [a1, a2, a3, (r21.getD 0 D.nil), (r23.getD 0 D.nil), a6, a7, a8, a9, a10, a11, a12, a13, (r23.getD 1 D.nil)]
      else
      if ((a1).toInt == (3 : Int)) = true then
        bindC (FX 19 [(D.int (((x1).toL).length : Int)), x6]) 2 fun r21 =>
          (J_answer_Parse_2 x0 x1 x2 x3 x4 x5 x6 a0 a1 a2 a3 a4 a5 a6 a7 a8 a9 a10 a11 a12 a13 (W_answer_Parse_1 x0 x1 x2 x3 x4 x5 x6)) [a1, a2, a3, a4, (r21.getD 0 D.nil), a6, a7, a8, a9, a10, a11, a12, a13, (r21.getD 1 D.nil)]
        else
        (J_answer_Parse_2 x0 x1 x2 x3 x4 x5 x6 a0 a1 a2 a3 a4 a5 a6 a7 a8 a9 a10 a11 a12 a13 (W_answer_Parse_1 x0 x1 x2 x3 x4 x5 x6)) [a1, a2, a3, a4, a5, a6, a7, a8, a9, a10, a11, a12, a13, x6] := (loopP_eq FX B_answer_Parse_1 [] [x0, x1, x2, x3, x4, x5, x6] _).trans (by kernel_rfl)
theorem E_answer_Parse (x0 x1 : D) : FX 10 [x0, x1] =
  bindC (FX 18 [x0, (D.str ((ByteArray.mk #[32])))]) 1 fun r2 =>
  bindC (FX 19 [(D.int (((x1).toL).length : Int)), (D.agg ((x1).toL ++ ((D.agg ((r2.getD 0 D.nil) :: ((D.bool false) :: []))) :: [])))]) 2 fun r3 =>
  bindC (FX 20 [(D.int (((x1).toL).length : Int)), (r3.getD 1 D.nil)]) 2 fun r5 =>
  W_answer_Parse_1 x0 x1 (r2.getD 0 D.nil) (r3.getD 0 D.nil) (r3.getD 1 D.nil) (r5.getD 0 D.nil) (r5.getD 1 D.nil) [(D.int (1 : Int)), (D.int (0 : Int)), (D.int (0 : Int)), (r3.getD 0 D.nil), (D.int (0 : Int)), (D.int (0 : Int)), (D.bool false), (D.int (0 : Int)), (D.int (0 : Int)), (D.int (0 : Int)), (D.int (0 : Int)), (D.int (0 : Int)), (D.int (0 : Int)), (D.agg [])] := (fixP_eq (t := T_answer_Parse) (by rfl) _).trans (by kernel_rfl)
theorem E_ref16_most (x0 : D) : FX 9 [x0] =
  if (decide ((x0).toInt ≥ (0 : Int))) = true then
  some [(D.bool (decide ((x0).toInt ≤ (9999999 : Int))))]
  else
  some [(D.bool false)] := (fixP_eq (t := T_ref16_most) (by rfl) _).trans (by kernel_rfl)
noncomputable def W_ref16_Right_5 (x0 x1 x2 x3 x4 x5 x6 x7 x8 x9 x10 x11 x12 : D) : Eng.Fn := loopF fun g xs => evalP FX B_ref16_Right_5 ([] ++ [g]) ([x0, x1, x2, x3, x4, x5, x6, x7, x8, x9, x10, x11, x12] ++ xs)
theorem W_ref16_Right_5_eq (x0 x1 x2 x3 x4 x5 x6 x7 x8 x9 x10 x11 x12 : D) (a0 : D) : W_ref16_Right_5 x0 x1 x2 x3 x4 x5 x6 x7 x8 x9 x10 x11 x12 [a0] =
  let v0 : D := (((x12).toL).getD ((a0).toInt).toNat D.nil)
  let v1 : D := (D.int (IntKind.i64.wrap ((a0).toInt + (1 : Int))))
  let v2 : D := (((v0).toL).getD 0 D.nil)
  let v3 : D := (((v0).toL).getD 1 D.nil)
  let v4 : D := (((v0).toL).getD 2 D.nil)
  if (decide ((a0).toInt < (((x12).toL).length : Int))) = true then
  if (decide ((a0).toInt ≥ (0 : Int))) = true then
    if (decide ((a0).toInt < (((x12).toL).length : Int))) = true then
      if ((x0).toInt != (4 : Int)) = true then
        some [(D.bool false)]
        else
        if ((x1).toInt != (0 : Int)) = true then
          some [(D.bool false)]
          else
          if (decide ((v2).toInt < (0 : Int))) = true then
            some [(D.bool false)]
            else
            if (decide ((v2).toInt > (8 : Int))) = true then
              some [(D.bool false)]
              else
              if (decide ((v2).toInt ≥ (2 : Int))) = true then
                if (decide ((v2).toInt ≤ (4 : Int))) = true then
                  some [(D.bool false)]
                  else
                  bindC (FX 9 [v3]) 1 fun r14 =>
                    if (!((r14.getD 0 D.nil)).toBool) = true then
                    some [(D.bool false)]
                    else
                    bindC (FX 9 [v4]) 1 fun r15 =>
                      if (!((r15.getD 0 D.nil)).toBool) = true then
                      some [(D.bool false)]
                      else
                      (W_ref16_Right_5 x0 x1 x2 x3 x4 x5 x6 x7 x8 x9 x10 x11 x12) [v1]
                else
                bindC (FX 9 [v3]) 1 fun r14 =>
                  if (!((r14.getD 0 D.nil)).toBool) = true then
                  some [(D.bool false)]
                  else
                  bindC (FX 9 [v4]) 1 fun r15 =>
                    if (!((r15.getD 0 D.nil)).toBool) = true then
                    some [(D.bool false)]
                    else
                    (W_ref16_Right_5 x0 x1 x2 x3 x4 x5 x6 x7 x8 x9 x10 x11 x12) [v1]
      else none
    else none
  else
  some [(D.bool true)] := (loopP_eq FX B_ref16_Right_5 [] [x0, x1, x2, x3, x4, x5, x6, x7, x8, x9, x10, x11, x12] _).trans (by kernel_rfl)
noncomputable def J_ref16_Right_4 (x0 x1 x2 x3 x4 x5 x6 x7 x8 x9 x10 x11 x12 : D) : Eng.Fn := fun xs => evalP FX B_ref16_Right_4 [] ([x0, x1, x2, x3, x4, x5, x6, x7, x8, x9, x10, x11, x12] ++ xs)
theorem J_ref16_Right_4_eq (x0 x1 x2 x3 x4 x5 x6 x7 x8 x9 x10 x11 x12 : D) : J_ref16_Right_4 x0 x1 x2 x3 x4 x5 x6 x7 x8 x9 x10 x11 x12  [] =
  W_ref16_Right_5 x0 x1 x2 x3 x4 x5 x6 x7 x8 x9 x10 x11 x12 [(D.int (0 : Int))] := by kernel_rfl
noncomputable def J_ref16_Right_3 (x0 x1 x2 x3 x4 x5 x6 x7 x8 x9 x10 x11 x12 : D) : Eng.Fn := fun xs => evalP FX B_ref16_Right_3 [] ([x0, x1, x2, x3, x4, x5, x6, x7, x8, x9, x10, x11, x12] ++ xs)
theorem J_ref16_Right_3_eq (x0 x1 x2 x3 x4 x5 x6 x7 x8 x9 x10 x11 x12 : D) : J_ref16_Right_3 x0 x1 x2 x3 x4 x5 x6 x7 x8 x9 x10 x11 x12  [] =
  if (!(((x6).toInt == (0 : Int)) && (((x7).toInt == (0 : Int)) && (((x8).toInt == (0 : Int)) && (((x9).toInt == (0 : Int)) && (((x10).toInt == (0 : Int)) && ((x11).toInt == (0 : Int)))))))) = true then
  if ((x0).toInt != (3 : Int)) = true then
    some [(D.bool false)]
    else
    if ((x1).toInt != (0 : Int)) = true then
      some [(D.bool false)]
      else
      if (decide ((x6).toInt < (1 : Int))) = true then
        some [(D.bool false)]
        else
        if (decide ((x6).toInt > (5 : Int))) = true then
          some [(D.bool false)]
          else
          bindC (FX 9 [x7]) 1 fun r13 =>
            if (!((r13.getD 0 D.nil)).toBool) = true then
            some [(D.bool false)]
            else
            bindC (FX 9 [x8]) 1 fun r14 =>
              if (!((r14.getD 0 D.nil)).toBool) = true then
              some [(D.bool false)]
              else
              bindC (FX 9 [x9]) 1 fun r15 =>
                if (!((r15.getD 0 D.nil)).toBool) = true then
                some [(D.bool false)]
                else
                if ((x10).toInt != (0 : Int)) = true then
                  some [(D.bool false)]
                  else
                  if ((x11).toInt != (0 : Int)) = true then
                    some [(D.bool false)]
                    else
                    (J_ref16_Right_4 x0 x1 x2 x3 x4 x5 x6 x7 x8 x9 x10 x11 x12) []
  else
  (J_ref16_Right_4 x0 x1 x2 x3 x4 x5 x6 x7 x8 x9 x10 x11 x12) [] := by kernel_rfl
noncomputable def J_ref16_Right_2 (x0 x1 x2 x3 x4 x5 x6 x7 x8 x9 x10 x11 x12 : D) : Eng.Fn := fun xs => evalP FX B_ref16_Right_2 [] ([x0, x1, x2, x3, x4, x5, x6, x7, x8, x9, x10, x11, x12] ++ xs)
theorem J_ref16_Right_2_eq (x0 x1 x2 x3 x4 x5 x6 x7 x8 x9 x10 x11 x12 : D) : J_ref16_Right_2 x0 x1 x2 x3 x4 x5 x6 x7 x8 x9 x10 x11 x12  [] =
  if (x5).toBool = true then
  if ((x0).toInt != (2 : Int)) = true then
    some [(D.bool false)]
    else
    if ((x1).toInt != (0 : Int)) = true then
      some [(D.bool false)]
      else
      (J_ref16_Right_3 x0 x1 x2 x3 x4 x5 x6 x7 x8 x9 x10 x11 x12) []
  else
  (J_ref16_Right_3 x0 x1 x2 x3 x4 x5 x6 x7 x8 x9 x10 x11 x12) [] := by kernel_rfl
noncomputable def J_ref16_Right_1 (x0 x1 x2 x3 x4 x5 x6 x7 x8 x9 x10 x11 x12 : D) : Eng.Fn := fun xs => evalP FX B_ref16_Right_1 [] ([x0, x1, x2, x3, x4, x5, x6, x7, x8, x9, x10, x11, x12] ++ xs)
theorem J_ref16_Right_1_eq (x0 x1 x2 x3 x4 x5 x6 x7 x8 x9 x10 x11 x12 : D) : J_ref16_Right_1 x0 x1 x2 x3 x4 x5 x6 x7 x8 x9 x10 x11 x12  [] =
  if (decide ((x0).toInt ≥ (3 : Int))) = true then
  if ((x3).toInt != (0 : Int)) = true then
    some [(D.bool false)]
    else
    if ((x0).toInt == (4 : Int)) = true then
      if ((x4).toInt != (0 : Int)) = true then
        some [(D.bool false)]
        else
        (J_ref16_Right_2 x0 x1 x2 x3 x4 x5 x6 x7 x8 x9 x10 x11 x12) []
      else
      (J_ref16_Right_2 x0 x1 x2 x3 x4 x5 x6 x7 x8 x9 x10 x11 x12) []
  else
  if ((x0).toInt == (4 : Int)) = true then
    if ((x4).toInt != (0 : Int)) = true then
      some [(D.bool false)]
      else
      (J_ref16_Right_2 x0 x1 x2 x3 x4 x5 x6 x7 x8 x9 x10 x11 x12) []
    else
    (J_ref16_Right_2 x0 x1 x2 x3 x4 x5 x6 x7 x8 x9 x10 x11 x12) [] := by kernel_rfl
theorem E_ref16_Right (x0 x1 x2 x3 x4 x5 x6 x7 x8 x9 x10 x11 x12 : D) : FX 4 [x0, x1, x2, x3, x4, x5, x6, x7, x8, x9, x10, x11, x12] =
  if (decide ((x0).toInt < (1 : Int))) = true then
  some [(D.bool false)]
  else
  if (decide ((x0).toInt > (4 : Int))) = true then
    some [(D.bool false)]
    else
    if (decide ((x2).toInt < (0 : Int))) = true then
      some [(D.bool false)]
      else
      if (decide ((x2).toInt > (1000000 : Int))) = true then
        some [(D.bool false)]
        else
        bindC (FX 9 [x3]) 1 fun r13 =>
          if (!((r13.getD 0 D.nil)).toBool) = true then
          some [(D.bool false)]
          else
          bindC (FX 9 [x4]) 1 fun r14 =>
            if (!((r14.getD 0 D.nil)).toBool) = true then
            some [(D.bool false)]
            else
            if (decide ((x1).toInt < (0 : Int))) = true then
              some [(D.bool false)]
              else
              (J_ref16_Right_1 x0 x1 x2 x3 x4 x5 x6 x7 x8 x9 x10 x11 x12) [] := (fixP_eq (t := T_ref16_Right) (by rfl) _).trans (by kernel_rfl)
theorem E_law16_awake (x0 : D) : FX 5 [x0] =
  bindC (FX 10 [(D.str ((ByteArray.mk #[57, 32, 99, 97, 110, 99, 101, 108, 32, 55, 32, 48, 32, 97, 115, 107, 101, 100]))), x0]) 15 fun r1 =>
  if ((r1.getD 13 D.nil)).isNil = true then
  if (((r1.getD 0 D.nil)).toInt == (2 : Int)) = true then
    if (((r1.getD 2 D.nil)).toInt == (9 : Int)) = true then
      if (((r1.getD 3 D.nil)).toInt == (7 : Int)) = true then
        some [(r1.getD 5 D.nil), (r1.getD 14 D.nil)]
        else
        some [(D.bool false), (r1.getD 14 D.nil)]
      else
      some [(D.bool false), (r1.getD 14 D.nil)]
    else
    some [(D.bool false), (r1.getD 14 D.nil)]
  else
  some [(D.bool false), (r1.getD 14 D.nil)] := (fixP_eq (t := T_law16_awake) (by rfl) _).trans (by kernel_rfl)
noncomputable def W_law16_AnswerLooks_1_1 (x0 x1 x2 x3 x4 x5 x6 x7 x8 x9 x10 x11 x12 : D) : Eng.Fn := loopF fun g xs => evalP FX B_law16_AnswerLooks_1_1 ([] ++ [g]) ([x0, x1, x2, x3, x4, x5, x6, x7, x8, x9, x10, x11, x12] ++ xs)
theorem W_law16_AnswerLooks_1_1_eq (x0 x1 x2 x3 x4 x5 x6 x7 x8 x9 x10 x11 x12 : D) (a0 a1 a2 a3 a4 a5 a6 a7 a8 a9 a10 a11 a12 a13 : D) : W_law16_AnswerLooks_1_1 x0 x1 x2 x3 x4 x5 x6 x7 x8 x9 x10 x11 x12 [a0, a1, a2, a3, a4, a5, a6, a7, a8, a9, a10, a11, a12, a13] =
  let v0 : D := (((x12).toL).getD ((a0).toInt).toNat D.nil)
  let v1 : D := (D.agg ((a13).toL ++ ((D.agg ((((v0).toL).getD 0 D.nil) :: ((((v0).toL).getD 1 D.nil) :: ((((v0).toL).getD 2 D.nil) :: [])))) :: [])))
  if (decide ((a0).toInt < (((x12).toL).length : Int))) = true then
  if (decide ((a0).toInt ≥ (0 : Int))) = true then
    if (decide ((a0).toInt < (((x12).toL).length : Int))) = true then
      if (decide ((((v1).toL).length : Int) ≤ (5864062014805 : Int))) = true then
        (W_law16_AnswerLooks_1_1 x0 x1 x2 x3 x4 x5 x6 x7 x8 x9 x10 x11 x12) [(D.int (IntKind.i64.wrap ((a0).toInt + (1 : Int)))), a1, a2, a3, a4, a5, a6, a7, a8, a9, a10, a11, a12, v1]
        else none
      else none
    else none
  else
  some [a1, a2, a3, a4, a5, a6, a7, a8, a9, a10, a11, a12, a13] := (loopP_eq FX B_law16_AnswerLooks_1_1 [] [x0, x1, x2, x3, x4, x5, x6, x7, x8, x9, x10, x11, x12] _).trans (by kernel_rfl)
theorem E_law16_AnswerLooks_1 (x0 x1 x2 x3 x4 x5 x6 x7 x8 x9 x10 x11 x12 : D) : FX 6 [x0, x1, x2, x3, x4, x5, x6, x7, x8, x9, x10, x11, x12] =
  W_law16_AnswerLooks_1_1 x0 x1 x2 x3 x4 x5 x6 x7 x8 x9 x10 x11 x12 [(D.int (0 : Int)), x0, x1, x2, x3, x4, x5, x6, x7, x8, x9, x10, x11, (D.agg [])] := (fixP_eq (t := T_law16_AnswerLooks_1) (by rfl) _).trans (by kernel_rfl)
noncomputable def W_ref11_Same_1 (x0 x1 x2 x3 x4 x5 x6 x7 x8 x9 x10 x11 x12 x13 x14 x15 x16 x17 x18 x19 x20 x21 x22 x23 x24 x25 : D) : Eng.Fn := loopF fun g xs => evalP FX B_ref11_Same_1 ([] ++ [g]) ([x0, x1, x2, x3, x4, x5, x6, x7, x8, x9, x10, x11, x12, x13, x14, x15, x16, x17, x18, x19, x20, x21, x22, x23, x24, x25] ++ xs)
theorem W_ref11_Same_1_eq (x0 x1 x2 x3 x4 x5 x6 x7 x8 x9 x10 x11 x12 x13 x14 x15 x16 x17 x18 x19 x20 x21 x22 x23 x24 x25 : D) (a0 : D) : W_ref11_Same_1 x0 x1 x2 x3 x4 x5 x6 x7 x8 x9 x10 x11 x12 x13 x14 x15 x16 x17 x18 x19 x20 x21 x22 x23 x24 x25 [a0] =
  let v0 : D := (((x12).toL).getD ((a0).toInt).toNat D.nil)
  let v1 : D := (((x25).toL).getD ((a0).toInt).toNat D.nil)
  if (decide ((a0).toInt < (((x12).toL).length : Int))) = true then
  if (decide ((a0).toInt ≥ (0 : Int))) = true then
    if (decide ((a0).toInt < (((x12).toL).length : Int))) = true then
      if (decide ((a0).toInt ≥ (0 : Int))) = true then
        if (decide ((a0).toInt < (((x25).toL).length : Int))) = true then
          if (!((((((v0).toL).getD 0 D.nil)).toInt == ((((v1).toL).getD 0 D.nil)).toInt) && ((((((v0).toL).getD 1 D.nil)).toInt == ((((v1).toL).getD 1 D.nil)).toInt) && (((((v0).toL).getD 2 D.nil)).toInt == ((((v1).toL).getD 2 D.nil)).toInt)))) = true then
            some [(D.bool false)]
            else
            (W_ref11_Same_1 x0 x1 x2 x3 x4 x5 x6 x7 x8 x9 x10 x11 x12 x13 x14 x15 x16 x17 x18 x19 x20 x21 x22 x23 x24 x25) [(D.int (IntKind.i64.wrap ((a0).toInt + (1 : Int))))]
          else none
        else none
      else none
    else none
  else
  some [(D.bool true)] := (loopP_eq FX B_ref11_Same_1 [] [x0, x1, x2, x3, x4, x5, x6, x7, x8, x9, x10, x11, x12, x13, x14, x15, x16, x17, x18, x19, x20, x21, x22, x23, x24, x25] _).trans (by kernel_rfl)
theorem E_ref11_Same (x0 x1 x2 x3 x4 x5 x6 x7 x8 x9 x10 x11 x12 x13 x14 x15 x16 x17 x18 x19 x20 x21 x22 x23 x24 x25 : D) : FX 8 [x0, x1, x2, x3, x4, x5, x6, x7, x8, x9, x10, x11, x12, x13, x14, x15, x16, x17, x18, x19, x20, x21, x22, x23, x24, x25] =
  if ((x0).toInt != (x13).toInt) = true then
  some [(D.bool false)]
  else
  if ((x1).toInt != (x14).toInt) = true then
    some [(D.bool false)]
    else
    if ((x2).toInt != (x15).toInt) = true then
      some [(D.bool false)]
      else
      if ((x3).toInt != (x16).toInt) = true then
        some [(D.bool false)]
        else
        if ((x4).toInt != (x17).toInt) = true then
          some [(D.bool false)]
          else
          if (!((x5).toBool == (x18).toBool)) = true then
            some [(D.bool false)]
            else
            if (!(((x6).toInt == (x19).toInt) && (((x7).toInt == (x20).toInt) && (((x8).toInt == (x21).toInt) && (((x9).toInt == (x22).toInt) && (((x10).toInt == (x23).toInt) && ((x11).toInt == (x24).toInt))))))) = true then
              some [(D.bool false)]
              else
              if ((((x12).toL).length : Int) != (((x25).toL).length : Int)) = true then
                some [(D.bool false)]
                else
                W_ref11_Same_1 x0 x1 x2 x3 x4 x5 x6 x7 x8 x9 x10 x11 x12 x13 x14 x15 x16 x17 x18 x19 x20 x21 x22 x23 x24 x25 [(D.int (0 : Int))] := (fixP_eq (t := T_ref11_Same) (by rfl) _).trans (by kernel_rfl)
theorem E_law16_AnswerLooks (x0 x1 x2 x3 x4 x5 x6 x7 x8 x9 x10 x11 x12 x13 x14 x15 x16 x17 x18 x19 x20 x21 x22 x23 x24 x25 : D) : FX 3 [x0, x1, x2, x3, x4, x5, x6, x7, x8, x9, x10, x11, x12, x13, x14, x15, x16, x17, x18, x19, x20, x21, x22, x23, x24, x25] =
  if (decide ((IntKind.i64.wrap ((((x12).toL).length : Int) + (((x25).toL).length : Int))) > (20 : Int))) = true then
  bindC (FX 5 [(D.agg [])]) 2 fun r26 =>
    some [(r26.getD 0 D.nil)]
  else
  bindC (FX 4 [x0, x1, x2, x3, x4, x5, x6, x7, x8, x9, x10, x11, x12]) 1 fun r26 =>
    if (!((r26.getD 0 D.nil)).toBool) = true then
    bindC (FX 5 [(D.agg [])]) 2 fun r27 =>
      some [(r27.getD 0 D.nil)]
    else
    bindC (FX 4 [x13, x14, x15, x16, x17, x18, x19, x20, x21, x22, x23, x24, x25]) 1 fun r27 =>
      if (!((r27.getD 0 D.nil)).toBool) = true then
      bindC (FX 5 [(D.agg [])]) 2 fun r28 =>
        some [(r28.getD 0 D.nil)]
      else
      bindC (FX 6 [x0, x1, x2, x3, x4, x5, x6, x7, x8, x9, x10, x11, x12]) 13 fun r28 =>
        bindC (FX 7 [(r28.getD 0 D.nil), (r28.getD 1 D.nil), (r28.getD 2 D.nil), (r28.getD 3 D.nil), (r28.getD 4 D.nil), (r28.getD 5 D.nil), (r28.getD 6 D.nil), (r28.getD 7 D.nil), (r28.getD 8 D.nil), (r28.getD 9 D.nil), (r28.getD 10 D.nil), (r28.getD 11 D.nil), (r28.getD 12 D.nil)]) 2 fun r41 =>
        bindC (FX 6 [x13, x14, x15, x16, x17, x18, x19, x20, x21, x22, x23, x24, x25]) 13 fun r43 =>
        bindC (FX 7 [(r43.getD 0 D.nil), (r43.getD 1 D.nil), (r43.getD 2 D.nil), (r43.getD 3 D.nil), (r43.getD 4 D.nil), (r43.getD 5 D.nil), (r43.getD 6 D.nil), (r43.getD 7 D.nil), (r43.getD 8 D.nil), (r43.getD 9 D.nil), (r43.getD 10 D.nil), (r43.getD 11 D.nil), (r43.getD 12 D.nil)]) 2 fun r56 =>
        bindC (FX 5 [(D.agg [])]) 2 fun r58 =>
        if ((r58.getD 0 D.nil)).toBool = true then
        if ((r41.getD 1 D.nil)).isNil = true then
          if ((r56.getD 1 D.nil)).isNil = true then
            bindC (FX 8 [x0, x1, x2, x3, x4, x5, x6, x7, x8, x9, x10, x11, x12, x13, x14, x15, x16, x17, x18, x19, x20, x21, x22, x23, x24, x25]) 1 fun r60 =>
              some [(D.bool ((scmpF .eql ((r41.getD 0 D.nil)).toStr ((r56.getD 0 D.nil)).toStr) == ((r60.getD 0 D.nil)).toBool))]
            else
            some [(D.bool false)]
          else
          some [(D.bool false)]
        else
        some [(D.bool false)] := (fixP_eq (t := T_law16_AnswerLooks) (by rfl) _).trans (by kernel_rfl)
end Go.Proofs.YtmgpbjennnadhaaDoor
