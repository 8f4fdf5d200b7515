/-
  The functions, as equations.
-/
import Derived.Test.YtmgpbjennnadhaaGreatDoorAll
namespace Go.Proofs.YtmgpbjennnadhaaGreatDoor
open Go.Proofs.YtmgpbjennnadhaaGreatDoor.Eng
set_option linter.unusedVariables false
set_option maxRecDepth 20000
noncomputable def J_cell_Kind_1 (x0 x1 x2 x3 x4 : D) : Eng.Fn := fun xs => evalP FX B_cell_Kind_1 [] ([x0, x1, x2, x3, x4] ++ xs)
theorem J_cell_Kind_1_eq (x0 x1 x2 x3 x4 : D) (a0 : D) : J_cell_Kind_1 x0 x1 x2 x3 x4  [a0] =
  if (a0).toBool = true then
  some [(D.str ((ByteArray.mk #[108, 105, 118, 101])))]
  else
  if ((x0).toInt == (5 : Int)) = true then
    some [(D.str ((ByteArray.mk #[102, 105, 108, 108, 101, 100])))]
    else
    if ((x0).toInt == (6 : Int)) = true then
      some [(D.str ((ByteArray.mk #[99, 97, 110, 99, 101, 108, 108, 101, 100])))]
      else
      if ((x0).toInt == (7 : Int)) = true then
        some [(D.str ((ByteArray.mk #[101, 120, 112, 105, 114, 101, 100])))]
        else
        if ((x0).toInt == (8 : Int)) = true then
          some [(D.str ((ByteArray.mk #[114, 101, 116, 105, 114, 101, 100])))]
          else
          some [(D.str ((ByteArray.mk #[63])))] := by kernel_rfl
theorem E_cell_Kind (x0 x1 x2 x3 x4 : D) : FX 41 [x0, x1, x2, x3, x4] =
  if ((x0).toInt == (0 : Int)) = true then
  some [(D.str ((ByteArray.mk #[102, 114, 101, 101])))]
  else
  if ((x0).toInt == (1 : Int)) = true then
    (J_cell_Kind_1 x0 x1 x2 x3 x4) [(D.bool ((x0).toInt == (1 : Int)))]
    else
    if ((x0).toInt == (2 : Int)) = true then
      (J_cell_Kind_1 x0 x1 x2 x3 x4) [(D.bool ((x0).toInt == (2 : Int)))]
      else
      if ((x0).toInt == (3 : Int)) = true then
        (J_cell_Kind_1 x0 x1 x2 x3 x4) [(D.bool ((x0).toInt == (3 : Int)))]
        else
        (J_cell_Kind_1 x0 x1 x2 x3 x4) [(D.bool ((x0).toInt == (4 : Int)))] := (fixP_eq (t := T_cell_Kind) (by rfl) _).trans (by kernel_rfl)
theorem E_answer_word (x0 : D) : FX 24 [x0] =
  if ((x0).toInt == (1 : Int)) = true then
  bindC (FX 41 [x0, (D.bool false), (D.int (0 : Int)), (D.int (0 : Int)), (D.int (0 : Int))]) 1 fun r1 =>
    some [(r1.getD 0 D.nil)]
  else
  if ((x0).toInt == (0 : Int)) = true then
    bindC (FX 41 [x0, (D.bool false), (D.int (0 : Int)), (D.int (0 : Int)), (D.int (0 : Int))]) 1 fun r1 =>
      some [(r1.getD 0 D.nil)]
    else
    if ((x0).toInt == (5 : Int)) = true then
      bindC (FX 41 [x0, (D.bool false), (D.int (0 : Int)), (D.int (0 : Int)), (D.int (0 : Int))]) 1 fun r1 =>
        some [(r1.getD 0 D.nil)]
      else
      if ((x0).toInt == (6 : Int)) = true then
        bindC (FX 41 [x0, (D.bool false), (D.int (0 : Int)), (D.int (0 : Int)), (D.int (0 : Int))]) 1 fun r1 =>
          some [(r1.getD 0 D.nil)]
        else
        if ((x0).toInt == (7 : Int)) = true then
          bindC (FX 41 [x0, (D.bool false), (D.int (0 : Int)), (D.int (0 : Int)), (D.int (0 : Int))]) 1 fun r1 =>
            some [(r1.getD 0 D.nil)]
          else
          if ((x0).toInt == (8 : Int)) = true then
            bindC (FX 41 [x0, (D.bool false), (D.int (0 : Int)), (D.int (0 : Int)), (D.int (0 : Int))]) 1 fun r1 =>
              some [(r1.getD 0 D.nil)]
            else
            some [(D.str ((ByteArray.mk #[])))] := (fixP_eq (t := T_answer_word) (by rfl) _).trans (by kernel_rfl)
theorem E_answer_small (x0 : D) : FX 27 [x0] =
  if (decide ((x0).toInt ≥ (0 : Int))) = true then
  some [(D.bool (decide ((x0).toInt ≤ (9999999 : Int))))]
  else
  some [(D.bool false)] := (fixP_eq (t := T_answer_small) (by rfl) _).trans (by kernel_rfl)
theorem E_answer_told (x0 x1 x2 x3 x4 x5 : D) : FX 26 [x0, x1, x2, x3, x4, x5] =
  if (decide ((x0).toInt ≥ (1 : Int))) = true then
  if (decide ((x0).toInt ≤ (5 : Int))) = true then
    bindC (FX 27 [x1]) 1 fun r6 =>
      if ((r6.getD 0 D.nil)).toBool = true then
      bindC (FX 27 [x2]) 1 fun r7 =>
        if ((r7.getD 0 D.nil)).toBool = true then
        bindC (FX 27 [x3]) 1 fun r8 =>
          if ((r8.getD 0 D.nil)).toBool = true then
          if ((x4).toInt == (0 : Int)) = true then
            some [(D.bool ((x5).toInt == (0 : Int)))]
            else
            some [(D.bool false)]
          else
          some [(D.bool false)]
        else
        some [(D.bool false)]
      else
      some [(D.bool false)]
    else
    some [(D.bool false)]
  else
  some [(D.bool false)] := (fixP_eq (t := T_answer_told) (by rfl) _).trans (by kernel_rfl)
noncomputable def J_answer_Right_4 (x0 x1 x2 x3 x4 x5 x6 x7 x8 x9 x10 x11 x12 : D) : Eng.Fn := fun xs => evalP FX B_answer_Right_4 [] ([x0, x1, x2, x3, x4, x5, x6, x7, x8, x9, x10, x11, x12] ++ xs)
theorem J_answer_Right_4_eq (x0 x1 x2 x3 x4 x5 x6 x7 x8 x9 x10 x11 x12 : D) : J_answer_Right_4 x0 x1 x2 x3 x4 x5 x6 x7 x8 x9 x10 x11 x12  [] =
  if ((x0).toInt == (1 : Int)) = true then
  some [(D.bool true)]
  else
  if ((x0).toInt == (2 : Int)) = true then
    some [(D.bool true)]
    else
    if ((x0).toInt == (3 : Int)) = true then
      some [(D.bool ((x3).toInt == (0 : Int)))]
      else
      if ((x0).toInt == (4 : Int)) = true then
        if ((x3).toInt == (0 : Int)) = true then
          some [(D.bool ((x4).toInt == (0 : Int)))]
          else
          some [(D.bool false)]
        else
        some [(D.bool false)] := by kernel_rfl
noncomputable def W_answer_Right_5 (x0 x1 x2 x3 x4 x5 x6 x7 x8 x9 x10 x11 x12 : D) (g0 : Eng.Fn) : Eng.Fn := loopF fun g xs => evalP FX B_answer_Right_5 ([g0] ++ [g]) ([x0, x1, x2, x3, x4, x5, x6, x7, x8, x9, x10, x11, x12] ++ xs)
theorem W_answer_Right_5_eq (x0 x1 x2 x3 x4 x5 x6 x7 x8 x9 x10 x11 x12 : D) (g0 : Eng.Fn) (a0 : D) : W_answer_Right_5 x0 x1 x2 x3 x4 x5 x6 x7 x8 x9 x10 x11 x12 g0 [a0] =
  let v0 : D := (((x12).toL).getD ((a0).toInt).toNat D.nil)
  if (decide ((a0).toInt < (((x12).toL).length : Int))) = true then
  if (decide ((a0).toInt ≥ (0 : Int))) = true then
    if (decide ((a0).toInt < (((x12).toL).length : Int))) = true then
      bindC (FX 24 [(((v0).toL).getD 0 D.nil)]) 1 fun r14 =>
        if (scmpF .eql ((r14.getD 0 D.nil)).toStr ((ByteArray.mk #[]))) = true then
        some [(D.bool false)]
        else
        bindC (FX 27 [(((v0).toL).getD 1 D.nil)]) 1 fun r15 =>
          if (!((r15.getD 0 D.nil)).toBool) = true then
          some [(D.bool false)]
          else
          bindC (FX 27 [(((v0).toL).getD 2 D.nil)]) 1 fun r16 =>
            if (!((r16.getD 0 D.nil)).toBool) = true then
            some [(D.bool false)]
            else
            (W_answer_Right_5 x0 x1 x2 x3 x4 x5 x6 x7 x8 x9 x10 x11 x12 g0) [(D.int (IntKind.i64.wrap ((a0).toInt + (1 : Int))))]
      else none
    else none
  else
  g0 [] := (loopP_eq FX B_answer_Right_5 [g0] [x0, x1, x2, x3, x4, x5, x6, x7, x8, x9, x10, x11, x12] _).trans (by kernel_rfl)
noncomputable def J_answer_Right_3 (x0 x1 x2 x3 x4 x5 x6 x7 x8 x9 x10 x11 x12 : D) : Eng.Fn := fun xs => evalP FX B_answer_Right_3 [] ([x0, x1, x2, x3, x4, x5, x6, x7, x8, x9, x10, x11, x12] ++ xs)
theorem J_answer_Right_3_eq (x0 x1 x2 x3 x4 x5 x6 x7 x8 x9 x10 x11 x12 : D) : J_answer_Right_3 x0 x1 x2 x3 x4 x5 x6 x7 x8 x9 x10 x11 x12  [] =
  W_answer_Right_5 x0 x1 x2 x3 x4 x5 x6 x7 x8 x9 x10 x11 x12 ((J_answer_Right_4 x0 x1 x2 x3 x4 x5 x6 x7 x8 x9 x10 x11 x12)) [(D.int (0 : Int))] := by kernel_rfl
noncomputable def J_answer_Right_2 (x0 x1 x2 x3 x4 x5 x6 x7 x8 x9 x10 x11 x12 : D) : Eng.Fn := fun xs => evalP FX B_answer_Right_2 [] ([x0, x1, x2, x3, x4, x5, x6, x7, x8, x9, x10, x11, x12] ++ xs)
theorem J_answer_Right_2_eq (x0 x1 x2 x3 x4 x5 x6 x7 x8 x9 x10 x11 x12 : D) : J_answer_Right_2 x0 x1 x2 x3 x4 x5 x6 x7 x8 x9 x10 x11 x12  [] =
  if (!(((x6).toInt == (0 : Int)) && (((x7).toInt == (0 : Int)) && (((x8).toInt == (0 : Int)) && (((x9).toInt == (0 : Int)) && (((x10).toInt == (0 : Int)) && ((x11).toInt == (0 : Int)))))))) = true then
  if ((x0).toInt != (3 : Int)) = true then
    some [(D.bool false)]
    else
    if ((x1).toInt != (0 : Int)) = true then
      some [(D.bool false)]
      else
      bindC (FX 26 [x6, x7, x8, x9, x10, x11]) 1 fun r13 =>
        if (!((r13.getD 0 D.nil)).toBool) = true then
        some [(D.bool false)]
        else
        (J_answer_Right_3 x0 x1 x2 x3 x4 x5 x6 x7 x8 x9 x10 x11 x12) []
  else
  (J_answer_Right_3 x0 x1 x2 x3 x4 x5 x6 x7 x8 x9 x10 x11 x12) [] := by kernel_rfl
noncomputable def J_answer_Right_1 (x0 x1 x2 x3 x4 x5 x6 x7 x8 x9 x10 x11 x12 : D) : Eng.Fn := fun xs => evalP FX B_answer_Right_1 [] ([x0, x1, x2, x3, x4, x5, x6, x7, x8, x9, x10, x11, x12] ++ xs)
theorem J_answer_Right_1_eq (x0 x1 x2 x3 x4 x5 x6 x7 x8 x9 x10 x11 x12 : D) : J_answer_Right_1 x0 x1 x2 x3 x4 x5 x6 x7 x8 x9 x10 x11 x12  [] =
  if (x5).toBool = true then
  if ((x0).toInt != (2 : Int)) = true then
    some [(D.bool false)]
    else
    if ((x1).toInt != (0 : Int)) = true then
      some [(D.bool false)]
      else
      if (decide ((((x12).toL).length : Int) > (0 : Int))) = true then
        if ((x0).toInt != (4 : Int)) = true then
          some [(D.bool false)]
          else
          (J_answer_Right_2 x0 x1 x2 x3 x4 x5 x6 x7 x8 x9 x10 x11 x12) []
        else
        (J_answer_Right_2 x0 x1 x2 x3 x4 x5 x6 x7 x8 x9 x10 x11 x12) []
  else
  if (decide ((((x12).toL).length : Int) > (0 : Int))) = true then
    if ((x0).toInt != (4 : Int)) = true then
      some [(D.bool false)]
      else
      if ((x1).toInt != (0 : Int)) = true then
        some [(D.bool false)]
        else
        (J_answer_Right_2 x0 x1 x2 x3 x4 x5 x6 x7 x8 x9 x10 x11 x12) []
    else
    (J_answer_Right_2 x0 x1 x2 x3 x4 x5 x6 x7 x8 x9 x10 x11 x12) [] := by kernel_rfl
theorem E_answer_Right (x0 x1 x2 x3 x4 x5 x6 x7 x8 x9 x10 x11 x12 : D) : FX 9 [x0, x1, x2, x3, x4, x5, x6, x7, x8, x9, x10, x11, x12] =
  if (decide ((x2).toInt < (0 : Int))) = true then
  some [(D.bool false)]
  else
  if (decide ((x2).toInt > (1000000 : Int))) = true then
    some [(D.bool false)]
    else
    if (decide ((x3).toInt < (0 : Int))) = true then
      some [(D.bool false)]
      else
      if (decide ((x3).toInt > (9999999 : Int))) = true then
        some [(D.bool false)]
        else
        if (decide ((x4).toInt < (0 : Int))) = true then
          some [(D.bool false)]
          else
          if (decide ((x4).toInt > (9999999 : Int))) = true then
            some [(D.bool false)]
            else
            if (decide ((x1).toInt < (0 : Int))) = true then
              some [(D.bool false)]
              else
              (J_answer_Right_1 x0 x1 x2 x3 x4 x5 x6 x7 x8 x9 x10 x11 x12) [] := (fixP_eq (t := T_answer_Right) (by rfl) _).trans (by kernel_rfl)
theorem E_line_Verb (x0 : D) : FX 21 [x0] =
  let v0 : D := (D.agg ((D.str ((ByteArray.mk #[]))) :: ((D.str ((ByteArray.mk #[115, 117, 98, 109, 105, 116]))) :: ((D.str ((ByteArray.mk #[99, 97, 110, 99, 101, 108]))) :: ((D.str ((ByteArray.mk #[112, 111, 108, 108]))) :: ((D.str ((ByteArray.mk #[118, 105, 101, 119]))) :: []))))))
  if (decide ((x0).toInt < (1 : Int))) = true then
  some [(D.str ((ByteArray.mk #[63])))]
  else
  if (decide ((x0).toInt ≥ (5 : Int))) = true then
    some [(D.str ((ByteArray.mk #[63])))]
    else
    if (decide ((x0).toInt ≥ (0 : Int))) = true then
      if (decide ((x0).toInt < (((v0).toL).length : Int))) = true then
        if (decide ((x0).toInt < (5 : Int))) = true then
          some [(((v0).toL).getD ((x0).toInt).toNat D.nil)]
          else none
        else none
      else none := (fixP_eq (t := T_line_Verb) (by rfl) _).trans (by kernel_rfl)
theorem E_record_Name (x0 : D) : FX 23 [x0] =
  if ((x0).toInt == (1 : Int)) = true then
  some [(D.str ((ByteArray.mk #[102, 105, 108, 108])))]
  else
  if ((x0).toInt == (2 : Int)) = true then
    bindC (FX 41 [(D.int (5 : Int)), (D.bool false), (D.int (0 : Int)), (D.int (0 : Int)), (D.int (0 : Int))]) 1 fun r1 =>
      some [(r1.getD 0 D.nil)]
    else
    if ((x0).toInt == (3 : Int)) = true then
      bindC (FX 41 [(D.int (6 : Int)), (D.bool false), (D.int (0 : Int)), (D.int (0 : Int)), (D.int (0 : Int))]) 1 fun r1 =>
        some [(r1.getD 0 D.nil)]
      else
      if ((x0).toInt == (4 : Int)) = true then
        bindC (FX 41 [(D.int (7 : Int)), (D.bool false), (D.int (0 : Int)), (D.int (0 : Int)), (D.int (0 : Int))]) 1 fun r1 =>
          some [(r1.getD 0 D.nil)]
        else
        if ((x0).toInt == (5 : Int)) = true then
          bindC (FX 41 [(D.int (8 : Int)), (D.bool false), (D.int (0 : Int)), (D.int (0 : Int)), (D.int (0 : Int))]) 1 fun r1 =>
            some [(r1.getD 0 D.nil)]
          else
          some [(D.str ((ByteArray.mk #[110, 111, 110, 101])))] := (fixP_eq (t := T_record_Name) (by rfl) _).trans (by kernel_rfl)
noncomputable def W_answer_Print_3 (x0 x1 x2 x3 x4 x5 x6 x7 x8 x9 x10 x11 x12 x13 x14 x15 x16 x17 : D) : Eng.Fn := loopF fun g xs => evalP FX B_answer_Print_3 ([] ++ [g]) ([x0, x1, x2, x3, x4, x5, x6, x7, x8, x9, x10, x11, x12, x13, x14, x15, x16, x17] ++ xs)
theorem W_answer_Print_3_eq (x0 x1 x2 x3 x4 x5 x6 x7 x8 x9 x10 x11 x12 x13 x14 x15 x16 x17 : D) (a0 a1 : D) : W_answer_Print_3 x0 x1 x2 x3 x4 x5 x6 x7 x8 x9 x10 x11 x12 x13 x14 x15 x16 x17 [a0, a1] =
  let v6 : D := (D.agg (x7 :: (x8 :: (x9 :: []))))
  if (decide ((a0).toInt < (((v6).toL).length : Int))) = true then
  if (decide ((a0).toInt ≥ (0 : Int))) = true then
    if (decide ((a0).toInt < (((v6).toL).length : Int))) = true then
      bindC (FX 20 [(((v6).toL).getD ((a0).toInt).toNat D.nil)]) 1 fun r20 =>
        let v7 : D := (D.agg ((a1).toL ++ ((r20.getD 0 D.nil) :: [])))
        if (decide ((((v7).toL).length : Int) ≤ (8796093022208 : Int))) = true then
        (W_answer_Print_3 x0 x1 x2 x3 x4 x5 x6 x7 x8 x9 x10 x11 x12 x13 x14 x15 x16 x17) [(D.int (IntKind.i64.wrap ((a0).toInt + (1 : Int)))), v7]
        else none
      else none
    else none
  else
  bindC (FX 25 [a1, (D.str ((ByteArray.mk #[32])))]) 1 fun r20 =>
    some [(r20.getD 0 D.nil), D.nil] := (loopP_eq FX B_answer_Print_3 [] [x0, x1, x2, x3, x4, x5, x6, x7, x8, x9, x10, x11, x12, x13, x14, x15, x16, x17] _).trans (by kernel_rfl)
noncomputable def W_answer_Print_5 (x0 x1 x2 x3 x4 x5 x6 x7 x8 x9 x10 x11 x12 x13 x14 x15 x16 x17 x18 x19 : D) (g0 : Eng.Fn) : Eng.Fn := loopF fun g xs => evalP FX B_answer_Print_5 ([g0] ++ [g]) ([x0, x1, x2, x3, x4, x5, x6, x7, x8, x9, x10, x11, x12, x13, x14, x15, x16, x17, x18, x19] ++ xs)
theorem W_answer_Print_5_eq (x0 x1 x2 x3 x4 x5 x6 x7 x8 x9 x10 x11 x12 x13 x14 x15 x16 x17 x18 x19 : D) (g0 : Eng.Fn) (a0 a1 : D) : W_answer_Print_5 x0 x1 x2 x3 x4 x5 x6 x7 x8 x9 x10 x11 x12 x13 x14 x15 x16 x17 x18 x19 g0 [a0, a1] =
  let v9 : D := (((x12).toL).getD ((x17).toInt).toNat D.nil)
  let v10 : D := (D.agg ((((v9).toL).getD 1 D.nil) :: ((((v9).toL).getD 2 D.nil) :: [])))
  if (decide ((a0).toInt < (((v10).toL).length : Int))) = true then
  if (decide ((a0).toInt ≥ (0 : Int))) = true then
    if (decide ((a0).toInt < (((v10).toL).length : Int))) = true then
      bindC (FX 20 [(((v10).toL).getD ((a0).toInt).toNat D.nil)]) 1 fun r22 =>
        let v11 : D := (D.agg ((a1).toL ++ ((r22.getD 0 D.nil) :: [])))
        if (decide ((((v11).toL).length : Int) ≤ (8796093022208 : Int))) = true then
        (W_answer_Print_5 x0 x1 x2 x3 x4 x5 x6 x7 x8 x9 x10 x11 x12 x13 x14 x15 x16 x17 x18 x19 g0) [(D.int (IntKind.i64.wrap ((a0).toInt + (1 : Int)))), v11]
        else none
      else none
    else none
  else
  g0 [(D.int (IntKind.i64.wrap ((x17).toInt + (1 : Int)))), a1] := (loopP_eq FX B_answer_Print_5 [g0] [x0, x1, x2, x3, x4, x5, x6, x7, x8, x9, x10, x11, x12, x13, x14, x15, x16, x17, x18, x19] _).trans (by kernel_rfl)
noncomputable def W_answer_Print_4 (x0 x1 x2 x3 x4 x5 x6 x7 x8 x9 x10 x11 x12 x13 x14 x15 x16 : D) : Eng.Fn := loopF fun g xs => evalP FX B_answer_Print_4 ([] ++ [g]) ([x0, x1, x2, x3, x4, x5, x6, x7, x8, x9, x10, x11, x12, x13, x14, x15, x16] ++ xs)
theorem W_answer_Print_4_eq (x0 x1 x2 x3 x4 x5 x6 x7 x8 x9 x10 x11 x12 x13 x14 x15 x16 : D) (a0 a1 : D) : W_answer_Print_4 x0 x1 x2 x3 x4 x5 x6 x7 x8 x9 x10 x11 x12 x13 x14 x15 x16 [a0, a1] =
  if (decide ((a0).toInt < (((x12).toL).length : Int))) = true then
  if (decide ((a0).toInt ≥ (0 : Int))) = true then
    if (decide ((a0).toInt < (((x12).toL).length : Int))) = true then
      bindC (FX 24 [((((((x12).toL).getD ((a0).toInt).toNat D.nil)).toL).getD 0 D.nil)]) 1 fun r19 =>
        let v8 : D := (D.agg ((a1).toL ++ ((r19.getD 0 D.nil) :: [])))
        if (decide ((((v8).toL).length : Int) ≤ (8796093022208 : Int))) = true then
        W_answer_Print_5 x0 x1 x2 x3 x4 x5 x6 x7 x8 x9 x10 x11 x12 x13 x14 x15 x16 a0 a1 (r19.getD 0 D.nil) ((W_answer_Print_4 x0 x1 x2 x3 x4 x5 x6 x7 x8 x9 x10 x11 x12 x13 x14 x15 x16)) [(D.int (0 : Int)), v8]
        else none
      else none
    else none
  else
  bindC (FX 25 [a1, (D.str ((ByteArray.mk #[32])))]) 1 fun r19 =>
    some [(r19.getD 0 D.nil), D.nil] := (loopP_eq FX B_answer_Print_4 [] [x0, x1, x2, x3, x4, x5, x6, x7, x8, x9, x10, x11, x12, x13, x14, x15, x16] _).trans (by kernel_rfl)
noncomputable def J_answer_Print_2 (x0 x1 x2 x3 x4 x5 x6 x7 x8 x9 x10 x11 x12 x13 x14 x15 : D) : Eng.Fn := fun xs => evalP FX B_answer_Print_2 [] ([x0, x1, x2, x3, x4, x5, x6, x7, x8, x9, x10, x11, x12, x13, x14, x15] ++ xs)
theorem J_answer_Print_2_eq (x0 x1 x2 x3 x4 x5 x6 x7 x8 x9 x10 x11 x12 x13 x14 x15 : D) (a0 : D) : J_answer_Print_2 x0 x1 x2 x3 x4 x5 x6 x7 x8 x9 x10 x11 x12 x13 x14 x15  [a0] =
  let v1 : D := (D.agg ((a0).toL ++ ((D.str ((ByteArray.mk #[97, 115, 107, 101, 100]))) :: [])))
  let v2 : D := (D.agg ((a0).toL ++ ((D.str ((ByteArray.mk #[111, 107]))) :: [])))
  if ((x1).toInt != (0 : Int)) = true then
  bindC (FX 20 [x1]) 1 fun r17 =>
    let v3 : D := (D.agg ((a0).toL ++ ((D.str ((ByteArray.mk #[101, 114, 114, 111, 114]))) :: ((r17.getD 0 D.nil) :: []))))
    if (decide ((((v3).toL).length : Int) ≤ (8796093022208 : Int))) = true then
    bindC (FX 25 [v3, (D.str ((ByteArray.mk #[32])))]) 1 fun r18 =>
      some [(r18.getD 0 D.nil), D.nil]
    else none
  else
  if (x5).toBool = true then
    if (decide ((((v1).toL).length : Int) ≤ (8796093022208 : Int))) = true then
      bindC (FX 25 [v1, (D.str ((ByteArray.mk #[32])))]) 1 fun r17 =>
        some [(r17.getD 0 D.nil), D.nil]
      else none
    else
    if ((x0).toInt == (3 : Int)) = true then
      if ((x6).toInt == (0 : Int)) = true then
        bindC (FX 23 [(D.int (0 : Int))]) 1 fun r17 =>
          let v4 : D := (D.agg ((a0).toL ++ ((r17.getD 0 D.nil) :: [])))
          if (decide ((((v4).toL).length : Int) ≤ (8796093022208 : Int))) = true then
          bindC (FX 25 [v4, (D.str ((ByteArray.mk #[32])))]) 1 fun r18 =>
            some [(r18.getD 0 D.nil), D.nil]
          else none
        else
        bindC (FX 23 [x6]) 1 fun r17 =>
          let v5 : D := (D.agg ((a0).toL ++ ((r17.getD 0 D.nil) :: [])))
          if (decide ((((v5).toL).length : Int) ≤ (8796093022208 : Int))) = true then
          W_answer_Print_3 x0 x1 x2 x3 x4 x5 x6 x7 x8 x9 x10 x11 x12 x13 x14 x15 a0 (r17.getD 0 D.nil) [(D.int (0 : Int)), v5]
          else none
      else
      if ((x0).toInt == (4 : Int)) = true then
        W_answer_Print_4 x0 x1 x2 x3 x4 x5 x6 x7 x8 x9 x10 x11 x12 x13 x14 x15 a0 [(D.int (0 : Int)), a0]
        else
        if (decide ((((v2).toL).length : Int) ≤ (8796093022208 : Int))) = true then
          bindC (FX 25 [v2, (D.str ((ByteArray.mk #[32])))]) 1 fun r17 =>
            some [(r17.getD 0 D.nil), D.nil]
          else none := by kernel_rfl
noncomputable def W_answer_Print_7 (x0 x1 x2 x3 x4 x5 x6 x7 x8 x9 x10 x11 x12 x13 x14 x15 x16 x17 : D) (g0 g1 : Eng.Fn) : Eng.Fn := loopF fun g xs => evalP FX B_answer_Print_7 ([g0, g1] ++ [g]) ([x0, x1, x2, x3, x4, x5, x6, x7, x8, x9, x10, x11, x12, x13, x14, x15, x16, x17] ++ xs)
theorem W_answer_Print_7_eq (x0 x1 x2 x3 x4 x5 x6 x7 x8 x9 x10 x11 x12 x13 x14 x15 x16 x17 : D) (g0 g1 : Eng.Fn) (a0 a1 : D) : W_answer_Print_7 x0 x1 x2 x3 x4 x5 x6 x7 x8 x9 x10 x11 x12 x13 x14 x15 x16 x17 g0 g1 [a0, a1] =
  let v14 : D := (D.agg (x4 :: []))
  if (decide ((a0).toInt < (((v14).toL).length : Int))) = true then
  if (decide ((a0).toInt ≥ (0 : Int))) = true then
    if (decide ((a0).toInt < (((v14).toL).length : Int))) = true then
      bindC (FX 20 [(((v14).toL).getD ((a0).toInt).toNat D.nil)]) 1 fun r20 =>
        let v15 : D := (D.agg ((a1).toL ++ ((r20.getD 0 D.nil) :: [])))
        if (decide ((((v15).toL).length : Int) ≤ (8796093022208 : Int))) = true then
        (W_answer_Print_7 x0 x1 x2 x3 x4 x5 x6 x7 x8 x9 x10 x11 x12 x13 x14 x15 x16 x17 g0 g1) [(D.int (IntKind.i64.wrap ((a0).toInt + (1 : Int)))), v15]
        else none
      else none
    else none
  else
  g0 [a1] := (loopP_eq FX B_answer_Print_7 [g0, g1] [x0, x1, x2, x3, x4, x5, x6, x7, x8, x9, x10, x11, x12, x13, x14, x15, x16, x17] _).trans (by kernel_rfl)
noncomputable def W_answer_Print_6 (x0 x1 x2 x3 x4 x5 x6 x7 x8 x9 x10 x11 x12 x13 x14 x15 : D) (g0 : Eng.Fn) : Eng.Fn := loopF fun g xs => evalP FX B_answer_Print_6 ([g0] ++ [g]) ([x0, x1, x2, x3, x4, x5, x6, x7, x8, x9, x10, x11, x12, x13, x14, x15] ++ xs)
theorem W_answer_Print_6_eq (x0 x1 x2 x3 x4 x5 x6 x7 x8 x9 x10 x11 x12 x13 x14 x15 : D) (g0 : Eng.Fn) (a0 a1 : D) : W_answer_Print_6 x0 x1 x2 x3 x4 x5 x6 x7 x8 x9 x10 x11 x12 x13 x14 x15 g0 [a0, a1] =
  let v12 : D := (D.agg (x3 :: []))
  if (decide ((a0).toInt < (((v12).toL).length : Int))) = true then
  if (decide ((a0).toInt ≥ (0 : Int))) = true then
    if (decide ((a0).toInt < (((v12).toL).length : Int))) = true then
      bindC (FX 20 [(((v12).toL).getD ((a0).toInt).toNat D.nil)]) 1 fun r18 =>
        let v13 : D := (D.agg ((a1).toL ++ ((r18.getD 0 D.nil) :: [])))
        if (decide ((((v13).toL).length : Int) ≤ (8796093022208 : Int))) = true then
        (W_answer_Print_6 x0 x1 x2 x3 x4 x5 x6 x7 x8 x9 x10 x11 x12 x13 x14 x15 g0) [(D.int (IntKind.i64.wrap ((a0).toInt + (1 : Int)))), v13]
        else none
      else none
    else none
  else
  W_answer_Print_7 x0 x1 x2 x3 x4 x5 x6 x7 x8 x9 x10 x11 x12 x13 x14 x15 a0 a1 g0 ((W_answer_Print_6 x0 x1 x2 x3 x4 x5 x6 x7 x8 x9 x10 x11 x12 x13 x14 x15 g0)) [(D.int (0 : Int)), a1] := (loopP_eq FX B_answer_Print_6 [g0] [x0, x1, x2, x3, x4, x5, x6, x7, x8, x9, x10, x11, x12, x13, x14, x15] _).trans (by kernel_rfl)
noncomputable def W_answer_Print_9 (x0 x1 x2 x3 x4 x5 x6 x7 x8 x9 x10 x11 x12 x13 x14 x15 x16 x17 : D) (g0 g1 : Eng.Fn) : Eng.Fn := loopF fun g xs => evalP FX B_answer_Print_9 ([g0, g1] ++ [g]) ([x0, x1, x2, x3, x4, x5, x6, x7, x8, x9, x10, x11, x12, x13, x14, x15, x16, x17] ++ xs)
theorem W_answer_Print_9_eq (x0 x1 x2 x3 x4 x5 x6 x7 x8 x9 x10 x11 x12 x13 x14 x15 x16 x17 : D) (g0 g1 : Eng.Fn) (a0 a1 : D) : W_answer_Print_9 x0 x1 x2 x3 x4 x5 x6 x7 x8 x9 x10 x11 x12 x13 x14 x15 x16 x17 g0 g1 [a0, a1] =
  let v18 : D := (D.agg (x4 :: []))
  if (decide ((a0).toInt < (((v18).toL).length : Int))) = true then
  if (decide ((a0).toInt ≥ (0 : Int))) = true then
    if (decide ((a0).toInt < (((v18).toL).length : Int))) = true then
      bindC (FX 20 [(((v18).toL).getD ((a0).toInt).toNat D.nil)]) 1 fun r20 =>
        let v19 : D := (D.agg ((a1).toL ++ ((r20.getD 0 D.nil) :: [])))
        if (decide ((((v19).toL).length : Int) ≤ (8796093022208 : Int))) = true then
        (W_answer_Print_9 x0 x1 x2 x3 x4 x5 x6 x7 x8 x9 x10 x11 x12 x13 x14 x15 x16 x17 g0 g1) [(D.int (IntKind.i64.wrap ((a0).toInt + (1 : Int)))), v19]
        else none
      else none
    else none
  else
  g0 [a1] := (loopP_eq FX B_answer_Print_9 [g0, g1] [x0, x1, x2, x3, x4, x5, x6, x7, x8, x9, x10, x11, x12, x13, x14, x15, x16, x17] _).trans (by kernel_rfl)
noncomputable def W_answer_Print_8 (x0 x1 x2 x3 x4 x5 x6 x7 x8 x9 x10 x11 x12 x13 x14 x15 : D) (g0 : Eng.Fn) : Eng.Fn := loopF fun g xs => evalP FX B_answer_Print_8 ([g0] ++ [g]) ([x0, x1, x2, x3, x4, x5, x6, x7, x8, x9, x10, x11, x12, x13, x14, x15] ++ xs)
theorem W_answer_Print_8_eq (x0 x1 x2 x3 x4 x5 x6 x7 x8 x9 x10 x11 x12 x13 x14 x15 : D) (g0 : Eng.Fn) (a0 a1 : D) : W_answer_Print_8 x0 x1 x2 x3 x4 x5 x6 x7 x8 x9 x10 x11 x12 x13 x14 x15 g0 [a0, a1] =
  let v16 : D := (D.agg (x3 :: []))
  if (decide ((a0).toInt < (((v16).toL).length : Int))) = true then
  if (decide ((a0).toInt ≥ (0 : Int))) = true then
    if (decide ((a0).toInt < (((v16).toL).length : Int))) = true then
      bindC (FX 20 [(((v16).toL).getD ((a0).toInt).toNat D.nil)]) 1 fun r18 =>
        let v17 : D := (D.agg ((a1).toL ++ ((r18.getD 0 D.nil) :: [])))
        if (decide ((((v17).toL).length : Int) ≤ (8796093022208 : Int))) = true then
        (W_answer_Print_8 x0 x1 x2 x3 x4 x5 x6 x7 x8 x9 x10 x11 x12 x13 x14 x15 g0) [(D.int (IntKind.i64.wrap ((a0).toInt + (1 : Int)))), v17]
        else none
      else none
    else none
  else
  W_answer_Print_9 x0 x1 x2 x3 x4 x5 x6 x7 x8 x9 x10 x11 x12 x13 x14 x15 a0 a1 g0 ((W_answer_Print_8 x0 x1 x2 x3 x4 x5 x6 x7 x8 x9 x10 x11 x12 x13 x14 x15 g0)) [(D.int (0 : Int)), a1] := (loopP_eq FX B_answer_Print_8 [g0] [x0, x1, x2, x3, x4, x5, x6, x7, x8, x9, x10, x11, x12, x13, x14, x15] _).trans (by kernel_rfl)
noncomputable def W_answer_Print_10 (x0 x1 x2 x3 x4 x5 x6 x7 x8 x9 x10 x11 x12 x13 x14 x15 : D) (g0 : Eng.Fn) : Eng.Fn := loopF fun g xs => evalP FX B_answer_Print_10 ([g0] ++ [g]) ([x0, x1, x2, x3, x4, x5, x6, x7, x8, x9, x10, x11, x12, x13, x14, x15] ++ xs)
theorem W_answer_Print_10_eq (x0 x1 x2 x3 x4 x5 x6 x7 x8 x9 x10 x11 x12 x13 x14 x15 : D) (g0 : Eng.Fn) (a0 a1 : D) : W_answer_Print_10 x0 x1 x2 x3 x4 x5 x6 x7 x8 x9 x10 x11 x12 x13 x14 x15 g0 [a0, a1] =
  let v20 : D := (D.agg (x4 :: []))
  if (decide ((a0).toInt < (((v20).toL).length : Int))) = true then
  if (decide ((a0).toInt ≥ (0 : Int))) = true then
    if (decide ((a0).toInt < (((v20).toL).length : Int))) = true then
      bindC (FX 20 [(((v20).toL).getD ((a0).toInt).toNat D.nil)]) 1 fun r18 =>
        let v21 : D := (D.agg ((a1).toL ++ ((r18.getD 0 D.nil) :: [])))
        if (decide ((((v21).toL).length : Int) ≤ (8796093022208 : Int))) = true then
        (W_answer_Print_10 x0 x1 x2 x3 x4 x5 x6 x7 x8 x9 x10 x11 x12 x13 x14 x15 g0) [(D.int (IntKind.i64.wrap ((a0).toInt + (1 : Int)))), v21]
        else none
      else none
    else none
  else
  g0 [a1] := (loopP_eq FX B_answer_Print_10 [g0] [x0, x1, x2, x3, x4, x5, x6, x7, x8, x9, x10, x11, x12, x13, x14, x15] _).trans (by kernel_rfl)
noncomputable def J_answer_Print_1 (x0 x1 x2 x3 x4 x5 x6 x7 x8 x9 x10 x11 x12 x13 : D) : Eng.Fn := fun xs => evalP FX B_answer_Print_1 [] ([x0, x1, x2, x3, x4, x5, x6, x7, x8, x9, x10, x11, x12, x13] ++ xs)
theorem J_answer_Print_1_eq (x0 x1 x2 x3 x4 x5 x6 x7 x8 x9 x10 x11 x12 x13 : D) (a0 a1 : D) : J_answer_Print_1 x0 x1 x2 x3 x4 x5 x6 x7 x8 x9 x10 x11 x12 x13  [a0, a1] =
  let v0 : D := (D.agg (a0 :: (a1 :: [])))
  if ((x0).toInt == (1 : Int)) = true then
  W_answer_Print_6 x0 x1 x2 x3 x4 x5 x6 x7 x8 x9 x10 x11 x12 x13 a0 a1 ((J_answer_Print_2 x0 x1 x2 x3 x4 x5 x6 x7 x8 x9 x10 x11 x12 x13 a0 a1)) [(D.int (0 : Int)), v0]
  else
  if ((x0).toInt == (2 : Int)) = true then
    W_answer_Print_8 x0 x1 x2 x3 x4 x5 x6 x7 x8 x9 x10 x11 x12 x13 a0 a1 ((J_answer_Print_2 x0 x1 x2 x3 x4 x5 x6 x7 x8 x9 x10 x11 x12 x13 a0 a1)) [(D.int (0 : Int)), v0]
    else
    if ((x0).toInt == (3 : Int)) = true then
      W_answer_Print_10 x0 x1 x2 x3 x4 x5 x6 x7 x8 x9 x10 x11 x12 x13 a0 a1 ((J_answer_Print_2 x0 x1 x2 x3 x4 x5 x6 x7 x8 x9 x10 x11 x12 x13 a0 a1)) [(D.int (0 : Int)), v0]
      else
      (J_answer_Print_2 x0 x1 x2 x3 x4 x5 x6 x7 x8 x9 x10 x11 x12 x13 a0 a1) [v0] := by kernel_rfl
theorem E_answer_Print (x0 x1 x2 x3 x4 x5 x6 x7 x8 x9 x10 x11 x12 : D) : FX 8 [x0, x1, x2, x3, x4, x5, x6, x7, x8, x9, x10, x11, x12] =
  bindC (FX 9 [x0, x1, x2, x3, x4, x5, x6, x7, x8, x9, x10, x11, x12]) 1 fun r13 =>
  if (!((r13.getD 0 D.nil)).toBool) = true then
  some [(D.str ((ByteArray.mk #[]))), (D.iface 22 (D.int (6 : Int)))]
  else
  bindC (FX 20 [x2]) 1 fun r14 =>
    bindC (FX 21 [x0]) 1 fun r15 =>
    (J_answer_Print_1 x0 x1 x2 x3 x4 x5 x6 x7 x8 x9 x10 x11 x12 (r13.getD 0 D.nil)) [(r14.getD 0 D.nil), (r15.getD 0 D.nil)] := (fixP_eq (t := T_answer_Print) (by rfl) _).trans (by kernel_rfl)
theorem E_p_answer_reader_next (x0 x1 : D) : FX 34 [x0, x1] =
  let v0 : D := (((x1).toL).getD ((x0).toInt).toNat D.nil)
  let v1 : D := (((v0).toL).getD 0 D.nil)
  let v2 : D := (D.int (((v1).toL).length : Int))
  if (!(x0).isNil) = true then
  if ((v2).toInt == (0 : Int)) = true then
    if (!(x0).isNil) = true then
      some [(D.str ((ByteArray.mk #[]))), (D.agg (((x1).toL).set ((x0).toInt).toNat (D.agg (((List.range 2).map fun j => ((v0).toL).getD j D.nil).set 1 (D.bool true)))))]
      else none
    else
    if (!(x0).isNil) = true then
      if (decide ((0 : Int) < (v2).toInt)) = true then
        if (!(x0).isNil) = true then
          if (decide ((0 : Int) ≤ (1 : Int))) = true then
            if (decide ((1 : Int) ≤ (v2).toInt)) = true then
              if (decide ((v2).toInt ≤ (v2).toInt)) = true then
                if (!(x0).isNil) = true then
                  some [(((v1).toL).getD ((0 : Int)).toNat D.nil), (D.agg (((x1).toL).set ((x0).toInt).toNat (D.agg (((List.range 2).map fun j => ((v0).toL).getD j D.nil).set 0 (D.agg ((((v1).toL).drop ((1 : Int)).toNat).take (((v2).toInt).toNat - ((1 : Int)).toNat)))))))]
                  else none
                else none
              else none
            else none
          else none
        else none
      else none
  else none := (fixP_eq (t := T_p_answer_reader_next) (by rfl) _).trans (by kernel_rfl)
noncomputable def W_line_Digits_1 (x0 : D) : Eng.Fn := loopF fun g xs => evalP FX B_line_Digits_1 ([] ++ [g]) ([x0] ++ xs)
theorem W_line_Digits_1_eq (x0 : D) (a0 : D) : W_line_Digits_1 x0 [a0] =
  let v0 : D := (D.int ((((x0).toStr).data.getD ((a0).toInt).toNat 0).toNat : Int))
  if (decide ((a0).toInt < (((x0).toStr).size : Int))) = true then
  if (decide ((a0).toInt ≥ (0 : Int))) = true then
    if (decide ((a0).toInt < (((x0).toStr).size : Int))) = true then
      if (decide ((v0).toInt < (48 : Int))) = true then
        some [(D.bool false)]
        else
        if (decide ((a0).toInt ≥ (0 : Int))) = true then
          if (decide ((a0).toInt < (((x0).toStr).size : Int))) = true then
            if (decide ((v0).toInt > (57 : Int))) = true then
              some [(D.bool false)]
              else
              (W_line_Digits_1 x0) [(D.int (IntKind.i64.wrap ((a0).toInt + (1 : Int))))]
            else none
          else none
      else none
    else none
  else
  some [(D.bool true)] := (loopP_eq FX B_line_Digits_1 [] [x0] _).trans (by kernel_rfl)
noncomputable def W_line_Digits_2 (x0 : D) : Eng.Fn := loopF fun g xs => evalP FX B_line_Digits_2 ([] ++ [g]) ([x0] ++ xs)
theorem W_line_Digits_2_eq (x0 : D) (a0 : D) : W_line_Digits_2 x0 [a0] =
  let v1 : D := (D.int ((((x0).toStr).data.getD ((a0).toInt).toNat 0).toNat : Int))
  if (decide ((a0).toInt < (((x0).toStr).size : Int))) = true then
  if (decide ((a0).toInt ≥ (0 : Int))) = true then
    if (decide ((a0).toInt < (((x0).toStr).size : Int))) = true then
      if (decide ((v1).toInt < (48 : Int))) = true then
        some [(D.bool false)]
        else
        if (decide ((a0).toInt ≥ (0 : Int))) = true then
          if (decide ((a0).toInt < (((x0).toStr).size : Int))) = true then
            if (decide ((v1).toInt > (57 : Int))) = true then
              some [(D.bool false)]
              else
              (W_line_Digits_2 x0) [(D.int (IntKind.i64.wrap ((a0).toInt + (1 : Int))))]
            else none
          else none
      else none
    else none
  else
  some [(D.bool true)] := (loopP_eq FX B_line_Digits_2 [] [x0] _).trans (by kernel_rfl)
theorem E_line_Digits (x0 : D) : FX 50 [x0] =
  if (scmpF .eql (x0).toStr ((ByteArray.mk #[]))) = true then
  some [(D.bool false)]
  else
  if (decide ((((x0).toStr).size : Int) > (7 : Int))) = true then
    some [(D.bool false)]
    else
    if (decide ((0 : Int) < (((x0).toStr).size : Int))) = true then
      if (((((x0).toStr).data.getD ((0 : Int)).toNat 0).toNat : Int) == (48 : Int)) = true then
        if (scmpF .neq (x0).toStr ((ByteArray.mk #[48]))) = true then
          some [(D.bool false)]
          else
          W_line_Digits_1 x0 [(D.int (0 : Int))]
        else
        W_line_Digits_2 x0 [(D.int (0 : Int))]
      else none := (fixP_eq (t := T_line_Digits) (by rfl) _).trans (by kernel_rfl)
theorem E_p_answer_reader_num (x0 x1 : D) : FX 33 [x0, x1] =
  bindC (FX 34 [x0, x1]) 2 fun r2 =>
  let v0 : D := ((((r2.getD 1 D.nil)).toL).getD ((x0).toInt).toNat D.nil)
  let v1 : D := (D.agg ((((r2.getD 1 D.nil)).toL).set ((x0).toInt).toNat (D.agg (((List.range 2).map fun j => ((v0).toL).getD j D.nil).set 1 (D.bool true)))))
  bindC (FX 49 [(r2.getD 0 D.nil)]) 2 fun r4 =>
  if (!(x0).isNil) = true then
  if ((((v0).toL).getD 1 D.nil)).toBool = true then
    if (!(x0).isNil) = true then
      some [(r4.getD 0 D.nil), v1]
      else none
    else
    if (!((r4.getD 1 D.nil)).isNil) = true then
      if (!(x0).isNil) = true then
        some [(r4.getD 0 D.nil), v1]
        else none
      else
      bindC (FX 50 [(r2.getD 0 D.nil)]) 1 fun r6 =>
        if (!(x0).isNil) = true then
        some [(r4.getD 0 D.nil), (D.agg ((((r2.getD 1 D.nil)).toL).set ((x0).toInt).toNat (D.agg (((List.range 2).map fun j => ((v0).toL).getD j D.nil).set 1 (D.bool (!((r6.getD 0 D.nil)).toBool))))))]
        else none
  else none := (fixP_eq (t := T_p_answer_reader_num) (by rfl) _).trans (by kernel_rfl)
noncomputable def W_p_answer_reader_look_1 (x0 x1 x2 x3 : D) : Eng.Fn := loopF fun g xs => evalP FX B_p_answer_reader_look_1 ([] ++ [g]) ([x0, x1, x2, x3] ++ xs)
theorem W_p_answer_reader_look_1_eq (x0 x1 x2 x3 : D) (a0 a1 : D) : W_p_answer_reader_look_1 x0 x1 x2 x3 [a0, a1] =
  let v0 : D := (D.agg ((D.int (0 : Int)) :: ((D.int (1 : Int)) :: ((D.int (5 : Int)) :: ((D.int (6 : Int)) :: ((D.int (7 : Int)) :: ((D.int (8 : Int)) :: [])))))))
  let v1 : D := (((v0).toL).getD ((a0).toInt).toNat D.nil)
  if (decide ((a0).toInt < (((v0).toL).length : Int))) = true then
  if (decide ((a0).toInt ≥ (0 : Int))) = true then
    if (decide ((a0).toInt < (((v0).toL).length : Int))) = true then
      bindC (FX 24 [v1]) 1 fun r6 =>
        if (scmpF .eql ((r6.getD 0 D.nil)).toStr (x2).toStr) = true then
        bindC (FX 33 [x0, a1]) 2 fun r7 =>
          bindC (FX 33 [x0, (r7.getD 1 D.nil)]) 2 fun r9 =>
          some [v1, (r7.getD 0 D.nil), (r9.getD 0 D.nil), (r9.getD 1 D.nil)]
        else
        (W_p_answer_reader_look_1 x0 x1 x2 x3) [(D.int (IntKind.i64.wrap ((a0).toInt + (1 : Int)))), a1]
      else none
    else none
  else
  if (!(x0).isNil) = true then
    some [(D.int (0 : Int)), (D.int (0 : Int)), (D.int (0 : Int)), (D.agg (((a1).toL).set ((x0).toInt).toNat (D.agg (((List.range 2).map fun j => (((((a1).toL).getD ((x0).toInt).toNat D.nil)).toL).getD j D.nil).set 1 (D.bool true)))))]
    else none := (loopP_eq FX B_p_answer_reader_look_1 [] [x0, x1, x2, x3] _).trans (by kernel_rfl)
theorem E_p_answer_reader_look (x0 x1 : D) : FX 51 [x0, x1] =
  bindC (FX 34 [x0, x1]) 2 fun r2 =>
  W_p_answer_reader_look_1 x0 x1 (r2.getD 0 D.nil) (r2.getD 1 D.nil) [(D.int (0 : Int)), (r2.getD 1 D.nil)] := (fixP_eq (t := T_p_answer_reader_look) (by rfl) _).trans (by kernel_rfl)
noncomputable def J_answer_Parse_3 (x0 x1 x2 x3 x4 x5 x6 x7 x8 x9 x10 x11 x12 x13 x14 x15 x16 x17 x18 x19 x20 x21 x22 x23 x24 x25 x26 x27 x28 x29 x30 x31 x32 x33 x34 : D) (g0 : Eng.Fn) : Eng.Fn := fun xs => evalP FX B_answer_Parse_3 [g0] ([x0, x1, x2, x3, x4, x5, x6, x7, x8, x9, x10, x11, x12, x13, x14, x15, x16, x17, x18, x19, x20, x21, x22, x23, x24, x25, x26, x27, x28, x29, x30, x31, x32, x33, x34] ++ xs)
theorem J_answer_Parse_3_eq (x0 x1 x2 x3 x4 x5 x6 x7 x8 x9 x10 x11 x12 x13 x14 x15 x16 x17 x18 x19 x20 x21 x22 x23 x24 x25 x26 x27 x28 x29 x30 x31 x32 x33 x34 : D) (g0 : Eng.Fn) (a0 a1 a2 a3 a4 a5 a6 a7 a8 a9 a10 a11 a12 a13 : D) : J_answer_Parse_3 x0 x1 x2 x3 x4 x5 x6 x7 x8 x9 x10 x11 x12 x13 x14 x15 x16 x17 x18 x19 x20 x21 x22 x23 x24 x25 x26 x27 x28 x29 x30 x31 x32 x33 x34 g0 [a0, a1, a2, a3, a4, a5, a6, a7, a8, a9, a10, a11, a12, a13] =
  let v4 : D := (((a13).toL).getD ((((x1).toL).length : Int)).toNat D.nil)
  if ((a0).toInt == (0 : Int)) = true then
  some [(D.int (0 : Int)), (D.int (0 : Int)), (D.int (0 : Int)), (D.int (0 : Int)), (D.int (0 : Int)), (D.bool false), (D.int (0 : Int)), (D.int (0 : Int)), (D.int (0 : Int)), (D.int (0 : Int)), (D.int (0 : Int)), (D.int (0 : Int)), (D.agg []), (D.iface 22 (D.int (6 : Int))), a13]
  else
  if ((((v4).toL).getD 1 D.nil)).toBool = true then
    some [(D.int (0 : Int)), (D.int (0 : Int)), (D.int (0 : Int)), (D.int (0 : Int)), (D.int (0 : Int)), (D.bool false), (D.int (0 : Int)), (D.int (0 : Int)), (D.int (0 : Int)), (D.int (0 : Int)), (D.int (0 : Int)), (D.int (0 : Int)), (D.agg []), (D.iface 22 (D.int (6 : Int))), a13]
    else
    if (decide (((((((v4).toL).getD 0 D.nil)).toL).length : Int) > (0 : Int))) = true then
      some [(D.int (0 : Int)), (D.int (0 : Int)), (D.int (0 : Int)), (D.int (0 : Int)), (D.int (0 : Int)), (D.bool false), (D.int (0 : Int)), (D.int (0 : Int)), (D.int (0 : Int)), (D.int (0 : Int)), (D.int (0 : Int)), (D.int (0 : Int)), (D.agg []), (D.iface 22 (D.int (6 : Int))), a13]
      else
      bindC (FX 9 [a0, a1, a2, a3, a4, a5, a6, a7, a8, a9, a10, a11, a12]) 1 fun r49 =>
        if (!((r49.getD 0 D.nil)).toBool) = true then
        some [(D.int (0 : Int)), (D.int (0 : Int)), (D.int (0 : Int)), (D.int (0 : Int)), (D.int (0 : Int)), (D.bool false), (D.int (0 : Int)), (D.int (0 : Int)), (D.int (0 : Int)), (D.int (0 : Int)), (D.int (0 : Int)), (D.int (0 : Int)), (D.agg []), (D.iface 22 (D.int (6 : Int))), a13]
        else
        some [a0, a1, a2, a3, a4, a5, a6, a7, a8, a9, a10, a11, a12, D.nil, a13] := by kernel_rfl
noncomputable def W_answer_Parse_4 (x0 x1 x2 x3 x4 x5 x6 x7 x8 x9 x10 x11 x12 x13 x14 x15 x16 x17 x18 x19 x20 x21 x22 x23 x24 x25 x26 x27 x28 x29 x30 x31 x32 x33 x34 : D) (g0 g1 : Eng.Fn) : Eng.Fn := loopF fun g xs => evalP FX B_answer_Parse_4 ([g0, g1] ++ [g]) ([x0, x1, x2, x3, x4, x5, x6, x7, x8, x9, x10, x11, x12, x13, x14, x15, x16, x17, x18, x19, x20, x21, x22, x23, x24, x25, x26, x27, x28, x29, x30, x31, x32, x33, x34] ++ xs)
theorem W_answer_Parse_4_eq (x0 x1 x2 x3 x4 x5 x6 x7 x8 x9 x10 x11 x12 x13 x14 x15 x16 x17 x18 x19 x20 x21 x22 x23 x24 x25 x26 x27 x28 x29 x30 x31 x32 x33 x34 : D) (g0 g1 : Eng.Fn) (a0 a1 a2 a3 a4 a5 a6 a7 a8 a9 a10 a11 a12 a13 : D) : W_answer_Parse_4 x0 x1 x2 x3 x4 x5 x6 x7 x8 x9 x10 x11 x12 x13 x14 x15 x16 x17 x18 x19 x20 x21 x22 x23 x24 x25 x26 x27 x28 x29 x30 x31 x32 x33 x34 g0 g1 [a0, a1, a2, a3, a4, a5, a6, a7, a8, a9, a10, a11, a12, a13] =
  let v6 : D := (((a13).toL).getD ((((x1).toL).length : Int)).toNat D.nil)
  if (decide (((((((v6).toL).getD 0 D.nil)).toL).length : Int) > (0 : Int))) = true then
  if (!((((v6).toL).getD 1 D.nil)).toBool) = true then
    bindC (FX 51 [(D.int (((x1).toL).length : Int)), a13]) 4 fun r49 =>
      let v7 : D := (D.agg ((a12).toL ++ ((D.agg ((r49.getD 0 D.nil) :: ((r49.getD 1 D.nil) :: ((r49.getD 2 D.nil) :: [])))) :: [])))
      if (decide ((((v7).toL).length : Int) ≤ (5864062014805 : Int))) = true then
      (W_answer_Parse_4 x0 x1 x2 x3 x4 x5 x6 x7 x8 x9 x10 x11 x12 x13 x14 x15 x16 x17 x18 x19 x20 x21 x22 x23 x24 x25 x26 x27 x28 x29 x30 x31 x32 x33 x34 g0 g1) [a0, a1, a2, a3, a4, a5, a6, a7, a8, a9, a10, a11, v7, (r49.getD 3 D.nil)]
      else none
    else
    g1 [a0, a1, a2, a3, a4, a5, a6, a7, a8, a9, a10, a11, a12, a13]
  else
  g1 [a0, a1, a2, a3, a4, a5, a6, a7, a8, a9, a10, a11, a12, a13] := (loopP_eq FX B_answer_Parse_4 [g0, g1] [x0, x1, x2, x3, x4, x5, x6, x7, x8, x9, x10, x11, x12, x13, x14, x15, x16, x17, x18, x19, x20, x21, x22, x23, x24, x25, x26, x27, x28, x29, x30, x31, x32, x33, x34] _).trans (by kernel_rfl)
noncomputable def W_answer_Parse_5 (x0 x1 x2 x3 x4 x5 x6 x7 x8 x9 x10 x11 x12 x13 x14 x15 x16 x17 x18 x19 x20 x21 x22 x23 x24 x25 x26 x27 x28 x29 x30 x31 x32 x33 x34 : D) (g0 g1 : Eng.Fn) : Eng.Fn := loopF fun g xs => evalP FX B_answer_Parse_5 ([g0, g1] ++ [g]) ([x0, x1, x2, x3, x4, x5, x6, x7, x8, x9, x10, x11, x12, x13, x14, x15, x16, x17, x18, x19, x20, x21, x22, x23, x24, x25, x26, x27, x28, x29, x30, x31, x32, x33, x34] ++ xs)
theorem W_answer_Parse_5_eq (x0 x1 x2 x3 x4 x5 x6 x7 x8 x9 x10 x11 x12 x13 x14 x15 x16 x17 x18 x19 x20 x21 x22 x23 x24 x25 x26 x27 x28 x29 x30 x31 x32 x33 x34 : D) (g0 g1 : Eng.Fn) (a0 a1 a2 a3 a4 a5 a6 a7 a8 a9 a10 a11 a12 a13 : D) : W_answer_Parse_5 x0 x1 x2 x3 x4 x5 x6 x7 x8 x9 x10 x11 x12 x13 x14 x15 x16 x17 x18 x19 x20 x21 x22 x23 x24 x25 x26 x27 x28 x29 x30 x31 x32 x33 x34 g0 g1 [a0, a1, a2, a3, a4, a5, a6, a7, a8, a9, a10, a11, a12, a13] =
  let v8 : D := (((a13).toL).getD ((((x1).toL).length : Int)).toNat D.nil)
  if (decide (((((((v8).toL).getD 0 D.nil)).toL).length : Int) > (0 : Int))) = true then
  if (!((((v8).toL).getD 1 D.nil)).toBool) = true then
    bindC (FX 51 [(D.int (((x1).toL).length : Int)), a13]) 4 fun r49 =>
      let v9 : D := (D.agg ((a12).toL ++ ((D.agg ((r49.getD 0 D.nil) :: ((r49.getD 1 D.nil) :: ((r49.getD 2 D.nil) :: [])))) :: [])))
      if (decide ((((v9).toL).length : Int) ≤ (5864062014805 : Int))) = true then
      (W_answer_Parse_5 x0 x1 x2 x3 x4 x5 x6 x7 x8 x9 x10 x11 x12 x13 x14 x15 x16 x17 x18 x19 x20 x21 x22 x23 x24 x25 x26 x27 x28 x29 x30 x31 x32 x33 x34 g0 g1) [a0, a1, a2, a3, a4, a5, a6, a7, a8, a9, a10, a11, v9, (r49.getD 3 D.nil)]
      else none
    else
    g1 [a0, a1, a2, a3, a4, a5, a6, a7, a8, a9, a10, a11, a12, a13]
  else
  g1 [a0, a1, a2, a3, a4, a5, a6, a7, a8, a9, a10, a11, a12, a13] := (loopP_eq FX B_answer_Parse_5 [g0, g1] [x0, x1, x2, x3, x4, x5, x6, x7, x8, x9, x10, x11, x12, x13, x14, x15, x16, x17, x18, x19, x20, x21, x22, x23, x24, x25, x26, x27, x28, x29, x30, x31, x32, x33, x34] _).trans (by kernel_rfl)
noncomputable def W_answer_Parse_6 (x0 x1 x2 x3 x4 x5 x6 x7 x8 x9 x10 x11 x12 x13 x14 x15 x16 x17 x18 x19 x20 x21 x22 x23 x24 x25 x26 x27 x28 x29 x30 x31 x32 x33 x34 x35 x36 x37 : D) (g0 g1 : Eng.Fn) : Eng.Fn := loopF fun g xs => evalP FX B_answer_Parse_6 ([g0, g1] ++ [g]) ([x0, x1, x2, x3, x4, x5, x6, x7, x8, x9, x10, x11, x12, x13, x14, x15, x16, x17, x18, x19, x20, x21, x22, x23, x24, x25, x26, x27, x28, x29, x30, x31, x32, x33, x34, x35, x36, x37] ++ xs)
theorem W_answer_Parse_6_eq (x0 x1 x2 x3 x4 x5 x6 x7 x8 x9 x10 x11 x12 x13 x14 x15 x16 x17 x18 x19 x20 x21 x22 x23 x24 x25 x26 x27 x28 x29 x30 x31 x32 x33 x34 x35 x36 x37 : D) (g0 g1 : Eng.Fn) (a0 a1 : D) : W_answer_Parse_6 x0 x1 x2 x3 x4 x5 x6 x7 x8 x9 x10 x11 x12 x13 x14 x15 x16 x17 x18 x19 x20 x21 x22 x23 x24 x25 x26 x27 x28 x29 x30 x31 x32 x33 x34 x35 x36 x37 g0 g1 [a0, a1] =
  if (decide ((a0).toInt ≤ (5 : Int))) = true then
  bindC (FX 23 [a0]) 1 fun r40 =>
    if (scmpF .eql ((r40.getD 0 D.nil)).toStr (x35).toStr) = true then
    bindC (FX 33 [(D.int (((x1).toL).length : Int)), a1]) 2 fun r41 =>
      bindC (FX 33 [(D.int (((x1).toL).length : Int)), (r41.getD 1 D.nil)]) 2 fun r43 =>
      bindC (FX 33 [(D.int (((x1).toL).length : Int)), (r43.getD 1 D.nil)]) 2 fun r45 =>
      g1 [x21, x22, x23, x24, x25, x26, a0, (r41.getD 0 D.nil), (r43.getD 0 D.nil), (r45.getD 0 D.nil), (D.int (0 : Int)), (D.int (0 : Int)), x33, (r45.getD 1 D.nil)]
    else
    (W_answer_Parse_6 x0 x1 x2 x3 x4 x5 x6 x7 x8 x9 x10 x11 x12 x13 x14 x15 x16 x17 x18 x19 x20 x21 x22 x23 x24 x25 x26 x27 x28 x29 x30 x31 x32 x33 x34 x35 x36 x37 g0 g1) [(D.int (IntKind.i64.wrap ((a0).toInt + (1 : Int)))), a1]
  else
  g1 [x21, x22, x23, x24, x25, x26, x27, x28, x29, x30, x31, x32, x33, (D.agg (((a1).toL).set ((((x1).toL).length : Int)).toNat (D.agg (((List.range 2).map fun j => (((((a1).toL).getD ((((x1).toL).length : Int)).toNat D.nil)).toL).getD j D.nil).set 1 (D.bool true)))))] := (loopP_eq FX B_answer_Parse_6 [g0, g1] [x0, x1, x2, x3, x4, x5, x6, x7, x8, x9, x10, x11, x12, x13, x14, x15, x16, x17, x18, x19, x20, x21, x22, x23, x24, x25, x26, x27, x28, x29, x30, x31, x32, x33, x34, x35, x36, x37] _).trans (by kernel_rfl)
noncomputable def W_answer_Parse_7 (x0 x1 x2 x3 x4 x5 x6 x7 x8 x9 x10 x11 x12 x13 x14 x15 x16 x17 x18 x19 x20 x21 x22 x23 x24 x25 x26 x27 x28 x29 x30 x31 x32 x33 x34 x35 x36 x37 : D) (g0 g1 : Eng.Fn) : Eng.Fn := loopF fun g xs => evalP FX B_answer_Parse_7 ([g0, g1] ++ [g]) ([x0, x1, x2, x3, x4, x5, x6, x7, x8, x9, x10, x11, x12, x13, x14, x15, x16, x17, x18, x19, x20, x21, x22, x23, x24, x25, x26, x27, x28, x29, x30, x31, x32, x33, x34, x35, x36, x37] ++ xs)
theorem W_answer_Parse_7_eq (x0 x1 x2 x3 x4 x5 x6 x7 x8 x9 x10 x11 x12 x13 x14 x15 x16 x17 x18 x19 x20 x21 x22 x23 x24 x25 x26 x27 x28 x29 x30 x31 x32 x33 x34 x35 x36 x37 : D) (g0 g1 : Eng.Fn) (a0 a1 : D) : W_answer_Parse_7 x0 x1 x2 x3 x4 x5 x6 x7 x8 x9 x10 x11 x12 x13 x14 x15 x16 x17 x18 x19 x20 x21 x22 x23 x24 x25 x26 x27 x28 x29 x30 x31 x32 x33 x34 x35 x36 x37 g0 g1 [a0, a1] =
  if (decide ((a0).toInt ≤ (5 : Int))) = true then
  bindC (FX 23 [a0]) 1 fun r40 =>
    if (scmpF .eql ((r40.getD 0 D.nil)).toStr (x35).toStr) = true then
    bindC (FX 33 [(D.int (((x1).toL).length : Int)), a1]) 2 fun r41 =>
      bindC (FX 33 [(D.int (((x1).toL).length : Int)), (r41.getD 1 D.nil)]) 2 fun r43 =>
      bindC (FX 33 [(D.int (((x1).toL).length : Int)), (r43.getD 1 D.nil)]) 2 fun r45 =>
      g1 [x21, x22, x23, x24, x25, x26, a0, (r41.getD 0 D.nil), (r43.getD 0 D.nil), (r45.getD 0 D.nil), (D.int (0 : Int)), (D.int (0 : Int)), x33, (r45.getD 1 D.nil)]
    else
    (W_answer_Parse_7 x0 x1 x2 x3 x4 x5 x6 x7 x8 x9 x10 x11 x12 x13 x14 x15 x16 x17 x18 x19 x20 x21 x22 x23 x24 x25 x26 x27 x28 x29 x30 x31 x32 x33 x34 x35 x36 x37 g0 g1) [(D.int (IntKind.i64.wrap ((a0).toInt + (1 : Int)))), a1]
  else
  g1 [x21, x22, x23, x24, x25, x26, x27, x28, x29, x30, x31, x32, x33, (D.agg (((a1).toL).set ((((x1).toL).length : Int)).toNat (D.agg (((List.range 2).map fun j => (((((a1).toL).getD ((((x1).toL).length : Int)).toNat D.nil)).toL).getD j D.nil).set 1 (D.bool true)))))] := (loopP_eq FX B_answer_Parse_7 [g0, g1] [x0, x1, x2, x3, x4, x5, x6, x7, x8, x9, x10, x11, x12, x13, x14, x15, x16, x17, x18, x19, x20, x21, x22, x23, x24, x25, x26, x27, x28, x29, x30, x31, x32, x33, x34, x35, x36, x37] _).trans (by kernel_rfl)
noncomputable def J_answer_Parse_2 (x0 x1 x2 x3 x4 x5 x6 x7 x8 x9 x10 x11 x12 x13 x14 x15 x16 x17 x18 x19 x20 : D) (g0 : Eng.Fn) : Eng.Fn := fun xs => evalP FX B_answer_Parse_2 [g0] ([x0, x1, x2, x3, x4, x5, x6, x7, x8, x9, x10, x11, x12, x13, x14, x15, x16, x17, x18, x19, x20] ++ xs)
theorem J_answer_Parse_2_eq (x0 x1 x2 x3 x4 x5 x6 x7 x8 x9 x10 x11 x12 x13 x14 x15 x16 x17 x18 x19 x20 : D) (g0 : Eng.Fn) (a0 a1 a2 a3 a4 a5 a6 a7 a8 a9 a10 a11 a12 a13 : D) : J_answer_Parse_2 x0 x1 x2 x3 x4 x5 x6 x7 x8 x9 x10 x11 x12 x13 x14 x15 x16 x17 x18 x19 x20 g0 [a0, a1, a2, a3, a4, a5, a6, a7, a8, a9, a10, a11, a12, a13] =
  let v1 : D := (((a13).toL).getD ((((x1).toL).length : Int)).toNat D.nil)
  let v2 : D := (((v1).toL).getD 0 D.nil)
  let v3 : D := (D.int (((v2).toL).length : Int))
  if ((a0).toInt != (0 : Int)) = true then
  if (!((((v1).toL).getD 1 D.nil)).toBool) = true then
    if ((a0).toInt == (4 : Int)) = true then
      if (decide ((v3).toInt > (0 : Int))) = true then
        if (decide ((0 : Int) < (v3).toInt)) = true then
          if (scmpF .eql ((((v2).toL).getD ((0 : Int)).toNat D.nil)).toStr ((ByteArray.mk #[101, 114, 114, 111, 114]))) = true then
            bindC (FX 34 [(D.int (((x1).toL).length : Int)), a13]) 2 fun r35 =>
              bindC (FX 33 [(D.int (((x1).toL).length : Int)), (r35.getD 1 D.nil)]) 2 fun r37 =>
              let v5 : D := ((((r37.getD 1 D.nil)).toL).getD ((((x1).toL).length : Int)).toNat D.nil)
              if ((((v5).toL).getD 1 D.nil)).toBool = true then
              (J_answer_Parse_3 x0 x1 x2 x3 x4 x5 x6 x7 x8 x9 x10 x11 x12 x13 x14 x15 x16 x17 x18 x19 x20 a0 a1 a2 a3 a4 a5 a6 a7 a8 a9 a10 a11 a12 a13 g0) [a0, (r37.getD 0 D.nil), a2, a3, a4, a5, a6, a7, a8, a9, a10, a11, a12, (D.agg ((((r37.getD 1 D.nil)).toL).set ((((x1).toL).length : Int)).toNat (D.agg (((List.range 2).map fun j => ((v5).toL).getD j D.nil).set 1 (D.bool true)))))]
              else
              (J_answer_Parse_3 x0 x1 x2 x3 x4 x5 x6 x7 x8 x9 x10 x11 x12 x13 x14 x15 x16 x17 x18 x19 x20 a0 a1 a2 a3 a4 a5 a6 a7 a8 a9 a10 a11 a12 a13 g0) [a0, (r37.getD 0 D.nil), a2, a3, a4, a5, a6, a7, a8, a9, a10, a11, a12, (D.agg ((((r37.getD 1 D.nil)).toL).set ((((x1).toL).length : Int)).toNat (D.agg (((List.range 2).map fun j => ((v5).toL).getD j D.nil).set 1 (D.bool (((r37.getD 0 D.nil)).toInt == (0 : Int)))))))]
            else
            W_answer_Parse_4 x0 x1 x2 x3 x4 x5 x6 x7 x8 x9 x10 x11 x12 x13 x14 x15 x16 x17 x18 x19 x20 a0 a1 a2 a3 a4 a5 a6 a7 a8 a9 a10 a11 a12 a13 g0 ((J_answer_Parse_3 x0 x1 x2 x3 x4 x5 x6 x7 x8 x9 x10 x11 x12 x13 x14 x15 x16 x17 x18 x19 x20 a0 a1 a2 a3 a4 a5 a6 a7 a8 a9 a10 a11 a12 a13 g0)) [a0, a1, a2, a3, a4, a5, a6, a7, a8, a9, a10, a11, a12, a13]
          else none
        else
        W_answer_Parse_5 x0 x1 x2 x3 x4 x5 x6 x7 x8 x9 x10 x11 x12 x13 x14 x15 x16 x17 x18 x19 x20 a0 a1 a2 a3 a4 a5 a6 a7 a8 a9 a10 a11 a12 a13 g0 ((J_answer_Parse_3 x0 x1 x2 x3 x4 x5 x6 x7 x8 x9 x10 x11 x12 x13 x14 x15 x16 x17 x18 x19 x20 a0 a1 a2 a3 a4 a5 a6 a7 a8 a9 a10 a11 a12 a13 g0)) [a0, a1, a2, a3, a4, a5, a6, a7, a8, a9, a10, a11, a12, a13]
      else
      bindC (FX 34 [(D.int (((x1).toL).length : Int)), a13]) 2 fun r35 =>
        let v10 : D := (D.agg ((((r35.getD 1 D.nil)).toL).set ((((x1).toL).length : Int)).toNat (D.agg (((List.range 2).map fun j => ((((((r35.getD 1 D.nil)).toL).getD ((((x1).toL).length : Int)).toNat D.nil)).toL).getD j D.nil).set 1 (D.bool true)))))
        if (scmpF .eql ((r35.getD 0 D.nil)).toStr ((ByteArray.mk #[101, 114, 114, 111, 114]))) = true then
        bindC (FX 33 [(D.int (((x1).toL).length : Int)), (r35.getD 1 D.nil)]) 2 fun r37 =>
          let v11 : D := ((((r37.getD 1 D.nil)).toL).getD ((((x1).toL).length : Int)).toNat D.nil)
          if ((((v11).toL).getD 1 D.nil)).toBool = true then
          (J_answer_Parse_3 x0 x1 x2 x3 x4 x5 x6 x7 x8 x9 x10 x11 x12 x13 x14 x15 x16 x17 x18 x19 x20 a0 a1 a2 a3 a4 a5 a6 a7 a8 a9 a10 a11 a12 a13 g0) [a0, (r37.getD 0 D.nil), a2, a3, a4, a5, a6, a7, a8, a9, a10, a11, a12, (D.agg ((((r37.getD 1 D.nil)).toL).set ((((x1).toL).length : Int)).toNat (D.agg (((List.range 2).map fun j => ((v11).toL).getD j D.nil).set 1 (D.bool true)))))]
          else
          (J_answer_Parse_3 x0 x1 x2 x3 x4 x5 x6 x7 x8 x9 x10 x11 x12 x13 x14 x15 x16 x17 x18 x19 x20 a0 a1 a2 a3 a4 a5 a6 a7 a8 a9 a10 a11 a12 a13 g0) [a0, (r37.getD 0 D.nil), a2, a3, a4, a5, a6, a7, a8, a9, a10, a11, a12, (D.agg ((((r37.getD 1 D.nil)).toL).set ((((x1).toL).length : Int)).toNat (D.agg (((List.range 2).map fun j => ((v11).toL).getD j D.nil).set 1 (D.bool (((r37.getD 0 D.nil)).toInt == (0 : Int)))))))]
        else
        if ((a0).toInt == (2 : Int)) = true then
          if (scmpF .eql ((r35.getD 0 D.nil)).toStr ((ByteArray.mk #[97, 115, 107, 101, 100]))) = true then
            (J_answer_Parse_3 x0 x1 x2 x3 x4 x5 x6 x7 x8 x9 x10 x11 x12 x13 x14 x15 x16 x17 x18 x19 x20 a0 a1 a2 a3 a4 a5 a6 a7 a8 a9 a10 a11 a12 a13 g0) [a0, a1, a2, a3, a4, (D.bool true), a6, a7, a8, a9, a10, a11, a12, (r35.getD 1 D.nil)]
            else
            if ((a0).toInt == (3 : Int)) = true then
              bindC (FX 23 [(D.int (0 : Int))]) 1 fun r37 =>
                if (scmpF .eql ((r35.getD 0 D.nil)).toStr ((r37.getD 0 D.nil)).toStr) = true then
                (J_answer_Parse_3 x0 x1 x2 x3 x4 x5 x6 x7 x8 x9 x10 x11 x12 x13 x14 x15 x16 x17 x18 x19 x20 a0 a1 a2 a3 a4 a5 a6 a7 a8 a9 a10 a11 a12 a13 g0) [a0, a1, a2, a3, a4, a5, a6, a7, a8, a9, a10, a11, a12, (r35.getD 1 D.nil)]
                else
                W_answer_Parse_6 x0 x1 x2 x3 x4 x5 x6 x7 x8 x9 x10 x11 x12 x13 x14 x15 x16 x17 x18 x19 x20 a0 a1 a2 a3 a4 a5 a6 a7 a8 a9 a10 a11 a12 a13 (r35.getD 0 D.nil) (r35.getD 1 D.nil) (r37.getD 0 D.nil) g0 ((J_answer_Parse_3 x0 x1 x2 x3 x4 x5 x6 x7 x8 x9 x10 x11 x12 x13 x14 x15 x16 x17 x18 x19 x20 a0 a1 a2 a3 a4 a5 a6 a7 a8 a9 a10 a11 a12 a13 g0)) [(D.int (1 : Int)), (r35.getD 1 D.nil)]
              else
              if (scmpF .neq ((r35.getD 0 D.nil)).toStr ((ByteArray.mk #[111, 107]))) = true then
                (J_answer_Parse_3 x0 x1 x2 x3 x4 x5 x6 x7 x8 x9 x10 x11 x12 x13 x14 x15 x16 x17 x18 x19 x20 a0 a1 a2 a3 a4 a5 a6 a7 a8 a9 a10 a11 a12 a13 g0) [a0, a1, a2, a3, a4, a5, a6, a7, a8, a9, a10, a11, a12, v10]
                else
                (J_answer_Parse_3 x0 x1 x2 x3 x4 x5 x6 x7 x8 x9 x10 x11 x12 x13 x14 x15 x16 x17 x18 x19 x20 a0 a1 a2 a3 a4 a5 a6 a7 a8 a9 a10 a11 a12 a13 g0) [a0, a1, a2, a3, a4, a5, a6, a7, a8, a9, a10, a11, a12, (r35.getD 1 D.nil)]
          else
          if ((a0).toInt == (3 : Int)) = true then
            bindC (FX 23 [(D.int (0 : Int))]) 1 fun r37 =>
              if (scmpF .eql ((r35.getD 0 D.nil)).toStr ((r37.getD 0 D.nil)).toStr) = true then
              (J_answer_Parse_3 x0 x1 x2 x3 x4 x5 x6 x7 x8 x9 x10 x11 x12 x13 x14 x15 x16 x17 x18 x19 x20 a0 a1 a2 a3 a4 a5 a6 a7 a8 a9 a10 a11 a12 a13 g0) [a0, a1, a2, a3, a4, a5, a6, a7, a8, a9, a10, a11, a12, (r35.getD 1 D.nil)]
              else
              W_answer_Parse_7 x0 x1 x2 x3 x4 x5 x6 x7 x8 x9 x10 x11 x12 x13 x14 x15 x16 x17 x18 x19 x20 a0 a1 a2 a3 a4 a5 a6 a7 a8 a9 a10 a11 a12 a13 (r35.getD 0 D.nil) (r35.getD 1 D.nil) (r37.getD 0 D.nil) g0 ((J_answer_Parse_3 x0 x1 x2 x3 x4 x5 x6 x7 x8 x9 x10 x11 x12 x13 x14 x15 x16 x17 x18 x19 x20 a0 a1 a2 a3 a4 a5 a6 a7 a8 a9 a10 a11 a12 a13 g0)) [(D.int (1 : Int)), (r35.getD 1 D.nil)]
            else
            if (scmpF .neq ((r35.getD 0 D.nil)).toStr ((ByteArray.mk #[111, 107]))) = true then
              (J_answer_Parse_3 x0 x1 x2 x3 x4 x5 x6 x7 x8 x9 x10 x11 x12 x13 x14 x15 x16 x17 x18 x19 x20 a0 a1 a2 a3 a4 a5 a6 a7 a8 a9 a10 a11 a12 a13 g0) [a0, a1, a2, a3, a4, a5, a6, a7, a8, a9, a10, a11, a12, v10]
              else
              (J_answer_Parse_3 x0 x1 x2 x3 x4 x5 x6 x7 x8 x9 x10 x11 x12 x13 x14 x15 x16 x17 x18 x19 x20 a0 a1 a2 a3 a4 a5 a6 a7 a8 a9 a10 a11 a12 a13 g0) [a0, a1, a2, a3, a4, a5, a6, a7, a8, a9, a10, a11, a12, (r35.getD 1 D.nil)]
    else
    (J_answer_Parse_3 x0 x1 x2 x3 x4 x5 x6 x7 x8 x9 x10 x11 x12 x13 x14 x15 x16 x17 x18 x19 x20 a0 a1 a2 a3 a4 a5 a6 a7 a8 a9 a10 a11 a12 a13 g0) [a0, a1, a2, a3, a4, a5, a6, a7, a8, a9, a10, a11, a12, a13]
  else
  (J_answer_Parse_3 x0 x1 x2 x3 x4 x5 x6 x7 x8 x9 x10 x11 x12 x13 x14 x15 x16 x17 x18 x19 x20 a0 a1 a2 a3 a4 a5 a6 a7 a8 a9 a10 a11 a12 a13 g0) [a0, a1, a2, a3, a4, a5, a6, a7, a8, a9, a10, a11, a12, a13] := by kernel_rfl
noncomputable def W_answer_Parse_1 (x0 x1 x2 x3 x4 x5 x6 : D) : Eng.Fn := loopF fun g xs => evalP FX B_answer_Parse_1 ([] ++ [g]) ([x0, x1, x2, x3, x4, x5, x6] ++ xs)
theorem W_answer_Parse_1_eq (x0 x1 x2 x3 x4 x5 x6 : D) (a0 a1 a2 a3 a4 a5 a6 a7 a8 a9 a10 a11 a12 a13 : D) : W_answer_Parse_1 x0 x1 x2 x3 x4 x5 x6 [a0, a1, a2, a3, a4, a5, a6, a7, a8, a9, a10, a11, a12, a13] =
  let v0 : D := (D.int (IntKind.i64.wrap ((a0).toInt + (1 : Int))))
  if (decide ((a0).toInt ≤ (4 : Int))) = true then
  bindC (FX 21 [a0]) 1 fun r21 =>
    if (scmpF .eql ((r21.getD 0 D.nil)).toStr (x5).toStr) = true then
    (W_answer_Parse_1 x0 x1 x2 x3 x4 x5 x6) [v0, a0, a2, a3, a4, a5, a6, a7, a8, a9, a10, a11, a12, a13]
    else
    (W_answer_Parse_1 x0 x1 x2 x3 x4 x5 x6) [v0, a1, a2, a3, a4, a5, a6, a7, a8, a9, a10, a11, a12, a13]
  else
  if ((a1).toInt == (1 : Int)) = true then
    bindC (FX 33 [(D.int (((x1).toL).length : Int)), x6]) 2 fun r21 =>
      bindC (FX 33 [(D.int (((x1).toL).length : Int)), (r21.getD 1 D.nil)]) 2 fun r23 =>
      (J_answer_Parse_2 x0 x1 x2 x3 x4 x5 x6 a0 a1 a2 a3 a4 a5 a6 a7 a8 a9 a10 a11 a12 a13 (W_answer_Parse_1 x0 x1 x2 x3 x4 x5 x6)) [a1, a2, a3, (r21.getD 0 D.nil), (r23.getD 0 D.nil), a6, a7, a8, a9, a10, a11, a12, a13, (r23.getD 1 D.nil)]
    else
    if ((a1).toInt == (2 : Int)) = true then
      bindC (FX 33 [(D.int (((x1).toL).length : Int)), x6]) 2 fun r21 =>
        bindC (FX 33 [(D.int (((x1).toL).length : Int)), (r21.getD 1 D.nil)]) 2 fun r23 =>
        (J_answer_Parse_2 x0 x1 x2 x3 x4 x5 x6 a0 a1 a2 a3 a4 a5 a6 a7 a8 a9 a10 a11 a12 a13 (W_answer_Parse_1 x0 x1 x2 x3 x4 x5 x6)) [a1, a2, a3, (r21.getD 0 D.nil), (r23.getD 0 D.nil), a6, a7, a8, a9, a10, a11, a12, a13, (r23.getD 1 D.nil)]
      else
      if ((a1).toInt == (3 : Int)) = true then
        bindC (FX 33 [(D.int (((x1).toL).length : Int)), x6]) 2 fun r21 =>
          (J_answer_Parse_2 x0 x1 x2 x3 x4 x5 x6 a0 a1 a2 a3 a4 a5 a6 a7 a8 a9 a10 a11 a12 a13 (W_answer_Parse_1 x0 x1 x2 x3 x4 x5 x6)) [a1, a2, a3, a4, (r21.getD 0 D.nil), a6, a7, a8, a9, a10, a11, a12, a13, (r21.getD 1 D.nil)]
        else
        (J_answer_Parse_2 x0 x1 x2 x3 x4 x5 x6 a0 a1 a2 a3 a4 a5 a6 a7 a8 a9 a10 a11 a12 a13 (W_answer_Parse_1 x0 x1 x2 x3 x4 x5 x6)) [a1, a2, a3, a4, a5, a6, a7, a8, a9, a10, a11, a12, a13, x6] := (loopP_eq FX B_answer_Parse_1 [] [x0, x1, x2, x3, x4, x5, x6] _).trans (by kernel_rfl)
theorem E_answer_Parse (x0 x1 : D) : FX 12 [x0, x1] =
  bindC (FX 32 [x0, (D.str ((ByteArray.mk #[32])))]) 1 fun r2 =>
  bindC (FX 33 [(D.int (((x1).toL).length : Int)), (D.agg ((x1).toL ++ ((D.agg ((r2.getD 0 D.nil) :: ((D.bool false) :: []))) :: [])))]) 2 fun r3 =>
  bindC (FX 34 [(D.int (((x1).toL).length : Int)), (r3.getD 1 D.nil)]) 2 fun r5 =>
  W_answer_Parse_1 x0 x1 (r2.getD 0 D.nil) (r3.getD 0 D.nil) (r3.getD 1 D.nil) (r5.getD 0 D.nil) (r5.getD 1 D.nil) [(D.int (1 : Int)), (D.int (0 : Int)), (D.int (0 : Int)), (r3.getD 0 D.nil), (D.int (0 : Int)), (D.int (0 : Int)), (D.bool false), (D.int (0 : Int)), (D.int (0 : Int)), (D.int (0 : Int)), (D.int (0 : Int)), (D.int (0 : Int)), (D.int (0 : Int)), (D.agg [])] := (fixP_eq (t := T_answer_Parse) (by rfl) _).trans (by kernel_rfl)
theorem E_ref16_most (x0 : D) : FX 19 [x0] =
  if (decide ((x0).toInt ≥ (0 : Int))) = true then
  some [(D.bool (decide ((x0).toInt ≤ (9999999 : Int))))]
  else
  some [(D.bool false)] := (fixP_eq (t := T_ref16_most) (by rfl) _).trans (by kernel_rfl)
noncomputable def W_ref16_Right_5 (x0 x1 x2 x3 x4 x5 x6 x7 x8 x9 x10 x11 x12 : D) : Eng.Fn := loopF fun g xs => evalP FX B_ref16_Right_5 ([] ++ [g]) ([x0, x1, x2, x3, x4, x5, x6, x7, x8, x9, x10, x11, x12] ++ xs)
theorem W_ref16_Right_5_eq (x0 x1 x2 x3 x4 x5 x6 x7 x8 x9 x10 x11 x12 : D) (a0 : D) : W_ref16_Right_5 x0 x1 x2 x3 x4 x5 x6 x7 x8 x9 x10 x11 x12 [a0] =
  let v0 : D := (((x12).toL).getD ((a0).toInt).toNat D.nil)
  let v1 : D := (D.int (IntKind.i64.wrap ((a0).toInt + (1 : Int))))
  let v2 : D := (((v0).toL).getD 0 D.nil)
  let v3 : D := (((v0).toL).getD 1 D.nil)
  let v4 : D := (((v0).toL).getD 2 D.nil)
  if (decide ((a0).toInt < (((x12).toL).length : Int))) = true then
  if (decide ((a0).toInt ≥ (0 : Int))) = true then
    if (decide ((a0).toInt < (((x12).toL).length : Int))) = true then
      if ((x0).toInt != (4 : Int)) = true then
        some [(D.bool false)]
        else
        if ((x1).toInt != (0 : Int)) = true then
          some [(D.bool false)]
          else
          if (decide ((v2).toInt < (0 : Int))) = true then
            some [(D.bool false)]
            else
            if (decide ((v2).toInt > (8 : Int))) = true then
              some [(D.bool false)]
              else
              if (decide ((v2).toInt ≥ (2 : Int))) = true then
                if (decide ((v2).toInt ≤ (4 : Int))) = true then
                  some [(D.bool false)]
                  else
                  bindC (FX 19 [v3]) 1 fun r14 =>
                    if (!((r14.getD 0 D.nil)).toBool) = true then
                    some [(D.bool false)]
                    else
                    bindC (FX 19 [v4]) 1 fun r15 =>
                      if (!((r15.getD 0 D.nil)).toBool) = true then
                      some [(D.bool false)]
                      else
                      (W_ref16_Right_5 x0 x1 x2 x3 x4 x5 x6 x7 x8 x9 x10 x11 x12) [v1]
                else
                bindC (FX 19 [v3]) 1 fun r14 =>
                  if (!((r14.getD 0 D.nil)).toBool) = true then
                  some [(D.bool false)]
                  else
                  bindC (FX 19 [v4]) 1 fun r15 =>
                    if (!((r15.getD 0 D.nil)).toBool) = true then
                    some [(D.bool false)]
                    else
                    (W_ref16_Right_5 x0 x1 x2 x3 x4 x5 x6 x7 x8 x9 x10 x11 x12) [v1]
      else none
    else none
  else
  some [(D.bool true)] := (loopP_eq FX B_ref16_Right_5 [] [x0, x1, x2, x3, x4, x5, x6, x7, x8, x9, x10, x11, x12] _).trans (by kernel_rfl)
noncomputable def J_ref16_Right_4 (x0 x1 x2 x3 x4 x5 x6 x7 x8 x9 x10 x11 x12 : D) : Eng.Fn := fun xs => evalP FX B_ref16_Right_4 [] ([x0, x1, x2, x3, x4, x5, x6, x7, x8, x9, x10, x11, x12] ++ xs)
theorem J_ref16_Right_4_eq (x0 x1 x2 x3 x4 x5 x6 x7 x8 x9 x10 x11 x12 : D) : J_ref16_Right_4 x0 x1 x2 x3 x4 x5 x6 x7 x8 x9 x10 x11 x12  [] =
  W_ref16_Right_5 x0 x1 x2 x3 x4 x5 x6 x7 x8 x9 x10 x11 x12 [(D.int (0 : Int))] := by kernel_rfl
noncomputable def J_ref16_Right_3 (x0 x1 x2 x3 x4 x5 x6 x7 x8 x9 x10 x11 x12 : D) : Eng.Fn := fun xs => evalP FX B_ref16_Right_3 [] ([x0, x1, x2, x3, x4, x5, x6, x7, x8, x9, x10, x11, x12] ++ xs)
theorem J_ref16_Right_3_eq (x0 x1 x2 x3 x4 x5 x6 x7 x8 x9 x10 x11 x12 : D) : J_ref16_Right_3 x0 x1 x2 x3 x4 x5 x6 x7 x8 x9 x10 x11 x12  [] =
  if (!(((x6).toInt == (0 : Int)) && (((x7).toInt == (0 : Int)) && (((x8).toInt == (0 : Int)) && (((x9).toInt == (0 : Int)) && (((x10).toInt == (0 : Int)) && ((x11).toInt == (0 : Int)))))))) = true then
  if ((x0).toInt != (3 : Int)) = true then
    some [(D.bool false)]
    else
    if ((x1).toInt != (0 : Int)) = true then
      some [(D.bool false)]
      else
      if (decide ((x6).toInt < (1 : Int))) = true then
        some [(D.bool false)]
        else
        if (decide ((x6).toInt > (5 : Int))) = true then
          some [(D.bool false)]
          else
          bindC (FX 19 [x7]) 1 fun r13 =>
            if (!((r13.getD 0 D.nil)).toBool) = true then
            some [(D.bool false)]
            else
            bindC (FX 19 [x8]) 1 fun r14 =>
              if (!((r14.getD 0 D.nil)).toBool) = true then
              some [(D.bool false)]
              else
              bindC (FX 19 [x9]) 1 fun r15 =>
                if (!((r15.getD 0 D.nil)).toBool) = true then
                some [(D.bool false)]
                else
                if ((x10).toInt != (0 : Int)) = true then
                  some [(D.bool false)]
                  else
                  if ((x11).toInt != (0 : Int)) = true then
                    some [(D.bool false)]
                    else
                    (J_ref16_Right_4 x0 x1 x2 x3 x4 x5 x6 x7 x8 x9 x10 x11 x12) []
  else
  (J_ref16_Right_4 x0 x1 x2 x3 x4 x5 x6 x7 x8 x9 x10 x11 x12) [] := by kernel_rfl
noncomputable def J_ref16_Right_2 (x0 x1 x2 x3 x4 x5 x6 x7 x8 x9 x10 x11 x12 : D) : Eng.Fn := fun xs => evalP FX B_ref16_Right_2 [] ([x0, x1, x2, x3, x4, x5, x6, x7, x8, x9, x10, x11, x12] ++ xs)
theorem J_ref16_Right_2_eq (x0 x1 x2 x3 x4 x5 x6 x7 x8 x9 x10 x11 x12 : D) : J_ref16_Right_2 x0 x1 x2 x3 x4 x5 x6 x7 x8 x9 x10 x11 x12  [] =
  if (x5).toBool = true then
  if ((x0).toInt != (2 : Int)) = true then
    some [(D.bool false)]
    else
    if ((x1).toInt != (0 : Int)) = true then
      some [(D.bool false)]
      else
      (J_ref16_Right_3 x0 x1 x2 x3 x4 x5 x6 x7 x8 x9 x10 x11 x12) []
  else
  (J_ref16_Right_3 x0 x1 x2 x3 x4 x5 x6 x7 x8 x9 x10 x11 x12) [] := by kernel_rfl
noncomputable def J_ref16_Right_1 (x0 x1 x2 x3 x4 x5 x6 x7 x8 x9 x10 x11 x12 : D) : Eng.Fn := fun xs => evalP FX B_ref16_Right_1 [] ([x0, x1, x2, x3, x4, x5, x6, x7, x8, x9, x10, x11, x12] ++ xs)
theorem J_ref16_Right_1_eq (x0 x1 x2 x3 x4 x5 x6 x7 x8 x9 x10 x11 x12 : D) : J_ref16_Right_1 x0 x1 x2 x3 x4 x5 x6 x7 x8 x9 x10 x11 x12  [] =
  if (decide ((x0).toInt ≥ (3 : Int))) = true then
  if ((x3).toInt != (0 : Int)) = true then
    some [(D.bool false)]
    else
    if ((x0).toInt == (4 : Int)) = true then
      if ((x4).toInt != (0 : Int)) = true then
        some [(D.bool false)]
        else
        (J_ref16_Right_2 x0 x1 x2 x3 x4 x5 x6 x7 x8 x9 x10 x11 x12) []
      else
      (J_ref16_Right_2 x0 x1 x2 x3 x4 x5 x6 x7 x8 x9 x10 x11 x12) []
  else
  if ((x0).toInt == (4 : Int)) = true then
    if ((x4).toInt != (0 : Int)) = true then
      some [(D.bool false)]
      else
      (J_ref16_Right_2 x0 x1 x2 x3 x4 x5 x6 x7 x8 x9 x10 x11 x12) []
    else
    (J_ref16_Right_2 x0 x1 x2 x3 x4 x5 x6 x7 x8 x9 x10 x11 x12) [] := by kernel_rfl
theorem E_ref16_Right (x0 x1 x2 x3 x4 x5 x6 x7 x8 x9 x10 x11 x12 : D) : FX 6 [x0, x1, x2, x3, x4, x5, x6, x7, x8, x9, x10, x11, x12] =
  if (decide ((x0).toInt < (1 : Int))) = true then
  some [(D.bool false)]
  else
  if (decide ((x0).toInt > (4 : Int))) = true then
    some [(D.bool false)]
    else
    if (decide ((x2).toInt < (0 : Int))) = true then
      some [(D.bool false)]
      else
      if (decide ((x2).toInt > (1000000 : Int))) = true then
        some [(D.bool false)]
        else
        bindC (FX 19 [x3]) 1 fun r13 =>
          if (!((r13.getD 0 D.nil)).toBool) = true then
          some [(D.bool false)]
          else
          bindC (FX 19 [x4]) 1 fun r14 =>
            if (!((r14.getD 0 D.nil)).toBool) = true then
            some [(D.bool false)]
            else
            if (decide ((x1).toInt < (0 : Int))) = true then
              some [(D.bool false)]
              else
              (J_ref16_Right_1 x0 x1 x2 x3 x4 x5 x6 x7 x8 x9 x10 x11 x12) [] := (fixP_eq (t := T_ref16_Right) (by rfl) _).trans (by kernel_rfl)
theorem E_law16_awake (x0 : D) : FX 5 [x0] =
  bindC (FX 12 [(D.str ((ByteArray.mk #[57, 32, 99, 97, 110, 99, 101, 108, 32, 55, 32, 48, 32, 97, 115, 107, 101, 100]))), x0]) 15 fun r1 =>
  if ((r1.getD 13 D.nil)).isNil = true then
  if (((r1.getD 0 D.nil)).toInt == (2 : Int)) = true then
    if (((r1.getD 2 D.nil)).toInt == (9 : Int)) = true then
      if (((r1.getD 3 D.nil)).toInt == (7 : Int)) = true then
        some [(r1.getD 5 D.nil), (r1.getD 14 D.nil)]
        else
        some [(D.bool false), (r1.getD 14 D.nil)]
      else
      some [(D.bool false), (r1.getD 14 D.nil)]
    else
    some [(D.bool false), (r1.getD 14 D.nil)]
  else
  some [(D.bool false), (r1.getD 14 D.nil)] := (fixP_eq (t := T_law16_awake) (by rfl) _).trans (by kernel_rfl)
noncomputable def W_law11_From_1 (x0 x1 x2 x3 x4 x5 x6 x7 x8 x9 x10 x11 x12 : D) : Eng.Fn := loopF fun g xs => evalP FX B_law11_From_1 ([] ++ [g]) ([x0, x1, x2, x3, x4, x5, x6, x7, x8, x9, x10, x11, x12] ++ xs)
theorem W_law11_From_1_eq (x0 x1 x2 x3 x4 x5 x6 x7 x8 x9 x10 x11 x12 : D) (a0 a1 a2 a3 a4 a5 a6 a7 a8 a9 a10 a11 a12 a13 : D) : W_law11_From_1 x0 x1 x2 x3 x4 x5 x6 x7 x8 x9 x10 x11 x12 [a0, a1, a2, a3, a4, a5, a6, a7, a8, a9, a10, a11, a12, a13] =
  let v0 : D := (((x12).toL).getD ((a0).toInt).toNat D.nil)
  let v1 : D := (D.agg ((a13).toL ++ ((D.agg ((((v0).toL).getD 0 D.nil) :: ((((v0).toL).getD 1 D.nil) :: ((((v0).toL).getD 2 D.nil) :: [])))) :: [])))
  if (decide ((a0).toInt < (((x12).toL).length : Int))) = true then
  if (decide ((a0).toInt ≥ (0 : Int))) = true then
    if (decide ((a0).toInt < (((x12).toL).length : Int))) = true then
      if (decide ((((v1).toL).length : Int) ≤ (5864062014805 : Int))) = true then
        (W_law11_From_1 x0 x1 x2 x3 x4 x5 x6 x7 x8 x9 x10 x11 x12) [(D.int (IntKind.i64.wrap ((a0).toInt + (1 : Int)))), a1, a2, a3, a4, a5, a6, a7, a8, a9, a10, a11, a12, v1]
        else none
      else none
    else none
  else
  some [a1, a2, a3, a4, a5, a6, a7, a8, a9, a10, a11, a12, a13] := (loopP_eq FX B_law11_From_1 [] [x0, x1, x2, x3, x4, x5, x6, x7, x8, x9, x10, x11, x12] _).trans (by kernel_rfl)
theorem E_law11_From (x0 x1 x2 x3 x4 x5 x6 x7 x8 x9 x10 x11 x12 : D) : FX 7 [x0, x1, x2, x3, x4, x5, x6, x7, x8, x9, x10, x11, x12] =
  W_law11_From_1 x0 x1 x2 x3 x4 x5 x6 x7 x8 x9 x10 x11 x12 [(D.int (0 : Int)), x0, x1, x2, x3, x4, x5, x6, x7, x8, x9, x10, x11, (D.agg [])] := (fixP_eq (t := T_law11_From) (by rfl) _).trans (by kernel_rfl)
noncomputable def W_law01_Num_1 (x0 : D) : Eng.Fn := loopF fun g xs => evalP FX B_law01_Num_1 ([] ++ [g]) ([x0] ++ xs)
theorem W_law01_Num_1_eq (x0 : D) (a0 : D) : W_law01_Num_1 x0 [a0] =
  if (decide ((a0).toInt < (30 : Int))) = true then
  bindC (FX 28 [x0, (D.iface 22 a0)]) 1 fun r2 =>
    if ((r2.getD 0 D.nil)).toBool = true then
    some [a0]
    else
    (W_law01_Num_1 x0) [(D.int (IntKind.i64.wrap ((a0).toInt + (1 : Int))))]
  else
  some [(D.int (-1 : Int))] := (loopP_eq FX B_law01_Num_1 [] [x0] _).trans (by kernel_rfl)
theorem E_law01_Num (x0 : D) : FX 10 [x0] =
  if (x0).isNil = true then
  some [(D.int (0 : Int))]
  else
  W_law01_Num_1 x0 [(D.int (1 : Int))] := (fixP_eq (t := T_law01_Num) (by rfl) _).trans (by kernel_rfl)
theorem E_ref01_Decimal (x0 : D) : FX 29 [x0] =
  let v0 : D := (D.int (IntKind.i64.wrap (Int.tdiv (x0).toInt (10 : Int))))
  let v1 : D := (D.int (Int.tmod (x0).toInt (10 : Int)))
  if (decide ((x0).toInt < (0 : Int))) = true then
  if ((v0).toInt == (0 : Int)) = true then
    bindC (FX 47 [(D.int (IntKind.i64.wrap ((0 : Int) - (x0).toInt)))]) 1 fun r1 =>
      if (decide ((IntKind.i64.wrap (((((ByteArray.mk #[45]))).size : Int) + ((((r1.getD 0 D.nil)).toStr).size : Int))) ≤ (4611686018427387903 : Int))) = true then
      if (decide (((((ByteArray.mk #[45]))).size : Int) ≤ (4611686018427387903 : Int))) = true then
        if (decide (((((r1.getD 0 D.nil)).toStr).size : Int) ≤ (4611686018427387903 : Int))) = true then
          some [(D.str (((ByteArray.mk #[45])) ++ ((r1.getD 0 D.nil)).toStr))]
          else none
        else none
      else none
    else
    bindC (FX 29 [v0]) 1 fun r1 =>
      bindC (FX 47 [(D.int (IntKind.i64.wrap ((0 : Int) - (v1).toInt)))]) 1 fun r2 =>
      if (decide ((IntKind.i64.wrap (((((r1.getD 0 D.nil)).toStr).size : Int) + ((((r2.getD 0 D.nil)).toStr).size : Int))) ≤ (4611686018427387903 : Int))) = true then
      if (decide (((((r1.getD 0 D.nil)).toStr).size : Int) ≤ (4611686018427387903 : Int))) = true then
        if (decide (((((r2.getD 0 D.nil)).toStr).size : Int) ≤ (4611686018427387903 : Int))) = true then
          some [(D.str (((r1.getD 0 D.nil)).toStr ++ ((r2.getD 0 D.nil)).toStr))]
          else none
        else none
      else none
  else
  if (decide ((x0).toInt < (10 : Int))) = true then
    bindC (FX 47 [x0]) 1 fun r1 =>
      some [(r1.getD 0 D.nil)]
    else
    bindC (FX 29 [v0]) 1 fun r1 =>
      bindC (FX 47 [v1]) 1 fun r2 =>
      if (decide ((IntKind.i64.wrap (((((r1.getD 0 D.nil)).toStr).size : Int) + ((((r2.getD 0 D.nil)).toStr).size : Int))) ≤ (4611686018427387903 : Int))) = true then
      if (decide (((((r1.getD 0 D.nil)).toStr).size : Int) ≤ (4611686018427387903 : Int))) = true then
        if (decide (((((r2.getD 0 D.nil)).toStr).size : Int) ≤ (4611686018427387903 : Int))) = true then
          some [(D.str (((r1.getD 0 D.nil)).toStr ++ ((r2.getD 0 D.nil)).toStr))]
          else none
        else none
      else none := (fixP_eq (t := T_ref01_Decimal) (by rfl) _).trans (by kernel_rfl)
theorem E_ref08_Name (x0 : D) : FX 30 [x0] =
  let v0 : D := (D.int (IntKind.i64.wrap ((x0).toInt - (1 : Int))))
  let v1 : D := (D.agg ((D.str ((ByteArray.mk #[102, 105, 108, 108]))) :: ((D.str ((ByteArray.mk #[102, 105, 108, 108, 101, 100]))) :: ((D.str ((ByteArray.mk #[99, 97, 110, 99, 101, 108, 108, 101, 100]))) :: ((D.str ((ByteArray.mk #[101, 120, 112, 105, 114, 101, 100]))) :: ((D.str ((ByteArray.mk #[114, 101, 116, 105, 114, 101, 100]))) :: []))))))
  if (decide ((x0).toInt < (1 : Int))) = true then
  some [(D.str ((ByteArray.mk #[110, 111, 110, 101])))]
  else
  if (decide ((x0).toInt > (5 : Int))) = true then
    some [(D.str ((ByteArray.mk #[110, 111, 110, 101])))]
    else
    if (decide ((v0).toInt ≥ (0 : Int))) = true then
      if (decide ((v0).toInt < (((v1).toL).length : Int))) = true then
        some [(((v1).toL).getD ((v0).toInt).toNat D.nil)]
        else none
      else none := (fixP_eq (t := T_ref08_Name) (by rfl) _).trans (by kernel_rfl)
theorem E_ref06_Name (x0 : D) : FX 31 [x0] =
  let v0 : D := (D.agg ((D.str ((ByteArray.mk #[102, 114, 101, 101]))) :: ((D.str ((ByteArray.mk #[108, 105, 118, 101]))) :: ((D.str ((ByteArray.mk #[108, 105, 118, 101]))) :: ((D.str ((ByteArray.mk #[108, 105, 118, 101]))) :: ((D.str ((ByteArray.mk #[108, 105, 118, 101]))) :: ((D.str ((ByteArray.mk #[102, 105, 108, 108, 101, 100]))) :: ((D.str ((ByteArray.mk #[99, 97, 110, 99, 101, 108, 108, 101, 100]))) :: ((D.str ((ByteArray.mk #[101, 120, 112, 105, 114, 101, 100]))) :: ((D.str ((ByteArray.mk #[114, 101, 116, 105, 114, 101, 100]))) :: []))))))))))
  if (decide ((x0).toInt < (0 : Int))) = true then
  some [(D.str ((ByteArray.mk #[63])))]
  else
  if (decide ((x0).toInt > (8 : Int))) = true then
    some [(D.str ((ByteArray.mk #[63])))]
    else
    if (decide ((x0).toInt ≥ (0 : Int))) = true then
      if (decide ((x0).toInt < (((v0).toL).length : Int))) = true then
        some [(((v0).toL).getD ((x0).toInt).toNat D.nil)]
        else none
      else none := (fixP_eq (t := T_ref06_Name) (by rfl) _).trans (by kernel_rfl)
noncomputable def W_ref16_Print_3 (x0 x1 x2 x3 x4 x5 x6 x7 x8 x9 x10 x11 x12 x13 x14 x15 : D) : Eng.Fn := loopF fun g xs => evalP FX B_ref16_Print_3 ([] ++ [g]) ([x0, x1, x2, x3, x4, x5, x6, x7, x8, x9, x10, x11, x12, x13, x14, x15] ++ xs)
theorem W_ref16_Print_3_eq (x0 x1 x2 x3 x4 x5 x6 x7 x8 x9 x10 x11 x12 x13 x14 x15 : D) (a0 a1 : D) : W_ref16_Print_3 x0 x1 x2 x3 x4 x5 x6 x7 x8 x9 x10 x11 x12 x13 x14 x15 [a0, a1] =
  let v28 : D := (((x12).toL).getD ((a1).toInt).toNat D.nil)
  let v29 : D := (D.str ((a0).toStr ++ ((ByteArray.mk #[32]))))
  let v30 : D := (D.int (((v29).toStr).size : Int))
  if (decide ((a1).toInt < (((x12).toL).length : Int))) = true then
  if (decide ((a1).toInt ≥ (0 : Int))) = true then
    if (decide ((a1).toInt < (((x12).toL).length : Int))) = true then
      if (decide ((IntKind.i64.wrap ((((a0).toStr).size : Int) + ((((ByteArray.mk #[32]))).size : Int))) ≤ (4611686018427387903 : Int))) = true then
        if (decide ((((a0).toStr).size : Int) ≤ (4611686018427387903 : Int))) = true then
          if (decide (((((ByteArray.mk #[32]))).size : Int) ≤ (4611686018427387903 : Int))) = true then
            bindC (FX 31 [(((v28).toL).getD 0 D.nil)]) 1 fun r18 =>
              let v31 : D := (D.str ((v29).toStr ++ ((r18.getD 0 D.nil)).toStr))
              let v32 : D := (D.int (((v31).toStr).size : Int))
              let v33 : D := (D.str ((v31).toStr ++ ((ByteArray.mk #[32]))))
              let v34 : D := (D.int (((v33).toStr).size : Int))
              if (decide ((IntKind.i64.wrap ((v30).toInt + ((((r18.getD 0 D.nil)).toStr).size : Int))) ≤ (4611686018427387903 : Int))) = true then
              if (decide ((v30).toInt ≤ (4611686018427387903 : Int))) = true then
                if (decide (((((r18.getD 0 D.nil)).toStr).size : Int) ≤ (4611686018427387903 : Int))) = true then
                  if (decide ((IntKind.i64.wrap ((v32).toInt + ((((ByteArray.mk #[32]))).size : Int))) ≤ (4611686018427387903 : Int))) = true then
                    if (decide ((v32).toInt ≤ (4611686018427387903 : Int))) = true then
                      if (decide (((((ByteArray.mk #[32]))).size : Int) ≤ (4611686018427387903 : Int))) = true then
                        bindC (FX 29 [(((v28).toL).getD 1 D.nil)]) 1 fun r19 =>
                          let v35 : D := (D.str ((v33).toStr ++ ((r19.getD 0 D.nil)).toStr))
                          let v36 : D := (D.int (((v35).toStr).size : Int))
                          let v37 : D := (D.str ((v35).toStr ++ ((ByteArray.mk #[32]))))
                          let v38 : D := (D.int (((v37).toStr).size : Int))
                          if (decide ((IntKind.i64.wrap ((v34).toInt + ((((r19.getD 0 D.nil)).toStr).size : Int))) ≤ (4611686018427387903 : Int))) = true then
                          if (decide ((v34).toInt ≤ (4611686018427387903 : Int))) = true then
                            if (decide (((((r19.getD 0 D.nil)).toStr).size : Int) ≤ (4611686018427387903 : Int))) = true then
                              if (decide ((IntKind.i64.wrap ((v36).toInt + ((((ByteArray.mk #[32]))).size : Int))) ≤ (4611686018427387903 : Int))) = true then
                                if (decide ((v36).toInt ≤ (4611686018427387903 : Int))) = true then
                                  if (decide (((((ByteArray.mk #[32]))).size : Int) ≤ (4611686018427387903 : Int))) = true then
                                    bindC (FX 29 [(((v28).toL).getD 2 D.nil)]) 1 fun r20 =>
                                      if (decide ((IntKind.i64.wrap ((v38).toInt + ((((r20.getD 0 D.nil)).toStr).size : Int))) ≤ (4611686018427387903 : Int))) = true then
                                      if (decide ((v38).toInt ≤ (4611686018427387903 : Int))) = true then
                                        if (decide (((((r20.getD 0 D.nil)).toStr).size : Int) ≤ (4611686018427387903 : Int))) = true then
                                          (W_ref16_Print_3 x0 x1 x2 x3 x4 x5 x6 x7 x8 x9 x10 x11 x12 x13 x14 x15) [(D.str ((v37).toStr ++ ((r20.getD 0 D.nil)).toStr)), (D.int (IntKind.i64.wrap ((a1).toInt + (1 : Int))))]
                                          else none
                                        else none
                                      else none
                                    else none
                                  else none
                                else none
                              else none
                            else none
                          else none
                        else none
                      else none
                    else none
                  else none
                else none
              else none
            else none
          else none
        else none
      else none
    else none
  else
  some [a0] := (loopP_eq FX B_ref16_Print_3 [] [x0, x1, x2, x3, x4, x5, x6, x7, x8, x9, x10, x11, x12, x13, x14, x15] _).trans (by kernel_rfl)
noncomputable def J_ref16_Print_2 (x0 x1 x2 x3 x4 x5 x6 x7 x8 x9 x10 x11 x12 x13 x14 : D) : Eng.Fn := fun xs => evalP FX B_ref16_Print_2 [] ([x0, x1, x2, x3, x4, x5, x6, x7, x8, x9, x10, x11, x12, x13, x14] ++ xs)
theorem J_ref16_Print_2_eq (x0 x1 x2 x3 x4 x5 x6 x7 x8 x9 x10 x11 x12 x13 x14 : D) (a0 : D) : J_ref16_Print_2 x0 x1 x2 x3 x4 x5 x6 x7 x8 x9 x10 x11 x12 x13 x14  [a0] =
  let v12 : D := (D.str ((a0).toStr ++ ((ByteArray.mk #[32, 101, 114, 114, 111, 114, 32]))))
  let v13 : D := (D.str ((a0).toStr ++ ((ByteArray.mk #[32]))))
  let v14 : D := (D.int (((v12).toStr).size : Int))
  let v15 : D := (D.int (((v13).toStr).size : Int))
  if ((x1).toInt != (0 : Int)) = true then
  if (decide ((IntKind.i64.wrap ((((a0).toStr).size : Int) + ((((ByteArray.mk #[32, 101, 114, 114, 111, 114, 32]))).size : Int))) ≤ (4611686018427387903 : Int))) = true then
    if (decide ((((a0).toStr).size : Int) ≤ (4611686018427387903 : Int))) = true then
      if (decide (((((ByteArray.mk #[32, 101, 114, 114, 111, 114, 32]))).size : Int) ≤ (4611686018427387903 : Int))) = true then
        bindC (FX 29 [x1]) 1 fun r16 =>
          if (decide ((IntKind.i64.wrap ((v14).toInt + ((((r16.getD 0 D.nil)).toStr).size : Int))) ≤ (4611686018427387903 : Int))) = true then
          if (decide ((v14).toInt ≤ (4611686018427387903 : Int))) = true then
            if (decide (((((r16.getD 0 D.nil)).toStr).size : Int) ≤ (4611686018427387903 : Int))) = true then
              some [(D.str ((v12).toStr ++ ((r16.getD 0 D.nil)).toStr))]
              else none
            else none
          else none
        else none
      else none
    else none
  else
  if (x5).toBool = true then
    if (decide ((IntKind.i64.wrap ((((a0).toStr).size : Int) + ((((ByteArray.mk #[32, 97, 115, 107, 101, 100]))).size : Int))) ≤ (4611686018427387903 : Int))) = true then
      if (decide ((((a0).toStr).size : Int) ≤ (4611686018427387903 : Int))) = true then
        if (decide (((((ByteArray.mk #[32, 97, 115, 107, 101, 100]))).size : Int) ≤ (4611686018427387903 : Int))) = true then
          some [(D.str ((a0).toStr ++ ((ByteArray.mk #[32, 97, 115, 107, 101, 100]))))]
          else none
        else none
      else none
    else
    if (decide ((x0).toInt ≤ (2 : Int))) = true then
      if (decide ((IntKind.i64.wrap ((((a0).toStr).size : Int) + ((((ByteArray.mk #[32, 111, 107]))).size : Int))) ≤ (4611686018427387903 : Int))) = true then
        if (decide ((((a0).toStr).size : Int) ≤ (4611686018427387903 : Int))) = true then
          if (decide (((((ByteArray.mk #[32, 111, 107]))).size : Int) ≤ (4611686018427387903 : Int))) = true then
            some [(D.str ((a0).toStr ++ ((ByteArray.mk #[32, 111, 107]))))]
            else none
          else none
        else none
      else
      if ((x0).toInt == (3 : Int)) = true then
        if (decide ((IntKind.i64.wrap ((((a0).toStr).size : Int) + ((((ByteArray.mk #[32]))).size : Int))) ≤ (4611686018427387903 : Int))) = true then
          if (decide ((((a0).toStr).size : Int) ≤ (4611686018427387903 : Int))) = true then
            if (decide (((((ByteArray.mk #[32]))).size : Int) ≤ (4611686018427387903 : Int))) = true then
              bindC (FX 30 [x6]) 1 fun r16 =>
                let v16 : D := (D.str ((v13).toStr ++ ((r16.getD 0 D.nil)).toStr))
                let v17 : D := (D.int (((v16).toStr).size : Int))
                let v18 : D := (D.str ((v16).toStr ++ ((ByteArray.mk #[32]))))
                let v19 : D := (D.int (((v18).toStr).size : Int))
                if (decide ((IntKind.i64.wrap ((v15).toInt + ((((r16.getD 0 D.nil)).toStr).size : Int))) ≤ (4611686018427387903 : Int))) = true then
                if (decide ((v15).toInt ≤ (4611686018427387903 : Int))) = true then
                  if (decide (((((r16.getD 0 D.nil)).toStr).size : Int) ≤ (4611686018427387903 : Int))) = true then
                    if (decide ((x6).toInt > (0 : Int))) = true then
                      if (decide ((IntKind.i64.wrap ((v17).toInt + ((((ByteArray.mk #[32]))).size : Int))) ≤ (4611686018427387903 : Int))) = true then
                        if (decide ((v17).toInt ≤ (4611686018427387903 : Int))) = true then
                          if (decide (((((ByteArray.mk #[32]))).size : Int) ≤ (4611686018427387903 : Int))) = true then
                            bindC (FX 29 [x7]) 1 fun r17 =>
                              let v20 : D := (D.str ((v18).toStr ++ ((r17.getD 0 D.nil)).toStr))
                              let v21 : D := (D.int (((v20).toStr).size : Int))
                              let v22 : D := (D.str ((v20).toStr ++ ((ByteArray.mk #[32]))))
                              let v23 : D := (D.int (((v22).toStr).size : Int))
                              if (decide ((IntKind.i64.wrap ((v19).toInt + ((((r17.getD 0 D.nil)).toStr).size : Int))) ≤ (4611686018427387903 : Int))) = true then
                              if (decide ((v19).toInt ≤ (4611686018427387903 : Int))) = true then
                                if (decide (((((r17.getD 0 D.nil)).toStr).size : Int) ≤ (4611686018427387903 : Int))) = true then
                                  if (decide ((IntKind.i64.wrap ((v21).toInt + ((((ByteArray.mk #[32]))).size : Int))) ≤ (4611686018427387903 : Int))) = true then
                                    if (decide ((v21).toInt ≤ (4611686018427387903 : Int))) = true then
                                      if (decide (((((ByteArray.mk #[32]))).size : Int) ≤ (4611686018427387903 : Int))) = true then
                                        bindC (FX 29 [x8]) 1 fun r18 =>
                                          let v24 : D := (D.str ((v22).toStr ++ ((r18.getD 0 D.nil)).toStr))
                                          let v25 : D := (D.int (((v24).toStr).size : Int))
                                          let v26 : D := (D.str ((v24).toStr ++ ((ByteArray.mk #[32]))))
                                          let v27 : D := (D.int (((v26).toStr).size : Int))
                                          if (decide ((IntKind.i64.wrap ((v23).toInt + ((((r18.getD 0 D.nil)).toStr).size : Int))) ≤ (4611686018427387903 : Int))) = true then
                                          if (decide ((v23).toInt ≤ (4611686018427387903 : Int))) = true then
                                            if (decide (((((r18.getD 0 D.nil)).toStr).size : Int) ≤ (4611686018427387903 : Int))) = true then
                                              if (decide ((IntKind.i64.wrap ((v25).toInt + ((((ByteArray.mk #[32]))).size : Int))) ≤ (4611686018427387903 : Int))) = true then
                                                if (decide ((v25).toInt ≤ (4611686018427387903 : Int))) = true then
                                                  if (decide (((((ByteArray.mk #[32]))).size : Int) ≤ (4611686018427387903 : Int))) = true then
                                                    bindC (FX 29 [x9]) 1 fun r19 =>
                                                      if (decide ((IntKind.i64.wrap ((v27).toInt + ((((r19.getD 0 D.nil)).toStr).size : Int))) ≤ (4611686018427387903 : Int))) = true then
                                                      if (decide ((v27).toInt ≤ (4611686018427387903 : Int))) = true then
                                                        if (decide (((((r19.getD 0 D.nil)).toStr).size : Int) ≤ (4611686018427387903 : Int))) = true then
                                                          some [(D.str ((v26).toStr ++ ((r19.getD 0 D.nil)).toStr))]
                                                          else none
                                                        else none
                                                      else none
                                                    else none
                                                  else none
                                                else none
                                              else none
                                            else none
                                          else none
                                        else none
                                      else none
                                    else none
                                  else none
                                else none
                              else none
                            else none
                          else none
                        else none
                      else
                      some [v16]
                    else none
                  else none
                else none
              else none
            else none
          else none
        else
        W_ref16_Print_3 x0 x1 x2 x3 x4 x5 x6 x7 x8 x9 x10 x11 x12 x13 x14 a0 [a0, (D.int (0 : Int))] := by kernel_rfl
noncomputable def J_ref16_Print_1 (x0 x1 x2 x3 x4 x5 x6 x7 x8 x9 x10 x11 x12 x13 : D) : Eng.Fn := fun xs => evalP FX B_ref16_Print_1 [] ([x0, x1, x2, x3, x4, x5, x6, x7, x8, x9, x10, x11, x12, x13] ++ xs)
theorem J_ref16_Print_1_eq (x0 x1 x2 x3 x4 x5 x6 x7 x8 x9 x10 x11 x12 x13 : D) (a0 : D) : J_ref16_Print_1 x0 x1 x2 x3 x4 x5 x6 x7 x8 x9 x10 x11 x12 x13  [a0] =
  let v10 : D := (D.str ((a0).toStr ++ ((ByteArray.mk #[32]))))
  let v11 : D := (D.int (((v10).toStr).size : Int))
  if (decide ((x0).toInt ≤ (3 : Int))) = true then
  if (decide ((IntKind.i64.wrap ((((a0).toStr).size : Int) + ((((ByteArray.mk #[32]))).size : Int))) ≤ (4611686018427387903 : Int))) = true then
    if (decide ((((a0).toStr).size : Int) ≤ (4611686018427387903 : Int))) = true then
      if (decide (((((ByteArray.mk #[32]))).size : Int) ≤ (4611686018427387903 : Int))) = true then
        bindC (FX 29 [x4]) 1 fun r15 =>
          if (decide ((IntKind.i64.wrap ((v11).toInt + ((((r15.getD 0 D.nil)).toStr).size : Int))) ≤ (4611686018427387903 : Int))) = true then
          if (decide ((v11).toInt ≤ (4611686018427387903 : Int))) = true then
            if (decide (((((r15.getD 0 D.nil)).toStr).size : Int) ≤ (4611686018427387903 : Int))) = true then
              (J_ref16_Print_2 x0 x1 x2 x3 x4 x5 x6 x7 x8 x9 x10 x11 x12 x13 a0) [(D.str ((v10).toStr ++ ((r15.getD 0 D.nil)).toStr))]
              else none
            else none
          else none
        else none
      else none
    else none
  else
  (J_ref16_Print_2 x0 x1 x2 x3 x4 x5 x6 x7 x8 x9 x10 x11 x12 x13 a0) [a0] := by kernel_rfl
theorem E_ref16_Print (x0 x1 x2 x3 x4 x5 x6 x7 x8 x9 x10 x11 x12 : D) : FX 11 [x0, x1, x2, x3, x4, x5, x6, x7, x8, x9, x10, x11, x12] =
  let v0 : D := (D.int (IntKind.i64.wrap ((x0).toInt - (1 : Int))))
  let v1 : D := (D.agg ((D.str ((ByteArray.mk #[115, 117, 98, 109, 105, 116]))) :: ((D.str ((ByteArray.mk #[99, 97, 110, 99, 101, 108]))) :: ((D.str ((ByteArray.mk #[112, 111, 108, 108]))) :: ((D.str ((ByteArray.mk #[118, 105, 101, 119]))) :: [])))))
  let v2 : D := (((v1).toL).getD ((v0).toInt).toNat D.nil)
  let v3 : D := (D.int (((v2).toStr).size : Int))
  bindC (FX 29 [x2]) 1 fun r13 =>
  let v4 : D := (D.str (((r13.getD 0 D.nil)).toStr ++ ((ByteArray.mk #[32]))))
  let v5 : D := (D.int (((v4).toStr).size : Int))
  let v6 : D := (D.str ((v4).toStr ++ (v2).toStr))
  let v7 : D := (D.int (((v6).toStr).size : Int))
  let v8 : D := (D.str ((v6).toStr ++ ((ByteArray.mk #[32]))))
  let v9 : D := (D.int (((v8).toStr).size : Int))
  if (decide ((IntKind.i64.wrap (((((r13.getD 0 D.nil)).toStr).size : Int) + ((((ByteArray.mk #[32]))).size : Int))) ≤ (4611686018427387903 : Int))) = true then
  if (decide (((((r13.getD 0 D.nil)).toStr).size : Int) ≤ (4611686018427387903 : Int))) = true then
    if (decide (((((ByteArray.mk #[32]))).size : Int) ≤ (4611686018427387903 : Int))) = true then
      if (decide ((v0).toInt ≥ (0 : Int))) = true then
        if (decide ((v0).toInt < (((v1).toL).length : Int))) = true then
          if (decide ((IntKind.i64.wrap ((v5).toInt + (v3).toInt)) ≤ (4611686018427387903 : Int))) = true then
            if (decide ((v5).toInt ≤ (4611686018427387903 : Int))) = true then
              if (decide ((v3).toInt ≤ (4611686018427387903 : Int))) = true then
                if (decide ((x0).toInt ≤ (2 : Int))) = true then
                  if (decide ((IntKind.i64.wrap ((v7).toInt + ((((ByteArray.mk #[32]))).size : Int))) ≤ (4611686018427387903 : Int))) = true then
                    if (decide ((v7).toInt ≤ (4611686018427387903 : Int))) = true then
                      if (decide (((((ByteArray.mk #[32]))).size : Int) ≤ (4611686018427387903 : Int))) = true then
                        bindC (FX 29 [x3]) 1 fun r14 =>
                          if (decide ((IntKind.i64.wrap ((v9).toInt + ((((r14.getD 0 D.nil)).toStr).size : Int))) ≤ (4611686018427387903 : Int))) = true then
                          if (decide ((v9).toInt ≤ (4611686018427387903 : Int))) = true then
                            if (decide (((((r14.getD 0 D.nil)).toStr).size : Int) ≤ (4611686018427387903 : Int))) = true then
                              (J_ref16_Print_1 x0 x1 x2 x3 x4 x5 x6 x7 x8 x9 x10 x11 x12 (r13.getD 0 D.nil)) [(D.str ((v8).toStr ++ ((r14.getD 0 D.nil)).toStr))]
                              else none
                            else none
                          else none
                        else none
                      else none
                    else none
                  else
                  (J_ref16_Print_1 x0 x1 x2 x3 x4 x5 x6 x7 x8 x9 x10 x11 x12 (r13.getD 0 D.nil)) [v6]
                else none
              else none
            else none
          else none
        else none
      else none
    else none
  else none := (fixP_eq (t := T_ref16_Print) (by rfl) _).trans (by kernel_rfl)
noncomputable def W_seat_Same_1 (x0 x1 x2 x3 x4 x5 x6 x7 x8 x9 x10 x11 x12 x13 x14 x15 x16 x17 x18 x19 x20 x21 x22 x23 x24 x25 : D) : Eng.Fn := loopF fun g xs => evalP FX B_seat_Same_1 ([] ++ [g]) ([x0, x1, x2, x3, x4, x5, x6, x7, x8, x9, x10, x11, x12, x13, x14, x15, x16, x17, x18, x19, x20, x21, x22, x23, x24, x25] ++ xs)
theorem W_seat_Same_1_eq (x0 x1 x2 x3 x4 x5 x6 x7 x8 x9 x10 x11 x12 x13 x14 x15 x16 x17 x18 x19 x20 x21 x22 x23 x24 x25 : D) (a0 : D) : W_seat_Same_1 x0 x1 x2 x3 x4 x5 x6 x7 x8 x9 x10 x11 x12 x13 x14 x15 x16 x17 x18 x19 x20 x21 x22 x23 x24 x25 [a0] =
  let v0 : D := (((x12).toL).getD ((a0).toInt).toNat D.nil)
  let v1 : D := (((x25).toL).getD ((a0).toInt).toNat D.nil)
  if (decide ((a0).toInt < (((x12).toL).length : Int))) = true then
  if (decide ((a0).toInt ≥ (0 : Int))) = true then
    if (decide ((a0).toInt < (((x12).toL).length : Int))) = true then
      if (decide ((a0).toInt ≥ (0 : Int))) = true then
        if (decide ((a0).toInt < (((x25).toL).length : Int))) = true then
          if (!((((((v0).toL).getD 0 D.nil)).toInt == ((((v1).toL).getD 0 D.nil)).toInt) && ((((((v0).toL).getD 1 D.nil)).toInt == ((((v1).toL).getD 1 D.nil)).toInt) && (((((v0).toL).getD 2 D.nil)).toInt == ((((v1).toL).getD 2 D.nil)).toInt)))) = true then
            some [(D.bool false)]
            else
            (W_seat_Same_1 x0 x1 x2 x3 x4 x5 x6 x7 x8 x9 x10 x11 x12 x13 x14 x15 x16 x17 x18 x19 x20 x21 x22 x23 x24 x25) [(D.int (IntKind.i64.wrap ((a0).toInt + (1 : Int))))]
          else none
        else none
      else none
    else none
  else
  if ((x0).toInt == (x13).toInt) = true then
    if ((x1).toInt == (x14).toInt) = true then
      if ((x2).toInt == (x15).toInt) = true then
        if ((x3).toInt == (x16).toInt) = true then
          if ((x4).toInt == (x17).toInt) = true then
            if ((x5).toBool == (x18).toBool) = true then
              some [(D.bool (((x6).toInt == (x19).toInt) && (((x7).toInt == (x20).toInt) && (((x8).toInt == (x21).toInt) && (((x9).toInt == (x22).toInt) && (((x10).toInt == (x23).toInt) && ((x11).toInt == (x24).toInt)))))))]
              else
              some [(D.bool false)]
            else
            some [(D.bool false)]
          else
          some [(D.bool false)]
        else
        some [(D.bool false)]
      else
      some [(D.bool false)]
    else
    some [(D.bool false)] := (loopP_eq FX B_seat_Same_1 [] [x0, x1, x2, x3, x4, x5, x6, x7, x8, x9, x10, x11, x12, x13, x14, x15, x16, x17, x18, x19, x20, x21, x22, x23, x24, x25] _).trans (by kernel_rfl)
theorem E_seat_Same (x0 x1 x2 x3 x4 x5 x6 x7 x8 x9 x10 x11 x12 x13 x14 x15 x16 x17 x18 x19 x20 x21 x22 x23 x24 x25 : D) : FX 13 [x0, x1, x2, x3, x4, x5, x6, x7, x8, x9, x10, x11, x12, x13, x14, x15, x16, x17, x18, x19, x20, x21, x22, x23, x24, x25] =
  if ((((x12).toL).length : Int) != (((x25).toL).length : Int)) = true then
  some [(D.bool false)]
  else
  W_seat_Same_1 x0 x1 x2 x3 x4 x5 x6 x7 x8 x9 x10 x11 x12 x13 x14 x15 x16 x17 x18 x19 x20 x21 x22 x23 x24 x25 [(D.int (0 : Int))] := (fixP_eq (t := T_seat_Same) (by rfl) _).trans (by kernel_rfl)
theorem E_law16_AnswerPrints (x0 x1 x2 x3 x4 x5 x6 x7 x8 x9 x10 x11 x12 : D) : FX 3 [x0, x1, x2, x3, x4, x5, x6, x7, x8, x9, x10, x11, x12] =
  if (decide ((((x12).toL).length : Int) > (20 : Int))) = true then
  bindC (FX 5 [(D.agg [])]) 2 fun r13 =>
    some [(r13.getD 0 D.nil)]
  else
  bindC (FX 7 [x0, x1, x2, x3, x4, x5, x6, x7, x8, x9, x10, x11, x12]) 13 fun r13 =>
    bindC (FX 6 [(r13.getD 0 D.nil), (r13.getD 1 D.nil), (r13.getD 2 D.nil), (r13.getD 3 D.nil), (r13.getD 4 D.nil), (r13.getD 5 D.nil), (r13.getD 6 D.nil), (r13.getD 7 D.nil), (r13.getD 8 D.nil), (r13.getD 9 D.nil), (r13.getD 10 D.nil), (r13.getD 11 D.nil), (r13.getD 12 D.nil)]) 1 fun r26 =>
    bindC (FX 8 [x0, x1, x2, x3, x4, x5, x6, x7, x8, x9, x10, x11, x12]) 2 fun r27 =>
    bindC (FX 9 [x0, x1, x2, x3, x4, x5, x6, x7, x8, x9, x10, x11, x12]) 1 fun r29 =>
    if (!(((r29.getD 0 D.nil)).toBool == ((r26.getD 0 D.nil)).toBool)) = true then
    some [(D.bool false)]
    else
    if (!(((r27.getD 1 D.nil)).isNil == ((r26.getD 0 D.nil)).toBool)) = true then
      some [(D.bool false)]
      else
      if (!((r26.getD 0 D.nil)).toBool) = true then
        bindC (FX 5 [(D.agg [])]) 2 fun r30 =>
          if ((r30.getD 0 D.nil)).toBool = true then
          bindC (FX 10 [(r27.getD 1 D.nil)]) 1 fun r32 =>
            if (((r32.getD 0 D.nil)).toInt == (6 : Int)) = true then
            some [(D.bool (scmpF .eql ((r27.getD 0 D.nil)).toStr ((ByteArray.mk #[]))))]
            else
            some [(D.bool false)]
          else
          some [(D.bool false)]
        else
        bindC (FX 7 [x0, x1, x2, x3, x4, x5, x6, x7, x8, x9, x10, x11, x12]) 13 fun r30 =>
          bindC (FX 11 [(r30.getD 0 D.nil), (r30.getD 1 D.nil), (r30.getD 2 D.nil), (r30.getD 3 D.nil), (r30.getD 4 D.nil), (r30.getD 5 D.nil), (r30.getD 6 D.nil), (r30.getD 7 D.nil), (r30.getD 8 D.nil), (r30.getD 9 D.nil), (r30.getD 10 D.nil), (r30.getD 11 D.nil), (r30.getD 12 D.nil)]) 1 fun r43 =>
          if (scmpF .neq ((r27.getD 0 D.nil)).toStr ((r43.getD 0 D.nil)).toStr) = true then
          some [(D.bool false)]
          else
          if (decide ((x1).toInt > (9999999 : Int))) = true then
            bindC (FX 5 [(D.agg [])]) 2 fun r44 =>
              some [(r44.getD 0 D.nil)]
            else
            bindC (FX 12 [(r27.getD 0 D.nil), (D.agg [])]) 15 fun r44 =>
              bindC (FX 5 [(r44.getD 14 D.nil)]) 2 fun r59 =>
              if ((r59.getD 0 D.nil)).toBool = true then
              if ((r44.getD 13 D.nil)).isNil = true then
                bindC (FX 13 [(r44.getD 0 D.nil), (r44.getD 1 D.nil), (r44.getD 2 D.nil), (r44.getD 3 D.nil), (r44.getD 4 D.nil), (r44.getD 5 D.nil), (r44.getD 6 D.nil), (r44.getD 7 D.nil), (r44.getD 8 D.nil), (r44.getD 9 D.nil), (r44.getD 10 D.nil), (r44.getD 11 D.nil), (r44.getD 12 D.nil), x0, x1, x2, x3, x4, x5, x6, x7, x8, x9, x10, x11, x12]) 1 fun r61 =>
                  some [(r61.getD 0 D.nil)]
                else
                some [(D.bool false)]
              else
              some [(D.bool false)] := (fixP_eq (t := T_law16_AnswerPrints) (by rfl) _).trans (by kernel_rfl)
end Go.Proofs.YtmgpbjennnadhaaGreatDoor
