/-
  The functions, as equations.
-/
import Derived.Test.YtnaojplgikaeoaaAll
namespace Go.Proofs.Ytnaojplgikaeoaa
open Go.Proofs.Ytnaojplgikaeoaa.Eng
set_option linter.unusedVariables false
set_option maxRecDepth 20000
theorem E_cell_Over (x0 x1 x2 x3 x4 : D) : FX 7 [x0, x1, x2, x3, x4] =
  if (decide ((x0).toInt ≥ (5 : Int))) = true then
  some [(D.bool (decide ((x0).toInt ≤ (8 : Int))))]
  else
  some [(D.bool false)] := (fixP_eq (t := T_cell_Over) (by rfl) _).trans (by kernel_rfl)
theorem E_cell_Loose (x0 x1 x2 x3 x4 : D) : FX 17 [x0, x1, x2, x3, x4] =
  if ((x0).toInt == (1 : Int)) = true then
  some [(D.bool true)]
  else
  some [(D.bool ((x0).toInt == (2 : Int)))] := (fixP_eq (t := T_cell_Loose) (by rfl) _).trans (by kernel_rfl)
theorem E_cell_ended (x0 x1 x2 x3 x4 x5 : D) : FX 32 [x0, x1, x2, x3, x4, x5] =
  if ((x3).toInt == (0 : Int)) = true then
  some [(D.int (5 : Int)), (D.bool false), x2, x3, x4]
  else
  if (decide ((x4).toInt ≥ (x5).toInt)) = true then
    some [(D.int (8 : Int)), (D.bool false), x2, x3, x4]
    else
    some [x0, x1, x2, x3, x4] := (fixP_eq (t := T_cell_ended) (by rfl) _).trans (by kernel_rfl)
theorem E_cell_Take (x0 x1 x2 x3 x4 x5 x6 : D) : FX 8 [x0, x1, x2, x3, x4, x5, x6] =
  bindC (FX 17 [x0, x1, x2, x3, x4]) 1 fun r7 =>
  if (!((r7.getD 0 D.nil)).toBool) = true then
  some [(D.int (0 : Int)), (D.bool false), (D.int (0 : Int)), (D.int (0 : Int)), (D.int (0 : Int)), (D.iface 51 (D.int (27 : Int)))]
  else
  if (decide ((x5).toInt < (1 : Int))) = true then
    some [(D.int (0 : Int)), (D.bool false), (D.int (0 : Int)), (D.int (0 : Int)), (D.int (0 : Int)), (D.iface 51 (D.int (23 : Int)))]
    else
    if (decide ((x5).toInt > (x3).toInt)) = true then
      some [(D.int (0 : Int)), (D.bool false), (D.int (0 : Int)), (D.int (0 : Int)), (D.int (0 : Int)), (D.iface 51 (D.int (23 : Int)))]
      else
      if (decide ((x4).toInt ≥ (x6).toInt)) = true then
        some [(D.int (0 : Int)), (D.bool false), (D.int (0 : Int)), (D.int (0 : Int)), (D.int (0 : Int)), (D.iface 51 (D.int (4 : Int)))]
        else
        bindC (FX 32 [x0, x1, x2, (D.int (IntKind.i64.wrap ((x3).toInt - (x5).toInt))), (D.int (IntKind.i64.wrap ((x4).toInt + (1 : Int)))), x6]) 5 fun r8 =>
          some [(r8.getD 0 D.nil), (r8.getD 1 D.nil), (r8.getD 2 D.nil), (r8.getD 3 D.nil), (r8.getD 4 D.nil), D.nil] := (fixP_eq (t := T_cell_Take) (by rfl) _).trans (by kernel_rfl)
theorem E_cell_Held (x0 x1 x2 x3 x4 : D) : FX 16 [x0, x1, x2, x3, x4] =
  if ((x0).toInt == (3 : Int)) = true then
  some [(D.bool true)]
  else
  some [(D.bool ((x0).toInt == (4 : Int)))] := (fixP_eq (t := T_cell_Held) (by rfl) _).trans (by kernel_rfl)
theorem E_cell_loosen (x0 x1 x2 x3 x4 : D) : FX 33 [x0, x1, x2, x3, x4] =
  if ((x0).toInt == (3 : Int)) = true then
  some [(D.int (1 : Int)), x1, x2, x3, x4]
  else
  if ((x0).toInt == (4 : Int)) = true then
    some [(D.int (2 : Int)), x1, x2, x3, x4]
    else
    some [x0, x1, x2, x3, x4] := (fixP_eq (t := T_cell_loosen) (by rfl) _).trans (by kernel_rfl)
theorem E_cell_Release (x0 x1 x2 x3 x4 x5 x6 : D) : FX 9 [x0, x1, x2, x3, x4, x5, x6] =
  bindC (FX 16 [x0, x1, x2, x3, x4]) 1 fun r7 =>
  if (!((r7.getD 0 D.nil)).toBool) = true then
  some [(D.int (0 : Int)), (D.bool false), (D.int (0 : Int)), (D.int (0 : Int)), (D.int (0 : Int)), (D.iface 51 (D.int (1 : Int)))]
  else
  if (decide ((x5).toInt < (0 : Int))) = true then
    some [(D.int (0 : Int)), (D.bool false), (D.int (0 : Int)), (D.int (0 : Int)), (D.int (0 : Int)), (D.iface 51 (D.int (23 : Int)))]
    else
    if (decide ((x5).toInt > (x3).toInt)) = true then
      some [(D.int (0 : Int)), (D.bool false), (D.int (0 : Int)), (D.int (0 : Int)), (D.int (0 : Int)), (D.iface 51 (D.int (23 : Int)))]
      else
      if (decide ((x5).toInt > (0 : Int))) = true then
        if (decide ((x4).toInt ≥ (x6).toInt)) = true then
          some [(D.int (0 : Int)), (D.bool false), (D.int (0 : Int)), (D.int (0 : Int)), (D.int (0 : Int)), (D.iface 51 (D.int (4 : Int)))]
          else
          bindC (FX 33 [x0, x1, x2, (D.int (IntKind.i64.wrap ((x3).toInt - (x5).toInt))), (D.int (IntKind.i64.wrap ((x4).toInt + (1 : Int))))]) 5 fun r8 =>
            bindC (FX 32 [(r8.getD 0 D.nil), (r8.getD 1 D.nil), (r8.getD 2 D.nil), (r8.getD 3 D.nil), (r8.getD 4 D.nil), x6]) 5 fun r13 =>
            if ((r13.getD 1 D.nil)).toBool = true then
            some [(D.int (6 : Int)), (D.bool false), (r13.getD 2 D.nil), (r13.getD 3 D.nil), (r13.getD 4 D.nil), D.nil]
            else
            some [(r13.getD 0 D.nil), (r13.getD 1 D.nil), (r13.getD 2 D.nil), (r13.getD 3 D.nil), (r13.getD 4 D.nil), D.nil]
        else
        bindC (FX 33 [x0, x1, x2, x3, x4]) 5 fun r8 =>
          bindC (FX 32 [(r8.getD 0 D.nil), (r8.getD 1 D.nil), (r8.getD 2 D.nil), (r8.getD 3 D.nil), (r8.getD 4 D.nil), x6]) 5 fun r13 =>
          if ((r13.getD 1 D.nil)).toBool = true then
          some [(D.int (6 : Int)), (D.bool false), (r13.getD 2 D.nil), (r13.getD 3 D.nil), (r13.getD 4 D.nil), D.nil]
          else
          some [(r13.getD 0 D.nil), (r13.getD 1 D.nil), (r13.getD 2 D.nil), (r13.getD 3 D.nil), (r13.getD 4 D.nil), D.nil] := (fixP_eq (t := T_cell_Release) (by rfl) _).trans (by kernel_rfl)
theorem E_cell_Cancel (x0 x1 x2 x3 x4 : D) : FX 10 [x0, x1, x2, x3, x4] =
  if ((x0).toInt == (1 : Int)) = true then
  some [(D.int (6 : Int)), x1, x2, x3, x4, D.nil]
  else
  if ((x0).toInt == (2 : Int)) = true then
    some [(D.int (6 : Int)), x1, x2, x3, x4, D.nil]
    else
    if ((x0).toInt == (3 : Int)) = true then
      some [x0, (D.bool true), x2, x3, x4, D.nil]
      else
      if ((x0).toInt == (4 : Int)) = true then
        some [x0, (D.bool true), x2, x3, x4, D.nil]
        else
        some [(D.int (0 : Int)), (D.bool false), (D.int (0 : Int)), (D.int (0 : Int)), (D.int (0 : Int)), (D.iface 51 (D.int (29 : Int)))] := (fixP_eq (t := T_cell_Cancel) (by rfl) _).trans (by kernel_rfl)
theorem E_cell_Expire (x0 x1 x2 x3 x4 : D) : FX 11 [x0, x1, x2, x3, x4] =
  bindC (FX 17 [x0, x1, x2, x3, x4]) 1 fun r5 =>
  if (!((r5.getD 0 D.nil)).toBool) = true then
  some [(D.int (0 : Int)), (D.bool false), (D.int (0 : Int)), (D.int (0 : Int)), (D.int (0 : Int)), (D.iface 51 (D.int (27 : Int)))]
  else
  some [(D.int (7 : Int)), x1, x2, x3, x4, D.nil] := (fixP_eq (t := T_cell_Expire) (by rfl) _).trans (by kernel_rfl)
theorem E_cell_Promote (x0 x1 x2 x3 x4 : D) : FX 12 [x0, x1, x2, x3, x4] =
  if ((x0).toInt != (1 : Int)) = true then
  some [(D.int (0 : Int)), (D.bool false), (D.int (0 : Int)), (D.int (0 : Int)), (D.int (0 : Int)), (D.iface 51 (D.int (29 : Int)))]
  else
  some [(D.int (2 : Int)), x1, x2, x3, x4, D.nil] := (fixP_eq (t := T_cell_Promote) (by rfl) _).trans (by kernel_rfl)
theorem E_law06_awake : FX 13 [] =
  bindC (FX 8 [(D.int (2 : Int)), (D.bool false), (D.int (1 : Int)), (D.int (5 : Int)), (D.int (0 : Int)), (D.int (5 : Int)), (D.int (3 : Int))]) 6 fun r0 =>
  bindC (FX 9 [(D.int (4 : Int)), (D.bool true), (D.int (1 : Int)), (D.int (5 : Int)), (D.int (0 : Int)), (D.int (0 : Int)), (D.int (3 : Int))]) 6 fun r6 =>
  if ((r0.getD 5 D.nil)).isNil = true then
  if ((r6.getD 5 D.nil)).isNil = true then
    if (((r0.getD 0 D.nil)).toInt == (5 : Int)) = true then
      if (((r0.getD 3 D.nil)).toInt == (0 : Int)) = true then
        if (((r6.getD 0 D.nil)).toInt == (6 : Int)) = true then
          some [(D.bool (((r6.getD 3 D.nil)).toInt == (5 : Int)))]
          else
          some [(D.bool false)]
        else
        some [(D.bool false)]
      else
      some [(D.bool false)]
    else
    some [(D.bool false)]
  else
  some [(D.bool false)] := (fixP_eq (t := T_law06_awake) (by rfl) _).trans (by kernel_rfl)
theorem E_cell_Hold (x0 x1 x2 x3 x4 : D) : FX 14 [x0, x1, x2, x3, x4] =
  if ((x0).toInt == (1 : Int)) = true then
  some [(D.int (3 : Int)), x1, x2, x3, x4]
  else
  if ((x0).toInt == (2 : Int)) = true then
    some [(D.int (4 : Int)), x1, x2, x3, x4]
    else
    some [x0, x1, x2, x3, x4] := (fixP_eq (t := T_cell_Hold) (by rfl) _).trans (by kernel_rfl)
theorem E_cell_Live (x0 x1 x2 x3 x4 : D) : FX 15 [x0, x1, x2, x3, x4] =
  if (decide ((x0).toInt ≥ (1 : Int))) = true then
  some [(D.bool (decide ((x0).toInt ≤ (4 : Int))))]
  else
  some [(D.bool false)] := (fixP_eq (t := T_cell_Live) (by rfl) _).trans (by kernel_rfl)
theorem E_cell_Begin (x0 x1 x2 x3 x4 x5 x6 : D) : FX 18 [x0, x1, x2, x3, x4, x5, x6] =
  bindC (FX 15 [x0, x1, x2, x3, x4]) 1 fun r7 =>
  if ((r7.getD 0 D.nil)).toBool = true then
  some [(D.int (0 : Int)), (D.bool false), (D.int (0 : Int)), (D.int (0 : Int)), (D.int (0 : Int)), (D.iface 51 (D.int (27 : Int)))]
  else
  if (decide ((x2).toInt ≥ (x6).toInt)) = true then
    some [(D.int (0 : Int)), (D.bool false), (D.int (0 : Int)), (D.int (0 : Int)), (D.int (0 : Int)), (D.iface 51 (D.int (28 : Int)))]
    else
    if (decide ((x5).toInt < (1 : Int))) = true then
      some [(D.int (0 : Int)), (D.bool false), (D.int (0 : Int)), (D.int (0 : Int)), (D.int (0 : Int)), (D.iface 51 (D.int (23 : Int)))]
      else
      if (decide ((x5).toInt > (9999 : Int))) = true then
        some [(D.int (0 : Int)), (D.bool false), (D.int (0 : Int)), (D.int (0 : Int)), (D.int (0 : Int)), (D.iface 51 (D.int (23 : Int)))]
        else
        some [(D.int (1 : Int)), (D.bool false), (D.int (IntKind.i64.wrap ((x2).toInt + (1 : Int)))), x5, (D.int (0 : Int)), D.nil] := (fixP_eq (t := T_cell_Begin) (by rfl) _).trans (by kernel_rfl)
noncomputable def J_law06_CellPaths_2 (x0 x1 x2 x3 x4 x5 x6 x7 x8 x9 x10 x11 x12 x13 x14 x15 : D) (g0 : Eng.Fn) : Eng.Fn := fun xs => evalP FX B_law06_CellPaths_2 [g0] ([x0, x1, x2, x3, x4, x5, x6, x7, x8, x9, x10, x11, x12, x13, x14, x15] ++ xs)
theorem J_law06_CellPaths_2_eq (x0 x1 x2 x3 x4 x5 x6 x7 x8 x9 x10 x11 x12 x13 x14 x15 : D) (g0 : Eng.Fn) (a0 a1 a2 a3 a4 a5 : D) : J_law06_CellPaths_2 x0 x1 x2 x3 x4 x5 x6 x7 x8 x9 x10 x11 x12 x13 x14 x15 g0 [a0, a1, a2, a3, a4, a5] =
  g0 [a5, (D.int (IntKind.i64.wrap ((x10).toInt + (1 : Int)))), a0, a1, a2, a3, a4] := by kernel_rfl
noncomputable def J_law06_CellPaths_4 (x0 x1 x2 x3 x4 x5 x6 x7 x8 x9 x10 x11 x12 x13 x14 x15 x16 x17 x18 x19 x20 x21 x22 : D) (g0 g1 : Eng.Fn) : Eng.Fn := fun xs => evalP FX B_law06_CellPaths_4 [g0, g1] ([x0, x1, x2, x3, x4, x5, x6, x7, x8, x9, x10, x11, x12, x13, x14, x15, x16, x17, x18, x19, x20, x21, x22] ++ xs)
theorem J_law06_CellPaths_4_eq (x0 x1 x2 x3 x4 x5 x6 x7 x8 x9 x10 x11 x12 x13 x14 x15 x16 x17 x18 x19 x20 x21 x22 : D) (g0 g1 : Eng.Fn) (a0 : D) : J_law06_CellPaths_4 x0 x1 x2 x3 x4 x5 x6 x7 x8 x9 x10 x11 x12 x13 x14 x15 x16 x17 x18 x19 x20 x21 x22 g0 g1 [a0] =
  bindC (FX 7 [x11, x12, x13, x14, x15]) 1 fun r24 =>
  if ((r24.getD 0 D.nil)).toBool = true then
  if (!(((x16).toInt == (x11).toInt) && (((x17).toBool == (x12).toBool) && (((x18).toInt == (x13).toInt) && (((x19).toInt == (x14).toInt) && ((x20).toInt == (x15).toInt)))))) = true then
    some [(D.bool false)]
    else
    if ((IntKind.i64.wrap ((x19).toInt + (a0).toInt)) != (IntKind.i64.wrap ((1 : Int) + (IntKind.i64.wrap (x0).toInt)))) = true then
      some [(D.bool false)]
      else
      if (decide ((x20).toInt > (IntKind.i64.wrap ((1 : Int) + (IntKind.i64.wrap (Int.tmod (x1).toInt (4 : Int))))))) = true then
        some [(D.bool false)]
        else
        if (decide ((x19).toInt < (0 : Int))) = true then
          some [(D.bool false)]
          else
          if ((x18).toInt != (1 : Int)) = true then
            some [(D.bool false)]
            else
            g1 [x16, x17, x18, x19, x20, a0]
  else
  if ((IntKind.i64.wrap ((x19).toInt + (a0).toInt)) != (IntKind.i64.wrap ((1 : Int) + (IntKind.i64.wrap (x0).toInt)))) = true then
    some [(D.bool false)]
    else
    if (decide ((x20).toInt > (IntKind.i64.wrap ((1 : Int) + (IntKind.i64.wrap (Int.tmod (x1).toInt (4 : Int))))))) = true then
      some [(D.bool false)]
      else
      if (decide ((x19).toInt < (0 : Int))) = true then
        some [(D.bool false)]
        else
        if ((x18).toInt != (1 : Int)) = true then
          some [(D.bool false)]
          else
          g1 [x16, x17, x18, x19, x20, a0] := by kernel_rfl
noncomputable def J_law06_CellPaths_3 (x0 x1 x2 x3 x4 x5 x6 x7 x8 x9 x10 x11 x12 x13 x14 x15 : D) (g0 g1 : Eng.Fn) : Eng.Fn := fun xs => evalP FX B_law06_CellPaths_3 [g0, g1] ([x0, x1, x2, x3, x4, x5, x6, x7, x8, x9, x10, x11, x12, x13, x14, x15] ++ xs)
theorem J_law06_CellPaths_3_eq (x0 x1 x2 x3 x4 x5 x6 x7 x8 x9 x10 x11 x12 x13 x14 x15 : D) (g0 g1 : Eng.Fn) (a0 a1 a2 a3 a4 a5 a6 : D) : J_law06_CellPaths_3 x0 x1 x2 x3 x4 x5 x6 x7 x8 x9 x10 x11 x12 x13 x14 x15 g0 g1 [a0, a1, a2, a3, a4, a5, a6] =
  if (!(a6).isNil) = true then
  g1 [x11, x12, x13, x14, x15, x9]
  else
  if (decide ((Int.tmod ((((x2).toL).getD ((x10).toInt).toNat D.nil)).toInt (8 : Int)) < (2 : Int))) = true then
    (J_law06_CellPaths_4 x0 x1 x2 x3 x4 x5 x6 x7 x8 x9 x10 x11 x12 x13 x14 x15 a0 a1 a2 a3 a4 a5 a6 g0 g1) [(D.int (IntKind.i64.wrap ((x9).toInt + (a5).toInt)))]
    else
    if ((Int.tmod ((((x2).toL).getD ((x10).toInt).toNat D.nil)).toInt (8 : Int)) == (3 : Int)) = true then
      (J_law06_CellPaths_4 x0 x1 x2 x3 x4 x5 x6 x7 x8 x9 x10 x11 x12 x13 x14 x15 a0 a1 a2 a3 a4 a5 a6 g0 g1) [(D.int (IntKind.i64.wrap ((x9).toInt + (a5).toInt)))]
      else
      if ((Int.tmod ((((x2).toL).getD ((x10).toInt).toNat D.nil)).toInt (8 : Int)) == (4 : Int)) = true then
        (J_law06_CellPaths_4 x0 x1 x2 x3 x4 x5 x6 x7 x8 x9 x10 x11 x12 x13 x14 x15 a0 a1 a2 a3 a4 a5 a6 g0 g1) [(D.int (IntKind.i64.wrap ((x9).toInt + (a5).toInt)))]
        else
        (J_law06_CellPaths_4 x0 x1 x2 x3 x4 x5 x6 x7 x8 x9 x10 x11 x12 x13 x14 x15 a0 a1 a2 a3 a4 a5 a6 g0 g1) [x9] := by kernel_rfl
noncomputable def J_law06_CellPaths_6 (x0 x1 x2 x3 x4 x5 x6 x7 x8 x9 x10 x11 x12 x13 x14 x15 x16 : D) (g0 g1 g2 : Eng.Fn) : Eng.Fn := fun xs => evalP FX B_law06_CellPaths_6 [g0, g1, g2] ([x0, x1, x2, x3, x4, x5, x6, x7, x8, x9, x10, x11, x12, x13, x14, x15, x16] ++ xs)
theorem J_law06_CellPaths_6_eq (x0 x1 x2 x3 x4 x5 x6 x7 x8 x9 x10 x11 x12 x13 x14 x15 x16 : D) (g0 g1 g2 : Eng.Fn) (a0 : D) : J_law06_CellPaths_6 x0 x1 x2 x3 x4 x5 x6 x7 x8 x9 x10 x11 x12 x13 x14 x15 x16 g0 g1 g2 [a0] =
  if (a0).toBool = true then
  bindC (FX 9 [x11, x12, x13, x14, x15, (D.int (IntKind.i64.wrap ((Int.tmod (IntKind.i64.wrap (IntKind.u16.wrap (Int.tdiv ((((x2).toL).getD ((x10).toInt).toNat D.nil)).toInt (8 : Int)))) (20 : Int)) * (IntKind.i64.wrap (Int.tmod ((((x2).toL).getD ((x10).toInt).toNat D.nil)).toInt (2 : Int)))))), (D.int (IntKind.i64.wrap ((1 : Int) + (IntKind.i64.wrap (Int.tmod (x1).toInt (4 : Int))))))]) 6 fun r18 =>
    g2 [(r18.getD 0 D.nil), (r18.getD 1 D.nil), (r18.getD 2 D.nil), (r18.getD 3 D.nil), (r18.getD 4 D.nil), (D.int (IntKind.i64.wrap ((Int.tmod (IntKind.i64.wrap (IntKind.u16.wrap (Int.tdiv ((((x2).toL).getD ((x10).toInt).toNat D.nil)).toInt (8 : Int)))) (20 : Int)) * (IntKind.i64.wrap (Int.tmod ((((x2).toL).getD ((x10).toInt).toNat D.nil)).toInt (2 : Int)))))), (r18.getD 5 D.nil)]
  else
  if ((Int.tmod ((((x2).toL).getD ((x10).toInt).toNat D.nil)).toInt (8 : Int)) == (5 : Int)) = true then
    bindC (FX 10 [x11, x12, x13, x14, x15]) 6 fun r18 =>
      g2 [(r18.getD 0 D.nil), (r18.getD 1 D.nil), (r18.getD 2 D.nil), (r18.getD 3 D.nil), (r18.getD 4 D.nil), (D.int (Int.tmod (IntKind.i64.wrap (IntKind.u16.wrap (Int.tdiv ((((x2).toL).getD ((x10).toInt).toNat D.nil)).toInt (8 : Int)))) (20 : Int))), (r18.getD 5 D.nil)]
    else
    if ((Int.tmod ((((x2).toL).getD ((x10).toInt).toNat D.nil)).toInt (8 : Int)) == (6 : Int)) = true then
      bindC (FX 11 [x11, x12, x13, x14, x15]) 6 fun r18 =>
        g2 [(r18.getD 0 D.nil), (r18.getD 1 D.nil), (r18.getD 2 D.nil), (r18.getD 3 D.nil), (r18.getD 4 D.nil), (D.int (Int.tmod (IntKind.i64.wrap (IntKind.u16.wrap (Int.tdiv ((((x2).toL).getD ((x10).toInt).toNat D.nil)).toInt (8 : Int)))) (20 : Int))), (r18.getD 5 D.nil)]
      else
      bindC (FX 12 [x11, x12, x13, x14, x15]) 6 fun r18 =>
        g2 [(r18.getD 0 D.nil), (r18.getD 1 D.nil), (r18.getD 2 D.nil), (r18.getD 3 D.nil), (r18.getD 4 D.nil), (D.int (Int.tmod (IntKind.i64.wrap (IntKind.u16.wrap (Int.tdiv ((((x2).toL).getD ((x10).toInt).toNat D.nil)).toInt (8 : Int)))) (20 : Int))), (r18.getD 5 D.nil)] := by kernel_rfl
noncomputable def J_law06_CellPaths_5 (x0 x1 x2 x3 x4 x5 x6 x7 x8 x9 x10 x11 x12 x13 x14 x15 : D) (g0 g1 g2 : Eng.Fn) : Eng.Fn := fun xs => evalP FX B_law06_CellPaths_5 [g0, g1, g2] ([x0, x1, x2, x3, x4, x5, x6, x7, x8, x9, x10, x11, x12, x13, x14, x15] ++ xs)
theorem J_law06_CellPaths_5_eq (x0 x1 x2 x3 x4 x5 x6 x7 x8 x9 x10 x11 x12 x13 x14 x15 : D) (g0 g1 g2 : Eng.Fn) (a0 : D) : J_law06_CellPaths_5 x0 x1 x2 x3 x4 x5 x6 x7 x8 x9 x10 x11 x12 x13 x14 x15 g0 g1 g2 [a0] =
  if (a0).toBool = true then
  bindC (FX 8 [x11, x12, x13, x14, x15, (D.int (Int.tmod (IntKind.i64.wrap (IntKind.u16.wrap (Int.tdiv ((((x2).toL).getD ((x10).toInt).toNat D.nil)).toInt (8 : Int)))) (20 : Int))), (D.int (IntKind.i64.wrap ((1 : Int) + (IntKind.i64.wrap (Int.tmod (x1).toInt (4 : Int))))))]) 6 fun r17 =>
    g2 [(r17.getD 0 D.nil), (r17.getD 1 D.nil), (r17.getD 2 D.nil), (r17.getD 3 D.nil), (r17.getD 4 D.nil), (D.int (Int.tmod (IntKind.i64.wrap (IntKind.u16.wrap (Int.tdiv ((((x2).toL).getD ((x10).toInt).toNat D.nil)).toInt (8 : Int)))) (20 : Int))), (r17.getD 5 D.nil)]
  else
  if ((Int.tmod ((((x2).toL).getD ((x10).toInt).toNat D.nil)).toInt (8 : Int)) == (2 : Int)) = true then
    bindC (FX 14 [x11, x12, x13, x14, x15]) 5 fun r17 =>
      g2 [(r17.getD 0 D.nil), (r17.getD 1 D.nil), (r17.getD 2 D.nil), (r17.getD 3 D.nil), (r17.getD 4 D.nil), (D.int (Int.tmod (IntKind.i64.wrap (IntKind.u16.wrap (Int.tdiv ((((x2).toL).getD ((x10).toInt).toNat D.nil)).toInt (8 : Int)))) (20 : Int))), D.nil]
    else
    if ((Int.tmod ((((x2).toL).getD ((x10).toInt).toNat D.nil)).toInt (8 : Int)) == (3 : Int)) = true then
      (J_law06_CellPaths_6 x0 x1 x2 x3 x4 x5 x6 x7 x8 x9 x10 x11 x12 x13 x14 x15 a0 g0 g1 g2) [(D.bool ((Int.tmod ((((x2).toL).getD ((x10).toInt).toNat D.nil)).toInt (8 : Int)) == (3 : Int)))]
      else
      (J_law06_CellPaths_6 x0 x1 x2 x3 x4 x5 x6 x7 x8 x9 x10 x11 x12 x13 x14 x15 a0 g0 g1 g2) [(D.bool ((Int.tmod ((((x2).toL).getD ((x10).toInt).toNat D.nil)).toInt (8 : Int)) == (4 : Int)))] := by kernel_rfl
noncomputable def W_law06_CellPaths_1 (x0 x1 x2 x3 x4 x5 x6 x7 x8 : D) : Eng.Fn := loopF fun g xs => evalP FX B_law06_CellPaths_1 ([] ++ [g]) ([x0, x1, x2, x3, x4, x5, x6, x7, x8] ++ xs)
theorem W_law06_CellPaths_1_eq (x0 x1 x2 x3 x4 x5 x6 x7 x8 : D) (a0 a1 a2 a3 a4 a5 a6 : D) : W_law06_CellPaths_1 x0 x1 x2 x3 x4 x5 x6 x7 x8 [a0, a1, a2, a3, a4, a5, a6] =
  if (decide ((a1).toInt < (((x2).toL).length : Int))) = true then
  if (decide ((a1).toInt ≥ (0 : Int))) = true then
    if (decide ((a1).toInt < (((x2).toL).length : Int))) = true then
      if ((Int.tmod ((((x2).toL).getD ((a1).toInt).toNat D.nil)).toInt (8 : Int)) == (0 : Int)) = true then
        (J_law06_CellPaths_5 x0 x1 x2 x3 x4 x5 x6 x7 x8 a0 a1 a2 a3 a4 a5 a6 (W_law06_CellPaths_1 x0 x1 x2 x3 x4 x5 x6 x7 x8) (J_law06_CellPaths_2 x0 x1 x2 x3 x4 x5 x6 x7 x8 a0 a1 a2 a3 a4 a5 a6 (W_law06_CellPaths_1 x0 x1 x2 x3 x4 x5 x6 x7 x8)) (J_law06_CellPaths_3 x0 x1 x2 x3 x4 x5 x6 x7 x8 a0 a1 a2 a3 a4 a5 a6 (W_law06_CellPaths_1 x0 x1 x2 x3 x4 x5 x6 x7 x8) (J_law06_CellPaths_2 x0 x1 x2 x3 x4 x5 x6 x7 x8 a0 a1 a2 a3 a4 a5 a6 (W_law06_CellPaths_1 x0 x1 x2 x3 x4 x5 x6 x7 x8)))) [(D.bool ((Int.tmod ((((x2).toL).getD ((a1).toInt).toNat D.nil)).toInt (8 : Int)) == (0 : Int)))]
        else
        (J_law06_CellPaths_5 x0 x1 x2 x3 x4 x5 x6 x7 x8 a0 a1 a2 a3 a4 a5 a6 (W_law06_CellPaths_1 x0 x1 x2 x3 x4 x5 x6 x7 x8) (J_law06_CellPaths_2 x0 x1 x2 x3 x4 x5 x6 x7 x8 a0 a1 a2 a3 a4 a5 a6 (W_law06_CellPaths_1 x0 x1 x2 x3 x4 x5 x6 x7 x8)) (J_law06_CellPaths_3 x0 x1 x2 x3 x4 x5 x6 x7 x8 a0 a1 a2 a3 a4 a5 a6 (W_law06_CellPaths_1 x0 x1 x2 x3 x4 x5 x6 x7 x8) (J_law06_CellPaths_2 x0 x1 x2 x3 x4 x5 x6 x7 x8 a0 a1 a2 a3 a4 a5 a6 (W_law06_CellPaths_1 x0 x1 x2 x3 x4 x5 x6 x7 x8)))) [(D.bool ((Int.tmod ((((x2).toL).getD ((a1).toInt).toNat D.nil)).toInt (8 : Int)) == (1 : Int)))]
      else none
    else none
  else
  bindC (FX 13 []) 1 fun r16 =>
    some [(r16.getD 0 D.nil)] := (loopP_eq FX B_law06_CellPaths_1 [] [x0, x1, x2, x3, x4, x5, x6, x7, x8] _).trans (by kernel_rfl)
theorem E_law06_CellPaths (x0 x1 x2 : D) : FX 4 [x0, x1, x2] =
  bindC (FX 18 [(D.int (0 : Int)), (D.bool false), (D.int (0 : Int)), (D.int (0 : Int)), (D.int (0 : Int)), (D.int (IntKind.i64.wrap ((1 : Int) + (IntKind.i64.wrap (x0).toInt)))), (D.int (9 : Int))]) 6 fun r3 =>
  if (!((r3.getD 5 D.nil)).isNil) = true then
  some [(D.bool false)]
  else
  if (decide ((((x2).toL).length : Int) > (100 : Int))) = true then
    bindC (FX 13 []) 1 fun r9 =>
      some [(r9.getD 0 D.nil)]
    else
    W_law06_CellPaths_1 x0 x1 x2 (r3.getD 0 D.nil) (r3.getD 1 D.nil) (r3.getD 2 D.nil) (r3.getD 3 D.nil) (r3.getD 4 D.nil) (r3.getD 5 D.nil) [(D.int (0 : Int)), (D.int (0 : Int)), (r3.getD 0 D.nil), (r3.getD 1 D.nil), (r3.getD 2 D.nil), (r3.getD 3 D.nil), (r3.getD 4 D.nil)] := (fixP_eq (t := T_law06_CellPaths) (by rfl) _).trans (by kernel_rfl)
noncomputable def W_law01_Num_1 (x0 : D) : Eng.Fn := loopF fun g xs => evalP FX B_law01_Num_1 ([] ++ [g]) ([x0] ++ xs)
theorem W_law01_Num_1_eq (x0 : D) (a0 : D) : W_law01_Num_1 x0 [a0] =
  if (decide ((a0).toInt < (30 : Int))) = true then
  bindC (FX 35 [x0, (D.iface 51 a0)]) 1 fun r2 =>
    if ((r2.getD 0 D.nil)).toBool = true then
    some [a0]
    else
    (W_law01_Num_1 x0) [(D.int (IntKind.i64.wrap ((a0).toInt + (1 : Int))))]
  else
  some [(D.int (-1 : Int))] := (loopP_eq FX B_law01_Num_1 [] [x0] _).trans (by kernel_rfl)
theorem E_law01_Num (x0 : D) : FX 20 [x0] =
  if (x0).isNil = true then
  some [(D.int (0 : Int))]
  else
  W_law01_Num_1 x0 [(D.int (1 : Int))] := (fixP_eq (t := T_law01_Num) (by rfl) _).trans (by kernel_rfl)
theorem E_ref06_Loose (x0 : D) : FX 24 [x0] =
  if ((x0).toInt == (1 : Int)) = true then
  some [(D.bool true)]
  else
  some [(D.bool ((x0).toInt == (2 : Int)))] := (fixP_eq (t := T_ref06_Loose) (by rfl) _).trans (by kernel_rfl)
theorem E_fault_At (x0 x1 : D) : FX 36 [x0, x1] =
  if (x1).isNil = true then
  some [D.nil]
  else
  some [(D.iface 70 (D.agg (x0 :: (x1 :: []))))] := (fixP_eq (t := T_fault_At) (by rfl) _).trans (by kernel_rfl)
noncomputable def W_field_New_1 (x0 : D) : Eng.Fn := loopF fun g xs => evalP FX B_field_New_1 ([] ++ [g]) ([x0] ++ xs)
theorem W_field_New_1_eq (x0 : D) (a0 a1 : D) : W_field_New_1 x0 [a0, a1] =
  if (decide ((a1).toInt < (((x0).toL).length : Int))) = true then
  if (decide ((a1).toInt ≥ (0 : Int))) = true then
    if (decide ((a1).toInt < (((x0).toL).length : Int))) = true then
      if (decide (((((x0).toL).getD ((a1).toInt).toNat D.nil)).toInt < (1 : Int))) = true then
        bindC (FX 36 [a1, (D.iface 51 (D.int (5 : Int)))]) 1 fun r3 =>
          some [(D.agg []), (r3.getD 0 D.nil)]
        else
        if (decide (((((x0).toL).getD ((a1).toInt).toNat D.nil)).toInt > (32 : Int))) = true then
          bindC (FX 36 [a1, (D.iface 51 (D.int (5 : Int)))]) 1 fun r3 =>
            some [(D.agg []), (r3.getD 0 D.nil)]
          else
          if (decide ((IntKind.i64.wrap ((a0).toInt + ((((x0).toL).getD ((a1).toInt).toNat D.nil)).toInt)) > (64 : Int))) = true then
            bindC (FX 36 [a1, (D.iface 51 (D.int (4 : Int)))]) 1 fun r3 =>
              some [(D.agg []), (r3.getD 0 D.nil)]
            else
            (W_field_New_1 x0) [(D.int (IntKind.i64.wrap ((a0).toInt + ((((x0).toL).getD ((a1).toInt).toNat D.nil)).toInt))), (D.int (IntKind.i64.wrap ((a1).toInt + (1 : Int))))]
      else none
    else none
  else
  if (decide ((((x0).toL).length : Int) ≤ (17592186044416 : Int))) = true then
    some [x0, D.nil]
    else none := (loopP_eq FX B_field_New_1 [] [x0] _).trans (by kernel_rfl)
theorem E_field_New (x0 : D) : FX 44 [x0] =
  W_field_New_1 x0 [(D.int (0 : Int)), (D.int (0 : Int))] := (fixP_eq (t := T_field_New) (by rfl) _).trans (by kernel_rfl)
theorem E_cell_layout : FX 37 [] =
  bindC (FX 44 [(D.agg ((D.int (4 : Int)) :: ((D.int (1 : Int)) :: ((D.int (8 : Int)) :: ((D.int (16 : Int)) :: ((D.int (8 : Int)) :: []))))))]) 2 fun r0 =>
  some [(r0.getD 0 D.nil)] := (fixP_eq (t := T_cell_layout) (by rfl) _).trans (by kernel_rfl)
theorem E_field_Layout_Most (x0 x1 : D) : FX 45 [x0, x1] =
  if (decide ((x1).toInt < (0 : Int))) = true then
  some [(D.int (0 : Int))]
  else
  if (decide ((x1).toInt ≥ (((x0).toL).length : Int))) = true then
    some [(D.int (0 : Int))]
    else
    if (decide ((x1).toInt ≥ (0 : Int))) = true then
      if (decide ((x1).toInt < (((x0).toL).length : Int))) = true then
        if (decide (((((x0).toL).getD ((x1).toInt).toNat D.nil)).toInt ≥ (0 : Int))) = true then
          some [(D.int (IntKind.u64.wrap ((arF .shl .u64 (1 : Int) ((((x0).toL).getD ((x1).toInt).toNat D.nil)).toInt) - (1 : Int))))]
          else none
        else none
      else none := (fixP_eq (t := T_field_Layout_Most) (by rfl) _).trans (by kernel_rfl)
noncomputable def W_field_Layout_low_1 (x0 x1 : D) : Eng.Fn := loopF fun g xs => evalP FX B_field_Layout_low_1 ([] ++ [g]) ([x0, x1] ++ xs)
theorem W_field_Layout_low_1_eq (x0 x1 : D) (a0 a1 : D) : W_field_Layout_low_1 x0 x1 [a0, a1] =
  if (decide ((a1).toInt < ((((((x0).toL).drop ((0 : Int)).toNat).take (((x1).toInt).toNat - ((0 : Int)).toNat))).length : Int))) = true then
  if (decide ((a1).toInt ≥ (0 : Int))) = true then
    if (decide ((a1).toInt < ((((((x0).toL).drop ((0 : Int)).toNat).take (((x1).toInt).toNat - ((0 : Int)).toNat))).length : Int))) = true then
      (W_field_Layout_low_1 x0 x1) [(D.int (IntKind.i64.wrap ((a0).toInt + (((((((x0).toL).drop ((0 : Int)).toNat).take (((x1).toInt).toNat - ((0 : Int)).toNat))).getD ((a1).toInt).toNat D.nil)).toInt))), (D.int (IntKind.i64.wrap ((a1).toInt + (1 : Int))))]
      else none
    else none
  else
  some [a0] := (loopP_eq FX B_field_Layout_low_1 [] [x0, x1] _).trans (by kernel_rfl)
theorem E_field_Layout_low (x0 x1 : D) : FX 46 [x0, x1] =
  if (decide ((0 : Int) ≤ (0 : Int))) = true then
  if (decide ((0 : Int) ≤ (x1).toInt)) = true then
    if (decide ((x1).toInt ≤ (((x0).toL).length : Int))) = true then
      W_field_Layout_low_1 x0 x1 [(D.int (0 : Int)), (D.int (0 : Int))]
      else none
    else none
  else none := (fixP_eq (t := T_field_Layout_low) (by rfl) _).trans (by kernel_rfl)
noncomputable def W_field_Layout_Pack_1 (x0 x1 : D) : Eng.Fn := loopF fun g xs => evalP FX B_field_Layout_Pack_1 ([] ++ [g]) ([x0, x1] ++ xs)
theorem W_field_Layout_Pack_1_eq (x0 x1 : D) (a0 a1 : D) : W_field_Layout_Pack_1 x0 x1 [a0, a1] =
  if (decide ((a1).toInt < (((x1).toL).length : Int))) = true then
  if (decide ((a1).toInt ≥ (0 : Int))) = true then
    if (decide ((a1).toInt < (((x1).toL).length : Int))) = true then
      if (decide (((((x1).toL).getD ((a1).toInt).toNat D.nil)).toInt < (0 : Int))) = true then
        bindC (FX 36 [a1, (D.iface 51 (D.int (5 : Int)))]) 1 fun r4 =>
          some [(D.int (0 : Int)), (r4.getD 0 D.nil)]
        else
        bindC (FX 45 [x0, a1]) 1 fun r4 =>
          if (decide ((IntKind.u64.wrap ((((x1).toL).getD ((a1).toInt).toNat D.nil)).toInt) > ((r4.getD 0 D.nil)).toInt)) = true then
          bindC (FX 36 [a1, (D.iface 51 (D.int (5 : Int)))]) 1 fun r5 =>
            some [(D.int (0 : Int)), (r5.getD 0 D.nil)]
          else
          bindC (FX 46 [x0, a1]) 1 fun r5 =>
            if (decide (((r5.getD 0 D.nil)).toInt ≥ (0 : Int))) = true then
            (W_field_Layout_Pack_1 x0 x1) [(D.int (arF .or .u64 (a0).toInt (arF .shl .u64 (IntKind.u64.wrap ((((x1).toL).getD ((a1).toInt).toNat D.nil)).toInt) ((r5.getD 0 D.nil)).toInt))), (D.int (IntKind.i64.wrap ((a1).toInt + (1 : Int))))]
            else none
      else none
    else none
  else
  some [a0, D.nil] := (loopP_eq FX B_field_Layout_Pack_1 [] [x0, x1] _).trans (by kernel_rfl)
theorem E_field_Layout_Pack (x0 x1 : D) : FX 38 [x0, x1] =
  if ((((x1).toL).length : Int) != (((x0).toL).length : Int)) = true then
  some [(D.int (0 : Int)), (D.iface 51 (D.int (1 : Int)))]
  else
  W_field_Layout_Pack_1 x0 x1 [(D.int (0 : Int)), (D.int (0 : Int))] := (fixP_eq (t := T_field_Layout_Pack) (by rfl) _).trans (by kernel_rfl)
theorem E_cell_Word (x0 x1 x2 x3 x4 : D) : FX 25 [x0, x1, x2, x3, x4] =
  if (decide ((x0).toInt > (8 : Int))) = true then
  bindC (FX 36 [(D.int (0 : Int)), (D.iface 51 (D.int (5 : Int)))]) 1 fun r5 =>
    some [(D.int (0 : Int)), (r5.getD 0 D.nil)]
  else
  if (x1).toBool = true then
    bindC (FX 37 []) 1 fun r5 =>
      bindC (FX 38 [(r5.getD 0 D.nil), (D.agg (x0 :: ((D.int (1 : Int)) :: (x2 :: (x3 :: (x4 :: []))))))]) 2 fun r6 =>
      some [(r6.getD 0 D.nil), (r6.getD 1 D.nil)]
    else
    bindC (FX 37 []) 1 fun r5 =>
      bindC (FX 38 [(r5.getD 0 D.nil), (D.agg (x0 :: ((D.int (0 : Int)) :: (x2 :: (x3 :: (x4 :: []))))))]) 2 fun r6 =>
      some [(r6.getD 0 D.nil), (r6.getD 1 D.nil)] := (fixP_eq (t := T_cell_Word) (by rfl) _).trans (by kernel_rfl)
noncomputable def W_ref02_Pack_2 (x0 x1 x2 : D) (g0 : Eng.Fn) : Eng.Fn := loopF fun g xs => evalP FX B_ref02_Pack_2 ([g0] ++ [g]) ([x0, x1, x2] ++ xs)
theorem W_ref02_Pack_2_eq (x0 x1 x2 : D) (g0 : Eng.Fn) (a0 a1 : D) : W_ref02_Pack_2 x0 x1 x2 g0 [a0, a1] =
  if (decide ((x2).toInt ≥ (0 : Int))) = true then
  if (decide ((x2).toInt < (((x0).toL).length : Int))) = true then
    if (decide ((a1).toInt < ((((x0).toL).getD ((x2).toInt).toNat D.nil)).toInt)) = true then
      (W_ref02_Pack_2 x0 x1 x2 g0) [(D.int (IntKind.i64.wrap (Int.tdiv (a0).toInt (2 : Int)))), (D.int (IntKind.i64.wrap ((a1).toInt + (1 : Int))))]
      else
      if (decide ((a0).toInt > (0 : Int))) = true then
        some [(D.int (0 : Int)), (D.int (5 : Int)), x2]
        else
        g0 [(D.int (IntKind.i64.wrap ((x2).toInt + (1 : Int))))]
    else none
  else none := (loopP_eq FX B_ref02_Pack_2 [g0] [x0, x1, x2] _).trans (by kernel_rfl)
noncomputable def W_ref02_Pack_4 (x0 x1 x2 x3 x4 : D) (g0 g1 : Eng.Fn) : Eng.Fn := loopF fun g xs => evalP FX B_ref02_Pack_4 ([g0, g1] ++ [g]) ([x0, x1, x2, x3, x4] ++ xs)
theorem W_ref02_Pack_4_eq (x0 x1 x2 x3 x4 : D) (g0 g1 : Eng.Fn) (a0 a1 : D) : W_ref02_Pack_4 x0 x1 x2 x3 x4 g0 g1 [a0, a1] =
  if (decide ((x4).toInt ≥ (0 : Int))) = true then
  if (decide ((x4).toInt < (((x0).toL).length : Int))) = true then
    if (decide ((a1).toInt < ((((x0).toL).getD ((x4).toInt).toNat D.nil)).toInt)) = true then
      (W_ref02_Pack_4 x0 x1 x2 x3 x4 g0 g1) [(D.int (IntKind.u64.wrap ((a0).toInt * (2 : Int)))), (D.int (IntKind.i64.wrap ((a1).toInt + (1 : Int))))]
      else
      if (decide ((x4).toInt ≥ (0 : Int))) = true then
        if (decide ((x4).toInt < (((x1).toL).length : Int))) = true then
          g1 [(D.int (IntKind.u64.wrap ((a0).toInt + (IntKind.u64.wrap ((((x1).toL).getD ((x4).toInt).toNat D.nil)).toInt)))), (D.int (IntKind.i64.wrap ((x4).toInt - (1 : Int))))]
          else none
        else none
    else none
  else none := (loopP_eq FX B_ref02_Pack_4 [g0, g1] [x0, x1, x2, x3, x4] _).trans (by kernel_rfl)
noncomputable def W_ref02_Pack_3 (x0 x1 x2 : D) (g0 : Eng.Fn) : Eng.Fn := loopF fun g xs => evalP FX B_ref02_Pack_3 ([g0] ++ [g]) ([x0, x1, x2] ++ xs)
theorem W_ref02_Pack_3_eq (x0 x1 x2 : D) (g0 : Eng.Fn) (a0 a1 : D) : W_ref02_Pack_3 x0 x1 x2 g0 [a0, a1] =
  if (decide ((a1).toInt ≥ (0 : Int))) = true then
  W_ref02_Pack_4 x0 x1 x2 a0 a1 g0 ((W_ref02_Pack_3 x0 x1 x2 g0)) [a0, (D.int (0 : Int))]
  else
  some [a0, (D.int (0 : Int)), (D.int (0 : Int))] := (loopP_eq FX B_ref02_Pack_3 [g0] [x0, x1, x2] _).trans (by kernel_rfl)
noncomputable def W_ref02_Pack_1 (x0 x1 : D) : Eng.Fn := loopF fun g xs => evalP FX B_ref02_Pack_1 ([] ++ [g]) ([x0, x1] ++ xs)
theorem W_ref02_Pack_1_eq (x0 x1 : D) (a0 : D) : W_ref02_Pack_1 x0 x1 [a0] =
  if (decide ((a0).toInt < (((x1).toL).length : Int))) = true then
  if (decide ((a0).toInt ≥ (0 : Int))) = true then
    if (decide ((a0).toInt < (((x1).toL).length : Int))) = true then
      if (decide (((((x1).toL).getD ((a0).toInt).toNat D.nil)).toInt < (0 : Int))) = true then
        some [(D.int (0 : Int)), (D.int (5 : Int)), a0]
        else
        W_ref02_Pack_2 x0 x1 a0 ((W_ref02_Pack_1 x0 x1)) [(((x1).toL).getD ((a0).toInt).toNat D.nil), (D.int (0 : Int))]
      else none
    else none
  else
  W_ref02_Pack_3 x0 x1 a0 ((W_ref02_Pack_1 x0 x1)) [(D.int (0 : Int)), (D.int (IntKind.i64.wrap ((((x1).toL).length : Int) - (1 : Int))))] := (loopP_eq FX B_ref02_Pack_1 [] [x0, x1] _).trans (by kernel_rfl)
theorem E_ref02_Pack (x0 x1 : D) : FX 39 [x0, x1] =
  if ((((x1).toL).length : Int) != (((x0).toL).length : Int)) = true then
  some [(D.int (0 : Int)), (D.int (1 : Int)), (D.int (0 : Int))]
  else
  W_ref02_Pack_1 x0 x1 [(D.int (0 : Int))] := (fixP_eq (t := T_ref02_Pack) (by rfl) _).trans (by kernel_rfl)
theorem E_ref06_Word (x0 x1 x2 x3 x4 : D) : FX 26 [x0, x1, x2, x3, x4] =
  if (decide ((x0).toInt > (8 : Int))) = true then
  some [(D.int (0 : Int)), (D.int (5 : Int))]
  else
  if (x1).toBool = true then
    bindC (FX 39 [(D.agg ((D.int (4 : Int)) :: ((D.int (1 : Int)) :: ((D.int (8 : Int)) :: ((D.int (16 : Int)) :: ((D.int (8 : Int)) :: [])))))), (D.agg (x0 :: ((D.int (1 : Int)) :: (x2 :: (x3 :: (x4 :: []))))))]) 3 fun r5 =>
      some [(r5.getD 0 D.nil), (r5.getD 1 D.nil)]
    else
    bindC (FX 39 [(D.agg ((D.int (4 : Int)) :: ((D.int (1 : Int)) :: ((D.int (8 : Int)) :: ((D.int (16 : Int)) :: ((D.int (8 : Int)) :: [])))))), (D.agg (x0 :: ((D.int (0 : Int)) :: (x2 :: (x3 :: (x4 :: []))))))]) 3 fun r5 =>
      some [(r5.getD 0 D.nil), (r5.getD 1 D.nil)] := (fixP_eq (t := T_ref06_Word) (by rfl) _).trans (by kernel_rfl)
theorem E_field_Layout_Get (x0 x1 x2 : D) : FX 40 [x0, x1, x2] =
  if (decide ((x2).toInt < (0 : Int))) = true then
  some [(D.int (0 : Int))]
  else
  if (decide ((x2).toInt ≥ (((x0).toL).length : Int))) = true then
    some [(D.int (0 : Int))]
    else
    bindC (FX 46 [x0, x2]) 1 fun r3 =>
      if (decide (((r3.getD 0 D.nil)).toInt ≥ (0 : Int))) = true then
      bindC (FX 45 [x0, x2]) 1 fun r4 =>
        some [(D.int (IntKind.i64.wrap (arF .and .u64 (arF .shr .u64 (x1).toInt ((r3.getD 0 D.nil)).toInt) ((r4.getD 0 D.nil)).toInt)))]
      else none := (fixP_eq (t := T_field_Layout_Get) (by rfl) _).trans (by kernel_rfl)
theorem E_cell_State (x0 : D) : FX 27 [x0] =
  bindC (FX 37 []) 1 fun r1 =>
  bindC (FX 40 [(r1.getD 0 D.nil), x0, (D.int (0 : Int))]) 1 fun r2 =>
  bindC (FX 40 [(r1.getD 0 D.nil), x0, (D.int (1 : Int))]) 1 fun r3 =>
  bindC (FX 40 [(r1.getD 0 D.nil), x0, (D.int (2 : Int))]) 1 fun r4 =>
  bindC (FX 40 [(r1.getD 0 D.nil), x0, (D.int (3 : Int))]) 1 fun r5 =>
  bindC (FX 40 [(r1.getD 0 D.nil), x0, (D.int (4 : Int))]) 1 fun r6 =>
  some [(r2.getD 0 D.nil), (D.bool (((r3.getD 0 D.nil)).toInt == (1 : Int))), (r4.getD 0 D.nil), (r5.getD 0 D.nil), (r6.getD 0 D.nil)] := (fixP_eq (t := T_cell_State) (by rfl) _).trans (by kernel_rfl)
noncomputable def W_ref02_bit_1 (x0 x1 : D) : Eng.Fn := loopF fun g xs => evalP FX B_ref02_bit_1 ([] ++ [g]) ([x0, x1] ++ xs)
theorem W_ref02_bit_1_eq (x0 x1 : D) (a0 a1 : D) : W_ref02_bit_1 x0 x1 [a0, a1] =
  if (decide ((a1).toInt < (x1).toInt)) = true then
  (W_ref02_bit_1 x0 x1) [(D.int (IntKind.u64.wrap (Int.tdiv (a0).toInt (2 : Int)))), (D.int (IntKind.i64.wrap ((a1).toInt + (1 : Int))))]
  else
  some [(D.int (IntKind.i64.wrap (Int.tmod (a0).toInt (2 : Int))))] := (loopP_eq FX B_ref02_bit_1 [] [x0, x1] _).trans (by kernel_rfl)
theorem E_ref02_bit (x0 x1 : D) : FX 47 [x0, x1] =
  W_ref02_bit_1 x0 x1 [x0, (D.int (0 : Int))] := (fixP_eq (t := T_ref02_bit) (by rfl) _).trans (by kernel_rfl)
noncomputable def W_ref02_Get_2 (x0 x1 x2 x3 x4 : D) (g0 : Eng.Fn) : Eng.Fn := loopF fun g xs => evalP FX B_ref02_Get_2 ([g0] ++ [g]) ([x0, x1, x2, x3, x4] ++ xs)
theorem W_ref02_Get_2_eq (x0 x1 x2 x3 x4 : D) (g0 : Eng.Fn) (a0 a1 : D) : W_ref02_Get_2 x0 x1 x2 x3 x4 g0 [a0, a1] =
  if (decide ((a1).toInt ≥ (0 : Int))) = true then
  bindC (FX 47 [x1, (D.int (IntKind.i64.wrap ((x3).toInt + (a1).toInt)))]) 1 fun r7 =>
    (W_ref02_Get_2 x0 x1 x2 x3 x4 g0) [(D.int (IntKind.i64.wrap ((IntKind.i64.wrap ((a0).toInt * (2 : Int))) + ((r7.getD 0 D.nil)).toInt))), (D.int (IntKind.i64.wrap ((a1).toInt - (1 : Int))))]
  else
  some [a0] := (loopP_eq FX B_ref02_Get_2 [g0] [x0, x1, x2, x3, x4] _).trans (by kernel_rfl)
noncomputable def W_ref02_Get_1 (x0 x1 x2 : D) : Eng.Fn := loopF fun g xs => evalP FX B_ref02_Get_1 ([] ++ [g]) ([x0, x1, x2] ++ xs)
theorem W_ref02_Get_1_eq (x0 x1 x2 : D) (a0 a1 : D) : W_ref02_Get_1 x0 x1 x2 [a0, a1] =
  if (decide ((a1).toInt < (x2).toInt)) = true then
  if (decide ((a1).toInt ≥ (0 : Int))) = true then
    if (decide ((a1).toInt < (((x0).toL).length : Int))) = true then
      (W_ref02_Get_1 x0 x1 x2) [(D.int (IntKind.i64.wrap ((a0).toInt + ((((x0).toL).getD ((a1).toInt).toNat D.nil)).toInt))), (D.int (IntKind.i64.wrap ((a1).toInt + (1 : Int))))]
      else none
    else none
  else
  if (decide ((x2).toInt ≥ (0 : Int))) = true then
    if (decide ((x2).toInt < (((x0).toL).length : Int))) = true then
      W_ref02_Get_2 x0 x1 x2 a0 a1 ((W_ref02_Get_1 x0 x1 x2)) [(D.int (0 : Int)), (D.int (IntKind.i64.wrap (((((x0).toL).getD ((x2).toInt).toNat D.nil)).toInt - (1 : Int))))]
      else none
    else none := (loopP_eq FX B_ref02_Get_1 [] [x0, x1, x2] _).trans (by kernel_rfl)
theorem E_ref02_Get (x0 x1 x2 : D) : FX 41 [x0, x1, x2] =
  if (decide ((x2).toInt < (0 : Int))) = true then
  some [(D.int (0 : Int))]
  else
  if (decide ((x2).toInt ≥ (((x0).toL).length : Int))) = true then
    some [(D.int (0 : Int))]
    else
    W_ref02_Get_1 x0 x1 x2 [(D.int (0 : Int)), (D.int (0 : Int))] := (fixP_eq (t := T_ref02_Get) (by rfl) _).trans (by kernel_rfl)
theorem E_ref06_State (x0 : D) : FX 28 [x0] =
  bindC (FX 41 [(D.agg ((D.int (4 : Int)) :: ((D.int (1 : Int)) :: ((D.int (8 : Int)) :: ((D.int (16 : Int)) :: ((D.int (8 : Int)) :: [])))))), x0, (D.int (0 : Int))]) 1 fun r1 =>
  bindC (FX 41 [(D.agg ((D.int (4 : Int)) :: ((D.int (1 : Int)) :: ((D.int (8 : Int)) :: ((D.int (16 : Int)) :: ((D.int (8 : Int)) :: [])))))), x0, (D.int (1 : Int))]) 1 fun r2 =>
  bindC (FX 41 [(D.agg ((D.int (4 : Int)) :: ((D.int (1 : Int)) :: ((D.int (8 : Int)) :: ((D.int (16 : Int)) :: ((D.int (8 : Int)) :: [])))))), x0, (D.int (2 : Int))]) 1 fun r3 =>
  bindC (FX 41 [(D.agg ((D.int (4 : Int)) :: ((D.int (1 : Int)) :: ((D.int (8 : Int)) :: ((D.int (16 : Int)) :: ((D.int (8 : Int)) :: [])))))), x0, (D.int (3 : Int))]) 1 fun r4 =>
  bindC (FX 41 [(D.agg ((D.int (4 : Int)) :: ((D.int (1 : Int)) :: ((D.int (8 : Int)) :: ((D.int (16 : Int)) :: ((D.int (8 : Int)) :: [])))))), x0, (D.int (4 : Int))]) 1 fun r5 =>
  some [(r1.getD 0 D.nil), (D.bool (((r2.getD 0 D.nil)).toInt == (1 : Int))), (r3.getD 0 D.nil), (r4.getD 0 D.nil), (r5.getD 0 D.nil)] := (fixP_eq (t := T_ref06_State) (by rfl) _).trans (by kernel_rfl)
theorem E_ref06_Held (x0 : D) : FX 29 [x0] =
  if ((x0).toInt == (3 : Int)) = true then
  some [(D.bool true)]
  else
  some [(D.bool ((x0).toInt == (4 : Int)))] := (fixP_eq (t := T_ref06_Held) (by rfl) _).trans (by kernel_rfl)
noncomputable def J_cell_Kind_1 (x0 x1 x2 x3 x4 : D) : Eng.Fn := fun xs => evalP FX B_cell_Kind_1 [] ([x0, x1, x2, x3, x4] ++ xs)
theorem J_cell_Kind_1_eq (x0 x1 x2 x3 x4 : D) (a0 : D) : J_cell_Kind_1 x0 x1 x2 x3 x4  [a0] =
  if (a0).toBool = true then
  some [(D.str ((.mk #[108, 105, 118, 101])))]
  else
  if ((x0).toInt == (5 : Int)) = true then
    some [(D.str ((.mk #[102, 105, 108, 108, 101, 100])))]
    else
    if ((x0).toInt == (6 : Int)) = true then
      some [(D.str ((.mk #[99, 97, 110, 99, 101, 108, 108, 101, 100])))]
      else
      if ((x0).toInt == (7 : Int)) = true then
        some [(D.str ((.mk #[101, 120, 112, 105, 114, 101, 100])))]
        else
        if ((x0).toInt == (8 : Int)) = true then
          some [(D.str ((.mk #[114, 101, 116, 105, 114, 101, 100])))]
          else
          some [(D.str ((.mk #[63])))] := by kernel_rfl
theorem E_cell_Kind (x0 x1 x2 x3 x4 : D) : FX 30 [x0, x1, x2, x3, x4] =
  if ((x0).toInt == (0 : Int)) = true then
  some [(D.str ((.mk #[102, 114, 101, 101])))]
  else
  if ((x0).toInt == (1 : Int)) = true then
    (J_cell_Kind_1 x0 x1 x2 x3 x4) [(D.bool ((x0).toInt == (1 : Int)))]
    else
    if ((x0).toInt == (2 : Int)) = true then
      (J_cell_Kind_1 x0 x1 x2 x3 x4) [(D.bool ((x0).toInt == (2 : Int)))]
      else
      if ((x0).toInt == (3 : Int)) = true then
        (J_cell_Kind_1 x0 x1 x2 x3 x4) [(D.bool ((x0).toInt == (3 : Int)))]
        else
        (J_cell_Kind_1 x0 x1 x2 x3 x4) [(D.bool ((x0).toInt == (4 : Int)))] := (fixP_eq (t := T_cell_Kind) (by rfl) _).trans (by kernel_rfl)
theorem E_ref06_Name (x0 : D) : FX 31 [x0] =
  if (decide ((x0).toInt < (0 : Int))) = true then
  some [(D.str ((.mk #[63])))]
  else
  if (decide ((x0).toInt > (8 : Int))) = true then
    some [(D.str ((.mk #[63])))]
    else
    if (decide ((x0).toInt ≥ (0 : Int))) = true then
      if (decide ((x0).toInt < ((((D.str ((.mk #[102, 114, 101, 101]))) :: ((D.str ((.mk #[108, 105, 118, 101]))) :: ((D.str ((.mk #[108, 105, 118, 101]))) :: ((D.str ((.mk #[108, 105, 118, 101]))) :: ((D.str ((.mk #[108, 105, 118, 101]))) :: ((D.str ((.mk #[102, 105, 108, 108, 101, 100]))) :: ((D.str ((.mk #[99, 97, 110, 99, 101, 108, 108, 101, 100]))) :: ((D.str ((.mk #[101, 120, 112, 105, 114, 101, 100]))) :: ((D.str ((.mk #[114, 101, 116, 105, 114, 101, 100]))) :: [])))))))))).length : Int))) = true then
        some [((((D.str ((.mk #[102, 114, 101, 101]))) :: ((D.str ((.mk #[108, 105, 118, 101]))) :: ((D.str ((.mk #[108, 105, 118, 101]))) :: ((D.str ((.mk #[108, 105, 118, 101]))) :: ((D.str ((.mk #[108, 105, 118, 101]))) :: ((D.str ((.mk #[102, 105, 108, 108, 101, 100]))) :: ((D.str ((.mk #[99, 97, 110, 99, 101, 108, 108, 101, 100]))) :: ((D.str ((.mk #[101, 120, 112, 105, 114, 101, 100]))) :: ((D.str ((.mk #[114, 101, 116, 105, 114, 101, 100]))) :: [])))))))))).getD ((x0).toInt).toNat D.nil)]
        else none
      else none := (fixP_eq (t := T_ref06_Name) (by rfl) _).trans (by kernel_rfl)
theorem E_law06_CellWords (x0 x1 x2 x3 x4 x5 : D) : FX 6 [x0, x1, x2, x3, x4, x5] =
  bindC (FX 25 [x0, x1, x2, x3, x4]) 2 fun r6 =>
  bindC (FX 26 [x0, x1, x2, x3, x4]) 2 fun r8 =>
  if (((r6.getD 0 D.nil)).toInt != ((r8.getD 0 D.nil)).toInt) = true then
  some [(D.bool false)]
  else
  bindC (FX 20 [(r6.getD 1 D.nil)]) 1 fun r10 =>
    if (((r10.getD 0 D.nil)).toInt != ((r8.getD 1 D.nil)).toInt) = true then
    some [(D.bool false)]
    else
    if (((r8.getD 1 D.nil)).toInt == (0 : Int)) = true then
      bindC (FX 27 [(r6.getD 0 D.nil)]) 5 fun r11 =>
        if (!((((r11.getD 0 D.nil)).toInt == (x0).toInt) && ((((r11.getD 1 D.nil)).toBool == (x1).toBool) && ((((r11.getD 2 D.nil)).toInt == (x2).toInt) && ((((r11.getD 3 D.nil)).toInt == (x3).toInt) && (((r11.getD 4 D.nil)).toInt == (x4).toInt)))))) = true then
        some [(D.bool false)]
        else
        bindC (FX 27 [x5]) 5 fun r16 =>
          bindC (FX 28 [x5]) 5 fun r21 =>
          if (!((((r16.getD 0 D.nil)).toInt == ((r21.getD 0 D.nil)).toInt) && ((((r16.getD 1 D.nil)).toBool == ((r21.getD 1 D.nil)).toBool) && ((((r16.getD 2 D.nil)).toInt == ((r21.getD 2 D.nil)).toInt) && ((((r16.getD 3 D.nil)).toInt == ((r21.getD 3 D.nil)).toInt) && (((r16.getD 4 D.nil)).toInt == ((r21.getD 4 D.nil)).toInt)))))) = true then
          some [(D.bool false)]
          else
          bindC (FX 24 [x0]) 1 fun r26 =>
            bindC (FX 29 [x0]) 1 fun r27 =>
            bindC (FX 13 []) 1 fun r28 =>
            if ((r28.getD 0 D.nil)).toBool = true then
            bindC (FX 17 [x0, x1, x2, x3, x4]) 1 fun r29 =>
              if (((r29.getD 0 D.nil)).toBool == ((r26.getD 0 D.nil)).toBool) = true then
              bindC (FX 16 [x0, x1, x2, x3, x4]) 1 fun r30 =>
                if (((r30.getD 0 D.nil)).toBool == ((r27.getD 0 D.nil)).toBool) = true then
                bindC (FX 15 [x0, x1, x2, x3, x4]) 1 fun r31 =>
                  if ((r26.getD 0 D.nil)).toBool = true then
                  if (((r31.getD 0 D.nil)).toBool == true) = true then
                    bindC (FX 7 [x0, x1, x2, x3, x4]) 1 fun r32 =>
                      if (decide ((x0).toInt ≥ (5 : Int))) = true then
                      if (((r32.getD 0 D.nil)).toBool == (decide ((x0).toInt ≤ (8 : Int)))) = true then
                        bindC (FX 30 [x0, x1, x2, x3, x4]) 1 fun r33 =>
                          bindC (FX 31 [x0]) 1 fun r34 =>
                          some [(D.bool (scmpF .eql ((r33.getD 0 D.nil)).toStr ((r34.getD 0 D.nil)).toStr))]
                        else
                        some [(D.bool false)]
                      else
                      if (((r32.getD 0 D.nil)).toBool == false) = true then
                        bindC (FX 30 [x0, x1, x2, x3, x4]) 1 fun r33 =>
                          bindC (FX 31 [x0]) 1 fun r34 =>
                          some [(D.bool (scmpF .eql ((r33.getD 0 D.nil)).toStr ((r34.getD 0 D.nil)).toStr))]
                        else
                        some [(D.bool false)]
                    else
                    some [(D.bool false)]
                  else
                  if (((r31.getD 0 D.nil)).toBool == ((r27.getD 0 D.nil)).toBool) = true then
                    bindC (FX 7 [x0, x1, x2, x3, x4]) 1 fun r32 =>
                      if (decide ((x0).toInt ≥ (5 : Int))) = true then
                      if (((r32.getD 0 D.nil)).toBool == (decide ((x0).toInt ≤ (8 : Int)))) = true then
                        bindC (FX 30 [x0, x1, x2, x3, x4]) 1 fun r33 =>
                          bindC (FX 31 [x0]) 1 fun r34 =>
                          some [(D.bool (scmpF .eql ((r33.getD 0 D.nil)).toStr ((r34.getD 0 D.nil)).toStr))]
                        else
                        some [(D.bool false)]
                      else
                      if (((r32.getD 0 D.nil)).toBool == false) = true then
                        bindC (FX 30 [x0, x1, x2, x3, x4]) 1 fun r33 =>
                          bindC (FX 31 [x0]) 1 fun r34 =>
                          some [(D.bool (scmpF .eql ((r33.getD 0 D.nil)).toStr ((r34.getD 0 D.nil)).toStr))]
                        else
                        some [(D.bool false)]
                    else
                    some [(D.bool false)]
                else
                some [(D.bool false)]
              else
              some [(D.bool false)]
            else
            some [(D.bool false)]
      else
      bindC (FX 27 [x5]) 5 fun r11 =>
        bindC (FX 28 [x5]) 5 fun r16 =>
        if (!((((r11.getD 0 D.nil)).toInt == ((r16.getD 0 D.nil)).toInt) && ((((r11.getD 1 D.nil)).toBool == ((r16.getD 1 D.nil)).toBool) && ((((r11.getD 2 D.nil)).toInt == ((r16.getD 2 D.nil)).toInt) && ((((r11.getD 3 D.nil)).toInt == ((r16.getD 3 D.nil)).toInt) && (((r11.getD 4 D.nil)).toInt == ((r16.getD 4 D.nil)).toInt)))))) = true then
        some [(D.bool false)]
        else
        bindC (FX 24 [x0]) 1 fun r21 =>
          bindC (FX 29 [x0]) 1 fun r22 =>
          bindC (FX 13 []) 1 fun r23 =>
          if ((r23.getD 0 D.nil)).toBool = true then
          bindC (FX 17 [x0, x1, x2, x3, x4]) 1 fun r24 =>
            if (((r24.getD 0 D.nil)).toBool == ((r21.getD 0 D.nil)).toBool) = true then
            bindC (FX 16 [x0, x1, x2, x3, x4]) 1 fun r25 =>
              if (((r25.getD 0 D.nil)).toBool == ((r22.getD 0 D.nil)).toBool) = true then
              bindC (FX 15 [x0, x1, x2, x3, x4]) 1 fun r26 =>
                if ((r21.getD 0 D.nil)).toBool = true then
                if (((r26.getD 0 D.nil)).toBool == true) = true then
                  bindC (FX 7 [x0, x1, x2, x3, x4]) 1 fun r27 =>
                    if (decide ((x0).toInt ≥ (5 : Int))) = true then
                    if (((r27.getD 0 D.nil)).toBool == (decide ((x0).toInt ≤ (8 : Int)))) = true then
                      bindC (FX 30 [x0, x1, x2, x3, x4]) 1 fun r28 =>
                        bindC (FX 31 [x0]) 1 fun r29 =>
                        some [(D.bool (scmpF .eql ((r28.getD 0 D.nil)).toStr ((r29.getD 0 D.nil)).toStr))]
                      else
                      some [(D.bool false)]
                    else
                    if (((r27.getD 0 D.nil)).toBool == false) = true then
                      bindC (FX 30 [x0, x1, x2, x3, x4]) 1 fun r28 =>
                        bindC (FX 31 [x0]) 1 fun r29 =>
                        some [(D.bool (scmpF .eql ((r28.getD 0 D.nil)).toStr ((r29.getD 0 D.nil)).toStr))]
                      else
                      some [(D.bool false)]
                  else
                  some [(D.bool false)]
                else
                if (((r26.getD 0 D.nil)).toBool == ((r22.getD 0 D.nil)).toBool) = true then
                  bindC (FX 7 [x0, x1, x2, x3, x4]) 1 fun r27 =>
                    if (decide ((x0).toInt ≥ (5 : Int))) = true then
                    if (((r27.getD 0 D.nil)).toBool == (decide ((x0).toInt ≤ (8 : Int)))) = true then
                      bindC (FX 30 [x0, x1, x2, x3, x4]) 1 fun r28 =>
                        bindC (FX 31 [x0]) 1 fun r29 =>
                        some [(D.bool (scmpF .eql ((r28.getD 0 D.nil)).toStr ((r29.getD 0 D.nil)).toStr))]
                      else
                      some [(D.bool false)]
                    else
                    if (((r27.getD 0 D.nil)).toBool == false) = true then
                      bindC (FX 30 [x0, x1, x2, x3, x4]) 1 fun r28 =>
                        bindC (FX 31 [x0]) 1 fun r29 =>
                        some [(D.bool (scmpF .eql ((r28.getD 0 D.nil)).toStr ((r29.getD 0 D.nil)).toStr))]
                      else
                      some [(D.bool false)]
                  else
                  some [(D.bool false)]
              else
              some [(D.bool false)]
            else
            some [(D.bool false)]
          else
          some [(D.bool false)] := (fixP_eq (t := T_law06_CellWords) (by rfl) _).trans (by kernel_rfl)
end Go.Proofs.Ytnaojplgikaeoaa
