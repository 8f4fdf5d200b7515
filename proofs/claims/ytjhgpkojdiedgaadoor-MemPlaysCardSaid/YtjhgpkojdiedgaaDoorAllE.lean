/-
  The functions, as equations.
-/
import Derived.Test.YtjhgpkojdiedgaaDoorAll
namespace Go.Proofs.YtjhgpkojdiedgaaDoor
open Go.Proofs.YtjhgpkojdiedgaaDoor.Eng
set_option linter.unusedVariables false
set_option maxRecDepth 20000
theorem E_mem_New (x0 x1 : D) : FX 4 [x0, x1] =
  if (decide ((x0).toInt < (0 : Int))) = true then
  some [D.nil, (D.iface 52 (D.int (4 : Int))), x1]
  else
  if (decide ((x0).toInt > (8192 : Int))) = true then
    some [D.nil, (D.iface 52 (D.int (4 : Int))), x1]
    else
    if (decide ((x0).toInt ≥ (0 : Int))) = true then
      if (decide ((x0).toInt ≤ (17592186044416 : Int))) = true then
        some [(D.int (((x1).toL).length : Int)), D.nil, (D.agg ((x1).toL ++ ((D.agg ((D.agg (List.replicate ((x0).toInt).toNat (D.int (0 : Int)))) :: ((D.int (0 : Int)) :: ((D.int (0 : Int)) :: ((D.int (0 : Int)) :: ((D.int (0 : Int)) :: ((D.int (0 : Int)) :: ((D.bool false) :: [])))))))) :: [])))]
        else none
      else none := (fixP_eq (t := T_mem_New) (by rfl) _).trans (by kernel_rfl)
theorem E_fault_At (x0 x1 : D) : FX 24 [x0, x1] =
  if (x1).isNil = true then
  some [D.nil]
  else
  some [(D.iface 59 (D.agg (x0 :: (x1 :: []))))] := (fixP_eq (t := T_fault_At) (by rfl) _).trans (by kernel_rfl)
theorem E_p_mem_Mem_may (x0 x1 x2 : D) : FX 18 [x0, x1, x2] =
  if (x0).isNil = true then
  some [(D.iface 52 (D.int (2 : Int)))]
  else
  if (decide ((x1).toInt < (0 : Int))) = true then
    bindC (FX 24 [x1, (D.iface 52 (D.int (5 : Int)))]) 1 fun r3 =>
      some [(r3.getD 0 D.nil)]
    else
    if (!(x0).isNil) = true then
      if (decide ((x1).toInt ≥ (((((((((x2).toL).getD ((x0).toInt).toNat D.nil)).toL).getD 0 D.nil)).toL).length : Int))) = true then
        bindC (FX 24 [x1, (D.iface 52 (D.int (5 : Int)))]) 1 fun r3 =>
          some [(r3.getD 0 D.nil)]
        else
        some [D.nil]
      else none := (fixP_eq (t := T_p_mem_Mem_may) (by rfl) _).trans (by kernel_rfl)
theorem E_p_mem_Mem_step (x0 x1 x2 x3 x4 x5 x6 : D) : FX 19 [x0, x1, x2, x3, x4, x5, x6] =
  if (!(x0).isNil) = true then
  if (!(x0).isNil) = true then
    if (!(x0).isNil) = true then
      some [(D.agg (((x6).toL).set ((x0).toInt).toNat (D.agg (((List.range 7).map fun j => ((((List.range 7).map fun j => ((((List.range 7).map fun j => ((((List.range 7).map fun j => ((((List.range 7).map fun j => ((((List.range 7).map fun j => (((((x6).toL).getD ((x0).toInt).toNat D.nil)).toL).getD j D.nil).set 1 (D.int (IntKind.i64.wrap ((((((((x6).toL).getD ((x0).toInt).toNat D.nil)).toL).getD 1 D.nil)).toInt + (1 : Int)))))).getD j D.nil).set 2 x1)).getD j D.nil).set 3 x2)).getD j D.nil).set 4 x3)).getD j D.nil).set 5 x4)).getD j D.nil).set 6 x5))))]
      else none
    else none
  else none := (fixP_eq (t := T_p_mem_Mem_step) (by rfl) _).trans (by kernel_rfl)
theorem E_p_mem_Mem_Swap (x0 x1 x2 x3 x4 : D) : FX 11 [x0, x1, x2, x3, x4] =
  bindC (FX 18 [x0, x1, x4]) 1 fun r5 =>
  if (!((r5.getD 0 D.nil)).isNil) = true then
  some [(D.bool false), (r5.getD 0 D.nil), x4]
  else
  if (!(x0).isNil) = true then
    if (decide ((x1).toInt ≥ (0 : Int))) = true then
      if (decide ((x1).toInt < (((((((((x4).toL).getD ((x0).toInt).toNat D.nil)).toL).getD 0 D.nil)).toL).length : Int))) = true then
        if (!(x0).isNil) = true then
          if (decide ((x1).toInt ≥ (0 : Int))) = true then
            if (decide ((x1).toInt < (((((((((x4).toL).getD ((x0).toInt).toNat D.nil)).toL).getD 0 D.nil)).toL).length : Int))) = true then
              if (!(x0).isNil) = true then
                if (decide ((x1).toInt ≥ (0 : Int))) = true then
                  if (decide ((x1).toInt < (((((((((x4).toL).getD ((x0).toInt).toNat D.nil)).toL).getD 0 D.nil)).toL).length : Int))) = true then
                    if (((((((((((x4).toL).getD ((x0).toInt).toNat D.nil)).toL).getD 0 D.nil)).toL).getD ((x1).toInt).toNat D.nil)).toInt == (x2).toInt) = true then
                      if (!(x0).isNil) = true then
                        if (decide ((x1).toInt ≥ (0 : Int))) = true then
                          if (decide ((x1).toInt < (((((((((x4).toL).getD ((x0).toInt).toNat D.nil)).toL).getD 0 D.nil)).toL).length : Int))) = true then
                            bindC (FX 19 [x0, (D.int (3 : Int)), x1, (((((((((x4).toL).getD ((x0).toInt).toNat D.nil)).toL).getD 0 D.nil)).toL).getD ((x1).toInt).toNat D.nil), x3, (D.bool (((((((((((x4).toL).getD ((x0).toInt).toNat D.nil)).toL).getD 0 D.nil)).toL).getD ((x1).toInt).toNat D.nil)).toInt == (x2).toInt)), (D.agg (((x4).toL).set ((x0).toInt).toNat (D.agg (((List.range 7).map fun j => (((((x4).toL).getD ((x0).toInt).toNat D.nil)).toL).getD j D.nil).set 0 (D.agg (((((((((x4).toL).getD ((x0).toInt).toNat D.nil)).toL).getD 0 D.nil)).toL).set ((x1).toInt).toNat x3))))))]) 1 fun r6 =>
                              some [(D.bool (((((((((((x4).toL).getD ((x0).toInt).toNat D.nil)).toL).getD 0 D.nil)).toL).getD ((x1).toInt).toNat D.nil)).toInt == (x2).toInt)), D.nil, (r6.getD 0 D.nil)]
                            else none
                          else none
                        else none
                      else
                      bindC (FX 19 [x0, (D.int (3 : Int)), x1, (((((((((x4).toL).getD ((x0).toInt).toNat D.nil)).toL).getD 0 D.nil)).toL).getD ((x1).toInt).toNat D.nil), (((((((((x4).toL).getD ((x0).toInt).toNat D.nil)).toL).getD 0 D.nil)).toL).getD ((x1).toInt).toNat D.nil), (D.bool (((((((((((x4).toL).getD ((x0).toInt).toNat D.nil)).toL).getD 0 D.nil)).toL).getD ((x1).toInt).toNat D.nil)).toInt == (x2).toInt)), x4]) 1 fun r6 =>
                        some [(D.bool (((((((((((x4).toL).getD ((x0).toInt).toNat D.nil)).toL).getD 0 D.nil)).toL).getD ((x1).toInt).toNat D.nil)).toInt == (x2).toInt)), D.nil, (r6.getD 0 D.nil)]
                    else none
                  else none
                else none
              else none
            else none
          else none
        else none
      else none
    else none := (fixP_eq (t := T_p_mem_Mem_Swap) (by rfl) _).trans (by kernel_rfl)
theorem E_slices_Clone_uint64_uint64 (x0 : D) : FX 20 [x0] =
  if ((((x0).toL).length : Int) == (0 : Int)) = true then
  both (some [(D.agg [])]) (if (decide ((((x0).toL).length : Int) ≤ (17592186044416 : Int))) = true then
      some [x0]
      else none)
  else
  if (decide ((((x0).toL).length : Int) ≤ (17592186044416 : Int))) = true then
    some [x0]
    else none := (fixP_eq (t := T_slices_Clone_uint64_uint64) (by rfl) _).trans (by kernel_rfl)
theorem E_p_mem_Mem_Words (x0 x1 : D) : FX 16 [x0, x1] =
  if (x0).isNil = true then
  some [(D.agg [])]
  else
  if (!(x0).isNil) = true then
    bindC (FX 20 [((((((x1).toL).getD ((x0).toInt).toNat D.nil)).toL).getD 0 D.nil)]) 1 fun r2 =>
      some [(r2.getD 0 D.nil)]
    else none := (fixP_eq (t := T_p_mem_Mem_Words) (by rfl) _).trans (by kernel_rfl)
theorem E_law03_awake (x0 : D) : FX 5 [x0] =
  bindC (FX 4 [(D.int (1 : Int)), x0]) 3 fun r1 =>
  bindC (FX 11 [(r1.getD 0 D.nil), (D.int (0 : Int)), (D.int (0 : Int)), (D.int (7 : Int)), (r1.getD 2 D.nil)]) 3 fun r4 =>
  bindC (FX 11 [(r1.getD 0 D.nil), (D.int (0 : Int)), (D.int (0 : Int)), (D.int (8 : Int)), (r4.getD 2 D.nil)]) 3 fun r7 =>
  bindC (FX 16 [(r1.getD 0 D.nil), (r7.getD 2 D.nil)]) 1 fun r10 =>
  if ((r1.getD 1 D.nil)).isNil = true then
  if ((r4.getD 1 D.nil)).isNil = true then
    if ((r7.getD 1 D.nil)).isNil = true then
      if ((r4.getD 0 D.nil)).toBool = true then
        if (!((r7.getD 0 D.nil)).toBool) = true then
          if (((((r10.getD 0 D.nil)).toL).length : Int) == (1 : Int)) = true then
            if (decide ((0 : Int) < ((((r10.getD 0 D.nil)).toL).length : Int))) = true then
              some [(D.bool ((((((r10.getD 0 D.nil)).toL).getD ((0 : Int)).toNat D.nil)).toInt == (7 : Int))), (r7.getD 2 D.nil)]
              else none
            else
            some [(D.bool false), (r7.getD 2 D.nil)]
          else
          some [(D.bool false), (r7.getD 2 D.nil)]
        else
        some [(D.bool false), (r7.getD 2 D.nil)]
      else
      some [(D.bool false), (r7.getD 2 D.nil)]
    else
    some [(D.bool false), (r7.getD 2 D.nil)]
  else
  some [(D.bool false), (r7.getD 2 D.nil)] := (fixP_eq (t := T_law03_awake) (by rfl) _).trans (by kernel_rfl)
noncomputable def W_law01_Num_1 (x0 : D) : Eng.Fn := loopF fun g xs => evalP FX B_law01_Num_1 ([] ++ [g]) ([x0] ++ xs)
theorem W_law01_Num_1_eq (x0 : D) (a0 : D) : W_law01_Num_1 x0 [a0] =
  if (decide ((a0).toInt < (30 : Int))) = true then
  bindC (FX 17 [x0, (D.iface 52 a0)]) 1 fun r2 =>
    if ((r2.getD 0 D.nil)).toBool = true then
    some [a0]
    else
    (W_law01_Num_1 x0) [(D.int (IntKind.i64.wrap ((a0).toInt + (1 : Int))))]
  else
  some [(D.int (-1 : Int))] := (loopP_eq FX B_law01_Num_1 [] [x0] _).trans (by kernel_rfl)
theorem E_law01_Num (x0 : D) : FX 6 [x0] =
  if (x0).isNil = true then
  some [(D.int (0 : Int))]
  else
  W_law01_Num_1 x0 [(D.int (1 : Int))] := (fixP_eq (t := T_law01_Num) (by rfl) _).trans (by kernel_rfl)
theorem E_p_mem_Mem_Len (x0 x1 : D) : FX 7 [x0, x1] =
  if (x0).isNil = true then
  some [(D.int (0 : Int))]
  else
  if (!(x0).isNil) = true then
    some [(D.int (((((((((x1).toL).getD ((x0).toInt).toNat D.nil)).toL).getD 0 D.nil)).toL).length : Int))]
    else none := (fixP_eq (t := T_p_mem_Mem_Len) (by rfl) _).trans (by kernel_rfl)
noncomputable def W_ref03_At_1 (x0 x1 : D) : Eng.Fn := loopF fun g xs => evalP FX B_ref03_At_1 ([] ++ [g]) ([x0, x1] ++ xs)
theorem W_ref03_At_1_eq (x0 x1 : D) (a0 : D) : W_ref03_At_1 x0 x1 [a0] =
  if (decide ((a0).toInt ≥ (0 : Int))) = true then
  if (decide ((a0).toInt ≥ (0 : Int))) = true then
    if (decide ((a0).toInt < (((x0).toL).length : Int))) = true then
      if ((((((((x0).toL).getD ((a0).toInt).toNat D.nil)).toL).getD 0 D.nil)).toInt == (x1).toInt) = true then
        if (decide ((a0).toInt ≥ (0 : Int))) = true then
          if (decide ((a0).toInt < (((x0).toL).length : Int))) = true then
            some [((((((x0).toL).getD ((a0).toInt).toNat D.nil)).toL).getD 1 D.nil)]
            else none
          else none
        else
        (W_ref03_At_1 x0 x1) [(D.int (IntKind.i64.wrap ((a0).toInt - (1 : Int))))]
      else none
    else none
  else
  some [(D.int (0 : Int))] := (loopP_eq FX B_ref03_At_1 [] [x0, x1] _).trans (by kernel_rfl)
theorem E_ref03_At (x0 x1 : D) : FX 8 [x0, x1] =
  W_ref03_At_1 x0 x1 [(D.int (IntKind.i64.wrap ((((x0).toL).length : Int) - (1 : Int))))] := (fixP_eq (t := T_ref03_At) (by rfl) _).trans (by kernel_rfl)
theorem E_p_mem_Mem_Load (x0 x1 x2 : D) : FX 9 [x0, x1, x2] =
  bindC (FX 18 [x0, x1, x2]) 1 fun r3 =>
  if (!((r3.getD 0 D.nil)).isNil) = true then
  some [(D.int (0 : Int)), (r3.getD 0 D.nil), x2]
  else
  if (!(x0).isNil) = true then
    if (decide ((x1).toInt ≥ (0 : Int))) = true then
      if (decide ((x1).toInt < (((((((((x2).toL).getD ((x0).toInt).toNat D.nil)).toL).getD 0 D.nil)).toL).length : Int))) = true then
        bindC (FX 19 [x0, (D.int (1 : Int)), x1, (((((((((x2).toL).getD ((x0).toInt).toNat D.nil)).toL).getD 0 D.nil)).toL).getD ((x1).toInt).toNat D.nil), (((((((((x2).toL).getD ((x0).toInt).toNat D.nil)).toL).getD 0 D.nil)).toL).getD ((x1).toInt).toNat D.nil), (D.bool true), x2]) 1 fun r4 =>
          some [(((((((((x2).toL).getD ((x0).toInt).toNat D.nil)).toL).getD 0 D.nil)).toL).getD ((x1).toInt).toNat D.nil), D.nil, (r4.getD 0 D.nil)]
        else none
      else none
    else none := (fixP_eq (t := T_p_mem_Mem_Load) (by rfl) _).trans (by kernel_rfl)
theorem E_p_mem_Mem_Store (x0 x1 x2 x3 : D) : FX 10 [x0, x1, x2, x3] =
  bindC (FX 18 [x0, x1, x3]) 1 fun r4 =>
  if (!((r4.getD 0 D.nil)).isNil) = true then
  some [(r4.getD 0 D.nil), x3]
  else
  if (!(x0).isNil) = true then
    if (decide ((x1).toInt ≥ (0 : Int))) = true then
      if (decide ((x1).toInt < (((((((((x3).toL).getD ((x0).toInt).toNat D.nil)).toL).getD 0 D.nil)).toL).length : Int))) = true then
        bindC (FX 19 [x0, (D.int (2 : Int)), x1, (((((((((x3).toL).getD ((x0).toInt).toNat D.nil)).toL).getD 0 D.nil)).toL).getD ((x1).toInt).toNat D.nil), x2, (D.bool true), x3]) 1 fun r5 =>
          if (!(x0).isNil) = true then
          if (decide ((x1).toInt ≥ (0 : Int))) = true then
            if (decide ((x1).toInt < ((((((((((r5.getD 0 D.nil)).toL).getD ((x0).toInt).toNat D.nil)).toL).getD 0 D.nil)).toL).length : Int))) = true then
              some [D.nil, (D.agg ((((r5.getD 0 D.nil)).toL).set ((x0).toInt).toNat (D.agg (((List.range 7).map fun j => ((((((r5.getD 0 D.nil)).toL).getD ((x0).toInt).toNat D.nil)).toL).getD j D.nil).set 0 (D.agg ((((((((((r5.getD 0 D.nil)).toL).getD ((x0).toInt).toNat D.nil)).toL).getD 0 D.nil)).toL).set ((x1).toInt).toNat x2))))))]
              else none
            else none
          else none
        else none
      else none
    else none := (fixP_eq (t := T_p_mem_Mem_Store) (by rfl) _).trans (by kernel_rfl)
theorem E_p_mem_Mem_Twin (x0 x1 : D) : FX 12 [x0, x1] =
  if (x0).isNil = true then
  some [D.nil, x1]
  else
  if (!(x0).isNil) = true then
    bindC (FX 20 [((((((x1).toL).getD ((x0).toInt).toNat D.nil)).toL).getD 0 D.nil)]) 1 fun r2 =>
      if (!(x0).isNil) = true then
      if (!(x0).isNil) = true then
        some [(D.int (((x1).toL).length : Int)), (D.agg ((x1).toL ++ ((D.agg ((r2.getD 0 D.nil) :: (((((((x1).toL).getD ((x0).toInt).toNat D.nil)).toL).getD 1 D.nil) :: (((((((x1).toL).getD ((x0).toInt).toNat D.nil)).toL).getD 2 D.nil) :: (((((((x1).toL).getD ((x0).toInt).toNat D.nil)).toL).getD 3 D.nil) :: (((((((x1).toL).getD ((x0).toInt).toNat D.nil)).toL).getD 4 D.nil) :: (((((((x1).toL).getD ((x0).toInt).toNat D.nil)).toL).getD 5 D.nil) :: (((((((x1).toL).getD ((x0).toInt).toNat D.nil)).toL).getD 6 D.nil) :: [])))))))) :: [])))]
        else none
      else none
    else none := (fixP_eq (t := T_p_mem_Mem_Twin) (by rfl) _).trans (by kernel_rfl)
theorem E_fault_Place (x0 x1 : D) : FX 13 [x0, x1] =
  bindC (FX 21 [x0, (D.iface 61 (D.int (((x1).toL).length : Int))), (D.agg ((x1).toL ++ ((D.agg (D.nil :: [])) :: [])))]) 2 fun r2 =>
  if ((r2.getD 0 D.nil)).toBool = true then
  if (!((((((((r2.getD 1 D.nil)).toL).getD ((((x1).toL).length : Int)).toNat D.nil)).toL).getD 0 D.nil)).isNil) = true then
    if (!((((((((r2.getD 1 D.nil)).toL).getD ((((x1).toL).length : Int)).toNat D.nil)).toL).getD 0 D.nil)).isNil) = true then
      some [((((((((((r2.getD 1 D.nil)).toL).getD ((((x1).toL).length : Int)).toNat D.nil)).toL).getD 0 D.nil)).toL).getD 0 D.nil), (D.bool true), (r2.getD 1 D.nil)]
      else none
    else
    some [(D.int (0 : Int)), (D.bool false), (r2.getD 1 D.nil)]
  else
  some [(D.int (0 : Int)), (D.bool false), (r2.getD 1 D.nil)] := (fixP_eq (t := T_fault_Place) (by rfl) _).trans (by kernel_rfl)
theorem E_p_mem_Mem_Steps (x0 x1 : D) : FX 14 [x0, x1] =
  if (x0).isNil = true then
  some [(D.int (0 : Int))]
  else
  if (!(x0).isNil) = true then
    some [((((((x1).toL).getD ((x0).toInt).toNat D.nil)).toL).getD 1 D.nil)]
    else none := (fixP_eq (t := T_p_mem_Mem_Steps) (by rfl) _).trans (by kernel_rfl)
theorem E_p_mem_Mem_Last (x0 x1 : D) : FX 15 [x0, x1] =
  if (x0).isNil = true then
  some [(D.int (0 : Int)), (D.int (0 : Int)), (D.int (0 : Int)), (D.int (0 : Int)), (D.bool false)]
  else
  if (!(x0).isNil) = true then
    some [((((((x1).toL).getD ((x0).toInt).toNat D.nil)).toL).getD 2 D.nil), ((((((x1).toL).getD ((x0).toInt).toNat D.nil)).toL).getD 3 D.nil), ((((((x1).toL).getD ((x0).toInt).toNat D.nil)).toL).getD 4 D.nil), ((((((x1).toL).getD ((x0).toInt).toNat D.nil)).toL).getD 5 D.nil), ((((((x1).toL).getD ((x0).toInt).toNat D.nil)).toL).getD 6 D.nil)]
    else none := (fixP_eq (t := T_p_mem_Mem_Last) (by rfl) _).trans (by kernel_rfl)
noncomputable def W_law03_MemPlays_2 (x0 x1 x2 x3 x4 x5 x6 x7 x8 x9 x10 x11 : D) : Eng.Fn := loopF fun g xs => evalP FX B_law03_MemPlays_2 ([] ++ [g]) ([x0, x1, x2, x3, x4, x5, x6, x7, x8, x9, x10, x11] ++ xs)
theorem W_law03_MemPlays_2_eq (x0 x1 x2 x3 x4 x5 x6 x7 x8 x9 x10 x11 : D) (a0 : D) : W_law03_MemPlays_2 x0 x1 x2 x3 x4 x5 x6 x7 x8 x9 x10 x11 [a0] =
  if (decide ((a0).toInt < (((x10).toL).length : Int))) = true then
  if (decide ((a0).toInt ≥ (0 : Int))) = true then
    if (decide ((a0).toInt < (((x10).toL).length : Int))) = true then
      bindC (FX 8 [x6, a0]) 1 fun r13 =>
        if (((((x10).toL).getD ((a0).toInt).toNat D.nil)).toInt != ((r13.getD 0 D.nil)).toInt) = true then
        some [(D.bool false)]
        else
        (W_law03_MemPlays_2 x0 x1 x2 x3 x4 x5 x6 x7 x8 x9 x10 x11) [(D.int (IntKind.i64.wrap ((a0).toInt + (1 : Int))))]
      else none
    else none
  else
  bindC (FX 5 [x7]) 2 fun r13 =>
    some [(r13.getD 0 D.nil)] := (loopP_eq FX B_law03_MemPlays_2 [] [x0, x1, x2, x3, x4, x5, x6, x7, x8, x9, x10, x11] _).trans (by kernel_rfl)
noncomputable def J_law03_MemPlays_1 (x0 x1 x2 x3 x4 x5 : D) : Eng.Fn := fun xs => evalP FX B_law03_MemPlays_1 [] ([x0, x1, x2, x3, x4, x5] ++ xs)
theorem J_law03_MemPlays_1_eq (x0 x1 x2 x3 x4 x5 : D) (a0 a1 a2 a3 : D) : J_law03_MemPlays_1 x0 x1 x2 x3 x4 x5  [a0, a1, a2, a3] =
  bindC (FX 16 [a2, a1]) 1 fun r10 =>
  if (((((r10.getD 0 D.nil)).toL).length : Int) != (x0).toInt) = true then
  some [(D.bool false)]
  else
  bindC (FX 14 [a2, a1]) 1 fun r11 =>
    if (((r11.getD 0 D.nil)).toInt != (a3).toInt) = true then
    some [(D.bool false)]
    else
    W_law03_MemPlays_2 x0 x1 x2 x3 x4 x5 a0 a1 a2 a3 (r10.getD 0 D.nil) (r11.getD 0 D.nil) [(D.int (0 : Int))] := by kernel_rfl
noncomputable def J_law03_MemPlays_4 (x0 x1 x2 x3 x4 x5 x6 x7 x8 x9 x10 : D) (g0 g1 : Eng.Fn) : Eng.Fn := fun xs => evalP FX B_law03_MemPlays_4 [g0, g1] ([x0, x1, x2, x3, x4, x5, x6, x7, x8, x9, x10] ++ xs)
theorem J_law03_MemPlays_4_eq (x0 x1 x2 x3 x4 x5 x6 x7 x8 x9 x10 : D) (g0 g1 : Eng.Fn) (a0 a1 a2 a3 : D) : J_law03_MemPlays_4 x0 x1 x2 x3 x4 x5 x6 x7 x8 x9 x10 g0 g1 [a0, a1, a2, a3] =
  g1 [a2, a3, (D.int (IntKind.i64.wrap ((x8).toInt + (1 : Int)))), a0, a1] := by kernel_rfl
noncomputable def J_law03_MemPlays_5 (x0 x1 x2 x3 x4 x5 x6 x7 x8 x9 x10 x11 : D) (g0 g1 g2 : Eng.Fn) : Eng.Fn := fun xs => evalP FX B_law03_MemPlays_5 [g0, g1, g2] ([x0, x1, x2, x3, x4, x5, x6, x7, x8, x9, x10, x11] ++ xs)
theorem J_law03_MemPlays_5_eq (x0 x1 x2 x3 x4 x5 x6 x7 x8 x9 x10 x11 : D) (g0 g1 g2 : Eng.Fn) (a0 a1 a2 a3 a4 a5 a6 a7 : D) : J_law03_MemPlays_5 x0 x1 x2 x3 x4 x5 x6 x7 x8 x9 x10 x11 g0 g1 g2 [a0, a1, a2, a3, a4, a5, a6, a7] =
  if (!(decide ((((((((x1).toL).getD ((x8).toInt).toNat D.nil)).toL).getD 1 D.nil)).toInt < (x0).toInt))) = true then
  bindC (FX 13 [a7, a5]) 3 fun r20 =>
    bindC (FX 6 [a7]) 1 fun r23 =>
    if (((r23.getD 0 D.nil)).toInt != (5 : Int)) = true then
    some [(D.bool false)]
    else
    if (!((r20.getD 1 D.nil)).toBool) = true then
      some [(D.bool false)]
      else
      if (((r20.getD 0 D.nil)).toInt != (((((((x1).toL).getD ((x8).toInt).toNat D.nil)).toL).getD 1 D.nil)).toInt) = true then
        some [(D.bool false)]
        else
        bindC (FX 14 [a6, (r20.getD 2 D.nil)]) 1 fun r24 =>
          if (((r24.getD 0 D.nil)).toInt != (x7).toInt) = true then
          some [(D.bool false)]
          else
          g2 [x9, (r20.getD 2 D.nil), a6, x7]
  else
  if (!(a7).isNil) = true then
    some [(D.bool false)]
    else
    bindC (FX 14 [a6, a5]) 1 fun r20 =>
      if (((r20.getD 0 D.nil)).toInt != (IntKind.i64.wrap ((x7).toInt + (1 : Int)))) = true then
      some [(D.bool false)]
      else
      bindC (FX 15 [a6, a5]) 5 fun r21 =>
        if (!((((r21.getD 0 D.nil)).toInt == (a0).toInt) && ((((r21.getD 1 D.nil)).toInt == (a1).toInt) && ((((r21.getD 2 D.nil)).toInt == (a2).toInt) && ((((r21.getD 3 D.nil)).toInt == (a3).toInt) && (((r21.getD 4 D.nil)).toBool == (a4).toBool)))))) = true then
        some [(D.bool false)]
        else
        if ((a3).toInt != (x11).toInt) = true then
          if (decide (((((x9).toL ++ ((D.agg (((((((x1).toL).getD ((x8).toInt).toNat D.nil)).toL).getD 1 D.nil) :: (a3 :: []))) :: []))).length : Int) ≤ (8796093022208 : Int))) = true then
            g2 [(D.agg ((x9).toL ++ ((D.agg (((((((x1).toL).getD ((x8).toInt).toNat D.nil)).toL).getD 1 D.nil) :: (a3 :: []))) :: []))), a5, a6, (D.int (IntKind.i64.wrap ((x7).toInt + (1 : Int))))]
            else none
          else
          g2 [x9, a5, a6, (D.int (IntKind.i64.wrap ((x7).toInt + (1 : Int))))] := by kernel_rfl
noncomputable def J_law03_MemPlays_6 (x0 x1 x2 x3 x4 x5 x6 x7 x8 x9 x10 x11 : D) (g0 g1 g2 : Eng.Fn) : Eng.Fn := fun xs => evalP FX B_law03_MemPlays_6 [g0, g1, g2] ([x0, x1, x2, x3, x4, x5, x6, x7, x8, x9, x10, x11] ++ xs)
theorem J_law03_MemPlays_6_eq (x0 x1 x2 x3 x4 x5 x6 x7 x8 x9 x10 x11 : D) (g0 g1 g2 : Eng.Fn) (a0 a1 a2 a3 a4 a5 a6 a7 : D) : J_law03_MemPlays_6 x0 x1 x2 x3 x4 x5 x6 x7 x8 x9 x10 x11 g0 g1 g2 [a0, a1, a2, a3, a4, a5, a6, a7] =
  bindC (FX 13 [a7, a5]) 3 fun r20 =>
  bindC (FX 6 [a7]) 1 fun r23 =>
  if (((r23.getD 0 D.nil)).toInt != (5 : Int)) = true then
  some [(D.bool false)]
  else
  if (!((r20.getD 1 D.nil)).toBool) = true then
    some [(D.bool false)]
    else
    if (((r20.getD 0 D.nil)).toInt != (((((((x1).toL).getD ((x8).toInt).toNat D.nil)).toL).getD 1 D.nil)).toInt) = true then
      some [(D.bool false)]
      else
      bindC (FX 14 [a6, (r20.getD 2 D.nil)]) 1 fun r24 =>
        if (((r24.getD 0 D.nil)).toInt != (x7).toInt) = true then
        some [(D.bool false)]
        else
        g2 [x9, (r20.getD 2 D.nil), a6, x7] := by kernel_rfl
noncomputable def W_law03_MemPlays_3 (x0 x1 x2 x3 x4 x5 : D) (g0 : Eng.Fn) : Eng.Fn := loopF fun g xs => evalP FX B_law03_MemPlays_3 ([g0] ++ [g]) ([x0, x1, x2, x3, x4, x5] ++ xs)
theorem W_law03_MemPlays_3_eq (x0 x1 x2 x3 x4 x5 : D) (g0 : Eng.Fn) (a0 a1 a2 a3 a4 : D) : W_law03_MemPlays_3 x0 x1 x2 x3 x4 x5 g0 [a0, a1, a2, a3, a4] =
  if (decide ((a2).toInt < (((x1).toL).length : Int))) = true then
  if (decide ((a2).toInt ≥ (0 : Int))) = true then
    if (decide ((a2).toInt < (((x1).toL).length : Int))) = true then
      if (decide ((a2).toInt ≥ (200 : Int))) = true then
        g0 [a3, a4, a0, a1]
        else
        if (decide ((((((((x1).toL).getD ((a2).toInt).toNat D.nil)).toL).getD 1 D.nil)).toInt ≥ (0 : Int))) = true then
          bindC (FX 8 [a3, ((((((x1).toL).getD ((a2).toInt).toNat D.nil)).toL).getD 1 D.nil)]) 1 fun r11 =>
            if ((((((((x1).toL).getD ((a2).toInt).toNat D.nil)).toL).getD 0 D.nil)).toInt == (1 : Int)) = true then
            bindC (FX 9 [a0, ((((((x1).toL).getD ((a2).toInt).toNat D.nil)).toL).getD 1 D.nil), a4]) 3 fun r12 =>
              if (decide ((((((((x1).toL).getD ((a2).toInt).toNat D.nil)).toL).getD 1 D.nil)).toInt < (x0).toInt)) = true then
              if (((r12.getD 0 D.nil)).toInt != ((r11.getD 0 D.nil)).toInt) = true then
                some [(D.bool false)]
                else
                if (!(decide ((((((((x1).toL).getD ((a2).toInt).toNat D.nil)).toL).getD 1 D.nil)).toInt < (x0).toInt))) = true then
                  if (((r12.getD 0 D.nil)).toInt != (0 : Int)) = true then
                    some [(D.bool false)]
                    else
                    (J_law03_MemPlays_5 x0 x1 x2 x3 x4 x5 a0 a1 a2 a3 a4 (r11.getD 0 D.nil) g0 (W_law03_MemPlays_3 x0 x1 x2 x3 x4 x5 g0) (J_law03_MemPlays_4 x0 x1 x2 x3 x4 x5 a0 a1 a2 a3 a4 g0 (W_law03_MemPlays_3 x0 x1 x2 x3 x4 x5 g0))) [((((((x1).toL).getD ((a2).toInt).toNat D.nil)).toL).getD 0 D.nil), ((((((x1).toL).getD ((a2).toInt).toNat D.nil)).toL).getD 1 D.nil), (r11.getD 0 D.nil), (r11.getD 0 D.nil), (D.bool true), (r12.getD 2 D.nil), a0, (r12.getD 1 D.nil)]
                  else
                  (J_law03_MemPlays_5 x0 x1 x2 x3 x4 x5 a0 a1 a2 a3 a4 (r11.getD 0 D.nil) g0 (W_law03_MemPlays_3 x0 x1 x2 x3 x4 x5 g0) (J_law03_MemPlays_4 x0 x1 x2 x3 x4 x5 a0 a1 a2 a3 a4 g0 (W_law03_MemPlays_3 x0 x1 x2 x3 x4 x5 g0))) [((((((x1).toL).getD ((a2).toInt).toNat D.nil)).toL).getD 0 D.nil), ((((((x1).toL).getD ((a2).toInt).toNat D.nil)).toL).getD 1 D.nil), (r11.getD 0 D.nil), (r11.getD 0 D.nil), (D.bool true), (r12.getD 2 D.nil), a0, (r12.getD 1 D.nil)]
              else
              if (!(decide ((((((((x1).toL).getD ((a2).toInt).toNat D.nil)).toL).getD 1 D.nil)).toInt < (x0).toInt))) = true then
                if (((r12.getD 0 D.nil)).toInt != (0 : Int)) = true then
                  some [(D.bool false)]
                  else
                  (J_law03_MemPlays_5 x0 x1 x2 x3 x4 x5 a0 a1 a2 a3 a4 (r11.getD 0 D.nil) g0 (W_law03_MemPlays_3 x0 x1 x2 x3 x4 x5 g0) (J_law03_MemPlays_4 x0 x1 x2 x3 x4 x5 a0 a1 a2 a3 a4 g0 (W_law03_MemPlays_3 x0 x1 x2 x3 x4 x5 g0))) [((((((x1).toL).getD ((a2).toInt).toNat D.nil)).toL).getD 0 D.nil), ((((((x1).toL).getD ((a2).toInt).toNat D.nil)).toL).getD 1 D.nil), (r11.getD 0 D.nil), (r11.getD 0 D.nil), (D.bool true), (r12.getD 2 D.nil), a0, (r12.getD 1 D.nil)]
                else
                (J_law03_MemPlays_5 x0 x1 x2 x3 x4 x5 a0 a1 a2 a3 a4 (r11.getD 0 D.nil) g0 (W_law03_MemPlays_3 x0 x1 x2 x3 x4 x5 g0) (J_law03_MemPlays_4 x0 x1 x2 x3 x4 x5 a0 a1 a2 a3 a4 g0 (W_law03_MemPlays_3 x0 x1 x2 x3 x4 x5 g0))) [((((((x1).toL).getD ((a2).toInt).toNat D.nil)).toL).getD 0 D.nil), ((((((x1).toL).getD ((a2).toInt).toNat D.nil)).toL).getD 1 D.nil), (r11.getD 0 D.nil), (r11.getD 0 D.nil), (D.bool true), (r12.getD 2 D.nil), a0, (r12.getD 1 D.nil)]
            else
            if ((((((((x1).toL).getD ((a2).toInt).toNat D.nil)).toL).getD 0 D.nil)).toInt == (2 : Int)) = true then
              bindC (FX 10 [a0, ((((((x1).toL).getD ((a2).toInt).toNat D.nil)).toL).getD 1 D.nil), ((((((x1).toL).getD ((a2).toInt).toNat D.nil)).toL).getD 3 D.nil), a4]) 2 fun r12 =>
                (J_law03_MemPlays_5 x0 x1 x2 x3 x4 x5 a0 a1 a2 a3 a4 (r11.getD 0 D.nil) g0 (W_law03_MemPlays_3 x0 x1 x2 x3 x4 x5 g0) (J_law03_MemPlays_4 x0 x1 x2 x3 x4 x5 a0 a1 a2 a3 a4 g0 (W_law03_MemPlays_3 x0 x1 x2 x3 x4 x5 g0))) [((((((x1).toL).getD ((a2).toInt).toNat D.nil)).toL).getD 0 D.nil), ((((((x1).toL).getD ((a2).toInt).toNat D.nil)).toL).getD 1 D.nil), (r11.getD 0 D.nil), ((((((x1).toL).getD ((a2).toInt).toNat D.nil)).toL).getD 3 D.nil), (D.bool true), (r12.getD 1 D.nil), a0, (r12.getD 0 D.nil)]
              else
              if ((((((((x1).toL).getD ((a2).toInt).toNat D.nil)).toL).getD 0 D.nil)).toInt == (3 : Int)) = true then
                bindC (FX 11 [a0, ((((((x1).toL).getD ((a2).toInt).toNat D.nil)).toL).getD 1 D.nil), ((((((x1).toL).getD ((a2).toInt).toNat D.nil)).toL).getD 2 D.nil), ((((((x1).toL).getD ((a2).toInt).toNat D.nil)).toL).getD 3 D.nil), a4]) 3 fun r12 =>
                  if (decide ((((((((x1).toL).getD ((a2).toInt).toNat D.nil)).toL).getD 1 D.nil)).toInt < (x0).toInt)) = true then
                  if (!(((r12.getD 0 D.nil)).toBool == (((r11.getD 0 D.nil)).toInt == (((((((x1).toL).getD ((a2).toInt).toNat D.nil)).toL).getD 2 D.nil)).toInt))) = true then
                    some [(D.bool false)]
                    else
                    if ((r12.getD 0 D.nil)).toBool = true then
                      (J_law03_MemPlays_5 x0 x1 x2 x3 x4 x5 a0 a1 a2 a3 a4 (r11.getD 0 D.nil) g0 (W_law03_MemPlays_3 x0 x1 x2 x3 x4 x5 g0) (J_law03_MemPlays_4 x0 x1 x2 x3 x4 x5 a0 a1 a2 a3 a4 g0 (W_law03_MemPlays_3 x0 x1 x2 x3 x4 x5 g0))) [((((((x1).toL).getD ((a2).toInt).toNat D.nil)).toL).getD 0 D.nil), ((((((x1).toL).getD ((a2).toInt).toNat D.nil)).toL).getD 1 D.nil), (r11.getD 0 D.nil), ((((((x1).toL).getD ((a2).toInt).toNat D.nil)).toL).getD 3 D.nil), (r12.getD 0 D.nil), (r12.getD 2 D.nil), a0, (r12.getD 1 D.nil)]
                      else
                      (J_law03_MemPlays_5 x0 x1 x2 x3 x4 x5 a0 a1 a2 a3 a4 (r11.getD 0 D.nil) g0 (W_law03_MemPlays_3 x0 x1 x2 x3 x4 x5 g0) (J_law03_MemPlays_4 x0 x1 x2 x3 x4 x5 a0 a1 a2 a3 a4 g0 (W_law03_MemPlays_3 x0 x1 x2 x3 x4 x5 g0))) [((((((x1).toL).getD ((a2).toInt).toNat D.nil)).toL).getD 0 D.nil), ((((((x1).toL).getD ((a2).toInt).toNat D.nil)).toL).getD 1 D.nil), (r11.getD 0 D.nil), (r11.getD 0 D.nil), (r12.getD 0 D.nil), (r12.getD 2 D.nil), a0, (r12.getD 1 D.nil)]
                  else
                  if (!(((r12.getD 0 D.nil)).toBool == false)) = true then
                    some [(D.bool false)]
                    else
                    if ((r12.getD 0 D.nil)).toBool = true then
                      (J_law03_MemPlays_5 x0 x1 x2 x3 x4 x5 a0 a1 a2 a3 a4 (r11.getD 0 D.nil) g0 (W_law03_MemPlays_3 x0 x1 x2 x3 x4 x5 g0) (J_law03_MemPlays_4 x0 x1 x2 x3 x4 x5 a0 a1 a2 a3 a4 g0 (W_law03_MemPlays_3 x0 x1 x2 x3 x4 x5 g0))) [((((((x1).toL).getD ((a2).toInt).toNat D.nil)).toL).getD 0 D.nil), ((((((x1).toL).getD ((a2).toInt).toNat D.nil)).toL).getD 1 D.nil), (r11.getD 0 D.nil), ((((((x1).toL).getD ((a2).toInt).toNat D.nil)).toL).getD 3 D.nil), (r12.getD 0 D.nil), (r12.getD 2 D.nil), a0, (r12.getD 1 D.nil)]
                      else
                      (J_law03_MemPlays_5 x0 x1 x2 x3 x4 x5 a0 a1 a2 a3 a4 (r11.getD 0 D.nil) g0 (W_law03_MemPlays_3 x0 x1 x2 x3 x4 x5 g0) (J_law03_MemPlays_4 x0 x1 x2 x3 x4 x5 a0 a1 a2 a3 a4 g0 (W_law03_MemPlays_3 x0 x1 x2 x3 x4 x5 g0))) [((((((x1).toL).getD ((a2).toInt).toNat D.nil)).toL).getD 0 D.nil), ((((((x1).toL).getD ((a2).toInt).toNat D.nil)).toL).getD 1 D.nil), (r11.getD 0 D.nil), (r11.getD 0 D.nil), (r12.getD 0 D.nil), (r12.getD 2 D.nil), a0, (r12.getD 1 D.nil)]
                else
                if ((((((((x1).toL).getD ((a2).toInt).toNat D.nil)).toL).getD 0 D.nil)).toInt == (4 : Int)) = true then
                  bindC (FX 12 [a0, a4]) 2 fun r12 =>
                    bindC (FX 10 [(r12.getD 0 D.nil), (D.int (0 : Int)), (D.int (99 : Int)), (r12.getD 1 D.nil)]) 2 fun r14 =>
                    bindC (FX 12 [a0, (r14.getD 1 D.nil)]) 2 fun r16 =>
                    (J_law03_MemPlays_4 x0 x1 x2 x3 x4 x5 a0 a1 a2 a3 a4 g0 (W_law03_MemPlays_3 x0 x1 x2 x3 x4 x5 g0)) [a3, (r16.getD 1 D.nil), (r16.getD 0 D.nil), a1]
                  else
                  (J_law03_MemPlays_4 x0 x1 x2 x3 x4 x5 a0 a1 a2 a3 a4 g0 (W_law03_MemPlays_3 x0 x1 x2 x3 x4 x5 g0)) [a3, a4, a0, a1]
          else
          bindC (FX 8 [a3, ((((((x1).toL).getD ((a2).toInt).toNat D.nil)).toL).getD 1 D.nil)]) 1 fun r11 =>
            if ((((((((x1).toL).getD ((a2).toInt).toNat D.nil)).toL).getD 0 D.nil)).toInt == (1 : Int)) = true then
            bindC (FX 9 [a0, ((((((x1).toL).getD ((a2).toInt).toNat D.nil)).toL).getD 1 D.nil), a4]) 3 fun r12 =>
              if (((r12.getD 0 D.nil)).toInt != (0 : Int)) = true then
              some [(D.bool false)]
              else
              (J_law03_MemPlays_6 x0 x1 x2 x3 x4 x5 a0 a1 a2 a3 a4 (r11.getD 0 D.nil) g0 (W_law03_MemPlays_3 x0 x1 x2 x3 x4 x5 g0) (J_law03_MemPlays_4 x0 x1 x2 x3 x4 x5 a0 a1 a2 a3 a4 g0 (W_law03_MemPlays_3 x0 x1 x2 x3 x4 x5 g0))) [((((((x1).toL).getD ((a2).toInt).toNat D.nil)).toL).getD 0 D.nil), ((((((x1).toL).getD ((a2).toInt).toNat D.nil)).toL).getD 1 D.nil), (r11.getD 0 D.nil), (r11.getD 0 D.nil), (D.bool true), (r12.getD 2 D.nil), a0, (r12.getD 1 D.nil)]
            else
            if ((((((((x1).toL).getD ((a2).toInt).toNat D.nil)).toL).getD 0 D.nil)).toInt == (2 : Int)) = true then
              bindC (FX 10 [a0, ((((((x1).toL).getD ((a2).toInt).toNat D.nil)).toL).getD 1 D.nil), ((((((x1).toL).getD ((a2).toInt).toNat D.nil)).toL).getD 3 D.nil), a4]) 2 fun r12 =>
                (J_law03_MemPlays_6 x0 x1 x2 x3 x4 x5 a0 a1 a2 a3 a4 (r11.getD 0 D.nil) g0 (W_law03_MemPlays_3 x0 x1 x2 x3 x4 x5 g0) (J_law03_MemPlays_4 x0 x1 x2 x3 x4 x5 a0 a1 a2 a3 a4 g0 (W_law03_MemPlays_3 x0 x1 x2 x3 x4 x5 g0))) [((((((x1).toL).getD ((a2).toInt).toNat D.nil)).toL).getD 0 D.nil), ((((((x1).toL).getD ((a2).toInt).toNat D.nil)).toL).getD 1 D.nil), (r11.getD 0 D.nil), ((((((x1).toL).getD ((a2).toInt).toNat D.nil)).toL).getD 3 D.nil), (D.bool true), (r12.getD 1 D.nil), a0, (r12.getD 0 D.nil)]
              else
              if ((((((((x1).toL).getD ((a2).toInt).toNat D.nil)).toL).getD 0 D.nil)).toInt == (3 : Int)) = true then
                bindC (FX 11 [a0, ((((((x1).toL).getD ((a2).toInt).toNat D.nil)).toL).getD 1 D.nil), ((((((x1).toL).getD ((a2).toInt).toNat D.nil)).toL).getD 2 D.nil), ((((((x1).toL).getD ((a2).toInt).toNat D.nil)).toL).getD 3 D.nil), a4]) 3 fun r12 =>
                  if (!(((r12.getD 0 D.nil)).toBool == false)) = true then
                  some [(D.bool false)]
                  else
                  if ((r12.getD 0 D.nil)).toBool = true then
                    (J_law03_MemPlays_6 x0 x1 x2 x3 x4 x5 a0 a1 a2 a3 a4 (r11.getD 0 D.nil) g0 (W_law03_MemPlays_3 x0 x1 x2 x3 x4 x5 g0) (J_law03_MemPlays_4 x0 x1 x2 x3 x4 x5 a0 a1 a2 a3 a4 g0 (W_law03_MemPlays_3 x0 x1 x2 x3 x4 x5 g0))) [((((((x1).toL).getD ((a2).toInt).toNat D.nil)).toL).getD 0 D.nil), ((((((x1).toL).getD ((a2).toInt).toNat D.nil)).toL).getD 1 D.nil), (r11.getD 0 D.nil), ((((((x1).toL).getD ((a2).toInt).toNat D.nil)).toL).getD 3 D.nil), (r12.getD 0 D.nil), (r12.getD 2 D.nil), a0, (r12.getD 1 D.nil)]
                    else
                    (J_law03_MemPlays_6 x0 x1 x2 x3 x4 x5 a0 a1 a2 a3 a4 (r11.getD 0 D.nil) g0 (W_law03_MemPlays_3 x0 x1 x2 x3 x4 x5 g0) (J_law03_MemPlays_4 x0 x1 x2 x3 x4 x5 a0 a1 a2 a3 a4 g0 (W_law03_MemPlays_3 x0 x1 x2 x3 x4 x5 g0))) [((((((x1).toL).getD ((a2).toInt).toNat D.nil)).toL).getD 0 D.nil), ((((((x1).toL).getD ((a2).toInt).toNat D.nil)).toL).getD 1 D.nil), (r11.getD 0 D.nil), (r11.getD 0 D.nil), (r12.getD 0 D.nil), (r12.getD 2 D.nil), a0, (r12.getD 1 D.nil)]
                else
                if ((((((((x1).toL).getD ((a2).toInt).toNat D.nil)).toL).getD 0 D.nil)).toInt == (4 : Int)) = true then
                  bindC (FX 12 [a0, a4]) 2 fun r12 =>
                    bindC (FX 10 [(r12.getD 0 D.nil), (D.int (0 : Int)), (D.int (99 : Int)), (r12.getD 1 D.nil)]) 2 fun r14 =>
                    bindC (FX 12 [a0, (r14.getD 1 D.nil)]) 2 fun r16 =>
                    (J_law03_MemPlays_4 x0 x1 x2 x3 x4 x5 a0 a1 a2 a3 a4 g0 (W_law03_MemPlays_3 x0 x1 x2 x3 x4 x5 g0)) [a3, (r16.getD 1 D.nil), (r16.getD 0 D.nil), a1]
                  else
                  (J_law03_MemPlays_4 x0 x1 x2 x3 x4 x5 a0 a1 a2 a3 a4 g0 (W_law03_MemPlays_3 x0 x1 x2 x3 x4 x5 g0)) [a3, a4, a0, a1]
      else none
    else none
  else
  g0 [a3, a4, a0, a1] := (loopP_eq FX B_law03_MemPlays_3 [g0] [x0, x1, x2, x3, x4, x5] _).trans (by kernel_rfl)
theorem E_law03_MemPlays (x0 x1 : D) : FX 3 [x0, x1] =
  bindC (FX 4 [x0, (D.agg [])]) 3 fun r2 =>
  if (decide ((x0).toInt < (0 : Int))) = true then
  bindC (FX 5 [(r2.getD 2 D.nil)]) 2 fun r5 =>
    if ((r5.getD 0 D.nil)).toBool = true then
    if ((r2.getD 0 D.nil)).isNil = true then
      bindC (FX 6 [(r2.getD 1 D.nil)]) 1 fun r7 =>
        some [(D.bool (((r7.getD 0 D.nil)).toInt == (4 : Int)))]
      else
      some [(D.bool false)]
    else
    some [(D.bool false)]
  else
  if (decide ((x0).toInt > (8192 : Int))) = true then
    bindC (FX 5 [(r2.getD 2 D.nil)]) 2 fun r5 =>
      if ((r5.getD 0 D.nil)).toBool = true then
      if ((r2.getD 0 D.nil)).isNil = true then
        bindC (FX 6 [(r2.getD 1 D.nil)]) 1 fun r7 =>
          some [(D.bool (((r7.getD 0 D.nil)).toInt == (4 : Int)))]
        else
        some [(D.bool false)]
      else
      some [(D.bool false)]
    else
    if ((r2.getD 0 D.nil)).isNil = true then
      some [(D.bool false)]
      else
      if (!((r2.getD 1 D.nil)).isNil) = true then
        some [(D.bool false)]
        else
        bindC (FX 7 [(r2.getD 0 D.nil), (r2.getD 2 D.nil)]) 1 fun r5 =>
          if (((r5.getD 0 D.nil)).toInt != (x0).toInt) = true then
          some [(D.bool false)]
          else
          W_law03_MemPlays_3 x0 x1 (r2.getD 0 D.nil) (r2.getD 1 D.nil) (r2.getD 2 D.nil) (r5.getD 0 D.nil) ((J_law03_MemPlays_1 x0 x1 (r2.getD 0 D.nil) (r2.getD 1 D.nil) (r2.getD 2 D.nil) (r5.getD 0 D.nil))) [(r2.getD 0 D.nil), (D.int (0 : Int)), (D.int (0 : Int)), (D.agg []), (r2.getD 2 D.nil)] := (fixP_eq (t := T_law03_MemPlays) (by rfl) _).trans (by kernel_rfl)
end Go.Proofs.YtjhgpkojdiedgaaDoor
