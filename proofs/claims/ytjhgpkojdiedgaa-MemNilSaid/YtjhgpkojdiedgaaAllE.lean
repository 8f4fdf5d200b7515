/-
  The functions, as equations.
-/
import Derived.Test.YtjhgpkojdiedgaaAll
namespace Go.Proofs.Ytjhgpkojdiedgaa
open Go.Proofs.Ytjhgpkojdiedgaa.Eng
set_option linter.unusedVariables false
set_option maxRecDepth 20000
theorem E_mem_New (x0 x1 : D) : FX 5 [x0, x1] =
  if (decide ((x0).toInt < (0 : Int))) = true then
  some [D.nil, (D.iface 49 (D.int (4 : Int))), x1]
  else
  if (decide ((x0).toInt > (8192 : Int))) = true then
    some [D.nil, (D.iface 49 (D.int (4 : Int))), x1]
    else
    if (decide ((x0).toInt ≥ (0 : Int))) = true then
      if (decide ((x0).toInt ≤ (17592186044416 : Int))) = true then
        some [(D.int (((x1).toL).length : Int)), D.nil, (D.agg ((x1).toL ++ ((D.agg ((D.agg (List.replicate ((x0).toInt).toNat (D.int (0 : Int)))) :: ((D.int (0 : Int)) :: ((D.int (0 : Int)) :: ((D.int (0 : Int)) :: ((D.int (0 : Int)) :: ((D.int (0 : Int)) :: ((D.bool false) :: [])))))))) :: [])))]
        else none
      else none := (fixP_eq (t := T_mem_New) (by rfl) _).trans (by kernel_rfl)
theorem E_fault_At (x0 x1 : D) : FX 22 [x0, x1] =
  if (x1).isNil = true then
  some [D.nil]
  else
  some [(D.iface 61 (D.agg (x0 :: (x1 :: []))))] := (fixP_eq (t := T_fault_At) (by rfl) _).trans (by kernel_rfl)
theorem E_p_mem_Mem_may (x0 x1 x2 : D) : FX 18 [x0, x1, x2] =
  if (x0).isNil = true then
  some [(D.iface 49 (D.int (2 : Int)))]
  else
  if (decide ((x1).toInt < (0 : Int))) = true then
    bindC (FX 22 [x1, (D.iface 49 (D.int (5 : Int)))]) 1 fun r3 =>
      some [(r3.getD 0 D.nil)]
    else
    if (!(x0).isNil) = true then
      if (decide ((x1).toInt ≥ (((((((((x2).toL).getD ((x0).toInt).toNat D.nil)).toL).getD 0 D.nil)).toL).length : Int))) = true then
        bindC (FX 22 [x1, (D.iface 49 (D.int (5 : Int)))]) 1 fun r3 =>
          some [(r3.getD 0 D.nil)]
        else
        some [D.nil]
      else none := (fixP_eq (t := T_p_mem_Mem_may) (by rfl) _).trans (by kernel_rfl)
theorem E_p_mem_Mem_step (x0 x1 x2 x3 x4 x5 x6 : D) : FX 19 [x0, x1, x2, x3, x4, x5, x6] =
  if (!(x0).isNil) = true then
  if (!(x0).isNil) = true then
    if (!(x0).isNil) = true then
      some [(D.agg (((x6).toL).set ((x0).toInt).toNat (D.agg (((List.range 7).map fun j => ((((List.range 7).map fun j => ((((List.range 7).map fun j => ((((List.range 7).map fun j => ((((List.range 7).map fun j => ((((List.range 7).map fun j => (((((x6).toL).getD ((x0).toInt).toNat D.nil)).toL).getD j D.nil).set 1 (D.int (IntKind.i64.wrap ((((((((x6).toL).getD ((x0).toInt).toNat D.nil)).toL).getD 1 D.nil)).toInt + (1 : Int)))))).getD j D.nil).set 2 x1)).getD j D.nil).set 3 x2)).getD j D.nil).set 4 x3)).getD j D.nil).set 5 x4)).getD j D.nil).set 6 x5))))]
      else none
    else none
  else none := (fixP_eq (t := T_p_mem_Mem_step) (by rfl) _).trans (by kernel_rfl)
theorem E_p_mem_Mem_Swap (x0 x1 x2 x3 x4 : D) : FX 10 [x0, x1, x2, x3, x4] =
  bindC (FX 18 [x0, x1, x4]) 1 fun r5 =>
  if (!((r5.getD 0 D.nil)).isNil) = true then
  some [(D.bool false), (r5.getD 0 D.nil), x4]
  else
  if (!(x0).isNil) = true then
    if (decide ((x1).toInt ≥ (0 : Int))) = true then
      if (decide ((x1).toInt < (((((((((x4).toL).getD ((x0).toInt).toNat D.nil)).toL).getD 0 D.nil)).toL).length : Int))) = true then
        if (!(x0).isNil) = true then
          if (decide ((x1).toInt ≥ (0 : Int))) = true then
            if (decide ((x1).toInt < (((((((((x4).toL).getD ((x0).toInt).toNat D.nil)).toL).getD 0 D.nil)).toL).length : Int))) = true then
              if (!(x0).isNil) = true then
                if (decide ((x1).toInt ≥ (0 : Int))) = true then
                  if (decide ((x1).toInt < (((((((((x4).toL).getD ((x0).toInt).toNat D.nil)).toL).getD 0 D.nil)).toL).length : Int))) = true then
                    if (((((((((((x4).toL).getD ((x0).toInt).toNat D.nil)).toL).getD 0 D.nil)).toL).getD ((x1).toInt).toNat D.nil)).toInt == (x2).toInt) = true then
                      if (!(x0).isNil) = true then
                        if (decide ((x1).toInt ≥ (0 : Int))) = true then
                          if (decide ((x1).toInt < (((((((((x4).toL).getD ((x0).toInt).toNat D.nil)).toL).getD 0 D.nil)).toL).length : Int))) = true then
                            bindC (FX 19 [x0, (D.int (3 : Int)), x1, (((((((((x4).toL).getD ((x0).toInt).toNat D.nil)).toL).getD 0 D.nil)).toL).getD ((x1).toInt).toNat D.nil), x3, (D.bool (((((((((((x4).toL).getD ((x0).toInt).toNat D.nil)).toL).getD 0 D.nil)).toL).getD ((x1).toInt).toNat D.nil)).toInt == (x2).toInt)), (D.agg (((x4).toL).set ((x0).toInt).toNat (D.agg (((List.range 7).map fun j => (((((x4).toL).getD ((x0).toInt).toNat D.nil)).toL).getD j D.nil).set 0 (D.agg (((((((((x4).toL).getD ((x0).toInt).toNat D.nil)).toL).getD 0 D.nil)).toL).set ((x1).toInt).toNat x3))))))]) 1 fun r6 =>
                              some [(D.bool (((((((((((x4).toL).getD ((x0).toInt).toNat D.nil)).toL).getD 0 D.nil)).toL).getD ((x1).toInt).toNat D.nil)).toInt == (x2).toInt)), D.nil, (r6.getD 0 D.nil)]
                            else none
                          else none
                        else none
                      else
                      bindC (FX 19 [x0, (D.int (3 : Int)), x1, (((((((((x4).toL).getD ((x0).toInt).toNat D.nil)).toL).getD 0 D.nil)).toL).getD ((x1).toInt).toNat D.nil), (((((((((x4).toL).getD ((x0).toInt).toNat D.nil)).toL).getD 0 D.nil)).toL).getD ((x1).toInt).toNat D.nil), (D.bool (((((((((((x4).toL).getD ((x0).toInt).toNat D.nil)).toL).getD 0 D.nil)).toL).getD ((x1).toInt).toNat D.nil)).toInt == (x2).toInt)), x4]) 1 fun r6 =>
                        some [(D.bool (((((((((((x4).toL).getD ((x0).toInt).toNat D.nil)).toL).getD 0 D.nil)).toL).getD ((x1).toInt).toNat D.nil)).toInt == (x2).toInt)), D.nil, (r6.getD 0 D.nil)]
                    else none
                  else none
                else none
              else none
            else none
          else none
        else none
      else none
    else none := (fixP_eq (t := T_p_mem_Mem_Swap) (by rfl) _).trans (by kernel_rfl)
theorem E_slices_Clone_uint64_uint64 (x0 : D) : FX 20 [x0] =
  if ((((x0).toL).length : Int) == (0 : Int)) = true then
  both (some [(D.agg [])]) (if (decide ((((x0).toL).length : Int) ≤ (17592186044416 : Int))) = true then
      some [x0]
      else none)
  else
  if (decide ((((x0).toL).length : Int) ≤ (17592186044416 : Int))) = true then
    some [x0]
    else none := (fixP_eq (t := T_slices_Clone_uint64_uint64) (by rfl) _).trans (by kernel_rfl)
theorem E_p_mem_Mem_Words (x0 x1 : D) : FX 12 [x0, x1] =
  if (x0).isNil = true then
  some [(D.agg [])]
  else
  if (!(x0).isNil) = true then
    bindC (FX 20 [((((((x1).toL).getD ((x0).toInt).toNat D.nil)).toL).getD 0 D.nil)]) 1 fun r2 =>
      some [(r2.getD 0 D.nil)]
    else none := (fixP_eq (t := T_p_mem_Mem_Words) (by rfl) _).trans (by kernel_rfl)
theorem E_law03_awake (x0 : D) : FX 6 [x0] =
  bindC (FX 5 [(D.int (1 : Int)), x0]) 3 fun r1 =>
  bindC (FX 10 [(r1.getD 0 D.nil), (D.int (0 : Int)), (D.int (0 : Int)), (D.int (7 : Int)), (r1.getD 2 D.nil)]) 3 fun r4 =>
  bindC (FX 10 [(r1.getD 0 D.nil), (D.int (0 : Int)), (D.int (0 : Int)), (D.int (8 : Int)), (r4.getD 2 D.nil)]) 3 fun r7 =>
  bindC (FX 12 [(r1.getD 0 D.nil), (r7.getD 2 D.nil)]) 1 fun r10 =>
  if ((r1.getD 1 D.nil)).isNil = true then
  if ((r4.getD 1 D.nil)).isNil = true then
    if ((r7.getD 1 D.nil)).isNil = true then
      if ((r4.getD 0 D.nil)).toBool = true then
        if (!((r7.getD 0 D.nil)).toBool) = true then
          if (((((r10.getD 0 D.nil)).toL).length : Int) == (1 : Int)) = true then
            if (decide ((0 : Int) < ((((r10.getD 0 D.nil)).toL).length : Int))) = true then
              some [(D.bool ((((((r10.getD 0 D.nil)).toL).getD ((0 : Int)).toNat D.nil)).toInt == (7 : Int))), (r7.getD 2 D.nil)]
              else none
            else
            some [(D.bool false), (r7.getD 2 D.nil)]
          else
          some [(D.bool false), (r7.getD 2 D.nil)]
        else
        some [(D.bool false), (r7.getD 2 D.nil)]
      else
      some [(D.bool false), (r7.getD 2 D.nil)]
    else
    some [(D.bool false), (r7.getD 2 D.nil)]
  else
  some [(D.bool false), (r7.getD 2 D.nil)] := (fixP_eq (t := T_law03_awake) (by rfl) _).trans (by kernel_rfl)
theorem E_p_mem_Mem_Load (x0 x1 x2 : D) : FX 8 [x0, x1, x2] =
  bindC (FX 18 [x0, x1, x2]) 1 fun r3 =>
  if (!((r3.getD 0 D.nil)).isNil) = true then
  some [(D.int (0 : Int)), (r3.getD 0 D.nil), x2]
  else
  if (!(x0).isNil) = true then
    if (decide ((x1).toInt ≥ (0 : Int))) = true then
      if (decide ((x1).toInt < (((((((((x2).toL).getD ((x0).toInt).toNat D.nil)).toL).getD 0 D.nil)).toL).length : Int))) = true then
        bindC (FX 19 [x0, (D.int (1 : Int)), x1, (((((((((x2).toL).getD ((x0).toInt).toNat D.nil)).toL).getD 0 D.nil)).toL).getD ((x1).toInt).toNat D.nil), (((((((((x2).toL).getD ((x0).toInt).toNat D.nil)).toL).getD 0 D.nil)).toL).getD ((x1).toInt).toNat D.nil), (D.bool true), x2]) 1 fun r4 =>
          some [(((((((((x2).toL).getD ((x0).toInt).toNat D.nil)).toL).getD 0 D.nil)).toL).getD ((x1).toInt).toNat D.nil), D.nil, (r4.getD 0 D.nil)]
        else none
      else none
    else none := (fixP_eq (t := T_p_mem_Mem_Load) (by rfl) _).trans (by kernel_rfl)
theorem E_p_mem_Mem_Store (x0 x1 x2 x3 : D) : FX 9 [x0, x1, x2, x3] =
  bindC (FX 18 [x0, x1, x3]) 1 fun r4 =>
  if (!((r4.getD 0 D.nil)).isNil) = true then
  some [(r4.getD 0 D.nil), x3]
  else
  if (!(x0).isNil) = true then
    if (decide ((x1).toInt ≥ (0 : Int))) = true then
      if (decide ((x1).toInt < (((((((((x3).toL).getD ((x0).toInt).toNat D.nil)).toL).getD 0 D.nil)).toL).length : Int))) = true then
        bindC (FX 19 [x0, (D.int (2 : Int)), x1, (((((((((x3).toL).getD ((x0).toInt).toNat D.nil)).toL).getD 0 D.nil)).toL).getD ((x1).toInt).toNat D.nil), x2, (D.bool true), x3]) 1 fun r5 =>
          if (!(x0).isNil) = true then
          if (decide ((x1).toInt ≥ (0 : Int))) = true then
            if (decide ((x1).toInt < ((((((((((r5.getD 0 D.nil)).toL).getD ((x0).toInt).toNat D.nil)).toL).getD 0 D.nil)).toL).length : Int))) = true then
              some [D.nil, (D.agg ((((r5.getD 0 D.nil)).toL).set ((x0).toInt).toNat (D.agg (((List.range 7).map fun j => ((((((r5.getD 0 D.nil)).toL).getD ((x0).toInt).toNat D.nil)).toL).getD j D.nil).set 0 (D.agg ((((((((((r5.getD 0 D.nil)).toL).getD ((x0).toInt).toNat D.nil)).toL).getD 0 D.nil)).toL).set ((x1).toInt).toNat x2))))))]
              else none
            else none
          else none
        else none
      else none
    else none := (fixP_eq (t := T_p_mem_Mem_Store) (by rfl) _).trans (by kernel_rfl)
noncomputable def W_law03_MemTwins_1_1 (x0 x1 x2 : D) : Eng.Fn := loopF fun g xs => evalP FX B_law03_MemTwins_1_1 ([] ++ [g]) ([x0, x1, x2] ++ xs)
theorem W_law03_MemTwins_1_1_eq (x0 x1 x2 : D) (a0 a1 : D) : W_law03_MemTwins_1_1 x0 x1 x2 [a0, a1] =
  if (decide ((a0).toInt < (((x1).toL).length : Int))) = true then
  if (decide ((a0).toInt ≥ (0 : Int))) = true then
    if (decide ((a0).toInt < (((x1).toL).length : Int))) = true then
      if ((((((((x1).toL).getD ((a0).toInt).toNat D.nil)).toL).getD 0 D.nil)).toInt == (1 : Int)) = true then
        bindC (FX 8 [x0, ((((((x1).toL).getD ((a0).toInt).toNat D.nil)).toL).getD 1 D.nil), a1]) 3 fun r5 =>
          (W_law03_MemTwins_1_1 x0 x1 x2) [(D.int (IntKind.i64.wrap ((a0).toInt + (1 : Int)))), (r5.getD 2 D.nil)]
        else
        if ((((((((x1).toL).getD ((a0).toInt).toNat D.nil)).toL).getD 0 D.nil)).toInt == (2 : Int)) = true then
          bindC (FX 9 [x0, ((((((x1).toL).getD ((a0).toInt).toNat D.nil)).toL).getD 1 D.nil), ((((((x1).toL).getD ((a0).toInt).toNat D.nil)).toL).getD 3 D.nil), a1]) 2 fun r5 =>
            (W_law03_MemTwins_1_1 x0 x1 x2) [(D.int (IntKind.i64.wrap ((a0).toInt + (1 : Int)))), (r5.getD 1 D.nil)]
          else
          if ((((((((x1).toL).getD ((a0).toInt).toNat D.nil)).toL).getD 0 D.nil)).toInt == (3 : Int)) = true then
            bindC (FX 10 [x0, ((((((x1).toL).getD ((a0).toInt).toNat D.nil)).toL).getD 1 D.nil), ((((((x1).toL).getD ((a0).toInt).toNat D.nil)).toL).getD 2 D.nil), ((((((x1).toL).getD ((a0).toInt).toNat D.nil)).toL).getD 3 D.nil), a1]) 3 fun r5 =>
              (W_law03_MemTwins_1_1 x0 x1 x2) [(D.int (IntKind.i64.wrap ((a0).toInt + (1 : Int)))), (r5.getD 2 D.nil)]
            else
            (W_law03_MemTwins_1_1 x0 x1 x2) [(D.int (IntKind.i64.wrap ((a0).toInt + (1 : Int)))), a1]
      else none
    else none
  else
  some [a1] := (loopP_eq FX B_law03_MemTwins_1_1 [] [x0, x1, x2] _).trans (by kernel_rfl)
theorem E_law03_MemTwins_1 (x0 x1 x2 : D) : FX 7 [x0, x1, x2] =
  W_law03_MemTwins_1_1 x0 x1 x2 [(D.int (0 : Int)), x2] := (fixP_eq (t := T_law03_MemTwins_1) (by rfl) _).trans (by kernel_rfl)
noncomputable def W_law03_MemTwins_2_1 (x0 x1 : D) : Eng.Fn := loopF fun g xs => evalP FX B_law03_MemTwins_2_1 ([] ++ [g]) ([x0, x1] ++ xs)
theorem W_law03_MemTwins_2_1_eq (x0 x1 : D) (a0 : D) : W_law03_MemTwins_2_1 x0 x1 [a0] =
  if (decide ((a0).toInt < (((x0).toL).length : Int))) = true then
  if (decide ((a0).toInt ≥ (0 : Int))) = true then
    if (decide ((a0).toInt < (((x0).toL).length : Int))) = true then
      if (decide ((a0).toInt ≥ (0 : Int))) = true then
        if (decide ((a0).toInt < (((x1).toL).length : Int))) = true then
          if (((((x0).toL).getD ((a0).toInt).toNat D.nil)).toInt != ((((x1).toL).getD ((a0).toInt).toNat D.nil)).toInt) = true then
            some [(D.bool false)]
            else
            (W_law03_MemTwins_2_1 x0 x1) [(D.int (IntKind.i64.wrap ((a0).toInt + (1 : Int))))]
          else none
        else none
      else none
    else none
  else
  some [(D.bool true)] := (loopP_eq FX B_law03_MemTwins_2_1 [] [x0, x1] _).trans (by kernel_rfl)
theorem E_law03_MemTwins_2 (x0 x1 : D) : FX 11 [x0, x1] =
  if ((((x0).toL).length : Int) != (((x1).toL).length : Int)) = true then
  some [(D.bool false)]
  else
  W_law03_MemTwins_2_1 x0 x1 [(D.int (0 : Int))] := (fixP_eq (t := T_law03_MemTwins_2) (by rfl) _).trans (by kernel_rfl)
theorem E_p_mem_Mem_Twin (x0 x1 : D) : FX 13 [x0, x1] =
  if (x0).isNil = true then
  some [D.nil, x1]
  else
  if (!(x0).isNil) = true then
    bindC (FX 20 [((((((x1).toL).getD ((x0).toInt).toNat D.nil)).toL).getD 0 D.nil)]) 1 fun r2 =>
      if (!(x0).isNil) = true then
      if (!(x0).isNil) = true then
        some [(D.int (((x1).toL).length : Int)), (D.agg ((x1).toL ++ ((D.agg ((r2.getD 0 D.nil) :: (((((((x1).toL).getD ((x0).toInt).toNat D.nil)).toL).getD 1 D.nil) :: (((((((x1).toL).getD ((x0).toInt).toNat D.nil)).toL).getD 2 D.nil) :: (((((((x1).toL).getD ((x0).toInt).toNat D.nil)).toL).getD 3 D.nil) :: (((((((x1).toL).getD ((x0).toInt).toNat D.nil)).toL).getD 4 D.nil) :: (((((((x1).toL).getD ((x0).toInt).toNat D.nil)).toL).getD 5 D.nil) :: (((((((x1).toL).getD ((x0).toInt).toNat D.nil)).toL).getD 6 D.nil) :: [])))))))) :: [])))]
        else none
      else none
    else none := (fixP_eq (t := T_p_mem_Mem_Twin) (by rfl) _).trans (by kernel_rfl)
theorem E_p_mem_Mem_Steps (x0 x1 : D) : FX 14 [x0, x1] =
  if (x0).isNil = true then
  some [(D.int (0 : Int))]
  else
  if (!(x0).isNil) = true then
    some [((((((x1).toL).getD ((x0).toInt).toNat D.nil)).toL).getD 1 D.nil)]
    else none := (fixP_eq (t := T_p_mem_Mem_Steps) (by rfl) _).trans (by kernel_rfl)
theorem E_p_mem_Mem_Last (x0 x1 : D) : FX 15 [x0, x1] =
  if (x0).isNil = true then
  some [(D.int (0 : Int)), (D.int (0 : Int)), (D.int (0 : Int)), (D.int (0 : Int)), (D.bool false)]
  else
  if (!(x0).isNil) = true then
    some [((((((x1).toL).getD ((x0).toInt).toNat D.nil)).toL).getD 2 D.nil), ((((((x1).toL).getD ((x0).toInt).toNat D.nil)).toL).getD 3 D.nil), ((((((x1).toL).getD ((x0).toInt).toNat D.nil)).toL).getD 4 D.nil), ((((((x1).toL).getD ((x0).toInt).toNat D.nil)).toL).getD 5 D.nil), ((((((x1).toL).getD ((x0).toInt).toNat D.nil)).toL).getD 6 D.nil)]
    else none := (fixP_eq (t := T_p_mem_Mem_Last) (by rfl) _).trans (by kernel_rfl)
theorem E_law03_MemTwins (x0 x1 x2 : D) : FX 3 [x0, x1, x2] =
  bindC (FX 5 [(D.int (IntKind.i64.wrap (Int.tmod (x0).toInt (20 : Int)))), (D.agg [])]) 3 fun r3 =>
  if ((r3.getD 0 D.nil)).isNil = true then
  if (!((r3.getD 0 D.nil)).isNil) = true then
    bindC (FX 6 [(r3.getD 2 D.nil)]) 2 fun r6 =>
      some [(r6.getD 0 D.nil)]
    else
    some [(D.bool false)]
  else
  if (!((r3.getD 1 D.nil)).isNil) = true then
    if (!((r3.getD 0 D.nil)).isNil) = true then
      bindC (FX 6 [(r3.getD 2 D.nil)]) 2 fun r6 =>
        some [(r6.getD 0 D.nil)]
      else
      some [(D.bool false)]
    else
    if (decide ((((x1).toL).length : Int) > (100 : Int))) = true then
      if (!((r3.getD 0 D.nil)).isNil) = true then
        bindC (FX 6 [(r3.getD 2 D.nil)]) 2 fun r6 =>
          some [(r6.getD 0 D.nil)]
        else
        some [(D.bool false)]
      else
      if (decide ((((x2).toL).length : Int) > (100 : Int))) = true then
        if (!((r3.getD 0 D.nil)).isNil) = true then
          bindC (FX 6 [(r3.getD 2 D.nil)]) 2 fun r6 =>
            some [(r6.getD 0 D.nil)]
          else
          some [(D.bool false)]
        else
        bindC (FX 7 [(r3.getD 0 D.nil), x1, (r3.getD 2 D.nil)]) 1 fun r6 =>
          bindC (FX 12 [(r3.getD 0 D.nil), (r6.getD 0 D.nil)]) 1 fun r7 =>
          bindC (FX 13 [(r3.getD 0 D.nil), (r6.getD 0 D.nil)]) 2 fun r8 =>
          bindC (FX 7 [(r8.getD 0 D.nil), x2, (r8.getD 1 D.nil)]) 1 fun r10 =>
          bindC (FX 12 [(r3.getD 0 D.nil), (r10.getD 0 D.nil)]) 1 fun r11 =>
          bindC (FX 11 [(r11.getD 0 D.nil), (r7.getD 0 D.nil)]) 1 fun r12 =>
          if (!((r12.getD 0 D.nil)).toBool) = true then
          some [(D.bool false)]
          else
          bindC (FX 7 [(r3.getD 0 D.nil), x2, (r10.getD 0 D.nil)]) 1 fun r13 =>
            bindC (FX 6 [(r13.getD 0 D.nil)]) 2 fun r14 =>
            if ((r14.getD 0 D.nil)).toBool = true then
            bindC (FX 12 [(r3.getD 0 D.nil), (r14.getD 1 D.nil)]) 1 fun r16 =>
              bindC (FX 12 [(r8.getD 0 D.nil), (r14.getD 1 D.nil)]) 1 fun r17 =>
              bindC (FX 11 [(r16.getD 0 D.nil), (r17.getD 0 D.nil)]) 1 fun r18 =>
              if ((r18.getD 0 D.nil)).toBool = true then
              bindC (FX 14 [(r3.getD 0 D.nil), (r14.getD 1 D.nil)]) 1 fun r19 =>
                bindC (FX 14 [(r8.getD 0 D.nil), (r14.getD 1 D.nil)]) 1 fun r20 =>
                if (((r19.getD 0 D.nil)).toInt == ((r20.getD 0 D.nil)).toInt) = true then
                bindC (FX 15 [(r3.getD 0 D.nil), (r14.getD 1 D.nil)]) 5 fun r21 =>
                  bindC (FX 15 [(r8.getD 0 D.nil), (r14.getD 1 D.nil)]) 5 fun r26 =>
                  some [(D.bool ((((r21.getD 0 D.nil)).toInt == ((r26.getD 0 D.nil)).toInt) && ((((r21.getD 1 D.nil)).toInt == ((r26.getD 1 D.nil)).toInt) && ((((r21.getD 2 D.nil)).toInt == ((r26.getD 2 D.nil)).toInt) && ((((r21.getD 3 D.nil)).toInt == ((r26.getD 3 D.nil)).toInt) && (((r21.getD 4 D.nil)).toBool == ((r26.getD 4 D.nil)).toBool))))))]
                else
                some [(D.bool false)]
              else
              some [(D.bool false)]
            else
            some [(D.bool false)] := (fixP_eq (t := T_law03_MemTwins) (by rfl) _).trans (by kernel_rfl)
noncomputable def W_law01_Num_1 (x0 : D) : Eng.Fn := loopF fun g xs => evalP FX B_law01_Num_1 ([] ++ [g]) ([x0] ++ xs)
theorem W_law01_Num_1_eq (x0 : D) (a0 : D) : W_law01_Num_1 x0 [a0] =
  if (decide ((a0).toInt < (30 : Int))) = true then
  bindC (FX 21 [x0, (D.iface 49 a0)]) 1 fun r2 =>
    if ((r2.getD 0 D.nil)).toBool = true then
    some [a0]
    else
    (W_law01_Num_1 x0) [(D.int (IntKind.i64.wrap ((a0).toInt + (1 : Int))))]
  else
  some [(D.int (-1 : Int))] := (loopP_eq FX B_law01_Num_1 [] [x0] _).trans (by kernel_rfl)
theorem E_law01_Num (x0 : D) : FX 16 [x0] =
  if (x0).isNil = true then
  some [(D.int (0 : Int))]
  else
  W_law01_Num_1 x0 [(D.int (1 : Int))] := (fixP_eq (t := T_law01_Num) (by rfl) _).trans (by kernel_rfl)
theorem E_p_mem_Mem_Len (x0 x1 : D) : FX 17 [x0, x1] =
  if (x0).isNil = true then
  some [(D.int (0 : Int))]
  else
  if (!(x0).isNil) = true then
    some [(D.int (((((((((x1).toL).getD ((x0).toInt).toNat D.nil)).toL).getD 0 D.nil)).toL).length : Int))]
    else none := (fixP_eq (t := T_p_mem_Mem_Len) (by rfl) _).trans (by kernel_rfl)
theorem E_law03_MemNil (x0 x1 : D) : FX 4 [x0, x1] =
  bindC (FX 8 [D.nil, x0, (D.agg [])]) 3 fun r2 =>
  bindC (FX 10 [D.nil, x0, x1, x1, (r2.getD 2 D.nil)]) 3 fun r5 =>
  bindC (FX 6 [(r5.getD 2 D.nil)]) 2 fun r8 =>
  if ((r8.getD 0 D.nil)).toBool = true then
  bindC (FX 16 [(r2.getD 1 D.nil)]) 1 fun r10 =>
    if (((r10.getD 0 D.nil)).toInt == (2 : Int)) = true then
    bindC (FX 16 [(r5.getD 1 D.nil)]) 1 fun r11 =>
      if (((r11.getD 0 D.nil)).toInt == (2 : Int)) = true then
      bindC (FX 9 [D.nil, x0, x1, (r8.getD 1 D.nil)]) 2 fun r12 =>
        bindC (FX 16 [(r12.getD 0 D.nil)]) 1 fun r14 =>
        if (((r14.getD 0 D.nil)).toInt == (2 : Int)) = true then
        bindC (FX 17 [D.nil, (r12.getD 1 D.nil)]) 1 fun r15 =>
          if (((r15.getD 0 D.nil)).toInt == (0 : Int)) = true then
          bindC (FX 14 [D.nil, (r12.getD 1 D.nil)]) 1 fun r16 =>
            if (((r16.getD 0 D.nil)).toInt == (0 : Int)) = true then
            bindC (FX 15 [D.nil, (r12.getD 1 D.nil)]) 5 fun r17 =>
              if ((((r17.getD 0 D.nil)).toInt == (0 : Int)) && ((((r17.getD 1 D.nil)).toInt == (0 : Int)) && ((((r17.getD 2 D.nil)).toInt == (0 : Int)) && ((((r17.getD 3 D.nil)).toInt == (0 : Int)) && (((r17.getD 4 D.nil)).toBool == false))))) = true then
              bindC (FX 12 [D.nil, (r12.getD 1 D.nil)]) 1 fun r22 =>
                if (((((r22.getD 0 D.nil)).toL).length : Int) == (0 : Int)) = true then
                bindC (FX 13 [D.nil, (r12.getD 1 D.nil)]) 2 fun r23 =>
                  some [(D.bool ((r23.getD 0 D.nil)).isNil)]
                else
                some [(D.bool false)]
              else
              some [(D.bool false)]
            else
            some [(D.bool false)]
          else
          some [(D.bool false)]
        else
        some [(D.bool false)]
      else
      some [(D.bool false)]
    else
    some [(D.bool false)]
  else
  some [(D.bool false)] := (fixP_eq (t := T_law03_MemNil) (by rfl) _).trans (by kernel_rfl)
end Go.Proofs.Ytjhgpkojdiedgaa
