/-
  Plan on data: rounds, what numbers draw, what weights say.
-/
import Derived.Test.YtankedgkiecgaaaPlE
namespace Go.Proofs.Ytankedgkiecgaaa.PlanD
open Go.Proofs.Ytankedgkiecgaaa.Eng Go.Proofs.Ytankedgkiecgaaa Go.Proofs.Ytankedgkiecgaaa.Dat Go.Proofs.Ytankedgkiecgaaa.Open
set_option linter.unusedVariables false
set_option linter.unusedSimpArgs false
set_option maxRecDepth 10000

def clm (M n : Int) : Nat := (max 0 (min n M)).toNat
theorem clm_expr (M n : Int) (hM : 0 ≤ M) : (if (decide (((if (decide (M < (D.int n).toInt)) = true then (D.int M) else D.int n)).toInt > (0 : Int))) = true then (if (decide (M < (D.int n).toInt)) = true then (D.int M) else D.int n) else (D.int (0 : Int))) = .int (clm M n : Nat) := by
  unfold clm
  by_cases h1 : M < n
  · have e1 : (if (decide (M < (D.int n).toInt)) = true then (D.int M) else D.int n) = .int M := if_pos (decide_eq_true h1)
    rw [e1]
    by_cases h2 : M > 0
    · refine (if_pos (decide_eq_true h2)).trans ?_
      congr 1; omega
    · refine (if_neg (fun h => h2 (of_decide_eq_true h))).trans ?_
      congr 1; omega
  · have e1 : (if (decide (M < (D.int n).toInt)) = true then (D.int M) else D.int n) = .int n := if_neg (fun h => h1 (of_decide_eq_true h))
    rw [e1]
    by_cases h2 : n > 0
    · refine (if_pos (decide_eq_true h2)).trans ?_
      congr 1; omega
    · refine (if_neg (fun h => h2 (of_decide_eq_true h))).trans ?_
      congr 1; omega
theorem min_expr (M n : Int) : (if (decide (M < (D.int n).toInt)) = true then (D.int M) else D.int n) = .int (min n M) := by
  by_cases h1 : M < n
  · refine (if_pos (decide_eq_true h1)).trans ?_
    congr 1; omega
  · refine (if_neg (fun h => h1 (of_decide_eq_true h))).trans ?_
    congr 1; omega
def up (a : Nat) : List Int := (List.range a).map fun x : Nat => (x : Int)
theorem up_succ (a : Nat) : up (a + 1) = up a ++ [(a : Int)] := by simp [up, List.range_succ]
theorem up_len (a : Nat) : (up a).length = a := by simp [up]
def times (x : List Int) : Nat → List Int
  | 0 => []
  | k + 1 => times x k ++ x
theorem times_len (x : List Int) : ∀ k, (times x k).length = k * x.length
  | 0 => by simp [times]
  | k + 1 => by simp [times, times_len x k, Nat.add_mul]
theorem pick12 (a : Int) : FX 37 [.int a] = some [.int 3, .int a, .int 0, .int 0, .int 0, .int 0, .int 0, .int 0, .int 0, .int 0, .int 0, .int 0] := by rw [E_plan_pick]
theorem pk_nat (a : Nat) : ev (a : Int) = pk (a : Int) := ev_pos (by omega)
theorem evs_app (l : List Int) (a : Int) (h : ¬ a < 0) : D.agg (l.map ev ++ [D.agg [.int 3, .int a, .int 0, .int 0, .int 0, .int 0, .int 0, .int 0, .int 0, .int 0, .int 0, .int 0]]) = evs (l ++ [a]) := by
  simp only [evs, List.map_append, List.map_cons, List.map_nil, ev_pos h, pk]
theorem round_eq {c : Cf} (h : c.ok) (n : Int) : FX 25 [.int c.c0, .int c.c1, .int c.c2, .int c.c3, .int c.c4, .int c.c5, .int c.c6, .int n] = some [evs (times (up (ag c)) (clm 4096 n))] := by
  obtain ⟨⟨hA1, hA2⟩, _⟩ := ag_ok h
  have ha := agents_eq h
  simp only [RU.Cf.ds] at ha
  rw [E_plan_Round]
  generalize ag c = A at *
  have hK : clm 4096 n ≤ 4096 := by unfold clm; omega
  have hB := loop_from (W_plan_Round_1 (.int c.c0) (.int c.c1) (.int c.c2) (.int c.c3) (.int c.c4) (.int c.c5) (.int c.c6) (.int n)) (fun k => [.int (k : Nat), evs (times (up A) k)]) (clm 4096 n) (s0 := [.int 0, .agg []]) (by simp [times, evs]) (fun k hk => by
    have h1 : (k : Int) < (clm 4096 n : Int) := by omega
    rw [W_plan_Round_1_eq, clm_expr 4096 n (by decide)]
    simp only [D.toInt_int, h1, decide_true, if_true, ha, bindC, List.length_cons, List.length_nil, List.getD_cons_zero]
    generalize W_plan_Round_1 (.int c.c0) (.int c.c1) (.int c.c2) (.int c.c3) (.int c.c4) (.int c.c5) (.int c.c6) (.int n) = g0
    have hlen := times_len (up A) k
    rw [up_len] at hlen
    have hmul : k * A ≤ 4096 * 30 := Nat.mul_le_mul (by omega) hA2
    have hC := loop_from (W_plan_Round_2 (.int c.c0) (.int c.c1) (.int c.c2) (.int c.c3) (.int c.c4) (.int c.c5) (.int c.c6) (.int n) (.int k) (evs (times (up A) k)) (.int (A : Nat)) g0) (fun i => [.int (i : Nat), evs (times (up A) k ++ up i)]) A (s0 := [.int 0, evs (times (up A) k)]) (by simp [up]) (fun i hi => by
      have h1 : (i : Int) < (A : Int) := by omega
      have hb : ∀ x : D, ((((times (up A) k ++ up i).map ev ++ [x]).length : Nat) : Int) ≤ 1466015503701 := fun x => by simp [up_len, hlen]; omega
      rw [W_plan_Round_2_eq]
      simp only [D.toInt_int, evs_l, h1, decide_true, if_true, pick12, bindC, List.length_cons, List.length_nil, List.getD_cons_zero, List.getD_cons_succ, wj (show i < 9000000000000000 by omega)]
      rw [if_pos (decide_eq_true (hb _))]
      rw [evs_app _ _ (by omega), List.append_assoc, ← up_succ])
    rw [hC, W_plan_Round_2_eq]
    simp only [D.toInt_int, Int.lt_irrefl, decide_false, Bool.false_eq_true, if_false, wj (show k < 9000000000000000 by omega)]
    rfl)
  rw [hB, W_plan_Round_1_eq, clm_expr 4096 n (by decide)]
  simp only [D.toInt_int, Int.lt_irrefl, decide_false, Bool.false_eq_true, if_false]
def pickZ (A : Nat) (x : Int) : Int := if x.tmod A < 0 then x.tmod A + A else x.tmod A
theorem pickZ_ok (A : Nat) (hA : 0 < A) (hA2 : A ≤ 30) (x : Int) : 0 ≤ pickZ A x ∧ pickZ A x < A := by
  unfold pickZ
  have h1 := Int.tmod_lt_of_pos x (show (0 : Int) < (A : Int) by omega)
  have h2 : -(A : Int) < x.tmod A := by
    have := Int.tmod_lt_of_pos (-x) (show (0 : Int) < (A : Int) by omega)
    rw [Int.neg_tmod] at this
    omega
  split <;> omega
theorem refPick_eq (A : Nat) (hA : 0 < A) (hA2 : A ≤ 30) (x : Int) : FX 22 [.int x, .int (A : Nat)] = some [.int (pickZ A x)] := by
  have hp := pickZ_ok A hA hA2 x
  have h1 : ¬ (A : Int) < 1 := by omega
  have h2 : ((A : Int) != 0) = true := by simp; omega
  rw [E_ref04_Pick]
  simp only [D.toInt_int, h1, decide_false, Bool.false_eq_true, if_false, h2, if_true]
  unfold pickZ at hp ⊢
  by_cases h : x.tmod A < 0
  · rw [if_pos h] at hp ⊢
    simp only [h, decide_true, if_true]
    rw [i64w _ (by omega) (by omega)]
  · rw [if_neg h] at hp ⊢
    simp only [h, decide_false, Bool.false_eq_true, if_false]
theorem tickPick_eq (A : Nat) (hA : 0 < A) (hA2 : A ≤ 30) (x : Int) : FX 38 [.int x, .int (A : Nat)] = some [.int (pickZ A x)] := by
  rw [← refPick_eq A hA hA2 x, E_ref04_Pick, E_tick_Pick]
theorem drawn_eq {c : Cf} (h : c.ok) (l : List Int) (hl : l.length ≤ 1000000) : FX 24 [.int c.c0, .int c.c1, .int c.c2, .int c.c3, .int c.c4, .int c.c5, .int c.c6, ints l] = some [evs (l.map (pickZ (ag c)))] := by
  obtain ⟨⟨hA1, hA2⟩, _⟩ := ag_ok h
  have ha := agents_eq h
  simp only [RU.Cf.ds] at ha
  rw [E_plan_Drawn]
  generalize ag c = A at *
  have hB := loop_from (W_plan_Drawn_1 (.int c.c0) (.int c.c1) (.int c.c2) (.int c.c3) (.int c.c4) (.int c.c5) (.int c.c6) (ints l)) (fun j => [.int (j : Nat), evs ((l.take j).map (pickZ A))]) l.length (s0 := [.int 0, .agg []]) (by simp [evs]) (fun j hj => by
    have h1 : (j : Int) < (l.length : Int) := by omega
    have hb : ∀ x : D, (((((l.take j).map (pickZ A)).map ev ++ [x]).length : Nat) : Int) ≤ 1466015503701 := fun x => by simp; omega
    have hz := (pickZ_ok A (by omega) hA2 l[j]).1
    rw [W_plan_Drawn_1_eq, List.take_succ_eq_append_getElem hj, List.map_append, List.map_cons, List.map_nil]
    simp only [D.toInt_int, ints_l, evs_l, List.length_map, h1, decide_true, if_true, ge_iff_le, Int.natCast_nonneg, Int.toNat_natCast, getD_map D.int hj, wj (show j < 9000000000000000 by omega), ha, tickPick_eq A (by omega) hA2, pick12, bindC, List.length_cons, List.length_nil, List.getD_cons_zero, List.getD_cons_succ]
    rw [if_pos (decide_eq_true (hb _)), evs_app _ _ (by omega)])
  rw [hB, W_plan_Drawn_1_eq]
  simp only [D.toInt_int, ints_l, List.length_map, Int.lt_irrefl, decide_false, Bool.false_eq_true, if_false, List.take_length]
/-! Weights. -/
def wt (ws : List Int) : List Int := ws.zipIdx.flatMap fun p => List.replicate (clm 64 p.1) (p.2 : Int)
theorem wt_snoc (ws : List Int) (x : Int) : wt (ws ++ [x]) = wt ws ++ List.replicate (clm 64 x) (ws.length : Int) := by
  simp [wt, List.zipIdx_append]
theorem clm_le (n : Int) : clm 64 n ≤ 64 := by unfold clm; omega
theorem wt_len (ws : List Int) : (wt ws).length ≤ ws.length * 64 := by
  suffices h : ∀ r : List Int, (wt r.reverse).length ≤ r.length * 64 by
    have := h ws.reverse
    simpa using this
  intro r
  induction r with
  | nil => simp [wt]
  | cons x r ih =>
    rw [List.reverse_cons, wt_snoc, List.length_append, List.length_replicate, List.length_cons, Nat.add_mul]
    have := clm_le x
    omega
theorem weighted_eq (ws : List Int) (hw : ws.length ≤ 20) (n : Int) : FX 26 [ints ws, .int n] = some [evs (times (wt ws) (clm 4096 n))] := by
  rw [E_plan_Weighted]
  have hK : clm 4096 n ≤ 4096 := by unfold clm; omega
  have hB := loop_from (W_plan_Weighted_1 (ints ws) (.int n)) (fun k => [.int (k : Nat), evs (times (wt ws) k)]) (clm 4096 n) (s0 := [.int 0, .agg []]) (by simp [times, evs]) (fun k hk => by
    have h1 : (k : Int) < (clm 4096 n : Int) := by omega
    rw [W_plan_Weighted_1_eq, clm_expr 4096 n (by decide)]
    simp only [D.toInt_int, h1, decide_true, if_true]
    generalize W_plan_Weighted_1 (ints ws) (.int n) = g0
    have hlen := times_len (wt ws) k
    have hwl := wt_len ws
    have hmul : k * (wt ws).length ≤ 4096 * (20 * 64) := Nat.mul_le_mul (by omega) (by omega)
    have hC := loop_from (W_plan_Weighted_2 (ints ws) (.int n) (.int k) (evs (times (wt ws) k)) g0) (fun i => [.int (i : Nat), evs (times (wt ws) k ++ wt (ws.take i))]) ws.length (s0 := [.int 0, evs (times (wt ws) k)]) (by simp [wt]) (fun i hi => by
      have h1 : (i : Int) < (ws.length : Int) := by omega
      have hg : ((ints ws).toL).getD ((D.int (i : Int)).toInt).toNat D.nil = .int ws[i] := getD_map D.int hi
      have hti : (ws.take i).length = i := by simp; omega
      have hwl2 := wt_len (ws.take i)
      have hcl : clamp (min ws[i] 64) = clm 64 ws[i] := by unfold clamp clm; omega
      have hcle := clm_le ws[i]
      have hb : ((((times (wt ws) k ++ wt (ws.take i)).map ev ++ List.replicate (clm 64 ws[i]) (pk (i : Int))).length : Nat) : Int) ≤ 1466015503701 := by simp [hlen]; omega
      rw [W_plan_Weighted_2_eq, hg, min_expr, List.take_succ_eq_append_getElem hi, wt_snoc, hti]
      simp only [D.toInt_int, D.toL_agg, ints_l, evs_l, List.length_map, h1, decide_true, if_true, ge_iff_le, Int.natCast_nonneg, burst_eq, hcl, bindC, List.length_cons, List.length_nil, List.getD_cons_zero, wj (show i < 9000000000000000 by omega)]
      rw [if_pos (decide_eq_true hb)]
      rw [evs_rep (i : Int) (by omega), ← List.map_append, List.append_assoc]
      rfl)
    rw [hC, W_plan_Weighted_2_eq]
    simp only [D.toInt_int, ints_l, List.length_map, Int.lt_irrefl, decide_false, Bool.false_eq_true, if_false, wj (show k < 9000000000000000 by omega), List.take_length]
    rfl)
  rw [hB, W_plan_Weighted_1_eq, clm_expr 4096 n (by decide)]
  simp only [D.toInt_int, Int.lt_irrefl, decide_false, Bool.false_eq_true, if_false]
end Go.Proofs.Ytankedgkiecgaaa.PlanD
