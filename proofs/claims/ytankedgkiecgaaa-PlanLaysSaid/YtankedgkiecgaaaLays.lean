/-
  PlanLays on data.
-/
import Derived.Test.YtankedgkiecgaaaPlF
import Derived.Test.YtankedgkiecgaaaCounts
namespace Go.Proofs.Ytankedgkiecgaaa.PlanD
open Go.Proofs.Ytankedgkiecgaaa.Eng Go.Proofs.Ytankedgkiecgaaa Go.Proofs.Ytankedgkiecgaaa.Dat Go.Proofs.Ytankedgkiecgaaa.Open
set_option linter.unusedVariables false
set_option linter.unusedSimpArgs false
set_option maxRecDepth 10000

theorem lays3 {c : Cf} (hc : c.ok) (agent n : Int) (nums ws : List Int) (hw : ws.length ≤ 20) (k : Nat) (hk : k ≤ 64) (x20 x21 : D) (g0 g1 : Eng.Fn) :
    W_law21_PlanLays_3 (.int c.c0) (.int c.c1) (.int c.c2) (.int c.c3) (.int c.c4) (.int c.c5) (.int c.c6) (.int agent) (.int n) (ints nums) (ints ws) (.int c.c0) (.int c.c1) (.int c.c2) (.int c.c3) (.int c.c4) (.int c.c5) (.int c.c6) .nil (.int (-1)) x20 x21 (.int k) (ints (times (up (ag c)) k)) (ints (times (wt ws) k)) g0 g1 [.int 0, ints (times (up (ag c)) k)] = g1 [.int ((k + 1 : Nat) : Int), ints (times (up (ag c)) (k + 1)), ints (times (wt ws) (k + 1))] := by
  obtain ⟨⟨hA1, hA2⟩, _, hA3⟩ := ag_ok hc
  generalize ag c = A at *
  have hlen := times_len (up A) k
  rw [up_len] at hlen
  have hmul : k * A ≤ 64 * 30 := Nat.mul_le_mul hk hA2
  have hlen2 := times_len (wt ws) k
  have hwl := wt_len ws
  have hmul2 : k * (wt ws).length ≤ 64 * (20 * 64) := Nat.mul_le_mul hk (by omega)
  have hC := loop_from (W_law21_PlanLays_3 (.int c.c0) (.int c.c1) (.int c.c2) (.int c.c3) (.int c.c4) (.int c.c5) (.int c.c6) (.int agent) (.int n) (ints nums) (ints ws) (.int c.c0) (.int c.c1) (.int c.c2) (.int c.c3) (.int c.c4) (.int c.c5) (.int c.c6) .nil (.int (-1)) x20 x21 (.int k) (ints (times (up A) k)) (ints (times (wt ws) k)) g0 g1) (fun i => [.int (i : Nat), ints (times (up A) k ++ up i)]) A (s0 := [.int 0, ints (times (up A) k)]) (by simp [up]) (fun i hi => by
    have h1 : (i : Int) < (A : Int) := by omega
    have hb : ∀ x : D, ((((times (up A) k ++ up i).map D.int ++ [x]).length : Nat) : Int) ≤ 17592186044416 := fun x => by simp [up_len, hlen]; omega
    rw [W_law21_PlanLays_3_eq]
    simp only [D.toInt_int, ints_l, hA3, h1, decide_true, if_true, wj (show i < 9000000000000000 by omega)]
    simp only [hb, decide_true, if_true]
    rw [up_succ]
    simp [ints])
  rw [hC, W_law21_PlanLays_3_eq]
  simp only [D.toInt_int, hA3, Int.lt_irrefl, decide_false, Bool.false_eq_true, if_false]
  generalize W_law21_PlanLays_3 (.int c.c0) (.int c.c1) (.int c.c2) (.int c.c3) (.int c.c4) (.int c.c5) (.int c.c6) (.int agent) (.int n) (ints nums) (ints ws) (.int c.c0) (.int c.c1) (.int c.c2) (.int c.c3) (.int c.c4) (.int c.c5) (.int c.c6) .nil (.int (-1)) x20 x21 (.int k) (ints (times (up A) k)) (ints (times (wt ws) k)) g0 g1 = g2
  have hD := loop_from (W_law21_PlanLays_4 (.int c.c0) (.int c.c1) (.int c.c2) (.int c.c3) (.int c.c4) (.int c.c5) (.int c.c6) (.int agent) (.int n) (ints nums) (ints ws) (.int c.c0) (.int c.c1) (.int c.c2) (.int c.c3) (.int c.c4) (.int c.c5) (.int c.c6) .nil (.int (-1)) x20 x21 (.int k) (ints (times (up A) k)) (ints (times (wt ws) k)) (.int A) (ints (times (up A) k ++ up A)) g0 g1 g2) (fun i => [.int (i : Nat), ints (times (wt ws) k ++ wt (ws.take i))]) ws.length (s0 := [.int 0, ints (times (wt ws) k)]) (by simp [wt]) (fun i hi => by
    have h1 : (i : Int) < (ws.length : Int) := by omega
    have hti : (ws.take i).length = i := by simp; omega
    have hwl2 := wt_len (ws.take i)
    rw [W_law21_PlanLays_4_eq, List.take_succ_eq_append_getElem hi, wt_snoc, hti]
    simp only [D.toInt_int, ints_l, List.length_map, h1, decide_true, if_true, ge_iff_le, Int.natCast_nonneg]
    generalize W_law21_PlanLays_4 (.int c.c0) (.int c.c1) (.int c.c2) (.int c.c3) (.int c.c4) (.int c.c5) (.int c.c6) (.int agent) (.int n) (ints nums) (ints ws) (.int c.c0) (.int c.c1) (.int c.c2) (.int c.c3) (.int c.c4) (.int c.c5) (.int c.c6) .nil (.int (-1)) x20 x21 (.int k) (ints (times (up A) k)) (ints (times (wt ws) k)) (.int A) (ints (times (up A) k ++ up A)) g0 g1 g2 = g3
    have hg : ((ints ws).toL).getD ((D.int (i : Int)).toInt).toNat D.nil = .int ws[i] := getD_map D.int hi
    have hcle := clm_le ws[i]
    have hE := loop_from (W_law21_PlanLays_5 (.int c.c0) (.int c.c1) (.int c.c2) (.int c.c3) (.int c.c4) (.int c.c5) (.int c.c6) (.int agent) (.int n) (ints nums) (ints ws) (.int c.c0) (.int c.c1) (.int c.c2) (.int c.c3) (.int c.c4) (.int c.c5) (.int c.c6) .nil (.int (-1)) x20 x21 (.int k) (ints (times (up A) k)) (ints (times (wt ws) k)) (.int A) (ints (times (up A) k ++ up A)) (.int i) (ints (times (wt ws) k ++ wt (ws.take i))) g0 g1 g2 g3) (fun j => [.int (j : Nat), ints (times (wt ws) k ++ wt (ws.take i) ++ List.replicate j (i : Int))]) (clm 64 ws[i]) (s0 := [.int 0, ints (times (wt ws) k ++ wt (ws.take i))]) (by simp) (fun j hj => by
      have h1 : (j : Int) < (clm 64 ws[i] : Int) := by omega
      have hb : ∀ x : D, ((((times (wt ws) k ++ wt (ws.take i) ++ List.replicate j (i : Int)).map D.int ++ [x]).length : Nat) : Int) ≤ 17592186044416 := fun x => by simp [hlen2]; omega
      rw [W_law21_PlanLays_5_eq, hg, clm_expr 64 _ (by decide)]
      simp only [D.toInt_int, ints_l, h1, decide_true, if_true, wj (show j < 9000000000000000 by omega)]
      simp only [hb, decide_true, if_true]
      rw [List.replicate_succ']
      simp [ints])
    rw [hE, W_law21_PlanLays_5_eq, hg, clm_expr 64 _ (by decide)]
    simp only [D.toInt_int, Int.lt_irrefl, decide_false, Bool.false_eq_true, if_false, wj (show i < 9000000000000000 by omega), List.append_assoc])
  rw [hD, W_law21_PlanLays_4_eq]
  simp only [D.toInt_int, ints_l, List.length_map, Int.lt_irrefl, decide_false, Bool.false_eq_true, if_false, List.take_length, wj (show k < 9000000000000000 by omega)]
  rfl
theorem clm_nest (M m n : Int) (h : 0 ≤ m ∧ m ≤ M) : clm M (clm m n : Nat) = clm m n := by unfold clm; omega
theorem evs_nat (l : List Int) : (evs l).toL.length = l.length := by simp
theorem lays6 {c : Cf} (hc : c.ok) (agent n : Int) (nums ws : List Int) (hn : nums.length ≤ 200) (hw : ws.length ≤ 20) (x20 x22 : D) (g0 g1 : Eng.Fn) :
    W_law21_PlanLays_6 (.int c.c0) (.int c.c1) (.int c.c2) (.int c.c3) (.int c.c4) (.int c.c5) (.int c.c6) (.int agent) (.int n) (ints nums) (ints ws) (.int c.c0) (.int c.c1) (.int c.c2) (.int c.c3) (.int c.c4) (.int c.c5) (.int c.c6) .nil (.int (-1)) x20 (ints (List.replicate (clm 65536 n) agent)) x22 (ints (times (up (ag c)) (clm 64 n))) (ints (times (wt ws) (clm 64 n))) g0 g1 [.int 0, .agg []] = some [.bool true] := by
  obtain ⟨⟨hA1, hA2⟩, _, hA3⟩ := ag_ok hc
  have hK := clm_le n
  have hdr := drawn_eq hc nums (by omega)
  have hro := round_eq hc (clm 64 n : Nat)
  have hwe := weighted_eq ws hw (clm 64 n : Nat)
  rw [clm_nest 4096 64 n (by decide)] at hro hwe
  have hR : ∀ k, k ≤ 64 → (times (up (ag c)) k).length ≤ 1000000000 := fun k hk => by
    rw [times_len, up_len]
    have : k * ag c ≤ 64 * 30 := Nat.mul_le_mul hk hA2
    omega
  have hW : ∀ k, k ≤ 64 → (times (wt ws) k).length ≤ 1000000000 := fun k hk => by
    rw [times_len]
    have := wt_len ws
    have : k * (wt ws).length ≤ 64 * (20 * 64) := Nat.mul_le_mul hk (by omega)
    omega
  have h := loop_from (W_law21_PlanLays_6 (.int c.c0) (.int c.c1) (.int c.c2) (.int c.c3) (.int c.c4) (.int c.c5) (.int c.c6) (.int agent) (.int n) (ints nums) (ints ws) (.int c.c0) (.int c.c1) (.int c.c2) (.int c.c3) (.int c.c4) (.int c.c5) (.int c.c6) .nil (.int (-1)) x20 (ints (List.replicate (clm 65536 n) agent)) x22 (ints (times (up (ag c)) (clm 64 n))) (ints (times (wt ws) (clm 64 n))) g0 g1) (fun j => [.int (j : Nat), ints ((nums.take j).map (pickZ (ag c)))]) nums.length (s0 := [.int 0, .agg []]) (by simp [ints]) (fun j hj => by
    have h1 : (j : Int) < (nums.length : Int) := by omega
    have hb : ∀ x : D, (((((nums.take j).map (pickZ (ag c))).map D.int ++ [x]).length : Nat) : Int) ≤ 17592186044416 := fun x => by simp; omega
    rw [W_law21_PlanLays_6_eq, List.take_succ_eq_append_getElem hj, List.map_append, List.map_cons, List.map_nil]
    simp only [D.toInt_int, ints_l, List.length_map, h1, decide_true, if_true, ge_iff_le, Int.natCast_nonneg, Int.toNat_natCast, getD_map D.int hj, wj (show j < 9000000000000000 by omega), hA3, refPick_eq (ag c) (by omega) hA2, bindC, List.length_cons, List.length_nil, List.getD_cons_zero]
    simp only [hb, decide_true, if_true]
    simp [ints])
  rw [h, W_law21_PlanLays_6_eq, clm_expr 64 n (by decide)]
  have hNlen : (List.replicate (clm 65536 n) agent).length ≤ 1000000000 := by
    rw [List.length_replicate]; unfold clm; omega
  have hcl : clamp n = clm 65536 n := rfl
  have hnm : (nums.map (pickZ (ag c))).length ≤ 1000000000 := by rw [List.length_map]; omega
  simp only [D.toInt_int, ints_l, List.length_map, Int.lt_irrefl, decide_false, Bool.false_eq_true, if_false, List.take_length]
  by_cases ha : agent < 0
  · simp only [ha, decide_true, if_true, awake_eq, burst_eq, hcl, hdr, same_eq _ hnm, bindC, List.length_cons, List.length_nil, List.getD_cons_zero, D.toBool_bool, D.toL_agg, List.length_replicate, beq_self_eq_true]
  · have hbu : D.agg (List.replicate (clm 65536 n) (pk agent)) = evs (List.replicate (clm 65536 n) agent) := by rw [evs_rep agent ha]; rfl
    simp only [ha, decide_false, Bool.false_eq_true, if_false, awake_eq, burst_eq, hcl, hdr, hro, hwe, hbu, same_eq _ hnm, same_eq _ hNlen, same_eq _ (hR _ hK), same_eq _ (hW _ hK), bindC, List.length_cons, List.length_nil, List.getD_cons_zero, D.toBool_bool, if_true]
theorem lays_law (c : Cf) (agent n : Int) (nums ws : List Int) : FX 5 [.int c.c0, .int c.c1, .int c.c2, .int c.c3, .int c.c4, .int c.c5, .int c.c6, .int agent, .int n, ints nums, ints ws] = some [.bool true] := by
  rw [E_law21_PlanLays]
  by_cases hc : c.ok
  · obtain ⟨e1, e2⟩ := new_ok hc
    have hm : ¬ (-1 : Int) ≥ 0 := by decide
    have hm2 : (-1 : Int) < 0 := by decide
    simp only [e1, e2, bindC, List.length_cons, List.length_nil, if_true, List.getD_cons_zero, List.getD_cons_succ, D.toInt_int, hm, decide_false, Bool.false_eq_true, if_false, ints_l, List.length_map, awake_eq, D.toBool_bool, D.isNil_nil, hm2, decide_true, beq_self_eq_true]
    by_cases h1 : (nums.length : Int) > 200
    · simp only [h1, decide_true, if_true]
    · by_cases h2 : (ws.length : Int) > 20
      · simp only [h1, h2, decide_true, decide_false, Bool.false_eq_true, if_true, if_false]
      · simp only [h1, h2, decide_false, Bool.false_eq_true, if_false]
        have hN : clm 65536 n ≤ 65536 := by unfold clm; omega
        have h := loop_from (W_law21_PlanLays_1 (.int c.c0) (.int c.c1) (.int c.c2) (.int c.c3) (.int c.c4) (.int c.c5) (.int c.c6) (.int agent) (.int n) (ints nums) (ints ws) (.int c.c0) (.int c.c1) (.int c.c2) (.int c.c3) (.int c.c4) (.int c.c5) (.int c.c6) .nil (.int (-1))) (fun j => [.int (j : Nat), ints (List.replicate j agent)]) (clm 65536 n) (s0 := [.int 0, .agg []]) (by simp [ints]) (fun j hj => by
          have h1 : (j : Int) < (clm 65536 n : Int) := by omega
          have hb : ∀ x : D, ((((List.replicate j agent).map D.int ++ [x]).length : Nat) : Int) ≤ 17592186044416 := fun x => by simp; omega
          rw [W_law21_PlanLays_1_eq, clm_expr 65536 n (by decide)]
          simp only [D.toInt_int, ints_l, h1, decide_true, if_true, wj (show j < 9000000000000000 by omega)]
          simp only [hb, decide_true, if_true]
          rw [List.replicate_succ']
          simp [ints])
        refine h.trans ?_
        rw [W_law21_PlanLays_1_eq, clm_expr 65536 n (by decide)]
        simp only [D.toInt_int, Int.lt_irrefl, decide_false, Bool.false_eq_true, if_false]
        generalize W_law21_PlanLays_1 (.int c.c0) (.int c.c1) (.int c.c2) (.int c.c3) (.int c.c4) (.int c.c5) (.int c.c6) (.int agent) (.int n) (ints nums) (ints ws) (.int c.c0) (.int c.c1) (.int c.c2) (.int c.c3) (.int c.c4) (.int c.c5) (.int c.c6) .nil (.int (-1)) = g0
        have hK := clm_le n
        have h' := loop_from (W_law21_PlanLays_2 (.int c.c0) (.int c.c1) (.int c.c2) (.int c.c3) (.int c.c4) (.int c.c5) (.int c.c6) (.int agent) (.int n) (ints nums) (ints ws) (.int c.c0) (.int c.c1) (.int c.c2) (.int c.c3) (.int c.c4) (.int c.c5) (.int c.c6) .nil (.int (-1)) (.int (clm 65536 n : Nat)) (ints (List.replicate (clm 65536 n) agent)) g0) (fun k => [.int (k : Nat), ints (times (up (ag c)) k), ints (times (wt ws) k)]) (clm 64 n) (s0 := [.int 0, .agg [], .agg []]) (by simp [times, ints]) (fun k hk => by
          have h1 : (k : Int) < (clm 64 n : Int) := by omega
          rw [W_law21_PlanLays_2_eq, clm_expr 64 n (by decide)]
          simp only [D.toInt_int, h1, decide_true, if_true]
          exact lays3 hc agent n nums ws (by omega) k (by omega) _ _ _ _)
        rw [h', W_law21_PlanLays_2_eq, clm_expr 64 n (by decide)]
        simp only [D.toInt_int, Int.lt_irrefl, decide_false, Bool.false_eq_true, if_false]
        exact lays6 hc agent n nums ws (by omega) (by omega) _ _ _ _
  · obtain ⟨e, r0, r1, r2, r3, r4, r5, r6, j, he, e1, e2⟩ := new_bad hc
    have hj : (j : Int) ≥ 0 := by omega
    have hj2 : ¬ (j : Int) < 0 := by omega
    simp only [e1, e2, bindC, List.length_cons, List.length_nil, if_true, List.getD_cons_zero, List.getD_cons_succ, D.toInt_int, hj, decide_true, awake_eq, D.toBool_bool, he, hj2, decide_false, beq_self_eq_true]
theorem lays (x0 : List D) (d1 d2 d3 d4 : D) (w0 : Open.AllF Try.prog [.int .i64, .int .i64, .int .i64, .int .i64, .int .i64, .int .i64, .int .i64] x0) (w1 : Wf Try.prog (.int .i64) d1) (w2 : Wf Try.prog (.int .i64) d2) (w3 : Wf Try.prog (.slice 3) d3) (w4 : Wf Try.prog (.slice 3) d4) : FX 5 (x0 ++ [d1, d2, d3, d4]) = some [.bool true] := by
  obtain ⟨c, rfl⟩ := cf_of w0
  obtain ⟨a, rfl, _⟩ := w1.toInt
  obtain ⟨b, rfl, _⟩ := w2.toInt
  obtain ⟨l, rfl, _⟩ := w3.ints (k := .i64) (by kernel_rfl)
  obtain ⟨m, rfl, _⟩ := w4.ints (k := .i64) (by kernel_rfl)
  exact lays_law c a b l m
end Go.Proofs.Ytankedgkiecgaaa.PlanD
