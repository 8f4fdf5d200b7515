/-
  PlanCounts on data.
-/
import Derived.Test.YtankedgkiecgaaaPlE
import Derived.Test.YtankedgkiecgaaaProg
namespace Go.Proofs.Ytankedgkiecgaaa.PlanD
open Go.Proofs.Ytankedgkiecgaaa.Eng Go.Proofs.Ytankedgkiecgaaa Go.Proofs.Ytankedgkiecgaaa.Dat Go.Proofs.Ytankedgkiecgaaa.Open
set_option linter.unusedVariables false
set_option linter.unusedSimpArgs false
set_option maxRecDepth 10000

theorem cf_of {ds : List D} (h : Open.AllF Try.prog [.int .i64, .int .i64, .int .i64, .int .i64, .int .i64, .int .i64, .int .i64] ds) : ∃ c : Cf, ds = c.ds := by
  obtain ⟨_, _, rfl, h0, _, _, rfl, h1, _, _, rfl, h2, _, _, rfl, h3, _, _, rfl, h4, _, _, rfl, h5, _, _, rfl, h6, h⟩ := h
  obtain ⟨c0, rfl, _⟩ := h0.toInt
  obtain ⟨c1, rfl, _⟩ := h1.toInt
  obtain ⟨c2, rfl, _⟩ := h2.toInt
  obtain ⟨c3, rfl, _⟩ := h3.toInt
  obtain ⟨c4, rfl, _⟩ := h4.toInt
  obtain ⟨c5, rfl, _⟩ := h5.toInt
  obtain ⟨c6, rfl, _⟩ := h6.toInt
  have h : _ = [] := h
  subst h
  exact ⟨⟨c0, c1, c2, c3, c4, c5, c6⟩, rfl⟩
/-- What a configuration is taken as. -/
theorem new_ok {c : Cf} (h : c.ok) : FX 14 [.int c.c0, .int c.c1, .int c.c2, .int c.c3, .int c.c4, .int c.c5, .int c.c6] = some [.int c.c0, .int c.c1, .int c.c2, .int c.c3, .int c.c4, .int c.c5, .int c.c6, .nil] ∧ FX 15 [.int c.c0, .int c.c1, .int c.c2, .int c.c3, .int c.c4, .int c.c5, .int c.c6] = some [.int (-1)] := by
  have h1 := RU.new_eq c
  have h2 := RU.check_step c
  rw [(RU.firstBad_none c).2 h] at h1 h2
  exact ⟨h1, h2⟩
theorem new_bad {c : Cf} (h : ¬ c.ok) : ∃ e r0 r1 r2 r3 r4 r5 r6, ∃ j : Nat, e.isNil = false ∧ FX 14 [.int c.c0, .int c.c1, .int c.c2, .int c.c3, .int c.c4, .int c.c5, .int c.c6] = some [r0, r1, r2, r3, r4, r5, r6, e] ∧ FX 15 [.int c.c0, .int c.c1, .int c.c2, .int c.c3, .int c.c4, .int c.c5, .int c.c6] = some [.int (j : Nat)] := by
  have h1 := RU.new_eq c
  have h2 := RU.check_step c
  cases hb : RU.firstBad c.lims 0 with
  | none => exact absurd ((RU.firstBad_none c).1 hb) h
  | some p =>
    obtain ⟨j, e⟩ := p
    rw [hb] at h1 h2
    exact ⟨_, _, _, _, _, _, _, _, j, rfl, h1, h2⟩
theorem counts2 {c : Cf} (hc : c.ok) (l : List Int) (hl : l.length ≤ 100) (agent w : Int) (a : Nat) (ha : a < ag c) (f : Bool) (g0 : Eng.Fn) :
    W_law21_PlanCounts_2 (.int c.c0) (.int c.c1) (.int c.c2) (.int c.c3) (.int c.c4) (.int c.c5) (.int c.c6) (ints l) (.int agent) (.int w) (.int c.c0) (.int c.c1) (.int c.c2) (.int c.c3) (.int c.c4) (.int c.c5) (.int c.c6) .nil (.int (-1)) (evs l) (ints (cnt (ag c) l)) (.bool f) (.int a) g0 [.int 0, .int 0] = g0 [.bool (f && decide ((gapR (a : Int) l : Int) < max w 1)), .int ((a + 1 : Nat) : Int)] := by
  have hA := (ag_ok hc).1
  have h := loop_from (W_law21_PlanCounts_2 (.int c.c0) (.int c.c1) (.int c.c2) (.int c.c3) (.int c.c4) (.int c.c5) (.int c.c6) (ints l) (.int agent) (.int w) (.int c.c0) (.int c.c1) (.int c.c2) (.int c.c3) (.int c.c4) (.int c.c5) (.int c.c6) .nil (.int (-1)) (evs l) (ints (cnt (ag c) l)) (.bool f) (.int a) g0) (fun j => [.int ((l.take j).count (a : Int) : Nat), .int (j : Nat)]) l.length (s0 := [.int 0, .int 0]) (by simp) (fun j hj => by
    have h1 : (j : Int) < (l.length : Int) := by omega
    have hcnt : (l.take j).count (a : Int) ≤ 100 := Nat.le_trans List.count_le_length (by simp; omega)
    rw [W_law21_PlanCounts_2_eq, List.take_succ_eq_append_getElem hj, List.count_append, List.count_singleton]
    simp only [D.toInt_int, ints_l, List.length_map, h1, decide_true, if_true, ge_iff_le, Int.natCast_nonneg, Int.toNat_natCast, getD_map D.int hj, wj (show j < 9000000000000000 by omega), wj (show (l.take j).count (a : Int) < 9000000000000000 by omega)]
    by_cases hx : l[j] = (a : Int)
    · simp only [hx, beq_self_eq_true, if_true]
    · have : (l[j] == (a : Int)) = false := by simpa using hx
      simp only [this, Bool.false_eq_true, if_false, Nat.add_zero])
  rw [h, W_law21_PlanCounts_2_eq]
  have h2 : (a : Int) < (ag c : Int) := by omega
  simp only [D.toInt_int, ints_l, List.length_map, cnt_len, Int.lt_irrefl, decide_false, Bool.false_eq_true, if_false, List.take_length, ge_iff_le, Int.natCast_nonneg, decide_true, if_true, h2, Int.toNat_natCast, cnt_get (ag c) l ha, bne_self_eq_false, D.toBool_bool, wj (show a < 9000000000000000 by omega)]
  cases f with
  | false => simp
  | true =>
    simp only [if_true, refGap_eq (a : Int) l (by omega), bindC, List.length_cons, List.length_nil, List.getD_cons_zero, D.toInt_int, Bool.true_and]
    congr 3
    by_cases hw : (1 : Int) > w
    · simp only [hw, decide_true, if_true, D.toInt_int]
      congr 1
      exact propext (by omega)
    · simp only [hw, decide_false, Bool.false_eq_true, if_false, D.toInt_int]
      congr 1
      exact propext (by omega)
theorem counts3 {c : Cf} (hc : c.ok) (l : List Int) (hl : l.length ≤ 100) (agent w : Int) (x22 : D) (g0 : Eng.Fn) :
    W_law21_PlanCounts_3 (.int c.c0) (.int c.c1) (.int c.c2) (.int c.c3) (.int c.c4) (.int c.c5) (.int c.c6) (ints l) (.int agent) (.int w) (.int c.c0) (.int c.c1) (.int c.c2) (.int c.c3) (.int c.c4) (.int c.c5) (.int c.c6) .nil (.int (-1)) (evs l) (ints (cnt (ag c) l)) (.bool (fairTo w l (ag c))) x22 (.agg ((runs l).map pr)) (.agg ((runs l).map pr)) g0 [.int 0] = some [.bool true] := by
  have hrl : (runs l).length ≤ 100 := by rw [runs_eq_grp]; exact Nat.le_trans (grp_len _ _) hl
  have h := loop_from (W_law21_PlanCounts_3 (.int c.c0) (.int c.c1) (.int c.c2) (.int c.c3) (.int c.c4) (.int c.c5) (.int c.c6) (ints l) (.int agent) (.int w) (.int c.c0) (.int c.c1) (.int c.c2) (.int c.c3) (.int c.c4) (.int c.c5) (.int c.c6) .nil (.int (-1)) (evs l) (ints (cnt (ag c) l)) (.bool (fairTo w l (ag c))) x22 (.agg ((runs l).map pr)) (.agg ((runs l).map pr)) g0) (fun j => [.int (j : Nat)]) (runs l).length (s0 := [.int 0]) (by simp) (fun j hj => by
    have h1 : (j : Int) < ((runs l).length : Int) := by omega
    rw [W_law21_PlanCounts_3_eq]
    simp only [D.toInt_int, D.toL_agg, List.length_map, h1, decide_true, if_true, ge_iff_le, Int.natCast_nonneg, wj (show j < 9000000000000000 by omega), beq_self_eq_true, Bool.and_self, Bool.not_true, Bool.false_eq_true, if_false])
  rw [h, W_law21_PlanCounts_3_eq]
  have hf := fair_eq hc w l (by omega)
  simp only [RU.Cf.ds, List.cons_append, List.nil_append] at hf
  simp only [D.toInt_int, D.toL_agg, List.length_map, Int.lt_irrefl, decide_false, Bool.false_eq_true, if_false, awake_eq, hf, bindC, List.length_cons, List.length_nil, if_true, List.getD_cons_zero, D.toBool_bool, beq_self_eq_true]
  by_cases ha : agent ≥ 0
  · simp only [ha, decide_true, if_true, gap_eq agent ha l (by omega), refGap_eq agent l (by omega), bindC, List.length_cons, List.length_nil, List.getD_cons_zero, D.toInt_int, bne_self_eq_false, Bool.false_eq_true, if_false]
  · simp only [ha, decide_false, Bool.false_eq_true, if_false]
theorem counts_law (c : Cf) (l : List Int) (agent w : Int) : FX 4 [.int c.c0, .int c.c1, .int c.c2, .int c.c3, .int c.c4, .int c.c5, .int c.c6, ints l, .int agent, .int w] = some [.bool true] := by
  rw [E_law21_PlanCounts]
  by_cases hc : c.ok
  · obtain ⟨e1, e2⟩ := new_ok hc
    obtain ⟨hA, hA2, hA3⟩ := ag_ok hc
    have hm : ¬ (-1 : Int) ≥ 0 := by decide
    have hm2 : (-1 : Int) < 0 := by decide
    simp only [e1, e2, bindC, List.length_cons, List.length_nil, if_true, List.getD_cons_zero, List.getD_cons_succ, D.toInt_int, hm, decide_false, Bool.false_eq_true, if_false, ints_l, List.length_map, awake_eq, D.toBool_bool, D.isNil_nil, hm2, decide_true, beq_self_eq_true]
    by_cases h100 : (l.length : Int) > 100
    · simp only [h100, decide_true, if_true]
    · have hl : l.length ≤ 100 := by omega
      have hp := picked_eq hc l (by omega)
      simp only [RU.Cf.ds, List.cons_append, List.nil_append] at hp
      simp only [h100, decide_false, Bool.false_eq_true, if_false, events_eq l (by omega), hp, bindC, List.length_cons, List.length_nil, if_true, List.getD_cons_zero, ints_l, List.length_map, cnt_len, hA3, bne_self_eq_false]
      have h := loop_from (W_law21_PlanCounts_1 (.int c.c0) (.int c.c1) (.int c.c2) (.int c.c3) (.int c.c4) (.int c.c5) (.int c.c6) (ints l) (.int agent) (.int w) (.int c.c0) (.int c.c1) (.int c.c2) (.int c.c3) (.int c.c4) (.int c.c5) (.int c.c6) .nil (.int (-1)) (evs l) (ints (cnt (ag c) l))) (fun a => [.bool (fairTo w l a), .int (a : Nat)]) (ag c) (s0 := [.bool true, .int 0]) (by simp [fairTo]) (fun a ha => by
        have h1 : (a : Int) < (ag c : Int) := by omega
        rw [W_law21_PlanCounts_1_eq]
        simp only [D.toInt_int, hA3, h1, decide_true, if_true]
        refine (counts2 hc l hl agent w a ha _ _).trans ?_
        rw [fairTo_succ])
      refine h.trans ?_
      rw [W_law21_PlanCounts_1_eq]
      simp only [D.toInt_int, hA3, Int.lt_irrefl, decide_false, Bool.false_eq_true, if_false, runs_eq l (by omega), refRuns_eq l (by omega), bindC, List.length_cons, List.length_nil, if_true, List.getD_cons_zero, D.toL_agg, bne_self_eq_false]
      exact counts3 hc l hl agent w _ _
  · obtain ⟨e, r0, r1, r2, r3, r4, r5, r6, j, he, e1, e2⟩ := new_bad hc
    have hj : (j : Int) ≥ 0 := by omega
    have hj2 : ¬ (j : Int) < 0 := by omega
    simp only [e1, e2, bindC, List.length_cons, List.length_nil, if_true, List.getD_cons_zero, List.getD_cons_succ, D.toInt_int, hj, decide_true, awake_eq, D.toBool_bool, he, hj2, decide_false, beq_self_eq_true]
theorem counts (x0 : List D) (d1 d2 d3 : D) (w0 : Open.AllF Try.prog [.int .i64, .int .i64, .int .i64, .int .i64, .int .i64, .int .i64, .int .i64] x0) (w1 : Wf Try.prog (.slice 3) d1) (w2 : Wf Try.prog (.int .i64) d2) (w3 : Wf Try.prog (.int .i64) d3) : FX 4 (x0 ++ [d1, d2, d3]) = some [.bool true] := by
  obtain ⟨c, rfl⟩ := cf_of w0
  obtain ⟨l, rfl, _⟩ := w1.ints (k := .i64) (by kernel_rfl)
  obtain ⟨a, rfl, _⟩ := w2.toInt
  obtain ⟨b, rfl, _⟩ := w3.toInt
  exact counts_law c l a b
end Go.Proofs.Ytankedgkiecgaaa.PlanD
