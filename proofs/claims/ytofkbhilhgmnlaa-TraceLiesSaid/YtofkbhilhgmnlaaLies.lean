/-
  TraceLies, on data.
-/
import Derived.Test.YtofkbhilhgmnlaaBegins
namespace Go.Proofs.Ytofkbhilhgmnlaa.TrD
open Go.Proofs.Ytofkbhilhgmnlaa.Eng Go.Proofs.Ytofkbhilhgmnlaa Go.Proofs.Ytofkbhilhgmnlaa.Dat Go.Proofs.Ytofkbhilhgmnlaa.Open
set_option linter.unusedVariables false
set_option linter.unusedSimpArgs false
set_option maxRecDepth 10000

section
variable (x0 x1 x2 x3 x4 x5 x6 x22 x23 x24 x25 x26 x27 x28 x29 x31 x32 x33 x35 : D)
theorem lies2 (l : D) (e : Ev) (a : List Od) (ha : a.length ≤ 100000) (H : List D) (g0 : Eng.Fn) :
    W_law09_TraceLies_2 x0 x1 x2 x3 x4 x5 x6 l (.int e.kind) (.int e.cell) (.int e.gen) (.int e.other) (.int e.with') (.int e.name) (.int e.side) (.int e.price) (.int e.least) (.int e.till) (.int e.qty) (.int e.at') (.int e.tick) (.int e.fin) x22 x23 x24 x25 x26 x27 x28 x29 (.int 0) x31 x32 x33 (osd a) x35 (.agg H) (osd a) g0 [.int 0] = some [.bool true] := by
  have h0 := loop_from (W_law09_TraceLies_2 x0 x1 x2 x3 x4 x5 x6 l (.int e.kind) (.int e.cell) (.int e.gen) (.int e.other) (.int e.with') (.int e.name) (.int e.side) (.int e.price) (.int e.least) (.int e.till) (.int e.qty) (.int e.at') (.int e.tick) (.int e.fin) x22 x23 x24 x25 x26 x27 x28 x29 (.int 0) x31 x32 x33 (osd a) x35 (.agg H) (osd a) g0) (fun j => [.int (j : Nat)]) a.length (s0 := [.int 0]) rfl (fun j hj => by
    have h1 : (j : Int) < (a.length : Int) := by omega
    rw [W_law09_TraceLies_2_eq]
    simp only [h1, getD_os hj, D.toInt_int, D.toL_agg, D.toBool_bool, Int.toNat_natCast, od0, od1, od2, od3, od4, od5, od6, od7, od8, od9, od10, od11, od12, osd_l, int_isNil, Bool.not_false, Bool.not_true, if_true, ge_iff_le, Int.natCast_nonneg, decide_true, decide_false, Bool.false_eq_true, if_false, List.length_map, bindC, List.length_cons, List.length_nil, List.getD_cons_zero, List.getD_cons_succ, nil_isNil, code_isNil, bne_self_eq_false, beq_self_eq_true, Bool.and_self, Int.lt_irrefl, gt_iff_lt, wj (show j < 9000000000000000 by omega)])
  refine h0.trans ?_
  rw [W_law09_TraceLies_2_eq]
  simp only [D.toInt_int, D.toL_agg, D.toBool_bool, Int.toNat_natCast, od0, od1, od2, od3, od4, od5, od6, od7, od8, od9, od10, od11, od12, osd_l, int_isNil, Bool.not_false, Bool.not_true, if_true, ge_iff_le, Int.natCast_nonneg, decide_true, decide_false, Bool.false_eq_true, if_false, List.length_map, bindC, List.length_cons, List.length_nil, List.getD_cons_zero, List.getD_cons_succ, nil_isNil, code_isNil, bne_self_eq_false, beq_self_eq_true, Bool.and_self, Int.lt_irrefl, gt_iff_lt, Int.lt_irrefl]
  exact awake_all H
theorem lies1 {c : RU.Cf} (hc : c.ok) (l : List Ev) (e : Ev) (hl : l.length ≤ 40) :
    W_law09_TraceLies_1 x0 x1 x2 x3 x4 x5 x6 (evd l) (.int e.kind) (.int e.cell) (.int e.gen) (.int e.other) (.int e.with') (.int e.name) (.int e.side) (.int e.price) (.int e.least) (.int e.till) (.int e.qty) (.int e.at') (.int e.tick) (.int e.fin) x22 x23 x24 x25 x26 x27 x28 x29 (.int 0) x31 [.int 0, hp c ([], 0)] = some [.bool true] := by
  have hk : ∀ j, j ≤ l.length → Inv c (runF c [] 0 (l.take j)).1 ∧ (runF c [] 0 (l.take j)).1.length ≤ 40 := fun j hj => by
    obtain ⟨a, b, d⟩ := run_kept hc (l.take j) [] 0 (inv0 c)
    exact ⟨b, by simp only [List.length_take, List.length_nil] at d; omega⟩
  have h0 := loop_from (W_law09_TraceLies_1 x0 x1 x2 x3 x4 x5 x6 (evd l) (.int e.kind) (.int e.cell) (.int e.gen) (.int e.other) (.int e.with') (.int e.name) (.int e.side) (.int e.price) (.int e.least) (.int e.till) (.int e.qty) (.int e.at') (.int e.tick) (.int e.fin) x22 x23 x24 x25 x26 x27 x28 x29 (.int 0) x31) (fun j => [.int (j : Nat), hp c (runF c [] 0 (l.take j))]) l.length (s0 := [.int 0, hp c ([], 0)]) rfl (fun j hj => by
    have h1 : (j : Int) < (l.length : Int) := by omega
    obtain ⟨k2, k3⟩ := hk j (by omega)
    have hd := hp_do hc (runF c [] 0 (l.take j)) k2 (by omega) l[j]
    rw [run_take ([], 0) l j hj] at hd
    unfold Ev.ds at hd
    simp only [List.cons_append, List.nil_append] at hd
    rw [W_law09_TraceLies_1_eq]
    simp only [h1, evd_l, getD_map Ev.d hj, Ev.d, Ev.ds, hd, D.toInt_int, D.toL_agg, D.toBool_bool, Int.toNat_natCast, od0, od1, od2, od3, od4, od5, od6, od7, od8, od9, od10, od11, od12, osd_l, int_isNil, Bool.not_false, Bool.not_true, if_true, ge_iff_le, Int.natCast_nonneg, decide_true, decide_false, Bool.false_eq_true, if_false, List.length_map, bindC, List.length_cons, List.length_nil, List.getD_cons_zero, List.getD_cons_succ, nil_isNil, code_isNil, bne_self_eq_false, beq_self_eq_true, Bool.and_self, Int.lt_irrefl, gt_iff_lt, wj (show j < 9000000000000000 by omega)])
  refine h0.trans ?_
  rw [W_law09_TraceLies_1_eq]
  obtain ⟨k2, k3⟩ := hk l.length (by omega)
  rw [List.take_length] at k2 k3 ⊢
  have hd := hp_do hc (runF c [] 0 l) k2 (by omega) e
  unfold Ev.ds at hd
  simp only [List.cons_append, List.nil_append] at hd
  simp only [evd_l, hp_orders (runF c [] 0 l) (by omega), hd, D.toInt_int, D.toL_agg, D.toBool_bool, Int.toNat_natCast, od0, od1, od2, od3, od4, od5, od6, od7, od8, od9, od10, od11, od12, osd_l, int_isNil, Bool.not_false, Bool.not_true, if_true, ge_iff_le, Int.natCast_nonneg, decide_true, decide_false, Bool.false_eq_true, if_false, List.length_map, bindC, List.length_cons, List.length_nil, List.getD_cons_zero, List.getD_cons_succ, nil_isNil, code_isNil, bne_self_eq_false, beq_self_eq_true, Bool.and_self, Int.lt_irrefl, gt_iff_lt]
  by_cases h : (doF c (runF c [] 0 l).1 (runF c [] 0 l).2 e).1 = 0
  · simp only [h, err0, D.toInt_int, D.toL_agg, D.toBool_bool, Int.toNat_natCast, od0, od1, od2, od3, od4, od5, od6, od7, od8, od9, od10, od11, od12, osd_l, int_isNil, Bool.not_false, Bool.not_true, if_true, ge_iff_le, Int.natCast_nonneg, decide_true, decide_false, Bool.false_eq_true, if_false, List.length_map, bindC, List.length_cons, List.length_nil, List.getD_cons_zero, List.getD_cons_succ, nil_isNil, code_isNil, bne_self_eq_false, beq_self_eq_true, Bool.and_self, Int.lt_irrefl, gt_iff_lt]
    exact awake_all _
  · have e1 := (do_kept hc k2 (runF c [] 0 l).2 e).2.2.1 h
    rw [e1]
    simp only [err_ne h, hp_orders (runF c [] 0 l) (by omega), D.toInt_int, D.toL_agg, D.toBool_bool, Int.toNat_natCast, od0, od1, od2, od3, od4, od5, od6, od7, od8, od9, od10, od11, od12, osd_l, int_isNil, Bool.not_false, Bool.not_true, if_true, ge_iff_le, Int.natCast_nonneg, decide_true, decide_false, Bool.false_eq_true, if_false, List.length_map, bindC, List.length_cons, List.length_nil, List.getD_cons_zero, List.getD_cons_succ, nil_isNil, code_isNil, bne_self_eq_false, beq_self_eq_true, Bool.and_self, Int.lt_irrefl, gt_iff_lt]
    exact lies2 _ _ _ _ _ _ _ _ _ _ _ _ _ _ _ _ _ _ _ _ e _ (by omega) _ _
end
theorem lies_law (c : RU.Cf) (l : List Ev) (e : Ev) : FX 4 (c.ds ++ evd l :: e.ds) = some [.bool true] := by
  have hn := RU.new_eq c
  have hnw := new_eq [] c
  unfold RU.Cf.ds at hn hnw ⊢
  unfold Ev.ds
  simp only [List.cons_append, List.nil_append] at hn hnw ⊢
  rw [E_law09_TraceLies]
  have haw := awake_all []
  simp only [bindC] at haw
  cases hb : RU.firstBad c.lims 0 with
  | some p =>
    obtain ⟨j, e⟩ := p
    simp only [hb] at hn
    have he : (RU.errAt j e).isNil = false := rfl
    simp only [hn, he, D.toInt_int, D.toL_agg, D.toBool_bool, Int.toNat_natCast, od0, od1, od2, od3, od4, od5, od6, od7, od8, od9, od10, od11, od12, osd_l, int_isNil, Bool.not_false, Bool.not_true, if_true, ge_iff_le, Int.natCast_nonneg, decide_true, decide_false, Bool.false_eq_true, if_false, List.length_map, bindC, List.length_cons, List.length_nil, List.getD_cons_zero, List.getD_cons_succ, nil_isNil, code_isNil, bne_self_eq_false, beq_self_eq_true, Bool.and_self, Int.lt_irrefl, gt_iff_lt]
    exact haw
  | none =>
    have hc := (RU.firstBad_none c).1 hb
    simp only [hb] at hn
    simp only [hn, hnw, evd_l, D.toInt_int, D.toL_agg, D.toBool_bool, Int.toNat_natCast, od0, od1, od2, od3, od4, od5, od6, od7, od8, od9, od10, od11, od12, osd_l, int_isNil, Bool.not_false, Bool.not_true, if_true, ge_iff_le, Int.natCast_nonneg, decide_true, decide_false, Bool.false_eq_true, if_false, List.length_map, bindC, List.length_cons, List.length_nil, List.getD_cons_zero, List.getD_cons_succ, nil_isNil, code_isNil, bne_self_eq_false, beq_self_eq_true, Bool.and_self, Int.lt_irrefl, gt_iff_lt]
    by_cases h1 : 40 < (l.length : Int)
    · simp only [h1, D.toInt_int, D.toL_agg, D.toBool_bool, Int.toNat_natCast, od0, od1, od2, od3, od4, od5, od6, od7, od8, od9, od10, od11, od12, osd_l, int_isNil, Bool.not_false, Bool.not_true, if_true, ge_iff_le, Int.natCast_nonneg, decide_true, decide_false, Bool.false_eq_true, if_false, List.length_map, bindC, List.length_cons, List.length_nil, List.getD_cons_zero, List.getD_cons_succ, nil_isNil, code_isNil, bne_self_eq_false, beq_self_eq_true, Bool.and_self, Int.lt_irrefl, gt_iff_lt]; exact haw
    simp only [h1, D.toInt_int, D.toL_agg, D.toBool_bool, Int.toNat_natCast, od0, od1, od2, od3, od4, od5, od6, od7, od8, od9, od10, od11, od12, osd_l, int_isNil, Bool.not_false, Bool.not_true, if_true, ge_iff_le, Int.natCast_nonneg, decide_true, decide_false, Bool.false_eq_true, if_false, List.length_map, bindC, List.length_cons, List.length_nil, List.getD_cons_zero, List.getD_cons_succ, nil_isNil, code_isNil, bne_self_eq_false, beq_self_eq_true, Bool.and_self, Int.lt_irrefl, gt_iff_lt]
    exact lies1 _ _ _ _ _ _ _ _ _ _ _ _ _ _ _ _ hc l e (by omega)
theorem lies (x0 : List D) (d1 : D) (x2 : List D) (w0 : Open.AllF Try.prog [.int .i64, .int .i64, .int .i64, .int .i64, .int .i64, .int .i64, .int .i64] x0) (w1 : Wf Try.prog (.slice 37) d1) (w2 : Open.AllF Try.prog i14 x2) : FX 4 (x0 ++ d1 :: (x2 ++ [])) = some [.bool true] := by
  rw [List.append_nil]
  obtain ⟨c, rfl⟩ := cf_of w0
  obtain ⟨l, rfl⟩ := evs_of w1
  obtain ⟨m, rfl⟩ := ev_of w2
  exact lies_law c l m
end Go.Proofs.Ytofkbhilhgmnlaa.TrD
