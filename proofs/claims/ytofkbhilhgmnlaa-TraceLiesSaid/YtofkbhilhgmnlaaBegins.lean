/-
  TraceBegins, on data.
-/
import Derived.Test.YtofkbhilhgmnlaaTrC
namespace Go.Proofs.Ytofkbhilhgmnlaa.TrD
open Go.Proofs.Ytofkbhilhgmnlaa.Eng Go.Proofs.Ytofkbhilhgmnlaa Go.Proofs.Ytofkbhilhgmnlaa.Dat Go.Proofs.Ytofkbhilhgmnlaa.Open
set_option linter.unusedVariables false
set_option linter.unusedSimpArgs false
set_option maxRecDepth 10000

def evd (l : List Ev) : D := .agg (l.map Ev.d)
theorem evd_l (l : List Ev) : (evd l).toL = l.map Ev.d := rfl
theorem run_snoc (c : RU.Cf) : ∀ (l : List Ev) (os : List Od) (now : Int) (e : Ev), runF c os now (l ++ [e]) = (doF c (runF c os now l).1 (runF c os now l).2 e).2
  | [], _, _, _ => rfl
  | x :: l, os, now, e => run_snoc c l _ _ e
theorem run_app (c : RU.Cf) : ∀ (l m : List Ev) (os : List Od) (now : Int), runF c os now (l ++ m) = runF c (runF c os now l).1 (runF c os now l).2 m
  | [], _, _, _ => rfl
  | x :: l, m, os, now => run_app c l m _ _
def hp (c : RU.Cf) (r : List Od × Int) : D := .agg [mdl c r.1 r.2]
theorem hp_do {c : RU.Cf} (hc : c.ok) (r : List Od × Int) (hi : Inv c r.1) (hl : r.1.length ≤ 100000) (e : Ev) : FX 9 (.int 0 :: e.ds ++ [hp c r]) = some [err (doF c r.1 r.2 e).1, hp c (doF c r.1 r.2 e).2] :=
  do_eq (H := [mdl c r.1 r.2]) (n := 0) hc rfl (by simp) hl hi e
theorem hp_orders {c : RU.Cf} (r : List Od × Int) (hl : r.1.length ≤ 100000) : FX 10 [.int 0, hp c r] = some [osd r.1] := orders_eq (H := [mdl c r.1 r.2]) (n := 0) rfl hl
theorem run_take {c : RU.Cf} (r : List Od × Int) (l : List Ev) (j : Nat) (hj : j < l.length) : (doF c (runF c r.1 r.2 (l.take j)).1 (runF c r.1 r.2 (l.take j)).2 l[j]).2 = runF c r.1 r.2 (l.take (j + 1)) := by
  rw [List.take_succ_eq_append_getElem hj, run_snoc]
theorem inv0 (c : RU.Cf) : Inv c [] := fun _ h => by cases h
section
variable (x0 x1 x2 x3 x4 x5 x6 x9 x10 x11 x12 x13 x14 x15 x16 x18 x19 x20 x22 x23 : D)
theorem begins3 (l m : D) (a b : List Od) (h : LeL a b) (ha : a.length ≤ 100000) (H : List D) (g0 g1 : Eng.Fn) :
    W_law09_TraceBegins_3 x0 x1 x2 x3 x4 x5 x6 l m x9 x10 x11 x12 x13 x14 x15 x16 (.int 0) x18 x19 x20 (osd a) x22 (.agg H) (osd b) g0 g1 [.int 0] = some [.bool true] := by
  have h0 := loop_from (W_law09_TraceBegins_3 x0 x1 x2 x3 x4 x5 x6 l m x9 x10 x11 x12 x13 x14 x15 x16 (.int 0) x18 x19 x20 (osd a) x22 (.agg H) (osd b) g0 g1) (fun j => [.int (j : Nat)]) a.length (s0 := [.int 0]) rfl (fun j hj => by
    have hb : j < b.length := Nat.lt_of_lt_of_le hj h.len
    have h1 : (j : Int) < (a.length : Int) := by omega
    have h2 : (j : Int) < (b.length : Int) := by omega
    have le := h.le j hj
    rw [W_law09_TraceBegins_3_eq]
    by_cases hf : (at? a j).fin = 0
    · have l1 : ¬ (at? a j).left < (at? b j).left := by have := le.left; omega
      have l2 : ¬ (at? b j).fills < (at? a j).fills := by have := le.fills; omega
      simp only [h1, h2, getD_os hj, getD_os hb, D.toInt_int, D.toL_agg, D.toBool_bool, Int.toNat_natCast, od0, od1, od2, od3, od4, od5, od6, od7, od8, od9, od10, od11, od12, osd_l, int_isNil, Bool.not_false, Bool.not_true, if_true, ge_iff_le, Int.natCast_nonneg, decide_true, decide_false, Bool.false_eq_true, if_false, List.length_map, bindC, List.length_cons, List.length_nil, List.getD_cons_zero, List.getD_cons_succ, nil_isNil, code_isNil, bne_self_eq_false, beq_self_eq_true, Bool.and_self, Int.lt_irrefl, gt_iff_lt, hf, l1, l2, le.cell, le.gen, le.name, le.side, le.price, le.least, le.till, le.qty, wj (show j < 9000000000000000 by omega)]
      by_cases hk : (at? a j).ask = true
      · simp only [hk, le.ask hk, D.toInt_int, D.toL_agg, D.toBool_bool, Int.toNat_natCast, od0, od1, od2, od3, od4, od5, od6, od7, od8, od9, od10, od11, od12, osd_l, int_isNil, Bool.not_false, Bool.not_true, if_true, ge_iff_le, Int.natCast_nonneg, decide_true, decide_false, Bool.false_eq_true, if_false, List.length_map, bindC, List.length_cons, List.length_nil, List.getD_cons_zero, List.getD_cons_succ, nil_isNil, code_isNil, bne_self_eq_false, beq_self_eq_true, Bool.and_self, Int.lt_irrefl, gt_iff_lt]
      · rw [if_neg hk]
    · have e : at? b j = at? a j := le.fin hf
      have hf' : ((at? a j).fin != 0) = true := by simpa using hf
      simp only [h1, h2, getD_os hj, getD_os hb, D.toInt_int, D.toL_agg, D.toBool_bool, Int.toNat_natCast, od0, od1, od2, od3, od4, od5, od6, od7, od8, od9, od10, od11, od12, osd_l, int_isNil, Bool.not_false, Bool.not_true, if_true, ge_iff_le, Int.natCast_nonneg, decide_true, decide_false, Bool.false_eq_true, if_false, List.length_map, bindC, List.length_cons, List.length_nil, List.getD_cons_zero, List.getD_cons_succ, nil_isNil, code_isNil, bne_self_eq_false, beq_self_eq_true, Bool.and_self, Int.lt_irrefl, gt_iff_lt, hf', e, wj (show j < 9000000000000000 by omega)]
      by_cases hk : (at? a j).ask = true
      · simp only [hk, D.toInt_int, D.toL_agg, D.toBool_bool, Int.toNat_natCast, od0, od1, od2, od3, od4, od5, od6, od7, od8, od9, od10, od11, od12, osd_l, int_isNil, Bool.not_false, Bool.not_true, if_true, ge_iff_le, Int.natCast_nonneg, decide_true, decide_false, Bool.false_eq_true, if_false, List.length_map, bindC, List.length_cons, List.length_nil, List.getD_cons_zero, List.getD_cons_succ, nil_isNil, code_isNil, bne_self_eq_false, beq_self_eq_true, Bool.and_self, Int.lt_irrefl, gt_iff_lt]
      · rw [if_neg hk])
  refine h0.trans ?_
  rw [W_law09_TraceBegins_3_eq]
  simp only [D.toInt_int, D.toL_agg, D.toBool_bool, Int.toNat_natCast, od0, od1, od2, od3, od4, od5, od6, od7, od8, od9, od10, od11, od12, osd_l, int_isNil, Bool.not_false, Bool.not_true, if_true, ge_iff_le, Int.natCast_nonneg, decide_true, decide_false, Bool.false_eq_true, if_false, List.length_map, bindC, List.length_cons, List.length_nil, List.getD_cons_zero, List.getD_cons_succ, nil_isNil, code_isNil, bne_self_eq_false, beq_self_eq_true, Bool.and_self, Int.lt_irrefl, gt_iff_lt, Int.lt_irrefl]
  exact awake_all H
theorem begins2 {c : RU.Cf} (hc : c.ok) (l : D) (m : List Ev) (hm : m.length ≤ 40) (r : List Od × Int) (hi : Inv c r.1) (hl : r.1.length ≤ 40) (g0 : Eng.Fn) :
    W_law09_TraceBegins_2 x0 x1 x2 x3 x4 x5 x6 l (evd m) x9 x10 x11 x12 x13 x14 x15 x16 (.int 0) x18 x19 x20 (osd r.1) g0 [.int 0, hp c r] = some [.bool true] := by
  have hk : ∀ j, j ≤ m.length → LeL r.1 (runF c r.1 r.2 (m.take j)).1 ∧ Inv c (runF c r.1 r.2 (m.take j)).1 ∧ (runF c r.1 r.2 (m.take j)).1.length ≤ 80 := fun j hj => by
    obtain ⟨a, b, d⟩ := run_kept hc (m.take j) r.1 r.2 hi
    exact ⟨a, b, by simp only [List.length_take] at d; omega⟩
  have h0 := loop_from (W_law09_TraceBegins_2 x0 x1 x2 x3 x4 x5 x6 l (evd m) x9 x10 x11 x12 x13 x14 x15 x16 (.int 0) x18 x19 x20 (osd r.1) g0) (fun j => [.int (j : Nat), hp c (runF c r.1 r.2 (m.take j))]) m.length (s0 := [.int 0, hp c r]) rfl (fun j hj => by
    have h1 : (j : Int) < (m.length : Int) := by omega
    obtain ⟨k1, k2, k3⟩ := hk j (by omega)
    have hd := hp_do hc (runF c r.1 r.2 (m.take j)) k2 (by omega) m[j]
    rw [run_take r m j hj] at hd
    unfold Ev.ds at hd
    simp only [List.cons_append, List.nil_append] at hd
    rw [W_law09_TraceBegins_2_eq]
    simp only [h1, evd_l, getD_map Ev.d hj, Ev.d, Ev.ds, hd, D.toInt_int, D.toL_agg, D.toBool_bool, Int.toNat_natCast, od0, od1, od2, od3, od4, od5, od6, od7, od8, od9, od10, od11, od12, osd_l, int_isNil, Bool.not_false, Bool.not_true, if_true, ge_iff_le, Int.natCast_nonneg, decide_true, decide_false, Bool.false_eq_true, if_false, List.length_map, bindC, List.length_cons, List.length_nil, List.getD_cons_zero, List.getD_cons_succ, nil_isNil, code_isNil, bne_self_eq_false, beq_self_eq_true, Bool.and_self, Int.lt_irrefl, gt_iff_lt, wj (show j < 9000000000000000 by omega)])
  refine h0.trans ?_
  rw [W_law09_TraceBegins_2_eq]
  obtain ⟨k1, k2, k3⟩ := hk m.length (by omega)
  rw [List.take_length] at k1 k2 k3 ⊢
  have hlen : ¬ ((runF c r.1 r.2 m).1.length : Int) < (r.1.length : Int) := by have := k1.len; omega
  simp only [evd_l, hp_orders (runF c r.1 r.2 m) (by omega), hlen, D.toInt_int, D.toL_agg, D.toBool_bool, Int.toNat_natCast, od0, od1, od2, od3, od4, od5, od6, od7, od8, od9, od10, od11, od12, osd_l, int_isNil, Bool.not_false, Bool.not_true, if_true, ge_iff_le, Int.natCast_nonneg, decide_true, decide_false, Bool.false_eq_true, if_false, List.length_map, bindC, List.length_cons, List.length_nil, List.getD_cons_zero, List.getD_cons_succ, nil_isNil, code_isNil, bne_self_eq_false, beq_self_eq_true, Bool.and_self, Int.lt_irrefl, gt_iff_lt]
  exact begins3 _ _ _ _ _ _ _ _ _ _ _ _ _ _ _ _ _ _ _ _ _ _ _ k1 (by omega) _ _ _
theorem begins1 {c : RU.Cf} (hc : c.ok) (l m : List Ev) (hl : l.length ≤ 40) (hm : m.length ≤ 40) :
    W_law09_TraceBegins_1 x0 x1 x2 x3 x4 x5 x6 (evd l) (evd m) x9 x10 x11 x12 x13 x14 x15 x16 (.int 0) x18 [.int 0, hp c ([], 0)] = some [.bool true] := by
  have hk : ∀ j, j ≤ l.length → Inv c (runF c [] 0 (l.take j)).1 ∧ (runF c [] 0 (l.take j)).1.length ≤ 40 := fun j hj => by
    obtain ⟨a, b, d⟩ := run_kept hc (l.take j) [] 0 (inv0 c)
    exact ⟨b, by simp only [List.length_take, List.length_nil] at d; omega⟩
  have h0 := loop_from (W_law09_TraceBegins_1 x0 x1 x2 x3 x4 x5 x6 (evd l) (evd m) x9 x10 x11 x12 x13 x14 x15 x16 (.int 0) x18) (fun j => [.int (j : Nat), hp c (runF c [] 0 (l.take j))]) l.length (s0 := [.int 0, hp c ([], 0)]) rfl (fun j hj => by
    have h1 : (j : Int) < (l.length : Int) := by omega
    obtain ⟨k2, k3⟩ := hk j (by omega)
    have hd := hp_do hc (runF c [] 0 (l.take j)) k2 (by omega) l[j]
    rw [run_take ([], 0) l j hj] at hd
    unfold Ev.ds at hd
    simp only [List.cons_append, List.nil_append] at hd
    rw [W_law09_TraceBegins_1_eq]
    simp only [h1, evd_l, getD_map Ev.d hj, Ev.d, Ev.ds, hd, D.toInt_int, D.toL_agg, D.toBool_bool, Int.toNat_natCast, od0, od1, od2, od3, od4, od5, od6, od7, od8, od9, od10, od11, od12, osd_l, int_isNil, Bool.not_false, Bool.not_true, if_true, ge_iff_le, Int.natCast_nonneg, decide_true, decide_false, Bool.false_eq_true, if_false, List.length_map, bindC, List.length_cons, List.length_nil, List.getD_cons_zero, List.getD_cons_succ, nil_isNil, code_isNil, bne_self_eq_false, beq_self_eq_true, Bool.and_self, Int.lt_irrefl, gt_iff_lt, wj (show j < 9000000000000000 by omega)])
  refine h0.trans ?_
  rw [W_law09_TraceBegins_1_eq]
  obtain ⟨k2, k3⟩ := hk l.length (by omega)
  rw [List.take_length] at k2 k3 ⊢
  simp only [evd_l, hp_orders (runF c [] 0 l) (by omega), D.toInt_int, D.toL_agg, D.toBool_bool, Int.toNat_natCast, od0, od1, od2, od3, od4, od5, od6, od7, od8, od9, od10, od11, od12, osd_l, int_isNil, Bool.not_false, Bool.not_true, if_true, ge_iff_le, Int.natCast_nonneg, decide_true, decide_false, Bool.false_eq_true, if_false, List.length_map, bindC, List.length_cons, List.length_nil, List.getD_cons_zero, List.getD_cons_succ, nil_isNil, code_isNil, bne_self_eq_false, beq_self_eq_true, Bool.and_self, Int.lt_irrefl, gt_iff_lt]
  exact begins2 _ _ _ _ _ _ _ _ _ _ _ _ _ _ _ _ _ _ hc _ m hm _ k2 k3 _
end
theorem begins_law (c : RU.Cf) (l m : List Ev) : FX 3 (c.ds ++ [evd l, evd m]) = some [.bool true] := by
  have hn := RU.new_eq c
  have hnw := new_eq [] c
  unfold RU.Cf.ds at hn hnw ⊢
  simp only [List.cons_append, List.nil_append] at hn hnw ⊢
  rw [E_law09_TraceBegins]
  have haw := awake_all []
  simp only [bindC] at haw
  cases hb : RU.firstBad c.lims 0 with
  | some p =>
    obtain ⟨j, e⟩ := p
    simp only [hb] at hn
    have he : (RU.errAt j e).isNil = false := rfl
    simp only [hn, he, D.toInt_int, D.toL_agg, D.toBool_bool, Int.toNat_natCast, od0, od1, od2, od3, od4, od5, od6, od7, od8, od9, od10, od11, od12, osd_l, int_isNil, Bool.not_false, Bool.not_true, if_true, ge_iff_le, Int.natCast_nonneg, decide_true, decide_false, Bool.false_eq_true, if_false, List.length_map, bindC, List.length_cons, List.length_nil, List.getD_cons_zero, List.getD_cons_succ, nil_isNil, code_isNil, bne_self_eq_false, beq_self_eq_true, Bool.and_self, Int.lt_irrefl, gt_iff_lt]
    exact haw
  | none =>
    have hc := (RU.firstBad_none c).1 hb
    simp only [hb] at hn
    simp only [hn, hnw, evd_l, D.toInt_int, D.toL_agg, D.toBool_bool, Int.toNat_natCast, od0, od1, od2, od3, od4, od5, od6, od7, od8, od9, od10, od11, od12, osd_l, int_isNil, Bool.not_false, Bool.not_true, if_true, ge_iff_le, Int.natCast_nonneg, decide_true, decide_false, Bool.false_eq_true, if_false, List.length_map, bindC, List.length_cons, List.length_nil, List.getD_cons_zero, List.getD_cons_succ, nil_isNil, code_isNil, bne_self_eq_false, beq_self_eq_true, Bool.and_self, Int.lt_irrefl, gt_iff_lt]
    by_cases h1 : 40 < (l.length : Int)
    · simp only [h1, D.toInt_int, D.toL_agg, D.toBool_bool, Int.toNat_natCast, od0, od1, od2, od3, od4, od5, od6, od7, od8, od9, od10, od11, od12, osd_l, int_isNil, Bool.not_false, Bool.not_true, if_true, ge_iff_le, Int.natCast_nonneg, decide_true, decide_false, Bool.false_eq_true, if_false, List.length_map, bindC, List.length_cons, List.length_nil, List.getD_cons_zero, List.getD_cons_succ, nil_isNil, code_isNil, bne_self_eq_false, beq_self_eq_true, Bool.and_self, Int.lt_irrefl, gt_iff_lt]; exact haw
    by_cases h2 : 40 < (m.length : Int)
    · simp only [h1, h2, D.toInt_int, D.toL_agg, D.toBool_bool, Int.toNat_natCast, od0, od1, od2, od3, od4, od5, od6, od7, od8, od9, od10, od11, od12, osd_l, int_isNil, Bool.not_false, Bool.not_true, if_true, ge_iff_le, Int.natCast_nonneg, decide_true, decide_false, Bool.false_eq_true, if_false, List.length_map, bindC, List.length_cons, List.length_nil, List.getD_cons_zero, List.getD_cons_succ, nil_isNil, code_isNil, bne_self_eq_false, beq_self_eq_true, Bool.and_self, Int.lt_irrefl, gt_iff_lt]; exact haw
    simp only [h1, h2, D.toInt_int, D.toL_agg, D.toBool_bool, Int.toNat_natCast, od0, od1, od2, od3, od4, od5, od6, od7, od8, od9, od10, od11, od12, osd_l, int_isNil, Bool.not_false, Bool.not_true, if_true, ge_iff_le, Int.natCast_nonneg, decide_true, decide_false, Bool.false_eq_true, if_false, List.length_map, bindC, List.length_cons, List.length_nil, List.getD_cons_zero, List.getD_cons_succ, nil_isNil, code_isNil, bne_self_eq_false, beq_self_eq_true, Bool.and_self, Int.lt_irrefl, gt_iff_lt]
    exact begins1 _ _ _ _ _ _ _ _ _ _ _ _ _ _ _ _ hc l m (by omega) (by omega)
theorem evs_of {d : D} (w : Wf Try.prog (.slice 37) d) : ∃ l : List Ev, d = evd l := by
  obtain ⟨l, rfl, _⟩ := w.structs (f := Ev.d) (Q := fun _ => True) (ts := i14) (by kernel_rfl) (by decide) (fun ys hy => by obtain ⟨e, rfl⟩ := ev_of hy; exact ⟨e, rfl, trivial⟩)
  exact ⟨l, rfl⟩
theorem begins (x0 : List D) (d1 d2 : D) (w0 : Open.AllF Try.prog [.int .i64, .int .i64, .int .i64, .int .i64, .int .i64, .int .i64, .int .i64] x0) (w1 : Wf Try.prog (.slice 37) d1) (w2 : Wf Try.prog (.slice 37) d2) : FX 3 (x0 ++ [d1, d2]) = some [.bool true] := by
  obtain ⟨c, rfl⟩ := cf_of w0
  obtain ⟨l, rfl⟩ := evs_of w1
  obtain ⟨m, rfl⟩ := evs_of w2
  exact begins_law c l m
end Go.Proofs.Ytofkbhilhgmnlaa.TrD
