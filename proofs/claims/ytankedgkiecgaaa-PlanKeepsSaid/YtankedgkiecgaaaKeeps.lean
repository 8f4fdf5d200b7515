/-
  PlanKeeps on data.
-/
import Derived.Test.YtankedgkiecgaaaPlF
import Derived.Test.YtankedgkiecgaaaCounts
import Derived.Test.YtankedgkiecgaaaMixes
namespace Go.Proofs.Ytankedgkiecgaaa.PlanD
open Go.Proofs.Ytankedgkiecgaaa.Eng Go.Proofs.Ytankedgkiecgaaa Go.Proofs.Ytankedgkiecgaaa.Dat Go.Proofs.Ytankedgkiecgaaa.Open
set_option linter.unusedVariables false
set_option linter.unusedSimpArgs false
set_option maxRecDepth 10000

/-! Mixing keeps all. -/
theorem sum_add (f g : List Int → Nat) (ls : List (List Int)) : (ls.map fun x => f x + g x).sum = (ls.map f).sum + (ls.map g).sum := by
  induction ls with
  | nil => rfl
  | cons x l ih => simp only [List.map_cons, List.sum_cons, ih]; omega
theorem lev_count (a : Int) (ls : List (List Int)) (k : Nat) : (lev ls k).count a = (ls.map fun x => ((x[k]?).toList).count a).sum := by
  induction ls with
  | nil => rfl
  | cons x l ih =>
    have e : lev (x :: l) k = (x[k]?).toList ++ lev l k := by
      unfold lev
      cases h : x[k]? <;> simp [List.filterMap_cons, h]
    rw [e, List.count_append, ih]
    rfl
theorem take_count (a : Int) (x : List Int) (k : Nat) : (x.take (k + 1)).count a = (x.take k).count a + ((x[k]?).toList).count a := by
  rw [List.take_add_one, List.count_append]
theorem mixTo_count (a : Int) (ls : List (List Int)) : ∀ k, (mixTo ls k).count a = (ls.map fun x => (x.take k).count a).sum
  | 0 => by
    simp only [mixTo, List.range_zero, List.flatMap_nil, List.count_nil, List.take_zero]
    induction ls with
    | nil => rfl
    | cons x l ih => simpa using ih
  | k + 1 => by
    rw [mixTo_succ, List.count_append, mixTo_count a ls k, lev_count, ← sum_add]
    congr 1
    exact List.map_congr_left fun x _ => (take_count a x k).symm
theorem mix_count (a : Int) (ls : List (List Int)) : (mix ls).count a = (ls.map fun x => x.count a).sum := by
  unfold mix
  rw [mixTo_count]
  congr 1
  refine List.map_congr_left fun x hx => ?_
  rw [List.take_of_length_le (le_most hx)]
def sums (A : Nat) (ls : List (List Int)) : List Int := (List.range A).map fun a : Nat => (((ls.map fun x => x.count (a : Int)).sum : Nat) : Int)
theorem sums_mix (A : Nat) (ls : List (List Int)) : sums A ls = cnt A (mix ls) := by
  unfold sums cnt
  exact List.map_congr_left fun a _ => by rw [mix_count]
/-- Partly added. -/
def part (A : Nat) (ls : List (List Int)) (x : List Int) (i : Nat) : List Int := (List.range A).map fun a : Nat => if a < i then (((ls.map fun x => x.count (a : Int)).sum + x.count (a : Int) : Nat) : Int) else (((ls.map fun x => x.count (a : Int)).sum : Nat) : Int)
theorem part_zero (A : Nat) (ls : List (List Int)) (x : List Int) : part A ls x 0 = sums A ls := by
  unfold part sums
  exact List.map_congr_left fun a _ => by simp
theorem part_full (A : Nat) (ls : List (List Int)) (x : List Int) : part A ls x A = sums A (ls ++ [x]) := by
  unfold part sums
  exact List.map_congr_left fun a ha => by
    rw [if_pos (List.mem_range.1 ha)]
    simp
theorem part_len (A : Nat) (ls : List (List Int)) (x : List Int) (i : Nat) : (part A ls x i).length = A := by simp [part]
theorem part_get (A : Nat) (ls : List (List Int)) (x : List Int) {i : Nat} (h : i < A) : ((part A ls x i).map D.int).getD i .nil = .int (((ls.map fun x => x.count (i : Int)).sum : Nat) : Int) := by
  rw [getD_map D.int (by rw [part_len]; exact h)]
  simp [part]
theorem part_set (A : Nat) (ls : List (List Int)) (x : List Int) {i : Nat} (h : i < A) : ((part A ls x i).map D.int).set i (.int (((ls.map fun x => x.count (i : Int)).sum + x.count (i : Int) : Nat) : Int)) = (part A ls x (i + 1)).map D.int := by
  apply List.ext_getElem?
  intro j
  rw [List.getElem?_set]
  split
  · rename_i e
    subst e
    simp only [List.length_map, part_len, h, if_true]
    rw [List.getElem?_map, List.getElem?_eq_getElem (by rw [part_len]; exact h)]
    simp [part]
  · rename_i e
    rw [List.getElem?_map, List.getElem?_map]
    rcases Nat.lt_or_ge j A with hj | hj
    · rw [List.getElem?_eq_getElem (by rw [part_len]; exact hj), List.getElem?_eq_getElem (by rw [part_len]; exact hj)]
      simp only [part, List.getElem_map, List.getElem_range, Option.map_some]
      by_cases h1 : j < i
      · rw [if_pos h1, if_pos (by omega)]
      · rw [if_neg h1, if_neg (by omega)]
    · rw [List.getElem?_eq_none (by rw [part_len]; exact hj), List.getElem?_eq_none (by rw [part_len]; exact hj)]
theorem count_sum_le (a : Int) : ∀ (ls : List (List Int)) (n : Nat), (∀ x ∈ ls, x.length ≤ n) → (ls.map fun x => x.count a).sum ≤ ls.length * n
  | [], n, h => by simp
  | x :: l, n, h => by
    have h1 := h x (List.mem_cons_self ..)
    have h2 := count_sum_le a l n fun y hy => h y (List.mem_cons_of_mem _ hy)
    have h3 : x.count a ≤ x.length := List.count_le_length
    simp only [List.map_cons, List.sum_cons, List.length_cons, Nat.add_mul]
    omega
/-! Runs are as many as picks. -/
def nonneg (l : List Int) : Nat := (l.filter fun a => !decide (a < 0)).length
def total (l : List (Int × Int)) : Int := (l.map fun x => x.2).sum
theorem total_app (l m : List (Int × Int)) : total (l ++ m) = total l + total m := by simp [total, List.sum_append]
theorem total_filter : ∀ l : List (Int × Int), total (l.filter fun x => !isZ x) = total l
  | [] => rfl
  | x :: l => by
    have ih := total_filter l
    rw [List.filter_cons]
    cases h : isZ x with
    | false =>
      simp only [Bool.not_false, if_true]
      simp only [total, List.map_cons, List.sum_cons] at ih ⊢
      rw [ih]
    | true =>
      have h0 : x.2 = 0 := by simpa [isZ] using h
      simp only [Bool.not_true, Bool.false_eq_true, if_false]
      simp only [total, List.map_cons, List.sum_cons, h0, Int.zero_add] at ih ⊢
      exact ih
theorem step_total (out : List (Int × Int)) (a : Int) : total (step out a) = total out + if a < 0 then 0 else 1 := by
  unfold step
  split
  · rw [total_app]; simp [total]
  · cases hq : out.getLast? with
    | none => simp only; rw [total_app]; simp [total]
    | some p =>
      obtain ⟨b, n⟩ := p
      simp only
      split
      · have e : out = out.dropLast ++ [(b, n)] := by
          have hne : out ≠ [] := by rintro rfl; simp at hq
          have := List.dropLast_concat_getLast hne
          rw [List.getLast?_eq_some_getLast hne] at hq
          injection hq with hq
          rw [hq] at this
          exact this.symm
        have e2 : total out = total out.dropLast + n := by
          conv => lhs; rw [e]
          rw [total_app]; simp [total]
        rw [total_app, e2]; simp [total]; omega
      · rw [total_app]; simp [total]
theorem runs_total (l : List Int) : total (runs l) = nonneg l := by
  unfold runs
  rw [total_filter]
  suffices h : ∀ r : List Int, total (fold r.reverse) = nonneg r.reverse by
    have := h l.reverse
    simpa using this
  intro r
  induction r with
  | nil => rfl
  | cons a r ih =>
    rw [List.reverse_cons, fold_snoc, step_total, ih]
    unfold nonneg
    rw [List.filter_append, List.length_append]
    by_cases h : a < 0 <;> simp [h]
theorem keeps5 {c : Cf} (hc : c.ok) (ls : List (List Int)) (agent : Int) (ha : 0 ≤ agent) (x19 x20 x23 x25 x26 x27 x28 x29 : D) (m : List Int) (hs : sums (ag c) ls = cnt (ag c) m) (g0 g1 g2 : Eng.Fn) (e : x26.toInt = x28.toInt) :
    W_law21_PlanKeeps_5 (.int c.c0) (.int c.c1) (.int c.c2) (.int c.c3) (.int c.c4) (.int c.c5) (.int c.c6) (rows ls) (.int agent) (.int c.c0) (.int c.c1) (.int c.c2) (.int c.c3) (.int c.c4) (.int c.c5) (.int c.c6) .nil (.int (ag c : Nat)) (.int (ag c : Nat)) x19 x20 (ints (sums (ag c) ls)) (evs m) x23 (ints (cnt (ag c) (m.filter fun a => !isAg agent a))) x25 x26 x27 x28 x29 (ints (cnt (ag c) m)) g0 g1 g2 [.int 0] = some [.bool true] := by
  have h := loop_from (W_law21_PlanKeeps_5 (.int c.c0) (.int c.c1) (.int c.c2) (.int c.c3) (.int c.c4) (.int c.c5) (.int c.c6) (rows ls) (.int agent) (.int c.c0) (.int c.c1) (.int c.c2) (.int c.c3) (.int c.c4) (.int c.c5) (.int c.c6) .nil (.int (ag c : Nat)) (.int (ag c : Nat)) x19 x20 (ints (sums (ag c) ls)) (evs m) x23 (ints (cnt (ag c) (m.filter fun a => !isAg agent a))) x25 x26 x27 x28 x29 (ints (cnt (ag c) m)) g0 g1 g2) (fun j => [.int (j : Nat)]) (ag c) (s0 := [.int 0]) (by simp) (fun j hj => by
    have h1 : (j : Int) < (ag c : Int) := by omega
    have hA := (ag_ok hc).1
    rw [W_law21_PlanKeeps_5_eq, hs]
    simp only [D.toInt_int, ints_l, List.length_map, cnt_len, h1, decide_true, if_true, ge_iff_le, Int.natCast_nonneg, Int.toNat_natCast, cnt_get (ag c) m hj, cnt_get (ag c) (m.filter fun a => !isAg agent a) hj, bne_self_eq_false, Bool.false_eq_true, if_false, wj (show j < 9000000000000000 by omega)]
    by_cases hj2 : (j : Int) = agent
    · have hz : (m.filter fun a => !isAg agent a).count (j : Int) = 0 := by
        rw [List.count_eq_zero]
        intro hm
        have := (List.mem_filter.1 hm).2
        simp [isAg, hj2] at this
        omega
      have hb : ((j : Int) != agent) = false := by simp [hj2]
      have hb2 : ((j : Int) == agent) = true := by simp [hj2]
      simp only [hb, hb2, hz, Bool.false_eq_true, if_false, if_true]
      rfl
    · have hz : (m.filter fun a => !isAg agent a).count (j : Int) = m.count (j : Int) := by
        rw [List.count_filter]
        simp [isAg, hj2]
      have hb : ((j : Int) != agent) = true := by simpa using hj2
      have hb2 : ((j : Int) == agent) = false := by simpa using hj2
      simp only [hb, hb2, hz, bne_self_eq_false, Bool.false_eq_true, if_false, if_true])
  rw [h, W_law21_PlanKeeps_5_eq]
  simp only [D.toInt_int, ints_l, List.length_map, cnt_len, Int.lt_irrefl, decide_false, Bool.false_eq_true, if_false, awake_eq, bindC, List.length_cons, List.length_nil, if_true, List.getD_cons_zero, D.toBool_bool, e, beq_self_eq_true]
theorem keeps4 {c : Cf} (hc : c.ok) (ls : List (List Int)) (agent : Int) (ha : 0 ≤ agent) (x19 x20 x23 x25 x27 : D) (m : List Int) (hm : m.length ≤ 1000000) (hs : sums (ag c) ls = cnt (ag c) m) (g0 g1 : Eng.Fn) :
    W_law21_PlanKeeps_4 (.int c.c0) (.int c.c1) (.int c.c2) (.int c.c3) (.int c.c4) (.int c.c5) (.int c.c6) (rows ls) (.int agent) (.int c.c0) (.int c.c1) (.int c.c2) (.int c.c3) (.int c.c4) (.int c.c5) (.int c.c6) .nil (.int (ag c : Nat)) (.int (ag c : Nat)) x19 x20 (ints (sums (ag c) ls)) (evs m) x23 (ints (cnt (ag c) (m.filter fun a => !isAg agent a))) x25 (.int (nonneg m : Nat)) x27 g0 g1 [.int 0, .int 0] = some [.bool true] := by
  have h := loop_from (W_law21_PlanKeeps_4 (.int c.c0) (.int c.c1) (.int c.c2) (.int c.c3) (.int c.c4) (.int c.c5) (.int c.c6) (rows ls) (.int agent) (.int c.c0) (.int c.c1) (.int c.c2) (.int c.c3) (.int c.c4) (.int c.c5) (.int c.c6) .nil (.int (ag c : Nat)) (.int (ag c : Nat)) x19 x20 (ints (sums (ag c) ls)) (evs m) x23 (ints (cnt (ag c) (m.filter fun a => !isAg agent a))) x25 (.int (nonneg m : Nat)) x27 g0 g1) (fun j => [.int (nonneg (m.take j) : Nat), .int (j : Nat)]) m.length (s0 := [.int 0, .int 0]) (by simp [nonneg]) (fun j hj => by
    have h1 : (j : Int) < (m.length : Int) := by omega
    have hle : nonneg (m.take j) ≤ 1000000 := Nat.le_trans (List.length_filter_le ..) (by simp; omega)
    have hnn : nonneg (m.take j ++ [m[j]]) = nonneg (m.take j) + if m[j] < 0 then 0 else 1 := by
      unfold nonneg
      rw [List.filter_append, List.length_append]
      by_cases h : m[j] < 0 <;> simp [h]
    rw [W_law21_PlanKeeps_4_eq, List.take_succ_eq_append_getElem hj, hnn]
    simp only [D.toInt_int, evs_l, List.length_map, h1, decide_true, if_true, ge_iff_le, Int.natCast_nonneg, Int.toNat_natCast, getD_map ev hj, wj (show j < 9000000000000000 by omega), wj (show nonneg (m.take j) < 9000000000000000 by omega)]
    by_cases h0 : m[j] < 0
    · simp only [ev_neg h0]
      simp only [tk, D.toL_agg, List.getD_cons_zero, D.toInt_int, h0, if_true, Nat.add_zero]
      rw [if_neg (by decide)]
    · simp only [ev_pos h0]
      simp only [pk, D.toL_agg, List.getD_cons_zero, D.toInt_int, h0, if_false, beq_self_eq_true, if_true])
  have hp := picked_eq hc m (by omega)
  simp only [RU.Cf.ds, List.cons_append, List.nil_append] at hp
  rw [h, W_law21_PlanKeeps_4_eq]
  simp only [D.toInt_int, evs_l, List.length_map, Int.lt_irrefl, decide_false, Bool.false_eq_true, if_false, List.take_length, hp, bindC, List.length_cons, List.length_nil, if_true, List.getD_cons_zero]
  exact keeps5 hc ls agent ha x19 x20 x23 x25 _ _ _ _ m hs _ _ _ rfl
theorem keeps3 {c : Cf} (hc : c.ok) (ls : List (List Int)) (agent : Int) (ha : 0 ≤ agent) (x19 x20 x23 : D) (m : List Int) (hm : m.length ≤ 1000000) (hs : sums (ag c) ls = cnt (ag c) m) (g0 : Eng.Fn) :
    W_law21_PlanKeeps_3 (.int c.c0) (.int c.c1) (.int c.c2) (.int c.c3) (.int c.c4) (.int c.c5) (.int c.c6) (rows ls) (.int agent) (.int c.c0) (.int c.c1) (.int c.c2) (.int c.c3) (.int c.c4) (.int c.c5) (.int c.c6) .nil (.int (ag c : Nat)) (.int (ag c : Nat)) x19 x20 (ints (sums (ag c) ls)) (evs m) x23 (ints (cnt (ag c) (m.filter fun a => !isAg agent a))) (.agg ((runs m).map pr)) g0 [.int 0, .int 0] = some [.bool true] := by
  have hrl : (runs m).length ≤ 1000000 := by rw [runs_eq_grp]; exact Nat.le_trans (grp_len _ _) hm
  have hr2 : ∀ x ∈ runs m, 0 ≤ x.2 ∧ x.2 ≤ 1000000 := fun x hx => by
    have := (fold_ok m).2 x (List.mem_filter.1 hx).1
    omega
  have hbd : ∀ j, 0 ≤ total ((runs m).take j) ∧ total ((runs m).take j) ≤ j * 1000000 := by
    intro j
    induction j with
    | zero => simp [total]
    | succ j ih =>
      rcases Nat.lt_or_ge j (runs m).length with h | h
      · rw [List.take_succ_eq_append_getElem h, total_app]
        have := hr2 _ (List.getElem_mem h)
        simp only [total, List.map_cons, List.map_nil, List.sum_cons, List.sum_nil] at ih ⊢
        omega
      · rw [List.take_of_length_le (by omega)]
        rw [List.take_of_length_le (by omega)] at ih
        omega
  have h := loop_from (W_law21_PlanKeeps_3 (.int c.c0) (.int c.c1) (.int c.c2) (.int c.c3) (.int c.c4) (.int c.c5) (.int c.c6) (rows ls) (.int agent) (.int c.c0) (.int c.c1) (.int c.c2) (.int c.c3) (.int c.c4) (.int c.c5) (.int c.c6) .nil (.int (ag c : Nat)) (.int (ag c : Nat)) x19 x20 (ints (sums (ag c) ls)) (evs m) x23 (ints (cnt (ag c) (m.filter fun a => !isAg agent a))) (.agg ((runs m).map pr)) g0) (fun j => [.int (total ((runs m).take j)), .int (j : Nat)]) (runs m).length (s0 := [.int 0, .int 0]) (by simp [total]) (fun j hj => by
    have h1 : (j : Int) < ((runs m).length : Int) := by omega
    have hb := hbd j
    have hx := hr2 _ (List.getElem_mem hj)
    have hpr : (pr (runs m)[j]).toL.getD 1 .nil = .int (runs m)[j].2 := rfl
    rw [W_law21_PlanKeeps_3_eq, List.take_succ_eq_append_getElem hj, total_app]
    simp only [D.toInt_int, D.toL_agg, List.length_map, h1, decide_true, if_true, ge_iff_le, Int.natCast_nonneg, Int.toNat_natCast, getD_map pr hj, wj (show j < 9000000000000000 by omega), hpr]
    rw [i64w _ (by omega) (by omega)]
    simp [total])
  rw [h, W_law21_PlanKeeps_3_eq]
  simp only [D.toInt_int, D.toL_agg, List.length_map, Int.lt_irrefl, decide_false, Bool.false_eq_true, if_false, List.take_length, runs_total]
  exact keeps4 hc ls agent ha x19 x20 x23 _ _ m hm hs _ _
theorem keeps2 {c : Cf} (hc : c.ok) (ls : List (List Int)) (agent : Int) (j : Nat) (hj9 : j < 1000000) (l0 : List (List Int)) (hl0 : l0.length ≤ 20) (h30 : ∀ x ∈ l0, x.length ≤ 30) (x : List Int) (hx : x.length ≤ 30) (x20 : D) (y z : D) (g0 : Eng.Fn) :
    W_law21_PlanKeeps_2 (.int c.c0) (.int c.c1) (.int c.c2) (.int c.c3) (.int c.c4) (.int c.c5) (.int c.c6) (rows ls) (.int agent) (.int c.c0) (.int c.c1) (.int c.c2) (.int c.c3) (.int c.c4) (.int c.c5) (.int c.c6) .nil (.int (ag c : Nat)) (.int (ag c : Nat)) (.int (j : Nat)) x20 (ints (sums (ag c) l0)) y z (ints (cnt (ag c) x)) g0 [.int 0, ints (sums (ag c) l0)] = g0 [.int ((j + 1 : Nat) : Int), .agg (x20.toL ++ [y]), ints (sums (ag c) (l0 ++ [x]))] := by
  have hA := (ag_ok hc).1
  have h := loop_from (W_law21_PlanKeeps_2 (.int c.c0) (.int c.c1) (.int c.c2) (.int c.c3) (.int c.c4) (.int c.c5) (.int c.c6) (rows ls) (.int agent) (.int c.c0) (.int c.c1) (.int c.c2) (.int c.c3) (.int c.c4) (.int c.c5) (.int c.c6) .nil (.int (ag c : Nat)) (.int (ag c : Nat)) (.int (j : Nat)) x20 (ints (sums (ag c) l0)) y z (ints (cnt (ag c) x)) g0) (fun i => [.int (i : Nat), ints (part (ag c) l0 x i)]) (ag c) (s0 := [.int 0, ints (sums (ag c) l0)]) (by simp [part_zero]) (fun i hi => by
    have h1 : (i : Int) < (ag c : Int) := by omega
    have hs := count_sum_le (i : Int) l0 30 h30
    have hc1 : x.count (i : Int) ≤ x.length := List.count_le_length
    rw [W_law21_PlanKeeps_2_eq]
    simp only [D.toInt_int, ints_l, List.length_map, cnt_len, part_len, h1, decide_true, if_true, ge_iff_le, Int.natCast_nonneg, Int.toNat_natCast, cnt_get (ag c) x hi, part_get (ag c) l0 x hi, wj (show i < 9000000000000000 by omega)]
    rw [i64w _ (by omega) (by omega), ← Int.natCast_add, part_set (ag c) l0 x hi]
    rfl)
  rw [h, W_law21_PlanKeeps_2_eq]
  simp only [D.toInt_int, ints_l, List.length_map, cnt_len, Int.lt_irrefl, decide_false, Bool.false_eq_true, if_false, part_full, wj (show j < 9000000000000000 by omega)]
theorem keeps_law (c : Cf) (ls : List (List Int)) (agent : Int) : FX 7 [.int c.c0, .int c.c1, .int c.c2, .int c.c3, .int c.c4, .int c.c5, .int c.c6, rows ls, .int agent] = some [.bool true] := by
  rw [E_law21_PlanKeeps]
  by_cases hc : c.ok
  · obtain ⟨e1, e2⟩ := new_ok hc
    obtain ⟨⟨hA1, hA2⟩, _⟩ := ag_ok hc
    have hag := agents_eq hc
    simp only [RU.Cf.ds] at hag
    have hle : ((ag c : Nat) : Int) ≤ 17592186044416 := by omega
    simp only [e1, bindC, List.length_cons, List.length_nil, if_true, List.getD_cons_zero, List.getD_cons_succ, D.toInt_int, D.isNil_nil, Bool.not_true, Bool.false_eq_true, if_false, rows_l, List.length_map, awake_eq, hag, ge_iff_le, Int.natCast_nonneg, decide_true, hle, Int.toNat_natCast]
    by_cases h10 : (ls.length : Int) > 10
    · simp only [h10, decide_true, if_true]
    · simp only [h10, decide_false, Bool.false_eq_true, if_false]
      by_cases h0 : agent < 0
      · simp only [h0, decide_true, if_true]
      · simp only [h0, decide_false, Bool.false_eq_true, if_false]
        by_cases h1 : (ag c : Int) ≤ agent
        · simp only [h1, decide_true, if_true]
        · simp only [h1, decide_false, Bool.false_eq_true, if_false]
          have hrun : ∀ (n j : Nat), ls.length - j = n → j ≤ ls.length → (∀ x ∈ ls.take j, x.length ≤ 30) → W_law21_PlanKeeps_1 (.int c.c0) (.int c.c1) (.int c.c2) (.int c.c3) (.int c.c4) (.int c.c5) (.int c.c6) (rows ls) (.int agent) (.int c.c0) (.int c.c1) (.int c.c2) (.int c.c3) (.int c.c4) (.int c.c5) (.int c.c6) .nil (.int (ag c : Nat)) (.int (ag c : Nat)) [.int (j : Nat), erows (ls.take j), ints (sums (ag c) (ls.take j))] = some [.bool true] := by
            intro n
            induction n with
            | zero =>
              intro j hn hj hx
              obtain rfl : j = ls.length := by omega
              rw [List.take_length] at hx ⊢
              have hm := most_le hx
              have hml : (mix ls).length ≤ 1000000 := by
                have := mixTo_len ls (most ls)
                have h2 : most ls * ls.length ≤ 30 * 10 := Nat.mul_le_mul hm (by omega)
                unfold mix
                omega
              have hfl : ((mix ls).filter fun a => !isAg agent a).length ≤ 1000000000 := Nat.le_trans (List.length_filter_le ..) (by omega)
              have hp := picked_eq hc ((mix ls).filter fun a => !isAg agent a) hfl
              simp only [RU.Cf.ds, List.cons_append, List.nil_append] at hp
              rw [W_law21_PlanKeeps_1_eq]
              simp only [D.toInt_int, rows_l, List.length_map, Int.lt_irrefl, decide_false, Bool.false_eq_true, if_false, mix_eq ls (by omega) (by omega), without_eq agent (mix ls) (by omega), hp, runs_eq (mix ls) (by omega), bindC, List.length_cons, List.length_nil, if_true, List.getD_cons_zero]
              exact keeps3 hc ls agent (by omega) _ _ _ (mix ls) hml (sums_mix _ _) _
            | succ n ih =>
              intro j hn hj hx
              have hlt : j < ls.length := by omega
              have h1 : (j : Int) < (ls.length : Int) := by omega
              rw [W_law21_PlanKeeps_1_eq]
              simp only [D.toInt_int, D.toL_agg, rows_l, erows_l, List.length_map, h1, decide_true, if_true, ge_iff_le, Int.natCast_nonneg, Int.toNat_natCast, getD_map ints hlt, ints_l]
              by_cases h30 : ((ls[j]).length : Int) > 30
              · simp only [h30, decide_true, if_true, awake_eq, bindC, List.length_cons, List.length_nil, List.getD_cons_zero]
              · have hb : ((((ls.take j).map evs ++ [evs ls[j]]).length : Nat) : Int) ≤ 5864062014805 := by
                  rw [List.length_append, List.length_map]; simp only [List.length_cons, List.length_nil, List.length_take]; omega
                have hp := picked_eq hc ls[j] (by omega)
                simp only [RU.Cf.ds, List.cons_append, List.nil_append] at hp
                simp only [h30, decide_false, Bool.false_eq_true, if_false, events_eq ls[j] (by omega), bindC, List.length_cons, List.length_nil, if_true, List.getD_cons_zero, hb, decide_true, hp]
                refine (keeps2 hc ls agent j (by omega) (ls.take j) (by simp; omega) hx ls[j] (by omega) (erows (ls.take j)) (evs ls[j]) (evs ls[j]) _).trans ?_
                have := ih (j + 1) (by omega) (by omega) (fun x hx' => by
                  rw [List.take_succ_eq_append_getElem hlt] at hx'
                  rcases List.mem_append.1 hx' with h | h
                  · exact hx x h
                  · obtain rfl := List.mem_singleton.1 h; omega)
                rw [List.take_succ_eq_append_getElem hlt] at this
                have e : erows (ls.take j ++ [ls[j]]) = D.agg ((erows (ls.take j)).toL ++ [evs ls[j]]) := by simp only [erows, D.toL_agg, List.map_append, List.map_cons, List.map_nil]
                rw [e] at this
                exact this
          have := hrun ls.length 0 rfl (Nat.zero_le _) (fun x h => by simp at h)
          have hz : ints (sums (ag c) []) = .agg (List.replicate (ag c) (.int 0)) := by
            simp only [ints, sums, List.map_nil, List.sum_nil, Int.natCast_zero, List.map_const', List.map_replicate, List.length_range]
          rw [List.take_zero, hz] at this
          exact this
  · obtain ⟨e, r0, r1, r2, r3, r4, r5, r6, j, he, e1, e2⟩ := new_bad hc
    simp only [e1, bindC, List.length_cons, List.length_nil, if_true, List.getD_cons_zero, List.getD_cons_succ, he, Bool.not_false, awake_eq]
theorem keeps (x0 : List D) (d1 d2 : D) (w0 : Open.AllF Try.prog [.int .i64, .int .i64, .int .i64, .int .i64, .int .i64, .int .i64, .int .i64] x0) (w1 : Wf Try.prog (.slice 25) d1) (w2 : Wf Try.prog (.int .i64) d2) : FX 7 (x0 ++ [d1, d2]) = some [.bool true] := by
  obtain ⟨c, rfl⟩ := cf_of w0
  obtain ⟨ls, rfl, _⟩ := w1.rowsOfInts (e' := 3) (k := .i64) (by kernel_rfl) (by kernel_rfl)
  obtain ⟨agent, rfl, _⟩ := w2.toInt
  exact keeps_law c ls agent
end Go.Proofs.Ytankedgkiecgaaa.PlanD
