/-
  Plan on data: agents, how often they are picked, how long they wait.
-/
import Derived.Test.YtankedgkiecgaaaPlC
import Derived.Test.YtankedgkiecgaaaCfgR
namespace Go.Proofs.Ytankedgkiecgaaa.PlanD
open Go.Proofs.Ytankedgkiecgaaa.Eng Go.Proofs.Ytankedgkiecgaaa Go.Proofs.Ytankedgkiecgaaa.Dat Go.Proofs.Ytankedgkiecgaaa.Open
set_option linter.unusedVariables false
set_option linter.unusedSimpArgs false
set_option maxRecDepth 10000

abbrev Cf := RU.Cf
def ag (c : Cf) : Nat := (c.c0 + 2 * (c.c2 * c.c3)).toNat
theorem ag_ok {c : Cf} (h : c.ok) : (3 ≤ ag c ∧ ag c ≤ 30) ∧ IntKind.i64.wrap (c.c0 + IntKind.i64.wrap (2 * IntKind.i64.wrap (c.c2 * c.c3))) = (ag c : Int) ∧ IntKind.i64.wrap (c.c0 + IntKind.i64.wrap (IntKind.i64.wrap (2 * c.c2) * c.c3)) = (ag c : Int) := by
  obtain ⟨h0, h1, h2, h3, h4, h5, h6⟩ := h
  have e2 : c.c2 = 1 ∨ c.c2 = 2 ∨ c.c2 = 3 := by omega
  unfold ag
  rcases e2 with e | e | e
  · rw [e]
    rw [i64w (1 * c.c3) (by omega) (by omega), i64w (2 * (1 * c.c3)) (by omega) (by omega), i64w (c.c0 + 2 * (1 * c.c3)) (by omega) (by omega), i64w (2 * 1) (by omega) (by omega), i64w (2 * 1 * c.c3) (by omega) (by omega), i64w (c.c0 + 2 * 1 * c.c3) (by omega) (by omega)]
    omega
  · rw [e]
    rw [i64w (2 * c.c3) (by omega) (by omega), i64w (2 * (2 * c.c3)) (by omega) (by omega), i64w (c.c0 + 2 * (2 * c.c3)) (by omega) (by omega), i64w (2 * 2) (by omega) (by omega), i64w (2 * 2 * c.c3) (by omega) (by omega), i64w (c.c0 + 2 * 2 * c.c3) (by omega) (by omega)]
    omega
  · rw [e]
    rw [i64w (3 * c.c3) (by omega) (by omega), i64w (2 * (3 * c.c3)) (by omega) (by omega), i64w (c.c0 + 2 * (3 * c.c3)) (by omega) (by omega), i64w (2 * 3) (by omega) (by omega), i64w (2 * 3 * c.c3) (by omega) (by omega), i64w (c.c0 + 2 * 3 * c.c3) (by omega) (by omega)]
    omega
theorem agents_eq {c : Cf} (h : c.ok) : FX 27 c.ds = some [.int (ag c : Nat)] := by
  show FX 27 [.int c.c0, .int c.c1, .int c.c2, .int c.c3, .int c.c4, .int c.c5, .int c.c6] = _
  rw [E_rules_Rules_Agents, E_rules_Rules_Shards]
  simp only [bindC, List.length_cons, List.length_nil, if_true, List.getD_cons_zero, D.toInt_int, (ag_ok h).2.1]

/-! How often. -/
def cnt (A : Nat) (l : List Int) : List Int := (List.range A).map fun a : Nat => ((l.count (a : Int) : Nat) : Int)
theorem cnt_len (A : Nat) (l : List Int) : (cnt A l).length = A := by simp [cnt]
theorem cnt_get (A : Nat) (l : List Int) {a : Nat} (h : a < A) : ((cnt A l).map D.int).getD a .nil = .int (l.count (a : Int) : Nat) := by
  rw [getD_map D.int (by rw [cnt_len]; exact h)]; simp [cnt]
theorem cnt_set (A : Nat) (l : List Int) {a : Nat} (h : a < A) : ((cnt A l).map D.int).set a (.int ((l.count (a : Int) : Nat) + 1 : Int)) = (cnt A (l ++ [(a : Int)])).map D.int := by
  apply List.ext_getElem?
  intro i
  rw [List.getElem?_set]
  split
  · rename_i e
    subst e
    simp only [List.length_map, cnt_len, h, if_true]
    rw [List.getElem?_map, List.getElem?_eq_getElem (by rw [cnt_len]; exact h)]
    simp [cnt, List.count_append]
  · rename_i e
    rw [List.getElem?_map, List.getElem?_map]
    rcases Nat.lt_or_ge i A with hi | hi
    · rw [List.getElem?_eq_getElem (by rw [cnt_len]; exact hi), List.getElem?_eq_getElem (by rw [cnt_len]; exact hi)]
      have : ¬ ((a : Int) = (i : Int)) := by omega
      simp [cnt, List.count_append, List.count_cons, this]
    · rw [List.getElem?_eq_none (by rw [cnt_len]; exact hi), List.getElem?_eq_none (by rw [cnt_len]; exact hi)]
theorem cnt_skip (A : Nat) (l : List Int) (x : Int) (h : x < 0 ∨ (A : Int) ≤ x) : cnt A (l ++ [x]) = cnt A l := by
  unfold cnt
  apply List.map_congr_left
  intro a ha
  have := List.mem_range.1 ha
  have hne : ¬ (x = (a : Int)) := by omega
  simp [List.count_append, List.count_cons, hne]
theorem picked_eq {c : Cf} (h : c.ok) (l : List Int) (hl : l.length ≤ 1000000000) : FX 16 (c.ds ++ [evs l]) = some [ints (cnt (ag c) l)] := by
  obtain ⟨⟨hA1, hA2⟩, _⟩ := ag_ok h
  show FX 16 [.int c.c0, .int c.c1, .int c.c2, .int c.c3, .int c.c4, .int c.c5, .int c.c6, evs l] = _
  have ha := agents_eq h
  simp only [RU.Cf.ds] at ha
  rw [E_plan_Picked, ha]
  have h1 : ((ag c : Nat) : Int) ≤ 17592186044416 := by omega
  simp only [bindC, List.length_cons, List.length_nil, if_true, List.getD_cons_zero, D.toInt_int, ge_iff_le, Int.natCast_nonneg, decide_true, h1, Int.toNat_natCast]
  generalize ag c = A at *
  have h := loop_from (W_plan_Picked_1 (.int c.c0) (.int c.c1) (.int c.c2) (.int c.c3) (.int c.c4) (.int c.c5) (.int c.c6) (evs l) (.int (A : Nat))) (fun j => [.int (j : Nat), ints (cnt A (l.take j))]) l.length (s0 := [.int 0, .agg (List.replicate A (.int 0))]) (by
    simp only [List.take_zero, Int.natCast_zero, ints, cnt, List.count_nil, List.map_const', List.map_replicate, List.length_range, List.map_map]) (fun j hj => by
    have h1 : (j : Int) < (l.length : Int) := by omega
    rw [W_plan_Picked_1_eq, List.take_succ_eq_append_getElem hj]
    simp only [D.toInt_int, D.toL_agg, evs_l, ints_l, List.length_map, cnt_len, h1, decide_true, if_true, ge_iff_le, Int.natCast_nonneg, Int.toNat_natCast, getD_map ev hj, wj (show j < 9000000000000000 by omega)]
    by_cases h0 : l[j] < 0
    · simp only [ev_neg h0]
      simp only [tk, D.toL_agg, List.getD_cons_zero, D.toInt_int]
      rw [if_neg (by decide), cnt_skip _ _ _ (.inl h0)]
    · simp only [ev_pos h0]
      simp only [pk, D.toL_agg, List.getD_cons_zero, List.getD_cons_succ, D.toInt_int, beq_self_eq_true, if_true]
      have h0' : 0 ≤ l[j] := by omega
      simp only [h0', decide_true, if_true]
      by_cases h2 : l[j] < (A : Int)
      · obtain ⟨n, hn⟩ := Int.eq_ofNat_of_zero_le h0'
        have hnA : n < A := by omega
        have hc : (l.take j).count (n : Int) ≤ 1000000000 := Nat.le_trans List.count_le_length (by simp; omega)
        simp only [h2, decide_true, if_true]
        rw [hn]
        simp only [Int.toNat_natCast, cnt_get A (l.take j) hnA, D.toInt_int]
        rw [i64w _ (by omega) (by omega), cnt_set A (l.take j) hnA]
        rfl
      · simp only [h2, decide_false, Bool.false_eq_true, if_false]
        rw [cnt_skip _ _ _ (.inr (by omega))])
  rw [h, W_plan_Picked_1_eq]
  simp only [D.toInt_int, evs_l, List.length_map, Int.lt_irrefl, decide_false, Bool.false_eq_true, if_false, List.take_length]

/-! How long. -/
def pre (a : Int) : List Int → Nat
  | [] => 0
  | x :: l => if x = a then 0 else pre a l + 1
def gapR (a : Int) : List Int → Nat
  | [] => 0
  | x :: l => max (pre a (x :: l)) (gapR a l)
def gapF (a : Int) : Nat → Nat → List Int → Nat
  | _, most, [] => most
  | now, most, x :: l => let now' := if x = a then 0 else now + 1; gapF a now' (max most now') l
theorem pre_gap (a : Int) : ∀ l, pre a l ≤ gapR a l
  | [] => Nat.le_refl _
  | x :: l => Nat.le_max_left ..
theorem gapF_eq (a : Int) : ∀ (l : List Int) (now most : Nat), now ≤ most → gapF a now most l = max most (max (now + pre a l) (gapR a l))
  | [], now, most, h => by simp [gapF, pre, gapR]; omega
  | x :: l, now, most, h => by
    have hp := pre_gap a l
    by_cases hx : x = a
    · simp only [gapF, hx, if_true]
      rw [gapF_eq a l _ _ (Nat.zero_le _)]
      simp only [gapR, pre, if_true]
      omega
    · simp only [gapF, hx, if_false]
      rw [gapF_eq a l _ _ (Nat.le_max_right ..)]
      simp only [gapR, pre, hx, if_false]
      omega
theorem gapR_le (a : Int) : ∀ l : List Int, gapR a l ≤ l.length ∧ pre a l ≤ l.length
  | [] => ⟨Nat.le_refl _, Nat.le_refl _⟩
  | x :: l => by
    obtain ⟨h1, h2⟩ := gapR_le a l
    simp only [gapR, pre, List.length_cons]
    split <;> omega
theorem gap_rounds (a : Int) (ha : 0 ≤ a) (l : List Int) (hl : l.length ≤ 1000000000) : ∀ (n j most now : Nat), l.length - j = n → j ≤ l.length → now ≤ j → W_plan_Gap_1 (.int a) (evs l) [.int most, .int now, .int j] = some [.int (gapF a now most (l.drop j) : Nat)] := by
  intro n
  induction n with
  | zero =>
    intro j most now hn hj _
    obtain rfl : j = l.length := by omega
    rw [W_plan_Gap_1_eq]
    simp only [D.toInt_int, evs_l, List.length_map, Int.lt_irrefl, decide_false, Bool.false_eq_true, if_false, List.drop_length, gapF]
  | succ n ih =>
    intro j most now hn hj hnow
    have hlt : j < l.length := by omega
    have h1 : (j : Int) < (l.length : Int) := by omega
    have hw : IntKind.i64.wrap ((now : Int) + 1) = ((now + 1 : Nat) : Int) := wj (by omega)
    have hgo : ∀ now' : Nat, now' ≤ j + 1 → W_plan_Gap_1 (.int a) (evs l) [if (decide ((now' : Int) > (most : Int))) = true then D.int (now' : Int) else D.int (most : Int), .int now', .int ((j + 1 : Nat) : Int)] = some [.int (gapF a now' (max most now') (l.drop (j + 1)) : Nat)] := by
      intro now' h'
      have e : (if (decide ((now' : Int) > (most : Int))) = true then D.int (now' : Int) else D.int (most : Int)) = .int ((max most now' : Nat) : Int) := by
        by_cases h : (now' : Int) > (most : Int)
        · rw [if_pos (by simpa using h)]; congr 1; omega
        · rw [if_neg (by simpa using h)]; congr 1; omega
      rw [e, ih (j + 1) _ now' (by omega) (by omega) h']
    rw [W_plan_Gap_1_eq, List.drop_eq_getElem_cons hlt]
    simp only [D.toInt_int, D.toL_agg, evs_l, List.length_map, h1, decide_true, if_true, ge_iff_le, Int.natCast_nonneg, Int.toNat_natCast, getD_map ev hlt, wj (show j < 9000000000000000 by omega), hw]
    by_cases h0 : l[j] < 0
    · have hne : ¬ l[j] = a := by omega
      simp only [ev_neg h0]
      simp only [tk, D.toL_agg, List.getD_cons_zero, D.toInt_int, gapF, hne, if_false]
      rw [if_neg (by decide)]
      exact hgo (now + 1) (by omega)
    · simp only [ev_pos h0]
      simp only [pk, D.toL_agg, List.getD_cons_zero, List.getD_cons_succ, D.toInt_int, beq_self_eq_true, if_true, gapF]
      by_cases hx : l[j] = a
      · simp only [hx, beq_self_eq_true, if_true]
        exact hgo 0 (by omega)
      · have : (l[j] == a) = false := by simpa using hx
        simp only [this, Bool.false_eq_true, if_false, hx]
        exact hgo (now + 1) (by omega)
theorem gap_eq (a : Int) (ha : 0 ≤ a) (l : List Int) (hl : l.length ≤ 1000000000) : FX 20 [.int a, evs l] = some [.int (gapR a l : Nat)] := by
  rw [E_plan_Gap]
  have h := gap_rounds a ha l hl l.length 0 0 0 rfl (Nat.zero_le _) (Nat.le_refl _)
  rw [gapF_eq a _ 0 0 (Nat.le_refl _), List.drop_zero] at h
  have hp := pre_gap a l
  rw [show max 0 (max (0 + pre a l) (gapR a l)) = gapR a l by omega] at h
  exact h
theorem refGap_in (a : Int) (l : List Int) (hl : l.length ≤ 1000000000) (most i : Nat) (hi : i ≤ l.length) (g0 : Eng.Fn) : ∀ (k n : Nat), i + n ≤ l.length → pre a (l.drop (i + n)) = k → W_ref21_Gap_2 (.int a) (ints l) (.int most) (.int i) g0 [.int n] = g0 [.int ((max most (n + k) : Nat) : Int), .int ((i + 1 : Nat) : Int)] := by
  intro k
  induction k with
  | zero =>
    intro n hn hk
    have hw : IntKind.i64.wrap ((i : Int) + (n : Int)) = ((i + n : Nat) : Int) := by rw [i64w _ (by omega) (by omega)]; simp
    have hfin : (if (decide ((n : Int) > (most : Int))) = true then g0 [.int n, .int ((i + 1 : Nat) : Int)] else g0 [.int most, .int ((i + 1 : Nat) : Int)]) = g0 [.int ((max most (n + 0) : Nat) : Int), .int ((i + 1 : Nat) : Int)] := by
      by_cases h : (n : Int) > (most : Int)
      · rw [if_pos (by simpa using h)]; congr 3; omega
      · rw [if_neg (by simpa using h)]; congr 3; omega
    rw [W_ref21_Gap_2_eq]
    simp only [D.toInt_int, ints_l, List.length_map, hw, wj (show i < 9000000000000000 by omega), ge_iff_le, Int.natCast_nonneg, decide_true, if_true, Int.toNat_natCast]
    by_cases h : i + n < l.length
    · have h1 : ((i + n : Nat) : Int) < (l.length : Int) := by omega
      rw [List.drop_eq_getElem_cons h] at hk
      have hx : l[i + n] = a := by
        simp only [pre] at hk
        split at hk
        · assumption
        · omega
      simp only [h1, decide_true, if_true, getD_map D.int h, D.toInt_int, hx, bne_self_eq_false, Bool.false_eq_true, if_false]
      exact hfin
    · have h1 : ¬ ((i + n : Nat) : Int) < (l.length : Int) := by omega
      simp only [h1, decide_false, Bool.false_eq_true, if_false]
      exact hfin
  | succ k ih =>
    intro n hn hk
    have hw : IntKind.i64.wrap ((i : Int) + (n : Int)) = ((i + n : Nat) : Int) := by rw [i64w _ (by omega) (by omega)]; simp
    have h : i + n < l.length := by
      rcases Nat.lt_or_ge (i + n) l.length with h | h
      · exact h
      · rw [List.drop_eq_nil_of_le h] at hk; simp [pre] at hk
    have h1 : ((i + n : Nat) : Int) < (l.length : Int) := by omega
    rw [List.drop_eq_getElem_cons h] at hk
    have hx : ¬ l[i + n] = a ∧ pre a (l.drop (i + n + 1)) = k := by
      simp only [pre] at hk
      split at hk
      · omega
      · rename_i hne; exact ⟨hne, by omega⟩
    have hb : (l[i + n] != a) = true := by simpa using hx.1
    rw [W_ref21_Gap_2_eq]
    simp only [D.toInt_int, ints_l, List.length_map, hw, ge_iff_le, Int.natCast_nonneg, decide_true, if_true, Int.toNat_natCast, h1, getD_map D.int h, hb, wj (show n < 9000000000000000 by omega)]
    rw [ih (n + 1) (by omega) hx.2]
    congr 3
    omega
theorem refGap_eq (a : Int) (l : List Int) (hl : l.length ≤ 1000000000) : FX 17 [.int a, ints l] = some [.int (gapR a l : Nat)] := by
  rw [E_ref21_Gap]
  have h : ∀ (n i most : Nat), l.length - i = n → i ≤ l.length → W_ref21_Gap_1 (.int a) (ints l) [.int most, .int i] = some [.int ((max most (gapR a (l.drop i)) : Nat) : Int)] := by
    intro n
    induction n with
    | zero =>
      intro i most hn hi
      obtain rfl : i = l.length := by omega
      rw [W_ref21_Gap_1_eq]
      simp only [D.toInt_int, ints_l, List.length_map, Int.lt_irrefl, decide_false, Bool.false_eq_true, if_false, List.drop_length, gapR, Nat.max_zero]
    | succ n ih =>
      intro i most hn hi
      have hlt : i < l.length := by omega
      have h1 : (i : Int) < (l.length : Int) := by omega
      rw [W_ref21_Gap_1_eq]
      simp only [D.toInt_int, ints_l, List.length_map, h1, decide_true, if_true]
      have := refGap_in a l hl most i hi (W_ref21_Gap_1 (.int a) (ints l)) _ 0 (by omega) rfl
      rw [Nat.add_zero] at this
      refine this.trans ?_
      rw [ih (i + 1) _ (by omega) (by omega)]
      have hd := List.drop_eq_getElem_cons hlt
      rw [hd]
      simp only [gapR]
      congr 3
      omega
  have := h l.length 0 0 rfl (Nat.zero_le _)
  simpa using this

/-! Whether that is fair. -/
def fairTo (w : Int) (l : List Int) (a : Nat) : Bool := (List.range a).all fun b => decide ((gapR (b : Int) l : Int) < max w 1)
theorem fairTo_succ (w : Int) (l : List Int) (a : Nat) : fairTo w l (a + 1) = (fairTo w l a && decide ((gapR (a : Int) l : Int) < max w 1)) := by
  simp [fairTo, List.range_succ, List.all_append]
theorem fairTo_false (w : Int) (l : List Int) {a b : Nat} (h : a ≤ b) (hf : fairTo w l a = false) : fairTo w l b = false := by
  obtain ⟨k, rfl⟩ := Nat.exists_eq_add_of_le h
  induction k with
  | zero => exact hf
  | succ k ih => rw [← Nat.add_assoc, fairTo_succ, ih (by omega)]; rfl
theorem fair_eq {c : Cf} (h : c.ok) (w : Int) (l : List Int) (hl : l.length ≤ 1000000000) : FX 21 (c.ds ++ [.int w, evs l]) = some [.bool (fairTo w l (ag c))] := by
  obtain ⟨⟨hA1, hA2⟩, _⟩ := ag_ok h
  show FX 21 [.int c.c0, .int c.c1, .int c.c2, .int c.c3, .int c.c4, .int c.c5, .int c.c6, .int w, evs l] = _
  have ha := agents_eq h
  simp only [RU.Cf.ds] at ha
  rw [E_plan_Fair, ha]
  simp only [bindC, List.length_cons, List.length_nil, if_true, List.getD_cons_zero]
  generalize ag c = A at *
  have hr : ∀ (n j : Nat), A - j = n → j ≤ A → fairTo w l j = true → W_plan_Fair_1 (.int c.c0) (.int c.c1) (.int c.c2) (.int c.c3) (.int c.c4) (.int c.c5) (.int c.c6) (.int w) (evs l) (.int (A : Nat)) [.int j] = some [.bool (fairTo w l A)] := by
    intro n
    induction n with
    | zero =>
      intro j hn hj hf
      obtain rfl : j = A := by omega
      rw [W_plan_Fair_1_eq]
      simp only [D.toInt_int, Int.lt_irrefl, decide_false, Bool.false_eq_true, if_false, hf]
    | succ n ih =>
      intro j hn hj hf
      have h1 : (j : Int) < (A : Int) := by omega
      have hs := fairTo_succ w l j
      rw [hf, Bool.true_and] at hs
      have hstop : max w 1 ≤ (gapR (j : Int) l : Int) → fairTo w l A = false := fun hg => fairTo_false w l (show j + 1 ≤ A by omega) (by rw [hs]; simp; omega)
      have hgo : ¬ max w 1 ≤ (gapR (j : Int) l : Int) → W_plan_Fair_1 (.int c.c0) (.int c.c1) (.int c.c2) (.int c.c3) (.int c.c4) (.int c.c5) (.int c.c6) (.int w) (evs l) (.int (A : Nat)) [.int ((j + 1 : Nat) : Int)] = some [.bool (fairTo w l A)] := fun hg => ih (j + 1) (by omega) (by omega) (by rw [hs]; simp; omega)
      rw [W_plan_Fair_1_eq]
      simp only [D.toInt_int, h1, decide_true, if_true, gap_eq (j : Int) (by omega) l hl, bindC, List.length_cons, List.length_nil, List.getD_cons_zero, ge_iff_le, wj (show j < 9000000000000000 by omega)]
      by_cases hw : (1 : Int) > w
      · simp only [hw, decide_true, if_true, D.toInt_int]
        by_cases hg : 1 ≤ (gapR (j : Int) l : Int)
        · simp only [hg, decide_true, if_true]
          rw [hstop (by omega)]
        · simp only [hg, decide_false, Bool.false_eq_true, if_false]
          exact hgo (by omega)
      · simp only [hw, decide_false, Bool.false_eq_true, if_false, D.toInt_int]
        by_cases hg : w ≤ (gapR (j : Int) l : Int)
        · simp only [hg, decide_true, if_true]
          rw [hstop (by omega)]
        · simp only [hg, decide_false, Bool.false_eq_true, if_false]
          exact hgo (by omega)
  exact hr A 0 rfl (Nat.zero_le _) rfl
end Go.Proofs.Ytankedgkiecgaaa.PlanD
