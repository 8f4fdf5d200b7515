/-
  PlanRounds on data.
-/
import Derived.Test.YtankedgkiecgaaaPlF
import Derived.Test.YtankedgkiecgaaaCounts
namespace Go.Proofs.Ytankedgkiecgaaa.PlanD
open Go.Proofs.Ytankedgkiecgaaa.Eng Go.Proofs.Ytankedgkiecgaaa Go.Proofs.Ytankedgkiecgaaa.Dat Go.Proofs.Ytankedgkiecgaaa.Open
set_option linter.unusedVariables false
set_option linter.unusedSimpArgs false
set_option maxRecDepth 10000

theorem up_count (a b : Nat) : (up a).count (b : Int) = if b < a then 1 else 0 := by
  induction a with
  | zero => simp [up]
  | succ a ih =>
    rw [up_succ, List.count_append, ih, List.count_singleton]
    by_cases h : a = b
    · subst h; simp
    · have h1 : ¬ ((a : Int) = (b : Int)) := by omega
      have h2 : ((a : Int) == (b : Int)) = false := by simpa using h1
      simp only [h2, Bool.false_eq_true, if_false, Nat.add_zero]
      by_cases h3 : b < a
      · simp [h3, show b < a + 1 by omega]
      · simp [h3, show ¬ b < a + 1 by omega]
theorem times_count (x : List Int) (b : Int) : ∀ k, (times x k).count b = k * x.count b
  | 0 => by simp [times]
  | k + 1 => by simp [times, List.count_append, times_count x b k, Nat.add_mul]
theorem up_get (a j : Nat) (h : j < a) : (up a)[j]? = some (j : Int) := by
  simp [up, List.getElem?_range h]
theorem times_get (A : Nat) : ∀ (k j : Nat), j < k * A → (times (up A) k)[j]? = some ((j % A : Nat) : Int)
  | 0, j, h => by simp at h
  | k + 1, j, h => by
    have hl := times_len (up A) k
    rw [up_len] at hl
    rw [Nat.add_mul, Nat.one_mul] at h
    simp only [times]
    rcases Nat.lt_or_ge j (k * A) with h1 | h1
    · rw [List.getElem?_append_left (by omega)]
      exact times_get A k j h1
    · rw [List.getElem?_append_right (by omega), hl, up_get A _ (by omega)]
      congr 2
      have e : j = (j - k * A) + A * k := by rw [Nat.mul_comm A k]; omega
      rw [show j % A = ((j - k * A) + A * k) % A by rw [← e], Nat.add_mul_mod_self_left, Nat.mod_eq_of_lt (by omega)]
theorem pre_lt (a : Int) : ∀ (s : List Int) (j : Nat), s[j]? = some a → pre a s ≤ j
  | [], j, h => by simp at h
  | x :: s, 0, h => by simp at h; simp [pre, h]
  | x :: s, j + 1, h => by
    have := pre_lt a s j (by simpa using h)
    simp only [pre]
    split <;> omega
theorem pre_ge (a : Int) : ∀ (m : Nat) (s : List Int), (∀ j, j < m → ∃ y, s[j]? = some y ∧ y ≠ a) → m ≤ pre a s
  | 0, s, h => Nat.zero_le _
  | m + 1, [], h => by obtain ⟨y, h1, _⟩ := h 0 (by omega); simp at h1
  | m + 1, x :: s, h => by
    obtain ⟨y, h1, h2⟩ := h 0 (by omega)
    simp at h1
    subst h1
    have := pre_ge a m s (fun j hj => by obtain ⟨y, q1, q2⟩ := h (j + 1) (by omega); exact ⟨y, by simpa using q1, q2⟩)
    simp only [pre, h2, if_false]
    omega
theorem gap_lt (a : Int) (m : Nat) (hm : 0 < m) : ∀ (l : List Int), (∀ i, i + m ≤ l.length → ∃ j, j < m ∧ l[i + j]? = some a) → gapR a l < m
  | [], h => hm
  | x :: l, h => by
    have h1 : gapR a l < m := gap_lt a m hm l (fun i hi => by
      obtain ⟨j, h1, h2⟩ := h (i + 1) (by simp; omega)
      exact ⟨j, h1, by rw [show i + 1 + j = (i + j) + 1 by omega] at h2; simpa using h2⟩)
    have h2 : pre a (x :: l) < m := by
      rcases Nat.lt_or_ge (x :: l).length m with h3 | h3
      · exact Nat.lt_of_le_of_lt (gapR_le a (x :: l)).2 h3
      · obtain ⟨j, q1, q2⟩ := h 0 (by omega)
        rw [Nat.zero_add] at q2
        have := pre_lt a (x :: l) j q2
        omega
    simp only [gapR]
    omega
theorem rounds_fair (A k : Nat) (hA : 3 ≤ A) : fairTo (A : Int) (times (up A) k) A = true := by
  unfold fairTo
  rw [List.all_eq_true]
  intro b hb
  have hbA := List.mem_range.1 hb
  have hl := times_len (up A) k
  rw [up_len] at hl
  have : gapR (b : Int) (times (up A) k) < A := gap_lt _ A (by omega) _ (fun i hi => by
    rw [hl] at hi
    have hiA := Nat.mod_lt i (show 0 < A by omega)
    by_cases hc : i % A ≤ b
    · refine ⟨b - i % A, by omega, ?_⟩
      rw [times_get A k _ (by omega)]
      congr 2
      have e : i + (b - i % A) = b + A * (i / A) := by have := Nat.mod_add_div i A; omega
      rw [e, Nat.add_mul_mod_self_left, Nat.mod_eq_of_lt hbA]
    · refine ⟨b + A - i % A, by omega, ?_⟩
      rw [times_get A k _ (by omega)]
      congr 2
      have e : i + (b + A - i % A) = b + A * (i / A + 1) := by have := Nat.mod_add_div i A; rw [Nat.mul_add]; omega
      rw [e, Nat.add_mul_mod_self_left, Nat.mod_eq_of_lt hbA])
  simp only [decide_eq_true_eq]
  omega
theorem rounds_unfair (A k : Nat) (hA : 3 ≤ A) (hk : 1 ≤ k) : fairTo ((A : Int) - 1) (times (up A) k) A = false := by
  have hl := times_len (up A) k
  rw [up_len] at hl
  have hkA : A ≤ k * A := Nat.le_mul_of_pos_left A hk
  have hg : A - 1 ≤ gapR ((0 : Nat) : Int) (times (up A) k) := by
    have hget := times_get A k
    generalize times (up A) k = l at *
    cases l with
    | nil => simp at hl; omega
    | cons x l =>
      simp only [gapR]
      have h1 := pre_gap ((0 : Nat) : Int) l
      have h2 := pre_ge ((0 : Nat) : Int) (A - 1) l (fun j hj => by
        have := hget (j + 1) (by omega)
        rw [Nat.mod_eq_of_lt (show j + 1 < A by omega)] at this
        exact ⟨_, by simpa using this, by omega⟩)
      omega
  refine fairTo_false _ _ (show 1 ≤ A by omega) ?_
  simp only [fairTo, List.range_succ, List.range_zero, List.nil_append, List.all_cons, List.all_nil, Bool.and_true, decide_eq_false_iff_not]
  omega
theorem rounds_law (c : Cf) (v : Int) (hv : 0 ≤ v ∧ v ≤ 255) : FX 6 [.int c.c0, .int c.c1, .int c.c2, .int c.c3, .int c.c4, .int c.c5, .int c.c6, .int v] = some [.bool true] := by
  rw [E_law21_PlanRounds]
  by_cases hc : c.ok
  · obtain ⟨e1, e2⟩ := new_ok hc
    obtain ⟨⟨hA1, hA2⟩, _⟩ := ag_ok hc
    have hm : 0 ≤ Int.tmod v 20 ∧ Int.tmod v 20 < 20 := by rw [Int.tmod_eq_emod_of_nonneg hv.1]; omega
    obtain ⟨k, hk, ek⟩ : ∃ k : Nat, k < 20 ∧ IntKind.i64.wrap (Int.tmod v 20) = (k : Int) := ⟨(Int.tmod v 20).toNat, by omega, by rw [i64w _ (by omega) (by omega)]; omega⟩
    have hro := round_eq hc (k : Int)
    have hcl : clm 4096 (k : Int) = k := by unfold clm; omega
    rw [hcl] at hro
    have hll : (times (up (ag c)) k).length = k * ag c := by rw [times_len, up_len]
    have hmul : k * ag c ≤ 20 * 30 := Nat.mul_le_mul (by omega) hA2
    have hp := picked_eq hc (times (up (ag c)) k) (by omega)
    have ha := agents_eq hc
    simp only [RU.Cf.ds, List.cons_append, List.nil_append] at hp ha
    have hf : ∀ w : Int, FX 21 [.int c.c0, .int c.c1, .int c.c2, .int c.c3, .int c.c4, .int c.c5, .int c.c6, .int w, evs (times (up (ag c)) k)] = some [.bool (fairTo w (times (up (ag c)) k) (ag c))] := fun w => by
      have := fair_eq hc w (times (up (ag c)) k) (by omega)
      simp only [RU.Cf.ds, List.cons_append, List.nil_append] at this
      exact this
    simp only [e1, bindC, List.length_cons, List.length_nil, if_true, List.getD_cons_zero, List.getD_cons_succ, D.toInt_int, D.isNil_nil, Bool.not_true, Bool.false_eq_true, if_false, ek, hro, hp]
    have h := loop_from (W_law21_PlanRounds_1 (.int c.c0) (.int c.c1) (.int c.c2) (.int c.c3) (.int c.c4) (.int c.c5) (.int c.c6) (.int v) (.int c.c0) (.int c.c1) (.int c.c2) (.int c.c3) (.int c.c4) (.int c.c5) (.int c.c6) .nil (evs (times (up (ag c)) k)) (ints (cnt (ag c) (times (up (ag c)) k)))) (fun j => [.int (j : Nat)]) (ag c) (s0 := [.int 0]) (by simp) (fun j hj => by
      have h1 : (j : Int) < (ag c : Int) := by omega
      have hcnt : (times (up (ag c)) k).count (j : Int) = k := by rw [times_count, up_count, if_pos hj, Nat.mul_one]
      have hg := cnt_get (ag c) (times (up (ag c)) k) hj
      rw [hcnt] at hg
      rw [W_law21_PlanRounds_1_eq]
      simp only [D.toInt_int, ints_l, List.length_map, cnt_len, h1, decide_true, if_true, ge_iff_le, Int.natCast_nonneg, Int.toNat_natCast, hg, ek, bne_self_eq_false, Bool.false_eq_true, if_false, wj (show j < 9000000000000000 by omega)])
    refine h.trans ?_
    rw [W_law21_PlanRounds_1_eq]
    have hw1 : IntKind.i64.wrap ((k : Int) * (ag c : Int)) = ((k * ag c : Nat) : Int) := by
      rw [← Int.natCast_mul]; exact i64w _ (by omega) (by omega)
    have hw2 : IntKind.i64.wrap ((ag c : Int) - 1) = (ag c : Int) - 1 := i64w _ (by omega) (by omega)
    simp only [D.toInt_int, ints_l, evs_l, List.length_map, cnt_len, Int.lt_irrefl, decide_false, Bool.false_eq_true, if_false, awake_eq, bindC, List.length_cons, List.length_nil, if_true, List.getD_cons_zero, D.toBool_bool, ha, ek, hll, hw1, hw2, beq_self_eq_true, hf, rounds_fair (ag c) k hA1]
    by_cases h2 : (k : Int) < 2
    · simp only [h2, decide_true, if_true]
    · simp only [h2, decide_false, Bool.false_eq_true, if_false, rounds_unfair (ag c) k hA1 (by omega), Bool.not_false]
  · obtain ⟨e, r0, r1, r2, r3, r4, r5, r6, j, he, e1, e2⟩ := new_bad hc
    simp only [e1, bindC, List.length_cons, List.length_nil, if_true, List.getD_cons_zero, List.getD_cons_succ, he, Bool.not_false, awake_eq]
theorem rounds (x0 : List D) (d1 : D) (w0 : Open.AllF Try.prog [.int .i64, .int .i64, .int .i64, .int .i64, .int .i64, .int .i64, .int .i64] x0) (w1 : Wf Try.prog (.int .u8) d1) : FX 6 (x0 ++ [d1]) = some [.bool true] := by
  obtain ⟨c, rfl⟩ := cf_of w0
  obtain ⟨v, rfl, hv⟩ := w1.toInt
  exact rounds_law c v (by simpa [Lit.wf, IntKind.min, IntKind.max, IntKind.bits, IntKind.signed] using hv)
end Go.Proofs.Ytankedgkiecgaaa.PlanD
