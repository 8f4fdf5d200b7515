/-
  Plan on data: repeats, runs.
-/
import Derived.Test.YtankedgkiecgaaaPlB
namespace Go.Proofs.Ytankedgkiecgaaa.PlanD
open Go.Proofs.Ytankedgkiecgaaa.Eng Go.Proofs.Ytankedgkiecgaaa Go.Proofs.Ytankedgkiecgaaa.Dat Go.Proofs.Ytankedgkiecgaaa.Open
set_option linter.unusedVariables false
set_option linter.unusedSimpArgs false
set_option maxRecDepth 10000

theorem u64w (x : Int) (h1 : 0 ≤ x) (h2 : x ≤ 18446744073709551615) : IntKind.u64.wrap x = x := by
  simp [IntKind.wrap, IntKind.bits, IntKind.signed]; omega
theorem and_mask (x : Int) (h1 : 0 ≤ x) (h2 : x < 4294967296) : arF .and .u64 x 4294967295 = x := by
  obtain ⟨n, rfl⟩ := Int.eq_ofNat_of_zero_le h1
  have hn : n < 4294967296 := by omega
  have e : (BitVec.ofInt 64 (n : Int) &&& BitVec.ofInt 64 4294967295).toNat = n := by
    rw [BitVec.toNat_and]
    have e1 : (BitVec.ofInt 64 (n : Int)).toNat = n := by
      rw [BitVec.toNat_ofInt]; omega
    have e2 : (BitVec.ofInt 64 (4294967295 : Int)).toNat = 2 ^ 32 - 1 := by rfl
    rw [e1, e2, Nat.and_two_pow_sub_one_eq_mod]
    exact Nat.mod_eq_of_lt hn
  show IntKind.u64.wrap ((BitVec.ofInt 64 (n : Int) &&& BitVec.ofInt 64 4294967295).toNat : Int) = _
  rw [e]
  exact u64w _ (by omega) (by omega)
theorem shr32 (x : Int) (h1 : 0 ≤ x) (h2 : x < 4294967296) : arF .shr .u64 x 32 = 0 := by
  show x.fdiv (2 ^ ((32 : Int)).toNat) = 0
  rw [Int.fdiv_eq_ediv_of_nonneg _ (by decide)]
  exact Int.ediv_eq_zero_of_lt h1 h2
theorem mul_eq (n : Int) (h1 : 0 ≤ n) (h2 : n < 4294967296) : FX 42 [.int 1, .int n] = some [.int 0, .int n] := by
  rw [E_math_bits_Mul, E_math_bits_Mul64]
  simp only [D.toInt_int, shr32 n h1 h2, shr32 1 (by decide) (by decide), and_mask n h1 h2, and_mask 1 (by decide) (by decide), Int.zero_mul, Int.mul_zero, Int.one_mul, Int.mul_one, Int.zero_add, Int.add_zero, u64w 0 (by decide) (by decide), u64w n h1 (by omega), shr32 0 (by decide) (by decide), and_mask 0 (by decide) (by decide), bindC, List.length_cons, List.length_nil, if_true, List.getD_cons_zero, List.getD_cons_succ]
def z12 : D := .agg [.int 0, .int 0, .int 0, .int 0, .int 0, .int 0, .int 0, .int 0, .int 0, .int 0, .int 0, .int 0]
theorem rep_rounds (x : D) (x0 x1 x2 x3 : D) (N : Nat) (hN : N ≤ 1000000) : ∀ (k m : Nat), N - m = k → 0 < m → m ≤ N → W_slices_Repeat_pool_Event_pool_Event_1 x0 x1 x2 x3 [.int m, .agg (List.replicate m x ++ List.replicate (N - m) z12)] = some [.agg (List.replicate N x)] := by
  intro k
  induction k using Nat.strongRecOn with
  | _ k ih =>
    intro m hk hm hle
    rw [W_slices_Repeat_pool_Event_pool_Event_1_eq]
    have hlen : (List.replicate m x ++ List.replicate (N - m) z12).length = N := by simp; omega
    by_cases h : m = N
    · subst h
      simp only [D.toInt_int, D.toL_agg, Nat.sub_self, List.replicate_zero, List.append_nil, List.length_replicate, Int.lt_irrefl, decide_false, Bool.false_eq_true, if_false]
    · have h1 : (m : Int) < (N : Int) := by omega
      have h2 : (m : Int) ≤ (N : Int) := by omega
      have e1 : (List.replicate m x ++ List.replicate (N - m) z12).take m = List.replicate m x := by rw [List.take_left' (by simp)]
      have e2 : (List.replicate m x ++ List.replicate (N - m) z12).drop m = List.replicate (N - m) z12 := by rw [List.drop_left' (by simp)]
      simp only [D.toInt_int, D.toL_agg, hlen, h1, h2, decide_true, if_true, Int.natCast_nonneg, Int.le_refl, Int.toNat_natCast, Int.toNat_zero, Nat.sub_zero, List.drop_zero, e1, e2, List.length_take, List.length_replicate, Nat.min_self]
      have e3 : (List.replicate (N - m) z12).take (N - m) = List.replicate (N - m) z12 := by rw [List.take_of_length_le (by simp)]
      rw [e3]
      by_cases hc : (m : Int) ≤ ((N - m : Nat) : Int)
      · have hw : IntKind.i64.wrap ((m : Int) + (m : Int)) = ((m + m : Nat) : Int) := by rw [i64w _ (by omega) (by omega)]; simp
        have e4 : (List.replicate (N - m) z12).drop m = List.replicate (N - (m + m)) z12 := by rw [List.drop_replicate]; congr 1; omega
        simp only [hc, decide_true, if_true, D.toInt_int, Int.toNat_natCast, hw, e4, List.length_replicate]
        have e5 : (List.replicate m x).take m = List.replicate m x := by rw [List.take_of_length_le (by simp)]
        have e6 : (List.replicate (N - (m + m)) z12).take (N - m - m) = List.replicate (N - (m + m)) z12 := by rw [List.take_of_length_le (by simp; omega)]
        rw [e5, e6, ← List.append_assoc, List.replicate_append_replicate]
        exact ih (N - (m + m)) (by omega) (m + m) rfl (by omega) (by omega)
      · have hw : IntKind.i64.wrap ((m : Int) + ((N - m : Nat) : Int)) = ((N : Nat) : Int) := by rw [i64w _ (by omega) (by omega)]; omega
        have e4 : (List.replicate (N - m) z12).drop (N - m) = [] := by simp
        simp only [hc, decide_false, Bool.false_eq_true, if_false, D.toInt_int, Int.toNat_natCast, hw, e4, List.length_replicate, List.take_nil, List.append_nil]
        have e5 : (List.replicate m x).take (N - m) = List.replicate (N - m) x := by rw [List.take_replicate]; congr 1; omega
        rw [e5, List.replicate_append_replicate, show m + (N - m) = N by omega]
        have := ih 0 (by omega) N (by omega) (by omega) (Nat.le_refl _)
        simpa using this
theorem repeat_eq (x : D) (N : Nat) (hN : N ≤ 1000000) : FX 36 [.agg [x], .int (N : Nat)] = some [.agg (List.replicate N x)] := by
  rw [E_slices_Repeat_pool_Event_pool_Event]
  have h0 : ¬ ((N : Nat) : Int) < 0 := by omega
  have h1 : ((N : Nat) : Int) ≤ 9223372036854775807 := by omega
  have h2 : ((N : Nat) : Int) ≤ 1466015503701 := by omega
  have h3 : ¬ (9223372036854775807 : Int) < (N : Int) := by omega
  have hm := mul_eq (N : Int) (by omega) (by omega)
  have hw1 : IntKind.u64.wrap ((1 : Nat) : Int) = 1 := by rfl
  have hw2 : IntKind.u64.wrap (1 : Int) = 1 := by rfl
  have hwi : IntKind.i64.wrap (N : Int) = (N : Int) := i64w _ (by omega) (by omega)
  simp only [D.toInt_int, D.toL_agg, h0, decide_false, Bool.false_eq_true, if_false, hw1, hw2, u64w (N : Int) (by omega) (by omega), hm, bindC, List.length_cons, List.length_nil, if_true, List.getD_cons_zero, List.getD_cons_succ, Int.lt_irrefl, gt_iff_lt, h3, hwi, ge_iff_le, Int.natCast_nonneg, decide_true, h2, Int.toNat_natCast, List.length_replicate, Nat.zero_add]
  by_cases h : N = 0
  · subst h
    simp only [Int.natCast_zero, Int.natCast_one, show ¬ ((1 : Int) ≤ 0) by decide, decide_false, Bool.false_eq_true, if_false, D.toInt_int, Int.toNat_zero, List.replicate_zero]
    rw [W_slices_Repeat_pool_Event_pool_Event_1_eq]
    simp
  · have hc : ((1 : Nat) : Int) ≤ (N : Int) := by omega
    simp only [hc, decide_true, if_true, D.toInt_int, Int.toNat_natCast, Int.toNat_zero, Nat.sub_zero, List.drop_zero]
    have e1 : [x].take 1 = List.replicate 1 x := rfl
    have e2 : ∀ z : D, ((List.replicate N z).drop 1).take (N - 1) = List.replicate (N - 1) z := fun z => by rw [List.drop_replicate, List.take_of_length_le (by simp)]
    rw [e1, e2]
    exact rep_rounds x _ _ _ _ N hN (N - 1) 1 rfl (by omega) (by omega)
def clamp (n : Int) : Nat := (max 0 (min n 65536)).toNat
theorem burst_eq (a n : Int) : FX 23 [.int a, .int n] = some [.agg (List.replicate (clamp n) (pk a))] := by
  rw [E_plan_Burst, E_plan_pick]
  have h := repeat_eq (pk a) (clamp n) (by unfold clamp; omega)
  have hpk : (D.agg [D.agg [D.int 3, D.int a, D.int 0, D.int 0, D.int 0, D.int 0, D.int 0, D.int 0, D.int 0, D.int 0, D.int 0, D.int 0]]) = D.agg [pk a] := rfl
  simp only [bindC, List.length_cons, List.length_nil, if_true, List.getD_cons_zero, List.getD_cons_succ, D.toInt_int]
  rw [hpk]
  by_cases h1 : (65536 : Int) < n
  · have hc : ((clamp n : Nat) : Int) = 65536 := by unfold clamp; omega
    rw [hc] at h
    simp only [h1, decide_true, if_true, D.toInt_int, show (65536 : Int) > 0 by decide, h]
    rfl
  · simp only [h1, decide_false, Bool.false_eq_true, if_false, D.toInt_int]
    by_cases h2 : n > 0
    · have hc : ((clamp n : Nat) : Int) = n := by unfold clamp; omega
      rw [hc] at h
      simp only [h2, decide_true, if_true, h]
      rfl
    · have hc : ((clamp n : Nat) : Int) = 0 := by unfold clamp; omega
      rw [hc] at h
      simp only [h2, decide_false, Bool.false_eq_true, if_false, h]
      rfl

/-! Runs. -/
def pr (x : Int × Int) : D := .agg [.int x.1, .int x.2]
def step (out : List (Int × Int)) (a : Int) : List (Int × Int) :=
  if a < 0 then out ++ [(-1, 0)] else match out.getLast? with
    | some (b, n) => if b = a ∧ n > 0 then out.dropLast ++ [(a, n + 1)] else out ++ [(a, 1)]
    | none => out ++ [(a, 1)]
def fold (l : List Int) : List (Int × Int) := l.foldl step []
theorem fold_snoc (l : List Int) (a : Int) : fold (l ++ [a]) = step (fold l) a := by simp [fold]
theorem fold_ok (l : List Int) : (fold l).length ≤ l.length ∧ ∀ x ∈ fold l, 0 ≤ x.2 ∧ x.2 ≤ l.length := by
  suffices h : ∀ (r : List Int), (fold r.reverse).length ≤ r.length ∧ ∀ x ∈ fold r.reverse, 0 ≤ x.2 ∧ x.2 ≤ r.length by
    have := h l.reverse
    simpa using this
  intro r
  induction r with
  | nil => exact ⟨Nat.le_refl _, fun x h => by cases h⟩
  | cons a r ih =>
    obtain ⟨h1, h2⟩ := ih
    rw [List.reverse_cons, fold_snoc]
    generalize fold r.reverse = out at h1 h2
    unfold step
    split
    · refine ⟨by simp; omega, fun x hx => ?_⟩
      rcases List.mem_append.1 hx with hx | hx
      · have := h2 x hx; simp; omega
      · obtain rfl := List.mem_singleton.1 hx; simp; omega
    · split
      · rename_i b n hl
        have hb : (b, n) ∈ out := List.mem_of_getLast? hl
        split
        · refine ⟨by simp; omega, fun x hx => ?_⟩
          rcases List.mem_append.1 hx with hx | hx
          · have := h2 x ((List.dropLast_sublist out).subset hx); simp; omega
          · obtain rfl := List.mem_singleton.1 hx
            have := h2 _ hb
            simp at this ⊢; omega
        · refine ⟨by simp; omega, fun x hx => ?_⟩
          rcases List.mem_append.1 hx with hx | hx
          · have := h2 x hx; simp; omega
          · obtain rfl := List.mem_singleton.1 hx; simp; omega
      · refine ⟨by simp; omega, fun x hx => ?_⟩
        rcases List.mem_append.1 hx with hx | hx
        · have := h2 x hx; simp; omega
        · obtain rfl := List.mem_singleton.1 hx; simp; omega
def isZ (x : Int × Int) : Bool := x.2 == 0
def fnZ : D := .iface 35 (.agg [])
theorem fnZ_if : fnZ.isIf 35 = true := rfl
theorem fnZ_in : fnZ.inner.toL = [] := rfl
theorem delZ (x : Int × Int) : FX 35 [(pr x).toL.getD 0 .nil, (pr x).toL.getD 1 .nil] = some [.bool (isZ x)] := by
  rw [E_plan_Runs_1]; rfl
theorem copy_pr (x : Int × Int) : D.agg ((pr x).toL.getD 0 .nil :: (pr x).toL.getD 1 .nil :: []) = pr x := rfl
theorem index2_eq (l : List (Int × Int)) (hl : l.length ≤ 1000000000) : (∃ (k : Nat) (h : k < l.length), isZ l[k] = true ∧ (∀ (i : Nat) (h : i < l.length), i < k → isZ l[i] = false) ∧ FX 41 [.agg (l.map pr), fnZ] = some [.int k]) ∨
    ((∀ (i : Nat) (h : i < l.length), isZ l[i] = false) ∧ FX 41 [.agg (l.map pr), fnZ] = some [.int (-1)]) := by
  rw [E_slices_IndexFunc_2_int_2_int]
  have hstep : ∀ (j : Nat) (h : j < l.length), W_slices_IndexFunc_2_int_2_int_1 (.agg (l.map pr)) fnZ [.int j] = if isZ l[j] = true then some [.int j] else W_slices_IndexFunc_2_int_2_int_1 (.agg (l.map pr)) fnZ [.int ((j + 1 : Nat) : Int)] := by
    intro j hj
    have h1 : (j : Int) < (l.length : Int) := by omega
    rw [W_slices_IndexFunc_2_int_2_int_1_eq]
    simp only [D.toInt_int, D.toL_agg, List.length_map, h1, decide_true, if_true, ge_iff_le, Int.natCast_nonneg, Int.toNat_natCast, getD_map pr hj, wj (show j < 9000000000000000 by omega), fnZ_if, fnZ_in, List.length_cons, List.length_nil, List.getD_cons_zero, beq_self_eq_true, Nat.zero_add, Int.natCast_zero, delZ, bindC, D.toBool_bool]
  have he : W_slices_IndexFunc_2_int_2_int_1 (.agg (l.map pr)) fnZ [.int (l.length : Nat)] = some [.int (-1)] := by
    rw [W_slices_IndexFunc_2_int_2_int_1_eq]
    simp only [D.toInt_int, D.toL_agg, List.length_map, Int.lt_irrefl, decide_false, Bool.false_eq_true, if_false]
  rcases idx_run isZ l _ (fun j h hp => by rw [hstep j h, if_pos hp]) (fun j h hp => by rw [hstep j h, if_neg (by simp [hp])]) he l.length 0 rfl (Nat.zero_le _) with ⟨k, h, _, h2, h3, h4⟩ | ⟨h1, h2⟩
  · exact .inl ⟨k, h, h2, fun i hi hk => h3 i hi (Nat.zero_le _) hk, h4⟩
  · exact .inr ⟨fun i hi => h1 i hi (Nat.zero_le _), h2⟩
theorem delete2_eq (l : List (Int × Int)) (hl : l.length ≤ 1000000000) : FX 34 [.agg (l.map pr), fnZ] = some [.agg ((l.filter fun a => !isZ a).map pr)] := by
  rw [E_slices_DeleteFunc_2_int_2_int]
  rcases index2_eq l hl with ⟨k, hk, hp, hno, e⟩ | ⟨hno, e⟩
  · have hne : ((k : Int) == -1) = false := by simp
    simp only [e, bindC, List.length_cons, List.length_nil, if_true, List.getD_cons_zero, D.toInt_int, hne, Bool.false_eq_true, if_false, wj (show k < 9000000000000000 by omega)]
    have hstep : ∀ (i j : Nat) (arr : List D) (x : Int × Int), i < j → j < l.length → arr.length = l.length → arr.getD j .nil = pr x → ∀ x2, W_slices_DeleteFunc_2_int_2_int_1 (.agg (l.map pr)) fnZ x2 [.int i, .int j, .agg arr] =
        if isZ x = true then W_slices_DeleteFunc_2_int_2_int_1 (.agg (l.map pr)) fnZ x2 [.int i, .int ((j + 1 : Nat) : Int), .agg arr] else W_slices_DeleteFunc_2_int_2_int_1 (.agg (l.map pr)) fnZ x2 [.int ((i + 1 : Nat) : Int), .int ((j + 1 : Nat) : Int), .agg (arr.set i (pr x))] := by
      intro i j arr x hij hj hlen hg x2
      have h1 : (j : Int) < (l.length : Int) := by omega
      have h2 : (i : Int) < (l.length : Int) := by omega
      rw [W_slices_DeleteFunc_2_int_2_int_1_eq]
      simp only [D.toInt_int, D.toL_agg, hlen, h1, h2, decide_true, if_true, ge_iff_le, Int.natCast_nonneg, Int.toNat_natCast, hg, wj (show j < 9000000000000000 by omega), wj (show i < 9000000000000000 by omega), fnZ_if, fnZ_in, List.length_cons, List.length_nil, List.getD_cons_zero, beq_self_eq_true, Nat.zero_add, Int.natCast_zero, delZ, bindC, D.toBool_bool, copy_pr]
      cases isZ x <;> rfl
    have he : ∀ (i : Nat) (arr : List D), i ≤ l.length → arr.length = l.length → ∀ x2, W_slices_DeleteFunc_2_int_2_int_1 (.agg (l.map pr)) fnZ x2 [.int i, .int (l.length : Nat), .agg arr] = some [.agg (arr.take i)] := by
      intro i arr hi hlen x2
      rw [W_slices_DeleteFunc_2_int_2_int_1_eq]
      have h1 : (i : Int) ≤ (l.length : Int) := by omega
      simp only [D.toInt_int, D.toL_agg, hlen, Int.lt_irrefl, decide_false, Bool.false_eq_true, if_false, Int.natCast_nonneg, h1, decide_true, if_true, Int.le_refl, Int.toNat_natCast, Int.toNat_zero, Nat.sub_zero, List.drop_zero, List.length_append, List.length_take, List.length_replicate, List.length_drop, Nat.min_eq_left hi, Nat.min_self, Nat.add_sub_cancel' hi]
      rw [List.take_append_of_le_length (by simp; omega), List.take_take, Nat.min_self]
    refine (del_run pr isZ l _ (fun i j arr x h1 h2 h3 h4 h5 => by rw [hstep i j arr x h1 h2 h3 h4, if_neg (by simp [h5])]) (fun i j arr x h1 h2 h3 h4 h5 => by rw [hstep i j arr x h1 h2 h3 h4, if_pos h5]) (fun i arr h1 h2 => he i arr h1 h2 _) (l.length - (k + 1)) k (k + 1) (l.map pr) rfl (by omega) (by omega) (by simp) (by simp)).trans ?_
    rw [filter_at pr isZ l k hk hp hno]
  · simp only [e, bindC, List.length_cons, List.length_nil, if_true, List.getD_cons_zero, D.toInt_int, beq_self_eq_true]
    rw [filter_none _ _ hno]
def runs (l : List Int) : List (Int × Int) := (fold l).filter fun x => !isZ x
theorem runs_eq (l : List Int) (hl : l.length ≤ 1000000) : FX 18 [evs l] = some [.agg ((runs l).map pr)] := by
  rw [E_plan_Runs]
  have h := loop_from (W_plan_Runs_1 (evs l)) (fun j => [.int (j : Nat), .agg ((fold (l.take j)).map pr)]) l.length (s0 := [.int 0, .agg []]) (by simp [fold]) (fun j hj => by
    have h1 : (j : Int) < (l.length : Int) := by omega
    have hf := fold_ok (l.take j)
    rw [List.take_succ_eq_append_getElem hj, fold_snoc]
    generalize fold (l.take j) = out at hf
    obtain ⟨hf1, hf2⟩ := hf
    have hjl : (l.take j).length ≤ 1000000 := by simp; omega
    have hb : ∀ x : D, (((out.map pr ++ [x]).length : Nat) : Int) ≤ 8796093022208 := fun x => by simp; omega
    have hw := wj (show j < 9000000000000000 by omega)
    rw [W_plan_Runs_1_eq]
    simp only [D.toInt_int, D.toL_agg, evs_l, List.length_map, h1, decide_true, if_true, ge_iff_le, Int.natCast_nonneg, Int.toNat_natCast, getD_map ev hj, hw, hb]
    unfold step
    by_cases h0 : l[j] < 0
    · rw [if_pos h0]
      simp only [ev_neg h0]
      simp only [tk, D.toL_agg, List.getD_cons_zero, D.toInt_int]
      rw [if_pos (by decide), List.map_append]
      rfl
    · rw [if_neg h0]
      simp only [ev_pos h0]
      simp only [pk, D.toL_agg, List.getD_cons_zero, List.getD_cons_succ, D.toInt_int]
      rw [if_neg (by decide)]
      rcases List.eq_nil_or_concat out with rfl | ⟨init, ⟨b, n⟩, rfl⟩
      · simp [pr]
      · simp only [List.concat_eq_append] at hf1 hf2 hb ⊢
        have hn := hf2 (b, n) (by simp)
        have hlen : ((init ++ [(b, n)]).length : Int) = ((init.length + 1 : Nat) : Int) := by simp
        have hpos : ((init.length + 1 : Nat) : Int) > 0 := by omega
        have hwl : IntKind.i64.wrap (((init.length + 1 : Nat) : Int) - 1) = (init.length : Int) := by
          simp at hf1
          rw [i64w _ (by omega) (by omega)]; omega
        have hg : ((init ++ [(b, n)]).map pr).getD init.length .nil = pr (b, n) := by simp [List.getD_eq_getElem?_getD]
        have hlt : (init.length : Int) < ((init.length + 1 : Nat) : Int) := by omega
        have hwn : IntKind.i64.wrap (n + 1) = n + 1 := i64w _ (by simp at hn; omega) (by simp at hn; omega)
        simp only [hlen, hpos, decide_true, if_true, hwl, Int.natCast_nonneg, hlt, Int.toNat_natCast, hg]
        simp only [pr, D.toL_agg, List.getD_cons_zero, List.getD_cons_succ, D.toInt_int, List.getLast?_append, List.getLast?_singleton, Option.some_or, hwn]
        by_cases hba : b = l[j]
        · simp only [hba, beq_self_eq_true, if_true, true_and]
          by_cases hn0 : n > 0
          · simp only [hn0, decide_true, if_true]
            congr 2
            simp [pr, List.range, List.range.loop]
          · simp only [hn0, decide_false, Bool.false_eq_true, if_false]
            congr 2
            simp [pr]
        · have : (b == l[j]) = false := by simpa using hba
          simp only [this, Bool.false_eq_true, if_false, hba, false_and]
          congr 2
          simp [pr])
  rw [h, W_plan_Runs_1_eq]
  have hd := delete2_eq (fold l) (by have := (fold_ok l).1; omega)
  rw [show fnZ = D.iface 35 (D.agg []) from rfl] at hd
  simp only [D.toInt_int, D.toL_agg, evs_l, List.length_map, Int.lt_irrefl, decide_false, Bool.false_eq_true, if_false, List.take_length, hd, bindC, List.length_cons, List.length_nil, if_true, List.getD_cons_zero]
  rfl
theorem evs_rep (a : Int) (h : ¬ a < 0) (n : Nat) : (List.replicate n (pk a)) = (List.replicate n a).map ev := by
  rw [List.map_replicate, ev_pos h]
theorem awake_eq : FX 8 [] = some [.bool true] := by
  rw [E_law21_awake]
  have e3 : clamp 3 = 3 := by decide
  have e1 : clamp 1 = 1 := by decide
  have hr := runs_eq [2, 2, 2, 0] (by decide)
  have hl : (List.replicate 3 (pk 2) ++ List.replicate 1 (pk 0)) = [(2 : Int), 2, 2, 0].map ev := rfl
  have hrr : runs [2, 2, 2, 0] = [(2, 3), (0, 1)] := by decide
  rw [hrr] at hr
  simp only [burst_eq, e3, e1, bindC, List.length_cons, List.length_nil, if_true, List.getD_cons_zero, D.toL_agg, hl]
  rw [show D.agg ([(2 : Int), 2, 2, 0].map ev) = evs [2, 2, 2, 0] from rfl, hr]
  rfl
end Go.Proofs.Ytankedgkiecgaaa.PlanD
