/-
  Plan on data: rows that something is taken out of; repeats.
-/
import Derived.Test.YtankedgkiecgaaaPlA
namespace Go.Proofs.Ytankedgkiecgaaa.PlanD
open Go.Proofs.Ytankedgkiecgaaa.Eng Go.Proofs.Ytankedgkiecgaaa Go.Proofs.Ytankedgkiecgaaa.Dat Go.Proofs.Ytankedgkiecgaaa.Open
set_option linter.unusedVariables false
set_option linter.unusedSimpArgs false
set_option maxRecDepth 10000

theorem del_run {α : Type} (f : α → D) (p : α → Bool) (l : List α) (W : Eng.Fn)
    (hk : ∀ (i j : Nat) (arr : List D) (x : α), i < j → j < l.length → arr.length = l.length → arr.getD j .nil = f x → p x = false → W [.int i, .int j, .agg arr] = W [.int ((i + 1 : Nat) : Int), .int ((j + 1 : Nat) : Int), .agg (arr.set i (f x))])
    (hd : ∀ (i j : Nat) (arr : List D) (x : α), i < j → j < l.length → arr.length = l.length → arr.getD j .nil = f x → p x = true → W [.int i, .int j, .agg arr] = W [.int i, .int ((j + 1 : Nat) : Int), .agg arr])
    (he : ∀ (i : Nat) (arr : List D), i ≤ l.length → arr.length = l.length → W [.int i, .int (l.length : Nat), .agg arr] = some [.agg (arr.take i)]) :
    ∀ (n i j : Nat) (arr : List D), l.length - j = n → j ≤ l.length → i < j → arr.length = l.length → arr.drop j = (l.drop j).map f → W [.int i, .int j, .agg arr] = some [.agg (arr.take i ++ ((l.drop j).filter (fun x => !p x)).map f)] := by
  intro n
  induction n with
  | zero =>
    intro i j arr hn hj hij hlen hdr
    obtain rfl : j = l.length := by omega
    rw [he i arr (by omega) hlen]
    simp
  | succ n ih =>
    intro i j arr hn hj hij hlen hdr
    have hlt : j < l.length := by omega
    have hdl : l.drop j = l[j] :: l.drop (j + 1) := List.drop_eq_getElem_cons hlt
    have hda : arr.drop j = arr[j] :: arr.drop (j + 1) := List.drop_eq_getElem_cons (by omega)
    rw [hdl, List.map_cons, hda] at hdr
    injection hdr with h1 h2
    have hg : arr.getD j .nil = f l[j] := by rw [List.getD_eq_getElem?_getD, List.getElem?_eq_getElem (by omega), h1]; rfl
    rw [hdl, List.filter_cons]
    cases hp : p l[j] with
    | false =>
      rw [hk i j arr _ hij hlt hlen hg hp, ih (i + 1) (j + 1) _ (by omega) (by omega) (by omega) (by simpa using hlen) (by rw [List.drop_set_of_lt (by omega)]; exact h2)]
      have : (arr.set i (f l[j])).take (i + 1) = arr.take i ++ [f l[j]] := by
        rw [List.take_succ_eq_append_getElem (by simp; omega), List.take_set_of_le (Nat.le_refl _)]
        simp
      rw [this]
      simp
    | true =>
      rw [hd i j arr _ hij hlt hlen hg hp, ih i (j + 1) arr (by omega) (by omega) (by omega) hlen h2]
      simp
theorem idx_run {α : Type} (p : α → Bool) (l : List α) (W : Eng.Fn) (hy : ∀ (j : Nat) (h : j < l.length), p l[j] = true → W [.int j] = some [.int j]) (hn : ∀ (j : Nat) (h : j < l.length), p l[j] = false → W [.int j] = W [.int ((j + 1 : Nat) : Int)]) (he : W [.int (l.length : Nat)] = some [.int (-1)]) :
    ∀ (n j : Nat), l.length - j = n → j ≤ l.length → (∃ (k : Nat) (h : k < l.length), j ≤ k ∧ p l[k] = true ∧ (∀ (i : Nat) (h : i < l.length), j ≤ i → i < k → p l[i] = false) ∧ W [.int j] = some [.int k]) ∨ ((∀ (i : Nat) (h : i < l.length), j ≤ i → p l[i] = false) ∧ W [.int j] = some [.int (-1)]) := by
  intro n
  induction n with
  | zero =>
    intro j hn' hj
    obtain rfl : j = l.length := by omega
    exact .inr ⟨fun i h1 h2 => by omega, he⟩
  | succ n ih =>
    intro j hn' hj
    have hlt : j < l.length := by omega
    cases hp : p l[j] with
    | true => exact .inl ⟨j, hlt, Nat.le_refl _, hp, fun i _ h1 h2 => by omega, hy j hlt hp⟩
    | false =>
      have hno : ∀ (i : Nat) (h : i < l.length), j ≤ i → ¬ j + 1 ≤ i → p l[i] = false := fun i h h1 h2 => by
        obtain rfl : i = j := by omega
        exact hp
      rcases ih (j + 1) (by omega) (by omega) with ⟨k, h, h1, h2, h3, h4⟩ | ⟨h1, h2⟩
      · exact .inl ⟨k, h, by omega, h2, fun i hi hji hik => if hc : j + 1 ≤ i then h3 i hi hc hik else hno i hi hji hc, (hn j hlt hp).trans h4⟩
      · exact .inr ⟨fun i hi hji => if hc : j + 1 ≤ i then h1 i hi hc else hno i hi hji hc, (hn j hlt hp).trans h2⟩
theorem filter_at {α : Type} (f : α → D) (p : α → Bool) (l : List α) (k : Nat) (h : k < l.length) (hp : p l[k] = true) (hno : ∀ (i : Nat) (h : i < l.length), i < k → p l[i] = false) :
    (l.map f).take k ++ ((l.drop (k + 1)).filter (fun x => !p x)).map f = (l.filter (fun x => !p x)).map f := by
  have hl : l = l.take k ++ l[k] :: l.drop (k + 1) := by rw [← List.drop_eq_getElem_cons h, List.take_append_drop]
  have ht : (l.take k).filter (fun x => !p x) = l.take k := by
    rw [List.filter_eq_self]
    intro x hx
    obtain ⟨i, hi⟩ := List.getElem?_of_mem hx
    rw [List.getElem?_take] at hi
    split at hi
    · rename_i hik
      have hil : i < l.length := (List.getElem?_eq_some_iff.1 hi).1
      rw [List.getElem?_eq_getElem hil] at hi
      cases hi
      rw [hno i hil hik]; rfl
    · cases hi
  conv => rhs; rw [hl]
  rw [List.filter_append, ht, List.filter_cons, hp]
  simp
theorem filter_none {α : Type} (p : α → Bool) (l : List α) (hno : ∀ (i : Nat) (h : i < l.length), p l[i] = false) : l.filter (fun x => !p x) = l := by
  rw [List.filter_eq_self]
  intro x hx
  obtain ⟨i, hi⟩ := List.getElem?_of_mem hx
  obtain ⟨h1, h2⟩ := List.getElem?_eq_some_iff.1 hi
  rw [← h2, hno i h1]; rfl

/-! Events without an agent. -/
def isAg (agent a : Int) : Bool := !decide (a < 0) && a == agent
def fnW (agent : Int) : D := .iface 30 (.agg [.iface 3 (.agg [.int agent])])
theorem del1 (agent a : Int) : FX 30 [(ev a).toL.getD 0 .nil, (ev a).toL.getD 1 .nil, (ev a).toL.getD 2 .nil, (ev a).toL.getD 3 .nil, (ev a).toL.getD 4 .nil, (ev a).toL.getD 5 .nil, (ev a).toL.getD 6 .nil, (ev a).toL.getD 7 .nil, (ev a).toL.getD 8 .nil, (ev a).toL.getD 9 .nil, (ev a).toL.getD 10 .nil, (ev a).toL.getD 11 .nil, .agg [.int agent]] = some [.bool (isAg agent a)] := by
  rw [E_plan_Without_1]
  unfold isAg ev
  split
  · rename_i h; simp [tk, h]
  · rename_i h; simp [pk, h]
theorem fnW_if (agent : Int) : (fnW agent).isIf 30 = true := rfl
theorem fnW_in (agent : Int) : (fnW agent).inner.toL = [.iface 3 (.agg [.int agent])] := rfl
theorem index_eq (agent : Int) (l : List Int) (hl : l.length ≤ 1000000000) : (∃ (k : Nat) (h : k < l.length), isAg agent l[k] = true ∧ (∀ (i : Nat) (h : i < l.length), i < k → isAg agent l[i] = false) ∧ FX 40 [evs l, fnW agent] = some [.int k]) ∨
    ((∀ (i : Nat) (h : i < l.length), isAg agent l[i] = false) ∧ FX 40 [evs l, fnW agent] = some [.int (-1)]) := by
  rw [E_slices_IndexFunc_pool_Event_pool_Event]
  have hstep : ∀ (j : Nat) (h : j < l.length), W_slices_IndexFunc_pool_Event_pool_Event_1 (evs l) (fnW agent) [.int j] = if isAg agent l[j] = true then some [.int j] else W_slices_IndexFunc_pool_Event_pool_Event_1 (evs l) (fnW agent) [.int ((j + 1 : Nat) : Int)] := by
    intro j hj
    have h1 : (j : Int) < (l.length : Int) := by omega
    rw [W_slices_IndexFunc_pool_Event_pool_Event_1_eq]
    simp only [D.toInt_int, D.toL_agg, evs_l, List.length_map, h1, decide_true, if_true, ge_iff_le, Int.natCast_nonneg, Int.toNat_natCast, getD_map ev hj, wj (show j < 9000000000000000 by omega), fnW_if, fnW_in, List.length_cons, List.length_nil, List.getD_cons_zero, D.isIf_iface, D.inner_iface, beq_self_eq_true, Nat.zero_add, Int.natCast_one, del1, bindC, D.toBool_bool]
  have he : W_slices_IndexFunc_pool_Event_pool_Event_1 (evs l) (fnW agent) [.int (l.length : Nat)] = some [.int (-1)] := by
    rw [W_slices_IndexFunc_pool_Event_pool_Event_1_eq]
    simp only [D.toInt_int, evs_l, List.length_map, Int.lt_irrefl, decide_false, Bool.false_eq_true, if_false]
  rcases idx_run (isAg agent) l _ (fun j h hp => by rw [hstep j h, if_pos hp]) (fun j h hp => by rw [hstep j h, if_neg (by simp [hp])]) he l.length 0 rfl (Nat.zero_le _) with ⟨k, h, _, h2, h3, h4⟩ | ⟨h1, h2⟩
  · exact .inl ⟨k, h, h2, fun i hi hk => h3 i hi (Nat.zero_le _) hk, h4⟩
  · exact .inr ⟨fun i hi => h1 i hi (Nat.zero_le _), h2⟩
theorem delete_eq (agent : Int) (l : List Int) (hl : l.length ≤ 1000000000) : FX 28 [evs l, fnW agent] = some [evs (l.filter fun a => !isAg agent a)] := by
  rw [E_slices_DeleteFunc_pool_Event_pool_Event]
  rcases index_eq agent l hl with ⟨k, hk, hp, hno, e⟩ | ⟨hno, e⟩
  · have hne : ((k : Int) == -1) = false := by simp
    simp only [e, bindC, List.length_cons, List.length_nil, if_true, List.getD_cons_zero, D.toInt_int, hne, Bool.false_eq_true, if_false, wj (show k < 9000000000000000 by omega)]
    have hstep : ∀ (i j : Nat) (arr : List D) (x : Int), i < j → j < l.length → arr.length = l.length → arr.getD j .nil = ev x → ∀ x2, W_slices_DeleteFunc_pool_Event_pool_Event_1 (evs l) (fnW agent) x2 [.int i, .int j, .agg arr] =
        if isAg agent x = true then W_slices_DeleteFunc_pool_Event_pool_Event_1 (evs l) (fnW agent) x2 [.int i, .int ((j + 1 : Nat) : Int), .agg arr] else W_slices_DeleteFunc_pool_Event_pool_Event_1 (evs l) (fnW agent) x2 [.int ((i + 1 : Nat) : Int), .int ((j + 1 : Nat) : Int), .agg (arr.set i (ev x))] := by
      intro i j arr x hij hj hlen hg x2
      have h1 : (j : Int) < (l.length : Int) := by omega
      have h2 : (i : Int) < (l.length : Int) := by omega
      rw [W_slices_DeleteFunc_pool_Event_pool_Event_1_eq]
      simp only [D.toInt_int, D.toL_agg, hlen, h1, h2, decide_true, if_true, ge_iff_le, Int.natCast_nonneg, Int.toNat_natCast, hg, wj (show j < 9000000000000000 by omega), wj (show i < 9000000000000000 by omega), fnW_if, fnW_in, List.length_cons, List.length_nil, List.getD_cons_zero, D.isIf_iface, D.inner_iface, beq_self_eq_true, Nat.zero_add, Int.natCast_one, del1, bindC, D.toBool_bool, copy_ev]
      cases isAg agent x <;> rfl
    have he : ∀ (i : Nat) (arr : List D), i ≤ l.length → arr.length = l.length → ∀ x2, W_slices_DeleteFunc_pool_Event_pool_Event_1 (evs l) (fnW agent) x2 [.int i, .int (l.length : Nat), .agg arr] = some [.agg (arr.take i)] := by
      intro i arr hi hlen x2
      rw [W_slices_DeleteFunc_pool_Event_pool_Event_1_eq]
      have h1 : (i : Int) ≤ (l.length : Int) := by omega
      simp only [D.toInt_int, D.toL_agg, hlen, Int.lt_irrefl, decide_false, Bool.false_eq_true, if_false, Int.natCast_nonneg, h1, decide_true, if_true, Int.le_refl, Int.toNat_natCast, Int.toNat_zero, Nat.sub_zero, List.drop_zero, List.length_append, List.length_take, List.length_replicate, List.length_drop, Nat.min_eq_left hi, Nat.min_self, Nat.add_sub_cancel' hi]
      rw [List.take_append_of_le_length (by simp; omega), List.take_take, Nat.min_self]
    refine (del_run ev (isAg agent) l _ (fun i j arr x h1 h2 h3 h4 h5 => by rw [hstep i j arr x h1 h2 h3 h4, if_neg (by simp [h5])]) (fun i j arr x h1 h2 h3 h4 h5 => by rw [hstep i j arr x h1 h2 h3 h4, if_pos h5]) (fun i arr h1 h2 => he i arr h1 h2 _) (l.length - (k + 1)) k (k + 1) (l.map ev) rfl (by omega) (by omega) (by simp) (by simp)).trans ?_
    rw [filter_at ev (isAg agent) l k hk hp hno]
    rfl
  · simp only [e, bindC, List.length_cons, List.length_nil, if_true, List.getD_cons_zero, D.toInt_int, beq_self_eq_true]
    rw [filter_none _ _ hno]
theorem without_eq (agent : Int) (l : List Int) (hl : l.length ≤ 1000000000) : FX 13 [.int agent, evs l] = some [evs (l.filter fun a => !isAg agent a)] := by
  have hc : FX 29 [evs l] = some [evs l] := by
    rw [E_slices_Clone_pool_Event_pool_Event]
    have hb : ((l.length : Nat) : Int) ≤ 1466015503701 := by omega
    simp only [evs_l, List.length_map, hb, decide_true, if_true]
    split
    · rename_i h
      have : l = [] := by simpa using h
      subst this
      exact both_self _
    · rfl
  rw [E_plan_Without]
  simp only [hc, bindC, List.length_cons, List.length_nil, if_true, List.getD_cons_zero]
  rw [show (D.iface 30 (D.agg ((D.iface 3 (D.agg (D.int agent :: []))) :: []))) = fnW agent from rfl, delete_eq agent l hl]
  rfl
end Go.Proofs.Ytankedgkiecgaaa.PlanD
