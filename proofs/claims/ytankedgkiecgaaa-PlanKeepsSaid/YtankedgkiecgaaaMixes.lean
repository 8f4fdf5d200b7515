/-
  PlanMixes on data.
-/
import Derived.Test.YtankedgkiecgaaaPlC
import Derived.Test.YtankedgkiecgaaaProg
namespace Go.Proofs.Ytankedgkiecgaaa.PlanD
open Go.Proofs.Ytankedgkiecgaaa.Eng Go.Proofs.Ytankedgkiecgaaa Go.Proofs.Ytankedgkiecgaaa.Dat Go.Proofs.Ytankedgkiecgaaa.Open
set_option linter.unusedVariables false
set_option linter.unusedSimpArgs false
set_option maxRecDepth 10000

theorem most_le {n : Nat} {ls : List (List Int)} (h : ∀ x ∈ ls, x.length ≤ n) : most ls ≤ n := by
  induction ls with
  | nil => exact Nat.zero_le _
  | cons x l ih =>
    simp only [most]
    have h1 := h x (List.mem_cons_self ..)
    have h2 := ih fun y hy => h y (List.mem_cons_of_mem _ hy)
    omega
theorem rest_eq (agent : Int) (m : List Int) (hm : m.length ≤ 1000000) (x0 x2 x3 x5 : D) (g0 : Eng.Fn) (a1 : D) : ∃ f : Eng.Fn, W_law21_PlanMixes_2 x0 (.int agent) x2 x3 (ints m) x5 g0 [.int 0, .agg []] =
    W_law21_PlanMixes_2 x0 (.int agent) x2 x3 (ints m) x5 g0 [.int (m.length : Nat), ints (m.filter fun a => !isAg agent a)] := by
  refine ⟨fun _ => none, ?_⟩
  have h := loop_from (W_law21_PlanMixes_2 x0 (.int agent) x2 x3 (ints m) x5 g0) (fun j => [.int (j : Nat), ints ((m.take j).filter fun a => !isAg agent a)]) m.length (s0 := [.int 0, .agg []]) (by simp [ints]) (fun j hj => by
    have h1 : (j : Int) < (m.length : Int) := by omega
    have hl : ((m.take j).filter fun a => !isAg agent a).length ≤ 1000000 := Nat.le_trans (List.length_filter_le ..) (by simp; omega)
    have hb : ∀ x : D, (((((m.take j).filter fun a => !isAg agent a).map D.int ++ [x]).length : Nat) : Int) ≤ 17592186044416 := fun x => by
      rw [List.length_append, List.length_map]; simp only [List.length_cons, List.length_nil]; omega
    rw [W_law21_PlanMixes_2_eq]
    simp only [D.toInt_int, D.toL_agg, ints_l, List.length_map, h1, decide_true, if_true, ge_iff_le, Int.natCast_nonneg, Int.toNat_natCast, getD_map D.int hj, wj (show j < 9000000000000000 by omega), hb]
    rw [List.take_succ_eq_append_getElem hj, List.filter_append, List.filter_cons]
    by_cases h2 : m[j] = agent
    · by_cases h3 : m[j] < 0
      · have e : isAg agent m[j] = false := by simp [isAg, h3]
        have h3' : agent < 0 := by rw [← h2]; exact h3
        simp [h2, h3', e, isAg, ints]
      · have e : isAg agent m[j] = true := by simp [isAg, h3, h2]; omega
        have h3' : ¬ agent < 0 := by rw [← h2]; exact h3
        simp only [h2] at e
        simp [h2, h3', e, ints]
    · have e : isAg agent m[j] = false := by simp [isAg, h2]
      simp [h2, e, ints])
  rw [List.take_length] at h
  exact h
theorem mixes (d0 d1 : D) (w0 : Wf Try.prog (.slice 25) d0) (w1 : Wf Try.prog (.int .i64) d1) : FX 3 [d0, d1] = some [.bool true] := by
  obtain ⟨ls, rfl, _⟩ := w0.rowsOfInts (e' := 3) (k := .i64) (by kernel_rfl) (by kernel_rfl)
  obtain ⟨agent, rfl, _⟩ := w1.toInt
  rw [show (D.agg (ls.map fun r => .agg (r.map D.int))) = rows ls from rfl, E_law21_PlanMixes]
  simp only [rows_l, List.length_map]
  by_cases h20 : (ls.length : Int) > 20
  · simp only [h20, decide_true, if_true, awake_eq, bindC, List.length_cons, List.length_nil, List.getD_cons_zero]
  · simp only [h20, decide_false, Bool.false_eq_true, if_false]
    have hlen : ls.length ≤ 20 := by omega
    -- the rows one by one
    have hrun : ∀ (n j : Nat), ls.length - j = n → j ≤ ls.length → (∀ x ∈ ls.take j, x.length ≤ 50) → W_law21_PlanMixes_1 (rows ls) (.int agent) [.int (j : Nat), erows (ls.take j)] = some [.bool true] := by
      intro n
      induction n with
      | zero =>
        intro j hn hj hx
        obtain rfl : j = ls.length := by omega
        rw [List.take_length] at hx ⊢
        have hm := most_le hx
        have hml : (mix ls).length ≤ 1000000 := by
          have := mixTo_len ls (most ls)
          have h2 : most ls * ls.length ≤ 50 * 20 := Nat.mul_le_mul hm hlen
          unfold mix
          omega
        rw [W_law21_PlanMixes_1_eq]
        simp only [D.toInt_int, rows_l, List.length_map, Int.lt_irrefl, decide_false, Bool.false_eq_true, if_false, refMix_eq ls (by omega) (by omega), mix_eq ls (by omega) (by omega), bindC, List.length_cons, List.length_nil, if_true, List.getD_cons_zero]
        obtain ⟨_, hr⟩ := rest_eq agent (mix ls) hml (rows ls) (.int (ls.length : Nat)) (erows ls) (evs (mix ls)) (W_law21_PlanMixes_1 (rows ls) (.int agent)) (.agg [])
        rw [hr, W_law21_PlanMixes_2_eq]
        have hfl : ((mix ls).filter fun a => !isAg agent a).length ≤ 1000000000 := Nat.le_trans (List.length_filter_le ..) (by omega)
        simp only [D.toInt_int, ints_l, List.length_map, Int.lt_irrefl, decide_false, Bool.false_eq_true, if_false, awake_eq, bindC, List.length_cons, List.length_nil, if_true, List.getD_cons_zero, D.toBool_bool, same_eq (mix ls) (by omega), without_eq agent (mix ls) (by omega), same_eq _ hfl]
      | succ n ih =>
        intro j hn hj hx
        have hlt : j < ls.length := by omega
        have h1 : (j : Int) < (ls.length : Int) := by omega
        rw [W_law21_PlanMixes_1_eq]
        simp only [D.toInt_int, D.toL_agg, rows_l, erows_l, List.length_map, h1, decide_true, if_true, ge_iff_le, Int.natCast_nonneg, Int.toNat_natCast, getD_map ints hlt, ints_l, wj (show j < 9000000000000000 by omega)]
        by_cases h50 : ((ls[j]).length : Int) > 50
        · simp only [h50, decide_true, if_true, awake_eq, bindC, List.length_cons, List.length_nil, List.getD_cons_zero]
        · have hb : ((((ls.take j).map evs ++ [evs ls[j]]).length : Nat) : Int) ≤ 5864062014805 := by
            rw [List.length_append, List.length_map]; simp only [List.length_cons, List.length_nil, List.length_take]; omega
          simp only [h50, decide_false, Bool.false_eq_true, if_false, events_eq ls[j] (by omega), bindC, List.length_cons, List.length_nil, if_true, List.getD_cons_zero, hb, decide_true]
          have := ih (j + 1) (by omega) (by omega) (fun x hx' => by
            rw [List.take_succ_eq_append_getElem hlt] at hx'
            rcases List.mem_append.1 hx' with h | h
            · exact hx x h
            · obtain rfl := List.mem_singleton.1 h; omega)
          rw [List.take_succ_eq_append_getElem hlt] at this
          have e : erows (ls.take j ++ [ls[j]]) = D.agg (List.map evs (List.take j ls) ++ [evs ls[j]]) := by simp only [erows, List.map_append, List.map_cons, List.map_nil]
          rw [e] at this
          exact this
    have := hrun ls.length 0 rfl (Nat.zero_le _) (fun x h => by simp at h)
    simpa [erows] using this
end Go.Proofs.Ytankedgkiecgaaa.PlanD
