/-
  StoryJoins on data.
-/
import Derived.Test.YtnaemggpelolcaaDoorLight
namespace Go.Proofs.YtnaemggpelolcaaDoor.StoD
open Go.Proofs.YtnaemggpelolcaaDoor.Eng Go.Proofs.YtnaemggpelolcaaDoor.Dat Go.Proofs.YtnaemggpelolcaaDoor Go.Proofs.YtnaemggpelolcaaDoor.WordP Go.Proofs.YtnaemggpelolcaaDoor.StrL Go.Proofs.YtnaemggpelolcaaDoor.Open
set_option linter.unusedVariables false
set_option linter.unusedSimpArgs false
set_option maxRecDepth 10000

theorem evs_get {l : List Ev} {i : Nat} {x : Ev} (h : l[i]? = some x) : (evsD l).toL.getD i .nil = evD x := by
  simp only [evsD, D.toL_agg, List.getD_eq_getElem?_getD, List.getElem?_map, h]; rfl
theorem evs_len (l : List Ev) : (evsD l).toL.length = l.length := by simp [evsD]
theorem same_ev (x : Ev) : (!((x.k == x.k) && ((x.w == x.w) && ((x.n == x.n) && scmpF .eql (toB x.l) (toB x.l))))) = false := by simp [eql_toB]
theorem joins_loop (x0 x1 x2 x3 x5 x7 x9 : D) (xs ys : List Ev) (hl : xs.length + ys.length ≤ 1000000) : ∀ (d i : Nat), d + i = xs.length + ys.length →
    W_law26_StoryJoins_1 x0 x1 x2 x3 (evsD xs) x5 (evsD ys) x7 (evsD (xs ++ ys)) x9 [.int (i : Nat)] = some [.bool true]
  | 0, i, h => by
    have h1 : ¬ ((i : Int) < (((xs ++ ys).length : Nat) : Int)) := by rw [List.length_append]; omega
    rw [W_law26_StoryJoins_1_eq]
    simp only [D.toInt_int, evs_len, h1, decide_false, Bool.false_eq_true, if_false, awake_eq, bindC, List.length_cons, List.length_nil, if_true, List.getD_cons_zero]
  | d + 1, i, h => by
    have hll : (xs ++ ys).length = xs.length + ys.length := List.length_append
    have hlt : i < (xs ++ ys).length := by rw [List.length_append]; omega
    have h1 : ((i : Int) < (((xs ++ ys).length : Nat) : Int)) := by omega
    have h2 : (i : Int) ≥ 0 := by omega
    have e3 : IntKind.i64.wrap ((i : Int) + 1) = ((i + 1 : Nat) : Int) := by rw [wrap_small _ (by omega) (by omega)]; omega
    have e4 : IntKind.i64.wrap ((i : Int) - (xs.length : Int)) = (i : Int) - (xs.length : Int) := i64w _ (by omega) (by omega)
    have ih := joins_loop x0 x1 x2 x3 x5 x7 x9 xs ys hl d (i + 1) (by omega)
    have hx : (xs ++ ys)[i]? = some (xs ++ ys)[i] := List.getElem?_eq_getElem hlt
    rw [W_law26_StoryJoins_1_eq]
    generalize (xs ++ ys)[i] = e at hx
    by_cases hi : i < xs.length
    · have h3 : ((i : Int) < ((xs.length : Nat) : Int)) := by omega
      have h4 : ¬ ((i : Int) ≥ ((xs.length : Nat) : Int)) := by omega
      have hx' : xs[i]? = some e := by rw [← hx, List.getElem?_append_left hi]
      simp only [D.toInt_int, evs_len, h1, h2, h3, h4, decide_true, decide_false, if_true, Int.toNat_natCast, evs_get hx, evs_get hx', e3, ih]
      simp only [evD, D.toL_agg, List.getD_cons_zero, List.getD_cons_succ, D.toInt_int, D.toStr_str, same_ev, Bool.false_eq_true, if_false]
    · have h3 : ¬ ((i : Int) < ((xs.length : Nat) : Int)) := by omega
      have h4 : ((i : Int) ≥ ((xs.length : Nat) : Int)) := by omega
      have h5 : (i : Int) - (xs.length : Int) ≥ 0 := by omega
      have h6 : (i : Int) - (xs.length : Int) < ((ys.length : Nat) : Int) := by omega
      have h7 : ((i : Int) - (xs.length : Int)).toNat = i - xs.length := by omega
      have hy' : ys[i - xs.length]? = some e := by rw [← hx, List.getElem?_append_right (by omega)]
      simp only [D.toInt_int, evs_len, h1, h2, h3, h4, e4, h5, h6, h7, decide_true, decide_false, Bool.false_eq_true, if_false, if_true, Int.toNat_natCast, evs_get hx, evs_get hy', e3, ih]
      simp only [evD, D.toL_agg, List.getD_cons_zero, List.getD_cons_succ, D.toInt_int, D.toStr_str, same_ev, Bool.false_eq_true, if_false]
theorem joins_law (a b : List Bs) (la : a.length ≤ 1000000000000000) (sa : ∀ s ∈ a, s.length ≤ 1000000000000000) (lb : b.length ≤ 1000000000000000) (sb : ∀ s ∈ b, s.length ≤ 1000000000000000) : FX 3 [wD a, wD b] = some [.bool true] := by
  rw [E_law26_StoryJoins]
  have ev0 : D.agg ((wD a).toL ++ [D.str (ByteArray.mk #[]), D.str (ByteArray.mk #[35, 32, 97, 110, 100])]) = wD (a ++ [[], [35, 32, 97, 110, 100]]) := by simp [wD]; exact ⟨rfl, rfl⟩
  have ev1 : D.agg ((wD (a ++ [[], [35, 32, 97, 110, 100]])).toL ++ (wD b).toL) = wD (a ++ [[], [35, 32, 97, 110, 100]] ++ b) := by simp [wD]
  simp only [light_eq a la sa, light_eq b lb sb, bindC, List.length_cons, List.length_nil, if_true, List.getD_cons_zero, D.toBool_bool, awake_eq, ev0, ev1]
  refine cutI (fun _ => rfl) fun h1 => ?_
  refine cutI (fun _ => rfl) fun h2 => ?_
  have k1 : lightB 0 a = true ∧ a.length ≤ 100 := by simpa using h1
  have k2 : lightB 0 b = true ∧ b.length ≤ 100 := by simpa using h2
  have sa' := lightB_short k1.1
  have sb' := lightB_short k2.1
  have pa := story_eq a (by omega) fun s hs => by have := sa' s hs; omega
  have pb := story_eq b (by omega) fun s hs => by have := sb' s hs; omega
  have pc := story_eq (a ++ [[], [35, 32, 97, 110, 100]] ++ b) (by simp; omega) (fun s hs => by
    simp only [List.mem_append, List.mem_cons, List.not_mem_nil, or_false] at hs
    rcases hs with (hs | rfl | rfl) | hs
    · have := sa' s hs; omega
    · simp
    · simp
    · have := sb' s hs; omega)
  simp only [pa, pb]
  cases ha : storyB 0 a with
  | error e =>
    obtain ⟨i, c, p⟩ := e
    have nn : (lineNo i (flt c p)).isNil = false := rfl
    cases hb : storyB 0 b with
    | error e' => obtain ⟨i', c', p'⟩ := e'; simp only [resS, List.length_cons, List.length_nil, if_true, List.getD_cons_zero, List.getD_cons_succ, nn, Bool.not_false]
    | ok fs => simp only [resS, List.length_cons, List.length_nil, if_true, List.getD_cons_zero, List.getD_cons_succ, nn, Bool.not_false]
  | ok es =>
    cases hb : storyB 0 b with
    | error e' =>
      obtain ⟨i', c', p'⟩ := e'
      have nn : (lineNo i' (flt c' p')).isNil = false := rfl
      simp only [resS, List.length_cons, List.length_nil, if_true, List.getD_cons_zero, List.getD_cons_succ, D.isNil_nil, Bool.not_true, Bool.false_eq_true, if_false, nn, Bool.not_false]
    | ok fs =>
      have l1 := storyB_len ha
      have l2 := storyB_len hb
      have hj : storyB 0 (a ++ [[], [35, 32, 97, 110, 100]] ++ b) = .ok (es ++ fs) := by
        rw [List.append_assoc]
        exact storyB_append ha (by
          have h1 := storyB_ok hb (1 + 1)
          show storyB 0 ([] :: [35, 32, 97, 110, 100] :: b) = _
          simp only [storyB, show lineB [] = .ok [] from rfl, show lineB [35, 32, 97, 110, 100] = .ok [] from rfl]
          rw [storyB_ok hb (0 + 1 + 1)]
          rfl)
      have e1 : IntKind.i64.wrap ((es.length : Int) + (fs.length : Int)) = ((es.length + fs.length : Nat) : Int) := by rw [wrap_small _ (by omega) (by omega)]; omega
      simp only [resS, List.length_cons, List.length_nil, if_true, List.getD_cons_zero, List.getD_cons_succ, D.isNil_nil, Bool.not_true, Bool.false_eq_true, if_false, evs_len, e1, D.toInt_int]
      by_cases hbig : ((es.length + fs.length : Nat) : Int) > 50000
      · simp only [hbig, decide_true, if_true]
      · have b1 : (((wD a).toL.length : Int) ≤ 8796093022208) := by rw [wD_lenN]; omega
        have b2 : (((wD (a ++ [[], [35, 32, 97, 110, 100]])).toL.length : Int) ≤ 8796093022208) := by rw [wD_lenN]; simp; omega
        have b3 : (((wD (a ++ [[], [35, 32, 97, 110, 100]] ++ b)).toL.length : Int) ≤ 8796093022208) := by rw [wD_lenN]; simp; omega
        have q : ((((es ++ fs).length : Nat) : Int) != ((es.length + fs.length : Nat) : Int)) = false := by rw [List.length_append]; simp
        rw [hj] at pc
        simp only [hbig, decide_false, Bool.false_eq_true, if_false, b1, b2, b3, decide_true, if_true, pc, resS, List.length_cons, List.length_nil, List.getD_cons_zero, List.getD_cons_succ, D.isNil_nil, Bool.not_true, evs_len, q]
        exact joins_loop _ _ _ _ _ _ _ es fs (by omega) (es.length + fs.length) 0 (by omega)
theorem joins (d0 d1 : D) (w0 : Wf Tryd.prog (.slice 9) d0) (w1 : Wf Tryd.prog (.slice 9) d1) : FX 3 [d0, d1] = some [.bool true] := by
  obtain ⟨a, rfl, la, sa⟩ := lines_of (by kernel_rfl) (by kernel_rfl) w0
  obtain ⟨b, rfl, lb, sb⟩ := lines_of (by kernel_rfl) (by kernel_rfl) w1
  exact joins_law a b la sa lb sb
end Go.Proofs.YtnaemggpelolcaaDoor.StoD
