/-
  StoryParses on data.
-/
import Derived.Test.YtnaemggpelolcaaGreatDoorRefOne
import Derived.Test.YtnaemggpelolcaaGreatDoorNumE
namespace Go.Proofs.YtnaemggpelolcaaGreatDoor.StoD
open Go.Proofs.YtnaemggpelolcaaGreatDoor.Eng Go.Proofs.YtnaemggpelolcaaGreatDoor.Dat Go.Proofs.YtnaemggpelolcaaGreatDoor Go.Proofs.YtnaemggpelolcaaGreatDoor.WordP Go.Proofs.YtnaemggpelolcaaGreatDoor.StrL Go.Proofs.YtnaemggpelolcaaGreatDoor.Open Go.Proofs.YtnaemggpelolcaaGreatDoor.RefD
open Go.Lib (decDigits itoa nDigits)
set_option linter.unusedVariables false
set_option linter.unusedSimpArgs false
set_option maxRecDepth 10000

theorem flt_err (c p : Nat) : flt c p = NumE.errAt p c := rfl
theorem place_note (i c p : Nat) (hs : List D) : ∃ y, FX 9 [lineNo i (flt c p), .agg hs] = some [.int (p : Nat), .bool true, .agg (hs ++ [y])] := by
  refine ⟨.agg [.agg [.int (p : Nat), codeD c]], ?_⟩
  rw [E_fault_Place, NumE.as_eq]
  simp [ErrD.asFn, ErrD.asRes, ErrD.asF, lineNo, flt, codeD, bindC]
theorem words_note (i c p : Nat) (hs : List D) : ∃ h, FX 10 [lineNo i (flt c p), .agg hs] = some [.agg [.str (toB (decDigits (i + 1)))], h] := by
  have nn : ∀ n : Int, (D.int n).isNil = false := fun _ => rfl
  refine ⟨.agg (hs ++ [.agg [.agg [.str (toB (decDigits (i + 1))), flt c p]], .agg [.agg [.str (toB (decDigits (i + 1))), flt c p]]]), ?_⟩
  rw [E_fault_Words, W_fault_Words_1_eq, NumE.as_eq]
  simp [ErrD.asFn, ErrD.asRes, ErrD.asN, lineNo, flt, codeD, bindC, nn]
  rw [W_fault_Words_1_eq, NumE.as_eq]
  simp [ErrD.asFn, ErrD.asRes, ErrD.asN, lineNo, flt, codeD, bindC, nn]
theorem num_note (i c p : Nat) (hc : 1 ≤ c ∧ c ≤ 29) : FX 11 [lineNo i (flt c p)] = some [.int (c : Nat)] := by
  rw [E_law01_Num]
  refine NumE.num_loop _ (c : Nat) (by omega) (fun k => ?_) (c - 1) 1 (by omega) (by omega)
  rw [NumE.is_eq]
  simp [ErrD.isF, ErrD.isN, lineNo, flt, codeD]
theorem lineB_code {s : Bs} {c p : Nat} (h : lineB s = .error (c, p)) : c = 10 ∨ c = 13 := by
  have ev : ∀ {v : Bs} {ns : List Int}, evsB v ns = .error (c, p) → c = 10 := by
    intro v ns h
    unfold evsB at h
    split at h
    · split at h
      · cases h
      · split at h
        · cases h
        · cases h; rfl
    · split at h
      · cases h
      · split at h
        · cases h
        · cases h; rfl
    · cases h; rfl
  unfold lineB at h
  split at h
  · cases h
  · split at h
    · unfold parseB at h
      split at h
      · split at h
        · cases h; exact .inr rfl
        · split at h
          · cases h
          · cases h; exact .inr rfl
      · split at h
        · cases h; exact .inr rfl
        · exact .inl (ev h)
    · cases h; exact .inl rfl
theorem evs_get {l : List Ev} {i : Nat} {x : Ev} (h : l[i]? = some x) : (evsD l).toL.getD i .nil = evD x := by
  simp only [evsD, D.toL_agg, List.getD_eq_getElem?_getD, List.getElem?_map, h]; rfl
theorem evs_len (l : List Ev) : (evsD l).toL.length = l.length := by simp [evsD]
theorem same_ev (x : Ev) : (!((x.k == x.k) && ((x.w == x.w) && ((x.n == x.n) && scmpF .eql (toB x.l) (toB x.l))))) = false := by simp [eql_toB]
theorem same_all (x0 x1 x3 x4 x6 : D) (g0 : Eng.Fn) (es : List Ev) (hl : es.length ≤ 1000000) : ∀ (d i : Nat), d + i = es.length →
    W_law26_StoryParses_2 x0 x1 (evsD es) x3 x4 (evsD es) x6 g0 [.int (i : Nat)] = some [.bool true]
  | 0, i, h => by
    have h1 : ¬ ((i : Int) < ((es.length : Nat) : Int)) := by omega
    rw [W_law26_StoryParses_2_eq]
    simp only [D.toInt_int, evs_len, h1, decide_false, Bool.false_eq_true, if_false, awake_eq, bindC, List.length_cons, List.length_nil, if_true, List.getD_cons_zero]
  | d + 1, i, h => by
    have hlt : i < es.length := by omega
    have h1 : ((i : Int) < ((es.length : Nat) : Int)) := by omega
    have h2 : (i : Int) ≥ 0 := by omega
    have e3 : IntKind.i64.wrap ((i : Int) + 1) = ((i + 1 : Nat) : Int) := by rw [wrap_small _ (by omega) (by omega)]; omega
    have ih := same_all x0 x1 x3 x4 x6 g0 es hl d (i + 1) (by omega)
    have hx : es[i]? = some es[i] := List.getElem?_eq_getElem hlt
    rw [W_law26_StoryParses_2_eq]
    generalize es[i] = e at hx
    simp only [D.toInt_int, evs_len, h1, h2, decide_true, if_true, Int.toNat_natCast, evs_get hx, e3, ih]
    simp only [evD, D.toL_agg, List.getD_cons_zero, List.getD_cons_succ, D.toInt_int, D.toStr_str, same_ev, Bool.false_eq_true, if_false]
theorem parses_loop (ls : List Bs) (hl : ls.length ≤ 100) (hs : ∀ s ∈ ls, s.length ≤ 100000) (x1 : D) (R : Except (Nat × Nat × Nat) (List Ev)) : ∀ (d i : Nat) (acc : List Ev), d + i = ls.length → acc.length ≤ 50000 → R = afterS acc (storyB i (ls.drop i)) →
    W_law26_StoryParses_1 (wD ls) x1 ((resS R).getD 0 .nil) ((resS R).getD 1 .nil) [.int (i : Nat), evsD acc, .agg []] = some [.bool true]
  | 0, i, acc, h, ha, hR => by
    have h1 : ¬ ((i : Int) < ((ls.length : Nat) : Int)) := by omega
    rw [List.drop_eq_nil_of_le (by omega)] at hR
    simp only [storyB, afterS, List.append_nil] at hR
    subst hR
    have q : ((((acc.length : Nat) : Int)) != ((acc.length : Nat) : Int)) = false := by simp
    rw [W_law26_StoryParses_1_eq]
    simp only [D.toInt_int, wD_lenN, h1, decide_false, Bool.false_eq_true, if_false, resS, List.getD_cons_zero, List.getD_cons_succ, D.isNil_nil, Bool.not_true, evs_len, q]
    exact same_all _ _ _ _ _ _ acc (by omega) acc.length 0 (by omega)
  | d + 1, i, acc, h, ha, hR => by
    have hlt : i < ls.length := by omega
    have hg : (wD ls).toL.getD i .nil = .str (toB ls[i]) := by simp [wD, hlt]
    have h1 : ((i : Int) < ((ls.length : Nat) : Int)) := by omega
    have h2 : (i : Int) ≥ 0 := by omega
    have e3 : IntKind.i64.wrap ((i : Int) + 1) = ((i + 1 : Nat) : Int) := by rw [wrap_small _ (by omega) (by omega)]; omega
    have hsi := hs ls[i] (List.getElem_mem hlt)
    rw [List.drop_eq_getElem_cons hlt] at hR
    simp only [storyB] at hR
    generalize ls[i] = s at hg hsi hR
    rw [W_law26_StoryParses_1_eq]
    simp only [D.toInt_int, wD_lenN, h1, h2, decide_true, if_true, Int.toNat_natCast, hg, one_eq s hsi]
    cases hb : lineB s with
    | error e =>
      obtain ⟨c, p⟩ := e
      rw [hb] at hR
      simp only [afterS] at hR
      subst hR
      have hc := lineB_code hb
      have hc0 : (((c : Nat) : Int) != 0) = true := by rcases hc with rfl | rfl <;> rfl
      obtain ⟨y, hy⟩ := place_note i c p []
      obtain ⟨h', hw⟩ := words_note i c p ([] ++ [y])
      have hnum := num_note i c p (by omega)
      have hdec := dec_eq (i + 1) (by omega)
      have q1 : (((c : Nat) : Int) == ((c : Nat) : Int)) = true := by simp
      have q2 : (((p : Nat) : Int) == ((p : Nat) : Int)) = true := by simp
      have q3 : (((0 : Nat) : Int) == 0) = true := rfl
      have q4 : (((0 + 1 : Nat) : Int) == 1) = true := rfl
      have q5 : ((0 : Int) < ((0 + 1 : Nat) : Int)) := by decide
      simp only [resO, resS, bindC, List.length_cons, List.length_nil, if_true, List.getD_cons_zero, List.getD_cons_succ, D.toInt_int, hc0, hy, hw, awake_eq, D.toBool_bool, D.toL_agg, q3, hnum, q1, q2, q4, q5, decide_true, e3, hdec, D.toStr_str, eql_toB, beq_self_eq_true, show ((0 : Int)).toNat = 0 from rfl]
    | ok es =>
      rw [hb] at hR
      have h10 := lineB_len hb
      have ev : D.agg ((evsD acc).toL ++ (evsD es).toL) = evsD (acc ++ es) := by simp [evsD]
      have q0 : (((0 : Int)) != 0) = false := rfl
      have b1 : ((((acc ++ es).length : Nat) : Int) ≤ 3518437208883) := by rw [List.length_append]; omega
      simp only [resO, bindC, List.length_cons, List.length_nil, if_true, List.getD_cons_zero, List.getD_cons_succ, D.toInt_int, q0, Bool.false_eq_true, if_false, ev, evs_len, b1, decide_true, e3, awake_eq]
      by_cases hbig : ((((acc ++ es).length : Nat) : Int) > 50000)
      · simp only [hbig, decide_true, if_true]
      · simp only [hbig, decide_false, Bool.false_eq_true, if_false]
        refine parses_loop ls hl hs x1 R d (i + 1) (acc ++ es) (by omega) (by omega) ?_
        rw [hR]
        cases storyB (i + 1) (ls.drop (i + 1)) with
        | error e => rfl
        | ok fs => simp [afterS]
theorem parses_law (a : List Bs) (la : a.length ≤ 1000000000000000) (sa : ∀ s ∈ a, s.length ≤ 1000000000000000) : FX 3 [wD a] = some [.bool true] := by
  rw [E_law26_StoryParses]
  simp only [light_eq a la sa, bindC, List.length_cons, List.length_nil, if_true, List.getD_cons_zero, D.toBool_bool, awake_eq]
  refine cutI (fun _ => rfl) fun h1 => ?_
  have k1 : lightB 0 a = true ∧ a.length ≤ 100 := by simpa using h1
  have sa' := lightB_short k1.1
  have pa := story_eq a (by omega) fun s hs => by have := sa' s hs; omega
  have l2 : (resS (storyB 0 a)).length = 2 := by cases storyB 0 a <;> rfl
  simp only [pa, l2, if_true]
  exact parses_loop a k1.2 (fun s hs => by have := sa' s hs; omega) _ (storyB 0 a) a.length 0 [] (by omega) (by simp) (by
    rw [List.drop_zero]
    cases storyB 0 a with
    | error e => rfl
    | ok fs => simp [afterS])
theorem parses (d0 : D) (w0 : Wf Tryz.prog (.slice 9) d0) : FX 3 [d0] = some [.bool true] := by
  obtain ⟨a, rfl, la, sa⟩ := lines_of (by kernel_rfl) (by kernel_rfl) w0
  exact parses_law a la sa
end Go.Proofs.YtnaemggpelolcaaGreatDoor.StoD
