/-
  StoryPrints on data.
-/
import Derived.Test.YtnaemggpelolcaaGreatDoorRefLine
import Derived.Test.YtnaemggpelolcaaGreatDoorParsesS
namespace Go.Proofs.YtnaemggpelolcaaGreatDoor.StoD
open Go.Proofs.YtnaemggpelolcaaGreatDoor.Eng Go.Proofs.YtnaemggpelolcaaGreatDoor.Dat Go.Proofs.YtnaemggpelolcaaGreatDoor Go.Proofs.YtnaemggpelolcaaGreatDoor.WordP Go.Proofs.YtnaemggpelolcaaGreatDoor.StrL Go.Proofs.YtnaemggpelolcaaGreatDoor.Open Go.Proofs.YtnaemggpelolcaaGreatDoor.RefD
open Go.Lib (decDigits itoa nDigits)
set_option linter.unusedVariables false
set_option linter.unusedSimpArgs false
set_option maxRecDepth 10000

theorem lit64 {n : Int} (h : (Lit.int IntKind.i64 n).wf = true) : -9223372036854775808 ≤ n ∧ n ≤ 9223372036854775807 := by
  simp [Lit.wf, IntKind.min, IntKind.max, IntKind.bits, IntKind.signed] at h
  omega
/-- An event whose numbers are ints and whose line is not long. -/
structure EvOk (e : Ev) : Prop where
  w1 : -9223372036854775808 ≤ e.w
  w2 : e.w ≤ 9223372036854775807
  n1 : -9223372036854775808 ≤ e.n
  n2 : e.n ≤ 9223372036854775807
  l : e.l.length ≤ 5000
theorem same_true {x e : Ev} (h : ((x.k == e.k) && ((x.w == e.w) && ((x.n == e.n) && scmpF .eql (toB x.l) (toB e.l)))) = true) : x = e := by
  obtain ⟨k, w, n, l⟩ := x
  obtain ⟨k', w', n', l'⟩ := e
  simp only [eql_toB, Bool.and_eq_true, beq_iff_eq] at h
  obtain ⟨rfl, rfl, rfl, rfl⟩ := h
  rfl
def contP (e : Ev) (i : Nat) (out : List Bs) (g : Eng.Fn) (m : Nat) : Option (List D) := match evLine e m with
  | none => some [.agg [], flt 6 i]
  | some s => g [.int ((i + m : Nat) : Int), wD (out ++ [s])]
def contQ (e : Ev) (i : Nat) (out : List Bs) (g : Eng.Fn) (m : Nat) : Option (List D) := match evLine e m with
  | none => some [.agg [], .int (i : Nat)]
  | some s => g [.int ((i + m : Nat) : Int), wD (out ++ [s])]
theorem at_6 (i : Nat) : FX 19 [.int (i : Nat), .iface 50 (.int 6)] = some [flt 6 i] := at_eq i 6
theorem prints2 (es : List Ev) (hes : es.length ≤ 5000) (i : Nat) (e : Ev) (he : es[i]? = some e) (ho : EvOk e) (out : List Bs) (hout : out.length ≤ 5000) : ∀ (d n : Nat), d + n = 10000 → 1 ≤ n → i + n ≤ es.length → (e.k = 3 ∨ n = 1) → (∀ j, j < n → es[i + j]? = some e) →
    ∃ m, 1 ≤ m ∧ m ≤ 10000 ∧ i + m ≤ es.length ∧ (e.k = 3 ∨ m = 1) ∧ (∀ j, j < m → es[i + j]? = some e) ∧
      (∀ g, W_story_Print_2 (evsD es) (.int (i : Nat)) (wD out) g [.int (n : Nat)] = contP e i out g m) ∧
      (∀ g, W_ref26_Print_2 (evsD es) (.int (i : Nat)) (wD out) g [.int (n : Nat)] = contQ e i out g m) := by
  have hi : i < es.length := (List.getElem?_eq_some_iff.1 he).1
  have h0 : (i : Int) ≥ 0 := by omega
  have h1 : (i : Int) < ((es.length : Nat) : Int) := by omega
  have k0 : e.k = 3 → (e.k == 3) = true := fun h => beq_iff_eq.2 h
  have k1 : ¬ e.k = 3 → (e.k == 3) = false := fun h => beq_eq_false_iff_ne.2 h
  have wl : ∀ x : D, (((wD out).toL ++ [x]).length : Int) ≤ 8796093022208 := by intro x; rw [List.length_append, wD_lenN]; simp; omega
  have wl2 : ∀ s : Bs, ((wD (out ++ [s])).toL.length : Int) ≤ 8796093022208 := by intro s; rw [wD_lenN]; simp; omega
  have eW : ∀ s : Bs, D.agg ((wD out).toL ++ [D.str (toB s)]) = wD (out ++ [s]) := fun s => wD_snoc out s
  -- the end of either loop
  have fin : ∀ n : Nat, 1 ≤ n → n ≤ 10000 → ∃ x : Bs, FX 26 [.int e.k, .int e.w, .int e.n, .str (toB e.l), .int (n : Nat)] = some (resL (evLine e n)) ∧ FX 27 [.int e.k, .int e.w, .int e.n, .str (toB e.l), .int (n : Nat)] = some [.str (toB x), .bool (evLine e n).isSome] ∧ ∀ s, evLine e n = some s → x = s := by
    intro n hn hn2
    obtain ⟨x, hx1, hx2⟩ := ref_ev e n ⟨hn, hn2⟩ (by have := ho.l; omega) ho.w1 ho.w2 ho.n1 ho.n2
    exact ⟨x, print_ev e n hn2 (by have := ho.l; omega) ho.w1 ho.w2 ho.n1 ho.n2, hx1, hx2⟩
  have w2 : ∀ n : Nat, n ≤ 10000 → IntKind.i64.wrap ((i : Int) + (n : Int)) = ((i + n : Nat) : Int) := by
    intro n hn; rw [i64w _ (by omega) (by omega)]; omega
  intro d
  induction d with
  | zero =>
    intro n hd hn hle hk hs
    have hn2 : ¬ ((n : Int) < 10000) := by omega
    refine ⟨n, hn, by omega, hle, hk, hs, ?_, ?_⟩ <;> intro g
    · obtain ⟨x, f1, f2, f3⟩ := fin n hn (by omega)
      rw [W_story_Print_2_eq]
      simp only [D.toInt_int, evs_len, h0, h1, decide_true, if_true, Int.toNat_natCast, evs_get he, evD, D.toL_agg, List.getD_cons_zero, List.getD_cons_succ, hn2, decide_false, Bool.false_eq_true, if_false, f1, w2 n (by omega)]
      unfold contP
      cases hv : evLine e n with
      | none => cases hk3 : (e.k == 3) <;> simp only [resL, bS1, bS2, bindC, List.length_cons, List.length_nil, if_true, List.getD_cons_zero, List.getD_cons_succ, D.toBool_bool, Bool.not_false, at_6, Bool.false_eq_true, if_false]
      | some s => cases hk3 : (e.k == 3) <;> simp only [resL, bS1, bS2, bindC, List.length_cons, List.length_nil, if_true, List.getD_cons_zero, List.getD_cons_succ, D.toBool_bool, Bool.not_true, Bool.false_eq_true, if_false, wl, wl2, decide_true, eW]
    · obtain ⟨x, f1, f2, f3⟩ := fin n hn (by omega)
      have hbr : ∀ c : Prop, ∀ [Decidable c], ∀ y : Option (List D), (if c then y else y) = y := by intro c _ y; split <;> rfl
      rw [W_ref26_Print_2_eq]
      simp only [D.toInt_int, evs_len, h0, h1, decide_true, if_true, Int.toNat_natCast, evs_get he, evD, D.toL_agg, List.getD_cons_zero, List.getD_cons_succ, hn2, decide_false, Bool.false_eq_true, if_false, f2, w2 n (by omega), hbr]
      unfold contQ
      cases hv : evLine e n with
      | none => simp only [bS1, bS2, bindC, List.length_cons, List.length_nil, if_true, List.getD_cons_zero, List.getD_cons_succ, D.toBool_bool, Option.isSome_none, Bool.not_false, Bool.false_eq_true, if_false]
      | some s =>
        have := f3 s hv
        subst this
        simp only [bS1, bS2, bindC, List.length_cons, List.length_nil, if_true, List.getD_cons_zero, List.getD_cons_succ, D.toBool_bool, Option.isSome_some, Bool.not_true, Bool.false_eq_true, if_false, wl, wl2, decide_true, eW]
  | succ d ih =>
    intro n hd hn hle hk hs
    have hn2 : ((n : Int) < 10000) := by omega
    have hbr : ∀ c : Prop, ∀ [Decidable c], ∀ y : Option (List D), (if c then y else y) = y := by intro c _ y; split <;> rfl
    have e1 : IntKind.i64.wrap ((n : Int) + 1) = ((n + 1 : Nat) : Int) := by rw [wrap_small _ (by omega) (by omega)]; omega
    have hin : ((i + n : Nat) : Int) ≥ 0 := by omega
    by_cases go : e.k = 3 ∧ i + n < es.length ∧ es[i + n]? = some e
    · obtain ⟨k3, lt, eq⟩ := go
      obtain ⟨m, m1, m2, m3, m4, m5, m6, m7⟩ := ih (n + 1) (by omega) (by omega) (by omega) (.inl k3) (by
        intro j hj
        by_cases hjn : j = n
        · subst hjn; exact eq
        · exact hs j (by omega))
      have lt' : ((i + n : Nat) : Int) < ((es.length : Nat) : Int) := by omega
      have sm : ((e.k == e.k) && ((e.w == e.w) && ((e.n == e.n) && scmpF .eql (toB e.l) (toB e.l)))) = true := by simp [eql_toB]
      refine ⟨m, m1, m2, m3, m4, m5, ?_, ?_⟩ <;> intro g
      · rw [W_story_Print_2_eq]
        simp only [D.toInt_int, evs_len, h0, h1, decide_true, if_true, Int.toNat_natCast, evs_get he, w2 n (by omega), lt', hin, evs_get eq, evD, D.toL_agg, List.getD_cons_zero, List.getD_cons_succ, hn2, k0 k3, D.toStr_str, sm, e1, m6]
      · rw [W_ref26_Print_2_eq]
        simp only [D.toInt_int, evs_len, h0, h1, decide_true, if_true, Int.toNat_natCast, evs_get he, w2 n (by omega), lt', hin, evs_get eq, evD, D.toL_agg, List.getD_cons_zero, List.getD_cons_succ, hn2, k0 k3, D.toStr_str, sm, e1, m7]
    · refine ⟨n, hn, by omega, hle, hk, hs, ?_, ?_⟩ <;> intro g
      · obtain ⟨x, f1, f2, f3⟩ := fin n hn (by omega)
        have done : ∀ y : Option (List D), y = (bindC (some (resL (evLine e n))) 2 fun r4 =>
            if (!(r4.getD 1 D.nil).toBool) = true then bindC (FX 19 [.int (i : Nat), .iface 50 (.int 6)]) 1 fun r6 => some [.agg [], r6.getD 0 .nil]
            else if decide (((((wD out).toL ++ [r4.getD 0 .nil]).length : Nat) : Int) ≤ 8796093022208) = true then g [.int ((i + n : Nat) : Int), .agg ((wD out).toL ++ [r4.getD 0 .nil])] else none) → y = contP e i out g n := by
          rintro _ rfl
          unfold contP
          cases hv : evLine e n with
          | none => simp only [resL, bS1, bS2, bindC, List.length_cons, List.length_nil, if_true, List.getD_cons_zero, List.getD_cons_succ, D.toBool_bool, Bool.not_false, at_6]
          | some s => simp only [resL, bS1, bS2, bindC, List.length_cons, List.length_nil, if_true, List.getD_cons_zero, List.getD_cons_succ, D.toBool_bool, Bool.not_true, Bool.false_eq_true, if_false, D.toL_agg, wl, wl2, decide_true, eW]
        apply done
        rw [W_story_Print_2_eq]
        by_cases k3 : e.k = 3
        · by_cases lt : i + n < es.length
          · have lt' : ((i + n : Nat) : Int) < ((es.length : Nat) : Int) := by omega
            have hx : es[i + n]? = some es[i + n] := List.getElem?_eq_getElem lt
            have ne : es[i + n] ≠ e := fun h => go ⟨k3, lt, by rw [hx, h]⟩
            generalize es[i + n] = x at hx ne
            have sm : ((x.k == e.k) && ((x.w == e.w) && ((x.n == e.n) && scmpF .eql (toB x.l) (toB e.l)))) = false := by
              rw [Bool.eq_false_iff]
              exact fun h => ne (same_true h)
            simp only [D.toInt_int, evs_len, h0, h1, decide_true, if_true, Int.toNat_natCast, evs_get he, w2 n (by omega), lt', hin, evs_get hx, evD, D.toL_agg, List.getD_cons_zero, List.getD_cons_succ, hn2, k0 k3, D.toStr_str, sm, Bool.false_eq_true, if_false, f1]
            rfl
          · have lt' : ¬ ((i + n : Nat) : Int) < ((es.length : Nat) : Int) := by omega
            simp only [D.toInt_int, evs_len, h0, h1, decide_true, if_true, Int.toNat_natCast, evs_get he, w2 n (by omega), lt', hin, evD, D.toL_agg, List.getD_cons_zero, List.getD_cons_succ, hn2, k0 k3, D.toStr_str, decide_false, Bool.false_eq_true, if_false, f1]
            rfl
        · simp only [D.toInt_int, evs_len, h0, h1, decide_true, if_true, Int.toNat_natCast, evs_get he, w2 n (by omega), evD, D.toL_agg, List.getD_cons_zero, List.getD_cons_succ, k1 k3, D.toStr_str, Bool.false_eq_true, if_false, f1]
          rfl
      · obtain ⟨x, f1, f2, f3⟩ := fin n hn (by omega)
        have done : ∀ y : Option (List D), y = (bindC (some [.str (toB x), .bool (evLine e n).isSome]) 2 fun r4 =>
            if (!(r4.getD 1 D.nil).toBool) = true then some [.agg [], .int (i : Nat)]
            else if decide (((((wD out).toL ++ [r4.getD 0 .nil]).length : Nat) : Int) ≤ 8796093022208) = true then g [.int ((i + n : Nat) : Int), .agg ((wD out).toL ++ [r4.getD 0 .nil])] else none) → y = contQ e i out g n := by
          rintro _ rfl
          unfold contQ
          cases hv : evLine e n with
          | none => simp only [resL, bS1, bS2, bindC, List.length_cons, List.length_nil, if_true, List.getD_cons_zero, List.getD_cons_succ, D.toBool_bool, Option.isSome_none, Bool.not_false, at_6]
          | some s =>
            have := f3 s hv
            subst this
            simp only [resL, bS1, bS2, bindC, List.length_cons, List.length_nil, if_true, List.getD_cons_zero, List.getD_cons_succ, D.toBool_bool, Option.isSome_some, Bool.not_true, Bool.false_eq_true, if_false, D.toL_agg, wl, wl2, decide_true, eW]
        apply done
        rw [W_ref26_Print_2_eq]
        by_cases k3 : e.k = 3
        · by_cases lt : i + n < es.length
          · have lt' : ((i + n : Nat) : Int) < ((es.length : Nat) : Int) := by omega
            have hx : es[i + n]? = some es[i + n] := List.getElem?_eq_getElem lt
            have ne : es[i + n] ≠ e := fun h => go ⟨k3, lt, by rw [hx, h]⟩
            generalize es[i + n] = z at hx ne
            have sm : ((z.k == e.k) && ((z.w == e.w) && ((z.n == e.n) && scmpF .eql (toB z.l) (toB e.l)))) = false := by
              rw [Bool.eq_false_iff]
              exact fun h => ne (same_true h)
            simp only [D.toInt_int, evs_len, h0, h1, decide_true, if_true, Int.toNat_natCast, evs_get he, w2 n (by omega), lt', hin, evs_get hx, evD, D.toL_agg, List.getD_cons_zero, List.getD_cons_succ, hn2, k0 k3, D.toStr_str, sm, Bool.false_eq_true, if_false, f2]
            rfl
          · have lt' : ¬ ((i + n : Nat) : Int) < ((es.length : Nat) : Int) := by omega
            simp only [D.toInt_int, evs_len, h0, h1, decide_true, if_true, Int.toNat_natCast, evs_get he, w2 n (by omega), lt', hin, evD, D.toL_agg, List.getD_cons_zero, List.getD_cons_succ, hn2, k0 k3, D.toStr_str, decide_false, Bool.false_eq_true, if_false, f2]
            rfl
        · simp only [D.toInt_int, evs_len, h0, h1, decide_true, if_true, Int.toNat_natCast, evs_get he, w2 n (by omega), evD, D.toL_agg, List.getD_cons_zero, List.getD_cons_succ, k1 k3, D.toStr_str, Bool.false_eq_true, if_false, f2]
          rfl
def resP : Except Nat (List Bs) → List D
  | .ok ls => [wD ls, .nil]
  | .error i => [.agg [], flt 6 i]
def resQ : Except Nat (List Bs) → List D
  | .ok ls => [wD ls, .int (-1)]
  | .error i => [.agg [], .int (i : Nat)]
theorem rep_drop {e : Ev} : ∀ {m : Nat} {l : List Ev}, (∀ j, j < m → l[j]? = some e) → l = List.replicate m e ++ l.drop m
  | 0, l, h => by simp
  | m + 1, [], h => by have := h 0 (by omega); simp at this
  | m + 1, x :: l, h => by
    have h0 := h 0 (by omega)
    simp only [List.getElem?_cons_zero, Option.some.injEq] at h0
    subst h0
    have := rep_drop (e := x) (m := m) (l := l) (fun j hj => by have := h (j + 1) (by omega); simpa using this)
    rw [List.replicate_succ, List.cons_append, List.drop_succ_cons, ← this]
theorem prints_loop (es : List Ev) (hes : es.length ≤ 5000) (ho : ∀ e ∈ es, EvOk e) : ∀ (d i : Nat) (out : List Bs), es.length - i ≤ d → i ≤ es.length → out.length ≤ i →
    ∃ R, W_story_Print_1 (evsD es) [.int (i : Nat), wD out] = some (resP R) ∧ W_ref26_Print_1 (evsD es) [.int (i : Nat), wD out] = some (resQ R) ∧
      ∀ ls, R = .ok ls → ∃ ls', ls = out ++ ls' ∧ storyB 0 ls' = .ok (es.drop i) ∧ ls'.length + i ≤ es.length ∧ ∀ s ∈ ls', s.length ≤ 6000 := by
  intro d
  induction d with
  | zero =>
    intro i out hd hi hout
    have h1 : ¬ (i : Int) < ((es.length : Nat) : Int) := by omega
    refine ⟨.ok out, ?_, ?_, ?_⟩
    · rw [W_story_Print_1_eq]
      simp only [D.toInt_int, evs_len, h1, decide_false, Bool.false_eq_true, if_false, resP]
    · rw [W_ref26_Print_1_eq]
      simp only [D.toInt_int, evs_len, h1, decide_false, Bool.false_eq_true, if_false, resQ]
    · intro ls hls
      simp only [Except.ok.injEq] at hls
      subst hls
      exact ⟨[], by simp, by rw [List.drop_eq_nil_of_le (by omega)]; rfl, by simp; omega, by simp⟩
  | succ d ih =>
    intro i out hd hi hout
    by_cases hlt : i < es.length
    · have h1 : (i : Int) < ((es.length : Nat) : Int) := by omega
      have he : es[i]? = some es[i] := List.getElem?_eq_getElem hlt
      have hoe := ho es[i] (List.getElem_mem hlt)
      generalize es[i] = e at he hoe
      obtain ⟨m, m1, m2, m3, m4, m5, m6, m7⟩ := prints2 es hes i e he hoe out (by omega) 9999 1 (by omega) (by omega) (by omega) (.inr rfl) (by
        intro j hj
        have : j = 0 := by omega
        subst this
        exact he)
      have q1 : W_story_Print_1 (evsD es) [.int (i : Nat), wD out] = contP e i out (W_story_Print_1 (evsD es)) m := by
        rw [W_story_Print_1_eq]
        simp only [D.toInt_int, evs_len, h1, decide_true, if_true]
        exact m6 _
      have q2 : W_ref26_Print_1 (evsD es) [.int (i : Nat), wD out] = contQ e i out (W_ref26_Print_1 (evsD es)) m := by
        rw [W_ref26_Print_1_eq]
        simp only [D.toInt_int, evs_len, h1, decide_true, if_true]
        exact m7 _
      cases hv : evLine e m with
      | none =>
        refine ⟨.error i, ?_, ?_, fun ls h => by cases h⟩
        · rw [q1, contP, hv]; rfl
        · rw [q2, contQ, hv]; rfl
      | some s =>
        obtain ⟨R, r1, r2, r3⟩ := ih (i + m) (out ++ [s]) (by omega) m3 (by simp; omega)
        refine ⟨R, ?_, ?_, ?_⟩
        · rw [q1, contP, hv]; exact r1
        · rw [q2, contQ, hv]; exact r2
        · intro ls hls
          obtain ⟨ls', a1, a2, a3, a4⟩ := r3 ls hls
          refine ⟨s :: ls', by rw [a1]; simp, ?_, by simp; omega, ?_⟩
          · have lb := line_back ⟨m1, m2⟩ m4 hv
            have hd : es.drop i = List.replicate m e ++ es.drop (i + m) := by
              have := rep_drop (e := e) (m := m) (l := es.drop i) (fun j hj => by rw [List.getElem?_drop]; exact m5 j hj)
              rwa [List.drop_drop] at this
            simp only [storyB, lb, storyB_ok a2 (0 + 1)]
            rw [hd]
          · intro t ht
            rcases List.mem_cons.1 ht with rfl | ht
            · exact evLine_len m2 hoe.l hv
            · exact a4 t ht
    · have hd0 : es.length - i ≤ 0 := by omega
      have h1 : ¬ (i : Int) < ((es.length : Nat) : Int) := by omega
      refine ⟨.ok out, ?_, ?_, ?_⟩
      · rw [W_story_Print_1_eq]
        simp only [D.toInt_int, evs_len, h1, decide_false, Bool.false_eq_true, if_false, resP]
      · rw [W_ref26_Print_1_eq]
        simp only [D.toInt_int, evs_len, h1, decide_false, Bool.false_eq_true, if_false, resQ]
      · intro ls hls
        simp only [Except.ok.injEq] at hls
        subst hls
        exact ⟨[], by simp, by rw [List.drop_eq_nil_of_le (by omega)]; rfl, by simp; omega, by simp⟩
theorem same3 (x0 x1 x2 x4 x5 x6 x7 x8 x10 : D) (g0 g1 : Eng.Fn) (es : List Ev) (hl : es.length ≤ 1000000) : ∀ (d i : Nat), d + i = es.length →
    W_law26_StoryPrints_3 x0 x1 x2 (evsD es) x4 x5 x6 x7 x8 (evsD es) x10 g0 g1 [.int (i : Nat)] = some [.bool true]
  | 0, i, h => by
    have h1 : ¬ ((i : Int) < ((es.length : Nat) : Int)) := by omega
    rw [W_law26_StoryPrints_3_eq]
    simp only [D.toInt_int, evs_len, h1, decide_false, Bool.false_eq_true, if_false, awake_eq, bindC, List.length_cons, List.length_nil, if_true, List.getD_cons_zero]
  | d + 1, i, h => by
    have hlt : i < es.length := by omega
    have h1 : ((i : Int) < ((es.length : Nat) : Int)) := by omega
    have h2 : (i : Int) ≥ 0 := by omega
    have e3 : IntKind.i64.wrap ((i : Int) + 1) = ((i + 1 : Nat) : Int) := by rw [wrap_small _ (by omega) (by omega)]; omega
    have ih := same3 x0 x1 x2 x4 x5 x6 x7 x8 x10 g0 g1 es hl d (i + 1) (by omega)
    have hx : es[i]? = some es[i] := List.getElem?_eq_getElem hlt
    rw [W_law26_StoryPrints_3_eq]
    generalize es[i] = e at hx
    simp only [D.toInt_int, evs_len, h1, h2, decide_true, if_true, Int.toNat_natCast, evs_get hx, e3, ih]
    simp only [evD, D.toL_agg, List.getD_cons_zero, List.getD_cons_succ, D.toInt_int, D.toStr_str, same_ev, Bool.false_eq_true, if_false]
theorem back2 (x0 x1 x2 x5 x7 : D) (g0 : Eng.Fn) (es : List Ev) (hl : es.length ≤ 5000) (ls : List Bs) (hll : ls.length ≤ 5000) (hs : ∀ s ∈ ls, s.length ≤ 6000) (hb : storyB 0 ls = .ok es) : ∀ (d i : Nat), d + i = ls.length →
    W_law26_StoryPrints_2 x0 x1 x2 (evsD es) (wD ls) x5 (wD ls) x7 g0 [.int (i : Nat)] = some [.bool true]
  | 0, i, h => by
    have h1 : ¬ ((i : Int) < ((ls.length : Nat) : Int)) := by omega
    have pa := story_eq ls (by omega) fun s hs' => by have := hs s hs'; omega
    rw [hb] at pa
    have q : (((es.length : Nat) : Int) != ((es.length : Nat) : Int)) = false := by simp
    rw [W_law26_StoryPrints_2_eq]
    simp only [D.toInt_int, wD_lenN, h1, decide_false, Bool.false_eq_true, if_false, pa, resS, bindC, List.length_cons, List.length_nil, if_true, List.getD_cons_zero, List.getD_cons_succ, D.isNil_nil, Bool.not_true, evs_len, q]
    exact same3 _ _ _ _ _ _ _ _ _ _ _ es (by omega) es.length 0 (by omega)
  | d + 1, i, h => by
    have hlt : i < ls.length := by omega
    have hg : (wD ls).toL.getD i .nil = .str (toB ls[i]) := by simp [wD, hlt]
    have h1 : ((i : Int) < ((ls.length : Nat) : Int)) := by omega
    have h2 : (i : Int) ≥ 0 := by omega
    have e3 : IntKind.i64.wrap ((i : Int) + 1) = ((i + 1 : Nat) : Int) := by rw [wrap_small _ (by omega) (by omega)]; omega
    have ih := back2 x0 x1 x2 x5 x7 g0 es hl ls hll hs hb d (i + 1) (by omega)
    have q : (!(ls[i] == ls[i])) = false := by simp
    rw [W_law26_StoryPrints_2_eq]
    simp only [D.toInt_int, wD_lenN, h1, h2, decide_true, if_true, Int.toNat_natCast, hg, D.toStr_str, neq_toB, q, Bool.false_eq_true, if_false, e3, ih]
theorem num_flt (i : Nat) : FX 11 [flt 6 i] = some [.int 6] := NumE.num_at (i : Nat) 6 (by decide)
theorem place_flt (i : Nat) (hs : List D) : ∃ y, FX 9 [flt 6 i, .agg hs] = some [.int (i : Nat), .bool true, .agg (hs ++ [y])] := NumE.place_at (i : Nat) 6 hs
theorem ev_eta (e : Ev) : D.agg [.int e.k, .int e.w, .int e.n, .str (toB e.l)] = evD e := rfl
theorem prints1 (es : List Ev) (hlen : es.length ≤ 1000000000000000) (hint : ∀ e ∈ es, (-9223372036854775808 ≤ e.w ∧ e.w ≤ 9223372036854775807) ∧ (-9223372036854775808 ≤ e.n ∧ e.n ≤ 9223372036854775807) ∧ e.l.length ≤ 1000000000000000) : ∀ (d i n : Nat), d + i = es.length → i ≤ n → n ≤ 5000 → (∀ e ∈ es.take i, e.l.length ≤ 5000) →
    W_law26_StoryPrints_1 (evsD es) [.int (n : Nat), .int (i : Nat), evsD (es.take i)] = some [.bool true]
  | 0, i, n, h, hin, hn, hs => by
    have h1 : ¬ ((i : Int) < ((es.length : Nat) : Int)) := by omega
    have ht : es.take i = es := List.take_of_length_le (by omega)
    rw [ht] at hs ⊢
    have z : evsD [] = .agg [] := rfl
    obtain ⟨R, r1, r2, r3⟩ := prints_loop es (by omega) (fun e he => ⟨(hint e he).1.1, (hint e he).1.2, (hint e he).2.1.1, (hint e he).2.1.2, hs e he⟩) es.length 0 [] (by omega) (by omega) (by simp)
    have p1 : FX 13 [evsD es] = some (resP R) := by rw [E_story_Print]; exact r1
    have p2 : FX 14 [evsD es] = some (resQ R) := by rw [E_ref26_Print]; exact r2
    rw [W_law26_StoryPrints_1_eq]
    simp only [D.toInt_int, evs_len, h1, decide_false, Bool.false_eq_true, if_false, p1, p2]
    cases R with
    | error j =>
      obtain ⟨y, hy⟩ := place_flt j []
      have q1 : ((j : Int) ≥ 0) := by omega
      have q2 : (((0 : Nat) : Int) == 0) = true := rfl
      have q3 : ((6 : Int) == 6) = true := rfl
      have q4 : (((j : Nat) : Int) == ((j : Nat) : Int)) = true := by simp
      simp only [resP, resQ, bindC, List.length_cons, List.length_nil, if_true, List.getD_cons_zero, List.getD_cons_succ, D.toInt_int, q1, decide_true, hy, awake_eq, D.toBool_bool, D.toL_agg, q2, num_flt, q3, q4]
    | ok ls =>
      obtain ⟨ls', a1, a2, a3, a4⟩ := r3 ls rfl
      rw [List.nil_append] at a1
      subst a1
      have q1 : ¬ ((-1 : Int) ≥ 0) := by decide
      have q : (((ls.length : Nat) : Int) != ((ls.length : Nat) : Int)) = false := by simp
      simp only [resP, resQ, bindC, List.length_cons, List.length_nil, if_true, List.getD_cons_zero, List.getD_cons_succ, D.toInt_int, q1, decide_false, Bool.false_eq_true, if_false, D.isNil_nil, Bool.not_true, wD_lenN, q]
      rw [List.drop_zero] at a2
      exact back2 _ _ _ _ _ _ es (by omega) ls (by omega) a4 a2 ls.length 0 (by omega)
  | d + 1, i, n, h, hin, hn, hs => by
    have hlt : i < es.length := by omega
    have h1 : ((i : Int) < ((es.length : Nat) : Int)) := by omega
    have h2 : (i : Int) ≥ 0 := by omega
    have hx : es[i]? = some es[i] := List.getElem?_eq_getElem hlt
    have hm := hint es[i] (List.getElem_mem hlt)
    have htk : es.take (i + 1) = es.take i ++ [es[i]] := by rw [List.take_add_one, hx]; rfl
    have e3 : IntKind.i64.wrap ((i : Int) + 1) = ((i + 1 : Nat) : Int) := by rw [wrap_small _ (by omega) (by omega)]; omega
    have ih := prints1 es hlen hint d (i + 1)
    rw [htk] at ih
    generalize es[i] = e at hx hm ih
    have e1 : IntKind.i64.wrap ((e.l.length : Int) + 1) = ((e.l.length + 1 : Nat) : Int) := by rw [i64w _ (by omega) (by omega)]; omega
    have e2 : IntKind.i64.wrap ((n : Int) + ((e.l.length + 1 : Nat) : Int)) = ((n + e.l.length + 1 : Nat) : Int) := by rw [i64w _ (by omega) (by omega)]; omega
    have ev : D.agg ((evsD (es.take i)).toL ++ [evD e]) = evsD (es.take i ++ [e]) := by simp [evsD]
    have hg := evs_get hx
    rw [W_law26_StoryPrints_1_eq]
    simp only [D.toInt_int, evs_len, h1, h2, decide_true, if_true, Int.toNat_natCast, hg]
    have g3 : ((evD e).toL.getD 3 .nil) = .str (toB e.l) := rfl
    have g0 : ((evD e).toL.getD 0 .nil) = .int e.k := rfl
    have g1 : ((evD e).toL.getD 1 .nil) = .int e.w := rfl
    have g2 : ((evD e).toL.getD 2 .nil) = .int e.n := rfl
    simp only [g0, g1, g2, g3, D.toStr_str, toB_size, e1, e2, e3, ev_eta, ev, evs_len, D.toInt_int]
    by_cases hbig : ((n + e.l.length + 1 : Nat) : Int) > 5000
    · simp only [hbig, decide_true, if_true, awake_eq, bindC, List.length_cons, List.length_nil, List.getD_cons_zero]
    · have b1 : ((((es.take i ++ [e]).length : Nat) : Int) ≤ 3518437208883) := by simp; omega
      simp only [hbig, decide_false, Bool.false_eq_true, if_false, b1, decide_true, if_true]
      refine ih (n + e.l.length + 1) (by omega) (by omega) (by omega) ?_
      intro x hx'
      rcases List.mem_append.1 hx' with hx' | hx'
      · exact hs x hx'
      · rw [List.mem_singleton.1 hx']; omega
theorem prints (d0 : D) (w0 : Wf Tryz.prog (.slice 39) d0) : FX 4 [d0] = some [.bool true] := by
  obtain ⟨es, rfl, hl, he⟩ := w0.structs (ts := [.int .i64, .int .i64, .int .i64, .str]) (f := evD) (Q := fun e => (-9223372036854775808 ≤ e.w ∧ e.w ≤ 9223372036854775807) ∧ (-9223372036854775808 ≤ e.n ∧ e.n ≤ 9223372036854775807) ∧ e.l.length ≤ 1000000000000000) (by kernel_rfl) (by decide) (by
    rintro ys ⟨k, _, rfl, hk, w, _, rfl, hw, n, _, rfl, hn, s, _, rfl, hs, rfl⟩
    obtain ⟨k, rfl, hk⟩ := hk.toInt
    obtain ⟨w, rfl, hw2⟩ := hw.toInt
    obtain ⟨n, rfl, hn2⟩ := hn.toInt
    obtain ⟨s, rfl, hs⟩ := hs.toStr
    have hr : reachBytes < 140737488355328 := reachBytes_lt
    have e : s.data.toList.length = s.size := by rw [Array.length_toList]; rfl
    refine ⟨⟨k, w, n, s.data.toList⟩, ?_, ?_, ?_, ?_⟩
    · show _ = D.agg [.int k, .int w, .int n, .str (toB s.data.toList)]
      rw [toB_of]
    · have := lit64 hw2; exact this
    · have := lit64 hn2; exact this
    · show s.data.toList.length ≤ _
      omega)
  have hr : reachBytes < 140737488355328 := reachBytes_lt
  have hB : Tryz.prog.bytesOf 39 = 40 := by kernel_rfl
  rw [hB] at hl
  rw [E_law26_StoryPrints]
  exact prints1 es (by omega) he es.length 0 0 (by omega) (by omega) (by omega) (by simp)
end Go.Proofs.YtnaemggpelolcaaGreatDoor.StoD
