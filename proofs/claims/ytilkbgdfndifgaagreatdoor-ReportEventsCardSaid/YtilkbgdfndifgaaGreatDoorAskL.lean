/-
  What lines ask: plain laws. A line that asks something is its words again; a blank more and it asks nothing.
-/
import Derived.Test.YtilkbgdfndifgaaGreatDoorNumP
namespace Go.Proofs.YtilkbgdfndifgaaGreatDoor.WordP
open Go.Lib (decDigits)
set_option linter.unusedVariables false
set_option linter.unusedSimpArgs false

def wordsS : List Bool → List Nat → List Bs
  | false :: sh, n :: ns => decDigits n :: wordsS sh ns
  | true :: sh, n :: ns => (if n = 0 then buyB else sellB) :: wordsS sh ns
  | _, _ => []
def Rng : List Bool → List Nat → Prop
  | [], [] => True
  | false :: sh, n :: ns => n ≤ 9999999 ∧ Rng sh ns
  | true :: sh, n :: ns => n ≤ 1 ∧ Rng sh ns
  | _, _ => False
theorem steps_words : ∀ (sh : List Bool) (E p : Nat) (ws : List Bs) {ns : List Nat} {q : Nat} {r : List Bs}, steps sh E p ws = .ok (ns, q, r) → Rng sh ns ∧ ws = wordsS sh ns ++ r
  | [], E, p, ws, ns, q, r, h => by
    simp only [steps, Except.ok.injEq, Prod.mk.injEq] at h
    obtain ⟨rfl, rfl, rfl⟩ := h
    exact ⟨trivial, rfl⟩
  | b :: sh, E, p, [], ns, q, r, h => by simp [steps] at h
  | false :: sh, E, p, w :: ws, ns, q, r, h => by
    simp only [steps] at h
    split at h
    · rename_i hd
      split at h
      · rename_i ns' r' hr
        obtain ⟨q', r''⟩ := r'
        simp only [Except.ok.injEq, Prod.mk.injEq] at h
        obtain ⟨rfl, rfl, rfl⟩ := h
        obtain ⟨h1, h2⟩ := steps_words sh E _ ws hr
        exact ⟨⟨val_lt hd, h1⟩, by rw [h2]; simp [wordsS, dec_val hd]⟩
      · cases h
    · cases h
  | true :: sh, E, p, w :: ws, ns, q, r, h => by
    simp only [steps] at h
    split at h
    · rename_i hd
      split at h
      · rename_i ns' r' hr
        obtain ⟨q', r''⟩ := r'
        simp only [Except.ok.injEq, Prod.mk.injEq] at h
        obtain ⟨rfl, rfl, rfl⟩ := h
        obtain ⟨h1, h2⟩ := steps_words sh E _ ws hr
        exact ⟨⟨by omega, h1⟩, by rw [h2]; simp [wordsS, beq_iff_eq.1 hd]⟩
      · cases h
    · split at h
      · rename_i hd
        split at h
        · rename_i ns' r' hr
          obtain ⟨q', r''⟩ := r'
          simp only [Except.ok.injEq, Prod.mk.injEq] at h
          obtain ⟨rfl, rfl, rfl⟩ := h
          obtain ⟨h1, h2⟩ := steps_words sh E _ ws hr
          exact ⟨⟨by omega, h1⟩, by rw [h2]; simp [wordsS, beq_iff_eq.1 hd]⟩
        · cases h
      · cases h
theorem words_steps : ∀ (sh : List Bool) (E p : Nat) (ns : List Nat) (r : List Bs), Rng sh ns → ∃ q, steps sh E p (wordsS sh ns ++ r) = .ok (ns, q, r)
  | [], E, p, [], r, _ => ⟨p, rfl⟩
  | [], E, p, _ :: _, r, h => h.elim
  | _ :: _, E, p, [], r, h => by rename_i b sh; cases b <;> exact h.elim
  | false :: sh, E, p, n :: ns, r, h => by
    obtain ⟨q, hq⟩ := words_steps sh E (p + (decDigits n).length + 1) ns r h.2
    have hd := dec_dig h.1
    refine ⟨q, ?_⟩
    show steps (false :: sh) E p (decDigits n :: (wordsS sh ns ++ r)) = _
    simp only [steps, hd.1, if_true, hq, hd.2]
  | true :: sh, E, p, n :: ns, r, h => by
    obtain ⟨q, hq⟩ := words_steps sh E (p + (if n = 0 then buyB else sellB).length + 1) ns r h.2
    refine ⟨q, ?_⟩
    show steps (true :: sh) E p ((if n = 0 then buyB else sellB) :: (wordsS sh ns ++ r)) = _
    rcases Nat.lt_or_ge n 1 with h0 | h0
    · obtain rfl : n = 0 := by omega
      simp only [if_true] at hq
      simp only [steps, if_true, beq_self_eq_true, hq]
    · obtain rfl : n = 1 := by have := h.1; omega
      have hne : (sellB == buyB) = false := by decide
      simp only [show ¬ ((1 : Nat) = 0) by omega, if_false] at hq ⊢
      simp only [steps, hne, Bool.false_eq_true, if_false, beq_self_eq_true, if_true, hq]
/-- The kinds. -/
def kinds : List (Nat × Bs × List Bool) := [(1, submitB, [false, false, true, false, false, false, false, false]), (2, cancelB, [false, false]), (3, pollB, [false]), (4, viewB, [])]
theorem shape_some {v : Bs} {k : Nat} {sh : List Bool} (h : shapeB v = some (k, sh)) : (k, v, sh) ∈ kinds := by
  unfold shapeB at h
  split at h
  · rename_i hv; simp at h hv; obtain ⟨rfl, rfl⟩ := h; subst hv; simp [kinds]
  · split at h
    · rename_i hv; simp at h hv; obtain ⟨rfl, rfl⟩ := h; subst hv; simp [kinds]
    · split at h
      · rename_i hv; simp at h hv; obtain ⟨rfl, rfl⟩ := h; subst hv; simp [kinds]
      · split at h
        · rename_i hv; simp at h hv; obtain ⟨rfl, rfl⟩ := h; subst hv; simp [kinds]
        · cases h
theorem kinds_shape {k : Nat} {v : Bs} {sh : List Bool} (h : (k, v, sh) ∈ kinds) : shapeB v = some (k, sh) := by
  simp only [kinds, List.mem_cons, Prod.mk.injEq, List.not_mem_nil, or_false] at h
  rcases h with ⟨rfl, rfl, rfl⟩ | ⟨rfl, rfl, rfl⟩ | ⟨rfl, rfl, rfl⟩ | ⟨rfl, rfl, rfl⟩ <;> rfl
theorem kinds_fun {k : Nat} {v v' : Bs} {sh sh' : List Bool} (h : (k, v, sh) ∈ kinds) (h' : (k, v', sh') ∈ kinds) : v = v' ∧ sh = sh' := by
  simp only [kinds, List.mem_cons, Prod.mk.injEq, List.not_mem_nil, or_false] at h h'
  rcases h with ⟨rfl, rfl, rfl⟩ | ⟨rfl, rfl, rfl⟩ | ⟨rfl, rfl, rfl⟩ | ⟨rfl, rfl, rfl⟩ <;> rcases h' with ⟨h1, h2, h3⟩ | ⟨h1, h2, h3⟩ | ⟨h1, h2, h3⟩ | ⟨h1, h2, h3⟩ <;> first | omega | exact ⟨h2.symm, h3.symm⟩
theorem askW_ok {E : Nat} {l : List Bs} {k : Nat} {ns : List Nat} (h : askW E l = .ok (k, ns)) : ∃ v sh, (k, v, sh) ∈ kinds ∧ Rng sh ns ∧ l = v :: wordsS sh ns := by
  unfold askW at h
  split at h
  · cases h
  · rename_i v ws
    split at h
    · cases h
    · rename_i k' sh hs
      split at h
      · cases h
      · rename_i ns' p hst
        simp only [Except.ok.injEq, Prod.mk.injEq] at h
        obtain ⟨rfl, rfl⟩ := h
        obtain ⟨h1, h2⟩ := steps_words _ _ _ _ hst
        exact ⟨v, sh, shape_some hs, h1, by rw [h2]; simp⟩
      · cases h
/-- A line that asks something is its words. -/
theorem ask_ok {s : Bs} {k : Nat} {ns : List Nat} (h : askB s = .ok (k, ns)) : ∃ v sh, (k, v, sh) ∈ kinds ∧ Rng sh ns ∧ sp s = v :: wordsS sh ns ∧ s.length ≤ 200 ∧ badFrom 0 s = none := by
  unfold askB at h
  split at h
  · cases h
  · rename_i hl
    split at h
    · cases h
    · rename_i hb
      obtain ⟨v, sh, h1, h2, h3⟩ := askW_ok h
      exact ⟨v, sh, h1, h2, h3, by omega, hb⟩
theorem ask_inj {s t : Bs} {x : Nat × List Nat} (hs : askB s = .ok x) (ht : askB t = .ok x) : s = t := by
  obtain ⟨k, ns⟩ := x
  obtain ⟨v, sh, h1, _, h2, _⟩ := ask_ok hs
  obtain ⟨v', sh', h1', _, h2', _⟩ := ask_ok ht
  obtain ⟨rfl, rfl⟩ := kinds_fun h1 h1'
  exact sp_inj (h2.trans h2'.symm)
theorem Rng.length : ∀ {sh : List Bool} {ns : List Nat}, Rng sh ns → ns.length = sh.length
  | [], [], _ => rfl
  | [], _ :: _, h => h.elim
  | false :: _, [], h => h.elim
  | true :: _, [], h => h.elim
  | false :: sh, n :: ns, h => by simp [Rng.length h.2]
  | true :: sh, n :: ns, h => by simp [Rng.length h.2]
theorem words_length : ∀ {sh : List Bool} {ns : List Nat}, Rng sh ns → (wordsS sh ns).length = sh.length
  | [], [], _ => rfl
  | [], _ :: _, h => h.elim
  | false :: _, [], h => h.elim
  | true :: _, [], h => h.elim
  | false :: sh, n :: ns, h => by simp [wordsS, words_length h.2]
  | true :: sh, n :: ns, h => by simp [wordsS, words_length h.2]
/-- Too many words ask nothing. -/
theorem askW_more {E : Nat} {v : Bs} {k : Nat} {sh : List Bool} {ws : List Bs} (hs : shapeB v = some (k, sh)) (h : sh.length < ws.length) : ∃ e, askW E (v :: ws) = .error e := by
  simp only [askW, hs]
  cases hst : steps sh E (v.length + 1) ws with
  | error e => exact ⟨e, rfl⟩
  | ok y =>
    obtain ⟨ns, p, r⟩ := y
    obtain ⟨h1, _⟩ := steps_len _ _ _ _ hst
    cases r with
    | nil => simp at h1; omega
    | cons => exact ⟨_, rfl⟩
theorem verb_part {k : Nat} {v u w : Bs} {sh : List Bool} (h : (k, v, sh) ∈ kinds) (hv : v = u ++ w) (hw : w ≠ []) : shapeB u = none := by
  have hu : u = v.take u.length := by rw [hv]; simp
  have hl : u.length < v.length := by rw [hv]; have := List.length_pos_iff.2 hw; simp; omega
  rw [hu]
  generalize u.length = j at hl
  simp only [kinds, List.mem_cons, Prod.mk.injEq, List.not_mem_nil, or_false] at h
  have d1 : ∀ j : Fin 6, shapeB (submitB.take j.val) = none := by decide
  have d2 : ∀ j : Fin 6, shapeB (cancelB.take j.val) = none := by decide
  have d3 : ∀ j : Fin 4, shapeB (pollB.take j.val) = none := by decide
  have d4 : ∀ j : Fin 4, shapeB (viewB.take j.val) = none := by decide
  rcases h with ⟨_, rfl, _⟩ | ⟨_, rfl, _⟩ | ⟨_, rfl, _⟩ | ⟨_, rfl, _⟩
  · exact d1 ⟨j, hl⟩
  · exact d2 ⟨j, hl⟩
  · exact d3 ⟨j, hl⟩
  · exact d4 ⟨j, hl⟩
/-- A blank more, and it asks nothing. -/
theorem ask_blank {a b : Bs} {x : Nat × List Nat} (h : askB (a ++ b) = .ok x) : ∃ e, askB (a ++ 32 :: b) = .error e := by
  obtain ⟨k, ns⟩ := x
  obtain ⟨v, sh, h1, h2, h3, _⟩ := ask_ok h
  have hlen := words_length h2
  unfold askB
  split
  · exact ⟨_, rfl⟩
  · split
    · exact ⟨_, rfl⟩
    · rw [sp_blank]
      obtain ⟨ws, y, e1, u, us, e2, e3⟩ := sp_append a b
      rw [h3] at e3
      rw [e1, e2]
      cases ws with
      | nil =>
        simp only [List.nil_append, List.cons.injEq] at e3
        obtain ⟨e3, e4⟩ := e3
        show ∃ e, askW _ (y :: (u :: us)) = .error e
        by_cases hu : u = []
        · subst hu
          rw [List.append_nil] at e3
          subst e3
          exact askW_more (kinds_shape h1) (by rw [← e4]; simp; omega)
        · have := verb_part h1 e3 hu
          exact ⟨(10, 0), by simp only [askW, this]⟩
      | cons w ws =>
        simp only [List.cons_append, List.cons.injEq] at e3
        obtain ⟨rfl, e4⟩ := e3
        show ∃ e, askW _ (v :: (ws ++ [y] ++ u :: us)) = .error e
        refine askW_more (kinds_shape h1) ?_
        have := congrArg List.length e4
        simp at this ⊢
        omega
end Go.Proofs.YtilkbgdfndifgaaGreatDoor.WordP
