/-
  Asks as lines: plain laws. A line that asks something is printed as it was; what is printed asks what it tells.
-/
import Derived.Test.YtilkbgdfndifgaaGreatDoorAskL
namespace Go.Proofs.YtilkbgdfndifgaaGreatDoor.WordP
open Go.Lib (decDigits)
set_option linter.unusedVariables false
set_option linter.unusedSimpArgs false

def sideB (side : Int) : Bs := if side = 0 then buyB else sellB
def printW (k side : Int) : Nat → List Int → Except (Nat × Nat) (List Bs)
  | _, [] => .ok []
  | i, n :: ns =>
    if n < 0 ∨ 9999999 < n then .error (5, i)
    else if k = 1 ∧ i = 2 then
      if side ≠ 0 ∧ side ≠ 1 then .error (1, i) else match printW k side (i + 1) ns with
      | .ok ws => .ok (sideB side :: decDigits n.toNat :: ws)
      | .error e => .error e
    else match printW k side (i + 1) ns with
      | .ok ws => .ok (decDigits n.toNat :: ws)
      | .error e => .error e
def nums9 (x0 x1 x2 x3 x5 x6 x7 x8 : Int) : List Int := if x0 = 1 then [x1, x2, x3, x8, x5, x6, x7] else if x0 = 2 then [x1, x2] else if x0 = 3 then [x2] else []
def verbK (x0 : Int) : Bs := if x0 = 1 then submitB else if x0 = 2 then cancelB else if x0 = 3 then pollB else viewB
def printB (x0 x1 x2 x3 x4 x5 x6 x7 x8 : Int) : Except (Nat × Nat) Bs :=
  if x0 < 1 ∨ 4 < x0 then .error (6, 0) else match printW x0 x4 0 (nums9 x0 x1 x2 x3 x5 x6 x7 x8) with
  | .ok ws => .ok (un (verbK x0 :: ws))
  | .error e => .error e
theorem span_un {w : Bs} {ws : List Bs} : (un (w :: ws)).length + 1 = span (w :: ws) := by
  induction ws generalizing w with
  | nil => rw [un_one]; simp [span]
  | cons v ws ih =>
    have := ih (w := v)
    rw [un_cons, List.length_append, List.length_cons]
    simp only [span, List.map_cons, List.sum_cons] at this ⊢
    omega
theorem badFrom_none : ∀ (s : Bs) (i : Nat), (∀ c ∈ s, okc c = true) → badFrom i s = none
  | [], i, _ => rfl
  | c :: s, i, h => by
    unfold badFrom
    rw [if_pos (h c (List.mem_cons_self ..))]
    exact badFrom_none s (i + 1) fun x hx => h x (List.mem_cons_of_mem _ hx)
def inkB (c : UInt8) : Bool := decide (33 ≤ c.toNat) && decide (c.toNat ≤ 126)
theorem un_okc : ∀ (ws : List Bs), (∀ w ∈ ws, w.all inkB = true) → ∀ c ∈ un ws, okc c = true
  | [], _, c, hc => by simp [un_nil] at hc
  | [w], h, c, hc => by
    rw [un_one] at hc
    have := List.all_eq_true.1 (h w (List.mem_cons_self ..)) c hc
    simp only [inkB, Bool.and_eq_true, decide_eq_true_eq] at this
    simp [okc]; omega
  | w :: v :: ws, h, c, hc => by
    rw [un_cons] at hc
    rcases List.mem_append.1 hc with hc | hc
    · have := List.all_eq_true.1 (h w (List.mem_cons_self ..)) c hc
      simp only [inkB, Bool.and_eq_true, decide_eq_true_eq] at this
      simp [okc]; omega
    · rcases List.mem_cons.1 hc with rfl | hc
      · rfl
      · exact un_okc (v :: ws) (fun x hx => h x (List.mem_cons_of_mem _ hx)) c hc
theorem dec_ink (n : Nat) : (decDigits n).all inkB = true := by
  have := (dec_good n).1.all
  rw [List.all_eq_true] at this ⊢
  intro c hc
  have := dgt_iff.1 (this c hc)
  simp only [inkB, Bool.and_eq_true, decide_eq_true_eq]
  omega
theorem ink_ne {w : Bs} (h : w.all inkB = true) : ∀ c ∈ w, c ≠ 32 := by
  intro c hc e
  have := List.all_eq_true.1 h c hc
  rw [e] at this
  exact absurd this (by decide)
theorem words_ink : ∀ {sh : List Bool} {ns : List Nat}, ∀ w ∈ wordsS sh ns, w.all inkB = true
  | [], ns, w, h => by cases ns <;> simp [wordsS] at h
  | b :: sh, [], w, h => by cases b <;> simp [wordsS] at h
  | false :: sh, n :: ns, w, h => by
    rcases List.mem_cons.1 h with rfl | h
    · exact dec_ink n
    · exact words_ink w h
  | true :: sh, n :: ns, w, h => by
    rcases List.mem_cons.1 h with rfl | h
    · split <;> decide
    · exact words_ink w h
theorem words_span : ∀ {sh : List Bool} {ns : List Nat}, Rng sh ns → span (wordsS sh ns) ≤ 8 * sh.length
  | [], [], _ => by simp [wordsS, span]
  | [], _ :: _, h => h.elim
  | false :: _, [], h => h.elim
  | true :: _, [], h => h.elim
  | false :: sh, n :: ns, h => by
    have ih := words_span h.2
    have := ((dig_iff _).1 (dec_dig h.1).1).2
    simp only [wordsS, span, List.map_cons, List.sum_cons, List.length_cons] at ih ⊢
    omega
  | true :: sh, n :: ns, h => by
    have ih := words_span h.2
    have : (if n = 0 then buyB else sellB).length ≤ 7 := by split <;> decide
    simp only [wordsS, span, List.map_cons, List.sum_cons, List.length_cons] at ih ⊢
    omega
theorem ask_print {k : Nat} {v : Bs} {sh : List Bool} {ns : List Nat} (hk : (k, v, sh) ∈ kinds) (hr : Rng sh ns) : askB (un (v :: wordsS sh ns)) = .ok (k, ns) := by
  have hv : v.all inkB = true ∧ v.length ≤ 7 ∧ sh.length ≤ 8 := by
    simp only [kinds, List.mem_cons, Prod.mk.injEq, List.not_mem_nil, or_false] at hk
    rcases hk with ⟨_, rfl, rfl⟩ | ⟨_, rfl, rfl⟩ | ⟨_, rfl, rfl⟩ | ⟨_, rfl, rfl⟩ <;> decide
  have hall : ∀ w ∈ v :: wordsS sh ns, w.all inkB = true := fun w hw => by
    rcases List.mem_cons.1 hw with rfl | hw
    · exact hv.1
    · exact words_ink w hw
  have hsp := words_span hr
  have hlen := span_un (w := v) (ws := wordsS sh ns)
  have hspan : span (v :: wordsS sh ns) = v.length + 1 + span (wordsS sh ns) := by simp [span]
  unfold askB
  rw [if_neg (by omega), badFrom_none _ _ (un_okc _ hall), sp_un (by simp) fun w hw => ink_ne (hall w hw)]
  obtain ⟨q, hq⟩ := words_steps sh (un (v :: wordsS sh ns)).length (v.length + 1) ns [] hr
  rw [List.append_nil] at hq
  simp only [askW, kinds_shape hk, hq]
theorem printW_step {k side : Int} {i : Nat} {n : Int} {ns : List Int} {ws : List Bs} (h : printW k side i (n :: ns) = .ok ws) : (0 ≤ n ∧ n ≤ 9999999) ∧ ∃ ws', printW k side (i + 1) ns = .ok ws' ∧ ((k = 1 ∧ i = 2) → (side = 0 ∨ side = 1) ∧ ws = sideB side :: decDigits n.toNat :: ws') ∧ (¬ (k = 1 ∧ i = 2) → ws = decDigits n.toNat :: ws') := by
  unfold printW at h
  split at h
  · cases h
  · rename_i hn
    refine ⟨by omega, ?_⟩
    split at h
    · rename_i hk
      split at h
      · cases h
      · rename_i hs
        split at h
        · rename_i ws' hw
          simp only [Except.ok.injEq] at h
          exact ⟨ws', hw, fun _ => ⟨by omega, h.symm⟩, fun hh => absurd hk hh⟩
        · cases h
    · rename_i hk
      split at h
      · rename_i ws' hw
        simp only [Except.ok.injEq] at h
        exact ⟨ws', hw, fun hh => absurd hh hk, fun _ => h.symm⟩
      · cases h
theorem toN {n : Int} (h : 0 ≤ n ∧ n ≤ 9999999) : ((n.toNat : Nat) : Int) = n ∧ n.toNat ≤ 9999999 := by omega
/-- What is printed asks what it tells. -/
theorem back_print {x0 x1 x2 x3 x4 x5 x6 x7 x8 : Int} {t : Bs} (h : printB x0 x1 x2 x3 x4 x5 x6 x7 x8 = .ok t) : ∃ (k : Nat) (ns : List Nat), askB t = .ok (k, ns) ∧ x0 = (k : Int) ∧
    ((k = 1 ∧ ∃ a b c d e f g i : Nat, ns = [a, b, c, d, e, f, g, i] ∧ x1 = a ∧ x2 = b ∧ x4 = c ∧ x3 = d ∧ x8 = e ∧ x5 = f ∧ x6 = g ∧ x7 = i) ∨ (k = 2 ∧ ∃ a b : Nat, ns = [a, b]) ∨ (k = 3 ∧ ∃ a : Nat, ns = [a]) ∨ (k = 4 ∧ ns = [])) := by
  unfold printB at h
  split at h
  · cases h
  · rename_i h0
    split at h
    · rename_i ws hw
      simp only [Except.ok.injEq] at h
      subst h
      by_cases h1 : x0 = 1
      · subst h1
        simp only [nums9, if_true] at hw
        obtain ⟨r1, w1, q1, _, e1⟩ := printW_step hw
        obtain ⟨r2, w2, q2, _, e2⟩ := printW_step q1
        obtain ⟨r3, w3, q3, e3, _⟩ := printW_step q2
        obtain ⟨r4, w4, q4, _, e4⟩ := printW_step q3
        obtain ⟨r5, w5, q5, _, e5⟩ := printW_step q4
        obtain ⟨r6, w6, q6, _, e6⟩ := printW_step q5
        obtain ⟨r7, w7, q7, _, e7⟩ := printW_step q6
        simp only [printW, Except.ok.injEq] at q7
        subst q7
        have e1 := e1 (by omega)
        have e2 := e2 (by omega)
        obtain ⟨hs, e3⟩ := e3 (by omega)
        have e4 := e4 (by omega)
        have e5 := e5 (by omega)
        have e6 := e6 (by omega)
        have e7 := e7 (by omega)
        have t1 := toN r1; have t2 := toN r2; have t3 := toN r3; have t4 := toN r4; have t5 := toN r5; have t6 := toN r6; have t7 := toN r7
        have hsd : sideB x4 = if x4.toNat = 0 then buyB else sellB := by
          rcases hs with rfl | rfl <;> rfl
        have hk : (1, submitB, [false, false, true, false, false, false, false, false]) ∈ kinds := by simp [kinds]
        have hr : Rng [false, false, true, false, false, false, false, false] [x1.toNat, x2.toNat, x4.toNat, x3.toNat, x8.toNat, x5.toNat, x6.toNat, x7.toNat] :=
          ⟨t1.2, t2.2, by omega, t3.2, t4.2, t5.2, t6.2, t7.2, trivial⟩
        have ha := ask_print hk hr
        refine ⟨1, [x1.toNat, x2.toNat, x4.toNat, x3.toNat, x8.toNat, x5.toNat, x6.toNat, x7.toNat], ?_, rfl, .inl ⟨rfl, _, _, _, _, _, _, _, _, rfl, t1.1.symm, t2.1.symm, by omega, t3.1.symm, t4.1.symm, t5.1.symm, t6.1.symm, t7.1.symm⟩⟩
        rw [← ha]
        congr 1
        rw [e1, e2, e3, e4, e5, e6, e7, hsd]
        rfl
      · by_cases h2 : x0 = 2
        · subst h2
          simp only [nums9, show ¬ ((2 : Int) = 1) by omega, if_false, if_true] at hw
          obtain ⟨r1, w1, q1, _, e1⟩ := printW_step hw
          obtain ⟨r2, w2, q2, _, e2⟩ := printW_step q1
          simp only [printW, Except.ok.injEq] at q2
          subst q2
          have e1 := e1 (by omega)
          have e2 := e2 (by omega)
          have t1 := toN r1; have t2 := toN r2
          have hk : (2, cancelB, [false, false]) ∈ kinds := by simp [kinds]
          have hr : Rng [false, false] [x1.toNat, x2.toNat] := ⟨t1.2, t2.2, trivial⟩
          refine ⟨2, [x1.toNat, x2.toNat], ?_, rfl, .inr (.inl ⟨rfl, _, _, rfl⟩)⟩
          rw [← ask_print hk hr]
          congr 1
          rw [e1, e2]
          rfl
        · by_cases h3 : x0 = 3
          · subst h3
            simp only [nums9, show ¬ ((3 : Int) = 1) by omega, show ¬ ((3 : Int) = 2) by omega, if_false, if_true] at hw
            obtain ⟨r1, w1, q1, _, e1⟩ := printW_step hw
            simp only [printW, Except.ok.injEq] at q1
            subst q1
            have e1 := e1 (by omega)
            have t1 := toN r1
            have hk : (3, pollB, [false]) ∈ kinds := by simp [kinds]
            have hr : Rng [false] [x2.toNat] := ⟨t1.2, trivial⟩
            refine ⟨3, [x2.toNat], ?_, rfl, .inr (.inr (.inl ⟨rfl, _, rfl⟩))⟩
            rw [← ask_print hk hr]
            congr 1
            rw [e1]
            rfl
          · have h4 : x0 = 4 := by omega
            subst h4
            simp only [nums9, show ¬ ((4 : Int) = 1) by omega, show ¬ ((4 : Int) = 2) by omega, show ¬ ((4 : Int) = 3) by omega, if_false, printW, Except.ok.injEq] at hw
            subst hw
            have hk : (4, viewB, []) ∈ kinds := by simp [kinds]
            refine ⟨4, [], ?_, rfl, .inr (.inr (.inr ⟨rfl, rfl⟩))⟩
            have := ask_print (ns := []) hk trivial
            rw [← this]
            rfl
    · cases h
theorem printW_many (k side : Int) : ∀ (ns : List Nat) (i : Nat), ¬ (k = 1 ∧ i ≤ 2) → (∀ n ∈ ns, n ≤ 9999999) → printW k side i (ns.map fun (n : Nat) => (n : Int)) = .ok (ns.map decDigits)
  | [], i, _, _ => rfl
  | n :: ns, i, hi, h => by
    have ih := printW_many k side ns (i + 1) (by omega) (fun m hm => h m (List.mem_cons_of_mem _ hm))
    have hn := h n (List.mem_cons_self ..)
    have h1 : ¬ ((n : Int) < 0 ∨ 9999999 < (n : Int)) := by omega
    have h2 : ¬ (k = 1 ∧ i = 2) := by omega
    simp only [List.map_cons, printW, h1, h2, if_false, ih, Int.toNat_natCast]
theorem printW_one {k side : Int} {i n : Nat} {ns : List Int} {ws : List Bs} (hn : n ≤ 9999999) (hi : ¬ (k = 1 ∧ i = 2)) (h : printW k side (i + 1) ns = .ok ws) : printW k side i ((n : Int) :: ns) = .ok (decDigits n :: ws) := by
  have h1 : ¬ ((n : Int) < 0 ∨ 9999999 < (n : Int)) := by omega
  simp only [printW, h1, hi, if_false, h, Int.toNat_natCast]
theorem printW_side {i n c : Nat} {ns : List Int} {ws : List Bs} (hn : n ≤ 9999999) (hc : c ≤ 1) (h : printW 1 c 3 ns = .ok ws) : printW 1 c 2 ((n : Int) :: ns) = .ok ((if c = 0 then buyB else sellB) :: decDigits n :: ws) := by
  have h1 : ¬ ((n : Int) < 0 ∨ 9999999 < (n : Int)) := by omega
  have h2 : ¬ ((c : Int) ≠ 0 ∧ (c : Int) ≠ 1) := by omega
  have h3 : sideB (c : Int) = if c = 0 then buyB else sellB := by
    unfold sideB
    by_cases h0 : c = 0
    · simp [h0]
    · have : ¬ ((c : Int) = 0) := by omega
      rw [if_neg this, if_neg h0]
  simp only [printW, h1, h2, if_false, and_self, if_true, h, Int.toNat_natCast, h3]
/-- A line that asks something, printed again, is that line. -/
theorem print1 {s : Bs} {a b c d e f g i : Nat} (h : askB s = .ok (1, [a, b, c, d, e, f, g, i])) : printB 1 a b d c f g i e = .ok s := by
  obtain ⟨v, sh, hk, hr, hw, _⟩ := ask_ok h
  simp only [kinds, List.mem_cons, Prod.mk.injEq, List.not_mem_nil, or_false] at hk
  rcases hk with ⟨_, rfl, rfl⟩ | ⟨hh, _⟩ | ⟨hh, _⟩ | ⟨hh, _⟩
  · obtain ⟨r1, r2, r3, r4, r5, r6, r7, r8, _⟩ := hr
    have p3 := printW_many 1 c [e, f, g, i] 3 (by omega) (by simp; omega)
    have p2 := printW_side (i := 0) r4 r3 p3
    have p1 := printW_one (k := 1) (i := 1) r2 (by omega) p2
    have p0 := printW_one (k := 1) (i := 0) r1 (by omega) p1
    have hs := un_sp s
    rw [hw] at hs
    unfold printB
    have h1 : ¬ ((1 : Int) < 1 ∨ 4 < (1 : Int)) := by omega
    have hn : nums9 1 a b d f g i e = (a : Int) :: (b : Int) :: (d : Int) :: [e, f, g, i].map fun (n : Nat) => (n : Int) := rfl
    rw [if_neg h1, hn, p0]
    dsimp only
    rw [← hs]
    rfl
  all_goals omega
theorem print2 {s : Bs} {a b : Nat} (h : askB s = .ok (2, [a, b])) : printB 2 a b 0 0 0 0 0 0 = .ok s := by
  obtain ⟨v, sh, hk, hr, hw, _⟩ := ask_ok h
  simp only [kinds, List.mem_cons, Prod.mk.injEq, List.not_mem_nil, or_false] at hk
  rcases hk with ⟨hh, _⟩ | ⟨_, rfl, rfl⟩ | ⟨hh, _⟩ | ⟨hh, _⟩
  · omega
  · obtain ⟨r1, r2, _⟩ := hr
    have p0 := printW_many 2 0 [a, b] 0 (by omega) (by simp; omega)
    have hs := un_sp s
    rw [hw] at hs
    unfold printB
    have h1 : ¬ ((2 : Int) < 1 ∨ 4 < (2 : Int)) := by omega
    have hn : nums9 2 a b 0 0 0 0 0 = [a, b].map fun (n : Nat) => (n : Int) := rfl
    rw [if_neg h1, hn, p0]
    dsimp only
    rw [← hs]
    rfl
  all_goals omega
theorem print3 {s : Bs} {a : Nat} (h : askB s = .ok (3, [a])) : printB 3 0 a 0 0 0 0 0 0 = .ok s := by
  obtain ⟨v, sh, hk, hr, hw, _⟩ := ask_ok h
  simp only [kinds, List.mem_cons, Prod.mk.injEq, List.not_mem_nil, or_false] at hk
  rcases hk with ⟨hh, _⟩ | ⟨hh, _⟩ | ⟨_, rfl, rfl⟩ | ⟨hh, _⟩
  · omega
  · omega
  · obtain ⟨r1, _⟩ := hr
    have p0 := printW_many 3 0 [a] 0 (by omega) (by simp; omega)
    have hs := un_sp s
    rw [hw] at hs
    unfold printB
    have h1 : ¬ ((3 : Int) < 1 ∨ 4 < (3 : Int)) := by omega
    have hn : nums9 3 0 a 0 0 0 0 0 = [a].map fun (n : Nat) => (n : Int) := rfl
    rw [if_neg h1, hn, p0]
    dsimp only
    rw [← hs]
    rfl
  · omega
theorem print4 {s : Bs} (h : askB s = .ok (4, [])) : printB 4 0 0 0 0 0 0 0 0 = .ok s := by
  obtain ⟨v, sh, hk, hr, hw, _⟩ := ask_ok h
  simp only [kinds, List.mem_cons, Prod.mk.injEq, List.not_mem_nil, or_false] at hk
  rcases hk with ⟨hh, _⟩ | ⟨hh, _⟩ | ⟨hh, _⟩ | ⟨_, rfl, rfl⟩
  · omega
  · omega
  · omega
  · have hs := un_sp s
    rw [hw] at hs
    rw [← hs]
    rfl
end Go.Proofs.YtilkbgdfndifgaaGreatDoor.WordP
