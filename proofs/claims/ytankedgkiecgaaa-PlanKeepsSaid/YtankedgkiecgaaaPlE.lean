/-
  Plan on data: runs, in two ways.
-/
import Derived.Test.YtankedgkiecgaaaPlD
namespace Go.Proofs.Ytankedgkiecgaaa.PlanD
open Go.Proofs.Ytankedgkiecgaaa.Eng Go.Proofs.Ytankedgkiecgaaa Go.Proofs.Ytankedgkiecgaaa.Dat Go.Proofs.Ytankedgkiecgaaa.Open
set_option linter.unusedVariables false
set_option linter.unusedSimpArgs false
set_option maxRecDepth 10000

/-- How many at the beginning are x. -/
def lead (x : Int) : List Int → Nat
  | [] => 0
  | y :: l => if y = x then lead x l + 1 else 0
theorem lead_le (x : Int) : ∀ l : List Int, lead x l ≤ l.length
  | [] => Nat.le_refl _
  | y :: l => by
    have := lead_le x l
    simp only [lead, List.length_cons]
    split <;> omega
theorem lead_rep (x : Int) : ∀ l : List Int, l = List.replicate (lead x l) x ++ l.drop (lead x l)
  | [] => rfl
  | y :: l => by
    simp only [lead]
    split
    · rename_i h
      subst h
      have := lead_rep y l
      rw [List.replicate_succ, List.drop_succ_cons, List.cons_append, ← this]
    · rfl
theorem lead_next (x : Int) : ∀ (l : List Int) (y : Int) (r : List Int), l.drop (lead x l) = y :: r → y ≠ x
  | [], y, r, h => by simp [lead] at h
  | z :: l, y, r, h => by
    simp only [lead] at h
    split at h
    · rw [List.drop_succ_cons] at h
      exact lead_next x l y r h
    · rename_i hne
      simp only [List.drop_zero] at h
      injection h with h1 h2
      rw [← h1]; exact hne
def grp : Nat → List Int → List (Int × Int)
  | _, [] => []
  | 0, _ => []
  | n + 1, x :: l => (if x < 0 then [] else [(x, ((lead x l + 1 : Nat) : Int))]) ++ grp n (l.drop (lead x l))
theorem step_neg (out : List (Int × Int)) {x : Int} (h : x < 0) : ∀ k, (List.replicate k x).foldl step out = out ++ List.replicate k (-1, 0)
  | 0 => by simp
  | k + 1 => by
    rw [List.replicate_succ', List.foldl_append, step_neg out h k, List.replicate_succ', ← List.append_assoc]
    simp [step, h]
theorem step_pos (out : List (Int × Int)) {x : Int} (h : ¬ x < 0) (m : Int) (hm : m > 0) : ∀ k : Nat, (List.replicate k x).foldl step (out ++ [(x, m)]) = out ++ [(x, m + k)]
  | 0 => by simp
  | k + 1 => by
    rw [List.replicate_succ', List.foldl_append, step_pos out h m hm k]
    have : m + (k : Int) > 0 := by omega
    simp [step, h, this]
    omega
theorem filter_zeros (k : Nat) : ((List.replicate k ((-1 : Int), (0 : Int))).filter fun x => !isZ x) = [] := by
  rw [List.filter_eq_nil_iff]
  intro x hx
  obtain rfl := (List.mem_replicate.1 hx).2
  decide
theorem runs_grp : ∀ (n : Nat) (l : List Int) (out : List (Int × Int)), l.length ≤ n → (∀ x r m, l = x :: r → ¬ x < 0 → out.getLast? = some (x, m) → ¬ m > 0) →
    ((l.foldl step out).filter fun x => !isZ x) = (out.filter fun x => !isZ x) ++ grp n l := by
  intro n
  induction n with
  | zero =>
    intro l out hl _
    have : l = [] := List.eq_nil_of_length_eq_zero (by omega)
    subst this
    simp [grp]
  | succ n ih =>
    intro l out hl hno
    cases l with
    | nil => simp [grp]
    | cons x l =>
      simp only [grp]
      have hlen := lead_le x l
      have hnext := lead_next x l
      have hsplit := lead_rep x l
      generalize lead x l = k at *
      generalize hr : l.drop k = r at *
      have hrl : r.length ≤ n := by rw [← hr, List.length_drop]; simp at hl; omega
      rw [hsplit]
      rw [List.foldl_cons, List.foldl_append]
      by_cases h : x < 0
      · have e : step out x = out ++ List.replicate 1 (-1, 0) := by simp [step, h]
        have e2 : (List.replicate k x).foldl step (step out x) = out ++ List.replicate (k + 1) (-1, 0) := by
          rw [e, step_neg _ h, List.append_assoc, List.replicate_append_replicate, Nat.add_comm]
        rw [e2, ih r _ hrl (fun y r' m hy hy0 hl => by
          rw [List.replicate_succ', ← List.append_assoc, List.getLast?_append, List.getLast?_singleton, Option.some_or] at hl
          cases hl
          omega), List.filter_append, filter_zeros, if_pos h]
        simp
      · have e : step out x = out ++ [(x, 1)] := by
          unfold step
          rw [if_neg h]
          cases hq : out.getLast? with
          | none => rfl
          | some p =>
            obtain ⟨b, m⟩ := p
            simp only
            rw [if_neg]
            rintro ⟨hb, hm⟩
            exact hno x l m rfl h (by rw [hq, hb]) hm
        have e2 : (List.replicate k x).foldl step (step out x) = out ++ [(x, ((k + 1 : Nat) : Int))] := by
          rw [e, step_pos _ h 1 (by decide)]
          congr 3
          omega
        have hz : isZ (x, ((k + 1 : Nat) : Int)) = false := by simp [isZ]; omega
        have hz2 : ([(x, ((k + 1 : Nat) : Int))].filter fun x => !isZ x) = [(x, ((k + 1 : Nat) : Int))] := by rw [List.filter_cons, hz]; rfl
        rw [e2, ih r _ hrl (fun y r' m hy hy0 hl => by
          rw [List.getLast?_append, List.getLast?_singleton, Option.some_or] at hl
          injection hl with hl
          injection hl with h1 h2
          exact absurd (show y = x by first | exact h1 | exact h1.symm) (hnext y r' hy)), List.filter_append, if_neg h, hz2, List.append_assoc]
theorem runs_eq_grp (l : List Int) : runs l = grp l.length l := by
  have := runs_grp l.length l [] (Nat.le_refl _) (fun x r m _ _ h => by simp at h)
  simpa [runs, fold] using this
theorem grp_len : ∀ (n : Nat) (l : List Int), (grp n l).length ≤ l.length
  | 0, [] => Nat.le_refl _
  | n + 1, [] => Nat.le_refl _
  | 0, x :: l => by simp [grp]
  | n + 1, x :: l => by
    have h := grp_len n (l.drop (lead x l))
    rw [List.length_drop] at h
    simp only [grp, List.length_append, List.length_cons]
    split <;> simp <;> omega
theorem refRuns_in (l : List Int) (hl : l.length ≤ 1000000) (i : Nat) (hi : i < l.length) (out : List (Int × Int)) (ho : out.length ≤ 1000000) (g0 : Eng.Fn) : ∀ (k n : Nat), i + n ≤ l.length → lead l[i] (l.drop (i + n)) = k →
    W_ref21_Runs_2 (ints l) (.int i) (.agg (out.map pr)) g0 [.int n] = g0 [.int ((i + (n + k) : Nat) : Int), .agg ((out ++ if l[i] < 0 then [] else [(l[i], ((n + k : Nat) : Int))]).map pr)] := by
  intro k
  induction k with
  | zero =>
    intro n hn hk
    have hw : IntKind.i64.wrap ((i : Int) + (n : Int)) = ((i + n : Nat) : Int) := by rw [i64w _ (by omega) (by omega)]; simp
    have hii : (i : Int) < (l.length : Int) := by omega
    have hb : ∀ x : D, (((out.map pr ++ [x]).length : Nat) : Int) ≤ 8796093022208 := fun x => by simp; omega
    have hfin : (if (decide (l[i] ≥ (0 : Int))) = true then g0 [.int ((i + n : Nat) : Int), .agg (out.map pr ++ [.agg [.int l[i], .int n]])] else g0 [.int ((i + n : Nat) : Int), .agg (out.map pr)]) = g0 [.int ((i + (n + 0) : Nat) : Int), .agg ((out ++ if l[i] < 0 then [] else [(l[i], ((n + 0 : Nat) : Int))]).map pr)] := by
      by_cases h : l[i] < 0
      · rw [if_neg (by simp; omega), if_pos h]; simp
      · rw [if_pos (by simp; omega), if_neg h]; simp [pr]
    rw [W_ref21_Runs_2_eq]
    simp only [D.toInt_int, D.toL_agg, ints_l, List.length_map, hw, ge_iff_le, Int.natCast_nonneg, decide_true, if_true, Int.toNat_natCast, hii, getD_map D.int hi, hb]
    by_cases h : i + n < l.length
    · have h1 : ((i + n : Nat) : Int) < (l.length : Int) := by omega
      rw [List.drop_eq_getElem_cons h] at hk
      have hx : (l[i + n] == l[i]) = false := by
        simp only [lead] at hk
        split at hk
        · omega
        · simpa using ‹¬ l[i + n] = l[i]›
      simp only [h1, decide_true, if_true, getD_map D.int h, D.toInt_int, hx, Bool.false_eq_true, if_false]
      exact hfin
    · have h1 : ¬ ((i + n : Nat) : Int) < (l.length : Int) := by omega
      simp only [h1, decide_false, Bool.false_eq_true, if_false]
      exact hfin
  | succ k ih =>
    intro n hn hk
    have hw : IntKind.i64.wrap ((i : Int) + (n : Int)) = ((i + n : Nat) : Int) := by rw [i64w _ (by omega) (by omega)]; simp
    have hii : (i : Int) < (l.length : Int) := by omega
    have h : i + n < l.length := by
      rcases Nat.lt_or_ge (i + n) l.length with h | h
      · exact h
      · rw [List.drop_eq_nil_of_le h] at hk; simp [lead] at hk
    have h1 : ((i + n : Nat) : Int) < (l.length : Int) := by omega
    rw [List.drop_eq_getElem_cons h] at hk
    have hx : l[i + n] = l[i] ∧ lead l[i] (l.drop (i + n + 1)) = k := by
      simp only [lead] at hk
      split at hk
      · rename_i e; exact ⟨e, by omega⟩
      · omega
    have hb : (l[i + n] == l[i]) = true := by simpa using hx.1
    rw [W_ref21_Runs_2_eq]
    simp only [D.toInt_int, ints_l, List.length_map, hw, ge_iff_le, Int.natCast_nonneg, decide_true, if_true, Int.toNat_natCast, hii, h1, getD_map D.int h, getD_map D.int hi, hb, wj (show n < 9000000000000000 by omega)]
    rw [ih (n + 1) (by omega) hx.2]
    rw [show n + 1 + k = n + (k + 1) by omega]
theorem grp_more : ∀ (n m : Nat) (l : List Int), l.length ≤ n → n ≤ m → grp n l = grp m l
  | 0, m, l, h, _ => by
    have : l = [] := List.eq_nil_of_length_eq_zero (by omega)
    subst this
    cases m <;> rfl
  | n + 1, 0, l, h, h2 => by omega
  | n + 1, m + 1, [], h, h2 => rfl
  | n + 1, m + 1, x :: l, h, h2 => by
    simp only [grp]
    rw [grp_more n m _ (by simp at h ⊢; omega) (by omega)]
theorem refRuns_eq (l : List Int) (hl : l.length ≤ 1000000) : FX 19 [ints l] = some [.agg ((runs l).map pr)] := by
  rw [E_ref21_Runs, runs_eq_grp]
  have h : ∀ (n i : Nat) (out : List (Int × Int)), l.length - i = n → i ≤ l.length → out.length ≤ i → W_ref21_Runs_1 (ints l) [.int i, .agg (out.map pr)] = some [.agg ((out ++ grp l.length (l.drop i)).map pr)] := by
    intro n
    induction n using Nat.strongRecOn with
    | _ n ih =>
      intro i out hn hi ho
      rw [W_ref21_Runs_1_eq]
      by_cases h : i = l.length
      · subst h
        simp only [D.toInt_int, ints_l, List.length_map, Int.lt_irrefl, decide_false, Bool.false_eq_true, if_false, List.drop_length]
        cases l.length <;> simp [grp]
      · have hlt : i < l.length := by omega
        have h1 : (i : Int) < (l.length : Int) := by omega
        simp only [D.toInt_int, ints_l, List.length_map, h1, decide_true, if_true]
        refine (refRuns_in l hl i hlt out (by omega) (W_ref21_Runs_1 (ints l)) _ 1 (by omega) rfl).trans ?_
        have hle := lead_le l[i] (l.drop (i + 1))
        rw [List.length_drop] at hle
        rw [ih (l.length - (i + (1 + lead l[i] (l.drop (i + 1))))) (by omega) _ _ rfl (by omega) (by simp; split <;> simp <;> omega)]
        have hd := List.drop_eq_getElem_cons hlt
        obtain ⟨m, hm⟩ : ∃ m, l.length = m + 1 := ⟨l.length - 1, by omega⟩
        have e : grp l.length (l.drop i) = (if l[i] < 0 then [] else [(l[i], ((lead l[i] (l.drop (i + 1)) + 1 : Nat) : Int))]) ++ grp l.length (l.drop (i + (1 + lead l[i] (l.drop (i + 1))))) := by
          rw [hd]
          have e1 : grp l.length (l[i] :: l.drop (i + 1)) = grp (m + 1) (l[i] :: l.drop (i + 1)) := by rw [hm]
          rw [e1]
          simp only [grp]
          rw [List.drop_drop, grp_more m l.length _ (by simp; omega) (by omega)]
          congr 2
          · congr 1; omega
        rw [e, List.append_assoc, Nat.add_comm 1]
  have := h l.length 0 [] rfl (Nat.zero_le _) (Nat.le_refl _)
  simpa using this
end Go.Proofs.Ytankedgkiecgaaa.PlanD
