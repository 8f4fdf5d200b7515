/-
  Replies on data: what may be told.
-/
import Derived.Test.YtmgpbjennnadhaaGreatDoorReplyP
import Derived.Test.YtmgpbjennnadhaaGreatDoorAllE
import Derived.Test.YtmgpbjennnadhaaGreatDoorDat
namespace Go.Proofs.YtmgpbjennnadhaaGreatDoor.AnsD
open Go.Proofs.YtmgpbjennnadhaaGreatDoor.Eng Go.Proofs.YtmgpbjennnadhaaGreatDoor.Dat Go.Proofs.YtmgpbjennnadhaaGreatDoor Go.Proofs.YtmgpbjennnadhaaGreatDoor.WordP
set_option linter.unusedVariables false
set_option linter.unusedSimpArgs false

def lookD (l : Int × Int × Int) : D := .agg [.int l.1, .int l.2.1, .int l.2.2]
def looksD (l : List (Int × Int × Int)) : D := .agg (l.map lookD)
def dsOf (r : Rep) : List D := [.int r.kind, .int r.code, .int r.tick, .int r.id, .int r.cell, .bool r.asked, .int r.rk, .int r.rq, .int r.rp, .int r.rt, .int r.rc, .int r.rg, looksD r.looks]
def mostB (n : Int) : Bool := decide (n ≥ 0) && decide (n ≤ 9999999)
def kindB (n : Int) : Bool := n == 0 || (n == 1 || (n == 5 || (n == 6 || (n == 7 || n == 8))))
def lookB' (k c : Int) (l : Int × Int × Int) : Bool := k == 4 && (c == 0 && (kindB l.1 && (mostB l.2.1 && mostB l.2.2)))
def rec0 (r : Rep) : Bool := r.rk == 0 && (r.rq == 0 && (r.rp == 0 && (r.rt == 0 && (r.rc == 0 && r.rg == 0))))
def s4 (r : Rep) : Bool := r.looks.all (lookB' r.kind r.code)
def s3 (r : Rep) : Bool := (rec0 r || (r.kind == 3 && (r.code == 0 && (decide (1 ≤ r.rk) && (decide (r.rk ≤ 5) && (mostB r.rq && (mostB r.rp && (mostB r.rt && (r.rc == 0 && r.rg == 0))))))))) && s4 r
def s2 (r : Rep) : Bool := (!r.asked || (r.kind == 2 && r.code == 0)) && s3 r
def s1 (r : Rep) : Bool := (decide (r.kind < 3) || r.id == 0) && ((!(r.kind == 4) || r.cell == 0) && s2 r)
def rightB (r : Rep) : Bool := decide (1 ≤ r.kind) && (decide (r.kind ≤ 4) && (decide (0 ≤ r.tick) && (decide (r.tick ≤ 1000000) && (mostB r.id && (mostB r.cell && (decide (0 ≤ r.code) && s1 r))))))
theorem kindB_iff {n : Int} : kindB n = true ↔ (n = 0 ∨ n = 1 ∨ n = 5 ∨ n = 6 ∨ n = 7 ∨ n = 8) := by simp [kindB]
theorem mostB_iff {n : Int} : mostB n = true ↔ most n := by simp [mostB, most]
theorem right_iff (r : Rep) : rightB r = true ↔ r.Right := by
  simp only [rightB, s1, s2, s3, s4, rec0, lookB', Bool.and_eq_true, Bool.or_eq_true, decide_eq_true_eq, beq_iff_eq, Bool.not_eq_true', List.all_eq_true, kindB_iff, mostB_iff, beq_eq_false_iff_ne]
  constructor
  · rintro ⟨h1, h2, h3, h4, h5, h6, h7, h8, h9, h10, h11, h12⟩
    refine ⟨by omega, ⟨h3, h4⟩, h5, h6, h7, fun h => by omega, fun h => by omega, fun h => ?_, ?_, fun l hl => ?_⟩
    · rcases h10 with h10 | h10
      · rw [h] at h10; cases h10
      · exact h10
    · rcases h11 with ⟨a, b, c, d, e, f⟩ | ⟨a, b, c, d, e, f, g, h, i⟩
      · exact .inl ⟨a, b, c, d, e, f⟩
      · exact .inr ⟨a, b, ⟨c, d⟩, e, f, g, h, i⟩
    · obtain ⟨a, b, c, d, e⟩ := h12 l hl
      exact ⟨a, b, c, d, e⟩
  · intro h
    have hk := h.kind
    refine ⟨by omega, by omega, h.tick.1, h.tick.2, h.id, h.cell, h.code, ?_, ?_, ?_, ?_, fun l hl => ?_⟩
    · by_cases hq : r.kind < 3
      · exact .inl hq
      · exact .inr (h.id0 (by omega))
    · by_cases hq : r.kind = 4
      · exact .inr (h.cell0 hq)
      · exact .inl hq
    · cases ha : r.asked with
      | false => exact .inl rfl
      | true => exact .inr (h.asked ha)
    · rcases h.rcd with ⟨a, b, c, d, e, f⟩ | ⟨a, b, ⟨c, d⟩, e, f, g, h, i⟩
      · exact .inl ⟨a, b, c, d, e, f⟩
      · exact .inr ⟨a, b, c, d, e, f, g, h, i⟩
    · obtain ⟨a, b, c, d, e⟩ := h.looks l hl
      exact ⟨a, b, c, d, e⟩

/-! The document's. -/
theorem most_eq (n : Int) : FX 19 [.int n] = some [.bool (mostB n)] := by
  rw [E_ref16_most]
  simp only [D.toInt_int, mostB]
  by_cases h : n ≥ 0 <;> by_cases h2 : n ≤ 9999999 <;> simp [h, h2]
theorem small_eq (n : Int) : FX 27 [.int n] = some [.bool (mostB n)] := by
  rw [E_answer_small]
  simp only [D.toInt_int, mostB]
  by_cases h : n ≥ 0 <;> by_cases h2 : n ≤ 9999999 <;> simp [h, h2]
theorem look_get {l : List (Int × Int × Int)} {i : Nat} {x : Int × Int × Int} (h : l[i]? = some x) : (looksD l).toL.getD i .nil = lookD x := by
  simp only [looksD, D.toL_agg, List.getD_eq_getElem?_getD, List.getElem?_map, h]; rfl
theorem looks_len (l : List (Int × Int × Int)) : (looksD l).toL.length = l.length := by simp [looksD]
theorem cutF {c : Prop} [Decidable c] {x : Option (List D)} {b : Bool} (h : c → b = false) (h' : ¬ c → x = some [.bool b]) : (if c then some [D.bool false] else x) = some [D.bool b] := by
  by_cases hc : c
  · rw [if_pos hc, h hc]
  · rw [if_neg hc, h' hc]
theorem cutI {c : Prop} [Decidable c] {x y z : Option (List D)} (h : c → x = z) (h' : ¬ c → y = z) : (if c then x else y) = z := by
  by_cases hc : c
  · rw [if_pos hc, h hc]
  · rw [if_neg hc, h' hc]
theorem dT {p : Prop} {i : Decidable p} (h : @decide p i = true) : p := of_decide_eq_true h
theorem dF {p : Prop} {i : Decidable p} (h : ¬ @decide p i = true) : ¬ p := fun q => h (decide_eq_true q)
theorem nr {r : Rep} (h : ¬ r.Right) : rightB r = false := by
  cases hb : rightB r with
  | false => rfl
  | true => exact absurd ((right_iff r).1 hb) h
theorem refLoop (r : Rep) (hl : r.looks.length ≤ 1000000) : ∀ (n i : Nat), n + i = r.looks.length →
    W_ref16_Right_5 (.int r.kind) (.int r.code) (.int r.tick) (.int r.id) (.int r.cell) (.bool r.asked) (.int r.rk) (.int r.rq) (.int r.rp) (.int r.rt) (.int r.rc) (.int r.rg) (looksD r.looks) [.int (i : Nat)] = some [.bool ((r.looks.drop i).all (lookB' r.kind r.code))]
  | 0, i, h => by
    rw [W_ref16_Right_5_eq]
    have h1 : ¬ ((i : Nat) : Int) < (r.looks.length : Int) := by omega
    simp only [D.toInt_int, looks_len, h1, decide_false, Bool.false_eq_true, if_false]
    rw [List.drop_eq_nil_of_le (by omega)]
    rfl
  | n + 1, i, h => by
    rw [W_ref16_Right_5_eq]
    have hlt : i < r.looks.length := by omega
    have hx : r.looks[i]? = some r.looks[i] := List.getElem?_eq_getElem hlt
    have h1 : ((i : Nat) : Int) < (r.looks.length : Int) := by omega
    have h2 : ((i : Nat) : Int) ≥ 0 := by omega
    have hw : IntKind.i64.wrap ((i : Nat) + 1 : Int) = ((i + 1 : Nat) : Int) := by rw [wrap_small _ (by omega) (by omega)]; omega
    have ih := refLoop r hl n (i + 1) (by omega)
    rw [List.drop_eq_getElem_cons hlt, List.all_cons]
    generalize r.looks[i] = x at hx
    simp only [D.toInt_int, looks_len, h1, h2, decide_true, if_true, Int.toNat_natCast, look_get hx, hw, ih, lookD, D.toL_agg, List.getD_cons_zero, List.getD_cons_succ, most_eq, bindC, List.length_cons, List.length_nil, D.toBool_bool]
    obtain ⟨x1, x2, x3⟩ := x
    simp only
    refine cutF (fun h => by simp at h; simp [lookB', h]) fun k4 => ?_
    refine cutF (fun h => by simp at h; simp [lookB', h]) fun c0 => ?_
    refine cutF (fun h => by simp only [decide_eq_true_eq] at h; have : kindB x1 = false := (by simp [kindB]; omega); simp [lookB', this]) fun h3 => ?_
    refine cutF (fun h => by simp only [decide_eq_true_eq] at h; have : kindB x1 = false := (by simp [kindB]; omega); simp [lookB', this]) fun h4 => ?_
    simp only [decide_eq_true_eq, bne_iff_ne, ne_eq, Decidable.not_not] at k4 c0 h3 h4
    have tailq : kindB x1 = true → (if (!mostB x2) = true then some [D.bool false] else if (!mostB x3) = true then some [D.bool false] else some [D.bool (List.all (List.drop (i + 1) r.looks) (lookB' r.kind r.code))]) = some [D.bool (lookB' r.kind r.code (x1, x2, x3) && List.all (List.drop (i + 1) r.looks) (lookB' r.kind r.code))] := by
      intro hk
      refine cutF (fun h => by simp at h; simp [lookB', h]) fun h5 => ?_
      refine cutF (fun h => by simp at h; simp [lookB', h]) fun h6 => ?_
      simp at h5 h6
      simp [lookB', k4, c0, hk, h5, h6]
    refine cutI (fun h5 => ?_) fun h5 => ?_
    · simp only [decide_eq_true_eq] at h5
      refine cutF (fun h => by simp only [decide_eq_true_eq] at h; have : kindB x1 = false := (by simp [kindB]; omega); simp [lookB', this]) fun h6 => ?_
      simp only [decide_eq_true_eq] at h6
      exact tailq (kindB_iff.2 (by omega))
    · simp only [decide_eq_true_eq] at h5
      exact tailq (kindB_iff.2 (by omega))
theorem all_fin (r : Rep) (h : (∀ l ∈ r.looks, r.kind = 4 ∧ r.code = 0 ∧ lookRight l) → r.Right) : r.looks.all (lookB' r.kind r.code) = rightB r := by
  apply Bool.eq_iff_iff.2
  rw [right_iff]
  simp only [List.all_eq_true, lookB', Bool.and_eq_true, beq_iff_eq, kindB_iff, mostB_iff]
  constructor
  · intro hl
    refine h fun l m => ?_
    obtain ⟨a, b, c, d, e⟩ := hl l m
    exact ⟨a, b, c, d, e⟩
  · intro R l m
    obtain ⟨a, b, c, d, e⟩ := R.looks l m
    exact ⟨a, b, c, d, e⟩
theorem notmost {n : Int} (h : (!mostB n) = true) : ¬ most n := by
  intro m; rw [mostB_iff.2 m] at h; simp at h
theorem ismost {n : Int} (h : ¬ (!mostB n) = true) : most n := by
  apply mostB_iff.1; simpa using h
theorem refRight_eq (r : Rep) (hl : r.looks.length ≤ 1000000) : FX 6 (dsOf r) = some [.bool (rightB r)] := by
  unfold dsOf
  rw [E_ref16_Right]
  simp only [D.toInt_int, most_eq, bindC, List.length_cons, List.length_nil, List.getD_cons_zero, D.toBool_bool]
  refine cutF (fun h => nr fun R => ?_) fun h1 => ?_
  · replace h := dT h; have := R.kind; omega
  refine cutF (fun h => nr fun R => ?_) fun h2 => ?_
  · replace h := dT h; have := R.kind; omega
  refine cutF (fun h => nr fun R => ?_) fun h3 => ?_
  · replace h := dT h; have := R.tick; omega
  refine cutF (fun h => nr fun R => ?_) fun h4 => ?_
  · replace h := dT h; have := R.tick; omega
  refine cutF (fun h => nr fun R => notmost h R.id) fun h5 => ?_
  refine cutF (fun h => nr fun R => notmost h R.cell) fun h6 => ?_
  refine cutF (fun h => nr fun R => ?_) fun h7 => ?_
  · replace h := dT h; have := R.code; omega
  replace h5 := ismost h5
  replace h6 := ismost h6
  replace h1 := dF h1; replace h2 := dF h2; replace h3 := dF h3; replace h4 := dF h4; replace h7 := dF h7
  have J2 : (3 ≤ r.kind → r.id = 0) → (r.kind = 4 → r.cell = 0) → J_ref16_Right_2 (.int r.kind) (.int r.code) (.int r.tick) (.int r.id) (.int r.cell) (.bool r.asked) (.int r.rk) (.int r.rq) (.int r.rp) (.int r.rt) (.int r.rc) (.int r.rg) (looksD r.looks) [] = some [.bool (rightB r)] := by
    intro i0 c0
    have J4 : ∀ (as : r.asked = true → r.kind = 2 ∧ r.code = 0) (rc : (r.rk = 0 ∧ r.rq = 0 ∧ r.rp = 0 ∧ r.rt = 0 ∧ r.rc = 0 ∧ r.rg = 0) ∨ (r.kind = 3 ∧ r.code = 0 ∧ (1 ≤ r.rk ∧ r.rk ≤ 5) ∧ most r.rq ∧ most r.rp ∧ most r.rt ∧ r.rc = 0 ∧ r.rg = 0)), J_ref16_Right_4 (.int r.kind) (.int r.code) (.int r.tick) (.int r.id) (.int r.cell) (.bool r.asked) (.int r.rk) (.int r.rq) (.int r.rp) (.int r.rt) (.int r.rc) (.int r.rg) (looksD r.looks) [] = some [.bool (rightB r)] := by
      intro as rc
      rw [J_ref16_Right_4_eq]
      have := refLoop r hl r.looks.length 0 (by omega)
      rw [show (((0 : Nat) : Nat) : Int) = 0 from rfl, List.drop_zero] at this
      rw [this, all_fin r fun hll => ⟨by omega, ⟨by omega, by omega⟩, h5, h6, by omega, i0, c0, as, rc, hll⟩]
    have J3 : ∀ (as : r.asked = true → r.kind = 2 ∧ r.code = 0), J_ref16_Right_3 (.int r.kind) (.int r.code) (.int r.tick) (.int r.id) (.int r.cell) (.bool r.asked) (.int r.rk) (.int r.rq) (.int r.rp) (.int r.rt) (.int r.rc) (.int r.rg) (looksD r.looks) [] = some [.bool (rightB r)] := by
      intro as
      rw [J_ref16_Right_3_eq]
      simp only [D.toInt_int, most_eq, bindC, List.length_cons, List.length_nil, List.getD_cons_zero, D.toBool_bool]
      refine cutI (fun hz => ?_) fun hz => ?_
      · have hz' : ¬ (r.rk = 0 ∧ r.rq = 0 ∧ r.rp = 0 ∧ r.rt = 0 ∧ r.rc = 0 ∧ r.rg = 0) := by
          intro ⟨a, b, c, d, e, f⟩
          simp [a, b, c, d, e, f] at hz
        have R' : r.Right → (r.kind = 3 ∧ r.code = 0 ∧ (1 ≤ r.rk ∧ r.rk ≤ 5) ∧ most r.rq ∧ most r.rp ∧ most r.rt ∧ r.rc = 0 ∧ r.rg = 0) := fun R => R.rcd.resolve_left hz'
        refine cutF (fun h => nr fun R => ?_) fun k1 => ?_
        · simp at h; exact h (R' R).1
        refine cutF (fun h => nr fun R => ?_) fun k2 => ?_
        · simp at h; exact h (R' R).2.1
        refine cutF (fun h => nr fun R => ?_) fun k3 => ?_
        · replace h := dT h; have := (R' R).2.2.1; omega
        refine cutF (fun h => nr fun R => ?_) fun k4 => ?_
        · replace h := dT h; have := (R' R).2.2.1; omega
        refine cutF (fun h => nr fun R => notmost h (R' R).2.2.2.1) fun k5 => ?_
        refine cutF (fun h => nr fun R => notmost h (R' R).2.2.2.2.1) fun k6 => ?_
        refine cutF (fun h => nr fun R => notmost h (R' R).2.2.2.2.2.1) fun k7 => ?_
        refine cutF (fun h => nr fun R => ?_) fun k8 => ?_
        · simp at h; exact h (R' R).2.2.2.2.2.2.1
        refine cutF (fun h => nr fun R => ?_) fun k9 => ?_
        · simp at h; exact h (R' R).2.2.2.2.2.2.2
        replace k3 := dF k3; replace k4 := dF k4
        simp only [bne_iff_ne, ne_eq, Decidable.not_not] at k1 k2 k8 k9
        exact J4 as (.inr ⟨k1, k2, ⟨by omega, by omega⟩, ismost k5, ismost k6, ismost k7, k8, k9⟩)
      · exact J4 as (.inl (by simpa using hz))
    rw [J_ref16_Right_2_eq]
    simp only [D.toInt_int, D.toBool_bool]
    refine cutI (fun ha => ?_) fun ha => ?_
    · refine cutF (fun h => nr fun R => ?_) fun k1 => ?_
      · simp at h; exact h (R.asked ha).1
      refine cutF (fun h => nr fun R => ?_) fun k2 => ?_
      · simp at h; exact h (R.asked ha).2
      simp only [bne_iff_ne, ne_eq, Decidable.not_not] at k1 k2
      exact J3 fun _ => ⟨k1, k2⟩
    · exact J3 fun h => absurd h ha
  rw [J_ref16_Right_1_eq]
  simp only [D.toInt_int]
  refine cutI (fun k3 => ?_) fun k3 => ?_
  · replace k3 := dT k3
    refine cutF (fun h => nr fun R => ?_) fun k1 => ?_
    · simp at h; exact h (R.id0 (by omega))
    simp only [bne_iff_ne, ne_eq, Decidable.not_not] at k1
    refine cutI (fun k4 => ?_) fun k4 => ?_
    · simp at k4
      refine cutF (fun h => nr fun R => ?_) fun k2 => ?_
      · simp at h; exact h (R.cell0 k4)
      simp only [bne_iff_ne, ne_eq, Decidable.not_not] at k2
      exact J2 (fun _ => k1) fun _ => k2
    · simp at k4
      exact J2 (fun _ => k1) fun h => absurd h k4
  · replace k3 := dF k3
    refine cutI (fun k4 => ?_) fun k4 => ?_
    · simp at k4; omega
    · exact J2 (fun h => by omega) fun h => by omega

/-! The program's. -/
theorem kind_eq (k : Int) (h : kindB k = true) (f : D) (a b c : D) : FX 41 [.int k, f, a, b, c] = some [.str (toB (lookB k))] := by
  rw [E_cell_Kind]
  simp only [D.toInt_int]
  rcases kindB_iff.1 h with rfl | rfl | rfl | rfl | rfl | rfl
  · rfl
  · simp only [show ((1 : Int) == 0) = false from rfl, show ((1 : Int) == 1) = true from rfl, Bool.false_eq_true, if_false, if_true, J_cell_Kind_1_eq, D.toBool_bool]; rfl
  all_goals
    simp only [show ∀ a b : Int, (a == b) = decide (a = b) from fun a b => rfl]
    simp [J_cell_Kind_1_eq, lookB, toB]
theorem word_eq (k : Int) : FX 24 [.int k] = some [.str (toB (lookB k))] := by
  rw [E_answer_word]
  simp only [D.toInt_int]
  refine cutI (fun h => ?_) fun h1 => ?_
  · simp at h; rw [kind_eq k (by simp [kindB, h])]; rfl
  refine cutI (fun h => ?_) fun h2 => ?_
  · simp at h; rw [kind_eq k (by simp [kindB, h])]; rfl
  refine cutI (fun h => ?_) fun h3 => ?_
  · simp at h; rw [kind_eq k (by simp [kindB, h])]; rfl
  refine cutI (fun h => ?_) fun h4 => ?_
  · simp at h; rw [kind_eq k (by simp [kindB, h])]; rfl
  refine cutI (fun h => ?_) fun h5 => ?_
  · simp at h; rw [kind_eq k (by simp [kindB, h])]; rfl
  refine cutI (fun h => ?_) fun h6 => ?_
  · simp at h; rw [kind_eq k (by simp [kindB, h])]; rfl
  simp at h1 h2 h3 h4 h5 h6
  simp [lookB, h1, h2, h3, h4, h5, h6, toB]
theorem lookB_nil {k : Int} : lookB k = [] ↔ kindB k = false := by
  constructor
  · intro h
    cases hk : kindB k with
    | false => rfl
    | true => rcases kindB_iff.1 hk with rfl | rfl | rfl | rfl | rfl | rfl <;> simp [lookB] at h
  · intro h
    have : ¬ (k = 0 ∨ k = 1 ∨ k = 5 ∨ k = 6 ∨ k = 7 ∨ k = 8) := fun h' => by rw [kindB_iff.2 h'] at h; cases h
    simp only [not_or] at this
    simp [lookB, this]
def lookR (l : Int × Int × Int) : Bool := kindB l.1 && (mostB l.2.1 && mostB l.2.2)
theorem chain {b1 b2 b3 u : Bool} {x y : Option (List D)} {i1 : Decidable (b1 = false)} {i2 : Decidable ((!b2) = true)} {i3 : Decidable ((!b3) = true)} {i4 : Decidable (u = true)} {i5 : Decidable ((b1 && (b2 && b3) && u) = true)} :
    (@ite _ (b1 = false) i1 y (@ite _ ((!b2) = true) i2 y (@ite _ ((!b3) = true) i3 y (@ite _ (u = true) i4 x y)))) = @ite _ ((b1 && (b2 && b3) && u) = true) i5 x y := by
  cases b1 <;> cases b2 <;> cases b3 <;> cases u <;> simp
theorem ansLoop (r : Rep) (hl : r.looks.length ≤ 1000000) (g0 : Eng.Fn) : ∀ (n i : Nat), n + i = r.looks.length →
    W_answer_Right_5 (.int r.kind) (.int r.code) (.int r.tick) (.int r.id) (.int r.cell) (.bool r.asked) (.int r.rk) (.int r.rq) (.int r.rp) (.int r.rt) (.int r.rc) (.int r.rg) (looksD r.looks) g0 [.int (i : Nat)] = if (r.looks.drop i).all lookR = true then g0 [] else some [.bool false]
  | 0, i, h => by
    rw [W_answer_Right_5_eq]
    have h1 : ¬ ((i : Nat) : Int) < (r.looks.length : Int) := by omega
    simp only [D.toInt_int, looks_len, h1, decide_false, Bool.false_eq_true, if_false]
    rw [List.drop_eq_nil_of_le (by omega)]
    rfl
  | n + 1, i, h => by
    rw [W_answer_Right_5_eq]
    have hlt : i < r.looks.length := by omega
    have hx : r.looks[i]? = some r.looks[i] := List.getElem?_eq_getElem hlt
    have h1 : ((i : Nat) : Int) < (r.looks.length : Int) := by omega
    have h2 : ((i : Nat) : Int) ≥ 0 := by omega
    have hw : IntKind.i64.wrap ((i : Nat) + 1 : Int) = ((i + 1 : Nat) : Int) := by rw [wrap_small _ (by omega) (by omega)]; omega
    have ih := ansLoop r hl g0 n (i + 1) (by omega)
    rw [List.drop_eq_getElem_cons hlt, List.all_cons]
    generalize r.looks[i] = x at hx
    simp only [D.toInt_int, looks_len, h1, h2, decide_true, if_true, Int.toNat_natCast, look_get hx, hw, ih, lookD, D.toL_agg, List.getD_cons_zero, List.getD_cons_succ, word_eq, small_eq, bindC, List.length_cons, List.length_nil, D.toBool_bool, D.toStr_str]
    obtain ⟨x1, x2, x3⟩ := x
    simp only [show (ByteArray.mk #[]) = toB [] from rfl, eql_toB, beq_iff_eq, lookB_nil]
    exact chain
instance (n : Int) : Decidable (most n) := inferInstanceAs (Decidable (_ ∧ _))
theorem told_eq (r : Rep) : FX 26 [.int r.rk, .int r.rq, .int r.rp, .int r.rt, .int r.rc, .int r.rg] = some [.bool (decide ((1 ≤ r.rk ∧ r.rk ≤ 5) ∧ most r.rq ∧ most r.rp ∧ most r.rt ∧ r.rc = 0 ∧ r.rg = 0))] := by
  rw [E_answer_told]
  simp only [D.toInt_int, small_eq, bindC, List.length_cons, List.length_nil, List.getD_cons_zero, D.toBool_bool, if_true, decide_eq_true_eq, mostB_iff, beq_iff_eq, ge_iff_le]
  by_cases a : 1 ≤ r.rk
  · by_cases b : r.rk ≤ 5
    · by_cases c : most r.rq
      · by_cases d : most r.rp
        · by_cases e : most r.rt
          · by_cases f : r.rc = 0
            · simp [a, b, c, d, e, f]; rfl
            · simp [a, b, c, d, e, f]
          · simp [a, b, c, d, e]
        · simp [a, b, c, d]
      · simp [a, b, c]
    · simp [a, b]
  · simp [a]
theorem ansRight_eq (r : Rep) (hl : r.looks.length ≤ 1000000) : FX 9 (dsOf r) = some [.bool (rightB r)] := by
  unfold dsOf
  rw [E_answer_Right]
  simp only [D.toInt_int]
  refine cutF (fun h => nr fun R => ?_) fun h1 => ?_
  · replace h := dT h; have := R.tick; omega
  refine cutF (fun h => nr fun R => ?_) fun h2 => ?_
  · replace h := dT h; have := R.tick; omega
  refine cutF (fun h => nr fun R => ?_) fun h3 => ?_
  · replace h := dT h; have := R.id.1; omega
  refine cutF (fun h => nr fun R => ?_) fun h4 => ?_
  · replace h := dT h; have := R.id.2; omega
  refine cutF (fun h => nr fun R => ?_) fun h5 => ?_
  · replace h := dT h; have := R.cell.1; omega
  refine cutF (fun h => nr fun R => ?_) fun h6 => ?_
  · replace h := dT h; have := R.cell.2; omega
  refine cutF (fun h => nr fun R => ?_) fun h7 => ?_
  · replace h := dT h; have := R.code; omega
  replace h1 := dF h1; replace h2 := dF h2; replace h3 := dF h3; replace h4 := dF h4; replace h5 := dF h5; replace h6 := dF h6; replace h7 := dF h7
  have J2 : (r.asked = true → r.kind = 2 ∧ r.code = 0) → (r.looks ≠ [] → r.kind = 4 ∧ r.code = 0) → J_answer_Right_2 (.int r.kind) (.int r.code) (.int r.tick) (.int r.id) (.int r.cell) (.bool r.asked) (.int r.rk) (.int r.rq) (.int r.rp) (.int r.rt) (.int r.rc) (.int r.rg) (looksD r.looks) [] = some [.bool (rightB r)] := by
    intro as lk
    have J3 : ∀ (rc : (r.rk = 0 ∧ r.rq = 0 ∧ r.rp = 0 ∧ r.rt = 0 ∧ r.rc = 0 ∧ r.rg = 0) ∨ (r.kind = 3 ∧ r.code = 0 ∧ (1 ≤ r.rk ∧ r.rk ≤ 5) ∧ most r.rq ∧ most r.rp ∧ most r.rt ∧ r.rc = 0 ∧ r.rg = 0)), J_answer_Right_3 (.int r.kind) (.int r.code) (.int r.tick) (.int r.id) (.int r.cell) (.bool r.asked) (.int r.rk) (.int r.rq) (.int r.rp) (.int r.rt) (.int r.rc) (.int r.rg) (looksD r.looks) [] = some [.bool (rightB r)] := by
      intro rc
      rw [J_answer_Right_3_eq]
      have := ansLoop r hl (J_answer_Right_4 (.int r.kind) (.int r.code) (.int r.tick) (.int r.id) (.int r.cell) (.bool r.asked) (.int r.rk) (.int r.rq) (.int r.rp) (.int r.rt) (.int r.rc) (.int r.rg) (looksD r.looks)) r.looks.length 0 (by omega)
      rw [show (((0 : Nat) : Nat) : Int) = 0 from rfl, List.drop_zero] at this
      rw [this]
      by_cases ha : r.looks.all lookR = true
      · rw [if_pos ha]
        simp only [List.all_eq_true, lookR, Bool.and_eq_true, kindB_iff, mostB_iff] at ha
        have lks : ∀ l ∈ r.looks, r.kind = 4 ∧ r.code = 0 ∧ lookRight l := by
          intro l m
          obtain ⟨a, b⟩ := lk (fun e => by rw [e] at m; cases m)
          obtain ⟨c, d, e⟩ := ha l m
          exact ⟨a, b, c, d, e⟩
        rw [J_answer_Right_4_eq]
        simp only [D.toInt_int]
        have yes : (r.kind = 1 ∨ r.kind = 2 ∨ r.kind = 3 ∨ r.kind = 4) → (3 ≤ r.kind → r.id = 0) → (r.kind = 4 → r.cell = 0) → rightB r = true := fun a b c =>
          (right_iff r).2 ⟨a, ⟨by omega, by omega⟩, ⟨by omega, by omega⟩, ⟨by omega, by omega⟩, by omega, b, c, as, rc, lks⟩
        refine cutI (fun k => ?_) fun k1 => ?_
        · simp at k; rw [yes (by omega) (by omega) (by omega)]
        refine cutI (fun k => ?_) fun k2 => ?_
        · simp at k; rw [yes (by omega) (by omega) (by omega)]
        refine cutI (fun k => ?_) fun k3 => ?_
        · simp at k
          by_cases i0 : r.id = 0
          · rw [yes (by omega) (fun _ => i0) (by omega), i0]; rfl
          · rw [nr fun R => i0 (R.id0 (by omega))]; simp [i0]
        refine cutI (fun k => ?_) fun k4 => ?_
        · simp at k
          refine cutI (fun i0 => ?_) fun i0 => ?_
          · simp at i0
            by_cases c0 : r.cell = 0
            · rw [yes (by omega) (fun _ => i0) (fun _ => c0), c0]; rfl
            · rw [nr fun R => c0 (R.cell0 k)]; simp [c0]
          · simp at i0
            rw [nr fun R => i0 (R.id0 (by omega))]
        · simp at k1 k2 k3 k4
          rw [nr fun R => by have := R.kind; omega]
      · rw [if_neg ha, nr fun R => ha ?_]
        simp only [List.all_eq_true, lookR, Bool.and_eq_true, kindB_iff, mostB_iff]
        intro l m
        obtain ⟨_, _, c, d, e⟩ := R.looks l m
        exact ⟨c, d, e⟩
    rw [J_answer_Right_2_eq]
    simp only [D.toInt_int, told_eq, bindC, List.length_cons, List.length_nil, List.getD_cons_zero, D.toBool_bool, if_true]
    refine cutI (fun hz => ?_) fun hz => ?_
    · have hz' : ¬ (r.rk = 0 ∧ r.rq = 0 ∧ r.rp = 0 ∧ r.rt = 0 ∧ r.rc = 0 ∧ r.rg = 0) := by
        intro ⟨a, b, c, d, e, f⟩
        simp [a, b, c, d, e, f] at hz
      refine cutF (fun h => nr fun R => ?_) fun k1 => ?_
      · simp at h; exact h (R.rcd.resolve_left hz').1
      refine cutF (fun h => nr fun R => ?_) fun k2 => ?_
      · simp at h; exact h (R.rcd.resolve_left hz').2.1
      refine cutF (fun h => nr fun R => ?_) fun k3 => ?_
      · simp only [Bool.not_eq_true', decide_eq_false_iff_not] at h; exact h (R.rcd.resolve_left hz').2.2
      simp only [bne_iff_ne, ne_eq, Decidable.not_not, Bool.not_eq_true', decide_eq_false_iff_not] at k1 k2 k3
      exact J3 (.inr ⟨k1, k2, k3⟩)
    · exact J3 (.inl (by simpa using hz))
  rw [J_answer_Right_1_eq]
  simp only [D.toInt_int, D.toBool_bool, looks_len]
  have L0 : ∀ {p : Prop}, ¬ decide ((r.looks.length : Int) > 0) = true → r.looks ≠ [] → p := by
    intro p h h'
    replace h := dF h
    have := List.length_pos_iff.2 h'
    omega
  have L1 : decide ((r.looks.length : Int) > 0) = true → r.Right → r.kind = 4 ∧ r.code = 0 := by
    intro h R
    cases e : r.looks with
    | nil => rw [e] at h; simp at h
    | cons x l =>
      have := R.looks x (by rw [e]; exact List.mem_cons_self ..)
      exact ⟨this.1, this.2.1⟩
  refine cutI (fun ha => ?_) fun ha => ?_
  · refine cutF (fun h => nr fun R => ?_) fun k1 => ?_
    · simp at h; exact h (R.asked ha).1
    refine cutF (fun h => nr fun R => ?_) fun k2 => ?_
    · simp at h; exact h (R.asked ha).2
    simp only [bne_iff_ne, ne_eq, Decidable.not_not] at k1 k2
    refine cutI (fun hp => ?_) fun hp => ?_
    · refine cutF (fun h => nr fun R => ?_) fun k3 => ?_
      · simp at h; exact h (L1 hp R).1
      simp only [bne_iff_ne, ne_eq, Decidable.not_not] at k3
      omega
    · exact J2 (fun _ => ⟨k1, k2⟩) fun h => L0 hp h
  · refine cutI (fun hp => ?_) fun hp => ?_
    · refine cutF (fun h => nr fun R => ?_) fun k3 => ?_
      · simp at h; exact h (L1 hp R).1
      refine cutF (fun h => nr fun R => ?_) fun k4 => ?_
      · simp at h; exact h (L1 hp R).2
      simp only [bne_iff_ne, ne_eq, Decidable.not_not] at k3 k4
      exact J2 (fun h => absurd h ha) fun _ => ⟨k3, k4⟩
    · exact J2 (fun h => absurd h ha) fun h => L0 hp h
end Go.Proofs.YtmgpbjennnadhaaGreatDoor.AnsD
