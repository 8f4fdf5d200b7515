/-
  The law CellPaths, on data.
-/
import Derived.Test.YtnaojplgikaeoaaAllE
import Derived.Test.YtnaojplgikaeoaaDat
namespace Go.Proofs.Ytnaojplgikaeoaa.CP
open Go.RowKit Go.Proofs.Ytnaojplgikaeoaa.Eng Go.Proofs.Ytnaojplgikaeoaa Go.Proofs.Ytnaojplgikaeoaa.Dat
set_option linter.unusedVariables false
set_option linter.unusedSimpArgs false
set_option linter.unusedSectionVars false

def over (k : Int) : Prop := 5 ≤ k ∧ k ≤ 8
/-- What an act leaves: an error, or a state with less left. -/
def Did (k : Int) (f : Bool) (g l n m q : Int) (r : List D) : Prop :=
  ∃ (k' : Int) (f' : Bool) (g' l' n' : Int) (e : D), r = [.int k', .bool f', .int g', .int l', .int n', e] ∧ (e.isNil = false ∨ (e = .nil ∧ l' = l - q ∧ g' = g ∧ 0 ≤ l' ∧ n' ≤ m ∧ 0 ≤ n' ∧ (over k → k' = k ∧ f' = f ∧ l' = l ∧ n' = n)))
section
variable (k : Int) (f : Bool) (g l n m : Int) (hl : 0 ≤ l ∧ l ≤ 256) (hn : 0 ≤ n ∧ n ≤ m) (hm : m ≤ 4)
theorem loose_eq (x1 x2 x3 x4 : D) : FX 17 [.int k, x1, x2, x3, x4] = some [.bool (decide (k = 1 ∨ k = 2))] := by
  rw [E_cell_Loose]
  by_cases h1 : k = 1
  · simp [h1]
  · by_cases h2 : k = 2 <;> simp [h1, h2]
theorem held_eq (x1 x2 x3 x4 : D) : FX 16 [.int k, x1, x2, x3, x4] = some [.bool (decide (k = 3 ∨ k = 4))] := by
  rw [E_cell_Held]
  by_cases h1 : k = 3
  · simp [h1]
  · by_cases h2 : k = 4 <;> simp [h1, h2]
theorem over_eq (x1 x2 x3 x4 : D) : FX 7 [.int k, x1, x2, x3, x4] = some [.bool (decide (5 ≤ k ∧ k ≤ 8))] := by
  rw [E_cell_Over]
  by_cases h1 : 5 ≤ k
  · by_cases h2 : k ≤ 8 <;> simp [h1, h2]
  · simp [h1]
theorem ended_eq : ∃ k' f', FX 32 [.int k, .bool f, .int g, .int l, .int n, .int m] = some [.int k', .bool f', .int g, .int l, .int n] := by
  rw [E_cell_ended]
  by_cases h1 : l = 0
  · exact ⟨5, false, by simp [h1]⟩
  by_cases h2 : n ≥ m
  · exact ⟨8, false, by simp [h1, h2]⟩
  · exact ⟨k, f, by simp [h1, h2]⟩
include hl hn hm in
theorem take_did (q : Int) : ∃ r, FX 8 [.int k, .bool f, .int g, .int l, .int n, .int q, .int m] = some r ∧ Did k f g l n m q r := by
  rw [E_cell_Take, loose_eq]
  simp only [bindC, List.length_cons, List.length_nil, if_true, List.getD_cons_zero, D.toBool_bool, D.toInt_int]
  by_cases h0 : k = 1 ∨ k = 2
  · by_cases h1 : q < 1
    · exact ⟨_, by (simp [h0, h1]; try rfl), 0, false, 0, 0, 0, _, rfl, .inl rfl⟩
    by_cases h2 : q > l
    · exact ⟨_, by (simp [h0, h1, h2]; try rfl), 0, false, 0, 0, 0, _, rfl, .inl rfl⟩
    by_cases h3 : n ≥ m
    · exact ⟨_, by (simp [h0, h1, h2, h3]; try rfl), 0, false, 0, 0, 0, _, rfl, .inl rfl⟩
    obtain ⟨k', f', he⟩ := ended_eq k f g (l - q) (n + 1) m
    rw [wrap_small (l - q) (by omega) (by omega), wrap_small (n + 1) (by omega) (by omega), he]
    refine ⟨[.int k', .bool f', .int g, .int (l - q), .int (n + 1), .nil], by simp [h0, h1, h2, h3], k', f', g, l - q, n + 1, .nil, rfl, .inr ⟨rfl, rfl, rfl, by omega, by omega, by omega, ?_⟩⟩
    intro ho; unfold over at ho; omega
  · exact ⟨_, by (simp [h0]; try rfl), 0, false, 0, 0, 0, _, rfl, .inl rfl⟩
include hl hn hm in
theorem release_did (q : Int) : ∃ r, FX 9 [.int k, .bool f, .int g, .int l, .int n, .int q, .int m] = some r ∧ Did k f g l n m q r := by
  have hloosen : ∀ l' n', ∃ k', FX 33 [.int k, .bool f, .int g, .int l', .int n'] = some [.int k', .bool f, .int g, .int l', .int n'] := by
    intro l' n'
    rw [E_cell_loosen]
    by_cases h1 : k = 3
    · exact ⟨1, by simp [h1]⟩
    by_cases h2 : k = 4
    · exact ⟨2, by simp [h2]⟩
    · exact ⟨k, by simp [h1, h2]⟩
  have hend : ∀ l' n', 0 ≤ l' → n' ≤ m → ¬ over k → ∃ r, (bindC (FX 33 [.int k, .bool f, .int g, .int l', .int n']) 5 fun r8 =>
            bindC (FX 32 [(r8.getD 0 D.nil), (r8.getD 1 D.nil), (r8.getD 2 D.nil), (r8.getD 3 D.nil), (r8.getD 4 D.nil), .int m]) 5 fun r13 =>
            if ((r13.getD 1 D.nil)).toBool = true then
            some [(D.int (6 : Int)), (D.bool false), (r13.getD 2 D.nil), (r13.getD 3 D.nil), (r13.getD 4 D.nil), D.nil]
            else
            some [(r13.getD 0 D.nil), (r13.getD 1 D.nil), (r13.getD 2 D.nil), (r13.getD 3 D.nil), (r13.getD 4 D.nil), D.nil]) = some r ∧ ∃ k' f', r = [.int k', .bool f', .int g, .int l', .int n', .nil] := by
    intro l' n' h1 h2 h3
    obtain ⟨k1, e1⟩ := hloosen l' n'
    obtain ⟨k2, f2, e2⟩ := ended_eq k1 f g l' n' m
    simp only [e1, bindC, List.length_cons, List.length_nil, if_true, List.getD_cons_zero, List.getD_cons_succ, e2, D.toBool_bool]
    cases f2
    · exact ⟨_, rfl, k2, false, rfl⟩
    · exact ⟨_, rfl, 6, false, rfl⟩
  rw [E_cell_Release, held_eq]
  simp only [bindC, List.length_cons, List.length_nil, if_true, List.getD_cons_zero, D.toBool_bool, D.toInt_int]
  by_cases h0 : k = 3 ∨ k = 4
  · have hno : ¬ over k := by unfold over; omega
    by_cases h1 : q < 0
    · exact ⟨_, by (simp [h0, h1]; try rfl), 0, false, 0, 0, 0, _, rfl, .inl rfl⟩
    by_cases h2 : q > l
    · exact ⟨_, by (simp [h0, h1, h2]; try rfl), 0, false, 0, 0, 0, _, rfl, .inl rfl⟩
    by_cases h3 : q > 0
    · by_cases h4 : n ≥ m
      · exact ⟨_, by (simp [h0, h1, h2, h3, h4]; try rfl), 0, false, 0, 0, 0, _, rfl, .inl rfl⟩
      · obtain ⟨r, e1, k', f', e2⟩ := hend (l - q) (n + 1) (by omega) (by omega) hno
        rw [wrap_small (l - q) (by omega) (by omega), wrap_small (n + 1) (by omega) (by omega)]
        refine ⟨r, ?_, k', f', g, l - q, n + 1, .nil, e2, .inr ⟨rfl, rfl, rfl, by omega, by omega, by omega, fun ho => absurd ho hno⟩⟩
        simp only [h0, h1, h2, h3, h4, decide_true, decide_false, Bool.not_true, Bool.false_eq_true, if_false, if_true]
        exact e1
    · obtain ⟨r, e1, k', f', e2⟩ := hend l n (by omega) (by omega) hno
      refine ⟨r, ?_, k', f', g, l, n, .nil, e2, .inr ⟨rfl, by omega, rfl, by omega, by omega, by omega, fun ho => absurd ho hno⟩⟩
      simp only [h0, h1, h2, h3, decide_true, decide_false, Bool.not_true, Bool.false_eq_true, if_false, if_true]
      exact e1
  · exact ⟨_, by (simp [h0]; try rfl), 0, false, 0, 0, 0, _, rfl, .inl rfl⟩
include hl hn hm in
theorem others_did : (∃ r, FX 10 [.int k, .bool f, .int g, .int l, .int n] = some r ∧ Did k f g l n m 0 r) ∧ (∃ r, FX 11 [.int k, .bool f, .int g, .int l, .int n] = some r ∧ Did k f g l n m 0 r) ∧
    (∃ r, FX 12 [.int k, .bool f, .int g, .int l, .int n] = some r ∧ Did k f g l n m 0 r) ∧ ∃ r, FX 14 [.int k, .bool f, .int g, .int l, .int n] = some r ∧ r.length = 5 ∧ Did k f g l n m 0 (r ++ [.nil]) := by
  refine ⟨?_, ?_, ?_, ?_⟩
  · rw [E_cell_Cancel]
    by_cases h1 : k = 1
    · exact ⟨_, by (simp [h1]; try rfl), 6, f, g, l, n, _, rfl, .inr ⟨rfl, by omega, rfl, by omega, by omega, by omega, fun ho => by unfold over at ho; omega⟩⟩
    by_cases h2 : k = 2
    · exact ⟨_, by (simp [h2]; try rfl), 6, f, g, l, n, _, rfl, .inr ⟨rfl, by omega, rfl, by omega, by omega, by omega, fun ho => by unfold over at ho; omega⟩⟩
    by_cases h3 : k = 3
    · exact ⟨_, by (simp [h3]; try rfl), 3, true, g, l, n, _, rfl, .inr ⟨rfl, by omega, rfl, by omega, by omega, by omega, fun ho => by unfold over at ho; omega⟩⟩
    by_cases h4 : k = 4
    · exact ⟨_, by (simp [h4]; try rfl), 4, true, g, l, n, _, rfl, .inr ⟨rfl, by omega, rfl, by omega, by omega, by omega, fun ho => by unfold over at ho; omega⟩⟩
    · exact ⟨_, by (simp [h1, h2, h3, h4]; try rfl), 0, false, 0, 0, 0, _, rfl, .inl rfl⟩
  · rw [E_cell_Expire, loose_eq]
    by_cases h0 : k = 1 ∨ k = 2
    · exact ⟨_, by (simp [h0, bindC]; try rfl), 7, f, g, l, n, _, rfl, .inr ⟨rfl, by omega, rfl, by omega, by omega, by omega, fun ho => by unfold over at ho; omega⟩⟩
    · exact ⟨_, by (simp [h0, bindC]; try rfl), 0, false, 0, 0, 0, _, rfl, .inl rfl⟩
  · rw [E_cell_Promote]
    by_cases h1 : k = 1
    · exact ⟨_, by (simp [h1]; try rfl), 2, f, g, l, n, _, rfl, .inr ⟨rfl, by omega, rfl, by omega, by omega, by omega, fun ho => by unfold over at ho; omega⟩⟩
    · exact ⟨_, by (simp [h1]; try rfl), 0, false, 0, 0, 0, _, rfl, .inl rfl⟩
  · rw [E_cell_Hold]
    by_cases h1 : k = 1
    · exact ⟨_, by (simp [h1]; try rfl), rfl, 3, f, g, l, n, _, rfl, .inr ⟨rfl, by omega, rfl, by omega, by omega, by omega, fun ho => by unfold over at ho; omega⟩⟩
    by_cases h2 : k = 2
    · exact ⟨_, by (simp [h2]; try rfl), rfl, 4, f, g, l, n, _, rfl, .inr ⟨rfl, by omega, rfl, by omega, by omega, by omega, fun ho => by unfold over at ho; omega⟩⟩
    · exact ⟨_, by (simp [h1, h2]; try rfl), rfl, k, f, g, l, n, _, rfl, .inr ⟨rfl, by omega, rfl, by omega, by omega, by omega, fun ho => ⟨rfl, rfl, rfl, rfl⟩⟩⟩
end
theorem awake_eq : FX 13 [] = some [.bool true] := by
  have l0 : IntKind.i64.wrap 0 = 0 := rfl
  have l1 : IntKind.i64.wrap 1 = 1 := rfl
  have a1 : FX 32 [.int 2, .bool false, .int 1, .int 0, .int 1, .int 3] = some [.int 5, .bool false, .int 1, .int 0, .int 1] := by rw [E_cell_ended]; simp
  have a2 : FX 33 [.int 4, .bool true, .int 1, .int 5, .int 0] = some [.int 2, .bool true, .int 1, .int 5, .int 0] := by rw [E_cell_loosen]; simp
  have a3 : FX 32 [.int 2, .bool true, .int 1, .int 5, .int 0, .int 3] = some [.int 2, .bool true, .int 1, .int 5, .int 0] := by rw [E_cell_ended]; simp
  have a4 : FX 8 [.int 2, .bool false, .int 1, .int 5, .int 0, .int 5, .int 3] = some [.int 5, .bool false, .int 1, .int 0, .int 1, .nil] := by
    rw [E_cell_Take, loose_eq]; simp [bindC, l0, l1, a1]
  have a5 : FX 9 [.int 4, .bool true, .int 1, .int 5, .int 0, .int 0, .int 3] = some [.int 6, .bool false, .int 1, .int 5, .int 0, .nil] := by
    rw [E_cell_Release, held_eq]; simp [bindC, a2, a3]
  rw [E_law06_awake, a4, a5]
  simp [bindC]
section
variable (Q fi : Int) (hQ : 0 ≤ Q ∧ Q ≤ 255) (hfi : 0 ≤ fi ∧ fi ≤ 255) (xs : List Int) (x3 x4 x5 x6 x7 x8 : D)
def most (fi : Int) : Int := 1 + fi % 4
include hfi in
theorem most_eq : IntKind.i64.wrap (1 + IntKind.i64.wrap (Int.tmod fi 4)) = most fi ∧ 1 ≤ most fi ∧ most fi ≤ 4 := by
  unfold most
  rw [Int.tmod_eq_emod_of_nonneg (by omega), wrap_small (fi % 4) (by omega) (by omega), wrap_small _ (by omega) (by omega)]
  omega
include hQ in
theorem qty_eq : IntKind.i64.wrap (1 + IntKind.i64.wrap Q) = 1 + Q := by
  rw [wrap_small Q (by omega) (by omega), wrap_small _ (by omega) (by omega)]
/-- What stays true. -/
def Inv (Q fi t g l n : Int) : Prop := l + t = 1 + Q ∧ 0 ≤ l ∧ 0 ≤ t ∧ n ≤ most fi ∧ 0 ≤ n ∧ g = 1
include hQ hfi in
/-- The checks behind an act that was done. -/
theorem checks (x2 x10 x21 x22 : D) (t t' k g l n k' g' l' n' : Int) (f f' : Bool) (g0 g1 : Eng.Fn) (hi : l' + t' = 1 + Q ∧ 0 ≤ l' ∧ 0 ≤ t' ∧ n' ≤ most fi ∧ g' = 1) (ho : over k → k' = k ∧ f' = f ∧ g' = g ∧ l' = l ∧ n' = n) :
    J_law06_CellPaths_4 (.int Q) (.int fi) x2 x3 x4 x5 x6 x7 x8 (.int t) x10 (.int k) (.bool f) (.int g) (.int l) (.int n) (.int k') (.bool f') (.int g') (.int l') (.int n') x21 x22 g0 g1 [.int t'] = g1 [.int k', .bool f', .int g', .int l', .int n', .int t'] := by
  obtain ⟨m1, m2, m3⟩ := most_eq fi hfi
  have q1 := qty_eq Q hQ
  obtain ⟨i1, i2, i3, i4, i5⟩ := hi
  rw [J_law06_CellPaths_4_eq, over_eq]
  simp only [bindC, List.length_cons, List.length_nil, if_true, List.getD_cons_zero, D.toBool_bool, D.toInt_int, m1, q1]
  rw [wrap_small (l' + t') (by omega) (by omega)]
  have b1 : (l' + t' != 1 + Q) = false := by simpa using i1
  have b2 : ¬ n' > most fi := by omega
  have b3 : ¬ l' < 0 := by omega
  have b4 : (g' != 1) = false := by simpa using i5
  by_cases h : 5 ≤ k ∧ k ≤ 8
  · obtain ⟨rfl, rfl, rfl, rfl, rfl⟩ := ho h
    simp only [h, and_self, decide_true, if_true, beq_self_eq_true, D.toBool_bool, Bool.not_true, Bool.false_eq_true, if_false, b1, b2, b3, b4, decide_false]
  · simp only [h, decide_false, Bool.false_eq_true, if_false, b1, b2, b3, b4]
/-- How far an act counts. -/
def cnt (a q : Int) : Int := if a % 8 < 2 ∨ a % 8 = 3 ∨ a % 8 = 4 then q else 0
include hQ hfi in
theorem after (x2 : List D) (i : Nat) (a : Int) (ha : x2.getD i .nil = .int a) (ha0 : 0 ≤ a) (t k g l n q : Int) (f : Bool) (g0 : Eng.Fn) (hinv : Inv Q fi t g l n) (hq : 0 ≤ q ∧ q ≤ 19) {r : List D} (hd : Did k f g l n (most fi) (cnt a q) r)
    (G : Int → Bool → Int → Int → Int → Int → Option (List D)) (hG : ∀ k' f' g' l' n' t', g0 [.int t', .int (IntKind.i64.wrap ((i : Int) + 1)), .int k', .bool f', .int g', .int l', .int n'] = G k' f' g' l' n' t') :
    ∃ k' f' g' l' n' t' e, r = [.int k', .bool f', .int g', .int l', .int n', e] ∧ (J_law06_CellPaths_3 (.int Q) (.int fi) (.agg x2) x3 x4 x5 x6 x7 x8 (.int t) (.int i) (.int k) (.bool f) (.int g) (.int l) (.int n) g0
      (J_law06_CellPaths_2 (.int Q) (.int fi) (.agg x2) x3 x4 x5 x6 x7 x8 (.int t) (.int i) (.int k) (.bool f) (.int g) (.int l) (.int n) g0) [.int k', .bool f', .int g', .int l', .int n', .int q, e] = (if e.isNil then G k' f' g' l' n' t' else G k f g l n t)) ∧ (e.isNil = true → Inv Q fi t' g' l' n') := by
  obtain ⟨k', f', g', l', n', e, rfl, h⟩ := hd
  obtain ⟨i1, i2, i3, i4, i5, i6⟩ := hinv
  have hJ2 : ∀ k' f' g' l' n' t', J_law06_CellPaths_2 (.int Q) (.int fi) (.agg x2) x3 x4 x5 x6 x7 x8 (.int t) (.int i) (.int k) (.bool f) (.int g) (.int l) (.int n) g0 [.int k', .bool f', .int g', .int l', .int n', .int t'] = G k' f' g' l' n' t' := by
    intro k' f' g' l' n' t'
    rw [J_law06_CellPaths_2_eq]
    exact hG k' f' g' l' n' t'
  have hmod : Int.tmod a 8 = a % 8 := Int.tmod_eq_emod_of_nonneg ha0
  rcases h with he | ⟨rfl, h1, h2, h3, h4, hn0, h5⟩
  · refine ⟨k', f', g', l', n', t, e, rfl, ?_, fun hh => by rw [he] at hh; cases hh⟩
    rw [J_law06_CellPaths_3_eq]
    simp only [he, Bool.not_false, if_true, hJ2, Bool.false_eq_true, if_false]
  · unfold cnt at h1
    by_cases hc : a % 8 < 2 ∨ a % 8 = 3 ∨ a % 8 = 4
    · rw [if_pos hc] at h1
      refine ⟨k', f', g', l', n', t + q, .nil, rfl, ?_, fun _ => ⟨by omega, by omega, by omega, by omega, hn0, by omega⟩⟩
      have hch := checks Q fi hQ hfi x3 x4 x5 x6 x7 x8 (.agg x2) (.int i) (.int q) .nil t (t + q) k g l n k' g' l' n' f f' g0
        (J_law06_CellPaths_2 (.int Q) (.int fi) (.agg x2) x3 x4 x5 x6 x7 x8 (.int t) (.int i) (.int k) (.bool f) (.int g) (.int l) (.int n) g0) ⟨by omega, by omega, by omega, by omega, by omega⟩ (fun ho => ⟨(h5 ho).1, (h5 ho).2.1, h2, (h5 ho).2.2.1, (h5 ho).2.2.2⟩)
      rw [J_law06_CellPaths_3_eq]
      simp only [D.isNil_nil, Bool.not_true, Bool.false_eq_true, if_false, D.toInt_int, D.toL_agg, Int.toNat_natCast, ha, hmod, if_true]
      rw [wrap_small (t + q) (by omega) (by omega), hch, hJ2]
      by_cases c1 : a % 8 < 2
      · simp [c1]
      · by_cases c2 : a % 8 = 3
        · simp [c2]
        · by_cases c3 : a % 8 = 4
          · simp [c3]
          · omega
    · rw [if_neg hc] at h1
      refine ⟨k', f', g', l', n', t, .nil, rfl, ?_, fun _ => ⟨by omega, by omega, by omega, by omega, hn0, by omega⟩⟩
      have hch := checks Q fi hQ hfi x3 x4 x5 x6 x7 x8 (.agg x2) (.int i) (.int q) .nil t t k g l n k' g' l' n' f f' g0
        (J_law06_CellPaths_2 (.int Q) (.int fi) (.agg x2) x3 x4 x5 x6 x7 x8 (.int t) (.int i) (.int k) (.bool f) (.int g) (.int l) (.int n) g0) ⟨by omega, by omega, by omega, by omega, by omega⟩ (fun ho => ⟨(h5 ho).1, (h5 ho).2.1, h2, (h5 ho).2.2.1, (h5 ho).2.2.2⟩)
      have c1 : ¬ a % 8 < 2 := by omega
      have c2 : (a % 8 == 3) = false := by simp; omega
      have c3 : (a % 8 == 4) = false := by simp; omega
      rw [J_law06_CellPaths_3_eq]
      simp only [D.isNil_nil, Bool.not_true, Bool.false_eq_true, if_false, D.toInt_int, D.toL_agg, Int.toNat_natCast, ha, hmod, c1, c2, c3, decide_false, hch, hJ2, if_true]
include hQ hfi in
theorem step (xl : List D) (i : Nat) (a : Int) (hlt : i < xl.length) (hlen : xl.length ≤ 100) (ha : xl.getD i .nil = .int a) (ha0 : 0 ≤ a ∧ a ≤ 65535) (t k g l n : Int) (f : Bool) (hinv : Inv Q fi t g l n) (R : Option (List D))
    (hG : ∀ k' f' g' l' n' t', Inv Q fi t' g' l' n' → W_law06_CellPaths_1 (.int Q) (.int fi) (.agg xl) x3 x4 x5 x6 x7 x8 [.int t', .int ((i + 1 : Nat) : Int), .int k', .bool f', .int g', .int l', .int n'] = R) :
    W_law06_CellPaths_1 (.int Q) (.int fi) (.agg xl) x3 x4 x5 x6 x7 x8 [.int t, .int i, .int k, .bool f, .int g, .int l, .int n] = R := by
  obtain ⟨m1, m2, m3⟩ := most_eq fi hfi
  have hinv' := hinv
  obtain ⟨i1, i2, i3, i4, i5, i6⟩ := hinv'
  have hw : IntKind.i64.wrap ((i : Int) + 1) = ((i + 1 : Nat) : Int) := by rw [wrap_small _ (by omega) (by omega)]; omega
  have hmod : Int.tmod a 8 = a % 8 := Int.tmod_eq_emod_of_nonneg ha0.1
  have hmod2 : IntKind.i64.wrap (Int.tmod a 2) = a % 2 := by rw [Int.tmod_eq_emod_of_nonneg ha0.1, wrap_small _ (by omega) (by omega)]
  obtain ⟨q, hq, hq0⟩ : ∃ q, Int.tmod (IntKind.i64.wrap (IntKind.u16.wrap (Int.tdiv a 8))) 20 = q ∧ 0 ≤ q ∧ q ≤ 19 := by
    refine ⟨_, rfl, ?_⟩
    have e1 : Int.tdiv a 8 = a / 8 := Int.tdiv_eq_ediv_of_nonneg ha0.1
    have e2 : IntKind.u16.wrap (a / 8) = a / 8 := by simp [IntKind.wrap, IntKind.bits, IntKind.signed]; omega
    rw [e1, e2, wrap_small _ (by omega) (by omega), Int.tmod_eq_emod_of_nonneg (by omega)]
    omega
  have h1 : (i : Int) < (xl.length : Int) := by omega
  have h2 : (i : Int) ≥ 0 := by omega
  rw [W_law06_CellPaths_1_eq]
  simp only [D.toInt_int, D.toL_agg, h1, h2, decide_true, if_true, Int.toNat_natCast, ha, hmod]
  have fin : ∀ (g0 : Eng.Fn) (c : Int) (r : List D), g0 = W_law06_CellPaths_1 (.int Q) (.int fi) (.agg xl) x3 x4 x5 x6 x7 x8 → 0 ≤ c ∧ c ≤ 19 → Did k f g l n (most fi) (cnt a c) r →
      ∃ k' f' g' l' n' e, r = [.int k', .bool f', .int g', .int l', .int n', e] ∧ J_law06_CellPaths_3 (.int Q) (.int fi) (.agg xl) x3 x4 x5 x6 x7 x8 (.int t) (.int i) (.int k) (.bool f) (.int g) (.int l) (.int n) g0
        (J_law06_CellPaths_2 (.int Q) (.int fi) (.agg xl) x3 x4 x5 x6 x7 x8 (.int t) (.int i) (.int k) (.bool f) (.int g) (.int l) (.int n) g0) [.int k', .bool f', .int g', .int l', .int n', .int c, e] = R := by
    intro g0 c r hg hc hd
    obtain ⟨k', f', g', l', n', t', e, e1, e2, e3⟩ := after Q fi hQ hfi x3 x4 x5 x6 x7 x8 xl i a ha ha0.1 t k g l n c f g0 hinv hc hd (fun k' f' g' l' n' t' => g0 [.int t', .int ((i + 1 : Nat) : Int), .int k', .bool f', .int g', .int l', .int n']) (fun k' f' g' l' n' t' => by rw [hw])
    refine ⟨k', f', g', l', n', e, e1, e2.trans ?_⟩
    subst hg
    by_cases he : e.isNil = true
    · rw [if_pos he]; exact hG _ _ _ _ _ _ (e3 he)
    · rw [if_neg he]; exact hG _ _ _ _ _ _ hinv
  have five : ∀ b : Bool, (b = true ↔ (a % 8 = 0 ∨ a % 8 = 1)) → J_law06_CellPaths_5 (.int Q) (.int fi) (.agg xl) x3 x4 x5 x6 x7 x8 (.int t) (.int i) (.int k) (.bool f) (.int g) (.int l) (.int n) (W_law06_CellPaths_1 (.int Q) (.int fi) (.agg xl) x3 x4 x5 x6 x7 x8)
      (J_law06_CellPaths_2 (.int Q) (.int fi) (.agg xl) x3 x4 x5 x6 x7 x8 (.int t) (.int i) (.int k) (.bool f) (.int g) (.int l) (.int n) (W_law06_CellPaths_1 (.int Q) (.int fi) (.agg xl) x3 x4 x5 x6 x7 x8))
      (J_law06_CellPaths_3 (.int Q) (.int fi) (.agg xl) x3 x4 x5 x6 x7 x8 (.int t) (.int i) (.int k) (.bool f) (.int g) (.int l) (.int n) (W_law06_CellPaths_1 (.int Q) (.int fi) (.agg xl) x3 x4 x5 x6 x7 x8)
        (J_law06_CellPaths_2 (.int Q) (.int fi) (.agg xl) x3 x4 x5 x6 x7 x8 (.int t) (.int i) (.int k) (.bool f) (.int g) (.int l) (.int n) (W_law06_CellPaths_1 (.int Q) (.int fi) (.agg xl) x3 x4 x5 x6 x7 x8))) [.bool b] = R := by
    intro b hb
    obtain ⟨d1, d2, d3, d4⟩ := others_did k f g l n (most fi) ⟨by omega, by omega⟩ ⟨i5, i4⟩ m3
    rw [J_law06_CellPaths_5_eq]
    simp only [D.toInt_int, D.toL_agg, D.toBool_bool, Int.toNat_natCast, ha, hmod, hq, m1]
    cases b with
    | true =>
      have hc := hb.1 rfl
      obtain ⟨r, r1, r2⟩ := take_did k f g l n (most fi) ⟨by omega, by omega⟩ ⟨i5, i4⟩ m3 q
      have hcn : cnt a q = q := by unfold cnt; rw [if_pos (by omega)]
      obtain ⟨k', f', g', l', n', e, rfl, hr⟩ := fin _ q r rfl hq0 (by rw [hcn]; exact r2)
      simp only [if_true, r1, bindC, List.length_cons, List.length_nil, List.getD_cons_zero, List.getD_cons_succ]
      exact hr
    | false =>
      have hc : ¬ (a % 8 = 0 ∨ a % 8 = 1) := fun h => by have := hb.2 h; cases this
      simp only [Bool.false_eq_true, if_false]
      by_cases c2 : a % 8 = 2
      · obtain ⟨r, r1, r3, r2⟩ := d4
        have hcn : cnt a q = 0 := by unfold cnt; rw [if_neg (by omega)]
        obtain ⟨k', f', g', l', n', e, he, hr⟩ := fin _ q (r ++ [.nil]) rfl hq0 (by rw [hcn]; exact r2)
        match r, r3, he with
        | [y0, y1, y2, y3, y4], _, he =>
          simp only [List.cons_append, List.nil_append, List.cons.injEq, and_true] at he
          obtain ⟨rfl, rfl, rfl, rfl, rfl, rfl⟩ := he
          simp only [c2, beq_self_eq_true, if_true, r1, bindC, List.length_cons, List.length_nil, List.getD_cons_zero, List.getD_cons_succ]
          exact hr
      · have six : ∀ b' : Bool, (b' = true ↔ (a % 8 = 3 ∨ a % 8 = 4)) → J_law06_CellPaths_6 (.int Q) (.int fi) (.agg xl) x3 x4 x5 x6 x7 x8 (.int t) (.int i) (.int k) (.bool f) (.int g) (.int l) (.int n) (.bool false) (W_law06_CellPaths_1 (.int Q) (.int fi) (.agg xl) x3 x4 x5 x6 x7 x8)
            (J_law06_CellPaths_2 (.int Q) (.int fi) (.agg xl) x3 x4 x5 x6 x7 x8 (.int t) (.int i) (.int k) (.bool f) (.int g) (.int l) (.int n) (W_law06_CellPaths_1 (.int Q) (.int fi) (.agg xl) x3 x4 x5 x6 x7 x8))
            (J_law06_CellPaths_3 (.int Q) (.int fi) (.agg xl) x3 x4 x5 x6 x7 x8 (.int t) (.int i) (.int k) (.bool f) (.int g) (.int l) (.int n) (W_law06_CellPaths_1 (.int Q) (.int fi) (.agg xl) x3 x4 x5 x6 x7 x8)
              (J_law06_CellPaths_2 (.int Q) (.int fi) (.agg xl) x3 x4 x5 x6 x7 x8 (.int t) (.int i) (.int k) (.bool f) (.int g) (.int l) (.int n) (W_law06_CellPaths_1 (.int Q) (.int fi) (.agg xl) x3 x4 x5 x6 x7 x8))) [.bool b'] = R := by
          intro b' hb'
          rw [J_law06_CellPaths_6_eq]
          simp only [D.toInt_int, D.toL_agg, D.toBool_bool, Int.toNat_natCast, ha, hmod, hmod2, hq, m1]
          cases b' with
          | true =>
            have hc' := hb'.1 rfl
            have hqq : 0 ≤ q * (a % 2) ∧ q * (a % 2) ≤ 19 := by
              have : a % 2 = 0 ∨ a % 2 = 1 := by omega
              rcases this with h | h <;> rw [h] <;> omega
            rw [wrap_small (q * (a % 2)) (by omega) (by omega)]
            obtain ⟨r, r1, r2⟩ := release_did k f g l n (most fi) ⟨by omega, by omega⟩ ⟨i5, i4⟩ m3 (q * (a % 2))
            have hcn : cnt a (q * (a % 2)) = q * (a % 2) := by unfold cnt; rw [if_pos (by omega)]
            obtain ⟨k', f', g', l', n', e, rfl, hr⟩ := fin _ (q * (a % 2)) r rfl hqq (by rw [hcn]; exact r2)
            simp only [if_true, r1, bindC, List.length_cons, List.length_nil, List.getD_cons_zero, List.getD_cons_succ]
            exact hr
          | false =>
            have hc' : ¬ (a % 8 = 3 ∨ a % 8 = 4) := fun h => by have := hb'.2 h; cases this
            have hcn : cnt a q = 0 := by unfold cnt; rw [if_neg (by omega)]
            simp only [Bool.false_eq_true, if_false]
            by_cases c5 : a % 8 = 5
            · obtain ⟨r, r1, r2⟩ := d1
              obtain ⟨k', f', g', l', n', e, rfl, hr⟩ := fin _ q r rfl hq0 (by rw [hcn]; exact r2)
              simp only [c5, beq_self_eq_true, if_true, r1, bindC, List.length_cons, List.length_nil, List.getD_cons_zero, List.getD_cons_succ]
              exact hr
            · have b5 : (a % 8 == 5) = false := by simpa using c5
              by_cases c6 : a % 8 = 6
              · obtain ⟨r, r1, r2⟩ := d2
                obtain ⟨k', f', g', l', n', e, rfl, hr⟩ := fin _ q r rfl hq0 (by rw [hcn]; exact r2)
                simp only [b5, Bool.false_eq_true, if_false, c6, beq_self_eq_true, if_true, r1, bindC, List.length_cons, List.length_nil, List.getD_cons_zero, List.getD_cons_succ]
                exact hr
              · have b6 : (a % 8 == 6) = false := by simpa using c6
                obtain ⟨r, r1, r2⟩ := d3
                obtain ⟨k', f', g', l', n', e, rfl, hr⟩ := fin _ q r rfl hq0 (by rw [hcn]; exact r2)
                simp only [b5, b6, Bool.false_eq_true, if_false, if_true, r1, bindC, List.length_cons, List.length_nil, List.getD_cons_zero, List.getD_cons_succ]
                exact hr
        have b2 : (a % 8 == 2) = false := by simpa using c2
        simp only [b2, Bool.false_eq_true, if_false]
        by_cases c3 : a % 8 = 3
        · simp only [c3, beq_self_eq_true, if_true]
          exact six true (by simp [c3])
        · have b3 : (a % 8 == 3) = false := by simpa using c3
          simp only [b3, Bool.false_eq_true, if_false]
          refine six (a % 8 == 4) ?_
          simp [c3]
  by_cases c0 : a % 8 = 0
  · simp only [c0, beq_self_eq_true, if_true]
    exact five true (by simp [c0])
  · have b0 : (a % 8 == 0) = false := by simpa using c0
    simp only [b0, Bool.false_eq_true, if_false]
    refine five (a % 8 == 1) ?_
    simp [c0]
include hQ hfi in
theorem loop (xs : List Int) (hx : ∀ a ∈ xs, 0 ≤ a ∧ a ≤ 65535) (hlen : xs.length ≤ 100) : ∀ (d i : Nat), i + d = xs.length → ∀ (t k g l n : Int) (f : Bool), Inv Q fi t g l n →
    W_law06_CellPaths_1 (.int Q) (.int fi) (.agg (xs.map D.int)) x3 x4 x5 x6 x7 x8 [.int t, .int i, .int k, .bool f, .int g, .int l, .int n] = some [.bool true]
  | 0, i, h, t, k, g, l, n, f, hinv => by
    have hno : ¬ (i : Int) < ((xs.map D.int).length : Int) := by simp; omega
    rw [W_law06_CellPaths_1_eq]
    simp only [D.toInt_int, D.toL_agg, hno, decide_false, Bool.false_eq_true, if_false, awake_eq, bindC, List.length_cons, List.length_nil, if_true, List.getD_cons_zero]
  | d + 1, i, h, t, k, g, l, n, f, hinv => by
    have hi : i < xs.length := by omega
    refine step Q fi hQ hfi x3 x4 x5 x6 x7 x8 (xs.map D.int) i xs[i] (by simpa using hi) (by simpa using hlen) ?_ (hx _ (List.getElem_mem hi)) t k g l n f hinv _ ?_
    · rw [List.getD_eq_getElem?_getD, List.getElem?_map, List.getElem?_eq_getElem hi]; rfl
    · intro k' f' g' l' n' t' hinv'
      exact loop xs hx hlen d (i + 1) (by omega) t' k' g' l' n' f' hinv'
end
theorem paths_true (Q fi : Int) (xs : List Int) (w0 : (Lit.int .u8 Q).wf = true) (w1 : (Lit.int .u8 fi).wf = true) (wx : ∀ n ∈ xs, (Lit.int .u16 n).wf = true) (hl : xs.length ≤ 140737488351232) : FX 4 [.int Q, .int fi, .agg (xs.map D.int)] = some [.bool true] := by
  have hQ : 0 ≤ Q ∧ Q ≤ 255 := by simpa [Lit.wf, IntKind.min, IntKind.max, IntKind.bits, IntKind.signed] using w0
  have hfi : 0 ≤ fi ∧ fi ≤ 255 := by simpa [Lit.wf, IntKind.min, IntKind.max, IntKind.bits, IntKind.signed] using w1
  have hx : ∀ a ∈ xs, 0 ≤ a ∧ a ≤ 65535 := fun a ha => by simpa [Lit.wf, IntKind.min, IntKind.max, IntKind.bits, IntKind.signed] using wx a ha
  have hb : FX 18 [.int 0, .bool false, .int 0, .int 0, .int 0, .int (1 + Q), .int 9] = some [.int 1, .bool false, .int 1, .int (1 + Q), .int 0, .nil] := by
    rw [E_cell_Begin, E_cell_Live]
    have h1 : ¬ (1 + Q) < 1 := by omega
    have h2 : ¬ (1 + Q) > 9999 := by omega
    have l1 : IntKind.i64.wrap 1 = 1 := rfl
    simp [bindC, h1, l1]
    omega
  rw [E_law06_CellPaths]
  simp only [D.toInt_int]
  rw [qty_eq Q hQ, hb]
  simp only [bindC, List.length_cons, List.length_nil, if_true, List.getD_cons_zero, List.getD_cons_succ, D.isNil_nil, Bool.not_true, Bool.false_eq_true, if_false, D.toL_agg]
  by_cases h : ((xs.map D.int).length : Int) > 100
  · simp only [h, decide_true, if_true, awake_eq, List.length_cons, List.length_nil, List.getD_cons_zero]
  · simp only [h, decide_false, Bool.false_eq_true, if_false]
    have hh : xs.length ≤ 100 := by simp at h; omega
    have hm := most_eq fi hfi
    exact loop Q fi hQ hfi _ _ _ _ _ _ xs hx hh xs.length 0 (by omega) 0 1 1 (1 + Q) 0 false ⟨by omega, by omega, by omega, by omega, by omega, rfl⟩
end Go.Proofs.Ytnaojplgikaeoaa.CP
