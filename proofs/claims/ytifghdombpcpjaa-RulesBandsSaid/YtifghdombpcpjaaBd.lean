/-
  The law RulesBands, on data.
-/
import Derived.Test.YtifghdombpcpjaaPl
namespace Go.Proofs.Ytifghdombpcpjaa.RU
open Go.RowKit Go.Proofs.Ytifghdombpcpjaa.Eng Go.Proofs.Ytifghdombpcpjaa Go.Proofs.Ytifghdombpcpjaa.Dat
set_option linter.unusedVariables false
set_option linter.unusedSimpArgs false

theorem lits : IntKind.i64.wrap 0 = 0 ∧ IntKind.i64.wrap 1 = 1 ∧ IntKind.i64.wrap 2 = 2 ∧ IntKind.i64.wrap 3 = 3 ∧ IntKind.i64.wrap 4 = 4 ∧ IntKind.i64.wrap 5 = 5 ∧ IntKind.i64.wrap (-1) = -1 := ⟨rfl, rfl, rfl, rfl, rfl, rfl, rfl⟩
section
variable (x : Nf)
/-- A price's band, -1: none. -/
def Nf.band (p : Int) : Int := if p < 1 ∨ 9999 < p then -1 else (p - 1) * x.b / 9999
theorem Nf.band_lt (p : Int) : -1 ≤ x.band p ∧ x.band p < x.b := by
  have hb := x.hb
  unfold Nf.band
  split
  · omega
  · have hc : x.b = 1 ∨ x.b = 2 ∨ x.b = 3 ∨ x.b = 4 := by omega
    rcases hc with h | h | h | h <;> rw [h] <;> omega
theorem Nf.wmul {p : Int} (h1 : 1 ≤ p) (h2 : p ≤ 9999) : IntKind.i64.wrap (IntKind.i64.wrap (p - 1) * (x.b : Int)) = (p - 1) * x.b ∧ 0 ≤ (p - 1) * (x.b : Int) ∧ (p - 1) * (x.b : Int) ≤ 39992 := by
  have hb := x.hb
  rw [wrap_small (p - 1) (by omega) (by omega)]
  have hc : x.b = 1 ∨ x.b = 2 ∨ x.b = 3 ∨ x.b = 4 := by omega
  have hq : 0 ≤ (p - 1) * (x.b : Int) ∧ (p - 1) * (x.b : Int) ≤ 39992 := by
    rcases hc with h | h | h | h <;> rw [h] <;> omega
  exact ⟨wrap_small _ (by omega) (by omega), hq⟩
theorem band_eq (p : Int) : FX 20 (x.cf.ds ++ [.int p]) = some [.int (x.band p)] := by
  unfold Cf.ds Nf.cf
  simp only [List.cons_append, List.nil_append]
  rw [E_rules_Rules_Band]
  simp only [D.toInt_int]
  by_cases h1 : p < 1
  · have hx : x.band p = -1 := by unfold Nf.band; rw [if_pos (.inl h1)]
    simp only [h1, hx, decide_true, if_true]
  by_cases h2 : p > 9999
  · have hx : x.band p = -1 := by unfold Nf.band; rw [if_pos (.inr h2)]
    simp only [h1, h2, hx, decide_false, decide_true, Bool.false_eq_true, if_false, if_true]
  obtain ⟨e1, e2, e3⟩ := x.wmul (p := p) (by omega) (by omega)
  have hx : x.band p = (p - 1) * x.b / 9999 := by unfold Nf.band; rw [if_neg (by omega)]
  simp only [h1, h2, hx, decide_false, Bool.false_eq_true, if_false, e1]
  rw [Int.tdiv_eq_ediv_of_nonneg e2, wrap_small _ (by omega) (by omega)]
theorem refBand_loop (x7 : Int) (h1 : 1 ≤ x7) (h2 : x7 ≤ 9999) : ∀ (k : Nat) (b : Int), 0 ≤ b → b + k = x.band x7 → W_ref05_Band_1 (.int x.p) (.int x.c) (.int x.n) (.int x.b) (.int x.pr) (.int x.f) (.int x.g) (.int x7) [.int b] = some [.int (x.band x7)]
  | 0, b, h0, h => by
    obtain ⟨e1, e2, e3⟩ := x.wmul h1 h2
    have hb : b = (x7 - 1) * x.b / 9999 := by unfold Nf.band at h; rw [if_neg (by omega)] at h; omega
    rw [W_ref05_Band_1_eq]
    simp only [D.toInt_int, e1]
    rw [wrap_small (b + 1) (by omega) (by omega), wrap_small _ (by omega) (by omega)]
    have hno : ¬ (b + 1) * 9999 ≤ (x7 - 1) * (x.b : Int) := by omega
    simp only [hno, decide_false, Bool.false_eq_true, if_false]
    rw [← h]; simp
  | k + 1, b, h0, h => by
    obtain ⟨e1, e2, e3⟩ := x.wmul h1 h2
    have hb : b + (k + 1 : Nat) = (x7 - 1) * x.b / 9999 := by unfold Nf.band at h; rw [if_neg (by omega)] at h; omega
    rw [W_ref05_Band_1_eq]
    simp only [D.toInt_int, e1]
    rw [wrap_small (b + 1) (by omega) (by omega), wrap_small _ (by omega) (by omega)]
    have hno : (b + 1) * 9999 ≤ (x7 - 1) * (x.b : Int) := by omega
    simp only [hno, decide_true, if_true]
    exact refBand_loop x7 h1 h2 k (b + 1) (by omega) (by omega)
theorem refBand_eq (p : Int) : FX 24 (x.cf.ds ++ [.int p]) = some [.int (x.band p)] := by
  have hb := x.band_lt p
  unfold Cf.ds Nf.cf
  simp only [List.cons_append, List.nil_append]
  rw [E_ref05_Band]
  simp only [D.toInt_int]
  by_cases h1 : p < 1
  · have hx : x.band p = -1 := by unfold Nf.band; rw [if_pos (.inl h1)]
    simp only [h1, hx, decide_true, if_true]
  by_cases h2 : p > 9999
  · have hx : x.band p = -1 := by unfold Nf.band; rw [if_pos (.inr h2)]
    simp only [h1, h2, hx, decide_false, decide_true, Bool.false_eq_true, if_false, if_true]
  simp only [h1, h2, decide_false, Bool.false_eq_true, if_false]
  have hge : 0 ≤ x.band p := by
    obtain ⟨e1, e2, e3⟩ := x.wmul (p := p) (by omega) (by omega)
    unfold Nf.band; rw [if_neg (by omega)]; omega
  exact refBand_loop x p (by omega) (by omega) (x.band p).toNat 0 (by omega) (by omega)
/-- The bands that cross. -/
def cl (B q s : Int) : List D :=
  if q < 0 then [] else if s = 0 then (List.range (q + 1).toNat).map fun k : Nat => D.int (k : Int) else if s = 1 then (List.range (B - q).toNat).map fun k : Nat => D.int (B - 1 - (k : Int)) else []
theorem band_cases (p : Int) : ∃ B q : Nat, x.b = B ∧ ((B = 1 ∧ q = 0) ∨ (B = 2 ∧ (q = 0 ∨ q = 1)) ∨ (B = 3 ∧ (q = 0 ∨ q = 1 ∨ q = 2)) ∨ (B = 4 ∧ (q = 0 ∨ q = 1 ∨ q = 2 ∨ q = 3))) ∧ (x.band p = -1 ∨ x.band p = q) := by
  have h1 := x.band_lt p
  have h2 := x.hb
  by_cases h : x.band p = -1
  · exact ⟨x.b, 0, rfl, by omega, .inl h⟩
  · exact ⟨x.b, (x.band p).toNat, rfl, by omega, .inr (by omega)⟩
set_option maxHeartbeats 4000000 in
theorem crossing_eq (s p : Int) : FX 22 (x.cf.ds ++ [.int s, .int p]) = some [.agg (cl x.b (x.band p) s)] ∧ FX 23 (x.cf.ds ++ [.int s, .int p]) = some [.agg (cl x.b (x.band p) s)] := by
  have h1 := band_eq x p
  have h2 := refBand_eq x p
  obtain ⟨l0, l1, l2, l3, l4, l5, lm⟩ := lits
  unfold Cf.ds Nf.cf at *
  simp only [List.cons_append, List.nil_append] at *
  rw [E_rules_Rules_Crossing, E_ref05_Crosses, h1, h2]
  simp only [D.toInt_int, bindC, List.length_cons, List.length_nil, if_true, List.getD_cons_zero]
  obtain ⟨B, q, hB, hc, hq⟩ := band_cases x p
  rw [hB]
  generalize x.band p = y at *
  rcases hq with rfl | rfl
  · have hb : (B : Int) > 0 := by omega
    refine ⟨by simp [cl], ?_⟩
    rw [W_ref05_Crosses_1_eq]
    simp [cl, hb]
  by_cases h0 : s = 0
  · subst h0
    rcases hc with ⟨rfl, rfl⟩ | ⟨rfl, rfl | rfl⟩ | ⟨rfl, rfl | rfl | rfl⟩ | ⟨rfl, rfl | rfl | rfl | rfl⟩ <;>
    simp [W_rules_Rules_Crossing_1_eq, W_ref05_Crosses_1_eq, cl, l0, l1, l2, l3, l4, l5, lm, List.range_succ]
  by_cases h1' : s = 1
  · subst h1'
    rcases hc with ⟨rfl, rfl⟩ | ⟨rfl, rfl | rfl⟩ | ⟨rfl, rfl | rfl | rfl⟩ | ⟨rfl, rfl | rfl | rfl | rfl⟩ <;>
    simp [W_rules_Rules_Crossing_2_eq, W_ref05_Crosses_1_eq, cl, l0, l1, l2, l3, l4, l5, lm, List.range_succ]
  · rcases hc with ⟨rfl, rfl⟩ | ⟨rfl, rfl | rfl⟩ | ⟨rfl, rfl | rfl | rfl⟩ | ⟨rfl, rfl | rfl | rfl | rfl⟩ <;>
    simp [W_ref05_Crosses_1_eq, cl, l0, l1, l2, l3, l4, l5, lm, h0, h1']
theorem cl_len (B q s : Int) (hB : B ≤ 4) (hq : q < B) : (cl B q s).length ≤ 4 := by
  unfold cl
  split
  · simp
  · split
    · simp; omega
    · split
      · simp; omega
      · simp
set_option maxHeartbeats 4000000 in
theorem low_loop (x0 x1 x2 x3 x4 x5 x6 x7 x17 x18 x19 x20 x21 x22 x23 : D) (p o : Int) (h1 : 1 ≤ o) (h2 : o ≤ p) (h3 : p ≤ 9999) (g0 : Eng.Fn) :
    W_law05_RulesBands_2 x0 x1 x2 x3 x4 x5 x6 x7 (.int p) (.int o) (.int x.p) (.int x.c) (.int x.n) (.int x.b) (.int x.pr) (.int x.f) (.int x.g) x17 x18 x19 x20 x21 x22 x23 (.agg (cl x.b (x.band p) 0)) g0 [.bool false, .int 0] = some [.bool true] := by
  have a1 := band_eq x o
  have a2 := band_eq x p
  have a3 := (crossing_eq x 1 o).1
  have ha := law_awake
  obtain ⟨l0, l1, l2, l3, l4, l5, lm⟩ := lits
  have hB := x.hb
  obtain ⟨e1, e2, e3⟩ := x.wmul (p := p) (by omega) h3
  obtain ⟨f1, f2, f3⟩ := x.wmul (p := o) h1 (by omega)
  have hp : x.band p = (p - 1) * x.b / 9999 := by unfold Nf.band; rw [if_neg (by omega)]
  have ho : x.band o = (o - 1) * x.b / 9999 := by unfold Nf.band; rw [if_neg (by omega)]
  have hle : (o - 1) * (x.b : Int) ≤ (p - 1) * x.b := Int.mul_le_mul_of_nonneg_right (by omega) (by omega)
  have hop : 0 ≤ x.band o ∧ x.band o ≤ x.band p := by rw [hp, ho]; omega
  have hpl := (x.band_lt p).2
  unfold Cf.ds Nf.cf at *
  simp only [List.cons_append, List.nil_append] at *
  generalize x.band p = yp at *
  generalize x.band o = yo at *
  generalize x.b = B at *
  have hB' : B = 1 ∨ B = 2 ∨ B = 3 ∨ B = 4 := by omega
  have hy : yp = 0 ∨ yp = 1 ∨ yp = 2 ∨ yp = 3 := by omega
  have hz : yo = 0 ∨ yo = 1 ∨ yo = 2 ∨ yo = 3 := by omega
  clear hp ho hle e1 e2 e3 f1 f2 f3 hB
  rcases hB' with rfl | rfl | rfl | rfl <;> rcases hy with rfl | rfl | rfl | rfl <;> rcases hz with rfl | rfl | rfl | rfl <;>
  first
  | (exfalso; omega)
  | (simp [cl, List.range_succ] at a1 a2 a3 ⊢
     simp [W_law05_RulesBands_2_eq, W_law05_RulesBands_3_eq, bindC, l0, l1, l2, l3, l4, l5, lm, a1, a2, a3, ha])
theorem same_loop (x0 x1 x2 x3 x4 x5 x6 x7 x8 x9 x10 x11 x12 x13 x14 x15 x16 x17 x18 x21 x22 : D) (l : List D) (hl : l.length ≤ 100) (r : Option (List D))
    (hend : W_law05_RulesBands_1 x0 x1 x2 x3 x4 x5 x6 x7 x8 x9 x10 x11 x12 x13 x14 x15 x16 x17 x18 (.agg l) (.agg l) x21 x22 [.int (l.length : Int)] = r) : ∀ (k i : Nat), i + k = l.length →
    W_law05_RulesBands_1 x0 x1 x2 x3 x4 x5 x6 x7 x8 x9 x10 x11 x12 x13 x14 x15 x16 x17 x18 (.agg l) (.agg l) x21 x22 [.int i] = r
  | 0, i, h => by rw [show i = l.length by omega]; exact hend
  | k + 1, i, h => by
    have h1 : (i : Int) < (l.length : Int) := by omega
    have h2 : (i : Int) ≥ 0 := by omega
    have hw : IntKind.i64.wrap ((i : Int) + 1) = ((i + 1 : Nat) : Int) := by rw [wrap_small _ (by omega) (by omega)]; omega
    have ih := same_loop x0 x1 x2 x3 x4 x5 x6 x7 x8 x9 x10 x11 x12 x13 x14 x15 x16 x17 x18 x21 x22 l hl r hend k (i + 1) (by omega)
    rw [W_law05_RulesBands_1_eq]
    simp only [D.toInt_int, D.toL_agg, h1, h2, decide_true, if_true, bne_self_eq_false, Bool.false_eq_true, if_false, hw, ih]
end
theorem bands_law (c : Cf) (s p o : Int) : FX 6 (c.ds ++ [.int s, .int p, .int o]) = some [.bool true] := by
  have hn := new_eq c
  have hc := check_step c
  have ha := law_awake
  cases hb : firstBad c.lims 0 with
  | none =>
    obtain ⟨x, rfl⟩ := nf_of c ((firstBad_none c).1 hb)
    obtain ⟨k1, k2⟩ := crossing_eq x s p
    have k3 := band_eq x p
    have k4 := refBand_eq x p
    have k5 := (crossing_eq x 0 p).1
    have hB := x.hb
    have hlen := cl_len x.b (x.band p) s (by omega) (x.band_lt p).2
    rw [hb] at hn hc
    have hend : W_law05_RulesBands_1 (.int x.p) (.int x.c) (.int x.n) (.int x.b) (.int x.pr) (.int x.f) (.int x.g) (.int s) (.int p) (.int o) (.int x.p) (.int x.c) (.int x.n) (.int x.b) (.int x.pr) (.int x.f) (.int x.g) .nil (.int (-1)) (.agg (cl x.b (x.band p) s)) (.agg (cl x.b (x.band p) s)) (.int (x.band p)) (.int (x.band p)) [.int ((cl x.b (x.band p) s).length : Int)] = some [.bool true] := by
      have hno : ¬ ((cl x.b (x.band p) s).length : Int) < ((cl x.b (x.band p) s).length : Int) := by omega
      rw [W_law05_RulesBands_1_eq]
      simp only [D.toInt_int, D.toL_agg, hno, decide_false, Bool.false_eq_true, if_false]
      by_cases h1 : p < 1
      · simp [h1, ha, bindC]
      by_cases h2 : p > 9999
      · simp [h1, h2, ha, bindC]
      by_cases h3 : o < 1
      · simp [h1, h2, h3, ha, bindC]
      by_cases h4 : o > p
      · simp [h1, h2, h3, h4, ha, bindC]
      unfold Cf.ds Nf.cf at k5
      simp only [List.cons_append, List.nil_append] at k5
      simp only [h1, h2, h3, h4, decide_false, Bool.false_eq_true, if_false, k5, bindC, List.length_cons, List.length_nil, if_true, List.getD_cons_zero]
      exact low_loop x _ _ _ _ _ _ _ _ _ _ _ _ _ _ _ p o (by omega) (by omega) (by omega) _
    have hs := same_loop _ _ _ _ _ _ _ _ _ _ _ _ _ _ _ _ _ _ _ _ _ _ (by omega) _ hend (cl x.b (x.band p) s).length 0 (by omega)
    unfold Cf.ds Nf.cf at *
    simp only [List.cons_append, List.nil_append] at *
    rw [E_law05_RulesBands]
    have h1 : ¬ ((-1 : Int) ≥ 0) := by omega
    simp only [hn, hc, k1, k2, k3, k4, bindC, List.length_cons, List.length_nil, if_true, List.getD_cons_zero, List.getD_cons_succ, D.toInt_int, D.toL_agg, h1, decide_false, Bool.false_eq_true, if_false, bne_self_eq_false]
    exact hs
  | some q =>
    obtain ⟨j, e⟩ := q
    rw [hb] at hn hc
    unfold Cf.ds at *
    simp only [List.cons_append, List.nil_append] at *
    rw [E_law05_RulesBands]
    have h1 : (j : Int) ≥ 0 := by omega
    simp only [hn, hc, ha, bindC, List.length_cons, List.length_nil, if_true, List.getD_cons_zero, List.getD_cons_succ, D.toInt_int, h1, decide_true, D.toBool_bool, errAt, D.isNil_iface, Bool.not_false]
end Go.Proofs.Ytifghdombpcpjaa.RU
