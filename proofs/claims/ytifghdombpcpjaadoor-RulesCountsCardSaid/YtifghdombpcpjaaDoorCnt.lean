/-
  The law RulesCounts, on data.
-/
import Derived.Test.YtifghdombpcpjaaDoorPlD
import Derived.Test.YtifghdombpcpjaaDoorErrF
import Derived.Test.YtifghdombpcpjaaDoorOpen
import Derived.Test.YtifghdombpcpjaaDoorProg
namespace Go.Proofs.YtifghdombpcpjaaDoor.RU
open Go.RowKit Go.Proofs.YtifghdombpcpjaaDoor.Eng Go.Proofs.YtifghdombpcpjaaDoor Go.Proofs.YtifghdombpcpjaaDoor.Dat
set_option linter.unusedVariables false
set_option linter.unusedSimpArgs false

/-- The number of a pair among P * C, if it is below m. -/
def cv (P C : Nat) (a b : Int) (m : Nat) : Int := if 0 ≤ a ∧ a < P ∧ 0 ≤ b ∧ b < C ∧ a * C + b < m then a * C + b else -1
theorem cv_step {P C : Nat} (hC : 1 ≤ C ∧ C ≤ 4) (a b : Int) {p i : Nat} (hp : p < P) (hi : i < C) : cv P C a b (p * C + i + 1) = if (p : Int) = a ∧ (i : Int) = b then ((p * C + i : Nat) : Int) else cv P C a b (p * C + i) := by
  have : C = 1 ∨ C = 2 ∨ C = 3 ∨ C = 4 := by omega
  unfold cv
  rcases this with rfl | rfl | rfl | rfl <;> (split <;> split <;> (try split) <;> omega)
theorem cv_zero (P C : Nat) (a b : Int) : cv P C a b 0 = -1 := by
  unfold cv
  split
  · rename_i h
    obtain ⟨h1, _, h3, _, h5⟩ := h
    have := Int.mul_nonneg h1 (Int.natCast_nonneg C)
    omega
  · rfl
theorem cv_all {P C : Nat} (hC : 1 ≤ C ∧ C ≤ 4) (a b : Int) : cv P C a b (P * C) = if 0 ≤ a ∧ a < P ∧ 0 ≤ b ∧ b < C then a * C + b else -1 := by
  have : C = 1 ∨ C = 2 ∨ C = 3 ∨ C = 4 := by omega
  unfold cv
  rcases this with rfl | rfl | rfl | rfl <;> (split <;> split <;> omega)
section
variable (x : Nf)
def Nf.sh (x : Nf) : Nat := x.n * x.b
theorem Nf.sh_le : 1 ≤ x.sh ∧ x.sh ≤ 12 := by
  have h1 := Nat.mul_le_mul x.hn.2 x.hb.2
  have h2 := Nat.mul_le_mul x.hn.1 x.hb.1
  unfold Nf.sh; omega
theorem Nf.wsh : IntKind.i64.wrap ((x.n : Int) * (x.b : Int)) = (x.sh : Int) := by
  have := x.sh_le
  rw [show (x.n : Int) * (x.b : Int) = (x.sh : Int) by unfold Nf.sh; exact (Int.natCast_mul ..).symm]
  exact wrap_nat _ (by omega)
theorem all_e : FX 11 [.int x.p, .int x.c, .int x.n, .int x.b, .int x.pr, .int x.f, .int x.g] = some [.int x.all] := all_eq x
theorem sh_e : FX 12 [.int x.p, .int x.c, .int x.n, .int x.b, .int x.pr, .int x.f, .int x.g] = some [.int x.sh] := by
  rw [E_rules_Rules_Shards]
  simp only [D.toInt_int, x.wsh]
theorem agents_e : FX 13 [.int x.p, .int x.c, .int x.n, .int x.b, .int x.pr, .int x.f, .int x.g] = some [.int (IntKind.i64.wrap ((x.p : Int) + IntKind.i64.wrap (2 * (x.sh : Int))))] := by
  rw [E_rules_Rules_Agents]
  simp only [sh_e, bindC, List.length_cons, List.length_nil, if_true, List.getD_cons_zero, D.toInt_int]
theorem words_e : FX 14 [.int x.p, .int x.c, .int x.n, .int x.b, .int x.pr, .int x.f, .int x.g] = some [.int x.total] := by
  have h := x.total_le
  have ha := x.all_le
  have hg := x.hg
  have hf := x.hf
  have h1 : x.all * x.g ≤ 24 * 15 := Nat.mul_le_mul ha.2 hg.2
  have h2 : x.all * x.g * (x.f + 1) ≤ 24 * 15 * 5 := Nat.mul_le_mul h1 (by omega)
  rw [E_rules_Rules_Words]
  simp only [all_e, bindC, List.length_cons, List.length_nil, if_true, List.getD_cons_zero, D.toInt_int]
  rw [show (x.all : Int) * 2 = ((x.all * 2 : Nat) : Int) by omega, wrap_nat (x.all * 2) (by omega), show (x.all : Int) * (x.g : Int) = ((x.all * x.g : Nat) : Int) from (Int.natCast_mul ..).symm, wrap_nat (x.all * x.g) (by omega),
    show (x.f : Int) + 1 = ((x.f + 1 : Nat) : Int) by omega, wrap_nat (x.f + 1) (by omega), show ((x.all * x.g : Nat) : Int) * ((x.f + 1 : Nat) : Int) = ((x.all * x.g * (x.f + 1) : Nat) : Int) from (Int.natCast_mul ..).symm, wrap_nat _ (by omega),
    show ((x.all * 2 : Nat) : Int) + ((x.all * x.g * (x.f + 1) : Nat) : Int) = ((x.total : Nat) : Int) by unfold Nf.total; rw [Int.natCast_add]; omega, wrap_nat _ (by omega)]
theorem divs {c k : Nat} (hc : 1 ≤ c) : IntKind.i64.wrap (Int.tdiv (k : Int) (c : Int)) = IntKind.i64.wrap ((k / c : Nat) : Int) ∧ Int.tmod (k : Int) (c : Int) = ((k % c : Nat) : Int) :=
  ⟨by rw [Int.tdiv_eq_ediv_of_nonneg (Int.natCast_nonneg k)]; rfl, by rw [Int.tmod_eq_emod_of_nonneg (Int.natCast_nonneg k)]; rfl⟩
theorem owner_in {p i : Nat} (hp : p < x.p) (hi : i < x.c) : FX 16 [.int x.p, .int x.c, .int x.n, .int x.b, .int x.pr, .int x.f, .int x.g, .int ((p * x.c + i : Nat) : Int)] = some [.int p] ∧
    FX 17 [.int x.p, .int x.c, .int x.n, .int x.b, .int x.pr, .int x.f, .int x.g, .int ((p * x.c + i : Nat) : Int)] = some [.int i] := by
  have hk : p * x.c + i < x.all := by
    have : (p + 1) * x.c ≤ x.p * x.c := Nat.mul_le_mul_right _ hp
    rw [Nat.add_mul] at this
    unfold Nf.all; omega
  have ha := x.all_le
  obtain ⟨d1, d2⟩ := div_at x.c p i hi
  have hc := x.hc
  have hp' := x.hp
  have h1 : ¬ (((p * x.c + i : Nat) : Int) < 0) := by omega
  have h2 : ¬ (((p * x.c + i : Nat) : Int) ≥ (x.all : Int)) := by omega
  have h3 : ((x.c : Int) != 0) = true := by simp; omega
  obtain ⟨w1, w2⟩ := divs (k := p * x.c + i) hc.1
  rw [d1, wrap_nat _ (by omega)] at w1
  rw [d2] at w2
  rw [E_rules_Rules_Owner, E_rules_Rules_Own]
  simp only [all_e, bindC, List.length_cons, List.length_nil, if_true, List.getD_cons_zero, D.toInt_int, h1, h2, h3, decide_false, Bool.false_eq_true, if_false, w1, w2, and_self]
theorem owner_out {k : Int} (h : k < 0 ∨ (x.all : Int) ≤ k) : FX 16 [.int x.p, .int x.c, .int x.n, .int x.b, .int x.pr, .int x.f, .int x.g, .int k] = some [.int (-1)] ∧
    FX 17 [.int x.p, .int x.c, .int x.n, .int x.b, .int x.pr, .int x.f, .int x.g, .int k] = some [.int (-1)] := by
  rw [E_rules_Rules_Owner, E_rules_Rules_Own]
  by_cases h1 : k < 0
  · simp [h1]
  · have h2 : k ≥ (x.all : Int) := by omega
    simp only [all_e, bindC, List.length_cons, List.length_nil, if_true, List.getD_cons_zero, D.toInt_int, h1, h2, decide_false, decide_true, Bool.false_eq_true, if_false, and_self]
theorem shard_in {p i : Nat} (hp : p < x.n) (hi : i < x.b) : FX 18 [.int x.p, .int x.c, .int x.n, .int x.b, .int x.pr, .int x.f, .int x.g, .int ((p * x.b + i : Nat) : Int)] = some [.int p, .int i] ∧
    FX 19 [.int x.p, .int x.c, .int x.n, .int x.b, .int x.pr, .int x.f, .int x.g, .int ((p * x.b + i : Nat) : Int)] = some [.int (IntKind.i64.wrap ((x.p : Int) + ((p * x.b + i : Nat) : Int)))] ∧
    FX 20 [.int x.p, .int x.c, .int x.n, .int x.b, .int x.pr, .int x.f, .int x.g, .int ((p * x.b + i : Nat) : Int)] = some [.int (IntKind.i64.wrap (IntKind.i64.wrap ((x.p : Int) + (x.sh : Int)) + ((p * x.b + i : Nat) : Int)))] := by
  have hk : p * x.b + i < x.sh := by
    have : (p + 1) * x.b ≤ x.n * x.b := Nat.mul_le_mul_right _ hp
    rw [Nat.add_mul] at this
    unfold Nf.sh; omega
  have ha := x.sh_le
  obtain ⟨d1, d2⟩ := div_at x.b p i hi
  have hb := x.hb
  have hn := x.hn
  have h1 : ¬ (((p * x.b + i : Nat) : Int) < 0) := by omega
  have h2 : ¬ (((p * x.b + i : Nat) : Int) ≥ (x.sh : Int)) := by omega
  have h3 : ((x.b : Int) != 0) = true := by simp; omega
  obtain ⟨w1, w2⟩ := divs (k := p * x.b + i) hb.1
  rw [d1, wrap_nat _ (by omega)] at w1
  rw [d2] at w2
  rw [E_rules_Rules_Parted, E_rules_Rules_Sweeper, E_rules_Rules_Reaper]
  simp only [sh_e, bindC, List.length_cons, List.length_nil, if_true, List.getD_cons_zero, D.toInt_int, h1, h2, h3, decide_false, Bool.false_eq_true, if_false, w1, w2, and_self]
theorem shard_out {k : Int} (h : k < 0 ∨ (x.sh : Int) ≤ k) : FX 18 [.int x.p, .int x.c, .int x.n, .int x.b, .int x.pr, .int x.f, .int x.g, .int k] = some [.int (-1), .int (-1)] ∧
    FX 19 [.int x.p, .int x.c, .int x.n, .int x.b, .int x.pr, .int x.f, .int x.g, .int k] = some [.int (-1)] ∧
    FX 20 [.int x.p, .int x.c, .int x.n, .int x.b, .int x.pr, .int x.f, .int x.g, .int k] = some [.int (-1)] := by
  rw [E_rules_Rules_Parted, E_rules_Rules_Sweeper, E_rules_Rules_Reaper]
  by_cases h1 : k < 0
  · simp [h1]
  · have h2 : k ≥ (x.sh : Int) := by omega
    simp only [sh_e, bindC, List.length_cons, List.length_nil, if_true, List.getD_cons_zero, D.toInt_int, h1, h2, decide_false, decide_true, Bool.false_eq_true, if_false, and_self]
theorem pair_w {P C : Nat} (hP : P ≤ 6) (hC : 1 ≤ C ∧ C ≤ 4) {a b : Int} (h1 : 0 ≤ a) (h2 : a < P) (h3 : 0 ≤ b) (h4 : b < C) : IntKind.i64.wrap (IntKind.i64.wrap (a * C) + b) = a * C + b := by
  have : C = 1 ∨ C = 2 ∨ C = 3 ∨ C = 4 := by omega
  have h5 : 0 ≤ a * C ∧ a * C ≤ 100 := by rcases this with rfl | rfl | rfl | rfl <;> omega
  rw [wrap_small (a * C) (by omega) (by omega), wrap_small _ (by omega) (by omega)]
theorem cell_e (a b : Int) : FX 21 [.int x.p, .int x.c, .int x.n, .int x.b, .int x.pr, .int x.f, .int x.g, .int a, .int b] = some [.int (cv x.p x.c a b (x.p * x.c))] := by
  have hp := x.hp
  rw [E_rules_Rules_Cell, cv_all x.hc]
  simp only [D.toInt_int]
  by_cases h1 : a < 0
  · have hn' : ¬ (0 ≤ a ∧ a < (x.p : Int) ∧ 0 ≤ b ∧ b < (x.c : Int)) := by omega
    simp only [h1, hn', decide_true, if_true, if_false]
  by_cases h2 : a ≥ (x.p : Int)
  · have hn' : ¬ (0 ≤ a ∧ a < (x.p : Int) ∧ 0 ≤ b ∧ b < (x.c : Int)) := by omega
    simp only [h1, h2, hn', decide_true, decide_false, Bool.false_eq_true, if_true, if_false]
  by_cases h3 : b < 0
  · have hn' : ¬ (0 ≤ a ∧ a < (x.p : Int) ∧ 0 ≤ b ∧ b < (x.c : Int)) := by omega
    simp only [h1, h2, h3, hn', decide_true, decide_false, Bool.false_eq_true, if_true, if_false]
  by_cases h4 : b ≥ (x.c : Int)
  · have hn' : ¬ (0 ≤ a ∧ a < (x.p : Int) ∧ 0 ≤ b ∧ b < (x.c : Int)) := by omega
    simp only [h1, h2, h3, h4, hn', decide_true, decide_false, Bool.false_eq_true, if_true, if_false]
  have hy : 0 ≤ a ∧ a < (x.p : Int) ∧ 0 ≤ b ∧ b < (x.c : Int) := by omega
  have hw := pair_w (P := x.p) (by omega) x.hc hy.1 hy.2.1 hy.2.2.1 hy.2.2.2
  simp only [h1, h2, h3, h4, hy, and_self, decide_true, decide_false, Bool.false_eq_true, if_true, if_false, hw]
theorem shard_e (a b : Int) : FX 22 [.int x.p, .int x.c, .int x.n, .int x.b, .int x.pr, .int x.f, .int x.g, .int a, .int b] = some [.int (cv x.n x.b a b (x.n * x.b))] := by
  have hn := x.hn
  rw [E_rules_Rules_Shard, cv_all x.hb]
  simp only [D.toInt_int]
  by_cases h1 : a < 0
  · have hn' : ¬ (0 ≤ a ∧ a < (x.n : Int) ∧ 0 ≤ b ∧ b < (x.b : Int)) := by omega
    simp only [h1, hn', decide_true, if_true, if_false]
  by_cases h2 : a ≥ (x.n : Int)
  · have hn' : ¬ (0 ≤ a ∧ a < (x.n : Int) ∧ 0 ≤ b ∧ b < (x.b : Int)) := by omega
    simp only [h1, h2, hn', decide_true, decide_false, Bool.false_eq_true, if_true, if_false]
  by_cases h3 : b < 0
  · have hn' : ¬ (0 ≤ a ∧ a < (x.n : Int) ∧ 0 ≤ b ∧ b < (x.b : Int)) := by omega
    simp only [h1, h2, h3, hn', decide_true, decide_false, Bool.false_eq_true, if_true, if_false]
  by_cases h4 : b ≥ (x.b : Int)
  · have hn' : ¬ (0 ≤ a ∧ a < (x.n : Int) ∧ 0 ≤ b ∧ b < (x.b : Int)) := by omega
    simp only [h1, h2, h3, h4, hn', decide_true, decide_false, Bool.false_eq_true, if_true, if_false]
  have hy : 0 ≤ a ∧ a < (x.n : Int) ∧ 0 ≤ b ∧ b < (x.b : Int) := by omega
  have hw := pair_w (P := x.n) (by omega) x.hb hy.1 hy.2.1 hy.2.2.1 hy.2.2.2
  simp only [h1, h2, h3, h4, hy, and_self, decide_true, decide_false, Bool.false_eq_true, if_true, if_false, hw]
variable (a b : Int) (x16 x17 x18 x19 x20 x21 x22 x23 x24 x25 : D)
theorem loop2 (g0 : Eng.Fn) {p : Nat} (hp : p < x.p) : ∀ (r i : Nat), i + r = x.c →
    W_law05_RulesCounts_2 (.int x.p) (.int x.c) (.int x.n) (.int x.b) (.int x.pr) (.int x.f) (.int x.g) (.int a) (.int b) (.int x.p) (.int x.c) (.int x.n) (.int x.b) (.int x.pr) (.int x.f) (.int x.g) x16 x17 x18 x19 x20 x21 x22 x23 x24 x25 (.int p) g0
      [.int (cv x.p x.c a b (p * x.c + i)), .int ((p * x.c + i : Nat) : Int), .int i] = g0 [.int (cv x.p x.c a b ((p + 1) * x.c)), .int (((p + 1) * x.c : Nat) : Int), .int ((p + 1 : Nat) : Int)] := by
  have ha := x.all_le
  have hle : (p + 1) * x.c ≤ x.all := Nat.mul_le_mul_right _ hp
  have hpp := x.hp
  have hcc := x.hc
  intro r
  induction r with
  | zero =>
    intro i hi
    obtain rfl : i = x.c := by omega
    have hw : IntKind.i64.wrap ((p : Int) + 1) = ((p + 1 : Nat) : Int) := by rw [wrap_small _ (by omega) (by omega)]; omega
    rw [W_law05_RulesCounts_2_eq]
    simp only [D.toInt_int, Int.lt_irrefl, decide_false, Bool.false_eq_true, if_false, hw]
    rw [show (p + 1) * x.c = p * x.c + x.c by rw [Nat.add_mul, Nat.one_mul]]
  | succ r ih =>
    intro i hi
    have hlt : i < x.c := by omega
    rw [Nat.add_mul, Nat.one_mul] at hle
    obtain ⟨o1, o2⟩ := owner_in x hp hlt
    have h1 : (i : Int) < (x.c : Int) := by omega
    have w1 : IntKind.i64.wrap (((p * x.c + i : Nat) : Int) + 1) = ((p * x.c + (i + 1) : Nat) : Int) := by rw [wrap_small _ (by omega) (by omega)]; omega
    have w2 : IntKind.i64.wrap ((i : Int) + 1) = ((i + 1 : Nat) : Int) := by rw [wrap_small _ (by omega) (by omega)]; omega
    have hs := cv_step hcc a b hp hlt
    have ih' := ih (i + 1) (by omega)
    rw [show p * x.c + (i + 1) = p * x.c + i + 1 by omega, hs] at ih'
    rw [W_law05_RulesCounts_2_eq]
    simp only [D.toInt_int, h1, decide_true, if_true, o1, o2, bindC, List.length_cons, List.length_nil, List.getD_cons_zero, bne_self_eq_false, Bool.false_eq_true, if_false, w1, w2]
    by_cases h2 : (p : Int) = a
    · by_cases h3 : (i : Int) = b
      · rw [if_pos ⟨h2, h3⟩] at ih'
        have h2' : ((p : Int) == a) = true := by simpa using h2
        have h3' : ((i : Int) == b) = true := by simpa using h3
        simp only [h2', h3', if_true]
        exact ih'
      · rw [if_neg (fun h => h3 h.2)] at ih'
        have h3' : ((i : Int) == b) = false := by simpa using h3
        have h2' : ((p : Int) == a) = true := by simpa using h2
        simp only [h2', h3', if_true, Bool.false_eq_true, if_false]
        exact ih'
    · rw [if_neg (fun h => h2 h.1)] at ih'
      have h2' : ((p : Int) == a) = false := by simpa using h2
      simp only [h2', Bool.false_eq_true, if_false]
      exact ih'
theorem loop4 (g0 g1 : Eng.Fn) (x26 x27 x28 : D) {p : Nat} (hp : p < x.n) : ∀ (r i : Nat), i + r = x.b →
    W_law05_RulesCounts_4 (.int x.p) (.int x.c) (.int x.n) (.int x.b) (.int x.pr) (.int x.f) (.int x.g) (.int a) (.int b) (.int x.p) (.int x.c) (.int x.n) (.int x.b) (.int x.pr) (.int x.f) (.int x.g) x16 x17 x18 x19 x20 x21 x22 x23 x24 x25 x26 x27 x28 (.int p) g0 g1
      [.int (cv x.n x.b a b (p * x.b + i)), .int ((p * x.b + i : Nat) : Int), .int i] = g1 [.int (cv x.n x.b a b ((p + 1) * x.b)), .int (((p + 1) * x.b : Nat) : Int), .int ((p + 1 : Nat) : Int)] := by
  have ha := x.sh_le
  have hle : (p + 1) * x.b ≤ x.sh := Nat.mul_le_mul_right _ hp
  have hpp := x.hn
  have hcc := x.hb
  intro r
  induction r with
  | zero =>
    intro i hi
    obtain rfl : i = x.b := by omega
    have hw : IntKind.i64.wrap ((p : Int) + 1) = ((p + 1 : Nat) : Int) := by rw [wrap_small _ (by omega) (by omega)]; omega
    rw [W_law05_RulesCounts_4_eq]
    simp only [D.toInt_int, Int.lt_irrefl, decide_false, Bool.false_eq_true, if_false, hw]
    rw [show (p + 1) * x.b = p * x.b + x.b by rw [Nat.add_mul, Nat.one_mul]]
  | succ r ih =>
    intro i hi
    have hlt : i < x.b := by omega
    rw [Nat.add_mul, Nat.one_mul] at hle
    obtain ⟨o1, o2, o3⟩ := shard_in x hp hlt
    have h1 : (i : Int) < (x.b : Int) := by omega
    have w1 : IntKind.i64.wrap (((p * x.b + i : Nat) : Int) + 1) = ((p * x.b + (i + 1) : Nat) : Int) := by rw [wrap_small _ (by omega) (by omega)]; omega
    have w2 : IntKind.i64.wrap ((i : Int) + 1) = ((i + 1 : Nat) : Int) := by rw [wrap_small _ (by omega) (by omega)]; omega
    have hs := cv_step hcc a b hp hlt
    have ih' := ih (i + 1) (by omega)
    rw [show p * x.b + (i + 1) = p * x.b + i + 1 by omega, hs] at ih'
    rw [W_law05_RulesCounts_4_eq]
    simp only [D.toInt_int, h1, decide_true, if_true, o1, o2, o3, sh_e, bindC, List.length_cons, List.length_nil, List.getD_cons_zero, List.getD_cons_succ, bne_self_eq_false, Bool.false_eq_true, if_false, w1, w2]
    by_cases h2 : (p : Int) = a
    · by_cases h3 : (i : Int) = b
      · rw [if_pos ⟨h2, h3⟩] at ih'
        have h2' : ((p : Int) == a) = true := by simpa using h2
        have h3' : ((i : Int) == b) = true := by simpa using h3
        simp only [h2', h3', if_true]
        exact ih'
      · rw [if_neg (fun h => h3 h.2)] at ih'
        have h3' : ((i : Int) == b) = false := by simpa using h3
        have h2' : ((p : Int) == a) = true := by simpa using h2
        simp only [h2', h3', if_true, Bool.false_eq_true, if_false]
        exact ih'
    · rw [if_neg (fun h => h2 h.1)] at ih'
      have h2' : ((p : Int) == a) = false := by simpa using h2
      simp only [h2', Bool.false_eq_true, if_false]
      exact ih'
theorem loop3 (g0 : Eng.Fn) (x26 : D) : ∀ (r p : Nat), p + r = x.n →
    W_law05_RulesCounts_3 (.int x.p) (.int x.c) (.int x.n) (.int x.b) (.int x.pr) (.int x.f) (.int x.g) (.int a) (.int b) (.int x.p) (.int x.c) (.int x.n) (.int x.b) (.int x.pr) (.int x.f) (.int x.g) x16 x17 x18 x19 x20 x21 x22 x23 (.int (cv x.p x.c a b (x.p * x.c))) x25 x26 g0
      [.int (cv x.n x.b a b (p * x.b)), .int ((p * x.b : Nat) : Int), .int p] = some [.bool true] := by
  intro r
  induction r with
  | zero =>
    intro p hp
    obtain rfl : p = x.n := by omega
    rw [W_law05_RulesCounts_3_eq]
    simp only [D.toInt_int, Int.lt_irrefl, decide_false, Bool.false_eq_true, if_false]
    by_cases h1 : a < 0
    · obtain ⟨o1, o2⟩ := owner_out x (k := a) (.inl h1)
      obtain ⟨o3, o4, o5⟩ := shard_out x (k := a) (.inl h1)
      simp only [h1, decide_true, if_true, o1, o2, o3, o4, o5, bindC, List.length_cons, List.length_nil, List.getD_cons_zero, List.getD_cons_succ, D.toInt_int, bne_self_eq_false, Bool.false_eq_true, if_false, law_awake, D.toBool_bool, cell_e, shard_e, beq_self_eq_true]
    simp only [h1, decide_false, Bool.false_eq_true, if_false, all_e, bindC, List.length_cons, List.length_nil, if_true, List.getD_cons_zero, D.toInt_int]
    by_cases h2 : a ≥ (x.all : Int)
    · obtain ⟨o1, o2⟩ := owner_out x (k := a) (.inr h2)
      simp only [h2, decide_true, if_true, o1, o2, sh_e, List.length_cons, List.length_nil, List.getD_cons_zero, D.toInt_int, bne_self_eq_false, Bool.false_eq_true, if_false]
      by_cases h3 : a ≥ (x.sh : Int)
      · obtain ⟨o3, o4, o5⟩ := shard_out x (k := a) (.inr h3)
        simp only [h3, decide_true, if_true, o3, o4, o5, List.length_cons, List.length_nil, List.getD_cons_zero, List.getD_cons_succ, D.toInt_int, bne_self_eq_false, Bool.false_eq_true, if_false, law_awake, D.toBool_bool, cell_e, shard_e, beq_self_eq_true]
      · simp only [h3, decide_false, Bool.false_eq_true, if_false, law_awake, D.toBool_bool, cell_e, shard_e, beq_self_eq_true, if_true, List.length_cons, List.length_nil, List.getD_cons_zero, D.toInt_int]
    · simp only [h2, decide_false, Bool.false_eq_true, if_false, sh_e, List.length_cons, List.length_nil, if_true, List.getD_cons_zero, D.toInt_int]
      by_cases h3 : a ≥ (x.sh : Int)
      · obtain ⟨o3, o4, o5⟩ := shard_out x (k := a) (.inr h3)
        simp only [h3, decide_true, if_true, o3, o4, o5, List.length_cons, List.length_nil, List.getD_cons_zero, List.getD_cons_succ, D.toInt_int, bne_self_eq_false, Bool.false_eq_true, if_false, law_awake, D.toBool_bool, cell_e, shard_e, beq_self_eq_true]
      · simp only [h3, decide_false, Bool.false_eq_true, if_false, law_awake, D.toBool_bool, cell_e, shard_e, beq_self_eq_true, if_true, List.length_cons, List.length_nil, List.getD_cons_zero, D.toInt_int]
  | succ r ih =>
    intro p hp
    have h1 : (p : Int) < (x.n : Int) := by omega
    have h4 := fun g1 => loop4 x a b x16 x17 x18 x19 x20 x21 x22 x23 (.int (cv x.p x.c a b (x.p * x.c))) x25 g0 g1 x26 (.int (cv x.n x.b a b (p * x.b))) (.int ((p * x.b : Nat) : Int)) (p := p) (by omega) x.b 0 (by omega)
    simp only [Nat.add_zero] at h4
    rw [W_law05_RulesCounts_3_eq]
    simp only [D.toInt_int, h1, decide_true, if_true]
    refine (h4 _).trans ?_
    exact ih (p + 1) (by omega)
theorem loop1 : ∀ (r p : Nat), p + r = x.p →
    W_law05_RulesCounts_1 (.int x.p) (.int x.c) (.int x.n) (.int x.b) (.int x.pr) (.int x.f) (.int x.g) (.int a) (.int b) (.int x.p) (.int x.c) (.int x.n) (.int x.b) (.int x.pr) (.int x.f) (.int x.g) x16 x17 x18 x19 x20 x21 x22 x23
      [.int (cv x.p x.c a b (p * x.c)), .int ((p * x.c : Nat) : Int), .int p] = some [.bool true] := by
  intro r
  induction r with
  | zero =>
    intro p hp
    obtain rfl : p = x.p := by omega
    rw [W_law05_RulesCounts_1_eq]
    simp only [D.toInt_int, Int.lt_irrefl, decide_false, Bool.false_eq_true, if_false]
    have := loop3 x a b x16 x17 x18 x19 x20 x21 x22 x23 (.int ((x.p * x.c : Nat) : Int)) (W_law05_RulesCounts_1 (.int x.p) (.int x.c) (.int x.n) (.int x.b) (.int x.pr) (.int x.f) (.int x.g) (.int a) (.int b) (.int x.p) (.int x.c) (.int x.n) (.int x.b) (.int x.pr) (.int x.f) (.int x.g) x16 x17 x18 x19 x20 x21 x22 x23) (.int x.p) x.n 0 (by omega)
    rw [Nat.zero_mul, cv_zero] at this
    exact this
  | succ r ih =>
    intro p hp
    have h1 : (p : Int) < (x.p : Int) := by omega
    have h2 := fun g0 => loop2 x a b x16 x17 x18 x19 x20 x21 x22 x23 (.int (cv x.p x.c a b (p * x.c))) (.int ((p * x.c : Nat) : Int)) g0 (p := p) (by omega) x.c 0 (by omega)
    simp only [Nat.add_zero] at h2
    rw [W_law05_RulesCounts_1_eq]
    simp only [D.toInt_int, h1, decide_true, if_true]
    refine (h2 _).trans ?_
    exact ih (p + 1) (by omega)
end
/-! A wrong one. -/
theorem is_eq (ds : List D) : FX 27 ds = ErrD.isF ds := by
  have h : FX 27 = ErrD.base 27 := fix_base (by rfl)
  rw [h]; rfl
theorem as_eq (ds : List D) : FX 26 ds = ErrD.asFn ds := by
  have h : FX 26 = ErrD.base 26 := fix_base (by rfl)
  rw [h]; rfl
theorem is_at (j : Nat) (e : Lim) (i : Int) : FX 27 [errAt j e, .iface 52 (.int i)] = some [.bool (5 == i)] := by
  rw [is_eq]; simp [ErrD.isF, ErrD.isN, errAt]
theorem num_at (j : Nat) (e : Lim) : FX 9 [errAt j e] = some [.int 5] := by
  have w1 : IntKind.i64.wrap 2 = 2 := rfl
  have w2 : IntKind.i64.wrap 3 = 3 := rfl
  have w3 : IntKind.i64.wrap 4 = 4 := rfl
  have w4 : IntKind.i64.wrap 5 = 5 := rfl
  have hn : (errAt j e).isNil = false := rfl
  have s : ∀ k : Int, k < 30 → W_law01_Num_1 (errAt j e) [.int k] = if (5 == k) = true then some [.int k] else W_law01_Num_1 (errAt j e) [.int (IntKind.i64.wrap (k + 1))] := fun k hk => by
    rw [W_law01_Num_1_eq]
    simp only [D.toInt_int, hk, decide_true, if_true, is_at, bindC, List.length_cons, List.length_nil, List.getD_cons_zero, D.toBool_bool]
  rw [E_law01_Num]
  simp only [hn, Bool.false_eq_true, if_false]
  rw [s 1 (by omega), if_neg (by decide), show (1 : Int) + 1 = 2 from rfl, w1, s 2 (by omega), if_neg (by decide), show (2 : Int) + 1 = 3 from rfl, w2, s 3 (by omega), if_neg (by decide), show (3 : Int) + 1 = 4 from rfl, w3, s 4 (by omega), if_neg (by decide), show (4 : Int) + 1 = 5 from rfl, w4, s 5 (by omega), if_pos (by decide)]
theorem place_at (j : Nat) (e : Lim) : ∃ y, FX 6 [errAt j e, .agg []] = some [.int j, .bool true, .agg [y]] := by
  refine ⟨.agg [.agg [.int j, .iface 59 (.agg [.str e.w, .iface 52 (.int 5)])]], ?_⟩
  rw [E_fault_Place, as_eq]
  simp [ErrD.asFn, ErrD.asRes, ErrD.asF, errAt, bindC]
theorem words_at (j : Nat) (e : Lim) (hs : List D) : ∃ y, FX 7 [errAt j e, .agg hs] = some [.agg [.str e.w], y] := by
  have hg : ∀ (l : List D) (z : D), (l ++ [z]).getD l.length .nil = z := fun l z => by simp [List.getD_eq_getElem?_getD]
  have h1 : FX 26 [errAt j e, .iface 60 (.int (hs.length : Int)), .agg (hs ++ [.agg [.nil]])] = some [.bool true, .agg (hs ++ [.agg [.agg [.str e.w, .iface 52 (.int 5)]]])] := by
    rw [as_eq]
    simp [ErrD.asFn, ErrD.asRes, ErrD.asN, errAt]
  rw [E_fault_Words, W_fault_Words_1_eq]
  simp only [D.toL_agg, h1, bindC, List.length_cons, List.length_nil, if_true, List.getD_cons_zero, List.getD_cons_succ, D.toBool_bool, D.isNil, Bool.not_false, D.toInt_int, Int.toNat_natCast, hg, List.nil_append]
  have h2 : FX 26 [.iface 52 (.int 5), .iface 60 (.int ((hs ++ [D.agg [.agg [.str e.w, .iface 52 (.int 5)]]]).length : Int)), .agg (hs ++ [D.agg [.agg [.str e.w, .iface 52 (.int 5)]]] ++ [D.agg [.agg [.str e.w, .iface 52 (.int 5)]]])] = some [.bool false, .agg (hs ++ [D.agg [.agg [.str e.w, .iface 52 (.int 5)]]] ++ [D.agg [.agg [.str e.w, .iface 52 (.int 5)]]])] := by
    rw [as_eq]
    simp [ErrD.asFn, ErrD.asRes, ErrD.asN]
  refine ⟨.agg (hs ++ [D.agg [.agg [.str e.w, .iface 52 (.int 5)]]] ++ [D.agg [.agg [.str e.w, .iface 52 (.int 5)]]]), ?_⟩
  have h3 : decide ((((0 + 1 : Nat) : Int)) ≤ 8796093022208) = true := by decide
  simp only [h3, if_true]
  rw [W_fault_Words_1_eq]
  simp only [D.toL_agg, h2, bindC, List.length_cons, List.length_nil, if_true, List.getD_cons_zero, List.getD_cons_succ, D.toBool_bool, Bool.false_eq_true, if_false]
theorem counts_law (c : Cf) (a b : Int) : FX 3 (c.ds ++ [.int a, .int b]) = some [.bool true] := by
  have hn := new_eq c
  have hk := check_step c
  simp only [Cf.ds] at hn hk
  unfold Cf.ds
  simp only [List.cons_append, List.nil_append]
  rw [E_law05_RulesCounts, hn, hk]
  cases hb : firstBad c.lims 0 with
  | some je =>
    obtain ⟨j, e⟩ := je
    obtain ⟨y, e1⟩ := place_at j e
    obtain ⟨z, e2⟩ := words_at j e [y]
    have hj : (j : Int) ≥ 0 := by omega
    have hw : FX 10 [.int j] = some [.str e.w] := by
      have key : ∀ (l : List Lim) (i : Nat), firstBad l i = some (j, e) → ∃ k, j = i + k ∧ l[k]? = some e := by
        intro l
        induction l with
        | nil => intro i h; simp [firstBad] at h
        | cons d l ih =>
          intro i h
          simp only [firstBad] at h
          split at h
          · obtain ⟨k, h1, h2⟩ := ih (i + 1) h
            exact ⟨k + 1, by omega, by simpa using h2⟩
          · simp only [Option.some.injEq, Prod.mk.injEq] at h
            exact ⟨0, by omega, by simp [h.2]⟩
      obtain ⟨k, h1, h2⟩ := key _ _ hb
      obtain rfl : j = k := by omega
      rw [E_ref05_Word]
      have hlt := (List.getElem?_eq_some_iff.1 h2).1
      have hlt7 : j < 7 := hlt
      have : j = 0 ∨ j = 1 ∨ j = 2 ∨ j = 3 ∨ j = 4 ∨ j = 5 ∨ j = 6 := by omega
      rcases this with rfl | rfl | rfl | rfl | rfl | rfl | rfl <;> (simp [Cf.lims] at h2; subst h2; simp)
    simp only [bindC, List.length_cons, List.length_nil, if_true, List.getD_cons_zero, List.getD_cons_succ, D.toInt_int, hj, decide_true, e1, e2, law_awake, D.toBool_bool, num_at, beq_self_eq_true, D.toL_agg, hw, D.toStr_str]
    simp [scmpF]
  | none =>
    have hok := (firstBad_none c).1 hb
    obtain ⟨x, rfl⟩ := nf_of c hok
    have hneg : ¬ ((-1 : Int) ≥ 0) := by omega
    have hpl := places_eq x
    simp only [Cf.ds, Nf.cf] at hpl ⊢
    simp only [bindC, List.length_append, List.length_cons, List.length_nil, if_true, List.cons_append, List.nil_append, List.getD_cons_zero, List.getD_cons_succ, D.toInt_int, hneg, decide_false, Bool.false_eq_true, if_false, D.isNil_nil, Bool.not_true, beq_self_eq_true, Bool.and_self,
      all_e, sh_e, agents_e, words_e, hpl, x.wall, x.wsh, bne_self_eq_false, D.toL_agg, row_length]
    have := loop1 x a b .nil (.int (-1)) (.int x.all) (.int x.sh) (.int (IntKind.i64.wrap ((x.p : Int) + IntKind.i64.wrap (2 * (x.sh : Int))))) (.int x.sh) (.int x.total) (.agg (row x.all x.g x.f x.total)) x.p 0 (by omega)
    rw [Nat.zero_mul, cv_zero] at this
    exact this
theorem cf_of {ds : List D} (h : Open.AllF Tryd.prog [.int .i64, .int .i64, .int .i64, .int .i64, .int .i64, .int .i64, .int .i64] ds) : ∃ c : Cf, ds = c.ds := by
  obtain ⟨_, _, rfl, h0, _, _, rfl, h1, _, _, rfl, h2, _, _, rfl, h3, _, _, rfl, h4, _, _, rfl, h5, _, _, rfl, h6, h⟩ := h
  obtain ⟨c0, rfl, _⟩ := h0.toInt
  obtain ⟨c1, rfl, _⟩ := h1.toInt
  obtain ⟨c2, rfl, _⟩ := h2.toInt
  obtain ⟨c3, rfl, _⟩ := h3.toInt
  obtain ⟨c4, rfl, _⟩ := h4.toInt
  obtain ⟨c5, rfl, _⟩ := h5.toInt
  obtain ⟨c6, rfl, _⟩ := h6.toInt
  have h : _ = [] := h
  subst h
  exact ⟨⟨c0, c1, c2, c3, c4, c5, c6⟩, rfl⟩
theorem counts (x0 : List D) (d1 d2 : D) (w0 : Open.AllF Tryd.prog [.int .i64, .int .i64, .int .i64, .int .i64, .int .i64, .int .i64, .int .i64] x0) (w1 : Open.Wf Tryd.prog (.int .i64) d1) (w2 : Open.Wf Tryd.prog (.int .i64) d2) : FX 3 (x0 ++ [d1, d2]) = some [.bool true] := by
  obtain ⟨c, rfl⟩ := cf_of w0
  obtain ⟨a, rfl, _⟩ := w1.toInt
  obtain ⟨b, rfl, _⟩ := w2.toInt
  exact counts_law c a b
end Go.Proofs.YtifghdombpcpjaaDoor.RU
