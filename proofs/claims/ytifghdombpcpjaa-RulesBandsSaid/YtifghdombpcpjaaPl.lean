/-
  The law RulesPlaces, on data.
-/
import Derived.Test.YtifghdombpcpjaaCfg
namespace Go.Proofs.Ytifghdombpcpjaa.RU
open Go.RowKit Go.Proofs.Ytifghdombpcpjaa.Eng Go.Proofs.Ytifghdombpcpjaa Go.Proofs.Ytifghdombpcpjaa.Dat
set_option linter.unusedVariables false
set_option linter.unusedSimpArgs false

def pl (k c g n : Nat) : D := .agg [.int k, .int c, .int g, .int n]
/-- The place of a number. -/
def elt (all G F k : Nat) : D := if k < 2 * all then pl (1 + k % 2) (k / 2) 0 0 else pl 3 ((k - 2 * all) / (F + 1) / G) ((k - 2 * all) / (F + 1) % G + 1) ((k - 2 * all) % (F + 1))
def row (all G F m : Nat) : List D := (List.range m).map (elt all G F)
theorem row_succ (all G F m : Nat) : row all G F (m + 1) = row all G F m ++ [elt all G F m] := by simp [row, List.range_succ]
theorem row_length (all G F m : Nat) : (row all G F m).length = m := by simp [row]
/-- A config that is right, in naturals. -/
structure Nf where
  p : Nat
  c : Nat
  n : Nat
  b : Nat
  pr : Nat
  f : Nat
  g : Nat
  hp : 1 ≤ p ∧ p ≤ 6
  hc : 1 ≤ c ∧ c ≤ 4
  hn : 1 ≤ n ∧ n ≤ 3
  hb : 1 ≤ b ∧ b ≤ 4
  hpr : pr ≤ 4
  hf : 1 ≤ f ∧ f ≤ 4
  hg : 1 ≤ g ∧ g ≤ 15
def Nf.cf (x : Nf) : Cf := ⟨x.p, x.c, x.n, x.b, x.pr, x.f, x.g⟩
def Nf.all (x : Nf) : Nat := x.p * x.c
theorem nf_of (c : Cf) (h : c.ok) : ∃ x : Nf, x.cf = c := by
  obtain ⟨h0, h1, h2, h3, h4, h5, h6⟩ := h
  refine ⟨⟨c.c0.toNat, c.c1.toNat, c.c2.toNat, c.c3.toNat, c.c4.toNat, c.c5.toNat, c.c6.toNat, by omega, by omega, by omega, by omega, by omega, by omega, by omega⟩, ?_⟩
  unfold Nf.cf
  cases c
  simp only [Cf.mk.injEq]
  simp only at h0 h1 h2 h3 h4 h5 h6
  omega
theorem Nf.all_le (x : Nf) : 1 ≤ x.all ∧ x.all ≤ 24 := by
  have h1 := Nat.mul_le_mul x.hp.2 x.hc.2
  have h2 := Nat.mul_le_mul x.hp.1 x.hc.1
  unfold Nf.all; omega
theorem Nf.wall (x : Nf) : IntKind.i64.wrap ((x.p : Int) * (x.c : Int)) = (x.all : Int) := by
  have := x.all_le
  rw [show (x.p : Int) * (x.c : Int) = (x.all : Int) by unfold Nf.all; exact (Int.natCast_mul ..).symm]
  exact wrap_nat _ (by omega)
def Nf.total (x : Nf) : Nat := 2 * x.all + x.all * x.g * (x.f + 1)
theorem Nf.total_le (x : Nf) : x.total ≤ 1848 := by
  have h1 := Nat.mul_le_mul (Nat.mul_le_mul x.all_le.2 x.hg.2) (show x.f + 1 ≤ 5 by have := x.hf; omega)
  have := x.all_le
  unfold Nf.total; omega
theorem div_at (d q n : Nat) (h : n < d) : (q * d + n) / d = q ∧ (q * d + n) % d = n := by
  have hd : 0 < d := by omega
  constructor
  · rw [Nat.mul_comm, Nat.mul_add_div hd, Nat.div_eq_of_lt h]; rfl
  · rw [Nat.mul_comm, Nat.mul_add_mod, Nat.mod_eq_of_lt h]
theorem elt_rec (x : Nf) (i g n : Nat) (hg : g < x.g) (hn : n ≤ x.f) : elt x.all x.g x.f (2 * x.all + (i * x.g + g) * (x.f + 1) + n) = pl 3 i (g + 1) n := by
  unfold elt
  have h0 : ¬ 2 * x.all + (i * x.g + g) * (x.f + 1) + n < 2 * x.all := by omega
  have h1 : 2 * x.all + (i * x.g + g) * (x.f + 1) + n - 2 * x.all = (i * x.g + g) * (x.f + 1) + n := by omega
  obtain ⟨d1, d2⟩ := div_at (x.f + 1) (i * x.g + g) n (by omega)
  obtain ⟨e1, e2⟩ := div_at x.g i g hg
  rw [if_neg h0, h1, d1, d2, e1, e2]
section
variable (x : Nf)
local notation "xs" => x
theorem places4 (x7 x8 x10 x12 : D) (i g : Nat) (hg : g < x.g) (hi : i < x.all) (g0 g1 g2 : Eng.Fn) : ∀ (k n : Nat), n + k = x.f + 1 →
    W_ref05_Places_4 (.int x.p) (.int x.c) (.int x.n) (.int x.b) (.int x.pr) (.int x.f) (.int x.g) x7 x8 (.int i) x10 (.int ((g + 1 : Nat) : Int)) x12 g0 g1 g2 [.int n, .agg (row x.all x.g x.f (2 * x.all + (i * x.g + g) * (x.f + 1) + n))] =
      g2 [.int ((g + 2 : Nat) : Int), .agg (row x.all x.g x.f (2 * x.all + (i * x.g + (g + 1)) * (x.f + 1)))]
  | 0, n, h => by
    have hf := x.hf
    have hgg := x.hg
    have hw : IntKind.i64.wrap (((g + 1 : Nat) : Int) + 1) = ((g + 2 : Nat) : Int) := by rw [wrap_small _ (by omega) (by omega)]; omega
    have hlen : 2 * x.all + (i * x.g + g) * (x.f + 1) + n = 2 * x.all + (i * x.g + (g + 1)) * (x.f + 1) := by
      rw [show n = x.f + 1 by omega, ← Nat.add_assoc (i * x.g), Nat.add_mul (i * x.g + g) 1, Nat.one_mul, Nat.add_assoc]
    have hno : ¬ (n : Int) ≤ (x.f : Int) := by omega
    rw [W_ref05_Places_4_eq]
    simp only [D.toInt_int, hno, decide_false, Bool.false_eq_true, if_false, hw, hlen]
  | k + 1, n, h => by
    have hf := x.hf
    have ih := places4 x7 x8 x10 x12 i g hg hi g0 g1 g2 k (n + 1) (by omega)
    have hle : (n : Int) ≤ (x.f : Int) := by omega
    have hw : IntKind.i64.wrap ((n : Int) + 1) = ((n + 1 : Nat) : Int) := by rw [wrap_small _ (by omega) (by omega)]; omega
    have he := elt_rec x i g n hg (by omega)
    have hr : row x.all x.g x.f (2 * x.all + (i * x.g + g) * (x.f + 1) + (n + 1)) = row x.all x.g x.f (2 * x.all + (i * x.g + g) * (x.f + 1) + n) ++ [pl 3 i (g + 1) n] := by
      rw [← Nat.add_assoc, row_succ, he]
    have hsm : 2 * x.all + (i * x.g + g) * (x.f + 1) + n ≤ 2000 := by
      have h1 : i * x.g + g + 1 ≤ x.all * x.g := by
        have := Nat.mul_le_mul_right x.g (show i + 1 ≤ x.all by omega)
        rw [Nat.add_mul] at this; omega
      have h2 := Nat.mul_le_mul_right (x.f + 1) h1
      rw [Nat.add_mul (i * x.g + g)] at h2
      have := x.total_le
      unfold Nf.total at this
      omega
    have hl : (((row x.all x.g x.f (2 * x.all + (i * x.g + g) * (x.f + 1) + n) ++ [pl 3 i (g + 1) n]).length : Nat) : Int) ≤ 4398046511104 := by
      rw [List.length_append, row_length]; simp only [List.length_cons, List.length_nil]; omega
    rw [W_ref05_Places_4_eq]
    rw [hr] at ih
    unfold pl at ih hl
    simp only [D.toInt_int, D.toL_agg, hle, decide_true, if_true, hw]
    have h3 : (D.int (3 : Int)) = D.int ((3 : Nat) : Int) := rfl
    simp only [h3, hl, decide_true, if_true, ih]
theorem places3 (x7 x8 x10 : D) (i : Nat) (hi : i < x.all) (g0 g1 : Eng.Fn) : ∀ (k g : Nat), g + k = x.g →
    W_ref05_Places_3 (.int x.p) (.int x.c) (.int x.n) (.int x.b) (.int x.pr) (.int x.f) (.int x.g) x7 x8 (.int i) x10 g0 g1 [.int ((g + 1 : Nat) : Int), .agg (row x.all x.g x.f (2 * x.all + (i * x.g + g) * (x.f + 1)))] =
      g1 [.int ((i + 1 : Nat) : Int), .agg (row x.all x.g x.f (2 * x.all + (i + 1) * x.g * (x.f + 1)))]
  | 0, g, h => by
    have := x.all_le
    have hw : IntKind.i64.wrap ((i : Int) + 1) = ((i + 1 : Nat) : Int) := by rw [wrap_small _ (by omega) (by omega)]; omega
    have hlen : (i * x.g + g) * (x.f + 1) = (i + 1) * x.g * (x.f + 1) := by rw [show g = x.g by omega, Nat.add_mul i 1 x.g, Nat.one_mul]
    have hno : ¬ ((g + 1 : Nat) : Int) ≤ (x.g : Int) := by omega
    rw [W_ref05_Places_3_eq]
    simp only [D.toInt_int, hno, decide_false, Bool.false_eq_true, if_false, hw, hlen]
  | k + 1, g, h => by
    have ih := places3 x7 x8 x10 i hi g0 g1 k (g + 1) (by omega)
    have hle : ((g + 1 : Nat) : Int) ≤ (x.g : Int) := by omega
    rw [W_ref05_Places_3_eq]
    simp only [D.toInt_int, hle, decide_true, if_true]
    have h4 := places4 x x7 x8 x10 (.agg (row x.all x.g x.f (2 * x.all + (i * x.g + g) * (x.f + 1)))) i g (by omega) hi g0 g1 (W_ref05_Places_3 (.int x.p) (.int x.c) (.int x.n) (.int x.b) (.int x.pr) (.int x.f) (.int x.g) x7 x8 (.int i) x10 g0 g1) (x.f + 1) 0 (by omega)
    exact h4.trans ih
theorem places2 (x7 x8 : D) (g0 : Eng.Fn) : ∀ (k i : Nat), i + k = x.all →
    W_ref05_Places_2 (.int x.p) (.int x.c) (.int x.n) (.int x.b) (.int x.pr) (.int x.f) (.int x.g) x7 x8 g0 [.int i, .agg (row x.all x.g x.f (2 * x.all + i * x.g * (x.f + 1)))] =
      some [.agg (row x.all x.g x.f x.total)]
  | 0, i, h => by
    have hi : i = x.all := by omega
    have hno : ¬ (i : Int) < (x.all : Int) := by omega
    rw [W_ref05_Places_2_eq]
    simp only [D.toInt_int, x.wall, hno, decide_false, Bool.false_eq_true, if_false]
    rw [hi]; rfl
  | k + 1, i, h => by
    have ih := places2 x7 x8 g0 k (i + 1) (by omega)
    have hlt : (i : Int) < (x.all : Int) := by omega
    rw [W_ref05_Places_2_eq]
    simp only [D.toInt_int, x.wall, hlt, decide_true, if_true]
    have h3 := places3 x x7 x8 (.agg (row x.all x.g x.f (2 * x.all + i * x.g * (x.f + 1)))) i (by omega) g0 (W_ref05_Places_2 (.int x.p) (.int x.c) (.int x.n) (.int x.b) (.int x.pr) (.int x.f) (.int x.g) x7 x8 g0) x.g 0 (by omega)
    exact h3.trans ih
theorem places1 : ∀ (k i : Nat), i + k = x.all →
    W_ref05_Places_1 (.int x.p) (.int x.c) (.int x.n) (.int x.b) (.int x.pr) (.int x.f) (.int x.g) [.int i, .agg (row x.all x.g x.f (2 * i))] = some [.agg (row x.all x.g x.f x.total)]
  | 0, i, h => by
    have hi : i = x.all := by omega
    have hno : ¬ (i : Int) < (x.all : Int) := by omega
    rw [W_ref05_Places_1_eq]
    simp only [D.toInt_int, x.wall, hno, decide_false, Bool.false_eq_true, if_false]
    have h2 := places2 x (.int i) (.agg (row x.all x.g x.f (2 * i))) (W_ref05_Places_1 (.int x.p) (.int x.c) (.int x.n) (.int x.b) (.int x.pr) (.int x.f) (.int x.g)) x.all 0 (by omega)
    rw [Nat.zero_mul, Nat.zero_mul, Nat.add_zero] at h2
    rw [← hi] at h2 ⊢
    exact h2
  | k + 1, i, h => by
    have ih := places1 k (i + 1) (by omega)
    have ha := x.all_le
    have hlt : (i : Int) < (x.all : Int) := by omega
    have hw : IntKind.i64.wrap ((i : Int) + 1) = ((i + 1 : Nat) : Int) := by rw [wrap_small _ (by omega) (by omega)]; omega
    have e1 : elt x.all x.g x.f (2 * i) = pl 1 i 0 0 := by
      unfold elt; rw [if_pos (by omega), show 2 * i % 2 = 0 by omega, show 2 * i / 2 = i by omega]
    have e2 : elt x.all x.g x.f (2 * i + 1) = pl 2 i 0 0 := by
      unfold elt; rw [if_pos (by omega), show (2 * i + 1) % 2 = 1 by omega, show (2 * i + 1) / 2 = i by omega]
    have hr : row x.all x.g x.f (2 * (i + 1)) = row x.all x.g x.f (2 * i) ++ [pl 1 i 0 0, pl 2 i 0 0] := by
      rw [show 2 * (i + 1) = 2 * i + 1 + 1 by omega, row_succ, row_succ, e1, e2, List.append_assoc]; rfl
    have hl : (((row x.all x.g x.f (2 * i) ++ [pl 1 i 0 0, pl 2 i 0 0]).length : Nat) : Int) ≤ 4398046511104 := by
      rw [List.length_append, row_length]; simp only [List.length_cons, List.length_nil]; omega
    rw [W_ref05_Places_1_eq]
    rw [hr] at ih
    unfold pl at ih hl
    simp only [D.toInt_int, D.toL_agg, x.wall, hlt, decide_true, if_true, hw]
    have h0 : (D.int (0 : Int)) = D.int ((0 : Nat) : Int) := rfl
    have h1 : (D.int (1 : Int)) = D.int ((1 : Nat) : Int) := rfl
    have h2 : (D.int (2 : Int)) = D.int ((2 : Nat) : Int) := rfl
    simp only [h0, h1, h2, hl, decide_true, if_true, ih]
theorem places_eq : FX 10 x.cf.ds = some [.agg (row x.all x.g x.f x.total)] := by
  have := places1 x x.all 0 (by omega)
  unfold Cf.ds Nf.cf
  rw [E_ref05_Places]
  exact this
/-! Addresses. -/
theorem stateAt_eq (ds7 : List D) (c : Nat) (hc : c ≤ 1000000) : FX 11 (x.cf.ds ++ [.int c]) = some [.int ((2 * c : Nat) : Int)] := by
  unfold Cf.ds Nf.cf
  simp only [List.cons_append, List.nil_append]
  rw [E_rules_Rules_StateAt]
  simp only [D.toInt_int]
  rw [wrap_small _ (by omega) (by omega)]
  simp
theorem termsAt_eq (c : Nat) (hc : c ≤ 1000000) : FX 12 (x.cf.ds ++ [.int c]) = some [.int ((2 * c + 1 : Nat) : Int)] := by
  unfold Cf.ds Nf.cf
  simp only [List.cons_append, List.nil_append]
  rw [E_rules_Rules_TermsAt]
  simp only [D.toInt_int]
  rw [wrap_small (2 * (c : Int)) (by omega) (by omega), wrap_small _ (by omega) (by omega)]
  simp
theorem all_eq : FX 30 x.cf.ds = some [.int x.all] := by
  unfold Cf.ds Nf.cf
  rw [E_rules_Rules_All]
  simp only [D.toInt_int, x.wall]
def Nf.valid (cell gen n : Int) : Prop := 0 ≤ cell ∧ cell < x.all ∧ 1 ≤ gen ∧ gen ≤ x.g ∧ 0 ≤ n ∧ n ≤ x.f
instance (cell gen n : Int) : Decidable (x.valid cell gen n) := by unfold Nf.valid; infer_instance
def Nf.addr (cell gen n : Nat) : Nat := 2 * x.all + (cell * x.g + (gen - 1)) * (x.f + 1) + n
theorem Nf.addr_lt {c g n : Nat} (hc : c < x.all) (hg : 1 ≤ g ∧ g ≤ x.g) (hn : n ≤ x.f) : x.addr c g n < x.total ∧ (c * x.g + (g - 1)) * (x.f + 1) ≤ 2000 ∧ c * x.g ≤ 400 := by
  have h1 : c * x.g + (g - 1) + 1 ≤ x.all * x.g := by
    have := Nat.mul_le_mul_right x.g (show c + 1 ≤ x.all by omega)
    rw [Nat.add_mul] at this; omega
  have h2 := Nat.mul_le_mul_right (x.f + 1) h1
  rw [Nat.add_mul (c * x.g + (g - 1))] at h2
  have := x.total_le
  have h3 := Nat.mul_le_mul x.all_le.2 x.hg.2
  unfold Nf.total at *
  unfold Nf.addr
  omega
theorem slotAt_eq (cell gen n : Int) : FX 13 (x.cf.ds ++ [.int cell, .int gen, .int n]) = some [.int (if x.valid cell gen n then (x.addr cell.toNat gen.toNat n.toNat : Int) else -1)] := by
  have ha := all_eq x
  unfold Cf.ds Nf.cf at ha ⊢
  simp only [List.cons_append, List.nil_append]
  rw [E_rules_Rules_SlotAt, ha]
  simp only [D.toInt_int, bindC, List.length_cons, List.length_nil, if_true, List.getD_cons_zero]
  by_cases h1 : cell < 0
  · have hv : ¬ x.valid cell gen n := by unfold Nf.valid; omega
    simp only [h1, hv, decide_true, if_true, if_false]
  by_cases h2 : cell ≥ (x.all : Int)
  · have hv : ¬ x.valid cell gen n := by unfold Nf.valid; omega
    simp only [h1, h2, hv, decide_false, decide_true, Bool.false_eq_true, if_false, if_true]
  by_cases h3 : gen < 1
  · have hv : ¬ x.valid cell gen n := by unfold Nf.valid; omega
    simp only [h1, h2, h3, hv, decide_false, decide_true, Bool.false_eq_true, if_false, if_true]
  by_cases h4 : gen > (x.g : Int)
  · have hv : ¬ x.valid cell gen n := by unfold Nf.valid; omega
    simp only [h1, h2, h3, h4, hv, decide_false, decide_true, Bool.false_eq_true, if_false, if_true]
  by_cases h5 : n < 0
  · have hv : ¬ x.valid cell gen n := by unfold Nf.valid; omega
    simp only [h1, h2, h3, h4, h5, hv, decide_false, decide_true, Bool.false_eq_true, if_false, if_true]
  by_cases h6 : n > (x.f : Int)
  · have hv : ¬ x.valid cell gen n := by unfold Nf.valid; omega
    simp only [h1, h2, h3, h4, h5, h6, hv, decide_false, decide_true, Bool.false_eq_true, if_false, if_true]
  have hv : x.valid cell gen n := by unfold Nf.valid; omega
  simp only [h1, h2, h3, h4, h5, h6, hv, decide_false, Bool.false_eq_true, if_false, if_true]
  obtain ⟨c, rfl⟩ : ∃ c : Nat, cell = c := ⟨cell.toNat, by omega⟩
  obtain ⟨g, rfl⟩ : ∃ g : Nat, gen = g := ⟨gen.toNat, by omega⟩
  obtain ⟨m, rfl⟩ : ∃ m : Nat, n = m := ⟨n.toNat, by omega⟩
  have hf := x.hf
  have hal := x.all_le
  obtain ⟨q1, q2, q3⟩ := x.addr_lt (c := c) (g := g) (n := m) (by omega) (by omega) (by omega)
  simp only [Int.toNat_natCast]
  have e1 : IntKind.i64.wrap ((x.all : Int) * 2) = ((2 * x.all : Nat) : Int) := by rw [wrap_small _ (by omega) (by omega)]; omega
  have e2 : IntKind.i64.wrap ((c : Int) * (x.g : Int)) = ((c * x.g : Nat) : Int) := by rw [← Int.natCast_mul]; exact wrap_nat _ (by omega)
  rw [e1, e2]
  unfold Nf.addr at q1 ⊢
  have hgg := x.hg
  generalize c * x.g = y at *
  have e3 : IntKind.i64.wrap ((y : Int) + (g : Int)) = ((y + g : Nat) : Int) := by rw [wrap_small _ (by omega) (by omega)]; omega
  have e4 : IntKind.i64.wrap (((y + g : Nat) : Int) - 1) = ((y + (g - 1) : Nat) : Int) := by rw [wrap_small _ (by omega) (by omega)]; omega
  have e5 : IntKind.i64.wrap ((x.f : Int) + 1) = ((x.f + 1 : Nat) : Int) := by rw [wrap_small _ (by omega) (by omega)]; omega
  have e6 : IntKind.i64.wrap (((y + (g - 1) : Nat) : Int) * ((x.f + 1 : Nat) : Int)) = (((y + (g - 1)) * (x.f + 1) : Nat) : Int) := by rw [← Int.natCast_mul]; exact wrap_nat _ (by omega)
  rw [e3, e4, e5, e6]
  have := x.total_le
  generalize (y + (g - 1)) * (x.f + 1) = z at *
  rw [wrap_small (((2 * x.all : Nat) : Int) + (z : Int)) (by omega) (by omega), wrap_small _ (by omega) (by omega)]
  simp only [Option.some.injEq, List.cons.injEq, D.int.injEq, and_true]
  omega
/-- An element's own place. -/
theorem elt_addr {c g n : Nat} (hg : 1 ≤ g ∧ g ≤ x.g) (hn : n ≤ x.f) : elt x.all x.g x.f (x.addr c g n) = pl 3 c g n := by
  have := elt_rec x c (g - 1) n (by omega) hn
  rw [show g - 1 + 1 = g by omega] at this
  exact this
theorem elt_inv {k c g n : Nat} (hk : k < x.total) (h : elt x.all x.g x.f k = pl 3 c g n) : k = x.addr c g n ∧ c < x.all ∧ 1 ≤ g ∧ g ≤ x.g ∧ n ≤ x.f := by
  unfold elt at h
  split at h
  · rename_i hlt
    unfold pl at h
    simp only [D.agg.injEq, List.cons.injEq, D.int.injEq, and_true] at h
    omega
  · rename_i hge
    unfold pl at h
    simp only [D.agg.injEq, List.cons.injEq, D.int.injEq, and_true] at h
    obtain ⟨_, h1, h2, h3⟩ := h
    have hgp := x.hg
    have hm := Nat.div_add_mod (k - 2 * x.all) (x.f + 1)
    have hq := Nat.div_add_mod ((k - 2 * x.all) / (x.f + 1)) x.g
    have hlt := Nat.mod_lt (k - 2 * x.all) (show 0 < x.f + 1 by omega)
    have hlt2 := Nat.mod_lt ((k - 2 * x.all) / (x.f + 1)) (show 0 < x.g by omega)
    have e1 : (k - 2 * x.all) / (x.f + 1) / x.g = c := by omega
    have e2 : (k - 2 * x.all) / (x.f + 1) % x.g = g - 1 := by omega
    have e3 : (k - 2 * x.all) % (x.f + 1) = n := by omega
    rw [e1, e2] at hq
    rw [← hq, e3] at hm
    have hc : c < x.all := by
      rw [← e1, Nat.div_lt_iff_lt_mul (by omega), Nat.div_lt_iff_lt_mul (by omega)]
      unfold Nf.total at hk
      omega
    refine ⟨?_, hc, by omega, by omega, by omega⟩
    unfold Nf.addr
    rw [Nat.mul_comm c x.g, Nat.mul_comm (x.g * c + (g - 1))]
    omega
theorem elt_cells (k : Nat) : ∃ a b c d : Nat, elt x.all x.g x.f k = pl a b c d := by
  unfold elt
  split
  · exact ⟨_, _, _, _, rfl⟩
  · exact ⟨_, _, _, _, rfl⟩
theorem row_get {k : Nat} (hk : k < x.total) : (row x.all x.g x.f x.total).getD k D.nil = elt x.all x.g x.f k := by
  rw [getD_lt (by rw [row_length]; exact hk)]
  simp [row]
theorem at_loop (x0 : D) (cell gen n : Int) : ∀ (k i : Nat), i + k = x.total → (∀ j, j < i → x.valid cell gen n → j ≠ x.addr cell.toNat gen.toNat n.toNat) →
    W_ref05_At_1 (.agg (row x.all x.g x.f x.total)) (.int 3) (.int cell) (.int gen) (.int n) [.int i] = some [.int (if x.valid cell gen n then (x.addr cell.toNat gen.toNat n.toNat : Int) else -1)]
  | 0, i, h, hj => by
    have ht := x.total_le
    have hno : ¬ (i : Int) < ((row x.all x.g x.f x.total).length : Int) := by rw [row_length]; omega
    rw [W_ref05_At_1_eq]
    simp only [D.toInt_int, D.toL_agg, hno, decide_false, Bool.false_eq_true, if_false]
    by_cases hv : x.valid cell gen n
    · exfalso
      have hv' := hv
      unfold Nf.valid at hv'
      have := (x.addr_lt (c := cell.toNat) (g := gen.toNat) (n := n.toNat) (by omega) (by omega) (by omega)).1
      exact hj _ (by omega) hv rfl
    · simp only [hv, if_false]
  | k + 1, i, h, hj => by
    have ht := x.total_le
    have hlt : (i : Int) < ((row x.all x.g x.f x.total).length : Int) := by rw [row_length]; omega
    have hge : (i : Int) ≥ 0 := by omega
    have hw : IntKind.i64.wrap ((i : Int) + 1) = ((i + 1 : Nat) : Int) := by rw [wrap_small _ (by omega) (by omega)]; omega
    have ih := at_loop x0 cell gen n k (i + 1) (by omega)
    rw [W_ref05_At_1_eq]
    simp only [D.toInt_int, D.toL_agg, hlt, hge, decide_true, if_true, Int.toNat_natCast, row_get x (show i < x.total by omega), hw]
    obtain ⟨a, b, c, d, he⟩ := elt_cells x i
    rw [he]
    unfold pl
    simp only [D.toL_agg, List.getD_cons_zero, List.getD_cons_succ, D.toInt_int]
    by_cases hm : (a : Int) = 3 ∧ (b : Int) = cell ∧ (c : Int) = gen ∧ (d : Int) = n
    · obtain ⟨h1, h2, h3, h4⟩ := hm
      have ha : a = 3 := by omega
      subst ha
      obtain ⟨q1, q2, q3, q4, q5⟩ := elt_inv x (by omega) he
      have hv : x.valid cell gen n := by unfold Nf.valid; omega
      have e : i = x.addr cell.toNat gen.toNat n.toNat := by rw [q1, ← h2, ← h3, ← h4]; simp
      simp only [h1, h2, h3, h4, beq_self_eq_true, if_true, D.toBool_bool, hv]
      rw [← e]
    · have hno : (if ((a : Int) == 3) = true then (if ((b : Int) == cell) = true then (if ((c : Int) == gen) = true then (if ((d : Int) == n) = true then D.bool true else D.bool false) else D.bool false) else D.bool false) else D.bool false).toBool = false := by
        simp only [beq_iff_eq]
        split
        · split
          · split
            · split
              · rename_i z1 z2 z3 z4; exact absurd ⟨z1, z2, z3, z4⟩ hm
              · rfl
            · rfl
          · rfl
        · rfl
      rw [hno]
      simp only [Bool.false_eq_true, if_false]
      refine ih (fun j hj' hv e => ?_)
      rcases Nat.lt_or_ge j i with h' | h'
      · exact hj j h' hv e
      · have hji : j = i := by omega
        subst hji
        have hv' := hv
        unfold Nf.valid at hv'
        have := elt_addr x (c := cell.toNat) (g := gen.toNat) (n := n.toNat) (by omega) (by omega)
        rw [← e, he] at this
        unfold pl at this
        simp only [D.agg.injEq, List.cons.injEq, D.int.injEq, and_true] at this
        exact hm (by omega)
theorem at_eq' (cell gen n : Int) : FX 14 [.agg (row x.all x.g x.f x.total), .int 3, .int cell, .int gen, .int n] = some [.int (if x.valid cell gen n then (x.addr cell.toNat gen.toNat n.toNat : Int) else -1)] := by
  rw [E_ref05_At]
  exact at_loop x .nil cell gen n x.total 0 (by omega) (fun j hj => by omega)
theorem law_loop (x0 x1 x2 x3 x4 x5 x6 x18 : D) (cell gen n : Int) : ∀ (k i : Nat), i + k = x.total →
    W_law05_RulesPlaces_1 x0 x1 x2 x3 x4 x5 x6 (.int cell) (.int gen) (.int n) (.int x.p) (.int x.c) (.int x.n) (.int x.b) (.int x.pr) (.int x.f) (.int x.g) .nil x18 (.agg (row x.all x.g x.f x.total)) [.int i] = some [.bool true]
  | 0, i, h => by
    have hno : ¬ (i : Int) < ((row x.all x.g x.f x.total).length : Int) := by rw [row_length]; omega
    have h1 := slotAt_eq x cell gen n
    have h2 := at_eq' x cell gen n
    unfold Cf.ds Nf.cf at h1
    simp only [List.cons_append, List.nil_append] at h1
    rw [W_law05_RulesPlaces_1_eq]
    simp only [D.toInt_int, D.toL_agg, hno, decide_false, Bool.false_eq_true, if_false, law_awake, bindC, List.length_cons, List.length_nil, if_true, List.getD_cons_zero, D.toBool_bool, D.isNil_nil, h1, h2, beq_self_eq_true]
  | k + 1, i, h => by
    have ht := x.total_le
    have ha := x.all_le
    have hlt : (i : Int) < ((row x.all x.g x.f x.total).length : Int) := by rw [row_length]; omega
    have hge : (i : Int) ≥ 0 := by omega
    have hw : IntKind.i64.wrap ((i : Int) + 1) = ((i + 1 : Nat) : Int) := by rw [wrap_small _ (by omega) (by omega)]; omega
    have ih := law_loop x0 x1 x2 x3 x4 x5 x6 x18 cell gen n k (i + 1) (by omega)
    have he : elt x.all x.g x.f i = (if i < 2 * x.all then pl (1 + i % 2) (i / 2) 0 0 else pl 3 ((i - 2 * x.all) / (x.f + 1) / x.g) ((i - 2 * x.all) / (x.f + 1) % x.g + 1) ((i - 2 * x.all) % (x.f + 1))) := rfl
    rw [W_law05_RulesPlaces_1_eq]
    simp only [D.toInt_int, D.toL_agg, hlt, hge, decide_true, if_true, Int.toNat_natCast, row_get x (show i < x.total by omega), hw]
    by_cases hs : i < 2 * x.all
    · rw [if_pos hs] at he
      have s1 := stateAt_eq x [] (i / 2) (by omega)
      have s2 := termsAt_eq x (i / 2) (by omega)
      unfold Cf.ds Nf.cf at s1 s2
      simp only [List.cons_append, List.nil_append] at s1 s2
      rw [he]
      unfold pl
      have h3 : ¬ ((1 + i % 2 : Nat) : Int) = 3 := by omega
      by_cases hp : i % 2 = 1
      · have h2 : ((1 + i % 2 : Nat) : Int) = 2 := by omega
        have h4 : ((2 * (i / 2) + 1 : Nat) : Int) = (i : Int) := by omega
        simp only [D.toL_agg, List.getD_cons_zero, List.getD_cons_succ, D.toInt_int, s1, s2, h2, bindC, List.length_cons, List.length_nil, if_true, beq_self_eq_true, h4, bne_self_eq_false, Bool.false_eq_true, if_false]
        exact ih
      · have h2 : ¬ ((1 + i % 2 : Nat) : Int) = 2 := by omega
        have h4 : ((2 * (i / 2) : Nat) : Int) = (i : Int) := by omega
        have b2 : (((1 + i % 2 : Nat) : Int) == 2) = false := by simpa using h2
        have b3 : (((1 + i % 2 : Nat) : Int) == 3) = false := by simpa using h3
        simp only [D.toL_agg, List.getD_cons_zero, List.getD_cons_succ, D.toInt_int, s1, s2, b2, b3, bindC, List.length_cons, List.length_nil, if_true, h4, bne_self_eq_false, Bool.false_eq_true, if_false]
        exact ih
    · rw [if_neg hs] at he
      obtain ⟨q1, q2, q3, q4, q5⟩ := elt_inv x (by omega) he
      have s1 := stateAt_eq x [] ((i - 2 * x.all) / (x.f + 1) / x.g) (Nat.le_trans (Nat.le_of_lt q2) (by omega))
      have s2 := slotAt_eq x (((i - 2 * x.all) / (x.f + 1) / x.g : Nat) : Int) (((i - 2 * x.all) / (x.f + 1) % x.g + 1 : Nat) : Int) (((i - 2 * x.all) % (x.f + 1) : Nat) : Int)
      have hv : x.valid (((i - 2 * x.all) / (x.f + 1) / x.g : Nat) : Int) (((i - 2 * x.all) / (x.f + 1) % x.g + 1 : Nat) : Int) (((i - 2 * x.all) % (x.f + 1) : Nat) : Int) := by
        unfold Nf.valid
        generalize (i - 2 * x.all) / (x.f + 1) / x.g = y1 at *
        generalize (i - 2 * x.all) / (x.f + 1) % x.g = y2 at *
        generalize (i - 2 * x.all) % (x.f + 1) = y3 at *
        omega
      rw [if_pos hv] at s2
      simp only [Int.toNat_natCast] at s2
      rw [← q1] at s2
      unfold Cf.ds Nf.cf at s1 s2
      simp only [List.cons_append, List.nil_append] at s1 s2
      rw [he]
      unfold pl
      have b2 : (((3 : Nat) : Int) == 2) = false := rfl
      have b3 : (((3 : Nat) : Int) == 3) = true := rfl
      simp only [D.toL_agg, List.getD_cons_zero, List.getD_cons_succ, D.toInt_int, s1, s2, b2, b3, bindC, List.length_cons, List.length_nil, if_true, bne_self_eq_false, Bool.false_eq_true, if_false]
      exact ih
end
theorem places_law (c : Cf) (cell gen n : Int) : FX 3 (c.ds ++ [.int cell, .int gen, .int n]) = some [.bool true] := by
  have hn := new_eq c
  have hc := check_step c
  have ha := law_awake
  cases hb : firstBad c.lims 0 with
  | none =>
    obtain ⟨x, rfl⟩ := nf_of c ((firstBad_none c).1 hb)
    have hp := places_eq x
    have hl := law_loop x (.int x.p) (.int x.c) (.int x.n) (.int x.b) (.int x.pr) (.int x.f) (.int x.g) (.int (-1)) cell gen n x.total 0 (by omega)
    rw [hb] at hn hc
    unfold Cf.ds Nf.cf at *
    simp only [List.cons_append, List.nil_append] at *
    rw [E_law05_RulesPlaces]
    simp only [hn, hc, hp, bindC, List.length_cons, List.length_nil, if_true, List.getD_cons_zero, List.getD_cons_succ, D.toInt_int]
    have h1 : ¬ ((-1 : Int) ≥ 0) := by omega
    simp only [h1, decide_false, Bool.false_eq_true, if_false]
    exact hl
  | some p =>
    obtain ⟨j, e⟩ := p
    rw [hb] at hn hc
    unfold Cf.ds at *
    simp only [List.cons_append, List.nil_append] at *
    rw [E_law05_RulesPlaces]
    have h1 : (j : Int) ≥ 0 := by omega
    simp only [hn, hc, ha, bindC, List.length_cons, List.length_nil, if_true, List.getD_cons_zero, List.getD_cons_succ, D.toInt_int, h1, decide_true, D.toBool_bool, errAt, D.isNil_iface, Bool.not_false]
end Go.Proofs.Ytifghdombpcpjaa.RU
