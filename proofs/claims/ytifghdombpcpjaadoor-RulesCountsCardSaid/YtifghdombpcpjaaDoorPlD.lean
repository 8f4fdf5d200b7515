/-
  Configurations in naturals, all places, on data.
-/
import Derived.Test.YtifghdombpcpjaaDoorCfg
namespace Go.Proofs.YtifghdombpcpjaaDoor.RU
open Go.RowKit Go.Proofs.YtifghdombpcpjaaDoor.Eng Go.Proofs.YtifghdombpcpjaaDoor Go.Proofs.YtifghdombpcpjaaDoor.Dat
set_option linter.unusedVariables false
set_option linter.unusedSimpArgs false

def pl (k c g n : Nat) : D := .agg [.int k, .int c, .int g, .int n]
/-- The place of a number. -/
def elt (all G F k : Nat) : D := if k < 2 * all then pl (1 + k % 2) (k / 2) 0 0 else pl 3 ((k - 2 * all) / (F + 1) / G) ((k - 2 * all) / (F + 1) % G + 1) ((k - 2 * all) % (F + 1))
def row (all G F m : Nat) : List D := (List.range m).map (elt all G F)
theorem row_succ (all G F m : Nat) : row all G F (m + 1) = row all G F m ++ [elt all G F m] := by simp [row, List.range_succ]
theorem row_length (all G F m : Nat) : (row all G F m).length = m := by simp [row]
/-- A config that is right, in naturals. -/
structure Nf where
  p : Nat
  c : Nat
  n : Nat
  b : Nat
  pr : Nat
  f : Nat
  g : Nat
  hp : 1 ≤ p ∧ p ≤ 6
  hc : 1 ≤ c ∧ c ≤ 4
  hn : 1 ≤ n ∧ n ≤ 3
  hb : 1 ≤ b ∧ b ≤ 4
  hpr : pr ≤ 4
  hf : 1 ≤ f ∧ f ≤ 4
  hg : 1 ≤ g ∧ g ≤ 15
def Nf.cf (x : Nf) : Cf := ⟨x.p, x.c, x.n, x.b, x.pr, x.f, x.g⟩
def Nf.all (x : Nf) : Nat := x.p * x.c
theorem nf_of (c : Cf) (h : c.ok) : ∃ x : Nf, x.cf = c := by
  obtain ⟨h0, h1, h2, h3, h4, h5, h6⟩ := h
  refine ⟨⟨c.c0.toNat, c.c1.toNat, c.c2.toNat, c.c3.toNat, c.c4.toNat, c.c5.toNat, c.c6.toNat, by omega, by omega, by omega, by omega, by omega, by omega, by omega⟩, ?_⟩
  unfold Nf.cf
  cases c
  simp only [Cf.mk.injEq]
  simp only at h0 h1 h2 h3 h4 h5 h6
  omega
theorem Nf.all_le (x : Nf) : 1 ≤ x.all ∧ x.all ≤ 24 := by
  have h1 := Nat.mul_le_mul x.hp.2 x.hc.2
  have h2 := Nat.mul_le_mul x.hp.1 x.hc.1
  unfold Nf.all; omega
theorem Nf.wall (x : Nf) : IntKind.i64.wrap ((x.p : Int) * (x.c : Int)) = (x.all : Int) := by
  have := x.all_le
  rw [show (x.p : Int) * (x.c : Int) = (x.all : Int) by unfold Nf.all; exact (Int.natCast_mul ..).symm]
  exact wrap_nat _ (by omega)
def Nf.total (x : Nf) : Nat := 2 * x.all + x.all * x.g * (x.f + 1)
theorem Nf.total_le (x : Nf) : x.total ≤ 1848 := by
  have h1 := Nat.mul_le_mul (Nat.mul_le_mul x.all_le.2 x.hg.2) (show x.f + 1 ≤ 5 by have := x.hf; omega)
  have := x.all_le
  unfold Nf.total; omega
theorem div_at (d q n : Nat) (h : n < d) : (q * d + n) / d = q ∧ (q * d + n) % d = n := by
  have hd : 0 < d := by omega
  constructor
  · rw [Nat.mul_comm, Nat.mul_add_div hd, Nat.div_eq_of_lt h]; rfl
  · rw [Nat.mul_comm, Nat.mul_add_mod, Nat.mod_eq_of_lt h]
theorem elt_rec (x : Nf) (i g n : Nat) (hg : g < x.g) (hn : n ≤ x.f) : elt x.all x.g x.f (2 * x.all + (i * x.g + g) * (x.f + 1) + n) = pl 3 i (g + 1) n := by
  unfold elt
  have h0 : ¬ 2 * x.all + (i * x.g + g) * (x.f + 1) + n < 2 * x.all := by omega
  have h1 : 2 * x.all + (i * x.g + g) * (x.f + 1) + n - 2 * x.all = (i * x.g + g) * (x.f + 1) + n := by omega
  obtain ⟨d1, d2⟩ := div_at (x.f + 1) (i * x.g + g) n (by omega)
  obtain ⟨e1, e2⟩ := div_at x.g i g hg
  rw [if_neg h0, h1, d1, d2, e1, e2]
section
variable (x : Nf)
local notation "xs" => x
theorem places4 (x7 x8 x10 x12 : D) (i g : Nat) (hg : g < x.g) (hi : i < x.all) (g0 g1 g2 : Eng.Fn) : ∀ (k n : Nat), n + k = x.f + 1 →
    W_ref05_Places_4 (.int x.p) (.int x.c) (.int x.n) (.int x.b) (.int x.pr) (.int x.f) (.int x.g) x7 x8 (.int i) x10 (.int ((g + 1 : Nat) : Int)) x12 g0 g1 g2 [.int n, .agg (row x.all x.g x.f (2 * x.all + (i * x.g + g) * (x.f + 1) + n))] =
      g2 [.int ((g + 2 : Nat) : Int), .agg (row x.all x.g x.f (2 * x.all + (i * x.g + (g + 1)) * (x.f + 1)))]
  | 0, n, h => by
    have hf := x.hf
    have hgg := x.hg
    have hw : IntKind.i64.wrap (((g + 1 : Nat) : Int) + 1) = ((g + 2 : Nat) : Int) := by rw [wrap_small _ (by omega) (by omega)]; omega
    have hlen : 2 * x.all + (i * x.g + g) * (x.f + 1) + n = 2 * x.all + (i * x.g + (g + 1)) * (x.f + 1) := by
      rw [show n = x.f + 1 by omega, ← Nat.add_assoc (i * x.g), Nat.add_mul (i * x.g + g) 1, Nat.one_mul, Nat.add_assoc]
    have hno : ¬ (n : Int) ≤ (x.f : Int) := by omega
    rw [W_ref05_Places_4_eq]
    simp only [D.toInt_int, hno, decide_false, Bool.false_eq_true, if_false, hw, hlen]
  | k + 1, n, h => by
    have hf := x.hf
    have ih := places4 x7 x8 x10 x12 i g hg hi g0 g1 g2 k (n + 1) (by omega)
    have hle : (n : Int) ≤ (x.f : Int) := by omega
    have hw : IntKind.i64.wrap ((n : Int) + 1) = ((n + 1 : Nat) : Int) := by rw [wrap_small _ (by omega) (by omega)]; omega
    have he := elt_rec x i g n hg (by omega)
    have hr : row x.all x.g x.f (2 * x.all + (i * x.g + g) * (x.f + 1) + (n + 1)) = row x.all x.g x.f (2 * x.all + (i * x.g + g) * (x.f + 1) + n) ++ [pl 3 i (g + 1) n] := by
      rw [← Nat.add_assoc, row_succ, he]
    have hsm : 2 * x.all + (i * x.g + g) * (x.f + 1) + n ≤ 2000 := by
      have h1 : i * x.g + g + 1 ≤ x.all * x.g := by
        have := Nat.mul_le_mul_right x.g (show i + 1 ≤ x.all by omega)
        rw [Nat.add_mul] at this; omega
      have h2 := Nat.mul_le_mul_right (x.f + 1) h1
      rw [Nat.add_mul (i * x.g + g)] at h2
      have := x.total_le
      unfold Nf.total at this
      omega
    have hl : (((row x.all x.g x.f (2 * x.all + (i * x.g + g) * (x.f + 1) + n) ++ [pl 3 i (g + 1) n]).length : Nat) : Int) ≤ 4398046511104 := by
      rw [List.length_append, row_length]; simp only [List.length_cons, List.length_nil]; omega
    rw [W_ref05_Places_4_eq]
    rw [hr] at ih
    unfold pl at ih hl
    simp only [D.toInt_int, D.toL_agg, hle, decide_true, if_true, hw]
    have h3 : (D.int (3 : Int)) = D.int ((3 : Nat) : Int) := rfl
    simp only [h3, hl, decide_true, if_true, ih]
theorem places3 (x7 x8 x10 : D) (i : Nat) (hi : i < x.all) (g0 g1 : Eng.Fn) : ∀ (k g : Nat), g + k = x.g →
    W_ref05_Places_3 (.int x.p) (.int x.c) (.int x.n) (.int x.b) (.int x.pr) (.int x.f) (.int x.g) x7 x8 (.int i) x10 g0 g1 [.int ((g + 1 : Nat) : Int), .agg (row x.all x.g x.f (2 * x.all + (i * x.g + g) * (x.f + 1)))] =
      g1 [.int ((i + 1 : Nat) : Int), .agg (row x.all x.g x.f (2 * x.all + (i + 1) * x.g * (x.f + 1)))]
  | 0, g, h => by
    have := x.all_le
    have hw : IntKind.i64.wrap ((i : Int) + 1) = ((i + 1 : Nat) : Int) := by rw [wrap_small _ (by omega) (by omega)]; omega
    have hlen : (i * x.g + g) * (x.f + 1) = (i + 1) * x.g * (x.f + 1) := by rw [show g = x.g by omega, Nat.add_mul i 1 x.g, Nat.one_mul]
    have hno : ¬ ((g + 1 : Nat) : Int) ≤ (x.g : Int) := by omega
    rw [W_ref05_Places_3_eq]
    simp only [D.toInt_int, hno, decide_false, Bool.false_eq_true, if_false, hw, hlen]
  | k + 1, g, h => by
    have ih := places3 x7 x8 x10 i hi g0 g1 k (g + 1) (by omega)
    have hle : ((g + 1 : Nat) : Int) ≤ (x.g : Int) := by omega
    rw [W_ref05_Places_3_eq]
    simp only [D.toInt_int, hle, decide_true, if_true]
    have h4 := places4 x x7 x8 x10 (.agg (row x.all x.g x.f (2 * x.all + (i * x.g + g) * (x.f + 1)))) i g (by omega) hi g0 g1 (W_ref05_Places_3 (.int x.p) (.int x.c) (.int x.n) (.int x.b) (.int x.pr) (.int x.f) (.int x.g) x7 x8 (.int i) x10 g0 g1) (x.f + 1) 0 (by omega)
    exact h4.trans ih
theorem places2 (x7 x8 : D) (g0 : Eng.Fn) : ∀ (k i : Nat), i + k = x.all →
    W_ref05_Places_2 (.int x.p) (.int x.c) (.int x.n) (.int x.b) (.int x.pr) (.int x.f) (.int x.g) x7 x8 g0 [.int i, .agg (row x.all x.g x.f (2 * x.all + i * x.g * (x.f + 1)))] =
      some [.agg (row x.all x.g x.f x.total)]
  | 0, i, h => by
    have hi : i = x.all := by omega
    have hno : ¬ (i : Int) < (x.all : Int) := by omega
    rw [W_ref05_Places_2_eq]
    simp only [D.toInt_int, x.wall, hno, decide_false, Bool.false_eq_true, if_false]
    rw [hi]; rfl
  | k + 1, i, h => by
    have ih := places2 x7 x8 g0 k (i + 1) (by omega)
    have hlt : (i : Int) < (x.all : Int) := by omega
    rw [W_ref05_Places_2_eq]
    simp only [D.toInt_int, x.wall, hlt, decide_true, if_true]
    have h3 := places3 x x7 x8 (.agg (row x.all x.g x.f (2 * x.all + i * x.g * (x.f + 1)))) i (by omega) g0 (W_ref05_Places_2 (.int x.p) (.int x.c) (.int x.n) (.int x.b) (.int x.pr) (.int x.f) (.int x.g) x7 x8 g0) x.g 0 (by omega)
    exact h3.trans ih
theorem places1 : ∀ (k i : Nat), i + k = x.all →
    W_ref05_Places_1 (.int x.p) (.int x.c) (.int x.n) (.int x.b) (.int x.pr) (.int x.f) (.int x.g) [.int i, .agg (row x.all x.g x.f (2 * i))] = some [.agg (row x.all x.g x.f x.total)]
  | 0, i, h => by
    have hi : i = x.all := by omega
    have hno : ¬ (i : Int) < (x.all : Int) := by omega
    rw [W_ref05_Places_1_eq]
    simp only [D.toInt_int, x.wall, hno, decide_false, Bool.false_eq_true, if_false]
    have h2 := places2 x (.int i) (.agg (row x.all x.g x.f (2 * i))) (W_ref05_Places_1 (.int x.p) (.int x.c) (.int x.n) (.int x.b) (.int x.pr) (.int x.f) (.int x.g)) x.all 0 (by omega)
    rw [Nat.zero_mul, Nat.zero_mul, Nat.add_zero] at h2
    rw [← hi] at h2 ⊢
    exact h2
  | k + 1, i, h => by
    have ih := places1 k (i + 1) (by omega)
    have ha := x.all_le
    have hlt : (i : Int) < (x.all : Int) := by omega
    have hw : IntKind.i64.wrap ((i : Int) + 1) = ((i + 1 : Nat) : Int) := by rw [wrap_small _ (by omega) (by omega)]; omega
    have e1 : elt x.all x.g x.f (2 * i) = pl 1 i 0 0 := by
      unfold elt; rw [if_pos (by omega), show 2 * i % 2 = 0 by omega, show 2 * i / 2 = i by omega]
    have e2 : elt x.all x.g x.f (2 * i + 1) = pl 2 i 0 0 := by
      unfold elt; rw [if_pos (by omega), show (2 * i + 1) % 2 = 1 by omega, show (2 * i + 1) / 2 = i by omega]
    have hr : row x.all x.g x.f (2 * (i + 1)) = row x.all x.g x.f (2 * i) ++ [pl 1 i 0 0, pl 2 i 0 0] := by
      rw [show 2 * (i + 1) = 2 * i + 1 + 1 by omega, row_succ, row_succ, e1, e2, List.append_assoc]; rfl
    have hl : (((row x.all x.g x.f (2 * i) ++ [pl 1 i 0 0, pl 2 i 0 0]).length : Nat) : Int) ≤ 4398046511104 := by
      rw [List.length_append, row_length]; simp only [List.length_cons, List.length_nil]; omega
    rw [W_ref05_Places_1_eq]
    rw [hr] at ih
    unfold pl at ih hl
    simp only [D.toInt_int, D.toL_agg, x.wall, hlt, decide_true, if_true, hw]
    have h0 : (D.int (0 : Int)) = D.int ((0 : Nat) : Int) := rfl
    have h1 : (D.int (1 : Int)) = D.int ((1 : Nat) : Int) := rfl
    have h2 : (D.int (2 : Int)) = D.int ((2 : Nat) : Int) := rfl
    simp only [h0, h1, h2, hl, decide_true, if_true, ih]
theorem places_eq : FX 15 x.cf.ds = some [.agg (row x.all x.g x.f x.total)] := by
  have := places1 x x.all 0 (by omega)
  unfold Cf.ds Nf.cf
  rw [E_ref05_Places]
  exact this
theorem all_eq : FX 11 x.cf.ds = some [.int x.all] := by
  unfold Cf.ds Nf.cf
  rw [E_rules_Rules_All]
  simp only [D.toInt_int, x.wall]
end
end Go.Proofs.YtifghdombpcpjaaDoor.RU
