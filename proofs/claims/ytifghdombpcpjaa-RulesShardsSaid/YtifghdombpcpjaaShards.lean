/-
  The law RulesShards, on data.
-/
import Derived.Test.YtifghdombpcpjaaRules
namespace Go.Proofs.Ytifghdombpcpjaa.RU
open Go.RowKit Go.Proofs.Ytifghdombpcpjaa.Eng Go.Proofs.Ytifghdombpcpjaa
set_option linter.unusedVariables false
set_option linter.unusedSimpArgs false

theorem awake_eq : tab3 9 [] = some [.bool true] := by kernel_rfl
theorem new3 (c : Cf) : tab3 7 c.ds = tab2 7 c.ds := by simp [tab3, add]
theorem band_eq (c : Cf) (p : Int) (h1 : 1 ≤ p) (h2 : p ≤ 9999) (hb : 1 ≤ c.c3) (hb2 : c.c3 ≤ 4) : tab3 20 (c.ds ++ [.int p]) = some [.int (((p - 1) * c.c3) / 9999)] := by
  have hx : 0 ≤ (p - 1) * c.c3 ∧ (p - 1) * c.c3 ≤ 39992 := by
    have : c.c3 = 1 ∨ c.c3 = 2 ∨ c.c3 = 3 ∨ c.c3 = 4 := by omega
    rcases this with h | h | h | h <;> rw [h] <;> omega
  have n1 : ¬ p < 1 := by omega
  have n2 : ¬ 9999 < p := by omega
  have e1 : IntKind.i64.wrap (p - 1) = p - 1 := wrap_small _ (by omega) (by omega)
  have e2 : IntKind.i64.wrap ((p - 1) * c.c3) = (p - 1) * c.c3 := wrap_small _ (by omega) (by omega)
  have e3 : ((p - 1) * c.c3).tdiv 9999 = ((p - 1) * c.c3) / 9999 := Int.tdiv_eq_ediv_of_nonneg hx.1
  have e4 : IntKind.i64.wrap (((p - 1) * c.c3) / 9999) = ((p - 1) * c.c3) / 9999 := wrap_small _ (by omega) (by omega)
  simp [tab3, tab2, tab1, add, eval, trBand, den, cmpF, arF, Cf.ds, n1, n2, e1, e2, e3, e4]
theorem shard_eq (c : Cf) (n b : Int) (h1 : 0 ≤ n) (h2 : n < c.c2) (h3 : 0 ≤ b) (h4 : b < c.c3) (hn : c.c2 ≤ 3) (hb2 : c.c3 ≤ 4) : tab3 19 (c.ds ++ [.int n, .int b]) = some [.int (n * c.c3 + b)] := by
  have hx : 0 ≤ n * c.c3 ∧ n * c.c3 ≤ 8 := by
    have : n = 0 ∨ n = 1 ∨ n = 2 := by omega
    rcases this with h | h | h <;> rw [h] <;> omega
  have n1 : ¬ n < 0 := by omega
  have n2 : ¬ c.c2 ≤ n := by omega
  have n3 : ¬ b < 0 := by omega
  have n4 : ¬ c.c3 ≤ b := by omega
  have e1 : IntKind.i64.wrap (n * c.c3) = n * c.c3 := wrap_small _ (by omega) (by omega)
  have e2 : IntKind.i64.wrap (n * c.c3 + b) = n * c.c3 + b := wrap_small _ (by omega) (by omega)
  simp [tab3, tab2, tab1, add, eval, trShard, den, cmpF, arF, Cf.ds, n1, n2, n3, n4, e1, e2]
theorem shards_eq (c : Cf) (h1 : 1 ≤ c.c2) (hn : c.c2 ≤ 3) (h2 : 1 ≤ c.c3) (hb2 : c.c3 ≤ 4) : tab3 15 c.ds = some [.int (c.c2 * c.c3)] := by
  have hx : 0 ≤ c.c2 * c.c3 ∧ c.c2 * c.c3 ≤ 12 := by
    have : c.c2 = 1 ∨ c.c2 = 2 ∨ c.c2 = 3 := by omega
    rcases this with h | h | h <;> rw [h] <;> omega
  have e1 : IntKind.i64.wrap (c.c2 * c.c3) = c.c2 * c.c3 := wrap_small _ (by omega) (by omega)
  simp [tab3, tab2, tab1, add, eval, trShards, den, cmpF, arF, Cf.ds, e1]
theorem parted_eq (c : Cf) (x : Int) (h0 : 0 ≤ x) (hx : x < c.c2 * c.c3) (h1 : 1 ≤ c.c2) (hn : c.c2 ≤ 3) (h2 : 1 ≤ c.c3) (hb2 : c.c3 ≤ 4) : tab3 21 (c.ds ++ [.int x]) = some [.int (x / c.c3), .int (x % c.c3)] := by
  have hs := shards_eq c h1 hn h2 hb2
  have hx12 : c.c2 * c.c3 ≤ 12 := by
    have : c.c2 = 1 ∨ c.c2 = 2 ∨ c.c2 = 3 := by omega
    rcases this with h | h | h <;> rw [h] <;> omega
  have n1 : ¬ x < 0 := by omega
  have n2 : ¬ c.c2 * c.c3 ≤ x := by omega
  have n3 : c.c3 ≠ 0 := by omega
  have e1 : x.tdiv c.c3 = x / c.c3 := Int.tdiv_eq_ediv_of_nonneg h0
  have e2 : x.tmod c.c3 = x % c.c3 := Int.tmod_eq_emod_of_nonneg h0
  have b1 : 0 ≤ x / c.c3 := Int.ediv_nonneg h0 (by omega)
  have b2 : x / c.c3 ≤ x := Int.ediv_le_self _ h0
  have e3 : IntKind.i64.wrap (x / c.c3) = x / c.c3 := wrap_small _ (by omega) (by omega)
  simp [tab3, tab2, tab1, add, Cf.ds] at hs
  simp [tab3, tab2, tab1, add, eval, trParted, den, cmpF, arF, Cf.ds, n1, n2, n3, e1, e2, e3, hs]
end Go.Proofs.Ytifghdombpcpjaa.RU
