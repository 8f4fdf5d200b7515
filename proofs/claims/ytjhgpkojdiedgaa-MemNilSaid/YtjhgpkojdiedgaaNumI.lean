/-
  law01.Num on data: of a code, and of a fault around a code.
-/
import Derived.Test.YtjhgpkojdiedgaaAllE
import Derived.Test.YtjhgpkojdiedgaaDat
import Derived.Test.YtjhgpkojdiedgaaIsF
namespace Go.Proofs.Ytjhgpkojdiedgaa.NumD
open Go.Proofs.Ytjhgpkojdiedgaa.Eng Go.Proofs.Ytjhgpkojdiedgaa Go.Proofs.Ytjhgpkojdiedgaa.Dat
set_option linter.unusedVariables false
set_option linter.unusedSimpArgs false

theorem is_eq (ds : List D) : FX 21 ds = IsD.isF ds := by
  have h : FX 21 = IsD.isBase 21 := fix_base (by rfl)
  rw [h]; rfl
def code (c : Int) : D := .iface 49 (.int c)
def errAt (i c : Int) : D := .iface 61 (.agg [.int i, code c])
theorem num_loop (x : D) (c : Int) (hc : 1 ≤ c ∧ c ≤ 29) (his : ∀ i, FX 21 [x, .iface 49 (.int i)] = some [.bool (c == i)]) : ∀ (d : Nat) (i : Int), i + d = c → 1 ≤ i → W_law01_Num_1 x [.int i] = some [.int c]
  | d, i, h, hi => by
    have hlt : i < 30 := by omega
    rw [W_law01_Num_1_eq]
    simp only [D.toInt_int, hlt, decide_true, if_true, his, bindC, List.length_cons, List.length_nil, List.getD_cons_zero, D.toBool_bool]
    by_cases he : c = i
    · simp [he]
    · have hb : (c == i) = false := by simpa using he
      simp only [hb, Bool.false_eq_true, if_false]
      rw [i64w _ (by omega) (by omega)]
      match d, h with
      | 0, h => omega
      | d + 1, h => exact num_loop x c hc his d (i + 1) (by omega) (by omega)
theorem num_code (c : Int) (hc : 1 ≤ c ∧ c ≤ 29) : FX 16 [code c] = some [.int c] := by
  rw [E_law01_Num]
  exact num_loop _ c hc (fun i => by rw [is_eq]; rfl) (c - 1).toNat 1 (by omega) (by omega)
theorem num_at (p c : Int) (hc : 1 ≤ c ∧ c ≤ 29) : FX 16 [errAt p c] = some [.int c] := by
  rw [E_law01_Num]
  exact num_loop _ c hc (fun i => by rw [is_eq]; rfl) (c - 1).toNat 1 (by omega) (by omega)
end Go.Proofs.Ytjhgpkojdiedgaa.NumD
