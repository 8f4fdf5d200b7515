/-
  errors.Is, law01.Num, errors.As and fault.Place on data: of a code, and of a fault around a code.
-/
import Derived.Test.YtnaemggpelolcaaGreatDoorAllE
import Derived.Test.YtnaemggpelolcaaGreatDoorDat
import Derived.Test.YtnaemggpelolcaaGreatDoorErrF
namespace Go.Proofs.YtnaemggpelolcaaGreatDoor.NumE
open Go.Proofs.YtnaemggpelolcaaGreatDoor.Eng Go.Proofs.YtnaemggpelolcaaGreatDoor Go.Proofs.YtnaemggpelolcaaGreatDoor.Dat
set_option linter.unusedVariables false
set_option linter.unusedSimpArgs false

theorem is_eq (ds : List D) : FX 24 ds = ErrD.isF ds := by
  have h : FX 24 = ErrD.base 24 := fix_base (by rfl)
  rw [h]; rfl
def code (c : Int) : D := .iface 50 (.int c)
def errAt (i c : Int) : D := .iface 58 (.agg [.int i, code c])
theorem num_loop (x : D) (c : Int) (hc : 1 ≤ c ∧ c ≤ 29) (his : ∀ i, FX 24 [x, .iface 50 (.int i)] = some [.bool (c == i)]) : ∀ (d : Nat) (i : Int), i + d = c → 1 ≤ i → W_law01_Num_1 x [.int i] = some [.int c]
  | d, i, h, hi => by
    have hlt : i < 30 := by omega
    rw [W_law01_Num_1_eq]
    simp only [D.toInt_int, hlt, decide_true, if_true, his, bindC, List.length_cons, List.length_nil, List.getD_cons_zero, D.toBool_bool]
    by_cases he : c = i
    · simp [he]
    · have hb : (c == i) = false := by simpa using he
      simp only [hb, Bool.false_eq_true, if_false]
      rw [i64w _ (by omega) (by omega)]
      match d, h with
      | 0, h => omega
      | d + 1, h => exact num_loop x c hc his d (i + 1) (by omega) (by omega)
theorem is_code (c i : Int) : FX 24 [code c, .iface 50 (.int i)] = some [.bool (c == i)] := by
  rw [is_eq]; simp [ErrD.isF, ErrD.isN, code]
theorem is_at (p c i : Int) : FX 24 [errAt p c, .iface 50 (.int i)] = some [.bool (c == i)] := by
  rw [is_eq]; simp [ErrD.isF, ErrD.isN, code, errAt]
theorem num_code (c : Int) (hc : 1 ≤ c ∧ c ≤ 29) : FX 11 [code c] = some [.int c] := by
  rw [E_law01_Num]
  exact num_loop _ c hc (is_code c) (c - 1).toNat 1 (by omega) (by omega)
theorem num_at (p c : Int) (hc : 1 ≤ c ∧ c ≤ 29) : FX 11 [errAt p c] = some [.int c] := by
  rw [E_law01_Num]
  exact num_loop _ c hc (is_at p c) (c - 1).toNat 1 (by omega) (by omega)
theorem as_eq (ds : List D) : FX 23 ds = ErrD.asFn ds := by
  have h : FX 23 = ErrD.base 23 := fix_base (by rfl)
  rw [h]; rfl
theorem place_at (p c : Int) (hs : List D) : ∃ y, FX 9 [errAt p c, .agg hs] = some [.int p, .bool true, .agg (hs ++ [y])] := by
  refine ⟨.agg [.agg [.int p, code c]], ?_⟩
  rw [E_fault_Place, as_eq]
  simp [ErrD.asFn, ErrD.asRes, ErrD.asF, errAt, bindC]
end Go.Proofs.YtnaemggpelolcaaGreatDoor.NumE
