/-
  errors.Is, law01.Num, errors.As and fault.Place on data: of a code, and of a fault around a code.
-/
import Derived.Test.YtmgpbjennnadhaaGreatDoorAllE
import Derived.Test.YtmgpbjennnadhaaGreatDoorDat
import Derived.Test.YtmgpbjennnadhaaGreatDoorErrF
namespace Go.Proofs.YtmgpbjennnadhaaGreatDoor.NumE
open Go.Proofs.YtmgpbjennnadhaaGreatDoor.Eng Go.Proofs.YtmgpbjennnadhaaGreatDoor Go.Proofs.YtmgpbjennnadhaaGreatDoor.Dat
set_option linter.unusedVariables false
set_option linter.unusedSimpArgs false

theorem is_eq (ds : List D) : FX 28 ds = ErrD.isF ds := by
  have h : FX 28 = ErrD.base 28 := fix_base (by rfl)
  rw [h]; rfl
def code (c : Int) : D := .iface 22 (.int c)
def errAt (i c : Int) : D := .iface 69 (.agg [.int i, code c])
theorem num_loop (x : D) (c : Int) (hc : 1 ≤ c ∧ c ≤ 29) (his : ∀ i, FX 28 [x, .iface 22 (.int i)] = some [.bool (c == i)]) : ∀ (d : Nat) (i : Int), i + d = c → 1 ≤ i → W_law01_Num_1 x [.int i] = some [.int c]
  | d, i, h, hi => by
    have hlt : i < 30 := by omega
    rw [W_law01_Num_1_eq]
    simp only [D.toInt_int, hlt, decide_true, if_true, his, bindC, List.length_cons, List.length_nil, List.getD_cons_zero, D.toBool_bool]
    by_cases he : c = i
    · simp [he]
    · have hb : (c == i) = false := by simpa using he
      simp only [hb, Bool.false_eq_true, if_false]
      rw [i64w _ (by omega) (by omega)]
      match d, h with
      | 0, h => omega
      | d + 1, h => exact num_loop x c hc his d (i + 1) (by omega) (by omega)
theorem is_code (c i : Int) : FX 28 [code c, .iface 22 (.int i)] = some [.bool (c == i)] := by
  rw [is_eq]; simp [ErrD.isF, ErrD.isN, code]
theorem is_at (p c i : Int) : FX 28 [errAt p c, .iface 22 (.int i)] = some [.bool (c == i)] := by
  rw [is_eq]; simp [ErrD.isF, ErrD.isN, code, errAt]
theorem num_code (c : Int) (hc : 1 ≤ c ∧ c ≤ 29) : FX 10 [code c] = some [.int c] := by
  rw [E_law01_Num]
  exact num_loop _ c hc (is_code c) (c - 1).toNat 1 (by omega) (by omega)
theorem num_at (p c : Int) (hc : 1 ≤ c ∧ c ≤ 29) : FX 10 [errAt p c] = some [.int c] := by
  rw [E_law01_Num]
  exact num_loop _ c hc (is_at p c) (c - 1).toNat 1 (by omega) (by omega)
end Go.Proofs.YtmgpbjennnadhaaGreatDoor.NumE
