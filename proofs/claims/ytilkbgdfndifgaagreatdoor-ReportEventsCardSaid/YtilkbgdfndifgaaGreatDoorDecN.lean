/-
  ref01.Decimal and strconv.Itoa of any int, on data.
-/
import Derived.Test.YtilkbgdfndifgaaGreatDoorRefNum
namespace Go.Proofs.YtilkbgdfndifgaaGreatDoor.RefD
open Go.Proofs.YtilkbgdfndifgaaGreatDoor.Eng Go.Proofs.YtilkbgdfndifgaaGreatDoor Go.Proofs.YtilkbgdfndifgaaGreatDoor.Dat Go.Proofs.YtilkbgdfndifgaaGreatDoor.WordP
open Go.Lib (decDigits itoa)
set_option linter.unusedVariables false
set_option linter.unusedSimpArgs false

theorem itoa_neg (n : Nat) (h : 0 < n) : itoa (-(n : Int)) = 45 :: decDigits n := by
  unfold itoa
  rw [if_pos (by omega)]
  congr 1
  congr 1
  omega
theorem itoa_nn (n : Nat) : itoa (n : Int) = decDigits n := by
  unfold itoa
  rw [if_neg (by omega)]
  congr 1
theorem dec_neg : ∀ n : Nat, 0 < n → n ≤ 2 ^ 63 → FX 20 [.int (-(n : Int))] = some [.str (toB (45 :: decDigits n))] := by
  intro n
  induction n using Nat.strongRecOn with
  | _ n ih =>
    intro h0 hn
    rw [E_ref01_Decimal]
    have g0 : (-(n : Int)) < 0 := by omega
    have e1 : Int.tdiv (-(n : Int)) 10 = -((n / 10 : Nat) : Int) := by rw [Int.neg_tdiv]; congr 1
    have e2 : Int.tmod (-(n : Int)) 10 = -((n % 10 : Nat) : Int) := by rw [Int.neg_tmod]; congr 1
    have e3 : IntKind.i64.wrap (-((n / 10 : Nat) : Int)) = -((n / 10 : Nat) : Int) := i64w _ (by omega) (by omega)
    have em : (ByteArray.mk #[45]) = toB [45] := rfl
    by_cases h : n < 10
    · have hz : ((-((n / 10 : Nat) : Int)) == 0) = true := by simp; omega
      have e4 : IntKind.i64.wrap (0 - (-(n : Int))) = ((n : Nat) : Int) := by rw [i64w _ (by omega) (by omega)]; omega
      have l1 : IntKind.i64.wrap (((0 + 1 : Nat) : Int) + ((0 + 1 : Nat) : Int)) = 2 := by decide
      have l2 : ((2 : Int) ≤ 4611686018427387903) := by decide
      have l4 : (((0 + 1 : Nat) : Int) ≤ 4611686018427387903) := by decide
      simp only [D.toInt_int, g0, decide_true, if_true, e1, e3, hz, e4, digit_eq n (by omega), bindC, List.length_cons, List.length_nil, List.getD_cons_zero, D.toStr_str, em, toB_size, l1, l2, l4, append_toB]
      rw [decDigits_small h]
      rfl
    · have hz : ((-((n / 10 : Nat) : Int)) == 0) = false := by simp; omega
      have e4 : IntKind.i64.wrap (0 - (-((n % 10 : Nat) : Int))) = ((n % 10 : Nat) : Int) := by rw [i64w _ (by omega) (by omega)]; omega
      have hl := dec_len (n / 10) (by omega)
      have l1 : IntKind.i64.wrap ((((decDigits (n / 10)).length + 1 : Nat) : Int) + ((0 + 1 : Nat) : Int)) = (((decDigits (n / 10)).length + 2 : Nat) : Int) := by rw [i64w _ (by omega) (by omega)]; omega
      have l2 : ((((decDigits (n / 10)).length + 2 : Nat) : Int) ≤ 4611686018427387903) := by omega
      have l3 : ((((decDigits (n / 10)).length + 1 : Nat) : Int) ≤ 4611686018427387903) := by omega
      have l4 : (((0 + 1 : Nat) : Int) ≤ 4611686018427387903) := by omega
      simp only [D.toInt_int, g0, decide_true, if_true, e1, e2, e3, hz, e4, Bool.false_eq_true, if_false, ih (n / 10) (by omega) (by omega) (by omega), digit_eq (n % 10) (by omega), bindC, List.length_cons, List.length_nil, List.getD_cons_zero, D.toStr_str, toB_size, l1, l2, l3, l4, decide_true, append_toB]
      rw [decDigits_big h]
      rfl
theorem dec_any (n : Int) (h1 : -9223372036854775808 ≤ n) (h2 : n ≤ 9223372036854775807) : FX 20 [.int n] = some [.str (toB (itoa n))] := by
  by_cases h : n < 0
  · obtain ⟨m, rfl⟩ : ∃ m : Nat, n = -(m : Int) := ⟨(-n).toNat, by omega⟩
    rw [itoa_neg m (by omega)]
    exact dec_neg m (by omega) (by omega)
  · obtain ⟨m, rfl⟩ := Int.eq_ofNat_of_zero_le (show 0 ≤ n by omega)
    rw [itoa_nn]
    exact dec_eq m (by omega)
theorem itoa_all (n : Int) (h1 : -9223372036854775808 ≤ n) (h2 : n ≤ 9223372036854775807) : FX 17 [.int n] = some [.str (toB (itoa n))] := by
  have h : FX 17 = StrD.base 17 := fix_base (by rfl)
  rw [h]
  show StrD.itoaF [.int n] = _
  unfold StrD.itoaF
  have : -9223372036854775808 ≤ n ∧ n ≤ 9223372036854775807 := ⟨h1, h2⟩
  simp only [this, and_self, if_true]
  rfl
end Go.Proofs.YtilkbgdfndifgaaGreatDoor.RefD
