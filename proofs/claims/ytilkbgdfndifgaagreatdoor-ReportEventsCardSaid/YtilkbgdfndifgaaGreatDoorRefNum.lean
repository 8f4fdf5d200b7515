/-
  ref01.Decimal and ref15.Num, ref15.Split on data.
-/
import Derived.Test.YtilkbgdfndifgaaGreatDoorAllE
import Derived.Test.YtilkbgdfndifgaaGreatDoorDat
import Derived.Test.YtilkbgdfndifgaaGreatDoorNumP
namespace Go.Proofs.YtilkbgdfndifgaaGreatDoor.RefD
open Go.Proofs.YtilkbgdfndifgaaGreatDoor.Eng Go.Proofs.YtilkbgdfndifgaaGreatDoor Go.Proofs.YtilkbgdfndifgaaGreatDoor.Dat Go.Proofs.YtilkbgdfndifgaaGreatDoor.WordP
open Go.Lib (decDigits itoa)
set_option linter.unusedVariables false
set_option linter.unusedSimpArgs false

theorem digit_eq (n : Nat) (h : n ≤ 9) : FX 32 [.int n] = some [.str (toB [UInt8.ofNat (48 + n)])] := by
  have h1 : FX 32 = StrD.baseD 32 := fix_base (by rfl)
  rw [h1]
  show StrD.digitF [.int n] = _
  unfold StrD.digitF
  have : 0 ≤ (n : Int) ∧ (n : Int) ≤ 9 := by omega
  simp only [this, and_self, if_true, Int.toNat_natCast]
  rfl
theorem dec_len (n : Nat) (h : n < 2 ^ 64) : (decDigits n).length ≤ 64 := by
  rw [Go.Lib.decDigits_length]
  have : ∀ k u : Nat, u < 2 ^ k → 1 ≤ k → Go.Lib.nDigits u ≤ k := by
    intro k
    induction k with
    | zero => intro u _ h; omega
    | succ k ih =>
      intro u hu _
      by_cases h10 : u < 10
      · rw [Go.Lib.nDigits_small h10]; omega
      · rw [Go.Lib.nDigits_big h10]
        by_cases hk : k = 0
        · subst hk; omega
        · have := ih (u / 10) (by rw [Nat.pow_succ] at hu; omega) (by omega)
          omega
  exact this 64 n h (by omega)
theorem dec_eq : ∀ n : Nat, n < 2 ^ 63 → FX 20 [.int n] = some [.str (toB (decDigits n))] := by
  intro n
  induction n using Nat.strongRecOn with
  | _ n ih =>
    intro hn
    rw [E_ref01_Decimal]
    have h0 : ¬ ((n : Int) < 0) := by omega
    by_cases h : n < 10
    · have h1 : ((n : Int) < 10) := by omega
      simp only [D.toInt_int, h0, h1, decide_true, decide_false, Bool.false_eq_true, if_false, if_true, digit_eq n (by omega), bindC, List.length_cons, List.length_nil, List.getD_cons_zero, decDigits_small h]
    · have h1 : ¬ ((n : Int) < 10) := by omega
      have e1 : Int.tdiv (n : Int) 10 = ((n / 10 : Nat) : Int) := (Int.ofNat_tdiv n 10).symm
      have e2 : Int.tmod (n : Int) 10 = ((n % 10 : Nat) : Int) := (Int.ofNat_tmod n 10).symm
      have e3 : IntKind.i64.wrap ((n / 10 : Nat) : Int) = ((n / 10 : Nat) : Int) := wrap_small _ (by omega) (by omega)
      have hl := dec_len (n / 10) (by omega)
      have l1 : IntKind.i64.wrap (((decDigits (n / 10)).length : Int) + ((0 + 1 : Nat) : Int)) = (((decDigits (n / 10)).length + 1 : Nat) : Int) := by rw [wrap_small _ (by omega) (by omega)]; omega
      have l2 : ((((decDigits (n / 10)).length + 1 : Nat) : Int) ≤ 4611686018427387903) := by omega
      have l3 : ((((decDigits (n / 10)).length : Nat) : Int) ≤ 4611686018427387903) := by omega
      have l4 : (((0 + 1 : Nat) : Int) ≤ 4611686018427387903) := by omega
      simp only [D.toInt_int, h0, h1, decide_true, decide_false, Bool.false_eq_true, if_false, if_true, e1, e2, e3, ih (n / 10) (by omega) (by omega), digit_eq (n % 10) (by omega), bindC, List.length_cons, List.length_nil, List.getD_cons_zero, D.toStr_str, toB_size, l1, l2, l3, l4, append_toB]
      rw [decDigits_big h]
theorem u8_sub {c : UInt8} (h : dgt c = true) : IntKind.i64.wrap (IntKind.u8.wrap ((c.toNat : Int) - 48)) = ((c.toNat - 48 : Nat) : Int) := by
  have := dgt_iff.1 h
  have h1 : IntKind.u8.wrap ((c.toNat : Int) - 48) = ((c.toNat - 48 : Nat) : Int) := by
    simp [IntKind.wrap, IntKind.bits, IntKind.signed]; omega
  rw [h1, wrap_small _ (by omega) (by omega)]
theorem take_snoc {l : Bs} {i : Nat} (h : i < l.length) : l.take (i + 1) = l.take i ++ [l[i]] := by
  rw [List.take_add_one, List.getElem?_eq_getElem h]; rfl
end Go.Proofs.YtilkbgdfndifgaaGreatDoor.RefD
