/-
  Small lemmas for laws on data.
-/
import Derived.Test.YtilkbgdfndifgaaGreatDoorEngX
namespace Go.Proofs.YtilkbgdfndifgaaGreatDoor.Dat
open Go.Proofs.YtilkbgdfndifgaaGreatDoor.Eng
set_option linter.unusedVariables false
set_option linter.unusedSimpArgs false

theorem wrap_small (x : Int) (h1 : -9223372036854775808 ≤ x) (h2 : x ≤ 9223372036854775807) : IntKind.i64.wrap x = x := by
  simp [IntKind.wrap, IntKind.bits, IntKind.signed]; omega
theorem i64w (x : Int) (h1 : -9223372036854775808 ≤ x) (h2 : x ≤ 9223372036854775807) : IntKind.i64.wrap x = x := by
  simp [IntKind.wrap, IntKind.bits, IntKind.signed]; omega
theorem wrap_nat (n : Nat) (h : n ≤ 9223372036854775807) : IntKind.i64.wrap (n : Int) = (n : Int) := i64w _ (by omega) (by omega)
theorem getD_lt {l : List D} {i : Nat} (h : i < l.length) : l.getD i D.nil = l[i] := by rw [List.getD_eq_getElem?_getD, List.getElem?_eq_getElem h]; rfl
theorem mul_le {a b c d : Nat} (h1 : a ≤ c) (h2 : b ≤ d) : a * b ≤ c * d := Nat.mul_le_mul h1 h2
end Go.Proofs.YtilkbgdfndifgaaGreatDoor.Dat
