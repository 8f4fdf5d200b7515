/-
  A word with another number in a field, bit by bit: no program in sight.
-/
import Derived.Test.YtnbnjkbkjmlomaaFMath
namespace Go.Proofs.Ytnbnjkbkjmlomaa
set_option linter.unusedVariables false
set_option linter.unusedSimpArgs false

/-- A word with another number in field i. -/
def setN (ws : List Nat) (x i v : Nat) : Nat := (x &&& (18446744073709551615 - (2 ^ ws.getD i 0 - 1) * 2 ^ lowN ws i)) ||| v * 2 ^ lowN ws i

theorem bit_mul (v k b : Nat) : (v * 2 ^ k).testBit b = (decide (k ≤ b) && v.testBit (b - k)) := by
  rw [← Nat.shiftLeft_eq, Nat.testBit_shiftLeft]
theorem bit_get (ws : List Nat) (x k j : Nat) : (getN ws x k).testBit j = (decide (j < ws.getD k 0) && x.testBit (lowN ws k + j)) := by
  unfold getN
  rw [Nat.testBit_mod_two_pow, Nat.testBit_div_two_pow, Nat.add_comm]
theorem mask_lt (w l : Nat) (h : l + w ≤ 64) : (2 ^ w - 1) * 2 ^ l < 2 ^ 64 := by
  have h1 : (2 ^ w - 1) * 2 ^ l < 2 ^ w * 2 ^ l := Nat.mul_lt_mul_of_pos_right (by have := Nat.two_pow_pos w; omega) (Nat.two_pow_pos _)
  rw [← Nat.pow_add] at h1
  exact Nat.lt_of_lt_of_le h1 (pow_le _ _ (by omega))
theorem bit_set (ws : List Nat) (x i v b : Nat) (h : lowN ws i + ws.getD i 0 ≤ 64) (hx : x < 2 ^ 64) :
    (setN ws x i v).testBit b = ((x.testBit b && !(decide (lowN ws i ≤ b) && decide (b - lowN ws i < ws.getD i 0))) || (decide (lowN ws i ≤ b) && v.testBit (b - lowN ws i))) := by
  have hm := mask_lt _ _ h
  unfold setN
  rw [Nat.testBit_or, Nat.testBit_and, bit_mul]
  have e : 18446744073709551615 - (2 ^ ws.getD i 0 - 1) * 2 ^ lowN ws i = 2 ^ 64 - ((2 ^ ws.getD i 0 - 1) * 2 ^ lowN ws i + 1) := by omega
  rw [e, Nat.testBit_two_pow_sub_succ hm, bit_mul, Nat.testBit_two_pow_sub_one]
  by_cases hb : b < 64
  · simp [-List.getD_eq_getElem?_getD, hb]
  · have : x.testBit b = false := Nat.testBit_lt_two_pow (Nat.lt_of_lt_of_le hx (pow_le _ _ (by omega)))
    simp [this]
theorem low_apart (ws : List Nat) (i k : Nat) (h : i < k) (hi : i < ws.length) : lowN ws i + ws.getD i 0 ≤ lowN ws k := by
  have h1 := lowN_succ ws i hi
  have h2 : lowN ws (i + 1) ≤ lowN ws k := by
    have e : lowN ws (i + 1) = lowN (ws.take k) (i + 1) := by
      unfold lowN
      rw [List.take_take, Nat.min_eq_left (by omega)]
    rw [e]
    exact lowN_le _ _
  rw [List.getD_eq_getElem?_getD, List.getElem?_eq_getElem hi]
  simp only [Option.getD_some]
  omega
theorem get_set {ws : List Nat} (hg : GoodW ws) (x i v k : Nat) (hi : i < ws.length) (hk : k < ws.length) (hx : x < 2 ^ 64) (hv : v < 2 ^ ws.getD i 0) :
    getN ws (setN ws x i v) k = if k = i then v else getN ws x k := by
  have hgi := good_get hg i hi
  have hw : lowN ws i + ws.getD i 0 ≤ 64 := by
    rw [List.getD_eq_getElem?_getD, List.getElem?_eq_getElem hi]
    exact hgi.2.2
  apply Nat.eq_of_testBit_eq
  intro j
  rw [bit_get, bit_set ws x i v _ hw hx]
  by_cases hki : k = i
  · subst hki
    rw [if_pos rfl]
    by_cases hj : j < ws.getD k 0
    · simp [-List.getD_eq_getElem?_getD, hj]
    · have : v.testBit j = false := Nat.testBit_lt_two_pow (Nat.lt_of_lt_of_le hv (pow_le _ _ (by omega)))
      simp [-List.getD_eq_getElem?_getD, hj, this]
  · rw [if_neg hki, bit_get]
    by_cases hj : j < ws.getD k 0
    · rcases Nat.lt_or_ge k i with h | h
      · have h1 := low_apart ws k i h hk
        have h2 : ¬ lowN ws i ≤ lowN ws k + j := by omega
        simp [-List.getD_eq_getElem?_getD, hj, h2]
      · have h1 := low_apart ws i k (by omega) hi
        have h2 : lowN ws i ≤ lowN ws k + j := by omega
        have h3 : ¬ lowN ws k + j - lowN ws i < ws.getD i 0 := by omega
        have h4 : v.testBit (lowN ws k + j - lowN ws i) = false := Nat.testBit_lt_two_pow (Nat.lt_of_lt_of_le hv (pow_le _ _ (by omega)))
        simp [-List.getD_eq_getElem?_getD, hj, h2, h3, h4]
    · simp [-List.getD_eq_getElem?_getD, hj]
theorem set_lt (ws : List Nat) (x i v : Nat) (h : lowN ws i + ws.getD i 0 ≤ 64) (hx : x < 2 ^ 64) (hv : v < 2 ^ ws.getD i 0) : setN ws x i v < 2 ^ 64 := by
  unfold setN
  refine Nat.or_lt_two_pow (Nat.lt_of_le_of_lt Nat.and_le_left hx) ?_
  have h1 : v * 2 ^ lowN ws i < 2 ^ ws.getD i 0 * 2 ^ lowN ws i := Nat.mul_lt_mul_of_pos_right hv (Nat.two_pow_pos _)
  rw [← Nat.pow_add] at h1
  exact Nat.lt_of_lt_of_le h1 (pow_le _ _ (by omega))
theorem set_back {ws : List Nat} (hg : GoodW ws) (x i v : Nat) (hi : i < ws.length) (hx : x < 2 ^ 64) (hv : v < 2 ^ ws.getD i 0) :
    setN ws (setN ws x i v) i (getN ws x i) = x := by
  have hgi := good_get hg i hi
  have hw : lowN ws i + ws.getD i 0 ≤ 64 := by
    rw [List.getD_eq_getElem?_getD, List.getElem?_eq_getElem hi]
    exact hgi.2.2
  apply Nat.eq_of_testBit_eq
  intro b
  rw [bit_set ws _ i _ b hw (set_lt ws x i v hw hx hv), bit_set ws x i v b hw hx, bit_get]
  by_cases h1 : lowN ws i ≤ b
  · by_cases h2 : b - lowN ws i < ws.getD i 0
    · simp [-List.getD_eq_getElem?_getD, h1, h2]
    · have h4 : v.testBit (b - lowN ws i) = false := Nat.testBit_lt_two_pow (Nat.lt_of_lt_of_le hv (pow_le _ _ (by omega)))
      simp [-List.getD_eq_getElem?_getD, h1, h2, h4]
  · simp [-List.getD_eq_getElem?_getD, h1]
end Go.Proofs.Ytnbnjkbkjmlomaa
