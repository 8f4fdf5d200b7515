/-
  report.Terms and ref29.Terms: the same words.
-/
import Derived.Test.YtilkbgdfndifgaaGreatDoorWordsR
import Derived.Test.YtilkbgdfndifgaaGreatDoorDecN
namespace Go.Proofs.YtilkbgdfndifgaaGreatDoor.RepD
open Go.Proofs.YtilkbgdfndifgaaGreatDoor.Eng Go.Proofs.YtilkbgdfndifgaaGreatDoor Go.Proofs.YtilkbgdfndifgaaGreatDoor.Dat Go.Proofs.YtilkbgdfndifgaaGreatDoor.WordP Go.Proofs.YtilkbgdfndifgaaGreatDoor.StrL Go.Proofs.YtilkbgdfndifgaaGreatDoor.RefD
open Go.Lib (decDigits itoa)
set_option linter.unusedVariables false
set_option linter.unusedSimpArgs false

def sideB (s : Int) : Bs := if s = 0 then [98, 117, 121] else if s = 1 then [115, 101, 108, 108] else [63]
theorem sideB_len (s : Int) : (sideB s).length ≤ 4 := by
  unfold sideB
  split
  · decide
  · split <;> decide
theorem name_eq (s : Int) : FX 14 [.int s] = some [.str (toB (sideB s))] := by
  rw [E_terms_Name]
  unfold sideB
  by_cases h0 : s = 0
  · subst h0; rfl
  · by_cases h1 : s = 1
    · subst h1; rfl
    · have e0 : (s == 0) = false := by simpa using h0
      have e1 : (s == 1) = false := by simpa using h1
      simp only [D.toInt_int, e0, e1, Bool.false_eq_true, if_false, h0, h1]
      rfl
theorem side_eq (s : Int) : FX 15 [.int s] = some [.str (toB (sideB s))] := by
  rw [E_ref29_side]
  unfold sideB
  by_cases h0 : s = 0
  · subst h0; rfl
  · by_cases h1 : s = 1
    · subst h1; rfl
    · have e0 : (s == 0) = false := by simpa using h0
      have e1 : (s == 1) = false := by simpa using h1
      simp only [D.toInt_int, e0, e1, Bool.false_eq_true, if_false, h0, h1]
      rfl
def inI (x : Int) : Prop := -9223372036854775808 ≤ x ∧ x ≤ 9223372036854775807
theorem itoa_len {x : Int} (h : inI x) : (itoa x).length ≤ 20 := by
  by_cases hx : x < 0
  · obtain ⟨m, rfl⟩ : ∃ m : Nat, x = -(m : Int) := ⟨(-x).toNat, by omega⟩
    rw [itoa_neg m (by omega)]
    have h1 := h.1
    rcases Nat.lt_or_ge 9223372036854775807 m with hm | hm
    · have : m = 9223372036854775808 := by omega
      subst this
      have : (decDigits 9223372036854775808).length ≤ 19 := by
        rw [Go.Lib.decDigits_length]
        exact nDigits_le 19 _ (by omega) (by decide)
      simp only [List.length_cons]; omega
    · have := StrL.dec_len hm
      simp only [List.length_cons]; omega
  · obtain ⟨m, rfl⟩ := Int.eq_ofNat_of_zero_le (show 0 ≤ x by omega)
    rw [itoa_nn]
    have := StrL.dec_len (n := m) (by have := h.2; omega)
    omega
theorem d_eq (x : Int) (h : inI x) : FX 12 [.int x] = some [.str (toB (itoa x))] := by
  rw [E_ref29_d, dec_any x h.1 h.2]
  rfl
def termsI (n s p l u : Int) : List It := [.s (sideB s), .n n, .s [97, 116], .n p, .s [108, 101, 97, 115, 116], .n l, .s [117, 110, 116, 105, 108], .n u]
def termsB (n s p l u : Int) : Bs := un ((termsI n s p l u).map It.sh)
theorem terms_r (n s p l u : Int) (hn : inI n) (hp : inI p) (hl : inI l) (hu : inI u) : FX 7 [.int n, .int s, .int p, .int l, .int u] = some [.str (toB (termsB n s p l u))] := by
  rw [E_report_Terms, name_eq]
  simp only [bindC, List.length_cons, List.length_nil, List.getD_cons_zero]
  have hw := words_eq (termsI n s p l u) (by
    intro x hx
    simp only [termsI, List.mem_cons, List.not_mem_nil, or_false] at hx
    rcases hx with rfl | rfl | rfl | rfl | rfl | rfl | rfl | rfl <;> first | exact trivial | assumption) (by
    have h1 := itoa_len hn
    have h2 := itoa_len hp
    have h3 := itoa_len hl
    have h4 := itoa_len hu
    have h5 := sideB_len s
    simp only [termsI, span, List.map_cons, List.map_nil, It.sh, List.sum_cons, List.sum_nil, List.length_cons, List.length_nil]
    omega)
  have he : (D.agg ((termsI n s p l u).map It.d)) = D.agg [D.iface 9 (.str (toB (sideB s))), .iface 3 (.int n), .iface 9 (.str (ByteArray.mk #[97, 116])), .iface 3 (.int p), .iface 9 (.str (ByteArray.mk #[108, 101, 97, 115, 116])), .iface 3 (.int l), .iface 9 (.str (ByteArray.mk #[117, 110, 116, 105, 108])), .iface 3 (.int u)] := rfl
  rw [he] at hw
  simp only [hw, List.length_cons, List.length_nil, if_true, List.getD_cons_zero]
  rfl
theorem grd (a b : Nat) (h : a + b ≤ 1000000) : decide (IntKind.i64.wrap ((a : Int) + (b : Int)) ≤ (4611686018427387903 : Int)) = true := by
  rw [i64w _ (by omega) (by omega)]
  simp only [decide_eq_true_eq]; omega
theorem grd1 (a : Nat) (h : a ≤ 1000000) : decide ((a : Int) ≤ (4611686018427387903 : Int)) = true := by
  simp only [decide_eq_true_eq]; omega
/-- Two texts, one behind the other. -/
theorem catI {a b : Nat} {x : Option (List D)} (h : a + b ≤ 1000000) : (if decide (IntKind.i64.wrap ((a : Int) + (b : Int)) ≤ (4611686018427387903 : Int)) = true then (if decide ((a : Int) ≤ (4611686018427387903 : Int)) = true then (if decide ((b : Int) ≤ (4611686018427387903 : Int)) = true then x else none) else none) else none) = x := by
  rw [if_pos (grd a b h), if_pos (grd1 a (by omega)), if_pos (grd1 b (by omega))]
set_option maxHeartbeats 1000000 in
theorem terms_ref (n s p l u : Int) (hn : inI n) (hp : inI p) (hl : inI l) (hu : inI u) : FX 8 [.int n, .int s, .int p, .int l, .int u] = some [.str (toB (termsB n s p l u))] := by
  have h1 := itoa_len hn
  have h2 := itoa_len hp
  have h3 := itoa_len hl
  have h4 := itoa_len hu
  have h5 := sideB_len s
  have b1 : (ByteArray.mk #[32]) = toB [32] := rfl
  have b2 : (ByteArray.mk #[32, 97, 116, 32]) = toB [32, 97, 116, 32] := rfl
  have b3 : (ByteArray.mk #[32, 108, 101, 97, 115, 116, 32]) = toB [32, 108, 101, 97, 115, 116, 32] := rfl
  have b4 : (ByteArray.mk #[32, 117, 110, 116, 105, 108, 32]) = toB [32, 117, 110, 116, 105, 108, 32] := rfl
  have st : ∀ (a : D) (k : List D → Option (List D)), bindC (some [a]) 1 k = k [a] := fun a k => by simp [bindC]
  have g0 : ∀ a : D, ([a] : List D).getD 0 .nil = a := fun a => rfl
  rw [E_ref29_Terms, side_eq, st]
  simp only [g0, D.toStr_str, D.toInt_int, b1, b2, b3, b4, append_toB, toB_size]
  rw [catI (by simp only [List.length_append, List.length_cons, List.length_nil]; omega), d_eq n hn, st]
  simp only [g0, D.toStr_str, D.toInt_int, append_toB, toB_size]
  rw [catI (by simp only [List.length_append, List.length_cons, List.length_nil]; omega), catI (by simp only [List.length_append, List.length_cons, List.length_nil]; omega), d_eq p hp, st]
  simp only [g0, D.toStr_str, D.toInt_int, append_toB, toB_size]
  rw [catI (by simp only [List.length_append, List.length_cons, List.length_nil]; omega), catI (by simp only [List.length_append, List.length_cons, List.length_nil]; omega), d_eq l hl, st]
  simp only [g0, D.toStr_str, D.toInt_int, append_toB, toB_size]
  rw [catI (by simp only [List.length_append, List.length_cons, List.length_nil]; omega), catI (by simp only [List.length_append, List.length_cons, List.length_nil]; omega), d_eq u hu, st]
  simp only [g0, D.toStr_str, D.toInt_int, append_toB, toB_size]
  rw [catI (by simp only [List.length_append, List.length_cons, List.length_nil]; omega)]
  simp [termsB, termsI, It.sh, un_cons, un_one]
end Go.Proofs.YtilkbgdfndifgaaGreatDoor.RepD
