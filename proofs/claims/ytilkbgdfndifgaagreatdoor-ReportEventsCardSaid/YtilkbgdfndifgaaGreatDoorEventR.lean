/-
  ref29.Event: an event's words.
-/
import Derived.Test.YtilkbgdfndifgaaGreatDoorTermsR
namespace Go.Proofs.YtilkbgdfndifgaaGreatDoor.RepD
open Go.Proofs.YtilkbgdfndifgaaGreatDoor.Eng Go.Proofs.YtilkbgdfndifgaaGreatDoor Go.Proofs.YtilkbgdfndifgaaGreatDoor.Dat Go.Proofs.YtilkbgdfndifgaaGreatDoor.WordP Go.Proofs.YtilkbgdfndifgaaGreatDoor.StrL Go.Proofs.YtilkbgdfndifgaaGreatDoor.RefD
open Go.Lib (decDigits itoa)
set_option linter.unusedVariables false
set_option linter.unusedSimpArgs false

def kindB (e : Int) : Bs := if e < 0 ∨ 8 < e then [63] else ([[102, 114, 101, 101], [108, 105, 118, 101], [108, 105, 118, 101], [108, 105, 118, 101], [108, 105, 118, 101], [102, 105, 108, 108, 101, 100], [99, 97, 110, 99, 101, 108, 108, 101, 100], [101, 120, 112, 105, 114, 101, 100], [114, 101, 116, 105, 114, 101, 100]] : List Bs).getD e.toNat []
theorem kind_cases (e : Int) : (e < 0 ∨ 8 < e) ∨ e = 0 ∨ e = 1 ∨ e = 2 ∨ e = 3 ∨ e = 4 ∨ e = 5 ∨ e = 6 ∨ e = 7 ∨ e = 8 := by omega
theorem kindB_len (e : Int) : (kindB e).length ≤ 9 := by
  rcases kind_cases e with h | rfl | rfl | rfl | rfl | rfl | rfl | rfl | rfl | rfl
  · unfold kindB; rw [if_pos h]; decide
  all_goals decide
theorem kname_ref (e : Int) : FX 13 [.int e] = some [.str (toB (kindB e))] := by
  rw [E_ref06_Name]
  rcases kind_cases e with h | rfl | rfl | rfl | rfl | rfl | rfl | rfl | rfl | rfl
  · have hk : kindB e = [63] := by unfold kindB; rw [if_pos h]
    rw [hk]
    by_cases h0 : e < 0
    · simp only [D.toInt_int, h0, decide_true, if_true]; rfl
    · have h1 : e > 8 := by omega
      simp only [D.toInt_int, h0, h1, decide_true, decide_false, Bool.false_eq_true, if_false, if_true]; rfl
  all_goals rfl
theorem kname_cell (e : Int) (x1 x2 x3 x4 : D) : FX 11 [.int e, x1, x2, x3, x4] = some [.str (toB (kindB e))] := by
  rw [E_cell_Kind]
  rcases kind_cases e with h | rfl | rfl | rfl | rfl | rfl | rfl | rfl | rfl | rfl
  · have hk : kindB e = [63] := by unfold kindB; rw [if_pos h]
    rw [hk]
    have n0 : (e == 0) = false := by simp; omega
    have n1 : (e == 1) = false := by simp; omega
    have n2 : (e == 2) = false := by simp; omega
    have n3 : (e == 3) = false := by simp; omega
    have n4 : (e == 4) = false := by simp; omega
    have n5 : (e == 5) = false := by simp; omega
    have n6 : (e == 6) = false := by simp; omega
    have n7 : (e == 7) = false := by simp; omega
    have n8 : (e == 8) = false := by simp; omega
    simp only [D.toInt_int, n0, n1, n2, n3, n4, n5, n6, n7, n8, Bool.false_eq_true, if_false]
    rfl
  all_goals rfl
def ofB : Bs := [111, 102]
def tailB (k o wi n s p l u q pr e : Int) : Bs :=
  if k = 1 then 32 :: un [termsB n s p l u, ofB, itoa q] else if k = 2 then 32 :: un [[119, 105, 116, 104], itoa o, itoa wi, ofB, itoa q, [97, 116], itoa pr] else if k = 7 then 32 :: kindB e else []
def lineB (k : Int) (w : Bs) (c g o wi n s p l u q pr t e : Int) : Bs := un [itoa t, w, itoa c, itoa g] ++ tailB k o wi n s p l u q pr e
theorem termsB_len {n p l u : Int} (s : Int) (hn : inI n) (hp : inI p) (hl : inI l) (hu : inI u) : (termsB n s p l u).length ≤ 110 := by
  have h1 := itoa_len hn
  have h2 := itoa_len hp
  have h3 := itoa_len hl
  have h4 := itoa_len hu
  have h5 := sideB_len s
  simp only [termsB, termsI, List.map_cons, List.map_nil, It.sh, un_cons, un_one, List.length_append, List.length_cons, List.length_nil]
  omega
set_option maxHeartbeats 2000000 in
theorem ref_go (k : Int) (w : Bs) (hw : w.length ≤ 10) (c g o wi n s p l u q pr t e : Int) (hc : inI c) (hg : inI g) (ho : inI o) (hwi : inI wi) (hn : inI n) (hp : inI p) (hl : inI l) (hu : inI u) (hq : inI q) (hpr : inI pr) (ht : inI t) :
    J_ref29_Event_1 (.int k) (.int c) (.int g) (.int o) (.int wi) (.int n) (.int s) (.int p) (.int l) (.int u) (.int q) (.int pr) (.int t) (.int e) [.str (toB w)] = some [.str (toB (lineB k w c g o wi n s p l u q pr t e))] := by
  have h1 := itoa_len hc
  have h2 := itoa_len hg
  have h3 := itoa_len ht
  have h4 := itoa_len ho
  have h5 := itoa_len hwi
  have h6 := itoa_len hq
  have h7 := itoa_len hpr
  have h8 := termsB_len s hn hp hl hu
  have h9 := kindB_len e
  have b1 : (ByteArray.mk #[32]) = toB [32] := rfl
  have b2 : (ByteArray.mk #[32, 111, 102, 32]) = toB [32, 111, 102, 32] := rfl
  have b3 : (ByteArray.mk #[32, 119, 105, 116, 104, 32]) = toB [32, 119, 105, 116, 104, 32] := rfl
  have b4 : (ByteArray.mk #[32, 97, 116, 32]) = toB [32, 97, 116, 32] := rfl
  have st : ∀ (a : D) (k : List D → Option (List D)), bindC (some [a]) 1 k = k [a] := fun a k => by simp [bindC]
  have g0 : ∀ a : D, ([a] : List D).getD 0 .nil = a := fun a => rfl
  rw [J_ref29_Event_1_eq, d_eq t ht, st]
  simp only [g0, D.toStr_str, D.toInt_int, b1, b2, b3, b4, append_toB, toB_size]
  rw [catI (by simp only [List.length_append, List.length_cons, List.length_nil]; omega), catI (by simp only [List.length_append, List.length_cons, List.length_nil]; omega), catI (by simp only [List.length_append, List.length_cons, List.length_nil]; omega), d_eq c hc, st]
  simp only [g0, D.toStr_str, D.toInt_int, append_toB, toB_size]
  rw [catI (by simp only [List.length_append, List.length_cons, List.length_nil]; omega), catI (by simp only [List.length_append, List.length_cons, List.length_nil]; omega), d_eq g hg, st]
  simp only [g0, D.toStr_str, D.toInt_int, append_toB, toB_size]
  rw [catI (by simp only [List.length_append, List.length_cons, List.length_nil]; omega)]
  by_cases k1 : k = 1
  · have e1 : (k == 1) = true := by simpa using k1
    simp only [e1, if_true]
    rw [catI (by simp only [List.length_append, List.length_cons, List.length_nil]; omega), terms_ref n s p l u hn hp hl hu, st]
    simp only [g0, D.toStr_str, D.toInt_int, append_toB, toB_size]
    rw [catI (by simp only [List.length_append, List.length_cons, List.length_nil]; omega), catI (by simp only [List.length_append, List.length_cons, List.length_nil]; omega), d_eq q hq, st]
    simp only [g0, D.toStr_str, D.toInt_int, append_toB, toB_size]
    rw [catI (by simp only [List.length_append, List.length_cons, List.length_nil]; omega)]
    simp [lineB, tailB, k1, ofB, un_cons, un_one]
  · have e1 : (k == 1) = false := by simpa using k1
    simp only [e1, Bool.false_eq_true, if_false]
    by_cases k2 : k = 2
    · have e2 : (k == 2) = true := by simpa using k2
      simp only [e2, if_true]
      rw [catI (by simp only [List.length_append, List.length_cons, List.length_nil]; omega), d_eq o ho, st]
      simp only [g0, D.toStr_str, D.toInt_int, append_toB, toB_size]
      rw [catI (by simp only [List.length_append, List.length_cons, List.length_nil]; omega), catI (by simp only [List.length_append, List.length_cons, List.length_nil]; omega), d_eq wi hwi, st]
      simp only [g0, D.toStr_str, D.toInt_int, append_toB, toB_size]
      rw [catI (by simp only [List.length_append, List.length_cons, List.length_nil]; omega), catI (by simp only [List.length_append, List.length_cons, List.length_nil]; omega), d_eq q hq, st]
      simp only [g0, D.toStr_str, D.toInt_int, append_toB, toB_size]
      rw [catI (by simp only [List.length_append, List.length_cons, List.length_nil]; omega), catI (by simp only [List.length_append, List.length_cons, List.length_nil]; omega), d_eq pr hpr, st]
      simp only [g0, D.toStr_str, D.toInt_int, append_toB, toB_size]
      rw [catI (by simp only [List.length_append, List.length_cons, List.length_nil]; omega)]
      simp [lineB, tailB, k2, ofB, un_cons, un_one]
    · have e2 : (k == 2) = false := by simpa using k2
      simp only [e2, Bool.false_eq_true, if_false]
      by_cases k7 : k = 7
      · have e7 : (k == 7) = true := by simpa using k7
        simp only [e7, if_true]
        rw [catI (by simp only [List.length_append, List.length_cons, List.length_nil]; omega), kname_ref, st]
        simp only [g0, D.toStr_str, D.toInt_int, append_toB, toB_size]
        rw [catI (by simp only [List.length_append, List.length_cons, List.length_nil]; omega)]
        simp [lineB, tailB, k7, un_cons, un_one]
      · have e7 : (k == 7) = false := by simpa using k7
        simp only [e7, Bool.false_eq_true, if_false]
        simp [lineB, tailB, k1, k2, k7, un_cons, un_one]
end Go.Proofs.YtilkbgdfndifgaaGreatDoor.RepD
