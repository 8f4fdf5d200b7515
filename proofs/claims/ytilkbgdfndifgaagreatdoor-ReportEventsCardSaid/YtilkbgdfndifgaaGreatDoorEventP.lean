/-
  report.Event: an event's words, as ref29.Event's.
-/
import Derived.Test.YtilkbgdfndifgaaGreatDoorEventR
namespace Go.Proofs.YtilkbgdfndifgaaGreatDoor.RepD
open Go.Proofs.YtilkbgdfndifgaaGreatDoor.Eng Go.Proofs.YtilkbgdfndifgaaGreatDoor Go.Proofs.YtilkbgdfndifgaaGreatDoor.Dat Go.Proofs.YtilkbgdfndifgaaGreatDoor.WordP Go.Proofs.YtilkbgdfndifgaaGreatDoor.StrL Go.Proofs.YtilkbgdfndifgaaGreatDoor.RefD
open Go.Lib (decDigits itoa)
set_option linter.unusedVariables false
set_option linter.unusedSimpArgs false

def wordB (k : Int) : Bs := if k < 1 ∨ 7 < k then [63] else ([[63], [115, 117, 98, 109, 105, 116], [102, 105, 108, 108], [99, 97, 110, 99, 101, 108], [97, 115, 107], [101, 120, 112, 105, 114, 101], [114, 101, 115, 116], [111, 118, 101, 114]] : List Bs).getD k.toNat []
theorem word_cases (k : Int) : (k < 1 ∨ 7 < k) ∨ k = 1 ∨ k = 2 ∨ k = 3 ∨ k = 4 ∨ k = 5 ∨ k = 6 ∨ k = 7 := by omega
theorem wordB_len (k : Int) : (wordB k).length ≤ 10 := by
  rcases word_cases k with h | rfl | rfl | rfl | rfl | rfl | rfl | rfl
  · unfold wordB; rw [if_pos h]; decide
  all_goals decide
set_option maxHeartbeats 2000000 in
theorem rep_event (k c g o wi n s p l u q pr t e : Int) (hc : inI c) (hg : inI g) (ho : inI o) (hwi : inI wi) (hn : inI n) (hp : inI p) (hl : inI l) (hu : inI u) (hq : inI q) (hpr : inI pr) (ht : inI t) :
    FX 5 [.int k, .int c, .int g, .int o, .int wi, .int n, .int s, .int p, .int l, .int u, .int q, .int pr, .int t, .int e] = some [.str (toB (lineB k (wordB k) c g o wi n s p l u q pr t e))] := by
  have h1 := itoa_len hc
  have h2 := itoa_len hg
  have h3 := itoa_len ht
  have h4 := itoa_len ho
  have h5 := itoa_len hwi
  have h6 := itoa_len hq
  have h7 := itoa_len hpr
  have h8 := termsB_len s hn hp hl hu
  have h9 := kindB_len e
  have h10 := wordB_len k
  have b1 : (ByteArray.mk #[32]) = toB [32] := rfl
  have st : ∀ (a : D) (k : List D → Option (List D)), bindC (some [a]) 1 k = k [a] := fun a k => by simp [bindC]
  have g0 : ∀ a : D, ([a] : List D).getD 0 .nil = a := fun a => rfl
  have hsp : ∀ m : Nat, 0 < 1 := fun _ => by decide
  have hW : FX 10 [D.agg [D.iface 3 (.int t), .iface 9 (.str (toB (wordB k))), .iface 3 (.int c), .iface 3 (.int g)]] = some [.str (toB (un [itoa t, wordB k, itoa c, itoa g]))] := by
    refine words_eq [.n t, .s (wordB k), .n c, .n g] (fun x hx => ?_) ?_
    · simp only [List.mem_cons, List.not_mem_nil, or_false] at hx
      rcases hx with rfl | rfl | rfl | rfl <;> first | exact trivial | assumption
    · simp only [span, List.map_cons, List.map_nil, It.sh, List.sum_cons, List.sum_nil]; omega
  have hW1 : FX 10 [D.agg [D.iface 9 (.str (toB (termsB n s p l u))), .iface 9 (.str (ByteArray.mk #[111, 102])), .iface 3 (.int q)]] = some [.str (toB (un [termsB n s p l u, ofB, itoa q]))] := by
    refine words_eq [.s (termsB n s p l u), .s ofB, .n q] (fun x hx => ?_) ?_
    · simp only [List.mem_cons, List.not_mem_nil, or_false] at hx
      rcases hx with rfl | rfl | rfl <;> first | exact trivial | assumption
    · simp only [span, List.map_cons, List.map_nil, It.sh, List.sum_cons, List.sum_nil, ofB, List.length_cons, List.length_nil]; omega
  have hW2 : FX 10 [D.agg [D.iface 9 (.str (ByteArray.mk #[119, 105, 116, 104])), .iface 3 (.int o), .iface 3 (.int wi), .iface 9 (.str (ByteArray.mk #[111, 102])), .iface 3 (.int q), .iface 9 (.str (ByteArray.mk #[97, 116])), .iface 3 (.int pr)]] = some [.str (toB (un [[119, 105, 116, 104], itoa o, itoa wi, ofB, itoa q, [97, 116], itoa pr]))] := by
    refine words_eq [.s [119, 105, 116, 104], .n o, .n wi, .s ofB, .n q, .s [97, 116], .n pr] (fun x hx => ?_) ?_
    · simp only [List.mem_cons, List.not_mem_nil, or_false] at hx
      rcases hx with rfl | rfl | rfl | rfl | rfl | rfl | rfl <;> first | exact trivial | assumption
    · simp only [span, List.map_cons, List.map_nil, It.sh, List.sum_cons, List.sum_nil, ofB, List.length_cons, List.length_nil]; omega
  have hun : (un [itoa t, wordB k, itoa c, itoa g]).length ≤ 80 := by
    simp only [un_cons, un_one, List.length_append, List.length_cons]; omega
  have hun1 : (un [termsB n s p l u, ofB, itoa q]).length ≤ 150 := by
    simp only [un_cons, un_one, List.length_append, List.length_cons, ofB, List.length_nil]; omega
  have hun2 : (un [[119, 105, 116, 104], itoa o, itoa wi, ofB, itoa q, [97, 116], itoa pr]).length ≤ 150 := by
    simp only [un_cons, un_one, List.length_append, List.length_cons, ofB, List.length_nil]; omega
  rw [E_report_Event]
  by_cases hk : k < 1 ∨ 7 < k
  · have hw : wordB k = [63] := by unfold wordB; rw [if_pos hk]
    have hq1 : (ByteArray.mk #[63]) = toB (wordB k) := by rw [hw]; rfl
    by_cases hk0 : k < 1
    · have d1 : ¬ (k > 0) := by omega
      simp only [D.toInt_int, D.toL_agg, d1, decide_false, Bool.false_eq_true, if_false, List.length_cons, List.length_nil, List.getD_cons_zero, Int.toNat_zero]
      rw [hq1, hW]
      have e1 : (k == 1) = false := by simp; omega
      have e2 : (k == 2) = false := by simp; omega
      have e7 : (k == 7) = false := by simp; omega
      have k1 : ¬ k = 1 := by omega
      have k2 : ¬ k = 2 := by omega
      have k7 : ¬ k = 7 := by omega
      simp only [st, g0, e1, e2, e7, Bool.false_eq_true, if_false, if_true]
      simp [lineB, tailB, k1, k2, k7, un_cons, un_one]
    · have d1 : k > 0 := by omega
      have d2 : ¬ (k < 8) := by omega
      simp only [D.toInt_int, D.toL_agg, d1, d2, decide_true, decide_false, Bool.false_eq_true, if_false, if_true, List.length_cons, List.length_nil, List.getD_cons_zero, Int.toNat_zero]
      rw [hq1, hW]
      have e1 : (k == 1) = false := by simp; omega
      have e2 : (k == 2) = false := by simp; omega
      have e7 : (k == 7) = false := by simp; omega
      have k1 : ¬ k = 1 := by omega
      have k2 : ¬ k = 2 := by omega
      have k7 : ¬ k = 7 := by omega
      simp only [st, g0, e1, e2, e7, Bool.false_eq_true, if_false, if_true]
      simp [lineB, tailB, k1, k2, k7, un_cons, un_one]
  · have d1 : k > 0 := by omega
    have d2 : k < 8 := by omega
    have d3 : k ≥ 0 := by omega
    have hword : ([D.str (ByteArray.mk #[63]), .str (ByteArray.mk #[115, 117, 98, 109, 105, 116]), .str (ByteArray.mk #[102, 105, 108, 108]), .str (ByteArray.mk #[99, 97, 110, 99, 101, 108]), .str (ByteArray.mk #[97, 115, 107]), .str (ByteArray.mk #[101, 120, 112, 105, 114, 101]), .str (ByteArray.mk #[114, 101, 115, 116]), .str (ByteArray.mk #[111, 118, 101, 114])] : List D).getD k.toNat D.nil = .str (toB (wordB k)) := by
      rcases word_cases k with h | rfl | rfl | rfl | rfl | rfl | rfl | rfl
      · exact absurd h hk
      all_goals rfl
    have d4 : k < ((0 + 1 + 1 + 1 + 1 + 1 + 1 + 1 + 1 : Nat) : Int) := by omega
    simp only [D.toInt_int, D.toL_agg, d1, d2, d3, d4, decide_true, if_true, List.length_cons, List.length_nil, hword, hW, st, g0]
    by_cases k1 : k = 1
    · have e1 : (k == 1) = true := by simpa using k1
      simp only [e1, if_true, terms_r n s p l u hn hp hl hu, st, g0]
      rw [hW1, st]
      simp only [g0, D.toStr_str, D.toInt_int, b1, append_toB, toB_size]
      rw [catI (by simp only [List.length_append, List.length_cons, List.length_nil]; omega), catI (by simp only [List.length_append, List.length_cons, List.length_nil]; omega)]
      simp [lineB, tailB, k1, ofB, un_cons, un_one]
    · have e1 : (k == 1) = false := by simpa using k1
      simp only [e1, Bool.false_eq_true, if_false]
      by_cases k2 : k = 2
      · have e2 : (k == 2) = true := by simpa using k2
        simp only [e2, if_true]
        rw [hW2, st]
        simp only [g0, D.toStr_str, D.toInt_int, b1, append_toB, toB_size]
        rw [catI (by simp only [List.length_append, List.length_cons, List.length_nil]; omega), catI (by simp only [List.length_append, List.length_cons, List.length_nil]; omega)]
        simp [lineB, tailB, k2, ofB, un_cons, un_one]
      · have e2 : (k == 2) = false := by simpa using k2
        simp only [e2, Bool.false_eq_true, if_false]
        by_cases k7 : k = 7
        · have e7 : (k == 7) = true := by simpa using k7
          simp only [e7, if_true]
          rw [kname_cell, st]
          simp only [g0, D.toStr_str, D.toInt_int, b1, append_toB, toB_size]
          rw [catI (by simp only [List.length_append, List.length_cons, List.length_nil]; omega), catI (by simp only [List.length_append, List.length_cons, List.length_nil]; omega)]
          simp [lineB, tailB, k7, un_cons, un_one]
        · have e7 : (k == 7) = false := by simpa using k7
          simp only [e7, Bool.false_eq_true, if_false, g0]
          simp [lineB, tailB, k1, k2, k7, un_cons, un_one]
end Go.Proofs.YtilkbgdfndifgaaGreatDoor.RepD
