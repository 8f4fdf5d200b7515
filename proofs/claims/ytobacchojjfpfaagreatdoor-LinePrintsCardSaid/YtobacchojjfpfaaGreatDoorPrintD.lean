/-
  line.Print and line.Verb on data: what the plain laws say.
-/
import Derived.Test.YtobacchojjfpfaaGreatDoorAwake
import Derived.Test.YtobacchojjfpfaaGreatDoorRefNum
import Derived.Test.YtobacchojjfpfaaGreatDoorPrintP
namespace Go.Proofs.YtobacchojjfpfaaGreatDoor.LineD
open Go.Proofs.YtobacchojjfpfaaGreatDoor.Eng Go.Proofs.YtobacchojjfpfaaGreatDoor Go.Proofs.YtobacchojjfpfaaGreatDoor.Dat Go.Proofs.YtobacchojjfpfaaGreatDoor.WordP Go.Proofs.YtobacchojjfpfaaGreatDoor.NumE Go.Proofs.YtobacchojjfpfaaGreatDoor.Open Go.Proofs.YtobacchojjfpfaaGreatDoor.RefD
open Go.Lib (decDigits itoa)
set_option linter.unusedVariables false
set_option linter.unusedSimpArgs false

theorem to_eq (a0 a1 a2 a3 a4 a5 a6 a7 a8 : D) : FX 8 [a0, a1, a2, a3, a4, a5, a6, a7, a8] = some [a0, a1, a2, a3, a4, a5, a6, a7, a8] := E_law11_To ..
theorem itoa_eq (ds : List D) : FX 24 ds = StrD.itoaF ds := by
  have h : FX 24 = StrD.base 24 := fix_base (by rfl)
  rw [h]; rfl
theorem join_eq (ds : List D) : FX 25 ds = StrD.joinF ds := by
  have h : FX 25 = StrD.base 25 := fix_base (by rfl)
  rw [h]; rfl
theorem itoa_nat (n : Int) (h0 : 0 ≤ n) (h1 : n ≤ 9999999) : FX 24 [.int n] = some [.str (toB (decDigits n.toNat))] := by
  rw [itoa_eq]
  unfold StrD.itoaF
  have : -9223372036854775808 ≤ n ∧ n ≤ 9223372036854775807 := by omega
  have h2 : ¬ n < 0 := by omega
  simp only [this, and_self, if_true, itoa, h2, if_false]
  rfl
theorem span_ge (ws : List Bs) : ws.length ≤ span ws := by
  induction ws with
  | nil => simp [span]
  | cons w l ih => simp only [span, List.map_cons, List.sum_cons, List.length_cons] at ih ⊢; omega
theorem join_words (ws : List Bs) (h : span ws ≤ 1000000) : FX 25 [wD ws, .str (toB [32])] = some [.str (toB (un ws))] := by
  rw [join_eq]
  unfold StrD.joinF wD
  have hg := span_ge ws
  have e1 : (List.map (fun x : D => x.toStr.data.toList) (List.map (fun w => D.str (toB w)) ws)) = ws := by
    rw [List.map_map]
    have : ((fun x : D => x.toStr.data.toList) ∘ fun w => D.str (toB w)) = id := by funext w; simp
    rw [this, List.map_id]
  have e2 : (Go.Lib.join ws [32]).length ≤ 140737488355328 := by
    cases ws with
    | nil => simp [Go.Lib.join_nil]
    | cons w ws => have := span_un (w := w) (ws := ws); unfold un at this; omega
  simp only [e1, toB_list, List.length_map]
  rw [if_pos ⟨by omega, e2⟩]
  rfl
def codeD (c p : Nat) : D := if c = 6 then code 6 else errAt p c
def outD : Except (Nat × Nat) Bs → List D
  | .ok t => [.str (toB t), .nil]
  | .error (c, p) => [.str (toB []), codeD c p]
def wordsEnd (acc : List Bs) : Except (Nat × Nat) (List Bs) → Except (Nat × Nat) Bs
  | .ok ws => .ok (un (acc ++ ws))
  | .error e => .error e
theorem wordsEnd_cons (acc : List Bs) (w : Bs) (x : Except (Nat × Nat) (List Bs)) : wordsEnd acc (match x with | .ok ws => .ok (w :: ws) | .error e => .error e) = wordsEnd (acc ++ [w]) x := by
  cases x <;> simp [wordsEnd]
theorem wordsEnd_two (acc : List Bs) (v w : Bs) (x : Except (Nat × Nat) (List Bs)) : wordsEnd acc (match x with | .ok ws => .ok (v :: w :: ws) | .error e => .error e) = wordsEnd (acc ++ [v] ++ [w]) x := by
  cases x <;> simp [wordsEnd]
theorem wD_snoc (acc : List Bs) (w : Bs) : D.agg ((wD acc).toL ++ [D.str (toB w)]) = wD (acc ++ [w]) := by simp [wD]
theorem wD_two (acc : List Bs) (v w : Bs) : D.agg ((wD acc).toL ++ [D.str (toB v)] ++ [D.str (toB w)]) = wD (acc ++ [v] ++ [w]) := by simp [wD]
theorem wD_lenN (acc : List Bs) : (wD acc).toL.length = acc.length := by simp [wD]
theorem span_snoc (acc : List Bs) (w : Bs) : span (acc ++ [w]) = span acc + w.length + 1 := by simp [span]; omega
theorem at_code5 (i : Nat) (c : Int) : FX 15 [.int (i : Nat), .iface 45 (.int c)] = some [errAt i c] := at_code _ _
theorem dec7 {n : Int} (h0 : 0 ≤ n) (h1 : n ≤ 9999999) : (decDigits n.toNat).length ≤ 7 := ((dig_iff _).1 (dec_dig (n := n.toNat) (by omega)).1).2
theorem name_eq {side : Int} (h : side = 0 ∨ side = 1) : FX 23 [.int side] = some [.str (toB (sideB side))] := by
  rw [E_terms_Name]
  rcases h with rfl | rfl <;> rfl
set_option maxHeartbeats 1000000 in
theorem print_loop (k side : Int) (x1 x2 x3 x5 x6 x7 x8 x9 : D) (nums : List Int) (hn : nums.length ≤ 100) : ∀ (d i : Nat) (acc : List Bs), i + d = nums.length → span acc + 20 * d ≤ 100000 →
    W_line_Print_1 (.int k) x1 x2 x3 (.int side) x5 x6 x7 x8 x9 (.agg (nums.map D.int)) [.int i, wD acc] = some (outD (wordsEnd acc (printW k side i (nums.drop i))))
  | 0, i, acc, h, hsp => by
    have e1 : ¬ ((i : Int) < ((nums.map D.int).length : Int)) := by simp; omega
    rw [W_line_Print_1_eq, show nums.drop i = [] from List.drop_eq_nil_of_le (by omega)]
    have z32 : (ByteArray.mk #[32]) = toB [32] := rfl
    simp only [D.toInt_int, D.toL_agg, e1, decide_false, Bool.false_eq_true, if_false, z32, join_words acc (by omega), bindC, List.length_cons, List.length_nil, if_true, List.getD_cons_zero]
    simp [printW, wordsEnd, outD]
  | d + 1, i, acc, h, hsp => by
    have hi : i < nums.length := by omega
    have e1 : ((i : Int) < ((nums.map D.int).length : Int)) := by simp; omega
    have e2 : ((i : Int) ≥ 0) := by omega
    have e3 : IntKind.i64.wrap ((i : Int) + 1) = ((i + 1 : Nat) : Int) := by rw [wrap_small _ (by omega) (by omega)]; omega
    have hg : (nums.map D.int).getD i .nil = .int nums[i] := by rw [List.getD_eq_getElem?_getD, List.getElem?_map, List.getElem?_eq_getElem hi]; rfl
    have hsg := span_ge acc
    rw [W_line_Print_1_eq, List.drop_eq_getElem_cons hi]
    generalize hx : nums[i] = n at hg
    simp only [D.toInt_int, D.toL_agg, e1, e2, e3, decide_true, if_true, Int.toNat_natCast, hg]
    by_cases h0 : n < 0
    · have hp : printW k side i (n :: nums.drop (i + 1)) = .error (5, i) := by simp only [printW]; rw [if_pos (.inl h0)]
      rw [hp]
      simp only [h0, decide_true, if_true, at_code5, bindC, List.length_cons, List.length_nil, List.getD_cons_zero]
      rfl
    · by_cases h1 : n > 9999999
      · have hp : printW k side i (n :: nums.drop (i + 1)) = .error (5, i) := by simp only [printW]; rw [if_pos (.inr (by omega))]
        rw [hp]
        simp only [h0, h1, decide_true, decide_false, Bool.false_eq_true, if_false, if_true, at_code5, bindC, List.length_cons, List.length_nil, List.getD_cons_zero]
        rfl
      · have hr : ¬ (n < 0 ∨ 9999999 < n) := by omega
        have hit := itoa_nat n (by omega) (by omega)
        have hdl := dec7 (n := n) (by omega) (by omega)
        have hb1 : ∀ x : D, ((((wD acc).toL ++ [x]).length : Int) ≤ 8796093022208) := fun x => by rw [List.length_append, wD_lenN]; simp only [List.length_cons, List.length_nil]; omega
        have hb2 : ∀ x y : D, ((((wD acc).toL ++ [x] ++ [y]).length : Int) ≤ 8796093022208) := fun x y => by rw [List.length_append, List.length_append, wD_lenN]; simp only [List.length_cons, List.length_nil]; omega
        simp only [h0, h1, decide_false, Bool.false_eq_true, if_false]
        by_cases hk : k = 1 ∧ i = 2
        · obtain ⟨rfl, rfl⟩ := hk
          have q1 : ((1 : Int) == 1) = true := rfl
          have q2 : (((2 : Nat) : Int) == 2) = true := rfl
          simp only [q1, q2, if_true]
          by_cases hsd : side = 0 ∨ side = 1
          · have hnm := name_eq hsd
            have hs2 : ¬ (side ≠ 0 ∧ side ≠ 1) := by omega
            have hsl : (sideB side).length ≤ 7 := by unfold sideB; split <;> decide
            have ih := print_loop 1 side x1 x2 x3 x5 x6 x7 x8 x9 nums hn d (2 + 1) (acc ++ [sideB side] ++ [decDigits n.toNat]) (by omega) (by rw [span_snoc, span_snoc]; omega)
            have hp : wordsEnd acc (printW 1 side 2 (n :: nums.drop (2 + 1))) = wordsEnd (acc ++ [sideB side] ++ [decDigits n.toNat]) (printW 1 side (2 + 1) (nums.drop (2 + 1))) := by
              rw [← wordsEnd_two]
              conv => lhs; rw [printW]
              simp only [hr, if_false, and_self, if_true, hs2]
              cases printW 1 side (2 + 1) (nums.drop (2 + 1)) <;> rfl
            rw [hp, ← ih]
            rcases hsd with rfl | rfl
            · simp only [show ((0 : Int) != 0) = false from rfl, Bool.false_eq_true, if_false, hnm, bindC, List.length_cons, List.length_nil, if_true, List.getD_cons_zero, hb1, hb2, wD_two, decide_true, hit]
            · simp only [show ((1 : Int) != 0) = true from rfl, show ((1 : Int) != 1) = false from rfl, Bool.false_eq_true, if_false, hnm, bindC, List.length_cons, List.length_nil, if_true, List.getD_cons_zero, hb1, hb2, wD_two, decide_true, hit]
          · have q3 : (side != 0) = true := by simp; omega
            have q4 : (side != 1) = true := by simp; omega
            have hp : printW 1 side 2 (n :: nums.drop (2 + 1)) = .error (1, 2) := by
              conv => lhs; rw [printW]
              simp only [hr, if_false, and_self, if_true]
              rw [if_pos (by omega)]
            rw [hp]
            simp only [q3, q4, if_true, at_code5, bindC, List.length_cons, List.length_nil, List.getD_cons_zero]
            rfl
        · have ih := print_loop k side x1 x2 x3 x5 x6 x7 x8 x9 nums hn d (i + 1) (acc ++ [decDigits n.toNat]) (by omega) (by rw [span_snoc]; omega)
          have hp : wordsEnd acc (printW k side i (n :: nums.drop (i + 1))) = wordsEnd (acc ++ [decDigits n.toNat]) (printW k side (i + 1) (nums.drop (i + 1))) := by
            rw [← wordsEnd_cons]
            conv => lhs; rw [printW]
            simp only [hr, if_false, hk]
            cases printW k side (i + 1) (nums.drop (i + 1)) <;> rfl
          rw [hp, ← ih]
          cases q1 : k == 1 with
          | true =>
            have hi2 : ((i : Int) == 2) = false := by
              have : k = 1 := by simpa using q1
              simp; omega
            simp only [hi2, if_true, Bool.false_eq_true, if_false, hit, bindC, List.length_cons, List.length_nil, List.getD_cons_zero, hb1, wD_snoc, decide_true]
          | false =>
            simp only [Bool.false_eq_true, if_false, hit, bindC, List.length_cons, List.length_nil, List.getD_cons_zero, if_true, hb1, wD_snoc, decide_true]
theorem verb_eq (x0 : Int) : FX 13 [.int x0] = some [.str (if x0 < 1 ∨ 4 < x0 then toB [63] else toB (verbK x0))] := by
  rw [E_line_Verb]
  by_cases h : x0 < 1
  · simp only [D.toInt_int, h, decide_true, if_true, true_or]
    rfl
  · by_cases h5 : x0 ≥ 5
    · have : x0 < 1 ∨ 4 < x0 := by omega
      simp only [D.toInt_int, h, h5, decide_true, decide_false, Bool.false_eq_true, if_false, if_true]
      rw [if_pos (by omega)]
      rfl
    · have h4 : x0 = 1 ∨ x0 = 2 ∨ x0 = 3 ∨ x0 = 4 := by omega
      rcases h4 with rfl | rfl | rfl | rfl <;> rfl
theorem numbers_eq (x0 x1 x2 x3 x4 x5 x6 x7 x8 : Int) : FX 22 [.int x0, .int x1, .int x2, .int x3, .int x4, .int x5, .int x6, .int x7, .int x8] = some [.agg ((nums9 x0 x1 x2 x3 x5 x6 x7 x8).map D.int)] := by
  rw [E_line_numbers]
  unfold nums9
  by_cases h1 : x0 = 1
  · subst h1; rfl
  · have e1 : (x0 == 1) = false := by simpa using h1
    by_cases h2 : x0 = 2
    · subst h2; rfl
    · have e2 : (x0 == 2) = false := by simpa using h2
      by_cases h3 : x0 = 3
      · subst h3; rfl
      · have e3 : (x0 == 3) = false := by simpa using h3
        simp only [D.toInt_int, e1, e2, e3, Bool.false_eq_true, if_false, h1, h2, h3, List.map_nil]
theorem nums_len (x0 x1 x2 x3 x5 x6 x7 x8 : Int) : (nums9 x0 x1 x2 x3 x5 x6 x7 x8).length ≤ 7 := by
  unfold nums9
  split
  · simp
  · split
    · simp
    · split <;> simp
theorem print_eq (x0 x1 x2 x3 x4 x5 x6 x7 x8 : Int) : FX 7 [.int x0, .int x1, .int x2, .int x3, .int x4, .int x5, .int x6, .int x7, .int x8] = some (outD (printB x0 x1 x2 x3 x4 x5 x6 x7 x8)) := by
  rw [E_line_Print]
  unfold printB
  by_cases h : x0 < 1
  · have hh : x0 < 1 ∨ 4 < x0 := by omega
    simp only [D.toInt_int, h, decide_true, if_true, true_or]
    rfl
  · by_cases h5 : x0 > 4
    · rw [if_pos (show x0 < 1 ∨ 4 < x0 by omega)]
      simp only [D.toInt_int, h, h5, decide_true, decide_false, Bool.false_eq_true, if_false, if_true]
      rfl
    · have hh : ¬ (x0 < 1 ∨ 4 < x0) := by omega
      have hl := nums_len x0 x1 x2 x3 x5 x6 x7 x8
      have hvl : (verbK x0).length ≤ 6 := by unfold verbK; split; decide; split; decide; split <;> decide
      have := print_loop x0 x4 (.int x1) (.int x2) (.int x3) (.int x5) (.int x6) (.int x7) (.int x8) (.str (toB (verbK x0))) (nums9 x0 x1 x2 x3 x5 x6 x7 x8) (by omega) (nums9 x0 x1 x2 x3 x5 x6 x7 x8).length 0 [verbK x0] (by omega) (by simp [span]; omega)
      rw [List.drop_zero] at this
      have hw0 : wD [verbK x0] = .agg [.str (toB (verbK x0))] := rfl
      rw [hw0] at this
      have z : (D.int (0 : Int)) = .int ((0 : Nat) : Int) := rfl
      have hv : FX 13 [.int x0] = some [.str (toB (verbK x0))] := by rw [verb_eq, if_neg hh]
      rw [if_neg hh]
      simp only [D.toInt_int, h, h5, decide_false, Bool.false_eq_true, if_false, hv, numbers_eq, bindC, List.length_cons, List.length_nil, if_true, List.getD_cons_zero, z, this]
      cases printW x0 x4 0 (nums9 x0 x1 x2 x3 x5 x6 x7 x8) <;> rfl
end Go.Proofs.YtobacchojjfpfaaGreatDoor.LineD
