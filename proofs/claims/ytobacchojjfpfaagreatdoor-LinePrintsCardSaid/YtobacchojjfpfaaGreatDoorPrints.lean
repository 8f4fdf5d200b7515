/-
  LinePrints on data: any ask as a line, or why it is none, is the document's.
-/
import Derived.Test.YtobacchojjfpfaaGreatDoorPrintD
namespace Go.Proofs.YtobacchojjfpfaaGreatDoor.LineD
open Go.Proofs.YtobacchojjfpfaaGreatDoor.Eng Go.Proofs.YtobacchojjfpfaaGreatDoor Go.Proofs.YtobacchojjfpfaaGreatDoor.Dat Go.Proofs.YtobacchojjfpfaaGreatDoor.WordP Go.Proofs.YtobacchojjfpfaaGreatDoor.NumE Go.Proofs.YtobacchojjfpfaaGreatDoor.Open Go.Proofs.YtobacchojjfpfaaGreatDoor.RefD
open Go.Lib (decDigits)
set_option linter.unusedVariables false
set_option linter.unusedSimpArgs false

def refOut : Except (Nat × Nat) Bs → List D
  | .ok t => [.str (toB t), .int 0, .int 0]
  | .error (c, p) => [.str (toB []), .int c, .int p]
/-- The words behind a text. -/
def tailB (s : Bs) : Except (Nat × Nat) (List Bs) → Except (Nat × Nat) Bs
  | .ok ws => .ok (ws.foldl (fun t w => t ++ 32 :: w) s)
  | .error e => .error e
theorem fold_un : ∀ (ws : List Bs) (w : Bs), ws.foldl (fun t w => t ++ 32 :: w) w = un (w :: ws)
  | [], w => (un_one w).symm
  | v :: ws, w => by
    have : ∀ (ws : List Bs) (a b : Bs), ws.foldl (fun t w => t ++ 32 :: w) (a ++ 32 :: b) = a ++ 32 :: ws.foldl (fun t w => t ++ 32 :: w) b := by
      intro ws
      induction ws with
      | nil => intro a b; rfl
      | cons x ws ih =>
        intro a b
        show ws.foldl _ ((a ++ 32 :: b) ++ 32 :: x) = _
        rw [show (a ++ 32 :: b) ++ 32 :: x = a ++ 32 :: (b ++ 32 :: x) by simp, ih]
        rfl
    show ws.foldl _ (w ++ 32 :: v) = _
    rw [this, fold_un ws v, un_cons]
theorem tail_cons (s w : Bs) (x : Except (Nat × Nat) (List Bs)) : tailB s (match x with | .ok ws => .ok (w :: ws) | .error e => .error e) = tailB (s ++ [32] ++ w) x := by
  cases x <;> simp [tailB]
theorem tail_two (s v w : Bs) (x : Except (Nat × Nat) (List Bs)) : tailB s (match x with | .ok ws => .ok (v :: w :: ws) | .error e => .error e) = tailB (s ++ [32] ++ v ++ [32] ++ w) x := by
  cases x <;> simp [tailB]
theorem ref_dec {n : Int} (h0 : 0 ≤ n) (h1 : n ≤ 9999999) : FX 26 [.int n] = some [.str (toB (decDigits n.toNat))] := by
  have := dec_eq n.toNat (by omega)
  rw [show ((n.toNat : Nat) : Int) = n by omega] at this
  exact this
theorem w_add (a b : Nat) (h : a + b ≤ 1000000) : IntKind.i64.wrap ((a : Int) + (b : Int)) = ((a + b : Nat) : Int) := by rw [wrap_small _ (by omega) (by omega)]; omega
theorem le_big (a : Nat) (h : a ≤ 1000000) : ((a : Int) ≤ 4611686018427387903) := by omega

set_option maxHeartbeats 2000000 in
theorem ref_loop1 (y0 y1 y2 y3 y4 y5 y6 y7 y8 : Int) : ∀ (d i : Nat) (s : Bs), i + d = 7 → s.length + 40 * d ≤ 1000 →
    W_ref15_Print_1 (.int y0) (.int y1) (.int y2) (.int y3) (.int y4) (.int y5) (.int y6) (.int y7) (.int y8) [.str (toB s), .int i] = some (refOut (tailB s (printW 1 y4 i (([y1, y2, y3, y8, y5, y6, y7] : List Int).drop i))))
  | 0, i, s, h, hs => by
    have hi : i = 7 := by omega
    subst hi
    rw [W_ref15_Print_1_eq]
    rfl
  | d + 1, i, s, h, hs => by
    have hi : i < ([y1, y2, y3, y8, y5, y6, y7] : List Int).length := by simp; omega
    have e1 : ((i : Int) < (([D.int y1, D.int y2, D.int y3, D.int y8, D.int y5, D.int y6, D.int y7] : List D).length : Int)) := by simp; omega
    have e2 : ((i : Int) ≥ 0) := by omega
    have e3 : IntKind.i64.wrap ((i : Int) + 1) = ((i + 1 : Nat) : Int) := by rw [wrap_small _ (by omega) (by omega)]; omega
    have hg : ([D.int y1, D.int y2, D.int y3, D.int y8, D.int y5, D.int y6, D.int y7] : List D).getD i .nil = .int (([y1, y2, y3, y8, y5, y6, y7] : List Int)[i]) := by
      have : ([D.int y1, D.int y2, D.int y3, D.int y8, D.int y5, D.int y6, D.int y7] : List D) = ([y1, y2, y3, y8, y5, y6, y7] : List Int).map D.int := rfl
      rw [this, List.getD_eq_getElem?_getD, List.getElem?_map, List.getElem?_eq_getElem hi]; rfl
    have z32 : (ByteArray.mk #[32]) = toB [32] := rfl
    have zb : (ByteArray.mk #[98, 117, 121]) = toB buyB := rfl
    have zs : (ByteArray.mk #[115, 101, 108, 108]) = toB sellB := rfl
    rw [W_ref15_Print_1_eq, List.drop_eq_getElem_cons hi]
    generalize hx : ([y1, y2, y3, y8, y5, y6, y7] : List Int)[i] = n at hg
    simp only [D.toInt_int, D.toL_agg, e1, e2, e3, decide_true, if_true, Int.toNat_natCast, hg, z32, zb, zs]
    by_cases h0 : n < 0
    · have hp : printW 1 y4 i (n :: ([y1, y2, y3, y8, y5, y6, y7] : List Int).drop (i + 1)) = .error (5, i) := by simp only [printW]; rw [if_pos (.inl h0)]
      rw [hp]
      simp only [h0, decide_true, if_true]
      rfl
    · by_cases h1 : n > 9999999
      · have hp : printW 1 y4 i (n :: ([y1, y2, y3, y8, y5, y6, y7] : List Int).drop (i + 1)) = .error (5, i) := by simp only [printW]; rw [if_pos (.inr (by omega))]
        rw [hp]
        simp only [h0, h1, decide_true, decide_false, Bool.false_eq_true, if_false, if_true]
        rfl
      · have hr : ¬ (n < 0 ∨ 9999999 < n) := by omega
        have hdec := ref_dec (n := n) (by omega) (by omega)
        have hdl := dec7 (n := n) (by omega) (by omega)
        simp only [h0, h1, decide_false, Bool.false_eq_true, if_false]
        by_cases hk2 : i = 2
        · subst hk2
          have q2 : (((2 : Nat) : Int) == 2) = true := rfl
          simp only [q2, if_true]
          by_cases hsd : y4 = 0 ∨ y4 = 1
          · have hs2 : ¬ (y4 ≠ 0 ∧ y4 ≠ 1) := by omega
            have hsl : (sideB y4).length ≤ 7 := by unfold sideB; split <;> decide
            have ih := ref_loop1 y0 y1 y2 y3 y4 y5 y6 y7 y8 d (2 + 1) (s ++ [32] ++ sideB y4 ++ [32] ++ decDigits n.toNat) (by omega) (by simp; omega)
            have hp : tailB s (printW 1 y4 2 (n :: ([y1, y2, y3, y8, y5, y6, y7] : List Int).drop (2 + 1))) = tailB (s ++ [32] ++ sideB y4 ++ [32] ++ decDigits n.toNat) (printW 1 y4 (2 + 1) (([y1, y2, y3, y8, y5, y6, y7] : List Int).drop (2 + 1))) := by
              rw [← tail_two]
              conv => lhs; rw [printW]
              simp only [hr, if_false, and_self, if_true, hs2]
              cases printW 1 y4 (2 + 1) (([y1, y2, y3, y8, y5, y6, y7] : List Int).drop (2 + 1)) <;> rfl
            rw [hp, ← ih]
            have l1 : (s ++ [32]).length = s.length + 1 := by simp
            have l2 : (s ++ [32] ++ sideB y4).length = s.length + 1 + (sideB y4).length := by simp; omega
            have l3 : (s ++ [32] ++ sideB y4 ++ [32]).length = s.length + 1 + (sideB y4).length + 1 := by simp; omega
            have w1 : IntKind.i64.wrap ((s.length : Int) + ((0 + 1 : Nat) : Int)) = ((s.length + 1 : Nat) : Int) := w_add s.length 1 (by omega)
            have w3 : IntKind.i64.wrap (((s.length + 1 : Nat) : Int) + ((sideB y4).length : Int)) = ((s.length + 1 + (sideB y4).length : Nat) : Int) := w_add _ _ (by omega)
            have w4 : IntKind.i64.wrap (((s.length + 1 + (sideB y4).length : Nat) : Int) + ((0 + 1 : Nat) : Int)) = ((s.length + 1 + (sideB y4).length + 1 : Nat) : Int) := w_add _ 1 (by omega)
            have w2 : IntKind.i64.wrap (((s.length + 1 + (sideB y4).length + 1 : Nat) : Int) + ((decDigits n.toNat).length : Int)) = ((s.length + 1 + (sideB y4).length + 1 + (decDigits n.toNat).length : Nat) : Int) := w_add _ _ (by omega)
            have b1 := le_big (s.length + 1) (by omega)
            have b2 := le_big s.length (by omega)
            have b3 := le_big (0 + 1) (by omega)
            have b4 := le_big (s.length + 1 + (sideB y4).length) (by omega)
            have b5 := le_big (decDigits n.toNat).length (by omega)
            have b6 := le_big (s.length + 1 + (sideB y4).length + 1) (by omega)
            have b7 := le_big (s.length + 1 + (sideB y4).length + 1 + (decDigits n.toNat).length) (by omega)
            have b8 := le_big (sideB y4).length (by omega)
            have g0 : y4 = 0 → ([D.str (toB buyB), D.str (toB sellB)] : List D).getD y4.toNat D.nil = .str (toB (sideB y4)) := fun h => by subst h; rfl
            have g1 : y4 = 1 → ([D.str (toB buyB), D.str (toB sellB)] : List D).getD y4.toNat D.nil = .str (toB (sideB y4)) := fun h => by subst h; rfl
            have gg : ([D.str (toB buyB), D.str (toB sellB)] : List D).getD y4.toNat D.nil = .str (toB (sideB y4)) := hsd.elim g0 g1
            have c1 : (y4 ≥ 0) := by omega
            have c2 : (y4 < ((0 + 1 + 1 : Nat) : Int)) := by omega
            rcases hsd with h4 | h4
            · have t1 : (y4 != 0) = false := by simp [h4]
              simp only [t1, Bool.false_eq_true, if_false, c1, c2, gg, l2, l3, w3, w4, b6, b7, b8, D.toStr_str, toB_size, List.length_cons, List.length_nil, w1, w2, l1, b1, b2, b3, b4, b5, decide_true, if_true, e1, e2, hg, hdec, bindC, List.getD_cons_zero, append_toB]
            · have t1 : (y4 != 0) = true := by simp [h4]
              have t2 : (y4 != 1) = false := by simp [h4]
              simp only [t1, t2, Bool.false_eq_true, if_false, c1, c2, gg, l2, l3, w3, w4, b6, b7, b8, D.toStr_str, toB_size, List.length_cons, List.length_nil, w1, w2, l1, b1, b2, b3, b4, b5, decide_true, if_true, e1, e2, hg, hdec, bindC, List.getD_cons_zero, append_toB]
          · have q3 : (y4 != 0) = true := by simp; omega
            have q4 : (y4 != 1) = true := by simp; omega
            have hp : printW 1 y4 2 (n :: ([y1, y2, y3, y8, y5, y6, y7] : List Int).drop (2 + 1)) = .error (1, 2) := by
              conv => lhs; rw [printW]
              simp only [hr, if_false, and_self, if_true]
              rw [if_pos (by omega)]
            rw [hp]
            simp only [q3, q4, if_true]
            rfl
        · have q2 : ((i : Int) == 2) = false := by simp; omega
          simp only [q2, Bool.false_eq_true, if_false]
          have hk : ¬ ((1 : Int) = 1 ∧ i = 2) := by omega
          have ih := ref_loop1 y0 y1 y2 y3 y4 y5 y6 y7 y8 d (i + 1) (s ++ [32] ++ decDigits n.toNat) (by omega) (by simp; omega)
          have hp : tailB s (printW 1 y4 i (n :: ([y1, y2, y3, y8, y5, y6, y7] : List Int).drop (i + 1))) = tailB (s ++ [32] ++ decDigits n.toNat) (printW 1 y4 (i + 1) (([y1, y2, y3, y8, y5, y6, y7] : List Int).drop (i + 1))) := by
            rw [← tail_cons]
            conv => lhs; rw [printW]
            rw [if_neg hr, if_neg hk]
            cases printW 1 y4 (i + 1) (([y1, y2, y3, y8, y5, y6, y7] : List Int).drop (i + 1)) <;> rfl
          rw [hp, ← ih]
          have l1 : (s ++ [32]).length = s.length + 1 := by simp
          have w1 : IntKind.i64.wrap ((s.length : Int) + ((0 + 1 : Nat) : Int)) = ((s.length + 1 : Nat) : Int) := w_add s.length 1 (by omega)
          have w2 : IntKind.i64.wrap (((s.length + 1 : Nat) : Int) + ((decDigits n.toNat).length : Int)) = ((s.length + 1 + (decDigits n.toNat).length : Nat) : Int) := w_add _ _ (by omega)
          have b1 := le_big (s.length + 1) (by omega)
          have b2 := le_big s.length (by omega)
          have b3 := le_big (0 + 1) (by omega)
          have b4 := le_big (s.length + 1 + (decDigits n.toNat).length) (by omega)
          have b5 := le_big (decDigits n.toNat).length (by omega)
          simp only [D.toStr_str, toB_size, List.length_cons, List.length_nil, w1, w2, l1, b1, b2, b3, b4, b5, decide_true, if_true, e1, e2, hg, hdec, bindC, List.getD_cons_zero, append_toB]
set_option maxHeartbeats 2000000 in
theorem ref_loop2 (y0 y1 y2 y3 y4 y5 y6 y7 y8 : Int) : ∀ (d i : Nat) (s : Bs), i + d = 2 → s.length + 40 * d ≤ 1000 →
    W_ref15_Print_2 (.int y0) (.int y1) (.int y2) (.int y3) (.int y4) (.int y5) (.int y6) (.int y7) (.int y8) [.str (toB s), .int i] = some (refOut (tailB s (printW 2 y4 i (([y1, y2] : List Int).drop i))))
  | 0, i, s, h, hs => by
    have hi : i = 2 := by omega
    subst hi
    rw [W_ref15_Print_2_eq]
    rfl
  | d + 1, i, s, h, hs => by
    have hi : i < ([y1, y2] : List Int).length := by simp; omega
    have e1 : ((i : Int) < (([D.int y1, D.int y2] : List D).length : Int)) := by simp; omega
    have e2 : ((i : Int) ≥ 0) := by omega
    have e3 : IntKind.i64.wrap ((i : Int) + 1) = ((i + 1 : Nat) : Int) := by rw [wrap_small _ (by omega) (by omega)]; omega
    have hg : ([D.int y1, D.int y2] : List D).getD i .nil = .int (([y1, y2] : List Int)[i]) := by
      have : ([D.int y1, D.int y2] : List D) = ([y1, y2] : List Int).map D.int := rfl
      rw [this, List.getD_eq_getElem?_getD, List.getElem?_map, List.getElem?_eq_getElem hi]; rfl
    have z32 : (ByteArray.mk #[32]) = toB [32] := rfl
    have zb : (ByteArray.mk #[98, 117, 121]) = toB buyB := rfl
    have zs : (ByteArray.mk #[115, 101, 108, 108]) = toB sellB := rfl
    rw [W_ref15_Print_2_eq, List.drop_eq_getElem_cons hi]
    generalize hx : ([y1, y2] : List Int)[i] = n at hg
    simp only [D.toInt_int, D.toL_agg, e1, e2, e3, decide_true, if_true, Int.toNat_natCast, hg, z32, zb, zs]
    by_cases h0 : n < 0
    · have hp : printW 2 y4 i (n :: ([y1, y2] : List Int).drop (i + 1)) = .error (5, i) := by simp only [printW]; rw [if_pos (.inl h0)]
      rw [hp]
      simp only [h0, decide_true, if_true]
      rfl
    · by_cases h1 : n > 9999999
      · have hp : printW 2 y4 i (n :: ([y1, y2] : List Int).drop (i + 1)) = .error (5, i) := by simp only [printW]; rw [if_pos (.inr (by omega))]
        rw [hp]
        simp only [h0, h1, decide_true, decide_false, Bool.false_eq_true, if_false, if_true]
        rfl
      · have hr : ¬ (n < 0 ∨ 9999999 < n) := by omega
        have hdec := ref_dec (n := n) (by omega) (by omega)
        have hdl := dec7 (n := n) (by omega) (by omega)
        simp only [h0, h1, decide_false, Bool.false_eq_true, if_false]
        have hk : ¬ ((2 : Int) = 1 ∧ i = 2) := by omega
        have ih := ref_loop2 y0 y1 y2 y3 y4 y5 y6 y7 y8 d (i + 1) (s ++ [32] ++ decDigits n.toNat) (by omega) (by simp; omega)
        have hp : tailB s (printW 2 y4 i (n :: ([y1, y2] : List Int).drop (i + 1))) = tailB (s ++ [32] ++ decDigits n.toNat) (printW 2 y4 (i + 1) (([y1, y2] : List Int).drop (i + 1))) := by
          rw [← tail_cons]
          conv => lhs; rw [printW]
          rw [if_neg hr, if_neg hk]
          cases printW 2 y4 (i + 1) (([y1, y2] : List Int).drop (i + 1)) <;> rfl
        rw [hp, ← ih]
        have l1 : (s ++ [32]).length = s.length + 1 := by simp
        have w1 : IntKind.i64.wrap ((s.length : Int) + ((0 + 1 : Nat) : Int)) = ((s.length + 1 : Nat) : Int) := w_add s.length 1 (by omega)
        have w2 : IntKind.i64.wrap (((s.length + 1 : Nat) : Int) + ((decDigits n.toNat).length : Int)) = ((s.length + 1 + (decDigits n.toNat).length : Nat) : Int) := w_add _ _ (by omega)
        have b1 := le_big (s.length + 1) (by omega)
        have b2 := le_big s.length (by omega)
        have b3 := le_big (0 + 1) (by omega)
        have b4 := le_big (s.length + 1 + (decDigits n.toNat).length) (by omega)
        have b5 := le_big (decDigits n.toNat).length (by omega)
        simp only [D.toStr_str, toB_size, List.length_cons, List.length_nil, w1, w2, l1, b1, b2, b3, b4, b5, decide_true, if_true, e1, e2, hg, hdec, bindC, List.getD_cons_zero, append_toB]
set_option maxHeartbeats 2000000 in
theorem ref_loop3 (y0 y1 y2 y3 y4 y5 y6 y7 y8 : Int) : ∀ (d i : Nat) (s : Bs), i + d = 1 → s.length + 40 * d ≤ 1000 →
    W_ref15_Print_3 (.int y0) (.int y1) (.int y2) (.int y3) (.int y4) (.int y5) (.int y6) (.int y7) (.int y8) [.str (toB s), .int i] = some (refOut (tailB s (printW 3 y4 i (([y2] : List Int).drop i))))
  | 0, i, s, h, hs => by
    have hi : i = 1 := by omega
    subst hi
    rw [W_ref15_Print_3_eq]
    rfl
  | d + 1, i, s, h, hs => by
    have hi : i < ([y2] : List Int).length := by simp; omega
    have e1 : ((i : Int) < (([D.int y2] : List D).length : Int)) := by simp; omega
    have e2 : ((i : Int) ≥ 0) := by omega
    have e3 : IntKind.i64.wrap ((i : Int) + 1) = ((i + 1 : Nat) : Int) := by rw [wrap_small _ (by omega) (by omega)]; omega
    have hg : ([D.int y2] : List D).getD i .nil = .int (([y2] : List Int)[i]) := by
      have : ([D.int y2] : List D) = ([y2] : List Int).map D.int := rfl
      rw [this, List.getD_eq_getElem?_getD, List.getElem?_map, List.getElem?_eq_getElem hi]; rfl
    have z32 : (ByteArray.mk #[32]) = toB [32] := rfl
    have zb : (ByteArray.mk #[98, 117, 121]) = toB buyB := rfl
    have zs : (ByteArray.mk #[115, 101, 108, 108]) = toB sellB := rfl
    rw [W_ref15_Print_3_eq, List.drop_eq_getElem_cons hi]
    generalize hx : ([y2] : List Int)[i] = n at hg
    simp only [D.toInt_int, D.toL_agg, e1, e2, e3, decide_true, if_true, Int.toNat_natCast, hg, z32, zb, zs]
    by_cases h0 : n < 0
    · have hp : printW 3 y4 i (n :: ([y2] : List Int).drop (i + 1)) = .error (5, i) := by simp only [printW]; rw [if_pos (.inl h0)]
      rw [hp]
      simp only [h0, decide_true, if_true]
      rfl
    · by_cases h1 : n > 9999999
      · have hp : printW 3 y4 i (n :: ([y2] : List Int).drop (i + 1)) = .error (5, i) := by simp only [printW]; rw [if_pos (.inr (by omega))]
        rw [hp]
        simp only [h0, h1, decide_true, decide_false, Bool.false_eq_true, if_false, if_true]
        rfl
      · have hr : ¬ (n < 0 ∨ 9999999 < n) := by omega
        have hdec := ref_dec (n := n) (by omega) (by omega)
        have hdl := dec7 (n := n) (by omega) (by omega)
        simp only [h0, h1, decide_false, Bool.false_eq_true, if_false]
        have hk : ¬ ((3 : Int) = 1 ∧ i = 2) := by omega
        have ih := ref_loop3 y0 y1 y2 y3 y4 y5 y6 y7 y8 d (i + 1) (s ++ [32] ++ decDigits n.toNat) (by omega) (by simp; omega)
        have hp : tailB s (printW 3 y4 i (n :: ([y2] : List Int).drop (i + 1))) = tailB (s ++ [32] ++ decDigits n.toNat) (printW 3 y4 (i + 1) (([y2] : List Int).drop (i + 1))) := by
          rw [← tail_cons]
          conv => lhs; rw [printW]
          rw [if_neg hr, if_neg hk]
          cases printW 3 y4 (i + 1) (([y2] : List Int).drop (i + 1)) <;> rfl
        rw [hp, ← ih]
        have l1 : (s ++ [32]).length = s.length + 1 := by simp
        have w1 : IntKind.i64.wrap ((s.length : Int) + ((0 + 1 : Nat) : Int)) = ((s.length + 1 : Nat) : Int) := w_add s.length 1 (by omega)
        have w2 : IntKind.i64.wrap (((s.length + 1 : Nat) : Int) + ((decDigits n.toNat).length : Int)) = ((s.length + 1 + (decDigits n.toNat).length : Nat) : Int) := w_add _ _ (by omega)
        have b1 := le_big (s.length + 1) (by omega)
        have b2 := le_big s.length (by omega)
        have b3 := le_big (0 + 1) (by omega)
        have b4 := le_big (s.length + 1 + (decDigits n.toNat).length) (by omega)
        have b5 := le_big (decDigits n.toNat).length (by omega)
        simp only [D.toStr_str, toB_size, List.length_cons, List.length_nil, w1, w2, l1, b1, b2, b3, b4, b5, decide_true, if_true, e1, e2, hg, hdec, bindC, List.getD_cons_zero, append_toB]
theorem refprint_eq (y0 y1 y2 y3 y4 y5 y6 y7 y8 : Int) : FX 10 [.int y0, .int y1, .int y2, .int y3, .int y4, .int y5, .int y6, .int y7, .int y8] = some (refOut (printB y0 y1 y2 y3 y4 y5 y6 y7 y8)) := by
  rw [E_ref15_Print]
  have z : (D.int (0 : Int)) = .int ((0 : Nat) : Int) := rfl
  have z1 : (ByteArray.mk #[115, 117, 98, 109, 105, 116]) = toB submitB := rfl
  have z2 : (ByteArray.mk #[99, 97, 110, 99, 101, 108]) = toB cancelB := rfl
  have z3 : (ByteArray.mk #[112, 111, 108, 108]) = toB pollB := rfl
  have z4 : (ByteArray.mk #[118, 105, 101, 119]) = toB viewB := rfl
  have hend : ∀ (v : Bs) (x : Except (Nat × Nat) (List Bs)), tailB v x = (match x with | .ok ws => .ok (un (v :: ws)) | .error e => .error e) := by
    intro v x
    cases x with
    | error e => rfl
    | ok ws => simp only [tailB, fold_un]
  by_cases h1 : y0 = 1
  · subst h1
    have hl := ref_loop1 1 y1 y2 y3 y4 y5 y6 y7 y8 7 0 submitB (by omega) (by decide)
    rw [List.drop_zero, hend] at hl
    rw [if_pos (by rfl), z, z1, hl]
    unfold printB
    rw [if_neg (by omega)]
    rfl
  · have e1 : ¬ (((D.int y0).toInt == 1) = true) := by simpa using h1
    by_cases h2 : y0 = 2
    · subst h2
      have hl := ref_loop2 2 y1 y2 y3 y4 y5 y6 y7 y8 2 0 cancelB (by omega) (by decide)
      rw [List.drop_zero, hend] at hl
      rw [if_neg e1, if_pos (by rfl), z, z2, hl]
      unfold printB
      rw [if_neg (by omega)]
      rfl
    · have e2 : ¬ (((D.int y0).toInt == 2) = true) := by simpa using h2
      by_cases h3 : y0 = 3
      · subst h3
        have hl := ref_loop3 3 y1 y2 y3 y4 y5 y6 y7 y8 1 0 pollB (by omega) (by decide)
        rw [List.drop_zero, hend] at hl
        rw [if_neg e1, if_neg e2, if_pos (by rfl), z, z3, hl]
        unfold printB
        rw [if_neg (by omega)]
        rfl
      · have e3 : ¬ (((D.int y0).toInt == 3) = true) := by simpa using h3
        by_cases h4 : y0 = 4
        · subst h4
          rw [if_neg e1, if_neg e2, if_neg e3, if_pos (by rfl), W_ref15_Print_4_eq]
          rfl
        · have e4 : ¬ (((D.int y0).toInt == 4) = true) := by simpa using h4
          rw [if_neg e1, if_neg e2, if_neg e3, if_neg e4]
          unfold printB
          rw [if_pos (by omega)]
          rfl
theorem code6_num : FX 11 [code 6] = some [.int 6] := num_code 6 (by omega)
theorem printW_err {k side : Int} : ∀ {ns : List Int} {i : Nat} {e : Nat × Nat}, printW k side i ns = .error e → e.1 = 5 ∨ e.1 = 1
  | [], i, e, h => by simp [printW] at h
  | n :: ns, i, e, h => by
    unfold printW at h
    split at h
    · cases h; exact .inl rfl
    · split at h
      · split at h
        · cases h; exact .inr rfl
        · split at h
          · cases h
          · rename_i e' he; cases h; exact printW_err he
      · split at h
        · cases h
        · rename_i e' he; cases h; exact printW_err he
theorem want_eq (y0 : Int) (h1 : y0 ≥ 1) (h4 : y0 ≤ 4) : ([D.str (toB submitB), D.str (toB cancelB), D.str (toB pollB), D.str (toB viewB)] : List D).getD (y0 - 1).toNat D.nil = .str (toB (verbK y0)) := by
  have : y0 = 1 ∨ y0 = 2 ∨ y0 = 3 ∨ y0 = 4 := by omega
  rcases this with rfl | rfl | rfl | rfl <;> rfl
set_option maxHeartbeats 2000000 in
theorem prints (xs : List D) (w1 : AllF Tryz.prog [.int .i64, .int .i64, .int .i64, .int .i64, .int .i64, .int .i64, .int .i64, .int .i64, .int .i64] xs) : FX 4 (xs ++ []) = some [.bool true] := by
  obtain ⟨_, _, rfl, q0, _, _, rfl, q1, _, _, rfl, q2, _, _, rfl, q3, _, _, rfl, q4, _, _, rfl, q5, _, _, rfl, q6, _, _, rfl, q7, _, _, rfl, q8, rfl⟩ := w1
  obtain ⟨y0, rfl, r0⟩ := q0.toInt
  obtain ⟨y1, rfl, _⟩ := q1.toInt
  obtain ⟨y2, rfl, _⟩ := q2.toInt
  obtain ⟨y3, rfl, _⟩ := q3.toInt
  obtain ⟨y4, rfl, _⟩ := q4.toInt
  obtain ⟨y5, rfl, _⟩ := q5.toInt
  obtain ⟨y6, rfl, _⟩ := q6.toInt
  obtain ⟨y7, rfl, _⟩ := q7.toInt
  obtain ⟨y8, rfl, _⟩ := q8.toInt
  show FX 4 [.int y0, .int y1, .int y2, .int y3, .int y4, .int y5, .int y6, .int y7, .int y8] = _
  have ep := print_eq y0 y1 y2 y3 y4 y5 y6 y7 y8
  have er := refprint_eq y0 y1 y2 y3 y4 y5 y6 y7 y8
  have ev := verb_eq y0
  rw [E_law15_LinePrints]
  have z1 : (ByteArray.mk #[115, 117, 98, 109, 105, 116]) = toB submitB := rfl
  have z2 : (ByteArray.mk #[99, 97, 110, 99, 101, 108]) = toB cancelB := rfl
  have z3 : (ByteArray.mk #[112, 111, 108, 108]) = toB pollB := rfl
  have z4 : (ByteArray.mk #[118, 105, 101, 119]) = toB viewB := rfl
  have z5 : (ByteArray.mk #[63]) = toB [63] := rfl
  obtain ⟨pa, ea⟩ := awake_eq []
  simp only [z1, z2, z3, z4, z5, to_eq, ep, er, ev, bindC, List.length_cons, List.length_nil, if_true, List.getD_cons_zero, List.getD_cons_succ, D.toInt_int, D.toL_agg]
  cases hp : printB y0 y1 y2 y3 y4 y5 y6 y7 y8 with
  | ok t =>
    have hk : ¬ (y0 < 1 ∨ 4 < y0) := by
      intro hh
      unfold printB at hp
      rw [if_pos hh] at hp
      cases hp
    have c1 : y0 ≥ 1 := by omega
    have c2 : y0 ≤ 4 := by omega
    have wv : IntKind.i64.wrap (y0 - 1) = y0 - 1 := wrap_small _ (by omega) (by omega)
    have c3 : y0 - 1 ≥ 0 := by omega
    have c4 : y0 - 1 < ((0 + 1 + 1 + 1 + 1 : Nat) : Int) := by omega
    have hn : FX 11 [.nil] = some [.int 0] := by rw [E_law01_Num]; rfl
    have hss : (t == t) = true := by simp
    have q1 : ((0 : Int) != 0) = false := rfl
    have q5 : ((0 : Int) == 5) = false := rfl
    have q6 : ((0 : Int) == 1) = false := rfl
    have hww : ∀ w : Bs, (w == w) = true := fun w => by simp
    simp only [outD, refOut, List.length_cons, List.length_nil, if_true, List.getD_cons_zero, List.getD_cons_succ, D.toStr_str, neq_toB, hss, Bool.not_true, Bool.false_eq_true, if_false, hn, D.toInt_int, q1, q5, q6, c1, c2, c3, c4, wv, decide_true, ea, D.toBool_bool, want_eq y0 c1 c2, hk, if_neg hk, eql_toB, hww]
  | error e =>
    obtain ⟨c, p⟩ := e
    have hss : ∀ w : Bs, (w == w) = true := fun w => by simp
    by_cases hk : y0 < 1 ∨ 4 < y0
    · have hcp : c = 6 ∧ p = 0 := by
        unfold printB at hp
        rw [if_pos hk] at hp
        simp only [Except.error.injEq, Prod.mk.injEq] at hp
        omega
      obtain ⟨rfl, rfl⟩ := hcp
      have hc6 : codeD 6 0 = code 6 := rfl
      have t1 : (((6 : Nat) : Int) != ((6 : Nat) : Int)) = false := rfl
      have t2 : (((6 : Nat) : Int) == 5) = false := rfl
      have t3 : (((6 : Nat) : Int) == 1) = false := rfl
      have hn : FX 11 [code 6] = some [.int ((6 : Nat) : Int)] := num_code 6 (by omega)
      by_cases h1 : y0 ≥ 1
      · have h2 : ¬ (y0 ≤ 4) := by omega
        simp only [outD, refOut, hc6, List.length_cons, List.length_nil, if_true, List.getD_cons_zero, List.getD_cons_succ, D.toStr_str, neq_toB, hss, Bool.not_true, Bool.false_eq_true, if_false, hn, D.toInt_int, t1, t2, t3, h1, h2, decide_true, decide_false, ea, D.toBool_bool, if_pos hk, eql_toB]
      · simp only [outD, refOut, hc6, List.length_cons, List.length_nil, if_true, List.getD_cons_zero, List.getD_cons_succ, D.toStr_str, neq_toB, hss, Bool.not_true, Bool.false_eq_true, if_false, hn, D.toInt_int, t1, t2, t3, h1, decide_true, decide_false, ea, D.toBool_bool, if_pos hk, eql_toB]
    · have hc51 : c = 5 ∨ c = 1 := by
        unfold printB at hp
        rw [if_neg hk] at hp
        split at hp
        · cases hp
        · rename_i e he
          cases hp
          exact printW_err he
      have c1 : y0 ≥ 1 := by omega
      have c2 : y0 ≤ 4 := by omega
      have wv : IntKind.i64.wrap (y0 - 1) = y0 - 1 := wrap_small _ (by omega) (by omega)
      have c3 : y0 - 1 ≥ 0 := by omega
      have c4 : y0 - 1 < ((0 + 1 + 1 + 1 + 1 : Nat) : Int) := by omega
      have hcd : codeD c p = errAt p c := by unfold codeD; rw [if_neg (by omega)]
      have hn := num_at (p : Int) (c : Int) (by omega)
      obtain ⟨y, e5⟩ := place_at (p : Int) (c : Int) []
      obtain ⟨pb, eb⟩ := awake_eq ([] ++ [y])
      have t1 : ((c : Int) != (c : Int)) = false := by simp
      have t2 : ((p : Int) != (p : Int)) = false := by simp
      rcases hc51 with rfl | rfl
      · have t3 : (((5 : Nat) : Int) == 5) = true := rfl
        simp only [outD, refOut, hcd, List.length_cons, List.length_nil, if_true, List.getD_cons_zero, List.getD_cons_succ, D.toStr_str, neq_toB, hss, Bool.not_true, Bool.false_eq_true, if_false, hn, D.toInt_int, t1, t2, t3, e5, c1, c2, c3, c4, wv, decide_true, eb, D.toBool_bool, want_eq y0 c1 c2, if_neg hk, eql_toB]
      · have t3 : (((1 : Nat) : Int) == 5) = false := rfl
        have t4 : (((1 : Nat) : Int) == 1) = true := rfl
        simp only [outD, refOut, hcd, List.length_cons, List.length_nil, if_true, List.getD_cons_zero, List.getD_cons_succ, D.toStr_str, neq_toB, hss, Bool.not_true, Bool.false_eq_true, if_false, hn, D.toInt_int, t1, t2, t3, t4, e5, c1, c2, c3, c4, wv, decide_true, eb, D.toBool_bool, want_eq y0 c1 c2, if_neg hk, eql_toB]
end Go.Proofs.YtobacchojjfpfaaGreatDoor.LineD
