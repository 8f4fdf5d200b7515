/-
  Numbers, words and lines on data: what strings' and strconv's functions, line.Digits and line.Verb give.
-/
import Derived.Test.YtnaemggpelolcaaGreatDoorAllE
import Derived.Test.YtnaemggpelolcaaGreatDoorDat
import Derived.Test.YtnaemggpelolcaaGreatDoorPrintP
namespace Go.Proofs.YtnaemggpelolcaaGreatDoor.StrL
open Go.Proofs.YtnaemggpelolcaaGreatDoor.Eng Go.Proofs.YtnaemggpelolcaaGreatDoor Go.Proofs.YtnaemggpelolcaaGreatDoor.Dat Go.Proofs.YtnaemggpelolcaaGreatDoor.WordP
open Go.Lib (decDigits itoa nDigits)
set_option linter.unusedVariables false
set_option linter.unusedSimpArgs false

def wD (W : List Bs) : D := .agg (W.map fun w => .str (toB w))
theorem itoa_eq (ds : List D) : FX 18 ds = StrD.itoaF ds := by
  have h : FX 18 = StrD.base 18 := fix_base (by rfl)
  rw [h]; rfl
theorem itoa_big (n : Int) (h0 : 0 ≤ n) (h1 : n ≤ 9223372036854775807) : FX 18 [.int n] = some [.str (toB (decDigits n.toNat))] := by
  rw [itoa_eq]
  unfold StrD.itoaF
  have : -9223372036854775808 ≤ n ∧ n ≤ 9223372036854775807 := by omega
  have h2 : ¬ n < 0 := by omega
  simp only [this, and_self, if_true, itoa, h2, if_false]
  rfl
theorem itoa_nat (n : Int) (h0 : 0 ≤ n) (h1 : n ≤ 9999999) : FX 18 [.int n] = some [.str (toB (decDigits n.toNat))] := itoa_big n h0 (by omega)
theorem nDigits_le : ∀ (k n : Nat), 1 ≤ k → n < 10 ^ k → nDigits n ≤ k
  | 0, n, h, _ => absurd h (by omega)
  | k + 1, n, _, h => by
    by_cases hn : n < 10
    · rw [Go.Lib.nDigits_small hn]; omega
    · rw [Go.Lib.nDigits_big hn]
      cases k with
      | zero => simp at h; omega
      | succ k =>
        have := nDigits_le (k + 1) (n / 10) (by omega) (by rw [Nat.pow_succ] at h; omega)
        omega
theorem dec_len {n : Nat} (h : n ≤ 9223372036854775807) : (decDigits n).length ≤ 19 := by
  rw [Go.Lib.decDigits_length]
  exact nDigits_le 19 n (by omega) (Nat.lt_of_le_of_lt h (by decide))
theorem span_short {ws : List Bs} (h : ∀ w ∈ ws, w.length ≤ 20) : span ws ≤ 21 * ws.length := by
  induction ws with
  | nil => simp [span]
  | cons w l ih =>
    have h1 := h w (List.mem_cons_self ..)
    have h2 := ih fun x hx => h x (List.mem_cons_of_mem _ hx)
    simp only [span, List.map_cons, List.sum_cons, List.length_cons] at h2 ⊢
    omega
theorem span_ge (ws : List Bs) : ws.length ≤ span ws := by
  induction ws with
  | nil => simp [span]
  | cons w l ih => simp only [span, List.map_cons, List.sum_cons, List.length_cons] at ih ⊢; omega
theorem wD_snoc (acc : List Bs) (w : Bs) : D.agg ((wD acc).toL ++ [D.str (toB w)]) = wD (acc ++ [w]) := by simp [wD]
theorem wD_two (acc : List Bs) (v w : Bs) : D.agg ((wD acc).toL ++ [D.str (toB v)] ++ [D.str (toB w)]) = wD (acc ++ [v] ++ [w]) := by simp [wD]
theorem wD_lenN (acc : List Bs) : (wD acc).toL.length = acc.length := by simp [wD]
theorem span_snoc (acc : List Bs) (w : Bs) : span (acc ++ [w]) = span acc + w.length + 1 := by simp [span]; omega
theorem digits1 (w : Bs) (hw : w.length ≤ 1000000) : ∀ (d i : Nat), i + d = w.length → W_line_Digits_1 (.str (toB w)) [.int i] = some [.bool ((w.drop i).all dgt)]
  | 0, i, h => by
    rw [W_line_Digits_1_eq]
    have : ¬ ((i : Int) < (w.length : Int)) := by omega
    simp only [D.toInt_int, D.toStr_str, toB_size, this, decide_false, Bool.false_eq_true, if_false]
    rw [List.drop_eq_nil_of_le (by omega)]
    rfl
  | d + 1, i, h => by
    have hi : i < w.length := by omega
    have h1 : ((i : Int) < (w.length : Int)) := by omega
    have h2 : ((i : Int) ≥ 0) := by omega
    have h3 : IntKind.i64.wrap ((i : Int) + 1) = ((i + 1 : Nat) : Int) := by rw [wrap_small _ (by omega) (by omega)]; omega
    rw [W_line_Digits_1_eq]
    simp only [D.toInt_int, D.toStr_str, toB_size, h1, h2, decide_true, if_true, Int.toNat_natCast, toB_get, h3, digits1 w hw d (i + 1) (by omega)]
    rw [List.drop_eq_getElem_cons hi, List.all_cons, List.getD_eq_getElem?_getD, List.getElem?_eq_getElem hi, Option.getD_some]
    by_cases ha : ((w[i].toNat : Int) < 48)
    · have : dgt w[i] = false := by simp [dgt]; omega
      simp [ha, this]
    · by_cases hb : ((w[i].toNat : Int) > 57)
      · have : dgt w[i] = false := by simp [dgt]; omega
        simp only [ha, hb, this, decide_false, decide_true, Bool.false_eq_true, if_false, if_true, Bool.false_and]
      · have : dgt w[i] = true := by simp [dgt]; omega
        simp only [ha, hb, this, decide_false, Bool.false_eq_true, if_false, Bool.true_and]
theorem digits2 (w : Bs) (hw : w.length ≤ 1000000) : ∀ (d i : Nat), i + d = w.length → W_line_Digits_2 (.str (toB w)) [.int i] = some [.bool ((w.drop i).all dgt)]
  | 0, i, h => by
    rw [W_line_Digits_2_eq]
    have : ¬ ((i : Int) < (w.length : Int)) := by omega
    simp only [D.toInt_int, D.toStr_str, toB_size, this, decide_false, Bool.false_eq_true, if_false]
    rw [List.drop_eq_nil_of_le (by omega)]
    rfl
  | d + 1, i, h => by
    have hi : i < w.length := by omega
    have h1 : ((i : Int) < (w.length : Int)) := by omega
    have h2 : ((i : Int) ≥ 0) := by omega
    have h3 : IntKind.i64.wrap ((i : Int) + 1) = ((i + 1 : Nat) : Int) := by rw [wrap_small _ (by omega) (by omega)]; omega
    rw [W_line_Digits_2_eq]
    simp only [D.toInt_int, D.toStr_str, toB_size, h1, h2, decide_true, if_true, Int.toNat_natCast, toB_get, h3, digits2 w hw d (i + 1) (by omega)]
    rw [List.drop_eq_getElem_cons hi, List.all_cons, List.getD_eq_getElem?_getD, List.getElem?_eq_getElem hi, Option.getD_some]
    by_cases ha : ((w[i].toNat : Int) < 48)
    · have : dgt w[i] = false := by simp [dgt]; omega
      simp [ha, this]
    · by_cases hb : ((w[i].toNat : Int) > 57)
      · have : dgt w[i] = false := by simp [dgt]; omega
        simp only [ha, hb, this, decide_false, decide_true, Bool.false_eq_true, if_false, if_true, Bool.false_and]
      · have : dgt w[i] = true := by simp [dgt]; omega
        simp only [ha, hb, this, decide_false, Bool.false_eq_true, if_false, Bool.true_and]
theorem u8_48 (c : UInt8) : (((c.toNat : Nat) : Int) == 48) = (c == 48) := by
  by_cases h : c = 48
  · subst h; rfl
  · have : c.toNat ≠ 48 := fun e => h (by rw [← UInt8.toNat_inj]; exact e)
    have h1 : (c == 48) = false := by simpa using h
    rw [h1]
    simp; omega
theorem digits_eq (w : Bs) : FX 48 [.str (toB w)] = some [.bool (dig w)] := by
  rw [E_line_Digits]
  have n0 : (ByteArray.mk #[]) = toB [] := rfl
  have n1 : (ByteArray.mk #[48]) = toB [48] := rfl
  simp only [D.toStr_str, n0, n1, eql_toB, neq_toB, toB_size]
  cases h0 : w == [] with
  | true => simp [dig, h0]
  | false =>
    have hpos : 0 < w.length := by
      cases w with
      | nil => simp at h0
      | cons => simp
    simp only [Bool.false_eq_true, if_false]
    by_cases h7 : w.length ≤ 7
    · have h1 : ¬ ((w.length : Int) > 7) := by omega
      have h2 : ((0 : Int) < (w.length : Int)) := by omega
      have g0 : (toB w).data.getD ((0 : Int)).toNat 0 = w.getD 0 0 := toB_get w 0
      have d1 := digits1 w (by omega) w.length 0 (by omega)
      have d2 := digits2 w (by omega) w.length 0 (by omega)
      rw [List.drop_zero] at d1 d2
      have z : (D.int (0 : Int)) = .int ((0 : Nat) : Int) := rfl
      simp only [h1, h2, decide_false, decide_true, Bool.false_eq_true, if_false, if_true, g0, u8_48, z, d1, d2]
      cases hc : w.getD 0 0 == 48 with
      | true =>
        simp only [if_true]
        cases hq : w == [48] with
        | true =>
          have : dig w = w.all dgt := by unfold dig; rw [h0, hc, hq]; simp only [h7, decide_true, Bool.not_false, Bool.not_true, Bool.and_true, Bool.true_and, Bool.and_false]
          simp only [this, Bool.not_true, Bool.false_eq_true, if_false]
        | false =>
          have : dig w = false := by unfold dig; rw [h0, hc, hq]; simp only [h7, decide_true, Bool.not_false, Bool.not_true, Bool.and_true, Bool.true_and, Bool.and_false, Bool.false_and]
          simp only [this, Bool.not_false, if_true]
      | false =>
        have : dig w = w.all dgt := by unfold dig; rw [h0, hc]; simp only [h7, decide_true, Bool.not_false, Bool.not_true, Bool.and_true, Bool.true_and, Bool.and_false, Bool.false_and]
        simp only [this, Bool.false_eq_true, if_false]
    · have h1 : ((w.length : Int) > 7) := by omega
      simp [h1, dig, h7]
theorem atoi_eq (ds : List D) : FX 49 ds = StrD.atoiF ds := by
  have h : FX 49 = StrD.base0 49 := fix_base (by rfl)
  rw [h]; rfl
theorem split_eq (ds : List D) : FX 33 ds = StrD.splitF ds := by
  have h : FX 33 = StrD.base0 33 := fix_base (by rfl)
  rw [h]; rfl
theorem atoi_dig {w : Bs} (h : dig w = true) : FX 49 [.str (toB w)] = some [.int (val w), .nil] := by
  have h' := h
  simp only [dig, Bool.and_eq_true, decide_eq_true_eq, Bool.not_eq_true', beq_eq_false_iff_ne, ne_eq] at h'
  have hne : w ≠ [] := fun e => by rw [e] at h'; exact absurd h'.1.1.1 (by simp)
  rw [atoi_eq]
  unfold StrD.atoiF
  have hs : (toB w).size ≤ 18 := by rw [toB_size]; omega
  simp only [hs, if_true, toB_list, atoi_val hne h'.2]
theorem split_words (s : Bs) (hs : s.length ≤ 1000000) : FX 33 [.str (toB s), .str (toB [32])] = some [wD (sp s)] := by
  rw [split_eq]
  unfold StrD.splitF
  have h1 : (toB s).size < 4294967281 ∧ 1 ≤ (toB [32]).size := by rw [toB_size, toB_size]; simp; omega
  simp only [h1, and_self, if_true, split_sp, List.map_map]
  rfl
theorem sp_len (s : Bs) : (sp s).length ≤ s.length + 1 := by
  have h1 := span_sp s
  have h2 : ∀ l : List Bs, l.length ≤ span l := by
    intro l
    induction l with
    | nil => simp [span]
    | cons w l ih => simp only [span, List.map_cons, List.sum_cons, List.length_cons] at ih ⊢; omega
  have := h2 (sp s)
  omega
end Go.Proofs.YtnaemggpelolcaaGreatDoor.StrL
