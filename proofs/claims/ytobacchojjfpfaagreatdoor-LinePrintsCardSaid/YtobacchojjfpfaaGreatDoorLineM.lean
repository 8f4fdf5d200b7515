/-
  What the reader of a line does, on data: its words, one by one.
-/
import Derived.Test.YtobacchojjfpfaaGreatDoorAllE
import Derived.Test.YtobacchojjfpfaaGreatDoorDat
import Derived.Test.YtobacchojjfpfaaGreatDoorNumE
import Derived.Test.YtobacchojjfpfaaGreatDoorAskP
namespace Go.Proofs.YtobacchojjfpfaaGreatDoor.LineD
open Go.Proofs.YtobacchojjfpfaaGreatDoor.Eng Go.Proofs.YtobacchojjfpfaaGreatDoor Go.Proofs.YtobacchojjfpfaaGreatDoor.Dat Go.Proofs.YtobacchojjfpfaaGreatDoor.WordP Go.Proofs.YtobacchojjfpfaaGreatDoor.NumE
set_option linter.unusedVariables false
set_option linter.unusedSimpArgs false

def wD (W : List Bs) : D := .agg (W.map fun w => .str (toB w))
/-- A reader: how many words were read, the next one's place, what was wrong first. -/
structure R where
  k : Nat
  p : Nat
  e : D
def obj (W : List Bs) (E : Nat) (s : R) : D := .agg [wD W, .int s.k, .int s.p, .int E, s.e]
def H (pre : List D) (W : List Bs) (E : Nat) (s : R) : D := .agg (pre ++ [obj W E s])
structure Inv (W : List Bs) (s : R) : Prop where
  k : s.k ≤ W.length
  p : s.p + span (W.drop s.k) ≤ 100000
def flt (a c : Nat) : D := errAt a c
def failM (s : R) (a c : Nat) : R := { s with e := if s.e.isNil then flt a c else s.e }
def nextM (W : List Bs) (E : Nat) (s : R) : Bs × Nat × R := match W[s.k]? with
  | some w => (w, s.p, { s with k := s.k + 1, p := s.p + w.length + 1 })
  | none => ([], E, failM s E 11)
def numM (W : List Bs) (E : Nat) (s : R) : Nat × R :=
  if dig (nextM W E s).1 then (val (nextM W E s).1, (nextM W E s).2.2) else (0, failM (nextM W E s).2.2 (nextM W E s).2.1 13)
def sideM (W : List Bs) (E : Nat) (s : R) : Nat × R :=
  if (nextM W E s).1 == buyB then (0, (nextM W E s).2.2) else if (nextM W E s).1 == sellB then (1, (nextM W E s).2.2) else (0, failM (nextM W E s).2.2 (nextM W E s).2.1 10)

theorem getD_pre (pre : List D) (x d : D) : (pre ++ [x]).getD pre.length d = x := by simp
theorem set_pre (pre : List D) (x y : D) : (pre ++ [x]).set pre.length y = pre ++ [y] := by simp
theorem first_eq (e f : D) (hf : f.isNil = false) : FX 32 [.agg [e, f]] = some [if e.isNil then f else e] := by
  rw [E_fault_First, W_fault_First_1_eq]
  cases he : e.isNil with
  | false => simp [he]
  | true =>
    have h1 : IntKind.i64.wrap 1 = 1 := by decide
    simp [he, h1]
    rw [W_fault_First_1_eq]
    simp [hf]
theorem at_flt (a c : Nat) : FX 15 [.int a, .iface 45 (.int c)] = some [flt a c] := by
  rw [E_fault_At]; simp [flt, errAt, code]
theorem fail_eq (pre : List D) (W : List Bs) (E : Nat) (s : R) (a c : Nat) : FX 21 [.int (pre.length : Nat), .int a, .int c, H pre W E s] = some [H pre W E (failM s a c)] := by
  rw [E_p_line_reader_fail]
  have hn : (D.int ((pre.length : Nat) : Int)).isNil = false := rfl
  simp only [hn, at_flt, bindC, H, D.toL_agg, D.toInt_int, Int.toNat_natCast, getD_pre, set_pre, Bool.not_false, if_true, List.length_cons, List.length_nil, List.getD_cons_zero]
  have h4 : (obj W E s).toL.getD 4 D.nil = s.e := rfl
  rw [h4, first_eq _ _ rfl]
  rfl
theorem fail_inv {W : List Bs} {s : R} (h : Inv W s) (a c : Nat) : Inv W (failM s a c) := ⟨h.k, h.p⟩
theorem next_eq (pre : List D) {W : List Bs} {E : Nat} {s : R} (h : Inv W s) (hW : W.length ≤ 100000) :
    FX 18 [.int (pre.length : Nat), H pre W E s] = some [.str (toB (nextM W E s).1), .int ((nextM W E s).2.1 : Nat), H pre W E (nextM W E s).2.2] ∧ Inv W (nextM W E s).2.2 := by
  have hn : (D.int ((pre.length : Nat) : Int)).isNil = false := rfl
  have o0 : (obj W E s).toL.getD 0 D.nil = wD W := rfl
  have o1 : (obj W E s).toL.getD 1 D.nil = .int (s.k : Nat) := rfl
  have o2 : (obj W E s).toL.getD 2 D.nil = .int (s.p : Nat) := rfl
  have o3 : (obj W E s).toL.getD 3 D.nil = .int (E : Nat) := rfl
  rw [E_p_line_reader_next]
  by_cases hk : s.k < W.length
  · have hw : W[s.k]? = some W[s.k] := List.getElem?_eq_getElem hk
    have hm : nextM W E s = (W[s.k], s.p, { s with k := s.k + 1, p := s.p + W[s.k].length + 1 }) := by unfold nextM; rw [hw]
    rw [hm]
    have hsp : s.p + W[s.k].length + 1 + span (W.drop (s.k + 1)) ≤ 100000 := by
      have := h.p
      rw [List.drop_eq_getElem_cons hk] at this
      simp only [span, List.map_cons, List.sum_cons] at this
      simp only [span]
      omega
    refine ⟨?_, ⟨hk, hsp⟩⟩
    have e1 : ((s.k : Int) == (W.length : Int)) = false := by simp; omega
    have e2 : ((s.k : Int) ≥ 0) := by omega
    have e3 : ((s.k : Int) < (W.length : Int)) := by omega
    have e4 : (wD W).toL.getD s.k D.nil = .str (toB W[s.k]) := by simp [wD, hk]
    have e5 : (wD W).toL.length = W.length := by simp [wD]
    have e6 : IntKind.i64.wrap ((s.k : Int) + 1) = ((s.k + 1 : Nat) : Int) := by rw [wrap_small _ (by omega) (by omega)]; omega
    have e7 : IntKind.i64.wrap (((W[s.k].length : Nat) : Int) + 1) = ((W[s.k].length + 1 : Nat) : Int) := by rw [wrap_small _ (by omega) (by omega)]; omega
    have e8 : IntKind.i64.wrap ((s.p : Int) + ((W[s.k].length + 1 : Nat) : Int)) = ((s.p + W[s.k].length + 1 : Nat) : Int) := by rw [wrap_small _ (by omega) (by omega)]; omega
    simp only [hn, bindC, H, D.toL_agg, D.toInt_int, D.toStr_str, Int.toNat_natCast, getD_pre, set_pre, Bool.not_false, if_true, o0, o1, o2, o3, e4, e5, e1, e2, e3, toB_size, e6, e7, e8, decide_true, Bool.false_eq_true, if_false]
    rfl
  · have hkk : s.k = W.length := by have := h.k; omega
    have hw : W[s.k]? = none := List.getElem?_eq_none (by omega)
    have hm : nextM W E s = ([], E, failM s E 11) := by unfold nextM; rw [hw]
    rw [hm]
    refine ⟨?_, fail_inv h _ _⟩
    have e5 : (wD W).toL.length = W.length := by simp [wD]
    have e1 : ((s.k : Int) == (W.length : Int)) = true := by simp; omega
    have hf := fail_eq pre W E s E 11
    have o3' : (obj W E (failM s E 11)).toL.getD 3 D.nil = .int (E : Nat) := rfl
    have e9 : (D.int (11 : Int)) = .int ((11 : Nat) : Int) := rfl
    unfold H at hf
    simp only [hn, bindC, H, D.toL_agg, D.toInt_int, D.toStr_str, Int.toNat_natCast, getD_pre, set_pre, Bool.not_false, if_true, o0, o1, o2, o3, o3', e5, e1, e9, hf, List.length_cons, List.length_nil, List.getD_cons_zero]
    rfl
theorem inv_num {W : List Bs} {E : Nat} {s : R} (h : Inv W (nextM W E s).2.2) : Inv W (numM W E s).2 := by
  unfold numM
  split
  · exact h
  · exact fail_inv h _ _
theorem inv_side {W : List Bs} {E : Nat} {s : R} (h : Inv W (nextM W E s).2.2) : Inv W (sideM W E s).2 := by
  unfold sideM
  split
  · exact h
  · split
    · exact h
    · exact fail_inv h _ _
/-! Digits. -/
theorem digits1 (w : Bs) (hw : w.length ≤ 1000000) : ∀ (d i : Nat), i + d = w.length → W_line_Digits_1 (.str (toB w)) [.int i] = some [.bool ((w.drop i).all dgt)]
  | 0, i, h => by
    rw [W_line_Digits_1_eq]
    have : ¬ ((i : Int) < (w.length : Int)) := by omega
    simp only [D.toInt_int, D.toStr_str, toB_size, this, decide_false, Bool.false_eq_true, if_false]
    rw [List.drop_eq_nil_of_le (by omega)]
    rfl
  | d + 1, i, h => by
    have hi : i < w.length := by omega
    have h1 : ((i : Int) < (w.length : Int)) := by omega
    have h2 : ((i : Int) ≥ 0) := by omega
    have h3 : IntKind.i64.wrap ((i : Int) + 1) = ((i + 1 : Nat) : Int) := by rw [wrap_small _ (by omega) (by omega)]; omega
    rw [W_line_Digits_1_eq]
    simp only [D.toInt_int, D.toStr_str, toB_size, h1, h2, decide_true, if_true, Int.toNat_natCast, toB_get, h3, digits1 w hw d (i + 1) (by omega)]
    rw [List.drop_eq_getElem_cons hi, List.all_cons, List.getD_eq_getElem?_getD, List.getElem?_eq_getElem hi, Option.getD_some]
    by_cases ha : ((w[i].toNat : Int) < 48)
    · have : dgt w[i] = false := by simp [dgt]; omega
      simp [ha, this]
    · by_cases hb : ((w[i].toNat : Int) > 57)
      · have : dgt w[i] = false := by simp [dgt]; omega
        simp only [ha, hb, this, decide_false, decide_true, Bool.false_eq_true, if_false, if_true, Bool.false_and]
      · have : dgt w[i] = true := by simp [dgt]; omega
        simp only [ha, hb, this, decide_false, Bool.false_eq_true, if_false, Bool.true_and]
theorem digits2 (w : Bs) (hw : w.length ≤ 1000000) : ∀ (d i : Nat), i + d = w.length → W_line_Digits_2 (.str (toB w)) [.int i] = some [.bool ((w.drop i).all dgt)]
  | 0, i, h => by
    rw [W_line_Digits_2_eq]
    have : ¬ ((i : Int) < (w.length : Int)) := by omega
    simp only [D.toInt_int, D.toStr_str, toB_size, this, decide_false, Bool.false_eq_true, if_false]
    rw [List.drop_eq_nil_of_le (by omega)]
    rfl
  | d + 1, i, h => by
    have hi : i < w.length := by omega
    have h1 : ((i : Int) < (w.length : Int)) := by omega
    have h2 : ((i : Int) ≥ 0) := by omega
    have h3 : IntKind.i64.wrap ((i : Int) + 1) = ((i + 1 : Nat) : Int) := by rw [wrap_small _ (by omega) (by omega)]; omega
    rw [W_line_Digits_2_eq]
    simp only [D.toInt_int, D.toStr_str, toB_size, h1, h2, decide_true, if_true, Int.toNat_natCast, toB_get, h3, digits2 w hw d (i + 1) (by omega)]
    rw [List.drop_eq_getElem_cons hi, List.all_cons, List.getD_eq_getElem?_getD, List.getElem?_eq_getElem hi, Option.getD_some]
    by_cases ha : ((w[i].toNat : Int) < 48)
    · have : dgt w[i] = false := by simp [dgt]; omega
      simp [ha, this]
    · by_cases hb : ((w[i].toNat : Int) > 57)
      · have : dgt w[i] = false := by simp [dgt]; omega
        simp only [ha, hb, this, decide_false, decide_true, Bool.false_eq_true, if_false, if_true, Bool.false_and]
      · have : dgt w[i] = true := by simp [dgt]; omega
        simp only [ha, hb, this, decide_false, Bool.false_eq_true, if_false, Bool.true_and]
theorem u8_48 (c : UInt8) : (((c.toNat : Nat) : Int) == 48) = (c == 48) := by
  by_cases h : c = 48
  · subst h; rfl
  · have : c.toNat ≠ 48 := fun e => h (by rw [← UInt8.toNat_inj]; exact e)
    have h1 : (c == 48) = false := by simpa using h
    rw [h1]
    simp; omega
theorem digits_eq (w : Bs) : FX 30 [.str (toB w)] = some [.bool (dig w)] := by
  rw [E_line_Digits]
  have n0 : (ByteArray.mk #[]) = toB [] := rfl
  have n1 : (ByteArray.mk #[48]) = toB [48] := rfl
  simp only [D.toStr_str, n0, n1, eql_toB, neq_toB, toB_size]
  cases h0 : w == [] with
  | true => simp [dig, h0]
  | false =>
    have hpos : 0 < w.length := by
      cases w with
      | nil => simp at h0
      | cons => simp
    simp only [Bool.false_eq_true, if_false]
    by_cases h7 : w.length ≤ 7
    · have h1 : ¬ ((w.length : Int) > 7) := by omega
      have h2 : ((0 : Int) < (w.length : Int)) := by omega
      have g0 : (toB w).data.getD ((0 : Int)).toNat 0 = w.getD 0 0 := toB_get w 0
      have d1 := digits1 w (by omega) w.length 0 (by omega)
      have d2 := digits2 w (by omega) w.length 0 (by omega)
      rw [List.drop_zero] at d1 d2
      have z : (D.int (0 : Int)) = .int ((0 : Nat) : Int) := rfl
      simp only [h1, h2, decide_false, decide_true, Bool.false_eq_true, if_false, if_true, g0, u8_48, z, d1, d2]
      cases hc : w.getD 0 0 == 48 with
      | true =>
        simp only [if_true]
        cases hq : w == [48] with
        | true =>
          have : dig w = w.all dgt := by unfold dig; rw [h0, hc, hq]; simp only [h7, decide_true, Bool.not_false, Bool.not_true, Bool.and_true, Bool.true_and, Bool.and_false]
          simp only [this, Bool.not_true, Bool.false_eq_true, if_false]
        | false =>
          have : dig w = false := by unfold dig; rw [h0, hc, hq]; simp only [h7, decide_true, Bool.not_false, Bool.not_true, Bool.and_true, Bool.true_and, Bool.and_false, Bool.false_and]
          simp only [this, Bool.not_false, if_true]
      | false =>
        have : dig w = w.all dgt := by unfold dig; rw [h0, hc]; simp only [h7, decide_true, Bool.not_false, Bool.not_true, Bool.and_true, Bool.true_and, Bool.and_false, Bool.false_and]
        simp only [this, Bool.false_eq_true, if_false]
    · have h1 : ((w.length : Int) > 7) := by omega
      simp [h1, dig, h7]
theorem atoi_eq (ds : List D) : FX 31 ds = StrD.atoiF ds := by
  have h : FX 31 = StrD.base0 31 := fix_base (by rfl)
  rw [h]; rfl
theorem split_eq (ds : List D) : FX 17 ds = StrD.splitF ds := by
  have h : FX 17 = StrD.base0 17 := fix_base (by rfl)
  rw [h]; rfl
theorem atoi_dig {w : Bs} (h : dig w = true) : FX 31 [.str (toB w)] = some [.int (val w), .nil] := by
  have h' := h
  simp only [dig, Bool.and_eq_true, decide_eq_true_eq, Bool.not_eq_true', beq_eq_false_iff_ne, ne_eq] at h'
  have hne : w ≠ [] := fun e => by rw [e] at h'; exact absurd h'.1.1.1 (by simp)
  rw [atoi_eq]
  unfold StrD.atoiF
  have hs : (toB w).size ≤ 18 := by rw [toB_size]; omega
  simp only [hs, if_true, toB_list, atoi_val hne h'.2]
theorem num_eq (pre : List D) {W : List Bs} {E : Nat} {s : R} (h : Inv W s) (hW : W.length ≤ 100000) :
    FX 19 [.int (pre.length : Nat), H pre W E s] = some [.int ((numM W E s).1 : Nat), H pre W E (numM W E s).2] ∧ Inv W (numM W E s).2 := by
  obtain ⟨h1, h2⟩ := next_eq pre (E := E) h hW
  refine ⟨?_, inv_num h2⟩
  rw [E_p_line_reader_num]
  have hf := fail_eq pre W E (nextM W E s).2.2 (nextM W E s).2.1 13
  have e9 : (D.int (13 : Int)) = .int ((13 : Nat) : Int) := rfl
  simp only [h1, bindC, List.length_cons, List.length_nil, List.getD_cons_zero, List.getD_cons_succ, if_true, digits_eq, D.toBool_bool, e9, hf]
  unfold numM
  cases hd : dig (nextM W E s).1 with
  | true =>
    simp only [Bool.not_true, Bool.false_eq_true, if_false, if_true, atoi_dig hd, List.length_cons, List.length_nil, List.getD_cons_zero]
  | false =>
    simp only [Bool.not_false, if_true, Bool.false_eq_true, if_false]
    rfl
theorem side_eq (pre : List D) {W : List Bs} {E : Nat} {s : R} (h : Inv W s) (hW : W.length ≤ 100000) :
    FX 20 [.int (pre.length : Nat), H pre W E s] = some [.int ((sideM W E s).1 : Nat), H pre W E (sideM W E s).2] ∧ Inv W (sideM W E s).2 := by
  obtain ⟨h1, h2⟩ := next_eq pre (E := E) h hW
  refine ⟨?_, inv_side h2⟩
  rw [E_p_line_reader_side]
  have hf := fail_eq pre W E (nextM W E s).2.2 (nextM W E s).2.1 10
  have e9 : (D.int (10 : Int)) = .int ((10 : Nat) : Int) := rfl
  have n0 : FX 23 [.int 0] = some [.str (toB buyB)] := by rw [E_terms_Name]; rfl
  have n1 : FX 23 [.int 1] = some [.str (toB sellB)] := by rw [E_terms_Name]; rfl
  simp only [h1, n0, n1, bindC, List.length_cons, List.length_nil, List.getD_cons_zero, List.getD_cons_succ, if_true, D.toStr_str, eql_toB, e9, hf]
  unfold sideM
  cases hb : (nextM W E s).1 == buyB with
  | true => simp only [if_true]; rfl
  | false =>
    cases hc : (nextM W E s).1 == sellB with
    | true => simp only [Bool.false_eq_true, if_false, if_true]; rfl
    | false => simp only [Bool.false_eq_true, if_false]; rfl
end Go.Proofs.YtobacchojjfpfaaGreatDoor.LineD
