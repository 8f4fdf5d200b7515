/-
  story.Parse on data.
-/
import Derived.Test.YtnaemggpelolcaaGreatDoorStoryP
import Derived.Test.YtnaemggpelolcaaGreatDoorStrD
namespace Go.Proofs.YtnaemggpelolcaaGreatDoor.StoD
open Go.Proofs.YtnaemggpelolcaaGreatDoor.Eng Go.Proofs.YtnaemggpelolcaaGreatDoor.Dat Go.Proofs.YtnaemggpelolcaaGreatDoor Go.Proofs.YtnaemggpelolcaaGreatDoor.WordP Go.Proofs.YtnaemggpelolcaaGreatDoor.StrL
open Go.Lib (decDigits itoa nDigits)
set_option linter.unusedVariables false
set_option linter.unusedSimpArgs false
set_option maxRecDepth 10000

theorem u64w (x : Int) (h1 : 0 ≤ x) (h2 : x ≤ 18446744073709551615) : IntKind.u64.wrap x = x := by
  simp [IntKind.wrap, IntKind.bits, IntKind.signed]; omega
theorem and_mask (x : Int) (h1 : 0 ≤ x) (h2 : x < 4294967296) : arF .and .u64 x 4294967295 = x := by
  obtain ⟨n, rfl⟩ := Int.eq_ofNat_of_zero_le h1
  have hn : n < 4294967296 := by omega
  have e : (BitVec.ofInt 64 (n : Int) &&& BitVec.ofInt 64 4294967295).toNat = n := by
    rw [BitVec.toNat_and]
    have e1 : (BitVec.ofInt 64 (n : Int)).toNat = n := by
      rw [BitVec.toNat_ofInt]; omega
    have e2 : (BitVec.ofInt 64 (4294967295 : Int)).toNat = 2 ^ 32 - 1 := by rfl
    rw [e1, e2, Nat.and_two_pow_sub_one_eq_mod]
    exact Nat.mod_eq_of_lt hn
  show IntKind.u64.wrap ((BitVec.ofInt 64 (n : Int) &&& BitVec.ofInt 64 4294967295).toNat : Int) = _
  rw [e]
  exact u64w _ (by omega) (by omega)
theorem shr32 (x : Int) (h1 : 0 ≤ x) (h2 : x < 4294967296) : arF .shr .u64 x 32 = 0 := by
  show x.fdiv (2 ^ ((32 : Int)).toNat) = 0
  rw [Int.fdiv_eq_ediv_of_nonneg _ (by decide)]
  exact Int.ediv_eq_zero_of_lt h1 h2
theorem mul_eq (n : Int) (h1 : 0 ≤ n) (h2 : n < 4294967296) : FX 51 [.int 1, .int n] = some [.int 0, .int n] := by
  rw [E_math_bits_Mul, E_math_bits_Mul64]
  simp only [D.toInt_int, shr32 n h1 h2, shr32 1 (by decide) (by decide), and_mask n h1 h2, and_mask 1 (by decide) (by decide), Int.zero_mul, Int.mul_zero, Int.one_mul, Int.mul_one, Int.zero_add, Int.add_zero, u64w 0 (by decide) (by decide), u64w n h1 (by omega), shr32 0 (by decide) (by decide), and_mask 0 (by decide) (by decide), bindC, List.length_cons, List.length_nil, if_true, List.getD_cons_zero, List.getD_cons_succ]
def zE : D := .agg [.int 0, .int 0, .int 0, .str (toB [])]
theorem rep_rounds (x : D) (x0 x1 x2 x3 : D) (N : Nat) (hN : N ≤ 1000000) : ∀ (k m : Nat), N - m = k → 0 < m → m ≤ N → W_slices_Repeat_gate_Event_gate_Event_1 x0 x1 x2 x3 [.int m, .agg (List.replicate m x ++ List.replicate (N - m) zE)] = some [.agg (List.replicate N x)] := by
  intro k
  induction k using Nat.strongRecOn with
  | _ k ih =>
    intro m hk hm hle
    rw [W_slices_Repeat_gate_Event_gate_Event_1_eq]
    have hlen : (List.replicate m x ++ List.replicate (N - m) zE).length = N := by simp; omega
    by_cases h : m = N
    · subst h
      simp only [D.toInt_int, D.toL_agg, Nat.sub_self, List.replicate_zero, List.append_nil, List.length_replicate, Int.lt_irrefl, decide_false, Bool.false_eq_true, if_false]
    · have h1 : (m : Int) < (N : Int) := by omega
      have h2 : (m : Int) ≤ (N : Int) := by omega
      have e1 : (List.replicate m x ++ List.replicate (N - m) zE).take m = List.replicate m x := by rw [List.take_left' (by simp)]
      have e2 : (List.replicate m x ++ List.replicate (N - m) zE).drop m = List.replicate (N - m) zE := by rw [List.drop_left' (by simp)]
      simp only [D.toInt_int, D.toL_agg, hlen, h1, h2, decide_true, if_true, Int.natCast_nonneg, Int.le_refl, Int.toNat_natCast, Int.toNat_zero, Nat.sub_zero, List.drop_zero, e1, e2, List.length_take, List.length_replicate, Nat.min_self]
      have e3 : (List.replicate (N - m) zE).take (N - m) = List.replicate (N - m) zE := by rw [List.take_of_length_le (by simp)]
      rw [e3]
      by_cases hc : (m : Int) ≤ ((N - m : Nat) : Int)
      · have hw : IntKind.i64.wrap ((m : Int) + (m : Int)) = ((m + m : Nat) : Int) := by rw [i64w _ (by omega) (by omega)]; simp
        have e4 : (List.replicate (N - m) zE).drop m = List.replicate (N - (m + m)) zE := by rw [List.drop_replicate]; congr 1; omega
        simp only [hc, decide_true, if_true, D.toInt_int, Int.toNat_natCast, hw, e4, List.length_replicate]
        have e5 : (List.replicate m x).take m = List.replicate m x := by rw [List.take_of_length_le (by simp)]
        have e6 : (List.replicate (N - (m + m)) zE).take (N - m - m) = List.replicate (N - (m + m)) zE := by rw [List.take_of_length_le (by simp; omega)]
        rw [e5, e6, ← List.append_assoc, List.replicate_append_replicate]
        exact ih (N - (m + m)) (by omega) (m + m) rfl (by omega) (by omega)
      · have hw : IntKind.i64.wrap ((m : Int) + ((N - m : Nat) : Int)) = ((N : Nat) : Int) := by rw [i64w _ (by omega) (by omega)]; omega
        have e4 : (List.replicate (N - m) zE).drop (N - m) = [] := by simp
        simp only [hc, decide_false, Bool.false_eq_true, if_false, D.toInt_int, Int.toNat_natCast, hw, e4, List.length_replicate, List.take_nil, List.append_nil]
        have e5 : (List.replicate m x).take (N - m) = List.replicate (N - m) x := by rw [List.take_replicate]; congr 1; omega
        rw [e5, List.replicate_append_replicate, show m + (N - m) = N by omega]
        have := ih 0 (by omega) N (by omega) (by omega) (Nat.le_refl _)
        simpa using this
theorem repeat_eq (x : D) (N : Nat) (hN : N ≤ 1000000) : FX 34 [.agg [x], .int (N : Nat)] = some [.agg (List.replicate N x)] := by
  rw [E_slices_Repeat_gate_Event_gate_Event]
  have h0 : ¬ ((N : Nat) : Int) < 0 := by omega
  have h1 : ((N : Nat) : Int) ≤ 9223372036854775807 := by omega
  have h2 : ((N : Nat) : Int) ≤ 3518437208883 := by omega
  have h3 : ¬ (9223372036854775807 : Int) < (N : Int) := by omega
  have hm := mul_eq (N : Int) (by omega) (by omega)
  have hw1 : IntKind.u64.wrap ((1 : Nat) : Int) = 1 := by rfl
  have hw2 : IntKind.u64.wrap (1 : Int) = 1 := by rfl
  have hwi : IntKind.i64.wrap (N : Int) = (N : Int) := i64w _ (by omega) (by omega)
  simp only [D.toInt_int, D.toL_agg, h0, decide_false, Bool.false_eq_true, if_false, hw1, hw2, u64w (N : Int) (by omega) (by omega), hm, bindC, List.length_cons, List.length_nil, if_true, List.getD_cons_zero, List.getD_cons_succ, Int.lt_irrefl, gt_iff_lt, h3, hwi, ge_iff_le, Int.natCast_nonneg, decide_true, h2, Int.toNat_natCast, List.length_replicate, Nat.zero_add]
  by_cases h : N = 0
  · subst h
    simp only [Int.natCast_zero, Int.natCast_one, show ¬ ((1 : Int) ≤ 0) by decide, decide_false, Bool.false_eq_true, if_false, D.toInt_int, Int.toNat_zero, List.replicate_zero]
    rw [W_slices_Repeat_gate_Event_gate_Event_1_eq]
    simp
  · have hc : ((1 : Nat) : Int) ≤ (N : Int) := by omega
    simp only [hc, decide_true, if_true, D.toInt_int, Int.toNat_natCast, Int.toNat_zero, Nat.sub_zero, List.drop_zero]
    have e1 : [x].take 1 = List.replicate 1 x := rfl
    have e2 : ∀ z : D, ((List.replicate N z).drop 1).take (N - 1) = List.replicate (N - 1) z := fun z => by rw [List.drop_replicate, List.take_of_length_le (by simp)]
    rw [e1, e2]
    exact rep_rounds x _ _ _ _ N hN (N - 1) 1 rfl (by omega) (by omega)

theorem cutF {c : Prop} [Decidable c] {x : Option (List D)} {b : Bool} (h : c → b = false) (h' : ¬ c → x = some [.bool b]) : (if c then some [D.bool false] else x) = some [D.bool b] := by
  by_cases hc : c
  · rw [if_pos hc, h hc]
  · rw [if_neg hc, h' hc]
theorem cutI {c : Prop} [Decidable c] {x y z : Option (List D)} (h : c → x = z) (h' : ¬ c → y = z) : (if c then x else y) = z := by
  by_cases hc : c
  · rw [if_pos hc, h hc]
  · rw [if_neg hc, h' hc]
def evD (e : Ev) : D := .agg [.int e.k, .int e.w, .int e.n, .str (toB e.l)]
def evsD (l : List Ev) : D := .agg (l.map evD)
def codeD (c : Nat) : D := .iface 50 (.int (c : Nat))
def flt (c p : Nat) : D := .iface 58 (.agg [.int (p : Nat), codeD c])
def resE : Except (Nat × Nat) (List Ev) → List D
  | .ok es => [evsD es, .nil]
  | .error (c, p) => [.agg [], flt c p]
theorem at_eq (p c : Nat) : FX 19 [.int (p : Nat), .iface 50 (.int (c : Nat))] = some [flt c p] := E_fault_At _ _
theorem at_4 : FX 19 [.int 4, .iface 50 (.int 13)] = some [flt 13 4] := at_eq 4 13
theorem at_0 : FX 19 [.int 0, .iface 50 (.int 10)] = some [flt 10 0] := at_eq 0 10
theorem at_13 (p : Nat) : FX 19 [.int (p : Nat), .iface 50 (.int 13)] = some [flt 13 p] := at_eq p 13
theorem cut_eq (s : Bs) (hs : s.length ≤ 1000000) : FX 29 [.str (toB s), .str (ByteArray.mk #[32])] = some [.str (toB (cutS s).1), .str (toB (cutS s).2.1), .bool (cutS s).2.2] := by
  have h : FX 29 = StrD.baseC 29 := fix_base (by rfl)
  rw [h]
  show StrD.cutF [.str (toB s), .str (toB [32])] = _
  unfold StrD.cutF
  have h1 : (toB s).size < 4294967281 := by rw [toB_size]; omega
  simp only [h1, if_true, toB_list, cut_cutS]
  rfl
theorem prefix_eq (s p : Bs) (hs : s.length ≤ 1000000) (hp : p.length ≤ 100) : FX 28 [.str (toB s), .str (toB p)] = some [.bool (decide (p.length ≤ s.length) && (s.take p.length == p))] := by
  rw [E_internal_stringslite_HasPrefix]
  simp only [D.toStr_str, toB_size, extract_toB, eql_toB, Int.toNat_zero, Int.toNat_natCast, List.drop_zero, Nat.sub_zero]
  by_cases h : p.length ≤ s.length
  · have h1 : (s.length : Int) ≥ (p.length : Int) := by omega
    have h2 : (0 : Int) ≤ (p.length : Int) := by omega
    have h3 : (p.length : Int) ≤ (s.length : Int) := by omega
    simp only [h, h1, h2, h3, decide_true, if_true, Int.le_refl, Bool.true_and]
  · have h1 : ¬ (s.length : Int) ≥ (p.length : Int) := by omega
    simp only [h, h1, decide_false, Bool.false_eq_true, if_false, Bool.false_and]
theorem hasprefix_eq (s p : Bs) (hs : s.length ≤ 1000000) (hp : p.length ≤ 100) : FX 15 [.str (toB s), .str (toB p)] = some [.bool (decide (p.length ≤ s.length) && (s.take p.length == p))] := by
  rw [E_strings_HasPrefix]
  simp only [prefix_eq s p hs hp, bindC, List.length_cons, List.length_nil, if_true, List.getD_cons_zero]
theorem cutprefix_eq (s p : Bs) (hs : s.length ≤ 1000000) (hp : p.length ≤ 100) : FX 47 [.str (toB s), .str (toB p)] =
    some (if (decide (p.length ≤ s.length) && (s.take p.length == p)) = true then [.str (toB (s.drop p.length)), .bool true] else [.str (toB s), .bool false]) := by
  rw [E_strings_CutPrefix, E_internal_stringslite_CutPrefix]
  simp only [prefix_eq s p hs hp, bindC, List.length_cons, List.length_nil, if_true, List.getD_cons_zero, D.toBool_bool]
  cases hb : (decide (p.length ≤ s.length) && (s.take p.length == p)) with
  | false => simp only [Bool.not_false, if_true, Bool.false_eq_true, if_false, List.length_cons, List.length_nil, List.getD_cons_zero, List.getD_cons_succ]
  | true =>
    have h : p.length ≤ s.length := by
      simp only [Bool.and_eq_true, decide_eq_true_eq] at hb
      exact hb.1
    have h2 : (0 : Int) ≤ (p.length : Int) := by omega
    have h3 : (p.length : Int) ≤ (s.length : Int) := by omega
    simp only [Bool.not_true, Bool.false_eq_true, if_false, if_true, D.toStr_str, toB_size, h2, h3, decide_true, Int.le_refl, Int.toNat_natCast, extract_toB, List.length_cons, List.length_nil, List.getD_cons_zero, List.getD_cons_succ]
    rw [List.take_of_length_le (by simp)]
theorem bS1 (a : D) (k : List D → Option (List D)) : bindC (some [a]) 1 k = k [a] := rfl
theorem bS2 (a b : D) (k : List D → Option (List D)) : bindC (some [a, b]) 2 k = k [a, b] := rfl
theorem bS3 (a b c : D) (k : List D → Option (List D)) : bindC (some [a, b, c]) 3 k = k [a, b, c] := rfl
theorem number_eq (w : Bs) (hw : w.length ≤ 1000000) : FX 32 [.str (toB w)] = some [.int ((numB w).getD 0), .bool (numB w).isSome] := by
  rw [E_story_number]
  have hm : (ByteArray.mk #[45]) = toB [45] := rfl
  have h0 : (ByteArray.mk #[48]) = toB [48] := rfl
  simp only [hm, h0, cutprefix_eq w [45] hw (by decide)]
  cases w with
  | nil =>
    have hd : dig [] = false := rfl
    simp only [List.length_nil, List.length_cons, show ¬ (0 + 1 : Nat) ≤ 0 by decide, decide_false, Bool.false_and, Bool.false_eq_true, if_false, bindC, if_true, List.getD_cons_zero, List.getD_cons_succ, digits_eq, hd, D.toBool_bool, Bool.not_false]
    rfl
  | cons c l =>
    have hl : ([45] : Bs).length ≤ (c :: l).length := by simp
    by_cases hc : c = 45
    · subst hc
      have e : ((List.take ([45] : Bs).length (45 :: l)) == [45]) = true := by simp
      have ed : List.drop ([45] : Bs).length (45 :: l) = l := rfl
      simp only [hl, decide_true, e, Bool.and_self, if_true, ed, bS2, bS1, digits_eq, List.getD_cons_zero, List.getD_cons_succ, D.toBool_bool, D.toStr_str, eql_toB]
      cases hd : dig l with
      | false => simp [numB, hd]
      | true =>
        simp only [Bool.not_true, Bool.false_eq_true, if_false, if_true]
        cases h48 : l == [48] with
        | true => simp [numB, hd, h48]
        | false =>
          have hd' := hd
          simp only [dig, Bool.and_eq_true, decide_eq_true_eq, Bool.not_eq_true', beq_eq_false_iff_ne, ne_eq] at hd'
          have hne : l ≠ [] := fun e => by rw [e] at hd'; exact absurd hd'.1.1.1 (by simp)
          have ha : FX 49 [.str (toB (45 :: l))] = some [.int (-(val l : Int)), .nil] := by
            rw [atoi_eq]
            unfold StrD.atoiF
            have hs : (toB (45 :: l)).size ≤ 18 := by rw [toB_size, List.length_cons]; omega
            simp only [hs, if_true, toB_list, atoi_neg hne hd'.2]
          simp only [Bool.false_eq_true, if_false, ha, bS2, List.getD_cons_zero]
          simp [numB, hd, h48]
    · have e : ((List.take ([45] : Bs).length (c :: l)) == [45]) = false := by simp [hc]
      simp only [hl, decide_true, e, Bool.and_false, Bool.false_eq_true, if_false, bS2, bS1, digits_eq, if_true, List.getD_cons_zero, List.getD_cons_succ, D.toBool_bool]
      cases hd : dig (c :: l) with
      | false => simp [numB, hd, hc]
      | true =>
        simp only [Bool.not_true, Bool.false_eq_true, if_false, atoi_dig hd, bS2, List.getD_cons_zero]
        simp [numB, hd, hc]
theorem repl_ev (a : Int) (n : Nat) : (List.replicate n (D.agg [.int 3, .int a, .int 0, .str (toB [])])) = (List.replicate n (⟨3, a, 0, []⟩ : Ev)).map evD := by
  rw [List.map_replicate]; rfl
theorem parse_end (x0 x2 x3 : D) (verb : Bs) (ws : List Bs) (ns : List Int) :
    W_story_parse_1 x0 (.str (toB verb)) x2 x3 (wD ws) [.int (ws.length : Nat), .agg (ns.map D.int)] = some (resE (evsB verb ns)) := by
  have eT : (ByteArray.mk #[116, 105, 99, 107]) = toB tickB := rfl
  have eP : (ByteArray.mk #[112, 105, 99, 107]) = toB pickB := rfl
  have eD : (ByteArray.mk #[100, 114, 97, 119]) = toB drawB := rfl
  have d1 : pickB ≠ tickB := by decide
  have d2 : drawB ≠ tickB := by decide
  have d3 : drawB ≠ pickB := by decide
  rw [W_story_parse_1_eq]
  simp only [D.toInt_int, wD_lenN, Int.lt_irrefl, decide_false, Bool.false_eq_true, if_false, D.toStr_str, eT, eP, eD, eql_toB, D.toL_agg, at_0, bindC, List.length_cons, List.length_nil, if_true, List.getD_cons_zero, Int.toNat_zero, show (1 : Int).toNat = 1 from rfl]
  match ns with
  | [] => simp [evsB, resE]
  | [a] =>
    by_cases t : verb = tickB
    · simp [evsB, resE, t, evsD, evD, toB]
    · by_cases p : verb = pickB
      · simp [evsB, resE, p, d1, evsD, evD, toB]
      · simp [evsB, resE, t, p]
  | [a, b] =>
    by_cases p : verb = pickB
    · subst p
      have p1 : (pickB == tickB) = false := by decide
      have p2 : (pickB == drawB) = false := by decide
      have l2 : ((([a, b].map D.int).length : Nat) : Int) = 2 := rfl
      have g1 : ([a, b].map D.int).getD 1 .nil = .int b := rfl
      have g0 : ([a, b].map D.int).getD 0 .nil = .int a := rfl
      have q1 : ((2 : Int) == 1) = false := rfl
      simp only [p1, p2, l2, g0, g1, D.toInt_int, Bool.false_eq_true, if_false, beq_self_eq_true, if_true, q1, show (1 : Int) < 2 by decide, show (0 : Int) < 2 by decide, decide_true]
      by_cases hb : b ≥ 2
      · by_cases hb2 : b ≤ 10000
        · have hr := repeat_eq (D.agg [.int 3, .int a, .int 0, .str (toB [])]) b.toNat (by omega)
          have hbn : ((b.toNat : Nat) : Int) = b := by omega
          rw [hbn] at hr
          have ev : evsB pickB [a, b] = .ok (List.replicate b.toNat ⟨3, a, 0, []⟩) := if_pos ⟨rfl, by omega, hb2⟩
          have eb : D.agg [D.agg [D.int 3, D.int a, D.int 0, D.str (ByteArray.mk #[])]] = .agg [.agg [.int 3, .int a, .int 0, .str (toB [])]] := rfl
          rw [repl_ev] at hr
          rw [ev]
          simp only [hb, hb2, decide_true, if_true, eb, hr, List.length_cons, List.length_nil, List.getD_cons_zero]
          rfl
        · have ev : evsB pickB [a, b] = .error (10, 0) := by simp only [evsB]; rw [if_neg (by omega), if_neg (fun e => d3 e.symm)]
          rw [ev]
          simp only [hb, hb2, decide_true, decide_false, Bool.false_eq_true, if_false, if_true]
          rfl
      · have ev : evsB pickB [a, b] = .error (10, 0) := by simp only [evsB]; rw [if_neg (by omega), if_neg (fun e => d3 e.symm)]
        rw [ev]
        simp only [hb, decide_false, Bool.false_eq_true, if_false]
        rfl
    · by_cases d : verb = drawB
      · subst d
        have p1 : (drawB == tickB) = false := by decide
        have p2 : (drawB == pickB) = false := by decide
        have ev : evsB drawB [a, b] = .ok [⟨4, a, b, []⟩] := by
          show (if drawB = pickB ∧ 2 ≤ b ∧ b ≤ 10000 then (Except.ok (List.replicate b.toNat ⟨3, a, 0, []⟩) : Except (Nat × Nat) (List Ev)) else if drawB = drawB then .ok [⟨4, a, b, []⟩] else .error (10, 0)) = _
          rw [if_neg (fun e => d3 e.1), if_pos rfl]
        rw [ev]
        simp [p1, p2, resE, evsD, evD, toB]
      · have ev : evsB verb [a, b] = .error (10, 0) := by simp only [evsB]; rw [if_neg (fun e => p e.1), if_neg d]
        have p2 : (verb == pickB) = false := by simpa using p
        have p3 : (verb == drawB) = false := by simpa using d
        rw [ev]
        simp [p2, p3, resE]
  | a :: b :: c :: ns =>
    have l3 : ∀ k : Int, (k = 1 ∨ k = 2) → (((((a :: b :: c :: ns).map D.int).length : Nat) : Int) == k) = false := by
      intro k hk
      simp only [List.map_cons, List.length_cons]
      simp
      omega
    have ev : evsB verb (a :: b :: c :: ns) = .error (10, 0) := rfl
    rw [ev]
    simp only [l3 1 (.inl rfl), l3 2 (.inr rfl), Bool.false_eq_true, if_false, ite_self]
    rfl
theorem parse_loop (x0 x2 x3 : D) (verb : Bs) (hv : verb.length ≤ 1000000) (ws : List Bs) (hl : ws.length ≤ 1000000) (hw : ∀ w ∈ ws, w.length ≤ 1000000) : ∀ (d i : Nat) (ns : List Int), d + i = ws.length → ns.length = i →
    W_story_parse_1 x0 (.str (toB verb)) x2 x3 (wD ws) [.int (i : Nat), .agg (ns.map D.int)] = some (resE (match numsB (ws.drop i) with | none => .error (13, verb.length + 1) | some ms => evsB verb (ns ++ ms)))
  | 0, i, ns, h, hn => by
    have : i = ws.length := by omega
    subst this
    rw [List.drop_length]
    simp only [numsB, List.append_nil]
    exact parse_end x0 x2 x3 verb ws ns
  | d + 1, i, ns, h, hn => by
    have hlt : i < ws.length := by omega
    have h1 : (i : Int) < (ws.length : Int) := by omega
    have h2 : (i : Int) ≥ 0 := by omega
    have h3 : IntKind.i64.wrap ((i : Int) + 1) = ((i + 1 : Nat) : Int) := by rw [wrap_small _ (by omega) (by omega)]; omega
    have hwl : IntKind.i64.wrap ((verb.length : Int) + 1) = ((verb.length + 1 : Nat) : Int) := by rw [wrap_small _ (by omega) (by omega)]; omega
    have hg : (wD ws).toL.getD i .nil = .str (toB ws[i]) := by simp [wD, hlt]
    have hwi := hw ws[i] (List.getElem_mem hlt)
    rw [List.drop_eq_getElem_cons hlt, W_story_parse_1_eq]
    generalize ws[i] = w at hg hwi
    simp only [D.toInt_int, wD_lenN, h1, h2, decide_true, if_true, Int.toNat_natCast, hg, number_eq w hwi, bindC, List.length_cons, List.length_nil, List.getD_cons_zero, List.getD_cons_succ, D.toBool_bool, D.toStr_str, toB_size, hwl, at_13, h3]
    cases hn' : numB w with
    | none =>
      simp only [numsB, hn', Option.isSome_none, Bool.not_false, if_true]
      rfl
    | some n =>
      have ha : D.agg ((D.agg (ns.map D.int)).toL ++ [D.int ((some n).getD 0)]) = .agg ((ns ++ [n]).map D.int) := by simp
      have hb : (((D.agg ((ns ++ [n]).map D.int)).toL.length : Int) ≤ 17592186044416) := by simp; omega
      have ih := parse_loop x0 x2 x3 verb hv ws hl hw d (i + 1) (ns ++ [n]) (by omega) (by simp; omega)
      simp only [Option.isSome_some, Bool.not_true, Bool.false_eq_true, if_false, ha, hb, decide_true, if_true, ih, numsB, hn']
      cases numsB (ws.drop (i + 1)) with
      | none => rfl
      | some ms => simp
theorem sp_short (s : Bs) : ∀ w ∈ sp s, w.length ≤ s.length := by
  intro w hw
  have h := span_sp s
  have : ∀ l : List Bs, ∀ w ∈ l, w.length + 1 ≤ span l := by
    intro l
    induction l with
    | nil => intro w h; cases h
    | cons v l ih =>
      intro w h
      simp only [span, List.map_cons, List.sum_cons] at ih ⊢
      rcases List.mem_cons.1 h with rfl | h
      · omega
      · have := ih w h; omega
  have := this _ w hw
  omega
theorem parse_line (s : Bs) (hs : s.length ≤ 100000) : FX 20 [.str (toB s)] = some (resE (parseB s)) := by
  have hc := cutS_len s
  have hc2 := cutS_len (cutS s).2.1
  have eS : (ByteArray.mk #[115, 97, 121]) = toB sayB := rfl
  rw [E_story_parse]
  simp only [cut_eq s (by omega), bindC, List.length_cons, List.length_nil, if_true, List.getD_cons_zero, List.getD_cons_succ, D.toStr_str, eS, eql_toB]
  refine cutI (fun h => ?_) fun h => ?_
  · have h' : (cutS s).1 = sayB := by simpa using h
    unfold parseB
    rw [if_pos h']
    simp only [cut_eq (cutS s).2.1 (by omega), number_eq (cutS (cutS s).2.1).1 (by omega), List.length_cons, List.length_nil, if_true, List.getD_cons_zero, List.getD_cons_succ, D.toBool_bool, at_4]
    cases hn : numB (cutS (cutS s).2.1).1 with
    | none => cases (cutS (cutS s).2.1).2.2 <;> rfl
    | some n => cases (cutS (cutS s).2.1).2.2 <;> rfl
  · have h' : ¬ (cutS s).1 = sayB := by simpa using h
    unfold parseB
    rw [if_neg h']
    have z32 : (ByteArray.mk #[32]) = toB [32] := rfl
    have hl := sp_len (cutS s).2.1
    have hsh := sp_short (cutS s).2.1
    simp only [z32, split_words (cutS s).2.1 (by omega), List.length_cons, List.length_nil, if_true, List.getD_cons_zero]
    have := parse_loop (.str (toB s)) (.str (toB (cutS s).2.1)) (.bool (cutS s).2.2) (cutS s).1 (by omega) (sp (cutS s).2.1) (by omega) (fun w hw => by have := hsh w hw; omega) (sp (cutS s).2.1).length 0 [] (by omega) rfl
    rw [List.drop_zero] at this
    exact this
def wordsL : List Bs := [sayB, tickB, pickB, drawB]
theorem index_loop (v : Bs) (x1 : D) : ∀ (d i : Nat), d + i = 4 → ∃ r : Int, W_slices_Index_string_string_1 (wD wordsL) (.str (toB v)) [.int (i : Nat)] = some [.int r] ∧ (0 ≤ r ↔ v ∈ wordsL.drop i)
  | 0, i, h => by
    have : i = 4 := by omega
    subst this
    refine ⟨-1, ?_, by simp [wordsL]⟩
    rw [W_slices_Index_string_string_1_eq]
    have : ¬ (((4 : Nat) : Int) < ((wordsL.length : Nat) : Int)) := by decide
    simp only [D.toInt_int, wD_lenN, this, decide_false, Bool.false_eq_true, if_false]
  | d + 1, i, h => by
    have hlt : i < wordsL.length := by simp [wordsL]; omega
    have h1 : (i : Int) < ((wordsL.length : Nat) : Int) := by omega
    have h2 : (i : Int) ≥ 0 := by omega
    have h3 : IntKind.i64.wrap ((i : Int) + 1) = ((i + 1 : Nat) : Int) := by rw [wrap_small _ (by omega) (by omega)]; omega
    have hg : (wD wordsL).toL.getD i .nil = .str (toB wordsL[i]) := by simp [wD, hlt]
    obtain ⟨r, ih, hr⟩ := index_loop v x1 d (i + 1) (by omega)
    rw [List.drop_eq_getElem_cons hlt, W_slices_Index_string_string_1_eq]
    generalize wordsL[i] = u at hg
    simp only [D.toInt_int, wD_lenN, h1, h2, decide_true, if_true, Int.toNat_natCast, hg, D.toStr_str, eql_toB, h3, ih]
    by_cases he : v = u
    · subst he
      exact ⟨i, by simp, by simp⟩
    · have e : (v == u) = false := by simpa using he
      refine ⟨r, by simp only [e, Bool.false_eq_true, if_false], ?_⟩
      rw [hr]
      simp [he]
theorem known_eq (s : Bs) (hs : s.length ≤ 1000000) : FX 16 [.str (toB s)] = some [.bool (knownB s)] := by
  rw [E_story_known]
  have ew : D.agg [D.str (ByteArray.mk #[115, 97, 121]), D.str (ByteArray.mk #[116, 105, 99, 107]), D.str (ByteArray.mk #[112, 105, 99, 107]), D.str (ByteArray.mk #[100, 114, 97, 119])] = wD wordsL := rfl
  obtain ⟨r, h1, h2⟩ := index_loop (cutS s).1 .nil 4 0 (by omega)
  have h1' : FX 45 [wD wordsL, .str (toB (cutS s).1)] = some [.int r] := by rw [E_slices_Index_string_string]; exact h1
  simp only [cut_eq s hs, bindC, List.length_cons, List.length_nil, if_true, List.getD_cons_zero, ew]
  rw [E_slices_Contains_string_string]
  simp only [h1', bindC, List.length_cons, List.length_nil, if_true, List.getD_cons_zero, D.toInt_int]
  have : decide (r ≥ 0) = knownB s := by
    rw [List.drop_zero] at h2
    apply Bool.eq_iff_iff.2
    rw [decide_eq_true_eq, ge_iff_le, h2]
    simp [wordsL, knownB]
  rw [this]
def lineNo (i : Nat) (e : D) : D := .iface 63 (.agg [.str (toB (decDigits (i + 1))), e])
def resS : Except (Nat × Nat × Nat) (List Ev) → List D
  | .ok es => [evsD es, .nil]
  | .error (i, c, p) => [.agg [], lineNo i (flt c p)]
def afterS (acc : List Ev) : Except (Nat × Nat × Nat) (List Ev) → Except (Nat × Nat × Nat) (List Ev)
  | .ok es => .ok (acc ++ es)
  | .error e => .error e
theorem itoa_line (i : Nat) (h : i ≤ 1000000) : FX 18 [.int ((i + 1 : Nat) : Int)] = some [.str (toB (decDigits (i + 1)))] := itoa_nat ((i + 1 : Nat) : Int) (by omega) (by omega)
theorem with_eq (w e : D) (he : e.isNil = false) : FX 17 [w, e] = some [.iface 63 (.agg [w, e])] := by
  rw [E_fault_With, he]; simp
theorem story_loop (ls : List Bs) (hl : ls.length ≤ 10000) (hs : ∀ s ∈ ls, s.length ≤ 100000) : ∀ (d i : Nat) (acc : List Ev), d + i = ls.length → acc.length ≤ 10000 * i →
    W_story_Parse_1 (wD ls) [.int (i : Nat), evsD acc] = some (resS (afterS acc (storyB i (ls.drop i))))
  | 0, i, acc, h, ha => by
    have h1 : ¬ ((i : Int) < ((ls.length : Nat) : Int)) := by omega
    rw [W_story_Parse_1_eq, List.drop_eq_nil_of_le (by omega)]
    simp only [D.toInt_int, wD_lenN, h1, decide_false, Bool.false_eq_true, if_false, storyB, afterS, List.append_nil, resS]
  | d + 1, i, acc, h, ha => by
    have hlt : i < ls.length := by omega
    have h1 : (i : Int) < ((ls.length : Nat) : Int) := by omega
    have h2 : (i : Int) ≥ 0 := by omega
    have h3 : IntKind.i64.wrap ((i : Int) + 1) = ((i + 1 : Nat) : Int) := by rw [wrap_small _ (by omega) (by omega)]; omega
    have hg : (wD ls).toL.getD i .nil = .str (toB ls[i]) := by simp [wD, hlt]
    have hsi := hs ls[i] (List.getElem_mem hlt)
    have ih := fun acc' => story_loop ls hl hs d (i + 1) acc' (by omega)
    rw [List.drop_eq_getElem_cons hlt, W_story_Parse_1_eq]
    generalize ls[i] = s at hg hsi
    have e0 : (ByteArray.mk #[]) = toB [] := rfl
    have e35 : (ByteArray.mk #[35]) = toB [35] := rfl
    simp only [D.toInt_int, wD_lenN, h1, h2, decide_true, if_true, Int.toNat_natCast, hg, D.toStr_str, e0, e35, eql_toB, h3, hasprefix_eq s [35] (by omega) (by decide), bindC, List.length_cons, List.length_nil, List.getD_cons_zero, D.toBool_bool, known_eq s (by omega), parse_line s hsi]
    have skip : skipB s = true → afterS acc (storyB i (s :: ls.drop (i + 1))) = afterS acc (storyB (i + 1) (ls.drop (i + 1))) := by
      intro hk
      simp only [storyB, lineB, hk, if_true]
      cases storyB (i + 1) (ls.drop (i + 1)) <;> simp [afterS]
    refine cutI (fun hn => ?_) fun hn => ?_
    · rw [skip (by have : s = [] := by simpa using hn
                   rw [this]; rfl)]
      exact ih acc (by omega)
    refine cutI (fun hp => ?_) fun hp => ?_
    · rw [skip (by
        cases s with
        | nil => rfl
        | cons c l =>
          simp at hp
          simp [skipB, hp])]
      exact ih acc (by omega)
    have hsk : skipB s = false := by
      cases s with
      | nil => simp at hn
      | cons c l =>
        simp at hp
        simp [skipB, hp]
    cases hk : knownB s with
    | false =>
      simp only [Bool.not_false, if_true, itoa_line i (by omega), at_0, List.length_cons, List.length_nil, List.getD_cons_zero, with_eq _ (flt 10 0) rfl, storyB, lineB, hsk, hk, Bool.false_eq_true, if_false, afterS, resS]
      rfl
    | true =>
      simp only [Bool.not_true, Bool.false_eq_true, if_false]
      have el : lineB s = parseB s := by simp only [lineB, hsk, hk, Bool.false_eq_true, if_false, if_true]
      cases hpb : parseB s with
      | error e =>
        obtain ⟨c, p⟩ := e
        have nn : (flt c p).isNil = false := rfl
        simp only [resE, List.length_cons, List.length_nil, if_true, List.getD_cons_zero, List.getD_cons_succ, nn, Bool.not_false, itoa_line i (by omega), with_eq _ (flt c p) rfl, storyB, el, hpb, afterS, resS]
        rfl
      | ok es =>
        have hlen := lineB_len (el.trans hpb)
        have ea : D.agg ((evsD acc).toL ++ (evsD es).toL) = evsD (acc ++ es) := by simp [evsD]
        have hb : (((evsD (acc ++ es)).toL.length : Int) ≤ 3518437208883) := by simp [evsD]; omega
        simp only [resE, List.length_cons, List.length_nil, if_true, List.getD_cons_zero, List.getD_cons_succ, D.isNil_nil, Bool.not_true, Bool.false_eq_true, if_false, ea, hb, decide_true]
        rw [ih (acc ++ es) (by simp; omega)]
        simp only [storyB, el, hpb]
        cases storyB (i + 1) (ls.drop (i + 1)) <;> simp [afterS]
theorem story_eq (ls : List Bs) (hl : ls.length ≤ 10000) (hs : ∀ s ∈ ls, s.length ≤ 100000) : FX 7 [wD ls] = some (resS (storyB 0 ls)) := by
  rw [E_story_Parse]
  have := story_loop ls hl hs ls.length 0 [] (by omega) (by simp)
  rw [List.drop_zero] at this
  refine Eq.trans this ?_
  cases storyB 0 ls <;> simp [afterS]
end Go.Proofs.YtnaemggpelolcaaGreatDoor.StoD
