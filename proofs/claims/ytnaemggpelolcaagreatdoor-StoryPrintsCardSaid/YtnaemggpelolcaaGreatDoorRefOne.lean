/-
  The document's reading of a story's line, on data: that of the program.
-/
import Derived.Test.YtnaemggpelolcaaGreatDoorLight
import Derived.Test.YtnaemggpelolcaaGreatDoorRefNum
namespace Go.Proofs.YtnaemggpelolcaaGreatDoor.StoD
open Go.Proofs.YtnaemggpelolcaaGreatDoor.Eng Go.Proofs.YtnaemggpelolcaaGreatDoor.Dat Go.Proofs.YtnaemggpelolcaaGreatDoor Go.Proofs.YtnaemggpelolcaaGreatDoor.WordP Go.Proofs.YtnaemggpelolcaaGreatDoor.StrL Go.Proofs.YtnaemggpelolcaaGreatDoor.Open Go.Proofs.YtnaemggpelolcaaGreatDoor.RefD
open Go.Lib (decDigits itoa nDigits)
set_option linter.unusedVariables false
set_option linter.unusedSimpArgs false
set_option maxRecDepth 10000

theorem val_zero {l : Bs} (h : dig l = true) : val l = 0 ↔ l = [48] := by
  constructor
  · intro h0
    have := dec_val h
    rw [h0, decDigits_small (by decide)] at this
    exact this.symm
  · intro e; subst e; rfl
theorem u8_45 (c : UInt8) : (((c.toNat : Nat) : Int) == 45) = (c == 45) := by
  by_cases h : c = 45
  · subst h; rfl
  · have : c.toNat ≠ 45 := fun e => h (by rw [← UInt8.toNat_inj]; exact e)
    have h1 : (c == 45) = false := by simpa using h
    rw [h1]
    simp; omega
theorem u8_35 (c : UInt8) : (((c.toNat : Nat) : Int) == 35) = (c == 35) := by
  by_cases h : c = 35
  · subst h; rfl
  · have : c.toNat ≠ 35 := fun e => h (by rw [← UInt8.toNat_inj]; exact e)
    have h1 : (c == 35) = false := by simpa using h
    rw [h1]
    simp; omega
theorem drop_of {s a b : Bs} (h : s = a ++ 32 :: b) : s.drop (a.length + 1) = b := by subst h; simp
theorem num_eq (w : Bs) (hw : w.length ≤ 1000000) : ∃ v : Int, FX 22 [.str (toB w)] = some [.int v, .bool (numB w).isSome] ∧ (∀ n, numB w = some n → v = n) := by
  have plain : w.length ≤ 1 ∨ w.getD 0 0 ≠ 45 → ∃ v : Int, FX 35 [.str (toB w)] = some [.int v, .bool (numB w).isSome] ∧ (∀ n, numB w = some n → v = n) := by
    intro hc
    obtain ⟨v, h1, h2⟩ := refnum_eq w
    have e : numB w = if dig w = true then some (val w : Int) else none := by
      cases w with
      | nil => rfl
      | cons c l =>
        unfold numB
        by_cases h45 : c = 45
        · subst h45
          have hl : l = [] := by
            rcases hc with hc | hc
            · cases l with
              | nil => rfl
              | cons => simp at hc
            · simp at hc
          subst hl
          rfl
        · simp only [h45, if_false]
    refine ⟨v, ?_, ?_⟩
    · rw [h1, e]
      cases dig w <;> rfl
    · intro n hn
      rw [e] at hn
      split at hn
      · rename_i hd
        simp only [Option.some.injEq] at hn
        rw [h2 hd, hn]
      · cases hn
  rw [E_ref26_Num]
  by_cases h1 : w.length ≤ 1
  · obtain ⟨v, hv, hv2⟩ := plain (.inl h1)
    have g1 : ¬ ((w.length : Int) > 1) := by omega
    refine ⟨v, ?_, hv2⟩
    simp only [D.toStr_str, toB_size, g1, decide_false, Bool.false_eq_true, if_false, hv, bindC, List.length_cons, List.length_nil, if_true, List.getD_cons_zero, List.getD_cons_succ]
  · have g1 : ((w.length : Int) > 1) := by omega
    have g2 : ((0 : Int) < (w.length : Int)) := by omega
    have g3 : ((1 : Int) ≤ (w.length : Int)) := by omega
    have g0 : (toB w).data.getD ((0 : Int)).toNat 0 = w.getD 0 0 := toB_get w 0
    by_cases h45 : w.getD 0 0 = 45
    · obtain ⟨l, rfl⟩ : ∃ l, w = 45 :: l := by
        cases w with
        | nil => simp at h1
        | cons c l => exact ⟨l, by simp at h45; rw [h45]⟩
      obtain ⟨v, hv, hv2⟩ := refnum_eq l
      have ex : (toB (45 :: l)).extract ((1 : Int)).toNat (((45 :: l).length : Int)).toNat = toB l := by
        rw [extract_toB, Int.toNat_natCast]
        congr 1
        show List.take ((45 :: l).length - 1) l = l
        rw [List.take_of_length_le (by simp)]
      have g5 : ((45 : UInt8) == 45) = true := rfl
      simp only [D.toStr_str, toB_size, g1, g2, g3, decide_true, if_true, g0, u8_45, h45, g5, Int.le_refl, show (0 : Int) ≤ 1 by decide, ex, hv, bS2, List.getD_cons_zero, List.getD_cons_succ, D.toBool_bool, D.toInt_int]
      cases hd : dig l with
      | false =>
        have e : numB (45 :: l) = none := by simp [numB, hd]
        refine ⟨IntKind.i64.wrap (0 - v), ?_, fun n hn => by rw [e] at hn; cases hn⟩
        rw [e]
        simp only [Bool.false_eq_true, if_false]
        rfl
      | true =>
        have hvv := hv2 hd
        have hb := val_lt hd
        have hz := val_zero hd
        have hw : IntKind.i64.wrap (0 - v) = -(val l : Int) := by rw [hvv, i64w _ (by omega) (by omega)]; omega
        simp only [if_true, hw]
        by_cases h48 : l = [48]
        · have h0 : val l = 0 := hz.2 h48
          have e : numB (45 :: l) = none := by simp [numB, h48]
          have hvn : (v != 0) = false := by rw [hvv, h0]; rfl
          refine ⟨-(val l : Int), ?_, fun n hn => by rw [e] at hn; cases hn⟩
          rw [e, hvn]
          rfl
        · have h0 : ¬ val l = 0 := fun e => h48 (hz.1 e)
          have e : numB (45 :: l) = some (-(val l : Int)) := by simp [numB, hd, h48]
          have hvn : (v != 0) = true := by rw [hvv]; simp; omega
          refine ⟨-(val l : Int), ?_, fun n hn => by rw [e] at hn; exact Option.some.inj hn⟩
          rw [e, hvn]
          rfl
    · obtain ⟨v, hv, hv2⟩ := plain (.inr h45)
      have g5 : (w.getD 0 0 == 45) = false := by simpa using h45
      refine ⟨v, ?_, hv2⟩
      simp only [D.toStr_str, toB_size, g1, g2, decide_true, if_true, g0, u8_45, g5, Bool.false_eq_true, if_false, hv, bindC, List.length_cons, List.length_nil, List.getD_cons_zero, List.getD_cons_succ]
def resO : Except (Nat × Nat) (List Ev) → List D
  | .ok es => [evsD es, .int 0, .int 0]
  | .error (c, p) => [.agg [], .int (c : Nat), .int (p : Nat)]
theorem times5 (x0 x1 x2 x4 : D) (a b : Int) (hb : 0 ≤ b ∧ b ≤ 10000) (g0 : Eng.Fn) : ∀ (d i : Nat), (d : Int) + i = b →
    W_ref26_One_6 x0 x1 x2 (.agg [.int a, .int b]) x4 g0 [.int (i : Nat), evsD (List.replicate i ⟨3, a, 0, []⟩)] = some [evsD (List.replicate b.toNat ⟨3, a, 0, []⟩), .int 0, .int 0]
  | 0, i, h => by
    have h1 : ¬ ((i : Int) < b) := by omega
    have e : b.toNat = i := by omega
    rw [W_ref26_One_6_eq, e]
    simp only [D.toInt_int, D.toL_agg, show ((1 : Int)).toNat = 1 from rfl, List.getD_cons_succ, List.getD_cons_zero, h1, decide_false, Bool.false_eq_true, if_false]
  | d + 1, i, h => by
    have h1 : ((i : Int) < b) := by omega
    have h3 : IntKind.i64.wrap ((i : Int) + 1) = ((i + 1 : Nat) : Int) := by rw [wrap_small _ (by omega) (by omega)]; omega
    have e1 : D.agg ((evsD (List.replicate i ⟨3, a, 0, []⟩)).toL ++ [D.agg [D.int 3, D.int a, D.int 0, D.str (ByteArray.mk #[])]]) = evsD (List.replicate (i + 1) ⟨3, a, 0, []⟩) := by
      rw [List.replicate_succ']
      simp [evsD, evD]
      rfl
    have hl : ((((evsD (List.replicate i ⟨3, a, 0, []⟩)).toL ++ [D.agg [D.int 3, D.int a, D.int 0, D.str (ByteArray.mk #[])]]).length : Int) ≤ 3518437208883) := by simp [evsD]; omega
    have ih := times5 x0 x1 x2 x4 a b hb g0 d (i + 1) (by omega)
    have l2 : ((0 : Int) < ((([D.int a, D.int b]).length : Nat) : Int)) := by simp
    rw [W_ref26_One_6_eq]
    simp only [D.toInt_int, D.toL_agg, show ((1 : Int)).toNat = 1 from rfl, show ((0 : Int)).toNat = 0 from rfl, List.getD_cons_succ, List.getD_cons_zero, h1, decide_true, if_true, l2] at e1 ⊢
    simp only [e1, hl, decide_true, if_true, h3]
    exact ih
theorem times9 (x0 x1 x2 x4 : D) (a : Int) (g0 : Eng.Fn) : W_ref26_One_7 x0 x1 x2 (.agg [.int a]) x4 g0 [.int 0, .agg []] = some [evsD [⟨3, a, 0, []⟩], .int 0, .int 0] := by
  have h1 : ((0 : Int) < 1) := by decide
  have h2 : ¬ ((1 : Int) < 1) := by decide
  have h3 : IntKind.i64.wrap ((0 : Int) + 1) = 1 := by decide
  have l2 : ((0 : Int) < ((0 + 1 : Nat) : Int)) := by decide
  have l3 : (((0 + 1 : Nat) : Int) ≤ 3518437208883) := by decide
  rw [W_ref26_One_7_eq]
  simp only [D.toInt_int, D.toL_agg, show ((0 : Int)).toNat = 0 from rfl, List.getD_cons_zero, List.length_cons, List.length_nil, h1, l2, l3, decide_true, if_true, List.nil_append, h3]
  rw [W_ref26_One_7_eq]
  simp only [D.toInt_int, h2, decide_false, Bool.false_eq_true, if_false]
  rfl
theorem one_end (x0 : D) (W : List Bs) (verb : Bs) (hv : W[0]? = some verb) (ns : List Int) :
    W_ref26_One_2 x0 (.agg (pl 0 W)) [.int (W.length : Nat), .agg (ns.map D.int)] = some (resO (evsB verb ns)) := by
  have eT : (ByteArray.mk #[116, 105, 99, 107]) = toB tickB := rfl
  have eP : (ByteArray.mk #[112, 105, 99, 107]) = toB pickB := rfl
  have eD : (ByteArray.mk #[100, 114, 97, 119]) = toB drawB := rfl
  have d1 : pickB ≠ tickB := by decide
  have d2 : drawB ≠ tickB := by decide
  have d3 : drawB ≠ pickB := by decide
  have h0 : 0 < W.length := (List.getElem?_eq_some_iff.1 hv).1
  have hw0 : W[0] = verb := (List.getElem?_eq_some_iff.1 hv).2
  have hg := pl_get W 0 0 h0
  rw [hw0] at hg
  rw [W_ref26_One_2_eq]
  simp only [D.toInt_int, D.toL_agg, pl_length, Int.lt_irrefl, decide_false, Bool.false_eq_true, if_false, show ((0 : Int)).toNat = 0 from rfl, hg, List.getD_cons_zero, D.toStr_str, eT, eql_toB]
  have J5f : ∀ (ms : List Int) (x2 : D) (g : Eng.Fn), J_ref26_One_5 x0 (.agg (pl 0 W)) x2 (.agg (ms.map D.int)) g [.bool false] = some (resO (if verb = pickB ∧ ms.length = 1 then .ok [⟨3, ms.getD 0 0, 0, []⟩] else .error (10, 0))) := by
    intro ms x2 g
    rw [J_ref26_One_5_eq]
    simp only [D.toBool_bool, Bool.false_eq_true, if_false, D.toL_agg, show ((0 : Int)).toNat = 0 from rfl, hg, List.getD_cons_zero, D.toStr_str, eP, neq_toB, List.length_map]
    by_cases p : verb = pickB
    · have p2 : (!(verb == pickB)) = false := by simp [p]
      simp only [p2, Bool.false_eq_true, if_false]
      by_cases l1 : ms.length = 1
      · match ms, l1 with
        | [a], _ =>
          have q2 : ((([a] : List Int).length : Int) != 1) = false := rfl
          simp only [q2, Bool.false_eq_true, if_false]
          rw [if_pos ⟨p, rfl⟩]
          exact times9 x0 (.agg (pl 0 W)) x2 _ a g
      · have q2 : (((ms.length : Nat) : Int) != 1) = true := by simp; omega
        simp only [q2, if_true]
        rw [if_neg (fun h => l1 h.2)]
        rfl
    · have p2 : (!(verb == pickB)) = true := by simp [p]
      simp only [p2, if_true]
      rw [if_neg (fun h => p h.1)]
      rfl
  have J4 : ∀ (x2 : D) (g : Eng.Fn), verb ≠ tickB ∨ ns.length ≠ 1 → verb ≠ drawB ∨ ns.length ≠ 2 → J_ref26_One_4 x0 (.agg (pl 0 W)) x2 (.agg (ns.map D.int)) g [] = some (resO (evsB verb ns)) := by
    intro x2 g n1 n2
    rw [J_ref26_One_4_eq]
    simp only [D.toInt_int, D.toL_agg, show ((0 : Int)).toNat = 0 from rfl, show ((1 : Int)).toNat = 1 from rfl, hg, List.getD_cons_zero, D.toStr_str, eP, eql_toB, List.length_map]
    by_cases two : verb = pickB ∧ ∃ a b, ns = [a, b] ∧ 2 ≤ b ∧ b ≤ 10000
    · obtain ⟨p, a, b, rfl, hb1, hb2⟩ := two
      have l2 : ((([a, b] : List Int).length : Int) == 2) = true := rfl
      have l4 : ((1 : Int) < ((([a, b] : List Int).length : Nat) : Int)) := by simp
      have gb : (([a, b] : List Int).map D.int).getD 1 .nil = .int b := rfl
      have p1 : (verb == pickB) = true := by simp [p]
      have hb1' : b ≥ 2 := hb1
      have ev : evsB verb [a, b] = .ok (List.replicate b.toNat ⟨3, a, 0, []⟩) := if_pos ⟨p, hb1, hb2⟩
      have e5 := fun x4 => times5 x0 (.agg (pl 0 W)) x2 x4 a b ⟨by omega, hb2⟩ g b.toNat 0 (by omega)
      have l5 : ((1 : Int) < (((([a, b] : List Int).map D.int).length : Nat) : Int)) := by simp
      rw [ev]
      simp only [p1, if_true, l2, l4, decide_true, gb, D.toInt_int, hb1', hb2]
      rw [J_ref26_One_5_eq]
      simp only [D.toBool_bool, if_true, D.toL_agg, l5, decide_true]
      exact e5 _
    · have f : J_ref26_One_5 x0 (.agg (pl 0 W)) x2 (.agg (ns.map D.int)) g [.bool false] = some (resO (evsB verb ns)) := by
        rw [J5f]
        congr 2
        match ns, n1, n2 with
        | [], _, _ => rw [if_neg (fun h => by cases h.2)]; rfl
        | [a], n1, _ =>
          have nt : verb ≠ tickB := by rcases n1 with n1 | n1; exact n1; exact absurd rfl n1
          show _ = if verb = tickB then _ else if verb = pickB then _ else _
          rw [if_neg nt]
          by_cases p : verb = pickB
          · rw [if_pos ⟨p, rfl⟩, if_pos p]; rfl
          · rw [if_neg (fun h => p h.1), if_neg p]
        | [a, b], _, n2 =>
          have nd : verb ≠ drawB := by rcases n2 with n2 | n2; exact n2; exact absurd rfl n2
          show _ = if verb = pickB ∧ 2 ≤ b ∧ b ≤ 10000 then _ else if verb = drawB then _ else _
          rw [if_neg (by simp), if_neg (fun h => two ⟨h.1, a, b, rfl, h.2.1, h.2.2⟩), if_neg nd]
        | a :: b :: c :: ns, _, _ =>
          rw [if_neg (by simp)]
          rfl
      refine cutI (fun p => ?_) fun p => f
      refine cutI (fun l2 => ?_) fun l2 => f
      have p' : verb = pickB := by simpa using p
      have l2' : ns.length = 2 := by
        have := beq_iff_eq.1 l2
        omega
      match ns, l2', two, f with
      | [a, b], _, two, f =>
        have l4 : ((1 : Int) < ((([a, b] : List Int).length : Nat) : Int)) := by simp
        have gb : (([a, b] : List Int).map D.int).getD 1 .nil = .int b := rfl
        simp only [l4, decide_true, if_true, gb, D.toInt_int]
        refine cutI (fun h2 => ?_) fun h2 => f
        have h2' : b ≥ 2 := of_decide_eq_true h2
        have h3 : decide (b ≤ 10000) = false := decide_eq_false (fun h => two ⟨p', a, b, rfl, h2', h⟩)
        rw [h3]
        exact f
  have J3 : ∀ (x2 : D) (g : Eng.Fn), verb ≠ tickB ∨ ns.length ≠ 1 → J_ref26_One_3 x0 (.agg (pl 0 W)) x2 (.agg (ns.map D.int)) g [] = some (resO (evsB verb ns)) := by
    intro x2 g n1
    rw [J_ref26_One_3_eq]
    simp only [D.toInt_int, D.toL_agg, show ((0 : Int)).toNat = 0 from rfl, show ((1 : Int)).toNat = 1 from rfl, hg, List.getD_cons_zero, D.toStr_str, eD, eql_toB, List.length_map]
    refine cutI (fun hd => ?_) fun hd => ?_
    · have hd' : verb = drawB := by simpa using hd
      refine cutI (fun h2 => ?_) fun h2 => ?_
      · have h2' : ns.length = 2 := by
          have := beq_iff_eq.1 h2
          omega
        match ns, h2' with
        | [a, b], _ =>
          have ev : evsB verb [a, b] = .ok [⟨4, a, b, []⟩] := by
            show (if verb = pickB ∧ 2 ≤ b ∧ b ≤ 10000 then (Except.ok (List.replicate b.toNat ⟨3, a, 0, []⟩) : Except (Nat × Nat) (List Ev)) else if verb = drawB then .ok [⟨4, a, b, []⟩] else .error (10, 0)) = _
            rw [if_neg (fun e => d3 (hd'.symm.trans e.1)), if_pos hd']
          rw [ev]
          rfl
      · exact J4 x2 g n1 (.inr fun e => h2 (by rw [e]; rfl))
    · exact J4 x2 g n1 (.inl (by simpa using hd))
  refine cutI (fun ht => ?_) fun ht => ?_
  · have ht' : verb = tickB := by simpa using ht
    simp only [List.length_map]
    refine cutI (fun h2 => ?_) fun h2 => ?_
    · have h2' : ns.length = 1 := by
        have := beq_iff_eq.1 h2
        omega
      match ns, h2' with
      | [a], _ =>
        have ev : evsB verb [a] = .ok [⟨2, 0, a, []⟩] := by
          show (if verb = tickB then _ else if verb = pickB then _ else _) = _
          rw [if_pos ht']
        rw [ev]
        rfl
    · exact J3 _ _ (.inr fun e => h2 (by rw [e]; rfl))
  · exact J3 _ _ (.inl (by simpa using ht))
theorem one_loop (x0 : D) (W : List Bs) (verb : Bs) (hv : W[0]? = some verb) (hvl : verb.length ≤ 1000000) (hl : W.length ≤ 1000000) (hw : ∀ w ∈ W, w.length ≤ 1000000) : ∀ (d i : Nat) (ns : List Int), d + i = W.length → ns.length ≤ i →
    W_ref26_One_2 x0 (.agg (pl 0 W)) [.int (i : Nat), .agg (ns.map D.int)] = some (resO (match numsB (W.drop i) with | none => .error (13, verb.length + 1) | some ms => evsB verb (ns ++ ms)))
  | 0, i, ns, h, hn => by
    have : i = W.length := by omega
    subst this
    rw [List.drop_length]
    simp only [numsB, List.append_nil]
    exact one_end x0 W verb hv ns
  | d + 1, i, ns, h, hn => by
    have hlt : i < W.length := by omega
    have h0 : 0 < W.length := by omega
    have hw0 : W[0] = verb := (List.getElem?_eq_some_iff.1 hv).2
    have hg0 := pl_get W 0 0 h0
    rw [hw0] at hg0
    have h1 : (i : Int) < (W.length : Int) := by omega
    have h2 : (i : Int) ≥ 0 := by omega
    have h3 : IntKind.i64.wrap ((i : Int) + 1) = ((i + 1 : Nat) : Int) := by rw [wrap_small _ (by omega) (by omega)]; omega
    have hwl : IntKind.i64.wrap ((verb.length : Int) + 1) = ((verb.length + 1 : Nat) : Int) := by rw [wrap_small _ (by omega) (by omega)]; omega
    have hg := pl_get W 0 i hlt
    have hwi := hw W[i] (List.getElem_mem hlt)
    rw [List.drop_eq_getElem_cons hlt, W_ref26_One_2_eq]
    generalize W[i] = w at hg hwi
    obtain ⟨v, hv1, hv2⟩ := num_eq w hwi
    simp only [D.toInt_int, D.toL_agg, pl_length, h1, h2, decide_true, if_true, Int.toNat_natCast, hg, hg0, show ((0 : Int)).toNat = 0 from rfl, List.getD_cons_zero, hv1, bindC, List.length_cons, List.length_nil, List.getD_cons_succ, D.toBool_bool, D.toStr_str, toB_size, hwl, h3]
    cases hn' : numB w with
    | none =>
      simp only [numsB, hn', Option.isSome_none, Bool.not_false, if_true]
      rfl
    | some n =>
      have hvn := hv2 n hn'
      subst hvn
      have ha : D.agg (ns.map D.int ++ [D.int v]) = .agg ((ns ++ [v]).map D.int) := by simp
      have hb : (((ns.map D.int ++ [D.int v]).length : Int) ≤ 17592186044416) := by simp; omega
      have ih := one_loop x0 W verb hv hvl hl hw d (i + 1) (ns ++ [v]) (by omega) (by simp; omega)
      simp only [Option.isSome_some, Bool.not_true, Bool.false_eq_true, if_false, hb, ha, decide_true, if_true, ih, numsB, hn']
      cases numsB (W.drop (i + 1)) with
      | none => rfl
      | some ms => simp
theorem one_eq (s : Bs) (hs : s.length ≤ 100000) : FX 8 [.str (toB s)] = some (resO (lineB s)) := by
  have eS : (ByteArray.mk #[115, 97, 121]) = toB sayB := rfl
  have eT : (ByteArray.mk #[116, 105, 99, 107]) = toB tickB := rfl
  have eP : (ByteArray.mk #[112, 105, 99, 107]) = toB pickB := rfl
  have eD : (ByteArray.mk #[100, 114, 97, 119]) = toB drawB := rfl
  have hc := cutS_len s
  have hc2 := cutS_len (cutS s).2.1
  have hsp := sp_cutS s
  have hspl := sp_len s
  have hsh := sp_short s
  have hv : (sp s)[0]? = some (cutS s).1 := by rw [hsp]; rfl
  have h0 : 0 < (sp s).length := (List.getElem?_eq_some_iff.1 hv).1
  have hw0 : (sp s)[0] = (cutS s).1 := (List.getElem?_eq_some_iff.1 hv).2
  have hg0 := pl_get (sp s) 0 0 h0
  rw [hw0] at hg0
  have J1 : J_ref26_One_1 (.str (toB s)) (.agg (pl 0 (sp s))) [] = some (resO (parseB s)) := by
    rw [J_ref26_One_1_eq]
    simp only [D.toInt_int, D.toL_agg, pl_length, show ((0 : Int)).toNat = 0 from rfl, show ((1 : Int)).toNat = 1 from rfl, show ((2 : Int)).toNat = 2 from rfl, hg0, List.getD_cons_zero, D.toStr_str, toB_size, eS, eql_toB]
    refine cutI (fun hsay => ?_) fun hsay => ?_
    · have hsay' : (cutS s).1 = sayB := by simpa using hsay
      have ep : parseB s = (match numB (cutS (cutS s).2.1).1 with
         | none => .error (13, 4)
         | some n => if (cutS (cutS s).2.1).2.2 = true then .ok [⟨1, n, 0, (cutS (cutS s).2.1).2.1⟩] else .error (13, 4)) := if_pos hsay'
      refine cutI (fun hl => ?_) fun hl => ?_
      · replace hl := of_decide_eq_true hl
        have : parseB s = .error (13, 4) := by
          rw [ep]
          cases hn : numB (cutS (cutS s).2.1).1 with
          | none => rfl
          | some n =>
            simp only
            cases hf : (cutS s).2.2 with
            | false =>
              obtain ⟨_, e⟩ := cutS_false hf
              rw [e] at hn
              cases hn
            | true =>
              cases hf2 : (cutS (cutS s).2.1).2.2 with
              | false => rfl
              | true =>
                exfalso
                rw [hsp, hf, if_pos rfl, sp_cutS (cutS s).2.1, hf2, if_pos rfl] at hl
                have := List.length_pos_iff.2 (sp_ne (cutS (cutS s).2.1).2.1)
                simp only [List.length_cons] at hl
                omega
        rw [this]
        rfl
      · have hl' : ¬ (((sp s).length : Int) < 3) := fun h => hl (decide_eq_true h)
        have h1l : 1 < (sp s).length := by omega
        have h2l : 2 < (sp s).length := by omega
        have hf : (cutS s).2.2 = true := by
          cases hf : (cutS s).2.2 with
          | true => rfl
          | false => exfalso; rw [hsp, hf] at h1l; simp at h1l
        have hsp2 : sp s = (cutS s).1 :: (cutS (cutS s).2.1).1 :: (if (cutS (cutS s).2.1).2.2 = true then sp (cutS (cutS s).2.1).2.1 else []) := by
          rw [hsp, hf, if_pos rfl, sp_cutS (cutS s).2.1]
        have hf2 : (cutS (cutS s).2.1).2.2 = true := by
          cases hf2 : (cutS (cutS s).2.1).2.2 with
          | true => rfl
          | false => exfalso; rw [hsp2, hf2] at h2l; simp at h2l
        have hg1 := pl_get (sp s) 0 1 h1l
        have hg2 := pl_get (sp s) 0 2 h2l
        have hw1 : (sp s)[1] = (cutS (cutS s).2.1).1 := by
          have : (sp s)[1]? = some (cutS (cutS s).2.1).1 := by rw [hsp2]; rfl
          exact (List.getElem?_eq_some_iff.1 this).2
        have hat : 0 + span ((sp s).take 2) = (cutS s).1.length + 1 + ((cutS (cutS s).2.1).1.length + 1) := by
          rw [hsp2]
          simp [span]
        have e1 := cutS_true hf
        have e2 := cutS_true hf2
        have hle : (cutS s).1.length + 1 + ((cutS (cutS s).2.1).1.length + 1) ≤ s.length := by
          have l1 := congrArg List.length e1
          have l2 := congrArg List.length e2
          simp only [List.length_append, List.length_cons] at l1 l2
          omega
        have hdrop : s.drop ((cutS s).1.length + 1 + ((cutS (cutS s).2.1).1.length + 1)) = (cutS (cutS s).2.1).2.1 := by
          have a1 : s.drop ((cutS s).1.length + 1) = (cutS s).2.1 := drop_of e1
          have a2 : (cutS s).2.1.drop ((cutS (cutS s).2.1).1.length + 1) = (cutS (cutS s).2.1).2.1 := drop_of e2
          rw [← List.drop_drop, a1, a2]
        rw [hw1] at hg1
        rw [hat] at hg2
        obtain ⟨v, hv1, hv2⟩ := num_eq (cutS (cutS s).2.1).1 (by omega)
        have q1 : ((1 : Int) < ((sp s).length : Int)) := by omega
        have q2 : ((2 : Int) < ((sp s).length : Int)) := by omega
        have q3 : ((0 : Int) ≤ (((cutS s).1.length + 1 + ((cutS (cutS s).2.1).1.length + 1) : Nat) : Int)) := by omega
        have q4 : ((((cutS s).1.length + 1 + ((cutS (cutS s).2.1).1.length + 1) : Nat) : Int) ≤ (s.length : Int)) := by omega
        simp only [hg1, hg2, D.toL_agg, List.getD_cons_zero, List.getD_cons_succ, hv1, bindC, List.length_cons, List.length_nil, if_true, q1, q2, decide_true, D.toBool_bool, D.toInt_int, q3, q4, Int.le_refl, Int.toNat_natCast, extract_toB, hdrop]
        rw [ep]
        cases hn : numB (cutS (cutS s).2.1).1 with
        | none => rfl
        | some n =>
          have hvn := hv2 n hn
          subst hvn
          have ht : List.take (s.length - ((cutS s).1.length + 1 + ((cutS (cutS s).2.1).1.length + 1))) (cutS (cutS s).2.1).2.1 = (cutS (cutS s).2.1).2.1 := by
            rw [List.take_of_length_le]
            rw [← hdrop]; simp
          simp only [Option.isSome_some, Bool.not_true, Bool.false_eq_true, if_false, hf2, if_true, ht]
          rfl
    · have hsay' : ¬ (cutS s).1 = sayB := by simpa using hsay
      have ep : parseB s = (match numsB (sp (cutS s).2.1) with
         | none => .error (13, (cutS s).1.length + 1)
         | some ns => evsB (cutS s).1 ns) := if_neg hsay'
      refine cutI (fun hl => ?_) fun hl => ?_
      · have hl' : (sp s).length = 1 := by
          have := beq_iff_eq.1 hl
          omega
        have hf : (cutS s).2.2 = false := by
          cases hf : (cutS s).2.2 with
          | false => rfl
          | true =>
            exfalso
            have := List.length_pos_iff.2 (sp_ne (cutS s).2.1)
            rw [hsp, hf, if_pos rfl] at hl'
            simp only [List.length_cons] at hl'
            omega
        obtain ⟨_, e⟩ := cutS_false hf
        have : parseB s = .error (13, (cutS s).1.length + 1) := by rw [ep, e]; rfl
        have hwl : IntKind.i64.wrap (((cutS s).1.length : Int) + 1) = (((cutS s).1.length + 1 : Nat) : Int) := by rw [wrap_small _ (by omega) (by omega)]; omega
        rw [this, hwl]
        rfl
      · have hf : (cutS s).2.2 = true := by
          cases hf : (cutS s).2.2 with
          | true => rfl
          | false =>
            exfalso
            apply hl
            rw [hsp, hf]
            rfl
        have hd : (sp s).drop 1 = sp (cutS s).2.1 := by rw [hsp, hf]; rfl
        have := one_loop (.str (toB s)) (sp s) (cutS s).1 hv (by omega) (by omega) (fun w hw => by have := hsh w hw; omega) ((sp s).length - 1) 1 [] (by omega) (by simp)
        rw [hd] at this
        rw [ep]
        refine this.trans ?_
        simp only [List.nil_append]
  rw [E_ref26_One]
  cases s with
  | nil => rfl
  | cons c l =>
    have q0 : ((((c :: l).length : Nat) : Int) == 0) = false := by simp only [List.length_cons]; simp; omega
    have q1 : ((0 : Int) < (((c :: l).length : Nat) : Int)) := by simp only [List.length_cons]; omega
    have q2 : (toB (c :: l)).data.getD ((0 : Int)).toNat 0 = c := toB_get (c :: l) 0
    have q3 : ((0 : Int) < ((sp (c :: l)).length : Int)) := by omega
    simp only [D.toStr_str, toB_size, q0, Bool.false_eq_true, if_false, q1, decide_true, if_true, q2, u8_35]
    refine cutI (fun h35 => ?_) fun h35 => ?_
    · have : lineB (c :: l) = .ok [] := by
        have : skipB (c :: l) = true := h35
        simp [lineB, this]
      rw [this]
      rfl
    · have hsk : skipB (c :: l) = false := by
        cases hb : (c == 35) with
        | true => exact absurd hb h35
        | false => exact hb
      simp only [refsplit_eq (c :: l) (by omega), bindC, List.length_cons, List.length_nil, if_true, List.getD_cons_zero, D.toL_agg, pl_length, show ((0 : Int)).toNat = 0 from rfl, hg0, q3, decide_true, D.toStr_str, eS, eT, eP, eD, neq_toB]
      have el : lineB (c :: l) = if knownB (c :: l) = true then parseB (c :: l) else .error (10, 0) := by simp only [lineB, hsk, Bool.false_eq_true, if_false]
      have kn : ∀ {b : Bool}, knownB (c :: l) = b → lineB (c :: l) = if b = true then parseB (c :: l) else .error (10, 0) := by intro b hb; rw [el, hb]
      cases h1 : (cutS (c :: l)).1 == sayB with
      | true => rw [kn (b := true) (by simp [knownB, h1])]; simp only [Bool.not_true, Bool.false_eq_true, if_false, if_true]; exact J1
      | false =>
        cases h2 : (cutS (c :: l)).1 == tickB with
        | true => rw [kn (b := true) (by simp [knownB, h2])]; simp only [Bool.not_true, Bool.not_false, Bool.false_eq_true, if_false, if_true]; exact J1
        | false =>
          cases h3 : (cutS (c :: l)).1 == pickB with
          | true => rw [kn (b := true) (by simp [knownB, h3])]; simp only [Bool.not_true, Bool.not_false, Bool.false_eq_true, if_false, if_true]; exact J1
          | false =>
            cases h4 : (cutS (c :: l)).1 == drawB with
            | true => rw [kn (b := true) (by simp [knownB, h4])]; simp only [Bool.not_true, Bool.not_false, Bool.false_eq_true, if_false, if_true]; exact J1
            | false => rw [kn (b := false) (by simp [knownB, h1, h2, h3, h4])]; simp only [Bool.not_false, Bool.false_eq_true, if_false, if_true]; rfl
end Go.Proofs.YtnaemggpelolcaaGreatDoor.StoD
