/-
  LineParses on data: what any line asks is the document's; so is whether any word is a number.
-/
import Derived.Test.YtobacchojjfpfaaDoorApart
import Derived.Test.YtobacchojjfpfaaDoorRefNum
namespace Go.Proofs.YtobacchojjfpfaaDoor.LineD
open Go.Proofs.YtobacchojjfpfaaDoor.Eng Go.Proofs.YtobacchojjfpfaaDoor Go.Proofs.YtobacchojjfpfaaDoor.Dat Go.Proofs.YtobacchojjfpfaaDoor.WordP Go.Proofs.YtobacchojjfpfaaDoor.NumE Go.Proofs.YtobacchojjfpfaaDoor.Open Go.Proofs.YtobacchojjfpfaaDoor.RefD
set_option linter.unusedVariables false
set_option linter.unusedSimpArgs false

def what (sh : List Bool) : Bs := sh.map fun b => if b then 115 else 110
theorem shape_eq (v : Bs) : FX 22 [.str (toB v)] = some (match shapeB v with | some (k, sh) => [.int (k : Nat), .str (toB (what sh))] | none => [.int 0, .str (toB [])]) := by
  rw [E_ref15_shape]
  have b1 : (ByteArray.mk #[115, 117, 98, 109, 105, 116]) = toB submitB := rfl
  have b2 : (ByteArray.mk #[99, 97, 110, 99, 101, 108]) = toB cancelB := rfl
  have b3 : (ByteArray.mk #[112, 111, 108, 108]) = toB pollB := rfl
  have b4 : (ByteArray.mk #[118, 105, 101, 119]) = toB viewB := rfl
  simp only [D.toStr_str, b1, b2, b3, b4, eql_toB]
  unfold shapeB
  cases h1 : v == submitB with
  | true => rfl
  | false =>
    cases h2 : v == cancelB with
    | true => rfl
    | false =>
      cases h3 : v == pollB with
      | true => rfl
      | false =>
        cases h4 : v == viewB with
        | true => rfl
        | false => rfl
def refD : Except (Nat × Nat) (Nat × List Nat) → List D
  | .ok (k, ns) => fields k ns ++ [.int 0, .int 0]
  | .error (c, a) => zeros ++ [.int c, .int a]
theorem ints_len (ns : List Nat) : (ns.map fun (n : Nat) => D.int (n : Int)).length = ns.length := by simp
/-- What the rest of the words comes to. -/
def endW (k : Nat) (pre : List Nat) : Except (Nat × Nat) (List Nat × Nat × List Bs) → Except (Nat × Nat) (Nat × List Nat)
  | .error e => .error e
  | .ok (ns, p, []) => .ok (k, pre ++ ns)
  | .ok (ns, p, _ :: _) => .error (12, p)
theorem askW_cons (E : Nat) (v : Bs) (ws : List Bs) : askW E (v :: ws) = match shapeB v with | none => .error (10, 0) | some (k, sh) => endW k [] (steps sh E (v.length + 1) ws) := by
  unfold askW
  dsimp only
  cases shapeB v with
  | none => rfl
  | some y =>
    obtain ⟨k, sh⟩ := y
    dsimp only
    rcases steps sh E (v.length + 1) ws with e | ⟨ns, p, r⟩
    · rfl
    · cases r <;> rfl
theorem kinds_cases {k : Nat} {v : Bs} {sh : List Bool} {ns : List Nat} (h : (k, v, sh) ∈ kinds) (hl : ns.length = sh.length) : (k = 1 ∧ ∃ a b c d e f g i, ns = [a, b, c, d, e, f, g, i]) ∨ (k = 2 ∧ ∃ a b, ns = [a, b]) ∨ (k = 3 ∧ ∃ a, ns = [a]) ∨ (k = 4 ∧ ns = []) := by
  simp only [kinds, List.mem_cons, Prod.mk.injEq, List.not_mem_nil, or_false] at h
  rcases h with ⟨rfl, rfl, rfl⟩ | ⟨rfl, rfl, rfl⟩ | ⟨rfl, rfl, rfl⟩ | ⟨rfl, rfl, rfl⟩
  · match ns, hl with
    | [a, b, c, d, e, f, g, i], _ => exact .inl ⟨rfl, a, b, c, d, e, f, g, i, rfl⟩
  · match ns, hl with
    | [a, b], _ => exact .inr (.inl ⟨rfl, a, b, rfl⟩)
  · match ns, hl with
    | [a], _ => exact .inr (.inr (.inl ⟨rfl, a, rfl⟩))
  · match ns, hl with
    | [], _ => exact .inr (.inr (.inr ⟨rfl, rfl⟩))
theorem kinds_len {k : Nat} {v : Bs} {sh : List Bool} (h : (k, v, sh) ∈ kinds) : sh.length ≤ 8 := by
  simp only [kinds, List.mem_cons, Prod.mk.injEq, List.not_mem_nil, or_false] at h
  rcases h with ⟨rfl, rfl, rfl⟩ | ⟨rfl, rfl, rfl⟩ | ⟨rfl, rfl, rfl⟩ | ⟨rfl, rfl, rfl⟩ <;> simp
theorem steps_false (sh : List Bool) (E p : Nat) (w : Bs) (ws : List Bs) : steps (false :: sh) E p (w :: ws) = if dig w then (match steps sh E (p + w.length + 1) ws with | .ok (ns, r) => .ok (val w :: ns, r) | .error e => .error e) else .error (13, p) := rfl
theorem steps_true (sh : List Bool) (E p : Nat) (w : Bs) (ws : List Bs) : steps (true :: sh) E p (w :: ws) = if w == buyB then (match steps sh E (p + w.length + 1) ws with | .ok (ns, r) => .ok (0 :: ns, r) | .error e => .error e)
      else if w == sellB then (match steps sh E (p + w.length + 1) ws with | .ok (ns, r) => .ok (1 :: ns, r) | .error e => .error e)
      else .error (10, p) := rfl
theorem endW_cons (k : Nat) (pre : List Nat) (n : Nat) (x : Except (Nat × Nat) (List Nat × Nat × List Bs)) : endW k pre (match x with | .ok (ns, r) => .ok (n :: ns, r) | .error e => .error e) = endW k (pre ++ [n]) x := by
  rcases x with e | ⟨ns, p, r⟩
  · rfl
  · cases r with
    | nil => simp [endW]
    | cons => rfl
set_option maxHeartbeats 2000000 in
theorem refparse2 (s v : Bs) (ws : List Bs) (x1 : D) (g0 : Eng.Fn) {k : Nat} {sh : List Bool} (hk : (k, v, sh) ∈ kinds) (hws : ws.length ≤ 100000) (hspan : span (v :: ws) ≤ 100000) : ∀ (d i : Nat) (ns : List Nat), i + d = sh.length → ns.length = i → i ≤ ws.length →
    W_ref15_Parse_2 (.str (toB s)) x1 (.agg (pl 0 (v :: ws))) (.int (k : Nat)) (.str (toB (what sh))) g0 [.int i, .agg (ns.map fun (n : Nat) => D.int (n : Int))] =
      some (refD (endW k ns (steps (sh.drop i) s.length (v.length + 1 + span (ws.take i)) (ws.drop i))))
  | 0, i, ns, h, hn, hi => by
    have hii : i = sh.length := by omega
    have hsl := kinds_len hk
    have e1 : ¬ ((i : Int) < ((what sh).length : Int)) := by simp [what]; omega
    have e2 : IntKind.i64.wrap (((what sh).length : Int) + 1) = ((i + 1 : Nat) : Int) := by rw [wrap_small _ (by simp [what]; omega) (by simp [what]; omega)]; simp [what]; omega
    have e3 : (((i + 1 : Nat) : Int) ≥ 0) := by omega
    have hplen : (pl 0 (v :: ws)).length = ws.length + 1 := by rw [pl_length]; rfl
    rw [W_ref15_Parse_2_eq]
    rw [show sh.drop i = [] from List.drop_eq_nil_of_le (by omega)]
    simp only [D.toInt_int, D.toStr_str, toB_size, e1, e2, e3, decide_false, decide_true, Bool.false_eq_true, if_false, if_true, D.toL_agg, hplen, Int.toNat_natCast]
    by_cases hlt : i < ws.length
    · have e4 : (((ws.length + 1 : Nat) : Int) > ((i + 1 : Nat) : Int)) := by omega
      have e5 : (((i + 1 : Nat) : Int) < ((ws.length + 1 : Nat) : Int)) := by omega
      have hget := pl_get (v :: ws) 0 (i + 1) (by simp; omega)
      simp only [e4, e5, decide_true, if_true, hget]
      rw [List.drop_eq_getElem_cons hlt]
      have hsp : 0 + span (List.take (i + 1) (v :: ws)) = v.length + 1 + span (ws.take i) := by simp [span]
      rw [hsp]
      rfl
    · have e4 : ¬ (((ws.length + 1 : Nat) : Int) > ((i + 1 : Nat) : Int)) := by omega
      rw [show ws.drop i = [] from List.drop_eq_nil_of_le (by omega)]
      have hend : endW k ns (steps [] s.length (v.length + 1 + span (ws.take i)) []) = .ok (k, ns) := by simp [steps, endW]
      rw [hend]
      simp only [e4, decide_false, Bool.false_eq_true, if_false]
      rcases kinds_cases hk (ns := ns) (by omega) with ⟨rfl, a, b, c, d', e, f, g, j, rfl⟩ | ⟨rfl, a, b, rfl⟩ | ⟨rfl, a, rfl⟩ | ⟨rfl, rfl⟩ <;> rfl
  | d + 1, i, ns, h, hn, hi => by
    have hsl := kinds_len hk
    have hi2 : i < sh.length := by omega
    have e1 : ((i : Int) < ((what sh).length : Int)) := by simp [what]; omega
    have e2 : IntKind.i64.wrap ((i : Int) + 1) = ((i + 1 : Nat) : Int) := by rw [wrap_small _ (by omega) (by omega)]; omega
    have e3 : ((i : Int) ≥ 0) := by omega
    have hplen : (pl 0 (v :: ws)).length = ws.length + 1 := by rw [pl_length]; rfl
    have hch : (what sh).getD i 0 = if sh[i] then 115 else 110 := by
      unfold what
      rw [List.getD_eq_getElem?_getD, List.getElem?_map, List.getElem?_eq_getElem hi2]; rfl
    rw [W_ref15_Parse_2_eq, List.drop_eq_getElem_cons hi2]
    by_cases hlt : i < ws.length
    · have e4 : ¬ (((i + 1 : Nat) : Int) ≥ ((ws.length + 1 : Nat) : Int)) := by omega
      have e5 : (((i + 1 : Nat) : Int) ≥ 0) := by omega
      have e6 : (((i + 1 : Nat) : Int) < ((ws.length + 1 : Nat) : Int)) := by omega
      have hget := pl_get (v :: ws) 0 (i + 1) (by simp; omega)
      have hsp : 0 + span (List.take (i + 1) (v :: ws)) = v.length + 1 + span (ws.take i) := by simp [span]
      have hw : (v :: ws)[i + 1]'(by simp; omega) = ws[i] := rfl
      rw [hsp, hw] at hget
      have hsp2 : v.length + 1 + span (ws.take i) + ws[i].length + 1 = v.length + 1 + span (ws.take (i + 1)) := by
        have : ws.take (i + 1) = ws.take i ++ [ws[i]] := by rw [List.take_add_one, List.getElem?_eq_getElem hlt]; rfl
        rw [this]
        unfold span
        rw [List.map_append, List.sum_append]
        simp only [List.map_cons, List.map_nil, List.sum_cons, List.sum_nil]
        omega
      have hlen : ∀ x : D, ((((ns.map fun (n : Nat) => D.int (n : Int)) ++ [x]).length : Int) ≤ 17592186044416) := by intro x; simp; omega
      have ih := fun n => refparse2 s v ws x1 g0 hk hws hspan d (i + 1) (ns ++ [n]) (by omega) (by simp; omega) (by omega)
      have hmap : ∀ n : Nat, ((ns.map fun (n : Nat) => D.int (n : Int)) ++ [D.int (n : Int)]) = (ns ++ [n]).map fun (n : Nat) => D.int (n : Int) := fun n => by simp
      rw [List.drop_eq_getElem_cons hlt]
      simp only [D.toInt_int, D.toStr_str, toB_size, e1, e2, e3, e4, e5, e6, decide_false, decide_true, Bool.false_eq_true, if_false, if_true, D.toL_agg, hplen, Int.toNat_natCast, toB_get, hch, hget, List.getD_cons_zero, List.getD_cons_succ]
      have b1 : (ByteArray.mk #[98, 117, 121]) = toB buyB := rfl
      have b2 : (ByteArray.mk #[115, 101, 108, 108]) = toB sellB := rfl
      cases hb : sh[i] with
      | true =>
        simp only [if_true, show (((115 : UInt8).toNat : Int) == 115) = true from rfl, b1, b2, neq_toB, eql_toB, steps_true, hsp2]
        cases h1 : ws[i] == buyB with
        | true =>
          have h2 : (ws[i] == sellB) = false := by rw [beq_iff_eq.1 h1]; decide
          simp only [h2, Bool.not_true, Bool.false_eq_true, if_false, if_true, hlen, decide_true, endW_cons]
          have := ih 0
          rw [← hmap] at this
          exact this
        | false =>
          cases h2 : ws[i] == sellB with
          | true =>
            simp only [Bool.not_false, Bool.not_true, Bool.false_eq_true, if_false, if_true, hlen, decide_true, endW_cons]
            have := ih 1
            rw [← hmap] at this
            exact this
          | false =>
            simp only [Bool.not_false, if_true, Bool.false_eq_true, if_false]
            rfl
      | false =>
        obtain ⟨z, hz, hzv⟩ := refnum_eq ws[i]
        simp only [Bool.false_eq_true, if_false, show (((110 : UInt8).toNat : Int) == 115) = false from rfl, hz, bindC, List.length_cons, List.length_nil, if_true, List.getD_cons_zero, List.getD_cons_succ, D.toBool_bool, steps_false, hsp2]
        cases hd : dig ws[i] with
        | true =>
          rw [hzv hd]
          simp only [Bool.not_true, Bool.false_eq_true, if_false, if_true, hlen, decide_true, endW_cons]
          have := ih (val ws[i])
          rw [← hmap] at this
          exact this
        | false =>
          simp only [Bool.not_false, if_true, Bool.false_eq_true, if_false]
          rfl
    · have hii : i = ws.length := by omega
      have e4 : (((i + 1 : Nat) : Int) ≥ ((ws.length + 1 : Nat) : Int)) := by omega
      rw [show ws.drop i = [] from List.drop_eq_nil_of_le (by omega)]
      simp only [D.toInt_int, D.toStr_str, toB_size, e1, e2, e4, decide_true, if_true, D.toL_agg, hplen]
      cases sh[i] <;> rfl
theorem refparse1 (s : Bs) (hs : s.length ≤ 200) : ∀ (d i : Nat), i + d = s.length → W_ref15_Parse_1 (.str (toB s)) [.int i] = some (refD (match badFrom i (s.drop i) with | some j => .error (15, j) | none => askW s.length (sp s)))
  | 0, i, h => by
    rw [W_ref15_Parse_1_eq, show s.drop i = [] from List.drop_eq_nil_of_le (by omega)]
    have e1 : ¬ ((i : Int) < (s.length : Int)) := by omega
    have hspan := span_sp s
    have hlen := sp_len s
    simp only [D.toInt_int, D.toStr_str, toB_size, e1, decide_false, Bool.false_eq_true, if_false, refsplit_eq s (by omega), bindC, List.length_cons, List.length_nil, if_true, List.getD_cons_zero, D.toL_agg, pl_length]
    cases hw : sp s with
    | nil => exact absurd hw (sp_ne s)
    | cons v ws =>
      rw [hw] at hspan hlen
      have e2 : ((0 : Int) < ((v :: ws).length : Int)) := by simp only [List.length_cons]; omega
      have hget := pl_get (v :: ws) 0 0 (by simp)
      have hg0 : (v :: ws)[0]'(by simp) = v := rfl
      rw [hg0] at hget
      simp only [e2, decide_true, if_true, show ((0 : Int)).toNat = 0 from rfl, hget, D.toL_agg, List.getD_cons_zero, shape_eq, badFrom]
      rw [askW_cons]
      cases hsh : shapeB v with
      | none => rfl
      | some y =>
        obtain ⟨k, sh⟩ := y
        have hk := shape_some hsh
        have hkp : ((k : Int) == 0) = false := by
          simp only [kinds, List.mem_cons, Prod.mk.injEq, List.not_mem_nil, or_false] at hk
          rcases hk with ⟨rfl, _⟩ | ⟨rfl, _⟩ | ⟨rfl, _⟩ | ⟨rfl, _⟩ <;> rfl
        have h2 := refparse2 s v ws (.int i) (W_ref15_Parse_1 (.str (toB s))) hk (by simp at hlen; omega) (by omega) sh.length 0 [] (by omega) rfl (Nat.zero_le _)
        simp only [List.length_cons, List.length_nil, if_true, List.getD_cons_zero, List.getD_cons_succ, D.toInt_int, hkp, Bool.false_eq_true, if_false]
        have h3 : W_ref15_Parse_2 (.str (toB s)) (.int (i : Nat)) (.agg (pl 0 (v :: ws))) (.int (k : Nat)) (.str (toB (what sh))) (W_ref15_Parse_1 (.str (toB s))) [.int 0, .agg []] = _ := h2
        rw [h3]
        simp only [List.drop_zero, List.take_zero, show span [] = 0 from rfl, Nat.add_zero]
  | d + 1, i, h => by
    have hi : i < s.length := by omega
    have h1 : ((i : Int) < (s.length : Int)) := by omega
    have h2 : ((i : Int) ≥ 0) := by omega
    have h3 : IntKind.i64.wrap ((i : Int) + 1) = ((i + 1 : Nat) : Int) := by rw [wrap_small _ (by omega) (by omega)]; omega
    rw [W_ref15_Parse_1_eq]
    simp only [D.toInt_int, D.toStr_str, toB_size, h1, h2, decide_true, if_true, Int.toNat_natCast, toB_get, h3, refparse1 s hs d (i + 1) (by omega)]
    rw [List.drop_eq_getElem_cons hi, List.getD_eq_getElem?_getD, List.getElem?_eq_getElem hi, Option.getD_some]
    have hbf : badFrom i (s[i] :: s.drop (i + 1)) = if okc s[i] = true then badFrom (i + 1) (s.drop (i + 1)) else some i := rfl
    rw [hbf]
    by_cases ha : ((s[i].toNat : Int) < 32)
    · have : okc s[i] = false := by simp [okc]; omega
      simp only [ha, this, decide_true, if_true, Bool.false_eq_true, if_false]
      rfl
    · by_cases hb : ((s[i].toNat : Int) > 126)
      · have : okc s[i] = false := by simp [okc]; omega
        simp only [ha, hb, this, decide_false, decide_true, Bool.false_eq_true, if_false, if_true]
        rfl
      · have : okc s[i] = true := by simp [okc]; omega
        simp only [ha, hb, this, decide_false, Bool.false_eq_true, if_false, if_true]
theorem refparse_eq (s : Bs) : FX 7 [.str (toB s)] = some (refD (askB s)) := by
  rw [E_ref15_Parse]
  unfold askB
  by_cases hl : 200 < s.length
  · have h1 : ((s.length : Int) > 200) := by omega
    simp only [D.toStr_str, toB_size, h1, hl, decide_true, if_true]
    rfl
  · have h1 : ¬ ((s.length : Int) > 200) := by omega
    have := refparse1 s (by omega) s.length 0 (by omega)
    rw [List.drop_zero] at this
    simp only [D.toStr_str, toB_size, h1, hl, decide_false, Bool.false_eq_true, if_false]
    exact this
theorem err_code {s : Bs} {c a : Nat} (h : askB s = .error (c, a)) : 1 ≤ c ∧ c ≤ 29 := by
  have hst : ∀ (sh : List Bool) (E p : Nat) (ws : List Bs), steps sh E p ws = .error (c, a) → 1 ≤ c ∧ c ≤ 29 := by
    intro sh
    induction sh with
    | nil => intro E p ws h; simp [steps] at h
    | cons b sh ih =>
      intro E p ws h
      cases ws with
      | nil => simp [steps] at h; omega
      | cons w ws =>
        cases b with
        | false =>
          rw [steps_false] at h
          split at h
          · split at h
            · cases h
            · rename_i e he
              cases h
              exact ih _ _ _ he
          · simp at h; omega
        | true =>
          rw [steps_true] at h
          split at h
          · split at h
            · cases h
            · rename_i e he
              cases h
              exact ih _ _ _ he
          · split at h
            · split at h
              · cases h
              · rename_i e he
                cases h
                exact ih _ _ _ he
            · simp at h; omega
  unfold askB at h
  split at h
  · simp at h; omega
  · split at h
    · simp at h; omega
    · unfold askW at h
      split at h
      · simp at h; omega
      · split at h
        · simp at h; omega
        · split at h
          · rename_i e he
            cases h
            exact hst _ _ _ _ he
          · cases h
          · simp at h; omega
theorem from_eq (a0 a1 a2 a3 a4 a5 a6 a7 a8 : D) : FX 9 [a0, a1, a2, a3, a4, a5, a6, a7, a8] = some [a0, a1, a2, a3, a4, a5, a6, a7, a8] := E_law15_From ..
set_option maxHeartbeats 1000000 in
theorem parses (d0 d1 : D) (w0 : Wf Tryd.prog .str d0) (w1 : Wf Tryd.prog .str d1) : FX 4 [d0, d1] = some [.bool true] := by
  obtain ⟨s0, rfl, _⟩ := w0.toStr
  obtain ⟨t0, rfl, _⟩ := w1.toStr
  rw [← toB_of s0, ← toB_of t0]
  generalize s0.data.toList = s
  generalize t0.data.toList = w
  obtain ⟨pa, ea⟩ := awake_eq []
  rw [E_law15_LineParses]
  by_cases hs : s.length ≤ 1000
  case neg =>
    have h1 : ((s.length : Int) > 1000) := by omega
    simp only [D.toStr_str, toB_size, h1, decide_true, if_true, ea, bindC, List.length_cons, List.length_nil, List.getD_cons_zero]
  by_cases hw : w.length ≤ 1000
  case neg =>
    have h1 : ¬ ((s.length : Int) > 1000) := by omega
    have h2 : ((w.length : Int) > 1000) := by omega
    simp only [D.toStr_str, toB_size, h1, h2, decide_true, decide_false, Bool.false_eq_true, if_false, if_true, ea, bindC, List.length_cons, List.length_nil, List.getD_cons_zero]
  have h1 : ¬ ((s.length : Int) > 1000) := by omega
  have h2 : ¬ ((w.length : Int) > 1000) := by omega
  obtain ⟨p1, e1⟩ := parse_eq s (by omega) []
  have e2 := refparse_eq s
  obtain ⟨z, e3, _⟩ := refnum_eq w
  have e4 := digits_eq w
  simp only [D.toStr_str, toB_size, h1, h2, decide_false, Bool.false_eq_true, if_false, e1, e2, bindC]
  cases ha : askB s with
  | error e =>
    obtain ⟨c, a⟩ := e
    have hc := err_code ha
    have hn := num_at (a : Int) (c : Int) (by omega)
    obtain ⟨y, e5⟩ := place_at (a : Int) (c : Int) p1
    obtain ⟨pb, eb⟩ := awake_eq (p1 ++ [y])
    have hf : flt a c = errAt a c := rfl
    have q1 : ((c : Int) != (c : Int)) = false := by simp
    have q2 : ((c : Int) != 0) = true := by simp; omega
    have q3 : ((a : Int) != (a : Int)) = false := by simp
    simp only [resD, refD, zeros, List.cons_append, List.nil_append, List.length_cons, List.length_nil, if_true, List.getD_cons_zero, List.getD_cons_succ, hf, hn, D.toInt_int, q1, q2, q3, Bool.false_eq_true, if_false, from_eq, beq_self_eq_true, Bool.and_self, Bool.not_true, e5, D.toBool_bool, e3, eb, e4]
  | ok x =>
    obtain ⟨k, ns⟩ := x
    obtain ⟨a0, a1, a2, a3, a4, a5, a6, a7, a8, hf, _⟩ := ok_form ha
    obtain ⟨pb, eb⟩ := awake_eq p1
    have hn : FX 8 [.nil] = some [.int 0] := by rw [E_law01_Num]; rfl
    have q1 : ((0 : Int) != 0) = false := rfl
    simp only [resD, refD, hf, List.cons_append, List.nil_append, List.length_cons, List.length_nil, if_true, List.getD_cons_zero, List.getD_cons_succ, hn, D.toInt_int, q1, Bool.false_eq_true, if_false, from_eq, beq_self_eq_true, Bool.and_self, Bool.not_true, D.toBool_bool, e3, eb, e4]
end Go.Proofs.YtobacchojjfpfaaDoor.LineD
