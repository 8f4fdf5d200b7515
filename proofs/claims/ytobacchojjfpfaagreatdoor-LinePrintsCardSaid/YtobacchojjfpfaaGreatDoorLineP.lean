/-
  line.Parse on data: it is what the plain words say.
-/
import Derived.Test.YtobacchojjfpfaaGreatDoorLineM
namespace Go.Proofs.YtobacchojjfpfaaGreatDoor.LineD
open Go.Proofs.YtobacchojjfpfaaGreatDoor.Eng Go.Proofs.YtobacchojjfpfaaGreatDoor Go.Proofs.YtobacchojjfpfaaGreatDoor.Dat Go.Proofs.YtobacchojjfpfaaGreatDoor.WordP Go.Proofs.YtobacchojjfpfaaGreatDoor.NumE
set_option linter.unusedVariables false
set_option linter.unusedSimpArgs false

def runM (W : List Bs) (E : Nat) : List Bool → R → List Nat × R
  | [], s => ([], s)
  | false :: sh, s => ((numM W E s).1 :: (runM W E sh (numM W E s).2).1, (runM W E sh (numM W E s).2).2)
  | true :: sh, s => ((sideM W E s).1 :: (runM W E sh (sideM W E s).2).1, (runM W E sh (sideM W E s).2).2)
theorem failM_e {s : R} (h : s.e.isNil = false) (a c : Nat) : (failM s a c).e = s.e := by simp [failM, h]
theorem nextM_e {W : List Bs} {E : Nat} {s : R} (h : s.e.isNil = false) : (nextM W E s).2.2.e = s.e := by
  unfold nextM
  split
  · rfl
  · exact failM_e h _ _
theorem numM_e {W : List Bs} {E : Nat} {s : R} (h : s.e.isNil = false) : (numM W E s).2.e = s.e := by
  have hn := nextM_e (W := W) (E := E) h
  unfold numM
  split
  · exact hn
  · rw [failM_e (by rw [hn]; exact h)]; exact hn
theorem sideM_e {W : List Bs} {E : Nat} {s : R} (h : s.e.isNil = false) : (sideM W E s).2.e = s.e := by
  have hn := nextM_e (W := W) (E := E) h
  unfold sideM
  split
  · exact hn
  · split
    · exact hn
    · rw [failM_e (by rw [hn]; exact h)]; exact hn
theorem runM_e {W : List Bs} {E : Nat} : ∀ (sh : List Bool) {s : R}, s.e.isNil = false → (runM W E sh s).2.e = s.e
  | [], s, h => rfl
  | false :: sh, s, h => by
    show (runM W E sh (numM W E s).2).2.e = s.e
    rw [runM_e sh (by rw [numM_e h]; exact h), numM_e h]
  | true :: sh, s, h => by
    show (runM W E sh (sideM W E s).2).2.e = s.e
    rw [runM_e sh (by rw [sideM_e h]; exact h), sideM_e h]
/-- What the reader has come to, if nothing was wrong, or something was. -/
def Ran (W : List Bs) (E : Nat) (x : Except (Nat × Nat) (List Nat × Nat × List Bs)) (y : List Nat × R) : Prop := match x with
  | .ok (ns, p, ws) => y.1 = ns ∧ y.2.e = .nil ∧ y.2.p = p ∧ W.drop y.2.k = ws
  | .error (c, a) => y.2.e = flt a c
theorem flt_nil (a c : Nat) : (flt a c).isNil = false := rfl
theorem run_steps {W : List Bs} {E : Nat} : ∀ (sh : List Bool) {s : R}, s.e = .nil → Ran W E (steps sh E s.p (W.drop s.k)) (runM W E sh s)
  | [], s, h => ⟨rfl, h, rfl, rfl⟩
  | b :: sh, s, h => by
    by_cases hk : s.k < W.length
    · have hw : W[s.k]? = some W[s.k] := List.getElem?_eq_getElem hk
      have hm : nextM W E s = (W[s.k], s.p, { s with k := s.k + 1, p := s.p + W[s.k].length + 1 }) := by unfold nextM; rw [hw]
      rw [List.drop_eq_getElem_cons hk]
      cases b with
      | false =>
        simp only [steps, runM]
        have hn : numM W E s = if dig W[s.k] then (val W[s.k], { s with k := s.k + 1, p := s.p + W[s.k].length + 1 }) else (0, failM { s with k := s.k + 1, p := s.p + W[s.k].length + 1 } s.p 13) := by unfold numM; rw [hm]
        rw [hn]
        cases hd : dig W[s.k] with
        | true =>
          simp only [if_true]
          have ih := run_steps (W := W) (E := E) sh (s := { s with k := s.k + 1, p := s.p + W[s.k].length + 1 }) h
          simp only at ih
          split
          · rename_i ns r hr
            rw [hr] at ih
            obtain ⟨p, ws⟩ := r
            exact ⟨by rw [ih.1], ih.2⟩
          · rename_i e hr
            rw [hr] at ih
            exact ih
        | false =>
          simp only [Bool.false_eq_true, if_false]
          have he : (failM { s with k := s.k + 1, p := s.p + W[s.k].length + 1 } s.p 13).e = flt s.p 13 := by simp [failM, h]
          show (runM W E sh _).2.e = flt s.p 13
          rw [runM_e sh (by rw [he]; rfl), he]
      | true =>
        simp only [steps, runM]
        have hn : sideM W E s = if W[s.k] == buyB then (0, { s with k := s.k + 1, p := s.p + W[s.k].length + 1 }) else if W[s.k] == sellB then (1, { s with k := s.k + 1, p := s.p + W[s.k].length + 1 }) else (0, failM { s with k := s.k + 1, p := s.p + W[s.k].length + 1 } s.p 10) := by unfold sideM; rw [hm]
        rw [hn]
        have ih := run_steps (W := W) (E := E) sh (s := { s with k := s.k + 1, p := s.p + W[s.k].length + 1 }) h
        simp only at ih
        cases hd : W[s.k] == buyB with
        | true =>
          simp only [if_true]
          split
          · rename_i ns r hr
            rw [hr] at ih
            obtain ⟨p, ws⟩ := r
            exact ⟨by rw [ih.1], ih.2⟩
          · rename_i e hr
            rw [hr] at ih
            exact ih
        | false =>
          cases hd2 : W[s.k] == sellB with
          | true =>
            simp only [Bool.false_eq_true, if_false, if_true]
            split
            · rename_i ns r hr
              rw [hr] at ih
              obtain ⟨p, ws⟩ := r
              exact ⟨by rw [ih.1], ih.2⟩
            · rename_i e hr
              rw [hr] at ih
              exact ih
          | false =>
            simp only [Bool.false_eq_true, if_false]
            have he : (failM { s with k := s.k + 1, p := s.p + W[s.k].length + 1 } s.p 10).e = flt s.p 10 := by simp [failM, h]
            show (runM W E sh _).2.e = flt s.p 10
            rw [runM_e sh (by rw [he]; rfl), he]
    · have hw : W[s.k]? = none := List.getElem?_eq_none (by omega)
      have hm : nextM W E s = ([], E, failM s E 11) := by unfold nextM; rw [hw]
      have he : (failM s E 11).e = flt E 11 := by simp [failM, h]
      have hl : (failM s E 11).e.isNil = false := by rw [he]; rfl
      rw [List.drop_eq_nil_of_le (by omega)]
      cases b with
      | false =>
        show (runM W E sh (numM W E s).2).2.e = flt E 11
        have hn : (numM W E s).2.e = flt E 11 := by
          have : numM W E s = (0, failM (failM s E 11) E 13) := by unfold numM; rw [hm]; rfl
          rw [this]
          show (failM (failM s E 11) E 13).e = _
          rw [failM_e hl, he]
        rw [runM_e sh (by rw [hn]; rfl), hn]
      | true =>
        show (runM W E sh (sideM W E s).2).2.e = flt E 11
        have hn : (sideM W E s).2.e = flt E 11 := by
          have : sideM W E s = (0, failM (failM s E 11) E 10) := by unfold sideM; rw [hm]; rfl
          rw [this]
          show (failM (failM s E 11) E 10).e = _
          rw [failM_e hl, he]
        rw [runM_e sh (by rw [hn]; rfl), hn]
/-! Bytes. -/
theorem bytes_loop (s : Bs) (hs : s.length ≤ 1000000) : ∀ (d i : Nat), i + d = s.length → W_line_bytes_1 (.str (toB s)) [.int i] = some [match badFrom i (s.drop i) with | some j => .int (j : Nat) | none => .int (-1)]
  | 0, i, h => by
    rw [W_line_bytes_1_eq]
    have : ¬ ((i : Int) < (s.length : Int)) := by omega
    simp only [D.toInt_int, D.toStr_str, toB_size, this, decide_false, Bool.false_eq_true, if_false]
    rw [List.drop_eq_nil_of_le (by omega)]
    rfl
  | d + 1, i, h => by
    have hi : i < s.length := by omega
    have h1 : ((i : Int) < (s.length : Int)) := by omega
    have h2 : ((i : Int) ≥ 0) := by omega
    have h3 : IntKind.i64.wrap ((i : Int) + 1) = ((i + 1 : Nat) : Int) := by rw [wrap_small _ (by omega) (by omega)]; omega
    rw [W_line_bytes_1_eq]
    simp only [D.toInt_int, D.toStr_str, toB_size, h1, h2, decide_true, if_true, Int.toNat_natCast, toB_get, h3, bytes_loop s hs d (i + 1) (by omega)]
    rw [List.drop_eq_getElem_cons hi, List.getD_eq_getElem?_getD, List.getElem?_eq_getElem hi, Option.getD_some]
    have hbf : badFrom i (s[i] :: s.drop (i + 1)) = if okc s[i] = true then badFrom (i + 1) (s.drop (i + 1)) else some i := rfl
    rw [hbf]
    by_cases ha : ((s[i].toNat : Int) < 32)
    · have : okc s[i] = false := by simp [okc]; omega
      simp [ha, this]
    · by_cases hb : ((s[i].toNat : Int) > 126)
      · have : okc s[i] = false := by simp [okc]; omega
        simp only [ha, hb, this, decide_false, decide_true, Bool.false_eq_true, if_false, if_true]
      · have : okc s[i] = true := by simp [okc]; omega
        simp only [ha, hb, this, decide_false, Bool.false_eq_true, if_false, if_true]
theorem bytes_eq (s : Bs) (hs : s.length ≤ 1000000) : FX 16 [.str (toB s)] = some [match badFrom 0 s with | some j => .int (j : Nat) | none => .int (-1)] := by
  rw [E_line_bytes]
  exact bytes_loop s hs s.length 0 (by omega)
/-! What is asked. -/
def fields (k : Nat) (ns : List Nat) : List D := match k, ns with
  | 1, [a, b, c, d, e, f, g, h] => [.int 1, .int a, .int b, .int d, .int c, .int f, .int g, .int h, .int e]
  | 2, [a, b] => [.int 2, .int a, .int b, .int 0, .int 0, .int 0, .int 0, .int 0, .int 0]
  | 3, [b] => [.int 3, .int 0, .int b, .int 0, .int 0, .int 0, .int 0, .int 0, .int 0]
  | _, _ => [.int 4, .int 0, .int 0, .int 0, .int 0, .int 0, .int 0, .int 0, .int 0]
def zeros : List D := [.int 0, .int 0, .int 0, .int 0, .int 0, .int 0, .int 0, .int 0, .int 0]
def resD : Except (Nat × Nat) (Nat × List Nat) → List D
  | .ok (k, ns) => fields k ns ++ [.nil]
  | .error (c, a) => zeros ++ [flt a c]
theorem split_words (s : Bs) (hs : s.length ≤ 1000000) : FX 17 [.str (toB s), .str (toB [32])] = some [wD (sp s)] := by
  rw [split_eq]
  unfold StrD.splitF
  have h1 : (toB s).size < 4294967281 ∧ 1 ≤ (toB [32]).size := by rw [toB_size, toB_size]; simp; omega
  simp only [h1, and_self, if_true, split_sp, List.map_map]
  rfl
theorem sp_len (s : Bs) : (sp s).length ≤ s.length + 1 := by
  have h1 := span_sp s
  have h2 : ∀ l : List Bs, l.length ≤ span l := by
    intro l
    induction l with
    | nil => simp [span]
    | cons w l ih => simp only [span, List.map_cons, List.sum_cons, List.length_cons] at ih ⊢; omega
  have := h2 (sp s)
  omega
end Go.Proofs.YtobacchojjfpfaaGreatDoor.LineD
