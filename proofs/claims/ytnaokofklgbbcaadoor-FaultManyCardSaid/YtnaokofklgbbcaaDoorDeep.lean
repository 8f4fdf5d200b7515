/-
  FaultDeep on data.
-/
import Derived.Test.YtnaokofklgbbcaaDoorFaultD
namespace Go.Proofs.YtnaokofklgbbcaaDoor.FaultD
open Go.Proofs.YtnaokofklgbbcaaDoor.Eng Go.Proofs.YtnaokofklgbbcaaDoor Go.Proofs.YtnaokofklgbbcaaDoor.Dat Go.Proofs.YtnaokofklgbbcaaDoor.Open
set_option linter.unusedVariables false
set_option linter.unusedSimpArgs false

theorem as_case (x : D) (t : Nat) (y : D) (hx : x = .iface t y) (hs : List D) (v : D) :
    (∀ r, ErrD.asF 100 x = some r → FX 19 [x, .iface 54 (.int (hs.length : Int)), .agg (hs ++ [v])] = some [.bool r.isSome, match r with | none => .agg (hs ++ [v]) | some z => .agg (hs ++ [.agg [z]])]) ∧
    (∀ r, ErrD.asC 100 x = some r → FX 19 [x, .iface 56 (.int (hs.length : Int)), .agg (hs ++ [v])] = some [.bool r.isSome, match r with | none => .agg (hs ++ [v]) | some z => .agg (hs ++ [.agg [z]])]) ∧
    (∀ r, ErrD.asN 100 x = some r → FX 19 [x, .iface 55 (.int (hs.length : Int)), .agg (hs ++ [v])] = some [.bool r.isSome, match r with | none => .agg (hs ++ [v]) | some z => .agg (hs ++ [.agg [z]])]) := by
  subst hx
  refine ⟨fun r h => ?_, fun r h => ?_, fun r h => ?_⟩ <;> rw [as_eq] <;> cases r <;> simp [ErrD.asFn, ErrD.asRes, h]
theorem getL (hs : List D) (z : D) : (hs ++ [z]).getD hs.length .nil = z := by simp [List.getD_eq_getElem?_getD]
theorem place_eq (l : List Wrap) (hl : l.length ≤ 50) (c : Int) (hs : List D) : ∃ y, FX 10 [errD l c, .agg hs] = some [.int ((placeOf l).getD 0), .bool (placeOf l).isSome, .agg (hs ++ [y])] := by
  obtain ⟨t, x, he⟩ := errD_if l c
  obtain ⟨r, h1, h2⟩ := asF_eq c l 100 (by omega)
  have ha := (as_case _ t x he hs (.agg [.nil])).1 r h1
  rw [E_fault_Place]
  simp only [D.toL_agg, ha, bindC, List.length_cons, List.length_nil, if_true, List.getD_cons_zero, List.getD_cons_succ, D.toBool_bool]
  cases hp : placeOf l with
  | none =>
    rw [hp] at h2
    subst h2
    exact ⟨.agg [.nil], by simp⟩
  | some a =>
    rw [hp] at h2
    obtain ⟨e, rfl⟩ := h2
    exact ⟨.agg [.agg [.int a, e]], by simp [List.getD_eq_getElem?_getD]⟩
theorem code_eq (l : List Wrap) (hl : l.length ≤ 50) (c : Int) (hs : List D) : ∃ y, FX 12 [errD l c, .agg hs] = some [.int c, .agg (hs ++ [y])] := by
  obtain ⟨t, x, he⟩ := errD_if l c
  have ha := (as_case _ t x he hs (.agg [.int 0])).2.1 _ (asC_eq c l 100 (by omega))
  rw [E_fault_Code]
  simp only [D.toL_agg, ha, bindC, List.length_cons, List.length_nil, if_true, List.getD_cons_zero, List.getD_cons_succ, D.toBool_bool]
  exact ⟨.agg [.int c], by simp [List.getD_eq_getElem?_getD]⟩
/-- The words, the outermost first. -/
def wordsOf (l : List Wrap) : List ByteArray := (l.filter (fun w => !w.place)).map (·.word)
theorem wordsOf_drop (l : List Wrap) : wordsOf l = match l.dropWhile (·.place) with | [] => [] | w :: r => w.word :: wordsOf r := by
  induction l with
  | nil => rfl
  | cons w l ih =>
    cases hp : w.place with
    | true =>
      rw [List.dropWhile_cons_of_pos (by simpa using hp), ← ih]
      simp [wordsOf, hp]
    | false =>
      rw [List.dropWhile_cons_of_neg (by simp [hp])]
      simp [wordsOf, hp]
theorem drop_len (l : List Wrap) : (l.dropWhile (·.place)).length ≤ l.length := by
  induction l with
  | nil => simp
  | cons w l ih =>
    rw [List.dropWhile_cons]
    split
    · simp; omega
    · simp
theorem words_loop (c : Int) (x0 x1 : D) : ∀ (n : Nat) (l : List Wrap) (acc : List ByteArray) (hs : List D) (v : D), l.length ≤ n → l.length ≤ 50 → acc.length + l.length ≤ 100 →
    ∃ ys, W_fault_Words_1 x0 x1 [errD l c, .int (hs.length : Int), .agg (acc.map D.str), .agg (hs ++ [.agg [v]])] = some [.agg ((acc ++ wordsOf l).map D.str), .agg (hs ++ ys)] := by
  intro n
  induction n with
  | zero =>
    intro l acc hs v hn h50 hacc
    obtain rfl : l = [] := List.eq_nil_of_length_eq_zero (by omega)
    obtain ⟨t, x, he⟩ := errD_if [] c
    have ha := (as_case _ t x he hs (.agg [v])).2.2 _ (asN_eq c [] 100 (by simp))
    rw [W_fault_Words_1_eq]
    simp only [ha, bindC, List.length_cons, List.length_nil, if_true, List.getD_cons_zero, List.getD_cons_succ, D.toBool_bool]
    exact ⟨[.agg [v]], by simp [wordsOf]⟩
  | succ n ih =>
    intro l acc hs v hn h50 hacc
    obtain ⟨t, x, he⟩ := errD_if l c
    have ha := (as_case _ t x he hs (.agg [v])).2.2 _ (asN_eq c l 100 (by omega))
    have hw := wordsOf_drop l
    have hdl := drop_len l
    rw [W_fault_Words_1_eq]
    rw [hw]
    cases hd : l.dropWhile (·.place) with
    | nil =>
      rw [hd] at ha
      simp only [ha, bindC, List.length_cons, List.length_nil, if_true, List.getD_cons_zero, List.getD_cons_succ, D.toBool_bool]
      exact ⟨[.agg [v]], by simp⟩
    | cons w r =>
      rw [hd] at ha hdl
      simp only [List.length_cons] at hdl
      obtain ⟨ys, hy⟩ := ih r (acc ++ [w.word]) (hs ++ [.agg [.agg [.str w.word, errD r c]]]) (.agg [.str w.word, errD r c]) (by omega) (by omega) (by simp; omega)
      have hacc2 : ((acc.map D.str ++ [D.str w.word]).length : Int) ≤ 8796093022208 := by simp; omega
      simp only [ha, bindC, List.length_cons, List.length_nil, if_true, List.getD_cons_zero, List.getD_cons_succ, D.toBool_bool, Option.isSome_some]
      refine ⟨[.agg [.agg [.str w.word, errD r c]]] ++ ys, ?_⟩
      simp only [D.toL_agg, D.toInt_int, Int.toNat_natCast, getL, List.getD_cons_zero, List.getD_cons_succ, D.isNil_agg, Bool.not_false, if_true, show (D.int (hs.length : Int)).isNil = false from rfl, hacc2, decide_true, List.append_assoc]
      simp only [List.map_append, List.map_cons, List.map_nil, List.append_assoc, List.length_append, List.length_cons, List.length_nil] at hy ⊢
      simpa using hy
theorem words_eq (l : List Wrap) (hl : l.length ≤ 50) (c : Int) (hs : List D) : ∃ ys, FX 11 [errD l c, .agg hs] = some [.agg ((wordsOf l).map D.str), .agg (hs ++ ys)] := by
  rw [E_fault_Words]
  exact words_loop c _ _ l.length l [] hs .nil (Nat.le_refl _) hl (by simp; omega)
theorem awake (hs : List D) : ∃ ys, FX 6 [.agg hs] = some [.bool true, .agg (hs ++ ys)] := by
  have e1 : FX 8 [.int 3, code 27] = some [errD [⟨true, 3, ByteArray.empty⟩] 27] := at_eq _ _ rfl
  obtain ⟨y, e2⟩ := place_eq [⟨true, 3, ByteArray.empty⟩] (by simp) 27 hs
  obtain ⟨z, e3⟩ := code_eq [⟨true, 3, ByteArray.empty⟩] (by simp) 27 (hs ++ [y])
  have e4 := at_nil (.int 3)
  refine ⟨[y, z], ?_⟩
  rw [E_law01_awake, show (D.iface 27 (D.int 27)) = code 27 from rfl, e1]
  simp only [bindC, List.length_cons, List.length_nil, if_true, List.getD_cons_zero, List.getD_cons_succ, e2, e3, e4, errD_nil, Bool.not_false, D.toInt_int, beq_self_eq_true, D.toBool_bool, D.isNil_nil]
  simp [placeOf]
theorem wraps_of {d : D} (w : Wf Tryd.prog (.slice 46) d) : ∃ l : List Wrap, d = .agg (l.map Wrap.d) := by
  obtain ⟨l, h, _, _⟩ := w.structs (ts := [.bool, .int .i64, .str]) (f := Wrap.d) (Q := fun _ => True) (by kernel_rfl) (by simp) (by
    rintro ys ⟨a, _, rfl, ha, b, _, rfl, hb, c, _, rfl, hc, rfl⟩
    obtain ⟨a, rfl⟩ := ha.toBool
    obtain ⟨b, rfl, _⟩ := hb.toInt
    obtain ⟨c, rfl, _⟩ := hc.toStr
    exact ⟨⟨a, b, c⟩, rfl, trivial⟩)
  exact ⟨l, h⟩
theorem deep (d0 d1 d2 d3 : D) (w0 : Wf Tryd.prog (.slice 46) d0) (w1 : Wf Tryd.prog (.int .i64) d1) (w2 : Wf Tryd.prog .str d2) (w3 : Wf Tryd.prog (.int .i64) d3) : FX 3 [d0, d1, d2, d3] = some [.bool true] := by
  obtain ⟨l, rfl⟩ := wraps_of w0
  obtain ⟨a, rfl, _⟩ := w1.toInt
  obtain ⟨s, rfl, _⟩ := w2.toStr
  obtain ⟨c, rfl, _⟩ := w3.toInt
  obtain ⟨z, ez⟩ := awake []
  rw [E_law01_FaultDeep]
  simp only [D.toL_agg, List.length_map, D.toStr_str, ez, bindC, List.length_cons, List.length_nil, if_true, List.getD_cons_zero]
  by_cases h1 : (l.length : Int) > 30
  · simp only [h1, decide_true, if_true]
  by_cases h2 : (s.size : Int) > 200
  · simp only [h1, h2, decide_true, decide_false, Bool.false_eq_true, if_false, if_true]
  simp only [h1, h2, decide_false, Bool.false_eq_true, if_false]
  have hw := wrapped_eq l (by omega) c
  rw [show (D.iface 27 (D.int c)) = code c from rfl, hw]
  have f1 : FX 8 [.int a, errD l c] = some [errD (⟨true, a, ByteArray.empty⟩ :: l) c] := at_eq _ _ (errD_nil l c)
  have f2 : FX 9 [.str s, errD l c] = some [errD (⟨false, 0, s⟩ :: l) c] := with_eq _ _ (errD_nil l c)
  obtain ⟨y1, p1⟩ := place_eq (⟨true, a, ByteArray.empty⟩ :: l) (by simp; omega) c []
  obtain ⟨y2, p2⟩ := place_eq l (by omega) c ([] ++ [y1])
  obtain ⟨y3, p3⟩ := place_eq (⟨false, 0, s⟩ :: l) (by simp; omega) c ([] ++ [y1] ++ [y2])
  obtain ⟨y4, p4⟩ := words_eq l (by omega) c ([] ++ [y1] ++ [y2] ++ [y3])
  obtain ⟨y5, p5⟩ := words_eq (⟨true, a, ByteArray.empty⟩ :: l) (by simp; omega) c ([] ++ [y1] ++ [y2] ++ [y3] ++ y4)
  obtain ⟨y6, p6⟩ := words_eq (⟨false, 0, s⟩ :: l) (by simp; omega) c ([] ++ [y1] ++ [y2] ++ [y3] ++ y4 ++ y5)
  obtain ⟨y7, p7⟩ := awake ([] ++ [y1] ++ [y2] ++ [y3] ++ y4 ++ y5 ++ y6)
  obtain ⟨y8, p8⟩ := code_eq (⟨true, a, ByteArray.empty⟩ :: l) (by simp; omega) c ([] ++ [y1] ++ [y2] ++ [y3] ++ y4 ++ y5 ++ y6 ++ y7)
  obtain ⟨y9, p9⟩ := code_eq (⟨false, 0, s⟩ :: l) (by simp; omega) c ([] ++ [y1] ++ [y2] ++ [y3] ++ y4 ++ y5 ++ y6 ++ y7 ++ [y8])
  have q1 : placeOf (⟨true, a, ByteArray.empty⟩ :: l) = some a := rfl
  have q2 : placeOf (⟨false, 0, s⟩ :: l) = placeOf l := rfl
  have q3 : wordsOf (⟨true, a, ByteArray.empty⟩ :: l) = wordsOf l := rfl
  have q4 : wordsOf (⟨false, 0, s⟩ :: l) = s :: wordsOf l := rfl
  have hwl : (wordsOf l).length ≤ 30 := Nat.le_trans (by unfold wordsOf; rw [List.length_map]; exact List.length_filter_le _ _) (by omega)
  have e1 : IntKind.i64.wrap (((wordsOf l).length : Int) + 1) = ((wordsOf l).length + 1 : Nat) := by rw [i64w _ (by omega) (by omega)]; simp
  simp only [List.length_cons, List.length_nil, if_true, List.getD_cons_zero, List.getD_cons_succ, f1, f2, p1, p2, p3, p4, p5, p6, p7, p8, p9, q1, q2, q3, q4, D.toBool_bool, D.toInt_int, Option.getD_some, Option.isSome_some, beq_self_eq_true, D.toL_agg, List.length_map, e1, List.map_cons, D.toStr_str]
  simp [scmpF]
end Go.Proofs.YtnaokofklgbbcaaDoor.FaultD
