/-
  FaultWraps on data.
-/
import Derived.Test.YtnaokofklgbbcaaDoorDeep
namespace Go.Proofs.YtnaokofklgbbcaaDoor.FaultD
open Go.Proofs.YtnaokofklgbbcaaDoor.Eng Go.Proofs.YtnaokofklgbbcaaDoor Go.Proofs.YtnaokofklgbbcaaDoor.Dat Go.Proofs.YtnaokofklgbbcaaDoor.Open
set_option linter.unusedVariables false
set_option linter.unusedSimpArgs false

theorem isN_eq (c k : Int) : ∀ (l : List Wrap) (n : Nat), l.length < n → ErrD.isN n (errD l c) k = some (c == k)
  | [], n + 1, _ => by simp [errD, code, ErrD.isN]
  | w :: l, n + 1, h => by
    obtain ⟨t, x, he⟩ := errD_if l c
    have ih := isN_eq c k l n (by simpa using h)
    rw [he] at ih
    have e : errD (w :: l) c = wrapD w (errD l c) := rfl
    rw [e, he]
    unfold wrapD atD withD
    cases w.place <;> simp [ErrD.isN, ih]
theorem errIs (l : List Wrap) (hl : l.length ≤ 50) (c k : Int) : FX 16 [errD l c, .iface 27 (.int k)] = some [.bool (c == k)] := by
  obtain ⟨t, x, he⟩ := errD_if l c
  have h := isN_eq c k l 100 (by omega)
  rw [he] at h
  rw [is_eq, he]
  simp [ErrD.isF, h]
theorem has_eq (l : List Wrap) (hl : l.length ≤ 50) (c k : Int) : FX 15 [errD l c, .int k] = some [.bool (c == k)] := by
  rw [E_fault_Has]
  simp only [errIs l hl, bindC, List.length_cons, List.length_nil, if_true, List.getD_cons_zero]
theorem placeOf_cons (w : Wrap) (l : List Wrap) : placeOf (w :: l) = if w.place = true then some w.at_ else placeOf l := by
  cases hp : w.place <;> simp [placeOf, List.find?_cons, hp]
theorem wordsOf_cons (w : Wrap) (l : List Wrap) : wordsOf (w :: l) = if w.place = true then wordsOf l else w.word :: wordsOf l := by
  cases hp : w.place <;> simp [wordsOf, hp]
theorem refPlace_loop (l : List Wrap) (hl : l.length ≤ 1000) (x0 : D) (hx : x0 = .agg (l.map Wrap.d)) : ∀ (r k : Nat), l.length - k = r → k ≤ l.length → W_ref01_Place_1 x0 [.int (k : Int)] = some [.int ((placeOf (l.drop k)).getD 0), .bool (placeOf (l.drop k)).isSome] := by
  subst hx
  intro r
  induction r with
  | zero =>
    intro k hr hk
    obtain rfl : k = l.length := by omega
    rw [W_ref01_Place_1_eq, List.drop_length]
    simp [placeOf]
  | succ r ih =>
    intro k hr hk
    have hlt : k < l.length := by omega
    have h1 : (k : Int) < (l.length : Int) := by omega
    have d0 : l[k].d.toL.getD 0 .nil = .bool l[k].place := rfl
    have d1 : l[k].d.toL.getD 1 .nil = .int l[k].at_ := rfl
    have ek : IntKind.i64.wrap ((k : Int) + 1) = ((k + 1 : Nat) : Int) := by rw [i64w _ (by omega) (by omega)]; simp
    rw [W_ref01_Place_1_eq, List.drop_eq_getElem_cons hlt, placeOf_cons]
    simp only [D.toInt_int, D.toL_agg, List.length_map, h1, decide_true, if_true, ge_iff_le, Int.natCast_nonneg, Int.toNat_natCast, getW hlt, d0, d1, D.toBool_bool, ek]
    cases hp : l[k].place with
    | true => simp
    | false =>
      simp only [Bool.false_eq_true, if_false]
      rw [ih (k + 1) (by omega) (by omega)]
theorem refPlace_eq (l : List Wrap) (hl : l.length ≤ 1000) : FX 13 [.agg (l.map Wrap.d)] = some [.int ((placeOf l).getD 0), .bool (placeOf l).isSome] := by
  rw [E_ref01_Place]
  exact refPlace_loop l hl _ rfl l.length 0 (by omega) (by omega)
theorem refWords_loop (l : List Wrap) (hl : l.length ≤ 1000) : ∀ (r k : Nat) (acc : List ByteArray), l.length - k = r → k ≤ l.length → acc.length ≤ k → W_ref01_Words_1 (.agg (l.map Wrap.d)) [.int (k : Int), .agg (acc.map D.str)] = some [.agg ((acc ++ wordsOf (l.drop k)).map D.str)] := by
  intro r
  induction r with
  | zero =>
    intro k acc hr hk ha
    obtain rfl : k = l.length := by omega
    rw [W_ref01_Words_1_eq, List.drop_length]
    simp [wordsOf]
  | succ r ih =>
    intro k acc hr hk ha
    have hlt : k < l.length := by omega
    have h1 : (k : Int) < (l.length : Int) := by omega
    have d0 : l[k].d.toL.getD 0 .nil = .bool l[k].place := rfl
    have d2 : l[k].d.toL.getD 2 .nil = .str l[k].word := rfl
    have ek : IntKind.i64.wrap ((k : Int) + 1) = ((k + 1 : Nat) : Int) := by rw [i64w _ (by omega) (by omega)]; simp
    have hb : ((acc.map D.str ++ [D.str l[k].word]).length : Int) ≤ 8796093022208 := by simp; omega
    rw [W_ref01_Words_1_eq, List.drop_eq_getElem_cons hlt, wordsOf_cons]
    simp only [D.toInt_int, D.toL_agg, List.length_map, h1, decide_true, if_true, ge_iff_le, Int.natCast_nonneg, Int.toNat_natCast, getW hlt, d0, d2, D.toBool_bool, ek, hb]
    cases hp : l[k].place with
    | true =>
      simp only [Bool.not_true, Bool.false_eq_true, if_false]
      rw [ih (k + 1) acc (by omega) (by omega) (by omega)]
      simp
    | false =>
      simp only [Bool.not_false, if_true]
      have := ih (k + 1) (acc ++ [l[k].word]) (by omega) (by omega) (by simp; omega)
      simp only [List.map_append, List.map_cons, List.map_nil] at this
      rw [this]
      simp
theorem refWords_eq (l : List Wrap) (hl : l.length ≤ 1000) : FX 14 [.agg (l.map Wrap.d)] = some [.agg ((wordsOf l).map D.str)] := by
  rw [E_ref01_Words]
  exact refWords_loop l hl l.length 0 [] (by omega) (by omega) (by simp)
theorem wrapnil_loop (l : List Wrap) (hl : l.length ≤ 1000) (x1 : D) : ∀ k, k ≤ l.length → W_law01_wrapped_1 (.agg (l.map Wrap.d)) x1 [.nil, .int ((k : Int) - 1)] = some [.nil]
  | 0, h => by
    rw [W_law01_wrapped_1_eq]
    simp
  | k + 1, h => by
    have e : ((k + 1 : Nat) : Int) - 1 = (k : Int) := by omega
    have hlt : k < l.length := h
    have h1 : (k : Int) < (l.length : Int) := by omega
    have ek : IntKind.i64.wrap ((k : Int) - 1) = (k : Int) - 1 := i64w _ (by omega) (by omega)
    rw [W_law01_wrapped_1_eq, e]
    simp only [D.toInt_int, D.toL_agg, List.length_map, ge_iff_le, Int.natCast_nonneg, decide_true, if_true, h1, at_nil, with_nil, bindC, List.length_cons, List.length_nil, List.getD_cons_zero, ek, wrapnil_loop l hl x1 k (by omega), ite_self]
theorem wrapnil_eq (l : List Wrap) (hl : l.length ≤ 1000) : FX 7 [.agg (l.map Wrap.d), .nil] = some [.nil] := by
  rw [E_law01_wrapped]
  simp only [D.toL_agg, List.length_map]
  rw [i64w _ (by omega) (by omega)]
  exact wrapnil_loop l hl .nil l.length (Nat.le_refl _)
theorem same_loop (l : List Wrap) (hl : l.length ≤ 50) (c k : Int) (ws : List ByteArray) (hw : ws.length ≤ 1000) (hs : List D) (x4 x5 x6 x7 x8 : D) : ∀ (r j : Nat), ws.length - j = r → j ≤ ws.length →
    W_law01_FaultWraps_1 (.agg (l.map Wrap.d)) (.int c) (.int k) (errD l c) x4 x5 x6 x7 x8 (.agg (ws.map D.str)) (.agg hs) (.agg (ws.map D.str)) [.int (j : Int)] = some [.bool true] := by
  intro r
  induction r with
  | zero =>
    intro j hr hj
    obtain rfl : j = ws.length := by omega
    obtain ⟨ys, e1⟩ := awake hs
    obtain ⟨y, e2⟩ := code_eq l hl c (hs ++ ys)
    rw [W_law01_FaultWraps_1_eq]
    simp only [D.toInt_int, D.toL_agg, List.length_map, Int.lt_irrefl, decide_false, Bool.false_eq_true, if_false, e1, e2, has_eq l hl, errIs l hl, wrapnil_eq l (by omega), bindC, List.length_cons, List.length_nil, if_true, List.getD_cons_zero, List.getD_cons_succ, D.toBool_bool, beq_self_eq_true, D.isNil_nil]
  | succ r ih =>
    intro j hr hj
    have h1 : (j : Int) < (ws.length : Int) := by omega
    have ej : IntKind.i64.wrap ((j : Int) + 1) = ((j + 1 : Nat) : Int) := by rw [i64w _ (by omega) (by omega)]; simp
    rw [W_law01_FaultWraps_1_eq]
    have hne : ∀ s : ByteArray, scmpF .neq s s = false := fun s => by simp [scmpF]
    simp only [D.toInt_int, D.toL_agg, List.length_map, h1, decide_true, if_true, ge_iff_le, Int.natCast_nonneg, hne, Bool.false_eq_true, if_false, ej]
    exact ih (j + 1) (by omega) (by omega)
theorem wraps (d0 d1 d2 : D) (w0 : Wf Tryd.prog (.slice 46) d0) (w1 : Wf Tryd.prog (.int .i64) d1) (w2 : Wf Tryd.prog (.int .i64) d2) : FX 4 [d0, d1, d2] = some [.bool true] := by
  obtain ⟨l, rfl⟩ := wraps_of w0
  obtain ⟨c, rfl, _⟩ := w1.toInt
  obtain ⟨k, rfl, _⟩ := w2.toInt
  obtain ⟨z, ez⟩ := awake []
  rw [E_law01_FaultWraps]
  simp only [D.toL_agg, List.length_map, ez, bindC, List.length_cons, List.length_nil, if_true, List.getD_cons_zero]
  by_cases h1 : (l.length : Int) > 30
  · simp only [h1, decide_true, if_true]
  simp only [h1, decide_false, Bool.false_eq_true, if_false]
  rw [show (D.iface 27 (D.int c)) = code c from rfl, wrapped_eq l (by omega) c]
  obtain ⟨y1, p1⟩ := place_eq l (by omega) c []
  obtain ⟨y2, p2⟩ := words_eq l (by omega) c ([] ++ [y1])
  have hwl : (wordsOf l).length ≤ 30 := Nat.le_trans (by unfold wordsOf; rw [List.length_map]; exact List.length_filter_le _ _) (by omega)
  simp only [List.length_cons, List.length_nil, if_true, List.getD_cons_zero, List.getD_cons_succ, p1, p2, refPlace_eq l (by omega), refWords_eq l (by omega), D.toInt_int, D.toBool_bool, bne_self_eq_false, beq_self_eq_true, Bool.not_true, Bool.false_eq_true, if_false]
  exact same_loop l (by omega) c k (wordsOf l) (by omega) _ _ _ _ _ _ _ 0 rfl (by omega)
end Go.Proofs.YtnaokofklgbbcaaDoor.FaultD
