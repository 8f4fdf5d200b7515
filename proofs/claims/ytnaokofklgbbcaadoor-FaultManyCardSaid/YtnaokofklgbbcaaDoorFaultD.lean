/-
  Errors with wrappings, on data.
-/
import Derived.Test.YtnaokofklgbbcaaDoorAllE
import Derived.Test.YtnaokofklgbbcaaDoorProg
import Derived.Test.YtnaokofklgbbcaaDoorDat
import Derived.Test.YtnaokofklgbbcaaDoorOpen
import Derived.Test.YtnaokofklgbbcaaDoorErrF
namespace Go.Proofs.YtnaokofklgbbcaaDoor.FaultD
open Go.Proofs.YtnaokofklgbbcaaDoor.Eng Go.Proofs.YtnaokofklgbbcaaDoor Go.Proofs.YtnaokofklgbbcaaDoor.Dat Go.Proofs.YtnaokofklgbbcaaDoor.Open
set_option linter.unusedVariables false
set_option linter.unusedSimpArgs false

structure Wrap where
  place : Bool
  at_ : Int
  word : ByteArray
def Wrap.d (w : Wrap) : D := .agg [.bool w.place, .int w.at_, .str w.word]
def code (c : Int) : D := .iface 27 (.int c)
def atD (a : D) (e : D) : D := .iface 47 (.agg [a, e])
def withD (w : D) (e : D) : D := .iface 50 (.agg [w, e])
def wrapD (w : Wrap) (e : D) : D := if w.place then atD (.int w.at_) e else withD (.str w.word) e
def errD (l : List Wrap) (c : Int) : D := l.foldr wrapD (code c)
theorem errD_if (l : List Wrap) (c : Int) : ∃ t x, errD l c = .iface t x := by
  cases l with
  | nil => exact ⟨_, _, rfl⟩
  | cons w l =>
    simp only [errD, List.foldr_cons, wrapD]
    split <;> exact ⟨_, _, rfl⟩
theorem errD_nil (l : List Wrap) (c : Int) : (errD l c).isNil = false := by
  obtain ⟨t, x, h⟩ := errD_if l c; rw [h]; rfl
theorem at_eq (a e : D) (h : e.isNil = false) : FX 8 [a, e] = some [atD a e] := by
  rw [E_fault_At]; simp [h, atD]
theorem with_eq (w e : D) (h : e.isNil = false) : FX 9 [w, e] = some [withD w e] := by
  rw [E_fault_With]; simp [h, withD]
theorem at_nil (a : D) : FX 8 [a, .nil] = some [.nil] := by rw [E_fault_At]; simp
theorem with_nil (a : D) : FX 9 [a, .nil] = some [.nil] := by rw [E_fault_With]; simp
theorem getW {l : List Wrap} {k : Nat} (h : k < l.length) : (l.map Wrap.d).getD k .nil = l[k].d := by rw [List.getD_eq_getElem?_getD, List.getElem?_map, List.getElem?_eq_getElem h]; rfl
theorem wrapped_loop (l : List Wrap) (hl : l.length ≤ 1000) (x1 : D) (c : Int) : ∀ k, k ≤ l.length → W_law01_wrapped_1 (.agg (l.map Wrap.d)) x1 [errD (l.drop k) c, .int ((k : Int) - 1)] = some [errD l c]
  | 0, h => by
    rw [W_law01_wrapped_1_eq]
    simp
  | k + 1, h => by
    have e : ((k + 1 : Nat) : Int) - 1 = (k : Int) := by omega
    have hlt : k < l.length := h
    have h1 : (k : Int) < (l.length : Int) := by omega
    have d0 : l[k].d.toL.getD 0 .nil = .bool l[k].place := rfl
    have d1 : l[k].d.toL.getD 1 .nil = .int l[k].at_ := rfl
    have d2 : l[k].d.toL.getD 2 .nil = .str l[k].word := rfl
    have hd : errD (l.drop k) c = wrapD l[k] (errD (l.drop (k + 1)) c) := by rw [List.drop_eq_getElem_cons hlt]; rfl
    have ek : IntKind.i64.wrap ((k : Int) - 1) = (k : Int) - 1 := i64w _ (by omega) (by omega)
    have hn := errD_nil (l.drop (k + 1)) c
    rw [W_law01_wrapped_1_eq, e]
    simp only [D.toInt_int, D.toL_agg, List.length_map, ge_iff_le, Int.natCast_nonneg, decide_true, if_true, h1, Int.toNat_natCast, getW hlt, d0, d1, d2, D.toBool_bool, at_eq _ _ hn, with_eq _ _ hn, bindC, List.length_cons, List.length_nil, List.getD_cons_zero, ek]
    have ih := wrapped_loop l hl x1 c k (by omega)
    rw [hd] at ih
    unfold wrapD at ih
    cases hp : l[k].place with
    | true => rw [hp] at ih; simpa using ih
    | false => rw [hp] at ih; simpa using ih
theorem wrapped_eq (l : List Wrap) (hl : l.length ≤ 1000) (c : Int) : FX 7 [.agg (l.map Wrap.d), code c] = some [errD l c] := by
  rw [E_law01_wrapped]
  simp only [D.toL_agg, List.length_map]
  rw [i64w _ (by omega) (by omega)]
  have := wrapped_loop l hl (code c) c l.length (Nat.le_refl _)
  rw [List.drop_length] at this
  exact this
theorem as_eq (ds : List D) : FX 19 ds = ErrD.asFn ds := by
  have h : FX 19 = ErrD.base 19 := fix_base (by rfl)
  rw [h]; rfl
theorem is_eq (ds : List D) : FX 16 ds = ErrD.isF ds := by
  have h : FX 16 = ErrD.base 16 := fix_base (by rfl)
  rw [h]; rfl
theorem asC_eq (c : Int) : ∀ (l : List Wrap) (n : Nat), l.length < n → ErrD.asC n (errD l c) = some (some (.int c))
  | [], n + 1, _ => by simp [errD, code, ErrD.asC]
  | w :: l, n + 1, h => by
    obtain ⟨t, x, he⟩ := errD_if l c
    have ih := asC_eq c l n (by simpa using h)
    rw [he] at ih
    have e : errD (w :: l) c = wrapD w (errD l c) := rfl
    rw [e, he]
    unfold wrapD atD withD
    cases w.place <;> simp [ErrD.asC, ih]
/-- Where the outermost place is. -/
def placeOf (l : List Wrap) : Option Int := (l.find? (·.place)).map (·.at_)
theorem asF_eq (c : Int) : ∀ (l : List Wrap) (n : Nat), l.length < n → ∃ r, ErrD.asF n (errD l c) = some r ∧ match placeOf l with
    | some a => ∃ e, r = some (.agg [.int a, e])
    | none => r = none
  | [], n + 1, _ => ⟨none, by simp [errD, code, ErrD.asF], rfl⟩
  | w :: l, n + 1, h => by
    obtain ⟨t, x, he⟩ := errD_if l c
    obtain ⟨r, h1, h2⟩ := asF_eq c l n (by simpa using h)
    have e : errD (w :: l) c = wrapD w (errD l c) := rfl
    rw [e]
    unfold wrapD
    cases hp : w.place with
    | true =>
      refine ⟨some (.agg [.int w.at_, errD l c]), by simp [atD, ErrD.asF], ?_⟩
      simp only [placeOf, List.find?_cons, hp, Option.map_some]
      exact ⟨_, rfl⟩
    | false =>
      refine ⟨r, ?_, by simpa only [placeOf, List.find?_cons, hp] using h2⟩
      rw [he] at h1 ⊢
      simp [withD, ErrD.asF, h1]
theorem asN_eq (c : Int) : ∀ (l : List Wrap) (n : Nat), l.length < n → ErrD.asN n (errD l c) = some (match l.dropWhile (·.place) with | [] => none | w :: r => some (.agg [.str w.word, errD r c]))
  | [], n + 1, _ => by simp [errD, code, ErrD.asN]
  | w :: l, n + 1, h => by
    obtain ⟨t, x, he⟩ := errD_if l c
    have ih := asN_eq c l n (by simpa using h)
    have e : errD (w :: l) c = wrapD w (errD l c) := rfl
    rw [e]
    unfold wrapD
    cases hp : w.place with
    | true =>
      rw [List.dropWhile_cons_of_pos (by simpa using hp)]
      rw [he] at ih ⊢
      simp [atD, ErrD.asN, ih]
    | false =>
      rw [List.dropWhile_cons_of_neg (by simp [hp])]
      simp [withD, ErrD.asN]
end Go.Proofs.YtnaokofklgbbcaaDoor.FaultD
