/-
  report.words: what is told, with blanks between.
-/
import Derived.Test.YtilkbgdfndifgaaGreatDoorStrJ
namespace Go.Proofs.YtilkbgdfndifgaaGreatDoor.RepD
open Go.Proofs.YtilkbgdfndifgaaGreatDoor.Eng Go.Proofs.YtilkbgdfndifgaaGreatDoor Go.Proofs.YtilkbgdfndifgaaGreatDoor.Dat Go.Proofs.YtilkbgdfndifgaaGreatDoor.WordP Go.Proofs.YtilkbgdfndifgaaGreatDoor.StrL
open Go.Lib (decDigits itoa)
set_option linter.unusedVariables false
set_option linter.unusedSimpArgs false

/-- A word, or a number. -/
inductive It where
  | s (w : Bs) | n (x : Int)
def It.d : It → D
  | .s w => .iface 9 (.str (toB w))
  | .n x => .iface 3 (.int x)
def It.sh : It → Bs
  | .s w => w
  | .n x => itoa x
def It.ok : It → Prop
  | .s w => True
  | .n x => -9223372036854775808 ≤ x ∧ x ≤ 9223372036854775807
theorem words_go (l : List It) (hok : ∀ x ∈ l, x.ok) (hL : l.length ≤ 1000000) : ∀ (d i : Nat) (acc : List Bs), i + d = l.length → span (acc ++ (l.drop i).map It.sh) ≤ 1000000 →
    W_report_words_1 (.agg (l.map It.d)) [.int (i : Int), wD acc] = some [.str (toB (un (acc ++ (l.drop i).map It.sh)))] := by
  intro d
  induction d with
  | zero =>
    intro i acc hi hs
    rw [W_report_words_1_eq]
    have h1 : ¬ ((i : Int) < ((l.length : Nat) : Int)) := by omega
    simp only [D.toInt_int, D.toL_agg, List.length_map, h1, decide_false, Bool.false_eq_true, if_false]
    have h2 : l.drop i = [] := List.drop_eq_nil_of_le (by omega)
    rw [h2] at hs ⊢
    simp only [List.map_nil, List.append_nil] at hs ⊢
    have hb : (ByteArray.mk #[32]) = toB [32] := rfl
    rw [hb, join_words acc hs]
    rfl
  | succ d ih =>
    intro i acc hi hs
    have hlt : i < l.length := by omega
    have hdrop : l.drop i = l[i] :: l.drop (i + 1) := List.drop_eq_getElem_cons hlt
    have hg : (l.map It.d).getD i D.nil = l[i].d := by
      rw [List.getD_eq_getElem?_getD, List.getElem?_map, List.getElem?_eq_getElem hlt]; rfl
    have hw : IntKind.i64.wrap ((i : Int) + 1) = ((i + 1 : Nat) : Int) := by rw [i64w _ (by omega) (by omega)]; omega
    have hlen : ((acc.length + 1 : Nat) : Int) ≤ 8796093022208 := by
      have := span_ge (acc ++ (l.drop i).map It.sh)
      simp only [List.length_append, List.length_map, List.length_drop] at this
      omega
    have h1 : ((i : Int) < ((l.length : Nat) : Int)) := by omega
    have h0 : ((i : Int) ≥ 0) := by omega
    rw [hdrop] at hs ⊢
    simp only [List.map_cons] at hs ⊢
    have hih := ih (i + 1) (acc ++ [l[i].sh]) (by omega) (by rw [List.append_assoc]; exact hs)
    rw [List.append_assoc] at hih
    rw [W_report_words_1_eq]
    simp only [D.toInt_int, D.toL_agg, List.length_map, h1, h0, decide_true, if_true, Int.toNat_natCast, hg, hw]
    have hk := hok l[i] (List.getElem_mem hlt)
    cases hx : l[i] with
    | s w =>
      rw [hx] at hih
      have e1 : (It.d (.s w)).isIf 9 = true := rfl
      have e2 : (It.d (.s w)).inner = .str (toB w) := rfl
      simp only [e1, e2, if_true, List.length_append, List.length_cons, List.length_nil, wD_lenN, hlen, decide_true, wD_snoc]
      exact hih
    | n x =>
      rw [hx] at hih hk
      have e1 : (It.d (.n x)).isIf 9 = false := rfl
      have e2 : (It.d (.n x)).isIf 3 = true := rfl
      have e3 : (It.d (.n x)).inner = .int x := rfl
      simp only [e1, e2, e3, if_true, Bool.false_eq_true, if_false, itoa_any x hk.1 hk.2, bindC, List.length_append, List.length_cons, List.length_nil, List.getD_cons_zero, wD_lenN, hlen, decide_true, wD_snoc]
      exact hih
/-- What is told. -/
theorem words_eq (l : List It) (hok : ∀ x ∈ l, x.ok) (hs : span (l.map It.sh) ≤ 1000000) : FX 10 [.agg (l.map It.d)] = some [.str (toB (un (l.map It.sh)))] := by
  rw [E_report_words]
  have hL := span_ge (l.map It.sh)
  rw [List.length_map] at hL
  have := words_go l hok (by omega) l.length 0 [] (by omega) (by simpa using hs)
  simpa [wD] using this
end Go.Proofs.YtilkbgdfndifgaaGreatDoor.RepD
