/-
  LineApart on data: lines that ask one thing are one; a blank more, anywhere, and it asks nothing.
-/
import Derived.Test.YtobacchojjfpfaaDoorAwake
namespace Go.Proofs.YtobacchojjfpfaaDoor.LineD
open Go.Proofs.YtobacchojjfpfaaDoor.Eng Go.Proofs.YtobacchojjfpfaaDoor Go.Proofs.YtobacchojjfpfaaDoor.Dat Go.Proofs.YtobacchojjfpfaaDoor.WordP Go.Proofs.YtobacchojjfpfaaDoor.NumE Go.Proofs.YtobacchojjfpfaaDoor.Open
set_option linter.unusedVariables false
set_option linter.unusedSimpArgs false

theorem blank_text (s : Bs) (k : Nat) (hk : k ≤ s.length) : toB (List.take (k - 0) (List.drop 0 s)) ++ toB [32] ++ toB (List.take (s.length - k) (List.drop k s)) = toB (s.take k ++ 32 :: s.drop k) := by
  rw [append_toB, append_toB, List.drop_zero, Nat.sub_zero, List.take_of_length_le (show (s.drop k).length ≤ s.length - k by simp), List.append_assoc]
  rfl
set_option maxHeartbeats 1000000 in
theorem apart (d0 d1 d2 : D) (w0 : Wf Tryd.prog .str d0) (w1 : Wf Tryd.prog .str d1) (w2 : Wf Tryd.prog (.int .u8) d2) : FX 3 [d0, d1, d2] = some [.bool true] := by
  obtain ⟨s0, rfl, _⟩ := w0.toStr
  obtain ⟨t0, rfl, _⟩ := w1.toStr
  obtain ⟨n, rfl, hn⟩ := w2.toInt
  have hn : 0 ≤ n ∧ n ≤ 255 := by simpa [Lit.wf, IntKind.min, IntKind.max, IntKind.bits, IntKind.signed] using hn
  rw [← toB_of s0, ← toB_of t0]
  generalize s0.data.toList = s
  generalize t0.data.toList = t
  obtain ⟨pa, ea⟩ := awake_eq []
  rw [E_law15_LineApart]
  by_cases hs : s.length ≤ 190
  case neg =>
    have h1 : ((s.length : Int) > 190) := by omega
    simp only [D.toStr_str, toB_size, h1, decide_true, if_true, ea, bindC, List.length_cons, List.length_nil, List.getD_cons_zero]
  by_cases ht : t.length ≤ 190
  case neg =>
    have h1 : ¬ ((s.length : Int) > 190) := by omega
    have h2 : ((t.length : Int) > 190) := by omega
    simp only [D.toStr_str, toB_size, h1, h2, decide_true, decide_false, Bool.false_eq_true, if_false, if_true, ea, bindC, List.length_cons, List.length_nil, List.getD_cons_zero]
  have h1 : ¬ ((s.length : Int) > 190) := by omega
  have h2 : ¬ ((t.length : Int) > 190) := by omega
  obtain ⟨p1, e1⟩ := parse_eq s (by omega) []
  obtain ⟨p2, e2⟩ := parse_eq t (by omega) p1
  obtain ⟨pb, eb⟩ := awake_eq p2
  have hw : IntKind.i64.wrap n = n := wrap_small _ (by omega) (by omega)
  have hv0 : IntKind.i64.wrap ((s.length : Int) + 1) = ((s.length + 1 : Nat) : Int) := by rw [wrap_small _ (by omega) (by omega)]; omega
  obtain ⟨m, rfl⟩ : ∃ m : Nat, n = m := ⟨n.toNat, by omega⟩
  obtain ⟨k, hk⟩ : ∃ k, k = m % (s.length + 1) := ⟨_, rfl⟩
  have hkl : k ≤ s.length := by have := Nat.mod_lt m (show 0 < s.length + 1 by omega); omega
  have hv1 : Int.tmod ((m : Nat) : Int) ((s.length + 1 : Nat) : Int) = (k : Int) := by rw [hk]; exact (Int.ofNat_tmod m (s.length + 1)).symm
  have n0 : (((s.length + 1 : Nat) : Int) != 0) = true := by simp; omega
  have n1 : (0 : Int) ≤ (k : Int) := by omega
  have n2 : (k : Int) ≤ (s.length : Int) := by omega
  have z32 : (ByteArray.mk #[32]) = toB [32] := rfl
  have l1 : (List.take (k - 0) (List.drop 0 s)).length = k := by simp; omega
  have l2 : (List.take (s.length - k) (List.drop k s)).length = s.length - k := by simp
  have m1 : IntKind.i64.wrap ((k : Int) + 1) = ((k + 1 : Nat) : Int) := by rw [wrap_small _ (by omega) (by omega)]; omega
  have m2 : IntKind.i64.wrap (((k + 1 : Nat) : Int) + ((s.length - k : Nat) : Int)) = ((s.length + 1 : Nat) : Int) := by rw [wrap_small _ (by omega) (by omega)]; omega
  have m3 : (toB (List.take (k - 0) (List.drop 0 s)) ++ toB [32]).size = k + 1 := by rw [append_toB, toB_size, List.length_append, l1]; rfl
  have q1 : ((k : Int) ≤ 4611686018427387903) := by omega
  have q2 : (((k + 1 : Nat) : Int) ≤ 4611686018427387903) := by omega
  have q3 : (((s.length - k : Nat) : Int) ≤ 4611686018427387903) := by omega
  have q4 : (((s.length + 1 : Nat) : Int) ≤ 4611686018427387903) := by omega
  have q5 : ((((0 + 1 : Nat)) : Int) ≤ 4611686018427387903) := by omega
  have q6 : IntKind.i64.wrap ((k : Int) + ((0 + 1 : Nat) : Int)) = ((k + 1 : Nat) : Int) := by rw [wrap_small _ (by omega) (by omega)]; omega
  simp only [D.toStr_str, D.toInt_int, toB_size, h1, h2, decide_false, Bool.false_eq_true, if_false, e1, bindC]
  cases ha : askB s with
  | error e =>
    obtain ⟨c, a⟩ := e
    rw [ha] at e1
    have hne : (flt a c).isNil = false := rfl
    simp only [resD, zeros, List.cons_append, List.nil_append, List.length_cons, List.length_nil, if_true, List.getD_cons_zero, List.getD_cons_succ, e2]
    cases hb : askB t with
    | error e' =>
      obtain ⟨c', a'⟩ := e'
      simp only [resD, zeros, List.cons_append, List.nil_append, List.length_cons, List.length_nil, if_true, List.getD_cons_zero, List.getD_cons_succ, hne, Bool.false_eq_true, if_false, Bool.not_false, eb]
    | ok y =>
      obtain ⟨k', ns'⟩ := y
      obtain ⟨b0, b1, b2, b3, b4, b5, b6, b7, b8, hf, _⟩ := ok_form hb
      simp only [resD, hf, List.cons_append, List.nil_append, List.length_cons, List.length_nil, if_true, List.getD_cons_zero, List.getD_cons_succ, hne, Bool.false_eq_true, if_false, Bool.not_false, eb]
  | ok x =>
    obtain ⟨kk, ns⟩ := x
    obtain ⟨a0, a1, a2, a3, a4, a5, a6, a7, a8, hf, hsame⟩ := ok_form ha
    obtain ⟨er, hbl⟩ := ask_blank (a := s.take k) (b := s.drop k) (x := (kk, ns)) (by rw [List.take_append_drop]; exact ha)
    obtain ⟨c, a⟩ := er
    obtain ⟨p3, e3⟩ := parse_eq (s.take k ++ 32 :: s.drop k) (by simp; omega) p2
    obtain ⟨pc, ec⟩ := awake_eq p3
    rw [hbl] at e3
    have hne : (flt a c).isNil = false := rfl
    simp only [resD, hf, List.cons_append, List.nil_append, List.length_cons, List.length_nil, if_true, List.getD_cons_zero, List.getD_cons_succ, e2]
    cases hb : askB t with
    | error e' =>
      obtain ⟨c', a'⟩ := e'
      have hne' : (flt a' c').isNil = false := rfl
      simp only [resD, zeros, List.cons_append, List.nil_append, List.length_cons, List.length_nil, if_true, List.getD_cons_zero, List.getD_cons_succ, hne', Bool.false_eq_true, if_false, Bool.not_true, Bool.not_false, D.isNil_nil, hw, hv0, hv1, n0, n1, n2, extract_toB, z32, toB_size, l1, l2, m1, m2, m3, q1, q2, q3, q4, q5, q6, Int.toNat_natCast, show ((0 : Int)).toNat = 0 from rfl, decide_true, Int.le_refl, blank_text s k hkl, e3, J_law15_LineApart_1_eq, J_law15_LineApart_2_eq, J_law15_LineApart_3_eq, bindC, ec, D.toBool_bool, hne]
    | ok y =>
      obtain ⟨k', ns'⟩ := y
      obtain ⟨b0, b1, b2, b3, b4, b5, b6, b7, b8, hg, _⟩ := ok_form hb
      have hq := hsame hb b0 b1 b2 b3 b4 b5 b6 b7 b8 hg
      have hq2 : ((s == t) == (s == t)) = true := by simp
      simp only [resD, zeros, hg, List.cons_append, List.nil_append, List.length_cons, List.length_nil, if_true, List.getD_cons_zero, List.getD_cons_succ, Bool.false_eq_true, if_false, Bool.not_true, Bool.not_false, D.isNil_nil, D.toInt_int, hq, eql_toB, hq2, hw, hv0, hv1, n0, n1, n2, extract_toB, z32, toB_size, l1, l2, m1, m2, m3, q1, q2, q3, q4, q5, q6, Int.toNat_natCast, show ((0 : Int)).toNat = 0 from rfl, decide_true, Int.le_refl, blank_text s k hkl, e3, J_law15_LineApart_1_eq, J_law15_LineApart_2_eq, J_law15_LineApart_3_eq, bindC, ec, D.toBool_bool, hne]
end Go.Proofs.YtobacchojjfpfaaDoor.LineD
