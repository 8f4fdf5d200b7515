/-
  LineApart on data: lines that ask one thing are one; a blank more, anywhere, and it asks nothing.
-/
import Derived.Test.YtobacchojjfpfaaDoorParse
import Derived.Test.YtobacchojjfpfaaDoorAskL
import Derived.Test.YtobacchojjfpfaaDoorOpen
import Derived.Test.YtobacchojjfpfaaDoorProg
namespace Go.Proofs.YtobacchojjfpfaaDoor.LineD
open Go.Proofs.YtobacchojjfpfaaDoor.Eng Go.Proofs.YtobacchojjfpfaaDoor Go.Proofs.YtobacchojjfpfaaDoor.Dat Go.Proofs.YtobacchojjfpfaaDoor.WordP Go.Proofs.YtobacchojjfpfaaDoor.NumE Go.Proofs.YtobacchojjfpfaaDoor.Open
set_option linter.unusedVariables false
set_option linter.unusedSimpArgs false

theorem code_at (p c : Int) (hs : List D) : ∃ y, FX 13 [errAt p c, .agg hs] = some [.int c, .agg (hs ++ [y])] := by
  refine ⟨.agg [.int c], ?_⟩
  rw [E_fault_Code, as_eq]
  simp [ErrD.asFn, ErrD.asRes, ErrD.asC, errAt, code, bindC]
def s1 : Bs := [99, 97, 110, 99, 101, 108, 32, 55, 32, 48]
def s2 : Bs := [99, 97, 110, 99, 101, 108, 32, 48, 55, 32, 48]
theorem ask1 : askB s1 = .ok (2, [7, 0]) := by rfl
theorem ask2 : askB s2 = .error (13, 7) := by rfl
theorem awake_eq (pre : List D) : ∃ post, FX 5 [.agg pre] = some [.bool true, .agg post] := by
  obtain ⟨p1, e1⟩ := parse_eq s1 (by simp [s1]) pre
  obtain ⟨p2, e2⟩ := parse_eq s2 (by simp [s2]) p1
  rw [ask1] at e1
  rw [ask2] at e2
  obtain ⟨y, e3⟩ := place_at 7 13 p2
  obtain ⟨z, e4⟩ := code_at 7 13 (p2 ++ [y])
  refine ⟨p2 ++ [y] ++ [z], ?_⟩
  rw [E_law15_awake]
  have b1 : (ByteArray.mk #[99, 97, 110, 99, 101, 108, 32, 55, 32, 48]) = toB s1 := rfl
  have b2 : (ByteArray.mk #[99, 97, 110, 99, 101, 108, 32, 48, 55, 32, 48]) = toB s2 := rfl
  have hf : flt 7 13 = errAt 7 13 := rfl
  simp only [b1, b2, e1, bindC, resD, fields, List.cons_append, List.nil_append, List.length_cons, List.length_nil, if_true, List.getD_cons_zero, List.getD_cons_succ, e2, zeros, hf, e3, e4, D.isNil_nil, D.toInt_int, D.toBool_bool]
  rfl
theorem ask_cases {s : Bs} {k : Nat} {ns : List Nat} (h : askB s = .ok (k, ns)) : (k = 1 ∧ ∃ a b c d e f g i, ns = [a, b, c, d, e, f, g, i]) ∨ (k = 2 ∧ ∃ a b, ns = [a, b]) ∨ (k = 3 ∧ ∃ a, ns = [a]) ∨ (k = 4 ∧ ns = []) := by
  obtain ⟨v, sh, h1, h2, _⟩ := ask_ok h
  have hl := h2.length
  simp only [kinds, List.mem_cons, Prod.mk.injEq, List.not_mem_nil, or_false] at h1
  rcases h1 with ⟨rfl, rfl, rfl⟩ | ⟨rfl, rfl, rfl⟩ | ⟨rfl, rfl, rfl⟩ | ⟨rfl, rfl, rfl⟩
  · match ns, hl with
    | [a, b, c, d, e, f, g, i], _ => exact .inl ⟨rfl, a, b, c, d, e, f, g, i, rfl⟩
  · match ns, hl with
    | [a, b], _ => exact .inr (.inl ⟨rfl, a, b, rfl⟩)
  · match ns, hl with
    | [a], _ => exact .inr (.inr (.inl ⟨rfl, a, rfl⟩))
  · match ns, hl with
    | [], _ => exact .inr (.inr (.inr ⟨rfl, rfl⟩))
/-- Nine numbers and a nil, behind them the heap. -/
theorem ok_form {s : Bs} {k : Nat} {ns : List Nat} (h : askB s = .ok (k, ns)) : ∃ a0 a1 a2 a3 a4 a5 a6 a7 a8 : Int, fields k ns = [.int a0, .int a1, .int a2, .int a3, .int a4, .int a5, .int a6, .int a7, .int a8] ∧
    ∀ {t : Bs} {k' : Nat} {ns' : List Nat}, askB t = .ok (k', ns') → ∀ b0 b1 b2 b3 b4 b5 b6 b7 b8 : Int, fields k' ns' = [.int b0, .int b1, .int b2, .int b3, .int b4, .int b5, .int b6, .int b7, .int b8] →
      ((a0 == b0) && ((a1 == b1) && ((a2 == b2) && (((a3 == b3) && ((a4 == b4) && ((a5 == b5) && ((a6 == b6) && (a7 == b7))))) && (a8 == b8))))) = (s == t) := by
  have back : ∀ {t : Bs} {k' : Nat} {ns' : List Nat}, askB t = .ok (k', ns') → (fields k ns = fields k' ns' ↔ s = t) := by
    intro t k' ns' h'
    constructor
    · intro hf
      have : (k, ns) = (k', ns') := by
        rcases ask_cases h with ⟨rfl, a, b, c, d, e, f, g, i, rfl⟩ | ⟨rfl, a, b, rfl⟩ | ⟨rfl, a, rfl⟩ | ⟨rfl, rfl⟩ <;>
          rcases ask_cases h' with ⟨rfl, a', b', c', d', e', f', g', i', rfl⟩ | ⟨rfl, a', b', rfl⟩ | ⟨rfl, a', rfl⟩ | ⟨rfl, rfl⟩ <;>
          simp only [fields, List.cons.injEq, D.int.injEq, and_true] at hf <;> first | omega | rfl | (simp only [Prod.mk.injEq, List.cons.injEq, and_true, true_and]; omega)
      rw [this] at h
      exact ask_inj h h'
    · rintro rfl
      rw [h] at h'
      simp only [Except.ok.injEq, Prod.mk.injEq] at h'
      rw [h'.1, h'.2]
  have hfo : ∃ a0 a1 a2 a3 a4 a5 a6 a7 a8 : Int, fields k ns = [.int a0, .int a1, .int a2, .int a3, .int a4, .int a5, .int a6, .int a7, .int a8] := by
    rcases ask_cases h with ⟨rfl, a, b, c, d, e, f, g, i, rfl⟩ | ⟨rfl, a, b, rfl⟩ | ⟨rfl, a, rfl⟩ | ⟨rfl, rfl⟩ <;> exact ⟨_, _, _, _, _, _, _, _, _, rfl⟩
  obtain ⟨a0, a1, a2, a3, a4, a5, a6, a7, a8, ha⟩ := hfo
  refine ⟨a0, a1, a2, a3, a4, a5, a6, a7, a8, ha, ?_⟩
  intro t k' ns' h' b0 b1 b2 b3 b4 b5 b6 b7 b8 hb
  have hbk := back h'
  rw [ha, hb] at hbk
  rw [Bool.eq_iff_iff]
  simp only [Bool.and_eq_true, beq_iff_eq]
  simp only [List.cons.injEq, D.int.injEq, and_true] at hbk
  rw [← hbk]
  constructor
  · rintro ⟨h0, h1, h2, ⟨h3, h4, h5, h6, h7⟩, h8⟩; exact ⟨h0, h1, h2, h3, h4, h5, h6, h7, h8⟩
  · rintro ⟨h0, h1, h2, h3, h4, h5, h6, h7, h8⟩; exact ⟨h0, h1, h2, ⟨h3, h4, h5, h6, h7⟩, h8⟩
theorem blank_text (s : Bs) (k : Nat) (hk : k ≤ s.length) : toB (List.take (k - 0) (List.drop 0 s)) ++ toB [32] ++ toB (List.take (s.length - k) (List.drop k s)) = toB (s.take k ++ 32 :: s.drop k) := by
  rw [append_toB, append_toB, List.drop_zero, Nat.sub_zero, List.take_of_length_le (show (s.drop k).length ≤ s.length - k by simp), List.append_assoc]
  rfl
set_option maxHeartbeats 1000000 in
theorem apart (d0 d1 d2 : D) (w0 : Wf Tryd.prog .str d0) (w1 : Wf Tryd.prog .str d1) (w2 : Wf Tryd.prog (.int .u8) d2) : FX 3 [d0, d1, d2] = some [.bool true] := by
  obtain ⟨s0, rfl, _⟩ := w0.toStr
  obtain ⟨t0, rfl, _⟩ := w1.toStr
  obtain ⟨n, rfl, hn⟩ := w2.toInt
  have hn : 0 ≤ n ∧ n ≤ 255 := by simpa [Lit.wf, IntKind.min, IntKind.max, IntKind.bits, IntKind.signed] using hn
  rw [← toB_of s0, ← toB_of t0]
  generalize s0.data.toList = s
  generalize t0.data.toList = t
  obtain ⟨pa, ea⟩ := awake_eq []
  rw [E_law15_LineApart]
  by_cases hs : s.length ≤ 190
  case neg =>
    have h1 : ((s.length : Int) > 190) := by omega
    simp only [D.toStr_str, toB_size, h1, decide_true, if_true, ea, bindC, List.length_cons, List.length_nil, List.getD_cons_zero]
  by_cases ht : t.length ≤ 190
  case neg =>
    have h1 : ¬ ((s.length : Int) > 190) := by omega
    have h2 : ((t.length : Int) > 190) := by omega
    simp only [D.toStr_str, toB_size, h1, h2, decide_true, decide_false, Bool.false_eq_true, if_false, if_true, ea, bindC, List.length_cons, List.length_nil, List.getD_cons_zero]
  have h1 : ¬ ((s.length : Int) > 190) := by omega
  have h2 : ¬ ((t.length : Int) > 190) := by omega
  obtain ⟨p1, e1⟩ := parse_eq s (by omega) []
  obtain ⟨p2, e2⟩ := parse_eq t (by omega) p1
  obtain ⟨pb, eb⟩ := awake_eq p2
  have hw : IntKind.i64.wrap n = n := wrap_small _ (by omega) (by omega)
  have hv0 : IntKind.i64.wrap ((s.length : Int) + 1) = ((s.length + 1 : Nat) : Int) := by rw [wrap_small _ (by omega) (by omega)]; omega
  obtain ⟨m, rfl⟩ : ∃ m : Nat, n = m := ⟨n.toNat, by omega⟩
  obtain ⟨k, hk⟩ : ∃ k, k = m % (s.length + 1) := ⟨_, rfl⟩
  have hkl : k ≤ s.length := by have := Nat.mod_lt m (show 0 < s.length + 1 by omega); omega
  have hv1 : Int.tmod ((m : Nat) : Int) ((s.length + 1 : Nat) : Int) = (k : Int) := by rw [hk]; exact (Int.ofNat_tmod m (s.length + 1)).symm
  have n0 : (((s.length + 1 : Nat) : Int) != 0) = true := by simp; omega
  have n1 : (0 : Int) ≤ (k : Int) := by omega
  have n2 : (k : Int) ≤ (s.length : Int) := by omega
  have z32 : (ByteArray.mk #[32]) = toB [32] := rfl
  have l1 : (List.take (k - 0) (List.drop 0 s)).length = k := by simp; omega
  have l2 : (List.take (s.length - k) (List.drop k s)).length = s.length - k := by simp
  have m1 : IntKind.i64.wrap ((k : Int) + 1) = ((k + 1 : Nat) : Int) := by rw [wrap_small _ (by omega) (by omega)]; omega
  have m2 : IntKind.i64.wrap (((k + 1 : Nat) : Int) + ((s.length - k : Nat) : Int)) = ((s.length + 1 : Nat) : Int) := by rw [wrap_small _ (by omega) (by omega)]; omega
  have m3 : (toB (List.take (k - 0) (List.drop 0 s)) ++ toB [32]).size = k + 1 := by rw [append_toB, toB_size, List.length_append, l1]; rfl
  have q1 : ((k : Int) ≤ 4611686018427387903) := by omega
  have q2 : (((k + 1 : Nat) : Int) ≤ 4611686018427387903) := by omega
  have q3 : (((s.length - k : Nat) : Int) ≤ 4611686018427387903) := by omega
  have q4 : (((s.length + 1 : Nat) : Int) ≤ 4611686018427387903) := by omega
  have q5 : ((((0 + 1 : Nat)) : Int) ≤ 4611686018427387903) := by omega
  have q6 : IntKind.i64.wrap ((k : Int) + ((0 + 1 : Nat) : Int)) = ((k + 1 : Nat) : Int) := by rw [wrap_small _ (by omega) (by omega)]; omega
  simp only [D.toStr_str, D.toInt_int, toB_size, h1, h2, decide_false, Bool.false_eq_true, if_false, e1, bindC]
  cases ha : askB s with
  | error e =>
    obtain ⟨c, a⟩ := e
    rw [ha] at e1
    have hne : (flt a c).isNil = false := rfl
    simp only [resD, zeros, List.cons_append, List.nil_append, List.length_cons, List.length_nil, if_true, List.getD_cons_zero, List.getD_cons_succ, e2]
    cases hb : askB t with
    | error e' =>
      obtain ⟨c', a'⟩ := e'
      simp only [resD, zeros, List.cons_append, List.nil_append, List.length_cons, List.length_nil, if_true, List.getD_cons_zero, List.getD_cons_succ, hne, Bool.false_eq_true, if_false, Bool.not_false, eb]
    | ok y =>
      obtain ⟨k', ns'⟩ := y
      obtain ⟨b0, b1, b2, b3, b4, b5, b6, b7, b8, hf, _⟩ := ok_form hb
      simp only [resD, hf, List.cons_append, List.nil_append, List.length_cons, List.length_nil, if_true, List.getD_cons_zero, List.getD_cons_succ, hne, Bool.false_eq_true, if_false, Bool.not_false, eb]
  | ok x =>
    obtain ⟨kk, ns⟩ := x
    obtain ⟨a0, a1, a2, a3, a4, a5, a6, a7, a8, hf, hsame⟩ := ok_form ha
    obtain ⟨er, hbl⟩ := ask_blank (a := s.take k) (b := s.drop k) (x := (kk, ns)) (by rw [List.take_append_drop]; exact ha)
    obtain ⟨c, a⟩ := er
    obtain ⟨p3, e3⟩ := parse_eq (s.take k ++ 32 :: s.drop k) (by simp; omega) p2
    obtain ⟨pc, ec⟩ := awake_eq p3
    rw [hbl] at e3
    have hne : (flt a c).isNil = false := rfl
    simp only [resD, hf, List.cons_append, List.nil_append, List.length_cons, List.length_nil, if_true, List.getD_cons_zero, List.getD_cons_succ, e2]
    cases hb : askB t with
    | error e' =>
      obtain ⟨c', a'⟩ := e'
      have hne' : (flt a' c').isNil = false := rfl
      simp only [resD, zeros, List.cons_append, List.nil_append, List.length_cons, List.length_nil, if_true, List.getD_cons_zero, List.getD_cons_succ, hne', Bool.false_eq_true, if_false, Bool.not_true, Bool.not_false, D.isNil_nil, hw, hv0, hv1, n0, n1, n2, extract_toB, z32, toB_size, l1, l2, m1, m2, m3, q1, q2, q3, q4, q5, q6, Int.toNat_natCast, show ((0 : Int)).toNat = 0 from rfl, decide_true, Int.le_refl, blank_text s k hkl, e3, J_law15_LineApart_1_eq, J_law15_LineApart_2_eq, J_law15_LineApart_3_eq, bindC, ec, D.toBool_bool, hne]
    | ok y =>
      obtain ⟨k', ns'⟩ := y
      obtain ⟨b0, b1, b2, b3, b4, b5, b6, b7, b8, hg, _⟩ := ok_form hb
      have hq := hsame hb b0 b1 b2 b3 b4 b5 b6 b7 b8 hg
      have hq2 : ((s == t) == (s == t)) = true := by simp
      simp only [resD, zeros, hg, List.cons_append, List.nil_append, List.length_cons, List.length_nil, if_true, List.getD_cons_zero, List.getD_cons_succ, Bool.false_eq_true, if_false, Bool.not_true, Bool.not_false, D.isNil_nil, D.toInt_int, hq, eql_toB, hq2, hw, hv0, hv1, n0, n1, n2, extract_toB, z32, toB_size, l1, l2, m1, m2, m3, q1, q2, q3, q4, q5, q6, Int.toNat_natCast, show ((0 : Int)).toNat = 0 from rfl, decide_true, Int.le_refl, blank_text s k hkl, e3, J_law15_LineApart_1_eq, J_law15_LineApart_2_eq, J_law15_LineApart_3_eq, bindC, ec, D.toBool_bool, hne]
end Go.Proofs.YtobacchojjfpfaaDoor.LineD
