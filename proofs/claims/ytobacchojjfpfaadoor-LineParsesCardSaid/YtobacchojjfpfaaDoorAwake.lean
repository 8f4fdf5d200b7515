/-
  The document's example, and what lines that ask something come to, on data.
-/
import Derived.Test.YtobacchojjfpfaaDoorParse
import Derived.Test.YtobacchojjfpfaaDoorAskL
import Derived.Test.YtobacchojjfpfaaDoorOpen
import Derived.Test.YtobacchojjfpfaaDoorProg
namespace Go.Proofs.YtobacchojjfpfaaDoor.LineD
open Go.Proofs.YtobacchojjfpfaaDoor.Eng Go.Proofs.YtobacchojjfpfaaDoor Go.Proofs.YtobacchojjfpfaaDoor.Dat Go.Proofs.YtobacchojjfpfaaDoor.WordP Go.Proofs.YtobacchojjfpfaaDoor.NumE Go.Proofs.YtobacchojjfpfaaDoor.Open
set_option linter.unusedVariables false
set_option linter.unusedSimpArgs false

theorem code_at (p c : Int) (hs : List D) : ∃ y, FX 13 [errAt p c, .agg hs] = some [.int c, .agg (hs ++ [y])] := by
  refine ⟨.agg [.int c], ?_⟩
  rw [E_fault_Code, as_eq]
  simp [ErrD.asFn, ErrD.asRes, ErrD.asC, errAt, code, bindC]
def s1 : Bs := [99, 97, 110, 99, 101, 108, 32, 55, 32, 48]
def s2 : Bs := [99, 97, 110, 99, 101, 108, 32, 48, 55, 32, 48]
theorem ask1 : askB s1 = .ok (2, [7, 0]) := by rfl
theorem ask2 : askB s2 = .error (13, 7) := by rfl
theorem awake_eq (pre : List D) : ∃ post, FX 5 [.agg pre] = some [.bool true, .agg post] := by
  obtain ⟨p1, e1⟩ := parse_eq s1 (by simp [s1]) pre
  obtain ⟨p2, e2⟩ := parse_eq s2 (by simp [s2]) p1
  rw [ask1] at e1
  rw [ask2] at e2
  obtain ⟨y, e3⟩ := place_at 7 13 p2
  obtain ⟨z, e4⟩ := code_at 7 13 (p2 ++ [y])
  refine ⟨p2 ++ [y] ++ [z], ?_⟩
  rw [E_law15_awake]
  have b1 : (ByteArray.mk #[99, 97, 110, 99, 101, 108, 32, 55, 32, 48]) = toB s1 := rfl
  have b2 : (ByteArray.mk #[99, 97, 110, 99, 101, 108, 32, 48, 55, 32, 48]) = toB s2 := rfl
  have hf : flt 7 13 = errAt 7 13 := rfl
  simp only [b1, b2, e1, bindC, resD, fields, List.cons_append, List.nil_append, List.length_cons, List.length_nil, if_true, List.getD_cons_zero, List.getD_cons_succ, e2, zeros, hf, e3, e4, D.isNil_nil, D.toInt_int, D.toBool_bool]
  rfl
theorem ask_cases {s : Bs} {k : Nat} {ns : List Nat} (h : askB s = .ok (k, ns)) : (k = 1 ∧ ∃ a b c d e f g i, ns = [a, b, c, d, e, f, g, i]) ∨ (k = 2 ∧ ∃ a b, ns = [a, b]) ∨ (k = 3 ∧ ∃ a, ns = [a]) ∨ (k = 4 ∧ ns = []) := by
  obtain ⟨v, sh, h1, h2, _⟩ := ask_ok h
  have hl := h2.length
  simp only [kinds, List.mem_cons, Prod.mk.injEq, List.not_mem_nil, or_false] at h1
  rcases h1 with ⟨rfl, rfl, rfl⟩ | ⟨rfl, rfl, rfl⟩ | ⟨rfl, rfl, rfl⟩ | ⟨rfl, rfl, rfl⟩
  · match ns, hl with
    | [a, b, c, d, e, f, g, i], _ => exact .inl ⟨rfl, a, b, c, d, e, f, g, i, rfl⟩
  · match ns, hl with
    | [a, b], _ => exact .inr (.inl ⟨rfl, a, b, rfl⟩)
  · match ns, hl with
    | [a], _ => exact .inr (.inr (.inl ⟨rfl, a, rfl⟩))
  · match ns, hl with
    | [], _ => exact .inr (.inr (.inr ⟨rfl, rfl⟩))
/-- Nine numbers and a nil, behind them the heap. -/
theorem ok_form {s : Bs} {k : Nat} {ns : List Nat} (h : askB s = .ok (k, ns)) : ∃ a0 a1 a2 a3 a4 a5 a6 a7 a8 : Int, fields k ns = [.int a0, .int a1, .int a2, .int a3, .int a4, .int a5, .int a6, .int a7, .int a8] ∧
    ∀ {t : Bs} {k' : Nat} {ns' : List Nat}, askB t = .ok (k', ns') → ∀ b0 b1 b2 b3 b4 b5 b6 b7 b8 : Int, fields k' ns' = [.int b0, .int b1, .int b2, .int b3, .int b4, .int b5, .int b6, .int b7, .int b8] →
      ((a0 == b0) && ((a1 == b1) && ((a2 == b2) && (((a3 == b3) && ((a4 == b4) && ((a5 == b5) && ((a6 == b6) && (a7 == b7))))) && (a8 == b8))))) = (s == t) := by
  have back : ∀ {t : Bs} {k' : Nat} {ns' : List Nat}, askB t = .ok (k', ns') → (fields k ns = fields k' ns' ↔ s = t) := by
    intro t k' ns' h'
    constructor
    · intro hf
      have : (k, ns) = (k', ns') := by
        rcases ask_cases h with ⟨rfl, a, b, c, d, e, f, g, i, rfl⟩ | ⟨rfl, a, b, rfl⟩ | ⟨rfl, a, rfl⟩ | ⟨rfl, rfl⟩ <;>
          rcases ask_cases h' with ⟨rfl, a', b', c', d', e', f', g', i', rfl⟩ | ⟨rfl, a', b', rfl⟩ | ⟨rfl, a', rfl⟩ | ⟨rfl, rfl⟩ <;>
          simp only [fields, List.cons.injEq, D.int.injEq, and_true] at hf <;> first | omega | rfl | (simp only [Prod.mk.injEq, List.cons.injEq, and_true, true_and]; omega)
      rw [this] at h
      exact ask_inj h h'
    · rintro rfl
      rw [h] at h'
      simp only [Except.ok.injEq, Prod.mk.injEq] at h'
      rw [h'.1, h'.2]
  have hfo : ∃ a0 a1 a2 a3 a4 a5 a6 a7 a8 : Int, fields k ns = [.int a0, .int a1, .int a2, .int a3, .int a4, .int a5, .int a6, .int a7, .int a8] := by
    rcases ask_cases h with ⟨rfl, a, b, c, d, e, f, g, i, rfl⟩ | ⟨rfl, a, b, rfl⟩ | ⟨rfl, a, rfl⟩ | ⟨rfl, rfl⟩ <;> exact ⟨_, _, _, _, _, _, _, _, _, rfl⟩
  obtain ⟨a0, a1, a2, a3, a4, a5, a6, a7, a8, ha⟩ := hfo
  refine ⟨a0, a1, a2, a3, a4, a5, a6, a7, a8, ha, ?_⟩
  intro t k' ns' h' b0 b1 b2 b3 b4 b5 b6 b7 b8 hb
  have hbk := back h'
  rw [ha, hb] at hbk
  rw [Bool.eq_iff_iff]
  simp only [Bool.and_eq_true, beq_iff_eq]
  simp only [List.cons.injEq, D.int.injEq, and_true] at hbk
  rw [← hbk]
  constructor
  · rintro ⟨h0, h1, h2, ⟨h3, h4, h5, h6, h7⟩, h8⟩; exact ⟨h0, h1, h2, h3, h4, h5, h6, h7, h8⟩
  · rintro ⟨h0, h1, h2, h3, h4, h5, h6, h7, h8⟩; exact ⟨h0, h1, h2, ⟨h3, h4, h5, h6, h7⟩, h8⟩
end Go.Proofs.YtobacchojjfpfaaDoor.LineD
