/-
  LineBack on data: a line that asks something, printed again, is that line; an ask that is printed is read as what it tells.
-/
import Derived.Test.YtobacchojjfpfaaGreatDoorPrintD
namespace Go.Proofs.YtobacchojjfpfaaGreatDoor.LineD
open Go.Proofs.YtobacchojjfpfaaGreatDoor.Eng Go.Proofs.YtobacchojjfpfaaGreatDoor Go.Proofs.YtobacchojjfpfaaGreatDoor.Dat Go.Proofs.YtobacchojjfpfaaGreatDoor.WordP Go.Proofs.YtobacchojjfpfaaGreatDoor.NumE Go.Proofs.YtobacchojjfpfaaGreatDoor.Open
set_option linter.unusedVariables false
set_option linter.unusedSimpArgs false

theorem to_eq (a0 a1 a2 a3 a4 a5 a6 a7 a8 : D) : FX 8 [a0, a1, a2, a3, a4, a5, a6, a7, a8] = some [a0, a1, a2, a3, a4, a5, a6, a7, a8] := E_law11_To ..
theorem from_eq (a0 a1 a2 a3 a4 a5 a6 a7 a8 : D) : FX 9 [a0, a1, a2, a3, a4, a5, a6, a7, a8] = some [a0, a1, a2, a3, a4, a5, a6, a7, a8] := E_law15_From ..
/-- What a line asks, printed. -/
theorem ask_again {s : Bs} {k : Nat} {ns : List Nat} (h : askB s = .ok (k, ns)) : ∃ a0 a1 a2 a3 a4 a5 a6 a7 a8 : Int, fields k ns = [.int a0, .int a1, .int a2, .int a3, .int a4, .int a5, .int a6, .int a7, .int a8] ∧ printB a0 a1 a2 a3 a4 a5 a6 a7 a8 = .ok s := by
  rcases ask_cases h with ⟨rfl, a, b, c, d, e, f, g, i, rfl⟩ | ⟨rfl, a, b, rfl⟩ | ⟨rfl, a, rfl⟩ | ⟨rfl, rfl⟩
  · exact ⟨_, _, _, _, _, _, _, _, _, rfl, print1 h⟩
  · exact ⟨_, _, _, _, _, _, _, _, _, rfl, print2 h⟩
  · exact ⟨_, _, _, _, _, _, _, _, _, rfl, print3 h⟩
  · exact ⟨_, _, _, _, _, _, _, _, _, rfl, print4 h⟩
theorem codeD_nil (c p : Nat) : (codeD c p).isNil = false := by unfold codeD; split <;> rfl
/-- The second half: an ask, whatever was read before. -/
theorem half (y0 y1 y2 y3 y4 y5 y6 y7 y8 : Int) (pre : List D) :
    (match printB y0 y1 y2 y3 y4 y5 y6 y7 y8 with
    | .error (c, p) => True
    | .ok t => t.length ≤ 1000 ∧ ∃ (k : Nat) (ns : List Nat), askB t = .ok (k, ns) ∧ y0 = (k : Int) ∧ (k = 1 → fields k ns = [.int y0, .int y1, .int y2, .int y3, .int y4, .int y5, .int y6, .int y7, .int y8])) := by
  cases h : printB y0 y1 y2 y3 y4 y5 y6 y7 y8 with
  | error e => trivial
  | ok t =>
    obtain ⟨k, ns, h1, h2, h3⟩ := back_print h
    obtain ⟨_, _, _, _, _, hl, _⟩ := ask_ok h1
    refine ⟨by omega, k, ns, h1, h2, fun hk => ?_⟩
    rcases h3 with ⟨_, a, b, c, d, e, f, g, i, rfl, rfl, rfl, rfl, rfl, rfl, rfl, rfl, rfl⟩ | ⟨h4, _⟩ | ⟨h4, _⟩ | ⟨h4, _⟩
    · subst hk; subst h2; rfl
    · omega
    · omega
    · omega
set_option maxHeartbeats 2000000 in
theorem back (d0 : D) (xs : List D) (w0 : Wf Tryz.prog .str d0) (w1 : AllF Tryz.prog [.int .i64, .int .i64, .int .i64, .int .i64, .int .i64, .int .i64, .int .i64, .int .i64, .int .i64] xs) : FX 3 (d0 :: (xs ++ [])) = some [.bool true] := by
  obtain ⟨s0, rfl, _⟩ := w0.toStr
  obtain ⟨_, _, rfl, q0, _, _, rfl, q1, _, _, rfl, q2, _, _, rfl, q3, _, _, rfl, q4, _, _, rfl, q5, _, _, rfl, q6, _, _, rfl, q7, _, _, rfl, q8, rfl⟩ := w1
  obtain ⟨y0, rfl, _⟩ := q0.toInt
  obtain ⟨y1, rfl, _⟩ := q1.toInt
  obtain ⟨y2, rfl, _⟩ := q2.toInt
  obtain ⟨y3, rfl, _⟩ := q3.toInt
  obtain ⟨y4, rfl, _⟩ := q4.toInt
  obtain ⟨y5, rfl, _⟩ := q5.toInt
  obtain ⟨y6, rfl, _⟩ := q6.toInt
  obtain ⟨y7, rfl, _⟩ := q7.toInt
  obtain ⟨y8, rfl, _⟩ := q8.toInt
  rw [← toB_of s0]
  generalize s0.data.toList = s
  obtain ⟨pa, ea⟩ := awake_eq []
  show FX 3 [.str (toB s), .int y0, .int y1, .int y2, .int y3, .int y4, .int y5, .int y6, .int y7, .int y8] = _
  rw [E_law15_LineBack]
  by_cases hs : s.length ≤ 1000
  case neg =>
    have h1 : ((s.length : Int) > 1000) := by omega
    simp only [D.toStr_str, toB_size, h1, decide_true, if_true, ea, bindC, List.length_cons, List.length_nil, List.getD_cons_zero]
  have h1 : ¬ ((s.length : Int) > 1000) := by omega
  obtain ⟨p1, e1⟩ := parse_eq s (by omega) []
  have ep := print_eq y0 y1 y2 y3 y4 y5 y6 y7 y8
  have hh := half y0 y1 y2 y3 y4 y5 y6 y7 y8 p1
  have b0 : (ByteArray.mk #[]) = toB [] := rfl
  simp only [D.toStr_str, toB_size, h1, decide_false, Bool.false_eq_true, if_false, e1, bindC, to_eq, List.length_cons, List.length_nil, if_true, List.getD_cons_zero, List.getD_cons_succ, ep]
  cases hp : printB y0 y1 y2 y3 y4 y5 y6 y7 y8 with
  | error e' =>
    obtain ⟨c', p'⟩ := e'
    obtain ⟨pb, eb⟩ := awake_eq p1
    have hn := codeD_nil c' p'
    cases ha : askB s with
    | error e =>
      obtain ⟨c, a⟩ := e
      have hne : (flt a c).isNil = false := rfl
      simp only [resD, zeros, outD, hne, hn, List.cons_append, List.nil_append, List.length_cons, List.length_nil, if_true, List.getD_cons_zero, List.getD_cons_succ, Bool.false_eq_true, if_false, Bool.not_false, eb, D.toBool_bool, D.toStr_str, b0, eql_toB, beq_self_eq_true]
    | ok x =>
      obtain ⟨k, ns⟩ := x
      obtain ⟨a0, a1, a2, a3, a4, a5, a6, a7, a8, hf, hpr⟩ := ask_again ha
      have ep2 := print_eq a0 a1 a2 a3 a4 a5 a6 a7 a8
      rw [hpr] at ep2
      have hss : (s == s) = true := by simp
      simp only [resD, hf, outD, hn, List.cons_append, List.nil_append, List.length_cons, List.length_nil, if_true, List.getD_cons_zero, List.getD_cons_succ, Bool.false_eq_true, if_false, Bool.not_false, Bool.not_true, D.isNil_nil, ep2, eb, D.toBool_bool, D.toStr_str, b0, eql_toB, neq_toB, hss, beq_self_eq_true]
  | ok t =>
    rw [hp] at hh
    obtain ⟨hl, k2, ns2, h2, h3, h4⟩ := hh
    obtain ⟨p2, e2⟩ := parse_eq t (by omega) p1
    obtain ⟨pb, eb⟩ := awake_eq p2
    obtain ⟨c0, c1, c2, c3, c4, c5, c6, c7, c8, hf2, hpr2⟩ := ask_again h2
    have ep3 := print_eq c0 c1 c2 c3 c4 c5 c6 c7 c8
    rw [hpr2] at ep3
    rw [h2] at e2
    have htt : (t == t) = true := by simp
    have hc0 : c0 = y0 := by
      rw [h3]
      rcases ask_cases h2 with ⟨rfl, a, b, c, d, e, f, g, i, rfl⟩ | ⟨rfl, a, b, rfl⟩ | ⟨rfl, a, rfl⟩ | ⟨rfl, rfl⟩ <;> (simp only [fields, List.cons.injEq, D.int.injEq] at hf2; exact hf2.1.symm)
    have hcc : y0 = 1 → c1 = y1 ∧ c2 = y2 ∧ c3 = y3 ∧ c4 = y4 ∧ c5 = y5 ∧ c6 = y6 ∧ c7 = y7 ∧ c8 = y8 := by
      intro hy
      have := h4 (by omega)
      rw [hf2] at this
      simp only [List.cons.injEq, D.int.injEq, and_true] at this
      exact this.2
    have fin : (if (y0 != 1) = true then some [D.bool true] else some [D.bool ((c0 == y0) && ((c1 == y1) && ((c2 == y2) && (((c3 == y3) && ((c4 == y4) && ((c5 == y5) && ((c6 == y6) && (c7 == y7))))) && (c8 == y8)))))]) = some [D.bool true] := by
      by_cases hy : y0 = 1
      · obtain ⟨g1, g2, g3, g4, g5, g6, g7, g8⟩ := hcc hy
        subst hc0 g1 g2 g3 g4 g5 g6 g7 g8
        simp [hy]
      · have : (y0 != 1) = true := by simpa using hy
        rw [if_pos this]
    have hcy : (c0 == y0) = true := by simp [hc0]
    cases ha : askB s with
    | error e =>
      obtain ⟨c, a⟩ := e
      have hne : (flt a c).isNil = false := rfl
      simp only [resD, zeros, outD, hne, hf2, List.cons_append, List.nil_append, List.length_cons, List.length_nil, if_true, List.getD_cons_zero, List.getD_cons_succ, Bool.false_eq_true, if_false, Bool.not_false, Bool.not_true, D.isNil_nil, e2, ep3, eb, from_eq, D.toBool_bool, D.toStr_str, D.toInt_int, b0, eql_toB, beq_self_eq_true, htt, hcy]
      rw [hcy] at fin
      simpa using fin
    | ok x =>
      obtain ⟨k, ns⟩ := x
      obtain ⟨a0, a1, a2, a3, a4, a5, a6, a7, a8, hf, hpr⟩ := ask_again ha
      have ep2 := print_eq a0 a1 a2 a3 a4 a5 a6 a7 a8
      rw [hpr] at ep2
      have hss : (s == s) = true := by simp
      simp only [resD, hf, outD, hf2, List.cons_append, List.nil_append, List.length_cons, List.length_nil, if_true, List.getD_cons_zero, List.getD_cons_succ, Bool.false_eq_true, if_false, Bool.not_false, Bool.not_true, D.isNil_nil, ep2, e2, ep3, eb, from_eq, D.toBool_bool, D.toStr_str, D.toInt_int, b0, eql_toB, neq_toB, beq_self_eq_true, hss, htt, hcy]
      rw [hcy] at fin
      simpa using fin
end Go.Proofs.YtobacchojjfpfaaGreatDoor.LineD
