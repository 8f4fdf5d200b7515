/-
  The law RecordReads, on data.
-/
import Derived.Test.YtkjcpgnmkjkbbaaRecD
namespace Go.Proofs.Ytkjcpgnmkjkbbaa.RR
open Go.RowKit Go.Proofs.Ytkjcpgnmkjkbbaa.Eng Go.Proofs.Ytkjcpgnmkjkbbaa Go.Proofs.Ytkjcpgnmkjkbbaa.Dat Go.Proofs.Ytkjcpgnmkjkbbaa.RC
set_option linter.unusedVariables false
set_option linter.unusedSimpArgs false
set_option linter.unusedSectionVars false

section
variable (xs : List Int) (hx : ∀ a ∈ xs, 0 ≤ a ∧ a ≤ 65535) (hn : xs.length ≤ 4) (ki : Int) (hki : 0 ≤ ki ∧ ki ≤ 255)
def zero : D := .agg [.int 0, .int 0, .int 0, .int 0, .int 0, .int 0]
def recL (xs : List Int) (k : Nat) : D := .agg [.int 1, .int (xs.getD k 0), .int ((7 + k : Nat) : Int), .int (k : Int), .int 3, .int 2]
def toldL (xs : List Int) (k : Nat) : D := .agg [.int 1, .int (xs.getD k 0), .int ((7 + k : Nat) : Int), .int (k : Int), .int 0, .int 0]
def endL (xs : List Int) (ki : Int) : D := .agg [.int (2 + ki % 4), .int 0, .int (xs.length : Int), .int 9, .int 0, .int 0]
/-- What all slots hold at last. -/
def fullL (xs : List Int) (ki : Int) (k : Nat) : D := if k < xs.length then recL xs k else endL xs ki
def full (xs : List Int) (ki : Int) : List D := (List.range (xs.length + 1)).map (fullL xs ki)
/-- What the slots hold when those of s are set. -/
def slots (xs : List Int) (ki : Int) (s : Nat → Bool) : List D := (List.range (xs.length + 1)).map fun k => if s k then fullL xs ki k else zero
def x4 (xs : List Int) (i : Nat) : List D := (List.range i).map (recL xs) ++ List.replicate (xs.length + 1 - i) zero
theorem full_get {k : Nat} (h : k ≤ xs.length) : (full xs ki).getD k D.nil = fullL xs ki k := by
  rw [getD_lt (by simp [full]; omega)]; simp [full]
theorem slots_get {s : Nat → Bool} {k : Nat} (h : k ≤ xs.length) : (slots xs ki s).getD k D.nil = if s k then fullL xs ki k else zero := by
  rw [getD_lt (by simp [slots]; omega)]; simp [slots]
theorem slots_set {s : Nat → Bool} {k : Nat} (h : k ≤ xs.length) : (slots xs ki s).set k (fullL xs ki k) = slots xs ki (fun j => j == k || s j) := by
  apply List.ext_getElem
  · simp [slots]
  · intro j h1 h2
    simp only [slots, List.length_set, List.length_map, List.length_range] at h1
    rw [List.getElem_set]
    by_cases hjk : k = j
    · subst hjk
      simp [slots]
    · simp [slots, hjk, Ne.symm hjk]
include hki in
theorem kind_eq : IntKind.i64.wrap (2 + IntKind.i64.wrap (Int.tmod ki 4)) = 2 + ki % 4 := by
  rw [Int.tmod_eq_emod_of_nonneg hki.1, wrap_small (ki % 4) (by omega) (by omega), wrap_small _ (by omega) (by omega)]
include hki in
theorem full_eq : (x4 xs xs.length).set (xs.map D.int).length (D.agg ((D.int (IntKind.i64.wrap ((2 : Int) + (IntKind.i64.wrap (Int.tmod ki (4 : Int)))))) :: ((D.int (0 : Int)) :: ((D.int ((xs.map D.int).length : Int)) :: ((D.int (9 : Int)) :: ((D.int (0 : Int)) :: ((D.int (0 : Int)) :: []))))))) = full xs ki := by
  rw [kind_eq ki hki]
  apply List.ext_getElem
  · simp [x4, full]
  · intro j h1 h2
    simp only [List.length_map]
    rw [List.getElem_set]
    by_cases hj : xs.length = j
    · subst hj
      simp [full, fullL, endL]
    · rw [if_neg hj]
      have hlt : j < xs.length := by simp [full] at h2; omega
      simp only [x4, full, List.getElem_map, List.getElem_range, fullL, hlt, if_true]
      rw [List.getElem_append_left (by simpa using hlt)]
      simp
theorem full_len : (full xs ki).length = xs.length + 1 := by simp [full]
include hx hn in
theorem loop1 (x1 : D) : ∀ (d i : Nat), i + d = xs.length → W_law08_RecordReads_1 (.agg (xs.map D.int)) x1 (.int ki) [.int i, .agg (x4 xs i)] =
    W_law08_RecordReads_2 (.agg (xs.map D.int)) x1 (.int ki) (.int (xs.length : Int)) (.agg (x4 xs xs.length)) (.int 1) (.int 0) (W_law08_RecordReads_1 (.agg (xs.map D.int)) x1 (.int ki)) [.int 0, .agg (slots xs ki fun _ => false), .int 1, .int 0, .agg []]
  | 0, i, h => by
    have hi : i = xs.length := by omega
    subst hi
    have hno : ¬ (xs.length : Int) < ((xs.map D.int).length : Int) := by simp
    have h1 : ((xs.map D.int).length : Int) ≥ 0 := by omega
    have h2 : ((xs.map D.int).length : Int) < ((x4 xs xs.length).length : Int) := by simp [x4]; omega
    have hw : IntKind.i64.wrap (((xs.map D.int).length : Int) + 1) = ((xs.length + 1 : Nat) : Int) := by rw [wrap_small _ (by simp; omega) (by simp; omega)]; simp
    have hsl : List.replicate (xs.length + 1) zero = slots xs ki fun _ => false := by
      apply List.ext_getElem
      · simp [slots]
      · intro j h1 h2; simp [slots]
    rw [W_law08_RecordReads_1_eq]
    simp only [D.toL_agg, D.toInt_int, hno, decide_false, Bool.false_eq_true, if_false, h1, h2, decide_true, if_true, E_record_First, bindC, List.length_cons, List.length_nil, List.getD_cons_zero, List.getD_cons_succ, hw, Int.toNat_natCast]
    rw [← hsl]
    rfl
  | d + 1, i, h => by
    have hi : i < xs.length := by omega
    have h0 : (i : Int) < ((xs.map D.int).length : Int) := by simp; omega
    have h1 : (i : Int) ≥ 0 := by omega
    have h2 : (i : Int) < ((x4 xs i).length : Int) := by simp [x4]; omega
    have hg : (xs.map D.int).getD i D.nil = .int xs[i] := by rw [List.getD_eq_getElem?_getD, List.getElem?_map, List.getElem?_eq_getElem hi]; rfl
    have hq := hx _ (List.getElem_mem hi)
    have hw : IntKind.i64.wrap ((i : Int) + 1) = ((i + 1 : Nat) : Int) := by rw [wrap_small _ (by omega) (by omega)]; omega
    have hw2 : IntKind.i64.wrap (7 + (i : Int)) = ((7 + i : Nat) : Int) := by rw [wrap_small _ (by omega) (by omega)]; omega
    have hset : (x4 xs i).set i (recL xs i) = x4 xs (i + 1) := by
      unfold x4
      rw [List.set_append_right _ _ (by simp), List.range_succ, List.map_append, List.append_assoc]
      congr 1
      simp only [List.length_map, List.length_range, Nat.sub_self, List.map_cons, List.map_nil]
      rw [show xs.length + 1 - i = (xs.length + 1 - (i + 1)) + 1 by omega, List.replicate_succ, List.set_cons_zero]
      rfl
    have ih := loop1 x1 d (i + 1) (by omega)
    rw [← hset] at ih
    have hrec : recL xs i = D.agg ((D.int (1 : Int)) :: ((D.int xs[i]) :: ((D.int ((7 + i : Nat) : Int)) :: ((D.int (i : Int)) :: ((D.int (3 : Int)) :: ((D.int (2 : Int)) :: [])))))) := by
      unfold recL; rw [List.getD_eq_getElem?_getD, List.getElem?_eq_getElem hi]; rfl
    rw [W_law08_RecordReads_1_eq]
    simp only [D.toL_agg, D.toInt_int, h0, h1, h2, decide_true, if_true, Int.toNat_natCast, hg, hw, hw2]
    rw [wrap_small xs[i] (by omega) (by omega), ← hrec]
    exact ih
/-- All told, at last. -/
def toldAll (xs : List Int) (ki : Int) : List D := (List.range xs.length).map (toldL xs) ++ [endL xs ki]
theorem told_get {k : Nat} (h : k < xs.length) : (toldAll xs ki).getD k D.nil = toldL xs k := by
  rw [getD_lt (by simp [toldAll]; omega)]
  simp only [toldAll]
  rw [List.getElem_append_left (by simpa using h)]
  simp
theorem told_last : (toldAll xs ki).getD xs.length D.nil = endL xs ki := by
  rw [getD_lt (by simp [toldAll])]
  simp only [toldAll]
  rw [List.getElem_append_right (by simp)]
  simp
theorem told_len : (toldAll xs ki).length = xs.length + 1 := by simp [toldAll]
include hki hn in
theorem check7 (x1 y3 y5 y6 y7 y8 y9 y10 y12 y13 y14 y15 y16 y17 y18 y19 : D) (g0 g1 g2 : Eng.Fn) : ∀ (d i : Nat), i + d = xs.length + 1 →
    W_law08_RecordReads_7 (.agg (xs.map D.int)) x1 (.int ki) y3 (.agg (x4 xs xs.length)) y5 y6 y7 y8 y9 y10 (.agg (toldAll xs ki)) y12 y13 y14 y15 y16 y17 y18 y19 g0 g1 g2 [.int i] = some [.bool true]
  | 0, i, h => by
    have hno : ¬ (i : Int) < ((toldAll xs ki).length : Int) := by rw [told_len]; omega
    rw [W_law08_RecordReads_7_eq]
    simp only [D.toL_agg, D.toInt_int, hno, decide_false, Bool.false_eq_true, if_false, awake_eq, bindC, List.length_cons, List.length_nil, if_true, List.getD_cons_zero]
  | d + 1, i, h => by
    have hF := full_eq xs ki hki
    have h0 : (i : Int) < ((toldAll xs ki).length : Int) := by rw [told_len]; omega
    have h1 : (i : Int) ≥ 0 := by omega
    have h2 : (i : Int) < ((full xs ki).length : Int) := by rw [full_len]; omega
    have hw : IntKind.i64.wrap ((i : Int) + 1) = ((i + 1 : Nat) : Int) := by rw [wrap_small _ (by omega) (by omega)]; omega
    have ih := check7 x1 y3 y5 y6 y7 y8 y9 y10 y12 y13 y14 y15 y16 y17 y18 y19 g0 g1 g2 d (i + 1) (by omega)
    rw [W_law08_RecordReads_7_eq]
    simp only [D.toL_agg, D.toInt_int, hF, h0, h1, h2, decide_true, if_true, Int.toNat_natCast, full_get xs ki (show i ≤ xs.length by omega), hw]
    rcases Nat.lt_or_ge i xs.length with hi | hi
    · simp only [told_get xs ki hi, fullL, hi, if_true, recL, toldL, D.toL_agg, List.getD_cons_zero, List.getD_cons_succ, D.toInt_int, beq_self_eq_true, Bool.and_self, Bool.not_true, Bool.false_eq_true, if_false]
      exact ih
    · have hie : i = xs.length := by omega
      have hno : ¬ i < xs.length := by omega
      subst hie
      simp only [told_last, fullL, hno, if_false, endL, D.toL_agg, List.getD_cons_zero, List.getD_cons_succ, D.toInt_int, beq_self_eq_true, Bool.and_self, Bool.not_true, Bool.false_eq_true]
      exact ih
include hki hn in
theorem check8 (x1 y3 y5 y6 y7 y8 y9 y10 : D) (g0 g1 : Eng.Fn) : ∀ (d i : Nat), i + d = xs.length + 1 →
    W_law08_RecordReads_8 (.agg (xs.map D.int)) x1 (.int ki) y3 (.agg (x4 xs xs.length)) y5 y6 y7 y8 y9 y10 (.agg (toldAll xs ki)) g0 g1 [.int i] = some [.bool true]
  | 0, i, h => by
    have hno : ¬ (i : Int) < ((toldAll xs ki).length : Int) := by rw [told_len]; omega
    rw [W_law08_RecordReads_8_eq]
    simp only [D.toL_agg, D.toInt_int, hno, decide_false, Bool.false_eq_true, if_false, awake_eq, bindC, List.length_cons, List.length_nil, if_true, List.getD_cons_zero]
  | d + 1, i, h => by
    have hF := full_eq xs ki hki
    have h0 : (i : Int) < ((toldAll xs ki).length : Int) := by rw [told_len]; omega
    have h1 : (i : Int) ≥ 0 := by omega
    have h2 : (i : Int) < ((full xs ki).length : Int) := by rw [full_len]; omega
    have hw : IntKind.i64.wrap ((i : Int) + 1) = ((i + 1 : Nat) : Int) := by rw [wrap_small _ (by omega) (by omega)]; omega
    have ih := check8 x1 y3 y5 y6 y7 y8 y9 y10 g0 g1 d (i + 1) (by omega)
    rw [W_law08_RecordReads_8_eq]
    simp only [D.toL_agg, D.toInt_int, hF, h0, h1, h2, decide_true, if_true, Int.toNat_natCast, full_get xs ki (show i ≤ xs.length by omega), hw]
    rcases Nat.lt_or_ge i xs.length with hi | hi
    · simp only [told_get xs ki hi, fullL, hi, if_true, recL, toldL, D.toL_agg, List.getD_cons_zero, List.getD_cons_succ, D.toInt_int, beq_self_eq_true, Bool.and_self, Bool.not_true, Bool.false_eq_true, if_false]
      exact ih
    · have hie : i = xs.length := by omega
      have hno : ¬ i < xs.length := by omega
      subst hie
      simp only [told_last, fullL, hno, if_false, endL, D.toL_agg, List.getD_cons_zero, List.getD_cons_succ, D.toInt_int, beq_self_eq_true, Bool.and_self, Bool.not_true, Bool.false_eq_true]
      exact ih
/-- A round: a slot is set, and what can be told is told. -/
theorem next_fill (N : Int) (hN : 0 ≤ N ∧ N ≤ 100) (k : Nat) (a b c d e f : D) : FX 8 [.int 1, .int N, .int 1, .int (xs.getD k 0), .int ((7 + k : Nat) : Int), .int (k : Int), .int 3, .int 2, a, b, c, d, e, f] = some [.int 1, .int (xs.getD k 0), .int ((7 + k : Nat) : Int), .int (k : Int), .int 0, .int 0, .int 1, .int (N + 1)] := by
  rw [E_record_Next]
  simp only [D.toInt_int, beq_self_eq_true, if_true]
  rw [wrap_small _ (by omega) (by omega)]
include hki in
theorem next_none (N : Int) (a b c : Int) (z : Bool) (hz : z = true → (a = 2 + ki % 4 ∧ c ≠ N)) (hz2 : z = false → a = 0) (d e f g h : D) : FX 8 [.int 1, .int N, .int 0, d, e, f, g, h, .int a, .int b, .int c, .int 9, .int 0, .int 0] = some [.int 0, .int 0, .int 0, .int 0, .int 0, .int 0, .int 1, .int N] := by
  rw [E_record_Next, isEnd_eq]
  cases z with
  | true =>
    obtain ⟨rfl, h2⟩ := hz rfl
    have h3 : 2 ≤ 2 + ki % 4 ∧ 2 + ki % 4 ≤ 5 := by omega
    simp [bindC, h3, h2]
  | false =>
    have h2 := hz2 rfl
    subst h2
    simp [bindC]
include hki in
theorem next_end (N : Int) (d e f g h : D) : FX 8 [.int 1, .int N, .int 0, d, e, f, g, h, .int (2 + ki % 4), .int 0, .int N, .int 9, .int 0, .int 0] = some [.int (2 + ki % 4), .int 0, .int N, .int 9, .int 0, .int 0, .int 2, .int 0] := by
  rw [E_record_Next, isEnd_eq]
  have h3 : 2 ≤ 2 + ki % 4 ∧ 2 + ki % 4 ≤ 5 := by omega
  have l1 : IntKind.i64.wrap 2 = 2 := rfl
  simp [bindC, h3, l1]
theorem next_zero (N : Int) (d e f g h : D) (a b c i j : D) : FX 8 [.int 1, .int N, .int 0, d, e, f, g, h, .int 0, a, b, c, i, j] = some [.int 0, .int 0, .int 0, .int 0, .int 0, .int 0, .int 1, .int N] := by
  rw [E_record_Next, isEnd_eq]
  simp [bindC]
theorem sl_len (s : Nat → Bool) : (slots xs ki s).length = xs.length + 1 := by simp [slots]
theorem told_succ (N : Nat) : (List.range N).map (toldL xs) ++ [toldL xs N] = (List.range (N + 1)).map (toldL xs) := by rw [List.range_succ, List.map_append]; rfl
/-- The last slot. -/
def lastA (s : Nat → Bool) (ki : Int) (n : Nat) : Int := if s n then 2 + ki % 4 else 0
def lastB (s : Nat → Bool) (n : Nat) : Int := if s n then (n : Int) else 0
def lastC (s : Nat → Bool) (n : Nat) : Int := if s n then 9 else 0
theorem last_get (s : Nat → Bool) : (slots xs ki s).getD xs.length D.nil = .agg [.int (lastA s ki xs.length), .int 0, .int (lastB s xs.length), .int (lastC s xs.length), .int 0, .int 0] := by
  rw [slots_get xs ki (Nat.le_refl _)]
  unfold lastA lastB lastC fullL
  cases hs : s xs.length
  · simp [zero]
  · simp [endL]
include hn hki in
theorem six_none (x1 y3 y5 y6 y7 y8 y12 : D) (s : Nat → Bool) (N : Nat) (told : D) (g0 g1 g2 : Eng.Fn) (d e f g h : D) (hend : s xs.length = true → (xs.length : Int) ≠ N) :
    J_law08_RecordReads_6 (.agg (xs.map D.int)) x1 (.int ki) y3 (.agg (x4 xs xs.length)) y5 y6 y7 y8 (.int 1) (.int N) told y12 (.agg (slots xs ki s)) g0 g1 g2 [.int 0, d, e, f, g, h] = g2 [.agg (slots xs ki s), .int 1, .int N, told] := by
  have hgt : ¬ (1 : Int) > 1 := by omega
  have h1 : (xs.length : Int) ≥ 0 := by omega
  have h2 : (xs.length : Int) < ((slots xs ki s).length : Int) := by rw [sl_len]; omega
  have hl := last_get xs ki s
  rw [J_law08_RecordReads_6_eq]
  simp only [D.toInt_int, D.toL_agg, hgt, decide_false, Bool.false_eq_true, if_false, h1, h2, decide_true, if_true, List.length_map, Int.toNat_natCast, hl, List.getD_cons_zero, List.getD_cons_succ]
  have hz : FX 8 [.int 1, .int N, .int 0, d, e, f, g, h, .int (lastA s ki xs.length), .int 0, .int (lastB s xs.length), .int (lastC s xs.length), .int 0, .int 0] = some [.int 0, .int 0, .int 0, .int 0, .int 0, .int 0, .int 1, .int N] := by
    unfold lastA lastB lastC
    cases hs : s xs.length with
    | false => exact next_zero _ _ _ _ _ _ _ _ _ _ _
    | true => exact next_none ki hki _ _ _ _ true (fun _ => ⟨rfl, hend hs⟩) (fun h => by cases h) _ _ _ _ _
  rw [hz]
  simp [bindC]
include hn hki in
theorem six_end (x1 y3 y5 y6 y7 y8 y12 : D) (s : Nat → Bool) (g0 g1 g2 : Eng.Fn) (d e f g h : D) (hend : s xs.length = true) :
    J_law08_RecordReads_6 (.agg (xs.map D.int)) x1 (.int ki) y3 (.agg (x4 xs xs.length)) y5 y6 y7 y8 (.int 1) (.int xs.length) (.agg ((List.range xs.length).map (toldL xs))) y12 (.agg (slots xs ki s)) g0 g1 g2 [.int 0, d, e, f, g, h] = g2 [.agg (slots xs ki s), .int 2, .int 0, .agg (toldAll xs ki)] := by
  have hgt : ¬ (1 : Int) > 1 := by omega
  have h1 : (xs.length : Int) ≥ 0 := by omega
  have h2 : (xs.length : Int) < ((slots xs ki s).length : Int) := by rw [sl_len]; omega
  have hl := last_get xs ki s
  have hne : ((2 + ki % 4 : Int) != 0) = true := by simp; omega
  have hle : (((List.range xs.length).map (toldL xs) ++ [endL xs ki]).length : Int) ≤ 2932031007402 := by simp; omega
  rw [J_law08_RecordReads_6_eq]
  simp only [D.toInt_int, D.toL_agg, hgt, decide_false, Bool.false_eq_true, if_false, h1, h2, decide_true, if_true, List.length_map, Int.toNat_natCast, hl, List.getD_cons_zero, List.getD_cons_succ]
  unfold lastA lastB lastC
  rw [if_pos hend, if_pos hend, if_pos hend, next_end ki hki]
  unfold endL at hle
  simp only [bindC, List.length_cons, List.length_nil, if_true, List.getD_cons_zero, List.getD_cons_succ, D.toInt_int, hne, hle, decide_true]
  rfl
include hn in
theorem six_fill (x1 y3 y5 y6 y7 y8 y12 : D) (s : Nat → Bool) (N : Nat) (hN : N < xs.length) (g0 g1 g2 : Eng.Fn) :
    J_law08_RecordReads_6 (.agg (xs.map D.int)) x1 (.int ki) y3 (.agg (x4 xs xs.length)) y5 y6 y7 y8 (.int 1) (.int N) (.agg ((List.range N).map (toldL xs))) y12 (.agg (slots xs ki s)) g0 g1 g2 [.int 1, .int (xs.getD N 0), .int ((7 + N : Nat) : Int), .int (N : Int), .int 3, .int 2] =
      g2 [.agg (slots xs ki s), .int 1, .int ((N + 1 : Nat) : Int), .agg ((List.range (N + 1)).map (toldL xs))] := by
  have hgt : ¬ (1 : Int) > 1 := by omega
  have h1 : ((xs.map D.int).length : Int) ≥ 0 := by omega
  have h2 : ((xs.map D.int).length : Int) < ((slots xs ki s).length : Int) := by rw [sl_len]; simp; omega
  have hne : ((1 : Int) != 0) = true := rfl
  have hle : (((List.range N).map (toldL xs) ++ [toldL xs N]).length : Int) ≤ 2932031007402 := by simp; omega
  rw [J_law08_RecordReads_6_eq]
  simp only [D.toInt_int, D.toL_agg, hgt, decide_false, Bool.false_eq_true, if_false, h1, h2, decide_true, if_true]
  rw [next_fill xs N (by omega) N]
  rw [← told_succ]
  unfold toldL at hle ⊢
  simp only [bindC, List.length_cons, List.length_nil, if_true, List.getD_cons_zero, List.getD_cons_succ, D.toInt_int, hne, hle, decide_true]
  rfl
/-- From the slots on: what can be told is told. -/
inductive Out (s : Nat → Bool) (N : Nat) : Int → Nat → D → Prop
  | fill : N < xs.length → s N = true → Out s N 1 (N + 1) (.agg ((List.range (N + 1)).map (toldL xs)))
  | wait : N ≤ xs.length → s N = false → Out s N 1 N (.agg ((List.range N).map (toldL xs)))
  | done : N = xs.length → s N = true → Out s N 2 0 (.agg (toldAll xs ki))
include hn hki in
theorem five (x1 y3 y5 y6 y7 y8 y12 : D) (s : Nat → Bool) (N : Nat) (hN : N ≤ xs.length) (g0 g1 g2 : Eng.Fn) : ∃ gen N' told, Out xs ki s N gen N' told ∧
    J_law08_RecordReads_5 (.agg (xs.map D.int)) x1 (.int ki) y3 (.agg (x4 xs xs.length)) y5 y6 y7 y8 (.int 1) (.int N) (.agg ((List.range N).map (toldL xs))) y12 g0 g1 g2 [.agg (slots xs ki s)] = g2 [.agg (slots xs ki s), .int gen, .int (N' : Int), told] := by
  rw [J_law08_RecordReads_5_eq]
  by_cases h : N < xs.length
  · have h1 : (N : Int) < ((xs.map D.int).length : Int) := by simp; omega
    have h2 : (N : Int) ≥ 0 := by omega
    have h3 : (N : Int) < ((slots xs ki s).length : Int) := by rw [sl_len]; omega
    simp only [D.toInt_int, D.toL_agg, h1, h2, h3, decide_true, if_true, Int.toNat_natCast, slots_get xs ki (show N ≤ xs.length by omega)]
    cases hs : s N with
    | true =>
      refine ⟨1, N + 1, _, .fill h hs, ?_⟩
      simp only [if_true, fullL, h, recL, D.toL_agg, List.getD_cons_zero, List.getD_cons_succ]
      exact six_fill xs hn ki x1 y3 y5 y6 y7 y8 y12 s N h g0 g1 g2
    | false =>
      refine ⟨1, N, _, .wait hN hs, ?_⟩
      simp only [Bool.false_eq_true, if_false, zero, D.toL_agg, List.getD_cons_zero, List.getD_cons_succ]
      exact six_none xs hn ki hki x1 y3 y5 y6 y7 y8 y12 s N _ g0 g1 g2 _ _ _ _ _ (fun _ => by omega)
  · have hNe : N = xs.length := by omega
    subst hNe
    have h1 : ¬ (xs.length : Int) < ((xs.map D.int).length : Int) := by simp
    simp only [D.toInt_int, D.toL_agg, h1, decide_false, Bool.false_eq_true, if_false]
    cases hs : s xs.length with
    | true => exact ⟨2, 0, _, .done rfl hs, six_end xs hn ki hki x1 y3 y5 y6 y7 y8 y12 s g0 g1 g2 _ _ _ _ _ hs⟩
    | false => exact ⟨1, xs.length, _, .wait hN hs, six_none xs hn ki hki x1 y3 y5 y6 y7 y8 y12 s xs.length _ g0 g1 g2 _ _ _ _ _ (fun h => by rw [hs] at h; cases h)⟩
include hn hki in
theorem four (x1 y3 y5 y6 y7 y9 y10 y11 : D) (s : Nat → Bool) (k : Nat) (g0 g1 g2 : Eng.Fn) :
    J_law08_RecordReads_4 (.agg (xs.map D.int)) x1 (.int ki) y3 (.agg (x4 xs xs.length)) y5 y6 y7 (.agg (slots xs ki s)) y9 y10 y11 g0 g1 g2 [.int k] =
      J_law08_RecordReads_5 (.agg (xs.map D.int)) x1 (.int ki) y3 (.agg (x4 xs xs.length)) y5 y6 y7 (.agg (slots xs ki s)) y9 y10 y11 (.int k) g0 g1 g2 [.agg (slots xs ki (if k ≤ xs.length then fun j => j == k || s j else s))] := by
  have hF := full_eq xs ki hki
  rw [J_law08_RecordReads_4_eq]
  by_cases h : k ≤ xs.length
  · have h1 : (k : Int) < ((full xs ki).length : Int) := by rw [full_len]; omega
    have h2 : (k : Int) ≥ 0 := by omega
    have h3 : (k : Int) < ((slots xs ki s).length : Int) := by rw [sl_len]; omega
    simp only [D.toInt_int, D.toL_agg, Int.toNat_natCast, hF, h1, h2, h3, decide_true, if_true, full_get xs ki h]
    have he : (D.agg [(fullL xs ki k).toL.getD 0 D.nil, (fullL xs ki k).toL.getD 1 D.nil, (fullL xs ki k).toL.getD 2 D.nil, (fullL xs ki k).toL.getD 3 D.nil, (fullL xs ki k).toL.getD 4 D.nil, (fullL xs ki k).toL.getD 5 D.nil]) = fullL xs ki k := by
      unfold fullL
      split
      · rfl
      · rfl
    rw [he, slots_set xs ki h, if_pos h]
  · have h1 : ¬ (k : Int) < ((full xs ki).length : Int) := by rw [full_len]; omega
    simp only [D.toInt_int, D.toL_agg, Int.toNat_natCast, hF, h1, decide_false, Bool.false_eq_true, if_false, h]
include hn hki in
/-- Behind the end a round breaks off. -/
theorem five_over (x1 y3 y5 y6 y7 y8 y12 : D) (s : Nat → Bool) (g0 g1 g2 : Eng.Fn) :
    J_law08_RecordReads_5 (.agg (xs.map D.int)) x1 (.int ki) y3 (.agg (x4 xs xs.length)) y5 y6 y7 y8 (.int 2) (.int 0) (.agg (toldAll xs ki)) y12 g0 g1 g2 [.agg (slots xs ki s)] = some [.bool true] := by
  have hF := full_eq xs ki hki
  have six : ∀ a b c d e f : D, J_law08_RecordReads_6 (.agg (xs.map D.int)) x1 (.int ki) y3 (.agg (x4 xs xs.length)) y5 y6 y7 y8 (.int 2) (.int 0) (.agg (toldAll xs ki)) y12 (.agg (slots xs ki s)) g0 g1 g2 [a, b, c, d, e, f] = some [.bool true] := by
    intro a b c d e f
    have hgt : (2 : Int) > 1 := by omega
    have hl : (((toldAll xs ki).length : Int) != ((full xs ki).length : Int)) = false := by rw [told_len, full_len]; simp
    have h7 := check7 xs hn ki hki x1 y3 y5 y6 y7 y8 (.int 2) (.int 0) y12 (.agg (slots xs ki s)) a b c d e f g0 g1 g2 (xs.length + 1) 0 (by omega)
    rw [J_law08_RecordReads_6_eq]
    simp only [D.toInt_int, D.toL_agg, Int.toNat_natCast, hF, hgt, hl, decide_true, if_true, Bool.false_eq_true, if_false, beq_self_eq_true, Bool.and_self, Bool.not_true]
    exact h7
  rw [J_law08_RecordReads_5_eq]
  by_cases h : 0 < xs.length
  · have h1 : (0 : Int) < ((xs.map D.int).length : Int) := by rw [List.length_map]; omega
    have h3 : (0 : Int) < ((slots xs ki s).length : Int) := by rw [sl_len]; omega
    have h2 : (0 : Int) ≥ 0 := by omega
    simp only [D.toInt_int, D.toL_agg, h1, h2, h3, decide_true, if_true]
    exact six _ _ _ _ _ _
  · have h1 : ¬ (0 : Int) < ((xs.map D.int).length : Int) := by rw [List.length_map]; omega
    simp only [D.toInt_int, D.toL_agg, h1, decide_false, Bool.false_eq_true, if_false]
    exact six _ _ _ _ _ _
include hx hn hki in
theorem rounds (order : List Int) (ho : ∀ a ∈ order, 0 ≤ a ∧ a ≤ 255) (hol : order.length ≤ 60) (g0 : Eng.Fn) : ∀ (d i : Nat) (s : Nat → Bool) (N : Nat) (gen : Int) (told : D), i + d = order.length + 2 * (xs.length + 1) →
    ((gen = 1 ∧ told = .agg ((List.range N).map (toldL xs)) ∧ N ≤ xs.length ∧ (∀ j, order.length ≤ j → j < i → s (j % (xs.length + 1)) = true) ∧ i ≤ order.length + xs.length + 1 + N) ∨ (gen = 2 ∧ N = 0 ∧ told = .agg (toldAll xs ki))) →
    W_law08_RecordReads_2 (.agg (xs.map D.int)) (.agg (order.map D.int)) (.int ki) (.int (xs.length : Int)) (.agg (x4 xs xs.length)) (.int 1) (.int 0) g0 [.int i, .agg (slots xs ki s), .int gen, .int (N : Int), told] = some [.bool true] := by
  have hF := full_eq xs ki hki
  have hlim : IntKind.i64.wrap (2 * ((full xs ki).length : Int)) = ((2 * (xs.length + 1) : Nat) : Int) := by rw [full_len, wrap_small _ (by omega) (by omega)]; omega
  have hlim2 : IntKind.i64.wrap (((order.map D.int).length : Int) + ((2 * (xs.length + 1) : Nat) : Int)) = ((order.length + 2 * (xs.length + 1) : Nat) : Int) := by rw [List.length_map, wrap_small _ (by omega) (by omega)]; omega
  have hne0 : (((full xs ki).length : Int) != 0) = true := by rw [full_len]; simp; omega
  have hne1 : (((2 * (xs.length + 1) : Nat) : Int) != 0) = true := by simp; omega
  intro d
  induction d with
  | zero =>
    intro i s N gen told h hst
    rcases hst with ⟨_, _, h3, _, h5⟩ | ⟨rfl, rfl, rfl⟩
    · omega
    · have hno : ¬ (i : Int) < ((order.length + 2 * (xs.length + 1) : Nat) : Int) := by omega
      have hl : (((toldAll xs ki).length : Int) != ((full xs ki).length : Int)) = false := by rw [told_len, full_len]; simp
      have h8 := check8 xs hn ki hki (.agg (order.map D.int)) (.int (xs.length : Int)) (.int 1) (.int 0) (.int i) (.agg (slots xs ki s)) (.int 2) (.int 0) g0 (W_law08_RecordReads_2 (.agg (xs.map D.int)) (.agg (order.map D.int)) (.int ki) (.int (xs.length : Int)) (.agg (x4 xs xs.length)) (.int 1) (.int 0) g0) (xs.length + 1) 0 (by omega)
      rw [W_law08_RecordReads_2_eq]
      simp only [D.toInt_int, D.toL_agg, Int.toNat_natCast, hF, hlim, hlim2, hno, hl, decide_false, Bool.false_eq_true, if_false, beq_self_eq_true, Bool.and_self, Bool.not_true]
      exact h8
  | succ d ih =>
    intro i s N gen told h hst
    have hlt : (i : Int) < ((order.length + 2 * (xs.length + 1) : Nat) : Int) := by omega
    have hw : IntKind.i64.wrap ((i : Int) + 1) = ((i + 1 : Nat) : Int) := by rw [wrap_small _ (by omega) (by omega)]; omega
    -- the slot of the round
    obtain ⟨k, hk, hkey⟩ : ∃ k : Nat, (order.length ≤ i → k = i % (xs.length + 1)) ∧ W_law08_RecordReads_2 (.agg (xs.map D.int)) (.agg (order.map D.int)) (.int ki) (.int (xs.length : Int)) (.agg (x4 xs xs.length)) (.int 1) (.int 0) g0 [.int i, .agg (slots xs ki s), .int gen, .int (N : Int), told] =
        J_law08_RecordReads_4 (.agg (xs.map D.int)) (.agg (order.map D.int)) (.int ki) (.int (xs.length : Int)) (.agg (x4 xs xs.length)) (.int 1) (.int 0) (.int i) (.agg (slots xs ki s)) (.int gen) (.int (N : Int)) told g0 (W_law08_RecordReads_2 (.agg (xs.map D.int)) (.agg (order.map D.int)) (.int ki) (.int (xs.length : Int)) (.agg (x4 xs xs.length)) (.int 1) (.int 0) g0)
          (J_law08_RecordReads_3 (.agg (xs.map D.int)) (.agg (order.map D.int)) (.int ki) (.int (xs.length : Int)) (.agg (x4 xs xs.length)) (.int 1) (.int 0) (.int i) (.agg (slots xs ki s)) (.int gen) (.int (N : Int)) told g0 (W_law08_RecordReads_2 (.agg (xs.map D.int)) (.agg (order.map D.int)) (.int ki) (.int (xs.length : Int)) (.agg (x4 xs xs.length)) (.int 1) (.int 0) g0)) [.int (k : Int)] := by
      by_cases hio : i < order.length
      · have h1 : (i : Int) < ((order.map D.int).length : Int) := by simp; omega
        have h2 : (i : Int) ≥ 0 := by omega
        have hg : (order.map D.int).getD i D.nil = .int order[i] := by rw [List.getD_eq_getElem?_getD, List.getElem?_map, List.getElem?_eq_getElem hio]; rfl
        have hb := ho _ (List.getElem_mem hio)
        refine ⟨(order[i].toNat) % (2 * (xs.length + 1)), fun h => by omega, ?_⟩
        have hm : Int.tmod (IntKind.i64.wrap order[i]) ((2 * (xs.length + 1) : Nat) : Int) = ((order[i].toNat % (2 * (xs.length + 1)) : Nat) : Int) := by
          rw [wrap_small _ (by omega) (by omega), Int.tmod_eq_emod_of_nonneg hb.1]
          rw [Int.natCast_emod, Int.toNat_of_nonneg hb.1]
        rw [W_law08_RecordReads_2_eq]
        simp only [D.toInt_int, D.toL_agg, Int.toNat_natCast, hF, hlim, hlim2, hlt, hne0, h1, h2, hg, hne1, hm, decide_true, if_true]
      · have h1 : ¬ (i : Int) < ((order.map D.int).length : Int) := by simp; omega
        refine ⟨i % (xs.length + 1), fun _ => rfl, ?_⟩
        have hm : Int.tmod (i : Int) ((full xs ki).length : Int) = ((i % (xs.length + 1) : Nat) : Int) := by
          rw [full_len, Int.tmod_eq_emod_of_nonneg (by omega)]
          omega
        rw [W_law08_RecordReads_2_eq]
        simp only [D.toInt_int, D.toL_agg, Int.toNat_natCast, hF, hlim, hlim2, hlt, hne0, h1, hm, decide_true, if_true, decide_false, Bool.false_eq_true, if_false]
    rw [hkey, four xs hn ki hki]
    generalize hs' : (if k ≤ xs.length then fun j => j == k || s j else s) = s'
    have hs1 : ∀ j, s j = true → s' j = true := by
      intro j hj
      rw [← hs']
      split
      · simp [hj]
      · exact hj
    rcases hst with ⟨rfl, rfl, h3, h4, h5⟩ | ⟨rfl, rfl, rfl⟩
    · obtain ⟨gen', N', told', hout, heq⟩ := five xs hn ki hki (.agg (order.map D.int)) (.int (xs.length : Int)) (.int 1) (.int 0) (.int i) (.agg (slots xs ki s)) (.int (k : Int)) s' N h3 g0 (W_law08_RecordReads_2 (.agg (xs.map D.int)) (.agg (order.map D.int)) (.int ki) (.int (xs.length : Int)) (.agg (x4 xs xs.length)) (.int 1) (.int 0) g0)
          (J_law08_RecordReads_3 (.agg (xs.map D.int)) (.agg (order.map D.int)) (.int ki) (.int (xs.length : Int)) (.agg (x4 xs xs.length)) (.int 1) (.int 0) (.int i) (.agg (slots xs ki s)) (.int 1) (.int (N : Int)) (.agg ((List.range N).map (toldL xs))) g0 (W_law08_RecordReads_2 (.agg (xs.map D.int)) (.agg (order.map D.int)) (.int ki) (.int (xs.length : Int)) (.agg (x4 xs xs.length)) (.int 1) (.int 0) g0))
      rw [heq, J_law08_RecordReads_3_eq]
      simp only [D.toInt_int, hw]
      have hcov : ∀ j, order.length ≤ j → j < i + 1 → s' (j % (xs.length + 1)) = true := by
        intro j hj1 hj2
        rcases Nat.lt_or_ge j i with hji | hji
        · exact hs1 _ (h4 j hj1 hji)
        · have hje : j = i := by omega
          subst hje
          have hkk := hk hj1
          have hlt2 : j % (xs.length + 1) < xs.length + 1 := Nat.mod_lt _ (by omega)
          rw [← hs', if_pos (by omega), hkk]
          simp
      refine ih (i + 1) s' N' gen' told' (by omega) ?_
      cases hout with
      | fill hN hsN => exact .inl ⟨rfl, rfl, by omega, hcov, by omega⟩
      | done hN hsN => exact .inr ⟨rfl, rfl, rfl⟩
      | wait hN hsN =>
        refine .inl ⟨rfl, rfl, hN, hcov, ?_⟩
        rcases Nat.lt_or_ge (i + 1) (order.length + xs.length + 2) with hlt3 | hge
        · omega
        · exfalso
          -- all slots are set by now
          have hj : ∃ j, order.length ≤ j ∧ j < i + 1 ∧ j % (xs.length + 1) = N := by
            have hm : ∀ q : Nat, (q + (xs.length + 1)) % (xs.length + 1) = q % (xs.length + 1) := fun q => Nat.add_mod_right q _
            -- from order.length on, some number of the next ones
            have hq := Nat.mod_lt order.length (show 0 < xs.length + 1 by omega)
            have hdm := Nat.div_add_mod order.length (xs.length + 1)
            by_cases hc : order.length % (xs.length + 1) ≤ N
            · refine ⟨order.length + (N - order.length % (xs.length + 1)), by omega, by omega, ?_⟩
              have e : order.length + (N - order.length % (xs.length + 1)) = (xs.length + 1) * (order.length / (xs.length + 1)) + N := by omega
              rw [e, Nat.mul_add_mod, Nat.mod_eq_of_lt (by omega)]
            · refine ⟨order.length + (xs.length + 1 + N - order.length % (xs.length + 1)), by omega, by omega, ?_⟩
              have e : order.length + (xs.length + 1 + N - order.length % (xs.length + 1)) = (xs.length + 1) * (order.length / (xs.length + 1)) + (N + (xs.length + 1)) := by omega
              rw [e, Nat.mul_add_mod, hm, Nat.mod_eq_of_lt (by omega)]
          obtain ⟨j, j1, j2, j3⟩ := hj
          have := hcov j j1 j2
          rw [j3, hsN] at this
          cases this
    · exact five_over xs hn ki hki _ _ _ _ _ _ _ s' _ _ _
end
theorem reads_true (xs order : List Int) (ki : Int) (wx : ∀ n ∈ xs, (Lit.int .u16 n).wf = true) (hlx : xs.length ≤ 140737488351232) (wo : ∀ n ∈ order, (Lit.int .u8 n).wf = true) (hlo : order.length ≤ 140737488351232) (w2 : (Lit.int .u8 ki).wf = true) :
    FX 5 [.agg (xs.map D.int), .agg (order.map D.int), .int ki] = some [.bool true] := by
  have hki : 0 ≤ ki ∧ ki ≤ 255 := by simpa [Lit.wf, IntKind.min, IntKind.max, IntKind.bits, IntKind.signed] using w2
  have hx : ∀ a ∈ xs, 0 ≤ a ∧ a ≤ 65535 := fun a ha => by simpa [Lit.wf, IntKind.min, IntKind.max, IntKind.bits, IntKind.signed] using wx a ha
  have ho : ∀ a ∈ order, 0 ≤ a ∧ a ≤ 255 := fun a ha => by simpa [Lit.wf, IntKind.min, IntKind.max, IntKind.bits, IntKind.signed] using wo a ha
  rw [E_law08_RecordReads]
  simp only [D.toL_agg]
  by_cases h1 : ((xs.map D.int).length : Int) > 4
  · simp only [h1, decide_true, if_true, awake_eq, bindC, List.length_cons, List.length_nil, List.getD_cons_zero]
  by_cases h2 : ((order.map D.int).length : Int) > 60
  · simp only [h1, h2, decide_true, decide_false, Bool.false_eq_true, if_false, if_true, awake_eq, bindC, List.length_cons, List.length_nil, List.getD_cons_zero]
  have hn : xs.length ≤ 4 := by simp at h1; omega
  have hol : order.length ≤ 60 := by simp at h2; omega
  have hw : IntKind.i64.wrap (((xs.map D.int).length : Int) + 1) = ((xs.length + 1 : Nat) : Int) := by rw [wrap_small _ (by simp; omega) (by simp; omega)]; simp
  have h3 : ((xs.length + 1 : Nat) : Int) ≥ 0 := by omega
  have h4 : ((xs.length + 1 : Nat) : Int) ≤ 2932031007402 := by omega
  simp only [h1, h2, decide_false, Bool.false_eq_true, if_false, hw, h3, h4, decide_true, if_true, Int.toNat_natCast]
  have hz : (List.replicate (xs.length + 1) (D.agg [D.int 0, D.int 0, D.int 0, D.int 0, D.int 0, D.int 0])) = x4 xs 0 := by simp [x4, zero]
  rw [hz]
  have l1 := loop1 xs hx hn ki (.agg (order.map D.int)) xs.length 0 (by omega)
  refine l1.trans ?_
  have := rounds xs hx hn ki hki order ho hol (W_law08_RecordReads_1 (.agg (xs.map D.int)) (.agg (order.map D.int)) (.int ki)) (order.length + 2 * (xs.length + 1)) 0 (fun _ => false) 0 1 (.agg []) (by omega) (.inl ⟨rfl, rfl, by omega, fun j h1 h2 => by omega, by omega⟩)
  exact this
end Go.Proofs.Ytkjcpgnmkjkbbaa.RR
