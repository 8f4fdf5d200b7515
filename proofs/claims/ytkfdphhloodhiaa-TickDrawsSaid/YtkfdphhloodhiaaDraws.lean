/-
  TickDraws on data.
-/
import Derived.Test.YtkfdphhloodhiaaAllE
import Derived.Test.YtkfdphhloodhiaaProg
import Derived.Test.YtkfdphhloodhiaaDat
import Derived.Test.YtkfdphhloodhiaaOpen
namespace Go.Proofs.Ytkfdphhloodhiaa.Draws
open Go.Proofs.Ytkfdphhloodhiaa.Eng Go.Proofs.Ytkfdphhloodhiaa Go.Proofs.Ytkfdphhloodhiaa.Dat Go.Proofs.Ytkfdphhloodhiaa.Open
set_option linter.unusedVariables false
set_option linter.unusedSimpArgs false

theorem add3 : FX 17 [.int 1000000, .agg [.int 0, .int 3]] = some [.int 3] := by
  rw [E_field_Add]
  rw [W_field_Add_1_eq]; simp [show IntKind.u64.wrap 0 = 0 by decide, show IntKind.u64.wrap 1000000 = 1000000 by decide, show IntKind.i64.wrap 1 = 1 by decide]
  rw [W_field_Add_1_eq]; simp [show IntKind.u64.wrap 3 = 3 by decide, show IntKind.u64.wrap 999997 = 999997 by decide, show IntKind.i64.wrap 2 = 2 by decide]
  rw [W_field_Add_1_eq]; simp
theorem add4 : FX 17 [.int 1000000, .agg [.int 3, .int 4]] = some [.int 7] := by
  rw [E_field_Add]
  rw [W_field_Add_1_eq]; simp [show IntKind.u64.wrap 3 = 3 by decide, show IntKind.u64.wrap 999997 = 999997 by decide, show IntKind.i64.wrap 1 = 1 by decide]
  rw [W_field_Add_1_eq]; simp [show IntKind.u64.wrap 7 = 7 by decide, show IntKind.u64.wrap 999996 = 999996 by decide, show IntKind.i64.wrap 2 = 2 by decide]
  rw [W_field_Add_1_eq]; simp
theorem pick3 : FX 16 [.int (-1), .int 4] = some [.int 3] := by
  rw [E_tick_Pick]; simp [show Int.tmod (-1) 4 = -1 by decide, show IntKind.i64.wrap 3 = 3 by decide]
theorem go7 (l : List D) : FX 7 [.int (l.length : Int), .agg [.int 3, .int (-1), .int 4], .agg (l ++ [.agg [.int 0]])] = some [.int 7, .agg (l ++ [.agg [.int 7]])] := by
  rw [E_p_tick_Clock_Go]
  simp only [show (D.int (l.length : Int)).isNil = false from rfl, Bool.false_eq_true, if_false]
  rw [W_p_tick_Clock_Go_1_eq]
  simp [show (D.int (l.length : Int)).isNil = false from rfl, show IntKind.u64.wrap 3 = 3 by decide, show IntKind.i64.wrap 1 = 1 by decide, bindC, add3, List.range_succ]
  rw [W_p_tick_Clock_Go_1_eq]
  simp [show (D.int (l.length : Int)).isNil = false from rfl, show IntKind.i64.wrap 2 = 2 by decide]
  rw [W_p_tick_Clock_Go_1_eq]
  simp [show (D.int (l.length : Int)).isNil = false from rfl, show IntKind.u64.wrap 4 = 4 by decide, show IntKind.i64.wrap 3 = 3 by decide, bindC, add4, List.range_succ]
  rw [W_p_tick_Clock_Go_1_eq]
  simp [show (D.int (l.length : Int)).isNil = false from rfl, show IntKind.i64.wrap 7 = 7 by decide]
theorem awake (h : D) : ∃ h', FX 6 [h] = some [.bool true, h'] := by
  rw [E_law04_awake, go7]
  simp [bindC, pick3]
/-- A tape of words, at a place. -/
def hp (ws : List D) (p : Nat) : D := .agg [.agg [.agg ws, .int p]]
theorem put (ws l : List D) (p : Nat) (hl : ws.length + l.length ≤ 17592186044416) : FX 12 [.int 0, .agg l, hp ws p] = some [hp (ws ++ l) p] := by
  rw [E_p_tick_Tape_Put]
  have : ((ws.length : Int) + (l.length : Int) ≤ 17592186044416) := by omega
  simp [show (D.int 0).isNil = false from rfl, hp, List.range_succ, this]
theorem take_end (ws : List D) (hl : ws.length ≤ 1000000) : FX 13 [.int 0, hp ws ws.length] = some [.int 0, .bool false, hp ws ws.length] := by
  rw [E_p_tick_Tape_Take]
  simp [show (D.int 0).isNil = false from rfl, hp]
theorem take_one (ws : List D) (p : Nat) (hp' : p < ws.length) (hl : ws.length ≤ 1000000) : FX 13 [.int 0, hp ws p] = some [ws.getD p .nil, .bool true, hp ws (p + 1)] := by
  rw [E_p_tick_Tape_Take]
  have e1 : IntKind.i64.wrap ((p : Int) + 1) = (p : Int) + 1 := i64w _ (by omega) (by omega)
  have e2 : IntKind.i64.wrap ((p : Int) + 1 - 1) = p := by rw [Int.add_sub_cancel]; exact i64w _ (by omega) (by omega)
  have hne : ¬ (p : Int) = (ws.length : Int) := by omega
  have e3 : IntKind.i64.wrap (p : Int) = p := i64w _ (by omega) (by omega)
  simp [show (D.int 0).isNil = false from rfl, hp, e1, e2, e3, hne, List.range_succ]
  omega
theorem left (ws : List D) (p : Nat) (hp' : p ≤ ws.length) (hl : ws.length ≤ 1000000) : FX 14 [.int 0, hp ws p] = some [.int ((ws.length : Int) - p)] := by
  rw [E_p_tick_Tape_Left]
  simp [show (D.int 0).isNil = false from rfl, hp, i64w ((ws.length : Int) - p) (by omega) (by omega)]
theorem taken (ws : List D) (p : Nat) : FX 15 [.int 0, hp ws p] = some [.int (p : Int)] := by
  rw [E_p_tick_Tape_Taken]
  simp [show (D.int 0).isNil = false from rfl, hp]
theorem last (x0 x1 h : D) : J_law04_TickDraws_1 x0 x1 [h] = some [.bool true] := by
  rw [J_law04_TickDraws_1_eq, E_p_tick_Tape_Put]
  simp only [show D.nil.isNil = true from rfl, Bool.not_true, Bool.false_eq_true, if_false, bindC, List.length_cons, List.length_nil, if_true, E_p_tick_Tape_Take, List.getD_cons_zero, List.getD_cons_succ]
  obtain ⟨h', e⟩ := awake h
  simp [e, E_p_tick_Tape_Left, E_p_tick_Tape_Taken]

/-- The words taken one by one. -/
theorem takes (rows x1 x2 x3 x4 x5 x6 x7 : D) (ws : List D) (i k : Nat) (g0 g1 : Eng.Fn) (hl : ws.length ≤ 1000000) (hk : k ≤ 1000000) (hx3 : x3 = .int (i : Int)) (hws : x4.toL ++ (rows.toL.getD i .nil).toL = ws)
    (hi : ∀ x ∈ ws, ∃ n, x = .int n) :
    ∀ (n j p : Nat), k - j = n → j ≤ k → p ≤ ws.length → ∃ p', p' ≤ ws.length ∧ W_law04_TickDraws_4 rows x1 x2 x3 x4 x5 x6 x7 (.int (k : Int)) g0 g1 [.int (p : Int), .int (j : Int), hp ws p] =
      g1 [.int (p' : Int), .int (IntKind.i64.wrap ((i : Int) + 1)), .agg ws, hp ws p'] := by
  subst hx3
  intro n
  induction n with
  | zero =>
    intro j p hn hj hp'
    refine ⟨p, hp', ?_⟩
    obtain rfl : j = k := by omega
    rw [W_law04_TickDraws_4_eq]
    have e : IntKind.i64.wrap ((ws.length : Int) - p) = (ws.length : Int) - p := i64w _ (by omega) (by omega)
    simp only [D.toInt_int, Int.lt_irrefl, decide_false, Bool.false_eq_true, if_false, Int.toNat_natCast, hws, left ws p hp' hl, taken ws p, bindC, List.length_cons, List.length_nil, if_true, List.getD_cons_zero, e, bne_self_eq_false]
  | succ n ih =>
    intro j p hn hj hp'
    rw [W_law04_TickDraws_4_eq]
    have hjk : (j : Int) < (k : Int) := by omega
    have ej : IntKind.i64.wrap ((j : Int) + 1) = ((j + 1 : Nat) : Int) := by rw [i64w _ (by omega) (by omega)]; simp
    by_cases hlt : p < ws.length
    · obtain ⟨v, hv⟩ := hi (ws.getD p .nil) (by rw [List.getD_eq_getElem?_getD, List.getElem?_eq_getElem hlt]; simp)
      have ep : IntKind.i64.wrap ((p : Int) + 1) = ((p + 1 : Nat) : Int) := by rw [i64w _ (by omega) (by omega)]; simp
      have h1 : (p : Int) < (ws.length : Int) := by omega
      simp only [D.toInt_int, hjk, decide_true, if_true, Int.toNat_natCast, hws, take_one ws p hlt hl, bindC, List.length_cons, List.length_nil, List.getD_cons_zero, List.getD_cons_succ, h1, ge_iff_le, Int.natCast_nonneg, bne_self_eq_false, D.toBool_bool, beq_self_eq_true, Bool.not_true, Bool.false_eq_true, if_false, ej, ep]
      exact ih (j + 1) (p + 1) (by omega) (by omega) (by omega)
    · obtain rfl : p = ws.length := by omega
      simp only [D.toInt_int, hjk, decide_true, if_true, Int.toNat_natCast, hws, take_end ws hl, bindC, List.length_cons, List.length_nil, List.getD_cons_zero, List.getD_cons_succ, Int.lt_irrefl, decide_false, bne_self_eq_false, D.toBool_bool, beq_self_eq_true, Bool.not_true, Bool.false_eq_true, if_false, ej]
      exact ih (j + 1) ws.length (by omega) (by omega) (by omega)

def rowD (r : List Int) : D := .agg (r.map D.int)
theorem rounds (xss : List (List Int)) (ops : List Int) (hn : xss.length ≤ 50) (hops : ∀ n ∈ ops, 0 ≤ n) (h : D) : ∀ (n i : Nat) (ws : List Int) (p : Nat), xss.length - i = n → i ≤ xss.length → ws.length ≤ 50 * i → p ≤ ws.length →
    W_law04_TickDraws_2 (.agg (xss.map rowD)) (.agg (ops.map D.int)) (J_law04_TickDraws_1 (.agg (xss.map rowD)) (.agg (ops.map D.int))) [.int (p : Int), .int (i : Int), .agg (ws.map D.int), hp (ws.map D.int) p] = some [.bool true] := by
  intro n
  induction n with
  | zero =>
    intro i ws p hn' hi hw hp'
    obtain rfl : i = xss.length := by omega
    rw [W_law04_TickDraws_2_eq]
    simp only [D.toInt_int, D.toL_agg, List.length_map, Int.lt_irrefl, decide_false, Bool.false_eq_true, if_false, last]
  | succ n ih =>
    intro i ws p hn' hi hw hp'
    have hlt : i < xss.length := by omega
    rw [W_law04_TickDraws_2_eq]
    have h1 : (i : Int) < (xss.length : Int) := by omega
    have eg : (xss.map rowD).getD i .nil = rowD xss[i] := by rw [List.getD_eq_getElem?_getD, List.getElem?_map, List.getElem?_eq_getElem hlt]; rfl
    simp only [D.toInt_int, D.toL_agg, List.length_map, h1, decide_true, if_true, ge_iff_le, Int.natCast_nonneg, Int.toNat_natCast, eg]
    by_cases hb : ((rowD xss[i]).toL.length : Int) > 50
    · simp only [hb, decide_true, if_true, last]
    · have hb' : xss[i].length ≤ 50 := by simp only [rowD, D.toL_agg, List.length_map] at hb; omega
      have hput := put (ws.map D.int) (xss[i].map D.int) p (by simp; omega)
      have hws : (D.agg (ws.map D.int)).toL ++ (((D.agg (xss.map rowD)).toL.getD i .nil)).toL = (ws ++ xss[i]).map D.int := by simp only [D.toL_agg, eg, rowD, List.map_append]
      have hb2 : (((ws.map D.int ++ (rowD xss[i]).toL).length : Nat) : Int) ≤ 17592186044416 := by simp [rowD]; omega
      simp only [hb, decide_false, Bool.false_eq_true, if_false]
      rw [show rowD xss[i] = .agg (xss[i].map D.int) from rfl, hput]
      have key : ∀ k : Nat, k ≤ 8 → J_law04_TickDraws_3 (.agg (xss.map rowD)) (.agg (ops.map D.int)) (.int (p : Int)) (.int (i : Int)) (.agg (ws.map D.int)) (hp (ws.map D.int) p) (hp (ws.map D.int ++ xss[i].map D.int) p) (J_law04_TickDraws_1 (.agg (xss.map rowD)) (.agg (ops.map D.int))) (W_law04_TickDraws_2 (.agg (xss.map rowD)) (.agg (ops.map D.int)) (J_law04_TickDraws_1 (.agg (xss.map rowD)) (.agg (ops.map D.int)))) [hp (ws.map D.int ++ xss[i].map D.int) p, .int (k : Int)] = some [.bool true] := by
        intro k hk
        rw [J_law04_TickDraws_3_eq, ← List.map_append]
        obtain ⟨p', hp2, e⟩ := takes (.agg (xss.map rowD)) (.agg (ops.map D.int)) (.int (p : Int)) (.int (i : Int)) (.agg (ws.map D.int)) (hp (ws.map D.int) p) (hp ((ws ++ xss[i]).map D.int) p) (hp ((ws ++ xss[i]).map D.int) p) ((ws ++ xss[i]).map D.int) i k (J_law04_TickDraws_1 (.agg (xss.map rowD)) (.agg (ops.map D.int))) (W_law04_TickDraws_2 (.agg (xss.map rowD)) (.agg (ops.map D.int)) (J_law04_TickDraws_1 (.agg (xss.map rowD)) (.agg (ops.map D.int)))) (by simp; omega) (by omega) rfl hws (by rintro x hx; obtain ⟨a, _, rfl⟩ := List.mem_map.1 hx; exact ⟨a, rfl⟩) k 0 p (by omega) (by omega) (by simp; omega)
        rw [show ((0 : Nat) : Int) = 0 from rfl] at e
        rw [e, show IntKind.i64.wrap ((i : Int) + 1) = ((i + 1 : Nat) : Int) by rw [i64w _ (by omega) (by omega)]; simp]
        exact ih (i + 1) (ws ++ xss[i]) p' (by omega) (by omega) (by simp; omega) (by simpa using hp2)
      simp only [bindC, List.length_cons, List.length_nil, if_true, List.getD_cons_zero, hb2, decide_true, rowD, D.toL_agg] at hb2 ⊢
      have hb3 : (((ws.map D.int ++ xss[i].map D.int).length : Nat) : Int) ≤ 17592186044416 := hb2
      simp only [hb3, decide_true, if_true]
      by_cases ho : (i : Int) < (ops.length : Int)
      · have hoi : i < ops.length := by omega
        have eo : (ops.map D.int).getD i .nil = .int ops[i] := by rw [List.getD_eq_getElem?_getD, List.getElem?_map, List.getElem?_eq_getElem hoi]; rfl
        simp only [ho, decide_true, if_true, eo, D.toInt_int]
        have h0 : 0 ≤ ops[i] := hops _ (List.getElem_mem hoi)
        have hm : 0 ≤ Int.tmod ops[i] 8 ∧ Int.tmod ops[i] 8 < 8 := by rw [Int.tmod_eq_emod_of_nonneg h0]; omega
        rw [i64w _ (by omega) (by omega)]
        have := key (Int.tmod ops[i] 8).toNat (by omega)
        rw [Int.toNat_of_nonneg hm.1] at this
        exact this
      · simp only [ho, decide_false, Bool.false_eq_true, if_false]
        exact key 0 (by omega)
theorem draws (d0 d1 : D) (w0 : Wf Try.prog (.slice 22) d0) (w1 : Wf Try.prog (.slice 5) d1) : FX 4 [d0, d1] = some [.bool true] := by
  obtain ⟨xss, rfl, _, hx⟩ := w0.rowsOfInts (e' := 3) (k := .i64) (by kernel_rfl) (by kernel_rfl)
  obtain ⟨ops, rfl, _, ho⟩ := w1.ints (k := .u8) (by kernel_rfl)
  rw [E_law04_TickDraws]
  by_cases h : ((xss.length : Int) > 50)
  · obtain ⟨h', e⟩ := awake (.agg [])
    simp [h, e, bindC]
  · simp only [D.toL_agg, List.length_map, h, decide_false, Bool.false_eq_true, if_false]
    exact rounds xss ops (by omega) (fun n hn => by have := ho n hn; simp [Lit.wf, IntKind.min, IntKind.max, IntKind.bits, IntKind.signed] at this; omega) .nil xss.length 0 [] 0 (by omega) (by omega) (by simp) (by simp)
end Go.Proofs.Ytkfdphhloodhiaa.Draws
