/-
  The document's line of an event, on data.
-/
import Derived.Test.YtnaemggpelolcaaGreatDoorEvLine
namespace Go.Proofs.YtnaemggpelolcaaGreatDoor.StoD
open Go.Proofs.YtnaemggpelolcaaGreatDoor.Eng Go.Proofs.YtnaemggpelolcaaGreatDoor.Dat Go.Proofs.YtnaemggpelolcaaGreatDoor Go.Proofs.YtnaemggpelolcaaGreatDoor.WordP Go.Proofs.YtnaemggpelolcaaGreatDoor.StrL Go.Proofs.YtnaemggpelolcaaGreatDoor.Open Go.Proofs.YtnaemggpelolcaaGreatDoor.RefD
open Go.Lib (decDigits itoa nDigits)
set_option linter.unusedVariables false
set_option linter.unusedSimpArgs false
set_option maxRecDepth 10000

theorem refline2 (k w n : Int) (l : Bs) (hl : l.length ≤ 100000) (hw : (itoa w).length ≤ 100) (x4 x5 x7 : D) (g : Eng.Fn) : ∀ (d i : Nat), d + i = l.length →
    W_ref26_Line_2 (.int k) (.int w) (.int n) (.str (toB l)) x4 x5 (.str (toB (itoa w))) x7 g [.int (i : Nat)] = some (if (l.drop i).any (· == 10) = true then [.str (toB []), .bool false] else [.str (toB (sayB ++ [32] ++ itoa w ++ [32] ++ l)), .bool (n == 0)])
  | 0, i, h => by
    have z32 : ByteArray.mk #[32] = toB [32] := rfl
    have zs : ByteArray.mk #[115, 97, 121, 32] = toB (sayB ++ [32]) := rfl
    have l1 : sayB.length = 3 := rfl
    have h1 : ¬ ((i : Int) < ((l.length : Nat) : Int)) := by omega
    rw [W_ref26_Line_2_eq, List.drop_eq_nil_of_le (by omega)]
    simp only [D.toInt_int, D.toStr_str, z32, zs, append_toB, toB_size, h1, decide_false, Bool.false_eq_true, if_false, List.any_nil]
    refine (cat3 (by simp; omega)).trans ?_
    refine (cat3 (by simp; omega)).trans ?_
    exact cat3 (by simp; omega)
  | d + 1, i, h => by
    have hlt : i < l.length := by omega
    have h1 : ((i : Int) < ((l.length : Nat) : Int)) := by omega
    have h2 : (i : Int) ≥ 0 := by omega
    have e3 : IntKind.i64.wrap ((i : Int) + 1) = ((i + 1 : Nat) : Int) := by rw [wrap_small _ (by omega) (by omega)]; omega
    have ih := refline2 k w n l hl hw x4 x5 x7 g d (i + 1) (by omega)
    have hgj : l.getD i 0 = l[i] := by rw [List.getD_eq_getElem?_getD, List.getElem?_eq_getElem hlt, Option.getD_some]
    rw [W_ref26_Line_2_eq, List.drop_eq_getElem_cons hlt, List.any_cons]
    simp only [D.toInt_int, Int.toNat_natCast, D.toStr_str, toB_size, toB_get, hgj, h1, h2, decide_true, if_true, u8_10, e3, ih]
    cases (l[i] == 10) <;> simp
    rfl
theorem ref_ev (e : Ev) (t : Nat) (ht : 1 ≤ t ∧ t ≤ 10000) (hl : e.l.length ≤ 100000) (w1 : -9223372036854775808 ≤ e.w) (w2 : e.w ≤ 9223372036854775807) (n1 : -9223372036854775808 ≤ e.n) (n2 : e.n ≤ 9223372036854775807) :
    ∃ x : Bs, FX 27 [.int e.k, .int e.w, .int e.n, .str (toB e.l), .int (t : Nat)] = some [.str (toB x), .bool (evLine e t).isSome] ∧ ∀ s, evLine e t = some s → x = s := by
  have zn : ByteArray.mk #[] = toB [] := rfl
  have z32 : ByteArray.mk #[32] = toB [32] := rfl
  have zt : ByteArray.mk #[116, 105, 99, 107, 32] = toB (tickB ++ [32]) := rfl
  have zp : ByteArray.mk #[112, 105, 99, 107, 32] = toB (pickB ++ [32]) := rfl
  have zd : ByteArray.mk #[100, 114, 97, 119, 32] = toB (drawB ++ [32]) := rfl
  have l2 : tickB.length = 4 := rfl
  have l3 : pickB.length = 4 := rfl
  have l4 : drawB.length = 4 := rfl
  have s1 := itoa_short w1 w2
  have s2 := itoa_short n1 n2
  have s3 := itoa_short (n := (t : Int)) (by omega) (by omega)
  have i1 := dec_any e.w w1 w2
  have i2 := dec_any e.n n1 n2
  have i3 := dec_any (t : Int) (by omega) (by omega)
  have c0 : ((0 : Int) < 2) := by decide
  have c1 : ((1 : Int) < 2) := by decide
  have c2 : ¬ ((2 : Int) < 2) := by decide
  have d0 : ((0 : Int) ≥ 0) := by decide
  have d1 : ((1 : Int) ≥ 0) := by decide
  have d2 : ((2 : Int) ≥ 0) := by decide
  have L : ∀ a b : D, ((([a, b] : List D).length : Nat) : Int) = 2 := fun _ _ => rfl
  have wr0 : IntKind.i64.wrap ((0 : Int) + 1) = 1 := by decide
  have wr1 : IntKind.i64.wrap ((1 : Int) + 1) = 2 := by decide
  rw [E_ref26_Line, W_ref26_Line_1_eq]
  simp only [D.toInt_int, D.toL_agg, L, c0, d0, decide_true, if_true, show ((0 : Int)).toNat = 0 from rfl, List.getD_cons_zero, wr0]
  by_cases hr1 : inR e.w
  · have a1 : ¬ e.w < -9999999 := by unfold inR at hr1; omega
    have a2 : ¬ e.w > 9999999 := by unfold inR at hr1; omega
    simp only [a1, a2, decide_false, Bool.false_eq_true, if_false]
    rw [W_ref26_Line_1_eq]
    simp only [D.toInt_int, D.toL_agg, L, c1, d1, decide_true, if_true, show ((1 : Int)).toNat = 1 from rfl, List.getD_cons_zero, List.getD_cons_succ, wr1]
    by_cases hr2 : inR e.n
    · have a1 : ¬ e.n < -9999999 := by unfold inR at hr2; omega
      have a2 : ¬ e.n > 9999999 := by unfold inR at hr2; omega
      simp only [a1, a2, decide_false, Bool.false_eq_true, if_false]
      rw [W_ref26_Line_1_eq]
      have nr : ¬ ¬ (inR e.w ∧ inR e.n) := fun h => h ⟨hr1, hr2⟩
      simp only [D.toInt_int, D.toL_agg, L, c2, decide_false, Bool.false_eq_true, if_false, i1, i2, bN1, gd0, tsn, neq_toB, zn]
      by_cases k1 : e.k = 1
      · have q : (e.k == 1) = true := beq_iff_eq.2 k1
        have := refline2 e.k e.w e.n e.l hl s1 (.int (t : Nat)) (.int 2) (.str (toB (itoa e.n))) (W_ref26_Line_1 (.int e.k) (.int e.w) (.int e.n) (.str (toB e.l)) (.int (t : Nat))) e.l.length 0 (by omega)
        rw [List.drop_zero] at this
        simp only [q, if_true]
        cases ha : e.l.any (· == 10) with
        | true =>
          have ev : evLine e t = none := by
            unfold evLine; rw [if_neg nr, if_pos k1, if_neg (by simp [ha])]
          rw [ha] at this
          exact ⟨[], by rw [ev]; exact this, fun s h => by rw [ev] at h; cases h⟩
        | false =>
          rw [ha] at this
          by_cases n0 : e.n = 0
          · have ev : evLine e t = some (sayB ++ [32] ++ itoa e.w ++ [32] ++ e.l) := by
              unfold evLine; rw [if_neg nr, if_pos k1, if_pos ⟨n0, ha⟩]
            have hq : (e.n == 0) = true := beq_iff_eq.2 n0
            rw [hq] at this
            exact ⟨_, by rw [ev]; exact this, fun s h => by rw [ev] at h; exact Option.some.inj h⟩
          · have ev : evLine e t = none := by
              unfold evLine; rw [if_neg nr, if_pos k1, if_neg (fun h => n0 h.1)]
            have hq : (e.n == 0) = false := beq_eq_false_iff_ne.2 n0
            rw [hq] at this
            exact ⟨_, by rw [ev]; exact this, fun s h => by rw [ev] at h; cases h⟩
      · have q : (e.k == 1) = false := beq_eq_false_iff_ne.2 k1
        simp only [q, Bool.false_eq_true, if_false]
        by_cases hl0 : e.l = []
        · have nl : ¬ e.l ≠ [] := fun h => h hl0
          have ql : (!(e.l == [])) = false := by rw [hl0]; rfl
          simp only [ql, Bool.false_eq_true, if_false]
          by_cases k2 : e.k = 2
          · have q2 : (e.k == 2) = true := beq_iff_eq.2 k2
            simp only [q2, if_true, zt, append_toB, toB_size]
            by_cases w0 : e.w = 0
            · have ev : evLine e t = some (tickB ++ [32] ++ itoa e.n) := by
                unfold evLine; rw [if_neg nr, if_neg k1, if_neg nl, if_pos k2, if_pos w0]
              have hq : (e.w == 0) = true := beq_iff_eq.2 w0
              rw [ev, hq]
              exact ⟨_, cat3 (by simp; omega), fun s h => Option.some.inj h⟩
            · have ev : evLine e t = none := by
                unfold evLine; rw [if_neg nr, if_neg k1, if_neg nl, if_pos k2, if_neg w0]
              have hq : (e.w == 0) = false := beq_eq_false_iff_ne.2 w0
              rw [ev, hq]
              exact ⟨_, cat3 (by simp; omega), fun s h => by cases h⟩
          · have q2 : (e.k == 2) = false := beq_eq_false_iff_ne.2 k2
            simp only [q2, Bool.false_eq_true, if_false]
            by_cases k3 : e.k = 3
            · have q3 : (e.k == 3) = true := beq_iff_eq.2 k3
              simp only [q3, if_true, zp, z32, append_toB, toB_size]
              have fin : ∀ y : Bs, (y = if 1 < t then pickB ++ [32] ++ itoa e.w ++ [32] ++ itoa (t : Int) else pickB ++ [32] ++ itoa e.w) → (evLine e t).isSome = (e.n == 0) ∧ ∀ s, evLine e t = some s → y = s := by
                intro y hy
                by_cases n0 : e.n = 0
                · have ev : evLine e t = some y := by
                    unfold evLine; rw [if_neg nr, if_neg k1, if_neg nl, if_neg k2, if_pos k3, if_pos n0, hy]
                  have hq : (e.n == 0) = true := beq_iff_eq.2 n0
                  rw [ev, hq]
                  exact ⟨rfl, fun s h => Option.some.inj h⟩
                · have ev : evLine e t = none := by
                    unfold evLine; rw [if_neg nr, if_neg k1, if_neg nl, if_neg k2, if_pos k3, if_neg n0]
                  have hq : (e.n == 0) = false := beq_eq_false_iff_ne.2 n0
                  rw [ev, hq]
                  exact ⟨rfl, fun s h => by cases h⟩
              by_cases t1 : 1 < t
              · have t1' : ((t : Int) > 1) := by omega
                obtain ⟨f1, f2⟩ := fin (pickB ++ [32] ++ itoa e.w ++ [32] ++ itoa (t : Int)) (by rw [if_pos t1])
                simp only [t1', decide_true, if_true, i3, bN1, gd0, tsn, append_toB, toB_size]
                rw [f1]
                exact ⟨_, (cat3 (by simp; omega)).trans ((cat3 (by simp; omega)).trans (cat3 (by simp; omega))), f2⟩
              · have t1' : ¬ ((t : Int) > 1) := by omega
                obtain ⟨f1, f2⟩ := fin (pickB ++ [32] ++ itoa e.w) (by rw [if_neg t1])
                simp only [t1', decide_false, Bool.false_eq_true, if_false]
                rw [f1]
                exact ⟨_, cat3 (by simp; omega), f2⟩
            · have q3 : (e.k == 3) = false := beq_eq_false_iff_ne.2 k3
              simp only [q3, Bool.false_eq_true, if_false]
              by_cases k4 : e.k = 4
              · have q4 : (e.k == 4) = true := beq_iff_eq.2 k4
                have ev : evLine e t = some (drawB ++ [32] ++ itoa e.w ++ [32] ++ itoa e.n) := by
                  unfold evLine; rw [if_neg nr, if_neg k1, if_neg nl, if_neg k2, if_neg k3, if_pos k4]
                simp only [q4, if_true, zd, z32, append_toB, toB_size]
                rw [ev]
                exact ⟨_, (cat3 (by simp; omega)).trans ((cat3 (by simp; omega)).trans (cat3 (by simp; omega))), fun s h => Option.some.inj h⟩
              · have q4 : (e.k == 4) = false := beq_eq_false_iff_ne.2 k4
                have ev : evLine e t = none := by
                  unfold evLine; rw [if_neg nr, if_neg k1, if_neg nl, if_neg k2, if_neg k3, if_neg k4]
                simp only [q4, Bool.false_eq_true, if_false]
                rw [ev]
                exact ⟨[], rfl, fun s h => by cases h⟩
        · have ql : (!(e.l == [])) = true := by
            have : (e.l == []) = false := beq_eq_false_iff_ne.2 hl0
            rw [this]; rfl
          have ev : evLine e t = none := by
            unfold evLine; rw [if_neg nr, if_neg k1, if_pos hl0]
          simp only [ql, if_true]
          rw [ev]
          exact ⟨[], rfl, fun s h => by cases h⟩
    · have ev : evLine e t = none := by unfold evLine; rw [if_pos (fun h => hr2 h.2)]
      rw [ev]
      refine ⟨[], ?_, fun s h => by cases h⟩
      by_cases a1 : e.n < -9999999
      · simp only [a1, decide_true, if_true]; rfl
      · have a2 : e.n > 9999999 := by unfold inR at hr2; omega
        simp only [a1, a2, decide_true, decide_false, Bool.false_eq_true, if_false, if_true]; rfl
  · have ev : evLine e t = none := by unfold evLine; rw [if_pos (fun h => hr1 h.1)]
    rw [ev]
    refine ⟨[], ?_, fun s h => by cases h⟩
    by_cases a1 : e.w < -9999999
    · simp only [a1, decide_true, if_true]; rfl
    · have a2 : e.w > 9999999 := by unfold inR at hr1; omega
      simp only [a1, a2, decide_true, decide_false, Bool.false_eq_true, if_false, if_true]; rfl
end Go.Proofs.YtnaemggpelolcaaGreatDoor.StoD
