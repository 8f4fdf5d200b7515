/-
  Both printers of one event on data.
-/
import Derived.Test.YtnaemggpelolcaaGreatDoorLight
import Derived.Test.YtnaemggpelolcaaGreatDoorDecN
import Derived.Test.YtnaemggpelolcaaGreatDoorEvP
namespace Go.Proofs.YtnaemggpelolcaaGreatDoor.StoD
open Go.Proofs.YtnaemggpelolcaaGreatDoor.Eng Go.Proofs.YtnaemggpelolcaaGreatDoor.Dat Go.Proofs.YtnaemggpelolcaaGreatDoor Go.Proofs.YtnaemggpelolcaaGreatDoor.WordP Go.Proofs.YtnaemggpelolcaaGreatDoor.StrL Go.Proofs.YtnaemggpelolcaaGreatDoor.Open Go.Proofs.YtnaemggpelolcaaGreatDoor.RefD
open Go.Lib (decDigits itoa nDigits)
set_option linter.unusedVariables false
set_option linter.unusedSimpArgs false
set_option maxRecDepth 10000

/-- Two texts, neither too long, are put together. -/
theorem cat3 {a b : Nat} {x : Option (List D)} {i1 : Decidable (IntKind.i64.wrap ((a : Int) + (b : Int)) ≤ (4611686018427387903 : Int))} {i2 : Decidable ((a : Int) ≤ 4611686018427387903)} {i3 : Decidable ((b : Int) ≤ 4611686018427387903)} (h : a + b ≤ 1000000000) :
    (if (@decide _ i1) = true then if (@decide _ i2) = true then if (@decide _ i3) = true then x else none else none else none) = x := by
  have e : IntKind.i64.wrap ((a : Int) + (b : Int)) = ((a + b : Nat) : Int) := by rw [i64w _ (by omega) (by omega)]; omega
  have h1 : IntKind.i64.wrap ((a : Int) + (b : Int)) ≤ (4611686018427387903 : Int) := by rw [e]; omega
  have h2 : ((a : Int) ≤ 4611686018427387903) := by omega
  have h3 : ((b : Int) ≤ 4611686018427387903) := by omega
  rw [if_pos (decide_eq_true h1), if_pos (decide_eq_true h2), if_pos (decide_eq_true h3)]
theorem range_eq (n : Int) : FX 42 [.int n] = some [.bool (decide (inR n))] := by
  rw [E_story_print_1]
  simp only [D.toInt_int]
  by_cases h1 : n ≥ -9999999
  · have e : decide (inR n) = decide (n ≤ 9999999) := decide_eq_decide.2 (by unfold inR; omega)
    simp only [h1, decide_true, if_true]
    exact congrArg (fun b => some [D.bool b]) (decide_eq_decide.2 (by unfold inR; omega))
  · have e : decide (inR n) = false := decide_eq_false (by unfold inR; omega)
    simp only [h1, decide_false, Bool.false_eq_true, if_false, e]
theorem index_has (s : Bs) (c : UInt8) : decide (0 ≤ Go.Lib.indexByte s c) = s.any (· == c) := by
  induction s with
  | nil => rfl
  | cons b l ih =>
    rw [List.any_cons, ← ih]
    by_cases h : b = c
    · subst h; simp [Go.Lib.indexByte]
    · have hb : (b == c) = false := by simpa using h
      simp only [Go.Lib.indexByte, hb, Bool.false_eq_true, if_false, Bool.false_or]
      apply decide_eq_decide.2
      split <;> simp_all <;> omega
theorem has_eq (s : Bs) : FX 43 [.str (toB s), .str (ByteArray.mk #[10])] = some [.bool (s.any (· == 10))] := by
  have h : FX 43 = StrD.base 43 := fix_base (by rfl)
  rw [h, ← index_has]
  show some [D.bool (decide (0 ≤ Go.Lib.indexByte (toB s).data.toList 10))] = _
  have e : (toB s).data.toList = s := by simp [toB]
  rw [e]
def resL : Option Bs → List D
  | some s => [.str (toB s), .bool true]
  | none => [.str (toB []), .bool false]
theorem ev_many {e : Ev} {t : Nat} (hr : inR e.w ∧ inR e.n) (k1 : e.k ≠ 1) (k2 : e.k ≠ 2) (hl0 : e.l = []) (k3 : e.k = 3) (n0 : e.n = 0) (t1 : 1 < t) : evLine e t = some (pickB ++ [32] ++ itoa e.w ++ [32] ++ itoa (t : Int)) := by
  unfold evLine
  rw [if_neg (fun h => h hr), if_neg k1, if_neg (fun h => h hl0), if_neg k2, if_pos k3, if_pos n0, if_pos t1]
theorem gd0 (a : D) : ([a] : List D).getD 0 .nil = a := by cases a <;> rfl
theorem tsn (s : ByteArray) : (D.str s).toStr = s := by cases s; rfl
theorem bN1 (a : D) (k : List D → Option (List D)) : bindC (some [a]) 1 k = k [a] := by simp [bindC]
theorem print_j3 (e : Ev) (t : Nat) (ht : t ≤ 10000) (hl : e.l.length ≤ 100000) (w1 : -9223372036854775808 ≤ e.w) (w2 : e.w ≤ 9223372036854775807) (n1 : -9223372036854775808 ≤ e.n) (n2 : e.n ≤ 9223372036854775807) (hr : inR e.w ∧ inR e.n) : e.k ≠ 1 → e.k ≠ 2 → e.l = [] → ∀ x5 x6 x9 x10 : D, ∀ b : Bool, b = decide (e.k = 3 ∧ e.n = 0 ∧ 1 < t) → J_story_print_3 (.int e.k) (.int e.w) (.int e.n) (.str (toB e.l)) (.int (t : Nat)) x5 x6 (.str (toB (itoa e.w))) (.str (toB (itoa e.n))) x9 x10 [.bool b] = some (resL (evLine e t)) := by
  have zn : ByteArray.mk #[] = toB [] := rfl
  have z32 : ByteArray.mk #[32] = toB [32] := rfl
  have zs : ByteArray.mk #[115, 97, 121, 32] = toB (sayB ++ [32]) := rfl
  have zt : ByteArray.mk #[116, 105, 99, 107, 32] = toB (tickB ++ [32]) := rfl
  have zp : ByteArray.mk #[112, 105, 99, 107, 32] = toB (pickB ++ [32]) := rfl
  have zd : ByteArray.mk #[100, 114, 97, 119, 32] = toB (drawB ++ [32]) := rfl
  have l1 : sayB.length = 3 := rfl
  have l2 : tickB.length = 4 := rfl
  have l3 : pickB.length = 4 := rfl
  have l4 : drawB.length = 4 := rfl
  have s1 := itoa_short w1 w2
  have s2 := itoa_short n1 n2
  have s3 := itoa_short (n := (t : Int)) (by omega) (by omega)
  have i1 := itoa_all e.w w1 w2
  have i2 := itoa_all e.n n1 n2
  have i3 := itoa_all (t : Int) (by omega) (by omega)
  intro k1 k2 hl0 x5 x6 x9 x10 b hb
  have nr : ¬ ¬ (inR e.w ∧ inR e.n) := fun h => h hr
  have nl : ¬ e.l ≠ [] := fun h => h hl0
  rw [J_story_print_3_eq]
  simp only [D.toInt_int, D.toStr_str, D.toBool_bool, zp, zd, z32, zn, append_toB, toB_size]
  refine cutI (fun hb1 => ?_) fun hb1 => ?_
  · rw [hb1] at hb
    obtain ⟨k3, n0, t1⟩ := of_decide_eq_true hb.symm
    have ev := ev_many hr k1 k2 hl0 k3 n0 t1
    refine Eq.trans ?_ (congrArg (fun a => some (resL a)) ev.symm)
    refine (cat3 (by simp; omega)).trans ?_
    refine (cat3 (by simp; omega)).trans ?_
    rw [i3, bN1]
    simp only [gd0, tsn, append_toB, toB_size]
    refine (cat3 (by simp; omega)).trans ?_
    rfl
  · have hb2 : ¬ (e.k = 3 ∧ e.n = 0 ∧ 1 < t) := by
      intro h
      rw [decide_eq_true h] at hb
      exact hb1 hb
    have g3 : e.k = 3 → e.n = 0 → ¬ 1 < t := fun a b c => hb2 ⟨a, b, c⟩
    refine cutI (fun k3 => ?_) fun k3 => ?_
    · replace k3 := beq_iff_eq.1 k3
      refine cutI (fun n0 => ?_) fun n0 => ?_
      · replace n0 := beq_iff_eq.1 n0
        have ev : evLine e t = some (pickB ++ [32] ++ itoa e.w) := by
          unfold evLine; rw [if_neg nr, if_neg k1, if_neg nl, if_neg k2, if_pos k3, if_pos n0, if_neg (g3 k3 n0)]
        refine Eq.trans ?_ (congrArg (fun a => some (resL a)) ev.symm)
        refine (cat3 (by simp; omega)).trans ?_
        rfl
      · have ev : evLine e t = none := by
          unfold evLine; rw [if_neg nr, if_neg k1, if_neg nl, if_neg k2, if_pos k3, if_neg (fun h => n0 (beq_iff_eq.2 h))]
        refine Eq.trans ?_ (congrArg (fun a => some (resL a)) ev.symm)
        refine cutI (fun k4 => ?_) fun k4 => rfl
        replace k4 := beq_iff_eq.1 k4
        omega
    · replace k3 : ¬ e.k = 3 := fun h => k3 (beq_iff_eq.2 h)
      refine cutI (fun k4 => ?_) fun k4 => ?_
      · replace k4 := beq_iff_eq.1 k4
        have ev : evLine e t = some (drawB ++ [32] ++ itoa e.w ++ [32] ++ itoa e.n) := by
          unfold evLine; rw [if_neg nr, if_neg k1, if_neg nl, if_neg k2, if_neg k3, if_pos k4]
        refine Eq.trans ?_ (congrArg (fun a => some (resL a)) ev.symm)
        refine (cat3 (by simp; omega)).trans ?_
        refine (cat3 (by simp; omega)).trans ?_
        refine (cat3 (by simp; omega)).trans ?_
        rfl
      · have ev : evLine e t = none := by
          unfold evLine; rw [if_neg nr, if_neg k1, if_neg nl, if_neg k2, if_neg k3, if_neg (fun h => k4 (beq_iff_eq.2 h))]
        refine Eq.trans ?_ (congrArg (fun a => some (resL a)) ev.symm)
        rfl
theorem print_j2 (e : Ev) (t : Nat) (ht : t ≤ 10000) (hl : e.l.length ≤ 100000) (w1 : -9223372036854775808 ≤ e.w) (w2 : e.w ≤ 9223372036854775807) (n1 : -9223372036854775808 ≤ e.n) (n2 : e.n ≤ 9223372036854775807) (hr : inR e.w ∧ inR e.n) : e.k ≠ 1 → e.l = [] → ∀ x5 x6 x9 : D, ∀ b : Bool, b = decide (e.k = 2 ∧ e.w = 0) → J_story_print_2 (.int e.k) (.int e.w) (.int e.n) (.str (toB e.l)) (.int (t : Nat)) x5 x6 (.str (toB (itoa e.w))) (.str (toB (itoa e.n))) x9 [.bool b] = some (resL (evLine e t)) := by
  have zn : ByteArray.mk #[] = toB [] := rfl
  have z32 : ByteArray.mk #[32] = toB [32] := rfl
  have zs : ByteArray.mk #[115, 97, 121, 32] = toB (sayB ++ [32]) := rfl
  have zt : ByteArray.mk #[116, 105, 99, 107, 32] = toB (tickB ++ [32]) := rfl
  have zp : ByteArray.mk #[112, 105, 99, 107, 32] = toB (pickB ++ [32]) := rfl
  have zd : ByteArray.mk #[100, 114, 97, 119, 32] = toB (drawB ++ [32]) := rfl
  have l1 : sayB.length = 3 := rfl
  have l2 : tickB.length = 4 := rfl
  have l3 : pickB.length = 4 := rfl
  have l4 : drawB.length = 4 := rfl
  have s1 := itoa_short w1 w2
  have s2 := itoa_short n1 n2
  have s3 := itoa_short (n := (t : Int)) (by omega) (by omega)
  have i1 := itoa_all e.w w1 w2
  have i2 := itoa_all e.n n1 n2
  have i3 := itoa_all (t : Int) (by omega) (by omega)
  have J3 := print_j3 e t ht hl w1 w2 n1 n2 hr
  intro k1 hl0 x5 x6 x9 b hb
  have nr : ¬ ¬ (inR e.w ∧ inR e.n) := fun h => h hr
  have nl : ¬ e.l ≠ [] := fun h => h hl0
  rw [J_story_print_2_eq]
  simp only [D.toInt_int, D.toStr_str, D.toBool_bool, zt, append_toB, toB_size]
  refine cutI (fun hb1 => ?_) fun hb1 => ?_
  · rw [hb1] at hb
    obtain ⟨k2, w0⟩ := of_decide_eq_true hb.symm
    have ev : evLine e t = some (tickB ++ [32] ++ itoa e.n) := by
      unfold evLine; rw [if_neg nr, if_neg k1, if_neg nl, if_pos k2, if_pos w0]
    refine Eq.trans ?_ (congrArg (fun a => some (resL a)) ev.symm)
    refine (cat3 (by simp; omega)).trans ?_
    rfl
  · have hb2 : ¬ (e.k = 2 ∧ e.w = 0) := by
      intro h
      rw [decide_eq_true h] at hb
      exact hb1 hb
    by_cases k2 : e.k = 2
    · have ev : evLine e t = none := by
        unfold evLine; rw [if_neg nr, if_neg k1, if_neg nl, if_pos k2, if_neg (fun h => hb2 ⟨k2, h⟩)]
      have q3 : (e.k == 3) = false := by rw [k2]; rfl
      have q4 : (e.k == 4) = false := by rw [k2]; rfl
      have hbf : b = false := by cases b; rfl; exact absurd rfl hb1
      simp only [q3, Bool.false_eq_true, if_false]
      rw [J_story_print_3_eq, ev]
      simp only [D.toInt_int, D.toBool_bool, q3, q4, Bool.false_eq_true, if_false]
      rfl
    · refine cutI (fun k3 => ?_) fun k3 => ?_
      · replace k3 := beq_iff_eq.1 k3
        refine cutI (fun n0 => ?_) fun n0 => ?_
        · replace n0 := beq_iff_eq.1 n0
          exact J3 k1 k2 hl0 _ _ _ _ _ (decide_eq_decide.2 (by constructor; intro h; exact ⟨k3, n0, by omega⟩; intro h; omega))
        · exact J3 k1 k2 hl0 _ _ _ _ _ (decide_eq_false (fun h => n0 (beq_iff_eq.2 h.2.1))).symm
      · exact J3 k1 k2 hl0 _ _ _ _ _ (decide_eq_false (fun h => k3 (beq_iff_eq.2 h.1))).symm
theorem print_j1 (e : Ev) (t : Nat) (ht : t ≤ 10000) (hl : e.l.length ≤ 100000) (w1 : -9223372036854775808 ≤ e.w) (w2 : e.w ≤ 9223372036854775807) (n1 : -9223372036854775808 ≤ e.n) (n2 : e.n ≤ 9223372036854775807) (hr : inR e.w ∧ inR e.n) : ∀ x5 x6 : D, ∀ b : Bool, b = decide (e.k = 1 ∧ e.n = 0 ∧ e.l.any (· == 10) = false) → J_story_print_1 (.int e.k) (.int e.w) (.int e.n) (.str (toB e.l)) (.int (t : Nat)) x5 x6 (.str (toB (itoa e.w))) (.str (toB (itoa e.n))) [.bool b] = some (resL (evLine e t)) := by
  have zn : ByteArray.mk #[] = toB [] := rfl
  have z32 : ByteArray.mk #[32] = toB [32] := rfl
  have zs : ByteArray.mk #[115, 97, 121, 32] = toB (sayB ++ [32]) := rfl
  have zt : ByteArray.mk #[116, 105, 99, 107, 32] = toB (tickB ++ [32]) := rfl
  have zp : ByteArray.mk #[112, 105, 99, 107, 32] = toB (pickB ++ [32]) := rfl
  have zd : ByteArray.mk #[100, 114, 97, 119, 32] = toB (drawB ++ [32]) := rfl
  have l1 : sayB.length = 3 := rfl
  have l2 : tickB.length = 4 := rfl
  have l3 : pickB.length = 4 := rfl
  have l4 : drawB.length = 4 := rfl
  have s1 := itoa_short w1 w2
  have s2 := itoa_short n1 n2
  have s3 := itoa_short (n := (t : Int)) (by omega) (by omega)
  have i1 := itoa_all e.w w1 w2
  have i2 := itoa_all e.n n1 n2
  have i3 := itoa_all (t : Int) (by omega) (by omega)
  have J3 := print_j3 e t ht hl w1 w2 n1 n2 hr
  have J2 := print_j2 e t ht hl w1 w2 n1 n2 hr
  intro x5 x6 b hb
  have nr : ¬ ¬ (inR e.w ∧ inR e.n) := fun h => h hr
  rw [J_story_print_1_eq]
  simp only [D.toInt_int, D.toStr_str, D.toBool_bool, zs, z32, zn, append_toB, toB_size, neq_toB]
  refine cutI (fun hb1 => ?_) fun hb1 => ?_
  · rw [hb1] at hb
    obtain ⟨k1, n0, a10⟩ := of_decide_eq_true hb.symm
    have ev : evLine e t = some (sayB ++ [32] ++ itoa e.w ++ [32] ++ e.l) := by
      unfold evLine; rw [if_neg nr, if_pos k1, if_pos ⟨n0, a10⟩]
    refine Eq.trans ?_ (congrArg (fun a => some (resL a)) ev.symm)
    refine (cat3 (by simp; omega)).trans ?_
    refine (cat3 (by simp; omega)).trans ?_
    refine (cat3 (by simp; omega)).trans ?_
    rfl
  · have hb2 : ¬ (e.k = 1 ∧ e.n = 0 ∧ e.l.any (· == 10) = false) := by
      intro h
      rw [decide_eq_true h] at hb
      exact hb1 hb
    refine cutI (fun hne => ?_) fun hne => ?_
    · have hne' : e.l ≠ [] := by simpa using hne
      have ev : evLine e t = none := by
        unfold evLine
        rw [if_neg nr]
        by_cases k1 : e.k = 1
        · rw [if_pos k1, if_neg (fun h => hb2 ⟨k1, h⟩)]
        · rw [if_neg k1, if_pos hne']
      refine Eq.trans ?_ (congrArg (fun a => some (resL a)) ev.symm)
      rfl
    · have hl0 : e.l = [] := by simpa using hne
      by_cases k1 : e.k = 1
      · have ev : evLine e t = none := by
          unfold evLine; rw [if_neg nr, if_pos k1, if_neg (fun h => hb2 ⟨k1, h⟩)]
        have q2 : (e.k == 2) = false := by rw [k1]; rfl
        have q3 : (e.k == 3) = false := by rw [k1]; rfl
        have q4 : (e.k == 4) = false := by rw [k1]; rfl
        have hbf : b = false := by cases b; rfl; exact absurd rfl hb1
        simp only [q2, Bool.false_eq_true, if_false]
        rw [J_story_print_2_eq]
        simp only [D.toInt_int, D.toBool_bool, q3, Bool.false_eq_true, if_false]
        rw [J_story_print_3_eq, ev]
        simp only [D.toInt_int, D.toBool_bool, q3, q4, Bool.false_eq_true, if_false]
        rfl
      · refine cutI (fun k2 => ?_) fun k2 => ?_
        · replace k2 := beq_iff_eq.1 k2
          exact J2 k1 hl0 _ _ _ _ (by
            by_cases w0 : e.w = 0
            · rw [decide_eq_true (⟨k2, w0⟩ : e.k = 2 ∧ e.w = 0)]; simp [w0]
            · rw [decide_eq_false (fun h : e.k = 2 ∧ e.w = 0 => w0 h.2)]; simp [w0])
        · exact J2 k1 hl0 _ _ _ _ (decide_eq_false (fun h => k2 (beq_iff_eq.2 h.1))).symm
theorem print_ev (e : Ev) (t : Nat) (ht : t ≤ 10000) (hl : e.l.length ≤ 100000) (w1 : -9223372036854775808 ≤ e.w) (w2 : e.w ≤ 9223372036854775807) (n1 : -9223372036854775808 ≤ e.n) (n2 : e.n ≤ 9223372036854775807) :
    FX 26 [.int e.k, .int e.w, .int e.n, .str (toB e.l), .int (t : Nat)] = some (resL (evLine e t)) := by
  have zn : ByteArray.mk #[] = toB [] := rfl
  have z32 : ByteArray.mk #[32] = toB [32] := rfl
  have zs : ByteArray.mk #[115, 97, 121, 32] = toB (sayB ++ [32]) := rfl
  have zt : ByteArray.mk #[116, 105, 99, 107, 32] = toB (tickB ++ [32]) := rfl
  have zp : ByteArray.mk #[112, 105, 99, 107, 32] = toB (pickB ++ [32]) := rfl
  have zd : ByteArray.mk #[100, 114, 97, 119, 32] = toB (drawB ++ [32]) := rfl
  have l1 : sayB.length = 3 := rfl
  have l2 : tickB.length = 4 := rfl
  have l3 : pickB.length = 4 := rfl
  have l4 : drawB.length = 4 := rfl
  have s1 := itoa_short w1 w2
  have s2 := itoa_short n1 n2
  have s3 := itoa_short (n := (t : Int)) (by omega) (by omega)
  have i1 := itoa_all e.w w1 w2
  have i2 := itoa_all e.n n1 n2
  have i3 := itoa_all (t : Int) (by omega) (by omega)
  rw [E_story_print]
  simp only [range_eq, bS1, List.getD_cons_zero, D.toBool_bool, i1, i2, D.toInt_int, has_eq]
  by_cases hr : inR e.w ∧ inR e.n
  · have hr1 := hr.1
    have hr2 := hr.2
    simp only [hr1, hr2, decide_true, Bool.not_true, Bool.false_eq_true, if_false]
    have J1 := print_j1 e t ht hl w1 w2 n1 n2 hr
    refine cutI (fun k1 => ?_) fun k1 => ?_
    · replace k1 := beq_iff_eq.1 k1
      refine cutI (fun n0 => ?_) fun n0 => ?_
      · replace n0 := beq_iff_eq.1 n0
        refine J1 _ _ _ ?_
        cases ha : e.l.any (· == 10) with
        | true => rw [decide_eq_false (by simp)]; rfl
        | false => rw [decide_eq_true ⟨k1, n0, rfl⟩]; rfl
      · exact J1 _ _ _ (decide_eq_false (fun h => n0 (beq_iff_eq.2 h.2.1))).symm
    · exact J1 _ _ _ (decide_eq_false (fun h => k1 (beq_iff_eq.2 h.1))).symm
  · have ev : evLine e t = none := by unfold evLine; rw [if_pos hr]
    refine Eq.trans ?_ (congrArg (fun a => some (resL a)) ev.symm)
    by_cases hr1 : inR e.w
    · have hr2 : ¬ inR e.n := fun h => hr ⟨hr1, h⟩
      simp only [hr1, hr2, decide_true, decide_false, Bool.not_true, Bool.not_false, Bool.false_eq_true, if_false, if_true]
      rfl
    · simp only [hr1, decide_false, Bool.not_false, if_true]
      rfl
end Go.Proofs.YtnaemggpelolcaaGreatDoor.StoD
