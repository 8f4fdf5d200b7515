/-
  Plan on data: loops, events, rows by turns, comparisons.
-/
import Derived.Test.YtankedgkiecgaaaAllE
import Derived.Test.YtankedgkiecgaaaDat
import Derived.Test.YtankedgkiecgaaaOpen
namespace Go.Proofs.Ytankedgkiecgaaa.PlanD
open Go.Proofs.Ytankedgkiecgaaa.Eng Go.Proofs.Ytankedgkiecgaaa Go.Proofs.Ytankedgkiecgaaa.Dat Go.Proofs.Ytankedgkiecgaaa.Open
set_option linter.unusedVariables false
set_option linter.unusedSimpArgs false
set_option maxRecDepth 10000

/-- A loop that goes on. -/
theorem loop_to (W : Eng.Fn) (st : Nat → List D) : ∀ n, (∀ j, j < n → W (st j) = W (st (j + 1))) → W (st 0) = W (st n)
  | 0, _ => rfl
  | n + 1, h => (loop_to W st n fun j hj => h j (by omega)).trans (h n (by omega))
theorem loop_from (W : Eng.Fn) (st : Nat → List D) (n : Nat) {s0 : List D} (h0 : st 0 = s0) (h : ∀ j, j < n → W (st j) = W (st (j + 1))) : W s0 = W (st n) := h0 ▸ loop_to W st n h
theorem getD_map {α : Type} (f : α → D) {l : List α} {j : Nat} (h : j < l.length) : (l.map f).getD j .nil = f l[j] := by
  rw [List.getD_eq_getElem?_getD, List.getElem?_map, List.getElem?_eq_getElem h]; rfl
theorem take_map {α : Type} (f : α → D) {l : List α} {j : Nat} (h : j < l.length) : (l.take (j + 1)).map f = (l.take j).map f ++ [f l[j]] := by
  rw [List.take_succ_eq_append_getElem h, List.map_append]; rfl
theorem wj {j : Nat} (h : j < 9000000000000000) : IntKind.i64.wrap ((j : Int) + 1) = ((j + 1 : Nat) : Int) := by rw [i64w _ (by omega) (by omega)]; simp

def pk (a : Int) : D := .agg [.int 3, .int a, .int 0, .int 0, .int 0, .int 0, .int 0, .int 0, .int 0, .int 0, .int 0, .int 0]
def tk : D := .agg [.int 2, .int 0, .int 1, .int 0, .int 0, .int 0, .int 0, .int 0, .int 0, .int 0, .int 0, .int 0]
def ev (a : Int) : D := if a < 0 then tk else pk a
theorem ev_neg {a : Int} (h : a < 0) : ev a = tk := if_pos h
theorem ev_pos {a : Int} (h : ¬ a < 0) : ev a = pk a := if_neg h
def ints (l : List Int) : D := .agg (l.map D.int)
def evs (l : List Int) : D := .agg (l.map ev)
@[simp] theorem ints_l (l : List Int) : (ints l).toL = l.map D.int := rfl
@[simp] theorem evs_l (l : List Int) : (evs l).toL = l.map ev := rfl
def rows (ls : List (List Int)) : D := .agg (ls.map fun r => ints r)
def erows (ls : List (List Int)) : D := .agg (ls.map fun r => evs r)
@[simp] theorem rows_l (l : List (List Int)) : (rows l).toL = l.map ints := rfl
@[simp] theorem erows_l (l : List (List Int)) : (erows l).toL = l.map evs := rfl
theorem copy_pk (a : Int) : D.agg ((pk a).toL.getD 0 .nil :: (pk a).toL.getD 1 .nil :: (pk a).toL.getD 2 .nil :: (pk a).toL.getD 3 .nil :: (pk a).toL.getD 4 .nil :: (pk a).toL.getD 5 .nil :: (pk a).toL.getD 6 .nil :: (pk a).toL.getD 7 .nil :: (pk a).toL.getD 8 .nil :: (pk a).toL.getD 9 .nil :: (pk a).toL.getD 10 .nil :: (pk a).toL.getD 11 .nil :: []) = pk a := rfl
theorem copy_ev (a : Int) : D.agg ((ev a).toL.getD 0 .nil :: (ev a).toL.getD 1 .nil :: (ev a).toL.getD 2 .nil :: (ev a).toL.getD 3 .nil :: (ev a).toL.getD 4 .nil :: (ev a).toL.getD 5 .nil :: (ev a).toL.getD 6 .nil :: (ev a).toL.getD 7 .nil :: (ev a).toL.getD 8 .nil :: (ev a).toL.getD 9 .nil :: (ev a).toL.getD 10 .nil :: (ev a).toL.getD 11 .nil :: []) = ev a := by
  unfold ev; split <;> rfl

theorem events_eq (l : List Int) (hl : l.length ≤ 1000000) : FX 9 [ints l] = some [evs l] := by
  rw [E_law21_events]
  have h := loop_from (W_law21_events_1 (ints l)) (fun j => [.int (j : Nat), .agg ((l.take j).map ev)]) l.length (s0 := [.int 0, .agg []]) (by simp) (fun j hj => by
    have h1 : (j : Int) < (l.length : Int) := by omega
    rw [W_law21_events_1_eq]
    simp only [D.toInt_int, D.toL_agg, ints_l, evs_l, rows_l, erows_l, List.length_map, h1, decide_true, if_true, ge_iff_le, Int.natCast_nonneg, Int.toNat_natCast, getD_map D.int hj, wj (show j < 9000000000000000 by omega)]
    have hb : ∀ x : D, ((((l.take j).map ev ++ [x]).length : Nat) : Int) ≤ 1466015503701 := fun x => by simp; omega
    by_cases h0 : l[j] < 0
    · simp only [h0, decide_true, if_true, hb]
      rw [take_map ev hj, ev_neg h0]; rfl
    · simp only [h0, decide_false, Bool.false_eq_true, if_false, hb, decide_true, if_true]
      rw [take_map ev hj, ev_pos h0]; rfl)
  rw [h, W_law21_events_1_eq]
  simp only [D.toInt_int, D.toL_agg, ints_l, evs_l, rows_l, erows_l, List.length_map, Int.lt_irrefl, decide_false, Bool.false_eq_true, if_false, List.take_length]
  rfl

theorem same_eq (l : List Int) (hl : l.length ≤ 1000000000) : FX 12 [evs l, ints l] = some [.bool true] := by
  rw [E_law21_same]
  simp only [D.toL_agg, ints_l, evs_l, List.length_map, bne_self_eq_false, Bool.false_eq_true, if_false]
  have h := loop_to (W_law21_same_1 (evs l) (ints l)) (fun j => [.int (j : Nat)]) l.length (fun j hj => by
    have h1 : (j : Int) < (l.length : Int) := by omega
    rw [W_law21_same_1_eq]
    simp only [D.toInt_int, D.toL_agg, ints_l, evs_l, rows_l, erows_l, List.length_map, h1, decide_true, if_true, ge_iff_le, Int.natCast_nonneg, Int.toNat_natCast, getD_map D.int hj, getD_map ev hj, wj (show j < 9000000000000000 by omega)]
    by_cases h0 : l[j] < 0
    · simp only [ev_neg h0]
      simp only [tk, D.toL_agg, List.getD_cons_zero, List.getD_cons_succ, D.toInt_int, h0, decide_true, if_true, beq_self_eq_true]
    · simp only [ev_pos h0]
      simp [pk])
  refine Eq.trans h ?_
  rw [W_law21_same_1_eq]
  simp only [D.toInt_int, D.toL_agg, ints_l, evs_l, rows_l, erows_l, List.length_map, Int.lt_irrefl, decide_false, Bool.false_eq_true, if_false]

/-! Rows by turns. -/
def most : List (List Int) → Nat
  | [] => 0
  | x :: l => max x.length (most l)
theorem most_snoc (l : List (List Int)) (x : List Int) : most (l ++ [x]) = max (most l) x.length := by
  induction l with
  | nil => simp [most]
  | cons y l ih => simp only [List.cons_append, most, ih]; omega
theorem le_most {ls : List (List Int)} {x : List Int} (h : x ∈ ls) : x.length ≤ most ls := by
  induction ls with
  | nil => cases h
  | cons y l ih =>
    simp only [most]
    rcases List.mem_cons.1 h with rfl | h
    · omega
    · have := ih h; omega
theorem any_most (ls : List (List Int)) (k : Nat) : (ls.any fun x => decide (k < x.length)) = decide (k < most ls) := by
  induction ls with
  | nil => simp [most]
  | cons y l ih => simp only [List.any_cons, ih, most, ← Bool.decide_or]; exact decide_eq_decide.2 (by omega)
def lev (ls : List (List Int)) (k : Nat) : List Int := ls.filterMap (·[k]?)
def mixTo (ls : List (List Int)) (k : Nat) : List Int := (List.range k).flatMap (lev ls)
def mix (ls : List (List Int)) : List Int := mixTo ls (most ls)
theorem mixTo_succ (ls : List (List Int)) (k : Nat) : mixTo ls (k + 1) = mixTo ls k ++ lev ls k := by
  simp [mixTo, List.range_succ]
theorem lev_len (ls : List (List Int)) (k : Nat) : (lev ls k).length ≤ ls.length := List.length_filterMap_le ..
theorem mixTo_len (ls : List (List Int)) : ∀ k, (mixTo ls k).length ≤ k * ls.length
  | 0 => by simp [mixTo]
  | k + 1 => by
    rw [mixTo_succ, List.length_append, Nat.add_mul, Nat.one_mul]
    have := mixTo_len ls k
    have := lev_len ls k
    omega
theorem lev_take (ls : List (List Int)) (k i : Nat) (hi : i < ls.length) : lev (ls.take (i + 1)) k = lev (ls.take i) k ++ (ls[i][k]?).toList := by
  unfold lev
  rw [List.take_succ_eq_append_getElem hi, List.filterMap_append]
  cases h : ls[i][k]? <;> simp [h]
theorem lev_end (ls : List (List Int)) : lev ls (most ls) = [] := by
  unfold lev
  rw [List.filterMap_eq_nil_iff]
  intro x hx
  exact List.getElem?_eq_none (le_most hx)

theorem refMix_eq (ls : List (List Int)) (h1 : ls.length ≤ 1000) (h2 : most ls ≤ 1000) : FX 10 [rows ls] = some [ints (mix ls)] := by
  rw [E_ref21_Mix]
  have hA := loop_from (W_ref21_Mix_1 (rows ls)) (fun j => [.int (most (ls.take j) : Nat), .int (j : Nat)]) ls.length (s0 := [.int 0, .int 0]) (by simp [most]) (fun j hj => by
    have h1 : (j : Int) < (ls.length : Int) := by omega
    rw [W_ref21_Mix_1_eq]
    simp only [D.toInt_int, D.toL_agg, ints_l, evs_l, rows_l, erows_l, List.length_map, h1, decide_true, if_true, ge_iff_le, Int.natCast_nonneg, Int.toNat_natCast, getD_map ints hj, wj (show j < 9000000000000000 by omega)]
    rw [List.take_succ_eq_append_getElem hj, most_snoc]
    by_cases h : ((ls[j].length : Nat) : Int) > ((most (ls.take j) : Nat) : Int)
    · simp only [h, decide_true, if_true]
      rw [show max (most (ls.take j)) ls[j].length = ls[j].length by omega]
    · simp only [h, decide_false, Bool.false_eq_true, if_false]
      rw [show max (most (ls.take j)) ls[j].length = most (ls.take j) by omega])
  rw [hA, W_ref21_Mix_1_eq]
  simp only [D.toInt_int, D.toL_agg, ints_l, evs_l, rows_l, erows_l, List.length_map, Int.lt_irrefl, decide_false, Bool.false_eq_true, if_false, List.take_length]
  generalize W_ref21_Mix_1 (rows ls) = g0
  have hB := loop_from (W_ref21_Mix_2 (rows ls) (.int (most ls : Nat)) (.int (ls.length : Nat)) g0) (fun k => [.int (k : Nat), ints (mixTo ls k)]) (most ls) (s0 := [.int 0, .agg []]) (by simp [mixTo, ints, evs]) (fun k hk => by
    rw [W_ref21_Mix_2_eq]
    have h1 : (k : Int) < (most ls : Int) := by omega
    simp only [D.toInt_int, h1, decide_true, if_true]
    generalize W_ref21_Mix_2 (rows ls) (.int (most ls : Nat)) (.int (ls.length : Nat)) g0 = g1
    have hlen := mixTo_len ls k
    have hmul : k * ls.length ≤ 1000 * 1000 := Nat.mul_le_mul (by omega) (by omega)
    have hC := loop_from (W_ref21_Mix_3 (rows ls) (.int (most ls : Nat)) (.int (ls.length : Nat)) (.int (k : Nat)) (ints (mixTo ls k)) g0 g1) (fun i => [.int (i : Nat), ints (mixTo ls k ++ lev (ls.take i) k)]) ls.length (s0 := [.int 0, ints (mixTo ls k)]) (by simp [lev]) (fun i hi => by
      have h1 : (i : Int) < (ls.length : Int) := by omega
      rw [W_ref21_Mix_3_eq]
      simp only [D.toInt_int, D.toL_agg, ints_l, evs_l, rows_l, erows_l, List.length_map, h1, decide_true, if_true, ge_iff_le, Int.natCast_nonneg, Int.toNat_natCast, getD_map ints hi, wj (show i < 9000000000000000 by omega)]
      rw [lev_take ls k i hi]
      by_cases h : k < ls[i].length
      · have h' : (k : Int) < (ls[i].length : Int) := by omega
        have hb : ((((mixTo ls k ++ lev (ls.take i) k).map D.int ++ [D.int ls[i][k]]).length : Nat) : Int) ≤ 17592186044416 := by
          have := lev_len (ls.take i) k
          simp at this ⊢; omega
        simp only [h', decide_true, if_true, getD_map D.int h, hb]
        rw [List.getElem?_eq_getElem h]
        simp [ints]
      · have h' : ¬ (k : Int) < (ls[i].length : Int) := by omega
        simp only [h', decide_false, Bool.false_eq_true, if_false]
        rw [List.getElem?_eq_none (by omega)]
        simp)
    rw [hC, W_ref21_Mix_3_eq]
    simp only [D.toInt_int, D.toL_agg, ints_l, evs_l, rows_l, erows_l, List.length_map, Int.lt_irrefl, decide_false, Bool.false_eq_true, if_false, List.take_length, wj (show k < 9000000000000000 by omega), mixTo_succ])
  rw [hB, W_ref21_Mix_2_eq]
  simp only [D.toInt_int, Int.lt_irrefl, decide_false, Bool.false_eq_true, if_false]
  rfl
theorem mix_eq (ls : List (List Int)) (h1 : ls.length ≤ 1000) (h2 : most ls ≤ 1000) : FX 11 [erows ls] = some [evs (mix ls)] := by
  rw [E_plan_Mix]
  have hIn : ∀ k, k ≤ 1000 → ∀ x2 g0, W_plan_Mix_2 (erows ls) (.int (k : Nat)) x2 g0 [.bool false, .int 0, evs (mixTo ls k)] = if k < most ls then g0 [.int ((k + 1 : Nat) : Int), evs (mixTo ls (k + 1))] else some [evs (mixTo ls (k + 1))] := by
    intro k hk x2 g0
    have hlen := mixTo_len ls k
    have hmul : k * ls.length ≤ 1000 * 1000 := Nat.mul_le_mul (by omega) (by omega)
    have hC := loop_from (W_plan_Mix_2 (erows ls) (.int (k : Nat)) x2 g0) (fun i => [.bool ((ls.take i).any fun x => decide (k < x.length)), .int (i : Nat), evs (mixTo ls k ++ lev (ls.take i) k)]) ls.length (s0 := [.bool false, .int 0, evs (mixTo ls k)]) (by simp [lev]) (fun i hi => by
      have h1 : (i : Int) < (ls.length : Int) := by omega
      rw [W_plan_Mix_2_eq]
      simp only [D.toInt_int, D.toL_agg, ints_l, evs_l, rows_l, erows_l, List.length_map, h1, decide_true, if_true, ge_iff_le, Int.natCast_nonneg, Int.toNat_natCast, getD_map evs hi, wj (show i < 9000000000000000 by omega)]
      rw [lev_take ls k i hi, List.take_succ_eq_append_getElem hi, List.any_append]
      by_cases h : k < ls[i].length
      · have h' : (k : Int) < (ls[i].length : Int) := by omega
        have hb : ((((mixTo ls k ++ lev (ls.take i) k).map ev ++ [ev ls[i][k]]).length : Nat) : Int) ≤ 1466015503701 := by
          have := lev_len (ls.take i) k
          simp at this ⊢; omega
        simp only [h', decide_true, if_true, getD_map ev h, copy_ev, hb]
        rw [List.getElem?_eq_getElem h]
        simp [h, evs]
      · have h' : ¬ (k : Int) < (ls[i].length : Int) := by omega
        simp only [h', decide_false, Bool.false_eq_true, if_false]
        rw [List.getElem?_eq_none (by omega)]
        simp [h])
    rw [hC, W_plan_Mix_2_eq]
    simp only [D.toInt_int, D.toL_agg, ints_l, evs_l, rows_l, erows_l, List.length_map, Int.lt_irrefl, decide_false, Bool.false_eq_true, if_false, List.take_length, wj (show k < 9000000000000000 by omega), mixTo_succ, any_most, D.toBool_bool]
    by_cases h : k < most ls <;> simp [h]
  have hB := loop_from (W_plan_Mix_1 (erows ls)) (fun k => [.int (k : Nat), evs (mixTo ls k)]) (most ls) (s0 := [.int 0, .agg []]) (by simp [mixTo, ints, evs]) (fun k hk => by
    rw [W_plan_Mix_1_eq, hIn k (by omega), if_pos hk])
  rw [hB, W_plan_Mix_1_eq, hIn _ h2, if_neg (by omega), mixTo_succ, lev_end, List.append_nil]
  rfl
end Go.Proofs.Ytankedgkiecgaaa.PlanD
