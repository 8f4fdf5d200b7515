/-
  Words of a line, numbers as lines have them: plain laws, no program in sight.
-/
import Derived.Test.YtilkbgdfndifgaaGreatDoorEngX
import Derived.Lib.SplitLaws
import Derived.Lib.Atoi
import Derived.Lib.Itoa
namespace Go.Proofs.YtilkbgdfndifgaaGreatDoor.WordP
open Go.Proofs.YtilkbgdfndifgaaGreatDoor.Eng
set_option linter.unusedVariables false
set_option linter.unusedSimpArgs false

abbrev Bs := List UInt8
def toB (l : Bs) : ByteArray := ⟨l.toArray⟩
@[simp] theorem toB_size (l : Bs) : (toB l).size = l.length := by simp [toB, ByteArray.size]
@[simp] theorem toB_list (l : Bs) : (toB l).data.toList = l := by simp [toB]
theorem toB_of (s : ByteArray) : toB s.data.toList = s := by simp [toB]
theorem toB_inj {a b : Bs} (h : toB a = toB b) : a = b := by have := congrArg (fun s => s.data.toList) h; simpa using this
theorem toB_get (l : Bs) (i : Nat) : (toB l).data.getD i 0 = l.getD i 0 := by
  simp [toB, Array.getD_eq_getD_getElem?, List.getD_eq_getElem?_getD]
theorem eql_toB (a b : Bs) : scmpF .eql (toB a) (toB b) = (a == b) := by
  simp only [scmpF, Go.Lib.toList_data, toB_list]
theorem neq_toB (a b : Bs) : scmpF .neq (toB a) (toB b) = !(a == b) := by
  simp only [scmpF, Go.Lib.toList_data, toB_list]
theorem extract_toB (l : Bs) (a b : Nat) : (toB l).extract a b = toB ((l.drop a).take (b - a)) := by
  rw [← toB_of ((toB l).extract a b), Go.Lib.extract_data, toB_list]
theorem append_toB (a b : Bs) : toB a ++ toB b = toB (a ++ b) := by
  rw [← toB_of (toB a ++ toB b)]
  simp [toB, ByteArray.data_append]

/-- Cut at each blank. -/
def sp : Bs → List Bs
  | [] => [[]]
  | c :: l => if c = 32 then [] :: sp l else match sp l with
    | w :: ws => (c :: w) :: ws
    | [] => [[c]]
theorem sp_ne (l : Bs) : sp l ≠ [] := by
  cases l with
  | nil => simp [sp]
  | cons c l =>
    unfold sp
    split
    · simp
    · split <;> simp
theorem sp_cons {c : UInt8} {l : Bs} (h : c ≠ 32) : ∃ w ws, sp l = w :: ws ∧ sp (c :: l) = (c :: w) :: ws := by
  cases hs : sp l with
  | nil => exact absurd hs (sp_ne l)
  | cons w ws => exact ⟨w, ws, rfl, by simp [sp, h, hs]⟩
open Go.Lib in
theorem splitK_sp : ∀ l : Bs, splitK [32] 0 (count l [32]) l = sp l
  | [] => by rw [count_miss (by simp [index])]; rfl
  | b :: l => by
    have ih := splitK_sp l
    by_cases h : b = 32
    · subst h
      rw [count_cons_eq, Nat.add_comm]
      have hix : index (32 :: l) [32] = 0 := by rw [index]; simp [List.isPrefixOf]
      unfold splitK
      rw [hix]
      simp only [show ((0 : Int) == -1) = false from rfl, Bool.false_eq_true, if_false]
      show List.take 0 _ :: splitK [32] 0 (count l [32]) (List.drop 1 (32 :: l)) = _
      simp [sp, ih]
    · rw [count_cons_ne b 32 l h]
      obtain ⟨w, ws, e1, e2⟩ := sp_cons (l := l) h
      rw [e2]
      rw [e1] at ih
      have hix : index (b :: l) [32] = if index l [32] == -1 then -1 else index l [32] + 1 := by rw [index]; simp [List.isPrefixOf, Ne.symm h]
      cases hc : count l [32] with
      | zero =>
        rw [hc] at ih
        simp only [splitK] at ih ⊢
        simp only [List.cons.injEq] at ih
        rw [ih.1, ih.2]
      | succ k =>
        rw [hc] at ih
        unfold splitK at ih ⊢
        by_cases hm : index l [32] = -1
        · rw [hix]
          simp only [hm, beq_self_eq_true, if_true] at ih ⊢
          simp only [List.cons.injEq] at ih
          rw [ih.1, ih.2]
        · have hge := index_ge l [32]
          obtain ⟨j, hj⟩ : ∃ j : Nat, index l [32] = j := ⟨(index l [32]).toNat, by omega⟩
          have e0 : (index l [32] == -1) = false := by simpa using hm
          have hix' : index (b :: l) [32] = ((j + 1 : Nat) : Int) := by rw [hix, e0]; simp [hj]
          have e3 : (((j + 1 : Nat) : Int) == -1) = false := by simp; omega
          rw [hix', e3]
          rw [e0, hj] at ih
          simp only [Bool.false_eq_true, if_false, Int.toNat_natCast, Nat.add_zero, List.take_succ_cons, List.cons.injEq, List.length_cons, List.length_nil] at ih ⊢
          refine ⟨⟨trivial, ih.1⟩, ?_⟩
          rw [← ih.2]
          simp
theorem split_sp (s : Bs) : (Go.Lib.splitB (toB [32]) 0 (Go.Lib.countB (toB s) (toB [32])) (toB s)) = (sp s).map toB := by
  have h := Go.Lib.splitB_data (toB [32]) 0 (Go.Lib.countB (toB s) (toB [32])) (toB s)
  have hc : Go.Lib.countB (toB s) (toB [32]) = Go.Lib.count s [32] := by unfold Go.Lib.countB; simp
  rw [hc] at h ⊢
  rw [toB_list, toB_list, splitK_sp] at h
  rw [← h, List.map_map]
  have : (toB ∘ fun x : ByteArray => x.data.toList) = id := by funext x; exact toB_of x
  rw [this, List.map_id]
theorem count_bound (s : Bs) : (sp s).length = Go.Lib.count s [32] + 1 := by
  have h := Go.Lib.splitB_all (toB [32]) (by simp) 0 _ (toB s) rfl
  rw [split_sp] at h
  simpa [Go.Lib.countB] using h
/-- What the words come to, with their blanks. -/
def span (ws : List Bs) : Nat := (ws.map fun w => w.length + 1).sum
theorem span_sp : ∀ s : Bs, span (sp s) = s.length + 1
  | [] => rfl
  | c :: l => by
    have ih := span_sp l
    by_cases h : c = 32
    · simp only [sp, h, if_true, span, List.map_cons, List.sum_cons] at ih ⊢
      simp only [List.length_nil, List.length_cons]
      omega
    · obtain ⟨w, ws, e1, e2⟩ := sp_cons (l := l) h
      rw [e1] at ih
      rw [e2]
      simp only [span, List.map_cons, List.sum_cons, List.length_cons] at ih ⊢
      omega
/-! Numbers. -/
def dgt (c : UInt8) : Bool := decide (48 ≤ c.toNat) && decide (c.toNat ≤ 57)
def dig (w : Bs) : Bool := !(w == []) && decide (w.length ≤ 7) && !(w.getD 0 0 == 48 && !(w == [48])) && w.all dgt
def valF (acc : Nat) (w : Bs) : Nat := w.foldl (fun n c => n * 10 + (c.toNat - 48)) acc
def val (w : Bs) : Nat := valF 0 w
open Go.Lib in
theorem decFrom_val : ∀ (w : Bs) (acc : Nat), w.all dgt = true → decFrom acc w = some (valF acc w)
  | [], acc, _ => rfl
  | c :: w, acc, h => by
    simp only [List.all_cons, Bool.and_eq_true] at h
    have hc : digitVal c = some (c.toNat - 48) := by
      have := h.1
      simp only [dgt, Bool.and_eq_true, decide_eq_true_eq] at this
      unfold digitVal
      rw [if_pos this]
    simp only [decFrom, hc]
    exact decFrom_val w _ h.2
open Go.Lib in
theorem atoi_val {w : Bs} (hw : w ≠ []) (h : w.all dgt = true) : atoi w = some (val w : Int) := by
  cases w with
  | nil => exact absurd rfl hw
  | cons c w =>
    have hc : 48 ≤ c.toNat ∧ c.toNat ≤ 57 := by
      simp only [List.all_cons, Bool.and_eq_true, dgt, decide_eq_true_eq] at h
      exact h.1
    have h45 : (c == 45) = false := by
      simp only [beq_eq_false_iff_ne, ne_eq]
      rintro rfl
      exact absurd hc.1 (by decide)
    have h43 : (c == 43) = false := by
      simp only [beq_eq_false_iff_ne, ne_eq]
      rintro rfl
      exact absurd hc.1 (by decide)
    simp only [atoi, h45, h43, Bool.false_eq_true, if_false, decNat, List.isEmpty_cons, decFrom_val (c :: w) 0 h, Option.map_some]
    rfl
theorem valF_lt : ∀ (w : Bs) (acc : Nat), w.all dgt = true → valF acc w < (acc + 1) * 10 ^ w.length
  | [], acc, _ => by simp [valF]
  | c :: w, acc, h => by
    simp only [List.all_cons, Bool.and_eq_true, dgt, decide_eq_true_eq] at h
    have ih := valF_lt w (acc * 10 + (c.toNat - 48)) h.2
    show valF (acc * 10 + (c.toNat - 48)) w < _
    have h1 : acc * 10 + (c.toNat - 48) + 1 ≤ (acc + 1) * 10 := by omega
    have h2 : (acc * 10 + (c.toNat - 48) + 1) * 10 ^ w.length ≤ (acc + 1) * 10 * 10 ^ w.length := Nat.mul_le_mul_right _ h1
    have h3 : (acc + 1) * 10 * 10 ^ w.length = (acc + 1) * 10 ^ (c :: w).length := by rw [List.length_cons, Nat.pow_succ, Nat.mul_assoc, Nat.mul_comm 10]
    omega
theorem val_lt {w : Bs} (h : dig w = true) : val w ≤ 9999999 := by
  simp only [dig, Bool.and_eq_true, decide_eq_true_eq] at h
  have h1 := valF_lt w 0 h.2
  have h2 : (10 : Nat) ^ w.length ≤ 10 ^ 7 := Nat.pow_le_pow_right (by omega) h.1.1.2
  unfold val
  omega
end Go.Proofs.YtilkbgdfndifgaaGreatDoor.WordP
