/-
  Replies as words: plain laws. Right replies that have the same words are the same.
-/
import Derived.Test.YtmgpbjennnadhaaGreatDoorPrintP
namespace Go.Proofs.YtmgpbjennnadhaaGreatDoor.WordP
open Go.Lib (decDigits)
set_option linter.unusedVariables false
set_option linter.unusedSimpArgs false

structure Rep where
  kind : Int
  code : Int
  tick : Int
  id : Int
  cell : Int
  asked : Bool
  rk : Int
  rq : Int
  rp : Int
  rt : Int
  rc : Int
  rg : Int
  looks : List (Int × Int × Int)
def most (n : Int) : Prop := 0 ≤ n ∧ n ≤ 9999999
def lookRight (l : Int × Int × Int) : Prop := (l.1 = 0 ∨ l.1 = 1 ∨ l.1 = 5 ∨ l.1 = 6 ∨ l.1 = 7 ∨ l.1 = 8) ∧ most l.2.1 ∧ most l.2.2
/-- What may be told. -/
structure Rep.Right (r : Rep) : Prop where
  kind : r.kind = 1 ∨ r.kind = 2 ∨ r.kind = 3 ∨ r.kind = 4
  tick : 0 ≤ r.tick ∧ r.tick ≤ 1000000
  id : most r.id
  cell : most r.cell
  code : 0 ≤ r.code
  id0 : 3 ≤ r.kind → r.id = 0
  cell0 : r.kind = 4 → r.cell = 0
  asked : r.asked = true → r.kind = 2 ∧ r.code = 0
  rcd : (r.rk = 0 ∧ r.rq = 0 ∧ r.rp = 0 ∧ r.rt = 0 ∧ r.rc = 0 ∧ r.rg = 0) ∨ (r.kind = 3 ∧ r.code = 0 ∧ (1 ≤ r.rk ∧ r.rk ≤ 5) ∧ most r.rq ∧ most r.rp ∧ most r.rt ∧ r.rc = 0 ∧ r.rg = 0)
  looks : ∀ l ∈ r.looks, r.kind = 4 ∧ r.code = 0 ∧ lookRight l
def recB (k : Int) : Bs :=
  if k = 1 then [102, 105, 108, 108] else if k = 2 then [102, 105, 108, 108, 101, 100] else if k = 3 then [99, 97, 110, 99, 101, 108, 108, 101, 100] else if k = 4 then [101, 120, 112, 105, 114, 101, 100]
  else if k = 5 then [114, 101, 116, 105, 114, 101, 100] else [110, 111, 110, 101]
def lookB (k : Int) : Bs :=
  if k = 0 then [102, 114, 101, 101] else if k = 1 then [108, 105, 118, 101] else if k = 5 then [102, 105, 108, 108, 101, 100] else if k = 6 then [99, 97, 110, 99, 101, 108, 108, 101, 100] else if k = 7 then [101, 120, 112, 105, 114, 101, 100]
  else if k = 8 then [114, 101, 116, 105, 114, 101, 100] else []
def errorB : Bs := [101, 114, 114, 111, 114]
def askedB : Bs := [97, 115, 107, 101, 100]
def okB : Bs := [111, 107]
def decI (n : Int) : Bs := decDigits n.toNat
def looksW (l : List (Int × Int × Int)) : List Bs := l.flatMap fun l => [lookB l.1, decI l.2.1, decI l.2.2]
def Rep.tail (r : Rep) : List Bs :=
  if r.code ≠ 0 then [errorB, decI r.code] else if r.asked = true then [askedB] else if r.kind ≤ 2 then [okB]
  else if r.kind = 3 then recB r.rk :: (if 0 < r.rk then [decI r.rq, decI r.rp, decI r.rt] else []) else looksW r.looks
def Rep.words (r : Rep) : List Bs := decI r.tick :: verbK r.kind :: ((if r.kind ≤ 2 then [decI r.id] else []) ++ ((if r.kind ≤ 3 then [decI r.cell] else []) ++ r.tail))
theorem decI_inj {m n : Int} (hm : 0 ≤ m) (hn : 0 ≤ n) (h : decI m = decI n) : m = n := by
  have e1 := (dec_good m.toNat).2.1
  have e2 := (dec_good n.toNat).2.1
  unfold decI at h
  rw [h, e2] at e1
  omega
theorem verbK_inj {m n : Int} (hm : m = 1 ∨ m = 2 ∨ m = 3 ∨ m = 4) (hn : n = 1 ∨ n = 2 ∨ n = 3 ∨ n = 4) (h : verbK m = verbK n) : m = n := by
  rcases hm with rfl | rfl | rfl | rfl <;> rcases hn with rfl | rfl | rfl | rfl <;> first | rfl | (exfalso; revert h; decide)
theorem lookB_inj {m n : Int} (hm : m = 0 ∨ m = 1 ∨ m = 5 ∨ m = 6 ∨ m = 7 ∨ m = 8) (hn : n = 0 ∨ n = 1 ∨ n = 5 ∨ n = 6 ∨ n = 7 ∨ n = 8) (h : lookB m = lookB n) : m = n := by
  rcases hm with rfl | rfl | rfl | rfl | rfl | rfl <;> rcases hn with rfl | rfl | rfl | rfl | rfl | rfl <;> first | rfl | (exfalso; revert h; decide)
theorem lookB_error {m : Int} (hm : m = 0 ∨ m = 1 ∨ m = 5 ∨ m = 6 ∨ m = 7 ∨ m = 8) : lookB m ≠ errorB := by
  rcases hm with rfl | rfl | rfl | rfl | rfl | rfl <;> decide
theorem recB_inj {m n : Int} (hm : 0 ≤ m ∧ m ≤ 5) (hn : 0 ≤ n ∧ n ≤ 5) (h : recB m = recB n) : m = n := by
  obtain ⟨k, rfl⟩ := Int.eq_ofNat_of_zero_le hm.1
  obtain ⟨l, rfl⟩ := Int.eq_ofNat_of_zero_le hn.1
  have hk : k < 6 := by omega
  have hl : l < 6 := by omega
  have : ∀ a b : Fin 6, recB ((a.val : Nat) : Int) = recB ((b.val : Nat) : Int) → a = b := by decide
  have := this ⟨k, hk⟩ ⟨l, hl⟩ h
  simp at this
  omega
theorem recB_error {m : Int} (hm : 0 ≤ m ∧ m ≤ 5) : recB m ≠ errorB ∧ recB m ≠ okB := by
  obtain ⟨k, rfl⟩ := Int.eq_ofNat_of_zero_le hm.1
  have hk : k < 6 := by omega
  have : ∀ a : Fin 6, recB ((a.val : Nat) : Int) ≠ errorB ∧ recB ((a.val : Nat) : Int) ≠ okB := by decide
  exact this ⟨k, hk⟩
theorem looksW_inj : ∀ {a b : List (Int × Int × Int)}, (∀ l ∈ a, lookRight l) → (∀ l ∈ b, lookRight l) → looksW a = looksW b → a = b
  | [], [], _, _, _ => rfl
  | [], x :: b, _, _, h => by simp [looksW] at h
  | x :: a, [], _, _, h => by simp [looksW] at h
  | x :: a, y :: b, ha, hb, h => by
    simp only [looksW, List.flatMap_cons, List.cons_append, List.nil_append, List.cons.injEq] at h
    obtain ⟨h1, h2, h3, h4⟩ := h
    obtain ⟨p1, p2, p3⟩ := ha x (List.mem_cons_self ..)
    obtain ⟨q1, q2, q3⟩ := hb y (List.mem_cons_self ..)
    have e := looksW_inj (fun l hl => ha l (List.mem_cons_of_mem _ hl)) (fun l hl => hb l (List.mem_cons_of_mem _ hl)) h4
    have e1 := lookB_inj p1 q1 h1
    have e2 := decI_inj p2.1 q2.1 h2
    have e3 := decI_inj p3.1 q3.1 h3
    obtain ⟨x1, x2, x3⟩ := x
    obtain ⟨y1, y2, y3⟩ := y
    simp only at e1 e2 e3
    subst e1 e2 e3 e
    rfl
theorem Rep.Right.rk5 {r : Rep} (h : r.Right) : 0 ≤ r.rk ∧ r.rk ≤ 5 := by
  rcases h.rcd with h | h
  · omega
  · omega
theorem Rep.Right.rec0 {r : Rep} (h : r.Right) (hn : r.kind ≠ 3 ∨ r.code ≠ 0) : r.rk = 0 ∧ r.rq = 0 ∧ r.rp = 0 ∧ r.rt = 0 ∧ r.rc = 0 ∧ r.rg = 0 := by
  rcases h.rcd with h | h
  · exact h
  · exfalso; rcases hn with hn | hn
    · exact hn h.1
    · exact hn h.2.1
theorem Rep.Right.looks0 {r : Rep} (h : r.Right) (hn : r.kind ≠ 4 ∨ r.code ≠ 0) : r.looks = [] := by
  cases hl : r.looks with
  | nil => rfl
  | cons x l =>
    have := h.looks x (by rw [hl]; exact List.mem_cons_self ..)
    exfalso; rcases hn with hn | hn
    · exact hn this.1
    · exact hn this.2.1
theorem Rep.Right.asked0 {r : Rep} (h : r.Right) (hn : r.kind ≠ 2 ∨ r.code ≠ 0) : r.asked = false := by
  cases ha : r.asked with
  | false => rfl
  | true =>
    have := h.asked ha
    exfalso; rcases hn with hn | hn
    · exact hn this.1
    · exact hn this.2
/-- The tail's words tell all but the kind, the tick, the order and the cell. -/
theorem tail_inj {a b : Rep} (ha : a.Right) (hb : b.Right) (hk : a.kind = b.kind) (h : a.tail = b.tail) :
    a.code = b.code ∧ a.asked = b.asked ∧ a.looks = b.looks ∧ a.rk = b.rk ∧ a.rq = b.rq ∧ a.rp = b.rp ∧ a.rt = b.rt ∧ a.rc = b.rc ∧ a.rg = b.rg := by
  have d1 : errorB ≠ askedB := by decide
  have d2 : errorB ≠ okB := by decide
  have d3 : askedB ≠ okB := by decide
  have lb : ∀ {r : Rep}, r.Right → ∀ w ws, looksW r.looks ≠ errorB :: w :: ws := by
    intro r hr w ws hh
    cases hl : r.looks with
    | nil => rw [hl] at hh; simp [looksW] at hh
    | cons x l =>
      have := (hr.looks x (by rw [hl]; exact List.mem_cons_self ..)).2.2.1
      rw [hl] at hh
      simp only [looksW, List.flatMap_cons, List.cons_append, List.nil_append, List.cons.injEq] at hh
      exact lookB_error this hh.1
  have hcode : a.code = b.code := by
    unfold Rep.tail at h
    by_cases h1 : a.code ≠ 0 <;> by_cases h2 : b.code ≠ 0
    · rw [if_pos h1, if_pos h2] at h
      simp only [List.cons.injEq, and_true, true_and] at h
      exact decI_inj ha.code hb.code h
    · exfalso
      rw [if_pos h1, if_neg h2] at h
      split at h
      · simp at h
      · split at h
        · simp at h
        · split at h
          · simp only [List.cons.injEq] at h
            exact (recB_error hb.rk5).1 h.1.symm
          · exact lb hb _ _ h.symm
    · exfalso
      rw [if_neg h1, if_pos h2] at h
      split at h
      · simp at h
      · split at h
        · simp at h
        · split at h
          · simp only [List.cons.injEq] at h
            exact (recB_error ha.rk5).1 h.1
          · exact lb ha _ _ h
    · simp only [ne_eq, Decidable.not_not] at h1 h2
      rw [h1, h2]
  refine ⟨hcode, ?_⟩
  by_cases hc : a.code = 0
  · have hc' : b.code = 0 := by rw [← hcode]; exact hc
    unfold Rep.tail at h
    have n1 : ¬ a.code ≠ 0 := fun h => h hc
    have n2 : ¬ b.code ≠ 0 := fun h => h hc'
    rw [if_neg n1, if_neg n2] at h
    rcases ha.kind with k | k | k | k
    all_goals have k' : b.kind = _ := hk.symm.trans k
    · have a1 := ha.asked0 (.inl (by omega)); have b1 := hb.asked0 (.inl (by omega))
      obtain ⟨r1, r2, r3, r4, r5, r6⟩ := ha.rec0 (.inl (by omega)); obtain ⟨s1, s2, s3, s4, s5, s6⟩ := hb.rec0 (.inl (by omega))
      rw [a1, b1, ha.looks0 (.inl (by omega)), hb.looks0 (.inl (by omega)), r1, r2, r3, r4, r5, r6, s1, s2, s3, s4, s5, s6]
      simp
    · obtain ⟨r1, r2, r3, r4, r5, r6⟩ := ha.rec0 (.inl (by omega)); obtain ⟨s1, s2, s3, s4, s5, s6⟩ := hb.rec0 (.inl (by omega))
      rw [ha.looks0 (.inl (by omega)), hb.looks0 (.inl (by omega)), r1, r2, r3, r4, r5, r6, s1, s2, s3, s4, s5, s6]
      refine ⟨?_, by simp⟩
      rw [k, k'] at h
      cases ea : a.asked <;> cases eb : b.asked <;> rw [ea, eb] at h <;> first | rfl | (exfalso; revert h; simp [askedB, okB])
    · have a1 := ha.asked0 (.inl (by omega)); have b1 := hb.asked0 (.inl (by omega))
      rw [a1, b1, k, k'] at h
      simp only [Bool.false_eq_true, if_false, if_true, show ¬ (3 : Int) ≤ 2 by decide, List.cons.injEq] at h
      have er := recB_inj ha.rk5 hb.rk5 h.1
      rw [a1, b1, ha.looks0 (.inl (by omega)), hb.looks0 (.inl (by omega))]
      refine ⟨rfl, rfl, er, ?_⟩
      rcases ha.rcd with ⟨r1, r2, r3, r4, r5, r6⟩ | ⟨_, _, r1, r2, r3, r4, r5, r6⟩ <;> rcases hb.rcd with ⟨s1, s2, s3, s4, s5, s6⟩ | ⟨_, _, s1, s2, s3, s4, s5, s6⟩
      · omega
      · omega
      · omega
      · rw [if_pos (by omega), if_pos (by omega)] at h
        simp only [List.cons.injEq, and_true] at h
        exact ⟨decI_inj r2.1 s2.1 h.2.1, decI_inj r3.1 s3.1 h.2.2.1, decI_inj r4.1 s4.1 h.2.2.2, by omega, by omega⟩
    · have a1 := ha.asked0 (.inl (by omega)); have b1 := hb.asked0 (.inl (by omega))
      obtain ⟨r1, r2, r3, r4, r5, r6⟩ := ha.rec0 (.inl (by omega)); obtain ⟨s1, s2, s3, s4, s5, s6⟩ := hb.rec0 (.inl (by omega))
      rw [a1, b1, k, k'] at h
      simp only [Bool.false_eq_true, if_false, show ¬ (4 : Int) ≤ 2 by decide, show ¬ (4 : Int) = 3 by decide] at h
      have := looksW_inj (fun l hl => (ha.looks l hl).2.2) (fun l hl => (hb.looks l hl).2.2) h
      exact ⟨by rw [a1, b1], this, by omega, by omega, by omega, by omega, by omega, by omega⟩
  · have hc' : b.code ≠ 0 := by rw [← hcode]; exact hc
    obtain ⟨r1, r2, r3, r4, r5, r6⟩ := ha.rec0 (.inr hc); obtain ⟨s1, s2, s3, s4, s5, s6⟩ := hb.rec0 (.inr hc')
    rw [ha.asked0 (.inr hc), hb.asked0 (.inr hc'), ha.looks0 (.inr hc), hb.looks0 (.inr hc'), r1, r2, r3, r4, r5, r6, s1, s2, s3, s4, s5, s6]
    simp
theorem words_inj {a b : Rep} (ha : a.Right) (hb : b.Right) (h : a.words = b.words) : a = b := by
  unfold Rep.words at h
  simp only [List.cons.injEq] at h
  obtain ⟨h1, h2, h3⟩ := h
  have ht := decI_inj ha.tick.1 hb.tick.1 h1
  have hk := verbK_inj ha.kind hb.kind h2
  have key : a.id = b.id ∧ a.cell = b.cell ∧ a.tail = b.tail := by
    rcases ha.kind with k | k | k | k
    all_goals have k' : b.kind = _ := hk.symm.trans k
    · rw [k, k'] at h3
      simp at h3
      exact ⟨decI_inj ha.id.1 hb.id.1 h3.1, decI_inj ha.cell.1 hb.cell.1 h3.2.1, h3.2.2⟩
    · rw [k, k'] at h3
      simp at h3
      exact ⟨decI_inj ha.id.1 hb.id.1 h3.1, decI_inj ha.cell.1 hb.cell.1 h3.2.1, h3.2.2⟩
    · rw [k, k'] at h3
      simp at h3
      exact ⟨by rw [ha.id0 (by omega), hb.id0 (by omega)], decI_inj ha.cell.1 hb.cell.1 h3.1, h3.2⟩
    · rw [k, k'] at h3
      simp at h3
      exact ⟨by rw [ha.id0 (by omega), hb.id0 (by omega)], by rw [ha.cell0 k, hb.cell0 k'], h3⟩
  obtain ⟨e1, e2, e3⟩ := key
  obtain ⟨f1, f2, f3, f4, f5, f6, f7, f8, f9⟩ := tail_inj ha hb hk e3
  obtain ⟨_, _, _, _, _, _, _, _, _, _, _, _, _⟩ := a
  obtain ⟨_, _, _, _, _, _, _, _, _, _, _, _, _⟩ := b
  simp only at *
  subst ht hk e1 e2 f1 f2 f3 f4 f5 f6 f7 f8 f9
  rfl
end Go.Proofs.YtmgpbjennnadhaaGreatDoor.WordP
