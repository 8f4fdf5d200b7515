/-
  TraceSums, on data.
-/
import Derived.Test.YtofkbhilhgmnlaaTrC
import Derived.Test.YtofkbhilhgmnlaaMapD
import Derived.Test.YtofkbhilhgmnlaaNumE
namespace Go.Proofs.Ytofkbhilhgmnlaa.TrD
open Go.Proofs.Ytofkbhilhgmnlaa.Eng Go.Proofs.Ytofkbhilhgmnlaa Go.Proofs.Ytofkbhilhgmnlaa.Dat Go.Proofs.Ytofkbhilhgmnlaa.Open Go.Proofs.Ytofkbhilhgmnlaa.MapD
set_option linter.unusedVariables false
set_option linter.unusedSimpArgs false
set_option linter.unusedSectionVars false
set_option maxRecDepth 10000

def evd (l : List Ev) : D := .agg (l.map Ev.d)
theorem evd_l (l : List Ev) : (evd l).toL = l.map Ev.d := rfl
def hp (c : RU.Cf) (os : List Od) (now : Int) : D := .agg [mdl c os now]
theorem hp_do {c : RU.Cf} (hc : c.ok) (os : List Od) (now : Int) (hi : Inv c os) (hl : os.length ≤ 100000) (e : Ev) : FX 9 (.int 0 :: e.ds ++ [hp c os now]) = some [err (doF c os now e).1, hp c (doF c os now e).2.1 (doF c os now e).2.2] :=
  do_eq (H := [mdl c os now]) (n := 0) hc rfl (by simp) hl hi e
theorem hp_orders {c : RU.Cf} (os : List Od) (now : Int) (hl : os.length ≤ 100000) : FX 10 [.int 0, hp c os now] = some [osd os] := orders_eq (H := [mdl c os now]) (n := 0) rfl hl

/-- Of one cell later orders have greater gens. -/
def KeyInv (os : List Od) : Prop := ∀ i j, i < j → j < os.length → (at? os i).cell = (at? os j).cell → (at? os i).gen < (at? os j).gen
theorem find_key {os : List Od} (h : KeyInv os) {i : Nat} (hi : i < os.length) : os.findIdx? (isAt (at? os i).cell (at? os i).gen) = some i := by
  rw [List.findIdx?_eq_some_iff_getElem]
  refine ⟨hi, by rw [← at_eq hi]; simp [isAt], fun j hj => ?_⟩
  rw [← at_eq (show j < os.length by omega)]
  intro hq
  simp only [isAt, Bool.and_eq_true, beq_iff_eq] at hq
  have := h j i hj hi hq.1
  omega
theorem KeyInv.apart {os : List Od} (h : KeyInv os) {i j : Nat} (hi : i < os.length) (hj : j < os.length) (hne : i ≠ j) : ((at? os i).cell, (at? os i).gen) ≠ ((at? os j).cell, (at? os j).gen) := by
  intro hq
  simp only [Prod.mk.injEq] at hq
  rcases Nat.lt_or_ge i j with hlt | hge
  · have := h i j hlt hj hq.1; omega
  · have := h j i (by omega) hi hq.1.symm; omega
theorem KeyInv.set {os : List Od} (h : KeyInv os) {i : Nat} (hi : i < os.length) {x : Od} (h1 : x.cell = (at? os i).cell) (h2 : x.gen = (at? os i).gen) : KeyInv (os.set i x) := by
  have key : ∀ j, (at? (os.set i x) j).cell = (at? os j).cell ∧ (at? (os.set i x) j).gen = (at? os j).gen := fun j => by
    by_cases e : i = j
    · subst e; rw [at_set hi]; exact ⟨h1, h2⟩
    · rw [at_set_ne e]; exact ⟨rfl, rfl⟩
  intro a b hab hb hq
  rw [(key a).1, (key b).1] at hq
  rw [(key a).2, (key b).2]
  exact h a b hab (by simpa using hb) hq
theorem KeyInv.snoc {os : List Od} (h : KeyInv os) {x : Od} (hx : ∀ i, i < os.length → (at? os i).cell = x.cell → (at? os i).gen < x.gen) : KeyInv (os ++ [x]) := by
  have old : ∀ j, j < os.length → at? (os ++ [x]) j = at? os j := fun j hj => by
    rw [at_eq hj, at_eq (show j < (os ++ [x]).length by simp; omega), List.getElem_append_left hj]
  have new : at? (os ++ [x]) os.length = x := by rw [at_eq (by simp)]; simp
  intro a b hab hb hq
  simp only [List.length_append, List.length_cons, List.length_nil] at hb
  by_cases hbl : b = os.length
  · subst hbl
    rw [new, old a hab] at hq
    rw [new, old a hab]
    exact hx a hab hq
  · rw [old b (by omega), old a (by omega)] at hq ⊢
    exact h a b hab (by omega) hq
/-- The last order of a cell. -/
theorem lastF_spec (cell : Int) : ∀ (l : List Od) (i : Nat) (a : Option Nat), (lastF cell l i a = a ∧ ∀ o ∈ l, o.cell ≠ cell) ∨ ∃ j, j < l.length ∧ lastF cell l i a = some (i + j) ∧ (at? l j).cell = cell ∧ ∀ k, j < k → k < l.length → (at? l k).cell ≠ cell
  | [], i, a => .inl ⟨rfl, fun o h => by cases h⟩
  | o :: l, i, a => by
    have hat : ∀ k, at? (o :: l) (k + 1) = at? l k := fun k => by simp [at?]
    have hat0 : at? (o :: l) 0 = o := rfl
    rcases lastF_spec cell l (i + 1) (if o.cell = cell then some i else a) with ⟨h1, h2⟩ | ⟨j, hj, h1, h2, h3⟩
    · by_cases ho : o.cell = cell
      · right
        refine ⟨0, by simp, by simp only [lastF]; rw [h1, if_pos ho]; simp, by rw [hat0]; exact ho, fun k hk hkl => ?_⟩
        obtain ⟨k, rfl⟩ : ∃ q, k = q + 1 := ⟨k - 1, by omega⟩
        rw [hat]
        have hkl' : k < l.length := by simpa using hkl
        rw [at_eq hkl']
        exact h2 _ (List.getElem_mem hkl')
      · left
        refine ⟨by simp only [lastF]; rw [h1, if_neg ho], fun x hx => ?_⟩
        rcases List.mem_cons.1 hx with rfl | hx
        · exact ho
        · exact h2 x hx
    · right
      refine ⟨j + 1, by simpa using hj, by simp only [lastF, h1]; congr 1; omega, by rw [hat]; exact h2, fun k hk hkl => ?_⟩
      obtain ⟨k, rfl⟩ : ∃ q, k = q + 1 := ⟨k - 1, by omega⟩
      rw [hat]
      exact h3 k (by omega) (by simpa using hkl)
/-- What an event that can happen does, as far as the sums go. -/
inductive StepR (c : RU.Cf) (os : List Od) (e : Ev) : List Od → Prop
  | submit (hk : e.kind ≠ 2) (hx : ∀ i, i < os.length → (at? os i).cell = e.cell → (at? os i).gen < e.gen) : StepR c os e (os ++ [newO e])
  | fill (hk : e.kind = 2) (i k : Nat) (hi : i < os.length) (hj : k < os.length) (hne : i ≠ k) (a1 : (at? os i).cell = e.cell ∧ (at? os i).gen = e.gen) (a2 : (at? os k).cell = e.other ∧ (at? os k).gen = e.with')
      (q1 : 1 ≤ e.qty) (q2 : e.qty ≤ (at? os i).left) (q3 : e.qty ≤ (at? os k).left) : StepR c os e ((os.set i (fillA (at? os i) e.qty)).set k (fillB c (at? os k) e.qty))
  | upd (hk : e.kind ≠ 2) (i : Nat) (hi : i < os.length) (x : Od) (h1 : x.cell = (at? os i).cell) (h2 : x.gen = (at? os i).gen) (h3 : x.qty = (at? os i).qty) (h4 : x.left = (at? os i).left) : StepR c os e (os.set i x)
theorem sub2_r {c : RU.Cf} {os : List Od} {e : Ev} (hk : e.kind ≠ 2) {gen : Int} (hg : ∀ i, i < os.length → (at? os i).cell = e.cell → (at? os i).gen ≤ gen) (h : (sub2 c os e gen).1 = 0) : StepR c os e (sub2 c os e gen).2 := by
  unfold sub2 at h ⊢
  split
  · rename_i h1; rw [if_pos h1] at h; simp at h
  rename_i h1; rw [if_neg h1] at h
  split
  · rename_i h2; rw [if_pos h2] at h; simp at h
  rename_i h2; rw [if_neg h2] at h
  split
  · rename_i h3; rw [if_pos h3] at h; exact absurd h h3
  exact .submit hk fun i hi hq => by have := hg i hi hq; omega
theorem liveF_key {os : List Od} {cell gen : Int} {i : Nat} (h : liveF os cell gen = .inl i) : i < os.length ∧ ((at? os i).cell = cell ∧ (at? os i).gen = gen) := by
  obtain ⟨h1, h2, _⟩ := liveF_lt h
  simp only [isAt, Bool.and_eq_true, beq_iff_eq] at h2
  exact ⟨h1, h2⟩
theorem step_r {c : RU.Cf} {os : List Od} {e : Ev} (hK : KeyInv os) (hv : Inv c os) (h : (stepF c os e).1 = 0) : StepR c os e (stepF c os e).2 := by
  unfold stepF at h ⊢
  by_cases k1 : e.kind = 1
  · rw [if_pos k1] at h ⊢
    have hk : e.kind ≠ 2 := by omega
    unfold submitF at h ⊢
    split
    · rename_i h1; rw [if_pos h1] at h; simp at h
    rename_i h1; rw [if_neg h1] at h
    rcases lastF_spec e.cell os 0 none with ⟨h2, h3⟩ | ⟨j, hj, h2, h3, h4⟩
    · rw [h2] at h ⊢
      exact sub2_r hk (fun i hi hq => absurd hq (by rw [at_eq hi]; exact h3 _ (List.getElem_mem hi))) h
    · rw [h2] at h ⊢
      simp only [Nat.zero_add] at h ⊢
      split
      · rename_i h5; rw [if_pos h5] at h; simp at h
      rename_i h5; rw [if_neg h5] at h
      refine sub2_r hk (fun i hi hq => ?_) h
      rcases Nat.lt_trichotomy i j with hlt | rfl | hgt
      · have := hK i j hlt hj (hq.trans h3.symm); omega
      · omega
      · exact absurd hq (h4 i hgt hi)
  rw [if_neg k1] at h ⊢
  by_cases k2 : e.kind = 2
  · rw [if_pos k2] at h ⊢
    unfold fillF at h ⊢
    cases hi : liveF os e.cell e.gen with
    | inr k => rw [hi] at h; simp only at h; exact absurd h (liveF_ne hi)
    | inl i =>
      cases hk : liveF os e.other e.with' with
      | inr k => rw [hi, hk] at h; simp only at h; exact absurd h (liveF_ne hk)
      | inl k =>
        rw [hi, hk] at h
        simp only at h ⊢
        obtain ⟨li, ai⟩ := liveF_key hi
        obtain ⟨lk, ak⟩ := liveF_key hk
        unfold fill2 at h ⊢
        by_cases h1 : ownerF c (at? os i).cell = ownerF c (at? os k).cell
        · rw [if_pos h1] at h; simp at h
        rw [if_neg h1] at h ⊢
        by_cases h2 : overF c (at? os i) ≠ 0
        · rw [if_pos h2] at h; simp at h
        rw [if_neg h2] at h ⊢
        by_cases h3 : overF c (at? os k) ≠ 0
        · rw [if_pos h3] at h; simp at h
        rw [if_neg h3] at h ⊢
        by_cases h4 : (at? os k).ask = true
        · rw [if_pos h4] at h; simp at h
        rw [if_neg h4] at h ⊢
        by_cases h5 : (matchF (at? os i) (at? os k)).1 = 0
        · rw [if_pos h5] at h; simp at h
        rw [if_neg h5] at h ⊢
        by_cases h6 : ¬ ((matchF (at? os i) (at? os k)).1 = e.qty ∧ (matchF (at? os i) (at? os k)).2 = e.at')
        · rw [if_pos h6] at h; simp at h
        rw [if_neg h6] at h ⊢
        obtain ⟨hq, hp⟩ := Classical.not_not.1 h6
        obtain ⟨q1, q2, q3⟩ := minb _ _ (at? os i) (at? os k) _ hq (by rw [← hq]; exact h5)
        exact .fill k2 i k li lk (fun q => h1 (by rw [q])) ai ak q1 q2 q3
  rw [if_neg k2] at h ⊢
  by_cases k3 : e.kind = 3 ∨ e.kind = 5 ∨ e.kind = 7
  · rw [if_pos k3] at h ⊢
    unfold endsF at h ⊢
    cases hi : liveF os e.cell e.gen with
    | inr k => rw [hi] at h; simp only at h; exact absurd h (liveF_ne hi)
    | inl i =>
      rw [hi] at h
      simp only at h ⊢
      obtain ⟨li, ai⟩ := liveF_key hi
      have up : ∀ v, StepR c os e (setEnd os i v) := fun v => .upd k2 i li _ rfl rfl rfl rfl
      unfold ends2 at h ⊢
      repeat' split
      all_goals first | exact up _ | (exfalso; simp_all; done)
  rw [if_neg k3] at h ⊢
  by_cases k4 : e.kind = 4 ∨ e.kind = 6
  · rw [if_pos k4] at h ⊢
    unfold turnF at h ⊢
    cases hi : liveF os e.cell e.gen with
    | inr k => rw [hi] at h; simp only at h; exact absurd h (liveF_ne hi)
    | inl i =>
      rw [hi] at h
      simp only at h ⊢
      obtain ⟨li, ai⟩ := liveF_key hi
      unfold turn2 at h ⊢
      repeat' split
      all_goals first | exact .upd k2 i li _ rfl rfl rfl rfl | (exfalso; simp_all; done)
  · rw [if_neg k4] at h; simp at h

/-! The sums. -/
def pk (k : Int × Int) : D := .agg [.int k.1, .int k.2]
abbrev Mp := List ((Int × Int) × D)
def got (m : Mp) (k : Int × Int) : Int := ((val m k).getD (.int 0)).toInt
def key (o : Od) : Int × Int := (o.cell, o.gen)
theorem mget_pk (m : Mp) (a b : Int) (z : D) : mgetD [0, 0] (ents pk m) (.agg (.int a :: .int b :: [])) z = (val m (a, b)).getD z := mget_ents (f := pk) keq_pair m (a, b) z
theorem mput_pk (m : Mp) (a b : Int) (v : D) : mputD [0, 0] (ents pk m) (.agg (.int a :: .int b :: [])) v = ents pk (put m (a, b) v) := mput_ents (f := pk) keq_pair m (a, b) v
theorem got_put (m : Mp) (k k' : Int × Int) (v : Int) : got (put m k (.int v)) k' = if k' = k then v else got m k' := by
  unfold got
  rw [val_put]
  split <;> rfl
structure SumInv (c : RU.Cf) (os : List Od) (m : Mp) : Prop where
  inv : Inv c os
  keys : KeyInv os
  sum : ∀ i, i < os.length → (at? os i).left + got m (key (at? os i)) = (at? os i).qty
  none : ∀ k, (∀ i, i < os.length → key (at? os i) ≠ k) → got m k = 0
def nextM (m : Mp) (e : Ev) : Mp := if e.kind = 2 then put (put m (e.cell, e.gen) (.int (got m (e.cell, e.gen) + e.qty))) (e.other, e.with') (.int (got (put m (e.cell, e.gen) (.int (got m (e.cell, e.gen) + e.qty))) (e.other, e.with') + e.qty)) else m
theorem SumInv.step {c : RU.Cf} {os os' : List Od} {m : Mp} {e : Ev} (h : SumInv c os m) (hr : StepR c os e os') (hv : Inv c os') : SumInv c os' (nextM m e) := by
  cases hr with
  | submit hk hx =>
    unfold nextM
    rw [if_neg hk]
    have old : ∀ j, j < os.length → at? (os ++ [newO e]) j = at? os j := fun j hj => by
      rw [at_eq hj, at_eq (show j < (os ++ [newO e]).length by simp; omega), List.getElem_append_left hj]
    have new : at? (os ++ [newO e]) os.length = newO e := by rw [at_eq (by simp)]; simp
    refine ⟨hv, h.keys.snoc hx, fun i hi => ?_, fun k hk' => h.none k fun i hi => by rw [← old i hi]; exact hk' i (by simp; omega)⟩
    simp only [List.length_append, List.length_cons, List.length_nil] at hi
    by_cases hil : i = os.length
    · subst hil
      rw [new, h.none (key (newO e)) (fun i hi hq => by
        simp only [key, newO, Prod.mk.injEq] at hq
        have := hx i hi hq.1
        omega)]
      show e.qty + 0 = e.qty
      omega
    · rw [old i (by omega)]
      exact h.sum i (by omega)
  | fill hk i k hi hj hne a1 a2 q1 q2 q3 =>
    unfold nextM
    rw [if_pos hk]
    have e1 : key (at? os i) = (e.cell, e.gen) := by simp only [key, a1.1, a1.2]
    have e2 : key (at? os k) = (e.other, e.with') := by simp only [key, a2.1, a2.2]
    have hap : (e.other, e.with') ≠ (e.cell, e.gen) := by rw [← e1, ← e2]; exact fun q => h.keys.apart hj hi (fun q => hne q.symm) q
    have hkey : ∀ j, key (at? ((os.set i (fillA (at? os i) e.qty)).set k (fillB c (at? os k) e.qty)) j) = key (at? os j) := fun j => by
      by_cases h1 : k = j
      · subst h1; rw [at_set (by simpa using hj)]; rfl
      · rw [at_set_ne h1]
        by_cases h2 : i = j
        · subst h2; rw [at_set hi]; rfl
        · rw [at_set_ne h2]
    refine ⟨hv, (h.keys.set hi (x := fillA (at? os i) e.qty) rfl rfl).set (x := fillB c (at? os k) e.qty) (by simpa using hj) (by rw [at_set_ne hne]; rfl) (by rw [at_set_ne hne]; rfl), fun j hjl => ?_, fun q hq => ?_⟩
    · have hjl' : j < os.length := by simpa using hjl
      have hs := h.sum j hjl'
      rw [hkey j]
      by_cases h1 : k = j
      · subst h1
        rw [at_set (by simpa using hj), e2, got_put, if_pos rfl, got_put, if_neg hap]
        rw [e2] at hs
        show (at? os k).left - e.qty + (got m (e.other, e.with') + e.qty) = (at? os k).qty
        omega
      · rw [at_set_ne h1]
        by_cases h2 : i = j
        · subst h2
          rw [at_set hi, e1, got_put, if_neg (fun q => hap q.symm), got_put, if_pos rfl]
          rw [e1] at hs
          show (at? os i).left - e.qty + (got m (e.cell, e.gen) + e.qty) = (at? os i).qty
          omega
        · rw [at_set_ne h2, got_put, if_neg (by rw [← e2]; exact h.keys.apart hjl' hj (fun q => h1 q.symm)), got_put, if_neg (by rw [← e1]; exact h.keys.apart hjl' hi (fun q => h2 q.symm))]
          exact hs
    · have h1 := hq i (by simpa using hi)
      have h2 := hq k (by simpa using hj)
      rw [hkey, e1] at h1
      rw [hkey, e2] at h2
      rw [got_put, if_neg (fun q => h2 q.symm), got_put, if_neg (fun q => h1 q.symm)]
      exact h.none q fun j hjl => by rw [← hkey j]; exact hq j (by simpa using hjl)
  | upd hk i hi x h1 h2 h3 h4 =>
    unfold nextM
    rw [if_neg hk]
    have hkey : ∀ j, key (at? (os.set i x) j) = key (at? os j) := fun j => by
      by_cases e : i = j
      · subst e; rw [at_set hi]; simp only [key, h1, h2]
      · rw [at_set_ne e]
    refine ⟨hv, h.keys.set hi h1 h2, fun j hj => ?_, fun k hk' => h.none k fun j hj => by rw [← hkey j]; exact hk' j (by simpa using hj)⟩
    have hs := h.sum j (by simpa using hj)
    rw [hkey j]
    by_cases e : i = j
    · subst e; rw [at_set hi, h3, h4]; exact hs
    · rw [at_set_ne e]; exact hs
theorem fill_b {c : RU.Cf} {os os' : List Od} {m : Mp} {e : Ev} (h : SumInv c os m) (hr : StepR c os e os') (hk : e.kind = 2) :
    0 ≤ got m (e.cell, e.gen) ∧ got m (e.cell, e.gen) + e.qty ≤ 9999 ∧ 0 ≤ got m (e.other, e.with') ∧ got m (e.other, e.with') + e.qty ≤ 9999 ∧ 1 ≤ e.qty ∧ (e.other, e.with') ≠ (e.cell, e.gen) := by
  cases hr with
  | submit hk' _ => exact absurd hk hk'
  | upd hk' _ _ _ _ _ _ _ => exact absurd hk hk'
  | fill _ i k hi hj hne a1 a2 q1 q2 q3 =>
    have e1 : key (at? os i) = (e.cell, e.gen) := by simp only [key, a1.1, a1.2]
    have e2 : key (at? os k) = (e.other, e.with') := by simp only [key, a2.1, a2.2]
    have s1 := h.sum i hi
    have s2 := h.sum k hj
    rw [e1] at s1
    rw [e2] at s2
    have o1 := h.inv.at hi
    have o2 := h.inv.at hj
    have b1 := o1.left; have b2 := o1.qty; have b3 := o2.left; have b4 := o2.qty
    exact ⟨by omega, by omega, by omega, by omega, q1, by rw [← e1, ← e2]; exact fun q => h.keys.apart hj hi (fun q => hne q.symm) q⟩
/-- Orders that are over, as they were told. -/
def EndsOk (os es : List Od) : Prop := ∀ o ∈ es, o.fin ≠ 0 ∧ ∃ i, i < os.length ∧ at? os i = o
theorem EndsOk.le {os os' es : List Od} (h : EndsOk os es) (hl : LeL os os') : EndsOk os' es := fun o ho => by
  obtain ⟨h1, i, h2, h3⟩ := h o ho
  refine ⟨h1, i, Nat.lt_of_lt_of_le h2 hl.len, ?_⟩
  have := (hl.le i h2).fin (by rw [h3]; exact h1)
  rw [this, h3]
theorem none_do (x : D) : FX 9 [.nil, .int 0, .int 0, .int 0, .int 0, .int 0, .int 0, .int 0, .int 0, .int 0, .int 0, .int 0, .int 0, .int 0, .int 0, x] = some [code 2, x] := by
  rw [E_p_trace_Model_Do]
  simp only [nil_isNil, if_true]
  rfl
theorem none_orders (x : D) : FX 10 [.nil, x] = some [.agg []] := by
  rw [E_p_trace_Model_Orders]
  simp only [nil_isNil, if_true]
theorem num2 : FX 12 [code 2] = some [.int 2] := NumE.num_code 2 (by omega)
section
variable {c : RU.Cf} (hc : c.ok) (l : List Ev)
noncomputable abbrev W1 (c : RU.Cf) (l : List Ev) : Eng.Fn := W_law09_TraceSums_1 (.int c.c0) (.int c.c1) (.int c.c2) (.int c.c3) (.int c.c4) (.int c.c5) (.int c.c6) (evd l) (.int c.c0) (.int c.c1) (.int c.c2) (.int c.c3) (.int c.c4) (.int c.c5) (.int c.c6) .nil (.int 0) (hp c [] 0)
include hc
theorem sums4 (x18 x19 x20 x21 x22 x23 x26 : D) (os : List Od) (now : Int) (m : Mp) (hs : SumInv c os m) (hl : os.length ≤ 100) (j : Nat) (hx : x19 = .int (j : Nat)) (hj : j ≤ 100) (g0 g1 : Eng.Fn)
    (goOn : ∀ es : List Od, EndsOk os es → es.length ≤ os.length → g0 [osd es, .int ((j + 1 : Nat) : Int), .agg (ents pk m), hp c os now] = some [.bool true]) :
    W_law09_TraceSums_4 (.int c.c0) (.int c.c1) (.int c.c2) (.int c.c3) (.int c.c4) (.int c.c5) (.int c.c6) (evd l) (.int c.c0) (.int c.c1) (.int c.c2) (.int c.c3) (.int c.c4) (.int c.c5) (.int c.c6) .nil (.int 0) (hp c [] 0) x18 x19 x20 x21 x22 x23 (.agg (ents pk m)) (hp c os now) x26 (osd os) g0 g1 [.int 0, .agg []] = some [.bool true] := by
  subst hx
  have h0 := loop_from (W_law09_TraceSums_4 (.int c.c0) (.int c.c1) (.int c.c2) (.int c.c3) (.int c.c4) (.int c.c5) (.int c.c6) (evd l) (.int c.c0) (.int c.c1) (.int c.c2) (.int c.c3) (.int c.c4) (.int c.c5) (.int c.c6) .nil (.int 0) (hp c [] 0) x18 (.int (j : Nat)) x20 x21 x22 x23 (.agg (ents pk m)) (hp c os now) x26 (osd os) g0 g1)
    (fun i => [.int (i : Nat), osd ((os.take i).filter fun o => o.fin != 0)]) os.length (s0 := [.int 0, .agg []]) rfl (fun i hi => by
    have h1 : (i : Int) < (os.length : Int) := by omega
    have ok := hs.inv.at hi
    have e1 := hs.sum i hi
    have e2 := ok.left; have e3 := ok.qty; have e4 := ok.fills
    have hg : got m (key (at? os i)) = ((val m ((at? os i).cell, (at? os i).gen)).getD (.int 0)).toInt := rfl
    rw [W_law09_TraceSums_4_eq]
    have hsum : IntKind.i64.wrap ((at? os i).left + ((val m ((at? os i).cell, (at? os i).gen)).getD (.int 0)).toInt) = (at? os i).qty := by rw [← hg, e1]; exact i64w _ (by omega) (by omega)
    have n1 : ¬ (at? os i).left < 0 := by omega
    have n2 : ¬ c.c5 < (at? os i).fills := by omega
    have hb : ∀ x : D, (((((os.take i).filter fun o => o.fin != 0).map Od.d ++ [x]).length : Nat) : Int) ≤ 1466015503701 := fun x => by
      have := List.length_filter_le (fun o : Od => o.fin != 0) (os.take i)
      simp only [List.length_append, List.length_map, List.length_cons, List.length_nil]
      rw [List.length_take] at this
      omega
    simp only [h1, getD_os hi, D.toInt_int, D.toL_agg, D.toBool_bool, Int.toNat_natCast, od0, od1, od2, od3, od4, od5, od6, od7, od8, od9, od10, od11, od12, osd_l, int_isNil, Bool.not_false, Bool.not_true, if_true, ge_iff_le, Int.natCast_nonneg, decide_true, decide_false, Bool.false_eq_true, if_false, List.length_map, bindC, List.length_cons, List.length_nil, List.getD_cons_zero, List.getD_cons_succ, nil_isNil, code_isNil, bne_self_eq_false, beq_self_eq_true, Bool.and_self, Int.lt_irrefl, gt_iff_lt, mget_pk, hsum, n1, n2, hb, od_mk, wj (show i < 9000000000000000 by omega)]
    rw [List.take_succ_eq_append_getElem hi, List.filter_append, ← at_eq hi]
    by_cases hf : (at? os i).fin = 0
    · have hf' : ((at? os i).fin != 0) = false := by simp [hf]
      simp only [hf', Bool.false_eq_true, if_false, List.filter_cons, List.filter_nil, List.append_nil]
    · have hf' : ((at? os i).fin != 0) = true := by simpa using hf
      simp only [hf', if_true, List.filter_cons, List.filter_nil, osd, List.map_append, List.map_cons, List.map_nil])
  refine h0.trans ?_
  rw [W_law09_TraceSums_4_eq]
  simp only [D.toInt_int, D.toL_agg, D.toBool_bool, Int.toNat_natCast, od0, od1, od2, od3, od4, od5, od6, od7, od8, od9, od10, od11, od12, osd_l, int_isNil, Bool.not_false, Bool.not_true, if_true, ge_iff_le, Int.natCast_nonneg, decide_true, decide_false, Bool.false_eq_true, if_false, List.length_map, bindC, List.length_cons, List.length_nil, List.getD_cons_zero, List.getD_cons_succ, nil_isNil, code_isNil, bne_self_eq_false, beq_self_eq_true, Bool.and_self, Int.lt_irrefl, gt_iff_lt, Int.lt_irrefl, List.take_length, wj (show j < 9000000000000000 by omega)]
  refine goOn _ (fun o ho => ?_) (List.length_filter_le ..)
  obtain ⟨h1, h2⟩ := List.mem_filter.1 ho
  obtain ⟨i, hi, rfl⟩ := List.getElem_of_mem h1
  exact ⟨by simpa using h2, i, hi, at_eq hi⟩
theorem sums3 (x20 x21 x22 x23 : D) (os : List Od) (now : Int) (m : Mp) (hs : SumInv c os m) (hl : os.length ≤ 100) (es : List Od) (he : EndsOk os es) (hel : es.length ≤ 1000000) (j : Nat) (hj : j ≤ 100) (g0 : Eng.Fn)
    (goOn : ∀ es : List Od, EndsOk os es → es.length ≤ os.length → g0 [osd es, .int ((j + 1 : Nat) : Int), .agg (ents pk m), hp c os now] = some [.bool true]) :
    W_law09_TraceSums_3 (.int c.c0) (.int c.c1) (.int c.c2) (.int c.c3) (.int c.c4) (.int c.c5) (.int c.c6) (evd l) (.int c.c0) (.int c.c1) (.int c.c2) (.int c.c3) (.int c.c4) (.int c.c5) (.int c.c6) .nil (.int 0) (hp c [] 0) (osd es) (.int (j : Nat)) x20 x21 x22 x23 (.agg (ents pk m)) (hp c os now) g0 [.int 0] = some [.bool true] := by
  have h0 := loop_from (W_law09_TraceSums_3 (.int c.c0) (.int c.c1) (.int c.c2) (.int c.c3) (.int c.c4) (.int c.c5) (.int c.c6) (evd l) (.int c.c0) (.int c.c1) (.int c.c2) (.int c.c3) (.int c.c4) (.int c.c5) (.int c.c6) .nil (.int 0) (hp c [] 0) (osd es) (.int (j : Nat)) x20 x21 x22 x23 (.agg (ents pk m)) (hp c os now) g0)
    (fun i => [.int (i : Nat)]) es.length (s0 := [.int 0]) rfl (fun i hi => by
    have h1 : (i : Int) < (es.length : Int) := by omega
    obtain ⟨_, q, hq, hqe⟩ := he _ (List.getElem_mem hi)
    have ho := order_eq (H := [mdl c os now]) (n := 0) rfl (show os.length ≤ 100000 by omega) (at? os q).cell (at? os q).gen q (find_key hs.keys hq)
    rw [hqe] at ho
    have ho' : FX 11 [.int 0, .int es[i].cell, .int es[i].gen, hp c os now] = some (es[i].d.toL ++ [.bool true]) := ho
    rw [W_law09_TraceSums_3_eq]
    simp only [h1, getD_map Od.d hi, D.toInt_int, D.toL_agg, D.toBool_bool, Int.toNat_natCast, od0, od1, od2, od3, od4, od5, od6, od7, od8, od9, od10, od11, od12, osd_l, int_isNil, Bool.not_false, Bool.not_true, if_true, ge_iff_le, Int.natCast_nonneg, decide_true, decide_false, Bool.false_eq_true, if_false, List.length_map, bindC, List.length_cons, List.length_nil, List.getD_cons_zero, List.getD_cons_succ, nil_isNil, code_isNil, bne_self_eq_false, beq_self_eq_true, Bool.and_self, Int.lt_irrefl, gt_iff_lt, ho', List.length_append]
    simp only [Od.d, D.toL_agg, List.length_cons, List.length_nil, if_true, List.cons_append, List.nil_append, List.getD_cons_zero, List.getD_cons_succ, D.toBool_bool, D.toInt_int, Bool.not_true, Bool.false_eq_true, if_false, beq_self_eq_true, Bool.and_self, wj (show i < 9000000000000000 by omega)])
  refine h0.trans ?_
  rw [W_law09_TraceSums_3_eq]
  simp only [D.toInt_int, D.toL_agg, D.toBool_bool, Int.toNat_natCast, od0, od1, od2, od3, od4, od5, od6, od7, od8, od9, od10, od11, od12, osd_l, int_isNil, Bool.not_false, Bool.not_true, if_true, ge_iff_le, Int.natCast_nonneg, decide_true, decide_false, Bool.false_eq_true, if_false, List.length_map, bindC, List.length_cons, List.length_nil, List.getD_cons_zero, List.getD_cons_succ, nil_isNil, code_isNil, bne_self_eq_false, beq_self_eq_true, Bool.and_self, Int.lt_irrefl, gt_iff_lt, Int.lt_irrefl, hp_orders os now (show os.length ≤ 100000 by omega)]
  exact sums4 hc l _ _ _ _ _ _ _ os now m hs hl j rfl hj _ _ goOn
theorem last_ok (x : D) (H : List D) : (bindC (FX 7 [.agg H]) 2 fun r22 => if ((r22.getD 0 D.nil)).toBool = true then
      bindC (FX 9 [D.nil, .int 0, .int 0, .int 0, .int 0, .int 0, .int 0, .int 0, .int 0, .int 0, .int 0, .int 0, .int 0, .int 0, .int 0, (r22.getD 1 D.nil)]) 2 fun r24 =>
        bindC (FX 12 [(r24.getD 0 D.nil)]) 1 fun r26 => if (((r26.getD 0 D.nil)).toInt == (2 : Int)) = true then
        bindC (FX 10 [D.nil, (r24.getD 1 D.nil)]) 1 fun r27 => some [(D.bool (((((r27.getD 0 D.nil)).toL).length : Int) == (0 : Int)))] else some [(D.bool false)] else some [(D.bool false)]) = some [.bool true] := by
  obtain ⟨H', e⟩ := awake_eq H
  simp only [e, D.toInt_int, D.toL_agg, D.toBool_bool, Int.toNat_natCast, od0, od1, od2, od3, od4, od5, od6, od7, od8, od9, od10, od11, od12, osd_l, int_isNil, Bool.not_false, Bool.not_true, if_true, ge_iff_le, Int.natCast_nonneg, decide_true, decide_false, Bool.false_eq_true, if_false, List.length_map, bindC, List.length_cons, List.length_nil, List.getD_cons_zero, List.getD_cons_succ, nil_isNil, code_isNil, bne_self_eq_false, beq_self_eq_true, Bool.and_self, Int.lt_irrefl, gt_iff_lt, none_do, num2, none_orders]
  rfl
theorem sums1 : ∀ (n j : Nat) (es os : List Od) (now : Int) (m : Mp), l.length ≤ j + n → j ≤ 60 → SumInv c os m → os.length ≤ j → EndsOk os es → es.length ≤ 1000000 →
    W1 c l [osd es, .int (j : Nat), .agg (ents pk m), hp c os now] = some [.bool true]
  | 0, j, es, os, now, m, hn, hj, hs, hl, he, hel => by
    unfold W1
    rw [W_law09_TraceSums_1_eq]
    have h1 : ¬ (j : Int) < (l.length : Int) := by omega
    simp only [evd_l, h1, D.toInt_int, D.toL_agg, D.toBool_bool, Int.toNat_natCast, od0, od1, od2, od3, od4, od5, od6, od7, od8, od9, od10, od11, od12, osd_l, int_isNil, Bool.not_false, Bool.not_true, if_true, ge_iff_le, Int.natCast_nonneg, decide_true, decide_false, Bool.false_eq_true, if_false, List.length_map, bindC, List.length_cons, List.length_nil, List.getD_cons_zero, List.getD_cons_succ, nil_isNil, code_isNil, bne_self_eq_false, beq_self_eq_true, Bool.and_self, Int.lt_irrefl, gt_iff_lt]
    exact last_ok hc .nil _
  | n + 1, j, es, os, now, m, hn, hj, hs, hl, he, hel => by
    unfold W1
    rw [W_law09_TraceSums_1_eq]
    by_cases h1 : ¬ ((j : Int) < (l.length : Int))
    · simp only [evd_l, h1, D.toInt_int, D.toL_agg, D.toBool_bool, Int.toNat_natCast, od0, od1, od2, od3, od4, od5, od6, od7, od8, od9, od10, od11, od12, osd_l, int_isNil, Bool.not_false, Bool.not_true, if_true, ge_iff_le, Int.natCast_nonneg, decide_true, decide_false, Bool.false_eq_true, if_false, List.length_map, bindC, List.length_cons, List.length_nil, List.getD_cons_zero, List.getD_cons_succ, nil_isNil, code_isNil, bne_self_eq_false, beq_self_eq_true, Bool.and_self, Int.lt_irrefl, gt_iff_lt]
      exact last_ok hc .nil _
    replace h1 : (j : Int) < (l.length : Int) := Classical.not_not.1 h1
    have hlt : j < l.length := by omega
    by_cases h60 : 60 ≤ (j : Int)
    · simp only [evd_l, h1, h60, D.toInt_int, D.toL_agg, D.toBool_bool, Int.toNat_natCast, od0, od1, od2, od3, od4, od5, od6, od7, od8, od9, od10, od11, od12, osd_l, int_isNil, Bool.not_false, Bool.not_true, if_true, ge_iff_le, Int.natCast_nonneg, decide_true, decide_false, Bool.false_eq_true, if_false, List.length_map, bindC, List.length_cons, List.length_nil, List.getD_cons_zero, List.getD_cons_succ, nil_isNil, code_isNil, bne_self_eq_false, beq_self_eq_true, Bool.and_self, Int.lt_irrefl, gt_iff_lt]
      exact last_ok hc .nil _
    have hd := hp_do hc os now hs.inv (by omega) l[j]
    unfold Ev.ds at hd
    simp only [List.cons_append, List.nil_append] at hd
    simp only [evd_l, h1, h60, getD_map Ev.d hlt, Ev.d, Ev.ds, hd, D.toInt_int, D.toL_agg, D.toBool_bool, Int.toNat_natCast, od0, od1, od2, od3, od4, od5, od6, od7, od8, od9, od10, od11, od12, osd_l, int_isNil, Bool.not_false, Bool.not_true, if_true, ge_iff_le, Int.natCast_nonneg, decide_true, decide_false, Bool.false_eq_true, if_false, List.length_map, bindC, List.length_cons, List.length_nil, List.getD_cons_zero, List.getD_cons_succ, nil_isNil, code_isNil, bne_self_eq_false, beq_self_eq_true, Bool.and_self, Int.lt_irrefl, gt_iff_lt, wj (show j < 9000000000000000 by omega), mget_pk, mput_pk]
    obtain ⟨d1, d2, d3, d4⟩ := do_kept hc hs.inv now l[j]
    by_cases h0 : ¬ ((doF c os now l[j]).1 = 0)
    · simp only [err_ne h0, code_isNil, Bool.not_false, if_true]
      have e1 := d3 h0
      rw [e1]
      exact sums1 n (j + 1) es os now m (by omega) (by omega) hs (by omega) he hel
    replace h0 : (doF c os now l[j]).1 = 0 := Classical.not_not.1 h0
    have hstep : (stepF c os l[j]).1 = 0 ∧ (doF c os now l[j]).2.1 = (stepF c os l[j]).2 := by
      unfold doF at h0 ⊢
      split
      · rename_i hq; rw [if_pos hq] at h0; simp at h0
      rename_i hq; rw [if_neg hq] at h0
      split
      · rename_i hq2; exact ⟨hq2, rfl⟩
      · rename_i hq2; rw [if_neg hq2] at h0; exact absurd h0 hq2
    have hr := step_r hs.keys hs.inv hstep.1
    rw [← hstep.2] at hr
    have hs' := hs.step hr d2
    have next : ∀ es', EndsOk (doF c os now l[j]).2.1 es' → es'.length ≤ (doF c os now l[j]).2.1.length → W1 c l [osd es', .int ((j + 1 : Nat) : Int), .agg (ents pk (nextM m l[j])), hp c (doF c os now l[j]).2.1 (doF c os now l[j]).2.2] = some [.bool true] := fun es' he' hel' =>
      sums1 n (j + 1) es' _ _ _ (by omega) (by omega) hs' (by omega) he' (by omega)
    simp only [h0, err0, D.toInt_int, D.toL_agg, D.toBool_bool, Int.toNat_natCast, od0, od1, od2, od3, od4, od5, od6, od7, od8, od9, od10, od11, od12, osd_l, int_isNil, Bool.not_false, Bool.not_true, if_true, ge_iff_le, Int.natCast_nonneg, decide_true, decide_false, Bool.false_eq_true, if_false, List.length_map, bindC, List.length_cons, List.length_nil, List.getD_cons_zero, List.getD_cons_succ, nil_isNil, code_isNil, bne_self_eq_false, beq_self_eq_true, Bool.and_self, Int.lt_irrefl, gt_iff_lt]
    by_cases k2 : l[j].kind = 2
    · have k2' : (l[j].kind == 2) = true := by simp [k2]
      obtain ⟨b1, b2, b3, b4, b5, b6⟩ := fill_b hs hr k2
      have e1 : IntKind.i64.wrap (((val m (l[j].cell, l[j].gen)).getD (.int 0)).toInt + l[j].qty) = got m (l[j].cell, l[j].gen) + l[j].qty := i64w _ (by show _ ≤ got m (l[j].cell, l[j].gen) + l[j].qty; omega) (by show got m (l[j].cell, l[j].gen) + l[j].qty ≤ _; omega)
      have e3 : got (put m (l[j].cell, l[j].gen) (.int (got m (l[j].cell, l[j].gen) + l[j].qty))) (l[j].other, l[j].with') = got m (l[j].other, l[j].with') := by rw [got_put, if_neg b6]
      have e2 : IntKind.i64.wrap (((val (put m (l[j].cell, l[j].gen) (.int (got m (l[j].cell, l[j].gen) + l[j].qty))) (l[j].other, l[j].with')).getD (.int 0)).toInt + l[j].qty) = got (put m (l[j].cell, l[j].gen) (.int (got m (l[j].cell, l[j].gen) + l[j].qty))) (l[j].other, l[j].with') + l[j].qty :=
        i64w _ (by show _ ≤ got (put m (l[j].cell, l[j].gen) (.int (got m (l[j].cell, l[j].gen) + l[j].qty))) (l[j].other, l[j].with') + l[j].qty; omega) (by show got (put m (l[j].cell, l[j].gen) (.int (got m (l[j].cell, l[j].gen) + l[j].qty))) (l[j].other, l[j].with') + l[j].qty ≤ _; omega)
      have hm : nextM m l[j] = put (put m (l[j].cell, l[j].gen) (.int (got m (l[j].cell, l[j].gen) + l[j].qty))) (l[j].other, l[j].with') (.int (got (put m (l[j].cell, l[j].gen) (.int (got m (l[j].cell, l[j].gen) + l[j].qty))) (l[j].other, l[j].with') + l[j].qty)) := if_pos k2
      simp only [k2', if_true, e1, e2]
      rw [J_law09_TraceSums_2_eq]
      rw [hm] at hs' next
      exact sums3 hc l _ _ _ _ _ _ _ hs' (by omega) es (he.le d1) hel j (by omega) _ next
    · have k2' : (l[j].kind == 2) = false := by simpa using k2
      have hm : nextM m l[j] = m := if_neg k2
      simp only [k2', Bool.false_eq_true, if_false]
      rw [J_law09_TraceSums_2_eq]
      rw [hm] at hs' next
      exact sums3 hc l _ _ _ _ _ _ _ hs' (by omega) es (he.le d1) hel j (by omega) _ next
end
theorem sums_law (c : RU.Cf) (l : List Ev) : FX 5 (c.ds ++ [evd l]) = some [.bool true] := by
  have hn := RU.new_eq c
  have hnw := new_eq [] c
  unfold RU.Cf.ds at hn hnw ⊢
  simp only [List.cons_append, List.nil_append] at hn hnw ⊢
  rw [E_law09_TraceSums]
  have haw := awake_all []
  simp only [bindC] at haw
  cases hb : RU.firstBad c.lims 0 with
  | some p =>
    obtain ⟨j, e⟩ := p
    simp only [hb] at hn
    have he : (RU.errAt j e).isNil = false := rfl
    simp only [hn, he, D.toInt_int, D.toL_agg, D.toBool_bool, Int.toNat_natCast, od0, od1, od2, od3, od4, od5, od6, od7, od8, od9, od10, od11, od12, osd_l, int_isNil, Bool.not_false, Bool.not_true, if_true, ge_iff_le, Int.natCast_nonneg, decide_true, decide_false, Bool.false_eq_true, if_false, List.length_map, bindC, List.length_cons, List.length_nil, List.getD_cons_zero, List.getD_cons_succ, nil_isNil, code_isNil, bne_self_eq_false, beq_self_eq_true, Bool.and_self, Int.lt_irrefl, gt_iff_lt]
    exact haw
  | none =>
    have hc := (RU.firstBad_none c).1 hb
    simp only [hb] at hn
    simp only [hn, hnw, D.toInt_int, D.toL_agg, D.toBool_bool, Int.toNat_natCast, od0, od1, od2, od3, od4, od5, od6, od7, od8, od9, od10, od11, od12, osd_l, int_isNil, Bool.not_false, Bool.not_true, if_true, ge_iff_le, Int.natCast_nonneg, decide_true, decide_false, Bool.false_eq_true, if_false, List.length_map, bindC, List.length_cons, List.length_nil, List.getD_cons_zero, List.getD_cons_succ, nil_isNil, code_isNil, bne_self_eq_false, beq_self_eq_true, Bool.and_self, Int.lt_irrefl, gt_iff_lt]
    exact sums1 hc l l.length 0 [] [] 0 [] (by omega) (by omega) ⟨(fun _ h => by cases h), (fun i j _ h => by simp at h), (fun i h => by simp at h), (fun k _ => rfl)⟩ (by simp) (fun o h => by cases h) (by simp)
theorem evs_of {d : D} (w : Wf Try.prog (.slice 37) d) : ∃ l : List Ev, d = evd l := by
  obtain ⟨l, rfl, _⟩ := w.structs (f := Ev.d) (Q := fun _ => True) (ts := i14) (by kernel_rfl) (by decide) (fun ys hy => by obtain ⟨e, rfl⟩ := ev_of hy; exact ⟨e, rfl, trivial⟩)
  exact ⟨l, rfl⟩
theorem sums (x0 : List D) (d1 : D) (w0 : Open.AllF Try.prog [.int .i64, .int .i64, .int .i64, .int .i64, .int .i64, .int .i64, .int .i64] x0) (w1 : Wf Try.prog (.slice 37) d1) : FX 5 (x0 ++ [d1]) = some [.bool true] := by
  obtain ⟨c, rfl⟩ := cf_of w0
  obtain ⟨l, rfl⟩ := evs_of w1
  exact sums_law c l
end Go.Proofs.Ytofkbhilhgmnlaa.TrD
