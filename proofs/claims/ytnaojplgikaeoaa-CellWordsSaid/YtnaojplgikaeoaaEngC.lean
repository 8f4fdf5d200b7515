/-
  A reader of Go functions, part C: what an operation gives is what the model's operation gives.
-/
import Derived.Test.YtnaojplgikaeoaaEngB
import Derived.RowKit
namespace Go.Proofs.Ytnaojplgikaeoaa.Eng
set_option linter.unusedVariables false
set_option linter.unusedSimpArgs false

structure Cx where
  P : Program
  S : List Nat
  w0 : World
  nt : Nat
  F0 : Nat → Prop

structure Sat (X : Cx) (ρ : List D) (st : St) (Ft : Nat → Prop) (β : Nat → Value) (a : Act) (w : World) : Prop where
  df : a.defers = []
  sz : a.tmps.size = X.nt
  ft : ∀ b, Ft b → b < w.heap.size ∧ ∀ n x, st.bx.lookup n = some x → bk (β n) ≠ some b
  tm : ∀ t sv, st.tm.lookup t = some sv → ∃ v, a.tmps[t]? = some v ∧ RV X.P w Ft ρ β sv v
  bx : ∀ n x, st.bx.lookup n = some x → BoxOk X.P w Ft ρ β x (β n)
  inj : ∀ n m x y k, st.bx.lookup n = some x → st.bx.lookup m = some y → bk (β n) = some k → bk (β m) = some k → n = m
  own : ∀ n x k, st.bx.lookup n = some x → bk (β n) = some k → k < w.heap.size ∧ (k ∈ X.S ∨ X.w0.heap.size ≤ k)
  chg : Chg X.S X.w0 w
  fs : ∀ e b, (e, b) ∈ st.fs → (den ρ e).toBool = b
  on : ∀ n, (β n).oneCell' = true
  f0 : ∀ b, Ft b → X.F0 b ∨ X.w0.heap.size ≤ b ∨ b ∈ X.S

section
variable {P : Program} {w w' : World} {F F' : Nat → Prop} {ρ : List D} {β β' : Nat → Value}

/-! What a cell of a kind is. -/
theorem Rd.int_inv {k : IntKind} {d : D} {v : Value} (h : Rd P w F (.int k) d v) : v = .int k d.toInt := by cases h; assumption
theorem Rd.bool_inv {d : D} {v : Value} (h : Rd P w F .bool d v) : v = .bool d.toBool := by cases h; assumption
theorem Rd.str_inv {d : D} {v : Value} (h : Rd P w F .str d v) : v = .string d.toStr := by cases h; assumption
theorem Rd.one {t : Ty} {d : D} {v : Value} (h : Rd P w F t d v) : v.oneCell' = true := by
  cases h <;> subst_vars <;> rfl
theorem RC.one {c : C} {v : Value} (h : RC P w F ρ β c v) (hb : ∀ n, c = .vec n → (β n).oneCell' = true) : v.oneCell' = true := by
  cases c with
  | dat t e => exact Rd.one h
  | ptr n off => obtain ⟨b, _, rfl⟩ := h; rfl
  | eptr t a i c => obtain ⟨b, o, len, cap, ts, _, _, _, _, rfl⟩ := h; rfl
  | pptr t a c => obtain ⟨b, o, _, rfl⟩ := h; rfl
  | vec n => have e : v = β n := h; rw [e]; exact hb n rfl
  | vptr n t i c => obtain ⟨b, o, len, cap, ts, _, _, _, _, rfl⟩ := h; rfl
  | nils => have e : v = _ := h; rw [e]; rfl
  | nilp => have e : v = _ := h; rw [e]; rfl
  | nilf => have e : v = _ := h; rw [e]; rfl
  | fn f => have e : v = _ := h; rw [e]; rfl
  | junk => exact h
theorem cells_of_one {v : Value} (h : v.oneCell' = true) : v.cells = #[v] := by
  cases v <;> first | rfl | simp [Value.oneCell'] at h

theorem RC.mono {c : C} {v : Value} (hf : ∀ b, F b → F' b ∧ w'.heap[b]? = w.heap[b]?) (h : RC P w F ρ β c v) : RC P w' F' ρ β c v := by
  cases c with
  | dat t e => exact Rd.mono hf h
  | ptr n off => exact h
  | eptr t a i c => obtain ⟨b, o, len, cap, ts, h1, h2⟩ := h; exact ⟨b, o, len, cap, ts, h1.mono hf, h2⟩
  | pptr t a c => obtain ⟨b, o, h1, h2⟩ := h; exact ⟨b, o, h1.mono hf, h2⟩
  | vptr n t i c => exact h
  | _ => exact h
theorem RCL.mono {cs : List C} {vs : List Value} (hf : ∀ b, F b → F' b ∧ w'.heap[b]? = w.heap[b]?) (h : RCL P w F ρ β cs vs) : RCL P w' F' ρ β cs vs :=
  ⟨h.1, fun i c v hc hv => (h.2 i c v hc hv).mono hf⟩
theorem R1.mono {c : V1} {v : Value} (hf : ∀ b, F b → F' b ∧ w'.heap[b]? = w.heap[b]?) (h : R1 P w F ρ β c v) : R1 P w' F' ρ β c v := by
  cases c with
  | one c => exact RC.mono hf h
  | agg cs => obtain ⟨vs, e, h⟩ := h; exact ⟨vs, e, h.mono hf⟩
theorem RV.mono {c : SV} {v : Value} (hf : ∀ b, F b → F' b ∧ w'.heap[b]? = w.heap[b]?) (h : RV P w F ρ β c v) : RV P w' F' ρ β c v := by
  cases c with
  | one c => exact RC.mono hf h
  | agg cs => obtain ⟨vs, e, h⟩ := h; exact ⟨vs, e, h.mono hf⟩
  | tup l => obtain ⟨vs, e, hl, h⟩ := h; exact ⟨vs, e, hl, fun i c u hc hu => (h i c u hc hu).mono hf⟩

/-! Lists of related cells. -/
theorem RCL.nil : RCL P w F ρ β [] [] := ⟨rfl, fun i c v h => by simp at h⟩
theorem RCL.cons {c : C} {cs : List C} {v : Value} {vs : List Value} (h : RC P w F ρ β c v) (hl : RCL P w F ρ β cs vs) : RCL P w F ρ β (c :: cs) (v :: vs) :=
  ⟨by simp [hl.1], fun i => by
    cases i with
    | zero => intro c' v' h1 h2; simp at h1 h2; subst h1 h2; exact h
    | succ i => intro c' v' h1 h2; simp at h1 h2; exact hl.2 i c' v' h1 h2⟩
theorem RCL.drop {cs : List C} {vs : List Value} (h : RCL P w F ρ β cs vs) (n : Nat) : RCL P w F ρ β (cs.drop n) (vs.drop n) :=
  ⟨by simp [h.1], fun i c v h1 h2 => by rw [List.getElem?_drop] at h1 h2; exact h.2 _ c v h1 h2⟩
theorem RCL.take {cs : List C} {vs : List Value} (h : RCL P w F ρ β cs vs) (n : Nat) : RCL P w F ρ β (cs.take n) (vs.take n) :=
  ⟨by simp [h.1], fun i c v h1 h2 => by
    rw [List.getElem?_take] at h1 h2
    split at h1
    · rename_i hi; rw [if_pos hi] at h2; exact h.2 _ c v h1 h2
    · cases h1⟩
theorem RCL.set {cs : List C} {vs : List Value} (h : RCL P w F ρ β cs vs) (n : Nat) {c : C} {v : Value} (hc : RC P w F ρ β c v) : RCL P w F ρ β (cs.set n c) (vs.set n v) :=
  ⟨by simp [h.1], fun i c' v' h1 h2 => by
    rw [List.getElem?_set] at h1 h2
    split at h1
    · rename_i hi
      split at h1
      · rename_i hl
        have : n < vs.length := by rw [← h.1]; exact hl
        rw [if_pos hi, if_pos this] at h2
        simp at h1 h2; subst h1 h2; exact hc
      · cases h1
    · rename_i hi; rw [if_neg hi] at h2; exact h.2 i c' v' h1 h2⟩

/-! Constants. -/
theorem cst_sound {v : Value} {c : C} (h : cst v = some c) : RC P w F ρ β c v := by
  unfold cst at h
  split at h <;> simp at h <;> subst h
  · exact Rd.int rfl
  · exact Rd.bool rfl
  · exact Rd.str rfl
  · exact Rd.inil rfl rfl
  · rfl
  · rfl
  · rfl
theorem cstL_sound : ∀ {vs : List Value} {cs : List C}, cstL vs = some cs → RCL P w F ρ β cs vs
  | [], cs, h => by simp [cstL] at h; subst h; exact RCL.nil
  | v :: vs, cs, h => by
    simp only [cstL] at h
    split at h
    · rename_i c cs' h1 h2
      simp at h; subst h
      exact RCL.cons (cst_sound h1) (cstL_sound h2)
    · cases h
theorem cstV_sound {v : Value} {c : SV} (h : cstV v = some c) : RV P w F ρ β c v := by
  unfold cstV at h
  split at h
  · rename_i cs
    cases h1 : cstL cs.toList with
    | none => simp [h1] at h
    | some l => simp [h1] at h; subst h; exact ⟨cs.toList, by simp, cstL_sound h1⟩
  · cases h1 : cst v with
    | none => simp [h1] at h
    | some l => simp [h1] at h; subst h; exact cst_sound h1
theorem tyC_sound {t : Ty} {c : C} {v : Value} (h : RC P w F ρ β c v) : RC P w F ρ β (tyC t c) v := by
  unfold tyC
  split
  · have e : v = _ := h; exact Rd.pnil rfl e
  · exact h
theorem tyCs_sound : ∀ {ts : List Ty} {cs : List C} {vs : List Value}, RCL P w F ρ β cs vs → RCL P w F ρ β (tyCs ts cs) vs
  | [], cs, vs, h => by cases cs <;> exact h
  | t :: ts, [], vs, h => h
  | t :: ts, c :: cs, [], h => by have := h.1; simp at this
  | t :: ts, c :: cs, v :: vs, h => RCL.cons (tyC_sound (h.2 0 c v rfl rfl)) (tyCs_sound ⟨by have := h.1; simpa using this, fun i c' v' h1 h2 => h.2 (i + 1) c' v' h1 h2⟩)
theorem zeroCs_sound {t : TypeId} {cs : List C} (h : zeroCs P t = some cs) : ∃ z, (P.info? t).bind (·.zero) = some z ∧ RCL P w F ρ β cs z.cells.toList := by
  unfold zeroCs at h
  split at h
  · rename_i z hz
    refine ⟨z, hz, ?_⟩
    split at h
    · rename_i cs' h1
      simp at h; subst h
      split
      · exact tyCs_sound (cstL_sound h1)
      · exact cstL_sound h1
    · cases h
  · cases h

/-! The small forms mean what the plain forms mean. -/
theorem den_mkAr (op : BinOp) (k : IntKind) (a b : E) : den ρ (mkAr op k a b) = .int (arF op k (den ρ a).toInt (den ρ b).toInt) := by unfold mkAr; split <;> rfl
theorem den_mkCmp (op : BinOp) (a b : E) : den ρ (mkCmp op a b) = .bool (cmpF op (den ρ a).toInt (den ρ b).toInt) := by unfold mkCmp; split <;> rfl
theorem den_mkNot (a : E) : (den ρ (mkNot a)).toBool = !(den ρ a).toBool := by
  unfold mkNot; split
  · rfl
  · simp only [den, D.toBool_bool, Bool.not_not]; split <;> simp_all
  · rfl
theorem den_mkAnd (a b : E) : (den ρ (mkAnd a b)).toBool = ((den ρ a).toBool && (den ρ b).toBool) := by
  unfold mkAnd; split <;> simp [den]
theorem den_mkBeq (a b : E) : den ρ (mkBeq a b) = .bool ((den ρ a).toBool == (den ρ b).toBool) := by unfold mkBeq; split <;> rfl
theorem den_mkIte (c a b : E) : den ρ (mkIte c a b) = if (den ρ c).toBool = true then den ρ a else den ρ b := by
  unfold mkIte; split
  · simp [den]
  · simp [den]
  · rfl
theorem den_mkIteB (c a b : E) : (den ρ (mkIteB c a b)).toBool = (if (den ρ c).toBool = true then (den ρ a).toBool else (den ρ b).toBool) := by
  unfold mkIteB; split
  · simp only [den, D.toBool_bool]; cases (den ρ c).toBool <;> simp
  · simp only [den, D.toBool_bool]; cases (den ρ c).toBool <;> simp
  · rw [den_mkIte]; split <;> rfl
theorem rd_mkIteT {P : Program} {w : World} {F : Nat → Prop} {t : Ty} {c a b : E} {u v : Value} (h1 : (den ρ c).toBool = true → Rd P w F t (den ρ a) u) (h2 : (den ρ c).toBool = false → Rd P w F t (den ρ b) v) : Rd P w F t (den ρ (mkIteT t c a b)) (if (den ρ c).toBool = true then u else v) := by
  have hgen : Rd P w F t (den ρ (mkIte c a b)) (if (den ρ c).toBool = true then u else v) := by
    rw [den_mkIte]
    split
    · rename_i h; exact h1 h
    · rename_i h; exact h2 (by simpa using h)
  cases t <;> try exact hgen
  refine Rd.bool ?_
  show _ = Value.bool (den ρ (mkIteB c a b)).toBool
  rw [den_mkIteB]
  split
  · rename_i h; exact (h1 h).bool_inv
  · rename_i h; exact (h2 (by simpa using h)).bool_inv
theorem den_mkIsnil (a : E) : den ρ (mkIsnil a) = .bool (den ρ a).isNil := by unfold mkIsnil; split <;> rfl
theorem den_mkConv (k : IntKind) (a : E) : den ρ (mkConv k a) = .int (k.wrap (den ρ a).toInt) := by unfold mkConv; split <;> rfl
theorem den_mkCell (a : E) (c : Nat) : den ρ (mkCell a c) = (den ρ a).toL.getD c .nil := by
  unfold mkCell
  split
  · simp [den]
  · split <;> simp [den]
  · rfl
theorem den_elCell (n : Nat) (el : E) (c : Nat) : den ρ (elCell n el c) = cellOf n (den ρ el) c := by
  unfold elCell cellOf; split <;> rfl
end
end Go.Proofs.Ytnaojplgikaeoaa.Eng
