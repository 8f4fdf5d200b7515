/-
  A reader of Go functions, part H: what a state says stays true, operation by operation.
-/
import Derived.Test.YtobacchojjfpfaaGreatDoorEngG
namespace Go.Proofs.YtobacchojjfpfaaGreatDoor.Eng
open Go.RowKit
set_option linter.unusedVariables false
set_option linter.unusedSimpArgs false

theorem mem_of_lookup {α : Type} {n : Nat} {x : α} : ∀ {l : List (Nat × α)}, l.lookup n = some x → (n, x) ∈ l
  | [], h => by cases h
  | (m, y) :: l, h => by
    rw [List.lookup_cons] at h
    split at h
    · rename_i he
      simp at he h; subst he h
      exact List.mem_cons_self ..
    · exact List.mem_cons_of_mem _ (mem_of_lookup h)
theorem lookup_filter {α : Type} {n m : Nat} {x : α} : ∀ {l : List (Nat × α)}, (l.filter (fun p => p.1 != n)).lookup m = some x → m ≠ n ∧ l.lookup m = some x
  | [], h => by cases h
  | (k, y) :: l, h => by
    rw [List.filter_cons] at h
    split at h
    · rename_i hk
      rw [List.lookup_cons] at h ⊢
      split at h
      · rename_i he
        simp at he hk; subst he
        exact ⟨hk, by simpa using h⟩
      · rename_i he
        have := lookup_filter h
        exact this
    · rename_i hk
      have := lookup_filter h
      refine ⟨this.1, ?_⟩
      rw [List.lookup_cons]
      have hkn : k = n := by simpa using hk
      have hmk : (m == k) = false := by rw [hkn]; simpa using this.1
      rw [hmk]
      simpa using this.2

def updN (β : Nat → Value) (n : Nat) (v : Value) : Nat → Value := fun m => if m = n then v else β m

section
variable {P : Program} {w w' : World} {F F' : Fr} {ρ : List D} {β : Nat → Value}
theorem RC.updN {c : C} {v u : Value} {m : Nat} (hn : c.noN m = true) (h : RC P w F ρ β c v) : RC P w F ρ (updN β m u) c v := by
  cases c with
  | ptr n off =>
    obtain ⟨b, h1, h2⟩ := h
    have hne : n ≠ m := by simpa [C.noN] using hn
    exact ⟨b, by simp [Eng.updN, hne, h1], h2⟩
  | vec n =>
    have hne : n ≠ m := by simpa [C.noN] using hn
    have e : v = β n := h
    show v = _
    simp [Eng.updN, hne, e]
  | vptr n t i c =>
    obtain ⟨b, o, len, cap, ts, h1, h2⟩ := h
    have hne : n ≠ m := by simpa [C.noN] using hn
    exact ⟨b, o, len, cap, ts, by simp [Eng.updN, hne, h1], h2⟩
  | lit n len =>
    obtain ⟨b, h1, h2⟩ := h
    have hne : n ≠ m := by simpa [C.noN] using hn
    exact ⟨b, by simp [Eng.updN, hne, h1], h2⟩
  | win n t i j =>
    obtain ⟨A, len, cap, ts, h1, h2⟩ := h
    have hne : n ≠ m := by simpa [C.noN] using hn
    exact ⟨A, len, cap, ts, by simp [Eng.updN, hne, h1], h2⟩
  | _ => exact h
theorem RCL.updN {cs : List C} {vs : List Value} {u : Value} {m : Nat} (hn : cs.all (C.noN m) = true) (h : RCL P w F ρ β cs vs) : RCL P w F ρ (updN β m u) cs vs :=
  ⟨h.1, fun i c v hc hv => (h.2 i c v hc hv).updN (List.all_eq_true.1 hn c (List.mem_of_getElem? hc))⟩
theorem R1.updN {c : V1} {v u : Value} {m : Nat} (hn : c.noN m = true) (h : R1 P w F ρ β c v) : R1 P w F ρ (updN β m u) c v := by
  cases c with
  | one c => exact RC.updN hn h
  | agg cs => obtain ⟨vs, e, h⟩ := h; exact ⟨vs, e, h.updN hn⟩
theorem RV.updN {c : SV} {v u : Value} {m : Nat} (hn : c.noN m = true) (h : RV P w F ρ β c v) : RV P w F ρ (updN β m u) c v := by
  cases c with
  | one c => exact RC.updN hn h
  | agg cs => obtain ⟨vs, e, h⟩ := h; exact ⟨vs, e, h.updN hn⟩
  | tup l => obtain ⟨vs, e, hl, h⟩ := h; exact ⟨vs, e, hl, fun i c u hc hu => (h i c u hc hu).updN (List.all_eq_true.1 hn c (List.mem_of_getElem? hc))⟩

/-! More variables. -/
theorem RC.ext {c : C} {v : Value} (r : List D) (hn : c.sc ρ.length = true) (h : RC P w F ρ β c v) : RC P w F (ρ ++ r) β c v := by
  cases c with
  | dat t e => show Rd _ _ _ _ (den (ρ ++ r) e) _; rw [den_append hn]; exact h
  | eptr t a i c =>
    simp only [C.sc, Bool.and_eq_true] at hn
    obtain ⟨b, o, len, cap, ts, h1⟩ := h
    refine ⟨b, o, len, cap, ts, ?_⟩
    rw [den_append hn.1, den_append hn.2]; exact h1
  | pptr t a c =>
    obtain ⟨b, o, h1⟩ := h
    refine ⟨b, o, ?_⟩
    rw [den_append hn]; exact h1
  | vptr n t i c =>
    have hi : i.sc ρ.length = true := hn
    obtain ⟨b, o, len, cap, ts, h1⟩ := h
    refine ⟨b, o, len, cap, ts, ?_⟩
    rw [den_append hi]; exact h1
  | win n t i j =>
    simp only [C.sc, Bool.and_eq_true] at hn
    obtain ⟨A, len, cap, ts, h1⟩ := h
    refine ⟨A, len, cap, ts, ?_⟩
    rw [den_append hn.1, den_append hn.2]; exact h1
  | hptr t a c =>
    obtain ⟨n, b, h1, h2, h3⟩ := h
    exact ⟨n, b, h1, by rw [den_append hn]; exact h2, h3⟩
  | _ => exact h
theorem RCL.ext {cs : List C} {vs : List Value} (r : List D) (hn : cs.all (C.sc ρ.length) = true) (h : RCL P w F ρ β cs vs) : RCL P w F (ρ ++ r) β cs vs :=
  ⟨h.1, fun i c v hc hv => (h.2 i c v hc hv).ext r (List.all_eq_true.1 hn c (List.mem_of_getElem? hc))⟩
theorem R1.ext {c : V1} {v : Value} (r : List D) (hn : c.sc ρ.length = true) (h : R1 P w F ρ β c v) : R1 P w F (ρ ++ r) β c v := by
  cases c with
  | one c => exact RC.ext r hn h
  | agg cs => obtain ⟨vs, e, h⟩ := h; exact ⟨vs, e, h.ext r hn⟩
theorem RV.ext {c : SV} {v : Value} (r : List D) (hn : c.sc ρ.length = true) (h : RV P w F ρ β c v) : RV P w F (ρ ++ r) β c v := by
  cases c with
  | one c => exact RC.ext r hn h
  | agg cs => obtain ⟨vs, e, h⟩ := h; exact ⟨vs, e, h.ext r hn⟩
  | tup l => obtain ⟨vs, e, hl, h⟩ := h; exact ⟨vs, e, hl, fun i c u hc hu => (h i c u hc hu).ext r (List.all_eq_true.1 hn c (List.mem_of_getElem? hc))⟩
theorem BoxOk.ext {x : Box} {v : Value} (r : List D) (hn : x.sc ρ.length = true) (h : BoxOk P w F ρ β x v) : BoxOk P w F (ρ ++ r) β x v := by
  cases x with
  | box t cs => obtain ⟨b, vs, h1, h2, h3⟩ := h; exact ⟨b, vs, h1, h2, h3.ext r hn⟩
  | vec e x => 
    obtain ⟨ts, xs, h1⟩ := h
    refine ⟨ts, xs, ?_⟩
    rw [den_append hn]; exact h1
  | view t a c =>
    obtain ⟨n, b, vs, h1, h2⟩ := h
    exact ⟨n, b, vs, by rw [den_append hn]; exact h1, h2⟩
  | map t x =>
    obtain ⟨b, k, e, ts, us, g, h, es, h1⟩ := h
    exact ⟨b, k, e, ts, us, g, h, es, by rw [den_append hn]; exact h1⟩
theorem EntOk.mono {F F' : Fr} {ts us : List Ty} {g h : Bool} {i : Nat} {d : D} {e : MapEntry} {w w' : World} (hf : Le w F w' F') (q : EntOk P w F ts us g h i d e) : EntOk P w' F' ts us g h i d e :=
  ⟨q.born, q.key, by obtain ⟨vs, a, b, c⟩ := q.val; exact ⟨vs, a, b, fun c' t u ht hu => (c c' t u ht hu).mono hf⟩⟩
end

section
variable {X : Cx} {ρ : List D} {st : St} {Ft Ft' : Fr} {β : Nat → Value} {a : Act} {w w' : World}

theorem tmps_put {n : Nat} {dst : Option Tmp} (hd : okDst n dst = true) (hz : a.tmps.size = n) (v : Value) : (a.put dst v).tmps.size = n ∧ (a.put dst v).defers = a.defers ∧ (∀ d, dst = some d → (a.put dst v).tmps[d]? = some v) ∧ ∀ t, dst ≠ some t → (a.put dst v).tmps[t]? = a.tmps[t]? := by
  cases dst with
  | none => exact ⟨hz, rfl, (fun d h => by cases h), fun t _ => rfl⟩
  | some d =>
    have hlt : d < n := by simpa [okDst] using hd
    refine ⟨by simp [Act.put, hz], rfl, fun d' h => ?_, fun t h => ?_⟩
    · cases h; simp [Act.put, hz, hlt]
    · have hne : d ≠ t := fun e => h (by rw [e])
      simp [Act.put, Array.getElem?_setIfInBounds_ne hne]

theorem Sat.put (hs : Sat X ρ st Ft β a w) {dst : Option Tmp} (hd : okDst X.nt dst = true) {sv : SV} {v : Value} (hv : RV X.P w Ft ρ β sv v) : Sat X ρ (st.upd dst sv none) Ft β (a.put dst v) w := by
  obtain ⟨h1, h2, h3, h4⟩ := tmps_put hd hs.sz v
  refine ⟨by rw [h2]; exact hs.df, h1, hs.ft, ?_, hs.bx, hs.inj, hs.own, hs.chg, hs.fs, hs.on, hs.f0, hs.gx, hs.cf, ⟨hs.hg.hp, hs.hg.gm⟩, hs.fw⟩
  intro t sv' ht
  cases dst with
  | none => rw [h4 t (by simp)]; exact hs.tm t sv' ht
  | some d =>
    have ht' : ((d, sv) :: st.tm).lookup t = some sv' := ht
    rw [List.lookup_cons] at ht'
    split at ht'
    · rename_i he
      simp at he ht'; subst he ht'
      exact ⟨v, h3 t rfl, hv⟩
    · rename_i he
      have hne : (some d : Option Tmp) ≠ some t := by intro e; simp at e he; exact he e.symm
      rw [h4 t hne]
      exact hs.tm t sv' ht'

theorem BoxOk.mono {P : Program} {F F' : Fr} {x : Box} {v : Value} (hf : Le w F w' F') (hk : ∀ k, x.bk v = some k → w'.heap[k]? = w.heap[k]?) (hg : ∀ (n b : Nat) (t : TypeId), F.γ[n]? = some (b, t) → (∃ a c, x = .view t a c) → w'.heap[b]? = w.heap[b]?) (h : BoxOk P w F ρ β x v) : BoxOk P w' F' ρ β x v := by
  cases x with
  | box t cs =>
    obtain ⟨b, vs, h1, h2, h3⟩ := h
    exact ⟨b, vs, h1, by rw [hk b (by rw [h1]; rfl)]; exact h2, h3.mono hf⟩
  | vec e x =>
    obtain ⟨ts, xs, h1, h2, h3⟩ := h
    exact ⟨ts, xs, h1, h2.mono hk, fun i c y t hy ht => by obtain ⟨u, hu1, hu2⟩ := h3 i c y t hy ht; exact ⟨u, hu1, hu2.mono hf⟩⟩
  | view t a c =>
    obtain ⟨n, b, vs, h1, h2, h3, h4⟩ := h
    exact ⟨n, b, vs, h1, hf.get h2, by rw [hg n b t h2 ⟨a, c, rfl⟩]; exact h3, h4⟩
  | map t x =>
    obtain ⟨b, k, e, ts, us, g, h, es, v1, v2, v3, v4, v5, v6, v7, v8, v9⟩ := h
    exact ⟨b, k, e, ts, us, g, h, es, v1, v2, v3, v4, v5, v6, by rw [hk b (by rw [v1]; rfl)]; exact v7, v8, fun i e d a b => (v9 i e d a b).mono hf⟩
theorem BoxOk.beta {P : Program} {F : Fr} {β' : Nat → Value} {x : Box} {v : Value} (hx : ∀ t cs, x ≠ .box t cs) (h : BoxOk P w F ρ β x v) : BoxOk P w F ρ β' x v := by
  cases x with
  | box t cs => exact absurd rfl (hx t cs)
  | vec e x => exact h
  | view t a c => exact h
  | map t x => exact h

/-- New blocks. -/
@[reducible] def More (Ft : Fr) (w w' : World) : Fr := Ft.or fun b => w.heap.size ≤ b ∧ b < w'.heap.size
theorem Sat.below (hs : Sat X ρ st Ft β a w) (hb : Below w.heap.size w w') : Sat X ρ st (More Ft w w') β a w' := by
  have hf : Le w Ft w' (More Ft w w') := Le.or fun b h => hb.block b (hs.ft b h).1
  refine ⟨hs.df, hs.sz, ?_, ?_, ?_, hs.inj, ?_, chg_kept hs.chg hb, hs.fs, hs.on, fun b h => h.elim (hs.f0 b) (fun h => .inr (.inl (Nat.le_trans hs.chg.size h.1))), hs.gx, hs.cf, ?_, ⟨fun b h => .inl (hs.fw.1 b h), hs.fw.2⟩⟩
  · rintro b (h | ⟨h1, h2⟩)
    · exact ⟨Nat.lt_of_lt_of_le (hs.ft b h).1 hb.size, (hs.ft b h).2⟩
    · refine ⟨h2, fun n x hx he => ?_⟩
      have := (hs.own n x b hx he).1
      omega
  · intro t sv ht
    obtain ⟨v, h1, h2⟩ := hs.tm t sv ht
    exact ⟨v, h1, h2.mono hf⟩
  · intro n x hx
    exact (hs.bx n x hx).mono hf (fun k hk => hb.block k (hs.own n x k hx hk).1) (fun n b t h _ => hb.block b (hs.hg.gm n b t h).1)
  · intro n x k hx hk
    have := hs.own n x k hx hk
    exact ⟨Nat.lt_of_lt_of_le this.1 hb.size, this.2⟩
  · exact hs.hg.move hf rfl (fun k hk => ⟨hb.block k hk.1, Nat.lt_of_lt_of_le hk.1 hb.size, (fun h => h.elim hk.2.1 (fun h => by have := hk.1; omega)), hk.2.2⟩) rfl rfl rfl
theorem exN_ext {ex : List (Nat × TypeId × E)} (r : List D) (h : ∀ p ∈ ex, p.2.2.sc ρ.length = true) : exN (ρ ++ r) ex = exN ρ ex := by
  unfold exN
  exact List.map_congr_left fun p hp => by rw [den_append (h p hp)]
theorem Hg.ext {r : List D} {k : Nat} (h : Hg X ρ st Ft β w) (h1 : st.hp.all (fun p => p.2.sc ρ.length) = true) (h2 : ∀ p ∈ st.ex, p.2.2.sc ρ.length = true) : Hg X (ρ ++ r) { st with nv := k } Ft β w := by
  refine ⟨fun m e he => ?_, h.gm⟩
  have he' : st.hp = some (m, e) := he
  rw [he'] at h1
  rw [den_append (by simpa using h1), exN_ext r h2]
  exact h.hp m e he
theorem Sat.ext (hs : Sat X ρ st Ft β a w) (hn : st.nv = ρ.length) (hc : st.sc = true) (r : List D) (k : Nat) : Sat X (ρ ++ r) { st with nv := k } Ft β a w := by
  simp only [St.sc, Bool.and_eq_true, List.all_eq_true] at hc
  obtain ⟨⟨⟨h1, h2⟩, h3⟩, h4, h5⟩ := hc
  rw [hn] at h1 h2 h3 h4 h5
  refine ⟨hs.df, hs.sz, hs.ft, ?_, ?_, hs.inj, hs.own, hs.chg, ?_, hs.on, hs.f0, hs.gx, hs.cf, hs.hg.ext h4 h5, hs.fw⟩
  · intro t sv ht
    obtain ⟨v, q1, q2⟩ := hs.tm t sv ht
    exact ⟨v, q1, q2.ext r (h1 _ (mem_of_lookup ht))⟩
  · intro n x hx
    exact (hs.bx n x hx).ext r (h2 _ (mem_of_lookup hx))
  · intro e b he
    rw [den_append (h3 _ he)]
    exact hs.fs e b he
theorem below_alloc (w : World) (o : Obj) : Below w.heap.size w (w.alloc o) := (Below.refl _ _).alloc (Nat.le_refl _) o
theorem heap_size_alloc (w : World) (o : Obj) : (w.alloc o).heap.size = w.heap.size + 1 := World.size_alloc ..
theorem Sat.newBox (hs : Sat X ρ st Ft β a w) (hfr : st.fresh = true) {t : TypeId} {cs : List C} {vs : List Value} (hcs : cs.all (C.noN st.nn) = true) (hl : RCL X.P w Ft ρ β cs vs) {dst : Option Tmp} (hd : okDst X.nt dst = true) :
    Sat X ρ (st.upd dst (.one (.ptr st.nn 0)) (some (.box t cs))) Ft (updN β st.nn (.pointer (some ⟨w.heap.size, 0, none⟩))) (a.put dst (.pointer (some ⟨w.heap.size, 0, none⟩))) (w.alloc (.cells vs.toArray t)) := by
  simp only [St.fresh, Bool.and_eq_true, List.all_eq_true] at hfr
  obtain ⟨hf1, hf2⟩ := hfr
  have hb := below_alloc w (.cells vs.toArray t)
  have hf : Le w Ft (w.alloc (.cells vs.toArray t)) Ft := Le.same fun b h => hb.block b (hs.ft b h).1
  have hnone : st.bx.lookup st.nn = none := by
    cases hx : st.bx.lookup st.nn with
    | none => rfl
    | some x => have := (hf2 _ (mem_of_lookup hx)).1; simp at this
  have hlk : ∀ n x, ((st.nn, Box.box t cs) :: st.bx).lookup n = some x → (n = st.nn ∧ x = .box t cs) ∨ (n ≠ st.nn ∧ st.bx.lookup n = some x) := by
    intro n x h
    rw [List.lookup_cons] at h
    split at h
    · rename_i he; simp at he h; exact .inl ⟨he, h.symm⟩
    · rename_i he; simp at he; exact .inr ⟨he, h⟩
  have base : Sat X ρ { st with bx := (st.nn, .box t cs) :: st.bx, nn := st.nn + 1 } Ft (updN β st.nn (.pointer (some ⟨w.heap.size, 0, none⟩))) a (w.alloc (.cells vs.toArray t)) := by
    refine ⟨hs.df, hs.sz, ?_, ?_, ?_, ?_, ?_, chg_kept hs.chg hb, hs.fs, ?_, hs.f0, hs.gx, hs.cf, ?_, hs.fw⟩
    rotate_right
    · refine hs.hg.move hf rfl (fun k hk => ⟨hb.block k hk.1, Nat.lt_of_lt_of_le hk.1 hb.size, hk.2.1, fun n x hx => ?_⟩) rfl rfl rfl
      rcases hlk n x hx with ⟨rfl, rfl⟩ | ⟨hne, hx'⟩
      · intro he
        simp [updN, bk] at he
        have := hk.1
        omega
      · simp only [updN, hne, if_false]
        exact hk.2.2 n x hx'
    · intro b h
      refine ⟨Nat.lt_of_lt_of_le (hs.ft b h).1 hb.size, fun n x hx => ?_⟩
      rcases hlk n x hx with ⟨rfl, rfl⟩ | ⟨hne, hx'⟩
      · intro he
        simp [updN, bk] at he
        have := (hs.ft b h).1
        omega
      · simp only [updN, hne, if_false]
        exact (hs.ft b h).2 n x hx'
    · intro t' sv ht
      obtain ⟨v, q1, q2⟩ := hs.tm t' sv ht
      exact ⟨v, q1, (q2.mono hf).updN (hf1 _ (mem_of_lookup ht))⟩
    · intro n x hx
      rcases hlk n x hx with ⟨rfl, rfl⟩ | ⟨hne, hx'⟩
      · refine ⟨w.heap.size, vs, by simp [updN], heap_alloc_new w _, ?_⟩
        exact (hl.mono hf).updN hcs
      · have hbo := hs.bx n x hx'
        have hno := (hf2 _ (mem_of_lookup hx')).2
        have h1 : BoxOk X.P (w.alloc (.cells vs.toArray t)) Ft ρ β x (β n) := hbo.mono hf (fun k hk => hb.block k (hs.own n x k hx' hk).1) (fun n b t h _ => hb.block b (hs.hg.gm n b t h).1)
        simp only [updN, hne, if_false]
        cases x with
        | box t' cs' => obtain ⟨b, vs', q1, q2, q3⟩ := h1; exact ⟨b, vs', q1, q2, q3.updN hno⟩
        | vec e x => exact h1
        | view t' x c => exact h1
        | map t' x => exact h1
    · intro n m x y k hx hy h1 h2
      rcases hlk n x hx with ⟨rfl, rfl⟩ | ⟨hne, hx'⟩ <;> rcases hlk m y hy with ⟨rfl, rfl⟩ | ⟨hne', hy'⟩
      · rfl
      · simp only [updN, hne', if_true, if_false] at h1 h2
        simp [bk] at h1
        have := (hs.own m y k hy' h2).1
        omega
      · simp only [updN, hne, if_true, if_false] at h1 h2
        simp [bk] at h2
        have := (hs.own n x k hx' h1).1
        omega
      · simp only [updN, hne, hne', if_false] at h1 h2
        exact hs.inj n m x y k hx' hy' h1 h2
    · intro n x k hx hk
      rcases hlk n x hx with ⟨rfl, rfl⟩ | ⟨hne, hx'⟩
      · simp [updN, bk] at hk
        subst hk
        exact ⟨by rw [heap_size_alloc]; omega, .inr hs.chg.size⟩
      · simp only [updN, hne, if_false] at hk
        have := hs.own n x k hx' hk
        exact ⟨Nat.lt_of_lt_of_le this.1 hb.size, this.2⟩
    · intro n
      unfold updN
      split
      · rfl
      · exact hs.on n
  exact base.put hd ⟨w.heap.size, by simp [updN], rfl⟩
/-! A store into a box of the call's own. -/
theorem putCells_length : ∀ (xs cs : List C) (off : Nat), (putCells cs off xs).length = cs.length
  | [], cs, off => rfl
  | x :: xs, cs, off => by simp [putCells, putCells_length xs]
theorem heap_setRow_ne (w : World) (g : Nat) (cs : Array Value) {k : Nat} (h : k ≠ g) : (w.setRow g cs).heap[k]? = w.heap[k]? := by
  unfold World.setRow
  simp [Array.getElem?_modify, Ne.symm h]
theorem heap_setRow (w : World) (g : Nat) (cs cs0 : Array Value) (t : TypeId) (h : w.heap[g]? = some (.cells cs0 t (0, 0))) : (w.setRow g cs).heap[g]? = some (.cells cs t (0, 0)) := by
  unfold World.setRow
  simp [Array.getElem?_modify, h]
theorem put_rcl {P : Program} {F : Fr} : ∀ {xs : List C} {ys : List Value} (cs : List C) (vs : List Value) (off : Nat), RCL P w F ρ β xs ys → RCL P w F ρ β cs vs → off + xs.length ≤ cs.length →
    RCL P w F ρ β (putCells cs off xs) (vs.take off ++ ys ++ vs.drop (off + ys.length))
  | [], ys, cs, vs, off, hx, h, hle => by
    have : ys = [] := List.eq_nil_of_length_eq_zero hx.1.symm
    subst this
    simpa [putCells] using h
  | x :: xs, [], cs, vs, off, hx, h, hle => by have := hx.1; simp at this
  | x :: xs, y :: ys, cs, vs, off, hx, h, hle => by
    simp only [List.length_cons] at hle
    have hlen := h.1
    have hoff : off < vs.length := by omega
    have hxy : xs.length = ys.length := by have := hx.1; simpa using this
    have ih := put_rcl (cs.set off x) (vs.set off y) (off + 1) ⟨hxy, fun i c v h1 h2 => hx.2 (i + 1) c v h1 h2⟩ (h.set off (hx.2 0 x y rfl rfl)) (by simp; omega)
    have e : (vs.set off y).take (off + 1) ++ ys ++ (vs.set off y).drop (off + 1 + ys.length) = vs.take off ++ (y :: ys) ++ vs.drop (off + (y :: ys).length) := by
      have h1 : (vs.set off y).take (off + 1) = vs.take off ++ [y] := by
        rw [List.take_set, List.take_succ_eq_append_getElem hoff, List.set_append_right _ _ (by simp; omega)]
        simp [Nat.min_eq_left (Nat.le_of_lt hoff)]
      have h2 : (vs.set off y).drop (off + 1 + ys.length) = vs.drop (off + (ys.length + 1)) := by
        rw [List.drop_set_of_lt (by omega)]
        congr 1
        omega
      rw [h1, h2]
      simp
    rw [← e]
    exact ih
theorem Sat.store (hs : Sat X ρ st Ft β a w) {n : Nat} {bt : TypeId} {cs xs : List C} {off b : Nat} (hx : st.bx.lookup n = some (.box bt cs)) (hle : off + xs.length ≤ cs.length) (hb : β n = .pointer (some ⟨b, 0, none⟩))
    {vs ys : List Value} (hv : w.heap[b]? = some (.cells vs.toArray bt (0, 0))) (hl : RCL X.P w Ft ρ β cs vs) (hy : RCL X.P w Ft ρ β xs ys) :
    Sat X ρ { st with bx := (n, .box bt (putCells cs off xs)) :: st.bx } Ft β a (w.setRow b (vs.take off ++ ys ++ vs.drop (off + ys.length)).toArray) := by
  have hbk : bk (β n) = some b := by rw [hb]; rfl
  have hlt := (hs.own n _ b hx hbk).1
  have hf : Le w Ft (w.setRow b (vs.take off ++ ys ++ vs.drop (off + ys.length)).toArray) Ft := Le.same fun k h => heap_setRow_ne w b _ (fun e => (hs.ft k h).2 n _ hx (by rw [Box.bk_box, hbk, e]))
  have hoth : ∀ k, Oth st.bx Ft β w k → k ≠ b := fun k hk e => hk.2.2 n _ hx (by rw [Box.bk_box, hbk, e])
  have hsz : (w.setRow b (vs.take off ++ ys ++ vs.drop (off + ys.length)).toArray).heap.size = w.heap.size := by simp [World.setRow]
  have hlk : ∀ m y, ((n, Box.box bt (putCells cs off xs)) :: st.bx).lookup m = some y → (m = n ∧ y = .box bt (putCells cs off xs)) ∨ (m ≠ n ∧ st.bx.lookup m = some y) := by
    intro m y h
    rw [List.lookup_cons] at h
    split at h
    · rename_i he; simp at he h; exact .inl ⟨he, h.symm⟩
    · rename_i he; simp at he; exact .inr ⟨he, h⟩
  have hsome : ∀ m y, ((n, Box.box bt (putCells cs off xs)) :: st.bx).lookup m = some y → ∃ y', st.bx.lookup m = some y' ∧ y.bk (β m) = y'.bk (β m) := by
    intro m y h
    rcases hlk m y h with ⟨rfl, rfl⟩ | ⟨_, h⟩
    · exact ⟨_, hx, rfl⟩
    · exact ⟨_, h, rfl⟩
  refine ⟨hs.df, hs.sz, ?_, ?_, ?_, ?_, ?_, ?_, hs.fs, hs.on, hs.f0, hs.gx, hs.cf, ?_, hs.fw⟩
  rotate_right
  · refine hs.hg.move hf rfl (fun k hk => ⟨heap_setRow_ne w b _ (hoth k hk), by rw [hsz]; exact hk.1, hk.2.1, fun m y hm => ?_⟩) rfl rfl rfl
    rcases hlk m y hm with ⟨rfl, rfl⟩ | ⟨hne, hm'⟩
    · exact hk.2.2 _ (.box bt cs) hx
    · exact hk.2.2 m y hm'
  · intro k h
    refine ⟨by rw [hsz]; exact (hs.ft k h).1, fun m y hm => ?_⟩
    rcases hlk m y hm with ⟨rfl, rfl⟩ | ⟨hne, hm'⟩
    · exact (hs.ft k h).2 _ (.box bt cs) hx
    · exact (hs.ft k h).2 m y hm'
  · intro t sv ht
    obtain ⟨v, q1, q2⟩ := hs.tm t sv ht
    exact ⟨v, q1, q2.mono hf⟩
  · intro m y hm
    rcases hlk m y hm with ⟨rfl, rfl⟩ | ⟨hne, hm'⟩
    · exact ⟨b, _, hb, heap_setRow w b _ _ bt hv, (put_rcl cs vs off hy hl hle).mono hf⟩
    · refine (hs.bx m y hm').mono hf (fun k hk => heap_setRow_ne w b _ (fun e => ?_)) (fun n b' t h _ => heap_setRow_ne w b _ (hoth b' (hs.hg.gm n b' t h)))
      subst e
      exact hne (hs.inj m n y _ k hm' hx hk hbk)
  · intro m m' y y' k hm hm' h1 h2
    obtain ⟨z, q1, e1⟩ := hsome m y hm
    obtain ⟨z', q2, e2⟩ := hsome m' y' hm'
    exact hs.inj m m' z z' k q1 q2 (by rw [← e1]; exact h1) (by rw [← e2]; exact h2)
  · intro m y k hm hk
    obtain ⟨z, q1, e1⟩ := hsome m y hm
    rw [hsz]
    exact hs.own m z k q1 (by rw [← e1]; exact hk)
  · refine ⟨hs.chg.os, hs.chg.tape, hs.chg.output, by rw [hsz]; exact hs.chg.size, fun k hk hn => ?_⟩
    rw [heap_setRow_ne w b _ (fun e => ?_)]
    · exact hs.chg.block k hk hn
    · subst e
      rcases (hs.own n _ k hx hbk).2 with h | h
      · exact hn h
      · omega
theorem heap_setObj_ne (w : World) (g : Nat) (o : Obj) {k : Nat} (h : k ≠ g) : ({ w with heap := w.heap.setIfInBounds g o } : World).heap[k]? = w.heap[k]? := by
  simp [Ne.symm h]
/-- The object of a block of the call's own is another one. -/
theorem Sat.setObj (hs : Sat X ρ st Ft β a w) {n b : Nat} {x x' : Box} (hx : st.bx.lookup n = some x) (hb : x.bk (β n) = some b) (hb' : x'.bk (β n) = some b) {o : Obj} (hx' : BoxOk X.P { w with heap := w.heap.setIfInBounds b o } Ft ρ β x' (β n)) :
    Sat X ρ { st with bx := (n, x') :: st.bx } Ft β a { w with heap := w.heap.setIfInBounds b o } := by
  have hlt := (hs.own n _ b hx hb).1
  have hf : Le w Ft { w with heap := w.heap.setIfInBounds b o } Ft := Le.same fun k h => heap_setObj_ne w b _ (fun e => (hs.ft k h).2 n _ hx (by rw [hb, e]))
  have hoth : ∀ k, Oth st.bx Ft β w k → k ≠ b := fun k hk e => hk.2.2 n _ hx (by rw [hb, e])
  have hsz : ({ w with heap := w.heap.setIfInBounds b o } : World).heap.size = w.heap.size := by simp
  have hlk : ∀ m y, ((n, x') :: st.bx).lookup m = some y → (m = n ∧ y = x') ∨ (m ≠ n ∧ st.bx.lookup m = some y) := by
    intro m y h
    rw [List.lookup_cons] at h
    split at h
    · rename_i he; simp at he h; exact .inl ⟨he, h.symm⟩
    · rename_i he; simp at he; exact .inr ⟨he, h⟩
  have hsome : ∀ m y, ((n, x') :: st.bx).lookup m = some y → ∃ y', st.bx.lookup m = some y' ∧ y.bk (β m) = y'.bk (β m) := by
    intro m y h
    rcases hlk m y h with ⟨rfl, rfl⟩ | ⟨_, h⟩
    · exact ⟨_, hx, by rw [hb, hb']⟩
    · exact ⟨_, h, rfl⟩
  refine ⟨hs.df, hs.sz, ?_, ?_, ?_, ?_, ?_, ?_, hs.fs, hs.on, hs.f0, hs.gx, hs.cf, ?_, hs.fw⟩
  rotate_right
  · refine hs.hg.move hf rfl (fun k hk => ⟨heap_setObj_ne w b _ (hoth k hk), by rw [hsz]; exact hk.1, hk.2.1, fun m y hm => ?_⟩) rfl rfl rfl
    obtain ⟨z, q1, e1⟩ := hsome m y hm
    rw [e1]; exact hk.2.2 m z q1
  · intro k h
    refine ⟨by rw [hsz]; exact (hs.ft k h).1, fun m y hm => ?_⟩
    obtain ⟨z, q1, e1⟩ := hsome m y hm
    rw [e1]; exact (hs.ft k h).2 m z q1
  · intro t sv ht
    obtain ⟨v, q1, q2⟩ := hs.tm t sv ht
    exact ⟨v, q1, q2.mono hf⟩
  · intro m y hm
    rcases hlk m y hm with ⟨rfl, rfl⟩ | ⟨hne, hm'⟩
    · exact hx'
    · refine (hs.bx m y hm').mono hf (fun k hk => heap_setObj_ne w b _ (fun e => ?_)) (fun n b' t h _ => heap_setObj_ne w b _ (hoth b' (hs.hg.gm n b' t h)))
      subst e
      exact hne (hs.inj m n y _ k hm' hx hk hb)
  · intro m m' y y' k hm hm' h1 h2
    obtain ⟨z, q1, e1⟩ := hsome m y hm
    obtain ⟨z', q2, e2⟩ := hsome m' y' hm'
    exact hs.inj m m' z z' k q1 q2 (by rw [← e1]; exact h1) (by rw [← e2]; exact h2)
  · intro m y k hm hk
    obtain ⟨z, q1, e1⟩ := hsome m y hm
    rw [hsz]
    exact hs.own m z k q1 (by rw [← e1]; exact hk)
  · refine ⟨hs.chg.os, hs.chg.tape, hs.chg.output, by rw [hsz]; exact hs.chg.size, fun k hk hn => ?_⟩
    rw [heap_setObj_ne w b _ (fun e => ?_)]
    · exact hs.chg.block k hk hn
    · subst e
      rcases (hs.own n _ k hx hb).2 with h | h
      · exact hn h
      · omega
/-- A box given up: it reads as data from now on. -/
theorem Sat.drop (hs : Sat X ρ st Ft β a w) {n : Nat} {x : Box} (hx : st.bx.lookup n = some x) {b : Nat} (hb : x.bk (β n) = some b) :
    Sat X ρ { st with bx := st.bx.filter (fun p => p.1 != n) } (Ft.or fun k => k = b) β a w := by
  have hf : Le w Ft w (Ft.or fun k => k = b) := Le.or fun k h => rfl
  refine ⟨hs.df, hs.sz, ?_, ?_, ?_, ?_, ?_, hs.chg, hs.fs, hs.on, fun k h => h.elim (hs.f0 k) (fun h => by subst h; exact (hs.own n x k hx hb).2.elim (fun h => .inr (.inr h)) (fun h => .inr (.inl h))), hs.gx, hs.cf, ?_, ⟨fun b h => .inl (hs.fw.1 b h), hs.fw.2⟩⟩
  · rintro k (h | rfl)
    · exact ⟨(hs.ft k h).1, fun m y hm => (hs.ft k h).2 m y (lookup_filter hm).2⟩
    · exact ⟨(hs.own n x k hx hb).1, fun m y hm he => (lookup_filter hm).1 (hs.inj m n y x k (lookup_filter hm).2 hx he hb)⟩
  · intro t sv ht
    obtain ⟨v, q1, q2⟩ := hs.tm t sv ht
    exact ⟨v, q1, q2.mono hf⟩
  · intro m y hm
    exact (hs.bx m y (lookup_filter hm).2).mono hf (fun k hk => rfl) (fun n b t h _ => rfl)
  · intro m m' y y' k hm hm' h1 h2
    exact hs.inj m m' y y' k (lookup_filter hm).2 (lookup_filter hm').2 h1 h2
  · intro m y k hm hk
    exact hs.own m y k (lookup_filter hm).2 hk
  · exact hs.hg.move hf rfl (fun k hk => ⟨rfl, hk.1, (fun h => h.elim hk.2.1 (fun h => hk.2.2 n x hx (by rw [hb, h]))), fun j y hy => hk.2.2 j y (lookup_filter hy).2⟩) rfl rfl rfl
end
end Go.Proofs.YtobacchojjfpfaaGreatDoor.Eng
