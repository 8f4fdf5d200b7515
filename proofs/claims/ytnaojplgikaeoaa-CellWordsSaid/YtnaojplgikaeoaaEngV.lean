/-
  A reader of Go functions, part V: rows of the call's own: they grow, and they are given up.
-/
import Derived.Test.YtnaojplgikaeoaaEngI
namespace Go.Proofs.Ytnaojplgikaeoaa.Eng
open Go.RowKit
set_option linter.unusedVariables false
set_option linter.unusedSimpArgs false

section
variable {P : Program} {w : World} {F : Nat → Prop} {ρ : List D} {β : Nat → Value}
theorem C.jk_or (m : Nat) (c : C) : c.jk m = .junk ∨ (c.jk m = c ∧ c.noN m = true) := by
  cases c <;> first | exact .inr ⟨rfl, rfl⟩ | skip
  all_goals
    simp only [C.jk, C.noN]
    split
    · exact .inl rfl
    · rename_i h
      exact .inr ⟨rfl, by simpa using h⟩
theorem RC.jk {c : C} {v : Value} (hb : ∀ n, (β n).oneCell' = true) (m : Nat) (u : Value) (h : RC P w F ρ β c v) : RC P w F ρ (Eng.updN β m u) (c.jk m) v := by
  rcases C.jk_or m c with e | ⟨e, hn⟩
  · rw [e]; exact RC.one h (fun n _ => hb n)
  · rw [e]; exact h.updN hn
theorem RCL.jk {cs : List C} {vs : List Value} (hb : ∀ n, (β n).oneCell' = true) (m : Nat) (u : Value) (h : RCL P w F ρ β cs vs) : RCL P w F ρ (Eng.updN β m u) (cs.map (C.jk m)) vs :=
  ⟨by simp [h.1], fun i c v h1 h2 => by
    rw [List.getElem?_map] at h1
    cases hc : cs[i]? with
    | none => simp [hc] at h1
    | some c0 => simp [hc] at h1; subst h1; exact (h.2 i c0 v hc h2).jk hb m u⟩
theorem R1.jk {c : V1} {v : Value} (hb : ∀ n, (β n).oneCell' = true) (m : Nat) (u : Value) (h : R1 P w F ρ β c v) : R1 P w F ρ (Eng.updN β m u) (c.jk m) v := by
  cases c with
  | one c => exact RC.jk hb m u h
  | agg cs => obtain ⟨vs, e, h⟩ := h; exact ⟨vs, e, h.jk hb m u⟩
theorem RV.jk {c : SV} {v : Value} (hb : ∀ n, (β n).oneCell' = true) (m : Nat) (u : Value) (h : RV P w F ρ β c v) : RV P w F ρ (Eng.updN β m u) (c.jk m) v := by
  cases c with
  | one c => exact RC.jk hb m u h
  | agg cs => obtain ⟨vs, e, h⟩ := h; exact ⟨vs, e, h.jk hb m u⟩
  | tup l =>
    obtain ⟨vs, e, hl, h⟩ := h
    refine ⟨vs, e, by simp [hl], fun i c x h1 h2 => ?_⟩
    rw [List.getElem?_map] at h1
    cases hc : l[i]? with
    | none => simp [hc] at h1
    | some c0 => simp [hc] at h1; subst h1; exact (h i c0 x hc h2).jk hb m u
/-- A row read as data. -/
theorem vec_rd {e : TypeId} {y : E} {v : Value} (h : BoxOk P w F ρ β (.vec e y) v) : Rd P w (fun k => F k ∨ bk v = some k) (.slice e) (den ρ y) v ∧ ∀ b o len cap, v = .slice (some ⟨b, o, none⟩) len cap → len = (den ρ y).toL.length := by
  obtain ⟨ts, xs, hts, ⟨hl, hr⟩, hx⟩ := h
  rcases hr with ⟨rfl, hn⟩ | ⟨g, cap, cur, rfl, _, hg, hle, _, hsz, htk⟩
  · exact ⟨Rd.snil (List.eq_nil_of_length_eq_zero hn) rfl, fun b o len cap h => by simp at h⟩
  · refine ⟨Rd.slice (g := fun i c => xs.getD (i * ts.length + c) undef) rfl hts rfl hle (.inr rfl) ?_ ?_, fun b o len cap h => by simp at h; omega⟩
    · intro i c hi hc
      have hlt : i * ts.length + c < (den ρ y).toL.length * ts.length := by
        have : (i + 1) * ts.length ≤ (den ρ y).toL.length * ts.length := Nat.mul_le_mul_right _ hi
        rw [Nat.add_mul, Nat.one_mul] at this
        omega
      have hcur : cur.toList[i * ts.length + c]? = xs[i * ts.length + c]? := by
        rw [← htk, List.getElem?_take, if_pos hlt]
      have hxs : i * ts.length + c < xs.length := by omega
      rw [List.getElem?_eq_getElem hxs, Array.getElem?_toList] at hcur
      simp only [World.cell?, hg, Nat.zero_add]
      simp [hcur, List.getD_eq_getElem?_getD, List.getElem?_eq_getElem hxs]
    · intro i c x t hx1 ht
      obtain ⟨u, hu1, hu2⟩ := hx i c x t hx1 ht
      simp only [List.getD_eq_getElem?_getD, hu1, Option.getD_some]
      exact hu2.mono (fun k hk => ⟨.inl hk, rfl⟩)
theorem RC.fz {m : Nat} {e : TypeId} {y : E} (hb : ∀ n, (β n).oneCell' = true) (hv : BoxOk P w F ρ β (.vec e y) (β m)) {c : C} {v : Value} (h : RC P w F ρ β c v) : RC P w (fun k => F k ∨ bk (β m) = some k) ρ β (c.fz m e y) v := by
  have hm : RC P w (fun k => F k ∨ bk (β m) = some k) ρ β c v := h.mono (fun k hk => ⟨.inl hk, rfl⟩)
  cases c <;> simp only [C.fz] <;> try exact hm
  · split
    · rename_i n hn
      subst hn
      have e1 : v = β _ := h
      rw [e1]
      exact (vec_rd hv).1
    · exact hm
  · rename_i n t i c
    split
    · rename_i hn
      subst hn
      split
      · rename_i ht
        subst ht
        obtain ⟨b, o, len, cap, ts, h1, h2, h3, h4, h5⟩ := h
        obtain ⟨q1, q2⟩ := vec_rd hv
        have hlen := q2 b o len cap h1
        refine ⟨b, o, len, cap, ts, ?_, h2, h3, by omega, h5⟩
        rw [h1] at q1 ⊢
        exact q1
      · exact RC.one h (fun n _ => hb n)
    · exact hm
theorem RCL.fz {m : Nat} {e : TypeId} {y : E} (hb : ∀ n, (β n).oneCell' = true) (hv : BoxOk P w F ρ β (.vec e y) (β m)) {cs : List C} {vs : List Value} (h : RCL P w F ρ β cs vs) : RCL P w (fun k => F k ∨ bk (β m) = some k) ρ β (cs.map (C.fz m e y)) vs :=
  ⟨by simp [h.1], fun i c v h1 h2 => by
    rw [List.getElem?_map] at h1
    cases hc : cs[i]? with
    | none => simp [hc] at h1
    | some c0 => simp [hc] at h1; subst h1; exact (h.2 i c0 v hc h2).fz hb hv⟩
theorem R1.fz {m : Nat} {e : TypeId} {y : E} (hb : ∀ n, (β n).oneCell' = true) (hv : BoxOk P w F ρ β (.vec e y) (β m)) {c : V1} {v : Value} (h : R1 P w F ρ β c v) : R1 P w (fun k => F k ∨ bk (β m) = some k) ρ β (c.fz m e y) v := by
  cases c with
  | one c => exact RC.fz hb hv h
  | agg cs => obtain ⟨vs, e, h⟩ := h; exact ⟨vs, e, h.fz hb hv⟩
theorem RV.fz {m : Nat} {e : TypeId} {y : E} (hb : ∀ n, (β n).oneCell' = true) (hv : BoxOk P w F ρ β (.vec e y) (β m)) {c : SV} {v : Value} (h : RV P w F ρ β c v) : RV P w (fun k => F k ∨ bk (β m) = some k) ρ β (c.fz m e y) v := by
  cases c with
  | one c => exact RC.fz hb hv h
  | agg cs => obtain ⟨vs, e, h⟩ := h; exact ⟨vs, e, h.fz hb hv⟩
  | tup l =>
    obtain ⟨vs, e, hl, h⟩ := h
    refine ⟨vs, e, by simp [hl], fun i c x h1 h2 => ?_⟩
    rw [List.getElem?_map] at h1
    cases hc : l[i]? with
    | none => simp [hc] at h1
    | some c0 => simp [hc] at h1; subst h1; exact (h i c0 x hc h2).fz hb hv
end

theorem lookup_map {α β : Type} (g : α → β) (t : Nat) : ∀ (l : List (Nat × α)), (l.map fun p => (p.1, g p.2)).lookup t = (l.lookup t).map g
  | [] => rfl
  | (k, x) :: l => by
    simp only [List.map_cons, List.lookup_cons]
    split
    · rfl
    · exact lookup_map g t l
theorem vec_bk {P : Program} {w : World} {F : Nat → Prop} {ρ : List D} {β : Nat → Value} {e : TypeId} {y : E} {v : Value} (h : BoxOk P w F ρ β (.vec e y) v) : v.ownBlock = bk v ∧ ∀ k, bk v = some k → k < w.heap.size := by
  obtain ⟨ts, xs, hts, ⟨hl, hr⟩, hx⟩ := h
  rcases hr with ⟨rfl, hn⟩ | ⟨g, cap, cur, rfl, _, hg, hle, _, hsz, htk⟩
  · exact ⟨rfl, fun k h => by cases h⟩
  · refine ⟨rfl, fun k h => ?_⟩
    simp [bk] at h
    subst h
    rcases Nat.lt_or_ge g w.heap.size with hlt | hge
    · exact hlt
    · rw [Array.getElem?_eq_none hge] at hg; cases hg
section
variable {X : Cx} {ρ : List D} {st : St} {Ft Ft' : Nat → Prop} {β : Nat → Value} {a : Act} {w w' : World}
/-- A row given up: it reads as data from now on. -/
theorem Sat.fz (hs : Sat X ρ st Ft β a w) (m : Nat) : ∃ Ft', (∀ b, Ft b → Ft' b) ∧ Sat X ρ (st.fz m) Ft' β a w := by
  unfold St.fz
  split
  · rename_i e y hm
    have hf : ∀ k, Ft k → (Ft k ∨ bk (β m) = some k) ∧ w.heap[k]? = w.heap[k]? := fun k h => ⟨.inl h, rfl⟩
    have hv := hs.bx m _ hm
    have hlk : ∀ n x, ((st.bx.filter fun p => p.1 != m).map fun p => (p.1, Box.fz m e y p.2)).lookup n = some x → ∃ x', n ≠ m ∧ st.bx.lookup n = some x' ∧ x = x'.fz m e y := by
      intro n x hx
      rw [lookup_map (Box.fz m e y)] at hx
      cases hq : (st.bx.filter fun p => p.1 != m).lookup n with
      | none => simp [hq] at hx
      | some x' => simp [hq] at hx; exact ⟨x', (lookup_filter hq).1, (lookup_filter hq).2, hx.symm⟩
    refine ⟨fun k => Ft k ∨ bk (β m) = some k, fun b h => .inl h, hs.df, hs.sz, ?_, ?_, ?_, ?_, ?_, hs.chg, hs.fs, hs.on, ?_⟩
    · rintro k (h | h)
      · refine ⟨(hs.ft k h).1, fun n x hx => ?_⟩
        obtain ⟨x', hne, hx', _⟩ := hlk n x hx
        exact (hs.ft k h).2 n x' hx'
      · refine ⟨(hs.own m _ k hm h).1, fun n x hx he => ?_⟩
        obtain ⟨x', hne, hx', _⟩ := hlk n x hx
        exact hne (hs.inj n m x' _ k hx' hm he h)
    · intro t sv ht
      rw [lookup_map (SV.fz m e y)] at ht
      cases hq : st.tm.lookup t with
      | none => simp [hq] at ht
      | some sv' =>
        simp [hq] at ht; subst ht
        obtain ⟨v, q1, q2⟩ := hs.tm t sv' hq
        exact ⟨v, q1, q2.fz hs.on hv⟩
    · intro n x hx
      obtain ⟨x', hne, hx', rfl⟩ := hlk n x hx
      have hb := hs.bx n x' hx'
      cases x' with
      | box t cs => obtain ⟨b, vs, q1, q2, q3⟩ := hb; exact ⟨b, vs, q1, q2, q3.fz hs.on hv⟩
      | vec e' y' => exact BoxOk.mono hf (fun k hk => rfl) hb
    · intro n n' x x' k hx hx' h1 h2
      obtain ⟨z, _, hz, _⟩ := hlk n x hx
      obtain ⟨z', _, hz', _⟩ := hlk n' x' hx'
      exact hs.inj n n' z z' k hz hz' h1 h2
    · intro n x k hx hk
      obtain ⟨z, _, hz, _⟩ := hlk n x hx
      exact hs.own n z k hz hk
    · rintro b (h | h)
      · exact hs.f0 b h
      · rcases (hs.own m _ b hm h).2 with h | h
        · exact .inr (.inr h)
        · exact .inr (.inl h)
  · exact ⟨Ft, fun b h => h, hs⟩
theorem fz_nv (st : St) (m : Nat) : (st.fz m).nv = st.nv := by unfold St.fz; split <;> rfl
theorem fzs_nv : ∀ (l : List Nat) (st : St), (st.fzs l).nv = st.nv
  | [], st => rfl
  | m :: l, st => by
    show ((st.fz m).fzs l).nv = _
    rw [fzs_nv l, fz_nv]
theorem Sat.fzs : ∀ (l : List Nat) {st : St} {Ft : Nat → Prop}, Sat X ρ st Ft β a w → ∃ Ft', (∀ b, Ft b → Ft' b) ∧ Sat X ρ (st.fzs l) Ft' β a w
  | [], st, Ft, hs => ⟨Ft, fun b h => h, hs⟩
  | m :: l, st, Ft, hs => by
    obtain ⟨F1, h1, q1⟩ := hs.fz m
    obtain ⟨F2, h2, q2⟩ := Sat.fzs l q1
    exact ⟨F2, fun b h => h2 b (h1 b h), q2⟩
/-- A row more. -/
theorem Sat.newVec (hs : Sat X ρ st Ft β a w) (hfr : st.fresh = true) {e : TypeId} {y : E} {v : Value} {w' : World} (hb : Below w.heap.size w w') (hok : BoxOk X.P w' Ft ρ β (.vec e y) v) (hv : ∀ k, bk v = some k → w.heap.size ≤ k) (h1 : v.oneCell' = true) :
    Sat X ρ { st with bx := (st.nn, .vec e y) :: st.bx, nn := st.nn + 1 } Ft (updN β st.nn v) a w' := by
  simp only [St.fresh, Bool.and_eq_true, List.all_eq_true] at hfr
  obtain ⟨hf1, hf2⟩ := hfr
  have hf : ∀ b, Ft b → Ft b ∧ w'.heap[b]? = w.heap[b]? := fun b h => ⟨h, hb.block b (hs.ft b h).1⟩
  have hlk : ∀ n x, ((st.nn, Box.vec e y) :: st.bx).lookup n = some x → (n = st.nn ∧ x = .vec e y) ∨ (n ≠ st.nn ∧ st.bx.lookup n = some x) := by
    intro n x h
    rw [List.lookup_cons] at h
    split at h
    · rename_i he; simp at he h; exact .inl ⟨he, h.symm⟩
    · rename_i he; simp at he; exact .inr ⟨he, h⟩
  refine ⟨hs.df, hs.sz, ?_, ?_, ?_, ?_, ?_, chg_kept hs.chg hb, hs.fs, ?_, hs.f0⟩
  · intro b h
    refine ⟨Nat.lt_of_lt_of_le (hs.ft b h).1 hb.size, fun n x hx => ?_⟩
    rcases hlk n x hx with ⟨rfl, rfl⟩ | ⟨hne, hx'⟩
    · intro he
      simp only [updN, if_true] at he
      have := hv b he
      have := (hs.ft b h).1
      omega
    · simp only [updN, hne, if_false]
      exact (hs.ft b h).2 n x hx'
  · intro t' sv ht
    obtain ⟨v, q1, q2⟩ := hs.tm t' sv ht
    exact ⟨v, q1, (q2.mono hf).updN (hf1 _ (mem_of_lookup ht))⟩
  · intro n x hx
    rcases hlk n x hx with ⟨rfl, rfl⟩ | ⟨hne, hx'⟩
    · simp only [updN, if_true]
      exact hok
    · have hbo := hs.bx n x hx'
      have hno := (hf2 _ (mem_of_lookup hx')).2
      have h1 : BoxOk X.P w' Ft ρ β x (β n) := hbo.mono hf (fun k hk => hb.block k (hs.own n x k hx' hk).1)
      simp only [updN, hne, if_false]
      cases x with
      | box t' cs' => obtain ⟨b, vs', q1, q2, q3⟩ := h1; exact ⟨b, vs', q1, q2, q3.updN hno⟩
      | vec e x => exact h1
  · intro n m x y k hx hy h1 h2
    rcases hlk n x hx with ⟨rfl, rfl⟩ | ⟨hne, hx'⟩ <;> rcases hlk m y hy with ⟨rfl, rfl⟩ | ⟨hne', hy'⟩
    · rfl
    · simp only [updN, hne', if_true, if_false] at h1 h2
      have := hv k h1
      have := (hs.own m y k hy' h2).1
      omega
    · simp only [updN, hne, if_true, if_false] at h1 h2
      have := hv k h2
      have := (hs.own n x k hx' h1).1
      omega
    · simp only [updN, hne, hne', if_false] at h1 h2
      exact hs.inj n m x y k hx' hy' h1 h2
  · intro n x k hx hk
    rcases hlk n x hx with ⟨rfl, rfl⟩ | ⟨hne, hx'⟩
    · simp only [updN, if_true] at hk
      exact ⟨(vec_bk hok).2 k hk, .inr (Nat.le_trans hs.chg.size (hv k hk))⟩
    · simp only [updN, hne, if_false] at hk
      have := hs.own n x k hx' hk
      exact ⟨Nat.lt_of_lt_of_le this.1 hb.size, this.2⟩
  · intro n
    unfold updN
    split
    · exact h1
    · exact hs.on n
/-- A row has grown. -/
theorem Sat.grow (hs : Sat X ρ st Ft β a w) {m : Nat} {e e0 : TypeId} {y0 y : E} (hm : st.bx.lookup m = some (.vec e0 y0)) {v : Value} (hok : BoxOk X.P w' Ft ρ β (.vec e y) v) (hg : w.grownBy w' (bk (β m))) (hv : bk v = bk (β m) ∨ bk v = some w.heap.size) (h1 : v.oneCell' = true) :
    Sat X ρ (st.grow m e y) Ft (updN β m v) a w' := by
  have hfar : ∀ k, k < w.heap.size → bk (β m) ≠ some k → w'.heap[k]? = w.heap[k]? := fun k hk hn => hg.block k hk (fun he => hn he.symm)
  have hf : ∀ b, Ft b → Ft b ∧ w'.heap[b]? = w.heap[b]? := fun b h => ⟨h, hfar b (hs.ft b h).1 (fun he => (hs.ft b h).2 m _ hm he)⟩
  have hlk : ∀ n x, ((m, Box.vec e y) :: (st.bx.filter fun p => p.1 != m).map fun p => (p.1, Box.jk m p.2)).lookup n = some x → (n = m ∧ x = .vec e y) ∨ ∃ x', n ≠ m ∧ st.bx.lookup n = some x' ∧ x = x'.jk m := by
    intro n x h
    rw [List.lookup_cons] at h
    split at h
    · rename_i he; simp at he h; exact .inl ⟨he, h.symm⟩
    · rw [lookup_map (Box.jk m)] at h
      cases hq : (st.bx.filter fun p => p.1 != m).lookup n with
      | none => simp [hq] at h
      | some x' => simp [hq] at h; exact .inr ⟨x', (lookup_filter hq).1, (lookup_filter hq).2, h.symm⟩
  have hnew : ∀ k, bk v = some k → (bk (β m) = some k ∨ k = w.heap.size) := by
    intro k hk
    rcases hv with hv | hv
    · exact .inl (by rw [← hv]; exact hk)
    · rw [hv] at hk; exact .inr (by simpa using hk.symm)
  refine ⟨hs.df, hs.sz, ?_, ?_, ?_, ?_, ?_, ?_, hs.fs, ?_, hs.f0⟩
  · intro b h
    refine ⟨Nat.lt_of_lt_of_le (hs.ft b h).1 hg.size, fun n x hx he => ?_⟩
    rcases hlk n x hx with ⟨rfl, rfl⟩ | ⟨x', hne, hx', _⟩
    · simp only [updN, if_true] at he
      rcases hnew b he with h' | h'
      · exact (hs.ft b h).2 _ _ hm h'
      · have := (hs.ft b h).1; omega
    · simp only [updN, hne, if_false] at he
      exact (hs.ft b h).2 n x' hx' he
  · intro t sv ht
    have ht' : (st.tm.map fun p => (p.1, SV.jk m p.2)).lookup t = some sv := ht
    rw [lookup_map (SV.jk m)] at ht'
    cases hq : st.tm.lookup t with
    | none => simp [hq] at ht'
    | some sv' =>
      simp [hq] at ht'; subst ht'
      obtain ⟨u, q1, q2⟩ := hs.tm t sv' hq
      exact ⟨u, q1, (q2.mono hf).jk hs.on m v⟩
  · intro n x hx
    rcases hlk n x hx with ⟨rfl, rfl⟩ | ⟨x', hne, hx', rfl⟩
    · simp only [updN, if_true]
      exact hok
    · have h2 : BoxOk X.P w' Ft ρ β x' (β n) := (hs.bx n x' hx').mono hf (fun k hk => hfar k (hs.own n x' k hx' hk).1 (fun he => hne (hs.inj n m x' _ k hx' hm hk he)))
      simp only [updN, hne, if_false]
      cases x' with
      | box t' cs' => obtain ⟨b, vs', q1, q2, q3⟩ := h2; exact ⟨b, vs', q1, q2, q3.jk hs.on m v⟩
      | vec e x => exact h2
  · intro n n' x x' k hx hx' e1 e2
    rcases hlk n x hx with ⟨rfl, rfl⟩ | ⟨z, hne, hz, _⟩ <;> rcases hlk n' x' hx' with ⟨rfl, rfl⟩ | ⟨z', hne', hz', _⟩
    · rfl
    · simp only [updN, hne', if_true, if_false] at e1 e2
      rcases hnew k e1 with h' | h'
      · exact absurd (hs.inj n' n z' _ k hz' hm e2 h') hne'
      · have := (hs.own n' z' k hz' e2).1; omega
    · simp only [updN, hne, if_true, if_false] at e1 e2
      rcases hnew k e2 with h' | h'
      · exact absurd (hs.inj n n' z _ k hz hm e1 h') hne
      · have := (hs.own n z k hz e1).1; omega
    · simp only [updN, hne, hne', if_false] at e1 e2
      exact hs.inj n n' z z' k hz hz' e1 e2
  · intro n x k hx hk
    rcases hlk n x hx with ⟨rfl, rfl⟩ | ⟨x', hne, hx', _⟩
    · simp only [updN, if_true] at hk
      refine ⟨(vec_bk hok).2 k hk, ?_⟩
      rcases hnew k hk with h' | h'
      · exact (hs.own _ _ k hm h').2
      · exact .inr (by rw [h']; exact hs.chg.size)
    · simp only [updN, hne, if_false] at hk
      have := hs.own n x' k hx' hk
      exact ⟨Nat.lt_of_lt_of_le this.1 hg.size, this.2⟩
  · exact chg_grown hs.chg hg (fun x hx => (hs.own _ _ x hm hx).2)
  · intro n
    unfold updN
    split
    · exact h1
    · exact hs.on n
/-- A row whose block has turned in place. -/
theorem Sat.setVec (hs : Sat X ρ st Ft β a w) {m : Nat} {e e0 : TypeId} {y0 y : E} (hm : st.bx.lookup m = some (.vec e0 y0)) {b : Nat} (hb : bk (β m) = some b) (cs : Array Value) (hok : BoxOk X.P (w.setRow b cs) Ft ρ β (.vec e y) (β m)) :
    Sat X ρ { st with bx := (m, .vec e y) :: st.bx } Ft β a (w.setRow b cs) := by
  have hsz : (w.setRow b cs).heap.size = w.heap.size := by simp [World.setRow]
  have hf : ∀ k, Ft k → Ft k ∧ (w.setRow b cs).heap[k]? = w.heap[k]? := fun k h => ⟨h, heap_setRow_ne w b _ (fun e => (hs.ft k h).2 m _ hm (by rw [hb, e]))⟩
  have hlk : ∀ n x, ((m, Box.vec e y) :: st.bx).lookup n = some x → (n = m ∧ x = .vec e y) ∨ (n ≠ m ∧ st.bx.lookup n = some x) := by
    intro n x h
    rw [List.lookup_cons] at h
    split at h
    · rename_i he; simp at he h; exact .inl ⟨he, h.symm⟩
    · rename_i he; simp at he; exact .inr ⟨he, h⟩
  have hsome : ∀ n x, ((m, Box.vec e y) :: st.bx).lookup n = some x → ∃ x', st.bx.lookup n = some x' := by
    intro n x h
    rcases hlk n x h with ⟨rfl, _⟩ | ⟨_, h⟩
    · exact ⟨_, hm⟩
    · exact ⟨_, h⟩
  refine ⟨hs.df, hs.sz, ?_, ?_, ?_, ?_, ?_, ?_, hs.fs, hs.on, hs.f0⟩
  · intro k h
    refine ⟨by rw [hsz]; exact (hs.ft k h).1, fun n x hx => ?_⟩
    obtain ⟨x', hx'⟩ := hsome n x hx
    exact (hs.ft k h).2 n x' hx'
  · intro t sv ht
    obtain ⟨v, q1, q2⟩ := hs.tm t sv ht
    exact ⟨v, q1, q2.mono hf⟩
  · intro n x hx
    rcases hlk n x hx with ⟨rfl, rfl⟩ | ⟨hne, hx'⟩
    · exact hok
    · refine (hs.bx n x hx').mono hf (fun k hk => heap_setRow_ne w b _ (fun he => ?_))
      subst he
      exact hne (hs.inj n m x _ _ hx' hm hk hb)
  · intro n n' x x' k hx hx' h1 h2
    obtain ⟨z, q1⟩ := hsome n x hx
    obtain ⟨z', q2⟩ := hsome n' x' hx'
    exact hs.inj n n' z z' k q1 q2 h1 h2
  · intro n x k hx hk
    obtain ⟨z, q1⟩ := hsome n x hx
    rw [hsz]
    exact hs.own n z k q1 hk
  · refine ⟨hs.chg.os, hs.chg.tape, hs.chg.output, by rw [hsz]; exact hs.chg.size, fun k hk hn => ?_⟩
    rw [heap_setRow_ne w b _ (fun he => ?_)]
    · exact hs.chg.block k hk hn
    · subst he
      rcases (hs.own m _ _ hm hb).2 with h | h
      · exact hn h
      · omega
end
end Go.Proofs.Ytnaojplgikaeoaa.Eng
