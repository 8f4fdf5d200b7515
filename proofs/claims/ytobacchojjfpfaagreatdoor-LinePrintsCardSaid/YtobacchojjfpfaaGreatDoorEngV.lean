/-
  A reader of Go functions, part V: rows of the call's own: they grow, and they are given up.
-/
import Derived.Test.YtobacchojjfpfaaGreatDoorEngI
namespace Go.Proofs.YtobacchojjfpfaaGreatDoor.Eng
open Go.RowKit
set_option linter.unusedVariables false
set_option linter.unusedSimpArgs false

section
variable {P : Program} {w : World} {F : Fr} {ρ : List D} {β : Nat → Value}
theorem C.jk_or (m : Nat) (c : C) : c.jk m = .junk ∨ (c.jk m = c ∧ c.noN m = true) := by
  cases c <;> first | exact .inr ⟨rfl, rfl⟩ | skip
  all_goals
    simp only [C.jk, C.noN]
    split
    · exact .inl rfl
    · rename_i h
      exact .inr ⟨rfl, by simpa using h⟩
theorem RC.jk {c : C} {v : Value} (hb : ∀ n, (β n).oneCell' = true) (m : Nat) (u : Value) (h : RC P w F ρ β c v) : RC P w F ρ (Eng.updN β m u) (c.jk m) v := by
  rcases C.jk_or m c with e | ⟨e, hn⟩
  · rw [e]; exact RC.one h (fun n _ => hb n)
  · rw [e]; exact h.updN hn
theorem RCL.jk {cs : List C} {vs : List Value} (hb : ∀ n, (β n).oneCell' = true) (m : Nat) (u : Value) (h : RCL P w F ρ β cs vs) : RCL P w F ρ (Eng.updN β m u) (cs.map (C.jk m)) vs :=
  ⟨by simp [h.1], fun i c v h1 h2 => by
    rw [List.getElem?_map] at h1
    cases hc : cs[i]? with
    | none => simp [hc] at h1
    | some c0 => simp [hc] at h1; subst h1; exact (h.2 i c0 v hc h2).jk hb m u⟩
theorem R1.jk {c : V1} {v : Value} (hb : ∀ n, (β n).oneCell' = true) (m : Nat) (u : Value) (h : R1 P w F ρ β c v) : R1 P w F ρ (Eng.updN β m u) (c.jk m) v := by
  cases c with
  | one c => exact RC.jk hb m u h
  | agg cs => obtain ⟨vs, e, h⟩ := h; exact ⟨vs, e, h.jk hb m u⟩
theorem RV.jk {c : SV} {v : Value} (hb : ∀ n, (β n).oneCell' = true) (m : Nat) (u : Value) (h : RV P w F ρ β c v) : RV P w F ρ (Eng.updN β m u) (c.jk m) v := by
  cases c with
  | one c => exact RC.jk hb m u h
  | agg cs => obtain ⟨vs, e, h⟩ := h; exact ⟨vs, e, h.jk hb m u⟩
  | tup l =>
    obtain ⟨vs, e, hl, h⟩ := h
    refine ⟨vs, e, by simp [hl], fun i c x h1 h2 => ?_⟩
    rw [List.getElem?_map] at h1
    cases hc : l[i]? with
    | none => simp [hc] at h1
    | some c0 => simp [hc] at h1; subst h1; exact (h i c0 x hc h2).jk hb m u
/-- A row read as data. -/
theorem vec_rd {e : TypeId} {y : E} {v : Value} (h : BoxOk P w F ρ β (.vec e y) v) : Rd P w (F.or fun k => bk v = some k) (.slice e) (den ρ y) v ∧ ∀ b o len cap, v = .slice (some ⟨b, o, none⟩) len cap → len = (den ρ y).toL.length := by
  obtain ⟨ts, xs, hts, ⟨hl, hr⟩, hx⟩ := h
  rcases hr with ⟨⟨A, rfl⟩, hn⟩ | ⟨g, cap, cur, rfl, hc0, hg, hle, _, hsz, htk⟩
  · exact ⟨Rd.snil (List.eq_nil_of_length_eq_zero hn) rfl, fun b o len cap h => by simp at h; omega⟩
  · refine ⟨Rd.slice (g := fun i c => xs.getD (i * ts.length + c) undef) rfl hts rfl hle (.inr (bk_slice hc0)) ?_ ?_, fun b o len cap h => by simp at h; omega⟩
    · intro i c hi hc
      have hlt : i * ts.length + c < (den ρ y).toL.length * ts.length := by
        have : (i + 1) * ts.length ≤ (den ρ y).toL.length * ts.length := Nat.mul_le_mul_right _ hi
        rw [Nat.add_mul, Nat.one_mul] at this
        omega
      have hcur : cur.toList[i * ts.length + c]? = xs[i * ts.length + c]? := by
        rw [← htk, List.getElem?_take, if_pos hlt]
      have hxs : i * ts.length + c < xs.length := by omega
      rw [List.getElem?_eq_getElem hxs, Array.getElem?_toList] at hcur
      simp only [World.cell?, hg, Nat.zero_add]
      simp [hcur, List.getD_eq_getElem?_getD, List.getElem?_eq_getElem hxs]
    · intro i c x t hx1 ht
      obtain ⟨u, hu1, hu2⟩ := hx i c x t hx1 ht
      simp only [List.getD_eq_getElem?_getD, hu1, Option.getD_some]
      exact hu2.mono (Le.or fun k hk => rfl)
theorem RC.fz {m : Nat} {e : TypeId} {y : E} (hb : ∀ n, (β n).oneCell' = true) (hv : BoxOk P w F ρ β (.vec e y) (β m)) {c : C} {v : Value} (h : RC P w F ρ β c v) : RC P w (F.or fun k => bk (β m) = some k) ρ β (c.fz m e y) v := by
  have hm : RC P w (F.or fun k => bk (β m) = some k) ρ β c v := h.mono (Le.or fun k hk => rfl)
  cases c <;> simp only [C.fz] <;> try exact hm
  · split
    · rename_i n hn
      subst hn
      have e1 : v = β _ := h
      rw [e1]
      exact (vec_rd hv).1
    · exact hm
  · rename_i n t i c
    split
    · rename_i hn
      subst hn
      split
      · rename_i ht
        subst ht
        obtain ⟨b, o, len, cap, ts, h1, h2, h3, h4, h5⟩ := h
        obtain ⟨q1, q2⟩ := vec_rd hv
        have hlen := q2 b o len cap h1
        refine ⟨b, o, len, cap, ts, ?_, h2, h3, by omega, h5⟩
        rw [h1] at q1 ⊢
        exact q1
      · exact RC.one h (fun n _ => hb n)
    · exact hm
  · split
    · exact RC.one h (fun n _ => hb n)
    · exact hm
theorem RCL.fz {m : Nat} {e : TypeId} {y : E} (hb : ∀ n, (β n).oneCell' = true) (hv : BoxOk P w F ρ β (.vec e y) (β m)) {cs : List C} {vs : List Value} (h : RCL P w F ρ β cs vs) : RCL P w (F.or fun k => bk (β m) = some k) ρ β (cs.map (C.fz m e y)) vs :=
  ⟨by simp [h.1], fun i c v h1 h2 => by
    rw [List.getElem?_map] at h1
    cases hc : cs[i]? with
    | none => simp [hc] at h1
    | some c0 => simp [hc] at h1; subst h1; exact (h.2 i c0 v hc h2).fz hb hv⟩
theorem R1.fz {m : Nat} {e : TypeId} {y : E} (hb : ∀ n, (β n).oneCell' = true) (hv : BoxOk P w F ρ β (.vec e y) (β m)) {c : V1} {v : Value} (h : R1 P w F ρ β c v) : R1 P w (F.or fun k => bk (β m) = some k) ρ β (c.fz m e y) v := by
  cases c with
  | one c => exact RC.fz hb hv h
  | agg cs => obtain ⟨vs, e, h⟩ := h; exact ⟨vs, e, h.fz hb hv⟩
theorem RV.fz {m : Nat} {e : TypeId} {y : E} (hb : ∀ n, (β n).oneCell' = true) (hv : BoxOk P w F ρ β (.vec e y) (β m)) {c : SV} {v : Value} (h : RV P w F ρ β c v) : RV P w (F.or fun k => bk (β m) = some k) ρ β (c.fz m e y) v := by
  cases c with
  | one c => exact RC.fz hb hv h
  | agg cs => obtain ⟨vs, e, h⟩ := h; exact ⟨vs, e, h.fz hb hv⟩
  | tup l =>
    obtain ⟨vs, e, hl, h⟩ := h
    refine ⟨vs, e, by simp [hl], fun i c x h1 h2 => ?_⟩
    rw [List.getElem?_map] at h1
    cases hc : l[i]? with
    | none => simp [hc] at h1
    | some c0 => simp [hc] at h1; subst h1; exact (h i c0 x hc h2).fz hb hv
end

theorem lookup_map {α β : Type} (g : α → β) (t : Nat) : ∀ (l : List (Nat × α)), (l.map fun p => (p.1, g p.2)).lookup t = (l.lookup t).map g
  | [] => rfl
  | (k, x) :: l => by
    simp only [List.map_cons, List.lookup_cons]
    split
    · rfl
    · exact lookup_map g t l
theorem OwnR.lt {w : World} {e : TypeId} {n : Nat} {v : Value} {len : Nat} {xs : List Value} (h : OwnR w e n v len xs) {k : Nat} (hk : bk v = some k) : k < w.heap.size := by
  obtain ⟨hl, hr⟩ := h
  rcases hr with ⟨⟨A, rfl⟩, hn⟩ | ⟨g, cap, cur, rfl, hc0, hg, hle, _, hsz, htk⟩
  · cases A <;> simp [bk] at hk
  · rw [bk_slice hc0] at hk
    have hk' : g = k := by simpa using hk
    subst hk'
    rcases Nat.lt_or_ge g w.heap.size with hlt | hge
    · exact hlt
    · rw [Array.getElem?_eq_none hge] at hg; cases hg
theorem vec_bk {P : Program} {w : World} {F : Fr} {ρ : List D} {β : Nat → Value} {e : TypeId} {y : E} {v : Value} (h : BoxOk P w F ρ β (.vec e y) v) : ∀ k, bk v = some k → k < w.heap.size := by
  obtain ⟨ts, xs, hts, h, hx⟩ := h
  exact fun k hk => h.lt hk
section
variable {X : Cx} {ρ : List D} {st : St} {Ft Ft' : Fr} {β : Nat → Value} {a : Act} {w w' : World}
/-- A row given up: it reads as data from now on. -/
theorem Sat.fz (hs : Sat X ρ st Ft β a w) (m : Nat) : ∃ Ft', Le w Ft w Ft' ∧ Sat X ρ (st.fz m) Ft' β a w := by
  unfold St.fz
  split
  · rename_i e y hm
    have hf : Le w Ft w (Ft.or fun k => bk (β m) = some k) := Le.or fun k h => rfl
    have hv := hs.bx m _ hm
    have hlk : ∀ n x, ((st.bx.filter fun p => p.1 != m).map fun p => (p.1, Box.fz m e y p.2)).lookup n = some x → ∃ x', n ≠ m ∧ st.bx.lookup n = some x' ∧ x = x'.fz m e y := by
      intro n x hx
      rw [lookup_map (Box.fz m e y)] at hx
      cases hq : (st.bx.filter fun p => p.1 != m).lookup n with
      | none => simp [hq] at hx
      | some x' => simp [hq] at hx; exact ⟨x', (lookup_filter hq).1, (lookup_filter hq).2, hx.symm⟩
    have hbk : ∀ (x : Box) (v : Value), (x.fz m e y).bk v = x.bk v := fun x v => by cases x <;> rfl
    refine ⟨Ft.or fun k => bk (β m) = some k, hf, hs.df, hs.sz, ?_, ?_, ?_, ?_, ?_, hs.chg, hs.fs, hs.on, ?_, hs.gx, hs.cf, ?_, ⟨fun b h => .inl (hs.fw.1 b h), hs.fw.2⟩⟩
    · rintro k (h | h)
      · refine ⟨(hs.ft k h).1, fun n x hx => ?_⟩
        obtain ⟨x', hne, hx', rfl⟩ := hlk n x hx
        rw [hbk]
        exact (hs.ft k h).2 n x' hx'
      · refine ⟨(hs.own m _ k hm h).1, fun n x hx he => ?_⟩
        obtain ⟨x', hne, hx', rfl⟩ := hlk n x hx
        rw [hbk] at he
        exact hne (hs.inj n m x' _ k hx' hm he h)
    · intro t sv ht
      rw [lookup_map (SV.fz m e y)] at ht
      cases hq : st.tm.lookup t with
      | none => simp [hq] at ht
      | some sv' =>
        simp [hq] at ht; subst ht
        obtain ⟨v, q1, q2⟩ := hs.tm t sv' hq
        exact ⟨v, q1, q2.fz hs.on hv⟩
    · intro n x hx
      obtain ⟨x', hne, hx', rfl⟩ := hlk n x hx
      have hb := hs.bx n x' hx'
      cases x' with
      | box t cs => obtain ⟨b, vs, q1, q2, q3⟩ := hb; exact ⟨b, vs, q1, q2, q3.fz hs.on hv⟩
      | vec e' y' => exact BoxOk.mono hf (fun k hk => rfl) (fun n b t h _ => rfl) hb
      | view t x c => exact BoxOk.mono hf (fun k hk => rfl) (fun n b t h _ => rfl) hb
      | map t x => exact BoxOk.mono hf (fun k hk => rfl) (fun n b t h _ => rfl) hb
    · intro n n' x x' k hx hx' h1 h2
      obtain ⟨z, _, hz, rfl⟩ := hlk n x hx
      obtain ⟨z', _, hz', rfl⟩ := hlk n' x' hx'
      rw [hbk] at h1 h2
      exact hs.inj n n' z z' k hz hz' h1 h2
    · intro n x k hx hk
      obtain ⟨z, _, hz, rfl⟩ := hlk n x hx
      rw [hbk] at hk
      exact hs.own n z k hz hk
    · rintro b (h | h)
      · exact hs.f0 b h
      · rcases (hs.own m _ b hm h).2 with h | h
        · exact .inr (.inr h)
        · exact .inr (.inl h)
    · refine hs.hg.move hf rfl (fun k hk => ⟨rfl, hk.1, (fun h => h.elim hk.2.1 (fun h => hk.2.2 m _ hm h)), fun j x hx => ?_⟩) rfl rfl rfl
      obtain ⟨z, _, hz, rfl⟩ := hlk j x hx
      rw [hbk]
      exact hk.2.2 j z hz
  · exact ⟨Ft, Le.same fun b h => rfl, hs⟩
/-- Names lost. -/
theorem Sat.lose1 (hs : Sat X ρ st Ft β a w) (m : Nat) : Sat X ρ (st.lose1 m) Ft β a w := by
  have hlk : ∀ n x, ((st.bx.filter fun p => p.1 != m).map fun p => (p.1, Box.jk m p.2)).lookup n = some x → ∃ x', n ≠ m ∧ st.bx.lookup n = some x' ∧ x = x'.jk m := by
    intro n x hx
    rw [lookup_map (Box.jk m)] at hx
    cases hq : (st.bx.filter fun p => p.1 != m).lookup n with
    | none => simp [hq] at hx
    | some x' => simp [hq] at hx; exact ⟨x', (lookup_filter hq).1, (lookup_filter hq).2, hx.symm⟩
  have hbk : ∀ (x : Box) (v : Value), (x.jk m).bk v = x.bk v := fun x v => by cases x <;> rfl
  have hup : updN β m (β m) = β := by funext n; unfold updN; split <;> simp_all
  refine ⟨hs.df, hs.sz, ?_, ?_, ?_, ?_, ?_, hs.chg, hs.fs, hs.on, hs.f0, hs.gx, hs.cf, ?_, hs.fw⟩
  · intro k h
    refine ⟨(hs.ft k h).1, fun n x hx => ?_⟩
    obtain ⟨x', hne, hx', rfl⟩ := hlk n x hx
    rw [hbk]
    exact (hs.ft k h).2 n x' hx'
  · intro t sv ht
    have ht' : (st.tm.map fun p => (p.1, SV.jk m p.2)).lookup t = some sv := ht
    rw [lookup_map (SV.jk m)] at ht'
    cases hq : st.tm.lookup t with
    | none => simp [hq] at ht'
    | some sv' =>
      simp [hq] at ht'; subst ht'
      obtain ⟨v, q1, q2⟩ := hs.tm t sv' hq
      refine ⟨v, q1, ?_⟩
      have := q2.jk hs.on m (β m)
      rwa [hup] at this
  · intro n x hx
    obtain ⟨x', hne, hx', rfl⟩ := hlk n x hx
    have hb := hs.bx n x' hx'
    cases x' with
    | box t cs =>
      obtain ⟨b, vs, q1, q2, q3⟩ := hb
      have := q3.jk hs.on m (β m)
      rw [hup] at this
      exact ⟨b, vs, q1, q2, this⟩
    | vec e' y' => exact hb
    | view t x c => exact hb
    | map t x => exact hb
  · intro n n' x x' k hx hx' h1 h2
    obtain ⟨z, _, hz, rfl⟩ := hlk n x hx
    obtain ⟨z', _, hz', rfl⟩ := hlk n' x' hx'
    rw [hbk] at h1 h2
    exact hs.inj n n' z z' k hz hz' h1 h2
  · intro n x k hx hk
    obtain ⟨z, _, hz, rfl⟩ := hlk n x hx
    rw [hbk] at hk
    exact hs.own n z k hz hk
  · refine hs.hg.less (fun n x hx => ?_) rfl rfl rfl
    obtain ⟨z, _, hz, rfl⟩ := hlk n x hx
    exact ⟨z, hz, .inl (hbk _ _)⟩
theorem Sat.lose : ∀ (l : List Nat) {st : St}, Sat X ρ st Ft β a w → Sat X ρ (st.lose l) Ft β a w
  | [], st, hs => hs
  | m :: l, st, hs => Sat.lose l (hs.lose1 m)
theorem lose1_bx {st : St} {m n : Nat} {x : Box} (h : (st.lose1 m).bx.lookup n = some x) : n ≠ m ∧ ∃ y, st.bx.lookup n = some y ∧ x = y.jk m := by
  have h' : ((st.bx.filter fun p => p.1 != m).map fun p => (p.1, Box.jk m p.2)).lookup n = some x := h
  rw [lookup_map (Box.jk m)] at h'
  cases hq : (st.bx.filter fun p => p.1 != m).lookup n with
  | none => simp [hq] at h'
  | some x' => simp [hq] at h'; exact ⟨(lookup_filter hq).1, x', (lookup_filter hq).2, h'.symm⟩
/-- What is left of the boxes. -/
theorem lose_bx : ∀ (l : List Nat) {st : St} {n : Nat} {x : Box}, (st.lose l).bx.lookup n = some x → n ∉ l ∧ ∃ y, st.bx.lookup n = some y ∧ (∀ v, x.bk v = y.bk v) ∧ ((∃ t a c, x = .view t a c) → x = y)
  | [], st, n, x, h => ⟨by simp, x, h, fun v => rfl, fun _ => rfl⟩
  | m :: l, st, n, x, h => by
    obtain ⟨h1, y, h2, h3, h4⟩ := lose_bx l (st := st.lose1 m) h
    obtain ⟨q1, z, q2, rfl⟩ := lose1_bx h2
    refine ⟨by simp [h1, q1], z, q2, fun v => by rw [h3]; cases z <;> rfl, fun hv => ?_⟩
    have := h4 hv
    rw [this]
    obtain ⟨t, a, c, hx⟩ := hv
    rw [hx] at this
    cases z <;> simp [Box.jk] at this ⊢
theorem lose_hp : ∀ (l : List Nat) (st : St), (st.lose l).hp = st.hp ∧ (st.lose l).ex = st.ex ∧ (st.lose l).cf = st.cf ∧ (st.lose l).nv = st.nv ∧ (st.lose l).nn = st.nn ∧ (st.lose l).fs = st.fs
  | [], st => ⟨rfl, rfl, rfl, rfl, rfl, rfl⟩
  | m :: l, st => lose_hp l (st.lose1 m)
theorem views_mem {st : St} {n : Nat} {t : TypeId} {x : E} {c : Nat} (h : st.bx.lookup n = some (.view t x c)) : n ∈ st.views := by
  unfold St.views
  exact List.mem_filterMap.2 ⟨_, mem_lookup h, rfl⟩
theorem fz_nv (st : St) (m : Nat) : (st.fz m).nv = st.nv := by unfold St.fz; split <;> rfl
theorem fzs_nv : ∀ (l : List Nat) (st : St), (st.fzs l).nv = st.nv
  | [], st => rfl
  | m :: l, st => by
    show ((st.fz m).fzs l).nv = _
    rw [fzs_nv l, fz_nv]
theorem Sat.fzs : ∀ (l : List Nat) {st : St} {Ft : Fr}, Sat X ρ st Ft β a w → ∃ Ft', Le w Ft w Ft' ∧ Sat X ρ (st.fzs l) Ft' β a w
  | [], st, Ft, hs => ⟨Ft, Le.same fun b h => rfl, hs⟩
  | m :: l, st, Ft, hs => by
    obtain ⟨F1, h1, q1⟩ := hs.fz m
    obtain ⟨F2, h2, q2⟩ := Sat.fzs l q1
    exact ⟨F2, h1.trans h2, q2⟩
/-- A row more. -/
theorem Sat.newVec (hs : Sat X ρ st Ft β a w) (hfr : st.fresh = true) {e : TypeId} {y : E} {v : Value} {w' : World} (hb : Below w.heap.size w w') (hok : BoxOk X.P w' Ft ρ β (.vec e y) v) (hv : ∀ k, bk v = some k → w.heap.size ≤ k) (h1 : v.oneCell' = true) :
    Sat X ρ { st with bx := (st.nn, .vec e y) :: st.bx, nn := st.nn + 1 } Ft (updN β st.nn v) a w' := by
  simp only [St.fresh, Bool.and_eq_true, List.all_eq_true] at hfr
  obtain ⟨hf1, hf2⟩ := hfr
  have hf : Le w Ft w' Ft := Le.same fun b h => hb.block b (hs.ft b h).1
  have hlk : ∀ n x, ((st.nn, Box.vec e y) :: st.bx).lookup n = some x → (n = st.nn ∧ x = .vec e y) ∨ (n ≠ st.nn ∧ st.bx.lookup n = some x) := by
    intro n x h
    rw [List.lookup_cons] at h
    split at h
    · rename_i he; simp at he h; exact .inl ⟨he, h.symm⟩
    · rename_i he; simp at he; exact .inr ⟨he, h⟩
  refine ⟨hs.df, hs.sz, ?_, ?_, ?_, ?_, ?_, chg_kept hs.chg hb, hs.fs, ?_, hs.f0, hs.gx, hs.cf, ?_, hs.fw⟩
  rotate_right
  · refine hs.hg.move hf rfl (fun k hk => ⟨hb.block k hk.1, Nat.lt_of_lt_of_le hk.1 hb.size, hk.2.1, fun n x hx => ?_⟩) rfl rfl rfl
    rcases hlk n x hx with ⟨rfl, rfl⟩ | ⟨hne, hx'⟩
    · intro he
      simp only [updN, if_true, Box.bk_vec] at he
      have := hv k he
      have := hk.1
      omega
    · simp only [updN, hne, if_false]
      exact hk.2.2 n x hx'
  · intro b h
    refine ⟨Nat.lt_of_lt_of_le (hs.ft b h).1 hb.size, fun n x hx => ?_⟩
    rcases hlk n x hx with ⟨rfl, rfl⟩ | ⟨hne, hx'⟩
    · intro he
      simp only [updN, if_true, Box.bk_vec] at he
      have := hv b he
      have := (hs.ft b h).1
      omega
    · simp only [updN, hne, if_false]
      exact (hs.ft b h).2 n x hx'
  · intro t' sv ht
    obtain ⟨v, q1, q2⟩ := hs.tm t' sv ht
    exact ⟨v, q1, (q2.mono hf).updN (hf1 _ (mem_of_lookup ht))⟩
  · intro n x hx
    rcases hlk n x hx with ⟨rfl, rfl⟩ | ⟨hne, hx'⟩
    · simp only [updN, if_true]
      exact hok
    · have hbo := hs.bx n x hx'
      have hno := (hf2 _ (mem_of_lookup hx')).2
      have h1 : BoxOk X.P w' Ft ρ β x (β n) := hbo.mono hf (fun k hk => hb.block k (hs.own n x k hx' hk).1) (fun n b t h _ => hb.block b (hs.hg.gm n b t h).1)
      simp only [updN, hne, if_false]
      cases x with
      | box t' cs' => obtain ⟨b, vs', q1, q2, q3⟩ := h1; exact ⟨b, vs', q1, q2, q3.updN hno⟩
      | vec e x => exact h1
      | view t' x c => exact h1
      | map t' x => exact h1
  · intro n m x y k hx hy h1 h2
    rcases hlk n x hx with ⟨rfl, rfl⟩ | ⟨hne, hx'⟩ <;> rcases hlk m y hy with ⟨rfl, rfl⟩ | ⟨hne', hy'⟩
    · rfl
    · simp only [updN, hne', if_true, if_false, Box.bk_vec] at h1 h2
      have := hv k h1
      have := (hs.own m y k hy' h2).1
      omega
    · simp only [updN, hne, if_true, if_false, Box.bk_vec] at h1 h2
      have := hv k h2
      have := (hs.own n x k hx' h1).1
      omega
    · simp only [updN, hne, hne', if_false] at h1 h2
      exact hs.inj n m x y k hx' hy' h1 h2
  · intro n x k hx hk
    rcases hlk n x hx with ⟨rfl, rfl⟩ | ⟨hne, hx'⟩
    · simp only [updN, if_true, Box.bk_vec] at hk
      exact ⟨vec_bk hok k hk, .inr (Nat.le_trans hs.chg.size (hv k hk))⟩
    · simp only [updN, hne, if_false] at hk
      have := hs.own n x k hx' hk
      exact ⟨Nat.lt_of_lt_of_le this.1 hb.size, this.2⟩
  · intro n
    unfold updN
    split
    · exact h1
    · exact hs.on n
theorem map_bk {P : Program} {F : Fr} {t : TypeId} {y : E} {v : Value} {w : World} {ρ : List D} {β : Nat → Value} (h : BoxOk P w F ρ β (.map t y) v) (k : Nat) (hk : bk v = some k) : k < w.heap.size := by
  obtain ⟨b, _, _, _, _, _, _, es, v1, _, _, _, _, _, v7, _⟩ := h
  rw [v1] at hk
  simp [bk] at hk
  subst hk
  exact (Array.getElem?_eq_some_iff.1 v7).1
theorem Sat.newMap (hs : Sat X ρ st Ft β a w) (hfr : st.fresh = true) {t0 : TypeId} {y : E} {v : Value} {w' : World} (hb : Below w.heap.size w w') (hok : BoxOk X.P w' Ft ρ β (.map t0 y) v) (hv : ∀ k, bk v = some k → w.heap.size ≤ k) (h1 : v.oneCell' = true) :
    Sat X ρ { st with bx := (st.nn, .map t0 y) :: st.bx, nn := st.nn + 1 } Ft (updN β st.nn v) a w' := by
  simp only [St.fresh, Bool.and_eq_true, List.all_eq_true] at hfr
  obtain ⟨hf1, hf2⟩ := hfr
  have hf : Le w Ft w' Ft := Le.same fun b h => hb.block b (hs.ft b h).1
  have hlk : ∀ n x, ((st.nn, Box.map t0 y) :: st.bx).lookup n = some x → (n = st.nn ∧ x = .map t0 y) ∨ (n ≠ st.nn ∧ st.bx.lookup n = some x) := by
    intro n x h
    rw [List.lookup_cons] at h
    split at h
    · rename_i he; simp at he h; exact .inl ⟨he, h.symm⟩
    · rename_i he; simp at he; exact .inr ⟨he, h⟩
  refine ⟨hs.df, hs.sz, ?_, ?_, ?_, ?_, ?_, chg_kept hs.chg hb, hs.fs, ?_, hs.f0, hs.gx, hs.cf, ?_, hs.fw⟩
  rotate_right
  · refine hs.hg.move hf rfl (fun k hk => ⟨hb.block k hk.1, Nat.lt_of_lt_of_le hk.1 hb.size, hk.2.1, fun n x hx => ?_⟩) rfl rfl rfl
    rcases hlk n x hx with ⟨rfl, rfl⟩ | ⟨hne, hx'⟩
    · intro he
      simp only [updN, if_true, Box.bk_map] at he
      have := hv k he
      have := hk.1
      omega
    · simp only [updN, hne, if_false]
      exact hk.2.2 n x hx'
  · intro b h
    refine ⟨Nat.lt_of_lt_of_le (hs.ft b h).1 hb.size, fun n x hx => ?_⟩
    rcases hlk n x hx with ⟨rfl, rfl⟩ | ⟨hne, hx'⟩
    · intro he
      simp only [updN, if_true, Box.bk_map] at he
      have := hv b he
      have := (hs.ft b h).1
      omega
    · simp only [updN, hne, if_false]
      exact (hs.ft b h).2 n x hx'
  · intro t' sv ht
    obtain ⟨v, q1, q2⟩ := hs.tm t' sv ht
    exact ⟨v, q1, (q2.mono hf).updN (hf1 _ (mem_of_lookup ht))⟩
  · intro n x hx
    rcases hlk n x hx with ⟨rfl, rfl⟩ | ⟨hne, hx'⟩
    · simp only [updN, if_true]
      exact hok
    · have hbo := hs.bx n x hx'
      have hno := (hf2 _ (mem_of_lookup hx')).2
      have h1 : BoxOk X.P w' Ft ρ β x (β n) := hbo.mono hf (fun k hk => hb.block k (hs.own n x k hx' hk).1) (fun n b t h _ => hb.block b (hs.hg.gm n b t h).1)
      simp only [updN, hne, if_false]
      cases x with
      | box t' cs' => obtain ⟨b, vs', q1, q2, q3⟩ := h1; exact ⟨b, vs', q1, q2, q3.updN hno⟩
      | vec e x => exact h1
      | view t' x c => exact h1
      | map t' x => exact h1
  · intro n m x y k hx hy h1 h2
    rcases hlk n x hx with ⟨rfl, rfl⟩ | ⟨hne, hx'⟩ <;> rcases hlk m y hy with ⟨rfl, rfl⟩ | ⟨hne', hy'⟩
    · rfl
    · simp only [updN, hne', if_true, if_false, Box.bk_map] at h1 h2
      have := hv k h1
      have := (hs.own m y k hy' h2).1
      omega
    · simp only [updN, hne, if_true, if_false, Box.bk_map] at h1 h2
      have := hv k h2
      have := (hs.own n x k hx' h1).1
      omega
    · simp only [updN, hne, hne', if_false] at h1 h2
      exact hs.inj n m x y k hx' hy' h1 h2
  · intro n x k hx hk
    rcases hlk n x hx with ⟨rfl, rfl⟩ | ⟨hne, hx'⟩
    · simp only [updN, if_true, Box.bk_map] at hk
      exact ⟨map_bk hok k hk, .inr (Nat.le_trans hs.chg.size (hv k hk))⟩
    · simp only [updN, hne, if_false] at hk
      have := hs.own n x k hx' hk
      exact ⟨Nat.lt_of_lt_of_le this.1 hb.size, this.2⟩
  · intro n
    unfold updN
    split
    · exact h1
    · exact hs.on n
/-- A row has grown. -/
theorem Sat.grow (hs : Sat X ρ st Ft β a w) {m : Nat} {e e0 : TypeId} {y0 y : E} (hm : st.bx.lookup m = some (.vec e0 y0)) {v : Value} (hok : BoxOk X.P w' Ft ρ β (.vec e y) v) (hg : w.grownBy w' (bk (β m))) (hv : bk v = bk (β m) ∨ bk v = some w.heap.size) (h1 : v.oneCell' = true) :
    Sat X ρ (st.grow m e y) Ft (updN β m v) a w' := by
  have hfar : ∀ k, k < w.heap.size → bk (β m) ≠ some k → w'.heap[k]? = w.heap[k]? := fun k hk hn => hg.block k hk (fun he => hn he.symm)
  have hf : Le w Ft w' Ft := Le.same fun b h => hfar b (hs.ft b h).1 (fun he => (hs.ft b h).2 m _ hm he)
  have hbk : ∀ (x : Box) (v : Value), (x.jk m).bk v = x.bk v := fun x v => by cases x <;> rfl
  have hlk : ∀ n x, ((m, Box.vec e y) :: (st.bx.filter fun p => p.1 != m).map fun p => (p.1, Box.jk m p.2)).lookup n = some x → (n = m ∧ x = .vec e y) ∨ ∃ x', n ≠ m ∧ st.bx.lookup n = some x' ∧ x = x'.jk m := by
    intro n x h
    rw [List.lookup_cons] at h
    split at h
    · rename_i he; simp at he h; exact .inl ⟨he, h.symm⟩
    · rw [lookup_map (Box.jk m)] at h
      cases hq : (st.bx.filter fun p => p.1 != m).lookup n with
      | none => simp [hq] at h
      | some x' => simp [hq] at h; exact .inr ⟨x', (lookup_filter hq).1, (lookup_filter hq).2, h.symm⟩
  have hnew : ∀ k, bk v = some k → (bk (β m) = some k ∨ k = w.heap.size) := by
    intro k hk
    rcases hv with hv | hv
    · exact .inl (by rw [← hv]; exact hk)
    · rw [hv] at hk; exact .inr (by simpa using hk.symm)
  refine ⟨hs.df, hs.sz, ?_, ?_, ?_, ?_, ?_, ?_, hs.fs, ?_, hs.f0, hs.gx, hs.cf, ?_, hs.fw⟩
  rotate_right
  · refine hs.hg.move hf rfl (fun k hk => ⟨hfar k hk.1 (fun he => hk.2.2 m _ hm he), Nat.lt_of_lt_of_le hk.1 hg.size, hk.2.1, fun n x hx he => ?_⟩) rfl rfl rfl
    rcases hlk n x hx with ⟨rfl, rfl⟩ | ⟨x', hne, hx', rfl⟩
    · simp only [updN, if_true, Box.bk_vec] at he
      rcases hnew k he with h' | h'
      · exact hk.2.2 _ _ hm h'
      · have := hk.1; omega
    · simp only [updN, hne, if_false, hbk] at he
      exact hk.2.2 n x' hx' he
  · intro b h
    refine ⟨Nat.lt_of_lt_of_le (hs.ft b h).1 hg.size, fun n x hx he => ?_⟩
    rcases hlk n x hx with ⟨rfl, rfl⟩ | ⟨x', hne, hx', rfl⟩
    · simp only [updN, if_true, Box.bk_vec] at he
      rcases hnew b he with h' | h'
      · exact (hs.ft b h).2 _ _ hm h'
      · have := (hs.ft b h).1; omega
    · simp only [updN, hne, if_false, hbk] at he
      exact (hs.ft b h).2 n x' hx' he
  · intro t sv ht
    have ht' : (st.tm.map fun p => (p.1, SV.jk m p.2)).lookup t = some sv := ht
    rw [lookup_map (SV.jk m)] at ht'
    cases hq : st.tm.lookup t with
    | none => simp [hq] at ht'
    | some sv' =>
      simp [hq] at ht'; subst ht'
      obtain ⟨u, q1, q2⟩ := hs.tm t sv' hq
      exact ⟨u, q1, (q2.mono hf).jk hs.on m v⟩
  · intro n x hx
    rcases hlk n x hx with ⟨rfl, rfl⟩ | ⟨x', hne, hx', rfl⟩
    · simp only [updN, if_true]
      exact hok
    · have h2 : BoxOk X.P w' Ft ρ β x' (β n) := (hs.bx n x' hx').mono hf (fun k hk => hfar k (hs.own n x' k hx' hk).1 (fun he => hne (hs.inj n m x' _ k hx' hm hk he))) (fun n b t h _ => hfar b (hs.hg.gm n b t h).1 (fun he => (hs.hg.gm n b t h).2.2 m _ hm he))
      simp only [updN, hne, if_false]
      cases x' with
      | box t' cs' => obtain ⟨b, vs', q1, q2, q3⟩ := h2; exact ⟨b, vs', q1, q2, q3.jk hs.on m v⟩
      | vec e x => exact h2
      | view t' x c => exact h2
      | map t' x => exact h2
  · intro n n' x x' k hx hx' e1 e2
    rcases hlk n x hx with ⟨rfl, rfl⟩ | ⟨z, hne, hz, rfl⟩ <;> rcases hlk n' x' hx' with ⟨rfl, rfl⟩ | ⟨z', hne', hz', rfl⟩
    · rfl
    · simp only [updN, hne', if_true, if_false, Box.bk_vec, hbk] at e1 e2
      rcases hnew k e1 with h' | h'
      · exact absurd (hs.inj n' n z' _ k hz' hm e2 h') hne'
      · have := (hs.own n' z' k hz' e2).1; omega
    · simp only [updN, hne, if_true, if_false, Box.bk_vec, hbk] at e1 e2
      rcases hnew k e2 with h' | h'
      · exact absurd (hs.inj n n' z _ k hz hm e1 h') hne
      · have := (hs.own n z k hz e1).1; omega
    · simp only [updN, hne, hne', if_false, hbk] at e1 e2
      exact hs.inj n n' z z' k hz hz' e1 e2
  · intro n x k hx hk
    rcases hlk n x hx with ⟨rfl, rfl⟩ | ⟨x', hne, hx', rfl⟩
    · simp only [updN, if_true, Box.bk_vec] at hk
      refine ⟨vec_bk hok k hk, ?_⟩
      rcases hnew k hk with h' | h'
      · exact (hs.own _ _ k hm h').2
      · exact .inr (by rw [h']; exact hs.chg.size)
    · simp only [updN, hne, if_false, hbk] at hk
      have := hs.own n x' k hx' hk
      exact ⟨Nat.lt_of_lt_of_le this.1 hg.size, this.2⟩
  · exact chg_grown hs.chg hg (fun x hx => (hs.own _ _ x hm hx).2)
  · intro n
    unfold updN
    split
    · exact h1
    · exact hs.on n
/-- A row whose block has turned in place. -/
theorem Sat.setVec (hs : Sat X ρ st Ft β a w) {m : Nat} {e e0 : TypeId} {y0 y : E} (hm : st.bx.lookup m = some (.vec e0 y0)) {b : Nat} (hb : bk (β m) = some b) (cs : Array Value) (hok : BoxOk X.P (w.setRow b cs) Ft ρ β (.vec e y) (β m)) :
    Sat X ρ { st with bx := (m, .vec e y) :: st.bx } Ft β a (w.setRow b cs) := by
  have hsz : (w.setRow b cs).heap.size = w.heap.size := by simp [World.setRow]
  have hf : Le w Ft (w.setRow b cs) Ft := Le.same fun k h => heap_setRow_ne w b _ (fun e => (hs.ft k h).2 m _ hm (by rw [Box.bk_vec, hb, e]))
  have hoth : ∀ k, Oth st.bx Ft β w k → k ≠ b := fun k hk e => hk.2.2 m _ hm (by rw [Box.bk_vec, hb, e])
  have hlk : ∀ n x, ((m, Box.vec e y) :: st.bx).lookup n = some x → (n = m ∧ x = .vec e y) ∨ (n ≠ m ∧ st.bx.lookup n = some x) := by
    intro n x h
    rw [List.lookup_cons] at h
    split at h
    · rename_i he; simp at he h; exact .inl ⟨he, h.symm⟩
    · rename_i he; simp at he; exact .inr ⟨he, h⟩
  have hsome : ∀ n x, ((m, Box.vec e y) :: st.bx).lookup n = some x → ∃ x', st.bx.lookup n = some x' ∧ x.bk (β n) = x'.bk (β n) := by
    intro n x h
    rcases hlk n x h with ⟨rfl, rfl⟩ | ⟨_, h⟩
    · exact ⟨_, hm, rfl⟩
    · exact ⟨_, h, rfl⟩
  refine ⟨hs.df, hs.sz, ?_, ?_, ?_, ?_, ?_, ?_, hs.fs, hs.on, hs.f0, hs.gx, hs.cf, ?_, hs.fw⟩
  rotate_right
  · refine hs.hg.move hf rfl (fun k hk => ⟨heap_setRow_ne w b _ (hoth k hk), by rw [hsz]; exact hk.1, hk.2.1, fun n x hx => ?_⟩) rfl rfl rfl
    obtain ⟨x', hx', e⟩ := hsome n x hx
    rw [e]
    exact hk.2.2 n x' hx'
  · intro k h
    refine ⟨by rw [hsz]; exact (hs.ft k h).1, fun n x hx => ?_⟩
    obtain ⟨x', hx', e⟩ := hsome n x hx
    rw [e]
    exact (hs.ft k h).2 n x' hx'
  · intro t sv ht
    obtain ⟨v, q1, q2⟩ := hs.tm t sv ht
    exact ⟨v, q1, q2.mono hf⟩
  · intro n x hx
    rcases hlk n x hx with ⟨rfl, rfl⟩ | ⟨hne, hx'⟩
    · exact hok
    · refine (hs.bx n x hx').mono hf (fun k hk => heap_setRow_ne w b _ (fun he => ?_)) (fun n b' t h _ => heap_setRow_ne w b _ (hoth b' (hs.hg.gm n b' t h)))
      subst he
      exact hne (hs.inj n m x _ _ hx' hm hk hb)
  · intro n n' x x' k hx hx' h1 h2
    obtain ⟨z, q1, e1⟩ := hsome n x hx
    obtain ⟨z', q2, e2⟩ := hsome n' x' hx'
    exact hs.inj n n' z z' k q1 q2 (by rw [← e1]; exact h1) (by rw [← e2]; exact h2)
  · intro n x k hx hk
    obtain ⟨z, q1, e1⟩ := hsome n x hx
    rw [hsz]
    exact hs.own n z k q1 (by rw [← e1]; exact hk)
  · refine ⟨hs.chg.os, hs.chg.tape, hs.chg.output, by rw [hsz]; exact hs.chg.size, fun k hk hn => ?_⟩
    rw [heap_setRow_ne w b _ (fun he => ?_)]
    · exact hs.chg.block k hk hn
    · subst he
      rcases (hs.own m _ _ hm hb).2 with h | h
      · exact hn h
      · omega
theorem Sat.reVec (hs : Sat X ρ st Ft β a w) {m : Nat} {e : TypeId} {y0 y : E} (hm : st.bx.lookup m = some (.vec e y0)) (hd : (den ρ y).toL = (den ρ y0).toL) : Sat X ρ { st with bx := (m, .vec e y) :: st.bx } Ft β a w := by
  have hlk : ∀ n x, ((m, Box.vec e y) :: st.bx).lookup n = some x → (n = m ∧ x = .vec e y) ∨ (n ≠ m ∧ st.bx.lookup n = some x) := by
    intro n x h
    rw [List.lookup_cons] at h
    split at h
    · rename_i he; simp at he h; exact .inl ⟨he, h.symm⟩
    · rename_i he; simp at he; exact .inr ⟨he, h⟩
  have hsome : ∀ n x, ((m, Box.vec e y) :: st.bx).lookup n = some x → ∃ x', st.bx.lookup n = some x' ∧ ∀ v, x.bk v = x'.bk v := by
    intro n x h
    rcases hlk n x h with ⟨rfl, rfl⟩ | ⟨_, h⟩
    · exact ⟨_, hm, fun _ => rfl⟩
    · exact ⟨_, h, fun _ => rfl⟩
  refine ⟨hs.df, hs.sz, fun k h => ⟨(hs.ft k h).1, fun n x hx => ?_⟩, hs.tm, fun n x hx => ?_, fun n n' x x' k hx hx' h1 h2 => ?_, fun n x k hx hk => ?_, hs.chg, hs.fs, hs.on, hs.f0, hs.gx, hs.cf, ?_, hs.fw⟩
  · obtain ⟨x', hx', e⟩ := hsome n x hx
    rw [e]; exact (hs.ft k h).2 n x' hx'
  · rcases hlk n x hx with ⟨rfl, rfl⟩ | ⟨hne, hx'⟩
    · have := hs.bx n _ hm
      obtain ⟨ts, xs, q1, q2, q3⟩ := this
      exact ⟨ts, xs, q1, by rw [hd]; exact q2, by rw [hd]; exact q3⟩
    · exact hs.bx n x hx'
  · obtain ⟨z, q1, e1⟩ := hsome n x hx
    obtain ⟨z', q2, e2⟩ := hsome n' x' hx'
    exact hs.inj n n' z z' k q1 q2 (by rw [← e1]; exact h1) (by rw [← e2]; exact h2)
  · obtain ⟨z, q1, e1⟩ := hsome n x hx
    exact hs.own n z k q1 (by rw [← e1]; exact hk)
  · refine hs.hg.move (Le.same fun _ _ => rfl) rfl (fun k hk => ⟨rfl, hk.1, hk.2.1, fun n x hx => ?_⟩) rfl rfl rfl
    obtain ⟨x', hx', e⟩ := hsome n x hx
    rw [e]; exact hk.2.2 n x' hx'
theorem cons_lookup {α : Type} {l : List (Nat × α)} {n m : Nat} {x y : α} (h : ((m, y) :: l).lookup n = some x) : (n = m ∧ x = y) ∨ (n ≠ m ∧ l.lookup n = some x) := by
  rw [List.lookup_cons] at h
  split at h
  · rename_i he; simp at he h; exact .inl ⟨he, h.symm⟩
  · rename_i he; simp at he; exact .inr ⟨he, h⟩
/-- A name more, of what is there. -/
theorem Sat.addBox (hs : Sat X ρ st Ft β a w) (hfr : st.fresh = true) {x : Box} {v : Value} (hok : BoxOk X.P w Ft ρ β x v) (hx : ∀ t cs, x ≠ .box t cs) (h1 : v.oneCell' = true)
    (hv : ∀ k, x.bk v = some k → k < w.heap.size ∧ (k ∈ X.S ∨ X.w0.heap.size ≤ k) ∧ ¬ Ft k ∧ ∀ j y, st.bx.lookup j = some y → y.bk (β j) ≠ some k)
    (hg : Hg X ρ { st with bx := (st.nn, x) :: st.bx, nn := st.nn + 1 } Ft (updN β st.nn v) w) : Sat X ρ { st with bx := (st.nn, x) :: st.bx, nn := st.nn + 1 } Ft (updN β st.nn v) a w := by
  simp only [St.fresh, Bool.and_eq_true, List.all_eq_true] at hfr
  obtain ⟨hf1, hf2⟩ := hfr
  have hnew : (updN β st.nn v) st.nn = v := by simp [updN]
  have hold : ∀ n, n ≠ st.nn → updN β st.nn v n = β n := fun n hn => by simp [updN, hn]
  refine ⟨hs.df, hs.sz, ?_, ?_, ?_, ?_, ?_, hs.chg, hs.fs, ?_, hs.f0, hs.gx, hs.cf, hg, hs.fw⟩
  · intro b hb
    refine ⟨(hs.ft b hb).1, fun n y hy he => ?_⟩
    rcases cons_lookup hy with ⟨rfl, rfl⟩ | ⟨hne, hy⟩
    · rw [hnew] at he; exact (hv b he).2.2.1 hb
    · rw [hold n hne] at he; exact (hs.ft b hb).2 n y hy he
  · intro t sv ht
    obtain ⟨u, q1, q2⟩ := hs.tm t sv ht
    exact ⟨u, q1, q2.updN (hf1 _ (mem_of_lookup ht))⟩
  · intro n y hy
    rcases cons_lookup hy with ⟨rfl, rfl⟩ | ⟨hne, hy⟩
    · rw [hnew]; exact hok.beta hx
    · rw [hold n hne]
      have hb := hs.bx n y hy
      have hno := (hf2 _ (mem_of_lookup hy)).2
      cases y with
      | box t cs => obtain ⟨b, vs, q1, q2, q3⟩ := hb; exact ⟨b, vs, q1, q2, q3.updN hno⟩
      | vec e y => exact hb
      | view t y c => exact hb
      | map t y => exact hb
  · intro n m y z k hy hz h1 h2
    rcases cons_lookup hy with ⟨rfl, rfl⟩ | ⟨hne, hy1⟩ <;> rcases cons_lookup hz with ⟨rfl, rfl⟩ | ⟨hne', hz1⟩
    · rfl
    · rw [hnew] at h1; rw [hold m hne'] at h2; exact absurd h2 ((hv k h1).2.2.2 m z hz1)
    · rw [hnew] at h2; rw [hold n hne] at h1; exact absurd h1 ((hv k h2).2.2.2 n y hy1)
    · rw [hold n hne] at h1; rw [hold m hne'] at h2; exact hs.inj n m y z k hy1 hz1 h1 h2
  · intro n y k hy hk
    rcases cons_lookup hy with ⟨rfl, rfl⟩ | ⟨hne, hy⟩
    · rw [hnew] at hk; exact ⟨(hv k hk).1, (hv k hk).2.1⟩
    · rw [hold n hne] at hk; exact hs.own n y k hy hk
  · intro n
    unfold updN
    split
    · exact h1
    · exact hs.on n
/-- The list of what a thing and its rows lie in. -/
def footOf (b L : Nat) (g : Nat → List Nat) : List Nat := b :: (List.range L).flatMap g
theorem footOf_mem {b L : Nat} {g : Nat → List Nat} (k : Nat) : k ∈ footOf b L g ↔ k = b ∨ ∃ i, i < L ∧ k ∈ g i := by
  unfold footOf
  simp [List.mem_flatMap]
/-- The row that a thing of the heap holds in a cell is taken out of it. -/
theorem Sat.takeOut (hs : Sat X ρ st Ft β a w) {m : Nat} {e ot : TypeId} {c x h : E} {j : Nat} (hm : st.bx.lookup m = some (.view ot x j)) (hro : rowOf X.P st m = some (e, c)) (hhp : st.hp = some (true, h)) : Sat X ρ (st.takeOut m e c ot x j) Ft β a w := by
  have hvec := rowOf_sound hs hro
  obtain ⟨n, b, vs, v1, v2, v3, v4⟩ := hs.bx _ _ hm
  obtain ⟨φ, q1, q2⟩ := hs.hg.hp _ _ hhp
  obtain ⟨vs', os, g, o1, o2, o3, o4, o5, o6, o7, o8⟩ := q1.obj n b ot v2
  rw [v3] at o1
  have hvs : vs = vs' := by simpa using o1
  subst hvs
  have hrow : os[j]? = some (.row e) ∧ (exN ρ st.ex).contains (n, j) = false := by
    unfold rowOf at hro
    rw [hm, hhp] at hro
    simp only [o2] at hro
    split at hro
    · rename_i e' hj
      split at hro
      · cases hro
      · rename_i hex
        cases hro
        exact ⟨hj, exN_at (by simpa using hex)⟩
    · cases hro
  obtain ⟨hj, hex⟩ := hrow
  have hjl : j < os.length := (List.getElem?_eq_some_iff.1 hj).1
  have hd : ((den ρ h).toL.getD n .nil).toL[j]? = some (((den ρ h).toL.getD n .nil).toL[j]'(by omega)) := List.getElem?_eq_getElem _
  have hgj : g j = (bk (β m)).toList := by
    have := o5 j _ _ _ hj hd v4
    simp only [hex, Bool.false_eq_true, if_false] at this
    generalize g j = S at this
    cases this
    rfl
  have hbm : ∀ k, bk (β m) = some k → k ∈ φ n := fun k hk => (o6 k).2 (.inr ⟨j, hjl, by rw [hgj, hk]; simp⟩)
  have hnl : n < Ft.γ.length := (List.getElem?_eq_some_iff.1 v2).1
  have hs1 := hs.lose (st.views.filter fun n => n != m)
  have hbx : ∀ n' y, ((m, Box.vec e c) :: (st.lose (st.views.filter fun n => n != m)).bx).lookup n' = some y → (n' = m ∧ y = .vec e c) ∨ (n' ≠ m ∧ (st.lose (st.views.filter fun n => n != m)).bx.lookup n' = some y ∧ ∃ z, st.bx.lookup n' = some z ∧ y.bk (β n') = z.bk (β n')) := by
    intro n' y hy
    rw [List.lookup_cons] at hy
    split at hy
    · rename_i he; simp at he hy; exact .inl ⟨he, hy.symm⟩
    · rename_i he
      simp at he
      obtain ⟨_, z, hz, h3, _⟩ := lose_bx _ hy
      exact .inr ⟨he, hy, z, hz, h3 _⟩
  obtain ⟨hl1, hl2, hl3, hl4, hl5, hl6⟩ := lose_hp (st.views.filter fun n => n != m) st
  refine ⟨hs1.df, hs1.sz, ?_, hs1.tm, ?_, ?_, ?_, hs1.chg, hs1.fs, hs1.on, hs1.f0, hs1.gx, hs1.cf, ?_, hs1.fw⟩
  · intro k hk
    refine ⟨(hs.ft k hk).1, fun n' y hy he => ?_⟩
    rcases hbx n' y hy with ⟨rfl, rfl⟩ | ⟨_, _, z, hz, hq⟩
    · exact (q1.far n k (hbm k he)).2 hk
    · rw [hq] at he; exact (hs.ft k hk).2 n' z hz he
  · intro n' y hy
    rcases hbx n' y hy with ⟨rfl, rfl⟩ | ⟨_, hy', _⟩
    · exact hvec
    · exact hs1.bx n' y hy'
  · intro n' n'' y y' k hy hy' h1 h2
    rcases hbx n' y hy with ⟨rfl, rfl⟩ | ⟨hne, _, z, hz, hq⟩ <;> rcases hbx n'' y' hy' with ⟨rfl, rfl⟩ | ⟨hne', _, z', hz', hq'⟩
    · rfl
    · rw [hq'] at h2; exact absurd h2 ((q2 n k (hbm k h1)).2 _ _ hz')
    · rw [hq] at h1; exact absurd h1 ((q2 n k (hbm k h2)).2 _ _ hz)
    · rw [hq] at h1; rw [hq'] at h2; exact hs.inj _ _ z z' k hz hz' h1 h2
  · intro n' y k hy hk
    rcases hbx n' y hy with ⟨rfl, rfl⟩ | ⟨_, _, z, hz, hq⟩
    · exact ⟨(q1.far n k (hbm k hk)).1, (q2 n k (hbm k hk)).1 rfl⟩
    · rw [hq] at hk; exact hs.own n' z k hz hk
  · have hdj : ∀ k, bk (β m) = some k → ∀ (n' b' : Nat) (t' : TypeId), Ft.γ[n']? = some (b', t') → b' ≠ k := by
      intro k hk n' b' t' hn' he
      subst he
      obtain ⟨_, _, _, _, _, _, _, _, p6, p7, _⟩ := q1.obj n' _ t' hn'
      have hin : b' ∈ φ n' := (p6 b').2 (.inl rfl)
      have := q1.dis n' n b' hin (hbm b' hk)
      subst this
      rw [v2] at hn'; cases hn'
      exact o7 j hjl (by rw [hgj, hk]; simp)
    refine ⟨?_, ?_⟩
    · intro m' e' he'
      have he2 : (st.lose (st.views.filter fun n => n != m)).hp = some (m', e') := he'
      rw [hl1, hhp] at he2
      cases he2
      let g' : Nat → List Nat := fun i => if i = j then [] else g i
      have hg' : ∀ i k, k ∈ g' i → i ≠ j ∧ k ∈ g i := by
        intro i k hk
        simp only [g'] at hk
        split at hk
        · simp at hk
        · rename_i hne; exact ⟨hne, hk⟩
      have hsub : ∀ n' k, k ∈ (if n' = n then footOf b os.length g' else φ n') → k ∈ φ n' := by
        intro n' k hk
        split at hk
        · rename_i he; subst he
          rcases (footOf_mem k).1 hk with h | ⟨i, hi, hk'⟩
          · exact (o6 k).2 (.inl h)
          · exact (o6 k).2 (.inr ⟨i, hi, (hg' i k hk').2⟩)
        · exact hk
      have hexn : exN ρ ((j, ot, x) :: (st.lose (st.views.filter fun n => n != m)).ex) = (n, j) :: exN ρ st.ex := by
        rw [hl2]; simp [exN, v1]
      refine ⟨fun n' => if n' = n then footOf b os.length g' else φ n', ⟨q1.len, ?_, fun n' n'' k h1 h2 => q1.dis n' n'' k (hsub n' k h1) (hsub n'' k h2), fun n' k hk => q1.far n' k (hsub n' k hk), fun n' hn' => ?_⟩, ?_⟩
      · intro n' b' t' hn'
        show ObjOk X.P w Ft (st.lose (st.views.filter fun n => n != m)).cf.ob (fun c => (exN ρ ((j, ot, x) :: (st.lose (st.views.filter fun n => n != m)).ex)).contains (n', c)) t' b' ((den ρ h).toL.getD n' .nil) _
        rw [hl3, hexn]
        by_cases he : n' = n
        · subst he
          rw [v2] at hn'; cases hn'
          rw [if_pos rfl]
          refine ⟨vs, os, g', v3, o2, o3, o4, fun i o y u a1 a2 a3 => ?_, fun k => footOf_mem k, fun i hi hk => o7 i hi (hg' i _ hk).2, fun i i' k hi hi' h1 h2 => o8 i i' k hi hi' (hg' i k h1).2 (hg' i' k h2).2⟩
          have := o5 i o y u a1 a2 a3
          by_cases hij : i = j
          · subst hij
            rw [hj] at a1; cases a1
            have hc : ((n', i) :: exN ρ st.ex).contains (n', i) = true := by simp
            simp only [hex, Bool.false_eq_true, if_false] at this
            show if ((n', i) :: exN ρ st.ex).contains (n', i) = true then _ else _
            rw [if_pos hc]
            exact ⟨ObjOk.one this, by simp [g'], e, rfl⟩
          · have hc : ((n', j) :: exN ρ st.ex).contains (n', i) = (exN ρ st.ex).contains (n', i) := by
              simp only [List.contains_cons]
              have : ((n', i) == (n', j)) = false := by simpa using hij
              rw [this]; simp
            show if ((n', j) :: exN ρ st.ex).contains (n', i) = true then _ else _
            rw [hc]
            simp only [g', if_neg hij]
            exact this
        · rw [if_neg he]
          obtain ⟨p1, p2, p3, p4, p5, p6, p7, p8, p9⟩ := q1.obj n' b' t' hn'
          refine ⟨p1, p2, p3, p4, p5, p6, p7, fun i o y u a1 a2 a3 => ?_, p9⟩
          have := p8 i o y u a1 a2 a3
          have hc : ((n, j) :: exN ρ st.ex).contains (n', i) = (exN ρ st.ex).contains (n', i) := by
            simp only [List.contains_cons]
            have : ((n', i) == (n, j)) = false := by simp [he]
            rw [this]; simp
          show if ((n, j) :: exN ρ st.ex).contains (n', i) = true then _ else _
          rw [hc]; exact this
      · rw [if_neg (by omega)]; exact q1.out n' hn'
      · intro n' k hk
        refine ⟨(q2 n' k (hsub n' k hk)).1, fun n'' y hy he => ?_⟩
        rcases hbx n'' y hy with ⟨rfl, rfl⟩ | ⟨_, _, z, hz, hq⟩
        · have he' : bk (β n'') = some k := he
          have h1 := q1.dis n' n k (hsub n' k hk) (hbm k he')
          subst h1
          have hk : k ∈ footOf b os.length g' := by simpa using hk
          have hkj : k ∈ g j := by rw [hgj, he']; simp
          rcases (footOf_mem k).1 hk with h | ⟨i, hi, hk'⟩
          · subst h; exact o7 j hjl hkj
          · exact (hg' i k hk').1 (o8 i j k hi hjl (hg' i k hk').2 hkj)
        · rw [hq] at he; exact (q2 n' k (hsub n' k hk)).2 n'' z hz he
    · intro n' b' t' hn'
      obtain ⟨g1, g2, g3⟩ := hs.hg.gm n' b' t' hn'
      refine ⟨g1, g2, fun n'' y hy he => ?_⟩
      rcases hbx n'' y hy with ⟨rfl, rfl⟩ | ⟨_, _, z, hz, hq⟩
      · exact hdj b' he n' b' t' hn' rfl
      · rw [hq] at he; exact g3 n'' z hz he
end
end Go.Proofs.YtobacchojjfpfaaGreatDoor.Eng
