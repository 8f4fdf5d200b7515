/-
  A reader of Go functions, part C: what an operation gives is what the model's operation gives.
-/
import Derived.Test.YtobacchojjfpfaaGreatDoorEngB
import Derived.RowKit
import Derived.Maps.Keyed
import Derived.WideKeyRuns
import Derived.MapKept
namespace Go.Proofs.YtobacchojjfpfaaGreatDoor.Eng
set_option linter.unusedVariables false
set_option linter.unusedSimpArgs false

/-- Package-level arrays of words are as they were laid. -/
def GsOk (gs : List (Nat × TypeId × List ByteArray)) (w : World) (F : Fr) : Prop :=
  ∀ g t l, gs.lookup g = some (t, l) → F g ∧ ∀ i s, l[i]? = some s → w.cell? ⟨g, i, none⟩ = some (.string s)
theorem GsOk.mono {gs : List (Nat × TypeId × List ByteArray)} {w w' : World} {F F' : Fr} (h : Le w F w' F') (q : GsOk gs w F) : GsOk gs w' F' :=
  fun g t l hl => ⟨(h.b g (q g t l hl).1).1, fun i s hi => by rw [cell?_of_heap (h.b g (q g t l hl).1).2]; exact (q g t l hl).2 i s hi⟩
theorem GsOk.nil {w : World} {F : Fr} : GsOk [] w F := fun g t l h => by cases h
/-- What is known of the world's package-level variables; what the reader was told. -/
structure Gl where
  cf : Cf
  ok : World → Fr → Prop
  mono : ∀ {w w' : World} {F F' : Fr}, Le w F w' F' → ok w F → ok w' F'
  glo : ∀ {w : World} {F : Fr}, ok w F → GsOk cf.gs w F
def Gl.of (cf : Cf) : Gl := ⟨cf, GsOk cf.gs, GsOk.mono, fun h => h⟩
def Gl.none : Gl := Gl.of Cf.none
structure Cx where
  P : Program
  S : List Nat
  w0 : World
  nt : Nat
  F0 : Fr
  G : Gl
structure CxOk (X : Cx) : Prop where
  ok : X.G.ok X.w0 X.F0
  f0 : ∀ b, X.F0 b → b < X.w0.heap.size ∧ b ∉ X.S
  gt : ∀ g t l, X.G.cf.gs.lookup g = some (t, l) → cellTys X.P t = some [.str]

/-! The heap. -/
/-- Value v, in a cell of a thing of the heap, reads as d; the blocks S are its own. -/
inductive OwnC (P : Program) (w : World) (F : Fr) : List Nat → OTy → D → Value → Prop
  | dat {t d v} : Rd P w F t d v → OwnC P w F [] (.dat t) d v
  | row {e d v} {ts : List Ty} {xs : List Value} : cellTys P e = some ts → OwnR w e ts.length v d.toL.length xs →
      (∀ i c y t, d.toL[i]? = some y → ts[c]? = some t → ∃ u, xs[i * ts.length + c]? = some u ∧ Rd P w F t (cellOf ts.length y c) u) → OwnC P w F (bk v).toList (.row e) d v
def ObjOk (P : Program) (w : World) (F : Fr) (ob : List (Nat × Nat)) (ex : Nat → Bool) (t : TypeId) (b : Nat) (d : D) (S : List Nat) : Prop :=
  ∃ (vs : List Value) (os : List OTy) (g : Nat → List Nat), w.heap[b]? = some (.cells vs.toArray t (0, 0)) ∧ otys P ob t = some os ∧ d.toL.length = os.length ∧ vs.length = os.length ∧
    (∀ (i : Nat) (o : OTy) (x : D) (u : Value), os[i]? = some o → d.toL[i]? = some x → vs[i]? = some u → if ex i = true then u.oneCell' = true ∧ g i = [] ∧ ∃ e, o = .row e else OwnC P w F (g i) o x u) ∧
    (∀ k, k ∈ S ↔ k = b ∨ ∃ i, i < os.length ∧ k ∈ g i) ∧ (∀ i, i < os.length → b ∉ g i) ∧ ∀ i j k, i < os.length → j < os.length → k ∈ g i → k ∈ g j → i = j
structure HpOk (P : Program) (w : World) (F : Fr) (ob : List (Nat × Nat)) (h : D) (ex : List (Nat × Nat)) (φ : Nat → List Nat) : Prop where
  len : h.toL.length = F.γ.length
  obj : ∀ (n b : Nat) (t : TypeId), F.γ[n]? = some (b, t) → ObjOk P w F ob (fun c => ex.contains (n, c)) t b (h.toL.getD n .nil) (φ n)
  dis : ∀ n m k, k ∈ φ n → k ∈ φ m → n = m
  far : ∀ n k, k ∈ φ n → k < w.heap.size ∧ ¬ F k
  out : ∀ n, F.γ.length ≤ n → φ n = []
def exN (ρ : List D) (ex : List (Nat × TypeId × E)) : List (Nat × Nat) := ex.map fun x => ((den ρ x.2.2).toInt.toNat, x.1)
/-- A block that is neither looked at as data nor the call's own. -/
def Oth (bx : List (Nat × Box)) (Ft : Fr) (β : Nat → Value) (w : World) (k : Nat) : Prop := k < w.heap.size ∧ ¬ Ft k ∧ ∀ j x, bx.lookup j = some x → x.bk (β j) ≠ some k
structure Hg (X : Cx) (ρ : List D) (st : St) (Ft : Fr) (β : Nat → Value) (w : World) : Prop where
  hp : ∀ m e, st.hp = some (m, e) → ∃ φ, HpOk X.P w Ft st.cf.ob (den ρ e) (exN ρ st.ex) φ ∧ ∀ n k, k ∈ φ n → (m = true → k ∈ X.S ∨ X.w0.heap.size ≤ k) ∧ ∀ j x, st.bx.lookup j = some x → x.bk (β j) ≠ some k
  gm : ∀ (n b : Nat) (t : TypeId), Ft.γ[n]? = some (b, t) → Oth st.bx Ft β w b

structure Sat (X : Cx) (ρ : List D) (st : St) (Ft : Fr) (β : Nat → Value) (a : Act) (w : World) : Prop where
  df : a.defers = []
  sz : a.tmps.size = X.nt
  ft : ∀ b, Ft b → b < w.heap.size ∧ ∀ n x, st.bx.lookup n = some x → x.bk (β n) ≠ some b
  tm : ∀ t sv, st.tm.lookup t = some sv → ∃ v, a.tmps[t]? = some v ∧ RV X.P w Ft ρ β sv v
  bx : ∀ n x, st.bx.lookup n = some x → BoxOk X.P w Ft ρ β x (β n)
  inj : ∀ n m x y k, st.bx.lookup n = some x → st.bx.lookup m = some y → x.bk (β n) = some k → y.bk (β m) = some k → n = m
  own : ∀ n x k, st.bx.lookup n = some x → x.bk (β n) = some k → k < w.heap.size ∧ (k ∈ X.S ∨ X.w0.heap.size ≤ k)
  chg : Chg X.S X.w0 w
  fs : ∀ e b, (e, b) ∈ st.fs → (den ρ e).toBool = b
  on : ∀ n, (β n).oneCell' = true
  f0 : ∀ b, Ft b → X.F0 b ∨ X.w0.heap.size ≤ b ∨ b ∈ X.S
  gx : CxOk X
  cf : st.cf = X.G.cf ∧ Ft.hc = st.cf.hc
  hg : Hg X ρ st Ft β w
  fw : (∀ b, X.F0 b → Ft b) ∧ X.F0.γ <+: Ft.γ ∧ Ft.hc = X.F0.hc ∧ ((∀ e, st.hp ≠ some (true, e)) → Ft.γ = X.F0.γ)

theorem OwnR.mono {w w' : World} {e : TypeId} {n : Nat} {v : Value} {len : Nat} {xs : List Value} (hk : ∀ b, bk v = some b → w'.heap[b]? = w.heap[b]?) (h : OwnR w e n v len xs) : OwnR w' e n v len xs := by
  obtain ⟨hl, hr⟩ := h
  refine ⟨hl, ?_⟩
  rcases hr with hr | ⟨g, cap, cur, e1, e2, e3, e4⟩
  · exact .inl hr
  · exact .inr ⟨g, cap, cur, e1, e2, by rw [hk g (by rw [e1]; exact bk_slice e2)]; exact e3, e4⟩
theorem OwnC.mono {P : Program} {w w' : World} {F F' : Fr} (hf : Le w F w' F') {S : List Nat} {t : OTy} {d : D} {v : Value} (h : OwnC P w F S t d v) (hS : ∀ b ∈ S, w'.heap[b]? = w.heap[b]?) : OwnC P w' F' S t d v := by
  cases h with
  | dat h => exact .dat (h.mono hf)
  | row h1 h2 h3 => exact .row h1 (h2.mono fun b hb => hS b (by rw [hb]; exact List.mem_singleton.2 rfl)) (fun i c y t a b => by obtain ⟨u, q1, q2⟩ := h3 i c y t a b; exact ⟨u, q1, q2.mono hf⟩)
theorem ObjOk.mono {P : Program} {w w' : World} {F F' : Fr} {ob : List (Nat × Nat)} {ex : Nat → Bool} {t : TypeId} {b : Nat} {d : D} {S : List Nat} (hf : Le w F w' F') (h : ObjOk P w F ob ex t b d S) (hS : ∀ b ∈ S, w'.heap[b]? = w.heap[b]?) : ObjOk P w' F' ob ex t b d S := by
  obtain ⟨vs, os, g, h1, h2, h3, h4, h5, h6, h7⟩ := h
  refine ⟨vs, os, g, by rw [hS b ((h6 b).2 (.inl rfl))]; exact h1, h2, h3, h4, fun i o x u a1 a2 a3 => ?_, h6, h7⟩
  have := h5 i o x u a1 a2 a3
  split
  · rename_i he; rw [if_pos he] at this; exact this
  · rename_i he
    rw [if_neg he] at this
    exact this.mono hf fun k hk => hS k ((h6 k).2 (.inr ⟨i, (List.getElem?_eq_some_iff.1 a1).1, hk⟩))
theorem HpOk.mono {P : Program} {w w' : World} {F F' : Fr} {ob : List (Nat × Nat)} {h : D} {ex : List (Nat × Nat)} {φ : Nat → List Nat} (q : HpOk P w F ob h ex φ) (hf : Le w F w' F') (hγ : F'.γ = F.γ) (hk : ∀ n k, k ∈ φ n → w'.heap[k]? = w.heap[k]? ∧ k < w'.heap.size ∧ ¬ F' k) : HpOk P w' F' ob h ex φ :=
  ⟨by rw [hγ]; exact q.len, fun n b t hn => (q.obj n b t (by rw [← hγ]; exact hn)).mono hf fun k hm => (hk n k hm).1, q.dis, fun n k hm => (hk n k hm).2, fun n hn => q.out n (by rw [← hγ]; exact hn)⟩
theorem Hg.move {X : Cx} {ρ : List D} {st st' : St} {Ft Ft' : Fr} {β β' : Nat → Value} {w w' : World} (h : Hg X ρ st Ft β w) (hf : Le w Ft w' Ft') (hγ : Ft'.γ = Ft.γ) (ho : ∀ k, Oth st.bx Ft β w k → w'.heap[k]? = w.heap[k]? ∧ Oth st'.bx Ft' β' w' k) (h1 : st'.hp = st.hp) (h2 : st'.ex = st.ex) (h3 : st'.cf = st.cf) : Hg X ρ st' Ft' β' w' := by
  refine ⟨fun m e he => ?_, fun n b t hn => (ho b (h.gm n b t (by rw [← hγ]; exact hn))).2⟩
  obtain ⟨φ, q1, q2⟩ := h.hp m e (by rw [← h1]; exact he)
  have hk : ∀ n k, k ∈ φ n → Oth st.bx Ft β w k := fun n k hm => ⟨(q1.far n k hm).1, (q1.far n k hm).2, (q2 n k hm).2⟩
  refine ⟨φ, ?_, fun n k hm => ⟨(q2 n k hm).1, (ho k (hk n k hm)).2.2.2⟩⟩
  rw [h2, h3]
  exact q1.mono hf hγ fun n k hm => ⟨(ho k (hk n k hm)).1, (ho k (hk n k hm)).2.1, (ho k (hk n k hm)).2.2.1⟩
/-- The same world, fewer names. -/
theorem Hg.less {X : Cx} {ρ : List D} {st st' : St} {Ft : Fr} {β : Nat → Value} {w : World} (h : Hg X ρ st Ft β w) (hb : ∀ n x, st'.bx.lookup n = some x → ∃ y, st.bx.lookup n = some y ∧ (x.bk (β n) = y.bk (β n) ∨ x.bk (β n) = none)) (h1 : st'.hp = st.hp) (h2 : st'.ex = st.ex) (h3 : st'.cf = st.cf) : Hg X ρ st' Ft β w :=
  h.move (Le.same fun _ _ => rfl) rfl (fun k hk => ⟨rfl, hk.1, hk.2.1, fun j x hx => by
    obtain ⟨y, hy, hq⟩ := hb j x hx
    rcases hq with hq | hq
    · rw [hq]; exact hk.2.2 j y hy
    · rw [hq]; simp⟩) h1 h2 h3
/-- What the package's variables are is known yet. -/
theorem Sat.gl {X : Cx} {ρ : List D} {st : St} {Ft : Fr} {β : Nat → Value} {a : Act} {w : World} (hs : Sat X ρ st Ft β a w) : X.G.ok w Ft :=
  X.G.mono ⟨fun b hb => ⟨hs.fw.1 b hb, hs.chg.block b (hs.gx.f0 b hb).1 (hs.gx.f0 b hb).2⟩, hs.fw.2.1, hs.fw.2.2.1⟩ hs.gx.ok
theorem mem_lookup {α : Type} {n : Nat} {x : α} : ∀ {l : List (Nat × α)}, l.lookup n = some x → (n, x) ∈ l
  | [], h => by cases h
  | (m, y) :: l, h => by
    rw [List.lookup_cons] at h
    split at h
    · rename_i he
      simp at he h; subst he h
      exact List.mem_cons_self ..
    · exact List.mem_cons_of_mem _ (mem_lookup h)

section
variable {P : Program} {w w' : World} {F F' : Fr} {ρ : List D} {β β' : Nat → Value}

/-! What a cell of a kind is. -/
theorem Rd.int_inv {k : IntKind} {d : D} {v : Value} (h : Rd P w F (.int k) d v) : v = .int k d.toInt := by cases h; assumption
theorem Rd.bool_inv {d : D} {v : Value} (h : Rd P w F .bool d v) : v = .bool d.toBool := by cases h; assumption
theorem Rd.str_inv {d : D} {v : Value} (h : Rd P w F .str d v) : v = .string d.toStr := by cases h; assumption
theorem Rd.one {t : Ty} {d : D} {v : Value} (h : Rd P w F t d v) : v.oneCell' = true := by
  cases h <;> subst_vars <;> rfl
theorem RC.one {c : C} {v : Value} (h : RC P w F ρ β c v) (hb : ∀ n, c = .vec n → (β n).oneCell' = true) : v.oneCell' = true := by
  cases c with
  | dat t e => exact Rd.one h
  | ptr n off => obtain ⟨b, _, rfl⟩ := h; rfl
  | eptr t a i c => obtain ⟨b, o, len, cap, ts, _, _, _, _, rfl⟩ := h; rfl
  | pptr t a c => obtain ⟨b, o, _, rfl⟩ := h; rfl
  | vec n => have e : v = β n := h; rw [e]; exact hb n rfl
  | vptr n t i c => obtain ⟨b, o, len, cap, ts, _, _, _, _, rfl⟩ := h; rfl
  | win n t i j => obtain ⟨A, len, cap, ts, _, _, _, _, _, _, rfl⟩ := h; rfl
  | lit n len => obtain ⟨b, _, rfl⟩ := h; rfl
  | hptr t a c => obtain ⟨n, b, _, _, _, rfl⟩ := h; rfl
  | nils => have e : v = _ := h; rw [e]; rfl
  | nilp => have e : v = _ := h; rw [e]; rfl
  | nilf => have e : v = _ := h; rw [e]; rfl
  | fn f => have e : v = _ := h; rw [e]; rfl
  | junk => exact h
theorem cells_of_one {v : Value} (h : v.oneCell' = true) : v.cells = #[v] := by
  cases v <;> first | rfl | simp [Value.oneCell'] at h

theorem RC.mono {c : C} {v : Value} (hf : Le w F w' F') (h : RC P w F ρ β c v) : RC P w' F' ρ β c v := by
  cases c with
  | dat t e => exact Rd.mono hf h
  | ptr n off => exact h
  | eptr t a i c => obtain ⟨b, o, len, cap, ts, h1, h2⟩ := h; exact ⟨b, o, len, cap, ts, h1.mono hf, h2⟩
  | pptr t a c => obtain ⟨b, o, h1, h2⟩ := h; exact ⟨b, o, h1.mono hf, h2⟩
  | vptr n t i c => exact h
  | win n t i j => exact h
  | lit n len => exact h
  | hptr t a c => obtain ⟨n, b, h1, h2, h3, h4⟩ := h; exact ⟨n, b, by rw [hf.hc]; exact h1, h2, hf.get h3, h4⟩
  | _ => exact h
theorem RCL.mono {cs : List C} {vs : List Value} (hf : Le w F w' F') (h : RCL P w F ρ β cs vs) : RCL P w' F' ρ β cs vs :=
  ⟨h.1, fun i c v hc hv => (h.2 i c v hc hv).mono hf⟩
theorem R1.mono {c : V1} {v : Value} (hf : Le w F w' F') (h : R1 P w F ρ β c v) : R1 P w' F' ρ β c v := by
  cases c with
  | one c => exact RC.mono hf h
  | agg cs => obtain ⟨vs, e, h⟩ := h; exact ⟨vs, e, h.mono hf⟩
theorem RV.mono {c : SV} {v : Value} (hf : Le w F w' F') (h : RV P w F ρ β c v) : RV P w' F' ρ β c v := by
  cases c with
  | one c => exact RC.mono hf h
  | agg cs => obtain ⟨vs, e, h⟩ := h; exact ⟨vs, e, h.mono hf⟩
  | tup l => obtain ⟨vs, e, hl, h⟩ := h; exact ⟨vs, e, hl, fun i c u hc hu => (h i c u hc hu).mono hf⟩

/-! Lists of related cells. -/
theorem RCL.nil : RCL P w F ρ β [] [] := ⟨rfl, fun i c v h => by simp at h⟩
theorem RCL.cons {c : C} {cs : List C} {v : Value} {vs : List Value} (h : RC P w F ρ β c v) (hl : RCL P w F ρ β cs vs) : RCL P w F ρ β (c :: cs) (v :: vs) :=
  ⟨by simp [hl.1], fun i => by
    cases i with
    | zero => intro c' v' h1 h2; simp at h1 h2; subst h1 h2; exact h
    | succ i => intro c' v' h1 h2; simp at h1 h2; exact hl.2 i c' v' h1 h2⟩
theorem RCL.drop {cs : List C} {vs : List Value} (h : RCL P w F ρ β cs vs) (n : Nat) : RCL P w F ρ β (cs.drop n) (vs.drop n) :=
  ⟨by simp [h.1], fun i c v h1 h2 => by rw [List.getElem?_drop] at h1 h2; exact h.2 _ c v h1 h2⟩
theorem RCL.take {cs : List C} {vs : List Value} (h : RCL P w F ρ β cs vs) (n : Nat) : RCL P w F ρ β (cs.take n) (vs.take n) :=
  ⟨by simp [h.1], fun i c v h1 h2 => by
    rw [List.getElem?_take] at h1 h2
    split at h1
    · rename_i hi; rw [if_pos hi] at h2; exact h.2 _ c v h1 h2
    · cases h1⟩
theorem RCL.set {cs : List C} {vs : List Value} (h : RCL P w F ρ β cs vs) (n : Nat) {c : C} {v : Value} (hc : RC P w F ρ β c v) : RCL P w F ρ β (cs.set n c) (vs.set n v) :=
  ⟨by simp [h.1], fun i c' v' h1 h2 => by
    rw [List.getElem?_set] at h1 h2
    split at h1
    · rename_i hi
      split at h1
      · rename_i hl
        have : n < vs.length := by rw [← h.1]; exact hl
        rw [if_pos hi, if_pos this] at h2
        simp at h1 h2; subst h1 h2; exact hc
      · cases h1
    · rename_i hi; rw [if_neg hi] at h2; exact h.2 i c' v' h1 h2⟩

/-! Constants. -/
theorem cst_sound {v : Value} {c : C} (h : cst v = some c) : RC P w F ρ β c v := by
  unfold cst at h
  split at h <;> simp at h <;> subst h
  · exact Rd.int rfl
  · exact Rd.bool rfl
  · exact Rd.str rfl
  · exact Rd.inil rfl rfl
  · rfl
  · rfl
  · rfl
theorem cstL_sound : ∀ {vs : List Value} {cs : List C}, cstL vs = some cs → RCL P w F ρ β cs vs
  | [], cs, h => by simp [cstL] at h; subst h; exact RCL.nil
  | v :: vs, cs, h => by
    simp only [cstL] at h
    split at h
    · rename_i c cs' h1 h2
      simp at h; subst h
      exact RCL.cons (cst_sound h1) (cstL_sound h2)
    · cases h
theorem cstV_sound {v : Value} {c : SV} (h : cstV v = some c) : RV P w F ρ β c v := by
  unfold cstV at h
  split at h
  · rename_i cs
    cases h1 : cstL cs.toList with
    | none => simp [h1] at h
    | some l => simp [h1] at h; subst h; exact ⟨cs.toList, by simp, cstL_sound h1⟩
  · cases h1 : cst v with
    | none => simp [h1] at h
    | some l => simp [h1] at h; subst h; exact cst_sound h1
theorem tyC_sound {t : Ty} {c : C} {v : Value} (h : RC P w F ρ β c v) : RC P w F ρ β (tyC t c) v := by
  unfold tyC
  split
  · have e : v = _ := h; exact Rd.pnil rfl e
  · exact h
theorem tyCs_sound : ∀ {ts : List Ty} {cs : List C} {vs : List Value}, RCL P w F ρ β cs vs → RCL P w F ρ β (tyCs ts cs) vs
  | [], cs, vs, h => by cases cs <;> exact h
  | t :: ts, [], vs, h => h
  | t :: ts, c :: cs, [], h => by have := h.1; simp at this
  | t :: ts, c :: cs, v :: vs, h => RCL.cons (tyC_sound (h.2 0 c v rfl rfl)) (tyCs_sound ⟨by have := h.1; simpa using this, fun i c' v' h1 h2 => h.2 (i + 1) c' v' h1 h2⟩)
theorem zeroCs_sound {t : TypeId} {cs : List C} (h : zeroCs P t = some cs) : ∃ z, (P.info? t).bind (·.zero) = some z ∧ RCL P w F ρ β cs z.cells.toList := by
  unfold zeroCs at h
  split at h
  · rename_i z hz
    refine ⟨z, hz, ?_⟩
    split at h
    · rename_i cs' h1
      simp at h; subst h
      split
      · exact tyCs_sound (cstL_sound h1)
      · exact cstL_sound h1
    · cases h
  · cases h

/-! The small forms mean what the plain forms mean. -/
theorem den_mkAr (op : BinOp) (k : IntKind) (a b : E) : den ρ (mkAr op k a b) = .int (arF op k (den ρ a).toInt (den ρ b).toInt) := by unfold mkAr; split <;> rfl
theorem den_mkCmp (op : BinOp) (a b : E) : den ρ (mkCmp op a b) = .bool (cmpF op (den ρ a).toInt (den ρ b).toInt) := by unfold mkCmp; split <;> rfl
theorem den_mkNot (a : E) : (den ρ (mkNot a)).toBool = !(den ρ a).toBool := by
  unfold mkNot; split
  · rfl
  · simp only [den, D.toBool_bool, Bool.not_not]; split <;> simp_all
  · rfl
theorem den_mkAnd (a b : E) : (den ρ (mkAnd a b)).toBool = ((den ρ a).toBool && (den ρ b).toBool) := by
  unfold mkAnd; split <;> simp [den]
theorem den_mkBeq (a b : E) : den ρ (mkBeq a b) = .bool ((den ρ a).toBool == (den ρ b).toBool) := by unfold mkBeq; split <;> rfl
theorem den_mkIte (c a b : E) : den ρ (mkIte c a b) = if (den ρ c).toBool = true then den ρ a else den ρ b := by
  unfold mkIte; split
  · simp [den]
  · simp [den]
  · rfl
theorem den_mkIteB (c a b : E) : (den ρ (mkIteB c a b)).toBool = (if (den ρ c).toBool = true then (den ρ a).toBool else (den ρ b).toBool) := by
  unfold mkIteB; split
  · simp only [den, D.toBool_bool]; cases (den ρ c).toBool <;> simp
  · simp only [den, D.toBool_bool]; cases (den ρ c).toBool <;> simp
  · rw [den_mkIte]; split <;> rfl
theorem rd_mkIteT {P : Program} {w : World} {F : Fr} {t : Ty} {c a b : E} {u v : Value} (h1 : (den ρ c).toBool = true → Rd P w F t (den ρ a) u) (h2 : (den ρ c).toBool = false → Rd P w F t (den ρ b) v) : Rd P w F t (den ρ (mkIteT t c a b)) (if (den ρ c).toBool = true then u else v) := by
  have hgen : Rd P w F t (den ρ (mkIte c a b)) (if (den ρ c).toBool = true then u else v) := by
    rw [den_mkIte]
    split
    · rename_i h; exact h1 h
    · rename_i h; exact h2 (by simpa using h)
  cases t <;> try exact hgen
  refine Rd.bool ?_
  show _ = Value.bool (den ρ (mkIteB c a b)).toBool
  rw [den_mkIteB]
  split
  · rename_i h; exact (h1 h).bool_inv
  · rename_i h; exact (h2 (by simpa using h)).bool_inv
theorem den_mkIsnil (a : E) : den ρ (mkIsnil a) = .bool (den ρ a).isNil := by unfold mkIsnil; split <;> rfl
theorem den_mkIsif (f : Nat) (a : E) : den ρ (mkIsif f a) = .bool ((den ρ a).isIf f) := by unfold mkIsif; split <;> rfl
theorem den_mkIfv (a : E) : den ρ (mkIfv a) = (den ρ a).inner := by unfold mkIfv; split <;> rfl
theorem den_mkConv (k : IntKind) (a : E) : den ρ (mkConv k a) = .int (k.wrap (den ρ a).toInt) := by unfold mkConv; split <;> rfl
theorem den_mkCell (a : E) (c : Nat) : den ρ (mkCell a c) = (den ρ a).toL.getD c .nil := by
  unfold mkCell
  split
  · simp [den]
  · split <;> simp [den]
  · rfl
theorem den_cellH : ∀ (a : E) (c : Nat), den ρ (cellH a c) = (den ρ a).toL.getD c .nil := by
  intro a
  induction a with
  | lcons x y _ ih => intro c; cases c <;> simp [cellH, den, ih]
  | setc n a k v iha _ =>
    intro c
    simp only [cellH]
    split
    · rename_i h
      obtain ⟨h1, h2⟩ := h
      split
      · rename_i he
        subst he
        simp [den, h1]
      · rename_i he
        rw [iha]
        simp only [den, D.toL_agg, List.getD_eq_getElem?_getD]
        rw [List.getElem?_set_ne (by omega), List.getElem?_map, List.getElem?_range h1]
        rfl
    · rfl
  | _ => intro c; simp [cellH, den]
theorem den_setL : ∀ {a : E} {c : Nat} {v r : E}, setL a c v = some r → den ρ r = .agg ((den ρ a).toL.set c (den ρ v)) := by
  intro a
  induction a with
  | lcons x y _ ih =>
    intro c v r h
    cases c with
    | zero => simp [setL] at h; subst h; rfl
    | succ c =>
      simp only [setL] at h
      cases hq : setL y c v with
      | none => simp [hq] at h
      | some q =>
        simp [hq] at h; subst h
        have := ih hq
        simp [den, this]
  | _ => intro c v r h; cases c <;> simp [setL] at h
theorem den_setH (n : Nat) (a : E) (c : Nat) (v : E) (hn : (den ρ a).toL.length = n) : den ρ (setH n a c v) = .agg ((den ρ a).toL.set c (den ρ v)) := by
  have hset : ∀ b : E, (den ρ b).toL.length = n → den ρ (.setc n b c v) = .agg ((den ρ b).toL.set c (den ρ v)) := by
    intro b hb
    simp only [den]
    congr 2
    apply List.ext_getElem?
    intro j
    rw [List.getElem?_map]
    rcases Nat.lt_or_ge j n with hj | hj
    · rw [List.getElem?_range hj]
      simp only [Option.map_some, List.getD_eq_getElem?_getD]
      rw [List.getElem?_eq_getElem (by omega)]; rfl
    · rw [List.getElem?_eq_none (by simpa using hj), List.getElem?_eq_none (by omega)]; rfl
  unfold setH
  split
  · rename_i r hr
    exact den_setL hr
  · split
    · rename_i m b k u _
      split
      · rename_i hc
        obtain ⟨rfl, rfl⟩ := hc
        simp only [den, D.toL_agg, List.set_set]
      · exact hset _ hn
    · exact hset _ hn
theorem den_getL : ∀ {h : E} {n : Nat} {x : E}, getL h n = some x → (den ρ h).toL[n]? = some (den ρ x) := by
  intro h
  induction h with
  | lcons a b _ ih =>
    intro n x hx
    cases n with
    | zero => simp [getL] at hx; subst hx; simp [den]
    | succ n => simp only [getL] at hx; simpa [den] using ih hx
  | _ => intro n x hx; cases n <;> simp [getL] at hx
theorem litI_spec {a : E} {n : Nat} (h : litI a = some n) : a = .int (n : Nat) := by
  unfold litI at h; split at h
  · simp at h; subst h; rfl
  · cases h
theorem den_getLit (h a : E) : den ρ (getLit h a) = (den ρ h).toL.getD (den ρ a).toInt.toNat .nil := by
  unfold getLit
  split
  · rename_i n hn
    have := litI_spec hn
    subst this
    cases hg : getL h n with
    | none => simp [den]
    | some x => have := den_getL (ρ := ρ) hg; simp [den, this]
  · simp [den]
theorem preE_len {g : E} : ∀ {h : E}, preE g h = true → (den ρ g).toL.length < (den ρ h).toL.length := by
  intro h
  induction h with
  | app p q ihp _ =>
    intro hh
    unfold preE at hh
    split at hh
    · rename_i p' x he
      injection he with e1 e2
      subst e1 e2
      simp only [Bool.or_eq_true, decide_eq_true_eq] at hh
      simp only [den, D.toL_agg, List.length_append, List.length_cons, List.length_nil]
      rcases hh with rfl | hh
      · omega
      · have := ihp hh; omega
    · cases hh
  | _ => intro hh; simp [preE] at hh
theorem den_mkGet : ∀ (h a : E), (den ρ a).toInt.toNat < (den ρ h).toL.length → den ρ (mkGet h a) = (den ρ h).toL.getD (den ρ a).toInt.toNat .nil := by
  intro h
  induction h with
  | set h b x ihh _ _ =>
    intro a hl
    simp only [mkGet]
    have hl' : (den ρ a).toInt.toNat < (den ρ h).toL.length := by simpa [den] using hl
    split
    · rename_i e
      subst e
      simp [den, hl']
    · split
      · rename_i m n hm hn
        split
        · simp [den]
        · rename_i hne
          rw [ihh a hl']
          have h1 := litI_spec hm
          have h2 := litI_spec hn
          subst h1 h2
          simp only [den, D.toL_agg, List.getD_eq_getElem?_getD, D.toInt_int, Int.toNat_natCast]
          rw [List.getElem?_set_ne (fun e => hne e.symm)]
      · simp [den]
  | app h q ihh _ =>
    intro a hl
    have hgen : ∀ a, den ρ (getLit (.app h q) a) = (den ρ (.app h q)).toL.getD (den ρ a).toInt.toNat .nil := fun a => den_getLit _ _
    cases q with
    | lcons x y =>
      cases y with
      | lnil =>
        simp only [mkGet]
        split
        · rename_i e
          subst e
          simp [den]
        · split
          · rename_i g _
            split
            · rename_i hp
              have hlt := preE_len (ρ := ρ) hp
              rw [ihh (.len g) (by simpa [den] using hlt)]
              simp only [den, D.toL_agg, D.toInt_int, Int.toNat_natCast, List.getD_eq_getElem?_getD]
              rw [List.getElem?_append_left hlt]
            · simp [den]
          · simp [den]
      | _ => exact hgen a
    | _ => exact hgen a
  | _ => intro a hl; simp only [mkGet]; exact den_getLit _ _
theorem den_mkSet (h a x : E) : den ρ (mkSet h a x) = .agg ((den ρ h).toL.set (den ρ a).toInt.toNat (den ρ x)) := by
  unfold mkSet
  split
  · rename_i g b y
    split
    · rename_i e; subst e; simp [den]
    · rfl
  · rename_i g y
    split
    · rename_i e; subst e
      simp [den]
    · rfl
  · split
    · rename_i n hn
      have := litI_spec hn
      subst this
      cases hg : setL h n x with
      | none => simp [den]
      | some r => simpa [den] using den_setL (ρ := ρ) hg
    · rfl
theorem den_snocL : ∀ {h x r : E}, snocL h x = some r → den ρ r = .agg ((den ρ h).toL ++ [den ρ x]) := by
  intro h
  induction h with
  | lnil => intro x r hr; simp [snocL] at hr; subst hr; rfl
  | lcons a b _ ih =>
    intro x r hr
    simp only [snocL] at hr
    cases hq : snocL b x with
    | none => simp [hq] at hr
    | some q => simp [hq] at hr; subst hr; simp [den, ih hq]
  | _ => intro x r hr; simp [snocL] at hr
theorem den_mkSnoc (h x : E) : den ρ (mkSnoc h x) = .agg ((den ρ h).toL ++ [den ρ x]) := by
  unfold mkSnoc
  cases hq : snocL h x with
  | none => simp [den]
  | some r => simpa using den_snocL (ρ := ρ) hq
theorem den_litLen : ∀ {h : E} {n : Nat}, litLen h = some n → (den ρ h).toL.length = n := by
  intro h
  induction h with
  | lnil => intro n hn; simp [litLen] at hn; subst hn; rfl
  | lcons a b _ ih =>
    intro n hn
    simp only [litLen] at hn
    cases hq : litLen b with
    | none => simp [hq] at hn
    | some q => simp [hq] at hn; subst hn; simp [den, ih hq]
  | _ => intro n hn; simp [litLen] at hn
theorem den_mkLen (h : E) : den ρ (mkLen h) = .int ((den ρ h).toL.length : Nat) := by
  unfold mkLen
  split
  · rename_i n hn; rw [den_litLen hn]; rfl
  · rfl
theorem den_elCell (n : Nat) (el : E) (c : Nat) : den ρ (elCell n el c) = cellOf n (den ρ el) c := by
  unfold elCell cellOf; split <;> rfl
end
end Go.Proofs.YtobacchojjfpfaaGreatDoor.Eng
