/-
  A reader of Go functions, part I: calls, stores, guards, regions that keep the order of the text.
-/
import Derived.Test.YtobacchojjfpfaaGreatDoorEngH
namespace Go.Proofs.YtobacchojjfpfaaGreatDoor.Eng
open Go.RowKit
set_option linter.unusedVariables false
set_option linter.unusedSimpArgs false

section
variable (P : Program) (w : World) (F : Fr)
/-- A slice that is given away. -/
def RowRd (e : TypeId) (d : D) (v : Value) : Prop := ∃ ts, ∃ xs : List Value, cellTys P e = some ts ∧ OwnR w e ts.length v d.toL.length xs ∧
  ∀ i c y t, d.toL[i]? = some y → ts[c]? = some t → ∃ u, xs[i * ts.length + c]? = some u ∧ Rd P w F t (cellOf ts.length y c) u
/-- Arguments, laid flat, read as data. -/
def Args : List Sh → List D → List Value → Prop
  | [], ds, vs => ds = [] ∧ vs = []
  | .one t :: ps, ds, vs => ∃ d ds' v vs', ds = d :: ds' ∧ vs = v :: vs' ∧ Rd P w F t d v ∧ Args ps ds' vs'
  | .agg ts :: ps, ds, vs => ∃ d1 ds' us vs', ds = d1 ++ ds' ∧ vs = Value.agg (List.toArray us) :: vs' ∧ d1.length = ts.length ∧ us.length = ts.length ∧
      (∀ (i : Nat) (t : Ty) (d : D) (u : Value), ts[i]? = some t → d1[i]? = some d → us[i]? = some u → Rd P w F t d u) ∧ Args ps ds' vs'
  | .row e :: ps, ds, vs => ∃ d ds' v vs', ds = d :: ds' ∧ vs = v :: vs' ∧ RowRd P w F e d v ∧ Args ps ds' vs'
/-- The blocks of what is given away. -/
def rowsB : List Sh → List Value → List Nat
  | .row _ :: ps, v :: vs => (bk v).toList ++ rowsB ps vs
  | _ :: ps, _ :: vs => rowsB ps vs
  | _, _ => []
def Value.parts (rs : List Sh) (v : Value) : List Value := match rs with | [_] => [v] | _ => match v with | .tuple vs => vs.toList | _ => []
def Res (rs : List Sh) (r : List D) (v : Value) : Prop :=
  match rs with
  | [s] => Args P w F [s] r [v]
  | rs => ∃ vs : List Value, v = .tuple vs.toArray ∧ Args P w F rs r vs
end
/-- What a call may turn: the things of the heap. -/
def footL (F : Fr) (φ : Nat → List Nat) : List Nat := (List.range F.γ.length).flatMap φ
/-- What a call may turn: the things of the heap, where it writes it, and the rows that it was given. -/
def may (F : Fr) (φ : Nat → List Nat) (hm : Nat) (R : List Nat) : List Nat := (if hm = 2 then footL F φ else []) ++ R
theorem mem_may {F : Fr} {φ : Nat → List Nat} {hm : Nat} {R : List Nat} {k : Nat} : k ∈ may F φ hm R ↔ (hm = 2 ∧ k ∈ footL F φ) ∨ k ∈ R := by
  unfold may
  by_cases h : hm = 2 <;> simp [h]
theorem may_nil {F : Fr} {φ : Nat → List Nat} {hm : Nat} (h : hm ≠ 2) : may F φ hm [] = [] := by simp [may, h]
/-- What a call finds: the heap, where it looks at it; rows that it is given. -/
structure HeapIn (G : Gl) (P : Program) (w : World) (F : Fr) (hm : Nat) (hd : List D) (φ : Nat → List Nat) (R : List Nat) : Prop where
  ok : G.ok w F
  hc : F.hc = G.cf.hc
  f : ∀ b, F b → b < w.heap.size
  g : ∀ (n b : Nat) (t : TypeId), F.γ[n]? = some (b, t) → b < w.heap.size ∧ ¬ F b
  h0 : hm = 0 → hd = []
  h12 : hm = 1 ∨ hm = 2 → ∃ h, hd = [h] ∧ HpOk P w F G.cf.ob h [] φ
  h3 : 3 ≤ hm → hd = [] ∧ F.γ = []
  r : ∀ b, b ∈ R → b < w.heap.size ∧ ¬ F b ∧ (∀ n, b ∉ φ n) ∧ ∀ (n b' : Nat) (t : TypeId), F.γ[n]? = some (b', t) → b' ≠ b
/-- What it leaves. -/
structure HeapOut (G : Gl) (P : Program) (w : World) (F : Fr) (hm : Nat) (φ : Nat → List Nat) (R : List Nat) (rs : List Sh) (r : List D) (v : Value) (w' : World) (F' : Fr) (φ' : Nat → List Nat) : Prop where
  chg : Chg (may F φ hm R) w w'
  le : Le w F w' F'
  γ : hm < 2 → F'.γ = F.γ
  new : ∀ b, F' b → b < w'.heap.size ∧ (F b ∨ w.heap.size ≤ b ∨ b ∈ may F φ hm R)
  own : ∀ b, b ∈ rowsB rs (Value.parts rs v) → b < w'.heap.size ∧ ¬ F' b ∧ (w.heap.size ≤ b ∨ b ∈ may F φ hm R) ∧ ∀ n, hm = 2 → b ∉ φ' n
  nd : (rowsB rs (Value.parts rs v)).Nodup
  res : ∃ r0 hd, r = r0 ++ hd ∧ Res P w' F' rs r0 v ∧ (if hm = 2 then ∃ h, hd = [h] ∧ HpOk P w' F' G.cf.ob h [] φ' ∧ ∀ n k, k ∈ φ' n → w.heap.size ≤ k ∨ k ∈ may F φ hm R else hd = [])
/-- Called with what reads as ds, the function returns what reads as r, and nothing that was there has turned but for the heap. -/
def Ok1 (G : Gl) (P : Program) (f : Nat) (ps rs : List Sh) (hm : Nat) (ds r : List D) : Prop :=
  ∀ (w : World) (F : Fr) (vs : List Value) (φ : Nat → List Nat) (d0 hd : List D), ds = d0 ++ hd → HeapIn G P w F hm hd φ (rowsB ps vs) → Args P w F ps d0 vs →
    Calls P f vs.toArray w fun e w' => ∃ v F' φ', e = .returned v ∧ HeapOut G P w F hm φ (rowsB ps vs) rs r v w' F' φ'
def FsOk (G : Gl) (P : Program) (Fs : Nat → Fn) : Prop := ∀ f ps rs hm ds r, sigOf P G.cf f = some (ps, rs, hm) → Fs f ds = some r → Ok1 G P f ps rs hm ds r

section
variable {P : Program} {w : World} {F : Fr} {ρ : List D} {β : Nat → Value}
theorem RowRd.mono {w' : World} {F' : Fr} {e : TypeId} {d : D} {v : Value} (h : Le w F w' F') (hk : ∀ b, bk v = some b → w'.heap[b]? = w.heap[b]?) (hr : RowRd P w F e d v) : RowRd P w' F' e d v := by
  obtain ⟨ts, xs, h1, h2, h3⟩ := hr
  exact ⟨ts, xs, h1, h2.mono hk, fun i c y t a b => by obtain ⟨u, q1, q2⟩ := h3 i c y t a b; exact ⟨u, q1, q2.mono h⟩⟩
theorem Args.mono {w' : World} {F' : Fr} (h : Le w F w' F') : ∀ {ps : List Sh} {ds : List D} {vs : List Value}, (∀ b ∈ rowsB ps vs, w'.heap[b]? = w.heap[b]?) → Args P w F ps ds vs → Args P w' F' ps ds vs
  | [], ds, vs, hb, ha => ha
  | .one t :: ps, ds, vs, hb, ⟨d, ds', v, vs', e1, e2, h1, h2⟩ => ⟨d, ds', v, vs', e1, e2, h1.mono h, Args.mono h (by subst e2; exact hb) h2⟩
  | .agg ts :: ps, ds, vs, hb, ⟨d1, ds', us, vs', e1, e2, e3, e4, h1, h2⟩ => ⟨d1, ds', us, vs', e1, e2, e3, e4, fun i t d u q1 q2 q3 => (h1 i t d u q1 q2 q3).mono h, Args.mono h (by subst e2; exact hb) h2⟩
  | .row e :: ps, ds, vs, hb, ⟨d, ds', v, vs', e1, e2, h1, h2⟩ => ⟨d, ds', v, vs', e1, e2, h1.mono h (fun b hv => hb b (by subst e2; exact List.mem_append_left _ (by rw [hv]; exact List.mem_singleton.2 rfl))), Args.mono h (fun b hm => hb b (by subst e2; exact List.mem_append_right _ hm)) h2⟩
theorem matL_sound : ∀ {ts : List Ty} {cs : List C} {es : List E} {vs : List Value}, matL ts cs = some es → RCL P w F ρ β cs vs →
    es.length = ts.length ∧ vs.length = ts.length ∧ ∀ (i : Nat) (t : Ty) (e : E) (v : Value), ts[i]? = some t → es[i]? = some e → vs[i]? = some v → Rd P w F t (den ρ e) v
  | [], [], es, vs, h, hr => by
    simp [matL] at h; subst h
    have : vs = [] := List.eq_nil_of_length_eq_zero hr.1.symm
    subst this
    exact ⟨rfl, rfl, fun i t e v q => by simp at q⟩
  | [], c :: cs, es, vs, h, hr => by simp [matL] at h
  | t :: ts, [], es, vs, h, hr => by simp [matL] at h
  | t :: ts, c :: cs, es, [], h, hr => by have := hr.1; simp at this
  | t :: ts, c :: cs, es, v :: vs, h, hr => by
    simp only [matL] at h
    split at h
    · rename_i e es' h1 h2
      simp at h; subst h
      have q := mat_sound h1 (hr.2 0 c v rfl rfl)
      obtain ⟨l1, l2, q2⟩ := matL_sound h2 (⟨by have := hr.1; simpa using this, fun i c v h1 h2 => hr.2 (i + 1) c v h1 h2⟩ : RCL P w F ρ β cs vs)
      refine ⟨by simp [l1], by simp [l2], fun i => ?_⟩
      cases i with
      | zero => intro t' e' v' a1 a2 a3; simp at a1 a2 a3; subst a1 a2 a3; exact q
      | succ i => intro t' e' v' a1 a2 a3; simp at a1 a2 a3; exact q2 i t' e' v' a1 a2 a3
    · cases h
theorem matShs_sound : ∀ {ps : List Sh} {svs : List SV} {es : List E} {vs : List Value}, matShs ps svs = some es → svs.length = vs.length → (∀ (i : Nat) (s : SV) (v : Value), svs[i]? = some s → vs[i]? = some v → RV P w F ρ β s v) →
    Args P w F ps (es.map (den ρ)) vs
  | [], [], es, vs, h, hl, hr => by
    simp [matShs] at h; subst h
    exact ⟨rfl, List.eq_nil_of_length_eq_zero hl.symm⟩
  | [], s :: ss, es, vs, h, hl, hr => by simp [matShs] at h
  | p :: ps, [], es, vs, h, hl, hr => by simp [matShs] at h
  | p :: ps, s :: ss, es, [], h, hl, hr => by simp at hl
  | p :: ps, s :: ss, es, v :: vs, h, hl, hr => by
    simp only [matShs] at h
    split at h
    · rename_i e1 e2 h1 h2
      simp at h; subst h
      have q := hr 0 s v rfl rfl
      have rest := matShs_sound h2 (vs := vs) (by simpa using hl) (fun i s v a b => hr (i + 1) s v a b)
      cases p with
      | one t =>
        cases s <;> simp only [matSh] at h1 <;> try (cases h1; done)
        rename_i c
        cases hm : mat t c with
        | none => simp [hm] at h1
        | some e =>
          simp [hm] at h1; subst h1
          exact ⟨_, _, _, _, rfl, rfl, mat_sound hm q, rest⟩
      | agg ts =>
        cases s <;> simp only [matSh] at h1 <;> try (cases h1; done)
        rename_i cs
        obtain ⟨us, rfl, hu⟩ := q
        obtain ⟨l1, l2, q2⟩ := matL_sound h1 hu
        refine ⟨e1.map (den ρ), _, us, vs, by simp, rfl, by simpa using l1, l2, fun i t d u a1 a2 a3 => ?_, rest⟩
        rw [List.getElem?_map] at a2
        cases he : e1[i]? with
        | none => simp [he] at a2
        | some e => simp [he] at a2; subst a2; exact q2 i t e u a1 he a3
      | row e => simp [matSh] at h1
    · cases h
theorem varCs_get : ∀ (ts : List Ty) (n i : Nat) (c : C), (varCs ts n)[i]? = some c → ∃ t, ts[i]? = some t ∧ c = .dat t (.var (n + i))
  | [], n, i, c, h => by simp [varCs] at h
  | t :: ts, n, 0, c, h => by simp [varCs] at h; exact ⟨t, rfl, h.symm⟩
  | t :: ts, n, i + 1, c, h => by
    simp only [varCs, List.getElem?_cons_succ] at h
    obtain ⟨t', h1, h2⟩ := varCs_get ts (n + 1) i c h
    exact ⟨t', by simpa using h1, by rw [h2]; congr 2; omega⟩
theorem varCs_length : ∀ (ts : List Ty) (n : Nat), (varCs ts n).length = ts.length
  | [], n => rfl
  | t :: ts, n => by simp [varCs, varCs_length ts]
theorem mkShs_sound {nn : Nat} : ∀ {rs : List Sh} {r : List D} {vs : List Value} {n : Nat}, Args P w F rs r vs → (∀ (i : Nat) (d : D), r[i]? = some d → ρ.getD (n + i) .nil = d) → (∀ (i : Nat) (e : TypeId) (u : Value), rs[i]? = some (.row e) → vs[i]? = some u → u = β nn) →
    r.length = shSize rs ∧ (mkShs rs n nn).length = vs.length ∧ ∀ (i : Nat) (c : V1) (v : Value), (mkShs rs n nn)[i]? = some c → vs[i]? = some v → R1 P w F ρ β c v
  | [], r, vs, n, ⟨e1, e2⟩, hρ, hb => by subst e1 e2; exact ⟨rfl, rfl, fun i c v h => by simp [mkShs] at h⟩
  | .one t :: rs, r, vs, n, ⟨d, ds', v, vs', e1, e2, h1, h2⟩, hρ, hb => by
    subst e1 e2
    obtain ⟨l1, l2, q⟩ := mkShs_sound (n := n + 1) h2 (fun i d h => by have := hρ (i + 1) d (by simpa using h); rw [← this]; congr 1; omega) (fun i e u a b => hb (i + 1) e u (by simpa using a) (by simpa using b))
    refine ⟨by simp [shSize, Sh.size] at l1 ⊢; omega, by simp [mkShs, Sh.size, l2], fun i => ?_⟩
    cases i with
    | zero =>
      intro c v' a1 a2
      simp [mkShs, Sh.mk] at a1 a2
      subst a1 a2
      show Rd P w F t (ρ.getD n .nil) v
      have := hρ 0 d rfl
      rw [Nat.add_zero] at this
      rw [this]
      exact h1
    | succ i => intro c v' a1 a2; exact q i c v' (by simpa [mkShs, Sh.size] using a1) (by simpa using a2)
  | .row e :: rs, r, vs, n, ⟨d, ds', v, vs', e1, e2, h1, h2⟩, hρ, hb => by
    subst e1 e2
    obtain ⟨l1, l2, q⟩ := mkShs_sound (n := n + 1) h2 (fun i d h => by have := hρ (i + 1) d (by simpa using h); rw [← this]; congr 1; omega) (fun i e u a b => hb (i + 1) e u (by simpa using a) (by simpa using b))
    refine ⟨by simp [shSize, Sh.size] at l1 ⊢; omega, by simp [mkShs, Sh.size, l2], fun i => ?_⟩
    cases i with
    | zero =>
      intro c v' a1 a2
      simp [mkShs, Sh.mk] at a1 a2
      subst a1 a2
      exact hb 0 e v rfl rfl
    | succ i => intro c v' a1 a2; exact q i c v' (by simpa [mkShs, Sh.size] using a1) (by simpa using a2)
  | .agg ts :: rs, r, vs, n, ⟨d1, ds', us, vs', e1, e2, e3, e4, h1, h2⟩, hρ, hb => by
    subst e1 e2
    obtain ⟨l1, l2, q⟩ := mkShs_sound (n := n + ts.length) h2 (fun i d h => by
      have := hρ (ts.length + i) d (by rw [List.getElem?_append_right (by omega)]; rw [← h]; congr 1; omega)
      rw [← this]; congr 1; omega) (fun i e u a b => hb (i + 1) e u (by simpa using a) (by simpa using b))
    refine ⟨by simp [shSize, Sh.size] at l1 ⊢; omega, by simp [mkShs, Sh.size, l2], fun i => ?_⟩
    cases i with
    | zero =>
      intro c v' a1 a2
      simp [mkShs, Sh.mk] at a1 a2
      subst a1 a2
      refine ⟨us, rfl, by rw [varCs_length, e4], fun j c u b1 b2 => ?_⟩
      obtain ⟨t, ht, rfl⟩ := varCs_get ts n j c b1
      have hj : j < d1.length := by rw [e3]; exact (List.getElem?_eq_some_iff.1 ht).1
      have hd : d1[j]? = some d1[j] := List.getElem?_eq_getElem hj
      show Rd P w F t (ρ.getD (n + j) .nil) u
      rw [hρ j d1[j] (by rw [List.getElem?_append_left hj]; exact hd)]
      exact h1 j t _ u ht hd b2
    | succ i => intro c v' a1 a2; exact q i c v' (by simpa [mkShs, Sh.size] using a1) (by simpa using a2)
theorem RowRd.one {e : TypeId} {d : D} {v : Value} (h : RowRd P w F e d v) : v.oneCell' = true := by
  obtain ⟨ts, xs, h1, ⟨_, ⟨⟨A, h⟩, _⟩ | ⟨g, cap, cur, h, _⟩⟩, h3⟩ := h <;> rw [h] <;> rfl
/-- The row among results, if there is one at the most. -/
theorem rowBx_sound : ∀ {rs : List Sh} {r : List D} {vs : List Value} {n : Nat}, Args P w F rs r vs → (∀ (i : Nat) (d : D), r[i]? = some d → ρ.getD (n + i) .nil = d) → (rowBx rs n).length ≤ 1 →
    (rowBx rs n = [] ∧ rowsB rs vs = [] ∧ ∀ (i : Nat) (e : TypeId), rs[i]? ≠ some (.row e)) ∨ ∃ e k v, rowBx rs n = [.vec e (.var k)] ∧ k < n + shSize rs ∧ BoxOk P w F ρ β (.vec e (.var k)) v ∧ rowsB rs vs = (bk v).toList ∧ v.oneCell' = true ∧ ∀ (i : Nat) (e' : TypeId) (u : Value), rs[i]? = some (.row e') → vs[i]? = some u → u = v
  | [], r, vs, n, ⟨e1, e2⟩, hρ, hl => .inl ⟨rfl, rfl, fun i e h => by simp at h⟩
  | .one t :: rs, r, vs, n, ⟨d, ds', v, vs', e1, e2, h1, h2⟩, hρ, hl => by
    subst e1 e2
    rcases rowBx_sound (n := n + 1) h2 (fun i d h => by have := hρ (i + 1) d (by simpa using h); rw [← this]; congr 1; omega) hl with ⟨q1, q2, q3⟩ | ⟨e, k, u, q1, q2, q3, q4, q5, q6⟩
    · exact .inl ⟨q1, q2, fun i e h => by cases i with | zero => simp at h | succ i => exact q3 i e (by simpa using h)⟩
    · exact .inr ⟨e, k, u, q1, by simp [shSize, Sh.size] at q2 ⊢; omega, q3, q4, q5, fun i e' z a b => by cases i with | zero => simp at a | succ i => exact q6 i e' z (by simpa using a) (by simpa using b)⟩
  | .agg ts :: rs, r, vs, n, ⟨d1, ds', us, vs', e1, e2, e3, e4, h1, h2⟩, hρ, hl => by
    subst e1 e2
    rcases rowBx_sound (n := n + ts.length) h2 (fun i d h => by
      have := hρ (ts.length + i) d (by rw [List.getElem?_append_right (by omega)]; rw [← h]; congr 1; omega)
      rw [← this]; congr 1; omega) hl with ⟨q1, q2, q3⟩ | ⟨e, k, u, q1, q2, q3, q4, q5, q6⟩
    · exact .inl ⟨q1, q2, fun i e h => by cases i with | zero => simp at h | succ i => exact q3 i e (by simpa using h)⟩
    · exact .inr ⟨e, k, u, q1, by simp [shSize, Sh.size] at q2 ⊢; omega, q3, q4, q5, fun i e' z a b => by cases i with | zero => simp at a | succ i => exact q6 i e' z (by simpa using a) (by simpa using b)⟩
  | .row e :: rs, r, vs, n, ⟨d, ds', v, vs', e1, e2, h1, h2⟩, hρ, hl => by
    subst e1 e2
    simp only [rowBx, List.length_cons] at hl
    have hd : ρ.getD n .nil = d := by have := hρ 0 d rfl; rwa [Nat.add_zero] at this
    rcases rowBx_sound (n := n + 1) h2 (fun i d h => by have := hρ (i + 1) d (by simpa using h); rw [← this]; congr 1; omega) (by omega) with ⟨q1, q2, q3⟩ | ⟨e', k, u, q1, _⟩
    · refine .inr ⟨e, n, v, by simp [rowBx, q1], by simp [shSize, Sh.size]; omega, ?_, by simp [rowsB, q2], h1.one, fun i e' z a b => ?_⟩
      · show RowRd P w F e (ρ.getD n .nil) v
        rw [hd]; exact h1
      · cases i with
        | zero => simp at b; exact b.symm
        | succ i => exact absurd (by simpa using a) (q3 i e')
    · rw [q1] at hl; simp at hl
theorem res_sound {rs : List Sh} {r : List D} {v : Value} {nn : Nat} {hd : List D} (h : Res P w F rs r v) (hb : ∀ (i : Nat) (e : TypeId) (u : Value), rs[i]? = some (.row e) → (Value.parts rs v)[i]? = some u → u = β nn) : RV P w F (ρ ++ (r ++ hd)) β (resSV rs ρ.length nn) v ∧ r.length = shSize rs := by
  have hρ : ∀ (i : Nat) (d : D), r[i]? = some d → (ρ ++ (r ++ hd)).getD (ρ.length + i) .nil = d := fun i d hd => by
    rw [List.getD_eq_getElem?_getD, List.getElem?_append_right (by omega), Nat.add_sub_cancel_left, List.getElem?_append_left (List.getElem?_eq_some_iff.1 hd).1]
    simp [hd]
  unfold Res at h
  split at h
  · rename_i s
    obtain ⟨l1, l2, q⟩ := mkShs_sound (β := β) (nn := nn) (n := ρ.length) h hρ hb
    refine ⟨?_, l1⟩
    have := q 0 (s.mk ρ.length nn) v (by simp [mkShs]) rfl
    simp only [resSV, mkShs]
    cases hs : s.mk ρ.length nn with
    | one c => rw [hs] at this; exact this
    | agg cs => rw [hs] at this; exact this
  · rename_i hne
    obtain ⟨vs, rfl, ha⟩ := h
    have hpart : Value.parts rs (.tuple vs.toArray) = vs := by
      unfold Value.parts
      split
      · rename_i s; exact absurd rfl (hne s)
      · rfl
    obtain ⟨l1, l2, q⟩ := mkShs_sound (β := β) (nn := nn) (n := ρ.length) ha hρ (by rw [hpart] at hb; exact hb)
    refine ⟨?_, l1⟩
    have e : resSV rs ρ.length nn = .tup (mkShs rs ρ.length nn) := by
      unfold resSV
      split
      · rename_i v hv
        exfalso
        cases rs with
        | nil => simp [mkShs] at hv
        | cons a l => cases l with
          | nil => exact hne _ rfl
          | cons b l => simp [mkShs] at hv
      · rfl
    rw [e]
    exact ⟨vs, rfl, l2, q⟩
theorem args_len : ∀ {rs : List Sh} {r : List D} {vs : List Value}, Args P w F rs r vs → r.length = shSize rs
  | [], r, vs, ⟨e1, e2⟩ => by subst e1; rfl
  | .one t :: rs, r, vs, ⟨d, ds', v, vs', e1, e2, h1, h2⟩ => by subst e1; have := args_len h2; simp [shSize, Sh.size] at this ⊢; omega
  | .row t :: rs, r, vs, ⟨d, ds', v, vs', e1, e2, h1, h2⟩ => by subst e1; have := args_len h2; simp [shSize, Sh.size] at this ⊢; omega
  | .agg ts :: rs, r, vs, ⟨d1, ds', us, vs', e1, e2, e3, e4, h1, h2⟩ => by subst e1; have := args_len h2; simp [shSize, Sh.size] at this ⊢; omega
theorem Res.args {rs : List Sh} {r : List D} {v : Value} (h : Res P w F rs r v) : Args P w F rs r (Value.parts rs v) := by
  unfold Res at h
  split at h
  · exact h
  · rename_i hne
    obtain ⟨vs, rfl, ha⟩ := h
    have hpart : Value.parts rs (.tuple vs.toArray) = vs := by
      unfold Value.parts
      split
      · rename_i s; exact absurd rfl (hne s)
      · rfl
    rw [hpart]; exact ha
theorem den_listE : ∀ (es : List E), den ρ (listE es) = .agg (es.map (den ρ))
  | [] => rfl
  | e :: es => by simp [listE, den, den_listE es]
end
end Go.Proofs.YtobacchojjfpfaaGreatDoor.Eng
