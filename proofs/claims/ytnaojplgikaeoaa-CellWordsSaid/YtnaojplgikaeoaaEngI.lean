/-
  A reader of Go functions, part I: calls, stores, guards, regions that keep the order of the text.
-/
import Derived.Test.YtnaojplgikaeoaaEngH
namespace Go.Proofs.Ytnaojplgikaeoaa.Eng
open Go.RowKit
set_option linter.unusedVariables false
set_option linter.unusedSimpArgs false

section
variable (P : Program) (w : World) (F : Nat → Prop)
/-- Arguments, laid flat, read as data. -/
def Args : List Sh → List D → List Value → Prop
  | [], ds, vs => ds = [] ∧ vs = []
  | .one t :: ps, ds, vs => ∃ d ds' v vs', ds = d :: ds' ∧ vs = v :: vs' ∧ Rd P w F t d v ∧ Args ps ds' vs'
  | .agg ts :: ps, ds, vs => ∃ d1 ds' us vs', ds = d1 ++ ds' ∧ vs = Value.agg (List.toArray us) :: vs' ∧ d1.length = ts.length ∧ us.length = ts.length ∧
      (∀ (i : Nat) (t : Ty) (d : D) (u : Value), ts[i]? = some t → d1[i]? = some d → us[i]? = some u → Rd P w F t d u) ∧ Args ps ds' vs'
def Res (rs : List Sh) (r : List D) (v : Value) : Prop :=
  match rs with
  | [s] => Args P w F [s] r [v]
  | rs => ∃ vs : List Value, v = .tuple vs.toArray ∧ Args P w F rs r vs
end
/-- Called with what reads as ds, the function returns what reads as r, and nothing that was there has turned. -/
def Ok1 (P : Program) (f : Nat) (ps rs : List Sh) (ds r : List D) : Prop :=
  ∀ (w : World) (Ft : Nat → Prop) (vs : List Value), (∀ b, Ft b → b < w.heap.size) → Args P w Ft ps ds vs →
    Calls P f vs.toArray w fun e w' => ∃ v, e = .returned v ∧ Below w.heap.size w w' ∧ Res P w' (More Ft w w') rs r v
def FsOk (P : Program) (Fs : Nat → Fn) : Prop := ∀ f ps rs ds r, sigOf P f = some (ps, rs) → Fs f ds = some r → Ok1 P f ps rs ds r

section
variable {P : Program} {w : World} {F : Nat → Prop} {ρ : List D} {β : Nat → Value}
theorem Args.mono {w' : World} {F' : Nat → Prop} (h : ∀ b, F b → F' b ∧ w'.heap[b]? = w.heap[b]?) : ∀ {ps : List Sh} {ds : List D} {vs : List Value}, Args P w F ps ds vs → Args P w' F' ps ds vs
  | [], ds, vs, ha => ha
  | .one t :: ps, ds, vs, ⟨d, ds', v, vs', e1, e2, h1, h2⟩ => ⟨d, ds', v, vs', e1, e2, h1.mono h, Args.mono h h2⟩
  | .agg ts :: ps, ds, vs, ⟨d1, ds', us, vs', e1, e2, e3, e4, h1, h2⟩ => ⟨d1, ds', us, vs', e1, e2, e3, e4, fun i t d u q1 q2 q3 => (h1 i t d u q1 q2 q3).mono h, Args.mono h h2⟩
theorem matL_sound : ∀ {ts : List Ty} {cs : List C} {es : List E} {vs : List Value}, matL ts cs = some es → RCL P w F ρ β cs vs →
    es.length = ts.length ∧ vs.length = ts.length ∧ ∀ (i : Nat) (t : Ty) (e : E) (v : Value), ts[i]? = some t → es[i]? = some e → vs[i]? = some v → Rd P w F t (den ρ e) v
  | [], [], es, vs, h, hr => by
    simp [matL] at h; subst h
    have : vs = [] := List.eq_nil_of_length_eq_zero hr.1.symm
    subst this
    exact ⟨rfl, rfl, fun i t e v q => by simp at q⟩
  | [], c :: cs, es, vs, h, hr => by simp [matL] at h
  | t :: ts, [], es, vs, h, hr => by simp [matL] at h
  | t :: ts, c :: cs, es, [], h, hr => by have := hr.1; simp at this
  | t :: ts, c :: cs, es, v :: vs, h, hr => by
    simp only [matL] at h
    split at h
    · rename_i e es' h1 h2
      simp at h; subst h
      have q := mat_sound h1 (hr.2 0 c v rfl rfl)
      obtain ⟨l1, l2, q2⟩ := matL_sound h2 (⟨by have := hr.1; simpa using this, fun i c v h1 h2 => hr.2 (i + 1) c v h1 h2⟩ : RCL P w F ρ β cs vs)
      refine ⟨by simp [l1], by simp [l2], fun i => ?_⟩
      cases i with
      | zero => intro t' e' v' a1 a2 a3; simp at a1 a2 a3; subst a1 a2 a3; exact q
      | succ i => intro t' e' v' a1 a2 a3; simp at a1 a2 a3; exact q2 i t' e' v' a1 a2 a3
    · cases h
theorem matShs_sound : ∀ {ps : List Sh} {svs : List SV} {es : List E} {vs : List Value}, matShs ps svs = some es → svs.length = vs.length → (∀ (i : Nat) (s : SV) (v : Value), svs[i]? = some s → vs[i]? = some v → RV P w F ρ β s v) →
    Args P w F ps (es.map (den ρ)) vs
  | [], [], es, vs, h, hl, hr => by
    simp [matShs] at h; subst h
    exact ⟨rfl, List.eq_nil_of_length_eq_zero hl.symm⟩
  | [], s :: ss, es, vs, h, hl, hr => by simp [matShs] at h
  | p :: ps, [], es, vs, h, hl, hr => by simp [matShs] at h
  | p :: ps, s :: ss, es, [], h, hl, hr => by simp at hl
  | p :: ps, s :: ss, es, v :: vs, h, hl, hr => by
    simp only [matShs] at h
    split at h
    · rename_i e1 e2 h1 h2
      simp at h; subst h
      have q := hr 0 s v rfl rfl
      have rest := matShs_sound h2 (vs := vs) (by simpa using hl) (fun i s v a b => hr (i + 1) s v a b)
      cases p with
      | one t =>
        cases s <;> simp only [matSh] at h1 <;> try (cases h1; done)
        rename_i c
        cases hm : mat t c with
        | none => simp [hm] at h1
        | some e =>
          simp [hm] at h1; subst h1
          exact ⟨_, _, _, _, rfl, rfl, mat_sound hm q, rest⟩
      | agg ts =>
        cases s <;> simp only [matSh] at h1 <;> try (cases h1; done)
        rename_i cs
        obtain ⟨us, rfl, hu⟩ := q
        obtain ⟨l1, l2, q2⟩ := matL_sound h1 hu
        refine ⟨e1.map (den ρ), _, us, vs, by simp, rfl, by simpa using l1, l2, fun i t d u a1 a2 a3 => ?_, rest⟩
        rw [List.getElem?_map] at a2
        cases he : e1[i]? with
        | none => simp [he] at a2
        | some e => simp [he] at a2; subst a2; exact q2 i t e u a1 he a3
    · cases h
theorem varCs_get : ∀ (ts : List Ty) (n i : Nat) (c : C), (varCs ts n)[i]? = some c → ∃ t, ts[i]? = some t ∧ c = .dat t (.var (n + i))
  | [], n, i, c, h => by simp [varCs] at h
  | t :: ts, n, 0, c, h => by simp [varCs] at h; exact ⟨t, rfl, h.symm⟩
  | t :: ts, n, i + 1, c, h => by
    simp only [varCs, List.getElem?_cons_succ] at h
    obtain ⟨t', h1, h2⟩ := varCs_get ts (n + 1) i c h
    exact ⟨t', by simpa using h1, by rw [h2]; congr 2; omega⟩
theorem varCs_length : ∀ (ts : List Ty) (n : Nat), (varCs ts n).length = ts.length
  | [], n => rfl
  | t :: ts, n => by simp [varCs, varCs_length ts]
theorem mkShs_sound : ∀ {rs : List Sh} {r : List D} {vs : List Value} {n : Nat}, Args P w F rs r vs → (∀ (i : Nat) (d : D), r[i]? = some d → ρ.getD (n + i) .nil = d) →
    r.length = shSize rs ∧ (mkShs rs n).length = vs.length ∧ ∀ (i : Nat) (c : V1) (v : Value), (mkShs rs n)[i]? = some c → vs[i]? = some v → R1 P w F ρ β c v
  | [], r, vs, n, ⟨e1, e2⟩, hρ => by subst e1 e2; exact ⟨rfl, rfl, fun i c v h => by simp [mkShs] at h⟩
  | .one t :: rs, r, vs, n, ⟨d, ds', v, vs', e1, e2, h1, h2⟩, hρ => by
    subst e1 e2
    obtain ⟨l1, l2, q⟩ := mkShs_sound (n := n + 1) h2 (fun i d h => by have := hρ (i + 1) d (by simpa using h); rw [← this]; congr 1; omega)
    refine ⟨by simp [shSize, Sh.size] at l1 ⊢; omega, by simp [mkShs, Sh.size, l2], fun i => ?_⟩
    cases i with
    | zero =>
      intro c v' a1 a2
      simp [mkShs, Sh.mk] at a1 a2
      subst a1 a2
      show Rd P w F t (ρ.getD n .nil) v
      have := hρ 0 d rfl
      rw [Nat.add_zero] at this
      rw [this]
      exact h1
    | succ i => intro c v' a1 a2; exact q i c v' (by simpa [mkShs, Sh.size] using a1) (by simpa using a2)
  | .agg ts :: rs, r, vs, n, ⟨d1, ds', us, vs', e1, e2, e3, e4, h1, h2⟩, hρ => by
    subst e1 e2
    obtain ⟨l1, l2, q⟩ := mkShs_sound (n := n + ts.length) h2 (fun i d h => by
      have := hρ (ts.length + i) d (by rw [List.getElem?_append_right (by omega)]; rw [← h]; congr 1; omega)
      rw [← this]; congr 1; omega)
    refine ⟨by simp [shSize, Sh.size] at l1 ⊢; omega, by simp [mkShs, Sh.size, l2], fun i => ?_⟩
    cases i with
    | zero =>
      intro c v' a1 a2
      simp [mkShs, Sh.mk] at a1 a2
      subst a1 a2
      refine ⟨us, rfl, by rw [varCs_length, e4], fun j c u b1 b2 => ?_⟩
      obtain ⟨t, ht, rfl⟩ := varCs_get ts n j c b1
      have hj : j < d1.length := by rw [e3]; exact (List.getElem?_eq_some_iff.1 ht).1
      have hd : d1[j]? = some d1[j] := List.getElem?_eq_getElem hj
      show Rd P w F t (ρ.getD (n + j) .nil) u
      rw [hρ j d1[j] (by rw [List.getElem?_append_left hj]; exact hd)]
      exact h1 j t _ u ht hd b2
    | succ i => intro c v' a1 a2; exact q i c v' (by simpa [mkShs, Sh.size] using a1) (by simpa using a2)
theorem res_sound {rs : List Sh} {r : List D} {v : Value} (h : Res P w F rs r v) : RV P w F (ρ ++ r) β (resSV rs ρ.length) v ∧ r.length = shSize rs := by
  have hρ : ∀ (i : Nat) (d : D), r[i]? = some d → (ρ ++ r).getD (ρ.length + i) .nil = d := fun i d hd => by
    rw [List.getD_eq_getElem?_getD, List.getElem?_append_right (by omega)]
    simp [hd]
  unfold Res at h
  split at h
  · rename_i s
    obtain ⟨l1, l2, q⟩ := mkShs_sound (β := β) (n := ρ.length) h hρ
    refine ⟨?_, l1⟩
    have := q 0 (s.mk ρ.length) v (by simp [mkShs]) rfl
    simp only [resSV, mkShs]
    cases hs : s.mk ρ.length with
    | one c => rw [hs] at this; exact this
    | agg cs => rw [hs] at this; exact this
  · rename_i hne
    obtain ⟨vs, rfl, ha⟩ := h
    obtain ⟨l1, l2, q⟩ := mkShs_sound (β := β) (n := ρ.length) ha hρ
    refine ⟨?_, l1⟩
    have e : resSV rs ρ.length = .tup (mkShs rs ρ.length) := by
      unfold resSV
      split
      · rename_i v hv
        exfalso
        cases rs with
        | nil => simp [mkShs] at hv
        | cons a l => cases l with
          | nil => exact hne _ rfl
          | cons b l => simp [mkShs] at hv
      · rfl
    rw [e]
    exact ⟨vs, rfl, l2, q⟩
theorem den_listE : ∀ (es : List E), den ρ (listE es) = .agg (es.map (den ρ))
  | [] => rfl
  | e :: es => by simp [listE, den, den_listE es]
end
end Go.Proofs.Ytnaojplgikaeoaa.Eng
