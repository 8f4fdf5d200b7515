/-
  A reader of Go functions, part M: a function: what its program gives is what it returns.
-/
import Derived.Test.YtnaojplgikaeoaaEngL
namespace Go.Proofs.Ytnaojplgikaeoaa.Eng
open Go.RowKit
set_option linter.unusedVariables false
set_option linter.unusedSimpArgs false

def initTm : List Sh → Nat → Nat → List (Nat × SV)
  | [], _, _ => []
  | s :: l, t, n => (t, (s.mk n).sv) :: initTm l (t + 1) (n + s.size)
def initSt (ps : List Sh) : St := { tm := initTm ps 0 0, bx := [], nn := 0, nv := shSize ps, fs := [] }
def finOne (P : Program) (st : St) : ResultVar → Option SV
  | .tmp t => st.tm.lookup t
  | .cell a t => match st.tm.lookup a with
    | some (.one (.ptr n off)) => match st.bx.lookup n with
      | some (.box _ cs) => pickCells P t cs off
      | _ => none
    | _ => none
def finL (P : Program) (st : St) : List ResultVar → Option (List SV)
  | [] => some []
  | r :: l => match finOne P st r, finL P st l with
    | some v, some vs => some (v :: vs)
    | _, _ => none
def fin (P : Program) (fn : Func) (rs : List Sh) (e : Ex) (st : St) (lv : Nat) : T :=
  match e with
  | .exit _ => .fail 30
  | _ => frFz st st.allRows fun st => match finL P st fn.results.toList with
    | some vs => match matShs rs vs with
      | some es => .ret es
      | none => .fail 31
    | none => .fail 32
def execFn (P : Program) (hints : List (Nat × Hint)) (f : Nat) : T :=
  match P.funcs[f]?, sigOf P f with
  | some fn, some (ps, rs) => match fn.body with
    | some c => if fn.params.size ≤ fn.ntmps then exec P fn.ntmps hints c (initSt ps) 0 (fin P fn rs) else .fail 33
    | none => .fail 34
  | _, _ => .fail 35

theorem initTm_lookup : ∀ {ps : List Sh} {t0 n t : Nat} {sv : SV}, (initTm ps t0 n).lookup t = some sv → ∃ c, t0 ≤ t ∧ (mkShs ps n)[t - t0]? = some c ∧ sv = c.sv
  | [], t0, n, t, sv, h => by cases h
  | s :: l, t0, n, t, sv, h => by
    simp only [initTm] at h
    rw [List.lookup_cons] at h
    split at h
    · rename_i he
      simp at he h; subst he h
      exact ⟨s.mk n, Nat.le_refl _, by simp [mkShs], rfl⟩
    · obtain ⟨c, h1, h2, h3⟩ := initTm_lookup h
      refine ⟨c, by omega, ?_, h3⟩
      simp only [mkShs]
      rw [show t - t0 = (t - (t0 + 1)) + 1 by omega, List.getElem?_cons_succ]
      exact h2
section
variable {X : Cx} {ρ : List D} {st : St} {Ft : Nat → Prop} {β : Nat → Value} {a : Act} {w : World}
theorem finOne_sound (hs : Sat X ρ st Ft β a w) {r : ResultVar} {sv : SV} (h : finOne X.P st r = some sv) :
    ∃ v, ((fun r => match r with | .tmp t => pure (a.tmps.getD t undef) | .cell b t => do loadVar t (← asAddr (a.tmps.getD b undef)) : ResultVar → Sem Value) r).run X.P w = .ok v w ∧ RV X.P w Ft ρ β sv v := by
  cases r with
  | tmp t =>
    obtain ⟨v, h1, h2⟩ := hs.tm t sv h
    exact ⟨v, by simp [h1], h2⟩
  | cell b t =>
    simp only [finOne] at h
    split at h
    · rename_i n off hl
      split at h
      · rename_i bt cs hb
        obtain ⟨v, h1, h2⟩ := hs.tm _ _ hl
        obtain ⟨b', e1, e2⟩ := h2
        obtain ⟨b'', vs, f1, f2, f3⟩ := hs.bx _ _ hb
        obtain rfl : b'' = b' := by rw [f1] at e1; simpa using e1
        obtain ⟨u, hu1, hu2⟩ := pick_load h f3 (b := b'') (o := 0) (fun j v hj => by
          rw [Nat.zero_add]
          simp [World.cell?, f2, hj])
        rw [Nat.zero_add] at hu1
        exact ⟨u, by simp [h1, e2, asAddr, hu1], hu2⟩
      · cases h
    · cases h
theorem finL_sound (hs : Sat X ρ st Ft β a w) : ∀ {rs : List ResultVar} {svs : List SV}, finL X.P st rs = some svs →
    ∃ vs : List Value, (rs.mapM (fun r => match r with | .tmp t => pure (a.tmps.getD t undef) | .cell b t => do loadVar t (← asAddr (a.tmps.getD b undef)) : ResultVar → Sem Value)).run X.P w = .ok vs w ∧ svs.length = vs.length ∧ vs.length = rs.length ∧
      ∀ (i : Nat) (s : SV) (v : Value), svs[i]? = some s → vs[i]? = some v → RV X.P w Ft ρ β s v
  | [], svs, h => by simp [finL] at h; subst h; exact ⟨[], by simp, rfl, rfl, fun i s v q => by simp at q⟩
  | r :: rs, svs, h => by
    simp only [finL] at h
    split at h
    · rename_i v vs h1 h2
      simp at h; subst h
      obtain ⟨u, q1, q2⟩ := finOne_sound hs h1
      obtain ⟨us, z1, z2, z4, z3⟩ := finL_sound hs h2
      refine ⟨u :: us, ?_, by simp [z2], by simp [z4], fun i => ?_⟩
      · rw [List.mapM_cons]
        simp only [Sem.run_bind, q1, z1, Result.andThen_ok, Sem.run_pure]
      · cases i with
        | zero => intro s v' a1 a2; simp at a1 a2; subst a1 a2; exact q2
        | succ i => intro s v' a1 a2; exact z3 i s v' (by simpa using a1) (by simpa using a2)
    · cases h
end
theorem matShs_length : ∀ {rs : List Sh} {vs : List SV} {es : List E}, matShs rs vs = some es → rs.length = vs.length
  | [], [], es, h => rfl
  | [], v :: vs, es, h => by simp [matShs] at h
  | r :: rs, [], es, h => by simp [matShs] at h
  | r :: rs, v :: vs, es, h => by
    simp only [matShs] at h
    split at h
    · rename_i a b h1 h2
      simp [matShs_length h2]
    · cases h

/-- THE READER IS SOUND. -/
theorem fn_sound {P : Program} {Fs : Nat → Fn} (hF : FsOk P Fs) (hints : List (Nat × Hint)) (f : Nat) {ps rs : List Sh} (hsig : sigOf P f = some (ps, rs)) {fuel : Nat} {ds r : List D} (h : eval Fs fuel (execFn P hints f) [] ds = some r) : Ok1 P f ps rs ds r := by
  obtain ⟨fn, hfn, hbody, hname, hps, hrs⟩ := sigOf_spec hsig
  intro w Ft vs hFt hargs
  unfold execFn at h
  simp only [hfn, hsig] at h
  split at h
  · rename_i c hc
    split at h
    · rename_i hsz
      refine calls_of_wp hfn hc ?_
      have hlen : ∀ {ps : List Sh} {ds : List D} {vs : List Value}, Args P w Ft ps ds vs → ps.length = vs.length := by
        intro ps
        induction ps with
        | nil => rintro ds vs ⟨_, rfl⟩; rfl
        | cons s ps ih =>
          intro ds vs ha
          cases s with
          | one t => obtain ⟨d, ds', v, vs', _, rfl, _, h2⟩ := ha; simp [ih h2]
          | agg ts => obtain ⟨d, ds', v, vs', _, rfl, _, _, _, h2⟩ := ha; simp [ih h2]
      have hpsl : ∀ {l : List TypeId} {ss : List Sh}, shsOf P l = some ss → ss.length = l.length := by
        intro l
        induction l with
        | nil => intro ss hh; simp [shsOf] at hh; subst hh; rfl
        | cons t l ih =>
          intro ss hh
          simp only [shsOf] at hh
          split at hh
          · rename_i s l' h1 h2
            simp at hh; subst hh
            simp [ih h2]
          · cases hh
      have hvs : vs.length ≤ fn.ntmps := by
        rw [← hlen hargs, hpsl hps]
        simpa using hsz
      obtain ⟨l1, l2, q⟩ := mkShs_sound (ρ := ds) (β := fun _ => .pointer none) (n := 0) hargs (fun i d hd => by
        rw [List.getD_eq_getElem?_getD, Nat.zero_add, hd]; rfl)
      let X : Cx := { P := P, S := [], w0 := w, nt := fn.ntmps, F0 := Ft }
      have hs : Sat X ds (initSt ps) Ft (fun _ => .pointer none) { tmps := vs.toArray ++ Array.replicate (fn.ntmps - vs.toArray.size) undef, defers := [] } w := by
        refine ⟨rfl, by simp [X]; omega, fun b hb => ⟨hFt b hb, fun n x hx => by cases hx⟩, ?_, (fun n x hx => by cases hx), (fun n m x y k hx => by cases hx), (fun n x k hx => by cases hx), chg_refl _ _, (fun e b hm => by cases hm), (fun n => rfl), fun b hb => .inl hb⟩
        intro t sv ht
        obtain ⟨c, h1, h2, rfl⟩ := initTm_lookup ht
        have hlt : t < vs.length := by
          rw [← l2]
          have := (List.getElem?_eq_some_iff.1 h2).1
          omega
        have hv : vs[t]? = some vs[t] := List.getElem?_eq_getElem hlt
        refine ⟨vs[t], ?_, ?_⟩
        · simp [Array.getElem?_append, hlt]
        · have := q t c vs[t] (by simpa using h2) hv
          cases c <;> exact this
      refine exec_sound (X := X) (Q := bodyPost P fn _) hF hints c (L := []) h l1.symm rfl hs ?_
      intro e st' lv' ext Lx Ft' β' a' w' q1 q2 q3 q4
      have hend : ∀ {e : Ex}, e = .normal ∨ e = .ret → eval Fs fuel (frFz st' st'.allRows fun st' => match finL P st' fn.results.toList with | some vs => (match matShs rs vs with | some es => .ret es | none => .fail 31) | none => .fail 32) ([] ++ Lx) (ds ++ ext) = some r →
          a'.defers = [] ∧ ∃ v, (results fn a'.tmps).run P w' = .ok v w' ∧ ∃ v', Ending.returned v = .returned v' ∧ Below w.heap.size w w' ∧ Res P w' (More Ft w w') rs r v' := by
        intro e _ he
        obtain ⟨st', Ft', q1, q3, he⟩ := frFz_sound he q1 q3
        split at he
        · rename_i svs hfin
          split at he
          · rename_i es hes
            simp only [eval, Option.some.injEq] at he
            obtain ⟨us, z1, z2, z4, z3⟩ := finL_sound q3 hfin
            have hb : Below w.heap.size w w' := below_of_chg q3.chg
            have hargs' : Args P w' Ft' rs r us := by rw [← he]; exact matShs_sound hes z2 z3
            have hmore : ∀ b, Ft' b → More Ft w w' b ∧ w'.heap[b]? = w'.heap[b]? := by
              intro b hb'
              refine ⟨?_, rfl⟩
              rcases q3.f0 b hb' with h | h | h
              · exact .inl h
              · exact .inr ⟨h, (q3.ft b hb').1⟩
              · cases h
            have hargs2 := Args.mono hmore hargs'
            have hlen2 : rs.length = us.length := by rw [matShs_length hes, z2]
            refine ⟨q3.df, ?_⟩
            have hrun : (results fn a'.tmps).run P w' = .ok (if h : us.toArray.size = 1 then us.toArray[0] else .tuple us.toArray) w' := by
              unfold results
              rw [Array.mapM_eq_mapM_toList]
              simp only [map_eq_pure_bind, Sem.run_bind, Sem.run_pure, bind_assoc, pure_bind]
              exact congrArg (fun r => Result.andThen r fun (a : List Value) w' => Result.ok (if h : a.toArray.size = 1 then a.toArray[0] else Value.tuple a.toArray) w') z1
            refine ⟨_, hrun, _, rfl, hb, ?_⟩
            unfold Res
            split
            · rename_i s
              have h1 : us.length = 1 := hlen2.symm
              obtain ⟨u, rfl⟩ := List.length_eq_one_iff.1 h1
              simpa using hargs2
            · rename_i hne
              have h1 : ¬ us.toArray.size = 1 := by
                intro h1
                have h1' : us.length = 1 := by simpa using h1
                obtain ⟨s, rfl⟩ := List.length_eq_one_iff.1 (hlen2.trans h1')
                exact hne s rfl
              rw [dif_neg h1]
              exact ⟨us, rfl, hargs2⟩
          · cases he
        · cases he
      cases e with
      | normal => exact hend (e := .normal) (.inl rfl) q4
      | ret => exact hend (e := .ret) (.inr rfl) q4
      | exit i => cases q4
    · cases h
  · cases h
end Go.Proofs.Ytnaojplgikaeoaa.Eng
