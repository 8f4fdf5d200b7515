/-
  A reader of Go functions, part M: a function: what its program gives is what it returns.
-/
import Derived.Test.YtnbnjkbkjmlomaaDoorEngL
namespace Go.Proofs.YtnbnjkbkjmlomaaDoor.Eng
open Go.RowKit
set_option linter.unusedVariables false
set_option linter.unusedSimpArgs false

def initTm : List Sh → Nat → Nat → List (Nat × SV)
  | [], _, _ => []
  | s :: l, t, n => (t, (s.mk n 0).sv) :: initTm l (t + 1) (n + s.size)
def initSt (cf : Cf) (ps : List Sh) (hm : Nat) : St :=
  let n := shSize ps
  { tm := initTm ps 0 0, bx := [], nn := 0, nv := (match hm with | 1 => n + 1 | 2 => n + 1 | _ => n), fs := [], ex := [], cf := cf,
    hp := (match hm with | 0 => none | 1 => some (false, .var n) | 2 => some (true, .var n) | _ => some (true, .lnil)) }
def finOne (P : Program) (st : St) : ResultVar → Option SV
  | .tmp t => st.tm.lookup t
  | .cell a t => match st.tm.lookup a with
    | some (.one (.ptr n off)) => match st.bx.lookup n with
      | some (.box _ cs) => pickCells P t cs off
      | _ => none
    | _ => none
def finL (P : Program) (st : St) : List ResultVar → Option (List SV)
  | [] => some []
  | r :: l => match finOne P st r, finL P st l with
    | some v, some vs => some (v :: vs)
    | _, _ => none
/-- Rows that are given away. -/
def consumed : List Sh → List SV → List Nat
  | .row _ :: ss, .one (.vec m) :: vs => m :: consumed ss vs
  | _ :: ss, _ :: vs => consumed ss vs
  | _, _ => []
def matRow (P : Program) (st : St) (e : TypeId) : SV → Option E
  | .one (.vec m) => match st.bx.lookup m with
    | some (.vec e' y) => if e = e' then some y else none
    | _ => none
  | .one .nils => if (cellTys P e).isSome = true then some .lnil else none
  | _ => none
def matRes (P : Program) (st : St) : List Sh → List SV → Option (List E)
  | [], [] => some []
  | .row e :: ss, v :: vs => match matRow P st e v, matRes P st ss vs with
    | some y, some es => some (y :: es)
    | _, _ => none
  | .one t :: ss, v :: vs => match matSh (.one t) v, matRes P st ss vs with
    | some a, some b => some (a ++ b)
    | _, _ => none
  | .agg t :: ss, v :: vs => match matSh (.agg t) v, matRes P st ss vs with
    | some a, some b => some (a ++ b)
    | _, _ => none
  | _, _ => none
def heapRes (st : St) (hm : Nat) : Option (List E) :=
  match hm, st.hp with
  | 0, some (true, _) => none
  | 1, some (true, _) => none
  | 0, _ => some []
  | 1, _ => some []
  | 2, some (true, h) => if st.ex = [] then some [h] else none
  | 2, _ => none
  | _, _ => some []
def fin (P : Program) (fn : Func) (rs : List Sh) (hm : Nat) (e : Ex) (st : St) (lv : Nat) : T :=
  match e with
  | .exit _ => .fail 30
  | _ => match finL P st fn.results.toList with
    | some vs0 => frFz st (st.allRows.filter fun m => !(consumed rs vs0).contains m) fun st => match finL P st fn.results.toList with
      | some vs => match matRes P st rs vs, heapRes st hm with
        | some es, some hs => if (consumed rs vs).length ≤ 1 then .ret (es ++ hs) else .fail 29
        | _, _ => .fail 31
      | none => .fail 32
    | none => .fail 36
def execFn (P : Program) (cf : Cf) (hints : List (Nat × Hint)) (f : Nat) : T :=
  match P.funcs[f]?, sigOf P cf f with
  | some fn, some (ps, rs, hm) => match fn.body with
    | some c => if ps.length ≤ fn.ntmps then exec P fn.ntmps hints c (initSt cf ps hm) 0 (fin P fn rs hm) else .fail 33
    | none => .fail 34
  | _, _ => .fail 35

theorem initTm_lookup : ∀ {ps : List Sh} {t0 n t : Nat} {sv : SV}, (initTm ps t0 n).lookup t = some sv → ∃ c, t0 ≤ t ∧ (mkShs ps n 0)[t - t0]? = some c ∧ sv = c.sv
  | [], t0, n, t, sv, h => by cases h
  | s :: l, t0, n, t, sv, h => by
    simp only [initTm] at h
    rw [List.lookup_cons] at h
    split at h
    · rename_i he
      simp at he h; subst he h
      exact ⟨s.mk n 0, Nat.le_refl _, by simp [mkShs], rfl⟩
    · obtain ⟨c, h1, h2, h3⟩ := initTm_lookup h
      refine ⟨c, by omega, ?_, h3⟩
      simp only [mkShs]
      rw [show t - t0 = (t - (t0 + 1)) + 1 by omega, List.getElem?_cons_succ]
      exact h2
section
variable {X : Cx} {ρ : List D} {st : St} {Ft : Fr} {β : Nat → Value} {a : Act} {w : World}
theorem finOne_sound (hs : Sat X ρ st Ft β a w) {r : ResultVar} {sv : SV} (h : finOne X.P st r = some sv) :
    ∃ v, ((fun r => match r with | .tmp t => pure (a.tmps.getD t undef) | .cell b t => do loadVar t (← asAddr (a.tmps.getD b undef)) : ResultVar → Sem Value) r).run X.P w = .ok v w ∧ RV X.P w Ft ρ β sv v := by
  cases r with
  | tmp t =>
    obtain ⟨v, h1, h2⟩ := hs.tm t sv h
    exact ⟨v, by simp [h1], h2⟩
  | cell b t =>
    simp only [finOne] at h
    split at h
    · rename_i n off hl
      split at h
      · rename_i bt cs hb
        obtain ⟨v, h1, h2⟩ := hs.tm _ _ hl
        obtain ⟨b', e1, e2⟩ := h2
        obtain ⟨b'', vs, f1, f2, f3⟩ := hs.bx _ _ hb
        obtain rfl : b'' = b' := by rw [f1] at e1; simpa using e1
        obtain ⟨u, hu1, hu2⟩ := pick_load h f3 (b := b'') (o := 0) (fun j v hj => by
          rw [Nat.zero_add]
          simp [World.cell?, f2, hj])
        rw [Nat.zero_add] at hu1
        exact ⟨u, by simp [h1, e2, asAddr, hu1], hu2⟩
      · cases h
    · cases h
theorem finL_sound (hs : Sat X ρ st Ft β a w) : ∀ {rs : List ResultVar} {svs : List SV}, finL X.P st rs = some svs →
    ∃ vs : List Value, (rs.mapM (fun r => match r with | .tmp t => pure (a.tmps.getD t undef) | .cell b t => do loadVar t (← asAddr (a.tmps.getD b undef)) : ResultVar → Sem Value)).run X.P w = .ok vs w ∧ svs.length = vs.length ∧ vs.length = rs.length ∧
      ∀ (i : Nat) (s : SV) (v : Value), svs[i]? = some s → vs[i]? = some v → RV X.P w Ft ρ β s v
  | [], svs, h => by simp [finL] at h; subst h; exact ⟨[], by simp, rfl, rfl, fun i s v q => by simp at q⟩
  | r :: rs, svs, h => by
    simp only [finL] at h
    split at h
    · rename_i v vs h1 h2
      simp at h; subst h
      obtain ⟨u, q1, q2⟩ := finOne_sound hs h1
      obtain ⟨us, z1, z2, z4, z3⟩ := finL_sound hs h2
      refine ⟨u :: us, ?_, by simp [z2], by simp [z4], fun i => ?_⟩
      · rw [List.mapM_cons]
        simp only [Sem.run_bind, q1, z1, Result.andThen_ok, Sem.run_pure]
      · cases i with
        | zero => intro s v' a1 a2; simp at a1 a2; subst a1 a2; exact q2
        | succ i => intro s v' a1 a2; exact z3 i s v' (by simpa using a1) (by simpa using a2)
    · cases h
end
theorem matRes_sound {X : Cx} {ρ : List D} {st : St} {Ft : Fr} {β : Nat → Value} {a : Act} {w : World} (hs : Sat X ρ st Ft β a w) : ∀ {rs : List Sh} {svs : List SV} {es : List E} {vs : List Value}, matRes X.P st rs svs = some es → svs.length = vs.length → (∀ (i : Nat) (s : SV) (v : Value), svs[i]? = some s → vs[i]? = some v → RV X.P w Ft ρ β s v) →
    rs.length = vs.length ∧ Args X.P w Ft rs (es.map (den ρ)) vs ∧ (∀ k, k ∈ rowsB rs vs → ∃ m x, m ∈ consumed rs svs ∧ st.bx.lookup m = some x ∧ x.bk (β m) = some k) ∧ (rowsB rs vs).length ≤ (consumed rs svs).length
  | [], [], es, vs, h, hl, hr => by
    simp [matRes] at h; subst h
    have : vs = [] := List.eq_nil_of_length_eq_zero hl.symm
    subst this
    exact ⟨rfl, ⟨rfl, rfl⟩, fun k h => by simp [rowsB] at h, by simp [rowsB, consumed]⟩
  | [], s :: ss, es, vs, h, hl, hr => by simp [matRes] at h
  | r :: rs, [], es, vs, h, hl, hr => by cases r <;> simp [matRes] at h
  | r :: rs, s :: ss, es, [], h, hl, hr => by simp at hl
  | .row e :: rs, s :: ss, es, v :: vs, h, hl, hr => by
    simp only [matRes] at h
    split at h
    · rename_i y es' h1 h2
      simp at h; subst h
      obtain ⟨q1, q2, q3, q4⟩ := matRes_sound hs h2 (vs := vs) (by simpa using hl) (fun i s v a b => hr (i + 1) s v a b)
      have hv := hr 0 s v rfl rfl
      unfold matRow at h1
      split at h1
      · rename_i m
        split at h1
        · rename_i e' y' hb
          split at h1
          · rename_i he
            subst he
            simp at h1; subst h1
            have hv : v = β m := hv
            refine ⟨by simp [q1], ⟨_, _, v, vs, rfl, rfl, by rw [hv]; exact hs.bx m _ hb, q2⟩, fun k hk => ?_, ?_⟩
            · simp only [rowsB, List.mem_append, Option.mem_toList] at hk
              rcases hk with hk | hk
              · exact ⟨m, _, by simp [consumed], hb, by rw [← hv]; exact hk⟩
              · obtain ⟨m', x, z1, z2⟩ := q3 k hk
                exact ⟨m', x, by simp [consumed, z1], z2⟩
            · simp only [rowsB, consumed, List.length_append, List.length_cons]
              have : (bk v).toList.length ≤ 1 := by cases bk v <;> simp
              omega
          · cases h1
        · cases h1
      · split at h1
        · rename_i hct
          simp at h1; subst h1
          have hv : v = .slice none 0 0 := hv
          cases hts : cellTys X.P e with
          | none => rw [hts] at hct; cases hct
          | some ts =>
            refine ⟨by simp [q1], ⟨_, _, v, vs, rfl, rfl, ⟨ts, [], hts, ⟨by simp [den], .inl ⟨⟨none, hv⟩, by simp [den]⟩⟩, fun i c y t h => by simp [den] at h⟩, q2⟩, fun k hk => ?_, ?_⟩
            · simp only [rowsB, hv, bk, Option.toList_none, List.nil_append] at hk
              obtain ⟨m', x, z1, z2⟩ := q3 k hk
              exact ⟨m', x, by simpa [consumed] using z1, z2⟩
            · simp only [rowsB, hv, bk, Option.toList_none, List.nil_append, consumed]; exact q4
        · cases h1
      · cases h1
    · cases h
  | .one t :: rs, s :: ss, es, v :: vs, h, hl, hr => by
    simp only [matRes] at h
    split at h
    · rename_i e1 e2 h1 h2
      simp at h; subst h
      obtain ⟨q1, q2, q3, q4⟩ := matRes_sound hs h2 (vs := vs) (by simpa using hl) (fun i s v a b => hr (i + 1) s v a b)
      have hv := hr 0 s v rfl rfl
      have h3 := matShs_sound (P := X.P) (w := w) (F := Ft) (ρ := ρ) (β := β) (ps := [.one t]) (svs := [s]) (es := e1) (vs := [v]) (by simp [matShs, h1]) rfl (fun i s' v' a b => by
        cases i with
        | zero => simp at a b; subst a b; exact hv
        | succ i => simp at a)
      obtain ⟨d, ds', v', vs', z1, z2, z3, z4, z5⟩ := h3
      cases z2
      subst z4
      refine ⟨by simp [q1], ⟨d, e2.map (den ρ), v, vs, by rw [List.map_append, z1] <;> rfl, rfl, z3, q2⟩, fun k hk => ?_, ?_⟩
      · obtain ⟨m', x, y1, y2⟩ := q3 k (by simpa [rowsB] using hk)
        exact ⟨m', x, by cases s <;> simpa [consumed] using y1, y2⟩
      · simp only [rowsB, consumed]; exact q4
    · cases h
  | .agg ts :: rs, s :: ss, es, v :: vs, h, hl, hr => by
    simp only [matRes] at h
    split at h
    · rename_i e1 e2 h1 h2
      simp at h; subst h
      obtain ⟨q1, q2, q3, q4⟩ := matRes_sound hs h2 (vs := vs) (by simpa using hl) (fun i s v a b => hr (i + 1) s v a b)
      have hv := hr 0 s v rfl rfl
      have h3 := matShs_sound (P := X.P) (w := w) (F := Ft) (ρ := ρ) (β := β) (ps := [.agg ts]) (svs := [s]) (es := e1) (vs := [v]) (by simp [matShs, h1]) rfl (fun i s' v' a b => by
        cases i with
        | zero => simp at a b; subst a b; exact hv
        | succ i => simp at a)
      obtain ⟨d1, ds', us, vs', z1, z2, z3, z4, z5, z6, z7⟩ := h3
      cases z2
      subst z6
      rw [List.append_nil] at z1
      refine ⟨by simp [q1], ⟨d1, e2.map (den ρ), us, vs, by rw [List.map_append, z1] <;> rfl, rfl, z3, z4, z5, q2⟩, fun k hk => ?_, ?_⟩
      · obtain ⟨m', x, y1, y2⟩ := q3 k (by simpa [rowsB] using hk)
        exact ⟨m', x, by cases s <;> simpa [consumed] using y1, y2⟩
      · simp only [rowsB, consumed]; exact q4
    · cases h
theorem heapRes_spec {st : St} {hm : Nat} {hh : List E} (h : heapRes st hm = some hh) : (hm = 2 ∧ ∃ e, st.hp = some (true, e) ∧ st.ex = [] ∧ hh = [e]) ∨ (hm ≠ 2 ∧ hh = [] ∧ (hm < 2 → ∀ e, st.hp ≠ some (true, e))) := by
  cases hp : st.hp with
  | none =>
    match hm, h with
    | 0, h => simp only [heapRes, hp] at h; cases h; exact .inr ⟨by omega, rfl, fun _ e => by simp⟩
    | 1, h => simp only [heapRes, hp] at h; cases h; exact .inr ⟨by omega, rfl, fun _ e => by simp⟩
    | 2, h => simp [heapRes, hp] at h
    | n + 3, h => simp only [heapRes, hp] at h; cases h; exact .inr ⟨by omega, rfl, fun h => by omega⟩
  | some p =>
    obtain ⟨b, e⟩ := p
    cases b with
    | false =>
      match hm, h with
      | 0, h => simp only [heapRes, hp] at h; cases h; exact .inr ⟨by omega, rfl, fun _ e => by simp⟩
      | 1, h => simp only [heapRes, hp] at h; cases h; exact .inr ⟨by omega, rfl, fun _ e => by simp⟩
      | 2, h => simp [heapRes, hp] at h
      | n + 3, h => simp only [heapRes, hp] at h; cases h; exact .inr ⟨by omega, rfl, fun h => by omega⟩
    | true =>
      match hm, h with
      | 0, h => simp [heapRes, hp] at h
      | 1, h => simp [heapRes, hp] at h
      | 2, h =>
        simp only [heapRes, hp] at h
        split at h
        · rename_i hex; cases h; exact .inl ⟨rfl, e, rfl, hex, rfl⟩
        · cases h
      | n + 3, h => simp only [heapRes, hp] at h; cases h; exact .inr ⟨by omega, rfl, fun h => by omega⟩
theorem shOf_row {P : Program} {t : TypeId} {e : TypeId} : shOf P t ≠ some (.row e) := by
  unfold shOf
  intro h
  split at h
  · cases h
  · split at h
    · cases hq : cellTys P t <;> simp [hq] at h
    · cases h
theorem shsOf_row {P : Program} : ∀ {l : List TypeId} {ss : List Sh}, shsOf P l = some ss → ss.length = l.length ∧ ∀ (i : Nat) (e : TypeId), ss[i]? ≠ some (.row e)
  | [], ss, h => by simp [shsOf] at h; subst h; exact ⟨rfl, fun i e h => by simp at h⟩
  | t :: l, ss, h => by
    simp only [shsOf] at h
    split at h
    · rename_i s l' h1 h2
      simp at h; subst h
      obtain ⟨q1, q2⟩ := shsOf_row h2
      refine ⟨by simp [q1], fun i e => ?_⟩
      cases i with
      | zero => intro h; simp at h; subst h; exact shOf_row h1
      | succ i => simpa using q2 i e
    · cases h

/-- THE READER IS SOUND. -/
theorem fn_sound {G : Gl} {P : Program} {Fs : Nat → Fn} (hF : FsOk G P Fs) (hints : List (Nat × Hint)) (f : Nat) {ps rs : List Sh} {hm : Nat} (hsig : sigOf P G.cf f = some (ps, rs, hm)) {fuel : Nat} {ds r : List D} (h : eval Fs fuel (execFn P G.cf hints f) [] ds = some r) : Ok1 G P f ps rs hm ds r := by
  obtain ⟨fn, rs', hfn, hbody, hname, hps, hrs, hrse, hhm⟩ := sigOf_spec hsig
  intro w F vs φ d0 hd hds hin hargs
  unfold execFn at h
  simp only [hfn, hsig] at h
  split at h
  · rename_i c hc
    split at h
    · rename_i hsz
      refine calls_of_wp hfn hc ?_
      have hpr : ∀ (i : Nat) (e : TypeId), ps[i]? ≠ some (.row e) := by
        obtain ⟨ps0, hp0, rfl⟩ := hps
        intro i e h
        rcases Nat.lt_or_ge i ps0.length with hi | hi
        · rw [List.getElem?_append_left hi] at h
          exact (shsOf_row hp0).2 i e h
        · rw [List.getElem?_append_right hi, List.getElem?_map] at h
          cases hq : ((G.cf.cp.lookup f).getD [])[i - ps0.length]? <;> rw [hq] at h <;> simp at h
      obtain ⟨l1, l2, q⟩ := mkShs_sound (ρ := ds) (β := fun _ => .pointer none) (nn := 0) (n := 0) hargs (fun i d hi => by
        rw [hds, List.getD_eq_getElem?_getD, Nat.zero_add, List.getElem?_append_left (List.getElem?_eq_some_iff.1 hi).1, hi]; rfl) (fun i e u h => absurd h (hpr i e))
      have hvs : vs.length ≤ fn.ntmps := by
        rw [← l2]
        have : (mkShs ps 0 0).length = ps.length := by
          have : ∀ (l : List Sh) (n : Nat), (mkShs l n 0).length = l.length := by
            intro l
            induction l with
            | nil => intro n; rfl
            | cons s l ih => intro n; simp [mkShs, ih]
          exact this ps 0
        rw [this]
        exact hsz
      let X : Cx := { P := P, S := if hm = 2 then footL F φ else [], w0 := w, nt := fn.ntmps, F0 := F, G := G }
      have hlend : ds.length = (initSt G.cf ps hm).nv := by
        rw [hds, List.length_append, l1]
        unfold initSt
        simp only
        split
        · obtain ⟨h, e, _⟩ := hin.h12 (.inl rfl); rw [e]; rfl
        · obtain ⟨h, e, _⟩ := hin.h12 (.inr rfl); rw [e]; rfl
        · rename_i h1 h2
          rcases Nat.lt_or_ge hm 3 with h3 | h3
          · have h1' : hm ≠ 1 := h1
            have h2' : hm ≠ 2 := h2
            have : hm = 0 := by omega
            rw [hin.h0 this]; rfl
          · rw [(hin.h3 h3).1]; rfl
      have hS : ∀ b, b ∈ X.S → hm = 2 ∧ ∃ n, b ∈ φ n := by
        intro b hb
        simp only [X] at hb
        split at hb
        · rename_i h2
          obtain ⟨_, _, z⟩ := hin.h12 (.inr h2)
          exact ⟨h2, (mem_foot z.out).1 hb⟩
        · cases hb
      have hs : Sat X ds (initSt G.cf ps hm) F (fun _ => .pointer none) { tmps := vs.toArray ++ Array.replicate (fn.ntmps - vs.toArray.size) undef, defers := [] } w := by
        refine ⟨rfl, by show (vs.toArray ++ Array.replicate _ undef).size = fn.ntmps; simp; omega, fun b hb => ⟨hin.f b hb, fun n x hx => by cases hx⟩, ?_, (fun n x hx => by cases hx), (fun n m x y k hx => by cases hx), (fun n x k hx => by cases hx), chg_refl _ _, (fun e b hm => by cases hm), (fun n => rfl), fun b hb => .inl hb, ⟨hin.ok, fun b hb => ⟨hin.f b hb, fun hbS => ?_⟩⟩, ⟨rfl, hin.hc⟩, ⟨?_, fun n b t hn => ⟨(hin.g n b t hn).1, (hin.g n b t hn).2, fun j x hx => by cases hx⟩⟩, ⟨fun b hb => hb, List.prefix_refl _, rfl, fun _ => rfl⟩⟩
        · intro t sv ht
          obtain ⟨c, h1, h2, rfl⟩ := initTm_lookup ht
          have hlt : t < vs.length := by
            rw [← l2]
            have := (List.getElem?_eq_some_iff.1 h2).1
            omega
          have hv : vs[t]? = some vs[t] := List.getElem?_eq_getElem hlt
          refine ⟨vs[t], ?_, ?_⟩
          · simp [Array.getElem?_append, hlt]
          · have := q t c vs[t] (by simpa using h2) hv
            cases c <;> exact this
        · obtain ⟨h2, n, hn⟩ := hS b hbS
          obtain ⟨_, _, z⟩ := hin.h12 (.inr h2)
          exact (z.far n b hn).2 hb
        · intro m e he
          unfold initSt at he
          simp only at he
          have hvar : ∀ h, hd = [h] → den ds (.var (shSize ps)) = h := by
            intro h hh
            simp only [den, hds, hh, List.getD_eq_getElem?_getD]
            rw [List.getElem?_append_right (by omega), l1, Nat.sub_self]; rfl
          split at he
          · cases he
          · cases he
            obtain ⟨h, e1, z⟩ := hin.h12 (.inl rfl)
            exact ⟨φ, by rw [hvar h e1]; exact z, fun n k hk => ⟨(fun h => by cases h), fun j x hx => by cases hx⟩⟩
          · cases he
            obtain ⟨h, e1, z⟩ := hin.h12 (.inr rfl)
            exact ⟨φ, by rw [hvar h e1]; exact z, fun n k hk => ⟨fun _ => .inl ((mem_foot z.out).2 ⟨n, hk⟩), fun j x hx => by cases hx⟩⟩
          · rename_i h0 h1 h2
            cases he
            have h3 : 3 ≤ hm := by
              rcases Nat.lt_or_ge hm 3 with h3 | h3
              · exfalso
                rcases Nat.lt_or_ge hm 1 with h4 | h4
                · exact h0 (by omega)
                · rcases Nat.lt_or_ge hm 2 with h5 | h5
                  · exact h1 (by omega)
                  · exact h2 (by omega)
              · exact h3
            have hγ := (hin.h3 h3).2
            exact ⟨fun _ => [], ⟨by rw [hγ]; rfl, (fun n b t hn => by rw [hγ] at hn; simp at hn), (fun n m k h => by simp at h), (fun n k h => by simp at h), fun n _ => rfl⟩, fun n k h => by simp at h⟩
      refine exec_sound (X := X) (Q := bodyPost P fn _) hF hints c (L := []) h hlend.symm rfl hs ?_
      intro e st' lv' ext Lx Ft' β' a' w' q1 q2 q3 q4
      have hend : ∀ {e : Ex}, e = .normal ∨ e = .ret → eval Fs fuel (match finL P st' fn.results.toList with
          | some vs0 => frFz st' (st'.allRows.filter fun m => !(consumed rs vs0).contains m) fun st => match finL P st fn.results.toList with
            | some vs => match matRes P st rs vs, heapRes st hm with
              | some es, some hs => if (consumed rs vs).length ≤ 1 then .ret (es ++ hs) else .fail 29
              | _, _ => .fail 31
            | none => .fail 32
          | none => .fail 36) ([] ++ Lx) (ds ++ ext) = some r →
          a'.defers = [] ∧ ∃ v, (results fn a'.tmps).run P w' = .ok v w' ∧ ∃ v' F' φ', Ending.returned v = .returned v' ∧ HeapOut G P w F hm φ rs r v' w' F' φ' := by
        intro e _ he
        split at he
        · obtain ⟨st2, Ft2, q1, q3, he⟩ := frFz_sound he q1 q3
          split at he
          · rename_i svs hfin
            split at he
            · rename_i es hh hes hhs
              split at he
              · rename_i hle
                simp only [eval, Option.some.injEq] at he
                obtain ⟨us, z1, z2, z4, z3⟩ := finL_sound q3 hfin
                obtain ⟨m1, m2, m3, m4⟩ := matRes_sound q3 hes z2 z3
                refine ⟨q3.df, ?_⟩
                have hrun : (results fn a'.tmps).run P w' = .ok (if h : us.toArray.size = 1 then us.toArray[0] else .tuple us.toArray) w' := by
                  unfold results
                  rw [Array.mapM_eq_mapM_toList]
                  simp only [map_eq_pure_bind, Sem.run_bind, Sem.run_pure, bind_assoc, pure_bind]
                  exact congrArg (fun r => Result.andThen r fun (a : List Value) w' => Result.ok (if h : a.toArray.size = 1 then a.toArray[0] else Value.tuple a.toArray) w') z1
                have hparts : Value.parts rs (if h : us.toArray.size = 1 then us.toArray[0] else .tuple us.toArray) = us := by
                  unfold Value.parts
                  split
                  · rename_i s
                    obtain ⟨u, rfl⟩ := List.length_eq_one_iff.1 m1.symm
                    simp
                  · rename_i hne
                    have h1 : ¬ us.toArray.size = 1 := by
                      intro h1
                      have h1' : us.length = 1 := by simpa using h1
                      obtain ⟨s, rfl⟩ := List.length_eq_one_iff.1 (m1.trans h1')
                      exact hne s rfl
                    rw [dif_neg h1]
                have hresv : Res P w' Ft2 rs (es.map (den (ds ++ ext))) (if h : us.toArray.size = 1 then us.toArray[0] else .tuple us.toArray) := by
                  unfold Res
                  split
                  · rename_i s
                    obtain ⟨u, rfl⟩ := List.length_eq_one_iff.1 m1.symm
                    simpa using m2
                  · rename_i hne
                    have h1 : ¬ us.toArray.size = 1 := by
                      intro h1
                      have h1' : us.length = 1 := by simpa using h1
                      obtain ⟨s, rfl⟩ := List.length_eq_one_iff.1 (m1.trans h1')
                      exact hne s rfl
                    rw [dif_neg h1]
                    exact ⟨us, rfl, m2⟩
                have hle' : Le w F w' Ft2 := ⟨fun b hb => ⟨q3.fw.1 b hb, q3.chg.block b (hin.f b hb) (q3.gx.f0 b hb).2⟩, q3.fw.2.1, q3.fw.2.2.1⟩
                -- what is left of the heap
                have hheap : ∃ φ', (hm = 2 → ∃ h, hh.map (den (ds ++ ext)) = [h] ∧ HpOk P w' Ft2 G.cf.ob h [] φ' ∧ ∀ n k, k ∈ φ' n → (k ∈ X.S ∨ w.heap.size ≤ k) ∧ ∀ j x, st2.bx.lookup j = some x → x.bk (β' j) ≠ some k) ∧ (hm ≠ 2 → hh = []) ∧ (hm < 2 → Ft2.γ = F.γ) := by
                  rcases heapRes_spec hhs with ⟨h2, e', hp, hex, rfl⟩ | ⟨h2, rfl, hno⟩
                  · obtain ⟨φ', y1, y2⟩ := q3.hg.hp _ _ hp
                    rw [hex, q3.cf.1] at y1
                    exact ⟨φ', fun _ => ⟨_, rfl, y1, fun n k hk => ⟨(y2 n k hk).1 rfl, (y2 n k hk).2⟩⟩, (fun h => absurd h2 h), fun h => by omega⟩
                  · exact ⟨fun _ => [], (fun h => absurd h h2), fun _ => rfl, fun h => q3.fw.2.2.2 (hno h)⟩
                obtain ⟨φ', hh2, hhn, hγ⟩ := hheap
                have hXS : ∀ k, k ∈ X.S ↔ k ∈ (if hm = 2 then footL F φ else []) := fun k => Iff.rfl
                have hSf : ∀ k, k ∈ X.S → hm = 2 ∧ k ∈ footL F φ := by
                  intro k hk
                  rw [hXS] at hk
                  split at hk
                  · rename_i h2; exact ⟨h2, hk⟩
                  · cases hk
                refine ⟨_, hrun, _, Ft2, φ', rfl, q3.chg, hle', hγ, fun b hb => ⟨(q3.ft b hb).1, ?_⟩, fun k hk => ?_, ?_, es.map (den (ds ++ ext)), hh.map (den (ds ++ ext)), by rw [← he, List.map_append], hresv, ?_⟩
                · rcases q3.f0 b hb with h | h | h
                  · exact .inl h
                  · exact .inr (.inl h)
                  · exact .inr (.inr (hSf b h))
                · rw [hparts] at hk
                  obtain ⟨m, x, y1, y2, y3⟩ := m3 k hk
                  obtain ⟨o1, o2⟩ := q3.own m x k y2 y3
                  refine ⟨o1, fun hf => (q3.ft k hf).2 m x y2 y3, o2.elim (fun h => .inr (hSf k h)) .inl, fun n h2 hn => ?_⟩
                  obtain ⟨_, _, _, y4⟩ := hh2 h2
                  exact (y4 n k hn).2 m x y2 y3
                · rw [hparts]
                  have : (rowsB rs us).length ≤ 1 := Nat.le_trans m4 hle
                  cases hr : rowsB rs us with
                  | nil => exact List.nodup_nil
                  | cons a l =>
                    rw [hr] at this
                    cases l with
                    | nil => simp
                    | cons b l => simp at this
                · split
                  · rename_i h2
                    obtain ⟨h', y1, y2, y3⟩ := hh2 h2
                    exact ⟨h', y1, y2, fun n k hk => (y3 n k hk).1.elim (fun h => .inr (hSf k h).2) .inl⟩
                  · rename_i h2
                    rw [hhn h2]; rfl
              · cases he
            · cases he
          · cases he
        · cases he
      cases e with
      | normal => exact hend (e := .normal) (.inl rfl) q4
      | ret => exact hend (e := .ret) (.inr rfl) q4
      | exit i => cases q4
    · cases h
  · cases h
end Go.Proofs.YtnbnjkbkjmlomaaDoor.Eng
