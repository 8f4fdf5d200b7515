/-
  A reader of Go functions, part M: a function: what its program gives is what it returns.
-/
import Derived.Test.YtobacchojjfpfaaGreatDoorEngL
namespace Go.Proofs.YtobacchojjfpfaaGreatDoor.Eng
open Go.RowKit
set_option linter.unusedVariables false
set_option linter.unusedSimpArgs false

def initTm : List Sh → Nat → Nat → List (Nat × SV)
  | [], _, _ => []
  | s :: l, t, n => (t, (s.mk n 0).sv) :: initTm l (t + 1) (n + s.size)
def initSt (cf : Cf) (ps : List Sh) (hm : Nat) : St :=
  let n := shSize ps
  { tm := initTm ps 0 0, bx := (rowBx ps 0).map fun x => (0, x), nn := (rowBx ps 0).length, nv := (match hm with | 1 => n + 1 | 2 => n + 1 | _ => n), fs := [], ex := [], cf := cf,
    hp := (match hm with | 0 => none | 1 => some (false, .var n) | 2 => some (true, .var n) | _ => some (true, .lnil)) }
def finOne (P : Program) (st : St) : ResultVar → Option SV
  | .tmp t => st.tm.lookup t
  | .cell a t => match st.tm.lookup a with
    | some (.one (.ptr n off)) => match st.bx.lookup n with
      | some (.box _ cs) => pickCells P t cs off
      | _ => none
    | _ => none
def finL (P : Program) (st : St) : List ResultVar → Option (List SV)
  | [] => some []
  | r :: l => match finOne P st r, finL P st l with
    | some v, some vs => some (v :: vs)
    | _, _ => none
def heapRes (st : St) (hm : Nat) : Option (List E) :=
  match hm, st.hp with
  | 0, some (true, _) => none
  | 1, some (true, _) => none
  | 0, _ => some []
  | 1, _ => some []
  | 2, some (true, h) => if st.ex = [] then some [h] else none
  | 2, _ => none
  | _, _ => some []
def fin (P : Program) (fn : Func) (rs : List Sh) (hm : Nat) (e : Ex) (st : St) (lv : Nat) : T :=
  match e with
  | .exit _ => .fail 30
  | _ => match finL P st fn.results.toList with
    | some vs0 => frFz st (st.allRows.filter fun m => !(consumed rs vs0).contains m) fun st => match finL P st fn.results.toList with
      | some vs => match matRes P st rs vs, heapRes st hm with
        | some es, some hs => if (consumed rs vs).length ≤ 1 then .ret (es ++ hs) else .fail 29
        | _, _ => .fail 31
      | none => .fail 32
    | none => .fail 36
/-- The package-level arrays that were named are of words. -/
def gsWf (P : Program) (gs : List (Nat × TypeId × List ByteArray)) : Bool := gs.all fun e => decide (cellTys P e.2.1 = some [.str])
theorem gsWf_sound {P : Program} : ∀ {gs : List (Nat × TypeId × List ByteArray)}, gsWf P gs = true → ∀ g t l, gs.lookup g = some (t, l) → cellTys P t = some [.str]
  | (g', t', l') :: gs, h, g, t, l, hl => by
    simp only [gsWf, List.all_cons, Bool.and_eq_true, decide_eq_true_eq] at h
    simp only [List.lookup_cons] at hl
    split at hl
    · simp only [Option.some.injEq, Prod.mk.injEq] at hl
      rw [← hl.1]; exact h.1
    · exact gsWf_sound (gs := gs) h.2 g t l hl
def execFn (P : Program) (cf : Cf) (hints : List (Nat × Hint)) (f : Nat) : T :=
  match P.funcs[f]?, sigOf P cf f with
  | some fn, some (ps, rs, hm) => match fn.body with
    | some c => if ps.length ≤ fn.ntmps ∧ (rowBx ps 0).length ≤ 1 ∧ gsWf P cf.gs = true then exec P fn.ntmps hints c (initSt cf ps hm) 0 (fin P fn rs hm) else .fail 33
    | none => .fail 34
  | _, _ => .fail 35

theorem initTm_lookup : ∀ {ps : List Sh} {t0 n t : Nat} {sv : SV}, (initTm ps t0 n).lookup t = some sv → ∃ c, t0 ≤ t ∧ (mkShs ps n 0)[t - t0]? = some c ∧ sv = c.sv
  | [], t0, n, t, sv, h => by cases h
  | s :: l, t0, n, t, sv, h => by
    simp only [initTm] at h
    rw [List.lookup_cons] at h
    split at h
    · rename_i he
      simp at he h; subst he h
      exact ⟨s.mk n 0, Nat.le_refl _, by simp [mkShs], rfl⟩
    · obtain ⟨c, h1, h2, h3⟩ := initTm_lookup h
      refine ⟨c, by omega, ?_, h3⟩
      simp only [mkShs]
      rw [show t - t0 = (t - (t0 + 1)) + 1 by omega, List.getElem?_cons_succ]
      exact h2
section
variable {X : Cx} {ρ : List D} {st : St} {Ft : Fr} {β : Nat → Value} {a : Act} {w : World}
theorem finOne_sound (hs : Sat X ρ st Ft β a w) {r : ResultVar} {sv : SV} (h : finOne X.P st r = some sv) :
    ∃ v, ((fun r => match r with | .tmp t => pure (a.tmps.getD t undef) | .cell b t => do loadVar t (← asAddr (a.tmps.getD b undef)) : ResultVar → Sem Value) r).run X.P w = .ok v w ∧ RV X.P w Ft ρ β sv v := by
  cases r with
  | tmp t =>
    obtain ⟨v, h1, h2⟩ := hs.tm t sv h
    exact ⟨v, by simp [h1], h2⟩
  | cell b t =>
    simp only [finOne] at h
    split at h
    · rename_i n off hl
      split at h
      · rename_i bt cs hb
        obtain ⟨v, h1, h2⟩ := hs.tm _ _ hl
        obtain ⟨b', e1, e2⟩ := h2
        obtain ⟨b'', vs, f1, f2, f3⟩ := hs.bx _ _ hb
        obtain rfl : b'' = b' := by rw [f1] at e1; simpa using e1
        obtain ⟨u, hu1, hu2⟩ := pick_load h f3 (b := b'') (o := 0) (fun j v hj => by
          rw [Nat.zero_add]
          simp [World.cell?, f2, hj])
        rw [Nat.zero_add] at hu1
        exact ⟨u, by simp [h1, e2, asAddr, hu1], hu2⟩
      · cases h
    · cases h
theorem finL_sound (hs : Sat X ρ st Ft β a w) : ∀ {rs : List ResultVar} {svs : List SV}, finL X.P st rs = some svs →
    ∃ vs : List Value, (rs.mapM (fun r => match r with | .tmp t => pure (a.tmps.getD t undef) | .cell b t => do loadVar t (← asAddr (a.tmps.getD b undef)) : ResultVar → Sem Value)).run X.P w = .ok vs w ∧ svs.length = vs.length ∧ vs.length = rs.length ∧
      ∀ (i : Nat) (s : SV) (v : Value), svs[i]? = some s → vs[i]? = some v → RV X.P w Ft ρ β s v
  | [], svs, h => by simp [finL] at h; subst h; exact ⟨[], by simp, rfl, rfl, fun i s v q => by simp at q⟩
  | r :: rs, svs, h => by
    simp only [finL] at h
    split at h
    · rename_i v vs h1 h2
      simp at h; subst h
      obtain ⟨u, q1, q2⟩ := finOne_sound hs h1
      obtain ⟨us, z1, z2, z4, z3⟩ := finL_sound hs h2
      refine ⟨u :: us, ?_, by simp [z2], by simp [z4], fun i => ?_⟩
      · rw [List.mapM_cons]
        simp only [Sem.run_bind, q1, z1, Result.andThen_ok, Sem.run_pure]
      · cases i with
        | zero => intro s v' a1 a2; simp at a1 a2; subst a1 a2; exact q2
        | succ i => intro s v' a1 a2; exact z3 i s v' (by simpa using a1) (by simpa using a2)
    · cases h
end
theorem heapRes_spec {st : St} {hm : Nat} {hh : List E} (h : heapRes st hm = some hh) : (hm = 2 ∧ ∃ e, st.hp = some (true, e) ∧ st.ex = [] ∧ hh = [e]) ∨ (hm ≠ 2 ∧ hh = [] ∧ (hm < 2 → ∀ e, st.hp ≠ some (true, e))) := by
  cases hp : st.hp with
  | none =>
    match hm, h with
    | 0, h => simp only [heapRes, hp] at h; cases h; exact .inr ⟨by omega, rfl, fun _ e => by simp⟩
    | 1, h => simp only [heapRes, hp] at h; cases h; exact .inr ⟨by omega, rfl, fun _ e => by simp⟩
    | 2, h => simp [heapRes, hp] at h
    | n + 3, h => simp only [heapRes, hp] at h; cases h; exact .inr ⟨by omega, rfl, fun h => by omega⟩
  | some p =>
    obtain ⟨b, e⟩ := p
    cases b with
    | false =>
      match hm, h with
      | 0, h => simp only [heapRes, hp] at h; cases h; exact .inr ⟨by omega, rfl, fun _ e => by simp⟩
      | 1, h => simp only [heapRes, hp] at h; cases h; exact .inr ⟨by omega, rfl, fun _ e => by simp⟩
      | 2, h => simp [heapRes, hp] at h
      | n + 3, h => simp only [heapRes, hp] at h; cases h; exact .inr ⟨by omega, rfl, fun h => by omega⟩
    | true =>
      match hm, h with
      | 0, h => simp [heapRes, hp] at h
      | 1, h => simp [heapRes, hp] at h
      | 2, h =>
        simp only [heapRes, hp] at h
        split at h
        · rename_i hex; cases h; exact .inl ⟨rfl, e, rfl, hex, rfl⟩
        · cases h
      | n + 3, h => simp only [heapRes, hp] at h; cases h; exact .inr ⟨by omega, rfl, fun h => by omega⟩
theorem shOf_row {P : Program} {t : TypeId} {e : TypeId} : shOf P t ≠ some (.row e) := by
  unfold shOf
  intro h
  split at h
  · cases h
  · split at h
    · cases hq : cellTys P t <;> simp [hq] at h
    · cases h
theorem shsOf_row {P : Program} : ∀ {l : List TypeId} {ss : List Sh}, shsOf P l = some ss → ss.length = l.length ∧ ∀ (i : Nat) (e : TypeId), ss[i]? ≠ some (.row e)
  | [], ss, h => by simp [shsOf] at h; subst h; exact ⟨rfl, fun i e h => by simp at h⟩
  | t :: l, ss, h => by
    simp only [shsOf] at h
    split at h
    · rename_i s l' h1 h2
      simp at h; subst h
      obtain ⟨q1, q2⟩ := shsOf_row h2
      refine ⟨by simp [q1], fun i e => ?_⟩
      cases i with
      | zero => intro h; simp at h; subst h; exact shOf_row h1
      | succ i => simpa using q2 i e
    · cases h

/-- THE READER IS SOUND. -/
theorem fn_sound {G : Gl} {P : Program} {Fs : Nat → Fn} (hF : FsOk G P Fs) (hints : List (Nat × Hint)) (f : Nat) {ps rs : List Sh} {hm : Nat} (hsig : sigOf P G.cf f = some (ps, rs, hm)) {fuel : Nat} {ds r : List D} (h : eval Fs fuel (execFn P G.cf hints f) [] ds = some r) : Ok1 G P f ps rs hm ds r := by
  obtain ⟨fn, rs', hfn, hbody, hname, hps, hrs, hrse, hhm⟩ := sigOf_spec hsig
  intro w F vs φ d0 hd hds hin hargs
  unfold execFn at h
  simp only [hfn, hsig] at h
  split at h
  · rename_i c hc
    split at h
    · rename_i hcond
      obtain ⟨hsz, hrow1, hgw⟩ := hcond
      refine calls_of_wp hfn hc ?_
      have hgetD : ∀ (i : Nat) (d : D), d0[i]? = some d → ds.getD (0 + i) .nil = d := fun i d hi => by
        rw [hds, List.getD_eq_getElem?_getD, Nat.zero_add, List.getElem?_append_left (List.getElem?_eq_some_iff.1 hi).1, hi]; rfl
      -- the row among the parameters, if there is one
      have hrowp : ∃ β0 : Nat → Value, (∀ n, (β0 n).oneCell' = true) ∧ (∀ (i : Nat) (e : TypeId) (u : Value), ps[i]? = some (.row e) → vs[i]? = some u → u = β0 0) ∧ ∀ n x, ((rowBx ps 0).map fun x => ((0 : Nat), x)).lookup n = some x → n = 0 ∧ BoxOk P w F ds β0 x (β0 0) ∧ ∀ k, x.bk (β0 0) = some k → k ∈ rowsB ps vs := by
        rcases rowBx_sound (P := P) (w := w) (F := F) (ρ := ds) (β := fun _ => .pointer none) (n := 0) hargs hgetD hrow1 with ⟨e1, e2, e3⟩ | ⟨e, k, u, e1, e2, e3, e4, e5, e6⟩
        · exact ⟨fun _ => .pointer none, (fun n => rfl), (fun i e u h => absurd h (e3 i e)), fun n x h => by rw [e1] at h; cases h⟩
        · refine ⟨fun _ => u, (fun n => e5), e6, fun n x h => ?_⟩
          rw [e1] at h
          simp only [List.map_cons, List.map_nil, List.lookup_cons] at h
          split at h
          · rename_i hn
            simp at hn h
            subst hn h
            exact ⟨rfl, e3.beta (fun t cs h => by cases h), fun k' hk' => by rw [e4]; rw [Box.bk_vec] at hk'; rw [hk']; simp⟩
          · cases h
      obtain ⟨β0, hβ1, hβ2, hbx⟩ := hrowp
      obtain ⟨l1, l2, q⟩ := mkShs_sound (ρ := ds) (β := β0) (nn := 0) (n := 0) hargs hgetD hβ2
      have hvs : vs.length ≤ fn.ntmps := by
        rw [← l2]
        have : (mkShs ps 0 0).length = ps.length := by
          have : ∀ (l : List Sh) (n : Nat), (mkShs l n 0).length = l.length := by
            intro l
            induction l with
            | nil => intro n; rfl
            | cons s l ih => intro n; simp [mkShs, ih]
          exact this ps 0
        rw [this]
        exact hsz
      let X : Cx := { P := P, S := may F φ hm (rowsB ps vs), w0 := w, nt := fn.ntmps, F0 := F, G := G }
      have hlend : ds.length = (initSt G.cf ps hm).nv := by
        rw [hds, List.length_append, l1]
        unfold initSt
        simp only
        split
        · obtain ⟨h, e, _⟩ := hin.h12 (.inl rfl); rw [e]; rfl
        · obtain ⟨h, e, _⟩ := hin.h12 (.inr rfl); rw [e]; rfl
        · rename_i h1 h2
          rcases Nat.lt_or_ge hm 3 with h3 | h3
          · have h1' : hm ≠ 1 := h1
            have h2' : hm ≠ 2 := h2
            have : hm = 0 := by omega
            rw [hin.h0 this]; rfl
          · rw [(hin.h3 h3).1]; rfl
      have hS : ∀ b, b ∈ X.S → (hm = 2 ∧ ∃ n, b ∈ φ n) ∨ b ∈ rowsB ps vs := by
        intro b hb
        rcases mem_may.1 hb with ⟨h2, hb⟩ | hb
        · obtain ⟨_, _, z⟩ := hin.h12 (.inr h2)
          exact .inl ⟨h2, (mem_foot z.out).1 hb⟩
        · exact .inr hb
      have hbxk : ∀ n x k, (initSt G.cf ps hm).bx.lookup n = some x → x.bk (β0 n) = some k → n = 0 ∧ k ∈ rowsB ps vs := fun n x k hx hk => by
        obtain ⟨rfl, _, h3⟩ := hbx n x hx
        exact ⟨rfl, h3 k hk⟩
      have hs : Sat X ds (initSt G.cf ps hm) F β0 { tmps := vs.toArray ++ Array.replicate (fn.ntmps - vs.toArray.size) undef, defers := [] } w := by
        refine ⟨rfl, by show (vs.toArray ++ Array.replicate _ undef).size = fn.ntmps; simp; omega, fun b hb => ⟨hin.f b hb, fun n x hx hk => (hin.r b (hbxk n x b hx hk).2).2.1 hb⟩, ?_, (fun n x hx => by obtain ⟨rfl, h2, _⟩ := hbx n x hx; exact h2), (fun n m x y k hx hy h1 h2 => by rw [(hbxk n x k hx h1).1, (hbxk m y k hy h2).1]), (fun n x k hx hk => ⟨(hin.r k (hbxk n x k hx hk).2).1, .inl (mem_may.2 (.inr (hbxk n x k hx hk).2))⟩), chg_refl _ _, (fun e b hm => by cases hm), hβ1, fun b hb => .inl hb, ⟨hin.ok, (fun b hb => ⟨hin.f b hb, fun hbS => ?_⟩), gsWf_sound hgw⟩, ⟨rfl, hin.hc⟩, ⟨?_, fun n b t hn => ⟨(hin.g n b t hn).1, (hin.g n b t hn).2, fun j x hx hk => (hin.r b (hbxk j x b hx hk).2).2.2.2 n b t hn rfl⟩⟩, ⟨fun b hb => hb, List.prefix_refl _, rfl, fun _ => rfl⟩⟩
        · intro t sv ht
          obtain ⟨c, h1, h2, rfl⟩ := initTm_lookup ht
          have hlt : t < vs.length := by
            rw [← l2]
            have := (List.getElem?_eq_some_iff.1 h2).1
            omega
          have hv : vs[t]? = some vs[t] := List.getElem?_eq_getElem hlt
          refine ⟨vs[t], ?_, ?_⟩
          · simp [Array.getElem?_append, hlt]
          · have := q t c vs[t] (by simpa using h2) hv
            cases c <;> exact this
        · rcases hS b hbS with ⟨h2, n, hn⟩ | hr
          · obtain ⟨_, _, z⟩ := hin.h12 (.inr h2)
            exact (z.far n b hn).2 hb
          · exact (hin.r b hr).2.1 hb
        · intro m e he
          unfold initSt at he
          simp only at he
          have hvar : ∀ h, hd = [h] → den ds (.var (shSize ps)) = h := by
            intro h hh
            simp only [den, hds, hh, List.getD_eq_getElem?_getD]
            rw [List.getElem?_append_right (by omega), l1, Nat.sub_self]; rfl
          split at he
          · cases he
          · cases he
            obtain ⟨h, e1, z⟩ := hin.h12 (.inl rfl)
            exact ⟨φ, by rw [hvar h e1]; exact z, fun n k hk => ⟨(fun h => by cases h), fun j x hx hk' => (hin.r k (hbxk j x k hx hk').2).2.2.1 n hk⟩⟩
          · cases he
            obtain ⟨h, e1, z⟩ := hin.h12 (.inr rfl)
            exact ⟨φ, by rw [hvar h e1]; exact z, fun n k hk => ⟨fun _ => .inl (mem_may.2 (.inl ⟨rfl, (mem_foot z.out).2 ⟨n, hk⟩⟩)), fun j x hx hk' => (hin.r k (hbxk j x k hx hk').2).2.2.1 n hk⟩⟩
          · rename_i h0 h1 h2
            cases he
            have h3 : 3 ≤ hm := by
              rcases Nat.lt_or_ge hm 3 with h3 | h3
              · exfalso
                rcases Nat.lt_or_ge hm 1 with h4 | h4
                · exact h0 (by omega)
                · rcases Nat.lt_or_ge hm 2 with h5 | h5
                  · exact h1 (by omega)
                  · exact h2 (by omega)
              · exact h3
            have hγ := (hin.h3 h3).2
            exact ⟨fun _ => [], ⟨by rw [hγ]; rfl, (fun n b t hn => by rw [hγ] at hn; simp at hn), (fun n m k h => by simp at h), (fun n k h => by simp at h), fun n _ => rfl⟩, fun n k h => by simp at h⟩
      refine exec_sound (X := X) (Q := bodyPost P fn _) hF hints c (L := []) h hlend.symm rfl hs ?_
      intro e st' lv' ext Lx Ft' β' a' w' q1 q2 q3 q4
      have hend : ∀ {e : Ex}, e = .normal ∨ e = .ret → eval Fs fuel (match finL P st' fn.results.toList with
          | some vs0 => frFz st' (st'.allRows.filter fun m => !(consumed rs vs0).contains m) fun st => match finL P st fn.results.toList with
            | some vs => match matRes P st rs vs, heapRes st hm with
              | some es, some hs => if (consumed rs vs).length ≤ 1 then .ret (es ++ hs) else .fail 29
              | _, _ => .fail 31
            | none => .fail 32
          | none => .fail 36) ([] ++ Lx) (ds ++ ext) = some r →
          a'.defers = [] ∧ ∃ v, (results fn a'.tmps).run P w' = .ok v w' ∧ ∃ v' F' φ', Ending.returned v = .returned v' ∧ HeapOut G P w F hm φ (rowsB ps vs) rs r v' w' F' φ' := by
        intro e _ he
        split at he
        · obtain ⟨st2, Ft2, q1, q3, he⟩ := frFz_sound he q1 q3
          split at he
          · rename_i svs hfin
            split at he
            · rename_i es hh hes hhs
              split at he
              · rename_i hle
                simp only [eval, Option.some.injEq] at he
                obtain ⟨us, z1, z2, z4, z3⟩ := finL_sound q3 hfin
                obtain ⟨m1, m2, m3, m4⟩ := matRes_sound q3 hes z2 z3
                refine ⟨q3.df, ?_⟩
                have hrun : (results fn a'.tmps).run P w' = .ok (if h : us.toArray.size = 1 then us.toArray[0] else .tuple us.toArray) w' := by
                  unfold results
                  rw [Array.mapM_eq_mapM_toList]
                  simp only [map_eq_pure_bind, Sem.run_bind, Sem.run_pure, bind_assoc, pure_bind]
                  exact congrArg (fun r => Result.andThen r fun (a : List Value) w' => Result.ok (if h : a.toArray.size = 1 then a.toArray[0] else Value.tuple a.toArray) w') z1
                have hparts : Value.parts rs (if h : us.toArray.size = 1 then us.toArray[0] else .tuple us.toArray) = us := by
                  unfold Value.parts
                  split
                  · rename_i s
                    obtain ⟨u, rfl⟩ := List.length_eq_one_iff.1 m1.symm
                    simp
                  · rename_i hne
                    have h1 : ¬ us.toArray.size = 1 := by
                      intro h1
                      have h1' : us.length = 1 := by simpa using h1
                      obtain ⟨s, rfl⟩ := List.length_eq_one_iff.1 (m1.trans h1')
                      exact hne s rfl
                    rw [dif_neg h1]
                have hresv : Res P w' Ft2 rs (es.map (den (ds ++ ext))) (if h : us.toArray.size = 1 then us.toArray[0] else .tuple us.toArray) := by
                  unfold Res
                  split
                  · rename_i s
                    obtain ⟨u, rfl⟩ := List.length_eq_one_iff.1 m1.symm
                    simpa using m2
                  · rename_i hne
                    have h1 : ¬ us.toArray.size = 1 := by
                      intro h1
                      have h1' : us.length = 1 := by simpa using h1
                      obtain ⟨s, rfl⟩ := List.length_eq_one_iff.1 (m1.trans h1')
                      exact hne s rfl
                    rw [dif_neg h1]
                    exact ⟨us, rfl, m2⟩
                have hle' : Le w F w' Ft2 := ⟨fun b hb => ⟨q3.fw.1 b hb, q3.chg.block b (hin.f b hb) (q3.gx.f0 b hb).2⟩, q3.fw.2.1, q3.fw.2.2.1⟩
                -- what is left of the heap
                have hheap : ∃ φ', (hm = 2 → ∃ h, hh.map (den (ds ++ ext)) = [h] ∧ HpOk P w' Ft2 G.cf.ob h [] φ' ∧ ∀ n k, k ∈ φ' n → (k ∈ X.S ∨ w.heap.size ≤ k) ∧ ∀ j x, st2.bx.lookup j = some x → x.bk (β' j) ≠ some k) ∧ (hm ≠ 2 → hh = []) ∧ (hm < 2 → Ft2.γ = F.γ) := by
                  rcases heapRes_spec hhs with ⟨h2, e', hp, hex, rfl⟩ | ⟨h2, rfl, hno⟩
                  · obtain ⟨φ', y1, y2⟩ := q3.hg.hp _ _ hp
                    rw [hex, q3.cf.1] at y1
                    exact ⟨φ', fun _ => ⟨_, rfl, y1, fun n k hk => ⟨(y2 n k hk).1 rfl, (y2 n k hk).2⟩⟩, (fun h => absurd h2 h), fun h => by omega⟩
                  · exact ⟨fun _ => [], (fun h => absurd h h2), fun _ => rfl, fun h => q3.fw.2.2.2 (hno h)⟩
                obtain ⟨φ', hh2, hhn, hγ⟩ := hheap
                refine ⟨_, hrun, _, Ft2, φ', rfl, q3.chg, hle', hγ, fun b hb => ⟨(q3.ft b hb).1, ?_⟩, fun k hk => ?_, ?_, es.map (den (ds ++ ext)), hh.map (den (ds ++ ext)), by rw [← he, List.map_append], hresv, ?_⟩
                · rcases q3.f0 b hb with h | h | h
                  · exact .inl h
                  · exact .inr (.inl h)
                  · exact .inr (.inr h)
                · rw [hparts] at hk
                  obtain ⟨m, x, y1, y2, y3⟩ := m3 k hk
                  obtain ⟨o1, o2⟩ := q3.own m x k y2 y3
                  refine ⟨o1, fun hf => (q3.ft k hf).2 m x y2 y3, o2.elim .inr .inl, fun n h2 hn => ?_⟩
                  obtain ⟨_, _, _, y4⟩ := hh2 h2
                  exact (y4 n k hn).2 m x y2 y3
                · rw [hparts]
                  have : (rowsB rs us).length ≤ 1 := Nat.le_trans m4 hle
                  cases hr : rowsB rs us with
                  | nil => exact List.nodup_nil
                  | cons a l =>
                    rw [hr] at this
                    cases l with
                    | nil => simp
                    | cons b l => simp at this
                · split
                  · rename_i h2
                    obtain ⟨h', y1, y2, y3⟩ := hh2 h2
                    exact ⟨h', y1, y2, fun n k hk => (y3 n k hk).1.elim .inr .inl⟩
                  · rename_i h2
                    rw [hhn h2]; rfl
              · cases he
            · cases he
          · cases he
        · cases he
      cases e with
      | normal => exact hend (e := .normal) (.inl rfl) q4
      | ret => exact hend (e := .ret) (.inr rfl) q4
      | exit i => cases q4
    · cases h
  · cases h
end Go.Proofs.YtobacchojjfpfaaGreatDoor.Eng
