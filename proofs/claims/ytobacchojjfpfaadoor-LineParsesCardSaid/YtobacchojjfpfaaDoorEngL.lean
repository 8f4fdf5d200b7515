/-
  A reader of Go functions, part L: the code of a function, sound.
-/
import Derived.Test.YtobacchojjfpfaaDoorEngK
import Derived.LoopN
namespace Go.Proofs.YtobacchojjfpfaaDoor.Eng
open Go.RowKit
set_option linter.unusedVariables false
set_option linter.unusedSimpArgs false

section
variable {P : Program} {w : World} {F : Fr} {ρ : List D} {β : Nat → Value}
/-- What the variables from ρ's end on stand for. -/
def Stands (ρ ρ' xs : List D) (n0 k : Nat) (asg : List (Nat × E)) : Prop := ∀ n e, asg.lookup n = some e → n0 ≤ n → n < n0 + k → (ρ ++ xs).getD n .nil = den ρ' e
variable {ρ' xs : List D} {n0 k : Nat} {all : List (Nat × E)}
theorem agC_sound {ext : List D} (hn0 : ρ.length = n0) (hst : Stands ρ (ρ ++ ext) xs n0 k all) {c c' : C} {asg : List (Nat × E)} (h : agC n0 c c' = some asg) (ha : ∀ p ∈ asg, all.lookup p.1 = some p.2 ∧ p.1 < n0 + k) {v : Value}
    (hr : RC P w F (ρ ++ ext) β c' v) : RC P w F (ρ ++ xs) β c v := by
  subst hn0
  unfold agC at h
  split at h
  · rename_i t n
    split at h
    · rename_i hle
      cases hm : mat t c' with
      | none => simp [hm] at h
      | some e =>
        simp [hm] at h; subst h
        have := ha _ (List.mem_singleton.2 rfl)
        have hx := hst n e this.1 hle this.2
        have hd := mat_sound hm hr
        show Rd _ _ _ _ ((ρ ++ xs).getD n .nil) _
        rw [hx]
        exact hd
    · rename_i hlt
      split at h
      · rename_i hc
        subst hc
        have hsc : (C.dat t (.var n)).sc ρ.length = true := by simp [C.sc, E.sc]; omega
        exact (hr.cut hsc).ext _ hsc
      · cases h
  · split at h
    · rename_i hc
      simp only [Bool.and_eq_true, decide_eq_true_eq] at hc
      obtain ⟨rfl, hsc⟩ := hc
      exact (hr.cut hsc).ext _ hsc
    · cases h
theorem agCs_sound {ext : List D} (hn0 : ρ.length = n0) (hst : Stands ρ (ρ ++ ext) xs n0 k all) : ∀ {cs cs' : List C} {asg : List (Nat × E)} {vs : List Value}, agCs n0 cs cs' = some asg → (∀ p ∈ asg, all.lookup p.1 = some p.2 ∧ p.1 < n0 + k) →
    RCL P w F (ρ ++ ext) β cs' vs → RCL P w F (ρ ++ xs) β cs vs
  | [], [], asg, vs, h, ha, hr => ⟨hr.1, fun i c v q => by simp at q⟩
  | [], d :: ds, asg, vs, h, ha, hr => by simp [agCs] at h
  | c :: cs, [], asg, vs, h, ha, hr => by simp [agCs] at h
  | c :: cs, d :: ds, asg, [], h, ha, hr => by have := hr.1; simp at this
  | c :: cs, d :: ds, asg, v :: vs, h, ha, hr => by
    simp only [agCs] at h
    split at h
    · rename_i a b h1 h2
      simp at h; subst h
      exact RCL.cons (agC_sound hn0 hst h1 (fun p hp => ha p (List.mem_append_left _ hp)) (hr.2 0 d v rfl rfl))
        (agCs_sound hn0 hst h2 (fun p hp => ha p (List.mem_append_right _ hp)) ⟨by have := hr.1; simpa using this, fun i c v h1 h2 => hr.2 (i + 1) c v h1 h2⟩)
    · cases h
theorem agSV_sound {ext : List D} (hn0 : ρ.length = n0) (hst : Stands ρ (ρ ++ ext) xs n0 k all) {s s' : SV} {asg : List (Nat × E)} (h : agSV n0 s s' = some asg) (ha : ∀ p ∈ asg, all.lookup p.1 = some p.2 ∧ p.1 < n0 + k) {v : Value}
    (hr : RV P w F (ρ ++ ext) β s' v) : RV P w F (ρ ++ xs) β s v := by
  unfold agSV at h
  split at h
  · exact agC_sound hn0 hst h ha hr
  · obtain ⟨vs, e, hl⟩ := hr
    exact ⟨vs, e, agCs_sound hn0 hst h ha hl⟩
  · split at h
    · rename_i hc
      simp only [Bool.and_eq_true, decide_eq_true_eq] at hc
      obtain ⟨rfl, hsc⟩ := hc
      rw [← hn0] at hsc
      exact (hr.cut hsc).ext _ hsc
    · cases h
theorem agBox_sound {ext : List D} (hn0 : ρ.length = n0) (hst : Stands ρ (ρ ++ ext) xs n0 k all) {s s' : Box} {asg : List (Nat × E)} (h : agBox n0 s s' = some asg) (ha : ∀ p ∈ asg, all.lookup p.1 = some p.2 ∧ p.1 < n0 + k) {v : Value}
    (hr : BoxOk P w F (ρ ++ ext) β s' v) : BoxOk P w F (ρ ++ xs) β s v := by
  unfold agBox at h
  split at h
  · split at h
    · rename_i ht
      subst ht
      obtain ⟨b, vs, e1, e2, hl⟩ := hr
      exact ⟨b, vs, e1, e2, agCs_sound hn0 hst h ha hl⟩
    · cases h
  · rename_i e n e' y
    split at h
    · rename_i hc
      obtain ⟨rfl, hle⟩ := hc
      simp at h; subst h
      have := ha _ (List.mem_singleton.2 rfl)
      have hx := hst n y this.1 hle this.2
      obtain ⟨ts, xs', h1, h2, h3⟩ := hr
      have hd : den (ρ ++ xs) (.var n) = den (ρ ++ ext) y := hx
      exact ⟨ts, xs', h1, by rw [hd]; exact h2, by rw [hd]; exact h3⟩
    · split at h
      · rename_i hc
        obtain ⟨he, hsc⟩ := hc
        cases he
        have hsc' : (Box.vec e (.var n)).sc ρ.length = true := by rw [hn0]; exact hsc
        exact (hr.cut hsc').ext _ hsc'
      · cases h
  · rename_i e n e' y
    split at h
    · rename_i hc
      obtain ⟨rfl, hle⟩ := hc
      simp at h; subst h
      have := ha _ (List.mem_singleton.2 rfl)
      have hx := hst n y this.1 hle this.2
      obtain ⟨b, k', e', ts, us, g, h, es, h1⟩ := hr
      have hd : den (ρ ++ xs) (.var n) = den (ρ ++ ext) y := hx
      exact ⟨b, k', e', ts, us, g, h, es, by rw [hd]; exact h1⟩
    · split at h
      · rename_i hc
        obtain ⟨he, hsc⟩ := hc
        cases he
        have hsc' : (Box.map e (.var n)).sc ρ.length = true := by rw [hn0]; exact hsc
        exact (hr.cut hsc').ext _ hsc'
      · cases h
  · split at h
    · rename_i hc
      simp only [Bool.and_eq_true, decide_eq_true_eq] at hc
      obtain ⟨rfl, hsc⟩ := hc
      rw [← hn0] at hsc
      exact (hr.cut hsc).ext _ hsc
    · cases h
theorem agBox_bk {n0 : Nat} {s s' : Box} {asg : List (Nat × E)} (h : agBox n0 s s' = some asg) : ∀ v, s.bk v = s'.bk v := by
  intro v
  unfold agBox at h
  split at h
  · rfl
  · rfl
  · rfl
  · split at h
    · rename_i hc
      simp only [Bool.and_eq_true, decide_eq_true_eq] at hc
      rw [hc.1]
    · cases h
theorem agTm_sound {ext : List D} (hn0 : ρ.length = n0) (hst : Stands ρ (ρ ++ ext) xs n0 k all) (tm' : List (Nat × SV)) : ∀ {tm : List (Nat × SV)} {asg : List (Nat × E)}, agTm n0 tm' tm = some asg → (∀ p ∈ asg, all.lookup p.1 = some p.2 ∧ p.1 < n0 + k) →
    ∀ t sv, tm.lookup t = some sv → ∃ sv', tm'.lookup t = some sv' ∧ ∀ v, RV P w F (ρ ++ ext) β sv' v → RV P w F (ρ ++ xs) β sv v
  | [], asg, h, ha, t, sv, hl => by cases hl
  | (t0, s0) :: l, asg, h, ha, t, sv, hl => by
    simp only [agTm] at h
    split at h
    · rename_i s' hs'
      split at h
      · rename_i a b h1 h2
        simp at h; subst h
        rw [List.lookup_cons] at hl
        split at hl
        · rename_i he
          simp at he hl; subst he hl
          exact ⟨s', hs', fun v hv => agSV_sound hn0 hst h1 (fun p hp => ha p (List.mem_append_left _ hp)) hv⟩
        · exact agTm_sound hn0 hst tm' h2 (fun p hp => ha p (List.mem_append_right _ hp)) t sv hl
      · cases h
    · cases h
theorem agBx_sound {ext : List D} (hn0 : ρ.length = n0) (hst : Stands ρ (ρ ++ ext) xs n0 k all) (bx bx' : List (Nat × Box)) : ∀ {l : List Nat} {asg : List (Nat × E)}, agBx n0 bx bx' l = some asg → (∀ p ∈ asg, all.lookup p.1 = some p.2 ∧ p.1 < n0 + k) →
    ∀ n x, n ∈ l → bx.lookup n = some x → ∃ y, bx'.lookup n = some y ∧ (∀ v, BoxOk P w F (ρ ++ ext) β y v → BoxOk P w F (ρ ++ xs) β x v) ∧ ∀ v, x.bk v = y.bk v
  | [], asg, h, ha, n, x, hm, hl => by cases hm
  | n0' :: l, asg, h, ha, n, x, hm, hl => by
    simp only [agBx] at h
    split at h
    · rename_i x' y' h1 h2
      split at h
      · rename_i a b h3 h4
        simp at h; subst h
        rcases List.mem_cons.1 hm with rfl | hm
        · rw [h1] at hl; cases hl
          exact ⟨y', h2, fun v hv => agBox_sound hn0 hst h3 (fun p hp => ha p (List.mem_append_left _ hp)) hv, agBox_bk h3⟩
        · exact agBx_sound hn0 hst bx bx' h4 (fun p hp => ha p (List.mem_append_right _ hp)) n x hm hl
      · cases h
    · cases h
theorem agVals_sound {ρ' : List D} (asg : List (Nat × E)) (n0 : Nat) : ∀ {k : Nat} {es : List E}, agVals asg n0 k = some es → es.length = k ∧ ∀ i e, i < k → asg.lookup (n0 + i) = some e → es[i]? = some e
  | 0, es, h => by simp [agVals] at h; subst h; exact ⟨rfl, fun i e h => by omega⟩
  | k + 1, es, h => by
    simp only [agVals] at h
    split at h
    · rename_i l e h1 h2
      simp at h; subst h
      obtain ⟨q1, q2⟩ := agVals_sound (ρ' := ρ') asg n0 h1
      refine ⟨by simp [q1], fun i e' hi hl => ?_⟩
      by_cases hk : i < k
      · rw [List.getElem?_append_left (by omega)]
        exact q2 i e' hk hl
      · have : i = k := by omega
        subst this
        rw [h2] at hl; cases hl
        rw [List.getElem?_append_right (by omega)]
        simp [q1]
    · cases h
end

section
variable {X : Cx} {Fs : Nat → Fn} {fuel : Nat}
section
variable {st : St} {ρ : List D} {Ft : Fr} {β : Nat → Value} {a : Act} {w : World}
theorem Sat.retm (hs : Sat X ρ st Ft β a w) {t : Nat} {sv sv' : SV} (ht : st.tm.lookup t = some sv) (h : ∀ v, RV X.P w Ft ρ β sv v → RV X.P w Ft ρ β sv' v) : Sat X ρ { st with tm := (t, sv') :: st.tm } Ft β a w := by
  refine ⟨hs.df, hs.sz, hs.ft, ?_, hs.bx, hs.inj, hs.own, hs.chg, hs.fs, hs.on, hs.f0, hs.gx, hs.cf, ⟨hs.hg.hp, hs.hg.gm⟩, hs.fw⟩
  intro t' s hl
  have hl' : ((t, sv') :: st.tm).lookup t' = some s := hl
  rw [List.lookup_cons] at hl'
  split at hl'
  · rename_i he
    simp at he hl'; subst he hl'
    obtain ⟨v, h1, h2⟩ := hs.tm _ _ ht
    exact ⟨v, h1, h v h2⟩
  · exact hs.tm _ _ hl'
theorem Sat.rebx (hs : Sat X ρ st Ft β a w) {n : Nat} {x x' : Box} (hx : st.bx.lookup n = some x) (h : ∀ v, BoxOk X.P w Ft ρ β x v → BoxOk X.P w Ft ρ β x' v) (hbk : ∀ v, x'.bk v = x.bk v) : Sat X ρ { st with bx := (n, x') :: st.bx } Ft β a w := by
  have hlk : ∀ m y, ((n, x') :: st.bx).lookup m = some y → (m = n ∧ y = x') ∨ (m ≠ n ∧ st.bx.lookup m = some y) := by
    intro m y h
    rw [List.lookup_cons] at h
    split at h
    · rename_i he; simp at he h; exact .inl ⟨he, h.symm⟩
    · rename_i he; simp at he; exact .inr ⟨he, h⟩
  have hsome : ∀ m y, ((n, x') :: st.bx).lookup m = some y → ∃ y', st.bx.lookup m = some y' ∧ ∀ v, y.bk v = y'.bk v := by
    intro m y h
    rcases hlk m y h with ⟨rfl, rfl⟩ | ⟨_, h⟩
    · exact ⟨_, hx, hbk⟩
    · exact ⟨_, h, fun _ => rfl⟩
  refine ⟨hs.df, hs.sz, ?_, hs.tm, ?_, ?_, ?_, hs.chg, hs.fs, hs.on, hs.f0, hs.gx, hs.cf, hs.hg.less (fun m y hm => by obtain ⟨y', h1, h2⟩ := hsome m y hm; exact ⟨y', h1, .inl (h2 _)⟩) rfl rfl rfl, hs.fw⟩
  · intro b hb
    refine ⟨(hs.ft b hb).1, fun m y hm => ?_⟩
    obtain ⟨y', hy', e⟩ := hsome m y hm
    rw [e]
    exact (hs.ft b hb).2 m y' hy'
  · intro m y hm
    rcases hlk m y hm with ⟨rfl, rfl⟩ | ⟨_, hm'⟩
    · exact h _ (hs.bx _ _ hx)
    · exact hs.bx _ _ hm'
  · intro m m' y y' k hm hm' e1 e2
    obtain ⟨z, q1, h1⟩ := hsome m y hm
    obtain ⟨z', q2, h2⟩ := hsome m' y' hm'
    exact hs.inj m m' z z' k q1 q2 (by rw [← h1]; exact e1) (by rw [← h2]; exact e2)
  · intro m y k hm hk
    obtain ⟨z, q1, h1⟩ := hsome m y hm
    exact hs.own m z k q1 (by rw [← h1]; exact hk)
theorem setNil_sound (hs : Sat X ρ st Ft β a w) {t i : Nat} {c : C} {st' : St} (h : setNil st t i c = some st') (hc : ∀ v, RC X.P w Ft ρ β .nils v → RC X.P w Ft ρ β c v) : Sat X ρ st' Ft β a w := by
  have hset : ∀ {cs : List C} {vs : List Value}, cs[i]? = some .nils → RCL X.P w Ft ρ β cs vs → RCL X.P w Ft ρ β (cs.set i c) vs := by
    intro cs vs hi hr
    have hlt : i < vs.length := by rw [← hr.1]; exact (List.getElem?_eq_some_iff.1 hi).1
    have := hr.set i (c := c) (v := vs[i]) (hc _ (hr.2 i _ _ hi (List.getElem?_eq_getElem hlt)))
    rwa [List.set_getElem_self] at this
  unfold setNil at h
  split at h
  · rename_i hl
    simp at h; subst h
    exact hs.retm hl hc
  · rename_i cs hl
    split at h
    · rename_i hi
      simp at h; subst h
      exact hs.retm hl (fun v ⟨vs, e, hr⟩ => ⟨vs, e, hset hi hr⟩)
    · cases h
  · rename_i n off hl
    split at h
    · rename_i bt cs hb
      split at h
      · rename_i hi
        simp at h; subst h
        exact hs.rebx hb (fun v ⟨b, vs, e1, e2, hr⟩ => ⟨b, vs, e1, e2, hset hi hr⟩) (fun _ => rfl)
      · cases h
    · cases h
  · cases h
theorem setNil_nv {st st' : St} {t i : Nat} {c : C} (h : setNil st t i c = some st') : st'.nv = st.nv := by
  unfold setNil at h
  split at h
  · simp at h; subst h; rfl
  · split at h
    · simp at h; subst h; rfl
    · cases h
  · split at h
    · split at h
      · simp at h; subst h; rfl
      · cases h
    · cases h
  · cases h
theorem prepV_sound : ∀ (l : List (Nat × Nat × TypeId)) {st : St} {β : Nat → Value}, Sat X ρ st Ft β a w → ∃ β', (prepV X.P l st).nv = st.nv ∧ Sat X ρ (prepV X.P l st) Ft β' a w
  | [], st, β, hs => ⟨β, rfl, hs⟩
  | (t, i, e) :: l, st, β, hs => by
    simp only [prepV]
    split
    · rename_i hc
      simp only [Bool.and_eq_true] at hc
      obtain ⟨hfr, hts⟩ := hc
      cases hq : setNil (st.newRow e) t i (.vec st.nn) with
      | none => exact prepV_sound l hs
      | some st' =>
        cases htq : cellTys X.P e with
        | none => rw [htq] at hts; cases hts
        | some ts =>
          have h1 := hs.newRow hfr htq
          have h2 := setNil_sound h1 hq (fun v hv => by have e1 : v = .slice none 0 0 := hv; show v = _; simp [updN, e1])
          obtain ⟨β', n1, q⟩ := prepV_sound l h2
          exact ⟨β', by rw [Option.getD_some, n1, setNil_nv hq]; rfl, q⟩
    · exact prepV_sound l hs
theorem prepN_sound : ∀ (l : List (Nat × Nat × TypeId)) {st : St}, Sat X ρ st Ft β a w → (prepN l st).nv = st.nv ∧ Sat X ρ (prepN l st) Ft β a w
  | [], st, hs => ⟨rfl, hs⟩
  | (t, i, e) :: l, st, hs => by
    simp only [prepN]
    cases hq : setNil st t i (.dat (.slice e) .lnil) with
    | none => exact prepN_sound l hs
    | some st' =>
      have h2 := setNil_sound hs hq (fun v hv => Rd.snil rfl hv)
      obtain ⟨n1, q⟩ := prepN_sound l h2
      exact ⟨by rw [Option.getD_some, n1, setNil_nv hq], q⟩
theorem prep_sound {h : Hint} {K : St → T} {L : List Fn} {r : List D} (he : eval Fs fuel (prep X.P h st K) L ρ = some r) (hnv : st.nv = ρ.length) (hs : Sat X ρ st Ft β a w) : ∃ st' β', st'.nv = ρ.length ∧ Sat X ρ st' Ft β' a w ∧ eval Fs fuel (K st') L ρ = some r := by
  unfold prep at he
  split at he
  · exact ⟨st, β, hnv, hs, he⟩
  · rename_i gv gn gh _
    rw [frSt_eq] at he
    have hs0 : Sat X ρ (if h.gh = true then st.lose st.views else st) Ft β a w := by
      split
      · exact hs.lose _
      · exact hs
    have hn0 : (if h.gh = true then st.lose st.views else st).nv = st.nv := by
      split
      · exact (lose_hp _ _).2.2.2.1
      · rfl
    obtain ⟨β', n1, q⟩ := prepV_sound h.gv hs0
    obtain ⟨n2, q2⟩ := prepN_sound h.gn q
    exact ⟨_, β', by rw [n2, n1, hn0, hnv], q2, he⟩
end
theorem agree_sound {n0 k : Nat} {st st' : St} {es : List E} (h : agree n0 k st st' = some es) {ρ ext : List D} (hn0 : ρ.length = n0) (hfs : ∀ e b, (e, b) ∈ st.fs → (den ρ e).toBool = b) {Ft : Fr} {β : Nat → Value} {a : Act} {w : World} (hs : Sat X (ρ ++ ext) st' Ft β a w) :
    es.length = k ∧ Sat X (ρ ++ es.map (den (ρ ++ ext))) st Ft β a w := by
  unfold agree at h
  split at h
  · rename_i a1 b1 c1 h1 h2 h3
    split at h
    · rename_i hc
      simp only [Bool.and_eq_true, List.all_eq_true, decide_eq_true_eq] at hc
      obtain ⟨⟨hall, hsc⟩, hcc⟩ := hc
      obtain ⟨q1, q2⟩ := agVals_sound (ρ' := ρ) _ _ h
      have hst : Stands ρ (ρ ++ ext) (es.map (den (ρ ++ ext))) n0 k (a1 ++ b1 ++ c1) := by
        intro n e hl hle hlt
        have := q2 (n - n0) e (by omega) (by rw [show n0 + (n - n0) = n by omega]; exact hl)
        rw [List.getD_eq_getElem?_getD, List.getElem?_append_right (by omega), List.getElem?_map, hn0, this]
        rfl
      have t1 := fun (t : Nat) sv ht => agTm_sound (P := X.P) (w := w) (F := Ft) (β := β) hn0 hst st'.tm h1 (fun p hp => hall p (List.mem_append_left _ (List.mem_append_left _ hp))) t sv ht
      have t2 := fun (n : Nat) x hm hl => agBx_sound (P := X.P) (w := w) (F := Ft) (β := β) hn0 hst st.bx st'.bx h2 (fun p hp => hall p (List.mem_append_left _ (List.mem_append_right _ hp))) n x hm hl
      have t3 : ∀ n x, st.bx.lookup n = some x → ∃ y, st'.bx.lookup n = some y ∧ (∀ v, BoxOk X.P w Ft (ρ ++ ext) β y v → BoxOk X.P w Ft (ρ ++ es.map (den (ρ ++ ext))) β x v) ∧ ∀ v, x.bk v = y.bk v := fun n x hl =>
        t2 n x (List.mem_map.2 ⟨_, mem_of_lookup hl, rfl⟩) hl
      have t4 : ∀ m e, st.hp = some (m, e) → ∃ e', st'.hp = some (m, e') ∧ den (ρ ++ es.map (den (ρ ++ ext))) e = den (ρ ++ ext) e' := by
        intro m e he
        rw [he] at h3
        unfold agHp at h3
        split at h3
        · rename_i hq _; cases hq
        · rename_i m0 n m1 e1 hq hq'
          cases hq
          split at h3
          · rename_i hm; subst hm
            split at h3
            · rename_i hle
              cases h3
              have := hall (n, e1) (List.mem_append_right _ (List.mem_singleton.2 rfl))
              exact ⟨e1, hq', hst n e1 this.1 hle this.2⟩
            · rename_i hle
              split at h3
              · rename_i hv
                subst hv
                have hlt : n < ρ.length := by omega
                refine ⟨_, hq', ?_⟩
                simp only [den, List.getD_eq_getElem?_getD]
                rw [List.getElem?_append_left hlt, List.getElem?_append_left hlt]
              · cases h3
          · cases h3
        · rename_i m0 e0 m1 e1 _ hq hq'
          cases hq
          split at h3
          · rename_i hc
            obtain ⟨rfl, rfl, hsc'⟩ := hc
            rw [← hn0] at hsc'
            exact ⟨_, hq', by rw [den_append hsc', den_append hsc']⟩
          · cases h3
        · cases h3
      have t5 : ∀ m e', st'.hp = some (m, e') → ∃ e, st.hp = some (m, e) := by
        intro m e' he'
        rw [he'] at h3
        unfold agHp at h3
        split at h3
        · rename_i hq; cases hq
        · rename_i m0 n m1 e1 hq hq'
          cases hq'
          split at h3
          · rename_i hm; subst hm; exact ⟨_, hq⟩
          · cases h3
        · rename_i m0 e0 m1 e1 _ hq hq'
          cases hq'
          split at h3
          · rename_i hc; obtain ⟨rfl, _⟩ := hc; exact ⟨_, hq⟩
          · cases h3
        · cases h3
      obtain ⟨hcc1, hcc2, hcc3⟩ := hcc
      refine ⟨q1, hs.df, hs.sz, ?_, ?_, ?_, ?_, ?_, hs.chg, ?_, hs.on, hs.f0, hs.gx, ⟨hcc3.trans hs.cf.1, by rw [hcc3]; exact hs.cf.2⟩, ⟨?_, ?_⟩, ⟨hs.fw.1, hs.fw.2.1, hs.fw.2.2.1, fun hno => hs.fw.2.2.2 fun e he => by obtain ⟨e', h'⟩ := t5 _ _ he; exact hno e' h'⟩⟩
      rotate_right 2
      · intro m e he
        obtain ⟨e', z1, z2⟩ := t4 m e he
        obtain ⟨φ, y1, y2⟩ := hs.hg.hp m e' z1
        rw [hcc2] at y1
        refine ⟨φ, by rw [hcc3, z2, hcc1]; exact y1, fun n k hk => ⟨(y2 n k hk).1, fun j x hx => ?_⟩⟩
        obtain ⟨y, hy, _, hq⟩ := t3 j x hx
        rw [hq]; exact (y2 n k hk).2 j y hy
      · intro n b t hn
        obtain ⟨g1, g2, g3⟩ := hs.hg.gm n b t hn
        refine ⟨g1, g2, fun j x hx => ?_⟩
        obtain ⟨y, hy, _, hq⟩ := t3 j x hx
        rw [hq]; exact g3 j y hy
      · intro b hb
        refine ⟨(hs.ft b hb).1, fun n x hx => ?_⟩
        obtain ⟨y, hy, _, hq⟩ := t3 n x hx
        rw [hq]
        exact (hs.ft b hb).2 n y hy
      · intro t sv ht
        obtain ⟨sv', z1, z2⟩ := t1 t sv ht
        obtain ⟨v, v1, v2⟩ := hs.tm t sv' z1
        exact ⟨v, v1, z2 v v2⟩
      · intro n x hx
        obtain ⟨y, hy, z, _⟩ := t3 n x hx
        exact z _ (hs.bx n y hy)
      · intro n m x y k' hx hy e1 e2
        obtain ⟨x', hx', _, h1⟩ := t3 n x hx
        obtain ⟨y', hy', _, h2⟩ := t3 m y hy
        exact hs.inj n m x' y' k' hx' hy' (by rw [← h1]; exact e1) (by rw [← h2]; exact e2)
      · intro n x k' hx e1
        obtain ⟨x', hx', _, h1⟩ := t3 n x hx
        exact hs.own n x' k' hx' (by rw [← h1]; exact e1)
      · intro e b hm
        have := hsc _ hm
        rw [← hn0] at this
        rw [den_append this]
        exact hfs e b hm
    · cases h
  · cases h
theorem exists_least {p : Nat → Prop} : (∃ n, p n) → ∃ m, p m ∧ ∀ k, p k → m ≤ k := by
  rintro ⟨n, hn⟩
  induction n using Nat.strongRecOn with
  | _ n ih =>
    by_cases h : ∃ k, k < n ∧ p k
    · obtain ⟨k, hk, hp⟩ := h
      exact ih k hk hp
    · exact ⟨n, hn, fun k hk => Nat.le_of_not_lt fun hlt => h ⟨k, hlt, hk⟩⟩
open Classical in
noncomputable def leastN (p : Nat → Prop) : Nat := if h : ∃ n, p n then Classical.choose (exists_least h) else 0
theorem leastN_spec {p : Nat → Prop} (h : ∃ n, p n) : p (leastN p) ∧ ∀ k, p k → leastN p ≤ k := by
  unfold leastN
  rw [dif_pos h]
  exact Classical.choose_spec (exists_least h)
theorem wp_loop_fuel {P : Program} {c : Code} {Q : Exit → Act → World → Prop} {a : Act} {w : World} (J : Nat → Act → World → Prop) (h0 : ∃ n, J n a w) (hz : ∀ a w, ¬ J 0 a w) (round : ∀ n a w, J (n + 1) a w → c.wp P (Exit.then (J n) Q) a w) :
    (Code.loop c).wp P Q a w := by
  refine wp_loop (fun a w => ∃ n, J n a w) (fun a w => leastN fun n => J n a w) h0 ?_
  intro a w hI
  obtain ⟨h1, h2⟩ := leastN_spec hI
  cases hn : leastN (fun n => J n a w) with
  | zero => rw [hn] at h1; exact absurd h1 (hz a w)
  | succ n =>
    rw [hn] at h1
    refine Code.wp_mono ?_ (round n a w h1)
    intro e a' w' he
    cases e <;> simp only [Exit.then] at he ⊢ <;> first | exact he | skip
    refine ⟨⟨n, he⟩, ?_⟩
    have := (leastN_spec (p := fun n => J n a' w') ⟨n, he⟩).2 n he
    show leastN (fun n => J n a' w') < n + 1
    omega
theorem br_sound {st : St} {x : Operand} {K : Bool → St → T} {L : List Fn} {ρ : List D} {r : List D} {Ft : Fr} {β : Nat → Value} {a : Act} {w : World} (he : eval Fs fuel (br st x K) L ρ = some r) (hnv : st.nv = ρ.length) (hs : Sat X ρ st Ft β a w) :
    ∃ b st', a.eval x = .bool b ∧ st'.nv = ρ.length ∧ Sat X ρ st' Ft β a w ∧ eval Fs fuel (K b st') L ρ = some r := by
  unfold br at he
  split at he
  · rename_i e hx
    have hv := (opC_sound hs hx).bool_inv
    split at he
    · rename_i b hk
      exact ⟨b, st, by rw [hv, find_known hk hs], hnv, hs, he⟩
    · simp only [eval] at he
      split at he
      · rename_i ht
        exact ⟨true, { st with fs := addFact e true st.fs }, by rw [hv, ht], hnv, hs.fact ht, he⟩
      · rename_i ht
        have ht' : (den ρ e).toBool = false := by simpa using ht
        exact ⟨false, { st with fs := addFact e false st.fs }, by rw [hv, ht'], hnv, hs.fact ht', he⟩
  · cases he
theorem exec_sound (hF : FsOk X.G X.P Fs) (hints : List (Nat × Hint)) : ∀ (c : Code) {st : St} {lv : Nat} {K : Ex → St → Nat → T} {L : List Fn} {ρ : List D} {r : List D} {Q : Exit → Act → World → Prop} {Ft : Fr} {β : Nat → Value} {a : Act} {w : World},
    eval Fs fuel (exec X.P X.nt hints c st lv K) L ρ = some r → st.nv = ρ.length → lv = L.length → Sat X ρ st Ft β a w →
    (∀ (e : Ex) (st' : St) (lv' : Nat) (ext : List D) (Lx : List Fn) (Ft' : Fr) (β' : Nat → Value) (a' : Act) (w' : World), st'.nv = (ρ ++ ext).length → lv' = (L ++ Lx).length → Sat X (ρ ++ ext) st' Ft' β' a' w' →
      eval Fs fuel (K e st' lv') (L ++ Lx) (ρ ++ ext) = some r → Q e.out a' w') → c.wp X.P Q a w := by
  intro c
  induction c with
  | skip =>
    intro st lv K L ρ r Q Ft β a w he hnv hlv hs HK
    exact wp_skip (HK .normal st lv [] [] Ft β a w (by simpa using hnv) (by simpa using hlv) (by simpa using hs) (by simpa [exec] using he))
  | ret =>
    intro st lv K L ρ r Q Ft β a w he hnv hlv hs HK
    exact wp_ret (HK .ret st lv [] [] Ft β a w (by simpa using hnv) (by simpa using hlv) (by simpa using hs) (by simpa [exec] using he))
  | exit id =>
    intro st lv K L ρ r Q Ft β a w he hnv hlv hs HK
    exact wp_exit (HK (.exit id) st lv [] [] Ft β a w (by simpa using hnv) (by simpa using hlv) (by simpa using hs) (by simpa [exec] using he))
  | seq x y ihx ihy =>
    intro st lv K L ρ r Q Ft β a w he hnv hlv hs HK
    simp only [exec] at he
    split at he
    · refine wp_seq (ihx he hnv hlv hs ?_)
      intro e st' lv' ext Lx Ft' β' a' w' q1 q2 q3 q4
      cases e with
      | normal => simp only [eval] at q4; cases q4
      | exit i => exact HK _ st' lv' ext Lx Ft' β' a' w' q1 q2 q3 q4
      | ret => exact HK _ st' lv' ext Lx Ft' β' a' w' q1 q2 q3 q4
    · rename_i h1 h2 h3 h4 h5 h6 h8 hh
      obtain ⟨st, β, hnv, hs, he⟩ := prep_sound he hnv hs
      rw [frSt_eq, frN_eq] at he
      split at he
      · rename_i hc
        obtain ⟨hk, hfe⟩ := hc
        generalize hsj : joinSt ⟨h1, h2, h3, h4, h5, h6, 1, h8⟩ st = sj at he hk hfe
        simp only [eval] at he
        have hfs' : ∀ e b, (e, b) ∈ sj.fs → (den ρ e).toBool = b := fun e b hm => hs.fs e b (by rw [← hfe]; exact hm)
        refine wp_seq (ihx he hnv (by simp [hlv]) hs ?_)
        intro e st' lv' ext Lx Ft' β' a' w' q1 q2 q3 q4
        cases e with
        | normal =>
          simp only at q4
          split at q4
          · rename_i es hag
            simp only [eval] at q4
            obtain ⟨k1, k2⟩ := agree_sound hag hnv.symm hfs' q3
            have hLl : (L ++ [fun xs => eval Fs fuel (exec X.P X.nt hints y sj lv K) L (ρ ++ xs)] ++ Lx)[lv]? = some (fun xs => eval Fs fuel (exec X.P X.nt hints y sj lv K) L (ρ ++ xs)) := by
              rw [hlv, List.append_assoc, List.getElem?_append_right (Nat.le_refl _)]
              simp
            rw [hLl] at q4
            simp only at q4
            refine ihy q4 (by rw [hk, List.length_append, List.length_map, k1, hnv]) hlv k2 ?_
            intro e' st'' lv'' ext' Lx' Ft'' β'' a'' w'' z1 z2 z3 z4
            rw [List.append_assoc] at z1 z3 z4
            exact HK e' st'' lv'' _ Lx' Ft'' β'' a'' w'' z1 z2 z3 z4
          · cases q4
        | exit i =>
          rw [List.append_assoc] at q2 q4
          exact HK _ st' lv' ext _ Ft' β' a' w' q1 q2 q3 q4
        | ret =>
          rw [List.append_assoc] at q2 q4
          exact HK _ st' lv' ext _ Ft' β' a' w' q1 q2 q3 q4
      · cases he
    · refine wp_seq (ihx he hnv hlv hs ?_)
      intro e st' lv' ext Lx Ft' β' a' w' q1 q2 q3 q4
      cases e with
      | normal =>
        refine ihy q4 q1 q2 q3 ?_
        intro e' st'' lv'' ext' Lx' Ft'' β'' a'' w'' z1 z2 z3 z4
        rw [List.append_assoc] at z1 z3 z4
        rw [List.append_assoc] at z2 z4
        exact HK e' st'' lv'' (ext ++ ext') (Lx ++ Lx') Ft'' β'' a'' w'' z1 z2 z3 z4
      | exit i => exact HK _ st' lv' ext Lx Ft' β' a' w' q1 q2 q3 q4
      | ret => exact HK _ st' lv' ext Lx Ft' β' a' w' q1 q2 q3 q4
  | cond x c1 c2 ih1 ih2 =>
    intro st lv K L ρ r Q Ft β a w he hnv hlv hs HK
    simp only [exec] at he
    obtain ⟨b, st', hb, hnv', hs', he'⟩ := br_sound he hnv hs
    refine wp_cond hb ?_
    cases b
    · exact ih2 he' hnv' hlv hs' HK
    · exact ih1 he' hnv' hlv hs' HK
  | block id c ih =>
    intro st lv K L ρ r Q Ft β a w he hnv hlv hs HK
    refine wp_block (ih he hnv hlv hs ?_)
    intro e st' lv' ext Lx Ft' β' a' w' q1 q2 q3 q4
    cases e with
    | normal => exact HK .normal st' lv' ext Lx Ft' β' a' w' q1 q2 q3 q4
    | ret => exact HK .ret st' lv' ext Lx Ft' β' a' w' q1 q2 q3 q4
    | exit i =>
      simp only [Ex.out, Exit.inBlock]
      by_cases hi : i = id
      · simp only [hi, if_true] at q4 ⊢
        exact HK .normal st' lv' ext Lx Ft' β' a' w' q1 q2 q3 q4
      · simp only [hi, if_false] at q4 ⊢
        exact HK (.exit i) st' lv' ext Lx Ft' β' a' w' q1 q2 q3 q4
  | loop c ih =>
    intro st lv K L ρ r Q Ft β a w he hnv hlv hs HK
    simp only [exec] at he
    split at he
    · rename_i h hh
      split at he
      · -- written out
        refine wp_loop_rounds (h.gen.headD 0) ?_
        have key : ∀ (n : Nat) {st : St} {lv : Nat} {L : List Fn} {ρ : List D} {Ft : Fr} {β : Nat → Value} {a : Act} {w : World}, eval Fs fuel (unroll (exec X.P X.nt hints c) n st lv K) L ρ = some r → st.nv = ρ.length → lv = L.length → Sat X ρ st Ft β a w →
            (∀ (e : Ex) (st' : St) (lv' : Nat) (ext : List D) (Lx : List Fn) (Ft' : Fr) (β' : Nat → Value) (a' : Act) (w' : World), st'.nv = (ρ ++ ext).length → lv' = (L ++ Lx).length → Sat X (ρ ++ ext) st' Ft' β' a' w' →
              eval Fs fuel (K e st' lv') (L ++ Lx) (ρ ++ ext) = some r → Q e.out a' w') → Code.rounds X.P c Q n a w := by
          intro n
          induction n with
          | zero => intro st lv L ρ Ft β a w he; cases he
          | succ n ihn =>
            intro st lv L ρ Ft β a w he hnv hlv hs HK
            simp only [unroll] at he
            rw [rounds_succ]
            refine ih he hnv hlv hs ?_
            intro e st' lv' ext Lx Ft' β' a' w' q1 q2 q3 q4
            cases e with
            | normal =>
              simp only [Ex.out, Exit.then]
              refine ihn q4 q1 q2 q3 ?_
              intro e2 st2 lv2 ext2 Lx2 Ft2 β2 a2 w2 p1 p2 p3 p4
              rw [List.append_assoc] at p1 p3 p4
              rw [List.append_assoc] at p2 p4
              exact HK e2 st2 lv2 (ext ++ ext2) (Lx ++ Lx2) Ft2 β2 a2 w2 p1 p2 p3 p4
            | exit i => exact HK (.exit i) st' lv' ext Lx Ft' β' a' w' q1 q2 q3 q4
            | ret => exact HK .ret st' lv' ext Lx Ft' β' a' w' q1 q2 q3 q4
        exact key _ he hnv hlv hs HK
      obtain ⟨st, β, hnv, hs, he⟩ := prep_sound he hnv hs
      split at he
      · rename_i es hag
        split at he
        · rename_i hc
          obtain ⟨hes, hsc, hnv'⟩ := hc
          simp only [eval] at he
          have hfs : (headSt h st).1.fs = st.fs := rfl
          have hfs' : ∀ e b, (e, b) ∈ (headSt h st).1.fs → (den ρ e).toBool = b := fun e b hm => hs.fs e b (by rw [← hfs]; exact hm)
          refine wp_loop_fuel (fun n a w => ∃ xs Ft β, xs.length = (headSt h st).2.length ∧ Sat X (ρ ++ xs) (headSt h st).1 Ft β a w ∧ loopN (fun g xs => eval Fs fuel (exec X.P X.nt hints c (headSt h st).1 (lv + 1) fun e st'' lv' => match e with
            | .normal => frFz st'' (fzT (headSt h st).1 st'') fun st'' => match agree st.nv (headSt h st).2.length (headSt h st).1 st'' with
              | some es => .again lv es
              | none => .fail 22
            | e => K e st'' lv') (L ++ [g]) (ρ ++ xs)) n xs = some r) ⟨fuel, ?_⟩ ?_ ?_
          · have hs0 : Sat X (ρ ++ []) st Ft β a w := by simpa using hs
            obtain ⟨k1, k2⟩ := agree_sound hag hnv.symm hfs' hs0
            rw [List.append_nil] at k2
            subst hes
            exact ⟨_, Ft, β, by simp, k2, he⟩
          · rintro a w ⟨xs, Ft, β, _, _, hl⟩
            simp [loopN] at hl
          · rintro n a w ⟨xs, Ft, β, hlen, hsx, hl⟩
            simp only [loopN] at hl
            refine ih hl (by rw [hnv', List.length_append, hlen, hnv]) (by simp [hlv]) hsx ?_
            intro e st'' lv' ext Lx Ft' β' a' w' q1 q2 q3 q4
            cases e with
            | normal =>
              simp only [Ex.out, Exit.then]
              simp only at q4
              obtain ⟨st2, Ft2, q1, q3, q4⟩ := frFz_sound q4 q1 q3
              split at q4
              · rename_i es' hag'
                simp only [eval] at q4
                rw [List.append_assoc] at q3
                obtain ⟨k1, k2⟩ := agree_sound hag' hnv.symm hfs' q3
                have hLl : (L ++ [loopN (fun g xs => eval Fs fuel (exec X.P X.nt hints c (headSt h st).1 (lv + 1) fun e st'' lv' => match e with
                  | .normal => frFz st'' (fzT (headSt h st).1 st'') fun st'' => match agree st.nv (headSt h st).2.length (headSt h st).1 st'' with
                    | some es => .again lv es
                    | none => .fail 22
                  | e => K e st'' lv') (L ++ [g]) (ρ ++ xs)) n] ++ Lx)[lv]? = some (loopN (fun g xs => eval Fs fuel (exec X.P X.nt hints c (headSt h st).1 (lv + 1) fun e st'' lv' => match e with
                  | .normal => frFz st'' (fzT (headSt h st).1 st'') fun st'' => match agree st.nv (headSt h st).2.length (headSt h st).1 st'' with
                    | some es => .again lv es
                    | none => .fail 22
                  | e => K e st'' lv') (L ++ [g]) (ρ ++ xs)) n) := by
                  rw [hlv, List.append_assoc, List.getElem?_append_right (Nat.le_refl _)]
                  simp
                rw [hLl] at q4
                simp only [List.append_assoc] at q4
                exact ⟨_, Ft2, β', by simp [k1], k2, q4⟩
              · cases q4
            | exit i =>
              rw [List.append_assoc] at q1 q3 q4
              rw [List.append_assoc] at q2 q4
              exact HK (.exit i) st'' lv' (xs ++ ext) ([_] ++ Lx) Ft' β' a' w' q1 q2 q3 q4
            | ret =>
              rw [List.append_assoc] at q1 q3 q4
              rw [List.append_assoc] at q2 q4
              exact HK .ret st'' lv' (xs ++ ext) ([_] ++ Lx) Ft' β' a' w' q1 q2 q3 q4
        · cases he
      · cases he
    · cases he
  | region id ops draw =>
    intro st lv K L ρ r Q Ft β a w he hnv hlv hs HK
    simp only [exec] at he
    split at he
    · rename_i hd
      subst hd
      refine doDrawn_sound hF he hnv hs ?_
      intro st' ext Ft' β' a' w' q1 q2 q3
      exact HK .normal st' lv ext [] Ft' β' a' w' q1 (by simpa using hlv) q2 (by simpa using q3)
    · rename_i hd
      have hd' : draw = false := by simpa using hd
      subst hd'
      split at he
      · refine lits_sound hF he hnv hs ?_
        intro st' ext Ft' β' a' w' q1 q2 q3
        exact HK .normal st' lv ext [] Ft' β' a' w' q1 (by simpa using hlv) q2 (by simpa using q3)
      · refine region_sound hF he hnv hs ?_
        intro st' ext Ft' β' a' w' q1 q2 q3
        exact HK .normal st' lv ext [] Ft' β' a' w' q1 (by simpa using hlv) q2 (by simpa using q3)
  | _ =>
    intros
    rename_i he _ _ _ _
    simp [exec, eval] at he
end
end Go.Proofs.YtobacchojjfpfaaDoor.Eng
