/-
  A reader of Go functions, part R: regions that draw, in which an entry of a map is made (m[k] += v): the look at the map may stand behind that.
-/
import Derived.Test.YtobacchojjfpfaaGreatDoorEngP
namespace Go.Proofs.YtobacchojjfpfaaGreatDoor.Eng
open Go.RowKit
set_option linter.unusedVariables false
set_option linter.unusedSimpArgs false

section
variable (P : Program) (nt : Nat)
def seqV : List Oper → St → List SV → (St → List SV → T) → T
  | [], st, svs, K => K st svs
  | o :: l, st, svs, K => match evV P st o.op o.type with
    | some (es, sv, none) => needs es (frSV sv fun sv => seqV l (st.upd o.dst sv none) (svs ++ [sv]) K)
    | _ => .fail 170
def isME (o : Oper) : Bool := match o.op with | .mapEntry _ _ _ => true | _ => false
def isSel (o : Oper) : Bool := match o.op with | .select _ _ => true | _ => false
def flatSV : SV → Bool | .one (.dat t _) => (tyCode t).isSome | _ => false
/-- Looks that may stand behind the entry come to the same there. -/
def lateSame (st : St) (preds : List Nat) (e : Nat) : List (Oper × Nat) → List SV → Bool
  | [], _ => true
  | (o, k) :: l, sv :: svs => (decide (e ≤ k) || (preds.getD e 0).testBit k || (flatSV sv && match evV P st o.op o.type with
    | some ([], sv', none) => decide (sv = sv')
    | _ => false)) && lateSame st preds e l svs
  | _ :: _, [] => false
def tmpsOf (o : Oper) : List Nat := o.op.operands.toList.filterMap fun x => match x with | .tmp d => some d | _ => none
def lateOk (ops : Array Oper) (preds : List Nat) (e t : Nat) : Bool :=
  let l := ops.toList
  P.follows .mixedOrders && decide (e < t) && decide (t ≤ l.length) &&
  (List.range l.length).all (fun j => (decide (j < t) || isFull preds j) && match l[j]? with | some o => (direct o).all (fun k => decide (k < j)) | none => true) &&
  (List.range t).all (fun k => match l[k]? with
    | some o => o.guard.isNone && !isSel o && (match o.dst with
      | some d => decide (d < nt) && (List.range t).all (fun j => j == k || match l[j]? with | some q => q.dst != some d | none => true)
      | none => false) &&
      (decide (k ≤ e) || (preds.getD k 0).testBit e) &&
      (tmpsOf o).all fun d => (List.range t).all fun j => match l[j]? with | some q => q.dst != some d || (preds.getD k 0).testBit j | none => true
    | none => false)
def doLate (ops : Array Oper) (st : St) (K : St → T) : T :=
  let l := ops.toList
  match l.findIdx? isME with
  | none => doDraw P nt ops st K
  | some e => frL frN (predsGo (l.map direct) []) fun preds => frN (headLen l.length preds) fun t =>
    if e < t then
      if lateOk P nt ops preds e t then
        seqV P (l.take e) st [] fun st1 svs => match l[e]? with
          | some o => match o.op with
            | .mapEntry tt m x => doMapEntry P nt st1 o.dst tt m x fun st2 =>
              if lateSame P st2 preds e (l.take e).zipIdx svs then
                seqV P ((l.drop (e + 1)).take (t - (e + 1))) st2 [] fun st3 _ => doOps P nt ops (l.drop t) st3 K
              else .fail 171
            | _ => .fail 172
          | none => .fail 173
      else .fail 174
    else doDraw P nt ops st K
end

/-! Operations one after the other, in a world that stands still. -/
section
variable {X : Cx} {Fs : Nat → Fn} {fuel : Nat} {L : List Fn}
def Steps (X : Cx) (w : World) : List Oper → List Value → Act → Act → Prop
  | [], us, a, b => us = [] ∧ b = a
  | o :: l, us, a, b => ∃ u us', us = u :: us' ∧ (execOp a.eval o).run X.P w = .ok (.value u) w ∧ Steps X w l us' (a.put o.dst u) b
theorem Steps.len {w : World} : ∀ {l : List Oper} {us : List Value} {a b : Act}, Steps X w l us a b → us.length = l.length
  | [], us, a, b, ⟨h, _⟩ => by rw [h]; rfl
  | o :: l, us, a, b, ⟨u, us', h, _, h2⟩ => by rw [h]; simp [Steps.len h2]
theorem put_at {a : Act} {d : Tmp} (hd : d < a.tmps.size) (u : Value) : (a.put (some d) u).tmps[d]? = some u := by simp [Act.put, hd]
theorem put_ne {a : Act} {dst : Option Tmp} {d : Tmp} (h : dst ≠ some d) (u : Value) : (a.put dst u).tmps[d]? = a.tmps[d]? := by
  cases dst with
  | none => rfl
  | some e =>
    have : e ≠ d := fun q => h (by rw [q])
    simp [Act.put, Array.getElem?_setIfInBounds_ne this]
theorem put_size (a : Act) (dst : Option Tmp) (u : Value) : (a.put dst u).tmps.size = a.tmps.size := by cases dst <;> simp [Act.put]
theorem put_def (a : Act) (dst : Option Tmp) (u : Value) : (a.put dst u).defers = a.defers := by cases dst <;> rfl
/-- Where it ends. -/
theorem Steps.fin {w : World} : ∀ {l : List Oper} {us : List Value} {a b : Act}, Steps X w l us a b → b.defers = a.defers ∧ b.tmps.size = a.tmps.size ∧ (∀ d, (∀ o ∈ l, o.dst ≠ some d) → b.tmps[d]? = a.tmps[d]?)
  | [], us, a, b, ⟨_, h⟩ => by subst h; exact ⟨rfl, rfl, fun _ _ => rfl⟩
  | o :: l, us, a, b, ⟨u, us', h, _, h2⟩ => by
    obtain ⟨x, y, z⟩ := Steps.fin h2
    refine ⟨by rw [x, put_def], by rw [y, put_size], fun d hd => ?_⟩
    rw [z d (fun o' ho' => hd o' (List.mem_cons_of_mem _ ho')), put_ne (hd o (List.mem_cons_self ..))]
/-- Each operation, from a state that is as at the end but for what comes yet. -/
theorem Steps.each {w : World} : ∀ {l : List Oper} {us : List Value} {a b : Act}, Steps X w l us a b → ∀ (i : Nat) (o : Oper) (u : Value), l[i]? = some o → us[i]? = some u →
    ∃ ai : Act, (execOp ai.eval o).run X.P w = .ok (.value u) w ∧ (∀ d, (∀ j o', i ≤ j → l[j]? = some o' → o'.dst ≠ some d) → ai.tmps[d]? = b.tmps[d]?) ∧
      ∀ d, o.dst = some d → d < a.tmps.size → (∀ j o', i < j → l[j]? = some o' → o'.dst ≠ some d) → b.tmps[d]? = some u
  | [], us, a, b, h, i, o, u, ho, hu => by simp at ho
  | o0 :: l, us, a, b, ⟨u0, us', h, hrun, h2⟩, i, o, u, ho, hu => by
    subst h
    cases i with
    | zero =>
      simp at ho hu; subst ho hu
      obtain ⟨x, y, z⟩ := Steps.fin h2
      refine ⟨a, hrun, fun d hd => ?_, fun d hd hlt hno => ?_⟩
      · rw [z d (fun o' ho' => by obtain ⟨j, hj⟩ := List.getElem?_of_mem ho'; exact hd (j + 1) o' (by omega) (by simpa using hj)), put_ne (hd 0 o0 (by omega) rfl)]
      · rw [z d (fun o' ho' => by obtain ⟨j, hj⟩ := List.getElem?_of_mem ho'; exact hno (j + 1) o' (by omega) (by simpa using hj)), hd, put_at hlt]
    | succ i =>
      obtain ⟨ai, x, y, z⟩ := Steps.each h2 i o u (by simpa using ho) (by simpa using hu)
      refine ⟨ai, x, fun d hd => y d fun j o' hj hj' => hd (j + 1) o' (by omega) (by simpa using hj'), fun d hd hlt hno => z d hd (by rw [put_size]; exact hlt) fun j o' hj hj' => hno (j + 1) o' (by omega) (by simpa using hj')⟩
theorem seqV_sound {K : St → List SV → T} {r : List D} : ∀ (l : List Oper) {ρ : List D} {st : St} {svs : List SV} {Ft : Fr} {β : Nat → Value} {a : Act} {w : World}, eval Fs fuel (seqV X.P l st svs K) L ρ = some r → Sat X ρ st Ft β a w → (∀ o ∈ l, okDst X.nt o.dst = true) →
    ∃ (us : List Value) (svs' : List SV) (st' : St) (a' : Act), svs'.length = l.length ∧ eval Fs fuel (K st' (svs ++ svs')) L ρ = some r ∧ st'.nv = st.nv ∧ st'.bx = st.bx ∧ Sat X ρ st' Ft β a' w ∧ Steps X w l us a a' ∧ (∀ (i : Nat) (s : SV) (u : Value), svs'[i]? = some s → us[i]? = some u → RV X.P w Ft ρ β s u)
  | [], ρ, st, svs, Ft, β, a, w, he, hs, hd => ⟨[], [], st, a, rfl, by simpa [seqV] using he, rfl, rfl, hs, ⟨rfl, rfl⟩, fun i s u h => by simp at h⟩
  | o :: l, ρ, st, svs, Ft, β, a, w, he, hs, hd => by
    simp only [seqV] at he
    split at he
    · rename_i es sv hev
      obtain ⟨hes, he2⟩ := needs_sound he
      rw [frSV_eq] at he2
      have hcame := evV_sound hs.on hs hev hes
      obtain ⟨v, e1, hv⟩ := hcame
      have hd0 := hd o (List.mem_cons_self ..)
      obtain ⟨us, svs', st', a', q1, q2, q3, q4, q5, q6, q7⟩ := seqV_sound l he2 (hs.put hd0 hv) (fun o' ho' => hd o' (List.mem_cons_of_mem _ ho'))
      refine ⟨v :: us, sv :: svs', st', a', by simp [q1], by simpa using q2, q3, q4, q5, ⟨v, us, rfl, e1, q6⟩, fun i s u h1 h2 => ?_⟩
      cases i with
      | zero => simp at h1 h2; subst h1 h2; exact hv
      | succ i => exact q7 i s u (by simpa using h1) (by simpa using h2)
    · cases he
theorem flat_val {P : Program} {w w' : World} {F F' : Fr} {ρ : List D} {β β' : Nat → Value} {s : SV} {u v : Value} (h : flatSV s = true) (hu : RV P w F ρ β s u) (hv : RV P w' F' ρ β' s v) : u = v := by
  unfold flatSV at h
  split at h
  · rename_i t e
    exact (rd_flatV h hu).trans (rd_flatV h hv).symm
  · cases h
theorem eval_tmps {a b : Act} {x : Operand} (h : ∀ d, x = .tmp d → a.tmps[d]? = b.tmps[d]?) : a.eval x = b.eval x := by
  cases x with
  | tmp d =>
    have := h d rfl
    simp only [Act.eval, Array.getD_eq_getD_getElem?, this]
  | _ => rfl
theorem exec_tmps {a b : Act} {o : Oper} (hs : isSel o = false) (h : ∀ d ∈ tmpsOf o, a.tmps[d]? = b.tmps[d]?) : execOp a.eval o = execOp b.eval o := by
  refine execOp_congr o (fun cs b e => by unfold isSel at hs; rw [e] at hs; cases hs) fun x hx => eval_tmps fun d hd => h d ?_
  subst hd
  exact List.mem_filterMap.2 ⟨.tmp d, by simpa using hx, rfl⟩

/-- In whatever order: operations whose values are told, one of which turns the world. -/
theorem anyLate {ops : Array Oper} {Q : Exit → Act → World → Prop} {preds : List Nat} {t e : Nat} {vals : List Value} {aF a0 : Act} {w0 w1 : World} (ht : t ≤ ops.size)
    (hdst : ∀ k, k < t → ∃ o d, ops.toList[k]? = some o ∧ o.dst = some d ∧ o.guard = none ∧ d < a0.tmps.size)
    (hdis : ∀ j k oj ok, j < t → k < t → ops.toList[j]? = some oj → ops.toList[k]? = some ok → oj.dst = ok.dst → j = k) (hval : vals.length = t)
    (hF : aF.defers = a0.defers ∧ aF.tmps.size = a0.tmps.size)
    (hF1 : ∀ k o d u, k < t → ops.toList[k]? = some o → o.dst = some d → vals[k]? = some u → aF.tmps[d]? = some u)
    (hF2 : ∀ d, (∀ k o, k < t → ops.toList[k]? = some o → o.dst ≠ some d) → aF.tmps[d]? = a0.tmps[d]?)
    (hopn : ∀ k o, k < t → ops.toList[k]? = some o → isSel o = false ∧ ∀ d ∈ tmpsOf o, ∀ j oj, j < t → ops.toList[j]? = some oj → oj.dst = some d → (preds.getD k 0).testBit j = true)
    (hpre : PreOk ops [] preds) (hback : ∀ t, t < ops.size → ∀ o, ops.toList[t]? = some o → ∀ k ∈ direct o, k < t) (hful : ∀ j, t ≤ j → j < ops.size → ∀ k, k < j → (preds.getD j 0).testBit k = true)
    (R0 : ∀ k o u, k < e → ops.toList[k]? = some o → vals[k]? = some u → (execOp aF.eval o).run X.P w0 = .ok (.value u) w0)
    (R1 : ∀ k o u, k < e → (preds.getD e 0).testBit k = false → ops.toList[k]? = some o → vals[k]? = some u → (execOp aF.eval o).run X.P w1 = .ok (.value u) w1)
    (Re : ∀ o u, ops.toList[e]? = some o → vals[e]? = some u → (execOp aF.eval o).run X.P w0 = .ok (.value u) w1)
    (R2 : ∀ k o u, e < k → k < t → ops.toList[k]? = some o → vals[k]? = some u → (preds.getD k 0).testBit e = true ∧ (execOp aF.eval o).run X.P w1 = .ok (.value u) w1) (het : e < t)
    (hend : ∀ (listed : Array Bool) fu, listed.size = ops.size → (∀ j, j < t → listed.getD j false = true) → (∀ j, t ≤ j → j < ops.size → listed.getD j true = false) → ops.size - t ≤ fu → wpAny X.P .any ops Q fu listed aF w1) :
    ∀ (fu : Nat) (U : List Nat) (listed : Array Bool) (a : Act) (w : World), ops.size - t + U.length ≤ fu → (∀ j, j < t → listed.getD j true = false → j ∈ U) → listed.size = ops.size →
      (∀ k, listed.getD k false = true → ∀ j, (preds.getD k 0).testBit j = true → listed.getD j false = true) → (∀ j, t ≤ j → j < ops.size → listed.getD j true = false) →
      (a.defers = a0.defers ∧ a.tmps.size = a0.tmps.size ∧ (∀ k o d u, k < t → listed.getD k false = true → ops.toList[k]? = some o → o.dst = some d → vals[k]? = some u → a.tmps[d]? = some u) ∧
        (∀ d, (∀ k o, k < t → listed.getD k false = true → ops.toList[k]? = some o → o.dst ≠ some d) → a.tmps[d]? = a0.tmps[d]?)) →
      w = (if listed.getD e false = true then w1 else w0) → wpAny X.P .any ops Q fu listed a w := by
  have done : ∀ (listed : Array Bool) (a : Act) (w : World), (∀ j, j < t → listed.getD j false = true) → (a.defers = a0.defers ∧ a.tmps.size = a0.tmps.size ∧ (∀ k o d u, k < t → listed.getD k false = true → ops.toList[k]? = some o → o.dst = some d → vals[k]? = some u → a.tmps[d]? = some u) ∧
        (∀ d, (∀ k o, k < t → listed.getD k false = true → ops.toList[k]? = some o → o.dst ≠ some d) → a.tmps[d]? = a0.tmps[d]?)) →
      w = (if listed.getD e false = true then w1 else w0) → a = aF ∧ w = w1 := by
    intro listed a w hall ⟨g1, g2, g3, g4⟩ hw
    rw [if_pos (hall e het)] at hw
    refine ⟨?_, hw⟩
    have htm : a.tmps = aF.tmps := by
      refine Array.ext_getElem? fun d => ?_
      by_cases hd : ∃ k o, k < t ∧ ops.toList[k]? = some o ∧ o.dst = some d
      · obtain ⟨k, o, hk, ho, hod⟩ := hd
        have hu : vals[k]? = some vals[k] := List.getElem?_eq_getElem (by omega)
        rw [g3 k o d _ hk (hall k hk) ho hod hu, hF1 k o d _ hk ho hod hu]
      · rw [g4 d (fun k o hk _ ho hod => hd ⟨k, o, hk, ho, hod⟩), hF2 d (fun k o hk ho hod => hd ⟨k, o, hk, ho, hod⟩)]
    have hdf : a.defers = aF.defers := by rw [g1, hF.1]
    cases a; cases aF; simp only at htm hdf; subst htm hdf; rfl
  intro fu
  induction fu with
  | zero =>
    intro U listed a w hfu hU hsz hcl htl hg hw
    have hU0 : U = [] := List.eq_nil_of_length_eq_zero (by omega)
    have hall : ∀ j, j < t → listed.getD j false = true := by
      intro j hj
      cases hb : listed.getD j false with
      | true => rfl
      | false =>
        rw [getD_flip (by omega) false true] at hb
        have := hU j hj hb
        rw [hU0] at this; cases this
    obtain ⟨rfl, rfl⟩ := done listed a w hall hg hw
    exact hend listed 0 hsz hall htl (by omega)
  | succ fu ih =>
    intro U listed a w hfu hU hsz hcl htl hg hw
    by_cases hall : ∀ j, j < t → listed.getD j false = true
    · obtain ⟨rfl, rfl⟩ := done listed a w hall hg hw
      exact hend listed (fu + 1) hsz hall htl (by omega)
    · have hex : ∃ j, j < t ∧ listed.getD j false = false := by
        false_or_by_contra
        rename_i hc
        exact hall fun j hj => by
          cases hb : listed.getD j false with
          | true => rfl
          | false => exact absurd ⟨j, hj, hb⟩ hc
      obtain ⟨j0, hj0⟩ := hex
      obtain ⟨i0, ⟨hi0, hu0⟩, hmin⟩ := least_of (p := fun j => j < t ∧ listed.getD j false = false) j0 hj0
      have hi0n : i0 < ops.toList.length := by simp; omega
      have hin : i0 ∈ Region.ready .any ops listed := by
        refine ready_iff.2 ⟨by rw [getD_flip (by omega) true false]; exact hu0, _, List.getElem?_eq_getElem hi0n, fun k hk => ?_⟩
        have hlt := hback i0 (by omega) _ (List.getElem?_eq_getElem hi0n) k hk
        cases hb : listed.getD k false with
        | true => rfl
        | false => exact absurd ⟨by omega, hb⟩ (hmin k hlt)
      refine ⟨(fun hn => by rw [hn] at hin; cases hin), fun i hi => ?_⟩
      obtain ⟨q1, oi, q2, q3⟩ := ready_iff.1 hi
      have hilt : i < ops.size := by have := (List.getElem?_eq_some_iff.1 q2).1; simpa using this
      have hps : ∀ p, (preds.getD i 0).testBit p = true → listed.getD p false = true := by
        intro p hp
        rcases hpre i oi q2 p hp with (h | h) | ⟨j, hj | hj, hpj⟩
        · exact q3 p h
        · cases h.2
        · exact hcl j (q3 j hj) p hpj
        · cases hj.2
      have him : i < t := by
        rcases Nat.lt_or_ge i t with h | h
        · exact h
        · exfalso
          have hd : listed.getD i0 false = true := hps i0 (hful i h hilt i0 (by omega))
          rw [hu0] at hd
          cases hd
      have hset : ∀ j d, (listed.setIfInBounds i true).getD j d = if j = i then true else listed.getD j d := fun j d => getD_set (by omega)
      have hi_un : listed.getD i false = false := by rw [getD_flip (by omega) false true]; exact q1
      obtain ⟨o', di, h1, h2, h3, h4⟩ := hdst i him
      rw [q2] at h1; cases h1
      obtain ⟨g1, g2, g3, g4⟩ := hg
      have hu : vals[i]? = some vals[i] := List.getElem?_eq_getElem (by omega)
      obtain ⟨hsel, hopi⟩ := hopn i oi him q2
      have hex : execOp a.eval oi = execOp aF.eval oi := by
        refine exec_tmps hsel fun d hd => ?_
        by_cases hq : ∃ k o, k < t ∧ ops.toList[k]? = some o ∧ o.dst = some d
        · obtain ⟨k, o, hk, ho, hod⟩ := hq
          have huk : vals[k]? = some vals[k] := List.getElem?_eq_getElem (by omega)
          rw [g3 k o d _ hk (hps k (hopi d hd k o hk ho hod)) ho hod huk, hF1 k o d _ hk ho hod huk]
        · rw [g4 d (fun k o hk _ ho hod => hq ⟨k, o, hk, ho, hod⟩), hF2 d (fun k o hk ho hod => hq ⟨k, o, hk, ho, hod⟩)]
      -- what it does to the world
      have hrun : (execOp aF.eval oi).run X.P w = .ok (.value vals[i]) (if (listed.setIfInBounds i true).getD e false = true then w1 else w0) := by
        rw [hset]
        rcases Nat.lt_trichotomy i e with hlt | heq | hgt
        · rw [if_neg (show ¬ e = i by omega)]
          by_cases hle : listed.getD e false = true
          · rw [if_pos hle] at hw ⊢
            subst hw
            refine R1 i oi _ hlt ?_ q2 hu
            cases hb : (preds.getD e 0).testBit i with
            | false => rfl
            | true => have := hcl e hle i hb; rw [hi_un] at this; cases this
          · rw [if_neg hle] at hw ⊢
            subst hw
            exact R0 i oi _ hlt q2 hu
        · subst heq
          rw [hi_un] at hw
          simp only [Bool.false_eq_true, if_false] at hw
          subst hw
          simp only [if_true]
          exact Re oi _ q2 hu
        · obtain ⟨k1, k2⟩ := R2 i oi _ hgt him q2 hu
          have hle := hps e k1
          rw [if_neg (show ¬ e = i by omega), if_pos hle]
          rw [if_pos hle] at hw
          subst hw
          exact k2
      refine wpOp_of q2 ?_
      have hwant : Region.wanted oi (yielded ops a.tmps) = true := by unfold Region.wanted; rw [h3]
      rw [if_pos hwant]
      refine .inl ?_
      unfold Oper.wp
      rw [hex, hrun]
      simp only [Oper.upon, h2]
      refine ih (U.filter (fun j => j != i)) _ _ _ ?_ ?_ (by simp [hsz]) ?_ ?_ ⟨by rw [put_def]; exact g1, by rw [put_size]; exact g2, fun k o d u hk hl ho hod hu' => ?_, fun d hd => ?_⟩ rfl
      · have hiU : i ∈ U := hU i him q1
        have : (U.filter (fun j => j != i)).length < U.length := by
          rw [List.length_filter_lt_length_iff_exists]
          exact ⟨i, hiU, by simp⟩
        omega
      · intro j hj hb
        rw [hset] at hb
        split at hb
        · cases hb
        · rename_i hne
          exact List.mem_filter.2 ⟨hU j hj hb, by simpa using hne⟩
      · intro k hk j hj
        rw [hset] at hk ⊢
        split
        · rfl
        · split at hk
          · rename_i hki
            subst hki
            exact hps j hj
          · exact hcl k hk j hj
      · intro j hj hj2
        rw [hset, if_neg (by omega)]
        exact htl j hj hj2
      · rw [hset] at hl
        by_cases hki : k = i
        · subst hki
          rw [q2] at ho; cases ho
          rw [h2] at hod; cases hod
          rw [put_at (by rw [g2]; exact h4)]
          rw [hu] at hu'; exact hu'
        · rw [if_neg hki] at hl
          have hne : (some di : Option Tmp) ≠ some d := fun hq => hki (hdis k i o oi hk him ho q2 (by rw [hod, h2, hq]))
          rw [put_ne hne]
          exact g3 k o d u hk hl ho hod hu'
      · have hne : (some di : Option Tmp) ≠ some d := fun hq => hd i oi him (by rw [hset, if_pos rfl]) q2 (by rw [h2, hq])
        rw [put_ne hne]
        refine g4 d fun k o hk hl ho => hd k o hk ?_ ho
        rw [hset]
        split
        · rfl
        · exact hl

theorem doLate_sound {ops : Array Oper} {Q : Exit → Act → World → Prop} {K : St → T} {r : List D} (hF : FsOk X.G X.P Fs) {id : Nat} {st : St} {ρ : List D} {Ft : Fr} {β : Nat → Value} {a : Act} {w : World} (he : eval Fs fuel (doLate X.P X.nt ops st K) L ρ = some r) (hnv : st.nv = ρ.length) (hs : Sat X ρ st Ft β a w)
    (HK : Goes X Fs fuel L ρ K r (Q .normal)) : (Code.region id ops true).wp X.P Q a w := by
  unfold doLate at he
  simp only at he
  split at he
  · exact doDraw_sound hF he hnv hs HK
  · rename_i e hfi
    rw [frL_eq frN_eq, frN_eq] at he
    generalize hpr : predsGo (ops.toList.map direct) [] = preds at he
    generalize hmm : headLen ops.toList.length preds = t at he
    split at he
    · rename_i het
      split at he
      · rename_i hc
        unfold lateOk at hc
        simp only [Bool.and_eq_true, decide_eq_true_eq, List.all_eq_true, List.mem_range] at hc
        obtain ⟨⟨⟨⟨hmix, _⟩, htl⟩, hchk⟩, hops⟩ := hc
        have htn : t ≤ ops.size := by simpa using htl
        -- what was checked of each operation
        have each : ∀ k o, k < t → ops.toList[k]? = some o → o.guard = none ∧ isSel o = false ∧ (∃ d, o.dst = some d ∧ d < X.nt ∧ ∀ j q, j < t → ops.toList[j]? = some q → j ≠ k → q.dst ≠ some d) ∧ (k ≤ e ∨ (preds.getD k 0).testBit e = true) ∧
            ∀ d ∈ tmpsOf o, ∀ j q, j < t → ops.toList[j]? = some q → q.dst = some d → (preds.getD k 0).testBit j = true := by
          intro k o hk ho
          have h := hops k hk
          rw [ho] at h
          simp only [Bool.and_eq_true] at h
          obtain ⟨⟨⟨⟨h1, h2⟩, h3⟩, h4⟩, h5⟩ := h
          refine ⟨by simpa using h1, by simpa using h2, ?_, by simpa using h4, ?_⟩
          · split at h3
            · rename_i d hd
              simp only [Bool.and_eq_true, decide_eq_true_eq, List.all_eq_true, List.mem_range] at h3
              refine ⟨d, hd, h3.1, fun j q hj hq hne => ?_⟩
              have := h3.2 j hj
              rw [hq] at this
              simp only [Bool.or_eq_true, beq_iff_eq, bne_iff_ne, ne_eq] at this
              exact this.elim (fun h => absurd h hne) fun h => h
            · cases h3
          · intro d hd j q hj hq hqd
            simp only [List.all_eq_true, List.mem_range] at h5
            have := h5 d hd j hj
            rw [hq] at this
            simp only [Bool.or_eq_true, bne_iff_ne, ne_eq] at this
            exact this.elim (fun h => absurd hqd h) fun h => h
        have hget : ∀ k, k < t → ∃ o, ops.toList[k]? = some o := fun k hk => ⟨_, List.getElem?_eq_getElem (by omega)⟩
        have hdis : ∀ j k oj ok, j < t → k < t → ops.toList[j]? = some oj → ops.toList[k]? = some ok → oj.dst = ok.dst → j = k := by
          intro j k oj ok hj hk hoj hok hd
          obtain ⟨_, _, ⟨d, h1, _, h3⟩, _⟩ := each k ok hk hok
          rcases Nat.decEq j k with hne | hne
          · exact absurd (by rw [hd, h1]) (h3 j oj hj hoj hne)
          · exact hne
        have hback : ∀ t, t < ops.size → ∀ o, ops.toList[t]? = some o → ∀ k ∈ direct o, k < t := by
          intro t ht o ho k hk
          have := (hchk t (by simpa using ht)).2
          rw [ho] at this
          simp only [List.all_eq_true, decide_eq_true_eq] at this
          exact this k hk
        have hful : ∀ j, t ≤ j → j < ops.size → ∀ k, k < j → (preds.getD j 0).testBit k = true := by
          intro j h1 h2
          have := (hchk j (by simpa using h2)).1
          simp only [Bool.or_eq_true, decide_eq_true_eq] at this
          rcases this with h | h
          · omega
          · intro k hk
            unfold isFull at h
            simp only [List.all_eq_true, List.mem_range] at h
            exact h k hk
        have hpre : PreOk ops [] preds := by
          rw [← hpr]
          have := preOk_of (ops := ops) (fl := [])
          have e1 : ops.toList.zipIdx.map (directF []) = ops.toList.map direct := by
            refine List.ext_getElem? fun i => ?_
            rw [List.getElem?_map, List.getElem?_map, List.getElem?_zipIdx]
            cases ops.toList[i]? <;> simp [directF]
          rw [e1] at this
          exact this
        have hplt : ∀ j, j < ops.size → ∀ p, (preds.getD j 0).testBit p = true → p < j := preds_lt hpre hback
        -- the operations one after the other
        have hs1 := hs.below (drew_below w)
        have hokd : ∀ k o, k < t → ops.toList[k]? = some o → okDst X.nt o.dst = true := by
          intro k o hk ho
          obtain ⟨_, _, ⟨d, h1, h2, _⟩, _⟩ := each k o hk ho
          rw [h1]; simpa [okDst] using h2
        obtain ⟨us0, svs0, st1, a1, p1, p2, p3, p4, p5, p6, p7⟩ := seqV_sound _ he hs1 (fun o ho => by
          obtain ⟨k, hk⟩ := List.getElem?_of_mem ho
          rw [List.getElem?_take] at hk
          split at hk
          · exact hokd k o (by omega) hk
          · cases hk)
        simp only [List.nil_append] at p2
        obtain ⟨oe, hoe⟩ := hget e het
        rw [hoe] at p2
        simp only at p2
        split at p2
        · rename_i tt m x hop
          obtain ⟨ve, w1, st2, r1, r2, r3, r4⟩ := doMapEntry_run hop p2 (by rw [p3]; exact hnv) p5
          split at r4
          · rename_i hsame
            obtain ⟨us2, svs2, st3, aF, s1, s2, s3, s4, s5, s6, s7⟩ := seqV_sound _ r4 r2 (fun o ho => by
              obtain ⟨k, hk⟩ := List.getElem?_of_mem ho
              rw [List.getElem?_take] at hk
              split at hk
              · rw [List.getElem?_drop] at hk
                exact hokd _ o (by omega) hk
              · cases hk)
            -- values
            have hl0 : us0.length = e := by rw [p6.len, List.length_take]; omega
            have hl2 : us2.length = t - (e + 1) := by rw [s6.len, List.length_take, List.length_drop]; omega
            have hv0 : ∀ k, k < e → (us0 ++ ve :: us2)[k]? = us0[k]? := fun k hk => List.getElem?_append_left (by omega)
            have hve : (us0 ++ ve :: us2)[e]? = some ve := by rw [List.getElem?_append_right (by omega), hl0]; simp
            have hv2 : ∀ k, e < k → (us0 ++ ve :: us2)[k]? = us2[k - (e + 1)]? := fun k hk => by
              rw [List.getElem?_append_right (by omega), hl0]
              obtain ⟨q, rfl⟩ : ∃ q, k = e + 1 + q := ⟨k - (e + 1), by omega⟩
              rw [show e + 1 + q - e = q + 1 by omega, show e + 1 + q - (e + 1) = q by omega]
              simp
            have ht0 : ∀ k, k < e → (ops.toList.take e)[k]? = ops.toList[k]? := fun k hk => by rw [List.getElem?_take, if_pos hk]
            have ht2 : ∀ k, e < k → k < t → ((ops.toList.drop (e + 1)).take (t - (e + 1)))[k - (e + 1)]? = ops.toList[k]? := fun k h1 h2 => by
              rw [List.getElem?_take, if_pos (by omega), List.getElem?_drop]
              congr 1
              omega
            obtain ⟨f1, f2, f3⟩ := p6.fin
            obtain ⟨g1, g2, g3⟩ := s6.fin
            have hd0 : ∀ d, (∀ k o, k < e → ops.toList[k]? = some o → o.dst ≠ some d) → a1.tmps[d]? = a.tmps[d]? := fun d hd => f3 d fun o ho => by
              obtain ⟨k, hk⟩ := List.getElem?_of_mem ho
              have hke : k < e := by have := (List.getElem?_eq_some_iff.1 hk).1; rw [List.length_take] at this; omega
              rw [ht0 k hke] at hk
              exact hd k o hke hk
            have hd2 : ∀ d, (∀ k o, e < k → k < t → ops.toList[k]? = some o → o.dst ≠ some d) → aF.tmps[d]? = (a1.put oe.dst ve).tmps[d]? := fun d hd => g3 d fun o ho => by
              obtain ⟨k, hk⟩ := List.getElem?_of_mem ho
              have hkt : k < t - (e + 1) := by have := (List.getElem?_eq_some_iff.1 hk).1; rw [List.length_take] at this; omega
              rw [List.getElem?_take, if_pos hkt, List.getElem?_drop] at hk
              exact hd (e + 1 + k) o (by omega) (by omega) hk
            -- at an operation, all that it looks at is as at the end
            have look : ∀ k o d, k < t → ops.toList[k]? = some o → d ∈ tmpsOf o → ∀ j q, j < t → k ≤ j → ops.toList[j]? = some q → q.dst ≠ some d := by
              intro k o d hk ho hd j q hj hkj hq hqd
              have := (each k o hk ho).2.2.2.2 d hd j q hj hq hqd
              have := hplt k (by omega) j this
              omega
            have hsize : a1.tmps.size = a.tmps.size := f2
            have hnt : a.tmps.size = X.nt := hs.sz
            -- what each operation comes to
            have R0 : ∀ k o u, k < e → ops.toList[k]? = some o → (us0 ++ ve :: us2)[k]? = some u → (execOp aF.eval o).run X.P { w with drawn := w.drawn + 1 } = .ok (.value u) { w with drawn := w.drawn + 1 } := by
              intro k o u hk ho hu
              rw [hv0 k hk] at hu
              obtain ⟨ai, x1, x2, _⟩ := p6.each k o u (by rw [ht0 k hk]; exact ho) hu
              rw [exec_tmps (a := aF) (b := ai) (each k o (by omega) ho).2.1 fun d hd => ?_]
              · exact x1
              · have hl := look k o d (by omega) ho hd
                rw [hd2 d (fun j q h1 h2 hq => hl j q h2 (by omega) hq), put_ne (hl e oe het (by omega) hoe), x2 d fun j q hj hq => ?_]
                have hje : j < e := by have := (List.getElem?_eq_some_iff.1 hq).1; rw [List.length_take] at this; omega
                rw [ht0 j hje] at hq
                exact hl j q (by omega) hj hq
            have Re : ∀ o u, ops.toList[e]? = some o → (us0 ++ ve :: us2)[e]? = some u → (execOp aF.eval o).run X.P { w with drawn := w.drawn + 1 } = .ok (.value u) w1 := by
              intro o u ho hu
              rw [hoe] at ho; cases ho
              rw [hve] at hu; cases hu
              rw [exec_tmps (a := aF) (b := a1) (each e oe het hoe).2.1 fun d hd => ?_]
              · exact r1
              · have hl := look e oe d het hoe hd
                rw [hd2 d (fun j q h1 h2 hq => hl j q h2 (by omega) hq), put_ne (hl e oe het (Nat.le_refl _) hoe)]
            have R2 : ∀ k o u, e < k → k < t → ops.toList[k]? = some o → (us0 ++ ve :: us2)[k]? = some u → (preds.getD k 0).testBit e = true ∧ (execOp aF.eval o).run X.P w1 = .ok (.value u) w1 := by
              intro k o u hk hkt ho hu
              refine ⟨((each k o hkt ho).2.2.2.1).elim (fun h => by omega) fun h => h, ?_⟩
              rw [hv2 k hk] at hu
              obtain ⟨ai, x1, x2, _⟩ := s6.each (k - (e + 1)) o u (by rw [ht2 k hk hkt]; exact ho) hu
              rw [exec_tmps (a := aF) (b := ai) (each k o hkt ho).2.1 fun d hd => ?_]
              · exact x1
              · have hl := look k o d hkt ho hd
                refine (x2 d fun j q hj hq => ?_).symm
                have hjt : j < t - (e + 1) := by have := (List.getElem?_eq_some_iff.1 hq).1; rw [List.length_take] at this; omega
                rw [List.getElem?_take, if_pos hjt, List.getElem?_drop] at hq
                exact hl (e + 1 + j) q (by omega) (by omega) hq
            have lateL : ∀ (l : List (Oper × Nat)) (svs : List SV), lateSame X.P st2 preds e l svs = true → ∀ (i : Nat) (o : Oper) (k : Nat), l[i]? = some (o, k) → k < e → (preds.getD e 0).testBit k = false →
                ∃ sv, svs[i]? = some sv ∧ flatSV sv = true ∧ evV X.P st2 o.op o.type = some ([], sv, none) := by
              intro l
              induction l with
              | nil => intro svs _ i o k hi; simp at hi
              | cons p l ih =>
                intro svs h i o k hi hk hb
                obtain ⟨o0, k0⟩ := p
                cases svs with
                | nil => simp [lateSame] at h
                | cons sv svs =>
                  simp only [lateSame, Bool.and_eq_true] at h
                  obtain ⟨h1, h2⟩ := h
                  cases i with
                  | zero =>
                    simp at hi
                    obtain ⟨rfl, rfl⟩ := hi
                    simp only [Bool.or_eq_true, decide_eq_true_eq, Bool.and_eq_true] at h1
                    rcases h1 with (h1 | h1) | ⟨h1, h3⟩
                    · omega
                    · rw [hb] at h1; cases h1
                    · refine ⟨sv, rfl, h1, ?_⟩
                      split at h3
                      · rename_i sv' hev
                        simp only [decide_eq_true_eq] at h3
                        rw [h3]; exact hev
                      · cases h3
                  | succ i => exact ih svs h2 i o k (by simpa using hi) hk hb
            have R1 : ∀ k o u, k < e → (preds.getD e 0).testBit k = false → ops.toList[k]? = some o → (us0 ++ ve :: us2)[k]? = some u → (execOp aF.eval o).run X.P w1 = .ok (.value u) w1 := by
              intro k o u hk hb ho hu
              rw [hv0 k hk] at hu
              obtain ⟨sv, y1, y2, y3⟩ := lateL _ _ hsame k o k (by rw [List.getElem?_zipIdx, ht0 k hk, ho]; simp) hk hb
              obtain ⟨v', z1, z2⟩ := evV_sound r2.on r2 y3 (fun e he => by cases he)
              have := flat_val y2 (p7 k sv u y1 hu) z2
              subst this
              rw [exec_tmps (a := aF) (b := a1.put oe.dst ve) (each k o (by omega) ho).2.1 fun d hd => ?_]
              · exact z1
              · have hl := look k o d (by omega) ho hd
                exact hd2 d (fun j q h1 h2 hq => hl j q h2 (by omega) hq)
            have hF1 : ∀ k o d u, k < t → ops.toList[k]? = some o → o.dst = some d → (us0 ++ ve :: us2)[k]? = some u → aF.tmps[d]? = some u := by
              intro k o d u hk ho hod hu
              have hdn : d < X.nt := by
                obtain ⟨_, _, ⟨d', h1, h2, _⟩, _⟩ := each k o hk ho
                rw [hod] at h1; cases h1; exact h2
              have hoth : ∀ j q, j < t → ops.toList[j]? = some q → j ≠ k → q.dst ≠ some d := fun j q hj hq hne hqd => hne (hdis j k q o hj hk hq ho (by rw [hqd, hod]))
              rcases Nat.lt_trichotomy k e with hlt | heq | hgt
              · rw [hd2 d (fun j q h1 h2 hq => hoth j q h2 hq (by omega)), put_ne (hoth e oe het hoe (by omega))]
                rw [hv0 k hlt] at hu
                obtain ⟨_, _, _, x3⟩ := p6.each k o u (by rw [ht0 k hlt]; exact ho) hu
                refine x3 d hod (by rw [hnt]; exact hdn) fun j q hj hq => ?_
                have hje : j < e := by have := (List.getElem?_eq_some_iff.1 hq).1; rw [List.length_take] at this; omega
                rw [ht0 j hje] at hq
                exact hoth j q (by omega) hq (by omega)
              · subst heq
                rw [hoe] at ho; cases ho
                rw [hve] at hu; cases hu
                rw [hd2 d (fun j q h1 h2 hq => hoth j q h2 hq (by omega)), hod, put_at (by rw [hsize, hnt]; exact hdn)]
              · rw [hv2 k hgt] at hu
                obtain ⟨_, _, _, x3⟩ := s6.each (k - (e + 1)) o u (by rw [ht2 k hgt hk]; exact ho) hu
                refine x3 d hod (by rw [put_size, hsize, hnt]; exact hdn) fun j q hj hq => ?_
                have hjt : j < t - (e + 1) := by have := (List.getElem?_eq_some_iff.1 hq).1; rw [List.length_take] at this; omega
                rw [List.getElem?_take, if_pos hjt, List.getElem?_drop] at hq
                exact hoth (e + 1 + j) q (by omega) hq (by omega)
            have hF2 : ∀ d, (∀ k o, k < t → ops.toList[k]? = some o → o.dst ≠ some d) → aF.tmps[d]? = a.tmps[d]? := by
              intro d hd
              rw [hd2 d (fun k o _ h2 ho => hd k o h2 ho), put_ne (hd e oe het hoe), hd0 d (fun k o hk ho => hd k o (by omega) ho)]
            refine wp_region_any hmix ?_
            refine anyLate (preds := preds) (t := t) (e := e) (vals := us0 ++ ve :: us2) (aF := aF) (a0 := a) (w0 := { w with drawn := w.drawn + 1 }) (w1 := w1) htn ?_ hdis (by simp [hl0, hl2]; omega) ⟨by rw [g1, put_def, f1], by rw [g2, put_size, f2]⟩ hF1 hF2
              (fun k o hk ho => ⟨(each k o hk ho).2.1, (each k o hk ho).2.2.2.2⟩) hpre hback hful R0 R1 Re R2 het ?_ ops.size (List.range t) (Array.replicate ops.size false) a _ (by simp; omega) (fun j hj _ => List.mem_range.2 hj) (by simp) ?_ ?_ ⟨rfl, rfl, ?_, fun d _ => rfl⟩ ?_
            · intro k hk
              obtain ⟨o, ho⟩ := hget k hk
              obtain ⟨h1, _, ⟨d, h2, h3, _⟩, _⟩ := each k o hk ho
              exact ⟨o, d, ho, h2, h1, by rw [hnt]; exact h3⟩
            · intro listed fu hsz hall htl' hfu
              exact anyTail hF hpre hback _ t fu (fun k hk => by cases hk) rfl hsz hall htl' hful (by simpa using hfu) s2 (by rw [s3]; exact r3) s5 HK
            · intro k hk
              exfalso
              by_cases hlt : k < ops.size <;> simp [hlt] at hk
            · intro j _ hj
              simp [hj]
            · intro k o d u hk hl
              exfalso
              by_cases hlt : k < ops.size <;> simp [hlt] at hl
            · have : (Array.replicate ops.size false).getD e false = false := by by_cases hlt : e < ops.size <;> simp [hlt]
              rw [this]
              simp
          · cases r4
        · cases p2
      · cases he
    · exact doDraw_sound hF he hnv hs HK
end
end Go.Proofs.YtobacchojjfpfaaGreatDoor.Eng
