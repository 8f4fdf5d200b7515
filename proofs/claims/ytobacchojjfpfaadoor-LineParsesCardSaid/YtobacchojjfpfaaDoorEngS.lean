/-
  A reader of Go functions, part S: regions that draw their order, each order read.
-/
import Derived.Test.YtobacchojjfpfaaDoorEngR
namespace Go.Proofs.YtobacchojjfpfaaDoor.Eng
open Go.RowKit
set_option linter.unusedVariables false
set_option linter.unusedSimpArgs false

/-- A tree, written out. -/
def frT : T → (T → T) → T
  | .ret es, k => frL frE es fun es => k (.ret es)
  | .ite c a b, k => frE c fun c => frT a fun a => frT b fun b => k (.ite c a b)
  | .need c t, k => frE c fun c => frT t fun t => k (.need c t)
  | .call f args n t, k => frN f fun f => frL frE args fun args => frN n fun n => frT t fun t => k (.call f args n t)
  | .any a b, k => frT a fun a => frT b fun b => k (.any a b)
  | .loop es t, k => frL frE es fun es => frT t fun t => k (.loop es t)
  | .again l es, k => frN l fun l => frL frE es fun es => k (.again l es)
  | .jp a b, k => frT a fun a => frT b fun b => k (.jp a b)
  | .fail n, k => frN n fun n => k (.fail n)
  | .stop st, k => k (.stop st)
theorem frT_eq : ∀ (t : T) (k : T → T), frT t k = k t := by
  intro t
  induction t with
  | ret es => intro k; simp only [frT, frL_eq frE_eq]
  | ite c a b iha ihb => intro k; simp only [frT, frE_eq, iha, ihb]
  | need c t ih => intro k; simp only [frT, frE_eq, ih]
  | call f args n t ih => intro k; simp only [frT, frN_eq, frL_eq frE_eq, ih]
  | any a b iha ihb => intro k; simp only [frT, iha, ihb]
  | loop es t ih => intro k; simp only [frT, frL_eq frE_eq, ih]
  | again l es => intro k; simp only [frT, frN_eq, frL_eq frE_eq]
  | jp a b iha ihb => intro k; simp only [frT, iha, ihb]
  | fail n => intro k; simp only [frT, frN_eq]
  | stop st => intro k; rfl
def stripN : T → List E × T
  | .need c t => (c :: (stripN t).1, (stripN t).2)
  | t => ([], t)
/-- One of two, whichever. -/
def mkAny (a b : T) : T := needs ((stripN a).1 ++ (stripN b).1.filter fun e => !decide (e ∈ (stripN a).1)) (if (stripN a).2 = (stripN b).2 then (stripN a).2 else .any (stripN a).2 (stripN b).2)
section
variable {Fs : Nat → Fn} {fuel : Nat} {L : List Fn} {ρ : List D} {r : List D}
theorem strip_eval : ∀ {t : T}, (∀ e ∈ (stripN t).1, (den ρ e).toBool = true) → eval Fs fuel (stripN t).2 L ρ = some r → eval Fs fuel t L ρ = some r := by
  intro t
  induction t with
  | need c t ih =>
    intro h1 h2
    simp only [stripN, List.mem_cons, forall_eq_or_imp] at h1 h2
    simp only [eval, h1.1, if_true]
    exact ih h1.2 h2
  | _ => intro _ h2; exact h2
theorem needs_eval : ∀ {l : List E} {t : T}, eval Fs fuel (needs l t) L ρ = some r → (∀ e ∈ l, (den ρ e).toBool = true) ∧ eval Fs fuel t L ρ = some r
  | [], t, h => ⟨(fun e h => by cases h), h⟩
  | e :: l, t, h => by
    simp only [needs] at h
    split at h
    · rename_i he
      obtain ⟨h1, h2⟩ := needs_eval h
      exact ⟨fun x hx => (by
        rcases List.mem_cons.1 hx with rfl | hx
        · subst he; rfl
        · exact h1 x hx), h2⟩
    · simp only [eval] at h
      split at h
      · rename_i he
        obtain ⟨h1, h2⟩ := needs_eval h
        exact ⟨fun x hx => (by
          rcases List.mem_cons.1 hx with rfl | hx
          · exact he
          · exact h1 x hx), h2⟩
      · cases h
theorem mkAny_eval {a b : T} (h : eval Fs fuel (mkAny a b) L ρ = some r) : eval Fs fuel a L ρ = some r ∧ eval Fs fuel b L ρ = some r := by
  obtain ⟨h1, h2⟩ := needs_eval h
  have ha : ∀ e ∈ (stripN a).1, (den ρ e).toBool = true := fun e he => h1 e (List.mem_append_left _ he)
  have hb : ∀ e ∈ (stripN b).1, (den ρ e).toBool = true := fun e he => by
    by_cases hm : e ∈ (stripN a).1
    · exact ha e hm
    · exact h1 e (List.mem_append_right _ (List.mem_filter.2 ⟨he, by simpa using hm⟩))
  split at h2
  · rename_i he
    exact ⟨strip_eval ha h2, strip_eval hb (he ▸ h2)⟩
  · simp only [eval] at h2
    obtain ⟨q1, q2⟩ := both_some h2
    exact ⟨strip_eval ha q1, strip_eval hb q2⟩
def anyAll : List T → T
  | [] => .fail 182
  | [t] => t
  | t :: ts => frT t fun t => frT (anyAll ts) fun u => mkAny t u
theorem anyAll_eval : ∀ {l : List T}, eval Fs fuel (anyAll l) L ρ = some r → ∀ t ∈ l, eval Fs fuel t L ρ = some r
  | [], h, t, ht => by cases ht
  | [x], h, t, ht => by rw [List.mem_singleton.1 ht]; exact h
  | x :: y :: l, h, t, ht => by
    simp only [anyAll, frT_eq] at h
    obtain ⟨h1, h2⟩ := mkAny_eval h
    rcases List.mem_cons.1 ht with rfl | ht
    · exact h1
    · exact anyAll_eval h2 t ht
end
section
variable (P : Program) (nt : Nat)
def rdyL (ds : List (List Nat)) (n L : Nat) : List Nat := (List.range n).filter fun j => !L.testBit j && (ds.getD j []).all fun k => decide (k < n) && L.testBit k
def bitsA (n L : Nat) : Array Bool := ((List.range n).map fun j => L.testBit j).toArray
def eager (ops : Array Oper) (L i : Nat) : Bool := match ops.toList[i]? with
  | some o => isMove o && Region.free .any ops (bitsA ops.size L) i
  | none => false
def doAll (ops : Array Oper) (ds : List (List Nat)) : Nat → Nat → St → (St → T) → T
  | 0, L, st, K => match rdyL ds ops.size L with
    | [] => K st
    | _ => .fail 180
  | n + 1, L, st, K => match rdyL ds ops.size L with
    | [] => K st
    | i0 :: rs => frL frN (match (i0 :: rs).find? (eager ops L) with | some i => [i] | none => i0 :: rs) fun rs =>
      anyAll (rs.map fun i => match ops.toList[i]? with
        | some o => doG P nt ops st o fun st' => frN (L ||| (1 <<< i)) fun L' => doAll ops ds n L' st' K
        | none => .fail 181)
/-- A call that writes the heap. -/
def isHeapC (st : St) (o : Oper) : Bool := match o.op with
  | .call c => match c.callee with
    | .value (.func f) => decide (st.cf.hm.lookup f = some 2)
    | _ => false
  | _ => false
def doDrawn (ops : Array Oper) (st : St) (K : St → T) : T :=
  if (ops.toList.take (headLen ops.toList.length (predsGo (ops.toList.map direct) []))).any (isHeapC st) then
    if P.follows .mixedOrders && Region.noSelect ops && decide (st.sc = true) then frL (frL frN) (ops.toList.map direct) fun ds => doAll P nt ops ds ops.size 0 st K else .fail 183
  else doLate P nt ops st K
end
theorem bitsA_get {n L j : Nat} {d : Bool} : (bitsA n L).getD j d = if j < n then L.testBit j else d := by
  unfold bitsA
  by_cases h : j < n
  · simp [h]
  · simp [h]
theorem bitsA_set {n L i : Nat} (hi : i < n) : (bitsA n L).setIfInBounds i true = bitsA n (L ||| (1 <<< i)) := by
  apply Array.ext
  · simp [bitsA]
  · intro j h1 h2
    have hj : j < n := by simpa [bitsA] using h2
    have e1 := getD_set (listed := bitsA n L) (i := i) (j := j) (d := false) (by simpa [bitsA] using hi)
    have e2 := bitsA_get (n := n) (L := L ||| (1 <<< i)) (j := j) (d := false)
    rw [if_pos hj] at e2
    have f1 : ∀ (A : Array Bool) (h : j < A.size), A.getD j false = A[j] := fun A h => by simp [h]
    rw [← f1 _ h1, ← f1 _ h2, e1, e2, Nat.testBit_or, Nat.testBit_shiftLeft]
    rw [bitsA_get, if_pos hj]
    by_cases hij : j = i
    · subst hij; simp
    · rw [if_neg hij]
      have : (decide (j ≥ i) && Nat.testBit 1 (j - i)) = false := by
        cases hb : (decide (j ≥ i) && Nat.testBit 1 (j - i)) with
        | false => rfl
        | true =>
          simp only [Bool.and_eq_true, decide_eq_true_eq] at hb
          have := Nat.testBit_one_eq_true_iff_self_eq_zero.1 hb.2
          omega
      rw [this, Bool.or_false]
section
variable {X : Cx} {Fs : Nat → Fn} {fuel : Nat} {L : List Fn} {ops : Array Oper} {Q : Exit → Act → World → Prop} {K : St → T} {r : List D}
theorem rdy_iff {Lb i : Nat} : i ∈ Region.ready .any ops (bitsA ops.size Lb) ↔ i ∈ rdyL (ops.toList.map direct) ops.size Lb := by
  rw [ready_iff]
  unfold rdyL
  rw [List.mem_filter, List.mem_range]
  constructor
  · rintro ⟨h1, o, h2, h3⟩
    have hi : i < ops.size := by have := (List.getElem?_eq_some_iff.1 h2).1; simpa using this
    rw [bitsA_get, if_pos hi] at h1
    refine ⟨hi, ?_⟩
    rw [h1, List.getD_eq_getElem?_getD, List.getElem?_map, h2]
    simp only [Option.map_some, Option.getD_some, Bool.not_false, Bool.true_and, List.all_eq_true, Bool.and_eq_true, decide_eq_true_eq]
    intro k hk
    have := h3 k hk
    rw [bitsA_get] at this
    split at this
    · rename_i hlt; exact ⟨hlt, this⟩
    · cases this
  · rintro ⟨hi, h⟩
    simp only [Bool.and_eq_true, Bool.not_eq_true', List.all_eq_true, decide_eq_true_eq] at h
    have hil : i < ops.toList.length := by simpa using hi
    refine ⟨by rw [bitsA_get, if_pos hi]; exact h.1, _, List.getElem?_eq_getElem hil, fun k hk => ?_⟩
    have h2 := h.2
    rw [List.getD_eq_getElem?_getD, List.getElem?_map, List.getElem?_eq_getElem hil] at h2
    have h3 := h2 k hk
    rw [bitsA_get, if_pos h3.1]
    exact h3.2
theorem winHere_nil (o : Oper) : winHere o [] = false := by
  unfold winHere
  split <;> rfl
theorem doAll_sound (hF : FsOk X.G X.P Fs) (hns : Region.noSelect ops = true) (hQ : ∀ c a w, ¬ Q (.panic c) a w) : ∀ (n fu Lb : Nat) {st : St} {ρ : List D} {Ft : Fr} {β : Nat → Value} {a : Act} {w : World}, n ≤ fu →
    eval Fs fuel (doAll X.P X.nt ops (ops.toList.map direct) n Lb st K) L ρ = some r → st.nv = ρ.length → Sat X ρ st Ft β a w → Goes X Fs fuel L ρ K r (Q .normal) → wpAny X.P .any ops Q fu (bitsA ops.size Lb) a w
  | 0, fu, Lb, st, ρ, Ft, β, a, w, hfu, he, hnv, hs, HK => by
    simp only [doAll] at he
    split at he
    · rename_i hr
      refine wpAny_done (List.eq_nil_iff_forall_not_mem.2 fun i hi => ?_) (HK.now hs hnv he) fu
      have := rdy_iff.1 hi
      rw [hr] at this; cases this
    · cases he
  | n + 1, fu, Lb, st, ρ, Ft, β, a, w, hfu, he, hnv, hs, HK => by
    simp only [doAll] at he
    split at he
    · rename_i hr
      refine wpAny_done (List.eq_nil_iff_forall_not_mem.2 fun i hi => ?_) (HK.now hs hnv he) fu
      have := rdy_iff.1 hi
      rw [hr] at this; cases this
    · rename_i i0 rs0 hr
      obtain ⟨fu, rfl⟩ : ∃ k, fu = k + 1 := ⟨fu - 1, by omega⟩
      rw [frL_eq frN_eq] at he
      have go : ∀ i o, ops.toList[i]? = some o → eval Fs fuel (doG X.P X.nt ops st o fun st' => frN (Lb ||| (1 <<< i)) fun L' => doAll X.P X.nt ops (ops.toList.map direct) n L' st' K) L ρ = some r →
          ∀ Q' : Exit → Act → World → Prop, if Region.wanted o (yielded ops a.tmps) then o.wp X.P a w (fun a' w' => wpAny X.P .any ops Q fu (bitsA ops.size (Lb ||| (1 <<< i))) a' w') Q' ∨ (o.asks X.P a w ∧ LetsOut Q') else wpAny X.P .any ops Q fu (bitsA ops.size (Lb ||| (1 <<< i))) (a.put o.dst undef) w := by
        intro i o ho h Q'
        refine step_sound (l := []) hF (by rw [winHere_nil]; simpa using h) hnv hs ?_
        intro st' ext Ft' β' a' w' hnv' hs' he'
        simp only [frN_eq] at he'
        exact doAll_sound hF hns hQ n fu _ (by omega) he' hnv' hs' (fun st'' ext' Ft'' β'' a'' w'' z1 z2 z3 => by
          rw [List.append_assoc] at z1 z2 z3
          exact HK st'' (ext ++ ext') Ft'' β'' a'' w'' z1 z2 z3)
      cases hf : (i0 :: rs0).find? (eager ops Lb) with
      | some i =>
        rw [hf] at he
        simp only [List.map_cons, List.map_nil] at he
        have he := anyAll_eval he _ (List.mem_singleton.2 rfl)
        have hie : eager ops Lb i = true := List.find?_some hf
        have him : i ∈ i0 :: rs0 := List.mem_of_find?_eq_some hf
        unfold eager at hie
        split at hie
        · rename_i o ho
          simp only [Bool.and_eq_true] at hie
          obtain ⟨hmv, hfree⟩ := hie
          rw [ho] at he
          simp only at he
          have hilt : i < ops.size := by have := (List.getElem?_eq_some_iff.1 ho).1; simpa using this
          have ho' : ops[i]? = some o := by simpa using ho
          have hin : i ∈ Region.ready .any ops (bitsA ops.size Lb) := rdy_iff.2 (by rw [hr]; exact him)
          unfold isMove at hmv
          split at hmv
          · rename_i x d hop hg hd
            have hw : ∀ a : Act, Region.wanted o (yielded ops a.tmps) = true := fun a => by unfold Region.wanted; rw [hg]
            have hrun : ∀ w, (execOp a.eval o).run X.P w = .ok (.value (a.eval x)) w := fun w => by simp [execOp, hop]
            have hy : Yields X.P ops o (a.eval x) a := .inl ⟨hw a, hrun⟩
            have hnext := go i o ho he (fun _ _ _ => False)
            simp only [hw a, if_true] at hnext
            have hnext' : wpAny X.P .any ops Q fu (bitsA ops.size (Lb ||| (1 <<< i))) (a.put o.dst (a.eval x)) w := by
              rcases hnext with h | ⟨_, _, _, h⟩
              · unfold Oper.wp at h
                rw [hrun] at h
                exact h
              · exact h.elim
            refine wpAny_take ho' hns hfree (by simpa using hin) (fun c a w h => absurd h (hQ c _ w)) hy ?_
            rw [bitsA_set hilt]
            exact hnext'
          · cases hmv
        · cases hie
      | none =>
        rw [hf] at he
        simp only at he
        refine ⟨fun hn => ?_, fun i hi => ?_⟩
        · have : i0 ∈ Region.ready .any ops (bitsA ops.size Lb) := rdy_iff.2 (by rw [hr]; exact List.mem_cons_self ..)
          rw [hn] at this; cases this
        · have him := rdy_iff.1 hi
          rw [hr] at him
          have h1 := anyAll_eval he _ (List.mem_map.2 ⟨i, him, rfl⟩)
          split at h1
          · rename_i o ho
            have hilt : i < ops.size := by have := (List.getElem?_eq_some_iff.1 ho).1; simpa using this
            rw [bitsA_set hilt]
            exact wpOp_of ho (go i o ho h1 Q)
          · cases h1
theorem doDrawn_sound (hF : FsOk X.G X.P Fs) {id : Nat} {st : St} {ρ : List D} {Ft : Fr} {β : Nat → Value} {a : Act} {w : World} (he : eval Fs fuel (doDrawn X.P X.nt ops st K) L ρ = some r) (hnv : st.nv = ρ.length) (hs : Sat X ρ st Ft β a w)
    (HK : Goes X Fs fuel L ρ K r (Q .normal)) : (Code.region id ops true).wp X.P Q a w := by
  unfold doDrawn at he
  split at he
  · split at he
    · rename_i hc
      simp only [Bool.and_eq_true, decide_eq_true_eq] at hc
      obtain ⟨⟨hmix, hns⟩, hsc⟩ := hc
      rw [frL_eq (frL_eq frN_eq)] at he
      let Q' : Exit → Act → World → Prop := fun e a w => match e with | .panic _ => False | e => Q e a w
      refine Code.wp_mono (Q := Q') (fun e a w h => by cases e <;> first | exact h | exact h.elim) ?_
      refine wp_region_any hmix ?_
      have h0 : bitsA ops.size 0 = Array.replicate ops.size false := by
        apply Array.ext
        · simp [bitsA]
        · intro j h1 h2
          simp [bitsA]
      rw [← h0]
      have hs1 := hs.below (drew_below w)
      exact doAll_sound (Q := Q') hF hns (fun c a w h => h) ops.size ops.size 0 (Nat.le_refl _) he hnv hs1 HK
    · cases he
  · exact doLate_sound hF he hnv hs HK
/-! Slices written out that become rows of the call's own. -/
theorem lit_core {ρ0 : List D} {st0 : St} {Ft0 : Fr} {β0 : Nat → Value} {a0 : Act} {w0 : World} (hs : Sat X ρ0 st0 Ft0 β0 a0 w0) {o : Oper} {t e : TypeId} {len n : Nat} {parts : Array (Nat × Operand)} (ho : o.op = .buildSlice t len parts) (hu : X.P.underlying t = some (.slice e)) {ts : List Ty} {zs : List C} {vs : List (Nat × SV)} (hn : szOf X.P e = some n) (hts : cellTys X.P e = some ts) (hz : zeroCs X.P e = some zs) (hv : opVs st0 parts.toList = some vs)
    (c1 : ts.length = n) (c2 : zs.length = n) (c3 : 0 < n) (c4 : 0 < len) (c5 : len * n ≤ 2 ^ 24) {cs : List C} (hf : fillC (fun i => some (i * n, n)) ((List.range (len * n)).map fun j => zs.getD (j % n) .junk) vs = some cs) {es : List E} (hel : elemsE ts n cs len 0 = some es) :
    ∃ vs' : List Value, (execOp a0.eval o).run X.P w0 = .ok (.value (.slice (some ⟨w0.heap.size, 0, none⟩) len len)) (w0.alloc (.cells vs'.toArray e)) ∧ vs'.length = len * n ∧ es.length = len ∧
      ∀ i c y t, (es.map (den ρ0))[i]? = some y → ts[c]? = some t → ∃ u, vs'[i * n + c]? = some u ∧ Rd X.P w0 Ft0 t (cellOf n y c) u := by
  obtain ⟨z, hz1, hz2⟩ := zeroCs_sound (w := w0) (F := Ft0) (ρ := ρ0) (β := β0) hz
  have hzn : z.cells.size = n := by have := hz2.1; simp at this; omega
  cases hi : X.P.info? e with
  | none => simp [hi] at hz1
  | some ie =>
    simp [hi] at hz1
    have hsz : ie.size = n := by unfold szOf at hn; rw [hi] at hn; simpa using hn
    have hinit : RCL X.P w0 Ft0 ρ0 β0 ((List.range (len * n)).map fun j => zs.getD (j % n) .junk) ((List.range (len * n)).map fun j => z.cells[j % z.cells.size]!) := by
      refine ⟨by simp, fun j c v h1 h2 => ?_⟩
      rw [List.getElem?_map] at h1 h2
      cases hr : (List.range (len * n))[j]? with
      | none => simp [hr] at h1
      | some k =>
        simp [hr] at h1 h2
        subst h1 h2
        have hlt : k % n < zs.length := by rw [c2]; exact Nat.mod_lt _ c3
        have hlt2 : k % z.cells.size < z.cells.size := Nat.mod_lt _ (by omega)
        rw [List.getElem?_eq_getElem hlt]
        refine hz2.2 (k % n) _ _ (List.getElem?_eq_getElem hlt) ?_
        rw [hzn, getElem!_pos z.cells (k % n) (by omega)]
        simp
    obtain ⟨vs', f1, f2⟩ := fill_sound hs.on hs _ hv hf hinit
    have hrun : (Instr.buildSlice t len (parts.map fun (i, x) => (i, a0.eval x))).run X.P w0 = .ok (.slice (some ⟨w0.heap.size, 0, none⟩) len len) (w0.alloc (.cells vs'.toArray e)) := by
      refine run_buildSlice w0 t e len _ vs'.toArray ie z hu hi hz1 (by rw [hsz]; omega) (by rw [hsz]; have := Nat.mul_pos c4 c3; omega) ?_
      rw [hsz, Array.toList_map]
      have e0 : ((Array.range (len * n)).map fun x => z.cells[x % z.cells.size]!) = ((List.range (len * n)).map fun j => z.cells[j % z.cells.size]!).toArray := by
        rw [← Array.toList_inj]; simp
      rw [e0]
      simpa using f1
    obtain ⟨el1, el2⟩ := elemsE_get hel
    have hlenv : vs'.length = len * n := by
      have : ∀ {place : Nat → Option (Nat × Nat)} {svs : List (Nat × SV)} {cs0 cs1 : List C}, fillC place cs0 svs = some cs1 → cs1.length = cs0.length := by
        intro place svs
        induction svs with
        | nil => intro cs0 cs1 hh; simp [fillC] at hh; rw [hh]
        | cons p svs ih =>
          intro cs0 cs1 hh
          obtain ⟨i, v⟩ := p
          simp only [fillC] at hh
          split at hh
          · split at hh
            · rw [ih hh, putCells_length]
            · cases hh
          · cases hh
      rw [← f2.1, this hf]; simp
    refine ⟨vs', by simp only [execOp, ho, Sem.run_bind, hrun, Result.andThen_ok, Sem.run_pure], hlenv, el1, ?_⟩
    intro i c x t' hx ht'
    simp only [List.getElem?_map] at hx
    cases hex : es[i]? with
    | none => simp [hex] at hx
    | some ex =>
      simp [hex] at hx; subst hx
      have hil : i < len := by rw [← el1]; exact (List.getElem?_eq_some_iff.1 hex).1
      have hcl : c < n := by rw [← c1]; exact (List.getElem?_eq_some_iff.1 ht').1
      have hee := el2 i ex hex
      rw [Nat.zero_add] at hee
      unfold elemE at hee
      split at hee
      · rename_i es1 hm
        have hslice : RCL X.P w0 Ft0 ρ0 β0 ((cs.drop (i * n)).take n) ((vs'.drop (i * n)).take n) := (f2.drop (i * n)).take n
        obtain ⟨m1, m2, m3⟩ := matL_sound hm hslice
        have hes1 : es1[c]? = some es1[c] := List.getElem?_eq_getElem (by rw [m1, c1]; exact hcl)
        have hlt : i * n + c < vs'.length := by
          rw [hlenv]
          calc i * n + c < i * n + n := by omega
            _ = (i + 1) * n := by rw [Nat.add_mul]; omega
            _ ≤ len * n := Nat.mul_le_mul_right n hil
        have hvc : ((vs'.drop (i * n)).take n)[c]? = some vs'[i * n + c] := by
          rw [List.getElem?_take, if_pos hcl, List.getElem?_drop, List.getElem?_eq_getElem hlt]
        have hrd := m3 c t' _ _ ht' hes1 hvc
        simp at hee; subst hee
        refine ⟨_, List.getElem?_eq_getElem hlt, ?_⟩
        unfold cellOf
        by_cases h1 : n = 1
        · have hc0 : c = 0 := by omega
          subst hc0
          rw [if_pos h1, if_pos h1]
          cases es1 with
          | nil => simp at hes1
          | cons y ys => simpa using hrd
        · rw [if_neg h1, if_neg h1, den_listE]
          simp only [D.toL_agg, List.getD_eq_getElem?_getD, List.getElem?_map, hes1]
          exact hrd
      · cases hee
end
section
variable (P : Program) (nt : Nat)
def doLitV (st : St) (dst : Option Tmp) (t : TypeId) (len : Nat) (parts : Array (Nat × Operand)) (K : St → T) : T :=
  match P.underlying t with
  | some (.slice e) => match szOf P e, cellTys P e, zeroCs P e, opVs st parts.toList with
    | some n, some ts, some zs, some vs =>
      if ts.length = n ∧ zs.length = n ∧ 0 < n ∧ 0 < len ∧ len * n ≤ 2 ^ 24 ∧ okDst nt dst = true ∧ st.fresh = true then
        match fillC (fun i => some (i * n, n)) ((List.range (len * n)).map fun j => zs.getD (j % n) .junk) vs with
        | some cs => match elemsE ts n cs len 0 with
          | some es => frE (listE es) fun y => K ({ st with bx := (st.nn, .vec e y) :: st.bx, nn := st.nn + 1 }.upd dst (.one (.vec st.nn)) none)
          | none => .fail 190
        | none => .fail 191
      else .fail 192
    | _, _, _, _ => .fail 193
  | _ => .fail 194
def isLit (o : Oper) : Option (TypeId × Nat × Array (Nat × Operand)) := match o.op, o.guard with
  | .buildSlice t n parts, none => some (t, n, parts)
  | _, _ => none
def doLits (ops : Array Oper) : List Oper → St → (St → T) → T
  | [], st, K => K st
  | o :: l, st, K => match isLit o with
    | some (t, n, parts) => doLitV P nt st o.dst t n parts fun st' => doLits ops l st' K
    | none => if winHere o l then doWinO P nt st o fun st' => doLits ops l st' K else doG P nt ops st o fun st' => doLits ops l st' K
end
section
variable {X : Cx} {Fs : Nat → Fn} {fuel : Nat} {L : List Fn}
theorem doLitV_sound {ρ : List D} {st : St} {Ft : Fr} {β : Nat → Value} {a : Act} {w : World} {o : Oper} {t : TypeId} {len : Nat} {parts : Array (Nat × Operand)} (ho : o.op = .buildSlice t len parts) {K : St → T} {r : List D} (he : eval Fs fuel (doLitV X.P X.nt st o.dst t len parts K) L ρ = some r) (hnv : st.nv = ρ.length) (hs : Sat X ρ st Ft β a w)
    {next : Act → World → Prop} {Q : Exit → Act → World → Prop} (HK : Goes X Fs fuel L ρ K r next) : o.wp X.P a w next Q := by
  unfold doLitV at he
  split at he
  · rename_i e hu
    split at he
    · rename_i n ts zs vs hn hts hz hv
      split at he
      · rename_i hc
        obtain ⟨c1, c2, c3, c4, c5, hd, hfr⟩ := hc
        split at he
        · rename_i cs hf
          split at he
          · rename_i es hel
            rw [frE_eq] at he
            obtain ⟨vs', hrun, hl, hes, hrd⟩ := lit_core hs ho hu hn hts hz hv c1 c2 c3 c4 c5 hf hel
            have hbl := below_alloc w (.cells vs'.toArray e)
            have hmono : Le w Ft (w.alloc (.cells vs'.toArray e)) Ft := Le.same fun b h => hbl.block b (hs.ft b h).1
            have hok : BoxOk X.P (w.alloc (.cells vs'.toArray e)) Ft ρ β (.vec e (listE es)) (.slice (some ⟨w.heap.size, 0, none⟩) len len) := by
              refine ⟨ts, vs', hts, ?_, ?_⟩
              · rw [den_listE]
                simp only [D.toL_agg, List.length_map, hes]
                refine ⟨by rw [c1]; exact hl, .inr ⟨w.heap.size, len, vs'.toArray, rfl, c4, by rw [heap_alloc_new], Nat.le_refl _, ?_, by simp [hl, c1], ?_⟩⟩
                · have h1 : len ≤ len * n := Nat.le_mul_of_pos_right _ c3
                  simp [maxLen]; omega
                · rw [c1, ← hl]; simp
              · intro i c y t' hy ht'
                rw [den_listE] at hy
                obtain ⟨u, u1, u2⟩ := hrd i c y t' hy ht'
                rw [c1]
                exact ⟨u, u1, u2.mono hmono⟩
            have hs' := hs.newVec hfr hbl hok (fun k h => by
              simp only [bk] at h
              split at h
              · cases h
              · simp at h; omega) rfl
            unfold Oper.wp
            rw [hrun]
            simp only [Oper.upon]
            exact HK.now (hs'.put (dst := o.dst) hd (sv := .one (.vec st.nn)) (by show _ = updN β st.nn _ st.nn; simp [updN])) (by rw [← hnv]; rfl) he
          · cases he
        · cases he
      · cases he
    · cases he
  · cases he
theorem doLits_sound (hF : FsOk X.G X.P Fs) (ops : Array Oper) {Q : Exit → Act → World → Prop} {K : St → T} {r : List D} : ∀ (l : List Oper) (n : Nat) {st : St} {ρ : List D} {Ft : Fr} {β : Nat → Value} {a : Act} {w : World}, ops.toList.drop n = l →
    eval Fs fuel (doLits X.P X.nt ops l st K) L ρ = some r → st.nv = ρ.length → Sat X ρ st Ft β a w → Goes X Fs fuel L ρ K r (Q .normal) → wpOps X.P ops Q (List.range' n l.length) a w
  | [], n, st, ρ, Ft, β, a, w, hl, he, hnv, hs, HK => by
    simp only [List.length_nil, List.range'_zero, wpOps]
    exact HK.now hs hnv he
  | o :: l, n, st, ρ, Ft, β, a, w, hl, he, hnv, hs, HK => by
    have hlt : n < ops.toList.length := by
      rcases Nat.lt_or_ge n ops.toList.length with h | h
      · exact h
      · rw [List.drop_eq_nil_of_le h] at hl; cases hl
    have ho : ops[n]? = some o := by
      rw [List.drop_eq_getElem_cons hlt] at hl
      injection hl with h1 h2
      rw [← Array.getElem?_toList, List.getElem?_eq_getElem hlt, h1]
    have hrest : ops.toList.drop (n + 1) = l := by
      rw [List.drop_eq_getElem_cons hlt] at hl
      injection hl
    simp only [doLits] at he
    simp only [List.length_cons, List.range'_succ, wpOps, ho]
    have hgo : Goes X Fs fuel L ρ (fun st' => doLits X.P X.nt ops l st' K) r (wpOps X.P ops Q (List.range' (n + 1) l.length)) := by
      intro st' ext Ft' β' a' w' hnv' hs' he'
      exact doLits_sound hF ops l (n + 1) hrest he' hnv' hs' (fun st'' ext' Ft'' β'' a'' w'' q1 q2 q3 => by
        rw [List.append_assoc] at q1 q2 q3
        exact HK st'' (ext ++ ext') Ft'' β'' a'' w'' q1 q2 q3)
    split at he
    · rename_i t m parts hlit
      unfold isLit at hlit
      split at hlit
      · rename_i t' m' parts' hop hg
        simp only [Option.some.injEq, Prod.mk.injEq] at hlit
        obtain ⟨rfl, rfl, rfl⟩ := hlit
        have hw : Region.wanted o (yielded ops a.tmps) = true := by unfold Region.wanted; rw [hg]
        rw [if_pos hw]
        exact .inl (doLitV_sound hop he hnv hs hgo)
      · cases hlit
    · exact step_sound hF he hnv hs hgo
theorem lits_sound (hF : FsOk X.G X.P Fs) {st : St} {ρ : List D} {Ft : Fr} {β : Nat → Value} {a : Act} {w : World} {ops : Array Oper} {id : Nat} {Q : Exit → Act → World → Prop} {K : St → T} {r : List D} (he : eval Fs fuel (doLits X.P X.nt ops ops.toList st K) L ρ = some r) (hnv : st.nv = ρ.length) (hs : Sat X ρ st Ft β a w)
    (HK : Goes X Fs fuel L ρ K r (Q .normal)) : (Code.region id ops false).wp X.P Q a w := by
  refine wp_region ?_
  have := doLits_sound hF ops ops.toList 0 rfl he hnv hs HK
  rw [List.range_eq_range']
  simpa using this
end
end Go.Proofs.YtobacchojjfpfaaDoor.Eng
