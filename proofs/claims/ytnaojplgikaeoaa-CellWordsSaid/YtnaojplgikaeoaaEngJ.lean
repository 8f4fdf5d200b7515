/-
  A reader of Go functions, part J: an operation with its guard, and rows of them.
-/
import Derived.Test.YtnaojplgikaeoaaEngW
import Derived.Great.BuildSlice
namespace Go.Proofs.Ytnaojplgikaeoaa.Eng
open Go.RowKit
set_option linter.unusedVariables false
set_option linter.unusedSimpArgs false

section
variable {X : Cx} {Fs : Nat → Fn} {fuel : Nat} {st : St} {ρ : List D} {L : List Fn} {Ft : Nat → Prop} {β : Nat → Value} {a : Act} {w : World}
theorem needs_sound : ∀ {es : List E} {t : T} {r : List D}, eval Fs fuel (needs es t) L ρ = some r → (∀ e ∈ es, (den ρ e).toBool = true) ∧ eval Fs fuel t L ρ = some r
  | [], t, r, h => ⟨(fun e he => by cases he), h⟩
  | e :: es, t, r, h => by
    simp only [needs] at h
    split at h
    · rename_i he
      obtain ⟨h1, h2⟩ := needs_sound h
      refine ⟨fun e' he' => ?_, h2⟩
      rcases List.mem_cons.1 he' with rfl | hm
      · rw [he]; rfl
      · exact h1 e' hm
    · simp only [eval] at h
      split at h
      · rename_i hc
        obtain ⟨h1, h2⟩ := needs_sound h
        refine ⟨fun e' he' => ?_, h2⟩
        rcases List.mem_cons.1 he' with rfl | hm
        · exact hc
        · exact h1 e' hm
      · cases h

/-! A slice literal. -/
theorem elemsE_get {ts : List Ty} {n : Nat} {cs : List C} : ∀ {k i : Nat} {es : List E}, elemsE ts n cs k i = some es → es.length = k ∧ ∀ j e, es[j]? = some e → elemE ts n cs (i + j) = some e
  | 0, i, es, h => by simp [elemsE] at h; subst h; exact ⟨rfl, fun j e q => by simp at q⟩
  | k + 1, i, es, h => by
    simp only [elemsE] at h
    split at h
    · rename_i e es' h1 h2
      simp at h; subst h
      obtain ⟨l1, q⟩ := elemsE_get h2
      refine ⟨by simp [l1], fun j => ?_⟩
      cases j with
      | zero => intro e' he; simp at he; subst he; exact h1
      | succ j => intro e' he; have := q j e' (by simpa using he); rw [← this]; congr 1; omega
    · cases h
theorem came_buildSlice (hb : ∀ n, (β n).oneCell' = true) (hs : Sat X ρ st Ft β a w) {o : Oper} {t : TypeId} {len : Nat} {parts : Array (Nat × Operand)} (ho : o.op = .buildSlice t len parts) {sv : SV} (h : evB X.P st t len parts = some sv) :
    ∃ v w', (execOp a.eval o).run X.P w = .ok (.value v) w' ∧ Below w.heap.size w w' ∧ RV X.P w' (More Ft w w') ρ β sv v := by
  unfold evB at h
  split at h
  · rename_i e hu
    split at h
    · rename_i n ts zs vs hn hts hz hv
      split at h
      · rename_i hc
        obtain ⟨c1, c2, c3, c4, c5⟩ := hc
        split at h
        · rename_i cs hf
          cases hel : elemsE ts n cs len 0 with
          | none => simp [hel] at h
          | some es =>
            simp [hel] at h; subst h
            obtain ⟨z, hz1, hz2⟩ := zeroCs_sound (w := w) (F := Ft) (ρ := ρ) (β := β) hz
            have hzn : z.cells.size = n := by have := hz2.1; simp at this; omega
            cases hi : X.P.info? e with
            | none => simp [hi] at hz1
            | some ie =>
              simp [hi] at hz1
              have hsz : ie.size = n := by unfold szOf at hn; rw [hi] at hn; simpa using hn
              have hinit : RCL X.P w Ft ρ β ((List.range (len * n)).map fun j => zs.getD (j % n) .junk) ((List.range (len * n)).map fun j => z.cells[j % z.cells.size]!) := by
                refine ⟨by simp, fun j c v h1 h2 => ?_⟩
                rw [List.getElem?_map] at h1 h2
                cases hr : (List.range (len * n))[j]? with
                | none => simp [hr] at h1
                | some k =>
                  simp [hr] at h1 h2
                  subst h1 h2
                  have hlt : k % n < zs.length := by rw [c2]; exact Nat.mod_lt _ c3
                  have hlt2 : k % z.cells.size < z.cells.size := Nat.mod_lt _ (by omega)
                  rw [List.getElem?_eq_getElem hlt]
                  refine hz2.2 (k % n) _ _ (List.getElem?_eq_getElem hlt) ?_
                  rw [hzn, getElem!_pos z.cells (k % n) (by omega)]
                  simp
              obtain ⟨vs', f1, f2⟩ := fill_sound hb hs _ hv hf hinit
              have hrun : (Instr.buildSlice t len (parts.map fun (i, x) => (i, a.eval x))).run X.P w = .ok (.slice (some ⟨w.heap.size, 0, none⟩) len len) (w.alloc (.cells vs'.toArray e)) := by
                refine run_buildSlice w t e len _ vs'.toArray ie z hu hi hz1 (by rw [hsz]; omega) (by rw [hsz]; have := Nat.mul_pos c4 c3; omega) ?_
                rw [hsz, Array.toList_map]
                have e0 : ((Array.range (len * n)).map fun x => z.cells[x % z.cells.size]!) = ((List.range (len * n)).map fun j => z.cells[j % z.cells.size]!).toArray := by
                  rw [← Array.toList_inj]; simp
                rw [e0]
                simpa using f1
              have hbl := below_alloc w (.cells vs'.toArray e)
              refine ⟨.slice (some ⟨w.heap.size, 0, none⟩) len len, w.alloc (.cells vs'.toArray e), by simp only [execOp, ho, Sem.run_bind, hrun, Result.andThen_ok, Sem.run_pure], hbl, ?_⟩
              obtain ⟨el1, el2⟩ := elemsE_get hel
              have hmono : ∀ b, Ft b → More Ft w (w.alloc (.cells vs'.toArray e)) b ∧ (w.alloc (.cells vs'.toArray e)).heap[b]? = w.heap[b]? := fun b h => ⟨.inl h, hbl.block b (hs.ft b h).1⟩
              have f3 := f2.mono hmono
              have hlenv : vs'.length = len * n := by
                have : ∀ {place : Nat → Option (Nat × Nat)} {svs : List (Nat × SV)} {cs0 cs1 : List C}, fillC place cs0 svs = some cs1 → cs1.length = cs0.length := by
                  intro place svs
                  induction svs with
                  | nil => intro cs0 cs1 hh; simp [fillC] at hh; rw [hh]
                  | cons p svs ih =>
                    intro cs0 cs1 hh
                    obtain ⟨i, v⟩ := p
                    simp only [fillC] at hh
                    split at hh
                    · split at hh
                      · rw [ih hh, putCells_length]
                      · cases hh
                    · cases hh
                rw [← f2.1, this hf]; simp
              refine Rd.slice (b := w.heap.size) (o := 0) (len := len) (cap := len) (g := fun i c => vs'.getD (i * n + c) undef) rfl hts (by rw [den_listE]; simp [el1]) (Nat.le_refl _) (.inr ⟨Nat.le_refl _, by rw [heap_size_alloc]; omega⟩) ?_ ?_
              · intro i c hi hc
                rw [den_listE] at hi
                simp [el1] at hi
                rw [c1] at hc ⊢
                have hlt : i * n + c < vs'.length := by
                  rw [hlenv]
                  calc i * n + c < i * n + n := by omega
                    _ = (i + 1) * n := by rw [Nat.add_mul]; omega
                    _ ≤ len * n := Nat.mul_le_mul_right n hi
                have hnew := heap_alloc_new w (.cells vs'.toArray e)
                unfold World.cell?
                simp only [hnew]
                simp [List.getD_eq_getElem?_getD, List.getElem?_eq_getElem hlt]
              · intro i c x t' hx ht'
                rw [den_listE] at hx
                simp only [D.toL_agg, List.getElem?_map] at hx
                cases hex : es[i]? with
                | none => simp [hex] at hx
                | some ex =>
                  simp [hex] at hx; subst hx
                  have hil : i < len := by rw [← el1]; exact (List.getElem?_eq_some_iff.1 hex).1
                  have hcl : c < n := by rw [← c1]; exact (List.getElem?_eq_some_iff.1 ht').1
                  have hee := el2 i ex hex
                  rw [Nat.zero_add] at hee
                  unfold elemE at hee
                  split at hee
                  · rename_i es1 hm
                    have hslice : RCL X.P (w.alloc (.cells vs'.toArray e)) (More Ft w (w.alloc (.cells vs'.toArray e))) ρ β ((cs.drop (i * n)).take n) ((vs'.drop (i * n)).take n) := (f3.drop (i * n)).take n
                    obtain ⟨m1, m2, m3⟩ := matL_sound hm hslice
                    have hes1 : es1[c]? = some es1[c] := List.getElem?_eq_getElem (by rw [m1, c1]; exact hcl)
                    have hvc : ((vs'.drop (i * n)).take n)[c]? = some (vs'.getD (i * n + c) undef) := by
                      have hlt : i * n + c < vs'.length := by
                        rw [hlenv]
                        calc i * n + c < i * n + n := by omega
                          _ = (i + 1) * n := by rw [Nat.add_mul]; omega
                          _ ≤ len * n := Nat.mul_le_mul_right n hil
                      rw [List.getElem?_take, if_pos hcl, List.getElem?_drop, List.getElem?_eq_getElem hlt]
                      simp [List.getD_eq_getElem?_getD, List.getElem?_eq_getElem hlt]
                    have hrd := m3 c t' _ _ ht' hes1 hvc
                    simp at hee; subst hee
                    rw [c1]
                    unfold cellOf
                    by_cases h1 : n = 1
                    · have hc0 : c = 0 := by omega
                      subst hc0
                      rw [if_pos h1, if_pos h1]
                      cases es1 with
                      | nil => simp at hes1
                      | cons y ys => simpa using hrd
                    · rw [if_neg h1, if_neg h1, den_listE]
                      simp only [D.toL_agg, List.getD_eq_getElem?_getD, List.getElem?_map, hes1]
                      exact hrd
                  · cases hee
        · cases h
      · cases h
    · cases h
  · cases h
theorem doV_sound {o : Oper} {K : St → T} {t : T} {r : List D} (h : doV X.P X.nt st o K = some t) (he : eval Fs fuel t L ρ = some r) (hnv : st.nv = ρ.length) (hs : Sat X ρ st Ft β a w) {next : Act → World → Prop} {Q : Exit → Act → World → Prop}
    (HK : Goes X Fs fuel L ρ K r next) : o.wp X.P a w next Q := by
  unfold doV at h
  split at h
  · rename_i es sv nb hev
    split at h
    · rename_i hc
      simp only [Option.some.injEq] at h
      subst h
      simp only [Bool.and_eq_true] at hc
      obtain ⟨hd, hfr⟩ := hc
      obtain ⟨hes, he2⟩ := needs_sound he
      rw [frSV_eq, frO_eq] at he2
      have hcame := evV_sound hs.on hs hev hes
      unfold Oper.wp
      unfold Came at hcame
      split at hcame
      · obtain ⟨v, e1, hv⟩ := hcame
        rw [e1]
        simp only [Oper.upon]
        exact HK.now (hs.put hd hv) hnv he2
      · rename_i t cs
        obtain ⟨vs, e1, rfl, hl⟩ := hcame
        rw [e1]
        simp only [Oper.upon]
        simp only [newOk, Bool.and_eq_true] at hfr
        exact HK.now (hs.newBox hfr.1 hfr.2 hl hd) hnv he2
      · exact hcame.elim
    · cases h
  · cases h
theorem opVL_sound (hs : Sat X ρ st Ft β a w) : ∀ {l : List Operand} {svs : List SV}, opVL st l = some svs → svs.length = l.length ∧ ∀ (i : Nat) (s : SV) (v : Value), svs[i]? = some s → (l.map a.eval)[i]? = some v → RV X.P w Ft ρ β s v
  | [], svs, h => by simp [opVL] at h; subst h; exact ⟨rfl, fun i s v h => by simp at h⟩
  | x :: l, svs, h => by
    simp only [opVL] at h
    split at h
    · rename_i v vs h1 h2
      simp at h; subst h
      obtain ⟨l1, q⟩ := opVL_sound hs h2
      refine ⟨by simp [l1], fun i => ?_⟩
      cases i with
      | zero => intro s u a1 a2; simp at a1 a2; subst a1 a2; exact opV_sound hs h1
      | succ i => intro s u a1 a2; exact q i s u (by simpa using a1) (by simpa using a2)
    · cases h
theorem sigOf_spec {P : Program} {f : Nat} {ps rs : List Sh} (h : sigOf P f = some (ps, rs)) : ∃ fn, P.funcs[f]? = some fn ∧ fn.body.isSome = true ∧ (fn.name == "runtime.NumGoroutine") = false ∧ shsOf P fn.params.toList = some ps ∧ shsOf P fn.resultTypes.toList = some rs := by
  unfold sigOf at h
  split at h
  · rename_i fn hf
    split at h
    · rename_i ps' rs' h1 h2
      split at h
      · rename_i hc
        simp at h
        obtain ⟨rfl, rfl⟩ := h
        simp only [Bool.and_eq_true, bne_iff_ne, ne_eq] at hc
        exact ⟨fn, hf, hc.1, by simpa using hc.2, h1, h2⟩
      · cases h
    · cases h
  · cases h
theorem doCall_sound (hF : FsOk X.P Fs) {o : Oper} {c : Call} {f : Nat} (ho : o.op = .call c) (hcl : c.callee = .value (.func f)) {K : St → T} {r : List D} (he : eval Fs fuel (doCall X.P X.nt st o.dst f c.args.toList K) L ρ = some r) (hnv : st.nv = ρ.length) (hs : Sat X ρ st Ft β a w)
    {next : Act → World → Prop} {Q : Exit → Act → World → Prop} (HK : Goes X Fs fuel L ρ K r next) : o.wp X.P a w next Q := by
  unfold doCall at he
  split at he
  · rename_i ps rs vs hsig hvs
    split at he
    · rename_i es hes
      split at he
      · rename_i hc
        simp only [Bool.and_eq_true] at hc
        obtain ⟨hsc, hd⟩ := hc
        simp only [eval] at he
        split at he
        · rename_i res hres
          split at he
          · rename_i hlen
            obtain ⟨fn, hfn, hbody, hname, _, _⟩ := sigOf_spec hsig
            obtain ⟨l1, q1⟩ := opVL_sound hs hvs
            have hargs := matShs_sound hes (vs := c.args.toList.map a.eval) (by simp [l1]) q1
            have hcall := hF f ps rs _ _ hsig hres w Ft _ (fun b hb => (hs.ft b hb).1) hargs
            have hrun : (execOp a.eval o).run X.P w = .ok (.enter f (c.args.map a.eval)) w := by
              simp only [execOp, ho, resolve, hcl, Act.eval, Deferred.ofValue, Sem.run_bind, Sem.run_pure, Result.andThen_ok, invoke, callFunc, program, Sem.run, hfn, hname, Bool.false_eq_true, if_false, Array.empty_append, Array.append_empty]
              cases hb : fn.body with
              | none => rw [hb] at hbody; cases hbody
              | some b => simp [Sem.run]
            unfold Oper.wp
            rw [hrun]
            simp only [Oper.upon]
            have ev : c.args.map a.eval = (c.args.toList.map a.eval).toArray := by rw [← Array.toList_inj]; simp
            rw [ev]
            refine hcall.mono ?_
            rintro e w' ⟨v, rfl, hb, hr⟩
            obtain ⟨hr1, hr2⟩ := res_sound (ρ := ρ) (β := β) hr
            have hs1 := (hs.below hb).ext hnv hsc res (st.nv + shSize rs)
            rw [← hnv] at hr1
            have hs2 := hs1.put (dst := o.dst) hd hr1
            exact HK _ res _ β _ _ (by simp [St.upd, hnv, hr2]) hs2 he
          · cases he
        · cases he
      · cases he
    · cases he
  · cases he
theorem doStore_sound {o : Oper} {t : TypeId} {x v : Operand} (ho : o.op = .store t x v) (hd : o.dst = none) {K : St → T} {r : List D} (he : eval Fs fuel (doStore X.P st t x v K) L ρ = some r) (hnv : st.nv = ρ.length) (hs : Sat X ρ st Ft β a w)
    {next : Act → World → Prop} {Q : Exit → Act → World → Prop} (HK : Goes X Fs fuel L ρ K r next) : o.wp X.P a w next Q := by
  unfold doStore at he
  split at he
  · rename_i n off sv hx hv
    split at he
    · rename_i bt cs xs hbx hxs
      split at he
      · rename_i hc
        obtain ⟨hsz, hle⟩ := hc
        obtain ⟨b, hb1, hb2⟩ := opC_sound hs hx
        obtain ⟨ys, hy1, hy2⟩ := (opV_sound hs hv).cells hxs hs.on
        obtain ⟨b', vs, e1, e2, e3⟩ := hs.bx _ _ hbx
        obtain rfl : b' = b := by rw [e1] at hb1; simpa using hb1
        have hlen : xs.length = ys.length := hy2.1
        have hstore : (storeCells ⟨b', off, none⟩ ys 0).run X.P w = .ok () (w.setRow b' (vs.take off ++ ys ++ vs.drop (off + ys.length)).toArray) := by
          have := run_storeCells_at (P := X.P) b' off bt ys 0 vs.toArray w e2 (by simp; have := e3.1; omega) (by
            intro y hy
            obtain ⟨i, hi⟩ := List.getElem?_of_mem hy
            have hlt : i < xs.length := by rw [hlen]; exact (List.getElem?_eq_some_iff.1 hi).1
            exact RC.one (hy2.2 i xs[i] y (List.getElem?_eq_getElem hlt) hi) (fun n _ => hs.on n))
          simpa using this
        have hrun : (execOp a.eval o).run X.P w = .ok .skip (w.setRow b' (vs.take off ++ ys ++ vs.drop (off + ys.length)).toArray) := by
          simp only [execOp, ho, Instr.storeAt, hb2, Instr.sureAddr, storeVar, Sem.run_bind, Sem.run_pure, Result.andThen_ok, run_szOf hsz, hy1, List.size_toArray, hlen, ne_eq, not_true, if_false]
          simp only [ite_false, Sem.run_pure, Result.andThen_ok, hstore]
        unfold Oper.wp
        rw [hrun]
        simp only [Oper.upon, hd, Act.put]
        exact HK.now (hs.store hbx hle hb1 e2 e3 hy2) hnv he
      · cases he
    · cases he
  · cases he
theorem doFreeze_sound {o : Oper} {t : TypeId} {x : Operand} (ho : o.op = .makeInterface t x) {K : St → T} {r : List D} (he : eval Fs fuel (doFreeze X.P X.nt st o.dst t x K) L ρ = some r) (hnv : st.nv = ρ.length) (hs : Sat X ρ st Ft β a w)
    {next : Act → World → Prop} {Q : Exit → Act → World → Prop} (HK : Goes X Fs fuel L ρ K r next) : o.wp X.P a w next Q := by
  unfold doFreeze at he
  split at he
  · rename_i n e hx ht
    split at he
    · rename_i bt cs ts hbx hts
      split at he
      · rename_i es hes
        split at he
        · rename_i hd
          obtain ⟨b, hb1, hb2⟩ := opC_sound hs hx
          obtain ⟨b', vs, e1, e2, e3⟩ := hs.bx _ _ hbx
          obtain rfl : b' = b := by rw [e1] at hb1; simpa using hb1
          obtain ⟨d, hdd, hnd⟩ := tyOf_und ht
          have hrun : (execOp a.eval o).run X.P w = .ok (.value (.iface t (a.eval x))) w := by
            simp only [execOp, ho, Instr.makeInterface, Sem.run_bind, run_und hdd, Result.andThen_ok]
            split
            · exact absurd rfl (hnd (by simp) _)
            · rfl
          have hdrop := hs.drop hbx (b := b') (by rw [e1]; rfl)
          obtain ⟨l1, l2, q⟩ := matL_sound hes e3
          have hrd : Rd X.P w (fun k => Ft k ∨ k = b') (.ptr e) (den ρ (listE es)) (a.eval x) := by
            refine Rd.ptr (g := fun c => vs.getD c undef) (den_listE es) hb2 hts (by simp [l1]) (.inr rfl) ?_ ?_
            · intro c y hy
              have hlt : c < vs.length := by
                have := (List.getElem?_eq_some_iff.1 hy).1
                simp at this
                omega
              simp [World.cell?, e2, List.getD_eq_getElem?_getD, List.getElem?_eq_getElem hlt]
            · intro c y t' hy ht'
              have hlt : c < vs.length := by rw [l2]; exact (List.getElem?_eq_some_iff.1 ht').1
              rw [List.getElem?_map] at hy
              cases hec : es[c]? with
              | none => simp [hec] at hy
              | some ec =>
                simp [hec] at hy; subst hy
                have hvc : vs[c]? = some (vs.getD c undef) := by simp [List.getD_eq_getElem?_getD, List.getElem?_eq_getElem hlt]
                exact (q c t' ec _ ht' hec hvc).mono (fun k hk => ⟨.inl hk, rfl⟩)
          unfold Oper.wp
          rw [hrun]
          simp only [Oper.upon]
          exact HK.now (hdrop.put (dst := o.dst) hd (v := .iface t (a.eval x)) (sv := .one (.dat .ifc (.mkif t (listE es)))) (Rd.iface rfl rfl ht (by simp) hrd)) hnv he
        · cases he
      · cases he
    · cases he
  · cases he
theorem frFz_sound {l : List Nat} {K : St → T} {r : List D} (he : eval Fs fuel (frFz st l K) L ρ = some r) (hnv : st.nv = ρ.length) (hs : Sat X ρ st Ft β a w) : ∃ st' Ft', st'.nv = ρ.length ∧ Sat X ρ st' Ft' β a w ∧ eval Fs fuel (K st') L ρ = some r := by
  unfold frFz at he
  split at he
  · exact ⟨st, Ft, hnv, hs, he⟩
  · rw [frSt_eq] at he
    obtain ⟨F', _, q⟩ := hs.fzs l
    exact ⟨_, F', by rw [fzs_nv, hnv], q, he⟩
theorem doOp1_sound (hF : FsOk X.P Fs) {o : Oper} {K : St → T} {r : List D} (he : eval Fs fuel (doOp1 X.P X.nt st o K) L ρ = some r) (hnv : st.nv = ρ.length) (hs : Sat X ρ st Ft β a w)
    {next : Act → World → Prop} {Q : Exit → Act → World → Prop} (HK : Goes X Fs fuel L ρ K r next) : o.wp X.P a w next Q := by
  unfold doOp1 at he
  split at he
  · rename_i t x v ho
    split at he
    · rename_i hd
      split at he
      · exact doStoreV_sound ho hd he hnv hs HK
      · exact doStore_sound ho hd he hnv hs HK
    · cases he
  · rename_i c ho
    split at he
    · rename_i f hcl
      obtain ⟨st', F', hnv', hs', he'⟩ := frFz_sound he hnv hs
      exact doCall_sound hF ho hcl he' hnv' hs' HK
    · rename_i hcl
      split at he
      · rename_i x y t t' ha hb
        split at he
        · rename_i ht
          subst ht
          have e2 : c.args = #[x, y] := by rw [← Array.toList_inj, ha]
          have e3 : c.argTypes = #[t, t] := by rw [← Array.toList_inj, hb]
          exact doAppend_sound (by rw [ho]; obtain ⟨c1, c2, c3⟩ := c; simp only at hcl e2 e3; rw [hcl, e2, e3]) he hnv hs HK
        · cases he
      · cases he
    · cases he
  · rename_i t x ho
    obtain ⟨st', F', hnv', hs', he'⟩ := frFz_sound he hnv hs
    split at he'
    · rename_i t' h
      exact doV_sound h he' hnv' hs' HK
    · exact doFreeze_sound ho he' hnv' hs' HK
  · rename_i t n parts ho
    obtain ⟨st', F', hnv', hs', he'⟩ := frFz_sound he hnv hs
    split at he'
    · rename_i sv hev
      split at he'
      · rename_i hd
        rw [frSV_eq] at he'
        obtain ⟨v, w', e1, hb, hv⟩ := came_buildSlice hs'.on hs' ho hev
        unfold Oper.wp
        rw [e1]
        exact HK.now ((hs'.below hb).put hd hv) hnv' he'
      · cases he'
    · cases he'
  · rename_i t l c ho
    exact doMake_sound ho he hnv hs needs_sound HK
  · rename_i t x lo hi mx ho
    obtain ⟨st', F', hnv', hs', he'⟩ := frFz_sound he hnv hs
    split at he'
    · rename_i t' h
      exact doV_sound h he' hnv' hs' HK
    · cases he'
  · cases he
theorem doOp_sound (hF : FsOk X.P Fs) {o : Oper} {K : St → T} {r : List D} (he : eval Fs fuel (doOp X.P X.nt st o K) L ρ = some r) (hnv : st.nv = ρ.length) (hs : Sat X ρ st Ft β a w)
    {next : Act → World → Prop} {Q : Exit → Act → World → Prop} (HK : Goes X Fs fuel L ρ K r next) : o.wp X.P a w next Q := by
  unfold doOp at he
  split at he
  · rename_i t h
    exact doV_sound h he hnv hs HK
  · exact doOp1_sound hF he hnv hs HK
/-- A fact more. -/
theorem Sat.fact (hs : Sat X ρ st Ft β a w) {e : E} {b : Bool} (h : (den ρ e).toBool = b) : Sat X ρ { st with fs := addFact e b st.fs } Ft β a w := by
  refine ⟨hs.df, hs.sz, hs.ft, hs.tm, hs.bx, hs.inj, hs.own, hs.chg, ?_, hs.on, hs.f0⟩
  intro e' b' hm
  simp only [addFact] at hm
  split at hm
  · rename_i x
    rcases List.mem_cons.1 hm with he | hm
    · cases he; exact h
    · rcases List.mem_cons.1 hm with he | hm
      · injection he with h1 h2
        subst h1 h2
        have : (!(den ρ e').toBool) = b := h
        rw [← this]; simp
      · exact hs.fs e' b' hm
  · rcases List.mem_cons.1 hm with he | hm
    · cases he; exact h
    · exact hs.fs e' b' hm
theorem put_undef (hs : Sat X ρ st Ft β a w) {dst : Option Tmp} (hd : okDst X.nt dst = true) : Sat X ρ (st.upd dst (.tup []) none) Ft β (a.put dst undef) w :=
  hs.put hd ⟨[], rfl, rfl, fun i c u h => by simp at h⟩
theorem doG_sound (hF : FsOk X.P Fs) {ops : Array Oper} {o : Oper} {K : St → T} {r : List D} (he : eval Fs fuel (doG X.P X.nt ops st o K) L ρ = some r) (hnv : st.nv = ρ.length) (hs : Sat X ρ st Ft β a w)
    {next : Act → World → Prop} {Q : Exit → Act → World → Prop} (HK : Goes X Fs fuel L ρ K r next) :
    if Region.wanted o (yielded ops a.tmps) then o.wp X.P a w next Q ∨ (o.asks X.P a w ∧ LetsOut Q) else next (a.put o.dst undef) w := by
  unfold doG at he
  split at he
  · rename_i hg
    have : Region.wanted o (yielded ops a.tmps) = true := by unfold Region.wanted; rw [hg]
    rw [if_pos this]
    exact .inl (doOp_sound hF he hnv hs HK)
  · rename_i j want hg
    split at he
    · rename_i d hd
      split at he
      · rename_i e hl
        obtain ⟨v, hv1, hv2⟩ := hs.tm _ _ hl
        have hv : v = .bool (den ρ e).toBool := Rd.bool_inv hv2
        subst hv
        have hy : yielded ops a.tmps j = some (den ρ e).toBool := by
          unfold yielded
          rw [hd]
          simp [hv1]
        have hw : Region.wanted o (yielded ops a.tmps) = decide ((den ρ e).toBool = want) := by
          unfold Region.wanted
          rw [hg]
          simp only [hy]
          cases (den ρ e).toBool <;> cases want <;> rfl
        rw [hw]
        split at he
        · rename_i b hk
          have hb := find_known hk hs
          rw [hb]
          split at he
          · rename_i hbw
            rw [if_pos (by simpa using hbw)]
            exact .inl (doOp_sound hF he hnv hs HK)
          · rename_i hbw
            rw [if_neg (by simpa using hbw)]
            split at he
            · rename_i hdst
              exact HK.now (put_undef hs hdst) hnv he
            · cases he
        · split at he
          · rename_i hdst
            simp only [eval] at he
            split at he
            · rename_i ht
              have hs' := hs.fact ht
              rw [ht]
              split at he
              · rename_i hwant
                rw [if_pos (by simp [hwant])]
                exact .inl (doOp_sound hF he (st := { st with fs := addFact e true st.fs }) hnv hs' HK)
              · rename_i hwant
                rw [if_neg (by simpa using hwant)]
                exact HK.now (put_undef hs' hdst) hnv he
            · rename_i ht
              have ht' : (den ρ e).toBool = false := by simpa using ht
              have hs' := hs.fact ht'
              rw [ht']
              split at he
              · rename_i hwant
                rw [if_neg (by simp [hwant])]
                exact HK.now (put_undef hs' hdst) hnv he
              · rename_i hwant
                rw [if_pos (by simpa using hwant)]
                exact .inl (doOp_sound hF he (st := { st with fs := addFact e false st.fs }) hnv hs' HK)
          · cases he
      · rename_i l hl
        obtain ⟨v, hv1, hv2⟩ := hs.tm _ _ hl
        obtain ⟨vs, rfl, _⟩ := hv2
        have hw : Region.wanted o (yielded ops a.tmps) = false := by
          unfold Region.wanted yielded
          rw [hg]
          simp only [hd]
          simp [hv1]
        rw [if_neg (by simp [hw])]
        split at he
        · rename_i hdst
          exact HK.now (put_undef hs hdst) hnv he
        · cases he
      · cases he
    · cases he
theorem doOps_sound (hF : FsOk X.P Fs) (ops : Array Oper) {Q : Exit → Act → World → Prop} {K : St → T} {r : List D} : ∀ (l : List Oper) (n : Nat) {st : St} {ρ : List D} {Ft : Nat → Prop} {β : Nat → Value} {a : Act} {w : World}, ops.toList.drop n = l →
    eval Fs fuel (doOps X.P X.nt ops l st K) L ρ = some r → st.nv = ρ.length → Sat X ρ st Ft β a w → Goes X Fs fuel L ρ K r (Q .normal) → wpOps X.P ops Q (List.range' n l.length) a w
  | [], n, st, ρ, Ft, β, a, w, hl, he, hnv, hs, HK => by
    simp only [List.length_nil, List.range'_zero, wpOps]
    exact HK.now hs hnv he
  | o :: l, n, st, ρ, Ft, β, a, w, hl, he, hnv, hs, HK => by
    have hlt : n < ops.toList.length := by
      rcases Nat.lt_or_ge n ops.toList.length with h | h
      · exact h
      · rw [List.drop_eq_nil_of_le h] at hl; cases hl
    have ho : ops[n]? = some o := by
      rw [List.drop_eq_getElem_cons hlt] at hl
      injection hl with h1 h2
      rw [← Array.getElem?_toList, List.getElem?_eq_getElem hlt, h1]
    have hrest : ops.toList.drop (n + 1) = l := by
      rw [List.drop_eq_getElem_cons hlt] at hl
      injection hl
    simp only [doOps] at he
    simp only [List.length_cons, List.range'_succ, wpOps, ho]
    refine doG_sound hF he hnv hs ?_
    intro st' ext Ft' β' a' w' hnv' hs' he'
    exact doOps_sound hF ops l (n + 1) hrest he' hnv' hs' (fun st'' ext' Ft'' β'' a'' w'' q1 q2 q3 => by
      rw [List.append_assoc] at q1 q2 q3
      exact HK st'' (ext ++ ext') Ft'' β'' a'' w'' q1 q2 q3)
theorem region_sound (hF : FsOk X.P Fs) {ops : Array Oper} {id : Nat} {Q : Exit → Act → World → Prop} {K : St → T} {r : List D} (he : eval Fs fuel (doOps X.P X.nt ops ops.toList st K) L ρ = some r) (hnv : st.nv = ρ.length) (hs : Sat X ρ st Ft β a w)
    (HK : Goes X Fs fuel L ρ K r (Q .normal)) : (Code.region id ops false).wp X.P Q a w := by
  refine wp_region ?_
  have := doOps_sound hF ops ops.toList 0 rfl he hnv hs HK
  rw [List.range_eq_range']
  simpa using this
end
end Go.Proofs.Ytnaojplgikaeoaa.Eng
