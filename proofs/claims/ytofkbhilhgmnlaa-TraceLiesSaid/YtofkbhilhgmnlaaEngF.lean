/-
  A reader of Go functions, part F: structs built and held against each other, addresses; all operations together.
-/
import Derived.Test.YtofkbhilhgmnlaaEngE
import Derived.Laws.Tables
import Derived.Laws.StructEq
import Derived.ChangeKeysEq
namespace Go.Proofs.Ytofkbhilhgmnlaa.Eng
set_option linter.unusedVariables false
set_option linter.unusedSimpArgs false

section
variable {P : Program} {w : World} {F : Fr} {ρ : List D} {β : Nat → Value}
variable {X : Cx} {st : St} {a : Act}

theorem places_mapM : ∀ {fs : List Field} {ps : List (Nat × Nat)}, placesL P fs = some ps → fs.mapM (fun f => (P.info? f.type).map fun i => (f.offset, i.size)) = some ps
  | [], ps, h => by simp [placesL] at h; subst h; rfl
  | f :: fs, ps, h => by
    simp only [placesL] at h
    split at h
    · rename_i n l h1 h2
      simp at h; subst h
      have h1' : (P.info? f.type).map (·.size) = some n := h1
      have h3 := places_mapM h2
      cases hi : P.info? f.type with
      | none => simp [hi] at h1'
      | some i =>
        simp [hi] at h1'
        simp [List.mapM_cons, hi, h3, h1']
    · cases h
theorem put_sound : ∀ {xs : List C} {ys : List Value} (cs : List C) (vs : List Value) (off k : Nat), RCL P w F ρ β xs ys → RCL P w F ρ β cs vs →
    RCL P w F ρ β (putCells cs (off + k) xs) ((ys.zipIdx k).foldl (fun acc p => acc.setIfInBounds (off + p.2) p.1) vs.toArray).toList
  | [], ys, cs, vs, off, k, hx, h => by
    have : ys = [] := List.eq_nil_of_length_eq_zero hx.1.symm
    subst this
    simpa [putCells] using h
  | x :: xs, [], cs, vs, off, k, hx, h => by have := hx.1; simp at this
  | x :: xs, y :: ys, cs, vs, off, k, hx, h => by
    simp only [putCells, List.zipIdx_cons, List.foldl_cons, List.setIfInBounds_toArray]
    exact put_sound (cs.set (off + k) x) (vs.set (off + k) y) off (k + 1) ⟨by have := hx.1; simpa using this, fun i c v h1 h2 => hx.2 (i + 1) c v h1 h2⟩ (h.set _ (hx.2 0 x y rfl rfl))
theorem fill_sound (hb : ∀ n, (β n).oneCell' = true) (hs : Sat X ρ st F β a w) (place : Nat → Option (Nat × Nat)) : ∀ {parts : List (Nat × Operand)} {svs : List (Nat × SV)} {cs cs' : List C} {vs : List Value}, opVs st parts = some svs → fillC place cs svs = some cs' →
    RCL X.P w F ρ β cs vs → ∃ vs' : List Value, Instr.fill place vs.toArray (parts.map fun (p : Nat × Operand) => (p.1, a.eval p.2)) = some vs'.toArray ∧ RCL X.P w F ρ β cs' vs'
  | [], svs, cs, cs', vs, ho, h, hr => by
    simp [opVs] at ho; subst ho
    simp [fillC] at h; subst h
    exact ⟨vs, rfl, hr⟩
  | (i, x) :: rest, svs, cs, cs', vs, ho, h, hr => by
    simp only [opVs] at ho
    split at ho
    · rename_i v svs' hv hrest
      simp at ho; subst ho
      simp only [fillC] at h
      split at h
      · rename_i off n xs hp hxs
        split at h
        · rename_i hle
          obtain ⟨hlen, hle⟩ := hle
          obtain ⟨ys, hy1, hy2⟩ := (opV_sound hs hv).cells hxs hb
          have hput := put_sound cs vs off 0 hy2 hr
          rw [Nat.add_zero] at hput
          obtain ⟨vs', h1, h2⟩ := fill_sound hb hs place hrest h hput
          refine ⟨vs', ?_, h2⟩
          simp only [List.map_cons, Instr.fill, hp, hy1]
          have hsz : ys.length = n := by rw [← hy2.1]; exact hlen
          have hc : ¬ (ys.toArray.size ≠ n ∨ off + ys.toArray.size > vs.toArray.size) := by
            simp only [List.size_toArray, hsz, ← hr.1]; omega
          rw [if_neg (by simpa using hc)]
          simp only [Array.zipIdx_toArray] at *
          simpa using h1
        · cases h
      · cases h
    · cases ho
theorem came_build (hb : ∀ n, (β n).oneCell' = true) (hs : Sat X ρ st F β a w) {o : Oper} {t : TypeId} {parts : Array (Nat × Operand)} (ho : o.op = .build t parts) {es : List E} {sv : SV} {nb : Option Box} (h : evBuild X.P st t parts = some (es, sv, nb)) (nn : Nat) :
    Came X.P w F ρ β nn sv nb ((execOp a.eval o).run X.P w) := by
  unfold evBuild at h
  split at h
  · rename_i zs vs fs hz hv hu
    split at h
    · rename_i ps hps
      obtain ⟨cs, hf, e⟩ := map_one h
      cases e
      obtain ⟨z, hz1, hz2⟩ := zeroCs_sound (w := w) (F := F) (ρ := ρ) (β := β) hz
      obtain ⟨vs', h1, h2⟩ := fill_sound hb hs (ps[·]?) hv hf hz2
      cases hi : X.P.info? t with
      | none => simp [hi] at hz1
      | some it =>
        simp [hi] at hz1
        refine ⟨.agg vs'.toArray, ?_, vs', rfl, h2⟩
        have hbuilt : X.P.built t (parts.map fun (i, x) => (i, a.eval x)).toList = some vs'.toArray := by
          unfold Program.built
          simp only [hi, hu, hz1, places_mapM hps]
          rw [Array.toList_map]
          simpa using h1
        simp only [execOp, ho, Sem.run_bind, run_build w t _ _ hbuilt, Result.andThen_ok, Sem.run_pure]
    · cases h
  · rename_i zs vs me e hz hv hu
    split at h
    · rename_i n hn
      obtain ⟨cs, hf, e⟩ := map_one h
      cases e
      obtain ⟨z, hz1, hz2⟩ := zeroCs_sound (w := w) (F := F) (ρ := ρ) (β := β) hz
      obtain ⟨vs', h1, h2⟩ := fill_sound hb hs (fun i => some (i * n, n)) hv hf hz2
      cases hi : X.P.info? t with
      | none => simp [hi] at hz1
      | some it =>
        simp [hi] at hz1
        unfold szOf at hn
        cases hie : X.P.info? e with
        | none => simp [hie] at hn
        | some ie =>
          simp [hie] at hn
          refine ⟨.agg vs'.toArray, ?_, vs', rfl, h2⟩
          have hbuilt : X.P.built t (parts.map fun (i, x) => (i, a.eval x)).toList = some vs'.toArray := by
            unfold Program.built
            simp only [hi, hu, hz1, hie, hn]
            rw [Array.toList_map]
            simpa using h1
          simp only [execOp, ho, Sem.run_bind, run_build w t _ _ hbuilt, Result.andThen_ok, Sem.run_pure]
    · cases h
  · cases h
theorem eqC_sound {c d : C} {e : E} (h : eqC c d = some e) {u v : Value} (hu : RC P w F ρ β c u) (hv : RC P w F ρ β d v) {t : TypeId} (n : Nat)
    (ht : scT c (P.underlying t) = true) : (Op.equalIn (n + 1) t u v).run P w = .ok (den ρ e).toBool w ∧ aggB P t = some false := by
  cases c <;> cases d <;> try (simp [eqC] at h; done)
  rename_i t1 x t2 y
  cases t1 <;> cases t2 <;> try (simp [eqC] at h; done)
  · rename_i k k'
    simp only [eqC] at h
    split at h
    · rename_i hk
      subst hk
      simp at h; subst h
      have e1 := hu.int_inv; have e2 := hv.int_inv
      subst e1 e2
      cases hun : P.underlying t with
      | none => simp [scT, hun] at ht
      | some td =>
        cases td <;> try (simp [scT, hun] at ht; done)
        exact ⟨by rw [eqIn_int hun, den_mkCmp]; rfl, by simp [aggB, hun]⟩
    · cases h
  · simp only [eqC, Option.some.injEq] at h
    subst h
    have e1 := hu.bool_inv; have e2 := hv.bool_inv
    subst e1 e2
    cases hun : P.underlying t with
    | none => simp [scT, hun] at ht
    | some td =>
      cases td <;> try (simp [scT, hun] at ht; done)
      exact ⟨by rw [eqIn_bool hun, den_mkBeq]; rfl, by simp [aggB, hun]⟩
  · simp only [eqC, Option.some.injEq] at h
    subst h
    have e1 := hu.str_inv; have e2 := hv.str_inv
    subst e1 e2
    cases hun : P.underlying t with
    | none => simp [scT, hun] at ht
    | some td =>
      cases td <;> try (simp [scT, hun] at ht; done)
      exact ⟨by rw [eqIn_str hun, beq_toListBytes]; rfl, by simp [aggB, hun]⟩
/-- A value of a type, by its cells. -/
def VOf (P : Program) (t : TypeId) (us : List Value) (v : Value) : Prop := (aggB P t = some true ∧ v = .agg us.toArray) ∨ (aggB P t = some false ∧ us = [v])
theorem eqT_agg {n : Nat} {t : TypeId} {cs ds : List C} {e : E} (h : eqT P n t cs ds = some e) : aggB P t = some true ∨ (aggB P t = some false ∧ cs.length = 1 ∧ ds.length = 1) := by
  cases n with
  | zero => simp [eqT] at h
  | succ n =>
    simp only [eqT] at h
    split at h
    · rename_i fs hu; exact .inl (by simp [aggB, hu])
    · rename_i k e' hu; exact .inl (by simp [aggB, hu])
    · rename_i h1 h2
      split at h
      · split at h
        · rename_i c d hs
          refine .inr ⟨?_, rfl, rfl⟩
          cases hu : P.underlying t with
          | none => rw [hu] at hs; simp [scT] at hs
          | some td =>
            cases td <;> first
              | (simp [aggB, hu]; done)
              | (rename_i fs; exact absurd hu (h1 fs))
              | (rename_i k e'; exact absurd hu (h2 k e'))
        · cases h
      · cases h
theorem part_at {t : TypeId} {m : Nat} {pre us : List Value} (hm : szOf P t = some m) (hle : m ≤ us.length) (ha : aggB P t = some true ∨ (aggB P t = some false ∧ (us.take m).length = 1)) :
    ∃ v, (part t (pre ++ us).toArray pre.length).run P w = .ok v w ∧ VOf P t (us.take m) v := by
  rcases ha with ha | ⟨ha, h1⟩
  · refine ⟨.agg (us.take m).toArray, ?_, .inl ⟨ha, rfl⟩⟩
    simp [part, run_aggB ha, run_szOf hm, List.extract_eq_take_drop]
  · have hm1 : m = 1 := by simp at h1; omega
    subst hm1
    cases us with
    | nil => simp at hle
    | cons u us => exact ⟨u, by simp [part, run_aggB ha], .inr ⟨ha, by simp⟩⟩
theorem eqFs_sound {g : TypeId → List C → List C → Option E} {k : Nat} (hg : ∀ {t : TypeId} {cs ds : List C} {e : E} {us vs : List Value} {u v : Value}, g t cs ds = some e → RCL P w F ρ β cs us → RCL P w F ρ β ds vs → VOf P t us u → VOf P t vs v → (Op.equalIn k t u v).run P w = .ok (den ρ e).toBool w)
    (ha : ∀ {t : TypeId} {cs ds : List C} {e : E}, g t cs ds = some e → aggB P t = some true ∨ (aggB P t = some false ∧ cs.length = 1 ∧ ds.length = 1)) :
    ∀ (fs : List Field) {cs ds : List C} {us vs : List Value} {e : E} (pre1 pre2 : List Value) (n : Nat), eqFs P g fs n cs ds = some e → RCL P w F ρ β cs us → RCL P w F ρ β ds vs → pre1.length = n → pre2.length = n →
    (Op.eqFields k (pre1 ++ us).toArray (pre2 ++ vs).toArray fs).run P w = .ok (den ρ e).toBool w
  | [], cs, ds, us, vs, e, pre1, pre2, n, he, hu, hv, h1, h2 => by
    cases cs with
    | nil => cases ds with
      | nil => simp [eqFs] at he; subst he; simp [Op.eqFields, den]
      | cons d ds => simp [eqFs] at he
    | cons c cs => simp [eqFs] at he
  | f :: fs, cs, ds, us, vs, e, pre1, pre2, n, he, hu, hv, h1, h2 => by
    simp only [eqFs] at he
    split at he
    · rename_i m hm
      split at he
      · rename_i hc
        simp only [Bool.and_eq_true, decide_eq_true_eq] at hc
        obtain ⟨⟨⟨hn, ho⟩, hl1⟩, hl2⟩ := hc
        split at he
        · rename_i e1 e2 he1 he2
          simp at he; subst he
          have hoff : f.offset = n := by simpa using ho
          have lu : m ≤ us.length := by rw [← hu.1]; exact hl1
          have lv : m ≤ vs.length := by rw [← hv.1]; exact hl2
          have hag := ha he1
          obtain ⟨u, p1, q1⟩ := part_at (P := P) (w := w) (pre := pre1) hm lu (by
            rcases hag with hag | ⟨hag, l1, l2⟩
            · exact .inl hag
            · exact .inr ⟨hag, by rw [List.length_take] at l1 ⊢; omega⟩)
          obtain ⟨v, p2, q2⟩ := part_at (P := P) (w := w) (pre := pre2) hm lv (by
            rcases hag with hag | ⟨hag, l1, l2⟩
            · exact .inl hag
            · exact .inr ⟨hag, by rw [List.length_take] at l2 ⊢; omega⟩)
          have q := hg he1 (hu.take m) (hv.take m) q1 q2
          have hne : (f.name ≠ "_") := by simpa using hn
          have ih := eqFs_sound hg ha fs (pre1 ++ us.take m) (pre2 ++ vs.take m) (n + m) he2 (hu.drop m) (hv.drop m) (by simp [h1]; omega) (by simp [h2]; omega)
          simp only [List.append_assoc, List.take_append_drop] at ih
          rw [den_mkAnd]
          simp only [Op.eqFields]
          rw [if_pos hne]
          rw [hoff]
          rw [h1] at p1
          rw [h2] at p2
          simp only [Sem.run_bind, p1, p2, q, Result.andThen_ok]
          cases hb : (den ρ e1).toBool
          · simp
          · simp [ih]
        · cases he
      · cases he
    · cases he
theorem eqIs_sound {g : List C → List C → Option E} {k : Nat} {t : TypeId} {m : Nat} (hm : szOf P t = some m) (hg : ∀ {cs ds : List C} {e : E} {us vs : List Value} {u v : Value}, g cs ds = some e → RCL P w F ρ β cs us → RCL P w F ρ β ds vs → VOf P t us u → VOf P t vs v → (Op.equalIn k t u v).run P w = .ok (den ρ e).toBool w)
    (ha : ∀ {cs ds : List C} {e : E}, g cs ds = some e → aggB P t = some true ∨ (aggB P t = some false ∧ cs.length = 1 ∧ ds.length = 1)) :
    ∀ (c : Nat) {cs ds : List C} {us vs : List Value} {e : E} (pre1 pre2 : List Value) (i : Nat), eqIs g m c cs ds = some e → RCL P w F ρ β cs us → RCL P w F ρ β ds vs → pre1.length = i * m → pre2.length = i * m →
    (Op.eqItems k t m (pre1 ++ us).toArray (pre2 ++ vs).toArray (List.range' i c)).run P w = .ok (den ρ e).toBool w
  | 0, cs, ds, us, vs, e, pre1, pre2, i, he, hu, hv, h1, h2 => by
    cases cs with
    | nil => cases ds with
      | nil => simp [eqIs] at he; subst he; simp [Op.eqItems, den]
      | cons d ds => simp [eqIs] at he
    | cons c cs => simp [eqIs] at he
  | c + 1, cs, ds, us, vs, e, pre1, pre2, i, he, hu, hv, h1, h2 => by
    simp only [eqIs] at he
    split at he
    · rename_i hl
      obtain ⟨hl1, hl2⟩ := hl
      split at he
      · rename_i e1 e2 he1 he2
        simp at he; subst he
        have lu : m ≤ us.length := by rw [← hu.1]; exact hl1
        have lv : m ≤ vs.length := by rw [← hv.1]; exact hl2
        have hag := ha he1
        obtain ⟨u, p1, q1⟩ := part_at (P := P) (w := w) (pre := pre1) hm lu (by
          rcases hag with hag | ⟨hag, l1, l2⟩
          · exact .inl hag
          · exact .inr ⟨hag, by rw [List.length_take] at l1 ⊢; omega⟩)
        obtain ⟨v, p2, q2⟩ := part_at (P := P) (w := w) (pre := pre2) hm lv (by
          rcases hag with hag | ⟨hag, l1, l2⟩
          · exact .inl hag
          · exact .inr ⟨hag, by rw [List.length_take] at l2 ⊢; omega⟩)
        have q := hg he1 (hu.take m) (hv.take m) q1 q2
        have ih := eqIs_sound hm hg ha c (pre1 ++ us.take m) (pre2 ++ vs.take m) (i + 1) he2 (hu.drop m) (hv.drop m) (by simp [h1, Nat.succ_mul]; omega) (by simp [h2, Nat.succ_mul]; omega)
        simp only [List.append_assoc, List.take_append_drop] at ih
        rw [den_mkAnd]
        rw [List.range'_succ]
        simp only [Op.eqItems]
        rw [h1] at p1
        rw [h2] at p2
        simp only [Sem.run_bind, p1, p2, q, Result.andThen_ok]
        cases hb : (den ρ e1).toBool
        · simp
        · simp [ih]
      · cases he
    · cases he
theorem eqT_sound : ∀ (n k : Nat) {t : TypeId} {cs ds : List C} {e : E} {us vs : List Value} {u v : Value}, eqT P n t cs ds = some e → RCL P w F ρ β cs us → RCL P w F ρ β ds vs → VOf P t us u → VOf P t vs v → (Op.equalIn (n + k) t u v).run P w = .ok (den ρ e).toBool w
  | 0, k, t, cs, ds, e, us, vs, u, v, h, hu, hv, q1, q2 => by simp [eqT] at h
  | n + 1, k, t, cs, ds, e, us, vs, u, v, h, hu, hv, q1, q2 => by
    have hag := eqT_agg h
    rw [show n + 1 + k = (n + k) + 1 by omega]
    simp only [eqT] at h
    split at h
    · rename_i fs hun
      split at h
      · cases h
      rename_i hst
      have ha : aggB P t = some true := by simp [aggB, hun]
      obtain ⟨_, rfl⟩ : aggB P t = some true ∧ u = .agg us.toArray := by rcases q1 with q | q; exact q; rw [ha] at q; cases q.1
      obtain ⟨_, rfl⟩ : aggB P t = some true ∧ v = .agg vs.toArray := by rcases q2 with q | q; exact q; rw [ha] at q; cases q.1
      have hfo : P.fieldsOf t = fs := by simp [Program.fieldsOf, hun]
      have hfs : P.underlying t = some (.struct (P.fieldsOf t)) := by rw [hfo]; exact hun
      rw [run_equalIn_struct w (n + k) t _ _ hfs (by simpa using hst), hfo]
      exact eqFs_sound (fun a b c d e => eqT_sound n k a b c d e) (fun a => eqT_agg a) fs.toList [] [] 0 h hu hv rfl rfl
    · rename_i c e' hun
      split at h
      · rename_i m hm
        have ha : aggB P t = some true := by simp [aggB, hun]
        obtain ⟨_, rfl⟩ : aggB P t = some true ∧ u = .agg us.toArray := by rcases q1 with q | q; exact q; rw [ha] at q; cases q.1
        obtain ⟨_, rfl⟩ : aggB P t = some true ∧ v = .agg vs.toArray := by rcases q2 with q | q; exact q; rw [ha] at q; cases q.1
        obtain ⟨i, hi, hsz⟩ : ∃ i, P.info? e' = some i ∧ i.size = m := by simpa [szOf] using hm
        rw [run_equalIn_array w (n + k) _ _ hun hi, List.range_eq_range']
        have hce : P.cellsOf e' = m := by simp [Program.cellsOf, hi, hsz]
        rw [hce]
        exact eqIs_sound hm (fun a b c d e => eqT_sound n k a b c d e) (fun a => eqT_agg a) c [] [] 0 h hu hv (by simp) (by simp)
      · cases h
    · rename_i h1 h2
      split at h
      · rename_i c d
        split at h
        · rename_i hs
          obtain ⟨e1, e2⟩ := eqC_sound h (u := us.headD undef) (v := vs.headD undef) (hu.2 0 c _ rfl (by have := hu.1; cases us with | nil => simp at this | cons x us => rfl)) (hv.2 0 d _ rfl (by have := hv.1; cases vs with | nil => simp at this | cons x us => rfl)) (t := t) (n + k) hs
          obtain ⟨_, rfl⟩ : aggB P t = some false ∧ us = [u] := by rcases q1 with q | q; (rw [e2] at q; cases q.1); exact q
          obtain ⟨_, rfl⟩ : aggB P t = some false ∧ vs = [v] := by rcases q2 with q | q; (rw [e2] at q; cases q.1); exact q
          exact e1
        · cases h
      · cases h
theorem came_bin (hs : Sat X ρ st F β a w) {o : Oper} {op : BinOp} {t yt : TypeId} {x y : Operand} (ho : o.op = .binOp op t x y yt) {es : List E} {sv : SV} {nb : Option Box} (h : evBin X.P st op t x y = some (es, sv, nb))
    (hes : ∀ e ∈ es, (den ρ e).toBool = true) (nn : Nat) : Came X.P w F ρ β nn sv nb ((execOp a.eval o).run X.P w) := by
  unfold evBin at h
  split at h
  · rename_i ca cb hx hy
    have h1 : RC X.P w F ρ β ca (a.eval x) := opV_sound hs hx
    have h2 : RC X.P w F ρ β cb (a.eval y) := opV_sound hs hy
    split at h
    · rename_i u v
      split at h
      · rename_i hc
        obtain ⟨⟨es', c⟩, hb, e⟩ := map_one h
        cases e
        obtain ⟨r, hr1, hr2⟩ := bin_sound hb h1 h2 hes (x := x) (y := y) (fun _ _ => hc)
        refine ⟨r, ?_, hr2⟩
        simp only [execOp, ho]
        rw [Sem.run_bind, hr1]
        rfl
      · cases h
    · rename_i hne
      obtain ⟨⟨es', c⟩, hb, e⟩ := map_one h
      cases e
      obtain ⟨r, hr1, hr2⟩ := bin_sound hb h1 h2 hes (x := x) (y := y) (fun e he => by
        exfalso
        subst he
        unfold bin at hb
        split at hb <;> first | (rename_i heq; cases heq; done) | skip
        all_goals first | (rename_i h1 _ heq; cases heq; done) | skip
        · rename_i heq; cases heq; exact hne _ _ rfl rfl
        · cases hb)
      refine ⟨r, ?_, hr2⟩
      simp only [execOp, ho]
      rw [Sem.run_bind, hr1]
      rfl
  · rename_i cs ds hx hy
    split at h
    · rename_i hc
      obtain ⟨hag, hg⟩ := hc
      obtain ⟨us, e1, hus⟩ := opV_sound hs hx
      obtain ⟨vs, e2, hvs⟩ := opV_sound hs hy
      split at h
      · rename_i e he
        simp at h; obtain ⟨rfl, rfl, rfl⟩ := h
        have := eqT_sound 8 9992 he hus hvs (.inl ⟨hag, rfl⟩) (.inl ⟨hag, rfl⟩)
        refine ⟨.bool (den ρ e).toBool, ?_, Rd.bool rfl⟩
        simp only [execOp, ho, e1, e2, Sem.run_bind, run_eqGuard_agg w _ _ _ _ _ _ hg, Result.andThen_ok, run_eql_struct]
        rw [this]
        rfl
      · rename_i e he
        simp at h; obtain ⟨rfl, rfl, rfl⟩ := h
        have := eqT_sound 8 9992 he hus hvs (.inl ⟨hag, rfl⟩) (.inl ⟨hag, rfl⟩)
        refine ⟨.bool (!(den ρ e).toBool), ?_, Rd.bool (by rw [den_mkNot])⟩
        simp only [execOp, ho, e1, e2, Sem.run_bind, run_eqGuard_agg w _ _ _ _ _ _ hg, Result.andThen_ok, run_neq_struct]
        rw [this]
        rfl
      · cases h
    · cases h
  · cases h
theorem came_nil (hs : Sat X ρ st F β a w) {o : Oper} {x : Operand} (ho : o.op = .nilCheck x) {es : List E} {sv : SV} {nb : Option Box} (h : evNilCheck st x = some (es, sv, nb)) (hes : ∀ e ∈ es, (den ρ e).toBool = true) (nn : Nat) :
    Came X.P w F ρ β nn sv nb ((execOp a.eval o).run X.P w) := by
  unfold evNilCheck at h
  split at h
  · rename_i n off hx
    simp [ev1] at h; obtain ⟨rfl, rfl, rfl⟩ := h
    have hr := opC_sound hs hx
    obtain ⟨b, h1, h2⟩ := hr
    exact ⟨_, by simp [execOp, ho, h2], b, h1, rfl⟩
  · rename_i t a' c hx
    simp [ev1] at h; obtain ⟨rfl, rfl, rfl⟩ := h
    have hr := opC_sound hs hx
    obtain ⟨n, b, h1, h2, h3, h4⟩ := hr
    exact ⟨_, by simp [execOp, ho, h4], n, b, h1, h2, h3, rfl⟩
  · rename_i n t i c hx
    simp [ev1] at h; obtain ⟨rfl, rfl, rfl⟩ := h
    have hr := opC_sound hs hx
    obtain ⟨b, o', len, cap, ts, h1, h2, h3, h4, h5⟩ := hr
    exact ⟨_, by simp [execOp, ho, h5], b, o', len, cap, ts, h1, h2, h3, h4, rfl⟩
  · rename_i t a' i c hx
    simp [ev1] at h; obtain ⟨rfl, rfl, rfl⟩ := h
    have hr := opC_sound hs hx
    obtain ⟨b, o', len, cap, ts, h1, h2, h3, h4, h5⟩ := hr
    exact ⟨_, by simp [execOp, ho, h5], b, o', len, cap, ts, h1, h2, h3, h4, rfl⟩
  · rename_i e la hx
    have hr := opC_sound hs hx
    have hr' : Rd X.P w F (.ptr e) (den ρ la) (a.eval x) := hr
    split at h
    · rename_i hcl
      simp at h; obtain ⟨rfl, rfl, rfl⟩ := h
      have hn := hes _ (List.mem_singleton.2 rfl)
      rw [den_mkNot, den_mkIsnil] at hn
      cases hr' with
      | pnil e1 e2 => rw [e1] at hn; simp at hn
      | href e0 e1 e2 e3 =>
        rename_i n b
        exact ⟨_, by simp [execOp, ho, e3], n, b, e0, e1, e2, rfl⟩
      | ptr e0 e1 e2 e3 e4 e5 e6 e7 =>
        rw [hs.cf.2, hcl] at e0; cases e0
    · rename_i hcl
      simp at h; obtain ⟨rfl, rfl, rfl⟩ := h
      have hn := hes _ (List.mem_singleton.2 rfl)
      rw [den_mkNot, den_mkIsnil] at hn
      cases hr' with
      | pnil e1 e2 => rw [e1] at hn; simp at hn
      | href e0 e1 e2 e3 => rw [hs.cf.2] at e0; exact absurd e0 hcl
      | ptr e0 e1 e2 e3 e4 e5 e6 e7 =>
        rename_i b o' l ts g
        exact ⟨_, by simp [execOp, ho, e2]; rfl, b, o', by rw [← e2]; exact hr, by simp [e2]⟩
  · cases h
theorem came_indexAddr (hs : Sat X ρ st F β a w) {o : Oper} {t : TypeId} {x i : Operand} (ho : o.op = .indexAddr t x i) {es : List E} {sv : SV} {nb : Option Box} (h : evIndexAddr X.P st t x i = some (es, sv, nb)) (hes : ∀ e ∈ es, (den ρ e).toBool = true) (nn : Nat) :
    Came X.P w F ρ β nn sv nb ((execOp a.eval o).run X.P w) := by
  unfold evIndexAddr at h
  split at h
  · rename_i e e' la k j hu hx hi
    split at h
    · rename_i hee
      subst hee
      split at h
      · rename_i ts n hts hn
        split at h
        · rename_i hlen
          simp at h; obtain ⟨rfl, rfl, rfl⟩ := h
          have hr : Rd X.P w F (.slice e) (den ρ la) (a.eval x) := opC_sound hs hx
          have hj := (opC_sound hs hi).int_inv
          have h0 := hes _ (List.mem_cons_self ..)
          have h1 := hes (.cmp .lss j (.len la)) (by simp)
          rw [den_mkCmp] at h0
          have h0' : (den ρ j).toInt ≥ 0 := of_decide_eq_true h0
          have h1' : (den ρ j).toInt < ((den ρ la).toL.length : Int) := of_decide_eq_true h1
          have hlt : (den ρ j).toInt.toNat < (den ρ la).toL.length := by omega
          have hr2 := hr
          cases hr with
          | snil e1 e2 => rw [e1] at hlt; simp at hlt
          | slice e1 e2 e3 e0 e4 e5 e6 =>
            rename_i b o' len cap ts' g
            rw [hts] at e2; cases e2
            refine ⟨.pointer (some ⟨b, o' + (den ρ j).toInt.toNat * ts.length + 0, none⟩), ?_, b, o', len, cap, ts, by rw [← e1]; exact hr2, hts, h0', hlt, rfl⟩
            have hb : 0 ≤ (den ρ j).toInt ∧ (den ρ j).toInt < (len : Int) := ⟨h0', by rw [e3]; exact h1'⟩
            simp only [execOp, ho, Instr.indexAt, hj, e1, asIntOf, Sem.run_bind, Sem.run_pure, Result.andThen_ok, run_und hu, hb, and_self, if_true, run_szOf hn, addr_add]
            rw [hlen]
            simp
        · cases h
      · cases h
    · cases h
  · rename_i e m k j hu hx hi
    split at h
    · rename_i e' y hb
      split at h
      · rename_i hee
        subst hee
        split at h
        · rename_i ts n hts hn
          split at h
          · rename_i hlen
            simp at h; obtain ⟨rfl, rfl, rfl⟩ := h
            have hv : a.eval x = β m := opC_sound hs hx
            have hj := (opC_sound hs hi).int_inv
            have h0 := hes _ (List.mem_cons_self ..)
            have h1 := hes (.cmp .lss j (.len y)) (by simp)
            rw [den_mkCmp] at h0
            have h0' : (den ρ j).toInt ≥ 0 := of_decide_eq_true h0
            have h1' : (den ρ j).toInt < ((den ρ y).toL.length : Int) := of_decide_eq_true h1
            obtain ⟨ts', xs, hts', ⟨_, hr⟩, _⟩ := rowOf_sound hs hb
            rcases hr with ⟨⟨A, hr⟩, hn'⟩ | ⟨g, cap, cur, hr, _, _, hcap0, _⟩
            · rw [hn'] at h1'; simp at h1'; omega
            · refine ⟨.pointer (some ⟨g, 0 + (den ρ j).toInt.toNat * ts.length + 0, none⟩), ?_, g, 0, _, cap, ts, hr, hts, h0', by omega, rfl⟩
              have hb : 0 ≤ (den ρ j).toInt ∧ (den ρ j).toInt < ((den ρ y).toL.length : Int) := ⟨h0', h1'⟩
              simp only [execOp, ho, Instr.indexAt, hj, hv, hr, asIntOf, Sem.run_bind, Sem.run_pure, Result.andThen_ok, run_und hu, hb, and_self, if_true, run_szOf hn, addr_add]
              rw [hlen]
              simp
          · cases h
        · cases h
      · cases h
    · cases h
  · rename_i e n len k j hu hx hi
    split at h
    · rename_i s hs'
      split at h
      · rename_i hj
        simp [ev1] at h; obtain ⟨rfl, rfl, rfl⟩ := h
        have hji := (opC_sound hs hi).int_inv
        obtain ⟨b, h1, h2⟩ := opC_sound hs hx
        refine ⟨.pointer (some ⟨b, 0 + j.toNat * s, none⟩), ?_, b, h1, by rw [Nat.zero_add]⟩
        simp [execOp, ho, Instr.indexAt, hji, h2, asIntOf, run_und hu, Instr.sureAddr, den, hj, run_szOf hs', addr_add]
      · cases h
    · cases h
  · rename_i m e t' a' off k j hu hx hi
    split at h
    · rename_i s hs'
      split at h
      · rename_i hj
        simp [ev1] at h; obtain ⟨rfl, rfl, rfl⟩ := h
        have hji := (opC_sound hs hi).int_inv
        obtain ⟨n, b, h1, h2, h3, h4⟩ := opC_sound hs hx
        refine ⟨.pointer (some ⟨b, off + j.toNat * s, none⟩), ?_, n, b, h1, h2, h3, rfl⟩
        simp [execOp, ho, Instr.indexAt, hji, h4, asIntOf, run_und hu, Instr.sureAddr, den, hj, run_szOf hs', addr_add]
      · cases h
    · cases h
  · rename_i m e n off k j hu hx hi
    split at h
    · rename_i s hs'
      split at h
      · rename_i hj
        simp [ev1] at h; obtain ⟨rfl, rfl, rfl⟩ := h
        have hji := (opC_sound hs hi).int_inv
        obtain ⟨b, h1, h2⟩ := opC_sound hs hx
        refine ⟨.pointer (some ⟨b, off + j.toNat * s, none⟩), ?_, b, h1, rfl⟩
        simp [execOp, ho, Instr.indexAt, hji, h2, asIntOf, run_und hu, Instr.sureAddr, den, hj, run_szOf hs', addr_add]
      · cases h
    · cases h
  · rename_i m e n t' kk off k j hu hx hi
    split at h
    · rename_i s hs'
      split at h
      · rename_i hj
        simp [ev1] at h; obtain ⟨rfl, rfl, rfl⟩ := h
        have hji := (opC_sound hs hi).int_inv
        obtain ⟨b, o', len, cap, ts, h1, h2, h3, h4, h5⟩ := opC_sound hs hx
        refine ⟨.pointer (some ⟨b, o' + (den ρ kk).toInt.toNat * ts.length + off + j.toNat * s, none⟩), ?_, b, o', len, cap, ts, h1, h2, h3, h4, by rw [← Nat.add_assoc]⟩
        simp [execOp, ho, Instr.indexAt, hji, h5, asIntOf, run_und hu, Instr.sureAddr, den, hj, run_szOf hs', addr_add]
      · cases h
    · cases h
  · rename_i m e t' la kk off k j hu hx hi
    split at h
    · rename_i s hs'
      split at h
      · rename_i hj
        simp [ev1] at h; obtain ⟨rfl, rfl, rfl⟩ := h
        have hji := (opC_sound hs hi).int_inv
        obtain ⟨b, o', len, cap, ts, h1, h2, h3, h4, h5⟩ := opC_sound hs hx
        refine ⟨.pointer (some ⟨b, o' + (den ρ kk).toInt.toNat * ts.length + off + j.toNat * s, none⟩), ?_, b, o', len, cap, ts, h1, h2, h3, h4, by rw [← Nat.add_assoc]⟩
        simp [execOp, ho, Instr.indexAt, hji, h5, asIntOf, run_und hu, Instr.sureAddr, den, hj, run_szOf hs', addr_add]
      · cases h
    · cases h
  · rename_i m e t' la off k j hu hx hi
    split at h
    · rename_i s hs'
      split at h
      · rename_i hj
        simp [ev1] at h; obtain ⟨rfl, rfl, rfl⟩ := h
        have hji := (opC_sound hs hi).int_inv
        obtain ⟨b, o', h1, h5⟩ := opC_sound hs hx
        refine ⟨.pointer (some ⟨b, o' + off + j.toNat * s, none⟩), ?_, b, o', h1, by rw [← Nat.add_assoc]⟩
        simp [execOp, ho, Instr.indexAt, hji, h5, asIntOf, run_und hu, Instr.sureAddr, den, hj, run_szOf hs', addr_add]
      · cases h
    · cases h
  · cases h
theorem came_index (hs : Sat X ρ st F β a w) {o : Oper} {t : TypeId} {x i : Operand} (ho : o.op = .index t x i) {es : List E} {sv : SV} {nb : Option Box} (h : evIndex X.P st t x i = some (es, sv, nb)) (hes : ∀ e ∈ es, (den ρ e).toBool = true) (nn : Nat) :
    Came X.P w F ρ β nn sv nb ((execOp a.eval o).run X.P w) := by
  unfold evIndex at h
  split at h
  · rename_i la k j hu hx hi
    simp at h; obtain ⟨rfl, rfl, rfl⟩ := h
    have hxv := (opC_sound hs hx).str_inv
    have hj := (opC_sound hs hi).int_inv
    have h0 := hes _ (List.mem_cons_self ..)
    have h1 := hes (.cmp .lss j (.slen la)) (by simp)
    rw [den_mkCmp] at h0
    have h0' : (den ρ j).toInt ≥ 0 := of_decide_eq_true h0
    have h1' : (den ρ j).toInt < ((den ρ la).toStr.size : Int) := of_decide_eq_true h1
    have hlt : (den ρ j).toInt.toNat < (den ρ la).toStr.size := by omega
    refine ⟨.int .u8 ((den ρ la).toStr[(den ρ j).toInt.toNat]).toNat, ?_, Rd.int ?_⟩
    · simp [execOp, ho, Instr.index, hxv, hj, asIntOf, run_und hu, h0', getElem?_pos, hlt]
    · simp only [den, D.toInt_int, Array.getD_eq_getD_getElem?]
      rw [Array.getElem?_eq_getElem (by simpa using hlt)]
      rfl
  · cases h
theorem run_bound {i : Value} {y : Nat} {code : BoundsCode} {k : IntKind} {n : Int} (hi : i = .int k n) (h0 : 0 ≤ n) (h1 : n ≤ y) : (Instr.sliceBound i y code).run P w = .ok n.toNat w := by
  subst hi
  simp [Instr.sliceBound, asIntOf, h0, h1]
theorem bounds_sound (hs : Sat X ρ st F β a w) {x : Option Operand} {d e : E} (h : boundsC st x d = some e) : (x = none ∧ e = d) ∨ ∃ y k, x = some y ∧ a.eval y = .int k (den ρ e).toInt := by
  unfold boundsC at h
  split at h
  · simp at h; exact .inl ⟨rfl, h.symm⟩
  · rename_i y
    split at h
    · rename_i k e' hc
      simp at h; subst h
      exact .inr ⟨y, k, rfl, (opC_sound hs hc).int_inv⟩
    · cases h
theorem run_bounds (hs : Sat X ρ st F β a w) {lo hi : Option Operand} {l h d : E} (hl : boundsC st lo (.int 0) = some l) (hh : boundsC st hi d = some h) {len cap : Nat} (hd : (den ρ d).toInt = len) (h0 : 0 ≤ (den ρ l).toInt) (h1 : (den ρ l).toInt ≤ (den ρ h).toInt) (h2 : (den ρ h).toInt ≤ len) (hc : len ≤ cap) (b : Bool) :
    (Instr.sliceBounds b len cap (lo.map a.eval) (hi.map a.eval) none).run P w = .ok ((den ρ l).toInt.toNat, (den ρ h).toInt.toNat, cap) w := by
  rcases bounds_sound hs hh with ⟨rfl, rfl⟩ | ⟨y, k, rfl, hy⟩ <;> rcases bounds_sound hs hl with ⟨rfl, rfl⟩ | ⟨y', k', rfl, hy'⟩
  · simp [Instr.sliceBounds, den, hd]
  · simp [Instr.sliceBounds, hd, run_bound hy' h0 (show (den ρ l).toInt ≤ ((len : Nat) : Int) by omega)]
  · simp [Instr.sliceBounds, den, run_bound hy (show 0 ≤ (den ρ h).toInt by omega) (show (den ρ h).toInt ≤ ((cap : Nat) : Int) by omega)]
  · simp [Instr.sliceBounds, run_bound hy (show 0 ≤ (den ρ h).toInt by omega) (show (den ρ h).toInt ≤ ((cap : Nat) : Int) by omega), run_bound hy' h0 (show (den ρ l).toInt ≤ (((den ρ h).toInt.toNat : Nat) : Int) by omega)]
theorem came_slice (hs : Sat X ρ st F β a w) {o : Oper} {t : TypeId} {x : Operand} {lo hi mx : Option Operand} (ho : o.op = .slice t x lo hi mx) {es : List E} {sv : SV} {nb : Option Box} (h : evSlice X.P st t x lo hi mx = some (es, sv, nb)) (hes : ∀ e ∈ es, (den ρ e).toBool = true) (nn : Nat) :
    Came X.P w F ρ β nn sv nb ((execOp a.eval o).run X.P w) := by
  unfold evSlice at h
  split at h
  · rename_i e e' la hu hx
    split at h
    · rename_i l hh ts n hl hhi hts hn
      split at h
      · rename_i hc
        obtain ⟨rfl, hlen⟩ := hc
        simp at h; obtain ⟨rfl, rfl, rfl⟩ := h
        have hr : Rd X.P w F (.slice e) (den ρ la) (a.eval x) := opC_sound hs hx
        have h0 : (0 : Int) ≤ (den ρ l).toInt := of_decide_eq_true (hes (.cmp .leq (.int 0) l) (by simp))
        have h1 : (den ρ l).toInt ≤ (den ρ hh).toInt := of_decide_eq_true (hes (.cmp .leq l hh) (by simp))
        have h2 : (den ρ hh).toInt ≤ ((den ρ la).toL.length : Int) := of_decide_eq_true (hes (.cmp .leq hh (.len la)) (by simp))
        have hfin : ∀ A len cap, a.eval x = .slice A len cap → len = (den ρ la).toL.length → len ≤ cap → (execOp a.eval o).run X.P w = .ok (.value (.slice (if cap = (den ρ l).toInt.toNat then A else A.map (·.add ((den ρ l).toInt.toNat * n))) ((den ρ hh).toInt.toNat - (den ρ l).toInt.toNat) (cap - (den ρ l).toInt.toNat))) w := by
          intro A len cap e1 e2 e3
          subst e2
          have := run_bounds (P := X.P) hs hl hhi (len := (den ρ la).toL.length) (cap := cap) rfl h0 h1 h2 e3 true
          simp only [execOp, ho, Instr.sliceAt, Sem.run_bind, run_und hu, Result.andThen_ok, Instr.slice, e1, this, run_szOf hn, Sem.run_pure, Option.map_none]
        have hsub : (den ρ (.sub la l hh)).toL = ((den ρ la).toL.drop (den ρ l).toInt.toNat).take ((den ρ hh).toInt.toNat - (den ρ l).toInt.toNat) := rfl
        have hsl : (den ρ (.sub la l hh)).toL.length = (den ρ hh).toInt.toNat - (den ρ l).toInt.toNat := by
          rw [hsub, List.length_take, List.length_drop]; omega
        cases hr with
        | snil e1 e2 =>
          rw [e1] at h2
          simp at h2
          have hz : (den ρ hh).toInt.toNat - (den ρ l).toInt.toNat = 0 := by omega
          refine ⟨_, hfin _ _ _ e2 (by rw [e1]; rfl) (Nat.zero_le _), ?_⟩
          rw [hz]
          exact Rd.snil (List.eq_nil_of_length_eq_zero (by rw [hsl, hz])) rfl
        | slice e1 e2 e3 e0 e4 e5 e6 =>
          rename_i b o' len cap ts' g
          rw [hts] at e2; cases e2
          refine ⟨_, hfin _ _ _ e1 e3 e0, ?_⟩
          by_cases hz : (den ρ hh).toInt.toNat - (den ρ l).toInt.toNat = 0
          · rw [hz]
            exact Rd.snil (List.eq_nil_of_length_eq_zero (by rw [hsl, hz])) rfl
          · rw [if_neg (by omega)]
            refine Rd.slice (b := b) (o := o' + (den ρ l).toInt.toNat * n) (len := (den ρ hh).toInt.toNat - (den ρ l).toInt.toNat) (cap := cap - (den ρ l).toInt.toNat) (g := fun i c => g ((den ρ l).toInt.toNat + i) c) ?_ hts hsl.symm (by omega) e4 ?_ ?_
            · simp [addr_add]
            · intro i c hi hc
              rw [hsl] at hi
              have := e5 ((den ρ l).toInt.toNat + i) c (by omega) hc
              rw [Nat.add_mul, ← Nat.add_assoc] at this
              rw [← hlen]
              exact this
            · intro i c x t hx ht
              rw [hsub, List.getElem?_take] at hx
              split at hx
              · rw [List.getElem?_drop] at hx
                exact e6 _ c x t hx ht
              · cases hx
      · cases h
    · cases h
  · rename_i la hu hx
    split at h
    · rename_i l hh hl hhi
      simp at h; obtain ⟨rfl, rfl, rfl⟩ := h
      have hr := (opC_sound hs hx).str_inv
      have h0 : (0 : Int) ≤ (den ρ l).toInt := of_decide_eq_true (hes (.cmp .leq (.int 0) l) (by simp))
      have h1 : (den ρ l).toInt ≤ (den ρ hh).toInt := of_decide_eq_true (hes (.cmp .leq l hh) (by simp))
      have h2 : (den ρ hh).toInt ≤ ((den ρ la).toStr.size : Int) := of_decide_eq_true (hes (.cmp .leq hh (.slen la)) (by simp))
      have := run_bounds (P := X.P) hs hl hhi (len := (den ρ la).toStr.size) (cap := (den ρ la).toStr.size) rfl h0 h1 h2 (Nat.le_refl _) false
      refine ⟨.string ((den ρ la).toStr.extract (den ρ l).toInt.toNat (den ρ hh).toInt.toNat), ?_, Rd.str rfl⟩
      simp only [execOp, ho, Instr.sliceAt, Sem.run_bind, run_und hu, Result.andThen_ok, Instr.slice, hr, this, Sem.run_pure, Option.map_none, Option.isSome_none, Bool.false_eq_true, if_false]
    · cases h
  · cases h
theorem came_mm (hs : Sat X ρ st F β a w) {o : Oper} {mx : Bool} {x y : Operand} {c : Call} (ho : o.op = .call c) (h1 : c.callee = .builtin (if mx then .max else .min)) (h2 : c.args = #[x, y]) {es : List E} {sv : SV} {nb : Option Box} (h : evMM st mx x y = some (es, sv, nb)) (nn : Nat) :
    Came X.P w F ρ β nn sv nb ((execOp a.eval o).run X.P w) := by
  unfold evMM at h
  split at h
  · rename_i k la k' lb hx hy
    split at h
    · rename_i hk
      subst hk
      simp [ev1] at h; obtain ⟨rfl, rfl, rfl⟩ := h
      have e1 := (opC_sound hs hx).int_inv
      have e2 := (opC_sound hs hy).int_inv
      obtain ⟨c1, c2, c3⟩ := c
      simp only at h1 h2
      subst h1 h2
      cases mx
      · refine ⟨.int k (if (den ρ lb).toInt < (den ρ la).toInt then (den ρ lb).toInt else (den ρ la).toInt), ?_, Rd.int ?_⟩
        · simp [execOp, ho, resolve, invoke, builtin, Builtin.min_, Builtin.min2, e1, e2]
        · rw [den_mkIte, den_mkCmp]
          simp only [cmpF, D.toBool_bool]
          by_cases hlt : (den ρ lb).toInt < (den ρ la).toInt <;> simp [hlt]
      · refine ⟨.int k (if (den ρ lb).toInt > (den ρ la).toInt then (den ρ lb).toInt else (den ρ la).toInt), ?_, Rd.int ?_⟩
        · simp [execOp, ho, resolve, invoke, builtin, Builtin.max_, Builtin.max2, e1, e2]
        · rw [den_mkIte, den_mkCmp]
          simp only [cmpF, D.toBool_bool]
          by_cases hlt : (den ρ lb).toInt > (den ρ la).toInt <;> simp [hlt]
    · cases h
  · cases h
theorem evV_sound (hb : ∀ n, (β n).oneCell' = true) (hs : Sat X ρ st F β a w) {o : Oper} {ty : TypeId} {es : List E} {sv : SV} {nb : Option Box} (h : evV X.P st o.op ty = some (es, sv, nb)) (hes : ∀ e ∈ es, (den ρ e).toBool = true) :
    Came X.P w F ρ β st.nn sv nb ((execOp a.eval o).run X.P w) := by
  unfold evV at h
  split at h <;> rename_i ho
  · have := came_move hs h st.nn; simpa [execOp, ho] using this
  · have := came_move hs h st.nn; simpa [execOp, ho] using this
  · exact came_pick hs ho h _
  · split at h
    · cases h
    · exact came_alloc hs ho h
  · split at h
    · cases h
    · exact came_box hs hb ho h
  · exact came_build hb hs ho h _
  · exact came_load hs ho h hes
  · exact came_nil hs ho h hes _
  · exact came_bin hs ho h hes _
  · exact came_un hs ho h _
  · exact came_conv hs ho h _
  · exact came_mkif hs ho h _
  · exact came_slice hs ho h hes _
  · exact came_fieldAddr hs ho h hes _
  · exact came_field hs ho h _
  · exact came_indexAddr hs ho h hes _
  · exact came_index hs ho h hes _
  · exact came_extract hs ho h _
  · rename_i fn fs cs
    split at h
    · rename_i f h1 h2
      simp only [ev1, Option.some.injEq, Prod.mk.injEq] at h
      obtain ⟨rfl, rfl, rfl⟩ := h
      have e1 : fs = #[] := by rw [← Array.toList_inj, h1]
      have e2 : cs = #[] := by rw [← Array.toList_inj, h2]
      subst e1 e2
      refine ⟨.func (.func f) #[] #[], ?_, ?_⟩
      · simp [execOp, ho, Instr.makeFunc]
      · rfl
    · cases h
  · rename_i c
    split at h
    · rename_i x t h1 h2 h3
      have e2 : c.args = #[x] := by rw [← Array.toList_inj, h2]
      have e3 : c.argTypes = #[t] := by rw [← Array.toList_inj, h3]
      exact came_len hs (by rw [ho]; obtain ⟨c1, c2, c3⟩ := c; simp only at h1 e2 e3; rw [h1, e2, e3]) h _
    · rename_i x y h1 h2
      exact came_mm (mx := true) hs ho h1 (by rw [← Array.toList_inj, h2]) h _
    · rename_i x y h1 h2
      exact came_mm (mx := false) hs ho h1 (by rw [← Array.toList_inj, h2]) h _
    · cases h
  · cases h
end
end Go.Proofs.Ytofkbhilhgmnlaa.Eng
