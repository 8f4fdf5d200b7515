/-
  A reader of Go functions, part F: structs built and held against each other, addresses; all operations together.
-/
import Derived.Test.YtobacchojjfpfaaGreatDoorEngE
import Derived.Laws.Tables
import Derived.Laws.StructEq
import Derived.ChangeKeysEq
namespace Go.Proofs.YtobacchojjfpfaaGreatDoor.Eng
set_option linter.unusedVariables false
set_option linter.unusedSimpArgs false

section
variable {P : Program} {w : World} {F : Fr} {ρ : List D} {β : Nat → Value}
variable {X : Cx} {st : St} {a : Act}

theorem places_mapM : ∀ {fs : List Field} {ps : List (Nat × Nat)}, placesL P fs = some ps → fs.mapM (fun f => (P.info? f.type).map fun i => (f.offset, i.size)) = some ps
  | [], ps, h => by simp [placesL] at h; subst h; rfl
  | f :: fs, ps, h => by
    simp only [placesL] at h
    split at h
    · rename_i n l h1 h2
      simp at h; subst h
      have h1' : (P.info? f.type).map (·.size) = some n := h1
      have h3 := places_mapM h2
      cases hi : P.info? f.type with
      | none => simp [hi] at h1'
      | some i =>
        simp [hi] at h1'
        simp [List.mapM_cons, hi, h3, h1']
    · cases h
theorem put_sound : ∀ {xs : List C} {ys : List Value} (cs : List C) (vs : List Value) (off k : Nat), RCL P w F ρ β xs ys → RCL P w F ρ β cs vs →
    RCL P w F ρ β (putCells cs (off + k) xs) ((ys.zipIdx k).foldl (fun acc p => acc.setIfInBounds (off + p.2) p.1) vs.toArray).toList
  | [], ys, cs, vs, off, k, hx, h => by
    have : ys = [] := List.eq_nil_of_length_eq_zero hx.1.symm
    subst this
    simpa [putCells] using h
  | x :: xs, [], cs, vs, off, k, hx, h => by have := hx.1; simp at this
  | x :: xs, y :: ys, cs, vs, off, k, hx, h => by
    simp only [putCells, List.zipIdx_cons, List.foldl_cons, List.setIfInBounds_toArray]
    exact put_sound (cs.set (off + k) x) (vs.set (off + k) y) off (k + 1) ⟨by have := hx.1; simpa using this, fun i c v h1 h2 => hx.2 (i + 1) c v h1 h2⟩ (h.set _ (hx.2 0 x y rfl rfl))
theorem fill_sound (hb : ∀ n, (β n).oneCell' = true) (hs : Sat X ρ st F β a w) (place : Nat → Option (Nat × Nat)) : ∀ {parts : List (Nat × Operand)} {svs : List (Nat × SV)} {cs cs' : List C} {vs : List Value}, opVs st parts = some svs → fillC place cs svs = some cs' →
    RCL X.P w F ρ β cs vs → ∃ vs' : List Value, Instr.fill place vs.toArray (parts.map fun (p : Nat × Operand) => (p.1, a.eval p.2)) = some vs'.toArray ∧ RCL X.P w F ρ β cs' vs'
  | [], svs, cs, cs', vs, ho, h, hr => by
    simp [opVs] at ho; subst ho
    simp [fillC] at h; subst h
    exact ⟨vs, rfl, hr⟩
  | (i, x) :: rest, svs, cs, cs', vs, ho, h, hr => by
    simp only [opVs] at ho
    split at ho
    · rename_i v svs' hv hrest
      simp at ho; subst ho
      simp only [fillC] at h
      split at h
      · rename_i off n xs hp hxs
        split at h
        · rename_i hle
          obtain ⟨hlen, hle⟩ := hle
          obtain ⟨ys, hy1, hy2⟩ := (opV_sound hs hv).cells hxs hb
          have hput := put_sound cs vs off 0 hy2 hr
          rw [Nat.add_zero] at hput
          obtain ⟨vs', h1, h2⟩ := fill_sound hb hs place hrest h hput
          refine ⟨vs', ?_, h2⟩
          simp only [List.map_cons, Instr.fill, hp, hy1]
          have hsz : ys.length = n := by rw [← hy2.1]; exact hlen
          have hc : ¬ (ys.toArray.size ≠ n ∨ off + ys.toArray.size > vs.toArray.size) := by
            simp only [List.size_toArray, hsz, ← hr.1]; omega
          rw [if_neg (by simpa using hc)]
          simp only [Array.zipIdx_toArray] at *
          simpa using h1
        · cases h
      · cases h
    · cases ho
theorem came_build (hb : ∀ n, (β n).oneCell' = true) (hs : Sat X ρ st F β a w) {o : Oper} {t : TypeId} {parts : Array (Nat × Operand)} (ho : o.op = .build t parts) {es : List E} {sv : SV} {nb : Option Box} (h : evBuild X.P st t parts = some (es, sv, nb)) (nn : Nat) :
    Came X.P w F ρ β nn sv nb ((execOp a.eval o).run X.P w) := by
  unfold evBuild at h
  split at h
  · rename_i zs vs fs hz hv hu
    split at h
    · rename_i ps hps
      obtain ⟨cs, hf, e⟩ := map_one h
      cases e
      obtain ⟨z, hz1, hz2⟩ := zeroCs_sound (w := w) (F := F) (ρ := ρ) (β := β) hz
      obtain ⟨vs', h1, h2⟩ := fill_sound hb hs (ps[·]?) hv hf hz2
      cases hi : X.P.info? t with
      | none => simp [hi] at hz1
      | some it =>
        simp [hi] at hz1
        refine ⟨.agg vs'.toArray, ?_, vs', rfl, h2⟩
        have hbuilt : X.P.built t (parts.map fun (i, x) => (i, a.eval x)).toList = some vs'.toArray := by
          unfold Program.built
          simp only [hi, hu, hz1, places_mapM hps]
          rw [Array.toList_map]
          simpa using h1
        simp only [execOp, ho, Sem.run_bind, run_build w t _ _ hbuilt, Result.andThen_ok, Sem.run_pure]
    · cases h
  · rename_i zs vs me e hz hv hu
    split at h
    · rename_i n hn
      obtain ⟨cs, hf, e⟩ := map_one h
      cases e
      obtain ⟨z, hz1, hz2⟩ := zeroCs_sound (w := w) (F := F) (ρ := ρ) (β := β) hz
      obtain ⟨vs', h1, h2⟩ := fill_sound hb hs (fun i => some (i * n, n)) hv hf hz2
      cases hi : X.P.info? t with
      | none => simp [hi] at hz1
      | some it =>
        simp [hi] at hz1
        unfold szOf at hn
        cases hie : X.P.info? e with
        | none => simp [hie] at hn
        | some ie =>
          simp [hie] at hn
          refine ⟨.agg vs'.toArray, ?_, vs', rfl, h2⟩
          have hbuilt : X.P.built t (parts.map fun (i, x) => (i, a.eval x)).toList = some vs'.toArray := by
            unfold Program.built
            simp only [hi, hu, hz1, hie, hn]
            rw [Array.toList_map]
            simpa using h1
          simp only [execOp, ho, Sem.run_bind, run_build w t _ _ hbuilt, Result.andThen_ok, Sem.run_pure]
    · cases h
  · cases h
theorem eqC_sound {c d : C} {e : E} (h : eqC c d = some e) {u v : Value} (hu : RC P w F ρ β c u) (hv : RC P w F ρ β d v) {t : TypeId} (n : Nat)
    (ht : scT c (P.underlying t) = true) : (Op.equalIn (n + 1) t u v).run P w = .ok (den ρ e).toBool w ∧ aggB P t = some false := by
  cases c <;> cases d <;> try (simp [eqC] at h; done)
  rename_i t1 x t2 y
  cases t1 <;> cases t2 <;> try (simp [eqC] at h; done)
  · rename_i k k'
    simp only [eqC] at h
    split at h
    · rename_i hk
      subst hk
      simp at h; subst h
      have e1 := hu.int_inv; have e2 := hv.int_inv
      subst e1 e2
      cases hun : P.underlying t with
      | none => simp [scT, hun] at ht
      | some td =>
        cases td <;> try (simp [scT, hun] at ht; done)
        exact ⟨by rw [eqIn_int hun, den_mkCmp]; rfl, by simp [aggB, hun]⟩
    · cases h
  · simp only [eqC, Option.some.injEq] at h
    subst h
    have e1 := hu.bool_inv; have e2 := hv.bool_inv
    subst e1 e2
    cases hun : P.underlying t with
    | none => simp [scT, hun] at ht
    | some td =>
      cases td <;> try (simp [scT, hun] at ht; done)
      exact ⟨by rw [eqIn_bool hun, den_mkBeq]; rfl, by simp [aggB, hun]⟩
  · simp only [eqC, Option.some.injEq] at h
    subst h
    have e1 := hu.str_inv; have e2 := hv.str_inv
    subst e1 e2
    cases hun : P.underlying t with
    | none => simp [scT, hun] at ht
    | some td =>
      cases td <;> try (simp [scT, hun] at ht; done)
      exact ⟨by rw [eqIn_str hun, beq_toListBytes]; rfl, by simp [aggB, hun]⟩
/-- A value of a type, by its cells. -/
def VOf (P : Program) (t : TypeId) (us : List Value) (v : Value) : Prop := (aggB P t = some true ∧ v = .agg us.toArray) ∨ (aggB P t = some false ∧ us = [v])
theorem eqT_agg {n : Nat} {t : TypeId} {cs ds : List C} {e : E} (h : eqT P n t cs ds = some e) : aggB P t = some true ∨ (aggB P t = some false ∧ cs.length = 1 ∧ ds.length = 1) := by
  cases n with
  | zero => simp [eqT] at h
  | succ n =>
    simp only [eqT] at h
    split at h
    · rename_i fs hu; exact .inl (by simp [aggB, hu])
    · rename_i k e' hu; exact .inl (by simp [aggB, hu])
    · rename_i h1 h2
      split at h
      · split at h
        · rename_i c d hs
          refine .inr ⟨?_, rfl, rfl⟩
          cases hu : P.underlying t with
          | none => rw [hu] at hs; simp [scT] at hs
          | some td =>
            cases td <;> first
              | (simp [aggB, hu]; done)
              | (rename_i fs; exact absurd hu (h1 fs))
              | (rename_i k e'; exact absurd hu (h2 k e'))
        · cases h
      · cases h
theorem part_at {t : TypeId} {m : Nat} {pre us : List Value} (hm : szOf P t = some m) (hle : m ≤ us.length) (ha : aggB P t = some true ∨ (aggB P t = some false ∧ (us.take m).length = 1)) :
    ∃ v, (part t (pre ++ us).toArray pre.length).run P w = .ok v w ∧ VOf P t (us.take m) v := by
  rcases ha with ha | ⟨ha, h1⟩
  · refine ⟨.agg (us.take m).toArray, ?_, .inl ⟨ha, rfl⟩⟩
    simp [part, run_aggB ha, run_szOf hm, List.extract_eq_take_drop]
  · have hm1 : m = 1 := by simp at h1; omega
    subst hm1
    cases us with
    | nil => simp at hle
    | cons u us => exact ⟨u, by simp [part, run_aggB ha], .inr ⟨ha, by simp⟩⟩
theorem eqFs_sound {g : TypeId → List C → List C → Option E} {k : Nat} (hg : ∀ {t : TypeId} {cs ds : List C} {e : E} {us vs : List Value} {u v : Value}, g t cs ds = some e → RCL P w F ρ β cs us → RCL P w F ρ β ds vs → VOf P t us u → VOf P t vs v → (Op.equalIn k t u v).run P w = .ok (den ρ e).toBool w)
    (ha : ∀ {t : TypeId} {cs ds : List C} {e : E}, g t cs ds = some e → aggB P t = some true ∨ (aggB P t = some false ∧ cs.length = 1 ∧ ds.length = 1)) :
    ∀ (fs : List Field) {cs ds : List C} {us vs : List Value} {e : E} (pre1 pre2 : List Value) (n : Nat), eqFs P g fs n cs ds = some e → RCL P w F ρ β cs us → RCL P w F ρ β ds vs → pre1.length = n → pre2.length = n →
    (Op.eqFields k (pre1 ++ us).toArray (pre2 ++ vs).toArray fs).run P w = .ok (den ρ e).toBool w
  | [], cs, ds, us, vs, e, pre1, pre2, n, he, hu, hv, h1, h2 => by
    cases cs with
    | nil => cases ds with
      | nil => simp [eqFs] at he; subst he; simp [Op.eqFields, den]
      | cons d ds => simp [eqFs] at he
    | cons c cs => simp [eqFs] at he
  | f :: fs, cs, ds, us, vs, e, pre1, pre2, n, he, hu, hv, h1, h2 => by
    simp only [eqFs] at he
    split at he
    · rename_i m hm
      split at he
      · rename_i hc
        simp only [Bool.and_eq_true, decide_eq_true_eq] at hc
        obtain ⟨⟨⟨hn, ho⟩, hl1⟩, hl2⟩ := hc
        split at he
        · rename_i e1 e2 he1 he2
          simp at he; subst he
          have hoff : f.offset = n := by simpa using ho
          have lu : m ≤ us.length := by rw [← hu.1]; exact hl1
          have lv : m ≤ vs.length := by rw [← hv.1]; exact hl2
          have hag := ha he1
          obtain ⟨u, p1, q1⟩ := part_at (P := P) (w := w) (pre := pre1) hm lu (by
            rcases hag with hag | ⟨hag, l1, l2⟩
            · exact .inl hag
            · exact .inr ⟨hag, by rw [List.length_take] at l1 ⊢; omega⟩)
          obtain ⟨v, p2, q2⟩ := part_at (P := P) (w := w) (pre := pre2) hm lv (by
            rcases hag with hag | ⟨hag, l1, l2⟩
            · exact .inl hag
            · exact .inr ⟨hag, by rw [List.length_take] at l2 ⊢; omega⟩)
          have q := hg he1 (hu.take m) (hv.take m) q1 q2
          have hne : (f.name ≠ "_") := by simpa using hn
          have ih := eqFs_sound hg ha fs (pre1 ++ us.take m) (pre2 ++ vs.take m) (n + m) he2 (hu.drop m) (hv.drop m) (by simp [h1]; omega) (by simp [h2]; omega)
          simp only [List.append_assoc, List.take_append_drop] at ih
          rw [den_mkAnd]
          simp only [Op.eqFields]
          rw [if_pos hne]
          rw [hoff]
          rw [h1] at p1
          rw [h2] at p2
          simp only [Sem.run_bind, p1, p2, q, Result.andThen_ok]
          cases hb : (den ρ e1).toBool
          · simp
          · simp [ih]
        · cases he
      · cases he
    · cases he
theorem eqIs_sound {g : List C → List C → Option E} {k : Nat} {t : TypeId} {m : Nat} (hm : szOf P t = some m) (hg : ∀ {cs ds : List C} {e : E} {us vs : List Value} {u v : Value}, g cs ds = some e → RCL P w F ρ β cs us → RCL P w F ρ β ds vs → VOf P t us u → VOf P t vs v → (Op.equalIn k t u v).run P w = .ok (den ρ e).toBool w)
    (ha : ∀ {cs ds : List C} {e : E}, g cs ds = some e → aggB P t = some true ∨ (aggB P t = some false ∧ cs.length = 1 ∧ ds.length = 1)) :
    ∀ (c : Nat) {cs ds : List C} {us vs : List Value} {e : E} (pre1 pre2 : List Value) (i : Nat), eqIs g m c cs ds = some e → RCL P w F ρ β cs us → RCL P w F ρ β ds vs → pre1.length = i * m → pre2.length = i * m →
    (Op.eqItems k t m (pre1 ++ us).toArray (pre2 ++ vs).toArray (List.range' i c)).run P w = .ok (den ρ e).toBool w
  | 0, cs, ds, us, vs, e, pre1, pre2, i, he, hu, hv, h1, h2 => by
    cases cs with
    | nil => cases ds with
      | nil => simp [eqIs] at he; subst he; simp [Op.eqItems, den]
      | cons d ds => simp [eqIs] at he
    | cons c cs => simp [eqIs] at he
  | c + 1, cs, ds, us, vs, e, pre1, pre2, i, he, hu, hv, h1, h2 => by
    simp only [eqIs] at he
    split at he
    · rename_i hl
      obtain ⟨hl1, hl2⟩ := hl
      split at he
      · rename_i e1 e2 he1 he2
        simp at he; subst he
        have lu : m ≤ us.length := by rw [← hu.1]; exact hl1
        have lv : m ≤ vs.length := by rw [← hv.1]; exact hl2
        have hag := ha he1
        obtain ⟨u, p1, q1⟩ := part_at (P := P) (w := w) (pre := pre1) hm lu (by
          rcases hag with hag | ⟨hag, l1, l2⟩
          · exact .inl hag
          · exact .inr ⟨hag, by rw [List.length_take] at l1 ⊢; omega⟩)
        obtain ⟨v, p2, q2⟩ := part_at (P := P) (w := w) (pre := pre2) hm lv (by
          rcases hag with hag | ⟨hag, l1, l2⟩
          · exact .inl hag
          · exact .inr ⟨hag, by rw [List.length_take] at l2 ⊢; omega⟩)
        have q := hg he1 (hu.take m) (hv.take m) q1 q2
        have ih := eqIs_sound hm hg ha c (pre1 ++ us.take m) (pre2 ++ vs.take m) (i + 1) he2 (hu.drop m) (hv.drop m) (by simp [h1, Nat.succ_mul]; omega) (by simp [h2, Nat.succ_mul]; omega)
        simp only [List.append_assoc, List.take_append_drop] at ih
        rw [den_mkAnd]
        rw [List.range'_succ]
        simp only [Op.eqItems]
        rw [h1] at p1
        rw [h2] at p2
        simp only [Sem.run_bind, p1, p2, q, Result.andThen_ok]
        cases hb : (den ρ e1).toBool
        · simp
        · simp [ih]
      · cases he
    · cases he
theorem eqT_sound : ∀ (n k : Nat) {t : TypeId} {cs ds : List C} {e : E} {us vs : List Value} {u v : Value}, eqT P n t cs ds = some e → RCL P w F ρ β cs us → RCL P w F ρ β ds vs → VOf P t us u → VOf P t vs v → (Op.equalIn (n + k) t u v).run P w = .ok (den ρ e).toBool w
  | 0, k, t, cs, ds, e, us, vs, u, v, h, hu, hv, q1, q2 => by simp [eqT] at h
  | n + 1, k, t, cs, ds, e, us, vs, u, v, h, hu, hv, q1, q2 => by
    have hag := eqT_agg h
    rw [show n + 1 + k = (n + k) + 1 by omega]
    simp only [eqT] at h
    split at h
    · rename_i fs hun
      split at h
      · cases h
      rename_i hst
      have ha : aggB P t = some true := by simp [aggB, hun]
      obtain ⟨_, rfl⟩ : aggB P t = some true ∧ u = .agg us.toArray := by rcases q1 with q | q; exact q; rw [ha] at q; cases q.1
      obtain ⟨_, rfl⟩ : aggB P t = some true ∧ v = .agg vs.toArray := by rcases q2 with q | q; exact q; rw [ha] at q; cases q.1
      have hfo : P.fieldsOf t = fs := by simp [Program.fieldsOf, hun]
      have hfs : P.underlying t = some (.struct (P.fieldsOf t)) := by rw [hfo]; exact hun
      rw [run_equalIn_struct w (n + k) t _ _ hfs (by simpa using hst), hfo]
      exact eqFs_sound (fun a b c d e => eqT_sound n k a b c d e) (fun a => eqT_agg a) fs.toList [] [] 0 h hu hv rfl rfl
    · rename_i c e' hun
      split at h
      · rename_i m hm
        have ha : aggB P t = some true := by simp [aggB, hun]
        obtain ⟨_, rfl⟩ : aggB P t = some true ∧ u = .agg us.toArray := by rcases q1 with q | q; exact q; rw [ha] at q; cases q.1
        obtain ⟨_, rfl⟩ : aggB P t = some true ∧ v = .agg vs.toArray := by rcases q2 with q | q; exact q; rw [ha] at q; cases q.1
        obtain ⟨i, hi, hsz⟩ : ∃ i, P.info? e' = some i ∧ i.size = m := by simpa [szOf] using hm
        rw [run_equalIn_array w (n + k) _ _ hun hi, List.range_eq_range']
        have hce : P.cellsOf e' = m := by simp [Program.cellsOf, hi, hsz]
        rw [hce]
        exact eqIs_sound hm (fun a b c d e => eqT_sound n k a b c d e) (fun a => eqT_agg a) c [] [] 0 h hu hv (by simp) (by simp)
      · cases h
    · rename_i h1 h2
      split at h
      · rename_i c d
        split at h
        · rename_i hs
          obtain ⟨e1, e2⟩ := eqC_sound h (u := us.headD undef) (v := vs.headD undef) (hu.2 0 c _ rfl (by have := hu.1; cases us with | nil => simp at this | cons x us => rfl)) (hv.2 0 d _ rfl (by have := hv.1; cases vs with | nil => simp at this | cons x us => rfl)) (t := t) (n + k) hs
          obtain ⟨_, rfl⟩ : aggB P t = some false ∧ us = [u] := by rcases q1 with q | q; (rw [e2] at q; cases q.1); exact q
          obtain ⟨_, rfl⟩ : aggB P t = some false ∧ vs = [v] := by rcases q2 with q | q; (rw [e2] at q; cases q.1); exact q
          exact e1
        · cases h
      · cases h
theorem came_bin (hs : Sat X ρ st F β a w) {o : Oper} {op : BinOp} {t yt : TypeId} {x y : Operand} (ho : o.op = .binOp op t x y yt) {es : List E} {sv : SV} {nb : Option Box} (h : evBin X.P st op t x y = some (es, sv, nb))
    (hes : ∀ e ∈ es, (den ρ e).toBool = true) (nn : Nat) : Came X.P w F ρ β nn sv nb ((execOp a.eval o).run X.P w) := by
  unfold evBin at h
  split at h
  · rename_i ca cb hx hy
    have h1 : RC X.P w F ρ β ca (a.eval x) := opV_sound hs hx
    have h2 : RC X.P w F ρ β cb (a.eval y) := opV_sound hs hy
    split at h
    · rename_i u v
      split at h
      · rename_i hc
        obtain ⟨⟨es', c⟩, hb, e⟩ := map_one h
        cases e
        obtain ⟨r, hr1, hr2⟩ := bin_sound hb h1 h2 hes (x := x) (y := y) (fun _ _ => hc)
        refine ⟨r, ?_, hr2⟩
        simp only [execOp, ho]
        rw [Sem.run_bind, hr1]
        rfl
      · cases h
    · rename_i hne
      obtain ⟨⟨es', c⟩, hb, e⟩ := map_one h
      cases e
      obtain ⟨r, hr1, hr2⟩ := bin_sound hb h1 h2 hes (x := x) (y := y) (fun e he => by
        exfalso
        subst he
        unfold bin at hb
        split at hb <;> first | (rename_i heq; cases heq; done) | skip
        all_goals first | (rename_i h1 _ heq; cases heq; done) | skip
        · rename_i heq; cases heq; exact hne _ _ rfl rfl
        · cases hb)
      refine ⟨r, ?_, hr2⟩
      simp only [execOp, ho]
      rw [Sem.run_bind, hr1]
      rfl
  · rename_i cs ds hx hy
    split at h
    · rename_i hc
      obtain ⟨hag, hg⟩ := hc
      obtain ⟨us, e1, hus⟩ := opV_sound hs hx
      obtain ⟨vs, e2, hvs⟩ := opV_sound hs hy
      split at h
      · rename_i e he
        simp at h; obtain ⟨rfl, rfl, rfl⟩ := h
        have := eqT_sound 8 9992 he hus hvs (.inl ⟨hag, rfl⟩) (.inl ⟨hag, rfl⟩)
        refine ⟨.bool (den ρ e).toBool, ?_, Rd.bool rfl⟩
        simp only [execOp, ho, e1, e2, Sem.run_bind, run_eqGuard_agg w _ _ _ _ _ _ hg, Result.andThen_ok, run_eql_struct]
        rw [this]
        rfl
      · rename_i e he
        simp at h; obtain ⟨rfl, rfl, rfl⟩ := h
        have := eqT_sound 8 9992 he hus hvs (.inl ⟨hag, rfl⟩) (.inl ⟨hag, rfl⟩)
        refine ⟨.bool (!(den ρ e).toBool), ?_, Rd.bool (by rw [den_mkNot])⟩
        simp only [execOp, ho, e1, e2, Sem.run_bind, run_eqGuard_agg w _ _ _ _ _ _ hg, Result.andThen_ok, run_neq_struct]
        rw [this]
        rfl
      · cases h
    · cases h
  · cases h
theorem came_nil (hs : Sat X ρ st F β a w) {o : Oper} {x : Operand} (ho : o.op = .nilCheck x) {es : List E} {sv : SV} {nb : Option Box} (h : evNilCheck st x = some (es, sv, nb)) (hes : ∀ e ∈ es, (den ρ e).toBool = true) (nn : Nat) :
    Came X.P w F ρ β nn sv nb ((execOp a.eval o).run X.P w) := by
  unfold evNilCheck at h
  split at h
  · rename_i n off hx
    simp [ev1] at h; obtain ⟨rfl, rfl, rfl⟩ := h
    have hr := opC_sound hs hx
    obtain ⟨b, h1, h2⟩ := hr
    exact ⟨_, by simp [execOp, ho, h2], b, h1, rfl⟩
  · rename_i t a' c hx
    simp [ev1] at h; obtain ⟨rfl, rfl, rfl⟩ := h
    have hr := opC_sound hs hx
    obtain ⟨n, b, h1, h2, h3, h4⟩ := hr
    exact ⟨_, by simp [execOp, ho, h4], n, b, h1, h2, h3, rfl⟩
  · rename_i n t i c hx
    simp [ev1] at h; obtain ⟨rfl, rfl, rfl⟩ := h
    have hr := opC_sound hs hx
    obtain ⟨b, o', len, cap, ts, h1, h2, h3, h4, h5⟩ := hr
    exact ⟨_, by simp [execOp, ho, h5], b, o', len, cap, ts, h1, h2, h3, h4, rfl⟩
  · rename_i t a' i c hx
    simp [ev1] at h; obtain ⟨rfl, rfl, rfl⟩ := h
    have hr := opC_sound hs hx
    obtain ⟨b, o', len, cap, ts, h1, h2, h3, h4, h5⟩ := hr
    exact ⟨_, by simp [execOp, ho, h5], b, o', len, cap, ts, h1, h2, h3, h4, rfl⟩
  · rename_i e la hx
    have hr := opC_sound hs hx
    have hr' : Rd X.P w F (.ptr e) (den ρ la) (a.eval x) := hr
    split at h
    · rename_i hcl
      simp at h; obtain ⟨rfl, rfl, rfl⟩ := h
      have hn := hes _ (List.mem_singleton.2 rfl)
      rw [den_mkNot, den_mkIsnil] at hn
      cases hr' with
      | pnil e1 e2 => rw [e1] at hn; simp at hn
      | href e0 e1 e2 e3 =>
        rename_i n b
        exact ⟨_, by simp [execOp, ho, e3], n, b, e0, e1, e2, rfl⟩
      | ptr e0 e1 e2 e3 e4 e5 e6 e7 =>
        rw [hs.cf.2, hcl] at e0; cases e0
    · rename_i hcl
      simp at h; obtain ⟨rfl, rfl, rfl⟩ := h
      have hn := hes _ (List.mem_singleton.2 rfl)
      rw [den_mkNot, den_mkIsnil] at hn
      cases hr' with
      | pnil e1 e2 => rw [e1] at hn; simp at hn
      | href e0 e1 e2 e3 => rw [hs.cf.2] at e0; exact absurd e0 hcl
      | ptr e0 e1 e2 e3 e4 e5 e6 e7 =>
        rename_i b o' l ts g
        exact ⟨_, by simp [execOp, ho, e2]; rfl, b, o', by rw [← e2]; exact hr, by simp [e2]⟩
  · cases h
theorem came_indexAddr (hs : Sat X ρ st F β a w) {o : Oper} {t : TypeId} {x i : Operand} (ho : o.op = .indexAddr t x i) {es : List E} {sv : SV} {nb : Option Box} (h : evIndexAddr X.P st t x i = some (es, sv, nb)) (hes : ∀ e ∈ es, (den ρ e).toBool = true) (nn : Nat) :
    Came X.P w F ρ β nn sv nb ((execOp a.eval o).run X.P w) := by
  unfold evIndexAddr at h
  split at h
  · rename_i e e' la k j hu hx hi
    split at h
    · rename_i hee
      subst hee
      split at h
      · rename_i ts n hts hn
        split at h
        · rename_i hlen
          simp at h; obtain ⟨rfl, rfl, rfl⟩ := h
          have hr : Rd X.P w F (.slice e) (den ρ la) (a.eval x) := opC_sound hs hx
          have hj := (opC_sound hs hi).int_inv
          have h0 := hes _ (List.mem_cons_self ..)
          have h1 := hes (.cmp .lss j (.len la)) (by simp)
          rw [den_mkCmp] at h0
          have h0' : (den ρ j).toInt ≥ 0 := of_decide_eq_true h0
          have h1' : (den ρ j).toInt < ((den ρ la).toL.length : Int) := of_decide_eq_true h1
          have hlt : (den ρ j).toInt.toNat < (den ρ la).toL.length := by omega
          have hr2 := hr
          cases hr with
          | snil e1 e2 => rw [e1] at hlt; simp at hlt
          | slice e1 e2 e3 e0 e4 e5 e6 =>
            rename_i b o' len cap ts' g
            rw [hts] at e2; cases e2
            refine ⟨.pointer (some ⟨b, o' + (den ρ j).toInt.toNat * ts.length + 0, none⟩), ?_, b, o', len, cap, ts, by rw [← e1]; exact hr2, hts, h0', hlt, rfl⟩
            have hb : 0 ≤ (den ρ j).toInt ∧ (den ρ j).toInt < (len : Int) := ⟨h0', by rw [e3]; exact h1'⟩
            simp only [execOp, ho, Instr.indexAt, hj, e1, asIntOf, Sem.run_bind, Sem.run_pure, Result.andThen_ok, run_und hu, hb, and_self, if_true, run_szOf hn, addr_add]
            rw [hlen]
            simp
        · cases h
      · cases h
    · cases h
  · rename_i e m k j hu hx hi
    split at h
    · rename_i e' y hb
      split at h
      · rename_i hee
        subst hee
        split at h
        · rename_i ts n hts hn
          split at h
          · rename_i hlen
            simp at h; obtain ⟨rfl, rfl, rfl⟩ := h
            have hv : a.eval x = β m := opC_sound hs hx
            have hj := (opC_sound hs hi).int_inv
            have h0 := hes _ (List.mem_cons_self ..)
            have h1 := hes (.cmp .lss j (.len y)) (by simp)
            rw [den_mkCmp] at h0
            have h0' : (den ρ j).toInt ≥ 0 := of_decide_eq_true h0
            have h1' : (den ρ j).toInt < ((den ρ y).toL.length : Int) := of_decide_eq_true h1
            obtain ⟨ts', xs, hts', ⟨_, hr⟩, _⟩ := rowOf_sound hs hb
            rcases hr with ⟨⟨A, hr⟩, hn'⟩ | ⟨g, cap, cur, hr, _, _, hcap0, _⟩
            · rw [hn'] at h1'; simp at h1'; omega
            · refine ⟨.pointer (some ⟨g, 0 + (den ρ j).toInt.toNat * ts.length + 0, none⟩), ?_, g, 0, _, cap, ts, hr, hts, h0', by omega, rfl⟩
              have hb : 0 ≤ (den ρ j).toInt ∧ (den ρ j).toInt < ((den ρ y).toL.length : Int) := ⟨h0', h1'⟩
              simp only [execOp, ho, Instr.indexAt, hj, hv, hr, asIntOf, Sem.run_bind, Sem.run_pure, Result.andThen_ok, run_und hu, hb, and_self, if_true, run_szOf hn, addr_add]
              rw [hlen]
              simp
          · cases h
        · cases h
      · cases h
    · cases h
  · rename_i e n len k j hu hx hi
    split at h
    · rename_i s hs'
      split at h
      · rename_i hj
        simp [ev1] at h; obtain ⟨rfl, rfl, rfl⟩ := h
        have hji := (opC_sound hs hi).int_inv
        obtain ⟨b, h1, h2⟩ := opC_sound hs hx
        refine ⟨.pointer (some ⟨b, 0 + j.toNat * s, none⟩), ?_, b, h1, by rw [Nat.zero_add]⟩
        simp [execOp, ho, Instr.indexAt, hji, h2, asIntOf, run_und hu, Instr.sureAddr, den, hj, run_szOf hs', addr_add]
      · cases h
    · cases h
  · rename_i m e t' a' off k j hu hx hi
    split at h
    · rename_i s hs'
      split at h
      · rename_i hj
        simp [ev1] at h; obtain ⟨rfl, rfl, rfl⟩ := h
        have hji := (opC_sound hs hi).int_inv
        obtain ⟨n, b, h1, h2, h3, h4⟩ := opC_sound hs hx
        refine ⟨.pointer (some ⟨b, off + j.toNat * s, none⟩), ?_, n, b, h1, h2, h3, rfl⟩
        simp [execOp, ho, Instr.indexAt, hji, h4, asIntOf, run_und hu, Instr.sureAddr, den, hj, run_szOf hs', addr_add]
      · cases h
    · cases h
  · rename_i m e n off k j hu hx hi
    split at h
    · rename_i s hs'
      split at h
      · rename_i hj
        simp [ev1] at h; obtain ⟨rfl, rfl, rfl⟩ := h
        have hji := (opC_sound hs hi).int_inv
        obtain ⟨b, h1, h2⟩ := opC_sound hs hx
        refine ⟨.pointer (some ⟨b, off + j.toNat * s, none⟩), ?_, b, h1, rfl⟩
        simp [execOp, ho, Instr.indexAt, hji, h2, asIntOf, run_und hu, Instr.sureAddr, den, hj, run_szOf hs', addr_add]
      · cases h
    · cases h
  · rename_i m e n t' kk off k j hu hx hi
    split at h
    · rename_i s hs'
      split at h
      · rename_i hj
        simp [ev1] at h; obtain ⟨rfl, rfl, rfl⟩ := h
        have hji := (opC_sound hs hi).int_inv
        obtain ⟨b, o', len, cap, ts, h1, h2, h3, h4, h5⟩ := opC_sound hs hx
        refine ⟨.pointer (some ⟨b, o' + (den ρ kk).toInt.toNat * ts.length + off + j.toNat * s, none⟩), ?_, b, o', len, cap, ts, h1, h2, h3, h4, by rw [← Nat.add_assoc]⟩
        simp [execOp, ho, Instr.indexAt, hji, h5, asIntOf, run_und hu, Instr.sureAddr, den, hj, run_szOf hs', addr_add]
      · cases h
    · cases h
  · rename_i m e t' la kk off k j hu hx hi
    split at h
    · rename_i hc
      obtain ⟨rfl, rfl, rfl⟩ := hc
      split at h
      · rename_i ts n hts hn
        split at h
        · rename_i hlen
          simp only [Option.some.injEq, Prod.mk.injEq] at h; obtain ⟨rfl, rfl, rfl⟩ := h
          have hj := (opC_sound hs hi).int_inv
          have h0 := hes _ (List.mem_cons_self ..)
          have h1 := hes (.cmp .lss j (.len la)) (by simp)
          have h2 := hes (.cmp .lss j (.int m)) (by simp)
          rw [den_mkCmp] at h0
          have h0' : (den ρ j).toInt ≥ 0 := of_decide_eq_true h0
          have h1' : (den ρ j).toInt < ((den ρ la).toL.length : Int) := of_decide_eq_true h1
          have h2' : (den ρ j).toInt < (m : Int) := of_decide_eq_true h2
          obtain ⟨b, o', len, cap, ts', g1, g2, g3, g4, g5⟩ := opC_sound hs hx
          rw [hts] at g2; cases g2
          refine ⟨.pointer (some ⟨b, o' + (den ρ j).toInt.toNat * ts.length + 0, none⟩), ?_, b, o', len, cap, ts, g1, hts, h0', by omega, rfl⟩
          simp [den] at g5
          simp [execOp, ho, Instr.indexAt, hj, g5, asIntOf, run_und hu, Instr.sureAddr, h0', h2', run_szOf hn, addr_add, hlen]
        · cases h
      · cases h
    · split at h
      · rename_i j s hs'
        split at h
        · rename_i hj
          simp [ev1] at h; obtain ⟨rfl, rfl, rfl⟩ := h
          have hji := (opC_sound hs hi).int_inv
          obtain ⟨b, o', len, cap, ts, h1, h2, h3, h4, h5⟩ := opC_sound hs hx
          refine ⟨.pointer (some ⟨b, o' + (den ρ kk).toInt.toNat * ts.length + off + j.toNat * s, none⟩), ?_, b, o', len, cap, ts, h1, h2, h3, h4, by rw [← Nat.add_assoc]⟩
          simp [execOp, ho, Instr.indexAt, hji, h5, asIntOf, run_und hu, Instr.sureAddr, den, hj, run_szOf hs', addr_add]
        · cases h
      · cases h
  · rename_i m e t' la off k j hu hx hi
    split at h
    · rename_i s hs'
      split at h
      · rename_i hj
        simp [ev1] at h; obtain ⟨rfl, rfl, rfl⟩ := h
        have hji := (opC_sound hs hi).int_inv
        obtain ⟨b, o', h1, h5⟩ := opC_sound hs hx
        refine ⟨.pointer (some ⟨b, o' + off + j.toNat * s, none⟩), ?_, b, o', h1, by rw [← Nat.add_assoc]⟩
        simp [execOp, ho, Instr.indexAt, hji, h5, asIntOf, run_und hu, Instr.sureAddr, den, hj, run_szOf hs', addr_add]
      · cases h
    · cases h
  · cases h
theorem came_index (hs : Sat X ρ st F β a w) {o : Oper} {t : TypeId} {x i : Operand} (ho : o.op = .index t x i) {es : List E} {sv : SV} {nb : Option Box} (h : evIndex X.P st t x i = some (es, sv, nb)) (hes : ∀ e ∈ es, (den ρ e).toBool = true) (nn : Nat) :
    Came X.P w F ρ β nn sv nb ((execOp a.eval o).run X.P w) := by
  unfold evIndex at h
  split at h
  · rename_i la k j hu hx hi
    simp at h; obtain ⟨rfl, rfl, rfl⟩ := h
    have hxv := (opC_sound hs hx).str_inv
    have hj := (opC_sound hs hi).int_inv
    have h0 := hes _ (List.mem_cons_self ..)
    have h1 := hes (.cmp .lss j (.slen la)) (by simp)
    rw [den_mkCmp] at h0
    have h0' : (den ρ j).toInt ≥ 0 := of_decide_eq_true h0
    have h1' : (den ρ j).toInt < ((den ρ la).toStr.size : Int) := of_decide_eq_true h1
    have hlt : (den ρ j).toInt.toNat < (den ρ la).toStr.size := by omega
    refine ⟨.int .u8 ((den ρ la).toStr[(den ρ j).toInt.toNat]).toNat, ?_, Rd.int ?_⟩
    · simp [execOp, ho, Instr.index, hxv, hj, asIntOf, run_und hu, h0', getElem?_pos, hlt]
    · simp only [den, D.toInt_int, Array.getD_eq_getD_getElem?]
      rw [Array.getElem?_eq_getElem (by simpa using hlt)]
      rfl
  · cases h
theorem run_bound {i : Value} {y : Nat} {code : BoundsCode} {k : IntKind} {n : Int} (hi : i = .int k n) (h0 : 0 ≤ n) (h1 : n ≤ y) : (Instr.sliceBound i y code).run P w = .ok n.toNat w := by
  subst hi
  simp [Instr.sliceBound, asIntOf, h0, h1]
theorem bounds_sound (hs : Sat X ρ st F β a w) {x : Option Operand} {d e : E} (h : boundsC st x d = some e) : (x = none ∧ e = d) ∨ ∃ y k, x = some y ∧ a.eval y = .int k (den ρ e).toInt := by
  unfold boundsC at h
  split at h
  · simp at h; exact .inl ⟨rfl, h.symm⟩
  · rename_i y
    split at h
    · rename_i k e' hc
      simp at h; subst h
      exact .inr ⟨y, k, rfl, (opC_sound hs hc).int_inv⟩
    · cases h
theorem run_bounds (hs : Sat X ρ st F β a w) {lo hi : Option Operand} {l h d : E} (hl : boundsC st lo (.int 0) = some l) (hh : boundsC st hi d = some h) {len cap : Nat} (hd : (den ρ d).toInt = len) (h0 : 0 ≤ (den ρ l).toInt) (h1 : (den ρ l).toInt ≤ (den ρ h).toInt) (h2 : (den ρ h).toInt ≤ len) (hc : len ≤ cap) (b : Bool) :
    (Instr.sliceBounds b len cap (lo.map a.eval) (hi.map a.eval) none).run P w = .ok ((den ρ l).toInt.toNat, (den ρ h).toInt.toNat, cap) w := by
  rcases bounds_sound hs hh with ⟨rfl, rfl⟩ | ⟨y, k, rfl, hy⟩ <;> rcases bounds_sound hs hl with ⟨rfl, rfl⟩ | ⟨y', k', rfl, hy'⟩
  · simp [Instr.sliceBounds, den, hd]
  · simp [Instr.sliceBounds, hd, run_bound hy' h0 (show (den ρ l).toInt ≤ ((len : Nat) : Int) by omega)]
  · simp [Instr.sliceBounds, den, run_bound hy (show 0 ≤ (den ρ h).toInt by omega) (show (den ρ h).toInt ≤ ((cap : Nat) : Int) by omega)]
  · simp [Instr.sliceBounds, run_bound hy (show 0 ≤ (den ρ h).toInt by omega) (show (den ρ h).toInt ≤ ((cap : Nat) : Int) by omega), run_bound hy' h0 (show (den ρ l).toInt ≤ (((den ρ h).toInt.toNat : Nat) : Int) by omega)]
theorem came_slice (hs : Sat X ρ st F β a w) {o : Oper} {t : TypeId} {x : Operand} {lo hi mx : Option Operand} (ho : o.op = .slice t x lo hi mx) {es : List E} {sv : SV} {nb : Option Box} (h : evSlice X.P st t x lo hi mx = some (es, sv, nb)) (hes : ∀ e ∈ es, (den ρ e).toBool = true) (nn : Nat) :
    Came X.P w F ρ β nn sv nb ((execOp a.eval o).run X.P w) := by
  unfold evSlice at h
  split at h
  · rename_i e e' la hu hx
    split at h
    · rename_i l hh ts n hl hhi hts hn
      split at h
      · rename_i hc
        obtain ⟨rfl, hlen⟩ := hc
        simp at h; obtain ⟨rfl, rfl, rfl⟩ := h
        have hr : Rd X.P w F (.slice e) (den ρ la) (a.eval x) := opC_sound hs hx
        have h0 : (0 : Int) ≤ (den ρ l).toInt := of_decide_eq_true (hes (.cmp .leq (.int 0) l) (by simp))
        have h1 : (den ρ l).toInt ≤ (den ρ hh).toInt := of_decide_eq_true (hes (.cmp .leq l hh) (by simp))
        have h2 : (den ρ hh).toInt ≤ ((den ρ la).toL.length : Int) := of_decide_eq_true (hes (.cmp .leq hh (.len la)) (by simp))
        have hfin : ∀ A len cap, a.eval x = .slice A len cap → len = (den ρ la).toL.length → len ≤ cap → (execOp a.eval o).run X.P w = .ok (.value (.slice (if cap = (den ρ l).toInt.toNat then A else A.map (·.add ((den ρ l).toInt.toNat * n))) ((den ρ hh).toInt.toNat - (den ρ l).toInt.toNat) (cap - (den ρ l).toInt.toNat))) w := by
          intro A len cap e1 e2 e3
          subst e2
          have := run_bounds (P := X.P) hs hl hhi (len := (den ρ la).toL.length) (cap := cap) rfl h0 h1 h2 e3 true
          simp only [execOp, ho, Instr.sliceAt, Sem.run_bind, run_und hu, Result.andThen_ok, Instr.slice, e1, this, run_szOf hn, Sem.run_pure, Option.map_none]
        have hsub : (den ρ (.sub la l hh)).toL = ((den ρ la).toL.drop (den ρ l).toInt.toNat).take ((den ρ hh).toInt.toNat - (den ρ l).toInt.toNat) := rfl
        have hsl : (den ρ (.sub la l hh)).toL.length = (den ρ hh).toInt.toNat - (den ρ l).toInt.toNat := by
          rw [hsub, List.length_take, List.length_drop]; omega
        cases hr with
        | snil e1 e2 =>
          rw [e1] at h2
          simp at h2
          have hz : (den ρ hh).toInt.toNat - (den ρ l).toInt.toNat = 0 := by omega
          refine ⟨_, hfin _ _ _ e2 (by rw [e1]; rfl) (Nat.zero_le _), ?_⟩
          rw [hz]
          exact Rd.snil (List.eq_nil_of_length_eq_zero (by rw [hsl, hz])) rfl
        | slice e1 e2 e3 e0 e4 e5 e6 =>
          rename_i b o' len cap ts' g
          rw [hts] at e2; cases e2
          refine ⟨_, hfin _ _ _ e1 e3 e0, ?_⟩
          by_cases hz : (den ρ hh).toInt.toNat - (den ρ l).toInt.toNat = 0
          · rw [hz]
            exact Rd.snil (List.eq_nil_of_length_eq_zero (by rw [hsl, hz])) rfl
          · rw [if_neg (by omega)]
            refine Rd.slice (b := b) (o := o' + (den ρ l).toInt.toNat * n) (len := (den ρ hh).toInt.toNat - (den ρ l).toInt.toNat) (cap := cap - (den ρ l).toInt.toNat) (g := fun i c => g ((den ρ l).toInt.toNat + i) c) ?_ hts hsl.symm (by omega) e4 ?_ ?_
            · simp [addr_add]
            · intro i c hi hc
              rw [hsl] at hi
              have := e5 ((den ρ l).toInt.toNat + i) c (by omega) hc
              rw [Nat.add_mul, ← Nat.add_assoc] at this
              rw [← hlen]
              exact this
            · intro i c x t hx ht
              rw [hsub, List.getElem?_take] at hx
              split at hx
              · rw [List.getElem?_drop] at hx
                exact e6 _ c x t hx ht
              · cases hx
      · cases h
    · cases h
  · rename_i la hu hx
    split at h
    · rename_i l hh hl hhi
      simp at h; obtain ⟨rfl, rfl, rfl⟩ := h
      have hr := (opC_sound hs hx).str_inv
      have h0 : (0 : Int) ≤ (den ρ l).toInt := of_decide_eq_true (hes (.cmp .leq (.int 0) l) (by simp))
      have h1 : (den ρ l).toInt ≤ (den ρ hh).toInt := of_decide_eq_true (hes (.cmp .leq l hh) (by simp))
      have h2 : (den ρ hh).toInt ≤ ((den ρ la).toStr.size : Int) := of_decide_eq_true (hes (.cmp .leq hh (.slen la)) (by simp))
      have := run_bounds (P := X.P) hs hl hhi (len := (den ρ la).toStr.size) (cap := (den ρ la).toStr.size) rfl h0 h1 h2 (Nat.le_refl _) false
      refine ⟨.string ((den ρ la).toStr.extract (den ρ l).toInt.toNat (den ρ hh).toInt.toNat), ?_, Rd.str rfl⟩
      simp only [execOp, ho, Instr.sliceAt, Sem.run_bind, run_und hu, Result.andThen_ok, Instr.slice, hr, this, Sem.run_pure, Option.map_none, Option.isSome_none, Bool.false_eq_true, if_false]
    · cases h
  · cases h
theorem came_mm (hs : Sat X ρ st F β a w) {o : Oper} {mx : Bool} {x y : Operand} {c : Call} (ho : o.op = .call c) (h1 : c.callee = .builtin (if mx then .max else .min)) (h2 : c.args = #[x, y]) {es : List E} {sv : SV} {nb : Option Box} (h : evMM st mx x y = some (es, sv, nb)) (nn : Nat) :
    Came X.P w F ρ β nn sv nb ((execOp a.eval o).run X.P w) := by
  unfold evMM at h
  split at h
  · rename_i k la k' lb hx hy
    split at h
    · rename_i hk
      subst hk
      simp [ev1] at h; obtain ⟨rfl, rfl, rfl⟩ := h
      have e1 := (opC_sound hs hx).int_inv
      have e2 := (opC_sound hs hy).int_inv
      obtain ⟨c1, c2, c3⟩ := c
      simp only at h1 h2
      subst h1 h2
      cases mx
      · refine ⟨.int k (if (den ρ lb).toInt < (den ρ la).toInt then (den ρ lb).toInt else (den ρ la).toInt), ?_, Rd.int ?_⟩
        · simp [execOp, ho, resolve, invoke, builtin, Builtin.min_, Builtin.min2, e1, e2]
        · rw [den_mkIte, den_mkCmp]
          simp only [cmpF, D.toBool_bool]
          by_cases hlt : (den ρ lb).toInt < (den ρ la).toInt <;> simp [hlt]
      · refine ⟨.int k (if (den ρ lb).toInt > (den ρ la).toInt then (den ρ lb).toInt else (den ρ la).toInt), ?_, Rd.int ?_⟩
        · simp [execOp, ho, resolve, invoke, builtin, Builtin.max_, Builtin.max2, e1, e2]
        · rw [den_mkIte, den_mkCmp]
          simp only [cmpF, D.toBool_bool]
          by_cases hlt : (den ρ lb).toInt > (den ρ la).toInt <;> simp [hlt]
    · cases h
  · cases h
/-! Maps. -/
theorem getD_at {l : List D} {i : Nat} (h : i < l.length) : l.getD i .nil = l[i] := by rw [List.getD_eq_getElem?_getD, List.getElem?_eq_getElem h]; rfl
theorem tyCodes_get : ∀ {ts : List Ty} {ks : List Nat}, tyCodes ts = some ks → ks.length = ts.length ∧ ∀ t ∈ ts, (tyCode t).isSome = true
  | [], ks, h => by simp [tyCodes] at h; subst h; exact ⟨rfl, fun t h => by cases h⟩
  | t :: ts, ks, h => by
    simp only [tyCodes] at h
    split at h
    · rename_i k ks' h1 h2
      simp at h; subst h
      obtain ⟨a, b⟩ := tyCodes_get h2
      exact ⟨by simp [a], fun u hu => by rcases List.mem_cons.1 hu with rfl | hu; (rw [h1]; rfl); exact b u hu⟩
    · cases h
theorem rd_flatV {P : Program} {w : World} {F : Fr} {t : Ty} {d : D} {v : Value} (h : (tyCode t).isSome = true) (hr : Rd P w F t d v) : v = flatV t d := by
  cases t <;> simp [tyCode] at h
  · exact hr.int_inv
  · exact hr.bool_inv
  · exact hr.str_inv
theorem flatV_rd {P : Program} {w : World} {F : Fr} {t : Ty} {d : D} (h : (tyCode t).isSome = true) : Rd P w F t d (flatV t d) := by
  cases t <;> simp [tyCode] at h
  · exact .int rfl
  · exact .bool rfl
  · exact .str rfl
theorem keyCells_get (n : Nat) : ∀ (ts : List Ty) (c0 : Nat) (d : D) (c : Nat), (keyCells n ts c0 d)[c]? = ts[c]?.map fun t => flatV t (cellOf n d (c0 + c))
  | [], _, _, _ => by simp [keyCells]
  | t :: ts, c0, d, 0 => by simp [keyCells]
  | t :: ts, c0, d, c + 1 => by
    simp only [keyCells, List.getElem?_cons_succ]
    rw [keyCells_get n ts (c0 + 1) d c, show c0 + 1 + c = c0 + (c + 1) by omega]
theorem keyCells_length (n : Nat) : ∀ (ts : List Ty) (c0 : Nat) (d : D), (keyCells n ts c0 d).length = ts.length
  | [], _, _ => rfl
  | t :: ts, c0, d => by simp [keyCells, keyCells_length n ts]
theorem den_expE {ρ' : List D} (n : Nat) (A B : D) : ∀ (ts : List Ty) (a b c0 : Nat) (e : E) (ks : List Nat), expE ts a b = some e → tyCodes ts = some ks →
    (∀ c, c < ts.length → ρ'.getD (a + c) .nil = cellOf n A (c0 + c)) → (∀ c, c < ts.length → ρ'.getD (b + c) .nil = cellOf n B (c0 + c)) → (den ρ' e).toBool = keqL n ks c0 A B
  | [], a, b, c0, e, ks, h, hk, h1, h2 => by simp [expE] at h; simp [tyCodes] at hk; subst h hk; rfl
  | t :: ts, a, b, c0, e, ks, h, hk, h1, h2 => by
    simp only [expE] at h
    simp only [tyCodes] at hk
    split at h
    · rename_i e1 e2 he1 he2
      split at hk
      · rename_i q ks' hq hks
        simp at h hk; subst h hk
        rw [den_mkAnd]
        have ih := den_expE n A B ts (a + 1) (b + 1) (c0 + 1) e2 ks' he2 hks (fun c hc => by rw [show a + 1 + c = a + (c + 1) by omega, h1 (c + 1) (by simp; omega), show c0 + (c + 1) = c0 + 1 + c by omega]) (fun c hc => by rw [show b + 1 + c = b + (c + 1) by omega, h2 (c + 1) (by simp; omega), show c0 + (c + 1) = c0 + 1 + c by omega])
        rw [ih]
        simp only [keqL]
        congr 1
        have g1 : ρ'.getD a .nil = cellOf n A c0 := h1 0 (by simp)
        have g2 : ρ'.getD b .nil = cellOf n B c0 := h2 0 (by simp)
        cases t <;> simp [eqC] at he1 <;> simp [tyCode] at hq <;> subst he1 hq
        · rw [den_mkCmp]; simp only [den, g1, g2]; rfl
        · rw [den_mkBeq]; simp only [den, g1, g2]; rfl
        · simp only [den, g1, g2]; rfl
      · cases hk
    · cases h
/-- The cells of two keys, one behind the other. -/
def twoKeys (n : Nat) (A B : D) : List D := (List.range n).map (cellOf n A) ++ (List.range n).map (cellOf n B)
theorem twoKeys_a (n : Nat) (A B : D) (c : Nat) (h : c < n) : (twoKeys n A B).getD c .nil = cellOf n A c := by
  simp [twoKeys, List.getD_eq_getElem?_getD, List.getElem?_append_left, h]
theorem twoKeys_b (n : Nat) (A B : D) (c : Nat) (h : c < n) : (twoKeys n A B).getD (n + c) .nil = cellOf n B c := by
  simp [twoKeys, List.getD_eq_getElem?_getD, List.getElem?_append_right, h]
theorem vrs_get : ∀ (ts : List Ty) (a i : Nat) (c : C), (vrs ts a)[i]? = some c → ∃ t, ts[i]? = some t ∧ c = .dat t (.var (a + i))
  | [], a, i, c, h => by simp [vrs] at h
  | t :: ts, a, 0, c, h => by simp [vrs] at h; subst h; exact ⟨t, rfl, rfl⟩
  | t :: ts, a, i + 1, c, h => by
    simp only [vrs, List.getElem?_cons_succ] at h
    obtain ⟨u, h1, rfl⟩ := vrs_get ts (a + 1) i c h
    exact ⟨u, by simpa using h1, by rw [show a + 1 + i = a + (i + 1) by omega]⟩
theorem vrs_length : ∀ (ts : List Ty) (a : Nat), (vrs ts a).length = ts.length
  | [], a => rfl
  | t :: ts, a => by simp [vrs, vrs_length ts]
/-- All that the codes of a key's type tell. -/
theorem keyQ_inv {P : Program} {k : TypeId} {ks : List Nat} {ts : List Ty} {g : Bool} (h : keyQ P k = some ks) (hts : cellTys P k = some ts) (hg : aggB P k = some g) :
    ∃ e, eqT P 8 k (vrs ts 0) (vrs ts ts.length) = some e ∧ expE ts 0 ts.length = some e ∧ tyCodes ts = some ks ∧ 0 < ts.length ∧ (g = true ∨ ts.length = 1) := by
  unfold keyQ at h
  rw [hts, hg] at h
  simp only at h
  split at h
  · rename_i hc
    obtain ⟨h1, h2, h3, h4⟩ := hc
    obtain ⟨e, he⟩ := Option.isSome_iff_exists.1 h2
    exact ⟨e, by rw [h1, he], he, h, h3, h4⟩
  · cases h
def keyV (g : Bool) (ts : List Ty) (A : D) : Value := valOf g (keyCells ts.length ts 0 A)
theorem keys_rcl {P : Program} {w : World} {F : Fr} {β : Nat → Value} {ts : List Ty} {ks : List Nat} (hk : tyCodes ts = some ks) (A B : D) :
    RCL P w F (twoKeys ts.length A B) β (vrs ts 0) (keyCells ts.length ts 0 A) ∧ RCL P w F (twoKeys ts.length A B) β (vrs ts ts.length) (keyCells ts.length ts 0 B) := by
  have hf := (tyCodes_get hk).2
  constructor
  · refine ⟨by rw [vrs_length, keyCells_length], fun i c v hc hv => ?_⟩
    obtain ⟨t, ht, rfl⟩ := vrs_get ts 0 i c hc
    rw [keyCells_get, ht] at hv
    simp at hv; subst hv
    have hi := (List.getElem?_eq_some_iff.1 ht).1
    show Rd P w F t (den _ (.var (0 + i))) _
    simp only [den, Nat.zero_add, twoKeys_a ts.length A B i hi]
    exact flatV_rd (hf t (List.mem_of_getElem? ht))
  · refine ⟨by rw [vrs_length, keyCells_length], fun i c v hc hv => ?_⟩
    obtain ⟨t, ht, rfl⟩ := vrs_get ts ts.length i c hc
    rw [keyCells_get, ht] at hv
    simp at hv; subst hv
    have hi := (List.getElem?_eq_some_iff.1 ht).1
    show Rd P w F t (den _ (.var (ts.length + i))) _
    simp only [den, twoKeys_b ts.length A B i hi]
    exact flatV_rd (hf t (List.mem_of_getElem? ht))
theorem key_vof {P : Program} {k : TypeId} {ts : List Ty} {g : Bool} (hg : aggB P k = some g) (h : g = true ∨ ts.length = 1) (A : D) : VOf P k (keyCells ts.length ts 0 A) (keyV g ts A) := by
  cases g with
  | true => exact .inl ⟨hg, rfl⟩
  | false =>
    have h1 : ts.length = 1 := by simpa using h
    refine .inr ⟨hg, ?_⟩
    unfold keyV valOf
    match ts, h1 with
    | [t], _ => rfl
theorem run_equal_key {P : Program} {w : World} {k : TypeId} {ks : List Nat} {ts : List Ty} {g : Bool} (h : keyQ P k = some ks) (hts : cellTys P k = some ts) (hg : aggB P k = some g) (A B : D) :
    (Op.equal k (keyV g ts A) (keyV g ts B)).run P w = .ok (keq ks A B) w := by
  obtain ⟨e, h1, h2, h3, h4, h5⟩ := keyQ_inv h hts hg
  obtain ⟨r1, r2⟩ := keys_rcl (P := P) (w := w) (F := ⟨fun _ => False, [], []⟩) (β := fun _ => .nilIface) h3 A B
  have := eqT_sound 8 9992 h1 r1 r2 (key_vof hg h5 A) (key_vof hg h5 B)
  rw [den_expE ts.length A B ts 0 ts.length 0 e ks h2 h3 (fun c hc => by simp only [Nat.zero_add]; exact twoKeys_a _ A B c hc) (fun c hc => by simp only [Nat.zero_add]; exact twoKeys_b _ A B c hc)] at this
  rw [keq, (tyCodes_get h3).1]
  exact this
/-- Each part of a key. -/
theorem fs_each {P : Program} {w : World} {F : Fr} {ρ : List D} {β : Nat → Value} {g : TypeId → List C → List C → Option E}
    (ha : ∀ {t : TypeId} {cs ds : List C} {e : E}, g t cs ds = some e → aggB P t = some true ∨ (aggB P t = some false ∧ cs.length = 1 ∧ ds.length = 1)) :
    ∀ (fs : List Field) {cs ds : List C} {us : List Value} {e : E} (pre : List Value) (n : Nat), eqFs P g fs n cs ds = some e → RCL P w F ρ β cs us → pre.length = n →
    ∀ f ∈ fs, f.name ≠ "_" ∧ ∃ a us' cs' ds' e', (part f.type (pre ++ us).toArray f.offset).run P w = .ok a w ∧ VOf P f.type us' a ∧ g f.type cs' ds' = some e' ∧ RCL P w F ρ β cs' us'
  | [], cs, ds, us, e, pre, n, he, hu, h1 => fun f hf => by cases hf
  | f :: fs, cs, ds, us, e, pre, n, he, hu, h1 => by
    simp only [eqFs] at he
    split at he
    · rename_i m hm
      split at he
      · rename_i hc
        simp only [Bool.and_eq_true, decide_eq_true_eq] at hc
        obtain ⟨⟨⟨hn, ho⟩, hl1⟩, hl2⟩ := hc
        split at he
        · rename_i e1 e2 he1 he2
          have hoff : f.offset = n := by simpa using ho
          have lu : m ≤ us.length := by rw [← hu.1]; exact hl1
          have hag := ha he1
          obtain ⟨u, p1, q1⟩ := part_at (P := P) (w := w) (pre := pre) hm lu (by
            rcases hag with hag | ⟨hag, l1, l2⟩
            · exact .inl hag
            · exact .inr ⟨hag, by have := hu.1; rw [List.length_take] at l1 ⊢; omega⟩)
          have ih := fs_each ha fs (pre ++ us.take m) (n + m) he2 (hu.drop m) (by simp [h1]; omega)
          simp only [List.append_assoc, List.take_append_drop] at ih
          intro f' hf'
          rcases List.mem_cons.1 hf' with rfl | hf'
          · rw [h1] at p1
            exact ⟨by simpa using hn, u, _, _, _, _, by rw [hoff]; exact p1, q1, he1, hu.take m⟩
          · exact ih f' hf'
        · cases he
      · cases he
    · cases he
theorem is_each {P : Program} {w : World} {F : Fr} {ρ : List D} {β : Nat → Value} {g : List C → List C → Option E} {t : TypeId} {m : Nat} (hm : szOf P t = some m)
    (ha : ∀ {cs ds : List C} {e : E}, g cs ds = some e → aggB P t = some true ∨ (aggB P t = some false ∧ cs.length = 1 ∧ ds.length = 1)) :
    ∀ (c : Nat) {cs ds : List C} {us : List Value} {e : E} (pre : List Value) (i : Nat), eqIs g m c cs ds = some e → RCL P w F ρ β cs us → pre.length = i * m →
    ∀ j ∈ List.range' i c, ∃ a us' cs' ds' e', (part t (pre ++ us).toArray (j * m)).run P w = .ok a w ∧ VOf P t us' a ∧ g cs' ds' = some e' ∧ RCL P w F ρ β cs' us'
  | 0, cs, ds, us, e, pre, i, he, hu, h1 => fun j hj => by simp at hj
  | c + 1, cs, ds, us, e, pre, i, he, hu, h1 => by
    simp only [eqIs] at he
    split at he
    · rename_i hl
      obtain ⟨hl1, hl2⟩ := hl
      split at he
      · rename_i e1 e2 he1 he2
        have lu : m ≤ us.length := by rw [← hu.1]; exact hl1
        have hag := ha he1
        obtain ⟨u, p1, q1⟩ := part_at (P := P) (w := w) (pre := pre) hm lu (by
          rcases hag with hag | ⟨hag, l1, l2⟩
          · exact .inl hag
          · exact .inr ⟨hag, by have := hu.1; rw [List.length_take] at l1 ⊢; omega⟩)
        have ih := is_each hm ha c (pre ++ us.take m) (i + 1) he2 (hu.drop m) (by simp [h1, Nat.succ_mul]; omega)
        simp only [List.append_assoc, List.take_append_drop] at ih
        intro j hj
        rw [List.range'_succ] at hj
        rcases List.mem_cons.1 hj with rfl | hj
        · rw [h1] at p1
          exact ⟨u, _, _, _, _, p1, q1, he1, hu.take m⟩
        · exact ih j hj
      · cases he
    · cases he
theorem check_flat {P : Program} {w : World} {F : Fr} {ρ : List D} {β : Nat → Value} (em : Bool) : ∀ (n k : Nat) {t : TypeId} {cs ds : List C} {e : E} {us : List Value} {u : Value}, eqT P n t cs ds = some e → RCL P w F ρ β cs us → VOf P t us u → (Instr.checkKey em (n + k) t u).run P w = .ok () w
  | 0, k, t, cs, ds, e, us, u, h, hu, q1 => by simp [eqT] at h
  | n + 1, k, t, cs, ds, e, us, u, h, hu, q1 => by
    have hag := eqT_agg h
    rw [show n + 1 + k = (n + k) + 1 by omega]
    simp only [eqT] at h
    split at h
    · rename_i fs hun
      split at h
      · cases h
      have ha : aggB P t = some true := by simp [aggB, hun]
      obtain ⟨_, rfl⟩ : aggB P t = some true ∧ u = .agg us.toArray := by rcases q1 with q | q; exact q; rw [ha] at q; cases q.1
      have each := fs_each (P := P) (w := w) (F := F) (ρ := ρ) (β := β) (fun a => eqT_agg a) fs.toList [] 0 h hu rfl
      simp only [List.nil_append] at each
      rw [Instr.checkKey]
      simp only [Sem.run_bind, run_und hun, Result.andThen_ok]
      rw [← Array.forIn_toList]
      generalize fs.toList = L at each
      induction L with
      | nil => simp
      | cons f L ih =>
        obtain ⟨hn, a, us', cs', ds', e', p1, p2, p3, p4⟩ := each f (by simp)
        have p5 := check_flat em n k p3 p4 p2
        simp only [List.forIn_cons, Sem.run_bind, hn, ne_eq, not_false_eq_true, if_true, Result.andThen_ok, p1, p5, Sem.run_pure]
        exact ih (fun y hy => each y (by simp [hy]))
    · rename_i c e' hun
      split at h
      · rename_i m hm
        have ha : aggB P t = some true := by simp [aggB, hun]
        obtain ⟨_, rfl⟩ : aggB P t = some true ∧ u = .agg us.toArray := by rcases q1 with q | q; exact q; rw [ha] at q; cases q.1
        have each := is_each (P := P) (w := w) (F := F) (ρ := ρ) (β := β) hm (fun a => eqT_agg a) c [] 0 h hu (by simp)
        simp only [List.nil_append] at each
        rw [Instr.checkKey]
        simp only [Sem.run_bind, run_und hun, Result.andThen_ok]
        simp only [Std.Legacy.Range.forIn_eq_forIn_range', Std.Legacy.Range.size, Nat.sub_zero, Nat.add_one_sub_one, Nat.div_one]
        generalize List.range' 0 c = is at each
        induction is with
        | nil => simp
        | cons j is ih =>
          obtain ⟨a, us', cs', ds', e'', p1, p2, p3, p4⟩ := each j (by simp)
          have p5 := check_flat em n k p3 p4 p2
          simp only [List.forIn_cons, Sem.run_bind, run_szOf hm, Result.andThen_ok, p1, p5, Sem.run_pure]
          exact ih (fun y hy => each y (by simp [hy]))
      · cases h
    · rename_i h1 h2
      split at h
      · rename_i c d
        split at h
        · rename_i hs
          have hu0 : RC P w F ρ β c (us.headD undef) := hu.2 0 c _ rfl (by have := hu.1; cases us with | nil => simp at this | cons x us => rfl)
          have e2 : aggB P t = some false := by
            rcases hag with hag | hag
            · unfold aggB at hag; split at hag
              · rename_i hx; exact absurd hx (h1 _)
              · rename_i hx; exact absurd hx (h2 _ _)
              · cases hag
              · cases hag
            · exact hag.1
          obtain ⟨_, rfl⟩ : aggB P t = some false ∧ us = [u] := by rcases q1 with q | q; (rw [e2] at q; cases q.1); exact q
          simp only [List.headD_cons] at hu0
          cases hun : P.underlying t with
          | none => simp [scT, hun] at hs
          | some td =>
            refine Go.MapKept.run_checkKey hun ?_ em _
            rw [hun] at hs
            cases c <;> try (simp [scT] at hs; done)
            rename_i t1 x
            cases t1 <;> cases td <;> try (simp [scT] at hs; done)
            · rw [hu0.int_inv]; simp [scT] at hs; simp [Go.MapKept.IsKey, hs]
            · rw [hu0.bool_inv]; trivial
            · rw [hu0.str_inv]; trivial
        · cases h
      · cases h
theorem run_check_key {P : Program} {w : World} {k : TypeId} {ks : List Nat} {ts : List Ty} {g : Bool} (h : keyQ P k = some ks) (hts : cellTys P k = some ts) (hg : aggB P k = some g) (em : Bool) (A : D) :
    (Instr.checkKey em 10000 k (keyV g ts A)).run P w = .ok () w := by
  obtain ⟨e, h1, h2, h3, h4, h5⟩ := keyQ_inv h hts hg
  obtain ⟨r1, r2⟩ := keys_rcl (P := P) (w := w) (F := ⟨fun _ => False, [], []⟩) (β := fun _ => .nilIface) h3 A A
  exact check_flat em 8 9992 h1 r1 (key_vof hg h5 A)
theorem mfind_cons (ks : List Nat) (d : D) (l : List D) (A : D) : mfind ks (d :: l) A = if keq ks A (d.toL.getD 0 .nil) = true then 0 else mfind ks l A + 1 := by
  unfold mfind
  rw [List.findIdx_cons]
  cases keq ks A (d.toL.getD 0 .nil) <;> simp
theorem findAsking_key {P : Program} {w : World} {k : TypeId} {ks : List Nat} {ts : List Ty} {g : Bool} (h : keyQ P k = some ks) (hts : cellTys P k = some ts) (hg : aggB P k = some g) (A : D) :
    ∀ (es : List MapEntry) (ds : List D) (i : Nat), es.length = ds.length → (∀ (j : Nat) (e : MapEntry) (d : D), es[j]? = some e → ds[j]? = some d → e.key = keyV g ts (d.toL.getD 0 .nil)) →
    (Instr.findAsking k (keyV g ts A) es i).run P w = .ok ((es[mfind ks ds A]?).map fun e => (i + mfind ks ds A, e.val)) w
  | [], ds, i, hl, he => by
    have : ds = [] := List.eq_nil_of_length_eq_zero hl.symm
    subst this
    simp [Instr.findAsking]
  | e :: es, [], i, hl, he => by simp at hl
  | e :: es, d :: ds, i, hl, he => by
    have h0 := he 0 e d rfl rfl
    simp only [Instr.findAsking, Sem.run_bind, h0, run_equal_key h hts hg, Result.andThen_ok]
    rw [mfind_cons]
    cases hq : keq ks A (d.toL.getD 0 .nil) with
    | true => simp
    | false =>
      simp only [Bool.false_eq_true, if_false]
      rw [findAsking_key h hts hg A es ds (i + 1) (by simpa using hl) (fun j e d a b => he (j + 1) e d (by simpa using a) (by simpa using b))]
      simp only [List.getElem?_cons_succ]
      rw [show i + 1 + mfind ks ds A = i + (mfind ks ds A + 1) by omega]
theorem findNow_key {P : Program} {k : TypeId} {td : TypeDesc} (hu : P.underlying k = some td) {ks : List Nat} {ts : List Ty} (h : keyQ P k = some ks) (hts : cellTys P k = some ts) (hg : aggB P k = some false) (A : D) :
    ∀ (es : List MapEntry) (ds : List D) (i : Nat), es.length = ds.length → (∀ (j : Nat) (e : MapEntry) (d : D), es[j]? = some e → ds[j]? = some d → e.key = keyV false ts (d.toL.getD 0 .nil)) →
    Instr.findNow td (keyV false ts A) es i = some ((es[mfind ks ds A]?).map fun e => (i + mfind ks ds A, e.val)) := by
  obtain ⟨e, h1, h2, h3, h4, h5⟩ := keyQ_inv h hts hg
  have hl1 : ts.length = 1 := by simpa using h5
  have same : ∀ B : D, Instr.sameNow td (keyV false ts A) (keyV false ts B) = some (keq ks A B) := by
    intro B
    match ts, hl1 with
    | [t], _ =>
      have hs : scT (.dat t (.var 0)) (P.underlying k) = true := by
        simp only [eqT] at h1
        rw [hu] at h1
        cases td <;> first
          | (exfalso; simp [aggB, hu] at hg; done)
          | (simp only [vrs] at h1; split at h1; (rename_i hx; rw [hu]; exact hx); cases h1)
      rw [hu] at hs
      simp only [tyCodes] at h3
      cases t <;> simp [tyCode] at h3 <;> subst h3 <;> cases td <;> try (simp [scT] at hs; done)
      · simp [keyV, valOf, keyCells, flatV, Instr.sameNow, keq, keqL, kcell, cellOf]
      · simp [keyV, valOf, keyCells, flatV, Instr.sameNow, keq, keqL, kcell, cellOf]
      · simp [keyV, valOf, keyCells, flatV, Instr.sameNow, keq, keqL, kcell, cellOf, beq_toListBytes]
  intro es
  induction es with
  | nil =>
    intro ds i hl he
    have : ds = [] := List.eq_nil_of_length_eq_zero hl.symm
    subst this
    simp [Instr.findNow]
  | cons e es ih =>
    intro ds i hl he
    cases ds with
    | nil => simp at hl
    | cons d ds =>
      have h0 := he 0 e d rfl rfl
      simp only [Instr.findNow, h0, same]
      rw [mfind_cons]
      cases hq : keq ks A (d.toL.getD 0 .nil) with
      | true => simp
      | false =>
        simp only [Bool.false_eq_true, if_false]
        rw [ih ds (i + 1) (by simpa using hl) (fun j e d a b => he (j + 1) e d (by simpa using a) (by simpa using b))]
        simp only [List.getElem?_cons_succ]
        rw [show i + 1 + mfind ks ds A = i + (mfind ks ds A + 1) by omega]
theorem run_find_key {P : Program} {w : World} {k : TypeId} {ks : List Nat} {ts : List Ty} {g : Bool} (h : keyQ P k = some ks) (hts : cellTys P k = some ts) (hg : aggB P k = some g) (A : D)
    (es : List MapEntry) (ds : List D) (hl : es.length = ds.length) (he : ∀ (j : Nat) (e : MapEntry) (d : D), es[j]? = some e → ds[j]? = some d → e.key = keyV g ts (d.toL.getD 0 .nil)) :
    (Instr.findKey k (keyV g ts A) es).run P w = .ok ((es[mfind ks ds A]?).map fun e => (mfind ks ds A, e.val)) w := by
  cases g with
  | true =>
    have hw : (match P.underlying k with | some (.array _ _) | some (.struct _) => true | _ => false) = true := by
      unfold aggB at hg
      split at hg <;> simp_all
    have := findAsking_key (w := w) h hts hg A es ds 0 hl he
    simp only [Nat.zero_add] at this
    rw [run_findKey_eq w hw]
    exact this
  | false =>
    cases hu : P.underlying k with
    | none => simp [aggB, hu] at hg
    | some td =>
      have := findNow_key hu h hts hg A es ds 0 hl he
      simp only [Nat.zero_add] at this
      exact Go.MapKept.run_findKey hu this
theorem den_elOf {ρ : List D} {us : List Ty} {es : List E} (hl : es.length = us.length) {c : Nat} (hc : c < us.length) : cellOf us.length (den ρ (elOf us es)) c = den ρ (es.getD c .nil) := by
  have hlist : ∀ l : List E, den ρ (listE l) = .agg (l.map (den ρ)) := by
    intro l
    induction l with
    | nil => rfl
    | cons x l ih => simp [listE, den, ih]
  unfold elOf cellOf
  split
  · rename_i h1
    have : c = 0 := by omega
    subst this
    cases es with
    | nil => simp at hl; omega
    | cons x l => cases l with
      | nil => rfl
      | cons y l => simp at hl; omega
  · rw [hlist]
    simp only [D.toL_agg, List.getD_eq_getElem?_getD, List.getElem?_map]
    rw [List.getElem?_eq_getElem (by omega)]
    rfl
theorem matL_get {P : Program} {w : World} {F : Fr} {ρ : List D} {β : Nat → Value} : ∀ {ts : List Ty} {cs : List C} {es : List E} {vs : List Value}, matL ts cs = some es → RCL P w F ρ β cs vs →
    es.length = ts.length ∧ vs.length = ts.length ∧ ∀ (c : Nat) (t : Ty) (u : Value), ts[c]? = some t → vs[c]? = some u → Rd P w F t (den ρ (es.getD c .nil)) u
  | [], [], es, vs, h, hr => by
    simp [matL] at h; subst h
    have : vs.length = 0 := hr.1.symm
    exact ⟨rfl, this, fun c t u ht => by simp at ht⟩
  | [], c :: cs, es, vs, h, hr => by simp [matL] at h
  | t :: ts, [], es, vs, h, hr => by simp [matL] at h
  | t :: ts, c :: cs, es, [], h, hr => by have := hr.1; simp at this
  | t :: ts, c :: cs, es, v :: vs, h, hr => by
    simp only [matL] at h
    split at h
    · rename_i e es' h1 h2
      simp at h; subst h
      obtain ⟨a, b, d⟩ := matL_get h2 (hr.drop 1)
      refine ⟨by simp [a], by simpa using b, fun i u v' hu hv => ?_⟩
      cases i with
      | zero => simp at hu hv; subst hu hv; exact mat_sound h1 (hr.2 0 c v rfl rfl)
      | succ i => exact d i u v' (by simpa using hu) (by simpa using hv)
    · cases h
/-- A value as an element: what it reads as. -/
theorem elData_sound {P : Program} {w : World} {F : Fr} {ρ : List D} {β : Nat → Value} {ts : List Ty} {g : Bool} {sv : SV} {q : E} {v : Value} (h : elData ts g sv = some q) (hv : RV P w F ρ β sv v) :
    ∃ vs : List Value, v = valOf g vs ∧ vs.length = ts.length ∧ (g = false → ts.length = 1) ∧ ∀ (c : Nat) (t : Ty) (u : Value), ts[c]? = some t → vs[c]? = some u → Rd P w F t (cellOf ts.length (den ρ q) c) u := by
  unfold elData at h
  split at h
  · rename_i cs
    obtain ⟨es, h1, rfl⟩ : ∃ es, matL ts cs = some es ∧ elOf ts es = q := by simpa [Option.map_eq_some_iff] using h
    obtain ⟨vs, rfl, hr⟩ := hv
    obtain ⟨a, b, d⟩ := matL_get h1 hr
    exact ⟨vs, rfl, b, (fun h => by cases h), fun c t u ht hu => by rw [den_elOf a (List.getElem?_eq_some_iff.1 ht).1]; exact d c t u ht hu⟩
  · rename_i c
    split at h
    · rename_i hl
      obtain ⟨es, h1, rfl⟩ : ∃ es, matL ts [c] = some es ∧ elOf ts es = q := by simpa [Option.map_eq_some_iff] using h
      obtain ⟨a, b, d⟩ := matL_get h1 (RCL.cons (vs := []) hv RCL.nil)
      exact ⟨[v], rfl, b, fun _ => hl, fun c t u ht hu => by rw [den_elOf a (List.getElem?_eq_some_iff.1 ht).1]; exact d c t u ht hu⟩
    · cases h
  · cases h
theorem key_of_el {P : Program} {w : World} {F : Fr} {ρ : List D} {ts : List Ty} {ks : List Nat} {g : Bool} {q : E} {v : Value} (hk : tyCodes ts = some ks)
    (h : ∃ vs : List Value, v = valOf g vs ∧ vs.length = ts.length ∧ (g = false → ts.length = 1) ∧ ∀ (c : Nat) (t : Ty) (u : Value), ts[c]? = some t → vs[c]? = some u → Rd P w F t (cellOf ts.length (den ρ q) c) u) : v = keyV g ts (den ρ q) := by
  obtain ⟨vs, rfl, hl, _, hr⟩ := h
  unfold keyV
  congr 1
  refine List.ext_getElem? fun c => ?_
  rw [keyCells_get]
  cases ht : ts[c]? with
  | none => simp only [Option.map_none]; exact List.getElem?_eq_none (by rw [hl]; exact List.getElem?_eq_none_iff.1 ht)
  | some t =>
    have hc : c < vs.length := by rw [hl]; exact (List.getElem?_eq_some_iff.1 ht).1
    rw [List.getElem?_eq_getElem hc]
    simp only [Option.map_some, Nat.zero_add, Option.some.injEq]
    exact rd_flatV ((tyCodes_get hk).2 t (List.mem_of_getElem? ht)) (hr c t _ ht (List.getElem?_eq_getElem hc))
theorem zeroEl_sound {P : Program} {w : World} {F : Fr} {ρ : List D} {e : TypeId} {z : E} {us : List Ty} {g : Bool} (h : zeroEl P e = some z) (hus : cellTys P e = some us) (hg : aggB P e = some g) :
    ∃ (v : Value) (vs : List Value), (zeroValue e).run P w = .ok v w ∧ v = valOf g vs ∧ vs.length = us.length ∧ ∀ (c : Nat) (t : Ty) (u : Value), us[c]? = some t → vs[c]? = some u → Rd P w F t (cellOf us.length (den ρ z) c) u := by
  unfold zeroEl at h
  rw [hus, hg] at h
  split at h
  · rename_i zs us' hz hg' hu'
    cases hg'; cases hu'
    split at h
    · rename_i cs hcs
      obtain ⟨es, h1, rfl⟩ : ∃ es, matL us (tyCs us cs) = some es ∧ elOf us es = z := by simpa [Option.map_eq_some_iff] using h
      obtain ⟨a, b, d⟩ := matL_get (P := P) (w := w) (F := F) (ρ := ρ) (β := fun _ => .nilIface) h1 (tyCs_sound (cstL_sound hcs))
      exact ⟨_, zs.toList, run_zero hz, by simp [valOf], b, fun c t u ht hu => by rw [den_elOf a (List.getElem?_eq_some_iff.1 ht).1]; exact d c t u ht hu⟩
    · cases h
  · rename_i z0 us' hz hg' hu'
    cases hg'; cases hu'
    split at h
    · rename_i c hc
      split at h
      · obtain ⟨es, h1, rfl⟩ : ∃ es, matL us (tyCs us [c]) = some es ∧ elOf us es = z := by simpa [Option.map_eq_some_iff] using h
        obtain ⟨a, b, d⟩ := matL_get (P := P) (w := w) (F := F) (ρ := ρ) (β := fun _ => .nilIface) h1 (tyCs_sound (RCL.cons (vs := []) (cst_sound hc) RCL.nil))
        exact ⟨_, [z0], run_zero hz, rfl, b, fun c t u ht hu => by rw [den_elOf a (List.getElem?_eq_some_iff.1 ht).1]; exact d c t u ht hu⟩
      · cases h
    · cases h
  · cases h
/-- An element's value, as symbolic cells. -/
theorem elSV_sound {P : Program} {w : World} {F : Fr} {ρ : List D} {β : Nat → Value} {us : List Ty} {g : Bool} {el : E} {v : Value} {vs : List Value} (h1 : g = true ∨ us.length = 1) (hv : v = valOf g vs) (hl : vs.length = us.length)
    (hr : ∀ (c : Nat) (t : Ty) (u : Value), us[c]? = some t → vs[c]? = some u → Rd P w F t (cellOf us.length (den ρ el) c) u) : RV P w F ρ β (elSV us g el) v := by
  subst hv
  cases g with
  | true =>
    refine ⟨vs, rfl, by simp [hl], fun i c u hc hu => ?_⟩
    simp only [List.getElem?_map, List.getElem?_zipIdx, Option.map_eq_some_iff, Nat.zero_add] at hc
    obtain ⟨p, ⟨t, ht, rfl⟩, rfl⟩ := hc
    show Rd P w F t _ u
    rw [den_elCell]
    exact hr i t u ht hu
  | false =>
    have hl1 : us.length = 1 := by simpa using h1
    match us, vs, hl1, hl with
    | [t], [u], _, _ =>
      show Rd P w F t _ u
      rw [den_elCell]
      exact hr 0 t u rfl rfl
theorem mfind_lt {ks : List Nat} {l : List D} {A : D} : mfind ks l A ≤ l.length := List.findIdx_le_length
theorem mapArgs_sound {X : Cx} {ρ : List D} {st : St} {F : Fr} {β : Nat → Value} {a : Act} {w : World} (hs : Sat X ρ st F β a w) {t : TypeId} {m x : Operand} {n : Nat} {y q : E} {k e : TypeId} {ks : List Nat} (h : mapArgs X.P st t m x = some (n, y, k, e, ks, q)) :
    ∃ ts g, X.P.underlying t = some (.map k e) ∧ st.bx.lookup n = some (.map t y) ∧ keyQ X.P k = some ks ∧ cellTys X.P k = some ts ∧ aggB X.P k = some g ∧ a.eval m = β n ∧ a.eval x = keyV g ts (den ρ q) := by
  unfold mapArgs at h
  split at h
  · rename_i k' e' n' hm hn
    split at h
    · rename_i t' y' ks' ts g sv hb hk hts hg hx
      split at h
      · rename_i ht
        subst ht
        split at h
        · rename_i q' hq
          simp at h; obtain ⟨rfl, rfl, rfl, rfl, rfl, rfl⟩ := h
          have hu : X.P.underlying t = some (.map k' e') := by
            unfold mapTy at hm; split at hm
            · rename_i k'' e'' hx; simp at hm; obtain ⟨rfl, rfl⟩ := hm; exact hx
            · cases hm
          obtain ⟨e, h1, h2, h3, h4, h5⟩ := keyQ_inv hk hts hg
          exact ⟨ts, g, hu, hb, hk, hts, hg, opC_sound hs hn, key_of_el h3 (elData_sound hq (opV_sound hs hx))⟩
        · cases h
      · cases h
    · cases h
  · cases h
theorem kcell_symm {k : Nat} {a b : D} (h : kcell k a b = true) : kcell k b a = true := by
  match k with
  | 0 => simp only [kcell, beq_iff_eq] at h ⊢; exact h.symm
  | 1 => simp only [kcell, beq_iff_eq] at h ⊢; exact h.symm
  | k + 2 => simp only [kcell, beq_iff_eq] at h ⊢; exact h.symm
theorem kcell_trans {k : Nat} {a b c : D} (h : kcell k a b = true) (g : kcell k b c = true) : kcell k a c = true := by
  match k with
  | 0 => simp only [kcell, beq_iff_eq] at h g ⊢; exact h.trans g
  | 1 => simp only [kcell, beq_iff_eq] at h g ⊢; exact h.trans g
  | k + 2 => simp only [kcell, beq_iff_eq] at h g ⊢; exact h.trans g
theorem keqL_symm (n : Nat) : ∀ {ks : List Nat} {c : Nat} {a b : D}, keqL n ks c a b = true → keqL n ks c b a = true
  | [], _, _, _, _ => rfl
  | k :: ks, c, a, b, h => by
    simp only [keqL, Bool.and_eq_true] at h ⊢
    exact ⟨kcell_symm h.1, keqL_symm n h.2⟩
theorem keqL_trans (n : Nat) : ∀ {ks : List Nat} {c : Nat} {a b d : D}, keqL n ks c a b = true → keqL n ks c b d = true → keqL n ks c a d = true
  | [], _, _, _, _, _, _ => rfl
  | k :: ks, c, a, b, d, h, g => by
    simp only [keqL, Bool.and_eq_true] at h g ⊢
    exact ⟨kcell_trans h.1 g.1, keqL_trans n h.2 g.2⟩
theorem keq_symm {ks : List Nat} {a b : D} (h : keq ks a b = true) : keq ks b a = true := keqL_symm _ h
theorem keq_trans {ks : List Nat} {a b d : D} (h : keq ks a b = true) (g : keq ks b d = true) : keq ks a d = true := keqL_trans _ h g
theorem mget_cons (ks : List Nat) (d : D) (l : List D) (q z : D) : mgetD ks (d :: l) q z = if keq ks q (d.toL.getD 0 .nil) = true then d.toL.getD 1 .nil else mgetD ks l q z := by
  unfold mgetD
  rw [mfind_cons]
  split
  · simp
  · simp only [List.length_cons, Nat.add_lt_add_iff_right, List.getD_cons_succ]
theorem mput_cons (ks : List Nat) (d : D) (l : List D) (q v : D) : mputD ks (d :: l) q v = if keq ks q (d.toL.getD 0 .nil) = true then .agg [q, v] :: l else d :: mputD ks l q v := by
  unfold mputD
  rw [mfind_cons]
  split
  · simp
  · simp only [List.length_cons, Nat.add_lt_add_iff_right, List.set_cons_succ]
    split <;> simp
theorem mget_zero (ks : List Nat) (k q z : D) : ∀ l : List D, mgetD ks (mputD ks l k (mgetD ks l k z)) q z = mgetD ks l q z
  | [] => by
    show mgetD ks [.agg [k, z]] q z = z
    rw [mget_cons]
    split
    · rfl
    · rfl
  | d :: l => by
    rw [mput_cons, mget_cons ks d l k z, mget_cons ks d l q z]
    split
    · rename_i h1
      rw [mget_cons]
      simp only [D.toL_agg, List.getD_cons_zero, List.getD_cons_succ]
      by_cases h2 : keq ks q k = true
      · rw [if_pos h2, if_pos (keq_trans h2 h1)]
      · rw [if_neg h2, if_neg (fun h3 => h2 (keq_trans h3 (keq_symm h1)))]
    · rename_i h1
      rw [mget_cons, mget_zero ks k q z l]
theorem den_mkMget {ρ : List D} (ks : List Nat) (a q z : E) : den ρ (mkMget ks a q z) = den ρ (.mget ks a q z) := by
  unfold mkMget
  split
  · split
    · rename_i h
      obtain ⟨rfl, rfl, rfl, rfl, rfl⟩ := h
      simp only [den, D.toL_agg, mget_zero]
    · rfl
  · rfl
theorem came_lookup {X : Cx} {ρ : List D} {st : St} {F : Fr} {β : Nat → Value} {a : Act} {w : World} (hs : Sat X ρ st F β a w) {o : Oper} {t : TypeId} {m x : Operand} {ok : Bool} (ho : o.op = .lookup t m x ok) {es : List E} {sv : SV} {nb : Option Box} (h : evLookup X.P st t m x ok = some (es, sv, nb)) (nn : Nat) :
    Came X.P w F ρ β nn sv nb ((execOp a.eval o).run X.P w) := by
  unfold evLookup at h
  split at h
  · rename_i n y k e ks q hm
    obtain ⟨ts, g, hu, hb, hk, hts, hg, e1, e2⟩ := mapArgs_sound hs hm
    split at h
    · rename_i z us gv hz hus hgv
      split at h
      · rename_i hgl
        obtain ⟨b, k', e', ts', us', g', h', es', v1, v2, v3, v4, v5, v6, v7, v8, v9⟩ := hs.bx n _ hb
        rw [hu] at v2; cases v2
        rw [hts] at v3; cases v3
        rw [hus] at v4; cases v4
        rw [hg] at v5; cases v5
        rw [hgv] at v6; cases v6
        have hf := run_find_key (w := w) hk hts hg (den ρ q) es' (den ρ y).toL v8 (fun j e d h1 h2 => (v9 j e d h1 h2).key)
        have hc := fun em => run_check_key (P := X.P) (w := w) hk hts hg em (den ρ q)
        obtain ⟨zv, zvs, z1, z2, z3, z4⟩ := zeroEl_sound (w := w) (F := F) (ρ := ρ) hz hus hgv
        -- what is found
        have key : ∃ (v : Value) (vs : List Value), (Instr.lookup t (.map (some b)) (keyV g ts (den ρ q)) ok).run X.P w = .ok (if ok = true then .tuple #[v, .bool (decide (mfind ks (den ρ y).toL (den ρ q) < (den ρ y).toL.length))] else v) w ∧
            v = valOf gv vs ∧ vs.length = us.length ∧ ∀ (c : Nat) (t : Ty) (u : Value), us[c]? = some t → vs[c]? = some u → Rd X.P w F t (cellOf us.length (den ρ (mkMget ks y q z)) c) u := by
          rw [den_mkMget]
          simp only [den, mgetD]
          by_cases hlt : mfind ks (den ρ y).toL (den ρ q) < (den ρ y).toL.length
          · have hlt' : mfind ks (den ρ y).toL (den ρ q) < es'.length := by rw [v8]; exact hlt
            have ho := v9 _ _ _ (List.getElem?_eq_getElem hlt') (List.getElem?_eq_getElem hlt)
            obtain ⟨vs, w1, w2, w3⟩ := ho.val
            rw [List.getElem?_eq_getElem hlt'] at hf
            simp only [Option.map_some] at hf
            refine ⟨_, vs, ?_, w1, w2, ?_⟩
            · simp only [Instr.lookup, Sem.run_bind, run_und hu, Result.andThen_ok, Go.MapKept.run_getObj_map v7, hc, Sem.run_pure, List.toList_toArray, hf]
              cases ok <;> simp [hlt]
            · simp only [hlt, if_true]
              rw [getD_at hlt]
              exact w3
          · have hge : es'.length ≤ mfind ks (den ρ y).toL (den ρ q) := by rw [v8]; omega
            rw [List.getElem?_eq_none hge] at hf
            simp only [Option.map_none] at hf
            refine ⟨zv, zvs, ?_, z2, z3, ?_⟩
            · simp only [Instr.lookup, Sem.run_bind, run_und hu, Result.andThen_ok, Go.MapKept.run_getObj_map v7, hc, Sem.run_pure, List.toList_toArray, hf, z1]
              cases ok <;> simp [hlt]
            · simp only [hlt, if_false]
              exact z4
        obtain ⟨v, vs, r1, r2, r3, r4⟩ := key
        have hrv := elSV_sound (β := β) hgl r2 r3 r4
        have hx : (execOp a.eval o).run X.P w = .ok (.value (if ok = true then .tuple #[v, .bool (decide (mfind ks (den ρ y).toL (den ρ q) < (den ρ y).toL.length))] else v)) w := by
          simp only [execOp, ho, e1, e2, v1, Sem.run_bind, r1, Result.andThen_ok, Sem.run_pure]
        rw [hx]
        simp only at h
        split at h
        · rename_i hok
          subst hok
          have hbool : R1 X.P w F ρ β (.one (.dat .bool (.cmp .lss (.mix ks y q) (.len y)))) (.bool (decide (mfind ks (den ρ y).toL (den ρ q) < (den ρ y).toL.length))) := by
            refine Rd.bool ?_
            simp [den, cmpF]
          split at h
          · rename_i c hv
            simp at h; obtain ⟨rfl, rfl, rfl⟩ := h
            rw [hv] at hrv
            refine ⟨_, rfl, [v, _], rfl, rfl, fun i c u hc hu => ?_⟩
            rcases i with _ | _ | i
            · simp at hc hu; subst hc hu; exact hrv
            · simp at hc hu; subst hc hu; exact hbool
            · simp at hc
          · rename_i cs hv
            simp at h; obtain ⟨rfl, rfl, rfl⟩ := h
            rw [hv] at hrv
            refine ⟨_, rfl, [v, _], rfl, rfl, fun i c u hc hu => ?_⟩
            rcases i with _ | _ | i
            · simp at hc hu; subst hc hu; exact hrv
            · simp at hc hu; subst hc hu; exact hbool
            · simp at hc
          · cases h
        · rename_i hok
          simp at h; obtain ⟨rfl, rfl, rfl⟩ := h
          exact ⟨v, by simp [hok], hrv⟩
      · cases h
    · cases h
  · cases h
theorem evV_sound (hb : ∀ n, (β n).oneCell' = true) (hs : Sat X ρ st F β a w) {o : Oper} {ty : TypeId} {es : List E} {sv : SV} {nb : Option Box} (h : evV X.P st o.op ty = some (es, sv, nb)) (hes : ∀ e ∈ es, (den ρ e).toBool = true) :
    Came X.P w F ρ β st.nn sv nb ((execOp a.eval o).run X.P w) := by
  unfold evV at h
  split at h <;> rename_i ho
  · have := came_move hs h st.nn; simpa [execOp, ho] using this
  · have := came_move hs h st.nn; simpa [execOp, ho] using this
  · exact came_pick hs ho h _
  · split at h
    · cases h
    · exact came_alloc hs ho h
  · split at h
    · cases h
    · exact came_box hs hb ho h
  · exact came_build hb hs ho h _
  · exact came_load hs ho h hes
  · exact came_nil hs ho h hes _
  · exact came_bin hs ho h hes _
  · exact came_un hs ho h _
  · exact came_conv hs ho h _
  · exact came_mkif hs ho h _
  · exact came_slice hs ho h hes _
  · exact came_fieldAddr hs ho h hes _
  · exact came_field hs ho h _
  · exact came_indexAddr hs ho h hes _
  · exact came_index hs ho h hes _
  · exact came_lookup hs ho h _
  · exact came_extract hs ho h _
  · rename_i fn fs cs
    split at h
    · rename_i f h1 h2
      simp only [ev1, Option.some.injEq, Prod.mk.injEq] at h
      obtain ⟨rfl, rfl, rfl⟩ := h
      have e1 : fs = #[] := by rw [← Array.toList_inj, h1]
      have e2 : cs = #[] := by rw [← Array.toList_inj, h2]
      subst e1 e2
      refine ⟨.func (.func f) #[] #[], ?_, ?_⟩
      · simp [execOp, ho, Instr.makeFunc]
      · rfl
    · cases h
  · rename_i c
    split at h
    · rename_i x t h1 h2 h3
      have e2 : c.args = #[x] := by rw [← Array.toList_inj, h2]
      have e3 : c.argTypes = #[t] := by rw [← Array.toList_inj, h3]
      exact came_len hs (by rw [ho]; obtain ⟨c1, c2, c3⟩ := c; simp only at h1 e2 e3; rw [h1, e2, e3]) h _
    · rename_i x y h1 h2
      exact came_mm (mx := true) hs ho h1 (by rw [← Array.toList_inj, h2]) h _
    · rename_i x y h1 h2
      exact came_mm (mx := false) hs ho h1 (by rw [← Array.toList_inj, h2]) h _
    · cases h
  · cases h
end
end Go.Proofs.YtobacchojjfpfaaGreatDoor.Eng
