/-
  A reader of Go functions, part D: each operation of the model gives what its reading says.
-/
import Derived.Test.YtobacchojjfpfaaGreatDoorEngC
import Derived.Laws.CopyRow
import Derived.Laws.Cells
import Derived.WalkKit
namespace Go.Proofs.YtobacchojjfpfaaGreatDoor.Eng
set_option linter.unusedVariables false
set_option linter.unusedSimpArgs false

section
variable {P : Program} {w : World} {F : Fr} {ρ : List D} {β : Nat → Value}

theorem run_szOf {t : TypeId} {n : Nat} (h : szOf P t = some n) : (sizeOf t).run P w = .ok n w := by
  unfold szOf at h
  cases hi : P.info? t with
  | none => simp [hi] at h
  | some i => simp [hi] at h; subst h; simp [sizeOf, typeInfo, program, hi, Sem.run]
theorem run_und {t : TypeId} {d : TypeDesc} (h : P.underlying t = some d) : (underlying t).run P w = .ok d w := by
  simp [underlying, program, Sem.run, h]
theorem run_aggB {t : TypeId} {b : Bool} (h : aggB P t = some b) : (isAgg t).run P w = .ok b w := by
  unfold aggB at h
  unfold isAgg
  cases hu : P.underlying t with
  | none => simp [hu] at h
  | some d =>
    simp only [Sem.run_bind, run_und hu, Result.andThen_ok]
    cases d <;> simp [hu] at h <;> subst h <;> rfl
theorem run_zero {t : TypeId} {z : Value} (h : (P.info? t).bind (·.zero) = some z) : (zeroValue t).run P w = .ok z w := by
  cases hi : P.info? t with
  | none => simp [hi] at h
  | some i => simp [hi] at h; simp [zeroValue, typeInfo, program, hi, h, Sem.run]

/-- Cells from off on, loaded as a value of type t. -/
theorem pick_load {t : TypeId} {cs : List C} {vs : List Value} {off : Nat} {sv : SV} (h : pickCells P t cs off = some sv) (hl : RCL P w F ρ β cs vs) {b o : Nat}
    (hc : ∀ j v, vs[j]? = some v → w.cell? ⟨b, o + j, none⟩ = some v) : ∃ v, (loadVar t ⟨b, o + off, none⟩).run P w = .ok v w ∧ RV P w F ρ β sv v := by
  unfold pickCells at h
  split at h
  · rename_i n ha hn
    split at h
    · rename_i hle
      simp at h; subst h
      refine ⟨.agg ((vs.drop off).take n).toArray, ?_, _, rfl, (hl.drop off).take n⟩
      have hlen : ((vs.drop off).take n).length = n := by simp; have := hl.1; omega
      have := run_loadCells_list (P := P) w ⟨b, o + off, none⟩ ((vs.drop off).take n) (fun j v hv => by
        rw [List.getElem?_take] at hv
        split at hv
        · rw [List.getElem?_drop] at hv
          rw [addr_add, Nat.add_assoc]
          exact hc _ _ hv
        · cases hv)
      rw [hlen] at this
      simp [loadVar, run_aggB ha, run_szOf hn, this]
    · cases h
  · rename_i ha hn
    cases hi : cs[off]? with
    | none => simp [hi] at h
    | some c =>
      simp [hi] at h; subst h
      have hlt : off < vs.length := by rw [← hl.1]; exact (List.getElem?_eq_some_iff.1 hi).1
      have hv : vs[off]? = some vs[off] := List.getElem?_eq_getElem hlt
      exact ⟨vs[off], by simp [loadVar, run_aggB ha, load, Sem.run, hc off _ hv], hl.2 off c _ hi hv⟩
  · cases h
/-- The same of a value at hand. -/
theorem pick_part {t : TypeId} {cs : List C} {vs : List Value} {off : Nat} {sv : SV} (h : pickCells P t cs off = some sv) (hl : RCL P w F ρ β cs vs) :
    ∃ v, (part t vs.toArray off).run P w = .ok v w ∧ RV P w F ρ β sv v := by
  unfold pickCells at h
  split at h
  · rename_i n ha hn
    split at h
    · rename_i hle
      simp at h; subst h
      refine ⟨.agg ((vs.drop off).take n).toArray, ?_, _, rfl, (hl.drop off).take n⟩
      simp [part, run_aggB ha, run_szOf hn, List.take_drop, List.extract_eq_take_drop]
      try omega
    · cases h
  · rename_i ha hn
    cases hi : cs[off]? with
    | none => simp [hi] at h
    | some c =>
      simp [hi] at h; subst h
      have hlt : off < vs.length := by rw [← hl.1]; exact (List.getElem?_eq_some_iff.1 hi).1
      have hv : vs[off]? = some vs[off] := List.getElem?_eq_getElem hlt
      exact ⟨vs[off], by simp [part, run_aggB ha, hv], hl.2 off c _ hi hv⟩
  · cases h

theorem map_one {α : Type} {f : α → R} {x : Option α} {r : R} (h : x.map f = some r) : ∃ y, x = some y ∧ f y = r := by simpa [Option.map_eq_some_iff] using h
theorem mat_sound {t : Ty} {c : C} {e : E} (h : mat t c = some e) {v : Value} (hv : RC P w F ρ β c v) : Rd P w F t (den ρ e) v := by
  cases c <;> simp only [mat] at h <;> try (cases h; done)
  · split at h
    · rename_i he; simp at h; subst h; rw [he]; exact hv
    · cases h
  · rename_i e a c
    split at h
    · rename_i e'
      split at h
      · rename_i hc
        obtain ⟨rfl, rfl⟩ := hc
        simp at h; subst h
        obtain ⟨n, b, h1, h2, h3, h4⟩ := hv
        exact Rd.href h1 h2 h3 h4
      · cases h
    · cases h
  · split at h
    · simp at h; subst h; exact Rd.snil rfl hv
    · cases h
  · split at h
    · simp at h; subst h; exact Rd.pnil rfl hv
    · cases h
  · split at h
    · simp at h; subst h; exact Rd.fnil rfl hv
    · cases h
  · split at h
    · simp at h; subst h
      have e : _ = _ := hv
      exact Rd.fn (l := []) (vs := []) rfl e rfl (fun c x u h => by simp at h)
    · cases h
theorem den_strE (ρ : List D) : ∀ l, (den ρ (strE l)).toL = l.map D.str
  | [] => rfl
  | s :: l => congrArg (D.str s :: ·) (den_strE ρ l)
/-- What the operand holds. -/
theorem opV_sound {X : Cx} {st : St} {a : Act} {β : Nat → Value} (hs : Sat X ρ st F β a w) {x : Operand} {sv : SV} (h : opV st x = some sv) : RV X.P w F ρ β sv (a.eval x) := by
  cases x with
  | tmp t =>
    obtain ⟨v, hv, hr⟩ := hs.tm t sv h
    simpa [Act.eval, hv] using hr
  | const v => exact cstV_sound h
  | global g =>
    unfold opV at h
    simp only at h
    split at h
    · rename_i t s l hl
      · simp only [Option.some.injEq] at h; subst h
        rw [hs.cf.1] at hl
        have ht := hs.gx.gt g t (s :: l) hl
        obtain ⟨q1, q2⟩ := X.G.glo hs.gl g t (s :: l) hl
        have hd : (den ρ (strE (s :: l))).toL = (s :: l).map D.str := den_strE ρ (s :: l)
        refine ⟨g, 0, (s :: l).length, (s :: l).length, [.str], ?_, ht, by simp [den], by rw [hd]; simp [den], by simp [Act.eval, den]⟩
        refine Rd.slice (g := fun i c => .string ((s :: l).getD i ByteArray.empty)) rfl ht (by rw [hd]; simp) (Nat.le_refl _) q1 ?_ ?_
        · intro i c hi hc
          rw [hd, List.length_map] at hi
          have hc0 : c = 0 := by simpa using hc
          subst hc0
          have := q2 i _ (List.getElem?_eq_getElem hi)
          simpa [List.getD, List.getElem?_eq_getElem hi] using this
        · intro i c x u hx hu
          match c, hu with
          | 0, hu =>
            simp at hu; subst hu
            rw [hd, List.getElem?_map] at hx
            cases hli : (s :: l)[i]? with
            | none => rw [hli] at hx; cases hx
            | some y =>
              rw [hli] at hx
              simp at hx; subst hx
              exact Rd.str (by simp [List.getD, hli, cellOf, D.toStr])
    · cases h
  | func f => simp [opV] at h; subst h; rfl
theorem opC_sound {X : Cx} {st : St} {a : Act} {β : Nat → Value} (hs : Sat X ρ st F β a w) {x : Operand} {c : C} (h : opC st x = some c) : RC X.P w F ρ β c (a.eval x) := by
  unfold opC at h
  split at h
  · rename_i c' hc
    simp at h; subst h
    exact opV_sound hs hc
  · cases h
theorem opV_of_opC {st : St} {x : Operand} {c : C} (h : opC st x = some c) : opV st x = some (.one c) := by
  unfold opC at h
  split at h
  · simp at h; subst h; assumption
  · cases h

/-- What an operation must come to: nothing has turned but for what it makes. -/
def Came (P : Program) (w : World) (F : Fr) (ρ : List D) (β : Nat → Value) (nn : Nat) (sv : SV) (nb : Option Box) (r : Result Next) : Prop :=
  match nb with
  | none => ∃ v, r = .ok (.value v) w ∧ RV P w F ρ β sv v
  | some (.box t cs) => ∃ vs : List Value, r = .ok (.value (.pointer (some ⟨w.heap.size, 0, none⟩))) (w.alloc (.cells vs.toArray t)) ∧ sv = .one (.ptr nn 0) ∧ RCL P w F ρ β cs vs
  | some (.view t x c) => ∃ v, r = .ok (.value v) w ∧ sv = .one (.vec nn) ∧ BoxOk P w F ρ β (.view t x c) v ∧ v.oneCell' = true
  | some (.vec _ _) => False
  | some (.map _ _) => False

variable {X : Cx} {st : St} {a : Act}
theorem find_known {st : St} {e : E} {b : Bool} (h : known st e = some b) (hs : Sat X ρ st F β a w) : (den ρ e).toBool = b := by
  unfold known at h
  split at h
  · simp at h; subst h; rfl
  · cases hf : st.fs.find? (fun p => p.1 == e) with
    | none => simp [hf] at h
    | some p =>
      simp [hf] at h; subst h
      have hm := List.mem_of_find?_eq_some hf
      have he := List.find?_some hf
      simp at he; subst he
      exact hs.fs _ _ hm
theorem came_move (hs : Sat X ρ st F β a w) {x : Operand} {es : List E} {sv : SV} {nb : Option Box} (h : (opV st x).map (fun v => (([] : List E), v, (none : Option Box))) = some (es, sv, nb)) (nn : Nat) :
    Came X.P w F ρ β nn sv nb (.ok (.value (a.eval x)) w) := by
  cases hv : opV st x with
  | none => simp [hv] at h
  | some v => simp [hv] at h; obtain ⟨rfl, rfl, rfl⟩ := h; exact ⟨_, rfl, opV_sound hs hv⟩
theorem came_pick (hs : Sat X ρ st F β a w) {o : Oper} {c x y : Operand} (ho : o.op = .pick c x y) {es : List E} {sv : SV} {nb : Option Box} (h : evPick st c x y = some (es, sv, nb)) (nn : Nat) :
    Came X.P w F ρ β nn sv nb ((execOp a.eval o).run X.P w) := by
  unfold evPick at h
  split at h
  · rename_i e hc
    have hcv := (opC_sound hs hc).bool_inv
    split at h
    · rename_i hk
      have := find_known hk hs
      have hm := came_move hs h nn
      simp only [execOp, ho, hcv, this, asBool, Sem.run_bind, Sem.run_pure, Result.andThen_ok, if_true] at hm ⊢
      exact hm
    · rename_i hk
      have := find_known hk hs
      have hm := came_move hs h nn
      simp only [execOp, ho, hcv, this, asBool, Sem.run_bind, Sem.run_pure, Result.andThen_ok, Bool.false_eq_true, if_false] at hm ⊢
      exact hm
    · split at h
      · rename_i t x' cy hx hy
        obtain ⟨y', hm, e'⟩ := map_one h
        simp at e'; obtain ⟨rfl, rfl, rfl⟩ := e'
        have h1 := opC_sound hs hx
        have h2 := mat_sound hm (opC_sound hs hy)
        refine ⟨if (den ρ e).toBool = true then a.eval x else a.eval y, ?_, ?_⟩
        · simp only [execOp, ho, hcv, asBool, Sem.run_bind, Sem.run_pure, Result.andThen_ok]
        · exact rd_mkIteT (fun _ => h1) (fun _ => h2)
      · rename_i cx t y' hne hx hy
        obtain ⟨x', hm, e'⟩ := map_one h
        simp at e'; obtain ⟨rfl, rfl, rfl⟩ := e'
        have h1 := mat_sound hm (opC_sound hs hx)
        have h2 := opC_sound hs hy
        refine ⟨if (den ρ e).toBool = true then a.eval x else a.eval y, ?_, ?_⟩
        · simp only [execOp, ho, hcv, asBool, Sem.run_bind, Sem.run_pure, Result.andThen_ok]
        · exact rd_mkIteT (fun _ => h1) (fun _ => h2)
      · cases h
  · cases h
theorem came_alloc (hs : Sat X ρ st F β a w) {o : Oper} {t : TypeId} (ho : o.op = .alloc t) {es : List E} {sv : SV} {nb : Option Box} (h : (zeroCs X.P t).map (fun cs => (([] : List E), SV.one (.ptr st.nn 0), some (Box.box t cs))) = some (es, sv, nb)) :
    Came X.P w F ρ β st.nn sv nb ((execOp a.eval o).run X.P w) := by
  cases hz : zeroCs X.P t with
  | none => simp [hz] at h
  | some cs =>
    simp [hz] at h; obtain ⟨rfl, rfl, rfl⟩ := h
    obtain ⟨z, hz1, hz2⟩ := zeroCs_sound (w := w) (F := F) (ρ := ρ) (β := β) hz
    refine ⟨z.cells.toList, ?_, rfl, hz2⟩
    simp only [execOp, ho, Instr.alloc, Sem.run_bind, run_zero hz1, Result.andThen_ok]
    rfl
theorem RV.cells {sv : SV} {v : Value} {cs : List C} (h : RV P w F ρ β sv v) (hc : sv.cells = some cs) (hb : ∀ n, (β n).oneCell' = true) : ∃ vs : List Value, v.cells = vs.toArray ∧ RCL P w F ρ β cs vs := by
  cases sv with
  | one c =>
    simp [SV.cells] at hc; subst hc
    exact ⟨[v], by simpa using cells_of_one (RC.one h (fun n _ => hb n)), RCL.cons h RCL.nil⟩
  | agg cs' =>
    simp [SV.cells] at hc; subst hc
    obtain ⟨vs, rfl, hl⟩ := h
    exact ⟨vs, rfl, hl⟩
  | tup l => cases hc
theorem came_box (hs : Sat X ρ st F β a w) (hb : ∀ n, (β n).oneCell' = true) {o : Oper} {t : TypeId} {x : Operand} (ho : o.op = .box t x) {es : List E} {sv : SV} {nb : Option Box}
    (h : (match opV st x with | some v => (match v.cells with | some cs => some (([] : List E), SV.one (.ptr st.nn 0), some (Box.box t cs)) | none => none) | none => none) = some (es, sv, nb)) :
    Came X.P w F ρ β st.nn sv nb ((execOp a.eval o).run X.P w) := by
  split at h
  · rename_i v hv
    split at h
    · rename_i cs hcs
      simp at h; obtain ⟨rfl, rfl, rfl⟩ := h
      obtain ⟨vs, e, hl⟩ := (opV_sound hs hv).cells hcs hb
      refine ⟨vs, ?_, rfl, hl⟩
      simp only [execOp, ho, Instr.box, Sem.run_bind, newVar, newRow, newObj, e]
      rfl
    · cases h
  · cases h
/-- An address into a list of cells that read as data. -/
theorem rd_slice_at {e : TypeId} {d : D} {b o len cap : Nat} {ts : List Ty} (h : Rd P w F (.slice e) d (.slice (some ⟨b, o, none⟩) len cap)) (ht : cellTys P e = some ts) {i : Nat} (hi : i < d.toL.length) :
    F b ∧ ∃ g : Nat → Value, (∀ c, c < ts.length → w.cell? ⟨b, o + i * ts.length + c, none⟩ = some (g c)) ∧ ∀ c t, ts[c]? = some t → Rd P w F t (cellOf ts.length (d.toL.getD i .nil) c) (g c) := by
  cases h with
  | snil e1 e2 => rw [e1] at hi; simp at hi
  | slice e1 e2 e3 e0 e4 e5 e6 =>
    rename_i ts' g
    cases e1
    rw [e2] at ht; cases ht
    refine ⟨e4, fun c => g i c, fun c hc => e5 i c hi hc, fun c t hc => e6 i c _ t ?_ hc⟩
    rw [List.getElem?_eq_getElem hi, List.getD_eq_getElem?_getD, List.getElem?_eq_getElem hi]; rfl
/-- An element of a row of the call's own. -/
theorem vec_at {e : TypeId} {y : E} {b o len cap : Nat} {ts : List Ty} {v : Value} (h : BoxOk P w F ρ β (.vec e y) v) (hv : v = .slice (some ⟨b, o, none⟩) len cap) (hnz : 0 < len) (ht : cellTys P e = some ts) : o = 0 ∧ len = (den ρ y).toL.length ∧ len ≤ cap ∧
    ∃ xs : List Value, (∃ cur, w.heap[b]? = some (.cells cur e (0, 0)) ∧ cur.toList.take (len * ts.length) = xs ∧ cur.size = cap * ts.length) ∧ xs.length = len * ts.length ∧ ∀ i, i < len → (∀ c, c < ts.length → w.cell? ⟨b, o + i * ts.length + c, none⟩ = some (xs.getD (i * ts.length + c) undef)) ∧
      ∀ c t, ts[c]? = some t → Rd P w F t (cellOf ts.length ((den ρ y).toL.getD i .nil) c) (xs.getD (i * ts.length + c) undef) := by
  subst hv
  obtain ⟨ts', xs, hts, ⟨hl, hr⟩, hx⟩ := h
  rw [ht] at hts; cases hts
  rcases hr with ⟨⟨A, hr⟩, hn⟩ | ⟨g, cap', cur, e1, e0, hg, hle, _, hsz, htk⟩
  · exact absurd hr (by rintro h; injection h with h1 h2 h3; omega)
  · injection e1 with e1 e2 e3
    injection e1 with e1
    injection e1 with e4 e5
    subst e2 e3 e4 e5
    refine ⟨rfl, rfl, hle, xs, ⟨cur, hg, htk, hsz⟩, hl, fun i hi => ?_⟩
    have hlt : ∀ c, c < ts.length → i * ts.length + c < (den ρ y).toL.length * ts.length := by
      intro c hc
      have : (i + 1) * ts.length ≤ (den ρ y).toL.length * ts.length := Nat.mul_le_mul_right _ hi
      rw [Nat.add_mul, Nat.one_mul] at this
      omega
    refine ⟨fun c hc => ?_, fun c t hc => ?_⟩
    · have hl1 := hlt c hc
      have hcur : cur.toList[i * ts.length + c]? = xs[i * ts.length + c]? := by
        rw [← htk, List.getElem?_take, if_pos hl1]
      have hxs : i * ts.length + c < xs.length := by omega
      rw [List.getElem?_eq_getElem hxs, Array.getElem?_toList] at hcur
      simp only [World.cell?, hg, Nat.zero_add]
      simp [hcur, List.getD_eq_getElem?_getD, List.getElem?_eq_getElem hxs]
    · have hl1 := hlt c (List.getElem?_eq_some_iff.1 hc).1
      have hy : (den ρ y).toL[i]? = some ((den ρ y).toL.getD i .nil) := by rw [List.getElem?_eq_getElem hi, List.getD_eq_getElem?_getD, List.getElem?_eq_getElem hi]; rfl
      obtain ⟨u, hu1, hu2⟩ := hx i c _ t hy hc
      simp only [List.getD_eq_getElem?_getD (l := xs), hu1, Option.getD_some]
      exact hu2
theorem asH_sound {c : C} {es : List E} {t : TypeId} {x : E} {k : Nat} {v : Value} (h : asH st c = some (es, t, x, k)) (hc : F.hc = st.cf.hc) (hes : ∀ e ∈ es, (den ρ e).toBool = true) (hr : RC P w F ρ β c v) : RC P w F ρ β (.hptr t x k) v := by
  unfold asH at h
  split at h
  · cases h; exact hr
  · rename_i e x'
    split at h
    · rename_i hh
      cases h
      have hn := hes _ (List.mem_cons_self ..)
      rw [den_mkNot, den_mkIsnil] at hn
      cases hr with
      | pnil e1 e2 => rw [e1] at hn; simp at hn
      | href e1 e2 e3 e4 => exact ⟨_, _, e1, e2, e3, e4⟩
      | ptr e0 => rw [hc] at e0; rw [hh] at e0; cases e0
    · cases h
  · cases h
theorem ObjOk.one {P : Program} {w : World} {F : Fr} {S : List Nat} {t : OTy} {d : D} {v : Value} (h : OwnC P w F S t d v) : v.oneCell' = true := by
  cases h with
  | dat h => exact h.one
  | row h1 h2 h3 =>
    obtain ⟨_, ⟨⟨A, h⟩, _⟩ | ⟨g, cap, cur, h, _⟩⟩ := h2 <;> rw [h] <;> rfl
theorem exN_at {ex : List (Nat × TypeId × E)} {n c : Nat} (h : exAt ex c = false) : (exN ρ ex).contains (n, c) = false := by
  unfold exAt at h
  unfold exN
  cases hq : (ex.map fun x => ((den ρ x.2.2).toInt.toNat, x.1)).contains (n, c) with
  | false => rfl
  | true =>
    simp only [List.contains_eq_mem, List.mem_map, decide_eq_true_eq] at hq
    obtain ⟨x, hx, he⟩ := hq
    have : ex.any (fun x => x.1 == c) = true := List.any_eq_true.2 ⟨x, hx, by cases he; simp⟩
    rw [this] at h; cases h
/-- A thing of the heap. -/
theorem Sat.obj (hs : Sat X ρ st F β a w) {m : Bool} {h x : E} (hh : st.hp = some (m, h)) {n b : Nat} {t : TypeId} (hx : den ρ x = .int (n : Nat)) (hn : F.γ[n]? = some (b, t)) {os : List OTy} (hos : otys X.P st.cf.ob t = some os) :
    ∃ vs : List Value, w.heap[b]? = some (.cells vs.toArray t (0, 0)) ∧ vs.length = os.length ∧ n < (den ρ h).toL.length ∧ (den ρ (mkGet h x)).toL.length = os.length ∧ ∀ i o u, os[i]? = some o → vs[i]? = some u → u.oneCell' = true ∧ ((∃ e, o = .row e) ∧ (exN ρ st.ex).contains (n, i) = true ∨ ∃ S, OwnC X.P w F S o (den ρ (cellH (mkGet h x) i)) u) := by
  obtain ⟨φ, q1, q2⟩ := hs.hg.hp m h hh
  obtain ⟨vs, os', g, h1, h2, h3, h4, h5, h6, h7⟩ := q1.obj n b t hn
  rw [hos] at h2; cases h2
  have hlt : n < (den ρ h).toL.length := by rw [q1.len]; exact (List.getElem?_eq_some_iff.1 hn).1
  have hg : den ρ (mkGet h x) = (den ρ h).toL.getD n .nil := by
    have := den_mkGet (ρ := ρ) h x (by rw [hx]; simpa using hlt)
    rw [this, hx]; simp
  refine ⟨vs, h1, h4, hlt, by rw [hg]; exact h3, fun i o u a1 a2 => ?_⟩
  have hi : i < ((den ρ h).toL.getD n .nil).toL.length := by rw [h3]; exact (List.getElem?_eq_some_iff.1 a1).1
  have hc : ((den ρ h).toL.getD n .nil).toL[i]? = some (den ρ (cellH (mkGet h x) i)) := by
    rw [den_cellH, hg, List.getElem?_eq_getElem hi, List.getD_eq_getElem?_getD (l := ((den ρ h).toL.getD n .nil).toL), List.getElem?_eq_getElem hi]; rfl
  have := h5 i o _ u a1 hc a2
  split at this
  · rename_i he; exact ⟨this.1, .inl ⟨this.2.2, he⟩⟩
  · exact ⟨ObjOk.one this, .inr ⟨_, this⟩⟩
/-- What a name's row holds. -/
theorem rowOf_sound (hs : Sat X ρ st F β a w) {m : Nat} {e : TypeId} {y : E} (h : rowOf X.P st m = some (e, y)) : BoxOk X.P w F ρ β (.vec e y) (β m) := by
  unfold rowOf at h
  split at h
  · rename_i e' y' hb
    cases h
    exact hs.bx _ _ hb
  · rename_i t x j hb
    split at h
    · rename_i m' hh os hhp hos
      split at h
      · rename_i e' hj
        split at h
        · cases h
        · rename_i hex
          cases h
          obtain ⟨n, b, vs, v1, v2, v3, v4⟩ := hs.bx _ _ hb
          obtain ⟨vs', o1, o2, _, _, o3⟩ := hs.obj hhp v1 v2 hos
          rw [v3] at o1
          have : vs = vs' := by simpa using o1
          subst this
          rcases (o3 j _ _ hj v4).2 with ⟨_, hc⟩ | ⟨S, hc⟩
          · rw [exN_at (by simpa using hex)] at hc; cases hc
          · cases hc with
            | row h1 h2 h3 => exact ⟨_, _, h1, h2, h3⟩
      · cases h
    · cases h
  · cases h
theorem came_loadH (hs : Sat X ρ st F β a w) {o : Oper} {t : TypeId} {x : Operand} (ho : o.op = .load t x) {es0 es : List E} {tt : TypeId} {y : E} {c : Nat} {sv : SV} {nb : Option Box} (h : evLoadH X.P st t es0 tt y c = some (es, sv, nb)) (hx : RC X.P w F ρ β (.hptr tt y c) (a.eval x)) :
    Came X.P w F ρ β st.nn sv nb ((execOp a.eval o).run X.P w) := by
  unfold evLoadH at h
  obtain ⟨n, b, x1, x2, x3, x4⟩ := hx
  split at h
  · rename_i m hh os hhp hos
    obtain ⟨vs, o1, o2, _, _, o3⟩ := hs.obj hhp x2 x3 hos
    have hcell : ∀ j v, vs[j]? = some v → w.cell? ⟨b, j, none⟩ = some v := fun j v hj => by simp [World.cell?, o1, hj]
    split at h
    · rename_i e e' hj hu hsz
      split at h
      · rename_i hc
        cases h
        have hlt : c < vs.length := by rw [o2]; exact (List.getElem?_eq_some_iff.1 hj).1
        have hv : vs[c]? = some vs[c] := List.getElem?_eq_getElem hlt
        refine ⟨vs[c], ?_, rfl, ⟨n, b, vs, x2, x3, o1, hv⟩, (o3 c _ _ hj hv).1⟩
        have ha : aggB X.P t = some false := by unfold aggB; rw [hu]
        simp [execOp, ho, Instr.loadAt, x4, Instr.sureAddr, loadVar, run_aggB ha, load, Sem.run, hcell c _ hv]
      · cases h
    · obtain ⟨sv', hp, e⟩ := map_one h
      cases e
      have hl : RCL X.P w F ρ β (objCells hh os y) vs := by
        refine ⟨by simp [objCells, o2], fun j c' v hc hv => ?_⟩
        unfold objCells at hc
        rw [List.getElem?_map, List.getElem?_zipIdx] at hc
        cases ht : os[j]? with
        | none => simp [ht] at hc
        | some oj =>
          simp [ht] at hc
          obtain ⟨q1, q2⟩ := o3 j oj v ht hv
          cases oj with
          | row e => subst hc; exact q1
          | dat u =>
            subst hc
            rcases q2 with ⟨⟨e, he⟩, _⟩ | ⟨S, hc⟩
            · cases he
            · cases hc with
              | dat h => exact h
      obtain ⟨v, hv1, hv2⟩ := pick_load hp hl (b := b) (o := 0) (fun j v hj => by rw [Nat.zero_add]; exact hcell j v hj)
      rw [Nat.zero_add] at hv1
      exact ⟨v, by simp [execOp, ho, Instr.loadAt, x4, Instr.sureAddr, hv1], hv2⟩
  · cases h
/-- A pointer that is data and not nil. -/
theorem ptr_of {e : TypeId} {la : E} {v : Value} (hr : Rd P w F (.ptr e) (den ρ la) v) (hn : (den ρ (mkNot (mkIsnil la))).toBool = true) (hcl : F.hc.contains e = false) : ∃ b o, v = .pointer (some ⟨b, o, none⟩) := by
  rw [den_mkNot, den_mkIsnil] at hn
  cases hr with
  | pnil e1 e2 => rw [e1] at hn; simp at hn
  | href e0 e1 e2 e3 => rw [hcl] at e0; cases e0
  | ptr e0 e1 e2 e3 e4 e5 e6 e7 => exact ⟨_, _, e2⟩
theorem pptr_load (hs : Sat X ρ st F β a w) {tt : TypeId} {la : E} {c : Nat} {ts : List Ty} {t : TypeId} {sv' : SV} {b o' : Nat} (hts : cellTys X.P tt = some ts) (hcl : ¬ st.cf.hc.contains tt = true) (hp : pickCells X.P t (ts.zipIdx.map fun (u, j) => C.dat u (mkCell la j)) c = some sv') (h1 : Rd X.P w F (.ptr tt) (den ρ la) (.pointer (some ⟨b, o', none⟩))) :
    ∃ v, (loadVar t ⟨b, o' + c, none⟩).run X.P w = .ok v w ∧ RV X.P w F ρ β sv' v := by
  cases h1 with
  | pnil e1 e2 => cases e2
  | href e0 e1 e2 e3 => rw [hs.cf.2] at e0; exact absurd e0 hcl
  | ptr e0 e1 e2 e3 e4 e5 e6 e7 =>
    rename_i l ts' g
    cases e2
    rw [hts] at e3; cases e3
    obtain ⟨v, hv1, hv2⟩ := pick_load hp (w := w) (F := F) (ρ := ρ) (β := β) (vs := (List.range ts.length).map g) ⟨by simp, fun j c' v hc hv => by
      rw [List.getElem?_map, List.getElem?_zipIdx] at hc
      rw [List.getElem?_map] at hv
      cases ht : ts[j]? with
      | none => simp [ht] at hc
      | some tj =>
        have hlt := (List.getElem?_eq_some_iff.1 ht).1
        simp [ht] at hc
        simp [List.getElem?_range hlt] at hv
        subst hc hv
        show Rd _ _ _ _ (den ρ (mkCell la j)) _
        have hlt' : j < l.length := by omega
        have hlj : l[j]? = some l[j] := List.getElem?_eq_getElem hlt'
        rw [den_mkCell, e1]
        simp only [D.toL_agg, List.getD_eq_getElem?_getD, hlj, Option.getD_some]
        exact e7 j _ tj hlj ht⟩ (b := b) (o := o') (fun j v hj => by
      rw [List.getElem?_map] at hj
      cases hr : (List.range ts.length)[j]? with
      | none => simp [hr] at hj
      | some k =>
        have hlt := (List.getElem?_eq_some_iff.1 hr).1
        simp at hlt
        rw [List.getElem?_range hlt] at hj
        simp at hj; subst hj
        have hlt' : j < l.length := by omega
        exact e6 j _ (List.getElem?_eq_getElem hlt'))
    exact ⟨v, hv1, hv2⟩
theorem came_load (hs : Sat X ρ st F β a w) {o : Oper} {t : TypeId} {x : Operand} (ho : o.op = .load t x) {es : List E} {sv : SV} {nb : Option Box} (h : evLoad X.P st t x = some (es, sv, nb)) (hes : ∀ e ∈ es, (den ρ e).toBool = true) :
    Came X.P w F ρ β st.nn sv nb ((execOp a.eval o).run X.P w) := by
  unfold evLoad at h
  split at h
  · rename_i n off hx
    split at h
    · rename_i t' cs hb
      obtain ⟨sv', hp, e⟩ := map_one h
      cases e
      obtain ⟨b, hb1, hb2⟩ := opC_sound hs hx
      obtain ⟨b', vs, e1, e2, e3⟩ := hs.bx _ _ hb
      obtain rfl : b' = b := by rw [e1] at hb1; simpa using hb1
      obtain ⟨v, hv1, hv2⟩ := pick_load hp e3 (b := b') (o := 0) (fun j v hj => by
        rw [Nat.zero_add]
        simp [World.cell?, e2, hj])
      rw [Nat.zero_add] at hv1
      exact ⟨v, by simp [execOp, ho, Instr.loadAt, hb2, Instr.sureAddr, hv1], hv2⟩
    · cases h
  · rename_i tt la i c hx
    split at h
    · rename_i ts hts
      obtain ⟨sv', hp, e⟩ := map_one h
      cases e
      obtain ⟨b, o', len, cap, ts', h1, h2, h3, h4, h5⟩ := opC_sound hs hx
      rw [hts] at h2; cases h2
      obtain ⟨_, g, hg1, hg2⟩ := rd_slice_at h1 hts h4
      obtain ⟨v, hv1, hv2⟩ := pick_load hp (w := w) (F := F) (ρ := ρ) (β := β) (vs := (List.range ts.length).map g) ⟨by simp, fun j c' v hc hv => by
        rw [List.getElem?_map, List.getElem?_zipIdx] at hc
        rw [List.getElem?_map] at hv
        cases ht : ts[j]? with
        | none => simp [ht] at hc
        | some tj =>
          have hlt := (List.getElem?_eq_some_iff.1 ht).1
          simp [ht] at hc
          simp [List.getElem?_range hlt] at hv
          subst hc hv
          show Rd _ _ _ _ (den ρ (elCell ts.length (.get la i) j)) _
          rw [den_elCell]
          exact hg2 j tj ht⟩ (b := b) (o := o' + (den ρ i).toInt.toNat * ts.length) (fun j v hj => by
        rw [List.getElem?_map] at hj
        cases hr : (List.range ts.length)[j]? with
        | none => simp [hr] at hj
        | some k =>
          have hlt := (List.getElem?_eq_some_iff.1 hr).1
          simp at hlt
          rw [List.getElem?_range hlt] at hj
          simp at hj; subst hj
          exact hg1 j hlt)
      exact ⟨v, by simp [execOp, ho, Instr.loadAt, h5, Instr.sureAddr, hv1], hv2⟩
    · cases h
  · rename_i tt la c hx
    split at h
    · rename_i ts hts
      split at h
      · cases h
      rename_i hcl
      obtain ⟨sv', hp, e⟩ := map_one h
      cases e
      obtain ⟨b, o', h1, h5⟩ := opC_sound hs hx
      obtain ⟨v, hv1, hv2⟩ := pptr_load hs hts hcl hp h1
      exact ⟨v, by simp [execOp, ho, Instr.loadAt, h5, Instr.sureAddr, hv1], hv2⟩
    · cases h
  · rename_i n tt i c hx
    split at h
    · rename_i ts e y hts hb
      have hbx := rowOf_sound hs hb
      split at h
      · rename_i he
        subst he
        obtain ⟨sv', hp, e⟩ := map_one h
        cases e
        obtain ⟨b, o', len, cap, ts', h1, h2, h3, h4, h5⟩ := opC_sound hs hx
        rw [hts] at h2; cases h2
        obtain ⟨_, hlen, _, xs, _, _, hat⟩ := vec_at hbx h1 (Nat.lt_of_le_of_lt (Nat.zero_le _) h4) hts
        obtain ⟨hg1, hg2⟩ := hat _ h4
        obtain ⟨v, hv1, hv2⟩ := pick_load hp (w := w) (F := F) (ρ := ρ) (β := β) (vs := (List.range ts.length).map fun j => xs.getD ((den ρ i).toInt.toNat * ts.length + j) undef) ⟨by simp, fun j c' v hc hv => by
          rw [List.getElem?_map, List.getElem?_zipIdx] at hc
          rw [List.getElem?_map] at hv
          cases ht : ts[j]? with
          | none => simp [ht] at hc
          | some tj =>
            have hlt := (List.getElem?_eq_some_iff.1 ht).1
            simp [ht] at hc
            simp [List.getElem?_range hlt] at hv
            subst hc hv
            show Rd _ _ _ _ (den ρ (elCell ts.length (.get y i) j)) _
            rw [den_elCell]
            have := hg2 j tj ht
            rw [List.getD_eq_getElem?_getD (l := xs)] at this
            exact this⟩ (b := b) (o := o' + (den ρ i).toInt.toNat * ts.length) (fun j v hj => by
          rw [List.getElem?_map] at hj
          cases hr : (List.range ts.length)[j]? with
          | none => simp [hr] at hj
          | some k =>
            have hlt := (List.getElem?_eq_some_iff.1 hr).1
            simp at hlt
            rw [List.getElem?_range hlt] at hj
            simp only [Option.map_some, Option.some.injEq] at hj; subst hj
            exact hg1 j hlt)
        exact ⟨v, by simp [execOp, ho, Instr.loadAt, h5, Instr.sureAddr, hv1], hv2⟩
      · cases h
    · cases h
  · rename_i x' hx
    split at h
    · rename_i es' tt y c has
      have hh : ∀ e ∈ es', (den ρ e).toBool = true := by
        have : es' = es := by
          unfold evLoadH at h
          split at h
          · split at h
            · split at h
              · cases h; rfl
              · cases h
            · obtain ⟨_, _, e⟩ := map_one h; cases e; rfl
          · cases h
        rw [this]; exact hes
      exact came_loadH hs ho h (asH_sound has hs.cf.2 hh (opC_sound hs hx))
    · split at h
      · rename_i tt la _ _ _ _
        split at h
        · rename_i ts hts
          split at h
          · cases h
          rename_i hcl
          obtain ⟨sv', hp, e⟩ := map_one h
          cases e
          have hr : Rd X.P w F (.ptr tt) (den ρ la) (a.eval x) := opC_sound hs hx
          obtain ⟨b, o', hv⟩ := ptr_of hr (hes _ (List.mem_singleton.2 rfl)) (by rw [hs.cf.2]; simpa using hcl)
          obtain ⟨v, q1, q2⟩ := pptr_load hs hts (by simpa using hcl) (c := 0) hp (by rw [← hv]; exact hr)
          rw [Nat.add_zero] at q1
          exact ⟨v, by simp [execOp, ho, Instr.loadAt, hv, Instr.sureAddr, q1], q2⟩
        · cases h
      · cases h
  · cases h
end
end Go.Proofs.YtobacchojjfpfaaGreatDoor.Eng
