/-
  A reader of Go functions, part W: append, make, stores into rows of the call's own.
-/
import Derived.Test.YtobacchojjfpfaaGreatDoorEngV
import Derived.Laws.MakeOwn
namespace Go.Proofs.YtobacchojjfpfaaGreatDoor.Eng
open Go.RowKit
set_option linter.unusedVariables false
set_option linter.unusedSimpArgs false

theorem den_mkApp {ρ : List D} : ∀ (c d : E), (den ρ (mkApp c d)).toL = (den ρ c).toL ++ (den ρ d).toL := by
  intro c
  induction c with
  | lnil => intro d; simp [mkApp, den]
  | lcons a b _ ih => intro d; simp [mkApp, den, ih]
  | _ => intro d; unfold mkApp; split <;> simp_all [den]
theorem rowOk_spec {P : Program} {e : TypeId} {bytes : Nat} (h : rowOk P e = some bytes) : ∃ i z ts, P.info? e = some i ∧ i.zero = some z ∧ cellTys P e = some ts ∧ z.cells.size = i.size ∧ 0 < i.size ∧ ts.length = i.size ∧ i.bytes = bytes := by
  unfold rowOk at h
  split at h
  · rename_i i ts hi hts
    split at h
    · rename_i z hz
      split at h
      · rename_i hc
        simp at h
        exact ⟨i, z, ts, hi, hz, hts, hc.1, hc.2.1, hc.2.2, h⟩
      · cases h
    · cases h
  · cases h
theorem most_bytes {n bytes : Nat} (h : n ≤ mostOf bytes) : n * bytes ≤ 140737488355328 ∧ n ≤ 140737488355328 := by
  unfold mostOf at h
  have hp : 0 < max bytes 1 := by omega
  have h1 := (Nat.le_div_iff_mul_le hp).1 h
  have h2 : n * bytes ≤ n * max bytes 1 := Nat.mul_le_mul_left _ (by omega)
  have h3 : n * 1 ≤ n * max bytes 1 := Nat.mul_le_mul_left _ (by omega)
  omega
section
variable {P : Program} {w : World} {F : Fr} {ρ : List D} {β : Nat → Value}
/-- Cells in a row read as the elements of d. -/
def Elems (P : Program) (w : World) (F : Fr) (ts : List Ty) (d : D) (xs : List Value) : Prop :=
  ∀ i c y t, d.toL[i]? = some y → ts[c]? = some t → ∃ u, xs[i * ts.length + c]? = some u ∧ Rd P w F t (cellOf ts.length y c) u
theorem Elems.one {ts : List Ty} {d : D} {xs : List Value} (h : Elems P w F ts d xs) (hl : xs.length = d.toL.length * ts.length) : ∀ u ∈ xs, u.oneCell' = true := by
  intro u hu
  obtain ⟨j, hj⟩ := List.getElem?_of_mem hu
  have hlt := (List.getElem?_eq_some_iff.1 hj).1
  have hp : 0 < ts.length := by
    rcases Nat.eq_zero_or_pos ts.length with h0 | h0
    · rw [hl, h0] at hlt; simp at hlt
    · exact h0
  have hi : j / ts.length < d.toL.length := by
    rw [Nat.div_lt_iff_lt_mul hp]; omega
  have hc : j % ts.length < ts.length := Nat.mod_lt _ hp
  obtain ⟨u', h1, h2⟩ := h (j / ts.length) (j % ts.length) _ _ (List.getElem?_eq_getElem hi) (List.getElem?_eq_getElem hc)
  have he : j / ts.length * ts.length + j % ts.length = j := by rw [Nat.mul_comm]; exact Nat.div_add_mod j ts.length
  rw [he, hj] at h1
  cases h1
  exact h2.one
theorem idx_lt {n len i c : Nat} (hi : i < len) (hc : c < n) : i * n + c < len * n := by
  have : (i + 1) * n ≤ len * n := Nat.mul_le_mul_right _ hi
  rw [Nat.add_mul, Nat.one_mul] at this
  omega
theorem rd_row {e : TypeId} {d : D} {v : Value} (h : Rd P w F (.slice e) d v) {ts : List Ty} (ht : cellTys P e = some ts) : ∃ A cap, ∃ xs : List Value, v = .slice A d.toL.length cap ∧ xs.length = d.toL.length * ts.length ∧ Row w A xs ∧ Elems P w F ts d xs := by
  cases h with
  | snil e1 e2 => exact ⟨_, _, [], by rw [e2, e1]; rfl, by rw [e1]; simp, .inl rfl, fun i c y t h => by rw [e1] at h; simp at h⟩
  | slice e1 e2 e3 e0 e4 e5 e6 =>
    rename_i b o len cap ts' g
    rw [ht] at e2; cases e2
    subst e3
    refine ⟨_, cap, (List.range (d.toL.length * ts.length)).map fun j => g (j / ts.length) (j % ts.length), e1, by simp, .inr ⟨b, o, rfl, fun j u hj => ?_⟩, fun i c y t hy hc => ?_⟩
    · rw [List.getElem?_map] at hj
      cases hr : (List.range (d.toL.length * ts.length))[j]? with
      | none => simp [hr] at hj
      | some k =>
        have hlt := (List.getElem?_eq_some_iff.1 hr).1
        simp only [List.length_range] at hlt
        rw [List.getElem?_range hlt] at hj
        simp only [Option.map_some, Option.some.injEq] at hj
        subst hj
        have hp : 0 < ts.length := by
          rcases Nat.eq_zero_or_pos ts.length with h0 | h0
          · rw [h0] at hlt; simp at hlt
          · exact h0
        have hi : j / ts.length < d.toL.length := by rw [Nat.div_lt_iff_lt_mul hp]; exact hlt
        have := e5 (j / ts.length) (j % ts.length) hi (Nat.mod_lt _ hp)
        rw [Nat.add_assoc, show j / ts.length * ts.length + j % ts.length = j by rw [Nat.mul_comm]; exact Nat.div_add_mod j ts.length] at this
        exact this
    · have hi := (List.getElem?_eq_some_iff.1 hy).1
      have hc' := (List.getElem?_eq_some_iff.1 hc).1
      have hp : 0 < ts.length := by omega
      refine ⟨g i c, ?_, e6 i c y t hy hc⟩
      rw [List.getElem?_map, List.getElem?_range (idx_lt hi hc')]
      have h1 : (i * ts.length + c) / ts.length = i := by
        rw [Nat.mul_comm, Nat.mul_add_div hp, Nat.div_eq_of_lt hc']; rfl
      have h2 : (i * ts.length + c) % ts.length = c := by
        rw [Nat.mul_comm, Nat.mul_add_mod, Nat.mod_eq_of_lt hc']
      simp [h1, h2]
theorem vec_row {e : TypeId} {y : E} {v : Value} (h : BoxOk P w F ρ β (.vec e y) v) {ts : List Ty} (ht : cellTys P e = some ts) : ∃ A cap, ∃ xs : List Value, v = .slice A (den ρ y).toL.length cap ∧ xs.length = (den ρ y).toL.length * ts.length ∧ Row w A xs ∧ Elems P w F ts (den ρ y) xs := by
  obtain ⟨ts', xs, hts, ⟨hl, hr⟩, hx⟩ := h
  rw [ht] at hts; cases hts
  rcases hr with ⟨⟨A, rfl⟩, hn⟩ | ⟨g, cap, cur, rfl, _, hg, hle, _, hsz, htk⟩
  · exact ⟨A, 0, xs, by rw [hn], hl, .inl (List.eq_nil_of_length_eq_zero (by rw [hl, hn]; simp)), hx⟩
  · refine ⟨_, cap, xs, rfl, hl, .inr ⟨g, 0, rfl, fun i u hu => ?_⟩, hx⟩
    have hi := (List.getElem?_eq_some_iff.1 hu).1
    rw [← htk, List.getElem?_take, if_pos (by omega), Array.getElem?_toList] at hu
    simp [World.cell?, hg, hu]
end
section
variable {X : Cx} {Fs : Nat → Fn} {fuel : Nat} {st : St} {ρ : List D} {L : List Fn} {Ft : Fr} {β : Nat → Value} {a : Act} {w : World}
theorem rowData_sound (hs : Sat X ρ st Ft β a w) {e : TypeId} {m : Nat} {y : Operand} {d : E} (h : rowData X.P st e m y = some d) {ts : List Ty} (ht : cellTys X.P e = some ts) :
    ∃ A cap, ∃ xs : List Value, a.eval y = .slice A (den ρ d).toL.length cap ∧ xs.length = (den ρ d).toL.length * ts.length ∧ Row w A xs ∧ Elems X.P w Ft ts (den ρ d) xs := by
  unfold rowData at h
  split at h
  · rename_i e' y' hx
    split at h
    · rename_i he
      simp at h; subst he h
      exact rd_row (opC_sound hs hx) ht
    · cases h
  · rename_i hx
    simp at h; subst h
    have hv : a.eval y = .slice none 0 0 := opC_sound hs hx
    exact ⟨none, 0, [], by rw [hv]; rfl, by simp [den], .inl rfl, fun i c y t h => by simp [den] at h⟩
  · rename_i k hx
    split at h
    · cases h
    · split at h
      · rename_i e' y' hb
        split at h
        · rename_i he
          simp at h; subst he h
          have hv : a.eval y = β k := opC_sound hs hx
          rw [hv]
          exact vec_row (rowOf_sound hs hb) ht
        · cases h
      · cases h
  · cases h
/-- The same with more variables or none. -/
def Goes (X : Cx) (Fs : Nat → Fn) (fuel : Nat) (L : List Fn) (ρ : List D) (K : St → T) (r : List D) (next : Act → World → Prop) : Prop :=
  ∀ (st' : St) (ext : List D) (Ft' : Fr) (β' : Nat → Value) (a' : Act) (w' : World), st'.nv = (ρ ++ ext).length → Sat X (ρ ++ ext) st' Ft' β' a' w' → eval Fs fuel (K st') L (ρ ++ ext) = some r → next a' w'

theorem Goes.now {K : St → T} {r : List D} {next : Act → World → Prop} (h : Goes X Fs fuel L ρ K r next) {st' : St} {Ft' : Fr} {β' : Nat → Value} {a' : Act} {w' : World} (hs : Sat X ρ st' Ft' β' a' w') (hnv : st'.nv = ρ.length) (he : eval Fs fuel (K st') L ρ = some r) : next a' w' :=
  h st' [] Ft' β' a' w' (by simpa using hnv) (by rw [List.append_nil]; exact hs) (by rw [List.append_nil]; exact he)
theorem run_append_some {P : Program} (w : World) (t ty e : TypeId) (i : TypeInfo) (ht : P.underlying t = some (.slice e)) (hi : P.info? e = some i) (b : Addr) (A : Option Addr) (m c : Nat) (hm : 0 < m) (h63 : m ≤ maxLen) (hb : m * i.bytes ≤ 140737488355328) :
    (Builtin.append_ #[t, t] ty #[.slice (some b) 0 0, .slice A m c]).run P w = (Builtin.append_ #[t, t] ty #[.slice none 0 0, .slice A m c]).run P w := by
  have hlc : ∀ w, (loadCells b 0).run P w = .ok #[] w := by
    intro w
    have := run_loadCells_list (P := P) w b [] (fun j v hj => by simp at hj)
    simpa using this
  have hn : ¬ m ≤ 0 := by omega
  have hm0 : m ≠ 0 := by omega
  have h63' : ¬ (9223372036854775807 < (m : Int)) := by simp [maxLen] at h63; omega
  have hcap : Builtin.nextslicecap m 0 = m := by unfold Builtin.nextslicecap; rw [if_pos (by omega)]
  have hbig : ¬ (m * i.bytes > 2 ^ 48) := by omega
  cases A <;> simp [Builtin.append_, run_underlying ht, sizeOf, typeInfo, hi, Builtin.lenOf, Builtin.firstCells, hn, hcap, hbig, hlc, hm0, h63']
theorem run_append_R {P : Program} (w : World) (t ty e : TypeId) (i : TypeInfo) (z : Value) (size bytes : Nat) (ht : P.underlying t = some (.slice e)) (hi : P.info? e = some i) (hz : i.zero = some z)
    (hsize : i.size = size) (hby : i.bytes = bytes) (hzs : z.cells.size = size) (hsz : 0 < size)
    (v : Value) (n : Nat) (xs : List Value) (hown : OwnR w e size v n xs)
    (A : Option Addr) (m c : Nat) (news : List Value) (hl : news.length = m * size) (hr : Row w A news) (h1 : ∀ u ∈ news, u.oneCell' = true)
    (h63 : n + m ≤ maxLen) (hbytes : (n + m) * bytes ≤ 140737488355328) :
    ∃ v' w', (Builtin.append_ #[t, t] ty #[v, .slice A m c]).run P w = .ok v' w' ∧ OwnR w' e size v' (n + m) (xs ++ news) ∧ w.grownBy w' (bk v) ∧ (bk v' = bk v ∨ bk v' = some w.heap.size) := by
  have hlx := hown.1
  rcases Nat.eq_zero_or_pos m with hm | hm
  · subst hm
    have hn0 : news = [] := List.eq_nil_of_length_eq_zero (by rw [hl]; simp)
    subst hn0
    have hfc : (Builtin.firstCells size 0 (.slice A 0 c)).run P w = .ok #[] w := by
      cases A with
      | none => simp [Builtin.firstCells]
      | some a =>
        have := run_loadCells_list (P := P) w a [] (fun j v hj => by simp at hj)
        simpa [Builtin.firstCells] using this
    refine ⟨v, w, ?_, by simpa using hown, World.grownBy.refl w _, .inl rfl⟩
    rcases hown with ⟨_, ⟨⟨B, rfl⟩, hn⟩ | ⟨g, cap, cur, rfl, hc0, hg, hle, hcm, hcs, htk⟩⟩
    · subst hn
      cases B with
      | none => simp [Builtin.append_, run_underlying ht, sizeOf, typeInfo, hi, Builtin.lenOf, hsize, hfc]
      | some b => simp [Builtin.append_, run_underlying ht, sizeOf, typeInfo, hi, Builtin.lenOf, hsize, hfc, storeCells]
    · simp [Builtin.append_, run_underlying ht, sizeOf, typeInfo, hi, Builtin.lenOf, hsize, hfc, storeCells, hle]
  · have hpos : ∀ {v' : Value} {w' : World} {ys : List Value}, w'.ownsRow 0 e size v' (n + m) ys → OwnR w' e size v' (n + m) ys ∧ bk v' = v'.ownBlock := by
      intro v' w' ys h2
      refine ⟨OwnR.of h2, ?_⟩
      obtain ⟨_, ⟨⟨B', rfl⟩, hz0⟩ | ⟨g, cap, cur, rfl, hc0, _⟩⟩ := OwnR.of h2
      · omega
      · rw [bk_slice hc0]; rfl
    rcases hown with ⟨_, ⟨⟨B, rfl⟩, hn⟩ | ⟨g, cap, cur, rfl, hc0, hg, hle, hcm, hcs, htk⟩⟩
    · subst hn
      have hx0 : xs = [] := List.eq_nil_of_length_eq_zero (by rw [hlx]; simp)
      subst hx0
      have hb0 : bk (.slice B 0 0) = none := by cases B <;> rfl
      have hnil : w.ownsRow 0 e size (.slice none 0 0) 0 [] := ⟨by simp, .inl ⟨rfl, rfl⟩⟩
      obtain ⟨v', w', hrun, h2, h3, h4, h5⟩ := run_append_row (P := P) w 0 t ty e i z size bytes ht hi hz hsize hby hzs hsz (.slice none 0 0) 0 [] hnil A m c news hl hr h1 h63 hbytes (Nat.zero_le _)
      obtain ⟨h6, h7⟩ := hpos h2
      refine ⟨v', w', ?_, h6, by rw [hb0]; exact h3, by rw [h7, hb0]; exact h5⟩
      rw [← hrun]
      cases B with
      | none => rfl
      | some b => exact run_append_some w t ty e i ht hi b A m c hm (by simpa using h63) (by rw [hby]; simpa using hbytes)
    · have hrow : w.ownsRow 0 e size (.slice (some ⟨g, 0, none⟩) n cap) n xs := ⟨hlx, .inr ⟨g, cap, cur, rfl, Nat.zero_le _, hg, hle, hcm, hcs, htk⟩⟩
      obtain ⟨v', w', hrun, h2, h3, h4, h5⟩ := run_append_row (P := P) w 0 t ty e i z size bytes ht hi hz hsize hby hzs hsz _ n xs hrow A m c news hl hr h1 h63 hbytes (Nat.zero_le _)
      obtain ⟨h6, h7⟩ := hpos h2
      exact ⟨v', w', hrun, h6, by rw [bk_slice hc0]; exact h3, by rw [h7, bk_slice hc0]; exact h5⟩
theorem grow_nv (st : St) (m : Nat) (e : TypeId) (y : E) : (st.grow m e y).nv = st.nv := rfl
theorem doAppendTo_sound {o : Oper} {x y : Operand} {t : TypeId} (ho : o.op = .call { callee := .builtin .append, args := #[x, y], argTypes := #[t, t] }) {e : TypeId} (hu : X.P.underlying t = some (.slice e)) (hd : okDst X.nt o.dst = true) {m : Nat} {c : E}
    {K : St → T} {r : List D} (he : eval Fs fuel (doAppendTo X.P st o.dst e m c y K) L ρ = some r) (hnv : st.nv = ρ.length) (hs : Sat X ρ st Ft β a w) (hm : st.bx.lookup m = some (.vec e c)) (hx : a.eval x = β m)
    {next : Act → World → Prop} {Q : Exit → Act → World → Prop} (HK : Goes X Fs fuel L ρ K r next) : o.wp X.P a w next Q := by
  unfold doAppendTo at he
  split at he
  · rename_i bytes d hrow hdat
    rw [frE_eq] at he
    simp only [eval, frSt_eq] at he
    split at he
    · rename_i hle
      obtain ⟨i, z, ts, hi, hz, hts, hz1, hz2, hz3, hby⟩ := rowOk_spec hrow
      obtain ⟨A, cap, news, n1, n2, n3, n4⟩ := rowData_sound hs hdat hts
      have hbox := hs.bx _ _ hm
      obtain ⟨ts', xs, hts', hown, hxs⟩ := hbox
      rw [hts] at hts'; cases hts'
      have hcd := den_mkApp (ρ := ρ) c d
      have hlen : ((den ρ c).toL.length + (den ρ d).toL.length : Nat) ≤ mostOf bytes := by
        have h1 : (((den ρ (mkApp c d)).toL.length : Nat) : Int) ≤ (mostOf bytes : Int) := of_decide_eq_true hle
        rw [hcd, List.length_append] at h1
        omega
      obtain ⟨hb1, hb2⟩ := most_bytes hlen
      rw [hz3] at hown n2
      obtain ⟨v', w', hrun, h2, h3, h5⟩ := run_append_R (P := X.P) w t o.type e i z i.size bytes hu hi hz rfl hby hz1 hz2 (β m) _ xs hown A _ cap news n2 n3 (n4.one (by rw [n2, hz3])) (by simp [maxLen]; omega) hb1
      have hf : Le w Ft w' Ft := Le.same fun b h => h3.block b (hs.ft b h).1 (fun hq => (hs.ft b h).2 m _ hm hq.symm)
      have hlx : xs.length = (den ρ c).toL.length * ts.length := by rw [hz3]; exact hown.1
      have hok : BoxOk X.P w' Ft ρ (updN β m v') (.vec e (mkApp c d)) v' := by
        refine ⟨ts, xs ++ news, hts, ?_, ?_⟩
        · rw [hcd, List.length_append, hz3]; exact h2
        · intro j k u t' hu' ht'
          have hk := (List.getElem?_eq_some_iff.1 ht').1
          rw [hcd] at hu'
          rcases Nat.lt_or_ge j (den ρ c).toL.length with hj | hj
          · rw [List.getElem?_append_left hj] at hu'
            obtain ⟨u', q1, q2⟩ := hxs j k u t' hu' ht'
            refine ⟨u', ?_, q2.mono hf⟩
            rw [List.getElem?_append_left (by rw [hlx]; exact idx_lt hj hk)]
            exact q1
          · rw [List.getElem?_append_right hj] at hu'
            obtain ⟨u', q1, q2⟩ := n4 (j - (den ρ c).toL.length) k u t' hu' ht'
            refine ⟨u', ?_, q2.mono hf⟩
            have hge : xs.length ≤ j * ts.length + k := by
              rw [hlx]
              have := Nat.mul_le_mul_right ts.length hj
              omega
            rw [List.getElem?_append_right hge, hlx, ← q1, Nat.sub_mul]
            congr 1
            have := Nat.mul_le_mul_right ts.length hj
            omega
      have hone : v'.oneCell' = true := by obtain ⟨_, ⟨⟨A', rfl⟩, _⟩ | ⟨g, cap, cur, rfl, _⟩⟩ := h2 <;> rfl
      have hs' := hs.grow hm hok h3 h5 hone
      have hexec : (execOp a.eval o).run X.P w = .ok (.value v') w' := by
        simp only [execOp, ho, resolve, invoke, builtin, Sem.run_bind, Sem.run_pure, Result.andThen_ok, List.map_toArray, List.map_cons, List.map_nil, hx, n1, hrun]
      unfold Oper.wp
      rw [hexec]
      simp only [Oper.upon]
      exact HK.now (hs'.put (dst := o.dst) hd (v := v') (sv := .one (.vec m)) (by show v' = _; simp [updN])) (by rw [← hnv]; rfl) he
    · cases he
  · cases he
theorem Sat.newRow (hs : Sat X ρ st Ft β a w) (hfr : st.fresh = true) {e : TypeId} {ts : List Ty} (ht : cellTys X.P e = some ts) : Sat X ρ (st.newRow e) Ft (updN β st.nn (.slice none 0 0)) a w :=
  hs.newVec hfr (Below.refl _ _) ⟨ts, [], ht, ⟨by simp [den], .inl ⟨⟨_, rfl⟩, by simp [den]⟩⟩, fun i c y t h => by simp [den] at h⟩ (fun k h => by cases h) rfl
theorem doAppend_sound {o : Oper} {x y : Operand} {t : TypeId} (ho : o.op = .call { callee := .builtin .append, args := #[x, y], argTypes := #[t, t] })
    {K : St → T} {r : List D} (he : eval Fs fuel (doAppend X.P X.nt st o.dst t x y K) L ρ = some r) (hnv : st.nv = ρ.length) (hs : Sat X ρ st Ft β a w)
    {next : Act → World → Prop} {Q : Exit → Act → World → Prop} (HK : Goes X Fs fuel L ρ K r next) : o.wp X.P a w next Q := by
  unfold doAppend at he
  split at he
  · rename_i e hu
    split at he
    · rename_i hd
      split at he
      · rename_i m hx
        split at he
        · rename_i e' c hm
          split at he
          · rename_i hee
            subst hee
            exact doAppendTo_sound ho hu hd he hnv hs hm (opC_sound hs hx) HK
          · cases he
        · rename_i ot b j hm
          split at he
          · rename_i e' c h' hro hhp
            split at he
            · rename_i hc
              obtain ⟨rfl, _⟩ := hc
              split at he
              · rename_i d hd'
                rw [frSt_eq] at he
                exact doAppendTo_sound ho hu hd he (by simp only [St.takeOut]; rw [(lose_hp _ _).2.2.2.1]; exact hnv) (hs.takeOut hm hro hhp) (by simp [St.takeOut]) (opC_sound hs hx) HK
              · cases he
            · cases he
          · cases he
        · cases he
      · rename_i hx
        split at he
        · rename_i hc
          simp only [Bool.and_eq_true] at hc
          obtain ⟨hfr, hro⟩ := hc
          cases hr : rowOk X.P e with
          | none => rw [hr] at hro; cases hro
          | some bytes =>
            obtain ⟨i, z, ts, hi, hz, hts, _⟩ := rowOk_spec hr
            have hv : a.eval x = .slice none 0 0 := opC_sound hs hx
            exact doAppendTo_sound ho hu hd he hnv (hs.newRow hfr hts) (by simp [St.newRow]) (by rw [hv]; simp [updN]) HK
        · cases he
      · cases he
    · cases he
  · cases he
theorem zeroE_spec {e : TypeId} {z : E} (h : zeroE X.P e = some z) {ts : List Ty} (hts : cellTys X.P e = some ts) : ∃ zv, (X.P.info? e).bind (·.zero) = some zv ∧ zv.cells.size = ts.length ∧ ∀ c t, ts[c]? = some t → ∃ u, zv.cells[c]? = some u ∧ ∀ w F, Rd X.P w F t (cellOf ts.length (den ρ z) c) u := by
  unfold zeroE at h
  split at h
  · rename_i zs ts' hz hts'
    rw [hts] at hts'; cases hts'
    split at h
    · rename_i es hes
      obtain ⟨zv, hz1, _⟩ := zeroCs_sound (w := default) (F := ⟨fun _ => False, [], []⟩) (ρ := ρ) (β := fun _ => .nilFunc) hz
      refine ⟨zv, hz1, ?_, ?_⟩
      · obtain ⟨zv', hz1', hz2⟩ := zeroCs_sound (w := default) (F := ⟨fun _ => False, [], []⟩) (ρ := ρ) (β := fun _ => .nilFunc) hz
        rw [hz1] at hz1'; cases hz1'
        have := (matL_sound hes hz2).2.1
        simpa using this
      · intro c t hc
        obtain ⟨zv', hz1', hz2⟩ := zeroCs_sound (w := default) (F := ⟨fun _ => False, [], []⟩) (ρ := ρ) (β := fun _ => .nilFunc) hz
        rw [hz1] at hz1'; cases hz1'
        have hl := (matL_sound hes hz2).2.1
        have hlt := (List.getElem?_eq_some_iff.1 hc).1
        have hu : zv.cells.toList[c]? = some zv.cells.toList[c] := List.getElem?_eq_getElem (by omega)
        refine ⟨zv.cells.toList[c], by rw [← Array.getElem?_toList]; exact hu, fun w F => ?_⟩
        obtain ⟨zv', hz1', hz2⟩ := zeroCs_sound (w := w) (F := F) (ρ := ρ) (β := fun _ => .nilFunc) hz
        rw [hz1] at hz1'; cases hz1'
        obtain ⟨m1, m2, m3⟩ := matL_sound hes hz2
        have hes1 : es[c]? = some es[c] := List.getElem?_eq_getElem (by omega)
        have hrd := m3 c t _ _ hc hes1 hu
        simp at h; subst h
        unfold cellOf
        by_cases h1 : ts.length = 1
        · have hc0 : c = 0 := by omega
          subst hc0
          rw [if_pos h1, if_pos h1]
          cases es with
          | nil => simp at hes1
          | cons y ys => simpa using hrd
        · rw [if_neg h1, if_neg h1, den_listE]
          simp only [D.toL_agg, List.getD_eq_getElem?_getD, List.getElem?_map, hes1]
          exact hrd
    · cases h
  · cases h
theorem doMake_sound {o : Oper} {t : TypeId} {l c : Operand} (ho : o.op = .makeSlice t l c) {K : St → T} {r : List D} (he : eval Fs fuel (doMake X.P X.nt st o.dst t l c K) L ρ = some r) (hnv : st.nv = ρ.length) (hs : Sat X ρ st Ft β a w)
    (needs_sound : ∀ {es : List E} {t : T} {r : List D}, eval Fs fuel (needs es t) L ρ = some r → (∀ e ∈ es, (den ρ e).toBool = true) ∧ eval Fs fuel t L ρ = some r)
    {next : Act → World → Prop} {Q : Exit → Act → World → Prop} (HK : Goes X Fs fuel L ρ K r next) : o.wp X.P a w next Q := by
  unfold doMake at he
  split at he
  · rename_i e hu
    split at he
    · rename_i k n k' n' bytes z hl hc hrow hz
      split at he
      · rename_i hcond
        obtain ⟨rfl, hd, hfr⟩ := hcond
        obtain ⟨hes, he2⟩ := needs_sound he
        have hge := hes _ (List.mem_cons_self ..)
        have hle := hes (mkCmp .leq n (.int (mostOf bytes))) (by simp)
        rw [den_mkCmp] at hge hle
        have hge' : (den ρ n).toInt ≥ 0 := of_decide_eq_true hge
        have hle' : (den ρ n).toInt ≤ (mostOf bytes : Int) := of_decide_eq_true hle
        obtain ⟨i, z', ts, hi, hz', hts, hz1, hz2, hz3, hby⟩ := rowOk_spec hrow
        obtain ⟨zv, q1, q2, q3⟩ := zeroE_spec (ρ := ρ) hz hts
        have hzz : zv = z' := by rw [hi] at q1; simp [hz'] at q1; exact q1.symm
        subst hzz
        have hlv := (opC_sound hs hl).int_inv
        have hcv := (opC_sound hs hc).int_inv
        have hnn : ((den ρ n).toInt.toNat : Int) = (den ρ n).toInt := by omega
        obtain ⟨hb1, hb2⟩ := most_bytes (n := (den ρ n).toInt.toNat) (bytes := bytes) (by omega)
        obtain ⟨w', hrun, hown, hg⟩ := run_make_full (P := X.P) w 0 t e i zv i.size hu hi hz' rfl k k' (den ρ n).toInt.toNat (by rw [hby, Nat.mul_comm]; omega) (by simp [maxLen]; omega) (Nat.zero_le _)
        rw [hnn] at hrun
        have hbl : Below w.heap.size w w' := ⟨hg.os, hg.tape, hg.output, hg.size, fun k hk => hg.block k hk (by simp)⟩
        have hok : BoxOk X.P w' Ft ρ β (.vec e (.rep n z)) (.slice (some ⟨w.heap.size, 0, none⟩) (den ρ n).toInt.toNat (den ρ n).toInt.toNat) := by
          refine ⟨ts, _, hts, by simp only [den, D.toL_agg, List.length_replicate, hz3]; exact OwnR.of hown, ?_⟩
          intro j c' y t' hy ht'
          simp only [den, D.toL_agg] at hy
          have hj := (List.getElem?_eq_some_iff.1 hy).1
          simp only [List.length_replicate] at hj
          rw [List.getElem?_replicate, if_pos hj] at hy
          cases hy
          obtain ⟨u, u1, u2⟩ := q3 c' t' ht'
          have hc' := (List.getElem?_eq_some_iff.1 ht').1
          refine ⟨u, ?_, u2 w' Ft⟩
          have hlt : j * ts.length + c' < (den ρ n).toInt.toNat * i.size := by rw [← hz3]; exact idx_lt hj hc'
          have hmod : (j * ts.length + c') % zv.cells.size = c' := by rw [q2, Nat.mul_comm, Nat.mul_add_mod, Nat.mod_eq_of_lt hc']
          rw [Array.getElem?_toList]
          unfold madeCells
          rw [Array.getElem?_map]
          have hr : (Array.range ((den ρ n).toInt.toNat * i.size))[j * ts.length + c']? = some (j * ts.length + c') := by
            rw [Array.getElem?_eq_getElem (by simpa using hlt)]; simp
          rw [hr]
          simp only [Option.map_some, hmod]
          rw [getElem!_pos zv.cells c' (by omega)]
          rw [Array.getElem?_eq_getElem (by omega)] at u1
          exact u1
        have hs' := hs.newVec hfr hbl hok (fun k h => by
          simp only [bk] at h
          split at h
          · cases h
          · simp at h; omega) rfl
        have hexec : (execOp a.eval o).run X.P w = .ok (.value (.slice (some ⟨w.heap.size, 0, none⟩) (den ρ n).toInt.toNat (den ρ n).toInt.toNat)) w' := by
          simp only [execOp, ho, hlv, hcv, hrun, Sem.run_bind, Sem.run_pure, Result.andThen_ok]
        unfold Oper.wp
        rw [hexec]
        simp only [Oper.upon]
        exact HK.now (hs'.put (dst := o.dst) hd (sv := .one (.vec st.nn)) (by show _ = updN β st.nn _ st.nn; simp [updN])) (by rw [← hnv]; rfl) he2
      · cases he
    · cases he
  · cases he
theorem isZero_eval {y : Option Operand} (h : isZero y = true) : y = none ∨ ∃ z k, y = some z ∧ a.eval z = .int k 0 := by
  unfold isZero at h
  split at h
  · exact .inl rfl
  · rename_i k; exact .inr ⟨_, k, rfl, rfl⟩
  · cases h
theorem doEmpty_sound {o : Oper} {t : TypeId} {x : Operand} {lo hi mx : Option Operand} (ho : o.op = .slice t x lo hi mx) (hz : (isZero lo && hi.isSome && isZero hi && mx.isSome && isZero mx) = true) {K : St → T} {r : List D} (he : eval Fs fuel (doEmpty X.P X.nt st o.dst t x K) L ρ = some r) (hnv : st.nv = ρ.length) (hs : Sat X ρ st Ft β a w)
    {next : Act → World → Prop} {Q : Exit → Act → World → Prop} (HK : Goes X Fs fuel L ρ K r next) : o.wp X.P a w next Q := by
  simp only [Bool.and_eq_true] at hz
  obtain ⟨⟨⟨⟨z1, z2⟩, z3⟩, z4⟩, z5⟩ := hz
  unfold doEmpty at he
  split at he
  · rename_i e e' la hu hx
    split at he
    · rename_i hc
      simp only [Bool.and_eq_true] at hc
      obtain ⟨⟨⟨hd, hfr⟩, hn⟩, ht⟩ := hc
      obtain ⟨n, hn⟩ := Option.isSome_iff_exists.1 hn
      obtain ⟨ts, hts⟩ := Option.isSome_iff_exists.1 ht
      have hr : Rd X.P w Ft (.slice e') (den ρ la) (a.eval x) := opC_sound hs hx
      obtain ⟨A, len, cap, hv, hlc⟩ : ∃ A len cap, a.eval x = .slice A len cap ∧ len ≤ cap := by
        cases hr with
        | snil e1 e2 => exact ⟨_, _, _, e2, Nat.zero_le _⟩
        | slice e1 e2 e3 e0 e4 e5 e6 => exact ⟨_, _, _, e1, e0⟩
      rcases isZero_eval (a := a) z3 with rfl | ⟨h, k, rfl, hh⟩
      · cases z2
      rcases isZero_eval (a := a) z5 with rfl | ⟨m, k', rfl, hm⟩
      · cases z4
      have hbounds : (Instr.sliceBounds true len cap (lo.map a.eval) (some (a.eval h)) (some (a.eval m))).run X.P w = .ok (0, 0, 0) w := by
        rcases isZero_eval (a := a) z1 with rfl | ⟨l, k'', rfl, hl⟩
        · simp [Instr.sliceBounds, hh, hm, Instr.sliceBound, asIntOf]
        · simp [Instr.sliceBounds, hh, hm, hl, Instr.sliceBound, asIntOf]
      have hrun : (execOp a.eval o).run X.P w = .ok (.value (.slice A 0 0)) w := by
        simp only [execOp, ho, Instr.sliceAt, Sem.run_bind, run_und hu, Result.andThen_ok, Instr.slice, hv, Option.map_some, hbounds, run_szOf hn, Sem.run_pure]
        simp
      have hok : BoxOk X.P w Ft ρ β (.vec e .lnil) (.slice A 0 0) := ⟨ts, [], hts, ⟨by simp [den], .inl ⟨⟨A, rfl⟩, rfl⟩⟩, fun i c y t hy => by simp [den] at hy⟩
      have hs' := hs.newVec hfr (Below.refl _ _) hok (fun k hk => by cases A <;> simp [bk] at hk) rfl
      unfold Oper.wp
      rw [hrun]
      simp only [Oper.upon]
      exact HK.now (hs'.put (dst := o.dst) hd (sv := .one (.vec st.nn)) (by show _ = updN β st.nn _ st.nn; simp [updN])) (by rw [← hnv]; rfl) he
    · cases he
  · cases he
theorem setcs_get (n : Nat) : ∀ (es : List E) (a : E) (c k : Nat), k < n → c + es.length ≤ n → (den ρ (setcs n a c es)).toL.getD k .nil = if c ≤ k ∧ k < c + es.length then den ρ (es.getD (k - c) .nil) else (den ρ a).toL.getD k .nil
  | [], a, c, k, hk, hl => by
    rw [if_neg (by rintro ⟨h1, h2⟩; simp at h2; omega), setcs]
  | e :: es, a, c, k, hk, hl => by
    simp only [List.length_cons] at hl
    simp only [setcs]
    rw [setcs_get n es _ (c + 1) k hk (by omega)]
    have hd : (den ρ (.setc n a c e)).toL.getD k .nil = if k = c then den ρ e else (den ρ a).toL.getD k .nil := by
      simp only [den, D.toL_agg]
      rw [List.getD_eq_getElem?_getD, List.getElem?_set]
      by_cases hck : c = k
      · subst hck
        simp [hk]
      · rw [if_neg hck, if_neg (Ne.symm hck), List.getElem?_map, List.getElem?_range hk]
        rfl
    by_cases h1 : c + 1 ≤ k ∧ k < c + 1 + es.length
    · rw [if_pos h1, if_pos (by simp; omega)]
      rw [show k - c = (k - (c + 1)) + 1 by omega]
      rfl
    · rw [if_neg h1, hd]
      by_cases h2 : k = c
      · subst h2
        rw [if_pos rfl, if_pos (by simp)]
        simp
      · rw [if_neg h2, if_neg (by simp; omega)]
def newEl (ts : List Ty) (y i : E) (c : Nat) (es : List E) : E := if ts.length = 1 then es.headD .nil else if c = 0 ∧ es.length = ts.length then listE es else setcs ts.length (.get y i) c es
/-- A store into an element of a row. -/
theorem store_elem {m : Nat} {e t : TypeId} {y i : E} {c : Nat} {o : Oper} {x v : Operand} (ho : o.op = .store t x v) (hs : Sat X ρ st Ft β a w) (hbox : BoxOk X.P w Ft ρ β (.vec e y) (β m)) (hx : RC X.P w Ft ρ β (.vptr m e i c) (a.eval x)) {sv : SV} (hv : opV st v = some sv) {xs : List C} (hxs : sv.cells = some xs)
    {ts : List Ty} (hts : cellTys X.P e = some ts) (hsz : szOf X.P t = some xs.length) (hcl : c + xs.length ≤ ts.length) (hpos : 0 < xs.length) {es : List E} (hes : matL ((ts.drop c).take xs.length) xs = some es) (hfar : ∀ b, bk (β m) = some b → ¬ Ft b) :
    ∃ b cs, bk (β m) = some b ∧ (execOp a.eval o).run X.P w = .ok .skip (w.setRow b cs) ∧ BoxOk X.P (w.setRow b cs) Ft ρ β (.vec e (.set y i (newEl ts y i c es))) (β m) := by
  obtain ⟨ys, hy1, hy2⟩ := (opV_sound hs hv).cells hxs hs.on
  obtain ⟨b, o', len, cap, ts', hb1, hb2, hb3, hb4, hb5⟩ := hx
  rw [hts] at hb2; cases hb2
  obtain ⟨rfl, hlen, hcap, old, ⟨cur, hcur, htk, hcsz⟩, hol, hat⟩ := vec_at hbox hb1 (Nat.lt_of_le_of_lt (Nat.zero_le _) hb4) hts
  have hlx : xs.length = ys.length := hy2.1
  obtain ⟨m1, m2, m3⟩ := matL_sound hes hy2
  have hesl : es.length = ys.length := by rw [m1, m2]
  have hoff : (den ρ i).toInt.toNat * ts.length + c + ys.length ≤ len * ts.length := by
    have : ((den ρ i).toInt.toNat + 1) * ts.length ≤ len * ts.length := Nat.mul_le_mul_right _ hb4
    rw [Nat.add_mul, Nat.one_mul] at this
    omega
  have hoc : len * ts.length ≤ cur.size := by rw [hcsz]; exact Nat.mul_le_mul_right _ hcap
  generalize hoffs : (den ρ i).toInt.toNat * ts.length + c = off at *
  have hstore : (storeCells ⟨b, off, none⟩ ys 0).run X.P w = .ok () (w.setRow b (cur.toList.take off ++ ys ++ cur.toList.drop (off + ys.length)).toArray) := by
    have := run_storeCells_at (P := X.P) b off e ys 0 cur w hcur (by omega) (by
      intro u hu
      obtain ⟨j, hj⟩ := List.getElem?_of_mem hu
      have hlt : j < xs.length := by rw [hlx]; exact (List.getElem?_eq_some_iff.1 hj).1
      exact RC.one (hy2.2 j xs[j] u (List.getElem?_eq_getElem hlt) hj) (fun n _ => hs.on n))
    simpa using this
  have hrun : (execOp a.eval o).run X.P w = .ok .skip (w.setRow b (cur.toList.take off ++ ys ++ cur.toList.drop (off + ys.length)).toArray) := by
    have hp : a.eval x = .pointer (some ⟨b, off, none⟩) := by rw [hb5]; congr 3; omega
    simp only [execOp, ho, Instr.storeAt, hp, Instr.sureAddr, storeVar, Sem.run_bind, Sem.run_pure, Result.andThen_ok, run_szOf hsz, hy1, List.size_toArray, hlx, ne_eq, not_true, if_false]
    simp only [ite_false, Sem.run_pure, Result.andThen_ok, hstore]
  have hcap0 : 0 < cap := by omega
  have hbk : bk (β m) = some b := by rw [hb1]; exact bk_slice hcap0
  have hf : Le w Ft (w.setRow b (cur.toList.take off ++ ys ++ cur.toList.drop (off + ys.length)).toArray) Ft := Le.same fun k h => heap_setRow_ne w b _ (fun e => hfar b hbk (by rw [← e]; exact h))
  let el : E := if ts.length = 1 then es.headD .nil else if c = 0 ∧ es.length = ts.length then listE es else setcs ts.length (.get y i) c es
  have hel : ∀ k, k < ts.length → cellOf ts.length (den ρ el) k = if c ≤ k ∧ k < c + es.length then den ρ (es.getD (k - c) .nil) else cellOf ts.length ((den ρ y).toL.getD (den ρ i).toInt.toNat .nil) k := by
    intro k hk
    simp only [el]
    unfold cellOf
    by_cases h1 : ts.length = 1
    · rw [if_pos h1, if_pos h1, if_pos h1]
      have hk0 : k = 0 := by omega
      subst hk0
      have hc0 : c = 0 := by omega
      subst hc0
      rw [if_pos (by omega)]
      cases es with
      | nil => simp at hesl; omega
      | cons z zs => rfl
    · rw [if_neg h1, if_neg h1, if_neg h1]
      by_cases h2 : c = 0 ∧ es.length = ts.length
      · rw [if_pos h2, den_listE, if_pos (by omega)]
        simp only [D.toL_agg, List.getD_eq_getElem?_getD, List.getElem?_map, h2.1, Nat.sub_zero]
        rw [List.getElem?_eq_getElem (by omega)]
        rfl
      · rw [if_neg h2, setcs_get ts.length es _ c k hk (by omega)]
        rfl
  have hnew : ∀ idx, idx < len * ts.length → (cur.toList.take off ++ ys ++ cur.toList.drop (off + ys.length))[idx]? = if off ≤ idx ∧ idx < off + ys.length then ys[idx - off]? else old[idx]? := by
    intro idx hidx
    have hold : old[idx]? = cur.toList[idx]? := by rw [← htk, List.getElem?_take, if_pos hidx]
    have hcl' : cur.toList.length = cur.size := by simp
    rcases Nat.lt_or_ge idx off with h1 | h1
    · rw [if_neg (by omega), List.append_assoc, List.getElem?_append_left (by simp; omega), List.getElem?_take, if_pos h1, hold]
    · rcases Nat.lt_or_ge idx (off + ys.length) with h2 | h2
      · rw [if_pos ⟨h1, h2⟩, List.getElem?_append_left (by simp; omega), List.getElem?_append_right (by simp; omega)]
        simp only [List.length_take, hcl']
        rw [Nat.min_eq_left (by omega)]
      · rw [if_neg (by omega), List.getElem?_append_right (by simp; omega), List.getElem?_drop, hold]
        congr 1
        simp only [List.length_append, List.length_take, hcl']
        omega
  have hok : BoxOk X.P (w.setRow b (cur.toList.take off ++ ys ++ cur.toList.drop (off + ys.length)).toArray) Ft ρ β (.vec e (.set y i el)) (β m) := by
    have hll : (den ρ (.set y i el)).toL.length = len := by simp [den, hlen]
    have hcl' : cur.toList.length = cur.size := by simp
    refine ⟨ts, (cur.toList.take off ++ ys ++ cur.toList.drop (off + ys.length)).take (len * ts.length), hts, ?_, ?_⟩
    · rw [hll]
      refine ⟨?_, .inr ⟨b, cap, _, hb1, hcap0, heap_setRow w b _ cur e hcur, hcap, ?_, ?_, rfl⟩⟩
      · simp only [List.length_take, List.length_append, List.length_drop, hcl']
        omega
      · obtain ⟨ts2, xs2, h21, ⟨_, h22⟩, _⟩ := hbox
        rcases h22 with ⟨⟨A, h22⟩, _⟩ | ⟨g, cap', cur', h22, _, _, _, h23, _⟩
        · rw [hb1] at h22; injection h22 with _ _ h22; omega
        · rw [hb1] at h22; injection h22 with _ _ h22; subst h22; exact h23
      · simp only [List.size_toArray, List.length_take, List.length_append, List.length_drop, hcl']
        omega
    · intro j k u t' hu' ht'
      have hk := (List.getElem?_eq_some_iff.1 ht').1
      have hj : j < len := by rw [← hll]; exact (List.getElem?_eq_some_iff.1 hu').1
      have hidx := idx_lt hj hk
      rw [List.getElem?_take, if_pos hidx, hnew _ hidx]
      simp only [den, D.toL_agg] at hu'
      have hlt : (den ρ i).toInt.toNat < (den ρ y).toL.length := by omega
      obtain ⟨hat1, hat2⟩ := hat j hj
      have hold : old[j * ts.length + k]? = some (old.getD (j * ts.length + k) undef) := by
        rw [List.getD_eq_getElem?_getD, List.getElem?_eq_getElem (by omega)]; rfl
      have hfar2 : ∀ d v, Rd X.P w Ft t' d v → Rd X.P (w.setRow b (cur.toList.take off ++ ys ++ cur.toList.drop (off + ys.length)).toArray) Ft t' d v := fun d v h => h.mono hf
      by_cases hji : (den ρ i).toInt.toNat = j
      · rw [List.getElem?_set, if_pos hji, if_pos (by omega)] at hu'
        cases hu'
        rw [hel k hk]
        by_cases hck : c ≤ k ∧ k < c + es.length
        · rw [if_pos hck, if_pos (by rw [← hoffs, hji]; omega)]
          have hkc : k - c < es.length := by omega
          have he1 : es[k - c]? = some (es.getD (k - c) .nil) := by rw [List.getD_eq_getElem?_getD, List.getElem?_eq_getElem hkc]; rfl
          have hy1' : ys[k - c]? = some ys[k - c] := List.getElem?_eq_getElem (by omega)
          have ht1 : ((ts.drop c).take xs.length)[k - c]? = some t' := by
            rw [List.getElem?_take, if_pos (by omega), List.getElem?_drop, ← ht']
            congr 1; omega
          refine ⟨ys[k - c], ?_, hfar2 _ _ (m3 (k - c) t' _ _ ht1 he1 hy1')⟩
          rw [← hy1', ← hoffs, hji]
          congr 1; omega
        · rw [if_neg hck, if_neg (by rw [← hoffs, hji]; omega), hji]
          exact ⟨_, hold, hfar2 _ _ (hat2 k t' ht')⟩
      · rw [List.getElem?_set, if_neg hji] at hu'
        have hno : ¬ (off ≤ j * ts.length + k ∧ j * ts.length + k < off + ys.length) := by
          rintro ⟨g1, g2⟩
          rcases Nat.lt_or_gt_of_ne hji with h' | h'
          · have := Nat.mul_le_mul_right ts.length h'
            rw [Nat.succ_mul] at this
            omega
          · have := Nat.mul_le_mul_right ts.length h'
            rw [Nat.succ_mul] at this
            omega
        rw [if_neg hno]
        have hy0 : (den ρ y).toL.getD j .nil = u := by rw [List.getD_eq_getElem?_getD, hu']; rfl
        exact ⟨_, hold, hfar2 _ _ (by rw [← hy0]; exact hat2 k t' ht')⟩
  exact ⟨b, _, hbk, hrun, hok⟩
theorem doStoreV_sound {o : Oper} {t : TypeId} {x v : Operand} (ho : o.op = .store t x v) (hd : o.dst = none) {K : St → T} {r : List D} (he : eval Fs fuel (doStoreV X.P st t x v K) L ρ = some r) (hnv : st.nv = ρ.length) (hs : Sat X ρ st Ft β a w)
    {next : Act → World → Prop} {Q : Exit → Act → World → Prop} (HK : Goes X Fs fuel L ρ K r next) : o.wp X.P a w next Q := by
  unfold doStoreV at he
  split at he
  · rename_i m tt i c sv hx hv
    split at he
    · rename_i e y xs ts hm hxs hts
      split at he
      · rename_i hc
        obtain ⟨rfl, hsz, hcl, hpos⟩ := hc
        split at he
        · rename_i es hes
          rw [frE_eq] at he
          obtain ⟨b, cs, hbk, hrun, hok⟩ := store_elem ho hs (hs.bx _ _ hm) (opC_sound hs hx) hv hxs hts hsz hcl hpos hes (fun b hb hf => (hs.ft b hf).2 m _ hm hb)
          unfold Oper.wp
          rw [hrun]
          simp only [Oper.upon, hd, Act.put]
          exact HK.now (hs.setVec hm hbk _ hok) (by rw [← hnv]) he
        · cases he
      · cases he
    · cases he
  · cases he
/-- Elements of a row of the call's own are written, some in a row. -/
theorem store_range (hs : Sat X ρ st Ft β a w) {m : Nat} {e : TypeId} {y : E} (hm : st.bx.lookup m = some (.vec e y)) {ts : List Ty} (hts : cellTys X.P e = some ts) {I : Nat} {d : D} {ys : List Value} (hys : ys.length = d.toL.length * ts.length) (hel : Elems X.P w Ft ts d ys) (hI : I + d.toL.length ≤ (den ρ y).toL.length) (h0 : 0 < d.toL.length) :
    ∃ b cap cs, β m = .slice (some ⟨b, 0, none⟩) (den ρ y).toL.length cap ∧ (den ρ y).toL.length ≤ cap ∧ 0 < cap ∧ (storeCells ⟨b, I * ts.length, none⟩ ys 0).run X.P w = .ok () (w.setRow b cs) ∧
      ∀ y' : E, (den ρ y').toL = (den ρ y).toL.take I ++ d.toL ++ (den ρ y).toL.drop (I + d.toL.length) → BoxOk X.P (w.setRow b cs) Ft ρ β (.vec e y') (β m) := by
  obtain ⟨ts', xs, hts', ⟨hl, hr⟩, hx⟩ := hs.bx m _ hm
  rw [hts] at hts'; cases hts'
  rcases hr with ⟨⟨A, h1⟩, h2⟩ | ⟨b, cap, cur, h1, hcap0, hcur, hle, hmx, hsz, htk⟩
  · omega
  generalize hn : ts.length = n at *
  generalize hlen : (den ρ y).toL.length = len at *
  generalize hdl : d.toL.length = dl at *
  have hcl : cur.toList.length = cur.size := by simp
  have hoc : len * n ≤ cur.size := by rw [hsz]; exact Nat.mul_le_mul_right _ hle
  have hoff : I * n + ys.length ≤ len * n := by rw [hys, ← Nat.add_mul]; exact Nat.mul_le_mul_right _ hI
  have hstore : (storeCells ⟨b, I * n, none⟩ ys 0).run X.P w = .ok () (w.setRow b (cur.toList.take (I * n) ++ ys ++ cur.toList.drop (I * n + ys.length)).toArray) := by
    have := run_storeCells_at (P := X.P) b (I * n) e ys 0 cur w hcur (by omega) (hel.one (by rw [hys, hdl, hn]))
    simpa using this
  refine ⟨b, cap, _, h1, hle, hcap0, hstore, fun y' hy' => ?_⟩
  have hbk : bk (β m) = some b := by rw [h1]; exact bk_slice hcap0
  have hf : Le w Ft (w.setRow b (cur.toList.take (I * n) ++ ys ++ cur.toList.drop (I * n + ys.length)).toArray) Ft := Le.same fun k h => heap_setRow_ne w b _ (fun e => (hs.ft k h).2 m _ hm (by rw [e]; exact hbk))
  have hll : (den ρ y').toL.length = len := by rw [hy']; simp only [List.length_append, List.length_take, List.length_drop, hdl, hlen]; omega
  refine ⟨ts, (cur.toList.take (I * n) ++ ys ++ cur.toList.drop (I * n + ys.length)).take (len * n), hts, ?_, ?_⟩
  · rw [hll, hn]
    refine ⟨?_, .inr ⟨b, cap, _, h1, hcap0, heap_setRow w b _ cur e hcur, hle, hmx, ?_, rfl⟩⟩
    · simp only [List.length_take, List.length_append, List.length_drop, hcl]
      omega
    · simp only [List.size_toArray, List.length_append, List.length_take, List.length_drop, hcl]
      omega
  · intro j k u t' hu ht'
    have hk : k < n := by rw [← hn]; exact (List.getElem?_eq_some_iff.1 ht').1
    have hj : j < len := by rw [← hll]; exact (List.getElem?_eq_some_iff.1 hu).1
    have hidx := idx_lt hj hk
    rw [hn, List.getElem?_take, if_pos hidx]
    rw [hy'] at hu
    have hxl : xs.length = len * n := hl
    rcases Nat.lt_or_ge j I with hjI | hjI
    · have hu' : (den ρ y).toL[j]? = some u := by
        rw [List.append_assoc, List.getElem?_append_left (by simp; omega), List.getElem?_take, if_pos hjI] at hu
        exact hu
      obtain ⟨z, z1, z2⟩ := hx j k u t' hu' ht'
      refine ⟨z, ?_, z2.mono hf⟩
      rw [← htk, List.getElem?_take, if_pos hidx] at z1
      have := idx_lt hjI hk
      rw [List.append_assoc, List.getElem?_append_left (by simp; omega), List.getElem?_take, if_pos this]
      exact z1
    · rcases Nat.lt_or_ge j (I + dl) with hjd | hjd
      · have hu' : d.toL[j - I]? = some u := by
          rw [List.getElem?_append_left (by simp; omega), List.getElem?_append_right (by simp; omega)] at hu
          simp only [List.length_take, hlen] at hu
          rw [Nat.min_eq_left (by omega)] at hu
          exact hu
        obtain ⟨z, z1, z2⟩ := hel (j - I) k u t' hu' ht'
        refine ⟨z, ?_, by rw [hn] at z2; exact z2.mono hf⟩
        rw [hn] at z1
        have h3 := (List.getElem?_eq_some_iff.1 z1).1
        have h4 : (j - I) * n + I * n = j * n := by rw [← Nat.add_mul]; congr 1; omega
        rw [List.getElem?_append_left (by simp; omega), List.getElem?_append_right (by simp; omega), ← z1]
        simp only [List.length_take, hcl]
        rw [Nat.min_eq_left (by omega)]
        congr 1; omega
      · have hu' : (den ρ y).toL[j]? = some u := by
          rw [List.getElem?_append_right (by simp; omega), List.getElem?_drop] at hu
          rw [← hu]
          congr 1
          simp only [List.length_append, List.length_take, hdl, hlen]
          omega
        obtain ⟨z, z1, z2⟩ := hx j k u t' hu' ht'
        refine ⟨z, ?_, z2.mono hf⟩
        rw [← htk, List.getElem?_take, if_pos hidx] at z1
        have h3 := Nat.mul_le_mul_right n hjd
        rw [Nat.add_mul] at h3
        rw [List.getElem?_append_right (by simp; omega), List.getElem?_drop, ← z1]
        congr 1
        simp only [List.length_append, List.length_take, hcl]
        omega
theorem den_mkAppE (c d : E) : (den ρ (mkAppE c d)).toL = (den ρ c).toL ++ (den ρ d).toL := by
  unfold mkAppE
  split <;> simp [den]
theorem den_winE (y i j d : E) (h0 : 0 ≤ (den ρ i).toInt) (hj : (den ρ j).toInt ≤ ((den ρ y).toL.length : Int)) : (den ρ (winE y i j d)).toL = (den ρ y).toL.take (den ρ i).toInt.toNat ++ (den ρ d).toL ++ (den ρ y).toL.drop (den ρ j).toInt.toNat := by
  unfold winE
  rw [den_mkAppE, den_mkAppE, List.append_assoc]
  congr 1
  · split
    · rename_i e; subst e; simp [den]
    · simp [den]
  · congr 1
    split
    · rename_i e; subst e; simp [den]
    · simp only [den, D.toL_agg, D.toInt_int, Int.toNat_natCast]
      rw [List.take_of_length_le (by simp)]
end
end Go.Proofs.YtobacchojjfpfaaGreatDoor.Eng
