/-
  errors.Is and errors.As on data say what the library's functions do.
-/
import Derived.Test.YtnaemggpelolcaaGreatDoorAs
import Derived.Test.YtnaemggpelolcaaGreatDoorIsG
import Derived.Test.YtnaemggpelolcaaGreatDoorErrF
import Derived.Lib.ItoaNum
import Derived.Test.YtnaemggpelolcaaGreatDoorAll
import Derived.Test.YtnaemggpelolcaaGreatDoorProg
import Derived.KernelRfl
namespace Go.Proofs.YtnaemggpelolcaaGreatDoor.ErrD
open Go.RowKit Go.Proofs.YtnaemggpelolcaaGreatDoor.Eng Go.Proofs.YtnaemggpelolcaaGreatDoor Go.Proofs.YtnaemggpelolcaaGreatDoor.IsD
set_option linter.unusedVariables false
set_option linter.unusedSimpArgs false

theorem out_bool {G : Gl} {P : Program} {w : World} {F : Fr} {φ : Nat → List Nat} {R : List Nat} {b : Bool} (hF : ∀ b, F b → b < w.heap.size) : HeapOut G P w F 0 φ R [.one .bool] [.bool b] (.bool b) w F φ :=
  ⟨chg_refl _ _, Le.same fun _ _ => rfl, fun _ => rfl, fun b h => ⟨hF b h, .inl h⟩, (fun b h => by simp [rowsB, Value.parts] at h), by simp [rowsB, Value.parts], ⟨[.bool b], [], rfl, args_one (Rd.bool rfl) args_nil, rfl⟩⟩
theorem ok_is {G : Gl} (hcf : G.cf = cfg) : ∀ ps rs hm ds r, sigOf Tryz.prog G.cf 24 = some (ps, rs, hm) → isF ds = some r → Ok1 G Tryz.prog 24 ps rs hm ds r := by
  intro ps rs hm ds r hsig hr
  have hs : sigOf Tryz.prog cfg 24 = some ([.one .ifc, .one .ifc], [.one .bool], 0) := by kernel_rfl
  rw [hcf, hs] at hsig
  simp only [Option.some.injEq, Prod.mk.injEq] at hsig
  obtain ⟨rfl, rfl, rfl⟩ := hsig
  unfold isF at hr
  split at hr
  · rename_i u k
    split at hr
    · rename_i hu
      subst hu
      simp only [Option.some.injEq] at hr
      subst hr
      intro w Ft vs φ d0 hd hds hin ha
      obtain rfl : hd = [] := hin.h0 rfl
      rw [List.append_nil] at hds
      subst hds
      obtain ⟨_, _, v0, _, e1, e2, h0, _, _, v1, _, e3, e4, h1, e5, e6⟩ := ha
      cases e1; cases e3; subst e2 e4
      have q0 := nil_case h0
      have q1 := rd_codeV h1
      subst q0 q1 e6
      refine (is_nil k w).mono ?_
      rintro e w' ⟨rfl, rfl⟩
      exact ⟨_, Ft, φ, rfl, out_bool hin.f⟩
    · cases hr
  · rename_i t x u k
    split at hr
    · rename_i hu
      subst hu
      cases hb : isN 100 (.iface t x) k with
      | none =>
        rw [hb] at hr; cases hr
      | some b =>
        rw [hb] at hr
        simp only [Option.map_some, Option.some.injEq] at hr
        subst hr
        intro w Ft vs φ d0 hd hds hin ha
        obtain rfl : hd = [] := hin.h0 rfl
        rw [List.append_nil] at hds
        subst hds
        obtain ⟨_, _, v0, _, e1, e2, h0, _, _, v1, _, e3, e4, h1, e5, e6⟩ := ha
        cases e1; cases e3; subst e2 e4
        have q1 := rd_codeV h1
        subst q1 e6
        refine (IsD.is_some k w Ft b 100 t x v0 hb h0).mono ?_
        rintro e w' ⟨rfl, rfl⟩
        exact ⟨_, Ft, φ, rfl, out_bool hin.f⟩
    · cases hr
  · cases hr
open Go.Proofs.YtnaemggpelolcaaGreatDoor.AsD
/-- errors.errorType is as it was laid. -/
def typeOk (w : World) : Prop := w.cell? ⟨0, 0, none⟩ = some (.iface 102 (.agg #[.pointer (some ⟨9, 27, none⟩)]))
def maxOk (w : World) (F : Fr) : Prop := F 1 ∧ ∃ m, w.cell? ⟨1, 0, none⟩ = some (.int .i64 m)
def tabOk (w : World) (F : Fr) : Prop := F 2 ∧ w.var? Tryz.prog "internal/strconv.uint64pow10" = some (Go.Lib.pow10Tab.map fun z => Value.int .u64 z).toArray
def strOk (w : World) (F : Fr) : Prop := maxOk w F ∧ tabOk w F
theorem strOk_mono {w w' : World} {F F' : Fr} (h : Le w F w' F') (q : strOk w F) : strOk w' F' := by
  refine ⟨?_, ?_⟩
  · obtain ⟨m, hm⟩ := q.1.2
    exact ⟨(h.b _ q.1.1).1, m, by rw [cell?_of_heap (h.b _ q.1.1).2]; exact hm⟩
  · refine ⟨(h.b _ q.2.1).1, ?_⟩
    have hn : Tryz.prog.globalNamed "internal/strconv.uint64pow10" = some 2 := by kernel_rfl
    have := q.2.2
    unfold World.var? at this ⊢
    rw [hn] at this ⊢
    simp only [Option.bind_some] at this ⊢
    rw [(h.b _ q.2.1).2]; exact this
def gl : Gl where
  cf := cfg
  ok := fun w F => ((F 0 ∧ typeOk w) ∧ GsOk cfg.gs w F) ∧ strOk w F
  mono := fun {w w' F F'} h q => ⟨⟨⟨(h.b _ q.1.1.1).1, by unfold typeOk; rw [cell?_of_heap (h.b _ q.1.1.1).2]; exact q.1.1.2⟩, GsOk.mono h q.1.2⟩, strOk_mono h q.2⟩
  glo := fun q => q.1.2
/-- A variable of one cell, in the heap. -/
theorem var_of {P : Program} {w : World} {F : Fr} {ob : List (Nat × Nat)} {h : D} {φ : Nat → List Nat} (q : HpOk P w F ob h [] φ) {n b : Nat} {t : TypeId} (hn : F.γ[n]? = some (b, t)) {ty : Ty} (ht : cellTys P t = some [ty]) (hty : ∀ c m, otyOf m c ty = .dat ty) :
    ∃ old, w.heap[b]? = some (.cells #[old] t (0, 0)) ∧ n < h.toL.length ∧ b ∈ φ n ∧ ∀ k, k ∈ φ n → k = b := by
  obtain ⟨vs, os, g, h1, h2, h3, h4, h5, h6, h7, h8⟩ := q.obj n b t hn
  have hos : os = [.dat ty] := by
    unfold otys at h2
    rw [ht] at h2
    simp only [Option.map_some, Option.some.injEq] at h2
    rw [← h2]
    simp [hty]
  subst hos
  match vs, h4 with
  | [old], _ =>
    have hlen := q.len
    have hγ := (List.getElem?_eq_some_iff.1 hn).1
    refine ⟨old, h1, by omega, (h6 b).2 (.inl rfl), fun k hk => ?_⟩
    rcases (h6 k).1 hk with rfl | ⟨i, hi, hki⟩
    · rfl
    · exfalso
      have hi0 : i = 0 := by simpa using hi
      subst hi0
      match hd : (h.toL.getD n .nil).toL, h3 with
      | [x], _ =>
        have := h5 0 (.dat ty) x old rfl (by rw [hd]; rfl) rfl
        simp only [List.contains_nil, Bool.false_eq_true, if_false] at this
        generalize hg : g 0 = g0 at this hki
        cases this
        cases hki
theorem href_inv {P : Program} {w : World} {F : Fr} {e : TypeId} {n : Int} {v : Value} (h : Rd P w F (.ptr e) (.int n) v) : ∃ (m b : Nat), n = (m : Nat) ∧ F.γ[m]? = some (b, e) ∧ v = .pointer (some ⟨b, 0, none⟩) := by
  cases h with
  | pnil z _ => cases z
  | href _ z1 z2 z3 => cases z1; exact ⟨_, _, rfl, z2, z3⟩
  | ptr _ z1 _ _ _ _ _ _ => cases z1
theorem out_none {G : Gl} {P : Program} {w w' : World} {F : Fr} {φ : Nat → List Nat} {R : List Nat} {h : D} (hF : ∀ b, F b → b < w.heap.size) (q : HpOk P w F G.cf.ob h [] φ) (hb : Below w.heap.size w w') : HeapOut G P w F 2 φ R [.one .bool] [.bool false, h] (.bool false) w' F φ :=
  ⟨chg_of_below hb, Le.same fun b h => hb.block b (hF b h), (fun h => absurd h (by omega)), fun b h => ⟨Nat.lt_of_lt_of_le (hF b h) hb.size, .inl h⟩, (fun b h => by simp [rowsB, Value.parts] at h), by simp [rowsB, Value.parts],
    ⟨[.bool false], [h], rfl, args_one (Rd.bool rfl) args_nil, by
      rw [if_pos rfl]
      refine ⟨h, rfl, q.mono (Le.same fun b h => hb.block b (hF b h)) rfl fun n k hk => ⟨hb.block k (q.far n k hk).1, Nat.lt_of_lt_of_le (q.far n k hk).1 hb.size, (q.far n k hk).2⟩, fun n k hk => .inr (mem_may.2 (.inl ⟨rfl, (mem_foot q.out).2 ⟨n, hk⟩⟩))⟩⟩⟩
theorem out_found {G : Gl} {P : Program} {w w2 : World} {F : Fr} {φ : Nat → List Nat} {R : List Nat} {h x : D} {u : Value} {n b : Nat} {t : TypeId} {ty : Ty} (hF : ∀ b, F b → b < w.heap.size) (q : HpOk P w F G.cf.ob h [] φ) (hn : F.γ[n]? = some (b, t)) (ht : cellTys P t = some [ty]) (hty : ∀ c m, otyOf m c ty = .dat ty)
    (hg : ∀ (n b : Nat) (t : TypeId), F.γ[n]? = some (b, t) → b < w.heap.size ∧ ¬ F b) (hb : Below w.heap.size w w2) (hu : Rd P w2 F ty x u) : HeapOut G P w F 2 φ R [.one .bool] [.bool true, .agg (h.toL.set n (.agg [x]))] (.bool true) (w2.setCell ⟨b, 0, none⟩ u) F (fun n' => if n' = n then [b] else φ n') := by
  obtain ⟨old, hold, hlt, hbm, honly⟩ := var_of q hn ht hty
  have hgb := hg n b t hn
  have hset : ∀ k, k ≠ b → (w2.setCell ⟨b, 0, none⟩ u).heap[k]? = w2.heap[k]? := fun k hk => Below.heap_setCell w2 ⟨b, 0, none⟩ u k hk
  have hkeep : ∀ k, k < w.heap.size → k ≠ b → (w2.setCell ⟨b, 0, none⟩ u).heap[k]? = w.heap[k]? := fun k h1 h2 => (hset k h2).trans (hb.block k h1)
  have hsz : (w2.setCell ⟨b, 0, none⟩ u).heap.size = w2.heap.size := by simp [World.setCell]
  have hle2 : Le w2 F (w2.setCell ⟨b, 0, none⟩ u) F := Le.same fun k hk => hset k (fun e => hgb.2 (e ▸ hk))
  have hle : Le w F (w2.setCell ⟨b, 0, none⟩ u) F := Le.same fun k hk => hkeep k (hF k hk) (fun e => hgb.2 (e ▸ hk))
  have hnew : (w2.setCell ⟨b, 0, none⟩ u).heap[b]? = some (.cells #[u] t (0, 0)) := by
    have h2 : w2.heap[b]? = some (.cells #[old] t (0, 0)) := (hb.block b hgb.1).trans hold
    simp [World.setCell, Array.getElem?_modify, h2]
  refine ⟨⟨hb.os, hb.tape, hb.output, by rw [hsz]; exact hb.size, fun k h1 h2 => hkeep k h1 ?_⟩, hle, (fun h => absurd h (by omega)), fun k hk => ⟨by rw [hsz]; exact Nat.lt_of_lt_of_le (hF k hk) hb.size, .inl hk⟩, (fun b h => by simp [rowsB, Value.parts] at h), by simp [rowsB, Value.parts],
    ⟨[.bool true], [.agg (h.toL.set n (.agg [x]))], rfl, args_one (Rd.bool rfl) args_nil, ?_⟩⟩
  · rintro rfl
    exact h2 (mem_may.2 (.inl ⟨rfl, (mem_foot q.out).2 ⟨n, hbm⟩⟩))
  · rw [if_pos rfl]
    refine ⟨_, rfl, q.turn hn rfl (S := [b]) hle (by rw [hsz]; exact hb.size) ?_ (fun _ _ _ => rfl) ?_ ?_, ?_⟩
    · intro n' k hne hk
      exact hkeep k (q.far n' k hk).1 (fun e => by subst e; exact hne (q.dis n' n k hk hbm))
    · refine ⟨[u], [.dat ty], fun _ => [], hnew, ?_, rfl, rfl, ?_, by simp, by simp, by simp⟩
      · unfold otys; rw [ht]; simp [hty]
      · intro i o y z h1 h2 h3
        match i, h1, h2, h3 with
        | 0, h1, h2, h3 =>
          simp at h1 h2 h3
          subst h1 h2 h3
          simp only [List.contains_nil, Bool.false_eq_true, if_false]
          exact .dat (hu.mono hle2)
        | i + 1, h1, _, _ => simp at h1
    · intro k hk
      obtain rfl := List.mem_singleton.1 hk
      exact .inl hbm
    · intro n' k hk
      split at hk
      · obtain rfl := List.mem_singleton.1 hk
        exact .inr (mem_may.2 (.inl ⟨rfl, (mem_foot q.out).2 ⟨n, hbm⟩⟩))
      · exact .inr (mem_may.2 (.inl ⟨rfl, (mem_foot q.out).2 ⟨n', hk⟩⟩))
theorem ifc_ptr {P : Program} {w : World} {F : Fr} {u : Nat} {e : TypeId} {d : D} {v : Value} (h : Rd P w F .ifc (.iface u d) v) (ht : tyOf P u = some (.ptr e)) : ∃ v', v = .iface u v' ∧ Rd P w F (.ptr e) d v' := by
  cases h with
  | inil e _ => cases e
  | iface e1 e2 e3 e4 h5 =>
    cases e1
    rw [ht] at e3; cases e3
    exact ⟨_, e2, h5⟩
theorem cell_of_var {w : World} {b : Nat} {t : TypeId} {old : Value} (h : w.heap[b]? = some (.cells #[old] t (0, 0))) : w.cell? ⟨b, 0, none⟩ = some old ∧ w.frozen? ⟨b, 0, none⟩ = false := by
  simp [World.cell?, World.frozen?, h]
theorem ok_as : ∀ ps rs hm ds r, sigOf Tryz.prog gl.cf 23 = some (ps, rs, hm) → asFn ds = some r → Ok1 gl Tryz.prog 23 ps rs hm ds r := by
  intro ps rs hm ds r hsig hr
  have hs : sigOf Tryz.prog cfg 23 = some ([.one .ifc, .one .ifc], [.one .bool], 2) := by kernel_rfl
  have hsig' : sigOf Tryz.prog cfg 23 = some (ps, rs, hm) := hsig
  rw [hs] at hsig'
  simp only [Option.some.injEq, Prod.mk.injEq] at hsig'
  obtain ⟨rfl, rfl, rfl⟩ := hsig'
  intro w Ft vs φ d0 hd hds hin ha
  obtain ⟨h, e0, hq⟩ := hin.h12 (.inr rfl)
  subst e0
  obtain ⟨x, _, v0, _, e1, e2, h0, y, _, v1, _, e3, e4, h1, e5, e6⟩ := ha
  subst e3 e1 e4 e2 e5 e6
  obtain ⟨⟨⟨hok0, htype⟩, _⟩, _⟩ := hin.ok
  simp only [List.cons_append, List.nil_append] at hds
  subst hds
  unfold asFn at hr
  split at hr
  · rename_i u n h' heq
    simp only [List.cons.injEq, and_true] at heq
    obtain ⟨rfl, rfl, rfl⟩ := heq
    simp only [Option.some.injEq] at hr
    subst hr
    have q0 := nil_case h0
    subst q0
    refine (AsD.as_nil v1 w).mono ?_
    rintro e w' ⟨rfl, rfl⟩
    exact ⟨_, Ft, φ, rfl, out_none hin.f hq (Below.refl _ _)⟩
  · rename_i t x' u n h' heq
    simp only [List.cons.injEq, and_true] at heq
    obtain ⟨rfl, rfl, rfl⟩ := heq
    split at hr
    · rename_i hu
      subst hu
      cases hb : asF 100 (.iface t x') with
      | none => rw [hb] at hr; cases hr
      | some b =>
        rw [hb] at hr
        obtain ⟨v', rfl, hv'⟩ := ifc_ptr h1 (e := 58) (by kernel_rfl)
        obtain ⟨m, bk, rfl, hm, rfl⟩ := href_inv hv'
        obtain ⟨old, hold, hlt, hbm, honly⟩ := var_of hq hm (ty := .ptr 62) (by kernel_rfl) (fun _ _ => rfl)
        obtain ⟨hc, hf⟩ := cell_of_var hold
        refine (AsD.as_someF ⟨bk, 0, none⟩ old w Ft b 100 t x' v0 hb h0 htype hc hf hin.f).mono ?_
        rintro e w' ⟨rfl, hleft⟩
        cases b with
        | none =>
          simp only [asRes, Option.some.injEq] at hr
          subst hr
          exact ⟨_, Ft, φ, rfl, out_none hin.f hq hleft⟩
        | some y =>
          simp only [asRes, Option.some.injEq, Int.toNat_natCast] at hr
          subst hr
          obtain ⟨w2, u, hb2, rfl, hu⟩ := hleft
          exact ⟨_, Ft, _, rfl, out_found hin.f hq hm (ty := .ptr 62) (by kernel_rfl) (fun _ _ => rfl) hin.g hb2 hu⟩
    split at hr
    · rename_i hu
      subst hu
      cases hb : asN 100 (.iface t x') with
      | none => rw [hb] at hr; cases hr
      | some b =>
        rw [hb] at hr
        obtain ⟨v', rfl, hv'⟩ := ifc_ptr h1 (e := 63) (by kernel_rfl)
        obtain ⟨m, bk, rfl, hm, rfl⟩ := href_inv hv'
        obtain ⟨old, hold, hlt, hbm, honly⟩ := var_of hq hm (ty := .ptr 66) (by kernel_rfl) (fun _ _ => rfl)
        obtain ⟨hc, hf⟩ := cell_of_var hold
        refine (AsD.as_someN ⟨bk, 0, none⟩ old w Ft b 100 t x' v0 hb h0 htype hc hf hin.f).mono ?_
        rintro e w' ⟨rfl, hleft⟩
        cases b with
        | none =>
          simp only [asRes, Option.some.injEq] at hr
          subst hr
          exact ⟨_, Ft, φ, rfl, out_none hin.f hq hleft⟩
        | some y =>
          simp only [asRes, Option.some.injEq, Int.toNat_natCast] at hr
          subst hr
          obtain ⟨w2, u, hb2, rfl, hu⟩ := hleft
          exact ⟨_, Ft, _, rfl, out_found hin.f hq hm (ty := .ptr 66) (by kernel_rfl) (fun _ _ => rfl) hin.g hb2 hu⟩
    cases hr
  · cases hr
theorem ok_base : FsOk gl Tryz.prog base := ok_addF (ok_addF (ok_none _) _ _ (ok_is rfl)) _ _ ok_as
end Go.Proofs.YtnaemggpelolcaaGreatDoor.ErrD
