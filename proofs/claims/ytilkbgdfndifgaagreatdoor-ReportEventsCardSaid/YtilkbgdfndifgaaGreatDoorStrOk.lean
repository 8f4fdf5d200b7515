/-
  strings.Split, strings.Join, strconv.Atoi, strconv.Itoa do what they do on data: the shelf's contracts, laid at this program.
-/
import Derived.Test.YtilkbgdfndifgaaGreatDoorGlS
import Derived.Test.YtilkbgdfndifgaaGreatDoorStrF
import Derived.Test.YtilkbgdfndifgaaGreatDoorShelf
import Derived.Test.YtilkbgdfndifgaaGreatDoorAll
namespace Go.Proofs.YtilkbgdfndifgaaGreatDoor.StrD
open Go.RowKit Go.Proofs.YtilkbgdfndifgaaGreatDoor.Eng Go.Proofs.YtilkbgdfndifgaaGreatDoor
set_option linter.unusedVariables false
set_option linter.unusedSimpArgs false
set_option linter.unusedSectionVars false


theorem chg_below {S : List Nat} {w w' : World} (h : Below w.heap.size w w') : Chg S w w' := chg_of_below h
theorem out_of_below {G : Gl} {P : Program} {w w' : World} {F : Fr} {φ : Nat → List Nat} {rs : List Sh} {r : List D} {v : Value} (hF : ∀ b, F b → b < w.heap.size) (hb : Below w.heap.size w w') (hrows : rowsB rs (Value.parts rs v) = []) (hres : Res P w' F rs r v) :
    HeapOut G P w F 0 φ [] rs r v w' F φ :=
  ⟨chg_of_below hb, Le.same fun b h => hb.block b (hF b h), fun _ => rfl, fun b h => ⟨Nat.lt_of_lt_of_le (hF b h) hb.size, .inl h⟩, (fun b h => by rw [hrows] at h; cases h), by rw [hrows]; exact List.nodup_nil, ⟨r, [], by simp, hres, rfl⟩⟩
/-- A new row of words. -/
theorem out_words {G : Gl} {P : Program} {w : World} {F : Fr} {φ : Nat → List Nat} (hF : ∀ b, F b → b < w.heap.size) (xs : List ByteArray) (t : TypeId) (ht : cellTys P t = some [.str]) (n : Nat) (hn : xs.length = n) :
    HeapOut G P w F 0 φ [] [.one (.slice t)] [.agg (xs.map .str)] (.slice (some ⟨w.heap.size, 0, none⟩) n n) (w.alloc (.cells (xs.map Value.string).toArray t)) (F.or fun b => b = w.heap.size) φ := by
  subst hn
  have hb : Below w.heap.size w (w.alloc (.cells (xs.map Value.string).toArray t)) := (Below.refl _ _).alloc (Nat.le_refl _) _
  refine ⟨chg_of_below hb, ⟨fun b h => ⟨.inl h, hb.block b (hF b h)⟩, List.prefix_refl _, rfl⟩, fun _ => rfl, ?_, (fun b h => by simp [rowsB, Value.parts] at h), by simp [rowsB, Value.parts], ⟨_, [], rfl, args_one ?_ args_nil, rfl⟩⟩
  · rintro b (h | rfl)
    · exact ⟨Nat.lt_of_lt_of_le (hF b h) hb.size, .inl h⟩
    · exact ⟨by simp, .inr (.inl (Nat.le_refl _))⟩
  · refine Rd.slice (g := fun i c => .string (xs.getD i ByteArray.empty)) rfl ht (by simp [D.toL]) (Nat.le_refl _) (.inr rfl) ?_ ?_
    · intro i c hi hc
      have hc0 : c = 0 := by simpa using hc
      subst hc0
      have hi' : i < xs.length := by simpa [D.toL] using hi
      rw [World.cell?_alloc_new]
      simp [List.getD, hi']
    · intro i c x u hx hu
      match c, hu with
      | 0, hu =>
        simp at hu; subst hu
        rw [show (D.agg (xs.map D.str)).toL = xs.map D.str from rfl, List.getElem?_map] at hx
        cases hli : xs[i]? with
        | none => rw [hli] at hx; cases hx
        | some y =>
          rw [hli] at hx
          simp at hx; subst hx
          exact Rd.str (by simp [List.getD, hli, cellOf, D.toStr])

theorem itoa_c (n : Int) (h0 : -9223372036854775808 ≤ n) (h1 : n ≤ 9223372036854775807) (w : World) (htab : Lib.TabIs Tryz.prog w "internal/strconv.uint64pow10" .u64 Lib.pow10Tab) :
    Calls Tryz.prog 17 #[.int .i64 n] w fun e w' => e = .returned (.string ⟨(Lib.itoa n).toArray⟩) ∧ Below w.heap.size w w' :=
  (Any.strconv_Itoa Tryz.laysItoa n h0 h1 w htab).mono fun e w' ⟨he, k, os, hw⟩ => ⟨he, by
    subst hw
    exact ⟨rfl, rfl, rfl, by simp [Go.Sort.grow, World.drewN], fun i hi => by
      show (w.heap ++ os)[i]? = _
      rw [Array.getElem?_append_left hi]⟩⟩
theorem ok_itoa {G : Gl} (hcf : G.cf = cfg) (hok : ∀ {w F}, G.ok w F → ErrD.tabOk w F) : ∀ ps rs hm ds r, sigOf Tryz.prog G.cf 17 = some (ps, rs, hm) → itoaF ds = some r → Ok1 G Tryz.prog 17 ps rs hm ds r := by
  intro ps rs hm ds r hsig hr
  have hs : sigOf Tryz.prog cfg 17 = some ([.one (.int .i64)], [.one .str], 0) := by kernel_rfl
  rw [hcf, hs] at hsig
  simp only [Option.some.injEq, Prod.mk.injEq] at hsig
  obtain ⟨rfl, rfl, rfl⟩ := hsig
  unfold itoaF at hr
  split at hr
  · rename_i n
    split at hr
    · rename_i hl
      simp only [Option.some.injEq] at hr
      subst hr
      intro w Ft vs φ d0 hd hds hin ha
      obtain rfl : hd = [] := hin.h0 rfl
      rw [List.append_nil] at hds
      subst hds
      obtain ⟨_, _, v0, _, e1, e2, h0, e5, e6⟩ := ha
      cases e1; subst e2
      have q0 := h0.int_inv
      subst q0 e6
      refine (itoa_c n hl.1 hl.2 w (hok hin.ok).2).mono ?_
      rintro e w' ⟨rfl, hb⟩
      exact ⟨_, Ft, φ, rfl, out_of_below hin.f hb rfl (args_one (Rd.str rfl) args_nil)⟩
    · cases hr
  · cases hr
theorem ok_join {G : Gl} (hcf : G.cf = cfg) : ∀ ps rs hm ds r, sigOf Tryz.prog G.cf 19 = some (ps, rs, hm) → joinF ds = some r → Ok1 G Tryz.prog 19 ps rs hm ds r := by
  intro ps rs hm ds r hsig hr
  have hs : sigOf Tryz.prog cfg 19 = some ([.one (.slice 9), .one .str], [.one .str], 0) := by kernel_rfl
  rw [hcf, hs] at hsig
  simp only [Option.some.injEq, Prod.mk.injEq] at hsig
  obtain ⟨rfl, rfl, rfl⟩ := hsig
  unfold joinF at hr
  split at hr
  · rename_i l sep
    split at hr
    · rename_i hc
      simp only [Option.some.injEq] at hr
      subst hr
      intro w Ft vs φ d0 hd hds hin ha
      obtain rfl : hd = [] := hin.h0 rfl
      rw [List.append_nil] at hds
      subst hds
      obtain ⟨_, _, v0, _, e1, e2, h0, _, _, v1, _, e3, e4, h1, e5, e6⟩ := ha
      cases e1; cases e3; subst e2 e4
      have q1 := h1.str_inv
      subst q1 e6
      cases h0 with
      | snil z1 z2 =>
        have z1' : l = [] := z1
        subst z1' z2
        refine (Any.strings_Join_none Tryz.laysJoin Tryz.laysJoinX _ _ sep w).mono ?_
        rintro e w' ⟨rfl, rfl⟩
        exact ⟨_, Ft, φ, rfl, out_of_below hin.f (Below.refl _ _) rfl (args_one (Rd.str rfl) args_nil)⟩
      | slice z1 z2 z3 z4 z5 z6 z7 =>
        rename_i b o len cap ts g
        obtain rfl : ts = [.str] := Option.some.inj (z2.symm.trans (by kernel_rfl))
        have z3' : len = l.length := z3
        have hcell : ∀ (j : Nat) x, (l.map D.toStr)[j]? = some x → w.cell? ⟨b, o + j, none⟩ = some (.string x) := by
          intro j x hx
          rw [List.getElem?_map] at hx
          cases hl : l[j]? with
          | none => rw [hl] at hx; cases hx
          | some y =>
            rw [hl] at hx
            simp at hx; subst hx
            have hj : j < l.length := (List.getElem?_eq_some_iff.1 hl).1
            have c0 := z6 j 0 hj (by simp)
            have r0 := z7 j 0 y .str hl rfl
            have := r0.str_inv
            rw [show o + j = o + j * [Ty.str].length + 0 by simp, c0, this]
            rfl
        subst z1 z3'
        have hjn := Any.strings_Join Tryz.laysJoin Tryz.laysJoinX b o cap (l.map D.toStr) sep w hcell (hin.f b z5) (by simpa using hc.1) (by simpa using z4) (by simpa [List.map_map, Function.comp_def] using hc.2)
        rw [List.length_map] at hjn
        refine hjn.mono ?_
        rintro e w' ⟨rfl, hb⟩
        refine ⟨_, Ft, φ, rfl, out_of_below hin.f hb rfl (args_one (Rd.str ?_) args_nil)⟩
        simp [List.map_map, Function.comp_def, D.toStr]
    · cases hr
  · cases hr
theorem ok_base0 : FsOk ErrD.gl Tryz.prog base0 := ErrD.ok_base
theorem ok_baseJ : FsOk ErrD.gl Tryz.prog baseJ := ok_addF ok_base0 _ _ (ok_join rfl)
theorem ok_baseI : FsOk ErrD.gl Tryz.prog baseI := ok_addF ok_baseJ _ _ (ok_itoa rfl fun h => h.2.2)
theorem ok_baseC : FsOk ErrD.gl Tryz.prog baseC := ok_baseI
theorem ok_base : FsOk ErrD.gl Tryz.prog base := ok_baseC
end Go.Proofs.YtilkbgdfndifgaaGreatDoor.StrD
