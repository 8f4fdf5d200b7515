/-
  strings.Split, strings.Join, strconv.Atoi, strconv.Itoa do what they do on data: the shelf's contracts, laid at this program.
-/
import Derived.Test.YtnaemggpelolcaaGreatDoorErrOk
import Derived.Test.YtnaemggpelolcaaGreatDoorShelf
import Derived.Test.YtnaemggpelolcaaGreatDoorAll
namespace Go.Proofs.YtnaemggpelolcaaGreatDoor.StrD
open Go.RowKit Go.Proofs.YtnaemggpelolcaaGreatDoor.Eng Go.Proofs.YtnaemggpelolcaaGreatDoor
open Go.Proofs.YtnaemggpelolcaaGreatDoor.IsD
set_option linter.unusedVariables false
set_option linter.unusedSimpArgs false
set_option linter.unusedSectionVars false

theorem split_c (s sep : ByteArray) (m : Int) (w : World) (hs : s.size < 4294967281) (hm : w.cell? ⟨1, 0, none⟩ = some (.int .i64 m)) (h1 : 1 ≤ sep.size) :
    Calls Tryz.prog 33 #[.string s, .string sep] w fun e w' =>
      e = .returned (.slice (some ⟨w.heap.size, 0, none⟩) (Lib.countB s sep + 1) (Lib.countB s sep + 1)) ∧ w' = w.alloc (.cells ((Lib.splitB sep 0 (Lib.countB s sep) s).map Value.string).toArray 9) :=
  Any.strings_Split Tryz.laysSplit (by kernel_rfl) s sep m w hs hm h1
theorem atoi_c (s : ByteArray) (n : Int) (hl : s.size ≤ 18) (h : Lib.atoi s.data.toList = some n) (w : World) :
    Calls Tryz.prog 49 #[.string s] w fun e w' => e = .returned (.tuple #[.int .i64 n, .nilIface]) ∧ Below w.heap.size w w' :=
  (Any.strconv_Atoi Tryz.laysAtoi s n hl h w).mono fun e w' ⟨he, t, hw⟩ => ⟨he, hw ▸ ⟨rfl, rfl, rfl, by rw [Lib.bytesWorld_size]; omega, fun i hi => Lib.bytesWorld_at_old w _ t i hi⟩⟩

theorem chg_below {S : List Nat} {w w' : World} (h : Below w.heap.size w w') : Chg S w w' := chg_of_below h
theorem out_of_below {G : Gl} {P : Program} {w w' : World} {F : Fr} {φ : Nat → List Nat} {rs : List Sh} {r : List D} {v : Value} (hF : ∀ b, F b → b < w.heap.size) (hb : Below w.heap.size w w') (hrows : rowsB rs (Value.parts rs v) = []) (hres : Res P w' F rs r v) :
    HeapOut G P w F 0 φ [] rs r v w' F φ :=
  ⟨chg_of_below hb, Le.same fun b h => hb.block b (hF b h), fun _ => rfl, fun b h => ⟨Nat.lt_of_lt_of_le (hF b h) hb.size, .inl h⟩, (fun b h => by rw [hrows] at h; cases h), by rw [hrows]; exact List.nodup_nil, ⟨r, [], by simp, hres, rfl⟩⟩
/-- A new row of words. -/
theorem out_words {G : Gl} {P : Program} {w : World} {F : Fr} {φ : Nat → List Nat} (hF : ∀ b, F b → b < w.heap.size) (xs : List ByteArray) (t : TypeId) (ht : cellTys P t = some [.str]) (n : Nat) (hn : xs.length = n) :
    HeapOut G P w F 0 φ [] [.one (.slice t)] [.agg (xs.map .str)] (.slice (some ⟨w.heap.size, 0, none⟩) n n) (w.alloc (.cells (xs.map Value.string).toArray t)) (F.or fun b => b = w.heap.size) φ := by
  subst hn
  have hb : Below w.heap.size w (w.alloc (.cells (xs.map Value.string).toArray t)) := (Below.refl _ _).alloc (Nat.le_refl _) _
  refine ⟨chg_of_below hb, ⟨fun b h => ⟨.inl h, hb.block b (hF b h)⟩, List.prefix_refl _, rfl⟩, fun _ => rfl, ?_, (fun b h => by simp [rowsB, Value.parts] at h), by simp [rowsB, Value.parts], ⟨_, [], rfl, args_one ?_ args_nil, rfl⟩⟩
  · rintro b (h | rfl)
    · exact ⟨Nat.lt_of_lt_of_le (hF b h) hb.size, .inl h⟩
    · exact ⟨by simp, .inr (.inl (Nat.le_refl _))⟩
  · refine Rd.slice (g := fun i c => .string (xs.getD i ByteArray.empty)) rfl ht (by simp [D.toL]) (Nat.le_refl _) (.inr rfl) ?_ ?_
    · intro i c hi hc
      have hc0 : c = 0 := by simpa using hc
      subst hc0
      have hi' : i < xs.length := by simpa [D.toL] using hi
      rw [World.cell?_alloc_new]
      simp [List.getD, hi']
    · intro i c x u hx hu
      match c, hu with
      | 0, hu =>
        simp at hu; subst hu
        rw [show (D.agg (xs.map D.str)).toL = xs.map D.str from rfl, List.getElem?_map] at hx
        cases hli : xs[i]? with
        | none => rw [hli] at hx; cases hx
        | some y =>
          rw [hli] at hx
          simp at hx; subst hx
          exact Rd.str (by simp [List.getD, hli, cellOf, D.toStr])

theorem ok_split {G : Gl} (hcf : G.cf = cfg) (hok : ∀ {w F}, G.ok w F → ErrD.maxOk w F) : ∀ ps rs hm ds r, sigOf Tryz.prog G.cf 33 = some (ps, rs, hm) → splitF ds = some r → Ok1 G Tryz.prog 33 ps rs hm ds r := by
  intro ps rs hm ds r hsig hr
  have hs : sigOf Tryz.prog cfg 33 = some ([.one .str, .one .str], [.one (.slice 9)], 0) := by kernel_rfl
  rw [hcf, hs] at hsig
  simp only [Option.some.injEq, Prod.mk.injEq] at hsig
  obtain ⟨rfl, rfl, rfl⟩ := hsig
  unfold splitF at hr
  split at hr
  · rename_i s sep
    split at hr
    · rename_i hc
      simp only [Option.some.injEq] at hr
      subst hr
      intro w Ft vs φ d0 hd hds hin ha
      obtain rfl : hd = [] := hin.h0 rfl
      rw [List.append_nil] at hds
      subst hds
      obtain ⟨_, _, v0, _, e1, e2, h0, _, _, v1, _, e3, e4, h1, e5, e6⟩ := ha
      cases e1; cases e3; subst e2 e4
      have q0 := h0.str_inv
      have q1 := h1.str_inv
      subst q0 q1 e6
      obtain ⟨_, m, hmx⟩ := hok hin.ok
      refine (split_c s sep m w hc.1 hmx hc.2).mono ?_
      rintro e w' ⟨rfl, rfl⟩
      exact ⟨_, Ft.or fun b => b = w.heap.size, φ, rfl, out_words hin.f _ _ (by kernel_rfl) _ (Lib.splitB_all sep hc.2 0 _ s rfl)⟩
    · cases hr
  · cases hr
theorem ok_atoi {G : Gl} (hcf : G.cf = cfg) : ∀ ps rs hm ds r, sigOf Tryz.prog G.cf 49 = some (ps, rs, hm) → atoiF ds = some r → Ok1 G Tryz.prog 49 ps rs hm ds r := by
  intro ps rs hm ds r hsig hr
  have hs : sigOf Tryz.prog cfg 49 = some ([.one .str], [.one (.int .i64), .one .ifc], 0) := by kernel_rfl
  rw [hcf, hs] at hsig
  simp only [Option.some.injEq, Prod.mk.injEq] at hsig
  obtain ⟨rfl, rfl, rfl⟩ := hsig
  unfold atoiF at hr
  split at hr
  · rename_i s
    split at hr
    · rename_i hl
      split at hr
      · rename_i n hn
        simp only [Option.some.injEq] at hr
        subst hr
        intro w Ft vs φ d0 hd hds hin ha
        obtain rfl : hd = [] := hin.h0 rfl
        rw [List.append_nil] at hds
        subst hds
        obtain ⟨_, _, v0, _, e1, e2, h0, e5, e6⟩ := ha
        cases e1; subst e2
        have q0 := h0.str_inv
        subst q0 e6
        refine (atoi_c s n hl hn w).mono ?_
        rintro e w' ⟨rfl, hb⟩
        exact ⟨_, Ft, φ, rfl, out_of_below hin.f hb rfl ⟨[_, _], rfl, args_one (Rd.int rfl) (args_one (Rd.inil rfl rfl) args_nil)⟩⟩
      · cases hr
    · cases hr
  · cases hr
theorem itoa_c (n : Int) (h0 : -9223372036854775808 ≤ n) (h1 : n ≤ 9223372036854775807) (w : World) (htab : Lib.TabIs Tryz.prog w "internal/strconv.uint64pow10" .u64 Lib.pow10Tab) :
    Calls Tryz.prog 18 #[.int .i64 n] w fun e w' => e = .returned (.string ⟨(Lib.itoa n).toArray⟩) ∧ Below w.heap.size w w' :=
  (Any.strconv_Itoa Tryz.laysItoa n h0 h1 w htab).mono fun e w' ⟨he, k, os, hw⟩ => ⟨he, by
    subst hw
    exact ⟨rfl, rfl, rfl, by simp [Go.Sort.grow, World.drewN], fun i hi => by
      show (w.heap ++ os)[i]? = _
      rw [Array.getElem?_append_left hi]⟩⟩
theorem ok_itoa {G : Gl} (hcf : G.cf = cfg) (hok : ∀ {w F}, G.ok w F → ErrD.tabOk w F) : ∀ ps rs hm ds r, sigOf Tryz.prog G.cf 18 = some (ps, rs, hm) → itoaF ds = some r → Ok1 G Tryz.prog 18 ps rs hm ds r := by
  intro ps rs hm ds r hsig hr
  have hs : sigOf Tryz.prog cfg 18 = some ([.one (.int .i64)], [.one .str], 0) := by kernel_rfl
  rw [hcf, hs] at hsig
  simp only [Option.some.injEq, Prod.mk.injEq] at hsig
  obtain ⟨rfl, rfl, rfl⟩ := hsig
  unfold itoaF at hr
  split at hr
  · rename_i n
    split at hr
    · rename_i hl
      simp only [Option.some.injEq] at hr
      subst hr
      intro w Ft vs φ d0 hd hds hin ha
      obtain rfl : hd = [] := hin.h0 rfl
      rw [List.append_nil] at hds
      subst hds
      obtain ⟨_, _, v0, _, e1, e2, h0, e5, e6⟩ := ha
      cases e1; subst e2
      have q0 := h0.int_inv
      subst q0 e6
      refine (itoa_c n hl.1 hl.2 w (hok hin.ok).2).mono ?_
      rintro e w' ⟨rfl, hb⟩
      exact ⟨_, Ft, φ, rfl, out_of_below hin.f hb rfl (args_one (Rd.str rfl) args_nil)⟩
    · cases hr
  · cases hr
theorem ok_base0 : FsOk ErrD.gl Tryz.prog base0 := ok_addF (ok_addF ErrD.ok_base _ _ (ok_split rfl fun h => h.2.1)) _ _ (ok_atoi rfl)
theorem ok_baseJ : FsOk ErrD.gl Tryz.prog baseJ := ok_base0
theorem ok_baseI : FsOk ErrD.gl Tryz.prog baseI := ok_addF ok_baseJ _ _ (ok_itoa rfl fun h => h.2.2)
theorem cut_c (s sep : ByteArray) (m : Int) (w : World) (hs : s.size < 4294967281) (hm : w.cell? ⟨1, 0, none⟩ = some (.int .i64 m)) :
    Calls Tryz.prog 29 #[.string s, .string sep] w fun e w' =>
      e = .returned (.tuple #[.string ⟨(Lib.cut s.data.toList sep.data.toList).1.toArray⟩, .string ⟨(Lib.cut s.data.toList sep.data.toList).2.1.toArray⟩, .bool (Lib.cut s.data.toList sep.data.toList).2.2]) ∧ Below w.heap.size w w' :=
  (Any.strings_Cut Tryz.laysCut s sep m w hs hm).mono fun e w' ⟨he, n, hw⟩ => ⟨he, by subst hw; exact ⟨rfl, rfl, rfl, by simp [World.drewN], fun i hi => rfl⟩⟩
theorem ok_cut {G : Gl} (hcf : G.cf = cfg) (hok : ∀ {w F}, G.ok w F → ErrD.maxOk w F) : ∀ ps rs hm ds r, sigOf Tryz.prog G.cf 29 = some (ps, rs, hm) → cutF ds = some r → Ok1 G Tryz.prog 29 ps rs hm ds r := by
  intro ps rs hm ds r hsig hr
  have hs : sigOf Tryz.prog cfg 29 = some ([.one .str, .one .str], [.one .str, .one .str, .one .bool], 0) := by kernel_rfl
  rw [hcf, hs] at hsig
  simp only [Option.some.injEq, Prod.mk.injEq] at hsig
  obtain ⟨rfl, rfl, rfl⟩ := hsig
  unfold cutF at hr
  split at hr
  · rename_i s sep
    split at hr
    · rename_i hc
      simp only [Option.some.injEq] at hr
      subst hr
      intro w Ft vs φ d0 hd hds hin ha
      obtain rfl : hd = [] := hin.h0 rfl
      rw [List.append_nil] at hds
      subst hds
      obtain ⟨_, _, v0, _, e1, e2, h0, _, _, v1, _, e3, e4, h1, e5, e6⟩ := ha
      cases e1; cases e3; subst e2 e4
      have q0 := h0.str_inv
      have q1 := h1.str_inv
      subst q0 q1 e6
      obtain ⟨_, m, hmx⟩ := hok hin.ok
      refine (cut_c s sep m w hc hmx).mono ?_
      rintro e w' ⟨rfl, hb⟩
      exact ⟨_, Ft, φ, rfl, out_of_below hin.f hb rfl ⟨[_, _, _], rfl, args_one (Rd.str rfl) (args_one (Rd.str rfl) (args_one (Rd.bool rfl) args_nil))⟩⟩
    · cases hr
  · cases hr
theorem ok_baseC : FsOk ErrD.gl Tryz.prog baseC := ok_addF ok_baseI _ _ (ok_cut rfl fun h => h.2.1)
theorem ok_has {G : Gl} (hcf : G.cf = cfg) : ∀ ps rs hm ds r, sigOf Tryz.prog G.cf 43 = some (ps, rs, hm) → hasF ds = some r → Ok1 G Tryz.prog 43 ps rs hm ds r := by
  intro ps rs hm ds r hsig hr
  have hs : sigOf Tryz.prog cfg 43 = some ([.one .str, .one .str], [.one .bool], 0) := by kernel_rfl
  rw [hcf, hs] at hsig
  simp only [Option.some.injEq, Prod.mk.injEq] at hsig
  obtain ⟨rfl, rfl, rfl⟩ := hsig
  unfold hasF at hr
  split at hr
  · rename_i s sub
    split at hr
    · rename_i c hc
      simp only [Option.some.injEq] at hr
      subst hr
      have hsub : sub = ⟨#[c]⟩ := by
        apply ByteArray.ext
        apply Array.toList_inj.1
        rw [hc]
      subst hsub
      intro w Ft vs φ d0 hd hds hin ha
      obtain rfl : hd = [] := hin.h0 rfl
      rw [List.append_nil] at hds
      subst hds
      obtain ⟨_, _, v0, _, e1, e2, h0, _, _, v1, _, e3, e4, h1, e5, e6⟩ := ha
      cases e1; cases e3; subst e2 e4
      have q0 := h0.str_inv
      have q1 := h1.str_inv
      subst q0 q1 e6
      refine (Any.strings_Contains_one Tryz.laysContains s c w).mono ?_
      rintro e w' ⟨rfl, rfl⟩
      exact ⟨_, Ft, φ, rfl, out_of_below hin.f (Below.refl _ _) rfl (args_one (Rd.bool rfl) args_nil)⟩
    · cases hr
  · cases hr
theorem ok_base : FsOk ErrD.gl Tryz.prog base := ok_addF ok_baseC _ _ (ok_has rfl)
end Go.Proofs.YtnaemggpelolcaaGreatDoor.StrD
