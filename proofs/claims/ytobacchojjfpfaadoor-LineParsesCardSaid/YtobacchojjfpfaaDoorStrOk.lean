/-
  strings.Split, strings.Join, strconv.Atoi, strconv.Itoa do what they do on data: the shelf's contracts, laid at this program.
-/
import Derived.Test.YtobacchojjfpfaaDoorErrOk
import Derived.Test.YtobacchojjfpfaaDoorShelf
import Derived.Test.YtobacchojjfpfaaDoorAll
namespace Go.Proofs.YtobacchojjfpfaaDoor.StrD
open Go.RowKit Go.Proofs.YtobacchojjfpfaaDoor.Eng Go.Proofs.YtobacchojjfpfaaDoor Go.Proofs.YtobacchojjfpfaaDoor.IsD
set_option linter.unusedVariables false
set_option linter.unusedSimpArgs false
set_option linter.unusedSectionVars false

theorem split_c (s sep : ByteArray) (m : Int) (w : World) (hs : s.size < 4294967281) (hm : w.cell? ⟨2, 0, none⟩ = some (.int .i64 m)) (h1 : 1 ≤ sep.size) :
    Calls Tryd.prog 16 #[.string s, .string sep] w fun e w' =>
      e = .returned (.slice (some ⟨w.heap.size, 0, none⟩) (Lib.countB s sep + 1) (Lib.countB s sep + 1)) ∧ w' = w.alloc (.cells ((Lib.splitB sep 0 (Lib.countB s sep) s).map Value.string).toArray 9) :=
  Any.strings_Split Tryd.laysSplit (by kernel_rfl) s sep m w hs hm h1
theorem atoi_c (s : ByteArray) (n : Int) (hl : s.size ≤ 18) (h : Lib.atoi s.data.toList = some n) (w : World) :
    Calls Tryd.prog 27 #[.string s] w fun e w' => e = .returned (.tuple #[.int .i64 n, .nilIface]) ∧ Below w.heap.size w w' :=
  (Any.strconv_Atoi Tryd.laysAtoi s n hl h w).mono fun e w' ⟨he, t, hw⟩ => ⟨he, hw ▸ ⟨rfl, rfl, rfl, by rw [Lib.bytesWorld_size]; omega, fun i hi => Lib.bytesWorld_at_old w _ t i hi⟩⟩

theorem chg_below {S : List Nat} {w w' : World} (h : Below w.heap.size w w') : Chg S w w' := chg_of_below h
theorem out_of_below {G : Gl} {P : Program} {w w' : World} {F : Fr} {φ : Nat → List Nat} {rs : List Sh} {r : List D} {v : Value} (hF : ∀ b, F b → b < w.heap.size) (hb : Below w.heap.size w w') (hrows : rowsB rs (Value.parts rs v) = []) (hres : Res P w' F rs r v) :
    HeapOut G P w F 0 φ [] rs r v w' F φ :=
  ⟨chg_of_below hb, Le.same fun b h => hb.block b (hF b h), fun _ => rfl, fun b h => ⟨Nat.lt_of_lt_of_le (hF b h) hb.size, .inl h⟩, (fun b h => by rw [hrows] at h; cases h), by rw [hrows]; exact List.nodup_nil, ⟨r, [], by simp, hres, rfl⟩⟩
/-- A new row of words. -/
theorem out_words {G : Gl} {P : Program} {w : World} {F : Fr} {φ : Nat → List Nat} (hF : ∀ b, F b → b < w.heap.size) (xs : List ByteArray) (t : TypeId) (ht : cellTys P t = some [.str]) (n : Nat) (hn : xs.length = n) :
    HeapOut G P w F 0 φ [] [.one (.slice t)] [.agg (xs.map .str)] (.slice (some ⟨w.heap.size, 0, none⟩) n n) (w.alloc (.cells (xs.map Value.string).toArray t)) (F.or fun b => b = w.heap.size) φ := by
  subst hn
  have hb : Below w.heap.size w (w.alloc (.cells (xs.map Value.string).toArray t)) := (Below.refl _ _).alloc (Nat.le_refl _) _
  refine ⟨chg_of_below hb, ⟨fun b h => ⟨.inl h, hb.block b (hF b h)⟩, List.prefix_refl _, rfl⟩, fun _ => rfl, ?_, (fun b h => by simp [rowsB, Value.parts] at h), by simp [rowsB, Value.parts], ⟨_, [], rfl, args_one ?_ args_nil, rfl⟩⟩
  · rintro b (h | rfl)
    · exact ⟨Nat.lt_of_lt_of_le (hF b h) hb.size, .inl h⟩
    · exact ⟨by simp, .inr (.inl (Nat.le_refl _))⟩
  · refine Rd.slice (g := fun i c => .string (xs.getD i ByteArray.empty)) rfl ht (by simp [D.toL]) (Nat.le_refl _) (.inr rfl) ?_ ?_
    · intro i c hi hc
      have hc0 : c = 0 := by simpa using hc
      subst hc0
      have hi' : i < xs.length := by simpa [D.toL] using hi
      rw [World.cell?_alloc_new]
      simp [List.getD, hi']
    · intro i c x u hx hu
      match c, hu with
      | 0, hu =>
        simp at hu; subst hu
        rw [show (D.agg (xs.map D.str)).toL = xs.map D.str from rfl, List.getElem?_map] at hx
        cases hli : xs[i]? with
        | none => rw [hli] at hx; cases hx
        | some y =>
          rw [hli] at hx
          simp at hx; subst hx
          exact Rd.str (by simp [List.getD, hli, cellOf, D.toStr])

theorem ok_split {G : Gl} (hcf : G.cf = cfg) (hok : ∀ {w F}, G.ok w F → ErrD.maxOk w F) : ∀ ps rs hm ds r, sigOf Tryd.prog G.cf 16 = some (ps, rs, hm) → splitF ds = some r → Ok1 G Tryd.prog 16 ps rs hm ds r := by
  intro ps rs hm ds r hsig hr
  have hs : sigOf Tryd.prog cfg 16 = some ([.one .str, .one .str], [.one (.slice 9)], 0) := by kernel_rfl
  rw [hcf, hs] at hsig
  simp only [Option.some.injEq, Prod.mk.injEq] at hsig
  obtain ⟨rfl, rfl, rfl⟩ := hsig
  unfold splitF at hr
  split at hr
  · rename_i s sep
    split at hr
    · rename_i hc
      simp only [Option.some.injEq] at hr
      subst hr
      intro w Ft vs φ d0 hd hds hin ha
      obtain rfl : hd = [] := hin.h0 rfl
      rw [List.append_nil] at hds
      subst hds
      obtain ⟨_, _, v0, _, e1, e2, h0, _, _, v1, _, e3, e4, h1, e5, e6⟩ := ha
      cases e1; cases e3; subst e2 e4
      have q0 := h0.str_inv
      have q1 := h1.str_inv
      subst q0 q1 e6
      obtain ⟨_, m, hmx⟩ := hok hin.ok
      refine (split_c s sep m w hc.1 hmx hc.2).mono ?_
      rintro e w' ⟨rfl, rfl⟩
      exact ⟨_, Ft.or fun b => b = w.heap.size, φ, rfl, out_words hin.f _ _ (by kernel_rfl) _ (Lib.splitB_all sep hc.2 0 _ s rfl)⟩
    · cases hr
  · cases hr
theorem ok_atoi {G : Gl} (hcf : G.cf = cfg) : ∀ ps rs hm ds r, sigOf Tryd.prog G.cf 27 = some (ps, rs, hm) → atoiF ds = some r → Ok1 G Tryd.prog 27 ps rs hm ds r := by
  intro ps rs hm ds r hsig hr
  have hs : sigOf Tryd.prog cfg 27 = some ([.one .str], [.one (.int .i64), .one .ifc], 0) := by kernel_rfl
  rw [hcf, hs] at hsig
  simp only [Option.some.injEq, Prod.mk.injEq] at hsig
  obtain ⟨rfl, rfl, rfl⟩ := hsig
  unfold atoiF at hr
  split at hr
  · rename_i s
    split at hr
    · rename_i hl
      split at hr
      · rename_i n hn
        simp only [Option.some.injEq] at hr
        subst hr
        intro w Ft vs φ d0 hd hds hin ha
        obtain rfl : hd = [] := hin.h0 rfl
        rw [List.append_nil] at hds
        subst hds
        obtain ⟨_, _, v0, _, e1, e2, h0, e5, e6⟩ := ha
        cases e1; subst e2
        have q0 := h0.str_inv
        subst q0 e6
        refine (atoi_c s n hl hn w).mono ?_
        rintro e w' ⟨rfl, hb⟩
        exact ⟨_, Ft, φ, rfl, out_of_below hin.f hb rfl ⟨[_, _], rfl, args_one (Rd.int rfl) (args_one (Rd.inil rfl rfl) args_nil)⟩⟩
      · cases hr
    · cases hr
  · cases hr
theorem ok_base0 : FsOk ErrD.gl Tryd.prog base0 := ok_addF (ok_addF ErrD.ok_base _ _ (ok_split rfl fun h => h.2.1)) _ _ (ok_atoi rfl)
theorem ok_base : FsOk ErrD.gl Tryd.prog base := ok_base0
end Go.Proofs.YtobacchojjfpfaaDoor.StrD
