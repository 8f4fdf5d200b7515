/-
  errors.Is and errors.As on data say what the library's functions do.
-/
import Derived.Test.YtmgpbjennnadhaaGreatDoorIsG
import Derived.Test.YtmgpbjennnadhaaGreatDoorErrF
import Derived.Lib.ItoaNum
import Derived.Test.YtmgpbjennnadhaaGreatDoorAll
import Derived.Test.YtmgpbjennnadhaaGreatDoorProg
import Derived.KernelRfl
namespace Go.Proofs.YtmgpbjennnadhaaGreatDoor.ErrD
open Go.RowKit Go.Proofs.YtmgpbjennnadhaaGreatDoor.Eng Go.Proofs.YtmgpbjennnadhaaGreatDoor Go.Proofs.YtmgpbjennnadhaaGreatDoor.IsD
set_option linter.unusedVariables false
set_option linter.unusedSimpArgs false

theorem out_bool {G : Gl} {P : Program} {w : World} {F : Fr} {φ : Nat → List Nat} {R : List Nat} {b : Bool} (hF : ∀ b, F b → b < w.heap.size) : HeapOut G P w F 0 φ R [.one .bool] [.bool b] (.bool b) w F φ :=
  ⟨chg_refl _ _, Le.same fun _ _ => rfl, fun _ => rfl, fun b h => ⟨hF b h, .inl h⟩, (fun b h => by simp [rowsB, Value.parts] at h), by simp [rowsB, Value.parts], ⟨[.bool b], [], rfl, args_one (Rd.bool rfl) args_nil, rfl⟩⟩
theorem ok_is {G : Gl} (hcf : G.cf = cfg) : ∀ ps rs hm ds r, sigOf Tryz.prog G.cf 28 = some (ps, rs, hm) → isF ds = some r → Ok1 G Tryz.prog 28 ps rs hm ds r := by
  intro ps rs hm ds r hsig hr
  have hs : sigOf Tryz.prog cfg 28 = some ([.one .ifc, .one .ifc], [.one .bool], 0) := by kernel_rfl
  rw [hcf, hs] at hsig
  simp only [Option.some.injEq, Prod.mk.injEq] at hsig
  obtain ⟨rfl, rfl, rfl⟩ := hsig
  unfold isF at hr
  split at hr
  · rename_i u k
    split at hr
    · rename_i hu
      subst hu
      simp only [Option.some.injEq] at hr
      subst hr
      intro w Ft vs φ d0 hd hds hin ha
      obtain rfl : hd = [] := hin.h0 rfl
      rw [List.append_nil] at hds
      subst hds
      obtain ⟨_, _, v0, _, e1, e2, h0, _, _, v1, _, e3, e4, h1, e5, e6⟩ := ha
      cases e1; cases e3; subst e2 e4
      have q0 := nil_case h0
      have q1 := rd_codeV h1
      subst q0 q1 e6
      refine (is_nil k w).mono ?_
      rintro e w' ⟨rfl, rfl⟩
      exact ⟨_, Ft, φ, rfl, out_bool hin.f⟩
    · cases hr
  · rename_i t x u k
    split at hr
    · rename_i hu
      subst hu
      cases hb : isN 100 (.iface t x) k with
      | none =>
        rw [hb] at hr; cases hr
      | some b =>
        rw [hb] at hr
        simp only [Option.map_some, Option.some.injEq] at hr
        subst hr
        intro w Ft vs φ d0 hd hds hin ha
        obtain rfl : hd = [] := hin.h0 rfl
        rw [List.append_nil] at hds
        subst hds
        obtain ⟨_, _, v0, _, e1, e2, h0, _, _, v1, _, e3, e4, h1, e5, e6⟩ := ha
        cases e1; cases e3; subst e2 e4
        have q1 := rd_codeV h1
        subst q1 e6
        refine (IsD.is_some k w Ft b 100 t x v0 hb h0).mono ?_
        rintro e w' ⟨rfl, rfl⟩
        exact ⟨_, Ft, φ, rfl, out_bool hin.f⟩
    · cases hr
  · cases hr
def maxOk (w : World) (F : Fr) : Prop := F 3 ∧ ∃ m, w.cell? ⟨3, 0, none⟩ = some (.int .i64 m)
def tabOk (w : World) (F : Fr) : Prop := F 2 ∧ w.var? Tryz.prog "internal/strconv.uint64pow10" = some (Go.Lib.pow10Tab.map fun z => Value.int .u64 z).toArray
def strOk (w : World) (F : Fr) : Prop := maxOk w F ∧ tabOk w F
theorem strOk_mono {w w' : World} {F F' : Fr} (h : Le w F w' F') (q : strOk w F) : strOk w' F' := by
  refine ⟨?_, ?_⟩
  · obtain ⟨m, hm⟩ := q.1.2
    exact ⟨(h.b _ q.1.1).1, m, by rw [cell?_of_heap (h.b _ q.1.1).2]; exact hm⟩
  · refine ⟨(h.b _ q.2.1).1, ?_⟩
    have hn : Tryz.prog.globalNamed "internal/strconv.uint64pow10" = some 2 := by kernel_rfl
    have := q.2.2
    unfold World.var? at this ⊢
    rw [hn] at this ⊢
    simp only [Option.bind_some] at this ⊢
    rw [(h.b _ q.2.1).2]; exact this
def gl : Gl where
  cf := cfg
  ok := fun w F => GsOk cfg.gs w F ∧ strOk w F
  mono := fun {w w' F F'} h q => ⟨GsOk.mono h q.1, strOk_mono h q.2⟩
  glo := fun q => q.1
theorem ok_base : FsOk gl Tryz.prog base := ok_addF (ok_none _) _ _ (ok_is rfl)
end Go.Proofs.YtmgpbjennnadhaaGreatDoor.ErrD
