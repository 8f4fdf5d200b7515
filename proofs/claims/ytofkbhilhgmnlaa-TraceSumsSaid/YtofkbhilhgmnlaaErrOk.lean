/-
  errors.Is and errors.As on data say what the library's functions do.
-/
import Derived.Test.YtofkbhilhgmnlaaIsG
import Derived.Test.YtofkbhilhgmnlaaErrF
import Derived.Test.YtofkbhilhgmnlaaAll
namespace Go.Proofs.Ytofkbhilhgmnlaa.ErrD
open Go.RowKit Go.Proofs.Ytofkbhilhgmnlaa.Eng Go.Proofs.Ytofkbhilhgmnlaa Go.Proofs.Ytofkbhilhgmnlaa.IsD
set_option linter.unusedVariables false
set_option linter.unusedSimpArgs false

theorem out_bool {G : Gl} {P : Program} {w : World} {F : Fr} {φ : Nat → List Nat} {R : List Nat} {b : Bool} (hF : ∀ b, F b → b < w.heap.size) : HeapOut G P w F 0 φ R [.one .bool] [.bool b] (.bool b) w F φ :=
  ⟨chg_refl _ _, Le.same fun _ _ => rfl, fun _ => rfl, fun b h => ⟨hF b h, .inl h⟩, (fun b h => by simp [rowsB, Value.parts] at h), by simp [rowsB, Value.parts], ⟨[.bool b], [], rfl, args_one (Rd.bool rfl) args_nil, rfl⟩⟩
theorem ok_is {G : Gl} (hcf : G.cf = cfg) : ∀ ps rs hm ds r, sigOf Try.prog G.cf 23 = some (ps, rs, hm) → isF ds = some r → Ok1 G Try.prog 23 ps rs hm ds r := by
  intro ps rs hm ds r hsig hr
  have hs : sigOf Try.prog cfg 23 = some ([.one .ifc, .one .ifc], [.one .bool], 0) := by kernel_rfl
  rw [hcf, hs] at hsig
  simp only [Option.some.injEq, Prod.mk.injEq] at hsig
  obtain ⟨rfl, rfl, rfl⟩ := hsig
  unfold isF at hr
  split at hr
  · rename_i u k
    split at hr
    · rename_i hu
      subst hu
      simp only [Option.some.injEq] at hr
      subst hr
      intro w Ft vs φ d0 hd hds hin ha
      obtain rfl : hd = [] := hin.h0 rfl
      rw [List.append_nil] at hds
      subst hds
      obtain ⟨_, _, v0, _, e1, e2, h0, _, _, v1, _, e3, e4, h1, e5, e6⟩ := ha
      cases e1; cases e3; subst e2 e4
      have q0 := nil_case h0
      have q1 := rd_codeV h1
      subst q0 q1 e6
      refine (is_nil k w).mono ?_
      rintro e w' ⟨rfl, rfl⟩
      exact ⟨_, Ft, φ, rfl, out_bool hin.f⟩
    · cases hr
  · rename_i t x u k
    split at hr
    · rename_i hu
      subst hu
      cases hb : isN 100 (.iface t x) k with
      | none =>
        rw [hb] at hr; cases hr
      | some b =>
        rw [hb] at hr
        simp only [Option.map_some, Option.some.injEq] at hr
        subst hr
        intro w Ft vs φ d0 hd hds hin ha
        obtain rfl : hd = [] := hin.h0 rfl
        rw [List.append_nil] at hds
        subst hds
        obtain ⟨_, _, v0, _, e1, e2, h0, _, _, v1, _, e3, e4, h1, e5, e6⟩ := ha
        cases e1; cases e3; subst e2 e4
        have q1 := rd_codeV h1
        subst q1 e6
        refine (IsD.is_some k w Ft b 100 t x v0 hb h0).mono ?_
        rintro e w' ⟨rfl, rfl⟩
        exact ⟨_, Ft, φ, rfl, out_bool hin.f⟩
    · cases hr
  · cases hr
theorem ok_base : FsOk (Gl.of cfg) Try.prog base := ok_addF (ok_none _) _ _ (ok_is rfl)
end Go.Proofs.Ytofkbhilhgmnlaa.ErrD
