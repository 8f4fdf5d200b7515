/-
  errors.Is on data says what the library's function does.
-/
import Derived.Test.YtjhgpkojdiedgaaIs
import Derived.Test.YtjhgpkojdiedgaaIsF
import Derived.Test.YtjhgpkojdiedgaaAll
namespace Go.Proofs.Ytjhgpkojdiedgaa.IsD
open Go.RowKit Go.Proofs.Ytjhgpkojdiedgaa.Eng Go.Proofs.Ytjhgpkojdiedgaa
set_option linter.unusedVariables false

theorem rd_code {P : Program} {w : World} {F : Fr} {t : TypeId} {c : Int} {v : Value} {k : IntKind} (h : Rd P w F .ifc (.iface t (.int c)) v) (ht : tyOf P t = some (.int k)) : v = .iface t (.int k c) := by
  cases h with
  | inil e _ => cases e
  | iface e1 e2 e3 e4 h5 =>
    cases e1
    rw [ht] at e3
    cases e3
    rw [e2, h5.int_inv]
    rfl
theorem out_bool {G : Gl} {P : Program} {w : World} {F : Fr} {φ : Nat → List Nat} {b : Bool} (hF : ∀ b, F b → b < w.heap.size) : HeapOut G P w F 0 φ [.one .bool] [.bool b] (.bool b) w F φ :=
  ⟨chg_refl _ _, Le.same fun _ _ => rfl, fun _ => rfl, fun b h => ⟨hF b h, .inl h⟩, (fun b h => by simp [rowsB, Value.parts] at h), by simp [rowsB, Value.parts], ⟨[.bool b], [], rfl, args_one (Rd.bool rfl) args_nil, rfl⟩⟩
theorem ok_is : ∀ ps rs hm ds r, sigOf Try.prog cfg 21 = some (ps, rs, hm) → isF ds = some r → Ok1 (Gl.of cfg) Try.prog 21 ps rs hm ds r := by
  intro ps rs hm ds r hsig hr
  have hs : sigOf Try.prog cfg 21 = some ([.one .ifc, .one .ifc], [.one .bool], 0) := by kernel_rfl
  rw [hs] at hsig
  simp only [Option.some.injEq, Prod.mk.injEq] at hsig
  obtain ⟨rfl, rfl, rfl⟩ := hsig
  have ht : tyOf Try.prog 49 = some (.int .i64) := by kernel_rfl
  unfold isF at hr
  split at hr
  · rename_i t c u d
    split at hr
    · rename_i htu
      obtain ⟨rfl, rfl⟩ := htu
      simp only [Option.some.injEq] at hr
      subst hr
      intro w Ft vs φ d0 hd hds hin ha
      obtain rfl : hd = [] := hin.h0 rfl
      rw [List.append_nil] at hds
      subst hds
      obtain ⟨_, _, v0, _, e1, e2, h0, _, _, v1, _, e3, e4, h1, e5, e6⟩ := ha
      cases e1; cases e3; subst e2 e4
      have q0 := rd_code h0 ht
      have q1 := rd_code h1 ht
      subst q0 q1 e6
      refine (is_code c d w).mono ?_
      rintro e w' ⟨rfl, rfl⟩
      exact ⟨_, Ft, φ, rfl, out_bool hin.f⟩
    · cases hr
  · rename_i t x t2 c u d
    split at hr
    · rename_i htu
      obtain ⟨rfl, rfl, rfl⟩ := htu
      simp only [Option.some.injEq] at hr
      subst hr
      intro w Ft vs φ d0 hd hds hin ha
      obtain rfl : hd = [] := hin.h0 rfl
      rw [List.append_nil] at hds
      subst hds
      obtain ⟨_, _, v0, _, e1, e2, h0, _, _, v1, _, e3, e4, h1, e5, e6⟩ := ha
      cases e1; cases e3; subst e2 e4
      have q1 := rd_code h1 ht
      subst q1 e6
      have htF : tyOf Try.prog 61 = some (.ptr 63) := by kernel_rfl
      have hcF : cellTys Try.prog 63 = some [.int .i64, .ifc] := by kernel_rfl
      cases h0 with
      | inil e _ => cases e
      | iface g1 g2 g3 g4 g5 =>
        cases g1
        rw [htF] at g3; cases g3
        cases g5 with
        | pnil z1 _ => cases z1
        | href _ z1 _ _ => cases z1
        | @ptr _ _ _ b o l ts g _ z1 z2 z3 z4 z5 z6 z7 =>
          cases z1
          rw [hcF] at z3; cases z3
          have c1 := z6 1 _ rfl
          have r1 := z7 1 _ .ifc rfl rfl
          have q2 := rd_code r1 ht
          rw [q2] at c1
          subst g2 z2
          refine (is_faultC b o c d w c1).mono ?_
          rintro e w' ⟨rfl, rfl⟩
          exact ⟨_, Ft, φ, rfl, out_bool hin.f⟩
    · cases hr
  · cases hr
theorem ok_isBase : FsOk (Gl.of cfg) Try.prog isBase := ok_addF (ok_none _) _ _ ok_is
end Go.Proofs.Ytjhgpkojdiedgaa.IsD
