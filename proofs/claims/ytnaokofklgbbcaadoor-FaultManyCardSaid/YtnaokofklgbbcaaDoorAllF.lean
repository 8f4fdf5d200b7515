/-
  Several errors at once: facts for errors.Is and errors.As.
-/
import Derived.Test.YtnaokofklgbbcaaDoorIsG
namespace Go.Proofs.YtnaokofklgbbcaaDoor.IsD
open Go.RowKit Go.Extern.Stop Go.Stop Go.Extern Go.Proofs.YtnaokofklgbbcaaDoor.Eng Go.Proofs.YtnaokofklgbbcaaDoor Go.Proofs.YtnaokofklgbbcaaDoor.ErrD
set_option linter.unusedSimpArgs false
set_option linter.unusedVariables false
theorem noIsA (v : Value) (xT : TypeId) (w : World) : (Instr.typeAssert (.iface 61 v) xT 75 true).run Tryd.prog w = .ok (.tuple #[.nilIface, .bool false]) w := run_typeAssert_lacksB Tryd.underlying75 (by kernel_rfl) (by kernel_rfl) v xT w
theorem noUnwrapA (v : Value) (xT : TypeId) (w : World) : (Instr.typeAssert (.iface 61 v) xT 78 true).run Tryd.prog w = .ok (.tuple #[.nilIface, .bool false]) w := run_typeAssert_lacksB Tryd.underlying78 (by kernel_rfl) (by kernel_rfl) v xT w
theorem hasUnwrapsA (v : Value) (xT : TypeId) (w : World) : (Instr.typeAssert (.iface 61 v) xT 80 true).run Tryd.prog w = .ok (.tuple #[.iface 61 v, .bool true]) w := run_typeAssert_hasB Tryd.underlying80 (by kernel_rfl) v xT w
theorem methodUnwrapsA (v : Value) (w : World) : (Go.method 217 61 v "Unwrap").run Tryd.prog w = .ok (51, v) w := by kernel_rfl
theorem rd_allV {w : World} {F : Fr} {l : List D} {v : Value} (h : Rd Tryd.prog w F .ifc (.iface 61 (.agg l)) v) : ∃ A cap, v = .iface 61 (.slice A l.length cap) ∧ (l = [] ∨ ∃ b o, A = some ⟨b, o, none⟩ ∧ ∀ i x, l[i]? = some x → ∃ ve, w.cell? ⟨b, o + i, none⟩ = some ve ∧ Rd Tryd.prog w F .ifc x ve) := by
  have ht : tyOf Tryd.prog 61 = some (.slice 25) := by kernel_rfl
  have hc : cellTys Tryd.prog 25 = some [.ifc] := by kernel_rfl
  cases h with
  | inil e _ => cases e
  | iface g1 g2 g3 g4 g5 =>
    cases g1
    rw [ht] at g3; cases g3
    cases g5 with
    | snil e1 e2 =>
      have : l = [] := e1
      subst this
      exact ⟨_, _, by rw [g2, e2]; rfl, .inl rfl⟩
    | @slice _ _ _ b o len cap ts g e1 e2 e3 e4 e5 e6 e7 =>
      rw [hc] at e2; cases e2
      refine ⟨_, _, by rw [g2, e1, e3]; rfl, .inr ⟨b, o, rfl, fun i x hx => ?_⟩⟩
      have hi := (List.getElem?_eq_some_iff.1 hx).1
      have h6 := e6 i 0 hi (by simp)
      have h7 := e7 i 0 x .ifc hx rfl
      simp only [List.length_cons, List.length_nil, Nat.zero_add, Nat.mul_one, Nat.add_zero] at h6
      exact ⟨_, h6, by simpa [cellOf] using h7⟩
end Go.Proofs.YtnaokofklgbbcaaDoor.IsD
