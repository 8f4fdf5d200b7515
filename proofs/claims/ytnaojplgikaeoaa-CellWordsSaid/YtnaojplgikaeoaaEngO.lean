/-
  A reader of Go functions, part O: fewer variables.
-/
import Derived.Test.YtnaojplgikaeoaaEngH
namespace Go.Proofs.Ytnaojplgikaeoaa.Eng
set_option linter.unusedVariables false
section
variable {P : Program} {w : World} {F : Nat → Prop} {ρ : List D} {β : Nat → Value}
theorem RC.cut {c : C} {v : Value} {r : List D} (hn : c.sc ρ.length = true) (h : RC P w F (ρ ++ r) β c v) : RC P w F ρ β c v := by
  cases c with
  | dat t e => have h' : Rd P w F t (den (ρ ++ r) e) v := h; rw [den_append hn] at h'; exact h'
  | eptr t a i c =>
    simp only [C.sc, Bool.and_eq_true] at hn
    obtain ⟨b, o, len, cap, ts, h1⟩ := h
    refine ⟨b, o, len, cap, ts, ?_⟩
    rw [den_append hn.1, den_append hn.2] at h1; exact h1
  | pptr t a c =>
    obtain ⟨b, o, h1⟩ := h
    refine ⟨b, o, ?_⟩
    rw [den_append hn] at h1; exact h1
  | vptr n t i c =>
    have hi : i.sc ρ.length = true := hn
    obtain ⟨b, o, len, cap, ts, h1⟩ := h
    refine ⟨b, o, len, cap, ts, ?_⟩
    rw [den_append hi] at h1; exact h1
  | _ => exact h
theorem RCL.cut {cs : List C} {vs : List Value} {r : List D} (hn : cs.all (C.sc ρ.length) = true) (h : RCL P w F (ρ ++ r) β cs vs) : RCL P w F ρ β cs vs :=
  ⟨h.1, fun i c v hc hv => (h.2 i c v hc hv).cut (List.all_eq_true.1 hn c (List.mem_of_getElem? hc))⟩
theorem R1.cut {c : V1} {v : Value} {r : List D} (hn : c.sc ρ.length = true) (h : R1 P w F (ρ ++ r) β c v) : R1 P w F ρ β c v := by
  cases c with
  | one c => exact RC.cut hn h
  | agg cs => obtain ⟨vs, e, h⟩ := h; exact ⟨vs, e, h.cut hn⟩
theorem RV.cut {c : SV} {v : Value} {r : List D} (hn : c.sc ρ.length = true) (h : RV P w F (ρ ++ r) β c v) : RV P w F ρ β c v := by
  cases c with
  | one c => exact RC.cut hn h
  | agg cs => obtain ⟨vs, e, h⟩ := h; exact ⟨vs, e, h.cut hn⟩
  | tup l => obtain ⟨vs, e, hl, h⟩ := h; exact ⟨vs, e, hl, fun i c u hc hu => (h i c u hc hu).cut (List.all_eq_true.1 hn c (List.mem_of_getElem? hc))⟩
theorem BoxOk.cut {x : Box} {v : Value} {r : List D} (hn : x.sc ρ.length = true) (h : BoxOk P w F (ρ ++ r) β x v) : BoxOk P w F ρ β x v := by
  cases x with
  | box t cs => obtain ⟨b, vs, h1, h2, h3⟩ := h; exact ⟨b, vs, h1, h2, h3.cut hn⟩
  | vec e x =>
    obtain ⟨ts, xs, h1⟩ := h
    refine ⟨ts, xs, ?_⟩
    rw [den_append hn] at h1; exact h1

end
end Go.Proofs.Ytnaojplgikaeoaa.Eng
