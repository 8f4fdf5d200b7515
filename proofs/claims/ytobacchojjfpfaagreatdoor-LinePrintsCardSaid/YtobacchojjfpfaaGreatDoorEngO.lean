/-
  A reader of Go functions, part O: fewer variables.
-/
import Derived.Test.YtobacchojjfpfaaGreatDoorEngH
namespace Go.Proofs.YtobacchojjfpfaaGreatDoor.Eng
set_option linter.unusedVariables false
section
variable {P : Program} {w : World} {F : Fr} {ρ : List D} {β : Nat → Value}
theorem RC.cut {c : C} {v : Value} {r : List D} (hn : c.sc ρ.length = true) (h : RC P w F (ρ ++ r) β c v) : RC P w F ρ β c v := by
  cases c with
  | dat t e => have h' : Rd P w F t (den (ρ ++ r) e) v := h; rw [den_append hn] at h'; exact h'
  | eptr t a i c =>
    simp only [C.sc, Bool.and_eq_true] at hn
    obtain ⟨b, o, len, cap, ts, h1⟩ := h
    refine ⟨b, o, len, cap, ts, ?_⟩
    rw [den_append hn.1, den_append hn.2] at h1; exact h1
  | pptr t a c =>
    obtain ⟨b, o, h1⟩ := h
    refine ⟨b, o, ?_⟩
    rw [den_append hn] at h1; exact h1
  | vptr n t i c =>
    have hi : i.sc ρ.length = true := hn
    obtain ⟨b, o, len, cap, ts, h1⟩ := h
    refine ⟨b, o, len, cap, ts, ?_⟩
    rw [den_append hi] at h1; exact h1
  | win n t i j =>
    simp only [C.sc, Bool.and_eq_true] at hn
    obtain ⟨A, len, cap, ts, h1⟩ := h
    refine ⟨A, len, cap, ts, ?_⟩
    rw [den_append hn.1, den_append hn.2] at h1; exact h1
  | hptr t a c =>
    obtain ⟨n, b, h1, h2, h3⟩ := h
    exact ⟨n, b, h1, by rw [den_append hn] at h2; exact h2, h3⟩
  | _ => exact h
theorem RCL.cut {cs : List C} {vs : List Value} {r : List D} (hn : cs.all (C.sc ρ.length) = true) (h : RCL P w F (ρ ++ r) β cs vs) : RCL P w F ρ β cs vs :=
  ⟨h.1, fun i c v hc hv => (h.2 i c v hc hv).cut (List.all_eq_true.1 hn c (List.mem_of_getElem? hc))⟩
theorem R1.cut {c : V1} {v : Value} {r : List D} (hn : c.sc ρ.length = true) (h : R1 P w F (ρ ++ r) β c v) : R1 P w F ρ β c v := by
  cases c with
  | one c => exact RC.cut hn h
  | agg cs => obtain ⟨vs, e, h⟩ := h; exact ⟨vs, e, h.cut hn⟩
theorem RV.cut {c : SV} {v : Value} {r : List D} (hn : c.sc ρ.length = true) (h : RV P w F (ρ ++ r) β c v) : RV P w F ρ β c v := by
  cases c with
  | one c => exact RC.cut hn h
  | agg cs => obtain ⟨vs, e, h⟩ := h; exact ⟨vs, e, h.cut hn⟩
  | tup l => obtain ⟨vs, e, hl, h⟩ := h; exact ⟨vs, e, hl, fun i c u hc hu => (h i c u hc hu).cut (List.all_eq_true.1 hn c (List.mem_of_getElem? hc))⟩
theorem BoxOk.cut {x : Box} {v : Value} {r : List D} (hn : x.sc ρ.length = true) (h : BoxOk P w F (ρ ++ r) β x v) : BoxOk P w F ρ β x v := by
  cases x with
  | box t cs => obtain ⟨b, vs, h1, h2, h3⟩ := h; exact ⟨b, vs, h1, h2, h3.cut hn⟩
  | vec e x =>
    obtain ⟨ts, xs, h1⟩ := h
    refine ⟨ts, xs, ?_⟩
    rw [den_append hn] at h1; exact h1
  | view t a c =>
    obtain ⟨n, b, vs, h1, h2⟩ := h
    exact ⟨n, b, vs, by rw [den_append hn] at h1; exact h1, h2⟩
  | map t x =>
    obtain ⟨b, k, e, ts, us, g, h, es, h1⟩ := h
    exact ⟨b, k, e, ts, us, g, h, es, by rw [den_append hn] at h1; exact h1⟩

end
section
variable {X : Cx} {ρ : List D} {st : St} {Ft : Fr} {β : Nat → Value} {a : Act} {w : World}
theorem Sat.cutS {r : List D} (hs0 : Sat X (ρ ++ r) st Ft β a w) (hsc : st.sc = true) (hnv : st.nv = ρ.length) : Sat X ρ st Ft β a w := by
  simp only [St.sc, Bool.and_eq_true, List.all_eq_true] at hsc
  obtain ⟨⟨⟨s1, s2⟩, s3⟩, s4, s5⟩ := hsc
  rw [hnv] at s1 s2 s3 s4 s5
  refine ⟨hs0.df, hs0.sz, hs0.ft, ?_, ?_, hs0.inj, hs0.own, hs0.chg, ?_, hs0.on, hs0.f0, hs0.gx, hs0.cf, ⟨fun m e he => ?_, hs0.hg.gm⟩, hs0.fw⟩
  · intro t sv ht
    obtain ⟨v, q1, q2⟩ := hs0.tm t sv ht
    exact ⟨v, q1, RV.cut (s1 _ (mem_of_lookup ht)) q2⟩
  · intro n x hx
    exact BoxOk.cut (s2 _ (mem_of_lookup hx)) (hs0.bx n x hx)
  · intro e b hm
    have := hs0.fs e b hm
    rw [den_append (s3 _ hm)] at this
    exact this
  · have q := hs0.hg.hp m e he
    rw [he] at s4
    rw [den_append (by simpa using s4), exN_ext r s5] at q
    exact q
end
end Go.Proofs.YtobacchojjfpfaaGreatDoor.Eng
