/-
  errors.is of several errors.
-/
import Derived.Test.YtnaokofklgbbcaaDoorAllF
import Derived.LoopTactic
namespace Go.Proofs.YtnaokofklgbbcaaDoor.IsD
open Go.RowKit Go.Extern.Stop Go.Stop Go.Extern Go.Proofs.YtnaokofklgbbcaaDoor.Eng Go.Proofs.YtnaokofklgbbcaaDoor Go.Proofs.YtnaokofklgbbcaaDoor.ErrD
set_option linter.unusedSimpArgs false
set_option linter.unusedVariables false
theorem is_many (k : Int) (w : World) (b o len cap : Nat) (bs : List Bool) (hlen : bs.length = len) (h100 : len ≤ 100) (g : Nat → Value)
    (hc : ∀ j, j < len → w.cell? ⟨b, o + j, none⟩ = some (g j))
    (hcall : ∀ j, j < len → Calls Tryd.prog 21 #[g j, .iface 27 (.int .i64 k), .bool true] w fun e w' => e = .returned (.bool (bs.getD j false)) ∧ w = w') :
    Calls Tryd.prog 21 #[.iface 61 (.slice (some ⟨b, o, none⟩) len cap), .iface 27 (.int .i64 k), .bool true] w fun e w' => e = .returned (.bool (bs.any id)) ∧ w = w' := by
  have nA := noIsA
  have uA := noUnwrapA
  have vA := hasUnwrapsA
  have mA := methodUnwrapsA
  have hno := run_eql_iface_types (P := Tryd.prog) 61 27 (.slice (some ⟨b, o, none⟩) len cap) (.int .i64 k) Tryd.underlying25 (by decide) w
  have Hc := Lib.hid hc
  have Hcall := Lib.hid hcall
  have Hlen := Lib.hid hlen
  clear hc hcall hlen
  go_enter Tryd.func21, Tryd.ntmps21
  go_wp2
  refine wp_loop_rounds 1 ?_
  rw [rounds_succ]
  go_wp2
  go_loop [45] (fun i => ∃ j : Nat, j ≤ len ∧ i = .int .i64 j ∧ Hid ((bs.drop j).any id = bs.any id)) (fun i => len - (intOf i).toNat)
  case atStart => exact ⟨0, by omega, rfl, rfl⟩
  case round =>
    obtain ⟨j, hj, rfl, hany⟩ := hrel
    by_cases hlt : j < len
    · have hgc := Hc j hlt
      have hcal := Lib.hid (Hcall j hlt)
      have hb : (bs.drop j).any id = (bs.getD j false || (bs.drop (j + 1)).any id) := by
        rw [List.drop_eq_getElem_cons (by rw [show bs.length = len from Hlen]; exact hlt), List.any_cons, List.getD_eq_getElem?_getD, List.getElem?_eq_getElem (by rw [show bs.length = len from Hlen]; exact hlt)]
        rfl
      have Hb := Lib.hid hb
      clear hb
      go_wp2_with fail
      refine Calls.mono hcal ?_
      rintro e w1 ⟨rfl, rfl⟩
      cases hbj : bs.getD j false with
      | true =>
        have hfin : bs.any id = true := by
          rw [← show _ = _ from hany, show _ = _ from Hb, hbj]; rfl
        go_wp2
        go_ret
        exact ⟨by rw [hfin]; rfl, rfl⟩
      | false =>
        have hnext := Lib.hid (show (bs.drop (j + 1)).any id = bs.any id by rw [← show _ = _ from hany, show _ = _ from Hb, hbj]; rfl)
        go_wp2
        simp only [true_and]
        go_round
        case rel =>
          refine ⟨_, _, _, _, _, _, _, _, _, _, _, ⟨j + 1, by omega, ?_, hnext⟩, rfl⟩
          go_num
        case measure => simp [intOf]; omega
    · obtain rfl : j = len := by omega
      have hfin : bs.any id = false := by
        rw [← show _ = _ from hany, List.drop_of_length_le (by rw [show bs.length = j from Hlen]; exact Nat.le_refl _)]
        rfl
      rw [hfin]
      go_wp2
      go_ret
      exact ⟨rfl, rfl⟩
theorem is_someA (k : Int) (w : World) (b : Bool) (v' : Value) (hlow : Calls Tryd.prog 21 #[.iface 61 v', .iface 27 (.int .i64 k), .bool true] w fun e w' => e = .returned (.bool b) ∧ w = w') :
    Calls Tryd.prog 16 #[.iface 61 v', .iface 27 (.int .i64 k)] w fun e w' => e = .returned (.bool b) ∧ w = w' := by
  have h8 := @run_callFunc_extern Tryd.prog 20 _ Extern.ReflectliteType.typeOf Tryd.func20 (by kernel_rfl) (by kernel_rfl) (by kernel_rfl) (by kernel_rfl)
  have h32 := @run_callFunc_extern Tryd.prog 57 _ compExt Tryd.func57 (by kernel_rfl) (by kernel_rfl) (by kernel_rfl) (by kernel_rfl)
  have tT := isTypeOf
  have cT := isComparable
  have mR := isMethodComparable
  have H0 := Lib.hid hlow
  clear hlow
  go_enter Tryd.func16, Tryd.ntmps16
  go_wp2_with fail
  refine Calls.mono H0 ?_
  rintro e w1 ⟨rfl, rfl⟩
  go_wp2
  go_ret
  exact ⟨rfl, rfl⟩
theorem isL_get {k : Int} : ∀ {l : List D} {bs : List Bool}, isL l k = some bs → bs.length = l.length ∧ ∀ i x, l[i]? = some x → ∃ t y, x = .iface t y ∧ isN 100 x k = some (bs.getD i false)
  | [], bs, h => by simp [isL] at h; subst h; exact ⟨rfl, fun i x h => by simp at h⟩
  | x :: l, bs, h => by
    simp only [isL] at h
    split at h
    · rename_i b bs' h1 h2
      simp at h; subst h
      obtain ⟨q1, q2⟩ := isL_get h2
      refine ⟨by simp [q1], fun i y hy => ?_⟩
      cases i with
      | zero =>
        simp at hy; subst hy
        cases x with
        | iface t z => exact ⟨t, z, rfl, h1⟩
        | _ => cases h1
      | succ i => simpa using q2 i y (by simpa using hy)
    · cases h
theorem is_all (k : Int) (w : World) (F : Fr) (x : D) (r : List D) (v0 : Value) (h : isAllF x k = some r) (hr : Rd Tryd.prog w F .ifc (.iface 61 x) v0) :
    ∃ b, r = [.bool b] ∧ Calls Tryd.prog 16 #[v0, .iface 27 (.int .i64 k)] w fun e w' => e = .returned (.bool b) ∧ w = w' := by
  unfold isAllF at h
  split at h
  · rename_i l
    split at h
    · rename_i hl
      cases hb : isL l k with
      | none => rw [hb] at h; cases h
      | some bs =>
        rw [hb] at h
        simp only [Option.map_some, Option.some.injEq] at h
        subst h
        obtain ⟨hlen, hel⟩ := isL_get hb
        obtain ⟨A, cap, rfl, hc⟩ := rd_allV hr
        rcases hc with rfl | ⟨b, o, rfl, hc⟩
        · simp at hl
        · refine ⟨_, rfl, is_someA k w _ _ ?_⟩
          have hg : ∀ j, j < l.length → ∃ ve, w.cell? ⟨b, o + j, none⟩ = some ve ∧ ∃ x, l[j]? = some x ∧ Rd Tryd.prog w F .ifc x ve := fun j hj => by
            obtain ⟨ve, h1, h2⟩ := hc j l[j] (List.getElem?_eq_getElem hj)
            exact ⟨ve, h1, _, List.getElem?_eq_getElem hj, h2⟩
          refine is_many k w b o l.length cap bs hlen hl.2 (fun j => (w.cell? ⟨b, o + j, none⟩).getD .nilIface) (fun j hj => ?_) (fun j hj => ?_)
          · obtain ⟨ve, h1, _⟩ := hg j hj
            rw [h1]; rfl
          · obtain ⟨ve, h1, x, h2, h3⟩ := hg j hj
            obtain ⟨t, y, rfl, h4⟩ := hel j x h2
            have := is_low k w F _ 100 _ ve h4 h3
            simpa [h1] using this
    · cases h
  · cases h
end Go.Proofs.YtnaokofklgbbcaaDoor.IsD
