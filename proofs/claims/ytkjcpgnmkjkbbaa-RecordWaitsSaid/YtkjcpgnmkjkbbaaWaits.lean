/-
  The law RecordWaits walks to true.
-/
import Derived.Test.YtkjcpgnmkjkbbaaNext
namespace Go.Proofs.Ytkjcpgnmkjkbbaa
open Go.RowKit
set_option linter.unusedSimpArgs false
set_option linter.unusedVariables false
set_option maxHeartbeats 400000 in
theorem waits_walk (g n f k : Int) (hg : 0 ≤ g ∧ g ≤ 255) (hn : 0 ≤ n ∧ n ≤ 255) (hf : 0 ≤ f ∧ f ≤ 255) (hk : 0 ≤ k ∧ k ≤ 255) (w : World) :
    Calls Try.prog 3 #[.int .u8 g, .int .u8 n, .int .u8 f, .int .u8 k] w (Gives w (.bool true)) := by
  obtain ⟨hg1, hg2⟩ := hg
  obtain ⟨hn1, hn2⟩ := hn
  obtain ⟨hf1, hf2⟩ := hf
  obtain ⟨hk1, hk2⟩ := hk
  by_cases hc : f % 5 = n % 4
  · have hc2 : (f % 5 != n % 4) = false := by simpa using hc
    have hc3 : (n % 4 != f % 5) = false := by simpa using hc.symm
    have Hc := Lib.hid hc
    clear hc
    go_enter Try.func3, Try.ntmps3
    go_wp2_with fail
    rw [show (f % 5) = n % 4 from Hc.out]
    refine (next_end _ _ _ _ _ _ _ _ _ _ _ _ _ (by decide) (by omega) (by omega) (by omega) (by omega) _).mono ?_
    rintro e w1 ⟨rfl, hb⟩
    unfold recV curV
    obtain ⟨fchb, ffhb, fzhb⟩ := far hb; simp only [World.size_alloc, World.size_setCell, World.size_drew] at fzhb
    go_wp2_with fail
    refine (awake _).mono ?_
    rintro e w2 ⟨rfl, hb2⟩
    obtain ⟨fchb2, ffhb2, fzhb2⟩ := far hb2; simp only [World.size_alloc, World.size_setCell, World.size_drew] at fzhb2
    go_wp2_with fail
    go_ret
    exact ⟨rfl, by repeat (first | assumption | exact Below.refl _ _ | apply kept_alloc | apply kept_drew | apply kept_drewN | refine kept_trans ?_ (by assumption))⟩
  · have hc' : (f % 5 == n % 4) = false := by simpa using hc
    have hc2 : (f % 5 != n % 4) = true := by simpa using hc
    clear hc
    go_enter Try.func3, Try.ntmps3
    go_wp2_with fail
    refine (next_no _ _ _ _ _ _ _ _ _ _ _ _ _ _ (by decide) (by rw [hc']; simp) _).mono ?_
    rintro e w1 ⟨rfl, hb⟩
    unfold recV curV
    obtain ⟨fchb, ffhb, fzhb⟩ := far hb; simp only [World.size_alloc, World.size_setCell, World.size_drew] at fzhb
    go_wp2_with fail
    refine (awake _).mono ?_
    rintro e w2 ⟨rfl, hb2⟩
    obtain ⟨fchb2, ffhb2, fzhb2⟩ := far hb2; simp only [World.size_alloc, World.size_setCell, World.size_drew] at fzhb2
    go_wp2_with fail
    go_ret
    exact ⟨rfl, by repeat (first | assumption | exact Below.refl _ _ | apply kept_alloc | apply kept_drew | apply kept_drewN | refine kept_trans ?_ (by assumption))⟩
end Go.Proofs.Ytkjcpgnmkjkbbaa
