/-
  The walks of Sound and All, and the law's own example.
-/
import Derived.Test.YtnbnjkbkjmlomaaNew
namespace Go.Proofs.Ytnbnjkbkjmlomaa
open Go.RowKit
set_option linter.unusedSimpArgs false
set_option linter.unusedVariables false

def soundB (ws : List Nat) (x : Nat) : Bool := decide (x < 2 ^ ws.sum)
theorem lay_form {w : World} {v : Value} {ws : List Nat} (h : LayIs w v ws) : ∃ A c, v = .agg #[.slice A ws.length c] := by
  rcases h with ⟨rfl, rfl⟩ | ⟨b, off, c, rfl, _⟩
  · exact ⟨none, 0, rfl⟩
  · exact ⟨_, _, rfl⟩
theorem shr_zero (x k : Nat) (hk : k ≤ 64) : (((x : Int) / 2 ^ k) == 0) = decide (x < 2 ^ k) := by
  have e : ((x : Int) / 2 ^ k) = ((x / 2 ^ k : Nat) : Int) := by simp
  rw [e]
  have h2 : 0 < 2 ^ k := Nat.two_pow_pos _
  rw [Bool.eq_iff_iff]
  simp only [beq_iff_eq, decide_eq_true_eq]
  constructor
  · intro h
    have h0 : x / 2 ^ k = 0 := by omega
    exact (Nat.div_eq_zero_iff_lt h2).1 h0
  · intro h
    rw [Nat.div_eq_of_lt h]
    rfl

set_option maxHeartbeats 400000 in
theorem sound_any (v : Value) (ws : List Nat) (x : Nat) (hg : GoodW ws) (hx : x < 18446744073709551616) (w : World) (hv : LayIs w v ws) :
    Calls Try.prog 11 #[v, .int .u64 (x : Int)] w (Gives w (.bool (soundB ws x))) := by
  have hl := good_length hg
  have hlow := low_any v ws (ws.length : Int) (by omega) (by omega) hg
  have hk : lowN ws ws.length ≤ 64 := good_low hg _
  have hs : lowN ws ws.length = ws.sum := lowN_all ws
  obtain ⟨k, hk0⟩ : ∃ k, k = lowN ws ws.length := ⟨_, rfl⟩
  rw [Int.toNat_natCast, ← hk0] at hlow
  rw [← hk0] at hk hs
  have hval := shr_zero x k hk
  have hres : soundB ws x = decide (x < 2 ^ k) := by unfold soundB; rw [hs]
  have hfull : k = 64 → decide (x < 2 ^ k) = true := by
    intro h
    subst h
    simpa using hx
  rw [hres]
  obtain ⟨r, hr⟩ : ∃ r, r = decide (x < 2 ^ k) := ⟨_, rfl⟩
  rw [← hr] at hval hfull ⊢
  have Hval := Lib.hid hval
  have Hlow := Lib.hid hlow
  have Hv := Lib.hid hv
  obtain ⟨A, c, hform⟩ := lay_form hv
  have Hform := Lib.hid hform
  have Hfull := Lib.hid hfull
  clear hval hlow hv hs hk0 hres hr hfull
  subst hform
  by_cases h64 : k = 64
  · have hr := Hfull.out h64
    subst hr
    have d : ((k : Int) == 64) = true := by rw [h64]; rfl
    clear h64
    go_enter Try.func11, Try.ntmps11
    go_wp2_with (go_at_call 21; refine (Hlow.out _ (lay_kept Hv.out (by repeat (first | assumption | exact Below.refl _ _ | apply kept_alloc | apply kept_drew | apply kept_drewN | refine kept_trans ?_ (by assumption))))).mono ?_; rintro e w1 ⟨rfl, hb1⟩)
    go_ret
    exact ⟨rfl, by repeat (first | assumption | exact Below.refl _ _ | apply kept_alloc | apply kept_drew | apply kept_drewN | refine kept_trans ?_ (by assumption))⟩
  · have d : ((k : Int) == 64) = false := by simp; omega
    clear h64
    go_enter Try.func11, Try.ntmps11
    go_wp2_with (go_at_call 21; refine (Hlow.out _ (lay_kept Hv.out (by repeat (first | assumption | exact Below.refl _ _ | apply kept_alloc | apply kept_drew | apply kept_drewN | refine kept_trans ?_ (by assumption))))).mono ?_; rintro e w1 ⟨rfl, hb1⟩)
    go_ret
    exact ⟨by rw [← Hval.out]; rfl, by repeat (first | assumption | exact Below.refl _ _ | apply kept_alloc | apply kept_drew | apply kept_drewN | refine kept_trans ?_ (by assumption))⟩

theorem two_wf (a b : Int) (ha : (Lit.int .i64 a).wf = true) (hb : (Lit.int .i64 b).wf = true) : ∀ z ∈ [a, b], (Lit.int .i64 z).wf = true := by
  intro z hz
  rcases List.mem_cons.1 hz with h | hz
  · rw [h]; exact ha
  · rcases List.mem_cons.1 hz with h | hz
    · rw [h]; exact hb
    · simp at hz

set_option maxHeartbeats 400000 in
theorem field_awake (w : World) : Calls Try.prog 8 #[] w (Gives w (.bool true)) := by
  have hr1 : Row (w.alloc (.cells #[.int .i64 3, .int .i64 5] 3)) (some ⟨w.heap.size, 0, none⟩) ([3, 5].map (Value.int .i64)) := row_new _ _ _
  have Hr1 := Lib.hid hr1
  clear hr1
  go_enter Try.func8, Try.ntmps8
  go_wp2_with fail
  refine (new_any _ 2 _ [3, 5] rfl (by omega) (two_wf 3 5 rfl rfl) _ Hr1.out).mono ?_
  rintro e w1 ⟨hb1, h⟩
  rcases h with ⟨lay, ws, hbad, hws, hg, rfl, hlay⟩ | ⟨code, i, er, hbad, _⟩
  · obtain rfl : ws = [3, 5] := by
      match ws, hws with
      | [a, b], h => simp at h; obtain ⟨h1, h2⟩ := h; rw [show a = 3 by omega, show b = 5 by omega]
    obtain ⟨A, c, hform⟩ := lay_form hlay
    have Hlay := Lib.hid hlay
    have Hg := Lib.hid hg
    have hr2 : Row ((w1.alloc (.cells #[.slice A 2 c] 26)).alloc (.cells #[.int .i64 1, .int .i64 2] 3)) (some ⟨w1.heap.size + 1, 0, none⟩) ([1, 2].map (Value.int .i64)) := row_blk (cs := #[.int .i64 1, .int .i64 2]) (t := 3) (by repeat (first | assumption | (refine blk_newAt rfl ?_; simp; done) | refine blk_alloc ?_ _ | refine blk_drew ?_ | refine blk_drewN ?_ _)) rfl
    have Hr2 := Lib.hid hr2
    clear hr2 hws hbad hlay hg
    subst hform
    go_wp2_with fail
    refine (pack_any _ [3, 5] _ 2 _ [1, 2] rfl Hg.out (by omega) (two_wf 1 2 rfl rfl) _ (lay_kept Hlay.out (by repeat (first | assumption | exact Below.refl _ _ | apply kept_alloc | apply kept_drew | apply kept_drewN | refine kept_trans ?_ (by assumption)))) Hr2.out).mono ?_
    rintro e w2 ⟨er, rfl, her, hb2⟩
    rw [show packI [3, 5] [1, 2] = (17, 0, none) from rfl] at her ⊢
    have her' : er = .nilIface := by
      rcases her with ⟨_, _, h⟩ | ⟨h, _⟩ | ⟨h, _⟩
      · exact h
      · simp at h
      · simp at h
    subst her'
    clear her
    go_wp2_with fail
    go_ret
    exact ⟨rfl, by repeat (first | assumption | exact Below.refl _ _ | apply kept_alloc | apply kept_drew | apply kept_drewN | refine kept_trans ?_ (by assumption))⟩
  · simp [badW] at hbad
end Go.Proofs.Ytnbnjkbkjmlomaa
