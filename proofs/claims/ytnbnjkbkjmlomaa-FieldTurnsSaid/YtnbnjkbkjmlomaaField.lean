/-
  The walks of a layout's functions: low, Most, Get, Pack, New.
-/
import Derived.Test.YtnbnjkbkjmlomaaIs
import Derived.Test.YtnbnjkbkjmlomaaFMath
import Derived.Test.YtnbnjkbkjmlomaaRefGet
import Derived.BigQuiet
import Derived.Deep.QuietTactic
import Derived.Deep.RegionWith
namespace Go.Proofs.Ytnbnjkbkjmlomaa
open Go.RowKit
set_option linter.unusedSimpArgs false
set_option linter.unusedVariables false

/-- A layout of these widths, as a value. -/
def LayIs (w : World) (v : Value) (ws : List Nat) : Prop :=
  (v = .agg #[.slice none 0 0] ∧ ws = []) ∨
  ∃ b off c, v = .agg #[.slice (some ⟨b, off, none⟩) ws.length c] ∧ ws.length ≤ c ∧ c ≤ 9223372036854775807 ∧ b < w.heap.size ∧ ∀ i (hi : i < ws.length), w.cell? ⟨b, off + i, none⟩ = some (.int .i64 (ws[i] : Int))
theorem lay_kept {w w1 : World} {v : Value} {ws : List Nat} (h : LayIs w v ws) (hb : Below w.heap.size w w1) : LayIs w1 v ws := by
  rcases h with h | ⟨b, off, c, h1, h2, h3, h4, h5⟩
  · exact .inl h
  · exact .inr ⟨b, off, c, h1, h2, h3, Nat.lt_of_lt_of_le h4 hb.size, fun i hi => (hb.cell (p := ⟨b, off + i, none⟩) h4).trans (h5 i hi)⟩

set_option maxHeartbeats 400000 in
theorem low_some (b off n c i : Nat) (ws : List Nat) (hl : ws.length = n) (hi : i ≤ n) (hnc : n ≤ c) (hc : c ≤ 9223372036854775807) (hg : GoodW ws) (w : World) (hb : b < w.heap.size)
    (hr : ∀ i (hi : i < ws.length), w.cell? ⟨b, off + i, none⟩ = some (.int .i64 (ws[i] : Int))) :
    Calls Try.prog 21 #[.agg #[.slice (some ⟨b, off, none⟩) n c], .int .i64 (i : Int)] w (Gives w (.int .i64 (lowN ws i : Int))) := by
  have Hl := Lib.hid hl
  have Hg := Lib.hid hg
  clear hl hg
  go_enter Try.func21, Try.ntmps21
  go_wp2
  go_loop [5, 13] (fun s j => ∃ k : Nat, k ≤ i ∧ j = .int .i64 k ∧ s = .int .i64 (lowN ws k : Int)) (fun _ j => i - (intOf j).toNat)
  case atStart => exact ⟨0, by omega, rfl, rfl⟩
  case round =>
    obtain ⟨k, hk, rfl, rfl⟩ := hrel
    by_cases hlt : k < i
    · have hkl : k < ws.length := by rw [Hl.out]; omega
      have hcell := hr k hkl
      have hs := lowN_succ ws k hkl
      have h1 := good_low Hg.out k
      have h2 := good_low Hg.out (k + 1)
      obtain ⟨z, hz⟩ : ∃ z, z = ws[k] := ⟨_, rfl⟩
      rw [← hz] at hcell hs
      obtain ⟨s, hs0⟩ : ∃ s, s = lowN ws k := ⟨_, rfl⟩
      rw [← hs0] at hs h1
      rw [hs] at h2
      have Hs := Lib.hid hs
      have Hs0 := Lib.hid hs0
      rw [← hs0]
      clear hr hz hs hs0
      go_wp2
      go_round
      case rel => exact ⟨k + 1, by omega, by go_num, by rw [Hs.out]; go_num⟩
      case measure => simp [intOf]; omega
    · obtain rfl : k = i := by omega
      clear hr
      go_wp2
      go_ret
      exact ⟨rfl, by repeat (first | assumption | exact Below.refl _ _ | apply kept_alloc | apply kept_drew | apply kept_drewN | refine kept_trans ?_ (by assumption))⟩

theorem low_none (w : World) : Calls Try.prog 21 #[.agg #[.slice none 0 0], .int .i64 0] w (Gives w (.int .i64 0)) := by
  go_enter Try.func21, Try.ntmps21
  go_wp2
  go_loop [5, 13] (fun s j => j = .int .i64 0 ∧ s = .int .i64 0) (fun _ j => 0)
  case atStart => exact ⟨rfl, rfl⟩
  case round =>
    obtain ⟨rfl, rfl⟩ := hrel
    go_wp2
    go_ret
    exact ⟨rfl, by repeat (first | assumption | exact Below.refl _ _ | apply kept_alloc | apply kept_drew | apply kept_drewN | refine kept_trans ?_ (by assumption))⟩

/-- How many bits stand below field i. -/
theorem low_any (v : Value) (ws : List Nat) (i : Int) (h0 : 0 ≤ i) (hi : i ≤ ws.length) (hg : GoodW ws) (w : World) (hv : LayIs w v ws) :
    Calls Try.prog 21 #[v, .int .i64 i] w (Gives w (.int .i64 (lowN ws i.toNat : Int))) := by
  rcases hv with ⟨rfl, rfl⟩ | ⟨b, off, c, rfl, h2, h3, h4, h5⟩
  · obtain rfl : i = 0 := by simp at hi; omega
    exact low_none w
  · obtain ⟨k, rfl⟩ := Int.eq_ofNat_of_zero_le h0
    rw [Int.toNat_natCast]
    exact low_some b off ws.length c k ws rfl (by omega) h2 h3 hg w h4 h5

theorem ret_u64 {a b : Int} (h : a = b) : Ending.returned (.int .u64 a) = .returned (.int .u64 b) := by rw [h]
theorem ret_i64 {a b : Int} (h : a = b) : Ending.returned (.int .i64 a) = .returned (.int .i64 b) := by rw [h]
theorem most_val (z : Nat) (hz : z ≤ 32) : IntKind.u64.wrap (IntKind.u64.wrap ((2 : Int) ^ z) - 1) = ((2 ^ z - 1 : Nat) : Int) := by
  have h1 : 2 ^ z ≤ 2 ^ 32 := pow_le z 32 hz
  have h2 : 0 < 2 ^ z := Nat.two_pow_pos z
  have e : ((2 : Int) ^ z) = ((2 ^ z : Nat) : Int) := by simp
  rw [e, IntWalk.u64_in ((2 ^ z : Nat) : Int) (by omega), IntWalk.u64_in _ (by omega)]
  omega

set_option maxHeartbeats 400000 in
theorem most_some (b off n c i z : Nat) (hz : z ≤ 32) (hi : i < n) (hnc : n ≤ c) (hc : c ≤ 9223372036854775807) (w : World) (hb : b < w.heap.size)
    (hr : w.cell? ⟨b, off + i, none⟩ = some (.int .i64 (z : Int))) :
    Calls Try.prog 20 #[.agg #[.slice (some ⟨b, off, none⟩) n c], .int .i64 (i : Int)] w (Gives w (.int .u64 ((2 ^ z - 1 : Nat) : Int))) := by
  have d1 : decide ((n : Int) ≤ (i : Int)) = false := by simp; omega
  go_enter Try.func20, Try.ntmps20
  go_wp2
  go_ret
  exact ⟨ret_u64 (most_val z hz), by repeat (first | assumption | exact Below.refl _ _ | apply kept_alloc | apply kept_drew | apply kept_drewN | refine kept_trans ?_ (by assumption))⟩

theorem most_out (A : Option Addr) (n c : Nat) (i : Int) (hi : i < 0 ∨ n ≤ i) (hn : n ≤ 9223372036854775807) (w : World) :
    Calls Try.prog 20 #[.agg #[.slice A n c], .int .i64 i] w (Gives w (.int .u64 0)) := by
  by_cases h : i < 0
  · clear hi
    go_enter Try.func20, Try.ntmps20
    go_wp2
    go_ret
    exact ⟨rfl, by repeat (first | assumption | exact Below.refl _ _ | apply kept_alloc | apply kept_drew | apply kept_drewN | refine kept_trans ?_ (by assumption))⟩
  · have d0 : decide (i < 0) = false := by simpa using h
    have h' : (n : Int) ≤ i := by omega
    clear hi h
    go_enter Try.func20, Try.ntmps20
    go_wp2
    go_ret
    exact ⟨rfl, by repeat (first | assumption | exact Below.refl _ _ | apply kept_alloc | apply kept_drew | apply kept_drewN | refine kept_trans ?_ (by assumption))⟩

/-- The greatest number of field i: nought where there is none. -/
def mostN (ws : List Nat) (i : Int) : Nat := if 0 ≤ i ∧ i < ws.length then 2 ^ ws.getD i.toNat 0 - 1 else 0
theorem most_any (v : Value) (ws : List Nat) (i : Int) (hg : GoodW ws) (w : World) (hv : LayIs w v ws) :
    Calls Try.prog 20 #[v, .int .i64 i] w (Gives w (.int .u64 (mostN ws i : Int))) := by
  unfold mostN
  rcases hv with ⟨rfl, rfl⟩ | ⟨b, off, c, rfl, h2, h3, h4, h5⟩
  · rw [if_neg (by simp)]
    exact most_out none 0 0 i (by omega) (by omega) w
  · by_cases hi : 0 ≤ i ∧ i < ws.length
    · rw [if_pos hi]
      obtain ⟨hi0, hi1⟩ := hi
      obtain ⟨k, rfl⟩ := Int.eq_ofNat_of_zero_le hi0
      have hk : k < ws.length := by omega
      rw [Int.toNat_natCast, List.getD_eq_getElem?_getD, List.getElem?_eq_getElem hk]
      exact most_some b off ws.length c k ws[k] (good_get hg k hk).2.1 hk h2 h3 w h4 (h5 k hk)
    · rw [if_neg hi]
      exact most_out _ _ _ i (by omega) (by omega) w

theorem mostN_in {ws : List Nat} {i : Nat} (hi : i < ws.length) : mostN ws (i : Int) = 2 ^ ws.getD i 0 - 1 := by
  unfold mostN
  rw [if_pos (by omega), Int.toNat_natCast]
theorem getD_le {ws : List Nat} (hg : GoodW ws) (i : Nat) : ws.getD i 0 ≤ 32 := by
  rw [List.getD_eq_getElem?_getD]
  rcases Nat.lt_or_ge i ws.length with h | h
  · rw [List.getElem?_eq_getElem h]
    exact (good_get hg i h).2.1
  · rw [List.getElem?_eq_none h]
    exact Nat.zero_le _
theorem get_val (x i : Nat) (ws : List Nat) (hx : x < 18446744073709551616) (hi : i < ws.length) (hg : GoodW ws) :
    IntKind.i64.wrap (bits BinOp.and IntKind.u64 ((x : Int) / 2 ^ min (lowN ws i) 64) (mostN ws (i : Int) : Int)) = (getN ws x i : Int) := by
  have h1 := good_low hg i
  have h2 := getD_le hg i
  have h3 : 2 ^ ws.getD i 0 ≤ 2 ^ 32 := pow_le _ 32 h2
  have h4 : 0 < 2 ^ ws.getD i 0 := Nat.two_pow_pos _
  rw [Nat.min_eq_left h1, mostN_in hi]
  have e : ((x : Int) / 2 ^ lowN ws i) = ((x / 2 ^ lowN ws i : Nat) : Int) := by simp
  have hd : x / 2 ^ lowN ws i ≤ x := Nat.div_le_self _ _
  rw [e, u64_and_nat _ _ (by omega) (by omega), Nat.and_two_pow_sub_one_eq_mod]
  have h5 : x / 2 ^ lowN ws i % 2 ^ ws.getD i 0 < 2 ^ ws.getD i 0 := Nat.mod_lt _ h4
  rw [IntWalk.i64_in _ (by omega)]
  rfl

set_option maxHeartbeats 1000000 in
theorem get_some (b off n c i : Nat) (x : Nat) (ws : List Nat) (hl : ws.length = n) (hi : i < n) (hg : GoodW ws) (hx : x < 18446744073709551616) (hnc : n ≤ c) (hc : c ≤ 9223372036854775807) (w : World) (hv : LayIs w (.agg #[.slice (some ⟨b, off, none⟩) n c]) ws) :
    Calls Try.prog 22 #[.agg #[.slice (some ⟨b, off, none⟩) n c], .int .u64 (x : Int), .int .i64 (i : Int)] w (Gives w (.int .i64 (getN ws x i : Int))) := by
  have d1 : decide ((n : Int) ≤ (i : Int)) = false := by simp; omega
  have Hl := Lib.hid hl
  have Hv := Lib.hid hv
  clear hl hv
  go_enter Try.func22, Try.ntmps22
  go_wp2
  go_region_with (first
    | (go_at_call 21; refine (low_any _ ws _ (by omega) (by rw [Hl.out]; omega) hg _ ?_).mono ?_; (exact lay_kept Hv.out (by repeat (first | assumption | exact Below.refl _ _ | apply kept_alloc | apply kept_drew | apply kept_drewN | refine kept_trans ?_ (by assumption)))); rintro e w1 ⟨rfl, hb1⟩; (obtain ⟨fchb1, ffhb1, fzhb1⟩ := far hb1; try simp only [World.size_alloc, World.size_setCell, World.size_drew, World.heap_drewN] at fzhb1))
    | (go_at_call 20; refine (most_any _ ws _ hg _ ?_).mono ?_; (exact lay_kept Hv.out (by repeat (first | assumption | exact Below.refl _ _ | apply kept_alloc | apply kept_drew | apply kept_drewN | refine kept_trans ?_ (by assumption)))); rintro e w2 ⟨rfl, hb2⟩; (obtain ⟨fchb2, ffhb2, fzhb2⟩ := far hb2; try simp only [World.size_alloc, World.size_setCell, World.size_drew, World.heap_drewN] at fzhb2)))
  all_goals (
    go_wp2
    go_ret
    refine ⟨?_, by repeat (first | assumption | exact Below.refl _ _ | apply kept_alloc | apply kept_drew | apply kept_drewN | refine kept_trans ?_ (by assumption))⟩
    simp only [Act.put]
    exact ret_i64 (get_val x i ws hx (by rw [Hl.out]; exact hi) hg))

theorem get_out (A : Option Addr) (n c : Nat) (x : Nat) (i : Int) (hi : i < 0 ∨ n ≤ i) (hn : n ≤ 9223372036854775807) (w : World) :
    Calls Try.prog 22 #[.agg #[.slice A n c], .int .u64 (x : Int), .int .i64 i] w (Gives w (.int .i64 0)) := by
  by_cases h : i < 0
  · clear hi
    go_enter Try.func22, Try.ntmps22
    go_wp2
    go_ret
    exact ⟨rfl, by repeat (first | assumption | exact Below.refl _ _ | apply kept_alloc | apply kept_drew | apply kept_drewN | refine kept_trans ?_ (by assumption))⟩
  · have d0 : decide (i < 0) = false := by simpa using h
    have h' : (n : Int) ≤ i := by omega
    clear hi h
    go_enter Try.func22, Try.ntmps22
    go_wp2
    go_ret
    exact ⟨rfl, by repeat (first | assumption | exact Below.refl _ _ | apply kept_alloc | apply kept_drew | apply kept_drewN | refine kept_trans ?_ (by assumption))⟩

theorem get_any (v : Value) (ws : List Nat) (x : Nat) (i : Int) (hg : GoodW ws) (hx : x < 18446744073709551616) (w : World) (hv : LayIs w v ws) :
    Calls Try.prog 22 #[v, .int .u64 (x : Int), .int .i64 i] w (Gives w (.int .i64 (getI ws x i : Int))) := by
  unfold getI
  have hl := good_length hg
  rcases hv with ⟨rfl, rfl⟩ | ⟨b, off, c, rfl, h2, h3, h4, h5⟩
  · have e : (if 0 ≤ i then getN [] x i.toNat else 0) = 0 := by
      split
      · exact getN_out [] x _ (by simp)
      · rfl
    rw [e]
    exact get_out none 0 0 x i (by omega) (by omega) w
  · by_cases hi : 0 ≤ i ∧ i < ws.length
    · obtain ⟨hi0, hi1⟩ := hi
      rw [if_pos hi0]
      obtain ⟨k, rfl⟩ := Int.eq_ofNat_of_zero_le hi0
      rw [Int.toNat_natCast]
      exact get_some b off ws.length c k x ws rfl (by omega) hg hx h2 h3 w (.inr ⟨b, off, c, rfl, h2, h3, h4, h5⟩)
    · have e : (if 0 ≤ i then getN ws x i.toNat else 0) = 0 := by
        split
        · exact getN_out ws x _ (by omega)
        · rfl
      rw [e]
      exact get_out _ _ _ x i (by omega) (by omega) w
end Go.Proofs.Ytnbnjkbkjmlomaa
