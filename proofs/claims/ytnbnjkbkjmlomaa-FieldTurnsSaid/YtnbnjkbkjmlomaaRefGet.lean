/-
  The walks of the document's bit and Get.
-/
import Derived.Test.YtnbnjkbkjmlomaaProg
import Derived.Test.YtnbnjkbkjmlomaaMem
import Derived.Test.YtnbnjkbkjmlomaaFMath
import Derived.WalkSpells
import Derived.WalkLawsBesides
import Derived.KernelRfl
import Derived.LoopTactic
namespace Go.Proofs.Ytnbnjkbkjmlomaa
open Go.RowKit
set_option linter.unusedSimpArgs false
set_option linter.unusedVariables false

theorem div_two (x k : Nat) : x / 2 ^ k / 2 = x / 2 ^ (k + 1) := by rw [Nat.div_div_eq_div_mul, Nat.pow_succ]

set_option maxHeartbeats 400000 in
theorem bit_any (x n r : Nat) (hx : x < 18446744073709551616) (hn : n ≤ 1000) (hr : r = x / 2 ^ n % 2) (w : World) :
    Calls Try.prog 25 #[.int .u64 (x : Int), .int .i64 (n : Int)] w fun e w' => e = .returned (.int .i64 (r : Int)) ∧ w = w' := by
  have Hr := Lib.hid hr
  clear hr
  go_enter Try.func25, Try.ntmps25
  go_wp2
  go_loop [0, 5] (fun s i => ∃ (k : Nat), k ≤ n ∧ i = .int .i64 k ∧ s = .int .u64 ((x / 2 ^ k : Nat) : Int)) (fun _ i => n - (intOf i).toNat)
  case atStart => exact ⟨0, by omega, rfl, by simp⟩
  case round =>
    obtain ⟨k, hk, rfl, rfl⟩ := hrel
    have hd := div_two x k
    have hle : x / 2 ^ k ≤ x := Nat.div_le_self _ _
    obtain ⟨y, hy⟩ : ∃ y, y = x / 2 ^ k := ⟨_, rfl⟩
    rw [← hy] at hd hle ⊢
    have Hd := Lib.hid hd
    have Hy := Lib.hid hy
    clear hd hy
    by_cases hlt : k < n
    · go_wp2
      go_round
      case rel => exact ⟨k + 1, by omega, by go_num, by rw [← Hd.out]; go_num⟩
      case measure => simp [intOf]; omega
    · obtain rfl : k = n := by omega
      go_wp2
      go_ret
      have hr := Hr.out
      rw [← Hy.out] at hr
      subst hr
      exact ⟨rfl, rfl⟩

theorem get_step (x l j m : Nat) : x / 2 ^ (l + (j + 1)) % 2 ^ m * 2 + x / 2 ^ (l + j) % 2 = x / 2 ^ (l + j) % 2 ^ (m + 1) := by
  have h : x / 2 ^ (l + (j + 1)) = x / 2 ^ (l + j) / 2 := by rw [Nat.div_div_eq_div_mul, ← Nat.pow_succ]; rfl
  rw [h, Nat.pow_succ, Nat.mul_comm (2 ^ m) 2, Nat.mod_mul]
  omega

set_option maxHeartbeats 1000000 in
theorem rget_some (b off n c i : Nat) (x : Nat) (ws : List Nat) (hl : ws.length = n) (hi : i < n) (hg : GoodW ws) (hx : x < 18446744073709551616) (w : World)
    (hr : ∀ i (hi : i < ws.length), w.cell? ⟨b, off + i, none⟩ = some (.int .i64 (ws[i] : Int))) :
    Calls Try.prog 18 #[.slice (some ⟨b, off, none⟩) n c, .int .u64 (x : Int), .int .i64 (i : Int)] w fun e w' => e = .returned (.int .i64 (getN ws x i : Int)) ∧ w = w' := by
  have Hl := Lib.hid hl
  have Hg := Lib.hid hg
  have hn64 := good_length hg
  have hiw : i < ws.length := by omega
  have hgi := good_get hg i hiw
  have hci := hr i hiw
  have hval : getN ws x i = x / 2 ^ lowN ws i % 2 ^ ws[i] := by
    unfold getN
    rw [List.getD_eq_getElem?_getD, List.getElem?_eq_getElem hiw]
    rfl
  obtain ⟨z, hz⟩ : ∃ z, z = ws[i] := ⟨_, rfl⟩
  rw [← hz] at hgi hci hval
  obtain ⟨hg1, hg2, hg3⟩ := hgi
  have Hval := Lib.hid hval
  have Hr := Lib.hid hr
  have d1 : decide ((n : Int) ≤ (i : Int)) = false := by simp; omega
  clear hl hg hz hval hr
  go_enter Try.func18, Try.ntmps18
  go_wp2
  go_loop [7, 8] (fun s j => ∃ k : Nat, k ≤ i ∧ j = .int .i64 k ∧ s = .int .i64 (lowN ws k : Int)) (fun _ j => i - (intOf j).toNat)
  case atStart => exact ⟨0, by omega, rfl, rfl⟩
  case round =>
    obtain ⟨k, hk, rfl, rfl⟩ := hrel
    by_cases hlt : k < i
    · have hkl : k < ws.length := by omega
      have hcell := Hr.out k hkl
      have hs := lowN_succ ws k hkl
      have h1 := good_low Hg.out k
      have h2 := good_low Hg.out (k + 1)
      obtain ⟨z, hz⟩ : ∃ z, z = ws[k] := ⟨_, rfl⟩
      rw [← hz] at hcell hs
      obtain ⟨s, hs0⟩ : ∃ s, s = lowN ws k := ⟨_, rfl⟩
      rw [← hs0] at hs h1
      rw [hs] at h2
      have Hs := Lib.hid hs
      rw [← hs0]
      clear hz hs hs0
      go_wp2
      go_round
      case rel => exact ⟨k + 1, by omega, by go_num, by rw [Hs.out]; go_num⟩
      case measure => simp [intOf]; omega
    · obtain rfl : k = i := by omega
      obtain ⟨l, hl0⟩ : ∃ l, l = lowN ws k := ⟨_, rfl⟩
      rw [← hl0] at hg3 Hval ⊢
      clear hl0
      go_wp2
      go_loop [9, 10] (fun s q => ∃ j : Nat, j ≤ z ∧ q = .int .i64 ((j : Int) - 1) ∧ s = .int .i64 ((x / 2 ^ (l + j) % 2 ^ (z - j) : Nat) : Int)) (fun _ q => (intOf q + 1).toNat)
      case atStart => exact ⟨z, by omega, by go_num, by rw [Nat.sub_self, Nat.pow_zero, Nat.mod_one]; rfl⟩
      case round =>
        obtain ⟨j, hj, rfl, rfl⟩ := hrel
        rcases j with _ | j
        · rw [Nat.add_zero, Nat.sub_zero, ← Hval.out]
          go_wp2
          go_ret
          exact ⟨rfl, rfl⟩
        · have hst := get_step x l j (z - (j + 1))
          rw [show z - (j + 1) + 1 = z - j by omega] at hst
          have hb1 : x / 2 ^ (l + (j + 1)) % 2 ^ (z - (j + 1)) < 2 ^ 32 := Nat.lt_of_lt_of_le (Nat.mod_lt _ (Nat.two_pow_pos _)) (pow_le _ 32 (by omega))
          have hb2 : x / 2 ^ (l + j) % 2 < 2 := Nat.mod_lt _ (by decide)
          obtain ⟨p, hp⟩ : ∃ p, p = x / 2 ^ (l + (j + 1)) % 2 ^ (z - (j + 1)) := ⟨_, rfl⟩
          obtain ⟨q, hq⟩ : ∃ q, q = x / 2 ^ (l + j) % 2 := ⟨_, rfl⟩
          rw [← hp] at hst hb1 ⊢
          rw [← hq] at hst hb2
          have Hbit := Lib.hid (bit_any x (l + j) q hx (by omega) hq)
          have Hst := Lib.hid hst
          clear hst hp hq
          go_wp2_with fail
          refine (Hbit.out _).mono ?_
          rintro e w1 ⟨rfl, rfl⟩
          go_wp2_with fail
          go_round
          case rel => exact ⟨j, by omega, by go_num, by rw [← Hst.out]; go_num⟩
          case measure => simp [intOf]

theorem rget_out (A : Option Addr) (n c : Nat) (x : Nat) (i : Int) (hi : i < 0 ∨ n ≤ i) (hn : n ≤ 9223372036854775807) (w : World) :
    Calls Try.prog 18 #[.slice A n c, .int .u64 (x : Int), .int .i64 i] w fun e w' => e = .returned (.int .i64 0) ∧ w = w' := by
  by_cases h : i < 0
  · clear hi
    go_enter Try.func18, Try.ntmps18
    go_wp2
    go_ret
    exact ⟨rfl, rfl⟩
  · have d0 : decide (i < 0) = false := by simpa using h
    have h' : (n : Int) ≤ i := by omega
    clear hi h
    go_enter Try.func18, Try.ntmps18
    go_wp2
    go_ret
    exact ⟨rfl, rfl⟩

/-- Field i of a word; nought where there is none. -/
def getI (ws : List Nat) (x : Nat) (i : Int) : Nat := if 0 ≤ i then getN ws x i.toNat else 0
/-- Widths as the cells of a slice of integers. -/
def nums (ws : List Nat) : List Value := ws.map fun (x : Nat) => Value.int .i64 (x : Int)
theorem nums_get (ws : List Nat) (i : Nat) (h : i < ws.length) : (nums ws)[i]? = some (.int .i64 (ws[i] : Int)) := by
  unfold nums
  rw [List.getElem?_map, List.getElem?_eq_getElem h]
  rfl
theorem rget_any (A : Option Addr) (n c : Nat) (ws : List Nat) (hl : ws.length = n) (x : Nat) (i : Int) (hg : GoodW ws) (hx : x < 18446744073709551616) (w : World) (hr : Row w A (nums ws)) :
    Calls Try.prog 18 #[.slice A n c, .int .u64 (x : Int), .int .i64 i] w fun e w' => e = .returned (.int .i64 (getI ws x i : Int)) ∧ w = w' := by
  unfold getI
  have hl64 := good_length hg
  by_cases hi : 0 ≤ i ∧ i < ws.length
  · obtain ⟨hi0, hi1⟩ := hi
    rw [if_pos hi0]
    obtain ⟨k, rfl⟩ := Int.eq_ofNat_of_zero_le hi0
    rw [Int.toNat_natCast]
    rcases hr with h | ⟨b, off, rfl, hc⟩
    · have : ws = [] := by simpa [nums] using h
      subst this
      simp at hi1
      omega
    · exact rget_some b off n c k x ws hl (by omega) hg hx w fun j hj => hc j _ (nums_get ws j hj)
  · have e : (if 0 ≤ i then getN ws x i.toNat else 0) = 0 := by
      split
      · exact getN_out ws x _ (by omega)
      · rfl
    rw [e]
    exact rget_out A n c x i (by omega) (by omega) w
end Go.Proofs.Ytnbnjkbkjmlomaa
