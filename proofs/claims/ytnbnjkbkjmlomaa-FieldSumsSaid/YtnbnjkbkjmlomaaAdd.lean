/-
  The walk of field.Add: a sum that stops at the most.
-/
import Derived.Test.YtnbnjkbkjmlomaaProg
import Derived.Test.YtnbnjkbkjmlomaaMem
import Derived.WalkSpells
import Derived.WalkLawsBesides
import Derived.KernelRfl
import Derived.BigQuiet
import Derived.Deep.QuietTactic
import Derived.LoopTactic
namespace Go.Proofs.Ytnbnjkbkjmlomaa
open Go.RowKit
set_option linter.unusedSimpArgs false
set_option linter.unusedVariables false

/-- What field.Add says of numbers to come, with a sum so far. -/
def addS (m : Int) : List Int → Int → Int
  | [], s => if s ≤ m then s else m
  | n :: r, s => if m < n ∨ m - n < s then m else addS m r (s + n)

theorem addS_drop (m : Int) (zs : List Int) (k : Nat) (s : Int) (h : k < zs.length) : addS m (zs.drop k) s = if m < zs[k] ∨ m - zs[k] < s then m else addS m (zs.drop (k + 1)) (s + zs[k]) := by
  rw [List.drop_eq_getElem_cons h]
  rfl

set_option maxHeartbeats 400000 in
theorem add_walk (m : Int) (hm0 : 0 ≤ m) (hm1 : m ≤ 18446744073709551615) (b off n c : Nat) (zs : List Int) (hl : zs.length = n) (hn : n ≤ 9223372036854775807) (hz : ∀ z ∈ zs, 0 ≤ z ∧ z ≤ 18446744073709551615) (w : World)
    (hr : ∀ i v, (zs.map (Value.int .u64))[i]? = some v → w.cell? ⟨b, off + i, none⟩ = some v) :
    Calls Try.prog 13 #[.int .u64 m, .slice (some ⟨b, off, none⟩) n c] w fun e w' => e = .returned (.int .u64 (addS m zs 0)) ∧ w = w' := by
  have Hl := Lib.hid hl
  clear hl
  go_enter Try.func13, Try.ntmps13
  go_wp2
  go_loop [5, 10] (fun s i => ∃ (k : Nat) (t : Int), k ≤ n ∧ i = .int .i64 k ∧ s = .int .u64 t ∧ 0 ≤ t ∧ t ≤ m ∧ addS m zs 0 = addS m (zs.drop k) t) (fun _ i => n - (intOf i).toNat)
  case atStart => exact ⟨0, 0, by omega, rfl, rfl, by omega, hm0, rfl⟩
  case round =>
    obtain ⟨k, t, hk, rfl, rfl, ht0, ht1, ht⟩ := hrel
    have Ht := Lib.hid ht
    clear ht
    by_cases hlt : k < n
    · have hkz : k < zs.length := by rw [Hl.out]; exact hlt
      have hstep := addS_drop m zs k t hkz
      obtain ⟨z, hzk⟩ : ∃ z, z = zs[k] := ⟨_, rfl⟩
      rw [← hzk] at hstep
      have hcell : w.cell? ⟨b, off + k, none⟩ = some (.int .u64 z) := hr k _ (by rw [List.getElem?_map, List.getElem?_eq_getElem hkz, hzk]; rfl)
      have hb := hz z (by rw [hzk]; exact List.getElem_mem hkz)
      obtain ⟨hz0, hz1⟩ := hb
      clear hr hz hzk
      by_cases c1 : m < z
      · have Hs := Lib.hid hstep
        clear hstep
        go_wp2
        go_ret
        exact ⟨by rw [Ht.out, Hs.out, if_pos (.inl c1)]; rfl, rfl⟩
      · by_cases c2 : m - z < t
        · have Hs := Lib.hid hstep
          clear hstep
          have d1 : decide (m < z) = false := by simpa using c1
          have c1' : z ≤ m := by omega
          clear c1
          go_wp2
          go_ret
          exact ⟨by rw [Ht.out, Hs.out, if_pos (.inr c2)]; rfl, rfl⟩
        · have Hs := Lib.hid hstep
          clear hstep
          have d1 : decide (m < z) = false := by simpa using c1
          have d2 : decide (m - z < t) = false := by simpa using c2
          have c1' : z ≤ m := by omega
          have c2' : t ≤ m - z := by omega
          clear c1 c2
          go_wp2
          go_round
          case rel => exact ⟨k + 1, t + z, by omega, by go_num, rfl, by omega, by omega, by rw [Ht.out, Hs.out, if_neg (by omega)]⟩
          case measure => simp [intOf]; omega
    · have hkn : k = zs.length := by rw [Hl.out]; omega
      have hlast : addS m (zs.drop k) t = t := by rw [hkn, List.drop_length]; exact if_pos ht1
      have Hlast := Lib.hid hlast
      clear hlast hkn
      go_wp2
      go_ret
      exact ⟨by rw [Ht.out, Hlast.out]; rfl, rfl⟩

theorem add_none (m : Int) (hm0 : 0 ≤ m) (hm1 : m ≤ 18446744073709551615) (A : Option Addr) (c : Nat) (w : World) :
    Calls Try.prog 13 #[.int .u64 m, .slice A 0 c] w fun e w' => e = .returned (.int .u64 0) ∧ w = w' := by
  go_enter Try.func13, Try.ntmps13
  go_wp2
  go_loop [5, 10] (fun s i => i = .int .i64 0 ∧ s = .int .u64 0) (fun _ i => 0)
  case atStart => exact ⟨rfl, rfl⟩
  case round =>
    obtain ⟨rfl, rfl⟩ := hrel
    go_wp2
    go_ret
    exact ⟨rfl, rfl⟩

/-- field.Add over whatever slice that reads as a list of numbers. -/
theorem add_any (m : Int) (hm0 : 0 ≤ m) (hm1 : m ≤ 18446744073709551615) (A : Option Addr) (n c : Nat) (zs : List Int) (hl : zs.length = n) (hn : n ≤ 9223372036854775807) (hz : ∀ z ∈ zs, 0 ≤ z ∧ z ≤ 18446744073709551615) (w : World)
    (hr : Row w A (zs.map (Value.int .u64))) :
    Calls Try.prog 13 #[.int .u64 m, .slice A n c] w fun e w' => e = .returned (.int .u64 (addS m zs 0)) ∧ w = w' := by
  rcases hr with h | ⟨b, off, rfl, hc⟩
  · have h0 : zs = [] := by simpa using h
    subst h0
    have h1 : n = 0 := by rw [← hl]; rfl
    subst h1
    have h2 : addS m [] 0 = 0 := if_pos hm0
    rw [h2]
    exact add_none m hm0 hm1 A c w
  · exact add_walk m hm0 hm1 b off n c zs hl hn hz w hc
end Go.Proofs.Ytnbnjkbkjmlomaa
