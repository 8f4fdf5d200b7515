/-
  The law FieldSums walks to true.
-/
import Derived.Test.YtnbnjkbkjmlomaaSound
import Derived.Test.YtnbnjkbkjmlomaaAdd
namespace Go.Proofs.Ytnbnjkbkjmlomaa
open Go.RowKit
set_option linter.unusedSimpArgs false
set_option linter.unusedVariables false

set_option maxHeartbeats 400000 in
theorem radd_walk (m : Int) (hm0 : 0 ≤ m) (hm1 : m ≤ 18446744073709551615) (b off n c : Nat) (zs : List Int) (hl : zs.length = n) (hn : n ≤ 9223372036854775807) (hz : ∀ z ∈ zs, 0 ≤ z ∧ z ≤ 18446744073709551615) (w : World)
    (hr : ∀ i v, (zs.map (Value.int .u64))[i]? = some v → w.cell? ⟨b, off + i, none⟩ = some v) :
    Calls Try.prog 14 #[.int .u64 m, .slice (some ⟨b, off, none⟩) n c] w fun e w' => e = .returned (.int .u64 (addS m zs 0)) ∧ w = w' := by
  have Hl := Lib.hid hl
  clear hl
  go_enter Try.func14, Try.ntmps14
  go_wp2
  go_loop [5, 6] (fun s i => ∃ (k : Nat) (t : Int), k ≤ n ∧ i = .int .i64 k ∧ s = .int .u64 t ∧ 0 ≤ t ∧ t ≤ m ∧ addS m zs 0 = addS m (zs.drop k) t) (fun _ i => n - (intOf i).toNat)
  case atStart => exact ⟨0, 0, by omega, rfl, rfl, by omega, hm0, rfl⟩
  case round =>
    obtain ⟨k, t, hk, rfl, rfl, ht0, ht1, ht⟩ := hrel
    have Ht := Lib.hid ht
    clear ht
    by_cases hlt : k < n
    · have hkz : k < zs.length := by rw [Hl.out]; exact hlt
      have hstep := addS_drop m zs k t hkz
      obtain ⟨z, hzk⟩ : ∃ z, z = zs[k] := ⟨_, rfl⟩
      rw [← hzk] at hstep
      have hcell : w.cell? ⟨b, off + k, none⟩ = some (.int .u64 z) := hr k _ (by rw [List.getElem?_map, List.getElem?_eq_getElem hkz, hzk]; rfl)
      have hb := hz z (by rw [hzk]; exact List.getElem_mem hkz)
      obtain ⟨hz0, hz1⟩ := hb
      clear hr hz hzk
      have Hs := Lib.hid hstep
      clear hstep
      by_cases c1 : 18446744073709551615 < t + z
      · obtain ⟨s, hs⟩ : ∃ s, s = IntKind.u64.wrap (t + z) := ⟨_, rfl⟩
        have hs2 : s = t + z - 18446744073709551616 := by rw [hs, IntKind.wrap_u64]; omega
        have hs3 : s < t := by omega
        have Hw := Lib.hid hs.symm
        clear hs hs2
        have hw := Hw.out
        go_wp2
        go_ret
        exact ⟨by rw [Ht.out, Hs.out, if_pos (by omega)]; rfl, rfl⟩
      · have c1' : t + z ≤ 18446744073709551615 := by omega
        have d0 : decide (t + z < t) = false := by simp; omega
        clear c1
        by_cases c2 : m < t + z
        · go_wp2
          go_ret
          exact ⟨by rw [Ht.out, Hs.out, if_pos (by omega)]; rfl, rfl⟩
        · have d2 : decide (m < t + z) = false := by simpa using c2
          have c2' : t + z ≤ m := by omega
          clear c2
          go_wp2
          go_round
          case rel => exact ⟨k + 1, t + z, by omega, by go_num, rfl, by omega, by omega, by rw [Ht.out, Hs.out, if_neg (by omega)]⟩
          case measure => simp [intOf]; omega
    · have hkn : k = zs.length := by rw [Hl.out]; omega
      have hlast : addS m (zs.drop k) t = t := by rw [hkn, List.drop_length]; exact if_pos ht1
      have Hlast := Lib.hid hlast
      clear hlast hkn
      go_wp2
      go_ret
      exact ⟨by rw [Ht.out, Hlast.out]; rfl, rfl⟩

theorem radd_none (m : Int) (A : Option Addr) (c : Nat) (w : World) :
    Calls Try.prog 14 #[.int .u64 m, .slice A 0 c] w fun e w' => e = .returned (.int .u64 0) ∧ w = w' := by
  go_enter Try.func14, Try.ntmps14
  go_wp2
  go_loop [5, 6] (fun s i => i = .int .i64 0 ∧ s = .int .u64 0) (fun _ i => 0)
  case atStart => exact ⟨rfl, rfl⟩
  case round =>
    obtain ⟨rfl, rfl⟩ := hrel
    go_wp2
    go_ret
    exact ⟨rfl, rfl⟩

theorem radd_any (m : Int) (hm0 : 0 ≤ m) (hm1 : m ≤ 18446744073709551615) (A : Option Addr) (n c : Nat) (zs : List Int) (hl : zs.length = n) (hn : n ≤ 9223372036854775807) (hz : ∀ z ∈ zs, 0 ≤ z ∧ z ≤ 18446744073709551615) (w : World)
    (hr : Row w A (zs.map (Value.int .u64))) :
    Calls Try.prog 14 #[.int .u64 m, .slice A n c] w fun e w' => e = .returned (.int .u64 (addS m zs 0)) ∧ w = w' := by
  rcases hr with h | ⟨b, off, rfl, hc⟩
  · have h0 : zs = [] := by simpa using h
    subst h0
    have h1 : n = 0 := by rw [← hl]; rfl
    subst h1
    have h2 : addS m [] 0 = 0 := if_pos hm0
    rw [h2]
    exact radd_none m A c w
  · exact radd_walk m hm0 hm1 b off n c zs hl hn hz w hc

theorem tdiv_two (d : Int) : d.tdiv 2 = if 0 ≤ d then d / 2 else -((-d) / 2) := by
  split
  · rename_i h
    exact Int.tdiv_eq_ediv_of_nonneg h
  · rename_i h
    have : d = -(-d) := by omega
    conv => lhs; rw [this, Int.neg_tdiv]
    rw [Int.tdiv_eq_ediv_of_nonneg (by omega)]

set_option maxHeartbeats 400000 in
theorem mid_any (x y : Int) (hx0 : 0 ≤ x) (hx1 : x ≤ 1000000000) (hy0 : 0 ≤ y) (hy1 : y ≤ 1000000000) (w : World) :
    Calls Try.prog 15 #[.int .i64 x, .int .i64 y] w fun e w' => e = .returned (.int .i64 ((x + y) / 2)) ∧ w = w' := by
  by_cases h : y < x
  · by_cases p : (x - y) % 2 = 1
    · have d : ((x - y) % 2 == 1) = true := by simpa using p
      have Hp := Lib.hid p
      clear p
      go_enter Try.func15, Try.ntmps15
      go_wp2
      go_ret
      refine ⟨ret_i64 ?_, rfl⟩
      have hp := Hp.out
      rw [tdiv_two, if_neg (by omega), IntWalk.wrap64_in (x + -(-(y - x) / 2)) (by omega), IntWalk.wrap64_in _ (by omega)]
      omega
    · have d : ((x - y) % 2 == 1) = false := by simpa using p
      have Hp := Lib.hid p
      clear p
      go_enter Try.func15, Try.ntmps15
      go_wp2
      go_ret
      refine ⟨ret_i64 ?_, rfl⟩
      have hp := Hp.out
      rw [tdiv_two, if_neg (by omega), IntWalk.wrap64_in (x + -(-(y - x) / 2)) (by omega), IntWalk.wrap64_in _ (by omega)]
      omega
  · have d : decide (y < x) = false := by simpa using h
    have h' : x ≤ y := by omega
    clear h
    go_enter Try.func15, Try.ntmps15
    go_wp2
    go_ret
    refine ⟨ret_i64 ?_, rfl⟩
    omega

set_option maxHeartbeats 1000000 in
theorem sums_walk (m : Int) (hm0 : 0 ≤ m) (hm1 : m ≤ 18446744073709551615) (A : Option Addr) (n c : Nat) (zs : List Int) (hl : zs.length = n) (hn : n ≤ 1000) (hz : ∀ z ∈ zs, 0 ≤ z ∧ z ≤ 18446744073709551615) (p q : Int) (hp0 : 0 ≤ p) (hp1 : p ≤ 4294967295) (hq0 : 0 ≤ q) (hq1 : q ≤ 4294967295) (w : World)
    (hr : Row w A (zs.map (Value.int .u64))) :
    Calls Try.prog 5 #[.int .u64 m, .slice A n c, .int .u32 p, .int .u32 q] w (Gives w (.bool true)) := by
  have H1 := Lib.hid (fun W h => add_any m hm0 hm1 A n c zs hl (by omega) hz W h)
  have H2 := Lib.hid (fun W h => radd_any m hm0 hm1 A n c zs hl (by omega) hz W h)
  have Hr := Lib.hid hr
  obtain ⟨s, hs⟩ : ∃ s, s = addS m zs 0 := ⟨_, rfl⟩
  rw [← hs] at H1 H2
  have hswap : (q % 1000000001 + p % 1000000001) / 2 = (p % 1000000001 + q % 1000000001) / 2 := by omega
  have Hswap := Lib.hid hswap
  clear hl hz hr hs hswap hm0 hm1
  go_enter Try.func5, Try.ntmps5
  go_wp2_with fail
  refine (field_awake _).mono ?_
  rintro e w1 ⟨rfl, hb1⟩
  go_wp2_with fail
  refine (H1.out _ (row_kept Hr.out hb1)).mono ?_
  rintro e w2 ⟨rfl, rfl⟩
  go_wp2_with fail
  refine (H2.out _ (row_kept Hr.out hb1)).mono ?_
  rintro e w2 ⟨rfl, rfl⟩
  go_wp2_with fail
  refine (mid_any _ _ (by omega) (by omega) (by omega) (by omega) _).mono ?_
  rintro e w2 ⟨rfl, rfl⟩
  go_wp2_with fail
  refine (mid_any _ _ (by omega) (by omega) (by omega) (by omega) _).mono ?_
  rintro e w2 ⟨rfl, rfl⟩
  rw [Hswap.out]
  go_wp2_with fail
  go_ret
  exact ⟨rfl, by repeat (first | assumption | exact Below.refl _ _ | apply kept_alloc | apply kept_drew | apply kept_drewN | refine kept_trans ?_ (by assumption))⟩

theorem sums_more (m : Int) (A : Option Addr) (n c : Nat) (p q : Int) (hn : 1000 < n) (hn2 : n ≤ 140737488355328) (w : World) :
    Calls Try.prog 5 #[.int .u64 m, .slice A n c, .int .u32 p, .int .u32 q] w (Gives w (.bool true)) := by
  go_enter Try.func5, Try.ntmps5
  go_wp2_with fail
  refine (field_awake _).mono ?_
  rintro e w1 ⟨rfl, hb1⟩
  go_wp2
  go_ret
  exact ⟨rfl, by repeat (first | assumption | exact Below.refl _ _ | apply kept_alloc | apply kept_drew | apply kept_drewN | refine kept_trans ?_ (by assumption))⟩
end Go.Proofs.Ytnbnjkbkjmlomaa
