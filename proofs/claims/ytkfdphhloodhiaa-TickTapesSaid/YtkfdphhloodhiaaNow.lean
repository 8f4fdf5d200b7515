/-
  The walks of the clock: Go, Now; the document's Now.
-/
import Derived.Test.YtkfdphhloodhiaaAdd
namespace Go.Proofs.Ytkfdphhloodhiaa
open Go.RowKit
set_option linter.unusedSimpArgs false
set_option linter.unusedVariables false

/-- One more tick: what is below nothing counts for nothing; at the most it stops. -/
def nowStep (t z : Int) : Int := if 0 < z then (if 1000000 - t < z then 1000000 else t + z) else t
theorem nowStep_in (t z : Int) (h0 : 0 ≤ t) (h1 : t ≤ 1000000) : 0 ≤ nowStep t z ∧ nowStep t z ≤ 1000000 := by
  unfold nowStep
  split
  · split <;> omega
  · omega
theorem now_in (zs : List Int) (t : Int) (h0 : 0 ≤ t) (h1 : t ≤ 1000000) : 0 ≤ zs.foldl nowStep t ∧ zs.foldl nowStep t ≤ 1000000 := by
  induction zs generalizing t with
  | nil => exact ⟨h0, h1⟩
  | cons z r ih =>
    obtain ⟨a, b⟩ := nowStep_in t z h0 h1
    exact ih _ a b
theorem now_drop (zs : List Int) (k : Nat) (t : Int) (h : k < zs.length) : (zs.drop k).foldl nowStep t = (zs.drop (k + 1)).foldl nowStep (nowStep t zs[k]) := by
  rw [List.drop_eq_getElem_cons h]
  rfl
theorem addS_step (t z : Int) (h0 : 0 ≤ t) (h1 : t ≤ 1000000) (hz : 0 < z) : addS 1000000 [t, z] 0 = nowStep t z := by
  unfold nowStep
  rw [if_pos hz]
  simp only [addS]
  rw [if_neg (by omega)]
  by_cases c : 1000000 - t < z
  · rw [if_pos c, if_pos (by omega)]
  · rw [if_neg c, if_neg (by omega), if_pos (by omega)]
    omega

theorem two_in (t z : Int) (ht : 0 ≤ t ∧ t ≤ 18446744073709551615) (hz : 0 ≤ z ∧ z ≤ 18446744073709551615) : ∀ x ∈ [t, z], 0 ≤ x ∧ x ≤ 18446744073709551615 := by
  intro x hx
  rcases List.mem_cons.1 hx with h | hx
  · rw [h]; exact ht
  · rcases List.mem_cons.1 hx with h | hx
    · rw [h]; exact hz
    · simp at hx

set_option maxHeartbeats 400000 in
theorem refNow_walk (b off n c : Nat) (zs : List Int) (hl : zs.length = n) (hn : n ≤ 9223372036854775807) (hz : ∀ z ∈ zs, (Lit.int .i64 z).wf = true) (w : World)
    (hr : ∀ i v, (zs.map (Value.int .i64))[i]? = some v → w.cell? ⟨b, off + i, none⟩ = some v) :
    Calls Try.prog 8 #[.slice (some ⟨b, off, none⟩) n c] w fun e w' => e = .returned (.int .i64 (zs.foldl nowStep 0)) ∧ w = w' := by
  have Hl := Lib.hid hl
  clear hl
  go_enter Try.func8, Try.ntmps8
  go_wp2
  go_loop [3, 4] (fun s i => ∃ (k : Nat) (t : Int), k ≤ n ∧ i = .int .i64 k ∧ s = .int .i64 t ∧ 0 ≤ t ∧ t ≤ 1000000 ∧ zs.foldl nowStep 0 = (zs.drop k).foldl nowStep t) (fun _ i => n - (intOf i).toNat)
  case atStart => exact ⟨0, 0, by omega, rfl, rfl, by omega, by omega, rfl⟩
  case round =>
    obtain ⟨k, t, hk, rfl, rfl, ht0, ht1, ht⟩ := hrel
    have Ht := Lib.hid ht
    clear ht
    by_cases hlt : k < n
    · have hkz : k < zs.length := by rw [Hl.out]; exact hlt
      have hstep := now_drop zs k t hkz
      obtain ⟨z, hzk⟩ : ∃ z, z = zs[k] := ⟨_, rfl⟩
      rw [← hzk] at hstep
      have hcell : w.cell? ⟨b, off + k, none⟩ = some (.int .i64 z) := hr k _ (by rw [List.getElem?_map, List.getElem?_eq_getElem hkz, hzk]; rfl)
      have hb := bounds_i64 (hz z (by rw [hzk]; exact List.getElem_mem hkz))
      obtain ⟨hz0, hz1⟩ := hb
      have hin := nowStep_in t z ht0 ht1
      clear hr hz hzk
      have Hs := Lib.hid hstep
      clear hstep
      by_cases c1 : 0 < z
      · by_cases c2 : 1000000 - t < z
        · have Hv : Hid (nowStep t z = 1000000) := by unfold nowStep; rw [if_pos c1]; exact if_pos c2
          clear hin
          go_wp2
          go_round
          case rel => exact ⟨k + 1, 1000000, by omega, by go_num, rfl, by omega, by omega, by rw [Ht.out, Hs.out, Hv.out]⟩
          case measure => simp [intOf]; omega
        · have Hv : Hid (nowStep t z = t + z) := by unfold nowStep; rw [if_pos c1]; exact if_neg c2
          have d2 : decide (1000000 - t < z) = false := by simpa using c2
          have c2' : z ≤ 1000000 - t := by omega
          clear hin c2
          go_wp2
          go_round
          case rel => exact ⟨k + 1, t + z, by omega, by go_num, rfl, by omega, by omega, by rw [Ht.out, Hs.out, Hv.out]⟩
          case measure => simp [intOf]; omega
      · have Hv : Hid (nowStep t z = t) := if_neg c1
        have d1 : decide (0 < z) = false := by simpa using c1
        have c1' : z ≤ 0 := by omega
        clear hin c1
        go_wp2
        go_round
        case rel => exact ⟨k + 1, t, by omega, by go_num, rfl, by omega, by omega, by rw [Ht.out, Hs.out, Hv.out]⟩
        case measure => simp [intOf]; omega
    · have hkn : k = zs.length := by rw [Hl.out]; omega
      have hlast : (zs.drop k).foldl nowStep t = t := by rw [hkn, List.drop_length]; rfl
      have Hlast := Lib.hid hlast
      clear hlast hkn
      go_wp2
      go_ret
      exact ⟨by rw [Ht.out, Hlast.out]; rfl, rfl⟩

theorem refNow_none (A : Option Addr) (c : Nat) (w : World) :
    Calls Try.prog 8 #[.slice A 0 c] w fun e w' => e = .returned (.int .i64 0) ∧ w = w' := by
  go_enter Try.func8, Try.ntmps8
  go_wp2
  go_loop [3, 4] (fun s i => i = .int .i64 0 ∧ s = .int .i64 0) (fun _ i => 0)
  case atStart => exact ⟨rfl, rfl⟩
  case round =>
    obtain ⟨rfl, rfl⟩ := hrel
    go_wp2
    go_ret
    exact ⟨rfl, rfl⟩

theorem refNow_any (A : Option Addr) (n c : Nat) (zs : List Int) (hl : zs.length = n) (hn : n ≤ 9223372036854775807) (hz : ∀ z ∈ zs, (Lit.int .i64 z).wf = true) (w : World)
    (hr : Row w A (zs.map (Value.int .i64))) :
    Calls Try.prog 8 #[.slice A n c] w fun e w' => e = .returned (.int .i64 (zs.foldl nowStep 0)) ∧ w = w' := by
  rcases hr with h | ⟨b, off, rfl, hc⟩
  · have h0 : zs = [] := by simpa using h
    subst h0
    have h1 : n = 0 := by rw [← hl]; rfl
    subst h1
    exact refNow_none A c w
  · exact refNow_walk b off n c zs hl hn hz w hc

/-- What Clock.Go leaves: the clock's block turned, nothing else. -/
def WentTo (w : World) (g : Nat) (t : Int) (e : Ending) (w' : World) : Prop := e = .returned (.int .i64 t) ∧ Blk w' g 26 #[.int .u64 t] ∧ Chg [g] w w'

set_option maxHeartbeats 1000000 in
theorem go_walk (g b off n c : Nat) (s : Int) (zs : List Int) (hs0 : 0 ≤ s) (hs1 : s ≤ 1000000) (hl : zs.length = n) (hn : n ≤ 9223372036854775807) (hz : ∀ z ∈ zs, (Lit.int .i64 z).wf = true) (w : World)
    (hg : Blk w g 26 #[.int .u64 s]) (hbg : b ≠ g)
    (hr : ∀ i v, (zs.map (Value.int .i64))[i]? = some v → w.cell? ⟨b, off + i, none⟩ = some v) :
    Calls Try.prog 7 #[.pointer (some ⟨g, 0, none⟩), .slice (some ⟨b, off, none⟩) n c] w (WentTo w g (zs.foldl nowStep s)) := by
  have Hl := Lib.hid hl
  clear hl
  go_enter Try.func7, Try.ntmps7
  go_wp2_with fail
  go_loopw [11] (fun i wr => ∃ (k : Nat) (t : Int), k ≤ n ∧ i = .int .i64 k ∧ 0 ≤ t ∧ t ≤ 1000000 ∧ Blk wr g 26 #[.int .u64 t] ∧ Chg [g] w wr ∧ zs.foldl nowStep s = (zs.drop k).foldl nowStep t) (fun i _ => n - (intOf i).toNat)
  case atStart => exact ⟨0, s, by omega, rfl, hs0, hs1, hg, chg_refl _ _, rfl⟩
  case round =>
    obtain ⟨k, t, hk, rfl, ht0, ht1, hgr, hchg, ht⟩ := hrel
    have Ht := Lib.hid ht
    clear ht
    obtain ⟨q1, q2, q3⟩ := blk_facts hgr
    by_cases hlt : k < n
    · have hkz : k < zs.length := by rw [Hl.out]; exact hlt
      have hstep := now_drop zs k t hkz
      obtain ⟨z, hzk⟩ : ∃ z, z = zs[k] := ⟨_, rfl⟩
      rw [← hzk] at hstep
      have hcell0 : w.cell? ⟨b, off + k, none⟩ = some (.int .i64 z) := hr k _ (by rw [List.getElem?_map, List.getElem?_eq_getElem hkz, hzk]; rfl)
      have hcell : wr.cell? ⟨b, off + k, none⟩ = some (.int .i64 z) := (chg_cell hchg (World.block_lt_of_cell? w _ hcell0) (by simpa using hbg)).trans hcell0
      have hb := bounds_i64 (hz z (by rw [hzk]; exact List.getElem_mem hkz))
      obtain ⟨hz0, hz1⟩ := hb
      have hin := nowStep_in t z ht0 ht1
      clear hr hz hzk hcell0 hg
      have Hs := Lib.hid hstep
      clear hstep
      by_cases c1 : 0 < z
      · have Hadd := Lib.hid (addS_step t z ht0 ht1 c1)
        obtain ⟨v, hv⟩ : ∃ v, v = nowStep t z := ⟨_, rfl⟩
        rw [← hv] at hin Hadd Hs
        obtain ⟨hv0, hv1⟩ := hin
        clear hv
        go_wp2_with fail
        refine (add_any _ (by omega) (by omega) _ 2 _ [t, z] rfl (by omega) (two_in t z (by omega) (by omega)) _ (row_new _ _ _)).mono ?_
        rintro e w1 ⟨rfl, rfl⟩
        rw [Hadd.out]
        go_wp2_with fail
        go_roundw
        case rel => exact ⟨k + 1, v, by omega, by go_num, hv0, hv1, by first | (exact blk_alloc (by simpa using blk_set hgr 0 _) _) | (simpa using blk_set (blk_alloc hgr _) 0 _), by first | (exact chg_alloc (chg_set hchg _ (by simp) _) _) | (exact chg_set (chg_alloc hchg _) _ (by simp) _), by rw [Ht.out, Hs.out]⟩
        case measure => simp [intOf]; omega
      · have Hv : Hid (nowStep t z = t) := if_neg c1
        have d1 : decide (0 < z) = false := by simpa using c1
        have c1' : z ≤ 0 := by omega
        clear hin c1
        go_wp2_with fail
        go_roundw
        case rel => exact ⟨k + 1, t, by omega, by go_num, ht0, ht1, hgr, hchg, by rw [Ht.out, Hs.out, Hv.out]⟩
        case measure => simp [intOf]; omega
    · have hkn : k = zs.length := by rw [Hl.out]; omega
      have hlast : (zs.drop k).foldl nowStep t = t := by rw [hkn, List.drop_length]; rfl
      have Hlast := Lib.hid hlast
      clear hlast hkn
      go_wp2_with fail
      go_ret
      rw [Ht.out, Hlast.out]
      exact ⟨rfl, hgr, hchg⟩

theorem go_none (g : Nat) (s : Int) (hs0 : 0 ≤ s) (hs1 : s ≤ 1000000) (A : Option Addr) (c : Nat) (w : World) (hg : Blk w g 26 #[.int .u64 s]) :
    Calls Try.prog 7 #[.pointer (some ⟨g, 0, none⟩), .slice A 0 c] w (WentTo w g s) := by
  obtain ⟨q1, q2, q3⟩ := blk_facts hg
  go_enter Try.func7, Try.ntmps7
  go_wp2_with fail
  go_loop [11] (fun i => i = .int .i64 0) (fun i => 0)
  case atStart => exact rfl
  case round =>
    obtain rfl := hrel
    go_wp2_with fail
    go_ret
    exact ⟨rfl, hg, chg_refl _ _⟩

theorem go_any (g : Nat) (A : Option Addr) (n c : Nat) (s : Int) (zs : List Int) (hs0 : 0 ≤ s) (hs1 : s ≤ 1000000) (hl : zs.length = n) (hn : n ≤ 9223372036854775807) (hz : ∀ z ∈ zs, (Lit.int .i64 z).wf = true) (w : World)
    (hg : Blk w g 26 #[.int .u64 s]) (hA : zs.map (Value.int .i64) ≠ [] → ∀ a, A = some a → a.block ≠ g) (hr : Row w A (zs.map (Value.int .i64))) :
    Calls Try.prog 7 #[.pointer (some ⟨g, 0, none⟩), .slice A n c] w (WentTo w g (zs.foldl nowStep s)) := by
  by_cases h0 : zs = []
  · subst h0
    have h1 : n = 0 := by rw [← hl]; rfl
    subst h1
    exact go_none g s hs0 hs1 A c w hg
  · rcases hr with h | ⟨b, off, rfl, hc⟩
    · exact absurd (by simpa using h) h0
    · exact go_walk g b off n c s zs hs0 hs1 hl hn hz w hg (hA (by simpa using h0) _ rfl) hc

theorem go_nil (A : Option Addr) (n c : Nat) (w : World) :
    Calls Try.prog 7 #[.pointer none, .slice A n c] w fun e w' => e = .returned (.int .i64 0) ∧ w = w' := by
  go_enter Try.func7, Try.ntmps7
  go_wp2_with fail
  go_ret
  exact ⟨rfl, rfl⟩
end Go.Proofs.Ytkfdphhloodhiaa
