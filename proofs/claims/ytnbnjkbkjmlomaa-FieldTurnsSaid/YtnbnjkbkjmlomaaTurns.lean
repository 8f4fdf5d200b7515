/-
  The law FieldTurns walks to true.
-/
import Derived.Test.YtnbnjkbkjmlomaaWith
namespace Go.Proofs.Ytnbnjkbkjmlomaa
open Go.RowKit
set_option linter.unusedSimpArgs false
set_option linter.unusedVariables false

theorem turns_more (A : Option Addr) (n c : Nat) (x i z : Int) (h : 70 < n) (h2 : n ≤ 140737488355328) (w : World) :
    Calls Try.prog 6 #[.slice A n c, .int .u64 x, .int .i64 i, .int .i64 z] w (Gives w (.bool true)) := by
  go_enter Try.func6, Try.ntmps6
  go_wp2_with fail
  refine (light_more A n c h h2 _).mono ?_
  rintro e w1 ⟨rfl, rfl⟩
  go_wp2_with fail
  refine (field_awake _).mono ?_
  rintro e w1 ⟨rfl, hb1⟩
  go_wp2
  go_ret
  exact ⟨rfl, by repeat (first | assumption | exact Below.refl _ _ | apply kept_alloc | apply kept_drew | apply kept_drewN | refine kept_trans ?_ (by assumption))⟩

theorem withI_none {ws : List Nat} {x : Nat} {i z : Int} (h : i < 0 ∨ ws.length ≤ i) : withI ws x i z = (0, 3, none) := by unfold withI; rw [if_pos h]
theorem withI_bad {ws : List Nat} {x : Nat} {i z : Int} (h : ¬ (i < 0 ∨ ws.length ≤ i)) (hz : z < 0 ∨ (mostN ws i : Int) < z) : withI ws x i z = (0, 5, some i) := by unfold withI; rw [if_neg h, if_pos hz]
theorem withI_ok {ws : List Nat} {x : Nat} {i z : Int} (h : ¬ (i < 0 ∨ ws.length ≤ i)) (hz : ¬ (z < 0 ∨ (mostN ws i : Int) < z)) : withI ws x i z = (setN ws x i.toNat z.toNat, 0, none) := by unfold withI; rw [if_neg h, if_neg hz]

set_option maxHeartbeats 4000000 in
theorem turns_walk (A : Option Addr) (n c : Nat) (x : Nat) (i z : Int) (hx : x < 18446744073709551616) (hi0 : -9223372036854775808 ≤ i) (hi1 : i ≤ 9223372036854775807) (hz0 : -9223372036854775808 ≤ z) (hz1 : z ≤ 9223372036854775807) (zs : List Int) (hl : zs.length = n) (hn : n ≤ 70) (hz : ∀ z ∈ zs, (Lit.int .i64 z).wf = true) (w : World)
    (hr : Row w A (zs.map (Value.int .i64))) :
    Calls Try.prog 6 #[.slice A n c, .int .u64 (x : Int), .int .i64 i, .int .i64 z] w (Gives w (.bool true)) := by
  have H1 := Lib.hid (fun W h => new_any A n c zs hl (by omega) hz W h)
  have Hr := Lib.hid hr
  have Hl := Lib.hid hl
  clear hl hz hr
  go_enter Try.func6, Try.ntmps6
  go_wp2_with fail
  refine (light_less A n c hn _).mono ?_
  rintro e w1 ⟨rfl, rfl⟩
  go_wp2_with fail
  refine (H1.out _ Hr.out).mono ?_
  rintro e w1 ⟨hb1, h⟩
  rcases h with ⟨lay, ws, hbad, hws, hg, rfl, hlay⟩ | ⟨code, i', er, hbad, h1, h9, rfl, herr⟩
  · obtain ⟨A1, c1, hform⟩ := lay_form hlay
    have Hlay := Lib.hid hlay
    have Hg := Lib.hid hg
    have hwn : ws.length = n := by rw [← Hl.out, hws]; simp
    have hrn : Row w A (nums ws) := by
      have := Hr.out
      rw [hws] at this
      rw [nums_map]
      exact this
    have Hwn := Lib.hid hwn
    have Hrn := Lib.hid hrn
    rw [hwn] at hform
    have hnn : n ≤ 64 := by have := good_length hg; omega
    clear hws hbad hlay hg hwn hrn
    subst hform
    go_wp2_with fail
    refine (with_any _ ws x i z Hg.out hx hz0 hz1 _ (lay_kept Hlay.out (by repeat (first | assumption | exact Below.refl _ _ | apply kept_alloc | apply kept_drew | apply kept_drewN | refine kept_trans ?_ (by assumption))))).mono ?_
    rintro e w2 ⟨ef, rfl, hef, hb2⟩
    obtain ⟨fchb2, ffhb2, fzhb2⟩ := far hb2; try simp only [World.size_alloc, World.size_setCell, World.size_drew, World.heap_drewN] at fzhb2
    by_cases ci : i < 0 ∨ ws.length ≤ i
    · rw [withI_none ci] at hef ⊢
      have Hef := Lib.hid hef
      clear hef
      rw [Hwn.out] at ci
      by_cases ci0 : i < 0
      · clear ci
        go_wp2_with fail
        refine (field_awake _).mono ?_
        rintro e w4 ⟨rfl, hb4⟩
        obtain ⟨fchb4, ffhb4, fzhb4⟩ := far hb4; try simp only [World.size_alloc, World.size_setCell, World.size_drew, World.heap_drewN] at fzhb4
        go_wp2_with fail
        refine (num_any _ 3 none _ (err_kept Hef.out hb4)).mono ?_
        rintro e w5 ⟨rfl, rfl⟩
        go_wp2_with fail
        go_ret
        exact ⟨rfl, by repeat (first | assumption | exact Below.refl _ _ | apply kept_alloc | apply kept_drew | apply kept_drewN | refine kept_trans ?_ (by assumption))⟩
      · have d0 : decide (i < 0) = false := by simpa using ci0
        have ci1 : (n : Int) ≤ i := by omega
        clear ci ci0
        go_wp2_with fail
        refine (field_awake _).mono ?_
        rintro e w4 ⟨rfl, hb4⟩
        obtain ⟨fchb4, ffhb4, fzhb4⟩ := far hb4; try simp only [World.size_alloc, World.size_setCell, World.size_drew, World.heap_drewN] at fzhb4
        go_wp2_with fail
        refine (num_any _ 3 none _ (err_kept Hef.out hb4)).mono ?_
        rintro e w5 ⟨rfl, rfl⟩
        go_wp2_with fail
        go_ret
        exact ⟨rfl, by repeat (first | assumption | exact Below.refl _ _ | apply kept_alloc | apply kept_drew | apply kept_drewN | refine kept_trans ?_ (by assumption))⟩
    · obtain ⟨k, rfl⟩ := Int.eq_ofNat_of_zero_le (by omega : 0 ≤ i)
      have hkw : k < ws.length := by omega
      have hkn : k < n := by rw [← Hwn.out]; exact hkw
      have hgk := good_get Hg.out k hkw
      obtain ⟨wk, hwk⟩ : ∃ wk, wk = ws[k] := ⟨_, rfl⟩
      have hwk2 : ws.getD k 0 = wk := by rw [hwk, List.getD_eq_getElem?_getD, List.getElem?_eq_getElem hkw]; rfl
      rw [← hwk] at hgk
      have hwk32 : wk ≤ 32 := hgk.2.1
      have hM := mostN_in hkw
      rw [hwk2] at hM
      have hmv := most_val wk hwk32
      obtain ⟨M, hM0⟩ : ∃ M, M = mostN ws (k : Int) := ⟨_, rfl⟩
      rw [← hM0] at hM
      rw [← hM] at hmv
      have HM0 := Lib.hid hM0
      have HM := Lib.hid hM
      have hM32 : M < 4294967296 := by
        have := pow_le wk 32 hwk32
        have h2 := Nat.two_pow_pos wk
        omega
      obtain ⟨b, off, hA, hbs, hcw⟩ := row_get Hrn.out (i := k) (v := .int .i64 (wk : Int)) (by rw [hwk]; exact nums_get ws k hkw)
      have Hci := Lib.hid ci
      have Hwk2 := Lib.hid hwk2
      have hz1 : w.heap.size ≤ w1.heap.size := hb1.size
      obtain ⟨o1, o2, o3⟩ := far hb1
      have d1 : decide ((n : Int) ≤ (k : Int)) = false := by simp; omega
      have d1' : decide (n ≤ k) = false := by simp; omega
      have d3 : decide ((k : Int) < 0) = false := by simp
      clear hgk hwk hwk2 hM hM0 ci hi0 hi1
      subst hA
      by_cases cz : z < 0
      · rw [withI_bad Hci.out (.inl cz)] at hef ⊢
        have Hef := Lib.hid hef
        clear hef
        go_wp2_with fail
        refine (field_awake _).mono ?_
        rintro e w4 ⟨rfl, hb4⟩
        obtain ⟨fchb4, ffhb4, fzhb4⟩ := far hb4; try simp only [World.size_alloc, World.size_setCell, World.size_drew, World.heap_drewN] at fzhb4
        go_wp2_with fail
        refine (num_any _ 5 _ _ (err_kept Hef.out hb4)).mono ?_
        rintro e w5 ⟨rfl, rfl⟩
        go_wp2_with fail
        go_ret
        exact ⟨rfl, by repeat (first | assumption | exact Below.refl _ _ | apply kept_alloc | apply kept_drew | apply kept_drewN | refine kept_trans ?_ (by assumption))⟩
      · have d0 : decide (z < 0) = false := by simpa using cz
        obtain ⟨Z, rfl⟩ := Int.eq_ofNat_of_zero_le (by omega : 0 ≤ z)
        clear cz
        by_cases cm : (M : Int) < (Z : Int)
        · rw [withI_bad Hci.out (.inr (by rw [← HM0.out]; exact cm))] at hef ⊢
          have Hef := Lib.hid hef
          clear hef
          go_wp2_with fail
          refine (field_awake _).mono ?_
          rintro e w4 ⟨rfl, hb4⟩
          obtain ⟨fchb4, ffhb4, fzhb4⟩ := far hb4; try simp only [World.size_alloc, World.size_setCell, World.size_drew, World.heap_drewN] at fzhb4
          go_wp2_with fail
          refine (num_any _ 5 _ _ (err_kept Hef.out hb4)).mono ?_
          rintro e w5 ⟨rfl, rfl⟩
          go_wp2_with fail
          go_ret
          exact ⟨rfl, by repeat (first | assumption | exact Below.refl _ _ | apply kept_alloc | apply kept_drew | apply kept_drewN | refine kept_trans ?_ (by assumption))⟩
        · have d2 : decide ((M : Int) < (Z : Int)) = false := by simpa using cm
          have d2' : decide (M < Z) = false := by simp; omega
          have cm' : Z ≤ M := by omega
          rw [withI_ok Hci.out (by rw [← HM0.out]; omega)] at hef ⊢
          rw [Int.toNat_natCast, Int.toNat_natCast]
          have hef' := err_nil hef
          subst hef'
          have hp2 := Nat.two_pow_pos wk
          have hMv := HM.out
          have hZ : Z < 2 ^ ws.getD k 0 := by rw [Hwk2.out]; omega
          have hx64 : x < 2 ^ 64 := hx
          have hget := fun j hj => get_set Hg.out x k Z j hkw hj hx64 hZ
          have hback := set_back Hg.out x k Z hkw hx64 hZ
          have hlow : lowN ws k + ws.getD k 0 ≤ 64 := by
            have := (good_get Hg.out k hkw).2.2
            rw [List.getD_eq_getElem?_getD, List.getElem?_eq_getElem hkw]
            exact this
          have hS : setN ws x k Z < 18446744073709551616 := set_lt ws x k Z hlow hx64 hZ
          obtain ⟨S, hS0⟩ : ∃ S, S = setN ws x k Z := ⟨_, rfl⟩
          rw [← hS0] at hget hback hS ⊢
          have Hget := Lib.hid hget
          have Hback := Lib.hid hback
          have hG : getN ws x k < 2 ^ wk := by
            rw [← Hwk2.out]
            exact Nat.mod_lt _ (Nat.two_pow_pos _)
          obtain ⟨G, hG0⟩ : ∃ G, G = getN ws x k := ⟨_, rfl⟩
          rw [← hG0] at hG
          have HG0 := Lib.hid hG0
          have hGM : G ≤ M := by omega
          have hw2 := withI_ok (ws := ws) (x := S) (i := (k : Int)) (z := (G : Int)) Hci.out (by rw [← HM0.out]; omega)
          rw [Int.toNat_natCast, Int.toNat_natCast, HG0.out, Hback.out] at hw2
          rw [← HG0.out] at hw2
          have Hw2 := Lib.hid hw2
          have hgI : getI ws x (k : Int) = G := by unfold getI; rw [if_pos (by omega), Int.toNat_natCast, HG0.out]
          have HgI := Lib.hid hgI
          clear hef cm hZ hx64 hget hback hlow hS0 hG hG0 hw2 hgI hMv hp2
          have hrow2 : Row w2 (some ⟨b, off, none⟩) (nums ws) := row_kept Hrn.out (kept_trans hb1 (kept_trans (kept_alloc (Below.refl _ _) _) hb2))
          have Hrow2 := Lib.hid hrow2
          clear hrow2
          go_wp2_with fail
          go_loop [80] (fun q => ∃ j : Nat, j ≤ n ∧ q = .int .i64 j) (fun q => n - (intOf q).toNat)
          case atStart => exact ⟨0, by omega, rfl⟩
          case round =>
            obtain ⟨j, hj, rfl⟩ := hrel
            by_cases hlt : j < n
            · have hjw : j < ws.length := by rw [Hwn.out]; exact hlt
              have hgj := Hget.out j hjw
              have e1 : getI ws x (j : Int) = getN ws x j := by unfold getI; rw [if_pos (by omega), Int.toNat_natCast]
              have e2 : getI ws S (j : Int) = getN ws S j := by unfold getI; rw [if_pos (by omega), Int.toNat_natCast]
              have R1 := Lib.hid (rget_any (some ⟨b, off, none⟩) n c ws Hwn.out x (j : Int) Hg.out hx _ Hrow2.out)
              have R2 := Lib.hid (rget_any (some ⟨b, off, none⟩) n c ws Hwn.out S (j : Int) Hg.out hS _ Hrow2.out)
              rw [e1] at R1
              rw [e2] at R2
              by_cases hjk : j = k
              · rw [if_pos hjk] at hgj
                rw [hgj] at R2
                have dj : ((j : Int) == (k : Int)) = true := by rw [hjk]; simp
                clear hgj e1 e2 hjk
                go_wp2_with fail
                refine R1.out.mono ?_
                rintro e w5 ⟨rfl, rfl⟩
                go_wp2_with fail
                refine R2.out.mono ?_
                rintro e w5 ⟨rfl, rfl⟩
                go_wp2_with fail
                go_round
                case rel => exact ⟨j + 1, by omega, by go_num⟩
                case measure => simp [intOf]; omega
              · rw [if_neg hjk] at hgj
                rw [hgj] at R2
                have dj : ((j : Int) == (k : Int)) = false := by simp; omega
                clear hgj e1 e2 hjk
                go_wp2_with fail
                refine R1.out.mono ?_
                rintro e w5 ⟨rfl, rfl⟩
                go_wp2_with fail
                refine R2.out.mono ?_
                rintro e w5 ⟨rfl, rfl⟩
                go_wp2_with fail
                go_round
                case rel => exact ⟨j + 1, by omega, by go_num⟩
                case measure => simp [intOf]; omega
            · obtain rfl : j = n := by omega
              clear hlt
              go_wp2_with fail
              go_region_with (first
                | (go_at_call 18
                   refine (rget_any _ _ _ ws Hwn.out x (k : Int) Hg.out hx _ ?_).mono ?_
                   (exact row_kept Hrow2.out (by repeat (first | assumption | exact Below.refl _ _ | apply kept_alloc | apply kept_drew | apply kept_drewN | refine kept_trans ?_ (by assumption))))
                   rintro e w5 ⟨rfl, rfl⟩
                   rw [HgI.out])
                | (go_at_call 16
                   refine (with_any _ ws S (k : Int) (G : Int) Hg.out hS (by omega) (by omega) _ ?_).mono ?_
                   (exact lay_kept Hlay.out (by repeat (first | assumption | exact Below.refl _ _ | apply kept_alloc | apply kept_drew | apply kept_drewN | refine kept_trans ?_ (by assumption))))
                   rintro e w6 ⟨er, rfl, her, hb6⟩
                   rw [Hw2.out] at her ⊢
                   (have her' := err_nil her; subst her')
                   clear her))
              all_goals (
                go_wp2_with fail
                refine (field_awake _).mono ?_
                rintro e w7 ⟨rfl, hb7⟩
                go_wp2_with fail
                go_ret
                exact ⟨rfl, by repeat (first | assumption | exact Below.refl _ _ | apply kept_alloc | apply kept_drew | apply kept_drewN | refine kept_trans ?_ (by assumption))⟩)
  · obtain ⟨t, u, rfl⟩ := err_iface herr h1
    clear herr hbad
    go_wp2_with fail
    refine (field_awake _).mono ?_
    rintro e w2 ⟨rfl, hb2⟩
    go_wp2_with fail
    go_ret
    exact ⟨rfl, by repeat (first | assumption | exact Below.refl _ _ | apply kept_alloc | apply kept_drew | apply kept_drewN | refine kept_trans ?_ (by assumption))⟩
end Go.Proofs.Ytnbnjkbkjmlomaa
