/-
  The walk of Layout.With.
-/
import Derived.Test.YtnbnjkbkjmlomaaBack
import Derived.Test.YtnbnjkbkjmlomaaWMath
namespace Go.Proofs.Ytnbnjkbkjmlomaa
open Go.RowKit
set_option linter.unusedSimpArgs false
set_option linter.unusedVariables false

/-- What With hands back: the word, the code, the place. -/
def withI (ws : List Nat) (x : Nat) (i v : Int) : Nat × Int × Option Int :=
  if i < 0 ∨ ws.length ≤ i then (0, 3, none)
  else if v < 0 ∨ (mostN ws i : Int) < v then (0, 5, some i)
  else (setN ws x i.toNat v.toNat, 0, none)
def WithDone (ws : List Nat) (x : Nat) (i v : Int) (w : World) (e : Ending) (w' : World) : Prop :=
  ∃ er, e = .returned (.tuple #[.int .u64 ((withI ws x i v).1 : Int), er]) ∧ ErrIs w' er (withI ws x i v).2.1 (withI ws x i v).2.2 ∧ Below w.heap.size w w'

theorem mask_val (M l : Nat) (hl : l ≤ 64) (h : M * 2 ^ l < 18446744073709551616) : IntKind.u64.wrap ((M : Int) * 2 ^ min l 64) = ((M * 2 ^ l : Nat) : Int) := shl_val M l hl h
theorem with_val (ws : List Nat) (x i v M : Nat) (hg : GoodW ws) (hi : i < ws.length) (hM : M = 2 ^ ws.getD i 0 - 1) (hx : x < 18446744073709551616) (hv : v ≤ M) :
    bits BinOp.or IntKind.u64 (bits BinOp.andNot IntKind.u64 (x : Int) (IntKind.u64.wrap ((M : Int) * 2 ^ min (lowN ws i) 64))) (IntKind.u64.wrap ((v : Int) * 2 ^ min (lowN ws i) 64)) = (setN ws x i v : Int) := by
  have hgi := good_get hg i hi
  have hw : lowN ws i + ws.getD i 0 ≤ 64 := by
    rw [List.getD_eq_getElem?_getD, List.getElem?_eq_getElem hi]
    exact hgi.2.2
  have hm := mask_lt _ _ hw
  rw [← hM] at hm
  have hvm : v * 2 ^ lowN ws i ≤ M * 2 ^ lowN ws i := Nat.mul_le_mul_right _ hv
  have hand : x &&& (18446744073709551615 - M * 2 ^ lowN ws i) ≤ x := Nat.and_le_left
  rw [mask_val M _ (good_low hg i) hm, shl_val v _ (good_low hg i) (by omega), u64_andNot_nat _ _ hx hm, u64_or_nat _ _ (by omega) (by omega)]
  unfold setN
  rw [← hM]

theorem with_none (v : Value) (ws : List Nat) (x : Nat) (i z : Int) (hi : i < 0 ∨ ws.length ≤ i) (hg : GoodW ws) (w : World) (hv : LayIs w v ws) :
    Calls Try.prog 16 #[v, .int .u64 (x : Int), .int .i64 i, .int .i64 z] w (WithDone ws x i z w) := by
  have hp : withI ws x i z = (0, 3, none) := by unfold withI; rw [if_pos hi]
  have fin : ∀ W', Below w.heap.size w W' → WithDone ws x i z w (.returned (.tuple #[.int .u64 0, .iface 49 (.int .i64 3)])) W' := by
    intro W' hb
    refine ⟨.iface 49 (.int .i64 3), ?_, ?_, hb⟩
    · rw [hp]; rfl
    · rw [hp]
      exact .inr (.inl ⟨(by simp), (by simp), rfl, rfl⟩)
  have Fin := Lib.hid fin
  have hl := good_length hg
  obtain ⟨A, c, hform⟩ := lay_form hv
  clear fin hp hv
  subst hform
  by_cases h : i < 0
  · clear hi
    go_enter Try.func16, Try.ntmps16
    go_wp2
    go_ret2
    exact Fin.out _ (by repeat (first | assumption | exact Below.refl _ _ | apply kept_alloc | apply kept_drew | apply kept_drewN | refine kept_trans ?_ (by assumption)))
  · have d0 : decide (i < 0) = false := by simpa using h
    have h' : (ws.length : Int) ≤ i := by omega
    clear hi h
    go_enter Try.func16, Try.ntmps16
    go_wp2
    go_ret2
    exact Fin.out _ (by repeat (first | assumption | exact Below.refl _ _ | apply kept_alloc | apply kept_drew | apply kept_drewN | refine kept_trans ?_ (by assumption)))

set_option maxHeartbeats 2000000 in
theorem with_some (v : Value) (ws : List Nat) (x : Nat) (i : Nat) (z : Int) (hi : i < ws.length) (hg : GoodW ws) (hx : x < 18446744073709551616) (hz0 : -9223372036854775808 ≤ z) (hz1 : z ≤ 9223372036854775807) (w : World) (hv : LayIs w v ws) :
    Calls Try.prog 16 #[v, .int .u64 (x : Int), .int .i64 (i : Int), .int .i64 z] w (WithDone ws x i z w) := by
  have hl := good_length hg
  have hM : mostN ws (i : Int) = 2 ^ ws.getD i 0 - 1 := mostN_in hi
  have hp : z < 0 ∨ (mostN ws (i : Int) : Int) < z → withI ws x i z = (0, 5, some (i : Int)) := by intro h; unfold withI; rw [if_neg (by omega), if_pos h]
  have hq : ¬ (z < 0 ∨ (mostN ws (i : Int) : Int) < z) → withI ws x i z = (setN ws x i z.toNat, 0, none) := by intro h; unfold withI; rw [if_neg (by omega), if_neg h, Int.toNat_natCast]
  have fin : ∀ W' g, Below w.heap.size w W' → (z < 0 ∨ (mostN ws (i : Int) : Int) < z) → Blk W' g 56 #[.int .i64 i, .iface 49 (.int .i64 5)] → WithDone ws x i z w (.returned (.tuple #[.int .u64 0, .iface 54 (.pointer (some ⟨g, 0, none⟩))])) W' := by
    intro W' g hb hbad hg'
    refine ⟨.iface 54 (.pointer (some ⟨g, 0, none⟩)), ?_, ?_, hb⟩
    · rw [hp hbad]; rfl
    · rw [hp hbad]
      exact .inr (.inr ⟨(by simp), (by simp), i, g, rfl, rfl, hg'⟩)
  have Fin := Lib.hid fin
  have Hq := Lib.hid hq
  have Hv := Lib.hid hv
  have Hg := Lib.hid hg
  obtain ⟨A, c, hform⟩ := lay_form hv
  obtain ⟨n, hn⟩ : ∃ n, n = ws.length := ⟨_, rfl⟩
  have Hn := Lib.hid hn
  have hin : i < n := by omega
  have hn64 : n ≤ 64 := by omega
  have d1 : decide ((n : Int) ≤ (i : Int)) = false := by simp; omega
  rw [← hn] at hform
  have Hform := Lib.hid hform
  obtain ⟨M, hM0⟩ : ∃ M, M = mostN ws (i : Int) := ⟨_, rfl⟩
  have HM := Lib.hid (hM0.trans hM)
  rw [← hM0] at Fin Hq
  have HM0 := Lib.hid hM0
  clear fin hp hq hv hM hM0 hn hl hg hi
  subst hform
  by_cases c1 : z < 0
  · go_enter Try.func16, Try.ntmps16
    go_wp2_with fail
    refine (at_code _ _ _).mono ?_
    rintro e w1 ⟨rfl, rfl⟩
    go_wp2_with fail
    go_ret2
    exact Fin.out _ _ (by repeat (first | assumption | exact Below.refl _ _ | apply kept_alloc | apply kept_drew | apply kept_drewN | refine kept_trans ?_ (by assumption))) (.inl c1) (by repeat (first | assumption | (refine blk_newAt rfl ?_; simp; done) | refine blk_alloc ?_ _ | refine blk_drew ?_ | refine blk_drewN ?_ _))
  · have d0 : decide (z < 0) = false := by simpa using c1
    obtain ⟨Z, rfl⟩ := Int.eq_ofNat_of_zero_le (by omega : 0 ≤ z)
    clear c1
    by_cases c2 : (M : Int) < (Z : Int)
    · go_enter Try.func16, Try.ntmps16
      go_wp2_with fail
      refine (most_any _ ws _ Hg.out _ (lay_kept Hv.out (by repeat (first | assumption | exact Below.refl _ _ | apply kept_alloc | apply kept_drew | apply kept_drewN | refine kept_trans ?_ (by assumption))))).mono ?_
      rintro e w1 ⟨rfl, hb1⟩
      rw [← HM0.out]
      obtain ⟨fchb1, ffhb1, fzhb1⟩ := far hb1; try simp only [World.size_alloc, World.size_setCell, World.size_drew, World.heap_drewN] at fzhb1
      go_wp2_with fail
      refine (at_code _ _ _).mono ?_
      rintro e w2 ⟨rfl, rfl⟩
      go_wp2_with fail
      go_ret2
      exact Fin.out _ _ (by repeat (first | assumption | exact Below.refl _ _ | apply kept_alloc | apply kept_drew | apply kept_drewN | refine kept_trans ?_ (by assumption))) (.inr c2) (by repeat (first | assumption | (refine blk_newAt rfl ?_; simp; done) | refine blk_alloc ?_ _ | refine blk_drew ?_ | refine blk_drewN ?_ _))
    · have d2 : decide ((M : Int) < (Z : Int)) = false := by simpa using c2
      have c2' : Z ≤ M := by omega
      have hval := with_val ws x i Z M Hg.out (by rw [← Hn.out]; exact hin) HM.out hx c2'
      have Hval := Lib.hid hval
      have hqq := Hq.out (by omega)
      rw [Int.toNat_natCast] at hqq
      have Hqq := Lib.hid hqq
      clear hval c2 hqq
      go_enter Try.func16, Try.ntmps16
      go_wp2_with fail
      refine (most_any _ ws _ Hg.out _ (lay_kept Hv.out (by repeat (first | assumption | exact Below.refl _ _ | apply kept_alloc | apply kept_drew | apply kept_drewN | refine kept_trans ?_ (by assumption))))).mono ?_
      rintro e w1 ⟨rfl, hb1⟩
      rw [← HM0.out]
      obtain ⟨fchb1, ffhb1, fzhb1⟩ := far hb1; try simp only [World.size_alloc, World.size_setCell, World.size_drew, World.heap_drewN] at fzhb1
      go_wp2_with fail
      refine (low_any _ ws _ (by omega) (by rw [← Hn.out]; omega) Hg.out _ (lay_kept Hv.out (by repeat (first | assumption | exact Below.refl _ _ | apply kept_alloc | apply kept_drew | apply kept_drewN | refine kept_trans ?_ (by assumption))))).mono ?_
      rintro e w2 ⟨rfl, hb2⟩
      rw [Int.toNat_natCast]
      obtain ⟨fchb2, ffhb2, fzhb2⟩ := far hb2; try simp only [World.size_alloc, World.size_setCell, World.size_drew, World.heap_drewN] at fzhb2
      go_wp2_with fail
      go_region_with (first
        | (go_at_call 20
           refine (most_any _ ws _ Hg.out _ ?_).mono ?_
           (exact lay_kept Hv.out (by repeat (first | assumption | exact Below.refl _ _ | apply kept_alloc | apply kept_drew | apply kept_drewN | refine kept_trans ?_ (by assumption))))
           rintro e w3 ⟨rfl, hb3⟩
           rw [← HM0.out]))
      all_goals (
        go_wp2_with fail
        go_ret2
        refine ⟨.nilIface, ?_, ?_, by repeat (first | assumption | exact Below.refl _ _ | apply kept_alloc | apply kept_drew | apply kept_drewN | refine kept_trans ?_ (by assumption))⟩
        · rw [Hqq.out]
          simp [Act.put]
          rw [IntWalk.u64_in (Z : Int) (by omega)]
          exact Hval.out
        · rw [Hqq.out]
          exact .inl ⟨rfl, rfl, rfl⟩)

theorem with_any (v : Value) (ws : List Nat) (x : Nat) (i z : Int) (hg : GoodW ws) (hx : x < 18446744073709551616) (hz0 : -9223372036854775808 ≤ z) (hz1 : z ≤ 9223372036854775807) (w : World) (hv : LayIs w v ws) :
    Calls Try.prog 16 #[v, .int .u64 (x : Int), .int .i64 i, .int .i64 z] w (WithDone ws x i z w) := by
  by_cases hi : i < 0 ∨ ws.length ≤ i
  · exact with_none v ws x i z hi hg w hv
  · obtain ⟨k, rfl⟩ := Int.eq_ofNat_of_zero_le (by omega : 0 ≤ i)
    exact with_some v ws x k z (by omega) hg hx hz0 hz1 w hv
end Go.Proofs.Ytnbnjkbkjmlomaa
