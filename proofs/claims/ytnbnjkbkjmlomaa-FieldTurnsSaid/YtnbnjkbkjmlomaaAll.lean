/-
  The walk of All.
-/
import Derived.Test.YtnbnjkbkjmlomaaSound
namespace Go.Proofs.Ytnbnjkbkjmlomaa
open Go.RowKit
set_option linter.unusedSimpArgs false
set_option linter.unusedVariables false

/-- What All leaves: a row of the call's own, all fields. -/
def AllDone (ws : List Nat) (x : Nat) (w : World) (e : Ending) (w' : World) : Prop :=
  ∃ A c, e = .returned (.slice A ws.length c) ∧ w'.ownsRow w.heap.size 3 1 (.slice A ws.length c) ws.length (nums (fieldsN ws x)) ∧ Below w.heap.size w w'

theorem nums_take (l : List Nat) (k : Nat) (h : k < l.length) : nums (l.take (k + 1)) = nums (l.take k) ++ [.int .i64 (l[k] : Int)] := by
  unfold nums
  rw [List.take_succ_eq_append_getElem h, List.map_append]
  rfl

set_option maxHeartbeats 2000000 in
theorem all_any (v : Value) (ws : List Nat) (x : Nat) (hg : GoodW ws) (hx : x < 18446744073709551616) (w : World) (hv : LayIs w v ws) :
    Calls Try.prog 12 #[v, .int .u64 (x : Int)] w (AllDone ws x w) := by
  have hl := good_length hg
  have hfl := fieldsN_length ws x
  obtain ⟨A, c, hform⟩ := lay_form hv
  have Hv := Lib.hid hv
  have Hg := Lib.hid hg
  have Hfl := Lib.hid hfl
  clear hv hfl hg
  subst hform
  obtain ⟨n, hn⟩ : ∃ n, n = ws.length := ⟨_, rfl⟩
  have Hn := Lib.hid hn
  have hl2 : n ≤ 64 := by omega
  rw [← hn] at Hv Hfl ⊢
  clear hn hl
  obtain ⟨i0, hi0, hk0, hk1, hk2⟩ := info_parts int_info
  go_enter Try.func12, Try.ntmps12
  go_wp2_with fail
  go_loopw [5, 10] (fun o i wr => ∃ (k : Nat), k ≤ n ∧ i = .int .i64 k ∧ wr.ownsRow w.heap.size 3 1 o k (nums ((fieldsN ws x).take k)) ∧ Blk wr w.heap.size 26 #[.slice A n c] ∧ Below w.heap.size w wr) (fun _ i _ => n - (intOf i).toNat)
  case atStart => exact ⟨0, by omega, rfl, World.ownsRow_nil _ _ _ _, by repeat (first | assumption | (refine blk_newAt rfl ?_; simp; done) | refine blk_alloc ?_ _ | refine blk_drew ?_ | refine blk_drewN ?_ _), by repeat (first | assumption | exact Below.refl _ _ | apply kept_alloc | apply kept_drew | apply kept_drewN | refine kept_trans ?_ (by assumption))⟩
  case round =>
    obtain ⟨k, hk, rfl, hown, hblk, hbr⟩ := hrel
    obtain ⟨q1, q2, q3⟩ := blk_facts hblk
    by_cases hlt : k < n
    · have hkf : k < (fieldsN ws x).length := by rw [Hfl.out]; exact hlt
      have hget : getI ws x (k : Int) = (fieldsN ws x)[k] := by
        unfold getI
        rw [if_pos (by omega), Int.toNat_natCast, getN_fields ws x k (by rw [← Hn.out]; exact hlt)]
      have hnt := nums_take (fieldsN ws x) k hkf
      rw [← hget] at hnt
      obtain ⟨z, hz⟩ : ∃ z, z = getI ws x (k : Int) := ⟨_, rfl⟩
      rw [← hz] at hnt
      have Hz := Lib.hid hz
      have Hnt := Lib.hid hnt
      clear hget hz hnt
      obtain ⟨so, co, ho⟩ := own_form hown
      subst ho
      go_wp2_with (first
        | (go_at_call 22
           refine (get_any _ ws x _ Hg.out hx _ (lay_kept Hv.out hbr)).mono ?_
           rintro e w1 ⟨rfl, hb1⟩
           rw [← Hz.out]
           have hown1 := hown.kept (row := none) ⟨hb1.os, hb1.tape, hb1.output, hb1.size, fun i hi _ => hb1.block i hi⟩ (by cases hso : (Value.slice so k co).ownBlock <;> simp)
           have hb1' := kept_trans hbr hb1)
        | (at_builtin
           refine wpList_append_row _ rfl (.tmp 13) (.tmp 18) _ rfl w.heap.size 3 i0 _ 1 8 Try.underlying22 hi0 hk0 hk1 hk2 rfl (by omega) (.slice so k co) k (nums ((fieldsN ws x).take k)) rfl (hown1.alloc _) (some ⟨w1.heap.size, 0, none⟩) 1 1 [.int .i64 (z : Int)] rfl rfl (row_new _ _ _) (one_ints [(z : Int)]) (by simp only [maxLen]; omega) (by omega) (by have := hb1'.size; simp; omega) ?_
           intro v2 w2 hown2 hg2 hnil2 hat2
           have hb2' : Below w.heap.size w w2 := kept_grown (kept_alloc hb1' _) hg2 (fun y hy => (hown1.lt y hy).1)
           have hblk2 := blk_grown (blk_alloc (blk_kept hblk hb1) _) hg2 (fun e => own_blk_ne hown hblk (by decide) e.symm)))
      go_roundw
      case rel => exact ⟨k + 1, by omega, by go_num, by rw [Hnt.out]; exact hown2, hblk2, hb2'⟩
      case measure => simp [intOf]; omega
    · obtain rfl : k = n := by omega
      have hown' : wr.ownsRow w.heap.size 3 1 u5 k (nums (fieldsN ws x)) := by rwa [List.take_of_length_le (by rw [Hfl.out]; omega)] at hown
      obtain ⟨so, co, ho⟩ := own_form hown'
      subst ho
      clear hown
      go_wp2_with fail
      go_ret
      exact ⟨so, co, by rw [← Hn.out]; rfl, by rw [← Hn.out]; exact hown', hbr⟩
end Go.Proofs.Ytnbnjkbkjmlomaa
