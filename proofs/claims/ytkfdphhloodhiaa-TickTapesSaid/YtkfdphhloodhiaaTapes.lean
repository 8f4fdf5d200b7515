/-
  The law TickTapes walks to true.
-/
import Derived.Test.YtkfdphhloodhiaaTape
namespace Go.Proofs.Ytkfdphhloodhiaa
open Go.RowKit
set_option linter.unusedSimpArgs false
set_option linter.unusedVariables false

theorem tape_new {w : World} {B g : Nat} (hB : B ≤ g) (h : Blk w g 36 #[.slice none 0 0, .int .i64 0]) : TapeIs w B g (.slice none 0 0) [] 0 :=
  ⟨hB, h, World.ownsRow_nil _ _ _ _, Nat.le_refl _⟩
theorem one_wf (z : Int) : ∀ u ∈ [z].map (Value.int .i64), u.oneCell' = true := one_ints [z]

theorem tape_apart {w : World} {B B' g1 g2 : Nat} {sva svb : Value} {xs ys : List Int} {j k : Nat} (ha : TapeIs w B g1 sva xs j) (hb : TapeIs w B' g2 svb ys k) (h : g1 ≠ g2) : g1 ∉ g2 :: svb.ownBlock.toList := by
  have h1 := own_blk_ne hb.2.2.1 ha.2.1 (by decide)
  intro hm
  rcases List.mem_cons.1 hm with hm | hm
  · exact h hm
  · exact h1 (by simpa using hm)
theorem tape_apart2 {w : World} {B B' g1 g2 : Nat} {sva svb : Value} {xs ys : List Int} {j k : Nat} (ha : TapeIs w B g1 sva xs j) (hb : TapeIs w B' g2 svb ys k) (h : ∀ x, sva.ownBlock = some x → svb.ownBlock ≠ some x) : ∀ x, sva.ownBlock = some x → x ∉ g2 :: svb.ownBlock.toList := by
  intro x hx hm
  rcases List.mem_cons.1 hm with hm | hm
  · exact own_blk_ne ha.2.2.1 hb.2.1 (by decide) (by rw [hx, hm])
  · exact h x hx (by simpa using hm)
theorem tape_own {w : World} {B g : Nat} {sv : Value} {xs : List Int} {k : Nat} (h : TapeIs w B g sv xs k) : ∀ x ∈ g :: sv.ownBlock.toList, B ≤ x ∧ x < w.heap.size := by
  intro x hx
  rcases List.mem_cons.1 hx with hx | hx
  · subst hx
    exact ⟨h.1, blk_lt h.2.1⟩
  · exact h.2.2.1.lt x (by simpa using hx)
theorem new_apart {w w1 : World} {B B' g1 g2 : Nat} {sva svb sv' : Value} {xs ys : List Int} {j k : Nat} (ha : TapeIs w B g1 sva xs j) (hb : TapeIs w B' g2 svb ys k) (h : ∀ x, sva.ownBlock = some x → svb.ownBlock ≠ some x)
    (hn : sv'.ownBlock = svb.ownBlock ∨ ∃ n, sv'.ownBlock = some n ∧ w1.heap.size ≤ n) (hw : w.heap.size ≤ w1.heap.size) : ∀ x, sva.ownBlock = some x → sv'.ownBlock ≠ some x := by
  intro x hx he
  rcases hn with hn | ⟨n, hn, hle⟩
  · exact h x hx (hn ▸ he)
  · rw [hn] at he
    injection he with he
    have := (ha.2.2.1.lt x hx).2
    omega

set_option maxHeartbeats 2000000 in
theorem tapes_walk (A : Option Addr) (n c : Nat) (xs : List Int) (hx : xs.length = n) (hn : n ≤ 200) (wx : ∀ z ∈ xs, (Lit.int .i64 z).wf = true) (w : World) (ra : Row w A (xs.map (Value.int .i64))) :
    Calls Try.prog 5 #[.slice A n c] w (Gives w (.bool true)) := by
  have Hx := Lib.hid hx
  clear hx wx
  obtain ⟨B, hB⟩ : ∃ B, B = w.heap.size := ⟨_, rfl⟩
  have HB := Lib.hid hB
  clear hB
  have ra0 := Lib.hid ra
  clear ra
  go_enter Try.func5, Try.ntmps5
  go_wp2_with fail
  with_reducible refine (put_any w.heap.size w.heap.size _ [] xs 0 A n c Hx.out (by simp; omega) _ (tape_new (Nat.le_refl _) ?hg) (row_alloc (row_alloc ra0.out _) _)).mono ?_
  case hg => repeat (first | assumption | (refine blk_newAt rfl ?_; simp; done) | refine blk_alloc ?_ _ | refine blk_drew ?_ | refine blk_drewN ?_ _)
  rintro e w1 ⟨sva, rfl, ht1, hc1, hat1⟩
  have hb1 : Below w.heap.size w w1 := kept_chg (by repeat (first | assumption | exact Below.refl _ _ | apply kept_alloc | apply kept_drew | apply kept_drewN | refine kept_trans ?_ (by assumption))) hc1 (by simp [Value.ownBlock])
  have ht1' : TapeIs w1 w.heap.size w.heap.size sva xs 0 := by simpa using ht1
  have hg2 : Blk w1 (w.heap.size + 1) 36 #[.slice none 0 0, .int .i64 0] := blk_chg (blk_newAt rfl (by simp)) hc1 (by simp [Value.ownBlock])
  have ht2 : TapeIs w1 w.heap.size (w.heap.size + 1) (.slice none 0 0) [] 0 := tape_new (by omega) hg2
  clear ht1 hc1 hat1 hg2
  go_wp2_with fail
  go_loopw [21] (fun i wr => ∃ (k : Nat) (svb : Value), k ≤ n ∧ i = .int .i64 k ∧ TapeIs wr w.heap.size w.heap.size sva xs 0 ∧ TapeIs wr w.heap.size (w.heap.size + 1) svb (xs.take k) 0 ∧ Below w.heap.size w wr ∧ (∀ x, sva.ownBlock = some x → svb.ownBlock ≠ some x)) (fun i _ => n - (intOf i).toNat)
  case atStart => exact ⟨0, _, by omega, rfl, ht1', ht2, hb1, by simp [Value.ownBlock]⟩
  case round =>
    obtain ⟨k, svb, hk, rfl, hta, htb, hbr, hne⟩ := hrel
    by_cases hlt : k < n
    · have hkx : k < xs.length := by rw [Hx.out]; exact hlt
      obtain ⟨z, hz⟩ : ∃ z, z = xs[k] := ⟨_, rfl⟩
      obtain ⟨b, off, hA, hbs, hcw⟩ := row_get ra0.out (i := k) (v := .int .i64 z) (by rw [List.getElem?_map, List.getElem?_eq_getElem hkx, hz]; rfl)
      have hcell : wr.cell? ⟨b, off + k, none⟩ = some (.int .i64 z) := (hbr.cell (p := ⟨b, off + k, none⟩) hbs).trans hcw
      have htk : xs.take (k + 1) = xs.take k ++ [z] := by rw [List.take_succ_eq_append_getElem hkx, hz]
      have hlk : (xs.take k).length ≤ 200 := by rw [List.length_take]; omega
      have Htk := Lib.hid htk
      have Hlk := Lib.hid hlk
      have Hne := Lib.hid hne
      clear htk hz hcw hlk hne
      subst hA
      have hr1 : Row (wr.alloc (.cells #[.int .i64 z] 3)) (some ⟨wr.heap.size, 0, none⟩) ([z].map (Value.int .i64)) := row_new _ _ _
      have Hr1 := Lib.hid hr1
      clear hr1
      go_wp2_with fail
      with_reducible refine (put_any w.heap.size (w.heap.size + 1) svb (xs.take k) [z] 0 _ 1 1 rfl (by have := Hlk.out; omega) _ (tape_kept htb (by repeat (first | assumption | exact Below.refl _ _ | apply kept_alloc | apply kept_drew | apply kept_drewN | refine kept_trans ?_ (by assumption)))) Hr1.out).mono ?_
      rintro e w2 ⟨svb', rfl, htb', hc2, hat2⟩
      go_wp2_with fail
      go_roundw
      case rel =>
        refine ⟨k + 1, svb', by omega, by go_num, tape_chg (tape_kept hta (by repeat (first | assumption | exact Below.refl _ _ | apply kept_alloc | apply kept_drew | apply kept_drewN | refine kept_trans ?_ (by assumption)))) hc2 (tape_apart hta htb (by omega)) (tape_apart2 hta htb Hne.out), by rw [Htk.out]; exact htb', kept_chg (kept_alloc hbr _) hc2 (fun x hx => (tape_own htb x hx).1), new_apart hta htb Hne.out hat2 (by simp)⟩
      case measure => simp [intOf]; omega
    · obtain rfl : k = n := by omega
      have htb2 : TapeIs wr w.heap.size (w.heap.size + 1) svb xs 0 := by rw [List.take_of_length_le (by rw [Hx.out]; omega)] at htb; exact htb
      have Hne := Lib.hid hne
      clear htb hne ht1' ht2 hlt
      go_wp2_with fail
      go_loopw [31] (fun i wq => ∃ (j : Nat), j ≤ k ∧ i = .int .i64 j ∧ TapeIs wq w.heap.size w.heap.size sva xs j ∧ TapeIs wq w.heap.size (w.heap.size + 1) svb xs j ∧ Below w.heap.size w wq) (fun i _ => k - (intOf i).toNat)
      case atStart => exact ⟨0, by omega, rfl, hta, htb2, hbr⟩
      case round =>
        obtain ⟨j, hj, rfl, hua, hub, hbq⟩ := hrel
        by_cases hlt : j < k
        · have hjx : j < xs.length := by rw [Hx.out]; exact hlt
          have hl2 : xs.length ≤ 100000 := by rw [Hx.out]; omega
          obtain ⟨z, hz⟩ : ∃ z, z = xs[j] := ⟨_, rfl⟩
          have hT1 := Lib.hid (fun W h => take_one w.heap.size w.heap.size sva xs j hjx hl2 W h)
          have hT2 := Lib.hid (fun W h => take_one w.heap.size (w.heap.size + 1) svb xs j hjx hl2 W h)
          rw [← hz] at hT1 hT2
          clear hz
          go_wp2_with fail
          refine (hT1.out _ hua).mono ?_
          rintro e w3 ⟨rfl, hua', hc3⟩
          have hub3 := tape_chg hub hc3 (by simp) (by intro x hx; simp; intro hxx; exact own_blk_ne hub.2.2.1 hua.2.1 (by decide) (by rw [hx, hxx]))
          go_wp2_with fail
          refine (hT2.out _ hub3).mono ?_
          rintro e w4 ⟨rfl, hub', hc4⟩
          have hua4 := tape_chg hua' hc4 (by simp) (by intro x hx; simp; intro hxx; exact own_blk_ne hua'.2.2.1 hub3.2.1 (by decide) (by rw [hx, hxx]))
          have hb4 := kept_chg (kept_chg hbq hc3 (by simp)) hc4 (by simp)
          go_wp2_with fail
          go_roundw
          case rel => exact ⟨j + 1, by omega, by go_num, hua4, hub', hb4⟩
          case measure => simp [intOf]; omega
        · obtain rfl : j = k := by omega
          have hl2 : xs.length ≤ 100000 := by rw [Hx.out]; omega
          have hjx : j = xs.length := Hx.out.symm
          have Hjx := Lib.hid hjx
          clear hjx hlt hta htb2
          go_wp2_with fail
          refine (take_end w.heap.size w.heap.size sva xs j Hjx.out hl2 _ hua).mono ?_
          rintro e w5 ⟨rfl, hua5, hc5⟩
          have hub5 := tape_chg hub hc5 (by simp) (by intro x hx; simp; intro hxx; exact own_blk_ne hub.2.2.1 hua.2.1 (by decide) (by rw [hx, hxx]))
          have hb5 := kept_chg hbq hc5 (by simp)
          go_wp2_with fail
          refine (tick_awake _).mono ?_
          rintro e w6 ⟨rfl, hb6⟩
          have hua6 := tape_kept hua5 hb6
          have hub6 := tape_kept hub5 hb6
          have hb6' := kept_trans hb5 hb6
          have e0 : ((xs.length : Int) - j == 0) = true := by rw [Hjx.out]; simp
          go_wp2_with fail
          refine (left_any w.heap.size w.heap.size sva xs j hl2 _ hua6).mono ?_
          rintro e w7 ⟨rfl, n7, rfl⟩
          go_wp2_with fail
          refine (left_any w.heap.size (w.heap.size + 1) svb xs j hl2 _ (tape_kept hub6 (by repeat (first | assumption | exact Below.refl _ _ | apply kept_alloc | apply kept_drew | apply kept_drewN | refine kept_trans ?_ (by assumption))))).mono ?_
          rintro e w8 ⟨rfl, n8, rfl⟩
          go_wp2_with fail
          refine (taken_any w.heap.size w.heap.size sva xs j _ (tape_kept hua6 (by repeat (first | assumption | exact Below.refl _ _ | apply kept_alloc | apply kept_drew | apply kept_drewN | refine kept_trans ?_ (by assumption))))).mono ?_
          rintro e w9 ⟨rfl, rfl⟩
          go_wp2_with fail
          go_ret
          exact ⟨rfl, by repeat (first | assumption | exact Below.refl _ _ | apply kept_alloc | apply kept_drew | apply kept_drewN | refine kept_trans ?_ (by assumption))⟩

theorem tapes_more (A : Option Addr) (n c : Nat) (hn : 200 < n) (hm : n ≤ 140737488355328) (w : World) :
    Calls Try.prog 5 #[.slice A n c] w (Gives w (.bool true)) := by
  go_enter Try.func5, Try.ntmps5
  go_wp2_with fail
  refine (tick_awake _).mono ?_
  rintro e w6 ⟨rfl, hb6⟩
  go_wp2
  go_ret
  exact ⟨rfl, by repeat (first | assumption | exact Below.refl _ _ | apply kept_alloc | apply kept_drew | apply kept_drewN | refine kept_trans ?_ (by assumption))⟩
end Go.Proofs.Ytkfdphhloodhiaa
