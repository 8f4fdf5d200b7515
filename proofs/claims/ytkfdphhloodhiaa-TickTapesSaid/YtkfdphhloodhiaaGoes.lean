/-
  The law TickGoes walks to true.
-/
import Derived.Test.YtkfdphhloodhiaaNow
namespace Go.Proofs.Ytkfdphhloodhiaa
open Go.RowKit
set_option linter.unusedSimpArgs false
set_option linter.unusedVariables false

theorem three_wf : ∀ z ∈ [(3 : Int), -1, 4], (Lit.int .i64 z).wf = true := by
  intro z hz
  rcases (by simpa using hz : z = 3 ∨ z = -1 ∨ z = 4) with rfl | rfl | rfl <;> rfl
theorem three_goes : [(3 : Int), -1, 4].foldl nowStep 0 = 7 := rfl

set_option maxHeartbeats 400000 in
theorem tick_awake (w : World) : Calls Try.prog 6 #[] w (Gives w (.bool true)) := by
  go_enter Try.func6, Try.ntmps6
  go_wp2_with fail
  with_reducible refine (go_any w.heap.size _ 3 _ 0 [3, -1, 4] (by omega) (by omega) rfl (by omega) three_wf _ ?hg ?hA ?hr).mono ?_
  case hg => repeat (first | assumption | (refine blk_newAt rfl ?_; simp; done) | refine blk_alloc ?_ _ | refine blk_drew ?_ | refine blk_drewN ?_ _)
  case hA => rintro _ a ⟨rfl⟩; simp
  case hr => refine row_blk (cs := #[.int .i64 3, .int .i64 (-1), .int .i64 4]) (t := 3) ?_ rfl; repeat (first | assumption | (refine blk_newAt rfl ?_; simp; done) | refine blk_alloc ?_ _ | refine blk_drew ?_ | refine blk_drewN ?_ _)
  rintro e w1 ⟨rfl, hg, hc⟩
  rw [three_goes] at *
  go_wp2
  go_ret
  exact ⟨rfl, kept_chg (by repeat (first | assumption | exact Below.refl _ _ | apply kept_alloc | apply kept_drew | apply kept_drewN | refine kept_trans ?_ (by assumption))) hc (by simp)⟩

theorem int_info : (Try.prog.info? 3).map (fun i => (i.zero, i.size, i.bytes)) = some (some (.int .i64 0), 1, 8) := by kernel_rfl

theorem one_ints (xs : List Int) : ∀ u ∈ xs.map (Value.int .i64), u.oneCell' = true := by
  intro u hu
  obtain ⟨z, _, rfl⟩ := List.mem_map.1 hu
  rfl

set_option maxHeartbeats 1000000 in
theorem goes_walk (A B : Option Addr) (n c m d : Nat) (u : Int) (xs ys : List Int) (hx : xs.length = n) (hy : ys.length = m) (hnm : n + m ≤ 200) (wx : ∀ z ∈ xs, (Lit.int .i64 z).wf = true) (wy : ∀ z ∈ ys, (Lit.int .i64 z).wf = true) (w : World)
    (ra : Row w A (xs.map (Value.int .i64))) (rb : Row w B (ys.map (Value.int .i64))) :
    Calls Try.prog 3 #[.slice A n c, .slice B m d, .int .i64 u] w (Gives w (.bool true)) := by
  obtain ⟨X, hX⟩ : ∃ X, X = xs.foldl nowStep 0 := ⟨_, rfl⟩
  obtain ⟨Y, hY⟩ : ∃ Y, Y = ys.foldl nowStep X := ⟨_, rfl⟩
  have hXin := now_in xs 0 (by omega) (by omega)
  rw [← hX] at hXin
  have hYin := now_in ys X hXin.1 hXin.2
  rw [← hY] at hYin
  have hall : (xs ++ ys).foldl nowStep 0 = Y := by rw [List.foldl_append, ← hX, ← hY]
  obtain ⟨hX0, hX1⟩ := hXin
  obtain ⟨hY0, hY1⟩ := hYin
  have Hx := Lib.hid hx
  have Hy := Lib.hid hy
  have HX := Lib.hid hX
  have HY := Lib.hid hY
  have Hall := Lib.hid hall
  have Wx := Lib.hid wx
  have Wy := Lib.hid wy
  clear hx hy hX hY hall wx wy
  go_enter Try.func3, Try.ntmps3
  go_wp2_with fail
  with_reducible refine (go_any w.heap.size A n c 0 xs (by omega) (by omega) Hx.out (by omega) Wx.out _ ?hg ?hA (row_alloc ra _)).mono ?_
  case hg => repeat (first | assumption | (refine blk_newAt rfl ?_; simp; done) | refine blk_alloc ?_ _ | refine blk_drew ?_ | refine blk_drewN ?_ _)
  case hA => intro h0 a ha; have := row_lt ra h0 a ha; omega
  rintro e w1 ⟨rfl, hg1, hc1⟩
  rw [← HX.out] at hg1 ⊢
  have hb1 : Below w.heap.size w w1 := kept_chg (by repeat (first | assumption | exact Below.refl _ _ | apply kept_alloc | apply kept_drew | apply kept_drewN | refine kept_trans ?_ (by assumption))) hc1 (by simp)
  have ra1 := row_kept ra hb1
  have rb1 := row_kept rb hb1
  go_wp2_with fail
  with_reducible refine (go_any w.heap.size B m d X ys hX0 hX1 Hy.out (by omega) Wy.out _ hg1 ?hB rb1).mono ?_
  case hB => intro h0 a ha; have := row_lt rb h0 a ha; omega
  rintro e w2 ⟨rfl, hg2, hc2⟩
  rw [← HY.out] at hg2 ⊢
  have hb2 : Below w.heap.size w w2 := kept_chg hb1 hc2 (by simp)
  have ra2 := row_kept ra hb2
  have rb2 := row_kept rb hb2
  have hz2 := hb2.size
  obtain ⟨i0, hi0, hk0, hk1, hk2⟩ := info_parts int_info
  go_wp2_with (first
    | (at_builtin
       refine wpList_append_row _ rfl (.tmp 24) (.tmp 25) _ rfl w.heap.size 3 i0 _ 1 8 Try.underlying22 hi0 hk0 hk1 hk2 rfl (by omega) (.slice (some ⟨w2.heap.size, 0, none⟩) 0 0) 0 [] rfl (World.ownsRow_lit _ #[] 0 (by omega) (by simp [maxLen]) rfl) A n c (xs.map (Value.int .i64)) rfl (by rw [List.length_map, Hx.out]; simp) (row_alloc ra2 _) (one_ints xs) (by simp only [maxLen]; omega) (by omega) (by simp; omega) ?_
       intro v1 w3 hown1 hg3 hnil1 hat1
       have hb3 : Below w.heap.size w w3 := kept_grown (kept_alloc hb2 _) hg3 (by simp [Value.ownBlock]; omega)
       have hz3 := hb3.size)
    | (at_builtin
       refine wpList_append_row _ rfl (.tmp 26) (.tmp 27) _ rfl w.heap.size 3 i0 _ 1 8 Try.underlying22 hi0 hk0 hk1 hk2 rfl (by omega) v1 (0 + n) ([] ++ xs.map (Value.int .i64)) rfl hown1 B m d (ys.map (Value.int .i64)) rfl (by rw [List.length_map, Hy.out]; simp) (row_kept rb hb3) (one_ints ys) (by simp only [maxLen]; omega) (by omega) (by omega) ?_
       intro v2 w4 hown2 hg4 hnil2 hat2
       have hb4 : Below w.heap.size w w4 := kept_grown hb3 hg4 (fun x hx => (hown1.lt x hx).1)
       have hz4 := hb4.size
       obtain ⟨C, cc, hv2⟩ := own_form hown2
       subst hv2
       clear hnil1 hnil2))
  have hlen : (xs ++ ys).length = n + m := by rw [List.length_append, Hx.out, Hy.out]
  have Hlen := Lib.hid hlen
  clear hlen
  have hrow : Row w4 C ((xs ++ ys).map (Value.int .i64)) := by
    have := row_of_own hown2
    rwa [List.nil_append, ← List.map_append] at this
  have hg3' : Blk w3 w.heap.size 26 #[.int .u64 Y] := blk_grown (blk_alloc hg2 _) hg3 (by simp [Value.ownBlock]; have := blk_lt hg2; omega)
  have hg4' : Blk w4 w.heap.size 26 #[.int .u64 Y] := blk_grown hg3' hg4 (fun e => own_blk_ne hown1 hg3' (by decide) e.symm)
  with_reducible refine (refNow_any C (n + m) cc (xs ++ ys) Hlen.out (by omega) ?hw _ hrow).mono ?_
  case hw =>
    intro z hz
    rcases List.mem_append.1 hz with h | h
    · exact Wx.out z h
    · exact Wy.out z h
  rintro e w5 ⟨rfl, rfl⟩
  rw [Hall.out]
  clear hg3 hg4 hat1 hat2 hown1 hown2 hrow hg1 hg2 hg3' hc1 hc2 ra1 rb1 ra2 rb2 hz2
  go_wp2_with fail
  refine (tick_awake _).mono ?_
  rintro e w6 ⟨rfl, hb6⟩
  have hb6' := kept_trans hb4 hb6
  have hg6 := blk_kept hg4' hb6
  have hz6 := hb6.size
  obtain ⟨q1, q2, q3⟩ := blk_facts hg6
  clear hg4'
  go_wp2_with fail
  with_reducible refine (refNow_any A n c xs Hx.out (by omega) Wx.out _ (row_kept ra hb6')).mono ?_
  rintro e w7 ⟨rfl, rfl⟩
  rw [← HX.out]
  go_wp2_with (first
    | (go_at_call 7; refine (go_nil _ _ _ _).mono ?_; rintro e w8 ⟨rfl, rfl⟩)
    | go_in)
  go_ret
  exact ⟨rfl, by repeat (first | assumption | exact Below.refl _ _ | apply kept_alloc | apply kept_drew | apply kept_drewN | refine kept_trans ?_ (by assumption))⟩

theorem goes_more (A B : Option Addr) (n c m d : Nat) (u : Int) (hnm : 200 < n + m) (hn : n ≤ 140737488355328) (hm : m ≤ 140737488355328) (w : World) :
    Calls Try.prog 3 #[.slice A n c, .slice B m d, .int .i64 u] w (Gives w (.bool true)) := by
  go_enter Try.func3, Try.ntmps3
  go_wp2_with fail
  refine (tick_awake _).mono ?_
  rintro e w6 ⟨rfl, hb6⟩
  go_wp2
  go_ret
  exact ⟨rfl, by repeat (first | assumption | exact Below.refl _ _ | apply kept_alloc | apply kept_drew | apply kept_drewN | refine kept_trans ?_ (by assumption))⟩
end Go.Proofs.Ytkfdphhloodhiaa
