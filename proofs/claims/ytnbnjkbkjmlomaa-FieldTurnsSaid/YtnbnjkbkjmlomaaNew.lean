/-
  The walk of field.New.
-/
import Derived.Test.YtnbnjkbkjmlomaaPack
namespace Go.Proofs.Ytnbnjkbkjmlomaa
open Go.RowKit
set_option linter.unusedSimpArgs false
set_option linter.unusedVariables false

/-- What is wrong with widths, and where, with a sum so far. -/
def badW : List Int → Nat → Int → Option (Int × Nat)
  | [], _, _ => none
  | z :: r, i, s => if z < 1 ∨ 32 < z then some (5, i) else if 64 < s + z then some (4, i) else badW r (i + 1) (s + z)
theorem badW_drop (zs : List Int) (k i : Nat) (s : Int) (h : k < zs.length) :
    badW (zs.drop k) i s = if zs[k] < 1 ∨ 32 < zs[k] then some (5, i) else if 64 < s + zs[k] then some (4, i) else badW (zs.drop (k + 1)) (i + 1) (s + zs[k]) := by
  rw [List.drop_eq_getElem_cons h]
  rfl
theorem badW_good : ∀ (zs : List Int) (i : Nat) (s : Int), 0 ≤ s → s ≤ 64 → badW zs i s = none → ∃ ws : List Nat, zs = ws.map (fun (x : Nat) => (x : Int)) ∧ (∀ w ∈ ws, 1 ≤ w ∧ w ≤ 32) ∧ s + (ws.sum : Int) ≤ 64
  | [], _, s, _, h1, _ => ⟨[], rfl, by simp, by simpa using h1⟩
  | z :: r, i, s, h0, h1, h => by
    unfold badW at h
    by_cases c1 : z < 1 ∨ 32 < z
    · rw [if_pos c1] at h
      cases h
    · rw [if_neg c1] at h
      by_cases c2 : 64 < s + z
      · rw [if_pos c2] at h
        cases h
      · rw [if_neg c2] at h
        obtain ⟨ws, e, hw, hs⟩ := badW_good r (i + 1) (s + z) (by omega) (by omega) h
        refine ⟨z.toNat :: ws, ?_, ?_, ?_⟩
        · rw [List.map_cons, ← e, Int.toNat_of_nonneg (by omega)]
        · intro w hm
          rcases List.mem_cons.1 hm with hm | hm
          · omega
          · exact hw w hm
        · simp only [List.sum_cons]
          omega

/-- What New leaves. -/
def NewDone (zs : List Int) (w : World) (e : Ending) (w' : World) : Prop :=
  Below w.heap.size w w' ∧
  ((∃ lay ws, badW zs 0 0 = none ∧ zs = ws.map (fun (x : Nat) => (x : Int)) ∧ GoodW ws ∧ e = .returned (.tuple #[lay, .nilIface]) ∧ LayIs w' lay ws) ∨
   (∃ code i er, badW zs 0 0 = some (code, i) ∧ 1 ≤ code ∧ code ≤ 29 ∧ e = .returned (.tuple #[.agg #[.slice none 0 0], er]) ∧ ErrIs w' er code (some (i : Int))))

theorem lay_of_own {w : World} {B : Nat} {ws : List Nat} {v : Value} (h : w.ownsRow B 3 1 v ws.length (nums ws)) : LayIs w (.agg #[v]) ws := by
  rcases h.2 with ⟨rfl, h0⟩ | ⟨g, cap, cur, rfl, hb, hg, hc, hm, hs, ht⟩
  · exact .inl ⟨rfl, List.eq_nil_of_length_eq_zero h0⟩
  · refine .inr ⟨g, 0, cap, rfl, hc, by simpa [maxLen] using hm, (Array.getElem?_eq_some_iff.1 hg).1, fun i hi => ?_⟩
    have := h.cells (g := g) rfl i _ (nums_get ws i hi)
    rw [addr_add] at this
    exact this
theorem int_info : (Try.prog.info? 3).map (fun i => (i.zero, i.size, i.bytes)) = some (some (.int .i64 0), 1, 8) := by kernel_rfl
theorem one_ints (xs : List Int) : ∀ u ∈ xs.map (Value.int .i64), u.oneCell' = true := by
  intro u hu
  obtain ⟨z, _, rfl⟩ := List.mem_map.1 hu
  rfl

set_option maxHeartbeats 2000000 in
theorem new_walk (A : Option Addr) (n c : Nat) (zs : List Int) (hl : zs.length = n) (hn : n * 8 ≤ 140737488351232) (hz : ∀ z ∈ zs, (Lit.int .i64 z).wf = true) (b off : Nat) (hA : 0 < n → A = some ⟨b, off, none⟩) (w : World) (hb : 0 < n → b < w.heap.size)
    (hr : ∀ i v, (zs.map (Value.int .i64))[i]? = some v → w.cell? ⟨b, off + i, none⟩ = some v) (hrow : Row w A (zs.map (Value.int .i64))) :
    Calls Try.prog 9 #[.slice A n c] w (NewDone zs w) := by
  have Hl := Lib.hid hl
  have HA := Lib.hid hA
  have Hb := Lib.hid hb
  have Hrow := Lib.hid hrow
  have Hz := Lib.hid hz
  clear hl hA hb hrow hz
  go_enter Try.func9, Try.ntmps9
  go_wp2_with fail
  go_loop [4, 9] (fun s i => ∃ (k : Nat) (t : Int), k ≤ n ∧ i = .int .i64 k ∧ s = .int .i64 t ∧ 0 ≤ t ∧ t ≤ 64 ∧ badW zs 0 0 = badW (zs.drop k) k t) (fun _ i => n - (intOf i).toNat)
  case atStart => exact ⟨0, 0, by omega, rfl, rfl, by omega, by omega, rfl⟩
  case round =>
    obtain ⟨k, t, hk, rfl, rfl, ht0, ht1, ht⟩ := hrel
    have Ht := Lib.hid ht
    clear ht
    by_cases hlt : k < n
    · have hkz : k < zs.length := by rw [Hl.out]; exact hlt
      obtain ⟨z, hzk⟩ : ∃ z, z = zs[k] := ⟨_, rfl⟩
      have hstep := badW_drop zs k k t hkz
      rw [← hzk] at hstep
      have Hs := Lib.hid hstep
      have hcell : w.cell? ⟨b, off + k, none⟩ = some (.int .i64 z) := hr k _ (by rw [List.getElem?_map, List.getElem?_eq_getElem hkz, hzk]; rfl)
      have hzb := bounds_i64 (Hz.out z (by rw [hzk]; exact List.getElem_mem hkz))
      obtain ⟨hz0, hz1⟩ := hzb
      have hbs := Hb.out (by omega)
      have hAe := HA.out (by omega)
      subst hAe
      clear hr hzk hstep
      have fin : ∀ W' g code, Below w.heap.size w W' → 1 ≤ code → code ≤ 29 → badW (zs.drop k) k t = some (code, k) → Blk W' g 56 #[.int .i64 k, .iface 49 (.int .i64 code)] → NewDone zs w (.returned (.tuple #[.agg #[.slice none 0 0], .iface 54 (.pointer (some ⟨g, 0, none⟩))])) W' := by
        intro W' g code hb' h1 h9 hbad hg'
        exact ⟨hb', .inr ⟨code, k, _, by rw [Ht.out, hbad], h1, h9, rfl, .inr (.inr ⟨h1, h9, k, g, rfl, rfl, hg'⟩)⟩⟩
      have Fin := Lib.hid fin
      clear fin
      by_cases c1 : z < 1
      · go_wp2_with fail
        refine (at_code _ _ _).mono ?_
        rintro e w1 ⟨rfl, rfl⟩
        go_wp2_with fail
        exact bodyPost_ret (v := .tuple #[.agg #[.slice none 0 0], .iface 54 (.pointer (some ⟨w.heap.size + 1, 0, none⟩))]) (by simp [results, Try.results9, go_sem]) rfl (Fin.out _ _ 5 (by repeat (first | assumption | exact Below.refl _ _ | apply kept_alloc | apply kept_drew | apply kept_drewN | refine kept_trans ?_ (by assumption))) (by omega) (by omega) (by rw [Hs.out, if_pos (.inl c1)]) (by repeat (first | assumption | (refine blk_newAt rfl ?_; simp; done) | refine blk_alloc ?_ _ | refine blk_drew ?_ | refine blk_drewN ?_ _)))
      · have d1 : decide (z < 1) = false := by simpa using c1
        by_cases c2 : 32 < z
        · go_wp2_with fail
          refine (at_code _ _ _).mono ?_
          rintro e w1 ⟨rfl, rfl⟩
          go_wp2_with fail
          exact bodyPost_ret (v := .tuple #[.agg #[.slice none 0 0], .iface 54 (.pointer (some ⟨w.heap.size + 1, 0, none⟩))]) (by simp [results, Try.results9, go_sem]) rfl (Fin.out _ _ 5 (by repeat (first | assumption | exact Below.refl _ _ | apply kept_alloc | apply kept_drew | apply kept_drewN | refine kept_trans ?_ (by assumption))) (by omega) (by omega) (by rw [Hs.out, if_pos (.inr c2)]) (by repeat (first | assumption | (refine blk_newAt rfl ?_; simp; done) | refine blk_alloc ?_ _ | refine blk_drew ?_ | refine blk_drewN ?_ _)))
        · have d2 : decide (32 < z) = false := by simpa using c2
          have c1' : 1 ≤ z := by omega
          have c2' : z ≤ 32 := by omega
          by_cases c3 : 64 < t + z
          · clear c1 c2
            go_wp2_with fail
            refine (at_code _ _ _).mono ?_
            rintro e w1 ⟨rfl, rfl⟩
            go_wp2_with fail
            exact bodyPost_ret (v := .tuple #[.agg #[.slice none 0 0], .iface 54 (.pointer (some ⟨w.heap.size + 1, 0, none⟩))]) (by simp [results, Try.results9, go_sem]) rfl (Fin.out _ _ 4 (by repeat (first | assumption | exact Below.refl _ _ | apply kept_alloc | apply kept_drew | apply kept_drewN | refine kept_trans ?_ (by assumption))) (by omega) (by omega) (by rw [Hs.out, if_neg (by omega), if_pos c3]) (by repeat (first | assumption | (refine blk_newAt rfl ?_; simp; done) | refine blk_alloc ?_ _ | refine blk_drew ?_ | refine blk_drewN ?_ _)))
          · have d3 : decide (64 < t + z) = false := by simpa using c3
            clear c1 c2
            go_wp2_with fail
            go_round
            case rel => exact ⟨k + 1, t + z, by omega, by go_num, rfl, by omega, by omega, by rw [Ht.out, Hs.out, if_neg (by omega), if_neg c3]⟩
            case measure => simp [intOf]; omega
    · obtain rfl : k = n := by omega
      have hnone : badW zs 0 0 = none := by
        rw [Ht.out, ← Hl.out, List.drop_length]
        rfl
      obtain ⟨ws, hws, hgw, hsum⟩ := badW_good zs 0 0 (by omega) (by omega) hnone
      have hgood : GoodW ws := ⟨hgw, by omega⟩
      have hmap : zs.map (Value.int .i64) = nums ws := by rw [hws]; simp [nums]
      have hlw : ws.length = k := by rw [← Hl.out, hws]; simp
      have Hws := Lib.hid hws
      have Hmap := Lib.hid hmap
      have Hlw := Lib.hid hlw
      have Hnone := Lib.hid hnone
      clear hws hmap hlw hnone hr
      obtain ⟨i0, hi0, hk0, hk1, hk2⟩ := info_parts int_info
      go_wp2_with (at_builtin
                   refine wpList_append_row _ rfl (.const (.slice none 0 0)) (.tmp 34) _ rfl w.heap.size 3 i0 _ 1 8 Try.underlying22 hi0 hk0 hk1 hk2 rfl (by omega) (.slice none 0 0) 0 [] rfl (World.ownsRow_nil _ _ _ _) A k c (zs.map (Value.int .i64)) rfl (by rw [List.length_map, Hl.out]; simp) (row_alloc Hrow.out _) (one_ints zs) (by simp only [maxLen]; omega) (by omega) (by simp) ?_
                   intro v1 w3 hown1 hg3 hnil1 hat1
                   simp only [Nat.zero_add, List.nil_append] at hown1
                   have hb3 : Below w.heap.size w w3 := kept_grown (by repeat (first | assumption | exact Below.refl _ _ | apply kept_alloc | apply kept_drew | apply kept_drewN | refine kept_trans ?_ (by assumption))) hg3 (by simp [Value.ownBlock])
                   have hbk := blk_grown (show Blk (w.alloc (.cells #[.slice none 0 0] 26)) w.heap.size 26 #[.slice none 0 0] from blk_new _ _ _) hg3 (by simp [Value.ownBlock])
                   have hne1 := own_blk_ne hown1 hbk (by decide)
                   obtain ⟨p1, p2, p3⟩ := blk_facts hbk
                   obtain ⟨A1, c1, hv1⟩ := own_form hown1
                   subst hv1
                   clear hnil1)
      have hset : Blk (w3.setCell ⟨w.heap.size, 0, none⟩ (.slice A1 k c1)) w.heap.size 26 #[.slice A1 k c1] := by simpa using blk_set hbk 0 (.slice A1 k c1)
      obtain ⟨s1, s2, s3⟩ := blk_facts hset
      refine bodyPost_ret (v := .tuple #[.agg #[.slice A1 k c1], .nilIface]) (by simp [results, Try.results9, go_sem, s1]) rfl ⟨kept_set hb3 _ (Nat.le_refl _) _, .inl ⟨_, ws, Hnone.out, Hws.out, hgood, rfl, ?_⟩⟩
      refine lay_of_own (B := w.heap.size) ?_
      have h1 := hown1.kept (w' := w3.setCell ⟨w.heap.size, 0, none⟩ (.slice A1 k c1)) (row := some w.heap.size) ⟨rfl, rfl, rfl, by simp [World.setCell], fun i _ hn => Below.heap_setCell _ _ _ _ (fun e => hn (by rw [e]))⟩ (.inr hne1)
      rw [Hlw.out, ← Hmap.out]
      exact h1

/-- field.New, over whatever widths. -/
theorem new_any (A : Option Addr) (n c : Nat) (zs : List Int) (hl : zs.length = n) (hn : n * 8 ≤ 140737488351232) (hz : ∀ z ∈ zs, (Lit.int .i64 z).wf = true) (w : World) (hrow : Row w A (zs.map (Value.int .i64))) :
    Calls Try.prog 9 #[.slice A n c] w (NewDone zs w) := by
  by_cases h0 : zs = []
  · subst h0
    have hn0 : n = 0 := by rw [← hl]; rfl
    subst hn0
    exact new_walk A 0 c [] rfl (by omega) (by simp) 0 0 (by omega) w (by omega) (by simp) hrow
  · rcases hrow with h | ⟨b, off, rfl, hc⟩
    · exact absurd (by simpa using h) h0
    · have hb : b < w.heap.size := by
        obtain ⟨x, r, rfl⟩ := List.exists_cons_of_ne_nil h0
        exact World.block_lt_of_cell? w _ (hc 0 (.int .i64 x) rfl)
      exact new_walk _ n c zs hl hn hz b off (fun _ => rfl) w (fun _ => hb) hc (.inr ⟨b, off, rfl, hc⟩)
end Go.Proofs.Ytnbnjkbkjmlomaa
