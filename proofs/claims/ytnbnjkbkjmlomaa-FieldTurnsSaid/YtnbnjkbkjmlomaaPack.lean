/-
  The walks of Layout.Pack and field.New.
-/
import Derived.Test.YtnbnjkbkjmlomaaField
namespace Go.Proofs.Ytnbnjkbkjmlomaa
open Go.RowKit
set_option linter.unusedSimpArgs false
set_option linter.unusedVariables false

/-- The first number that does not fit its field, counted from k on. -/
def firstBad : List Nat → List Int → Nat → Option Nat
  | w :: ws, v :: vs, k => if v < 0 ∨ ((2 ^ w - 1 : Nat) : Int) < v then some k else firstBad ws vs (k + 1)
  | _, _, _ => none
/-- What Pack hands back: the word, the code, the place. -/
def packI (ws : List Nat) (vs : List Int) : Int × Int × Option Int :=
  if vs.length ≠ ws.length then (0, 1, none)
  else match firstBad ws vs 0 with
    | some i => (0, 5, some (i : Int))
    | none => (packN ws (vs.map Int.toNat), 0, none)

theorem firstBad_drop : ∀ (ws : List Nat) (vs : List Int) (k j : Nat) (hw : k < ws.length) (hv : k < vs.length),
    firstBad (ws.drop k) (vs.drop k) j = if vs[k] < 0 ∨ ((2 ^ ws[k] - 1 : Nat) : Int) < vs[k] then some j else firstBad (ws.drop (k + 1)) (vs.drop (k + 1)) (j + 1) := by
  intro ws vs k j hw hv
  rw [List.drop_eq_getElem_cons hw, List.drop_eq_getElem_cons hv]
  rfl
theorem firstBad_end (ws : List Nat) (vs : List Int) (j : Nat) : firstBad (ws.drop ws.length) vs j = none := by
  rw [List.drop_length]
  rfl
theorem shl_val (v k : Nat) (hk : k ≤ 64) (h : v * 2 ^ k < 18446744073709551616) : IntKind.u64.wrap ((v : Int) * 2 ^ min k 64) = ((v * 2 ^ k : Nat) : Int) := by
  rw [Nat.min_eq_left hk]
  have e : ((v : Int) * 2 ^ k) = ((v * 2 ^ k : Nat) : Int) := by simp
  rw [e, IntWalk.u64_in _ (by omega)]
theorem or_val (a v k : Nat) (hk : k ≤ 64) (ha : a < 2 ^ k) (h : v * 2 ^ k < 18446744073709551616) (ha2 : a < 18446744073709551616) :
    bits BinOp.or IntKind.u64 (a : Int) (IntKind.u64.wrap ((v : Int) * 2 ^ min k 64)) = ((a + v * 2 ^ k : Nat) : Int) := by
  rw [shl_val v k hk h, u64_or_nat _ _ ha2 h, or_add a v k ha]
theorem part_lt {ws : List Nat} (hg : GoodW ws) (k v : Nat) (hk : k < ws.length) (hv : v ≤ 2 ^ ws[k] - 1) : v * 2 ^ lowN ws k < 18446744073709551616 := by
  have h1 := good_get hg k hk
  have h2 : 0 < 2 ^ ws[k] := Nat.two_pow_pos _
  have h3 : v * 2 ^ lowN ws k < 2 ^ ws[k] * 2 ^ lowN ws k := Nat.mul_lt_mul_of_pos_right (by omega) (Nat.two_pow_pos _)
  rw [← Nat.pow_add] at h3
  have h4 : 2 ^ (ws[k] + lowN ws k) ≤ 2 ^ 64 := pow_le _ _ (by omega)
  omega
theorem fits_snoc : ∀ {ws : List Nat} {vs : List Nat} (k : Nat) (hw : k < ws.length) (hv : k < vs.length), Fits (ws.take k) (vs.take k) → vs[k] < 2 ^ ws[k] → Fits (ws.take (k + 1)) (vs.take (k + 1))
  | w :: ws, v :: vs, 0, _, _, _, h => by simpa [Fits] using h
  | w :: ws, v :: vs, k + 1, hw, hv, hf, h => by
    simp only [List.take_succ_cons, Fits] at hf ⊢
    exact ⟨hf.1, fits_snoc k (by simpa using hw) (by simpa using hv) hf.2 (by simpa using h)⟩

/-- What Pack leaves. -/
def PackDone (ws : List Nat) (vs : List Int) (w : World) (e : Ending) (w' : World) : Prop :=
  ∃ er, e = .returned (.tuple #[.int .u64 (packI ws vs).1, er]) ∧ ErrIs w' er (packI ws vs).2.1 (packI ws vs).2.2 ∧ Below w.heap.size w w'

set_option maxHeartbeats 1000000 in
theorem pack_len (v : Value) (ws : List Nat) (A : Option Addr) (m c : Nat) (vs : List Int) (hm : vs.length = m) (hne : m ≠ ws.length) (hg : GoodW ws) (hm9 : m ≤ 9223372036854775807) (w : World) (hv : LayIs w v ws) :
    Calls Try.prog 10 #[v, .slice A m c] w (PackDone ws vs w) := by
  have hl := good_length hg
  have hp : packI ws vs = (0, 1, none) := by unfold packI; rw [if_pos (by omega)]
  have Hp := Lib.hid hp
  clear hp hm
  have d1 : ((m : Int) != (ws.length : Int)) = true := by simp; omega
  have fin : ∀ W', Below w.heap.size w W' → PackDone ws vs w (.returned (.tuple #[.int .u64 0, .iface 49 (.int .i64 1)])) W' := by
    intro W' hb
    refine ⟨.iface 49 (.int .i64 1), ?_, ?_, hb⟩
    · rw [Hp.out]
    · rw [Hp.out]
      exact .inr (.inl ⟨by decide, by decide, rfl, rfl⟩)
  have Fin := Lib.hid fin
  clear fin
  rcases hv with ⟨rfl, rfl⟩ | ⟨b, off, cc, rfl, h2, h3, h4, h5⟩
  · have d2 : ((m : Int) != 0) = true := by simpa using hne
    clear d1 hne
    go_enter Try.func10, Try.ntmps10
    go_wp2
    go_ret2
    exact Fin.out _ (by repeat (first | assumption | exact Below.refl _ _ | apply kept_alloc | apply kept_drew | apply kept_drewN | refine kept_trans ?_ (by assumption)))
  · clear h5
    go_enter Try.func10, Try.ntmps10
    go_wp2
    go_ret2
    exact Fin.out _ (by repeat (first | assumption | exact Below.refl _ _ | apply kept_alloc | apply kept_drew | apply kept_drewN | refine kept_trans ?_ (by assumption)))

/-- What holds of a word behind k numbers. -/
def PackMid (ws : List Nat) (vs : List Int) (k : Nat) : Prop :=
  firstBad ws vs 0 = firstBad (ws.drop k) (vs.drop k) k ∧ Fits (ws.take k) ((vs.map Int.toNat).take k)
theorem packMid_zero (ws : List Nat) (vs : List Int) : PackMid ws vs 0 := ⟨by simp, trivial⟩
theorem packMid_succ {ws : List Nat} {vs : List Int} {k : Nat} (h : PackMid ws vs k) (hw : k < ws.length) (hv : k < vs.length) (h0 : 0 ≤ vs[k]) (h1 : vs[k] ≤ ((2 ^ ws[k] - 1 : Nat) : Int)) : PackMid ws vs (k + 1) := by
  refine ⟨?_, ?_⟩
  · rw [h.1, firstBad_drop ws vs k k hw hv, if_neg (by omega)]
  · refine fits_snoc k hw (by simpa using hv) h.2 ?_
    have h2 : 0 < 2 ^ ws[k] := Nat.two_pow_pos _
    rw [List.getElem_map]
    omega
theorem packMid_bad {ws : List Nat} {vs : List Int} {k : Nat} (hl : vs.length = ws.length) (h : PackMid ws vs k) (hw : k < ws.length) (hv : k < vs.length) (hb : vs[k] < 0 ∨ ((2 ^ ws[k] - 1 : Nat) : Int) < vs[k]) : packI ws vs = (0, 5, some (k : Int)) := by
  unfold packI
  rw [if_neg (by omega), h.1, firstBad_drop ws vs k k hw hv, if_pos hb]
theorem packMid_end {ws : List Nat} {vs : List Int} {k : Nat} (hl : vs.length = ws.length) (h : PackMid ws vs k) (hk : k = ws.length) : packI ws vs = ((packTo ws (vs.map Int.toNat) k : Int), 0, none) := by
  unfold packI
  rw [if_neg (by omega), h.1]
  subst hk
  rw [firstBad_end, packTo_all (by simpa using hl)]

set_option maxHeartbeats 2000000 in
theorem pack_walk (b off c : Nat) (ws : List Nat) (B : Nat) (Off m c' : Nat) (vs : List Int) (hm : vs.length = m) (hmw : m = ws.length) (hg : GoodW ws) (h2 : ws.length ≤ c) (h3 : c ≤ 9223372036854775807) (w : World) (h4 : b < w.heap.size)
    (h5 : ∀ i (hi : i < ws.length), w.cell? ⟨b, off + i, none⟩ = some (.int .i64 (ws[i] : Int)))
    (hB : B < w.heap.size) (hr : ∀ i v, (vs.map (Value.int .i64))[i]? = some v → w.cell? ⟨B, Off + i, none⟩ = some v) (hz : ∀ z ∈ vs, (Lit.int .i64 z).wf = true) :
    Calls Try.prog 10 #[.agg #[.slice (some ⟨b, off, none⟩) ws.length c], .slice (some ⟨B, Off, none⟩) m c'] w (PackDone ws vs w) := by
  have hlen := good_length hg
  have Hv : Hid (LayIs w (.agg #[.slice (some ⟨b, off, none⟩) ws.length c]) ws) := Lib.hid (.inr ⟨b, off, c, rfl, h2, h3, h4, h5⟩)
  have d1 : ((m : Int) != (ws.length : Int)) = false := by simp; omega
  have Hm := Lib.hid hm
  have Hmw := Lib.hid hmw
  obtain ⟨n, hn⟩ : ∃ n, n = ws.length := ⟨_, rfl⟩
  have Hn := Lib.hid hn
  rw [← hn] at h2 hlen d1 ⊢
  rw [← hn] at Hv
  have hmn : m ≤ n := by omega
  have hmn2 : n ≤ m := by omega
  clear hm hn h5 hmw
  have H0 := Lib.hid (packMid_zero ws vs)
  go_enter Try.func10, Try.ntmps10
  go_wp2_with fail
  go_loopw [6, 18] (fun s i wr => ∃ (k : Nat), k ≤ m ∧ i = .int .i64 k ∧ s = .int .u64 (packTo ws (vs.map Int.toNat) k : Int) ∧ PackMid ws vs k ∧ Blk wr w.heap.size 26 #[.slice (some ⟨b, off, none⟩) n c] ∧ Below w.heap.size w wr) (fun _ i _ => m - (intOf i).toNat)
  case atStart => exact ⟨0, by omega, rfl, by simp [packTo, packN], H0.out, by repeat (first | assumption | (refine blk_newAt rfl ?_; simp; done) | refine blk_alloc ?_ _ | refine blk_drew ?_ | refine blk_drewN ?_ _), by repeat (first | assumption | exact Below.refl _ _ | apply kept_alloc | apply kept_drew | apply kept_drewN | refine kept_trans ?_ (by assumption))⟩
  case round =>
    obtain ⟨k, hk, rfl, rfl, hmid, hblk, hbr⟩ := hrel
    have Hmid := Lib.hid hmid
    clear hmid H0
    obtain ⟨q1, q2, q3⟩ := blk_facts hblk
    by_cases hlt : k < m
    · have hkv : k < vs.length := by rw [Hm.out]; exact hlt
      have hkw : k < ws.length := by rw [← Hn.out]; omega
      obtain ⟨z, hzk⟩ : ∃ z, z = vs[k] := ⟨_, rfl⟩
      have hcell0 : w.cell? ⟨B, Off + k, none⟩ = some (.int .i64 z) := hr k _ (by rw [List.getElem?_map, List.getElem?_eq_getElem hkv, hzk]; rfl)
      have hcell : wr.cell? ⟨B, Off + k, none⟩ = some (.int .i64 z) := (hbr.cell (p := ⟨B, Off + k, none⟩) hB).trans hcell0
      have hzb := bounds_i64 (hz z (by rw [hzk]; exact List.getElem_mem hkv))
      obtain ⟨hz0, hz1⟩ := hzb
      have Hzk := Lib.hid hzk
      clear hr hz hzk hcell0
      have fin : ∀ W' g, Below w.heap.size w W' → (z < 0 ∨ ((2 ^ ws[k] - 1 : Nat) : Int) < z) → Blk W' g 56 #[.int .i64 k, .iface 49 (.int .i64 5)] → PackDone ws vs w (.returned (.tuple #[.int .u64 0, .iface 54 (.pointer (some ⟨g, 0, none⟩))])) W' := by
        intro W' g hb hbad hg'
        have hp := packMid_bad (by rw [Hm.out, Hmw.out]) Hmid.out hkw hkv (by rw [← Hzk.out]; exact hbad)
        refine ⟨.iface 54 (.pointer (some ⟨g, 0, none⟩)), ?_, ?_, hb⟩
        · rw [hp]
        · rw [hp]
          exact .inr (.inr ⟨(by simp), (by simp), k, g, rfl, rfl, hg'⟩)
      have Fin := Lib.hid fin
      clear fin
      by_cases c1 : z < 0
      · go_wp2_with fail
        refine (at_code _ _ _).mono ?_
        rintro e w1 ⟨rfl, rfl⟩
        go_wp2_with fail
        go_ret2
        exact Fin.out _ _ (by repeat (first | assumption | exact Below.refl _ _ | apply kept_alloc | apply kept_drew | apply kept_drewN | refine kept_trans ?_ (by assumption))) (.inl c1) (by repeat (first | assumption | (refine blk_newAt rfl ?_; simp; done) | refine blk_alloc ?_ _ | refine blk_drew ?_ | refine blk_drewN ?_ _))
      · have d0 : decide (z < 0) = false := by simpa using c1
        obtain ⟨Z, rfl⟩ := Int.eq_ofNat_of_zero_le (by omega : 0 ≤ z)
        have hmost : mostN ws (k : Int) = 2 ^ ws[k] - 1 := by rw [mostN_in hkw, List.getD_eq_getElem?_getD, List.getElem?_eq_getElem hkw]; rfl
        obtain ⟨M, hM⟩ : ∃ M, M = mostN ws (k : Int) := ⟨_, rfl⟩
        have HM := Lib.hid hM
        have HM2 : Hid (M = 2 ^ ws[k] - 1) := Lib.hid (hM.trans hmost)
        clear hmost hM c1
        by_cases c2 : (M : Int) < (Z : Int)
        · go_wp2_with fail
          refine (most_any _ ws _ hg _ (lay_kept Hv.out hbr)).mono ?_
          rintro e w1 ⟨rfl, hb1⟩
          rw [← HM.out]
          obtain ⟨fchb1, ffhb1, fzhb1⟩ := far hb1; try simp only [World.size_alloc, World.size_setCell, World.size_drew, World.heap_drewN] at fzhb1
          go_wp2_with fail
          refine (at_code _ _ _).mono ?_
          rintro e w2 ⟨rfl, rfl⟩
          go_wp2_with fail
          go_ret2
          exact Fin.out _ _ (by repeat (first | assumption | exact Below.refl _ _ | apply kept_alloc | apply kept_drew | apply kept_drewN | refine kept_trans ?_ (by assumption))) (.inr (by rw [← HM2.out]; exact c2)) (by repeat (first | assumption | (refine blk_newAt rfl ?_; simp; done) | refine blk_alloc ?_ _ | refine blk_drew ?_ | refine blk_drewN ?_ _))
        · have d2 : decide ((M : Int) < (Z : Int)) = false := by simpa using c2
          have c2' : Z ≤ M := by omega
          clear c2
          have hstep : PackMid ws vs (k + 1) := packMid_succ Hmid.out hkw hkv (by rw [← Hzk.out]; omega) (by rw [← Hzk.out, ← HM2.out]; omega)
          have hval : bits BinOp.or IntKind.u64 (packTo ws (vs.map Int.toNat) k : Int) (IntKind.u64.wrap ((Z : Int) * 2 ^ min (lowN ws k) 64)) = (packTo ws (vs.map Int.toNat) (k + 1) : Int) := by
            have hp1 := packTo_lt k Hmid.out.2
            have hp2 : 2 ^ lowN ws k ≤ 2 ^ 64 := pow_le _ _ (good_low hg k)
            rw [or_val _ _ _ (good_low hg k) hp1 (part_lt hg k Z hkw (by rw [← HM2.out]; exact c2')) (by omega), packTo_succ ws (vs.map Int.toNat) k hkw (by simpa using hkv)]
            rw [List.getElem_map, ← Hzk.out, Int.toNat_natCast]
          obtain ⟨P, hP⟩ : ∃ P, P = packTo ws (vs.map Int.toNat) k := ⟨_, rfl⟩
          rw [← hP] at hval ⊢
          have Hval := Lib.hid hval
          have Hstep := Lib.hid hstep
          clear hval hstep hP
          go_wp2_with fail
          refine (most_any _ ws _ hg _ (lay_kept Hv.out hbr)).mono ?_
          rintro e w1 ⟨rfl, hb1⟩
          rw [← HM.out]
          obtain ⟨fchb1, ffhb1, fzhb1⟩ := far hb1; try simp only [World.size_alloc, World.size_setCell, World.size_drew, World.heap_drewN] at fzhb1
          go_wp2_with fail
          refine (low_any _ ws _ (by omega) (by rw [← Hn.out]; omega) hg _ (lay_kept Hv.out (by repeat (first | assumption | exact Below.refl _ _ | apply kept_alloc | apply kept_drew | apply kept_drewN | refine kept_trans ?_ (by assumption))))).mono ?_
          rintro e w2 ⟨rfl, hb2⟩
          rw [Int.toNat_natCast]
          obtain ⟨fchb2, ffhb2, fzhb2⟩ := far hb2; try simp only [World.size_alloc, World.size_setCell, World.size_drew, World.heap_drewN] at fzhb2
          go_wp2_with fail
          go_roundw
          case rel => exact ⟨k + 1, by omega, by go_num, by rw [Hval.out], Hstep.out, by repeat (first | assumption | (refine blk_newAt rfl ?_; simp; done) | refine blk_alloc ?_ _ | refine blk_drew ?_ | refine blk_drewN ?_ _); exact blk_kept (blk_kept hblk hb1) hb2, by repeat (first | assumption | exact Below.refl _ _ | apply kept_alloc | apply kept_drew | apply kept_drewN | refine kept_trans ?_ (by assumption))⟩
          case measure => simp [intOf]; omega
    · obtain rfl : k = m := by omega
      have hp := packMid_end (by rw [Hm.out, Hmw.out]) Hmid.out Hmw.out
      have fin : ∀ W', Below w.heap.size w W' → PackDone ws vs w (.returned (.tuple #[.int .u64 (packTo ws (vs.map Int.toNat) k : Int), .nilIface])) W' := by
        intro W' hb
        refine ⟨.nilIface, ?_, ?_, hb⟩
        · rw [hp]
        · rw [hp]
          exact .inl ⟨rfl, rfl, rfl⟩
      have Fin := Lib.hid fin
      clear fin hp hr hz
      go_wp2_with fail
      go_ret2
      exact Fin.out _ (by repeat (first | assumption | exact Below.refl _ _ | apply kept_alloc | apply kept_drew | apply kept_drewN | refine kept_trans ?_ (by assumption)))

theorem pack_empty (A : Option Addr) (c : Nat) (v : Value) (hg : GoodW []) (w : World) (hv : LayIs w v []) :
    Calls Try.prog 10 #[v, .slice A 0 c] w (PackDone [] [] w) := by
  have fin : ∀ W', Below w.heap.size w W' → PackDone [] [] w (.returned (.tuple #[.int .u64 0, .nilIface])) W' := fun W' hb => ⟨.nilIface, rfl, .inl ⟨rfl, rfl, rfl⟩, hb⟩
  have Fin := Lib.hid fin
  clear fin
  have hn : ∃ A' c', v = .agg #[.slice A' 0 c'] := by
    rcases hv with ⟨rfl, _⟩ | ⟨b, off, cc, rfl, _⟩
    · exact ⟨_, _, rfl⟩
    · exact ⟨_, _, rfl⟩
  obtain ⟨A', c', rfl⟩ := hn
  go_enter Try.func10, Try.ntmps10
  go_wp2_with fail
  go_loop [6, 18] (fun s i => i = .int .i64 0 ∧ s = .int .u64 0) (fun _ i => 0)
  case atStart => exact ⟨rfl, rfl⟩
  case round =>
    obtain ⟨rfl, rfl⟩ := hrel
    go_wp2_with fail
    go_ret2
    exact Fin.out _ (by repeat (first | assumption | exact Below.refl _ _ | apply kept_alloc | apply kept_drew | apply kept_drewN | refine kept_trans ?_ (by assumption)))

/-- Pack, over whatever numbers. -/
theorem pack_any (v : Value) (ws : List Nat) (A : Option Addr) (m c : Nat) (vs : List Int) (hm : vs.length = m) (hg : GoodW ws) (hm9 : m ≤ 9223372036854775807) (hz : ∀ z ∈ vs, (Lit.int .i64 z).wf = true) (w : World) (hv : LayIs w v ws) (hr : Row w A (vs.map (Value.int .i64))) :
    Calls Try.prog 10 #[v, .slice A m c] w (PackDone ws vs w) := by
  by_cases hne : m = ws.length
  · by_cases h0 : vs = []
    · subst h0
      have hm0 : m = 0 := by rw [← hm]; rfl
      subst hm0
      have hw0 : ws = [] := List.eq_nil_of_length_eq_zero hne.symm
      subst hw0
      exact pack_empty A c v hg w hv
    · rcases hr with h | ⟨B, Off, rfl, hc⟩
      · exact absurd (by simpa using h) h0
      · have hB : B < w.heap.size := by
          obtain ⟨x, r, rfl⟩ := List.exists_cons_of_ne_nil h0
          exact World.block_lt_of_cell? w _ (hc 0 (.int .i64 x) rfl)
        rcases hv with ⟨rfl, rfl⟩ | ⟨b, off, cc, rfl, h2, h3, h4, h5⟩
        · exact absurd (List.eq_nil_of_length_eq_zero (hm.trans hne)) h0
        · exact pack_walk b off cc ws B Off m c vs hm hne hg h2 h3 w h4 h5 hB hc hz
  · exact pack_len v ws A m c vs hm hne hg hm9 w hv
end Go.Proofs.Ytnbnjkbkjmlomaa
