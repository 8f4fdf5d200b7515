/-
  The law FieldBack walks to true.
-/
import Derived.Test.YtnbnjkbkjmlomaaAll
namespace Go.Proofs.Ytnbnjkbkjmlomaa
open Go.RowKit
set_option linter.unusedSimpArgs false
set_option linter.unusedVariables false

theorem firstBad_fits : ∀ {ws ns : List Nat} (k : Nat), Fits ws ns → firstBad ws (ns.map fun (x : Nat) => (x : Int)) k = none
  | [], [], _, _ => rfl
  | w :: ws, v :: ns, k, h => by
    have h1 := h.1
    simp only [List.map_cons, firstBad]
    rw [if_neg (by omega)]
    exact firstBad_fits (k + 1) h.2
theorem toNat_cast (ns : List Nat) : (ns.map fun (x : Nat) => (x : Int)).map Int.toNat = ns := by
  rw [List.map_map]
  conv => rhs; rw [← List.map_id ns]
  apply List.map_congr_left
  intro a _
  simp
theorem packI_fits {ws ns : List Nat} (h : Fits ws ns) : packI ws (ns.map fun (x : Nat) => (x : Int)) = ((packN ws ns : Int), 0, none) := by
  unfold packI
  rw [if_neg (by simp [fits_length h]), firstBad_fits 0 h]
  simp only [toNat_cast]
theorem err_nil {w : World} {er : Value} {p : Option Int} (h : ErrIs w er 0 p) : er = .nilIface := by
  rcases h with ⟨_, _, h⟩ | ⟨h, _⟩ | ⟨h, _⟩
  · exact h
  · omega
  · omega
theorem nums_map (ns : List Nat) : nums ns = (ns.map fun (x : Nat) => (x : Int)).map (Value.int .i64) := by simp [nums]
theorem fields_wf {ws : List Nat} (hg : GoodW ws) (x : Nat) : ∀ z ∈ (fieldsN ws x).map (fun (x : Nat) => (x : Int)), (Lit.int .i64 z).wf = true := by
  intro z hz
  obtain ⟨n, hn, rfl⟩ := List.mem_map.1 hz
  obtain ⟨i, hi, rfl⟩ := List.mem_iff_getElem.1 hn
  rw [fieldsN_length] at hi
  rw [← getN_fields ws x i hi]
  have h2 := getD_le hg i
  have h3 : 2 ^ ws.getD i 0 ≤ 2 ^ 32 := pow_le _ 32 h2
  have h4 : getN ws x i < 2 ^ ws.getD i 0 := Nat.mod_lt _ (Nat.two_pow_pos _)
  exact WalkArith.wf_i64 (by omega)
theorem mod_sound (x s : Nat) : (((x % 2 ^ s : Nat) : Int) == (x : Int)) = decide (x < 2 ^ s) := by
  have h : 0 < 2 ^ s := Nat.two_pow_pos _
  rw [Bool.eq_iff_iff]
  simp only [beq_iff_eq, decide_eq_true_eq]
  constructor
  · intro he
    have := Nat.mod_lt x h
    omega
  · intro hl
    rw [Nat.mod_eq_of_lt hl]

theorem light_more (A : Option Addr) (n c : Nat) (h : 70 < n) (h2 : n ≤ 140737488355328) (w : World) : Calls Try.prog 7 #[.slice A n c] w fun e w' => e = .returned (.bool false) ∧ w = w' := by
  go_enter Try.func7, Try.ntmps7
  go_wp2
  go_ret
  exact ⟨by simp; omega, rfl⟩
theorem light_less (A : Option Addr) (n c : Nat) (h : n ≤ 70) (w : World) : Calls Try.prog 7 #[.slice A n c] w fun e w' => e = .returned (.bool true) ∧ w = w' := by
  go_enter Try.func7, Try.ntmps7
  go_wp2
  go_ret
  exact ⟨by simp; omega, rfl⟩

theorem back_more (A : Option Addr) (n c : Nat) (x : Nat) (h : 70 < n) (h2 : n ≤ 140737488355328) (w : World) :
    Calls Try.prog 4 #[.slice A n c, .int .u64 (x : Int)] w (Gives w (.bool true)) := by
  go_enter Try.func4, Try.ntmps4
  go_wp2_with fail
  refine (light_more A n c h h2 _).mono ?_
  rintro e w1 ⟨rfl, rfl⟩
  go_wp2_with fail
  refine (field_awake _).mono ?_
  rintro e w1 ⟨rfl, hb1⟩
  go_wp2
  go_ret
  exact ⟨rfl, by repeat (first | assumption | exact Below.refl _ _ | apply kept_alloc | apply kept_drew | apply kept_drewN | refine kept_trans ?_ (by assumption))⟩

set_option maxHeartbeats 2000000 in
theorem back_walk (A : Option Addr) (n c : Nat) (x : Nat) (hx : x < 18446744073709551616) (zs : List Int) (hl : zs.length = n) (hn : n ≤ 70) (hz : ∀ z ∈ zs, (Lit.int .i64 z).wf = true) (w : World)
    (hr : Row w A (zs.map (Value.int .i64))) :
    Calls Try.prog 4 #[.slice A n c, .int .u64 (x : Int)] w (Gives w (.bool true)) := by
  have H1 := Lib.hid (fun W h => new_any A n c zs hl (by omega) hz W h)
  have Hr := Lib.hid hr
  clear hl hz hr
  go_enter Try.func4, Try.ntmps4
  go_wp2_with fail
  refine (light_less A n c hn _).mono ?_
  rintro e w1 ⟨rfl, rfl⟩
  go_wp2_with fail
  refine (H1.out _ Hr.out).mono ?_
  rintro e w1 ⟨hb1, h⟩
  rcases h with ⟨lay, ws, hbad, hws, hg, rfl, hlay⟩ | ⟨code, i, er, hbad, h1, h9, rfl, herr⟩
  · obtain ⟨A1, c1, hform⟩ := lay_form hlay
    have Hlay := Lib.hid hlay
    have Hg := Lib.hid hg
    have hlen := good_length hg
    have hfit := fieldsN_fits ws x
    have hpk := packI_fits hfit
    rw [pack_fields] at hpk
    have hms := mod_sound x ws.sum
    have Hpk := Lib.hid hpk
    have hlt : x % 2 ^ ws.sum < 18446744073709551616 := Nat.lt_of_le_of_lt (Nat.mod_le _ _) hx
    have hsound2 : soundB ws (x % 2 ^ ws.sum) = true := by
      unfold soundB
      exact decide_eq_true (Nat.mod_lt _ (Nat.two_pow_pos _))
    obtain ⟨y, hy⟩ : ∃ y, y = x % 2 ^ ws.sum := ⟨_, rfl⟩
    rw [← hy] at Hpk hms hlt hsound2
    have hms2 : ((y : Int) == (x : Int)) = soundB ws x := hms
    obtain ⟨r, hr0⟩ : ∃ r, r = soundB ws x := ⟨_, rfl⟩
    rw [← hr0] at hms2
    have Hr0 := Lib.hid hr0
    have Hs2 := Lib.hid hsound2
    clear hws hbad hlay hg hfit hpk hms hy hr0 hsound2
    subst hform
    go_wp2_with fail
    go_region_with (first
      | (go_at_call 12
         refine (all_any _ ws x Hg.out hx _ ?_).mono ?_
         (exact lay_kept Hlay.out (by repeat (first | assumption | exact Below.refl _ _ | apply kept_alloc | apply kept_drew | apply kept_drewN | refine kept_trans ?_ (by assumption))))
         rintro e w2 ⟨A2, c2, rfl, hown2, hb2⟩
         (obtain ⟨fchb2, ffhb2, fzhb2⟩ := far hb2; try simp only [World.size_alloc, World.size_setCell, World.size_drew, World.heap_drewN] at fzhb2))
      | (go_at_call 10
         refine (pack_any _ ws _ _ _ ((fieldsN ws x).map fun (x : Nat) => (x : Int)) (by simp [fieldsN_length]) Hg.out (by omega) (fields_wf Hg.out x) _ ?_ ?_).mono ?_
         (exact lay_kept Hlay.out (by repeat (first | assumption | exact Below.refl _ _ | apply kept_alloc | apply kept_drew | apply kept_drewN | refine kept_trans ?_ (by assumption))))
         (rw [← nums_map]; exact row_kept (row_of_own hown2) (by repeat (first | assumption | exact Below.refl _ _ | apply kept_alloc | apply kept_drew | apply kept_drewN | refine kept_trans ?_ (by assumption))))
         rintro e w3 ⟨er, rfl, her, hb3⟩
         rw [Hpk.out] at her ⊢
         (have her' := err_nil her; subst her')
         clear her
         (obtain ⟨fchb3, ffhb3, fzhb3⟩ := far hb3; try simp only [World.size_alloc, World.size_setCell, World.size_drew, World.heap_drewN] at fzhb3)))
    all_goals (
      go_wp2_with fail
      refine (field_awake _).mono ?_
      rintro e w4 ⟨rfl, hb4⟩
      obtain ⟨fchb4, ffhb4, fzhb4⟩ := far hb4; try simp only [World.size_alloc, World.size_setCell, World.size_drew, World.heap_drewN] at fzhb4
      go_wp2_with fail
      refine (sound_any _ ws x Hg.out hx _ (lay_kept Hlay.out (by repeat (first | assumption | exact Below.refl _ _ | apply kept_alloc | apply kept_drew | apply kept_drewN | refine kept_trans ?_ (by assumption))))).mono ?_
      rintro e w5 ⟨rfl, hb5⟩
      rw [← Hr0.out]
      obtain ⟨fchb5, ffhb5, fzhb5⟩ := far hb5; try simp only [World.size_alloc, World.size_setCell, World.size_drew, World.heap_drewN] at fzhb5
      go_wp2_with fail
      refine (sound_any _ ws y Hg.out hlt _ (lay_kept Hlay.out (by repeat (first | assumption | exact Below.refl _ _ | apply kept_alloc | apply kept_drew | apply kept_drewN | refine kept_trans ?_ (by assumption))))).mono ?_
      rintro e w6 ⟨rfl, hb6⟩
      rw [Hs2.out]
      go_wp2_with fail
      go_ret
      exact ⟨rfl, by repeat (first | assumption | exact Below.refl _ _ | apply kept_alloc | apply kept_drew | apply kept_drewN | refine kept_trans ?_ (by assumption))⟩)
  · have hes : ∃ t u, er = .iface t u := err_iface herr h1
    obtain ⟨t, u, rfl⟩ := hes
    clear herr hbad
    go_wp2_with fail
    refine (field_awake _).mono ?_
    rintro e w2 ⟨rfl, hb2⟩
    go_wp2_with fail
    go_ret
    exact ⟨rfl, by repeat (first | assumption | exact Below.refl _ _ | apply kept_alloc | apply kept_drew | apply kept_drewN | refine kept_trans ?_ (by assumption))⟩
end Go.Proofs.Ytnbnjkbkjmlomaa
