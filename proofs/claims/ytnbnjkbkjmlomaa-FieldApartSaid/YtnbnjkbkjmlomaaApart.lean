/-
  The law FieldApart walks to true.
-/
import Derived.Test.YtnbnjkbkjmlomaaBack
namespace Go.Proofs.Ytnbnjkbkjmlomaa
open Go.RowKit
set_option linter.unusedSimpArgs false
set_option linter.unusedVariables false

theorem firstBad_none : ∀ {ws : List Nat} {vs : List Int} (k : Nat), vs.length = ws.length → firstBad ws vs k = none → ∃ ns : List Nat, vs = ns.map (fun (x : Nat) => (x : Int)) ∧ Fits ws ns
  | [], [], _, _, _ => ⟨[], rfl, trivial⟩
  | w :: ws, v :: vs, k, hl, h => by
    simp only [firstBad] at h
    by_cases c : v < 0 ∨ ((2 ^ w - 1 : Nat) : Int) < v
    · rw [if_pos c] at h
      cases h
    · rw [if_neg c] at h
      obtain ⟨ns, e, hf⟩ := firstBad_none (k + 1) (by simpa using hl) h
      have h2 : 0 < 2 ^ w := Nat.two_pow_pos _
      exact ⟨v.toNat :: ns, by rw [List.map_cons, ← e, Int.toNat_of_nonneg (by omega)], by omega, hf⟩
theorem packI_cases (ws : List Nat) (vs : List Int) : (∃ ns : List Nat, vs = ns.map (fun (x : Nat) => (x : Int)) ∧ Fits ws ns ∧ packI ws vs = ((packN ws ns : Int), 0, none)) ∨ (1 ≤ (packI ws vs).2.1 ∧ (packI ws vs).2.1 ≤ 29) := by
  by_cases hl : vs.length = ws.length
  · cases hb : firstBad ws vs 0 with
    | none =>
      obtain ⟨ns, rfl, hf⟩ := firstBad_none 0 hl hb
      exact .inl ⟨ns, rfl, hf, packI_fits hf⟩
    | some i =>
      refine .inr ?_
      unfold packI
      rw [if_neg (by omega), hb]
      simp
  · refine .inr ?_
    unfold packI
    rw [if_pos hl]
    simp

theorem apart_more (A B C : Option Addr) (n m k c d f : Nat) (h : 70 < n ∨ 70 < m ∨ 70 < k) (hn : n ≤ 140737488355328) (hm : m ≤ 140737488355328) (hk : k ≤ 140737488355328) (w : World) :
    Calls Try.prog 3 #[.slice A n c, .slice B m d, .slice C k f] w (Gives w (.bool true)) := by
  by_cases h1 : 70 < n
  · clear h
    go_enter Try.func3, Try.ntmps3
    go_wp2_with fail
    refine (light_more A n c h1 hn _).mono ?_
    rintro e w1 ⟨rfl, rfl⟩
    go_wp2_with fail
    refine (field_awake _).mono ?_
    rintro e w1 ⟨rfl, hb1⟩
    go_wp2
    go_ret
    exact ⟨rfl, by repeat (first | assumption | exact Below.refl _ _ | apply kept_alloc | apply kept_drew | apply kept_drewN | refine kept_trans ?_ (by assumption))⟩
  · by_cases h2 : 70 < m
    · clear h
      go_enter Try.func3, Try.ntmps3
      go_wp2_with fail
      refine (light_less A n c (by omega) _).mono ?_
      rintro e w1 ⟨rfl, rfl⟩
      go_wp2_with fail
      refine (field_awake _).mono ?_
      rintro e w1 ⟨rfl, hb1⟩
      go_wp2
      go_ret
      exact ⟨rfl, by repeat (first | assumption | exact Below.refl _ _ | apply kept_alloc | apply kept_drew | apply kept_drewN | refine kept_trans ?_ (by assumption))⟩
    · have h3 : 70 < k := by omega
      have d2 : decide ((70 : Int) < (m : Int)) = false := by simp; omega
      clear h
      go_enter Try.func3, Try.ntmps3
      go_wp2_with fail
      refine (light_less A n c (by omega) _).mono ?_
      rintro e w1 ⟨rfl, rfl⟩
      go_wp2_with fail
      refine (field_awake _).mono ?_
      rintro e w1 ⟨rfl, hb1⟩
      go_wp2
      go_ret
      exact ⟨rfl, by repeat (first | assumption | exact Below.refl _ _ | apply kept_alloc | apply kept_drew | apply kept_drewN | refine kept_trans ?_ (by assumption))⟩

theorem take_same {na nb : List Nat} {k : Nat} (ha : k < na.length) (hb : k < nb.length) : (na.take (k + 1) = nb.take (k + 1)) ↔ (na.take k = nb.take k ∧ na[k] = nb[k]) := by
  rw [List.take_succ_eq_append_getElem ha, List.take_succ_eq_append_getElem hb]
  constructor
  · intro h
    have h1 := List.append_inj h (by rw [List.length_take, List.length_take]; omega)
    exact ⟨h1.1, by simpa using h1.2⟩
  · rintro ⟨h1, h2⟩
    rw [h1, h2]
theorem cast_beq (x y : Nat) : (((x : Nat) : Int) == (y : Int)) = decide (x = y) := by
  rw [Bool.eq_iff_iff]
  simp only [beq_iff_eq, decide_eq_true_eq]
  omega

set_option maxHeartbeats 4000000 in
theorem apart_walk (A B C : Option Addr) (n m l c d f : Nat) (zs xs ys : List Int) (hl : zs.length = n) (hn : n ≤ 70) (hz : ∀ z ∈ zs, (Lit.int .i64 z).wf = true)
    (hlx : xs.length = m) (hm : m ≤ 70) (hx : ∀ z ∈ xs, (Lit.int .i64 z).wf = true) (hly : ys.length = l) (hl70 : l ≤ 70) (hy : ∀ z ∈ ys, (Lit.int .i64 z).wf = true) (w : World)
    (hr : Row w A (zs.map (Value.int .i64))) (hrx : Row w B (xs.map (Value.int .i64))) (hry : Row w C (ys.map (Value.int .i64))) :
    Calls Try.prog 3 #[.slice A n c, .slice B m d, .slice C l f] w (Gives w (.bool true)) := by
  have H1 := Lib.hid (fun W h => new_any A n c zs hl (by omega) hz W h)
  have HX := Lib.hid (fun W v ws hg hv h => pack_any v ws B m d xs hlx hg (by omega) hx W hv h)
  have HY := Lib.hid (fun W v ws hg hv h => pack_any v ws C l f ys hly hg (by omega) hy W hv h)
  have Hr := Lib.hid hr
  have Hrx := Lib.hid hrx
  have Hry := Lib.hid hry
  have Hlx := Lib.hid hlx
  have Hly := Lib.hid hly
  have d1 : decide ((70 : Int) < (m : Int)) = false := by simp; omega
  have d2 : decide ((70 : Int) < (l : Int)) = false := by simp; omega
  clear hl hz hr hlx hx hly hy hrx hry
  go_enter Try.func3, Try.ntmps3
  go_wp2_with fail
  refine (light_less A n c hn _).mono ?_
  rintro e w1 ⟨rfl, rfl⟩
  go_wp2_with fail
  refine (H1.out _ Hr.out).mono ?_
  rintro e w1 ⟨hb1, h⟩
  rcases h with ⟨lay, ws, hbad, hws, hg, rfl, hlay⟩ | ⟨code, i, er, hbad, h1, h9, rfl, herr⟩
  · obtain ⟨A1, c1, hform⟩ := lay_form hlay
    have Hlay := Lib.hid hlay
    have Hg := Lib.hid hg
    have hlen := good_length hg
    have Hpx := Lib.hid (packI_cases ws xs)
    have Hpy := Lib.hid (packI_cases ws ys)
    clear hws hbad hlay hg
    subst hform
    go_wp2_with fail
    refine (HX.out _ _ ws Hg.out (lay_kept Hlay.out (by repeat (first | assumption | exact Below.refl _ _ | apply kept_alloc | apply kept_drew | apply kept_drewN | refine kept_trans ?_ (by assumption)))) (row_kept Hrx.out (by repeat (first | assumption | exact Below.refl _ _ | apply kept_alloc | apply kept_drew | apply kept_drewN | refine kept_trans ?_ (by assumption))))).mono ?_
    rintro e w2 ⟨ex, rfl, hex, hb2⟩
    obtain ⟨fchb2, ffhb2, fzhb2⟩ := far hb2; try simp only [World.size_alloc, World.size_setCell, World.size_drew, World.heap_drewN] at fzhb2
    go_wp2_with fail
    refine (HY.out _ _ ws Hg.out (lay_kept Hlay.out (by repeat (first | assumption | exact Below.refl _ _ | apply kept_alloc | apply kept_drew | apply kept_drewN | refine kept_trans ?_ (by assumption)))) (row_kept Hry.out (by repeat (first | assumption | exact Below.refl _ _ | apply kept_alloc | apply kept_drew | apply kept_drewN | refine kept_trans ?_ (by assumption))))).mono ?_
    rintro e w3 ⟨ey, rfl, hey, hb3⟩
    obtain ⟨fchb3, ffhb3, fzhb3⟩ := far hb3; try simp only [World.size_alloc, World.size_setCell, World.size_drew, World.heap_drewN] at fzhb3
    rcases Hpx.out with ⟨na, rfl, hfa, hpa⟩ | ⟨hxe, hxe9⟩
    · rw [hpa] at hex ⊢
      have hex' := err_nil hex
      subst hex'
      clear hex hpa
      rcases Hpy.out with ⟨nb, rfl, hfb, hpb⟩ | ⟨hye, hye9⟩
      · rw [hpb] at hey ⊢
        have hey' := err_nil hey
        subst hey'
        clear hey hpb
        have hla : na.length = m := by rw [← Hlx.out]; simp
        have hlb : nb.length = l := by rw [← Hly.out]; simp
        have hml : m = l := by rw [← hla, ← hlb, fits_length hfa, fits_length hfb]
        have Hla := Lib.hid hla
        have Hlb := Lib.hid hlb
        have hrx3 := row_kept Hrx.out (kept_trans hb1 (kept_trans (kept_alloc (Below.refl _ _) _) (kept_trans hb2 hb3)))
        have hry3 := row_kept Hry.out (kept_trans hb1 (kept_trans (kept_alloc (Below.refl _ _) _) (kept_trans hb2 hb3)))
        have Hrx3 := Lib.hid hrx3
        have Hry3 := Lib.hid hry3
        have Hfa := Lib.hid hfa
        have Hfb := Lib.hid hfb
        obtain rfl : m = l := hml
        clear hla hlb hrx3 hry3 hfa hfb
        go_wp2_with fail
        go_loopw [13, 59] (fun s i wr => ∃ (k q : Nat) (sm : Bool), k ≤ m ∧ i = .int .i64 k ∧ s = .bool sm ∧ sm = decide (na.take k = nb.take k) ∧ wr = w3.drewN q) (fun _ i _ => m - (intOf i).toNat)
        case atStart => exact ⟨0, 0, true, by omega, rfl, rfl, by simp, rfl⟩
        case round =>
          obtain ⟨k, q, sm, hk, rfl, rfl, hsm, rfl⟩ := hrel
          by_cases hlt : k < m
          · have hka : k < na.length := by rw [Hla.out]; exact hlt
            have hkb : k < nb.length := by rw [Hlb.out]; exact hlt
            have hts := take_same hka hkb
            have hcb := cast_beq na[k] nb[k]
            obtain ⟨b2, o2, hB, hb2s, hcx⟩ := row_get Hrx3.out (i := k) (v := .int .i64 (na[k] : Int)) (by rw [← nums_map]; exact nums_get na k hka)
            obtain ⟨b3, o3, hC, hb3s, hcy⟩ := row_get Hry3.out (i := k) (v := .int .i64 (nb[k] : Int)) (by rw [← nums_map]; exact nums_get nb k hkb)
            obtain ⟨x, hx⟩ : ∃ x, x = na[k] := ⟨_, rfl⟩
            obtain ⟨y, hy⟩ : ∃ y, y = nb[k] := ⟨_, rfl⟩
            rw [← hx] at hts hcb hcx
            rw [← hy] at hts hcb hcy
            have Hts := Lib.hid hts
            have Hcb := Lib.hid hcb
            clear hts hcb hx hy
            subst hB hC
            cases sm with
            | true =>
              have hP : na.take k = nb.take k := by simpa using hsm.symm
              have HP := Lib.hid hP
              clear hsm hP
              go_wp2_with fail
              go_quiet (fail)
              go_wp2_with fail
              go_roundw
              case rel => exact ⟨k + 1, _, _, by omega, by go_num, rfl, by rw [Hcb.out]; exact decide_eq_decide.2 (by rw [Hts.out]; simp [HP.out]), rfl⟩
              case measure => simp [intOf]; omega
            | false =>
              have hP : ¬ na.take k = nb.take k := by simpa using hsm.symm
              have HP := Lib.hid hP
              clear hsm hP
              go_wp2_with fail
              go_quiet (fail)
              go_wp2_with fail
              go_roundw
              case rel => exact ⟨k + 1, _, false, by omega, by go_num, rfl, by rw [eq_comm, decide_eq_false_iff_not, Hts.out]; exact fun h => HP.out h.1, rfl⟩
              case measure => simp [intOf]; omega
          · obtain rfl : k = m := by omega
            have hsame : ((packN ws na : Int) == (packN ws nb : Int)) = sm := by
              rw [cast_beq, hsm, List.take_of_length_le (by rw [Hla.out]; omega), List.take_of_length_le (by rw [Hlb.out]; omega)]
              exact decide_eq_decide.2 ⟨fun h => pack_inj Hfa.out Hfb.out h, fun h => by rw [h]⟩
            have hla2 : packN ws na < 18446744073709551616 := Nat.lt_of_lt_of_le (pack_lt Hfa.out) (pow_le _ 64 Hg.out.2)
            have hlb2 : packN ws nb < 18446744073709551616 := Nat.lt_of_lt_of_le (pack_lt Hfb.out) (pow_le _ 64 Hg.out.2)
            have hsa : soundB ws (packN ws na) = true := decide_eq_true (pack_lt Hfa.out)
            have hsb : soundB ws (packN ws nb) = true := decide_eq_true (pack_lt Hfb.out)
            obtain ⟨x, hx⟩ : ∃ x, x = packN ws na := ⟨_, rfl⟩
            obtain ⟨y, hy⟩ : ∃ y, y = packN ws nb := ⟨_, rfl⟩
            rw [← hx] at hsame hla2 hsa ⊢
            rw [← hy] at hsame hlb2 hsb ⊢
            have Hsa := Lib.hid hsa
            have Hsb := Lib.hid hsb
            clear hsm hsa hsb hx hy
            go_wp2_with fail
            refine (field_awake _).mono ?_
            rintro e w4 ⟨rfl, hb4⟩
            obtain ⟨fchb4, ffhb4, fzhb4⟩ := far hb4; try simp only [World.size_alloc, World.size_setCell, World.size_drew, World.heap_drewN] at fzhb4
            go_wp2_with fail
            refine (sound_any _ ws x Hg.out hla2 _ (lay_kept Hlay.out (by repeat (first | assumption | exact Below.refl _ _ | apply kept_alloc | apply kept_drew | apply kept_drewN | refine kept_trans ?_ (by assumption))))).mono ?_
            rintro e w5 ⟨rfl, hb5⟩
            rw [Hsa.out]
            obtain ⟨fchb5, ffhb5, fzhb5⟩ := far hb5; try simp only [World.size_alloc, World.size_setCell, World.size_drew, World.heap_drewN] at fzhb5
            go_wp2_with fail
            refine (sound_any _ ws y Hg.out hlb2 _ (lay_kept Hlay.out (by repeat (first | assumption | exact Below.refl _ _ | apply kept_alloc | apply kept_drew | apply kept_drewN | refine kept_trans ?_ (by assumption))))).mono ?_
            rintro e w6 ⟨rfl, hb6⟩
            rw [Hsb.out]
            go_wp2_with fail
            go_ret
            exact ⟨rfl, by repeat (first | assumption | exact Below.refl _ _ | apply kept_alloc | apply kept_drew | apply kept_drewN | refine kept_trans ?_ (by assumption))⟩
      · obtain ⟨t, u, rfl⟩ := err_iface hey hye
        clear hey hye hye9 hfa
        go_wp2_with fail
        refine (field_awake _).mono ?_
        rintro e w4 ⟨rfl, hb4⟩
        go_wp2_with fail
        go_ret
        exact ⟨rfl, by repeat (first | assumption | exact Below.refl _ _ | apply kept_alloc | apply kept_drew | apply kept_drewN | refine kept_trans ?_ (by assumption))⟩
    · obtain ⟨t, u, rfl⟩ := err_iface hex hxe
      clear hex hxe hxe9 hey
      go_wp2_with fail
      refine (field_awake _).mono ?_
      rintro e w4 ⟨rfl, hb4⟩
      go_wp2_with fail
      go_ret
      exact ⟨rfl, by repeat (first | assumption | exact Below.refl _ _ | apply kept_alloc | apply kept_drew | apply kept_drewN | refine kept_trans ?_ (by assumption))⟩
  · obtain ⟨t, u, rfl⟩ := err_iface herr h1
    clear herr hbad
    have hg0 : GoodW [] := ⟨by simp, by simp⟩
    have Hg0 := Lib.hid hg0
    clear hg0
    go_wp2_with fail
    refine (HX.out _ _ [] Hg0.out (.inl ⟨rfl, rfl⟩) (row_kept Hrx.out (by repeat (first | assumption | exact Below.refl _ _ | apply kept_alloc | apply kept_drew | apply kept_drewN | refine kept_trans ?_ (by assumption))))).mono ?_
    rintro e w2 ⟨ex, rfl, hex, hb2⟩
    obtain ⟨fchb2, ffhb2, fzhb2⟩ := far hb2; try simp only [World.size_alloc, World.size_setCell, World.size_drew, World.heap_drewN] at fzhb2
    clear hex
    go_wp2_with fail
    refine (HY.out _ _ [] Hg0.out (.inl ⟨rfl, rfl⟩) (row_kept Hry.out (by repeat (first | assumption | exact Below.refl _ _ | apply kept_alloc | apply kept_drew | apply kept_drewN | refine kept_trans ?_ (by assumption))))).mono ?_
    rintro e w3 ⟨ey, rfl, hey, hb3⟩
    obtain ⟨fchb3, ffhb3, fzhb3⟩ := far hb3; try simp only [World.size_alloc, World.size_setCell, World.size_drew, World.heap_drewN] at fzhb3
    clear hey
    go_wp2_with fail
    refine (field_awake _).mono ?_
    rintro e w4 ⟨rfl, hb4⟩
    go_wp2_with fail
    go_ret
    exact ⟨rfl, by repeat (first | assumption | exact Below.refl _ _ | apply kept_alloc | apply kept_drew | apply kept_drewN | refine kept_trans ?_ (by assumption))⟩
end Go.Proofs.Ytnbnjkbkjmlomaa
