/-
  The law RecordNext walks to true.
-/
import Derived.Test.YtkjcpgnmkjkbbaaNext
import Derived.Lib.Hide
namespace Go.Proofs.Ytkjcpgnmkjkbbaa
open Go.RowKit
set_option linter.unusedSimpArgs false
set_option linter.unusedVariables false

theorem ref_fill (G N : Int) (q p t c g : Int) (k' q' p' t' c' g' : Int) (hN : -9223372036854775808 ≤ N) (hN2 : N < 9223372036854775807) (w : World) :
    Calls Try.prog 10 #[.int .i64 G, .int .i64 N, .agg #[.int .i64 1, .int .i64 q, .int .i64 p, .int .i64 t, .int .i64 c, .int .i64 g], .agg #[.int .i64 k', .int .i64 q', .int .i64 p', .int .i64 t', .int .i64 c', .int .i64 g']] w (Gives w (.tuple #[recV 1 q p t 0 0, .int .i64 G, .int .i64 (N+1)])) := by
  go_enter Try.func10, Try.ntmps10
  go_wp2
  exact bodyPost_ret (v := .tuple #[recV 1 q p t 0 0, .int .i64 G, .int .i64 (N+1)]) (by simp [results, Try.results10, go_sem, recV]) rfl ⟨rfl, by repeat (first | assumption | exact Below.refl _ _ | apply kept_alloc | apply kept_drew | apply kept_drewN | refine kept_trans ?_ (by assumption))⟩
theorem ref_end (G N : Int) (k q p t c g : Int) (k' q' t' c' g' : Int) (hk : (k == 1) = false) (h1 : 2 ≤ k') (h2 : k' ≤ 5) (hN : -9223372036854775808 ≤ G) (hN2 : G < 9223372036854775807) (w : World) :
    Calls Try.prog 10 #[.int .i64 G, .int .i64 N, .agg #[.int .i64 k, .int .i64 q, .int .i64 p, .int .i64 t, .int .i64 c, .int .i64 g], .agg #[.int .i64 k', .int .i64 q', .int .i64 N, .int .i64 t', .int .i64 c', .int .i64 g']] w (Gives w (.tuple #[recV k' q' N t' c' g', .int .i64 (G+1), .int .i64 0])) := by
  go_enter Try.func10, Try.ntmps10
  go_wp2
  exact bodyPost_ret (v := .tuple #[recV k' q' N t' c' g', .int .i64 (G+1), .int .i64 0]) (by simp [results, Try.results10, go_sem, recV]) rfl ⟨rfl, by repeat (first | assumption | exact Below.refl _ _ | apply kept_alloc | apply kept_drew | apply kept_drewN | refine kept_trans ?_ (by assumption))⟩
theorem ref_no (G N : Int) (k q p t c g : Int) (k' q' p' t' c' g' : Int) (hk : (k == 1) = false) (h1 : (decide (2 ≤ k') && decide (k' ≤ 5) && p' == N) = false) (w : World) :
    Calls Try.prog 10 #[.int .i64 G, .int .i64 N, .agg #[.int .i64 k, .int .i64 q, .int .i64 p, .int .i64 t, .int .i64 c, .int .i64 g], .agg #[.int .i64 k', .int .i64 q', .int .i64 p', .int .i64 t', .int .i64 c', .int .i64 g']] w (Gives w (.tuple #[recV 0 0 0 0 0 0, .int .i64 G, .int .i64 N])) := by
  by_cases a : 2 ≤ k'
  · by_cases b : k' ≤ 5
    · have c : (p' == N) = false := by simpa [a, b] using h1
      clear h1
      go_enter Try.func10, Try.ntmps10
      go_wp2
      exact bodyPost_ret (v := .tuple #[recV 0 0 0 0 0 0, .int .i64 G, .int .i64 N]) (by simp [results, Try.results10, go_sem, recV]) rfl ⟨rfl, by repeat (first | assumption | exact Below.refl _ _ | apply kept_alloc | apply kept_drew | apply kept_drewN | refine kept_trans ?_ (by assumption))⟩
    · clear h1
      have b' : 5 < k' := by omega
      clear b
      go_enter Try.func10, Try.ntmps10
      go_wp2
      exact bodyPost_ret (v := .tuple #[recV 0 0 0 0 0 0, .int .i64 G, .int .i64 N]) (by simp [results, Try.results10, go_sem, recV]) rfl ⟨rfl, by repeat (first | assumption | exact Below.refl _ _ | apply kept_alloc | apply kept_drew | apply kept_drewN | refine kept_trans ?_ (by assumption))⟩
  · clear h1
    have b' : k' < 2 := by omega
    clear a
    go_enter Try.func10, Try.ntmps10
    go_wp2
    exact bodyPost_ret (v := .tuple #[recV 0 0 0 0 0 0, .int .i64 G, .int .i64 N]) (by simp [results, Try.results10, go_sem, recV]) rfl ⟨rfl, by repeat (first | assumption | exact Below.refl _ _ | apply kept_alloc | apply kept_drew | apply kept_drewN | refine kept_trans ?_ (by assumption))⟩
theorem first_any (w : World) : Calls Try.prog 11 #[] w (Gives w (.agg #[.int .i64 1, .int .i64 0])) := by
  go_enter Try.func11, Try.ntmps11
  go_wp2
  exact bodyPost_ret (v := .agg #[.int .i64 1, .int .i64 0]) (by simp [results, Try.results11, go_sem]) rfl ⟨rfl, by repeat (first | assumption | exact Below.refl _ _ | apply kept_alloc | apply kept_drew | apply kept_drewN | refine kept_trans ?_ (by assumption))⟩


set_option maxHeartbeats 1000000 in
theorem rnext_fill (G N : Int) (k q p t c g : Int) (k' q' p' t' c' g' : Int)  (hG1 : -9223372036854775808 ≤ G) (hG2 : G ≤ 1099511627776) (hN1 : -9223372036854775808 ≤ N) (hN2 : N ≤ 1099511627776) (w : World) :
    Calls Try.prog 4 #[.int .i64 G, .int .i64 N, .agg #[.int .i64 1, .int .i64 q, .int .i64 p, .int .i64 t, .int .i64 c, .int .i64 g], .agg #[.int .i64 k', .int .i64 q', .int .i64 p', .int .i64 t', .int .i64 c', .int .i64 g']] w (Gives w (.bool true)) := by
  have dG : decide (1099511627776 < G) = false := by simp; omega
  have dN : decide (1099511627776 < N) = false := by simp; omega
  go_enter Try.func4, Try.ntmps4
  go_wp2_with fail
  refine (next_fill _ _ _ _ _ _ _ _ _ _ _ _ _ (by omega) (by omega) _).mono ?_
  rintro e w1 ⟨rfl, hb⟩
  unfold recV curV
  obtain ⟨fchb, ffhb, fzhb⟩ := far hb; try simp only [World.size_alloc, World.size_setCell, World.size_drew] at fzhb
  go_wp2_with fail
  refine (ref_fill _ _ _ _ _ _ _ _ _ _ _ _ _ (by omega) (by omega) _).mono ?_
  rintro e w2 ⟨rfl, hb2⟩
  unfold recV
  obtain ⟨fchb2, ffhb2, fzhb2⟩ := far hb2; try simp only [World.size_alloc, World.size_setCell, World.size_drew] at fzhb2
  go_wp2_with fail
  refine (awake _).mono ?_
  rintro e w3 ⟨rfl, hb3⟩
  obtain ⟨fchb3, ffhb3, fzhb3⟩ := far hb3; try simp only [World.size_alloc, World.size_setCell, World.size_drew] at fzhb3
  go_wp2_with fail
  refine (first_any _).mono ?_
  rintro e w4 ⟨rfl, hb4⟩
  obtain ⟨fchb4, ffhb4, fzhb4⟩ := far hb4; try simp only [World.size_alloc, World.size_setCell, World.size_drew] at fzhb4
  go_wp2_with fail
  go_ret
  exact ⟨rfl, by repeat (first | assumption | exact Below.refl _ _ | apply kept_alloc | apply kept_drew | apply kept_drewN | refine kept_trans ?_ (by assumption))⟩

set_option maxHeartbeats 1000000 in
theorem rnext_end (G N : Int) (k q p t c g : Int) (k' q' p' t' c' g' : Int) (hk : (k == 1) = false) (h1 : 2 ≤ k') (h2 : k' ≤ 5) (hG1 : -9223372036854775808 ≤ G) (hG2 : G ≤ 1099511627776) (hN1 : -9223372036854775808 ≤ N) (hN2 : N ≤ 1099511627776) (w : World) :
    Calls Try.prog 4 #[.int .i64 G, .int .i64 N, .agg #[.int .i64 k, .int .i64 q, .int .i64 p, .int .i64 t, .int .i64 c, .int .i64 g], .agg #[.int .i64 k', .int .i64 q', .int .i64 N, .int .i64 t', .int .i64 c', .int .i64 g']] w (Gives w (.bool true)) := by
  have dG : decide (1099511627776 < G) = false := by simp; omega
  have dN : decide (1099511627776 < N) = false := by simp; omega
  go_enter Try.func4, Try.ntmps4
  go_wp2_with fail
  refine (next_end _ _ _ _ _ _ _ _ _ _ _ _ _ hk h1 h2 (by omega) (by omega) _).mono ?_
  rintro e w1 ⟨rfl, hb⟩
  unfold recV curV
  obtain ⟨fchb, ffhb, fzhb⟩ := far hb; try simp only [World.size_alloc, World.size_setCell, World.size_drew] at fzhb
  go_wp2_with fail
  refine (ref_end _ _ _ _ _ _ _ _ _ _ _ _ _ hk h1 h2 (by omega) (by omega) _).mono ?_
  rintro e w2 ⟨rfl, hb2⟩
  unfold recV
  obtain ⟨fchb2, ffhb2, fzhb2⟩ := far hb2; try simp only [World.size_alloc, World.size_setCell, World.size_drew] at fzhb2
  go_wp2_with fail
  refine (awake _).mono ?_
  rintro e w3 ⟨rfl, hb3⟩
  obtain ⟨fchb3, ffhb3, fzhb3⟩ := far hb3; try simp only [World.size_alloc, World.size_setCell, World.size_drew] at fzhb3
  go_wp2_with fail
  refine (first_any _).mono ?_
  rintro e w4 ⟨rfl, hb4⟩
  obtain ⟨fchb4, ffhb4, fzhb4⟩ := far hb4; try simp only [World.size_alloc, World.size_setCell, World.size_drew] at fzhb4
  go_wp2_with fail
  go_ret
  exact ⟨rfl, by repeat (first | assumption | exact Below.refl _ _ | apply kept_alloc | apply kept_drew | apply kept_drewN | refine kept_trans ?_ (by assumption))⟩

set_option maxHeartbeats 1000000 in
theorem rnext_no (G N : Int) (k q p t c g : Int) (k' q' p' t' c' g' : Int) (hk : (k == 1) = false) (h1 : Hid ((decide (2 ≤ k') && decide (k' ≤ 5) && p' == N) = false)) (hG1 : -9223372036854775808 ≤ G) (hG2 : G ≤ 1099511627776) (hN1 : -9223372036854775808 ≤ N) (hN2 : N ≤ 1099511627776) (w : World) :
    Calls Try.prog 4 #[.int .i64 G, .int .i64 N, .agg #[.int .i64 k, .int .i64 q, .int .i64 p, .int .i64 t, .int .i64 c, .int .i64 g], .agg #[.int .i64 k', .int .i64 q', .int .i64 p', .int .i64 t', .int .i64 c', .int .i64 g']] w (Gives w (.bool true)) := by
  have dG : decide (1099511627776 < G) = false := by simp; omega
  have dN : decide (1099511627776 < N) = false := by simp; omega
  go_enter Try.func4, Try.ntmps4
  go_wp2_with fail
  refine (next_no _ _ _ _ _ _ _ _ _ _ _ _ _ _ hk h1.out _).mono ?_
  rintro e w1 ⟨rfl, hb⟩
  unfold recV curV
  obtain ⟨fchb, ffhb, fzhb⟩ := far hb; try simp only [World.size_alloc, World.size_setCell, World.size_drew] at fzhb
  go_wp2_with fail
  refine (ref_no _ _ _ _ _ _ _ _ _ _ _ _ _ _ hk h1.out _).mono ?_
  rintro e w2 ⟨rfl, hb2⟩
  unfold recV
  obtain ⟨fchb2, ffhb2, fzhb2⟩ := far hb2; try simp only [World.size_alloc, World.size_setCell, World.size_drew] at fzhb2
  go_wp2_with fail
  refine (awake _).mono ?_
  rintro e w3 ⟨rfl, hb3⟩
  obtain ⟨fchb3, ffhb3, fzhb3⟩ := far hb3; try simp only [World.size_alloc, World.size_setCell, World.size_drew] at fzhb3
  go_wp2_with fail
  refine (first_any _).mono ?_
  rintro e w4 ⟨rfl, hb4⟩
  obtain ⟨fchb4, ffhb4, fzhb4⟩ := far hb4; try simp only [World.size_alloc, World.size_setCell, World.size_drew] at fzhb4
  go_wp2_with fail
  go_ret
  exact ⟨rfl, by repeat (first | assumption | exact Below.refl _ _ | apply kept_alloc | apply kept_drew | apply kept_drewN | refine kept_trans ?_ (by assumption))⟩

theorem rnext_more (G N : Int) (k q p t c g : Int) (k' q' p' t' c' g' : Int) (h : 1099511627776 < G ∨ 1099511627776 < N) (w : World) :
    Calls Try.prog 4 #[.int .i64 G, .int .i64 N, .agg #[.int .i64 k, .int .i64 q, .int .i64 p, .int .i64 t, .int .i64 c, .int .i64 g], .agg #[.int .i64 k', .int .i64 q', .int .i64 p', .int .i64 t', .int .i64 c', .int .i64 g']] w (Gives w (.bool true)) := by
  by_cases hG : 1099511627776 < G
  · clear h
    go_enter Try.func4, Try.ntmps4
    go_wp2_with fail
    refine (awake _).mono ?_
    rintro e w3 ⟨rfl, hb3⟩
    obtain ⟨fchb3, ffhb3, fzhb3⟩ := far hb3; try simp only [World.size_alloc, World.size_setCell, World.size_drew] at fzhb3
    go_wp2_with fail
    go_ret
    exact ⟨rfl, by repeat (first | assumption | exact Below.refl _ _ | apply kept_alloc | apply kept_drew | apply kept_drewN | refine kept_trans ?_ (by assumption))⟩
  · have hN : 1099511627776 < N := by omega
    have dG : decide (1099511627776 < G) = false := by simp; omega
    clear h
    go_enter Try.func4, Try.ntmps4
    go_wp2_with fail
    refine (awake _).mono ?_
    rintro e w3 ⟨rfl, hb3⟩
    obtain ⟨fchb3, ffhb3, fzhb3⟩ := far hb3; try simp only [World.size_alloc, World.size_setCell, World.size_drew] at fzhb3
    go_wp2_with fail
    go_ret
    exact ⟨rfl, by repeat (first | assumption | exact Below.refl _ _ | apply kept_alloc | apply kept_drew | apply kept_drewN | refine kept_trans ?_ (by assumption))⟩

theorem rnext_walk (G N : Int) (k q p t c g : Int) (k' q' p' t' c' g' : Int) (hG1 : -9223372036854775808 ≤ G) (hN1 : -9223372036854775808 ≤ N) (w : World) :
    Calls Try.prog 4 #[.int .i64 G, .int .i64 N, .agg #[.int .i64 k, .int .i64 q, .int .i64 p, .int .i64 t, .int .i64 c, .int .i64 g], .agg #[.int .i64 k', .int .i64 q', .int .i64 p', .int .i64 t', .int .i64 c', .int .i64 g']] w (Gives w (.bool true)) := by
  by_cases h : 1099511627776 < G ∨ 1099511627776 < N
  · exact rnext_more G N k q p t c g k' q' p' t' c' g' h w
  · by_cases hk : k = 1
    · subst hk
      exact rnext_fill G N 1 q p t c g k' q' p' t' c' g' hG1 (by omega) hN1 (by omega) w
    · have hk' : (k == 1) = false := by simpa using hk
      by_cases h1 : (decide (2 ≤ k') && decide (k' ≤ 5) && p' == N) = true
      · simp only [Bool.and_eq_true, decide_eq_true_eq, beq_iff_eq] at h1
        obtain ⟨⟨h1, h2⟩, rfl⟩ := h1
        exact rnext_end G p' k q p t c g k' q' p' t' c' g' hk' h1 h2 hG1 (by omega) hN1 (by omega) w
      · exact rnext_no G N k q p t c g k' q' p' t' c' g' hk' (Lib.hid (by simpa using h1)) hG1 (by omega) hN1 (by omega) w
end Go.Proofs.Ytkjcpgnmkjkbbaa
