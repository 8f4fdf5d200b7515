/-
  The walks of record.Next, record.IsEnd, record.End, and the law's own example.
-/
import Derived.Test.YtkjcpgnmkjkbbaaProg
import Derived.Test.YtkjcpgnmkjkbbaaKit
import Derived.WalkKit
import Derived.WalkSpells
import Derived.WalkLawsBesides
import Derived.KernelRfl
import Derived.BigQuiet
import Derived.Deep.QuietTactic
namespace Go.Proofs.Ytkjcpgnmkjkbbaa
open Go.RowKit
set_option linter.unusedSimpArgs false
set_option linter.unusedVariables false

def recV (k q p t c g : Int) : Value := .agg #[.int .i64 k, .int .i64 q, .int .i64 p, .int .i64 t, .int .i64 c, .int .i64 g]
def curV (g n : Int) : Value := .agg #[.int .i64 g, .int .i64 n]

theorem isEnd_yes (k q p t c g : Int) (h1 : 2 ≤ k) (h2 : k ≤ 5) (w : World) :
    Calls Try.prog 14 #[.agg #[.int .i64 k, .int .i64 q, .int .i64 p, .int .i64 t, .int .i64 c, .int .i64 g]] w (Gives w (.bool true)) := by
  go_enter Try.func14, Try.ntmps14
  go_wp2
  go_ret
  exact ⟨rfl, (Below.refl _ _).alloc (Nat.le_refl _) _⟩
theorem isEnd_no (k q p t c g : Int) (h : k < 2 ∨ 5 < k) (w : World) :
    Calls Try.prog 14 #[.agg #[.int .i64 k, .int .i64 q, .int .i64 p, .int .i64 t, .int .i64 c, .int .i64 g]] w (Gives w (.bool false)) := by
  by_cases h2 : k < 2
  · go_enter Try.func14, Try.ntmps14
    go_wp2
    go_ret
    exact ⟨rfl, (Below.refl _ _).alloc (Nat.le_refl _) _⟩
  · have h3 : decide (k ≤ 5) = false := by simp; omega
    have h4 : 2 ≤ k := by omega
    clear h
    go_enter Try.func14, Try.ntmps14
    go_wp2
    go_ret
    exact ⟨rfl, (Below.refl _ _).alloc (Nat.le_refl _) _⟩

set_option maxHeartbeats 400000 in
theorem next_fill (G N : Int) (q p t c g : Int) (k' q' p' t' c' g' : Int) (hN : -9223372036854775808 ≤ N) (hN2 : N < 9223372036854775807) (w : World) :
    Calls Try.prog 8 #[.agg #[.int .i64 G, .int .i64 N], .agg #[.int .i64 1, .int .i64 q, .int .i64 p, .int .i64 t, .int .i64 c, .int .i64 g], .agg #[.int .i64 k', .int .i64 q', .int .i64 p', .int .i64 t', .int .i64 c', .int .i64 g']] w (Gives w (.tuple #[recV 1 q p t 0 0, curV G (N+1)])) := by
  go_enter Try.func8, Try.ntmps8
  go_wp2
  go_region
  all_goals (
    go_wp2
    exact bodyPost_ret (v := .tuple #[recV 1 q p t 0 0, curV G (N+1)]) (by simp [results, Try.results8, go_sem, recV, curV]) rfl ⟨rfl, by repeat (first | exact Below.refl _ _ | apply kept_alloc | apply Below.drew)⟩)

set_option maxHeartbeats 400000 in
theorem next_end (G N : Int) (k q p t c g : Int) (k' q' t' c' g' : Int) (hk : (k == 1) = false) (h1 : 2 ≤ k') (h2 : k' ≤ 5) (hN : -9223372036854775808 ≤ G) (hN2 : G < 9223372036854775807) (w : World) :
    Calls Try.prog 8 #[.agg #[.int .i64 G, .int .i64 N], .agg #[.int .i64 k, .int .i64 q, .int .i64 p, .int .i64 t, .int .i64 c, .int .i64 g], .agg #[.int .i64 k', .int .i64 q', .int .i64 N, .int .i64 t', .int .i64 c', .int .i64 g']] w (Gives w (.tuple #[recV k' q' N t' c' g', curV (G+1) 0])) := by
  go_enter Try.func8, Try.ntmps8
  go_wp2
  go_region
  all_goals (
    go_wp2
    exact bodyPost_ret (v := .tuple #[recV k' q' N t' c' g', curV (G+1) 0]) (by simp [results, Try.results8, go_sem, recV, curV]) rfl ⟨rfl, by repeat (first | exact Below.refl _ _ | assumption | apply kept_alloc | apply Below.drew)⟩)

set_option maxHeartbeats 400000 in
theorem next_no (G N : Int) (k q p t c g : Int) (k' q' p' t' c' g' : Int) (hk : (k == 1) = false) (h1 : (decide (2 ≤ k') && decide (k' ≤ 5) && p' == N) = false) (w : World) :
    Calls Try.prog 8 #[.agg #[.int .i64 G, .int .i64 N], .agg #[.int .i64 k, .int .i64 q, .int .i64 p, .int .i64 t, .int .i64 c, .int .i64 g], .agg #[.int .i64 k', .int .i64 q', .int .i64 p', .int .i64 t', .int .i64 c', .int .i64 g']] w (Gives w (.tuple #[recV 0 0 0 0 0 0, curV G N])) := by
  by_cases a : 2 ≤ k'
  · by_cases b : k' ≤ 5
    · have c : (p' == N) = false := by simpa [a, b] using h1
      clear h1
      go_enter Try.func8, Try.ntmps8
      go_wp2
      go_region
      all_goals (
        go_wp2
        exact bodyPost_ret (v := .tuple #[recV 0 0 0 0 0 0, curV G N]) (by simp [results, Try.results8, go_sem, recV, curV]) rfl ⟨rfl, by repeat (first | exact Below.refl _ _ | assumption | apply kept_alloc | apply Below.drew)⟩)
    · clear h1
      have b' : 5 < k' := by omega
      clear b
      go_enter Try.func8, Try.ntmps8
      go_wp2
      go_region
      all_goals (
        go_wp2
        exact bodyPost_ret (v := .tuple #[recV 0 0 0 0 0 0, curV G N]) (by simp [results, Try.results8, go_sem, recV, curV]) rfl ⟨rfl, by repeat (first | exact Below.refl _ _ | assumption | apply kept_alloc | apply Below.drew)⟩)
  · clear h1
    have b' : k' < 2 := by omega
    clear a
    go_enter Try.func8, Try.ntmps8
    go_wp2
    go_region
    all_goals (
      go_wp2
      exact bodyPost_ret (v := .tuple #[recV 0 0 0 0 0 0, curV G N]) (by simp [results, Try.results8, go_sem, recV, curV]) rfl ⟨rfl, by repeat (first | exact Below.refl _ _ | assumption | apply kept_alloc | apply Below.drew)⟩)

theorem end_over (k : Int) (f : Bool) (g l n t : Int) (h1 : 5 ≤ k) (h2 : k ≤ 8) (w : World) :
    Calls Try.prog 13 #[.agg #[.int .i64 k, .bool f, .int .i64 g, .int .i64 l, .int .i64 n], .int .i64 t] w (Gives w (.tuple #[recV (k - 3) l n t 0 0, .bool true])) := by
  rcases (by omega : k = 5 ∨ k = 6 ∨ k = 7 ∨ k = 8) with rfl | rfl | rfl | rfl
  all_goals (
    go_enter Try.func13, Try.ntmps13
    go_wp2
    exact bodyPost_ret (v := .tuple #[recV _ l n t 0 0, .bool true]) (by simp [results, Try.results13, go_sem, recV]) rfl ⟨rfl, by repeat (first | exact Below.refl _ _ | apply kept_alloc | apply Below.drew)⟩)

theorem end_not (k : Int) (f : Bool) (g l n t : Int) (h1 : k < 5 ∨ 8 < k) (w : World) :
    Calls Try.prog 13 #[.agg #[.int .i64 k, .bool f, .int .i64 g, .int .i64 l, .int .i64 n], .int .i64 t] w (Gives w (.tuple #[recV 0 0 0 0 0 0, .bool false])) := by
  rcases h1 with h1 | h1
  all_goals (
    go_enter Try.func13, Try.ntmps13
    go_wp2
    exact bodyPost_ret (v := .tuple #[recV 0 0 0 0 0 0, .bool false]) (by simp [results, Try.results13, go_sem, recV]) rfl ⟨rfl, by repeat (first | exact Below.refl _ _ | apply kept_alloc | apply Below.drew)⟩)

set_option maxHeartbeats 400000 in
theorem awake (w : World) :
    Calls Try.prog 9 #[] w (Gives w (.bool true)) := by
  go_enter Try.func9, Try.ntmps9
  go_wp2_with (go_at_call 13; refine (end_over 6 _ _ _ _ _ (by omega) (by omega) _).mono ?_; rintro e w1 ⟨rfl, hb⟩; unfold recV)
  go_ret
  exact ⟨rfl, by repeat (first | exact Below.refl _ _ | assumption | apply kept_alloc | apply Below.drew)⟩
end Go.Proofs.Ytkjcpgnmkjkbbaa
