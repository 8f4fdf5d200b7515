/-
  The law RulesShards, on data: it answers true.
-/
import Derived.Test.YtifghdombpcpjaaShards
namespace Go.Proofs.Ytifghdombpcpjaa.RU
open Go.RowKit Go.Proofs.Ytifghdombpcpjaa.Eng Go.Proofs.Ytifghdombpcpjaa
set_option linter.unusedVariables false
set_option linter.unusedSimpArgs false

set_option maxHeartbeats 1000000 in
theorem shards_law (c : Cf) (name a b : Int) : eval tab3 0 tRulesShards [] (c.ds ++ [.int name, .int a, .int b]) = some [.bool true] := by
  have ha := awake_eq
  rcases new_cases c with ⟨hok, hn⟩ | ⟨_, e, he, hn⟩
  · have hn3 : tab3 7 c.ds = some (c.ds ++ [.nil]) := (new3 c).trans hn
    clear hn
    unfold Cf.ok at hok
    obtain ⟨_, _, ⟨n1, n2⟩, ⟨b1, b2⟩, _, _, _⟩ := hok
    by_cases k1 : a < 1
    · generalize tab3 = Fs at *
      simp only [Cf.ds, List.cons_append, List.nil_append] at *
      simp [eval, tRulesShards, den, cmpF, arF, hn3, ha, k1]
    by_cases k2 : b < a
    · generalize tab3 = Fs at *
      simp only [Cf.ds, List.cons_append, List.nil_append] at *
      simp [eval, tRulesShards, den, cmpF, arF, hn3, ha, k1, k2]
    by_cases k3 : 9999 < b
    · generalize tab3 = Fs at *
      simp only [Cf.ds, List.cons_append, List.nil_append] at *
      simp [eval, tRulesShards, den, cmpF, arF, hn3, ha, k1, k2, k3]
    by_cases k4 : name < 0
    · generalize tab3 = Fs at *
      simp only [Cf.ds, List.cons_append, List.nil_append] at *
      simp [eval, tRulesShards, den, cmpF, arF, hn3, ha, k1, k2, k3, k4]
    by_cases k5 : c.c2 ≤ name
    · generalize tab3 = Fs at *
      simp only [Cf.ds, List.cons_append, List.nil_append] at *
      simp [eval, tRulesShards, den, cmpF, arF, hn3, ha, k1, k2, k3, k4, k5]
    have hc : c.c3 = 1 ∨ c.c3 = 2 ∨ c.c3 = 3 ∨ c.c3 = 4 := by omega
    have num : 0 ≤ (a - 1) * c.c3 / 9999 ∧ (a - 1) * c.c3 / 9999 ≤ (b - 1) * c.c3 / 9999 ∧ (b - 1) * c.c3 / 9999 < c.c3 ∧ (name * c.c3 + (a - 1) * c.c3 / 9999) / c.c3 = name ∧ (name * c.c3 + (a - 1) * c.c3 / 9999) % c.c3 = (a - 1) * c.c3 / 9999 ∧
        0 ≤ name * c.c3 + (a - 1) * c.c3 / 9999 ∧ name * c.c3 + (b - 1) * c.c3 / 9999 < c.c2 * c.c3 ∧ 9998 * c.c3 / 9999 = c.c3 - 1 := by
      rcases hc with h | h | h | h <;> rw [h] <;> omega
    obtain ⟨q1, q2, q3, q4, q5, q6, q7, q8⟩ := num
    have f1 := band_eq c a (by omega) (by omega) b1 b2
    have f2 := shard_eq c name ((a - 1) * c.c3 / 9999) (by omega) (by omega) q1 (by omega) n2 b2
    have f3 := band_eq c b (by omega) (by omega) b1 b2
    have f4 := shard_eq c name ((b - 1) * c.c3 / 9999) (by omega) (by omega) (by omega) q3 n2 b2
    have f5 := parted_eq c (name * c.c3 + (a - 1) * c.c3 / 9999) q6 (by omega) n1 n2 b1 b2
    have f6 := shards_eq c n1 n2 b1 b2
    have f7 := band_eq c 1 (by omega) (by omega) b1 b2
    have f8 := band_eq c 9999 (by omega) (by omega) b1 b2
    have e8 : IntKind.i64.wrap (c.c3 - 1) = c.c3 - 1 := wrap_small _ (by omega) (by omega)
    rw [q4, q5] at f5
    have e9 : ((9999 : Int) - 1) * c.c3 / 9999 = c.c3 - 1 := by rw [show (9999 : Int) - 1 = 9998 by rfl]; exact q8
    rw [e9] at f8
    have e7 : ((1 : Int) - 1) * c.c3 / 9999 = 0 := by simp
    rw [e7] at f7
    generalize (a - 1) * c.c3 / 9999 = qa at *
    generalize (b - 1) * c.c3 / 9999 = qb at *
    have t1 : name * c.c3 + qa ≤ name * c.c3 + qb := by omega
    generalize name * c.c3 + qa = xa at *
    generalize name * c.c3 + qb = xb at *
    generalize c.c2 * c.c3 = sh at *
    generalize tab3 = Fs at *
    simp only [Cf.ds, List.cons_append, List.nil_append] at *
    simp [eval, tRulesShards, den, cmpF, arF, hn3, ha, k1, k2, k3, k4, k5, f1, f2, f3, f4, f5, f6, f7, f8, e8, t1, q6, q7]
  · have hn3 : tab3 7 c.ds = _ := (new3 c).trans hn
    generalize tab3 = Fs at *
    simp only [Cf.ds, List.cons_append, List.nil_append] at *
    simp [eval, tRulesShards, den, cmpF, arF, hn3, ha, he]
theorem shards_walk (c0 c1 c2 c3 c4 c5 c6 name a b : Int) (W : World) :
    Calls Try.prog 5 #[.agg #[.int .i64 c0, .int .i64 c1, .int .i64 c2, .int .i64 c3, .int .i64 c4, .int .i64 c5, .int .i64 c6], .int .i64 name, .int .i64 a, .int .i64 b] W fun e w' => e = .returned (.bool true) ∧ Below W.heap.size W w' := by
  have hsig : sigOf Try.prog 5 = some ([.agg [.int .i64, .int .i64, .int .i64, .int .i64, .int .i64, .int .i64, .int .i64], .one (.int .i64), .one (.int .i64), .one (.int .i64)], [.one .bool]) := by kernel_rfl
  have h := fn_sound ok3 [] 5 hsig (fuel := 0) (ds := (Cf.mk c0 c1 c2 c3 c4 c5 c6).ds ++ [.int name, .int a, .int b]) (r := [.bool true]) (by rw [readRulesShards]; exact shards_law _ name a b)
  exact law_calls h (args_agg (us := [.int .i64 c0, .int .i64 c1, .int .i64 c2, .int .i64 c3, .int .i64 c4, .int .i64 c5, .int .i64 c6]) ⟨Rd.int rfl, Rd.int rfl, Rd.int rfl, Rd.int rfl, Rd.int rfl, Rd.int rfl, Rd.int rfl, trivial⟩ (args_one (Rd.int rfl) (args_one (Rd.int rfl) (args_one (Rd.int rfl) args_nil))))
end Go.Proofs.Ytifghdombpcpjaa.RU
