/-
  The laws over rules, on data.
-/
import Derived.Test.YtifghdombpcpjaaTrees
namespace Go.Proofs.Ytifghdombpcpjaa.RU
open Go.RowKit Go.Proofs.Ytifghdombpcpjaa.Eng Go.Proofs.Ytifghdombpcpjaa
set_option linter.unusedVariables false
set_option linter.unusedSimpArgs false

def z0 : List D → Nat := fun _ => 0
def tab1 := add (add (add (add (add none0 25 trLimits z0) 26 tfaultAt z0) 27 tfaultWith z0) 15 trShards z0) 30 trAll z0
def tab2 := add (add (add (add (add (add tab1 7 trNew (fun _ => 9)) 19 trShard z0) 20 trBand z0) 21 trParted z0) 28 trCell z0) 29 trOwner z0
def tab3 := add tab2 9 trulesAwake z0
theorem ok2 : FsOk Try.prog tab2 :=
  ok_add (ok_add (ok_add (ok_add (ok_add (ok_add (ok_add (ok_add (ok_add (ok_add (ok_add (ok_none _) [] _ _ readrLimits _) [] _ _ readfaultAt _) [] _ _ readfaultWith _) [] _ _ readrShards _) [] _ _ readrAll _)
    _ _ _ readrNew _) [] _ _ readrShard _) [] _ _ readrBand _) [] _ _ readrParted _) [] _ _ readrCell _) [] _ _ readrOwner _
theorem ok3 : FsOk Try.prog tab3 := ok_add ok2 [] _ _ readrulesAwake _
theorem wrap_small (x : Int) (h1 : -9223372036854775808 ≤ x) (h2 : x ≤ 9223372036854775807) : IntKind.i64.wrap x = x := by
  simp [IntKind.wrap, IntKind.bits, IntKind.signed]; omega
structure Cf where
  c0 : Int
  c1 : Int
  c2 : Int
  c3 : Int
  c4 : Int
  c5 : Int
  c6 : Int
def Cf.ds (c : Cf) : List D := [.int c.c0, .int c.c1, .int c.c2, .int c.c3, .int c.c4, .int c.c5, .int c.c6]
def Cf.ok (c : Cf) : Prop := (1 ≤ c.c0 ∧ c.c0 ≤ 6) ∧ (1 ≤ c.c1 ∧ c.c1 ≤ 4) ∧ (1 ≤ c.c2 ∧ c.c2 ≤ 3) ∧ (1 ≤ c.c3 ∧ c.c3 ≤ 4) ∧ (0 ≤ c.c4 ∧ c.c4 ≤ 4) ∧ (1 ≤ c.c5 ∧ c.c5 ≤ 4) ∧ (1 ≤ c.c6 ∧ c.c6 ≤ 15)
set_option maxHeartbeats 1000000 in
theorem new_cases (c : Cf) : (c.ok ∧ tab2 7 c.ds = some (c.ds ++ [.nil])) ∨ (¬ c.ok ∧ ∃ e : D, e.isNil = false ∧ tab2 7 c.ds = some [.int 0, .int 0, .int 0, .int 0, .int 0, .int 0, .int 0, e]) := by
  have w1 : IntKind.i64.wrap 1 = 1 := rfl
  have w2 : IntKind.i64.wrap 2 = 2 := rfl
  have w3 : IntKind.i64.wrap 3 = 3 := rfl
  have w4 : IntKind.i64.wrap 4 = 4 := rfl
  have w5 : IntKind.i64.wrap 5 = 5 := rfl
  have w6 : IntKind.i64.wrap 6 = 6 := rfl
  have w7 : IntKind.i64.wrap 7 = 7 := rfl
  by_cases l0 : c.c0 < 1
  · exact .inr ⟨by unfold Cf.ok; omega, by simp [tab2, tab1, add, eval, trNew, trLimits, loopN, den, cmpF, arF, tfaultAt, tfaultWith, Cf.ds, w1, w2, w3, w4, w5, w6, w7, l0]⟩
  have m0 : ¬ c.c0 < 1 := l0
  by_cases g0 : 6 < c.c0
  · exact .inr ⟨by unfold Cf.ok; omega, by simp [tab2, tab1, add, eval, trNew, trLimits, loopN, den, cmpF, arF, tfaultAt, tfaultWith, Cf.ds, w1, w2, w3, w4, w5, w6, w7, m0, g0]⟩
  by_cases l1 : c.c1 < 1
  · exact .inr ⟨by unfold Cf.ok; omega, by simp [tab2, tab1, add, eval, trNew, trLimits, loopN, den, cmpF, arF, tfaultAt, tfaultWith, Cf.ds, w1, w2, w3, w4, w5, w6, w7, m0, g0, l1]⟩
  have m1 : ¬ c.c1 < 1 := l1
  by_cases g1 : 4 < c.c1
  · exact .inr ⟨by unfold Cf.ok; omega, by simp [tab2, tab1, add, eval, trNew, trLimits, loopN, den, cmpF, arF, tfaultAt, tfaultWith, Cf.ds, w1, w2, w3, w4, w5, w6, w7, m0, g0, m1, g1]⟩
  by_cases l2 : c.c2 < 1
  · exact .inr ⟨by unfold Cf.ok; omega, by simp [tab2, tab1, add, eval, trNew, trLimits, loopN, den, cmpF, arF, tfaultAt, tfaultWith, Cf.ds, w1, w2, w3, w4, w5, w6, w7, m0, g0, m1, g1, l2]⟩
  have m2 : ¬ c.c2 < 1 := l2
  by_cases g2 : 3 < c.c2
  · exact .inr ⟨by unfold Cf.ok; omega, by simp [tab2, tab1, add, eval, trNew, trLimits, loopN, den, cmpF, arF, tfaultAt, tfaultWith, Cf.ds, w1, w2, w3, w4, w5, w6, w7, m0, g0, m1, g1, m2, g2]⟩
  by_cases l3 : c.c3 < 1
  · exact .inr ⟨by unfold Cf.ok; omega, by simp [tab2, tab1, add, eval, trNew, trLimits, loopN, den, cmpF, arF, tfaultAt, tfaultWith, Cf.ds, w1, w2, w3, w4, w5, w6, w7, m0, g0, m1, g1, m2, g2, l3]⟩
  have m3 : ¬ c.c3 < 1 := l3
  by_cases g3 : 4 < c.c3
  · exact .inr ⟨by unfold Cf.ok; omega, by simp [tab2, tab1, add, eval, trNew, trLimits, loopN, den, cmpF, arF, tfaultAt, tfaultWith, Cf.ds, w1, w2, w3, w4, w5, w6, w7, m0, g0, m1, g1, m2, g2, m3, g3]⟩
  by_cases l4 : c.c4 < 0
  · exact .inr ⟨by unfold Cf.ok; omega, by simp [tab2, tab1, add, eval, trNew, trLimits, loopN, den, cmpF, arF, tfaultAt, tfaultWith, Cf.ds, w1, w2, w3, w4, w5, w6, w7, m0, g0, m1, g1, m2, g2, m3, g3, l4]⟩
  have m4 : ¬ c.c4 < 0 := l4
  by_cases g4 : 4 < c.c4
  · exact .inr ⟨by unfold Cf.ok; omega, by simp [tab2, tab1, add, eval, trNew, trLimits, loopN, den, cmpF, arF, tfaultAt, tfaultWith, Cf.ds, w1, w2, w3, w4, w5, w6, w7, m0, g0, m1, g1, m2, g2, m3, g3, m4, g4]⟩
  by_cases l5 : c.c5 < 1
  · exact .inr ⟨by unfold Cf.ok; omega, by simp [tab2, tab1, add, eval, trNew, trLimits, loopN, den, cmpF, arF, tfaultAt, tfaultWith, Cf.ds, w1, w2, w3, w4, w5, w6, w7, m0, g0, m1, g1, m2, g2, m3, g3, m4, g4, l5]⟩
  have m5 : ¬ c.c5 < 1 := l5
  by_cases g5 : 4 < c.c5
  · exact .inr ⟨by unfold Cf.ok; omega, by simp [tab2, tab1, add, eval, trNew, trLimits, loopN, den, cmpF, arF, tfaultAt, tfaultWith, Cf.ds, w1, w2, w3, w4, w5, w6, w7, m0, g0, m1, g1, m2, g2, m3, g3, m4, g4, m5, g5]⟩
  by_cases l6 : c.c6 < 1
  · exact .inr ⟨by unfold Cf.ok; omega, by simp [tab2, tab1, add, eval, trNew, trLimits, loopN, den, cmpF, arF, tfaultAt, tfaultWith, Cf.ds, w1, w2, w3, w4, w5, w6, w7, m0, g0, m1, g1, m2, g2, m3, g3, m4, g4, m5, g5, l6]⟩
  have m6 : ¬ c.c6 < 1 := l6
  by_cases g6 : 15 < c.c6
  · exact .inr ⟨by unfold Cf.ok; omega, by simp [tab2, tab1, add, eval, trNew, trLimits, loopN, den, cmpF, arF, tfaultAt, tfaultWith, Cf.ds, w1, w2, w3, w4, w5, w6, w7, m0, g0, m1, g1, m2, g2, m3, g3, m4, g4, m5, g5, m6, g6]⟩
  exact .inl ⟨by unfold Cf.ok; omega, by simp [tab2, tab1, add, eval, trNew, trLimits, loopN, den, cmpF, arF, tfaultAt, tfaultWith, Cf.ds, w1, w2, w3, w4, w5, w6, w7, m0, g0, m1, g1, m2, g2, m3, g3, m4, g4, m5, g5, m6, g6]⟩
end Go.Proofs.Ytifghdombpcpjaa.RU
