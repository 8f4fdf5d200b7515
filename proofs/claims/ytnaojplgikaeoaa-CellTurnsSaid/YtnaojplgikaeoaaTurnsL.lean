/-
  The law CellTurns, on data: it answers true.
-/
import Derived.Test.YtnaojplgikaeoaaTurnsD
import Derived.Test.YtnaojplgikaeoaaTreesW
namespace Go.Proofs.Ytnaojplgikaeoaa.CS
open Go.RowKit Go.Proofs.Ytnaojplgikaeoaa.Eng Go.Proofs.Ytnaojplgikaeoaa
set_option linter.unusedVariables false
set_option linter.unusedSimpArgs false
set_option maxRecDepth 4000 in
set_option maxHeartbeats 1000000 in
theorem turns_eq (s : St) (q m n : Int) : eval tabT 0 tCellTurns [] (s.ds ++ [.int q, .int m, .int n]) = some [.bool true] := by
  have h1 : tabT 8 (s.ds ++ [.int q, .int m]) = _ := (old _ _ (by decide)).trans (take_eq s q m)
  have h2 := rtake_eq s q m
  have h3 := num_eq _ (take_code s q m)
  have h4 : tabT 9 (s.ds ++ [.int q, .int m]) = _ := (old _ _ (by decide)).trans (release_eq s q m)
  have h5 := rrelease_eq s q m
  have h6 := num_eq _ (release_code s q m)
  have h7 : tabT 10 s.ds = _ := (old _ _ (by decide)).trans (cancel_eq s)
  have h8 := rcancel_eq s
  have h9 := num_eq _ (cancel_code s)
  have h10 := begin_eq s q n
  have h11 := rbegin_eq s q n
  have h12 := num_eq _ (begin_code s q n)
  have h13 : tabT 11 s.ds = _ := (old _ _ (by decide)).trans (expire_eq s)
  have h14 := num_eq _ (expire_code s)
  have h15 : tabT 12 s.ds = _ := (old _ _ (by decide)).trans (promote_eq s)
  have h16 := num_eq _ (promote_code s)
  have h17 : tabT 14 s.ds = _ := (old _ _ (by decide)).trans (hold_eq s)
  have h18 := rloose_eq s
  have h19 : tabT 13 [] = _ := (old _ _ (by decide)).trans awake_eq
  generalize tabT = Fs at *
  simp only [St.ds, List.cons_append, List.nil_append] at *
  simp [eval, tCellTurns, den, cmpF, arF, h1, h2, h3, h4, h5, h6, h7, h8, h9, h10, h11, h12, h13, h14, h15, h16, h17, h18, h19]
  have e3 : IntKind.i64.wrap 3 = 3 := by rfl
  have e4 : IntKind.i64.wrap 4 = 4 := by rfl
  by_cases k1 : s.k = 1
  · simp [holdF, expireF, promoteF, looseB, k1, e3]
  · by_cases k2 : s.k = 2
    · simp [holdF, expireF, promoteF, looseB, k2, e4, St.zero]
    · simp [holdF, expireF, promoteF, looseB, k1, k2, St.zero]
end Go.Proofs.Ytnaojplgikaeoaa.CS
