/-
  The law RulesPlaces answers true at any call.
-/
import Derived.Test.YtifghdombpcpjaaPl
import Derived.Test.YtifghdombpcpjaaAllOk
namespace Go.Proofs.Ytifghdombpcpjaa.RU
open Go.Proofs.Ytifghdombpcpjaa.Eng Go.Proofs.Ytifghdombpcpjaa
theorem places_true (c0 c1 c2 c3 c4 c5 c6 cell gen n : Int) (_ : (Lit.int .i64 c0).wf = true) (_ : (Lit.int .i64 c1).wf = true) (_ : (Lit.int .i64 c2).wf = true) (_ : (Lit.int .i64 c3).wf = true) (_ : (Lit.int .i64 c4).wf = true) (_ : (Lit.int .i64 c5).wf = true) (_ : (Lit.int .i64 c6).wf = true)
    (_ : (Lit.int .i64 cell).wf = true) (_ : (Lit.int .i64 gen).wf = true) (_ : (Lit.int .i64 n).wf = true) :
    FX 3 [.int c0, .int c1, .int c2, .int c3, .int c4, .int c5, .int c6, .int cell, .int gen, .int n] = some [.bool true] := places_law ⟨c0, c1, c2, c3, c4, c5, c6⟩ cell gen n
end Go.Proofs.Ytifghdombpcpjaa.RU
