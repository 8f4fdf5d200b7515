/-
  The law RulesBands answers true at any call.
-/
import Derived.Test.YtifghdombpcpjaaBd
import Derived.Test.YtifghdombpcpjaaAllOk
namespace Go.Proofs.Ytifghdombpcpjaa.RU
open Go.Proofs.Ytifghdombpcpjaa.Eng Go.Proofs.Ytifghdombpcpjaa
theorem bands_true (c0 c1 c2 c3 c4 c5 c6 s p o : Int) (_ : (Lit.int .i64 c0).wf = true) (_ : (Lit.int .i64 c1).wf = true) (_ : (Lit.int .i64 c2).wf = true) (_ : (Lit.int .i64 c3).wf = true) (_ : (Lit.int .i64 c4).wf = true) (_ : (Lit.int .i64 c5).wf = true) (_ : (Lit.int .i64 c6).wf = true)
    (_ : (Lit.int .i64 s).wf = true) (_ : (Lit.int .i64 p).wf = true) (_ : (Lit.int .i64 o).wf = true) :
    FX 6 [.int c0, .int c1, .int c2, .int c3, .int c4, .int c5, .int c6, .int s, .int p, .int o] = some [.bool true] := bands_law ⟨c0, c1, c2, c3, c4, c5, c6⟩ s p o
end Go.Proofs.Ytifghdombpcpjaa.RU
