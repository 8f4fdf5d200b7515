/-
  The table of all functions of this seat says what the program does.
-/
import Derived.Test.YtifghdombpcpjaaAllR
import Derived.Test.YtifghdombpcpjaaEngQ
namespace Go.Proofs.Ytifghdombpcpjaa
open Go.Proofs.Ytifghdombpcpjaa.Eng
theorem all_ok : FsOk (Gl.of cfg) Try.prog FX := fix_ok (ok_none _) prog_ok
end Go.Proofs.Ytifghdombpcpjaa
