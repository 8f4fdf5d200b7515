/-
  The table of all functions of this seat says what the program does.
-/
import Derived.Test.YtnaojplgikaeoaaAllR
import Derived.Test.YtnaojplgikaeoaaLaw
namespace Go.Proofs.Ytnaojplgikaeoaa
open Go.Proofs.Ytnaojplgikaeoaa.Eng
theorem all_ok : FsOk Try.prog FX := fix_ok (ok_none _) prog_ok
end Go.Proofs.Ytnaojplgikaeoaa
