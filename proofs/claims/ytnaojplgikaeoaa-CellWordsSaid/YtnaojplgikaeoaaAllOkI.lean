/-
  The table of all functions of this seat says what the program does (errors.Is by its contract).
-/
import Derived.Test.YtnaojplgikaeoaaAllR
import Derived.Test.YtnaojplgikaeoaaLaw
import Derived.Test.YtnaojplgikaeoaaIsOk
namespace Go.Proofs.Ytnaojplgikaeoaa
open Go.Proofs.Ytnaojplgikaeoaa.Eng
theorem all_ok : FsOk Try.prog FX := fix_ok IsD.ok_isBase prog_ok
end Go.Proofs.Ytnaojplgikaeoaa
