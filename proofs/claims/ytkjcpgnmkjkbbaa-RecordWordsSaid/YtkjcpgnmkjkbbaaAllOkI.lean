/-
  The table of all functions of this seat says what the program does (errors.Is by its contract).
-/
import Derived.Test.YtkjcpgnmkjkbbaaAllR
import Derived.Test.YtkjcpgnmkjkbbaaLaw
import Derived.Test.YtkjcpgnmkjkbbaaIsOk
namespace Go.Proofs.Ytkjcpgnmkjkbbaa
open Go.Proofs.Ytkjcpgnmkjkbbaa.Eng
theorem all_ok : FsOk Try.prog FX := fix_ok IsD.ok_isBase prog_ok
end Go.Proofs.Ytkjcpgnmkjkbbaa
