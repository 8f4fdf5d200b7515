/-
  The table of all functions of this seat says what the program does.
-/
import Derived.Test.YtkjcpgnmkjkbbaaAllR
import Derived.Test.YtkjcpgnmkjkbbaaLaw
namespace Go.Proofs.Ytkjcpgnmkjkbbaa
open Go.Proofs.Ytkjcpgnmkjkbbaa.Eng
theorem all_ok : FsOk Try.prog FX := fix_ok (ok_none _) prog_ok
end Go.Proofs.Ytkjcpgnmkjkbbaa
