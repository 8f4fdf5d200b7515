/-
  The table of all functions of this seat says what the program does.
-/
import Derived.Test.YtkfdphhloodhiaaAllR
import Derived.Test.YtkfdphhloodhiaaEngQ
namespace Go.Proofs.Ytkfdphhloodhiaa
open Go.Proofs.Ytkfdphhloodhiaa.Eng
theorem all_ok : FsOk (Gl.of cfg) Try.prog FX := fix_ok (ok_none _) prog_ok
end Go.Proofs.Ytkfdphhloodhiaa
