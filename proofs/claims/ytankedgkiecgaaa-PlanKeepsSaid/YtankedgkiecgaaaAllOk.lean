/-
  The table of all functions of this seat says what the program does.
-/
import Derived.Test.YtankedgkiecgaaaAllR
import Derived.Test.YtankedgkiecgaaaEngQ
namespace Go.Proofs.Ytankedgkiecgaaa
open Go.Proofs.Ytankedgkiecgaaa.Eng
theorem all_ok : FsOk (Gl.of cfg) Try.prog FX := fix_ok (ok_none _) prog_ok
end Go.Proofs.Ytankedgkiecgaaa
