/-
  The table of all functions of this seat says what the program does (errors.Is by its contract).
-/
import Derived.Test.YtjhgpkojdiedgaaAllR
import Derived.Test.YtjhgpkojdiedgaaIsOk
namespace Go.Proofs.Ytjhgpkojdiedgaa
open Go.Proofs.Ytjhgpkojdiedgaa.Eng
theorem all_ok : FsOk (Gl.of cfg) Try.prog FX := fix_ok IsD.ok_isBase prog_ok
end Go.Proofs.Ytjhgpkojdiedgaa
