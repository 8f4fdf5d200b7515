/-
  The table of all functions of this seat says what the program does.
-/
import Derived.Test.YtjhgpkojdiedgaaAllR
import Derived.Test.YtjhgpkojdiedgaaEngQ
namespace Go.Proofs.Ytjhgpkojdiedgaa
open Go.Proofs.Ytjhgpkojdiedgaa.Eng
theorem all_ok : FsOk (Gl.of cfg) Try.prog FX := fix_ok (ok_none _) prog_ok
end Go.Proofs.Ytjhgpkojdiedgaa
