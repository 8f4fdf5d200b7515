/-
  The table of all functions of this seat says what the program does (errors, strings and strconv by their contracts).
-/
import Derived.Test.YtnaemggpelolcaaDoorAllR
import Derived.Test.YtnaemggpelolcaaDoorStrOk
namespace Go.Proofs.YtnaemggpelolcaaDoor
open Go.Proofs.YtnaemggpelolcaaDoor.Eng
theorem all_ok : FsOk ErrD.gl Tryd.prog FX := fix_ok StrD.ok_base prog_ok
end Go.Proofs.YtnaemggpelolcaaDoor
