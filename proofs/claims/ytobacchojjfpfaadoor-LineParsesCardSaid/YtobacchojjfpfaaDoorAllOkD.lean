/-
  The table of all functions of this seat says what the program does (errors, strings and strconv by their contracts, ref01.digit by a walk).
-/
import Derived.Test.YtobacchojjfpfaaDoorAllR
import Derived.Test.YtobacchojjfpfaaDoorDigit
namespace Go.Proofs.YtobacchojjfpfaaDoor
open Go.Proofs.YtobacchojjfpfaaDoor.Eng
theorem all_ok : FsOk ErrD.gl Tryd.prog FX := fix_ok StrD.ok_baseD prog_ok
end Go.Proofs.YtobacchojjfpfaaDoor
