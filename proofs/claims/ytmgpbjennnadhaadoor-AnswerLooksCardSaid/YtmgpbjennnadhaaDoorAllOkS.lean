/-
  The table of all functions of this seat says what the program does (errors, strings and strconv by their contracts).
-/
import Derived.Test.YtmgpbjennnadhaaDoorAllR
import Derived.Test.YtmgpbjennnadhaaDoorStrOk
namespace Go.Proofs.YtmgpbjennnadhaaDoor
open Go.Proofs.YtmgpbjennnadhaaDoor.Eng
theorem all_ok : FsOk ErrD.gl Tryd.prog FX := fix_ok StrD.ok_base prog_ok
end Go.Proofs.YtmgpbjennnadhaaDoor
