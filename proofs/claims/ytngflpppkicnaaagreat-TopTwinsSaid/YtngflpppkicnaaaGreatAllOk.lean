import Derived.Test.YtngflpppkicnaaaGreatAll
import Derived.Test.YtngflpppkicnaaaGreatEngX
namespace Go.Proofs.YtngflpppkicnaaaGreat
open Go.Proofs.YtngflpppkicnaaaGreat.Eng
theorem all_ok:FsOk (Gl.of cfg) Tryz.prog FX:=fix_ok (ok_none _) prog_ok
end Go.Proofs.YtngflpppkicnaaaGreat
