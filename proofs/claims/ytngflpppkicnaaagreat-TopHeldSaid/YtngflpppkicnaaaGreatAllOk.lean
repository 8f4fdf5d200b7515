import Derived.Test.YtngflpppkicnaaaGreatAll
import Derived.Test.YtngflpppkicnaaaGreatEngX
namespace Go.Proofs.YtngflpppkicnaaaGreat
open Go.Proofs.YtngflpppkicnaaaGreat.Eng
theorem H3c:A4y (Gl.of cfg) Tryz.prog FX:=H3i (ok_none _) H0v
end Go.Proofs.YtngflpppkicnaaaGreat
