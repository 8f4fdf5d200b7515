import Derived.Test.YtcgcpjajghdbpaaGreatAll
import Derived.Test.YtcgcpjajghdbpaaGreatEngX
namespace Go.Proofs.YtcgcpjajghdbpaaGreat
open Go.Proofs.YtcgcpjajghdbpaaGreat.Eng
theorem E4b:FsOk (Gl.of cfg) Tryz.prog FX:=E3y (E2f _) E3h
end Go.Proofs.YtcgcpjajghdbpaaGreat
