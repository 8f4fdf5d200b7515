import Derived.Test.YtckanieeocdpbaaGreatAll
import Derived.Test.YtckanieeocdpbaaGreatEngX
namespace Go.Proofs.YtckanieeocdpbaaGreat
open Go.Proofs.YtckanieeocdpbaaGreat.Eng
theorem H7n:A5j (Gl.of cfg) Tryz.prog FX:=H7r (ok_none _) H4m
end Go.Proofs.YtckanieeocdpbaaGreat
