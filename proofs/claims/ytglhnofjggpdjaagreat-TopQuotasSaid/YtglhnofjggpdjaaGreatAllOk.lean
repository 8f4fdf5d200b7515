import Derived.Test.YtglhnofjggpdjaaGreatAll
import Derived.Test.YtglhnofjggpdjaaGreatEngX
namespace Go.Proofs.YtglhnofjggpdjaaGreat
open Go.Proofs.YtglhnofjggpdjaaGreat.Eng
theorem H2k:A4v (Gl.of cfg) Tryz.prog FX:=H2o (ok_none _) H0v
end Go.Proofs.YtglhnofjggpdjaaGreat
