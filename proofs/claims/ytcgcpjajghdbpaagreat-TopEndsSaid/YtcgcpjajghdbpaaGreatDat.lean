import Derived.Test.YtcgcpjajghdbpaaGreatEngX
namespace Go.Proofs.YtcgcpjajghdbpaaGreat.Dat
open Go.Proofs.YtcgcpjajghdbpaaGreat.Eng
set_option linter.unusedVariables false
set_option linter.unusedSimpArgs false
theorem D4j(x:Int)(h1:-9223372036854775808≤x)(h2:x≤9223372036854775807):IntKind.i64.wrap x=x:=by
 simp[IntKind.wrap,IntKind.bits,IntKind.signed];omega
theorem i64w(x:Int)(h1:-9223372036854775808≤x)(h2:x≤9223372036854775807):IntKind.i64.wrap x=x:=by
 simp[IntKind.wrap,IntKind.bits,IntKind.signed];omega
end Go.Proofs.YtcgcpjajghdbpaaGreat.Dat
