import Derived.Test.YtngflpppkicnaaaGreatEngX
namespace Go.Proofs.YtngflpppkicnaaaGreat.Dat
open Go.Proofs.YtngflpppkicnaaaGreat.Eng
set_option linter.unusedVariables false
set_option linter.unusedSimpArgs false
theorem wrap_small(x:Int)(h1:-9223372036854775808≤x)(h2:x≤9223372036854775807):IntKind.i64.wrap x=x:=by
 simp[IntKind.wrap,IntKind.bits,IntKind.signed];omega
theorem i64w(x:Int)(h1:-9223372036854775808≤x)(h2:x≤9223372036854775807):IntKind.i64.wrap x=x:=by
 simp[IntKind.wrap,IntKind.bits,IntKind.signed];omega
end Go.Proofs.YtngflpppkicnaaaGreat.Dat
