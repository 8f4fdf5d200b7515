/-
  What functions of the program come to, read by program.
-/
import Derived.Test.YtnaojplgikaeoaaTreesW
namespace Go.Proofs.Ytnaojplgikaeoaa
open Go.Proofs.Ytnaojplgikaeoaa.Eng
set_option linter.unusedVariables false
theorem readCellTurns : execFn Try.prog [] 5 = tCellTurns := by kernel_rfl
end Go.Proofs.Ytnaojplgikaeoaa
