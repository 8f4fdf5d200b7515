/-
  errors.Is on data: of a code, and of a fault around a code.
-/
import Derived.Test.YtnaojplgikaeoaaEngX
namespace Go.Proofs.Ytnaojplgikaeoaa.IsD
open Go.Proofs.Ytnaojplgikaeoaa.Eng Go.Proofs.Ytnaojplgikaeoaa
set_option linter.unusedVariables false

def isF : Eng.Fn := fun ds => match ds with
  | [.iface t (.int c), .iface u (.int d)] => if t = 51 ∧ u = 51 then some [.bool (c == d)] else none
  | [.iface t (.agg [_, .iface t2 (.int c)]), .iface u (.int d)] => if t = 70 ∧ t2 = 51 ∧ u = 51 then some [.bool (c == d)] else none
  | _ => none
def isBase : Nat → Eng.Fn := addF none0 35 isF
end Go.Proofs.Ytnaojplgikaeoaa.IsD
