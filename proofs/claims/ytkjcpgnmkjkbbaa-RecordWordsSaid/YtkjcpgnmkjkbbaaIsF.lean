/-
  errors.Is on data: of a code, and of a fault around a code.
-/
import Derived.Test.YtkjcpgnmkjkbbaaEngX
namespace Go.Proofs.Ytkjcpgnmkjkbbaa.IsD
open Go.Proofs.Ytkjcpgnmkjkbbaa.Eng Go.Proofs.Ytkjcpgnmkjkbbaa
set_option linter.unusedVariables false

def isF : Eng.Fn := fun ds => match ds with
  | [.iface t (.int c), .iface u (.int d)] => if t = 57 ∧ u = 57 then some [.bool (c == d)] else none
  | [.iface t (.agg [_, .iface t2 (.int c)]), .iface u (.int d)] => if t = 71 ∧ t2 = 57 ∧ u = 57 then some [.bool (c == d)] else none
  | _ => none
def isBase : Nat → Eng.Fn := addF none0 27 isF
end Go.Proofs.Ytkjcpgnmkjkbbaa.IsD
