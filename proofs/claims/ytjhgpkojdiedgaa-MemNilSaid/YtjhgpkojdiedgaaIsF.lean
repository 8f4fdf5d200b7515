/-
  errors.Is on data: of a code, and of a fault around a code.
-/
import Derived.Test.YtjhgpkojdiedgaaEngX
namespace Go.Proofs.Ytjhgpkojdiedgaa.IsD
open Go.Proofs.Ytjhgpkojdiedgaa.Eng Go.Proofs.Ytjhgpkojdiedgaa
set_option linter.unusedVariables false

def isF : Eng.Fn := fun ds => match ds with
  | [.iface t (.int c), .iface u (.int d)] => if t = 49 ∧ u = 49 then some [.bool (c == d)] else none
  | [.iface t (.agg [_, .iface t2 (.int c)]), .iface u (.int d)] => if t = 61 ∧ t2 = 49 ∧ u = 49 then some [.bool (c == d)] else none
  | _ => none
def isBase : Nat → Eng.Fn := addF none0 21 isF
end Go.Proofs.Ytjhgpkojdiedgaa.IsD
