/-
  errors.Is and errors.As on data. (The fuel, 100, bounds how deep errors are.)
-/
import Derived.Test.YtofkbhilhgmnlaaEngX
namespace Go.Proofs.Ytofkbhilhgmnlaa.ErrD
open Go.Proofs.Ytofkbhilhgmnlaa.Eng Go.Proofs.Ytofkbhilhgmnlaa
set_option linter.unusedVariables false

/-- Whether a code is within an error. -/
def isN : Nat → D → Int → Option Bool
  | n + 1, .iface t x, k =>
    if t = 58 then (match x with | .int c => some (c == k) | _ => none)
    else if t = 66 then (match x with | .agg [_, .nil] => some false | .agg [_, .iface u y] => isN n (.iface u y) k | _ => none)
    else if t = 69 then (match x with | .agg [_, .nil] => some false | .agg [_, .iface u y] => isN n (.iface u y) k | _ => none)
    else none
  | _, _, _ => none
def isF : Eng.Fn := fun ds => match ds with
  | [.nil, .iface u (.int k)] => if u = 58 then some [.bool false] else none
  | [.iface t x, .iface u (.int k)] => if u = 58 then (isN 100 (.iface t x) k).map fun b => [.bool b] else none
  | _ => none
/-- What errors.As leaves of a variable. -/
def asRes (h : D) (n : Int) : Option (Option D) → Option (List D)
  | some none => some [.bool false, h]
  | some (some y) => some [.bool true, .agg (h.toL.set n.toNat (.agg [y]))]
  | none => none
def asFn : Eng.Fn := fun ds => match ds with
  | [.nil, .iface u (.int n), h] => some [.bool false, h]
  | [.iface t x, .iface u (.int n), h] =>
    none
  | _ => none
def base : Nat → Eng.Fn := addF none0 23 isF
end Go.Proofs.Ytofkbhilhgmnlaa.ErrD
