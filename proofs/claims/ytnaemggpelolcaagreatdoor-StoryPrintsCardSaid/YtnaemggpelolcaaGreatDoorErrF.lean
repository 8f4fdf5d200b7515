/-
  errors.Is and errors.As on data. (The fuel, 100, bounds how deep errors are.)
-/
import Derived.Test.YtnaemggpelolcaaGreatDoorEngX
namespace Go.Proofs.YtnaemggpelolcaaGreatDoor.ErrD
open Go.Proofs.YtnaemggpelolcaaGreatDoor.Eng Go.Proofs.YtnaemggpelolcaaGreatDoor
set_option linter.unusedVariables false

/-- Whether a code is within an error. -/
def isN : Nat → D → Int → Option Bool
  | n + 1, .iface t x, k =>
    if t = 50 then (match x with | .int c => some (c == k) | _ => none)
    else if t = 58 then (match x with | .agg [_, .nil] => some false | .agg [_, .iface u y] => isN n (.iface u y) k | _ => none)
    else if t = 63 then (match x with | .agg [_, .nil] => some false | .agg [_, .iface u y] => isN n (.iface u y) k | _ => none)
    else none
  | _, _, _ => none
def isF : Eng.Fn := fun ds => match ds with
  | [.nil, .iface u (.int k)] => if u = 50 then some [.bool false] else none
  | [.iface t x, .iface u (.int k)] => if u = 50 then (isN 100 (.iface t x) k).map fun b => [.bool b] else none
  | _ => none
/-- The fault that is found within an error. -/
def asF : Nat → D → Option (Option D)
  | n + 1, .iface t x =>
    if t = 58 then (match x with | .agg [p, q] => some (some (.agg [p, q])) | _ => none) else
    if t = 63 then (match x with | .agg [_, .nil] => some none | .agg [_, .iface u y] => asF n (.iface u y) | _ => none) else
    if t = 50 then some none else
    none
  | _, _ => none
def asN : Nat → D → Option (Option D)
  | n + 1, .iface t x =>
    if t = 58 then (match x with | .agg [_, .nil] => some none | .agg [_, .iface u y] => asN n (.iface u y) | _ => none) else
    if t = 63 then (match x with | .agg [p, q] => some (some (.agg [p, q])) | _ => none) else
    if t = 50 then some none else
    none
  | _, _ => none
/-- What errors.As leaves of a variable. -/
def asRes (h : D) (n : Int) : Option (Option D) → Option (List D)
  | some none => some [.bool false, h]
  | some (some y) => some [.bool true, .agg (h.toL.set n.toNat (.agg [y]))]
  | none => none
def asFn : Eng.Fn := fun ds => match ds with
  | [.nil, .iface u (.int n), h] => some [.bool false, h]
  | [.iface t x, .iface u (.int n), h] =>
    if u = 60 then asRes h n (asF 100 (.iface t x)) else
    if u = 64 then asRes h n (asN 100 (.iface t x)) else
    none
  | _ => none
def base : Nat → Eng.Fn := addF (addF none0 24 isF) 23 asFn
end Go.Proofs.YtnaemggpelolcaaGreatDoor.ErrD
