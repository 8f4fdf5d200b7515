/-
  errors.Is and errors.As on data. (The fuel, 100, bounds how deep errors are.)
-/
import Derived.Test.YtnaokofklgbbcaaDoorEngX
namespace Go.Proofs.YtnaokofklgbbcaaDoor.ErrD
open Go.Proofs.YtnaokofklgbbcaaDoor.Eng Go.Proofs.YtnaokofklgbbcaaDoor
set_option linter.unusedVariables false

/-- Whether a code is within an error. -/
def isN : Nat → D → Int → Option Bool
  | n + 1, .iface t x, k =>
    if t = 27 then (match x with | .int c => some (c == k) | _ => none)
    else if t = 47 then (match x with | .agg [_, .nil] => some false | .agg [_, .iface u y] => isN n (.iface u y) k | _ => none)
    else if t = 50 then (match x with | .agg [_, .nil] => some false | .agg [_, .iface u y] => isN n (.iface u y) k | _ => none)
    else none
  | _, _, _ => none
def isE : D → Int → Option Bool
  | .iface t x, k => isN 100 (.iface t x) k
  | _, _ => none
def isL : List D → Int → Option (List Bool)
  | [], _ => some []
  | x :: l, k => match isE x k, isL l k with
    | some b, some bs => some (b :: bs)
    | _, _ => none
/-- Of several errors at once. -/
def isAllF (x : D) (k : Int) : Option (List D) := match x with
  | .agg l => if 0 < l.length ∧ l.length ≤ 100 then (isL l k).map fun bs => [.bool (bs.any id)] else none
  | _ => none
def asHead (x : D) : Option D := match x with
  | .agg (.iface u y :: _) => some (.iface u y)
  | _ => none
def isF : Eng.Fn := fun ds => match ds with
  | [.nil, .iface u (.int k)] => if u = 27 then some [.bool false] else none
  | [.iface t x, .iface u (.int k)] => if u = 27 then (match isN 100 (.iface t x) k with
    | some b => some [.bool b]
    | none => if t = 61 then isAllF x k else none) else none
  | _ => none
/-- The fault that is found within an error. -/
def asF : Nat → D → Option (Option D)
  | n + 1, .iface t x =>
    if t = 47 then (match x with | .agg [p, q] => some (some (.agg [p, q])) | _ => none) else
    if t = 50 then (match x with | .agg [_, .nil] => some none | .agg [_, .iface u y] => asF n (.iface u y) | _ => none) else
    if t = 27 then some none else
    none
  | _, _ => none
def asN : Nat → D → Option (Option D)
  | n + 1, .iface t x =>
    if t = 47 then (match x with | .agg [_, .nil] => some none | .agg [_, .iface u y] => asN n (.iface u y) | _ => none) else
    if t = 50 then (match x with | .agg [p, q] => some (some (.agg [p, q])) | _ => none) else
    if t = 27 then some none else
    none
  | _, _ => none
def asC : Nat → D → Option (Option D)
  | n + 1, .iface t x =>
    if t = 47 then (match x with | .agg [_, .nil] => some none | .agg [_, .iface u y] => asC n (.iface u y) | _ => none) else
    if t = 50 then (match x with | .agg [_, .nil] => some none | .agg [_, .iface u y] => asC n (.iface u y) | _ => none) else
    if t = 27 then (match x with | .int c => some (some (.int c)) | _ => none) else
    none
  | _, _ => none
/-- What errors.As leaves of a variable. -/
def asRes (h : D) (n : Int) : Option (Option D) → Option (List D)
  | some none => some [.bool false, h]
  | some (some y) => some [.bool true, .agg (h.toL.set n.toNat (.agg [y]))]
  | none => none
def asFn : Eng.Fn := fun ds => match ds with
  | [.nil, .iface u (.int n), h] => some [.bool false, h]
  | [.iface t x, .iface u (.int n), h] =>
    if u = 54 then asRes h n (asF 100 (.iface t x)) else
    if u = 55 then asRes h n (asN 100 (.iface t x)) else
    if u = 56 then (match asC 100 (.iface t x) with
      | some b => asRes h n (some b)
      | none => if t = 61 then (match asHead x with
        | some e => (match asC 100 e with
          | some (some y) => asRes h n (some (some y))
          | _ => none)
        | none => none) else none) else
    none
  | _ => none
def base : Nat → Eng.Fn := addF (addF none0 16 isF) 19 asFn
end Go.Proofs.YtnaokofklgbbcaaDoor.ErrD
