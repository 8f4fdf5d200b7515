/-
  strings.Split, strings.Join, strconv.Atoi, strconv.Itoa on data.
-/
import Derived.Test.YtilkbgdfndifgaaGreatDoorEngX
import Derived.Lib.Split
import Derived.Lib.SplitLaws
import Derived.Lib.Atoi
import Derived.Lib.ItoaNum
import Derived.Lib.Join
import Derived.Lib.Bytealg
namespace Go.Proofs.YtilkbgdfndifgaaGreatDoor.StrD
open Go.Proofs.YtilkbgdfndifgaaGreatDoor.Eng Go.Proofs.YtilkbgdfndifgaaGreatDoor
set_option linter.unusedVariables false

def splitF : Eng.Fn := fun ds => match ds with
  | [.str s, .str sep] => if s.size < 4294967281 ∧ 1 ≤ sep.size then some [.agg ((Go.Lib.splitB sep 0 (Go.Lib.countB s sep) s).map .str)] else none
  | _ => none
/-- strconv.Atoi where it answers: a numeral of at most 18 bytes. -/
def atoiF : Eng.Fn := fun ds => match ds with
  | [.str s] => if s.size ≤ 18 then match Go.Lib.atoi s.data.toList with
    | some n => some [.int n, .nil]
    | none => none
    else none
  | _ => none
def itoaF : Eng.Fn := fun ds => match ds with
  | [.int n] => if -9223372036854775808 ≤ n ∧ n ≤ 9223372036854775807 then some [.str ⟨(Go.Lib.itoa n).toArray⟩] else none
  | _ => none
def joinF : Eng.Fn := fun ds => match ds with
  | [.agg l, .str sep] =>
    if l.length ≤ 140737488355328 ∧ (Go.Lib.join (l.map fun x => x.toStr.data.toList) sep.data.toList).length ≤ 140737488355328
    then some [.str ⟨(Go.Lib.join (l.map fun x => x.toStr.data.toList) sep.data.toList).toArray⟩] else none
  | _ => none
def errs : Nat → Eng.Fn := none0
def base0 : Nat → Eng.Fn := errs
def baseJ : Nat → Eng.Fn := addF base0 19 joinF
def baseI : Nat → Eng.Fn := addF baseJ 17 itoaF
def baseC : Nat → Eng.Fn := baseI
def base : Nat → Eng.Fn := baseC
/-- ref01.digit. -/
def digitF : Eng.Fn := fun ds => match ds with
  | [.int n] => if 0 ≤ n ∧ n ≤ 9 then some [.str ⟨#[UInt8.ofNat (48 + n.toNat)]⟩] else none
  | _ => none
def baseD : Nat → Eng.Fn := addF base 32 digitF
end Go.Proofs.YtilkbgdfndifgaaGreatDoor.StrD
