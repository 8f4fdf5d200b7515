/-
  strings.Split, strings.Join, strconv.Atoi, strconv.Itoa on data.
-/
import Derived.Test.YtnaemggpelolcaaGreatDoorErrF
import Derived.Lib.Split
import Derived.Lib.SplitLaws
import Derived.Lib.Atoi
import Derived.Lib.ItoaNum
import Derived.Lib.Join
import Derived.Lib.CutLaws
import Derived.Lib.Bytealg
namespace Go.Proofs.YtnaemggpelolcaaGreatDoor.StrD
open Go.Proofs.YtnaemggpelolcaaGreatDoor.Eng Go.Proofs.YtnaemggpelolcaaGreatDoor
set_option linter.unusedVariables false

def splitF : Eng.Fn := fun ds => match ds with
  | [.str s, .str sep] => if s.size < 4294967281 ∧ 1 ≤ sep.size then some [.agg ((Go.Lib.splitB sep 0 (Go.Lib.countB s sep) s).map .str)] else none
  | _ => none
/-- strconv.Atoi where it answers: a numeral of at most 18 bytes. -/
def atoiF : Eng.Fn := fun ds => match ds with
  | [.str s] => if s.size ≤ 18 then match Go.Lib.atoi s.data.toList with
    | some n => some [.int n, .nil]
    | none => none
    else none
  | _ => none
def itoaF : Eng.Fn := fun ds => match ds with
  | [.int n] => if -9223372036854775808 ≤ n ∧ n ≤ 9223372036854775807 then some [.str ⟨(Go.Lib.itoa n).toArray⟩] else none
  | _ => none
def joinF : Eng.Fn := fun ds => match ds with
  | [.agg l, .str sep] =>
    if l.length ≤ 140737488355328 ∧ (Go.Lib.join (l.map fun x => x.toStr.data.toList) sep.data.toList).length ≤ 140737488355328
    then some [.str ⟨(Go.Lib.join (l.map fun x => x.toStr.data.toList) sep.data.toList).toArray⟩] else none
  | _ => none
def errs : Nat → Eng.Fn := ErrD.base
def base0 : Nat → Eng.Fn := addF (addF errs 33 splitF) 49 atoiF
def baseJ : Nat → Eng.Fn := base0
def baseI : Nat → Eng.Fn := addF baseJ 18 itoaF
def cutF : Eng.Fn := fun ds => match ds with
  | [.str s, .str sep] => if s.size < 4294967281 then some [.str ⟨(Go.Lib.cut s.data.toList sep.data.toList).1.toArray⟩, .str ⟨(Go.Lib.cut s.data.toList sep.data.toList).2.1.toArray⟩, .bool (Go.Lib.cut s.data.toList sep.data.toList).2.2] else none
  | _ => none
def baseC : Nat → Eng.Fn := addF baseI 29 cutF
/-- strings.Contains of one byte. -/
def hasF : Eng.Fn := fun ds => match ds with
  | [.str s, .str sub] => match sub.data.toList with
    | [c] => some [.bool (decide (0 ≤ Go.Lib.indexByte s.data.toList c))]
    | _ => none
  | _ => none
def base : Nat → Eng.Fn := addF baseC 43 hasF
/-- ref01.digit. -/
def digitF : Eng.Fn := fun ds => match ds with
  | [.int n] => if 0 ≤ n ∧ n ≤ 9 then some [.str ⟨#[UInt8.ofNat (48 + n.toNat)]⟩] else none
  | _ => none
def baseD : Nat → Eng.Fn := addF base 25 digitF
end Go.Proofs.YtnaemggpelolcaaGreatDoor.StrD
