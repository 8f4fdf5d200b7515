/-
  The table of all functions of this seat says what the program does (errors, strings and strconv by their contracts, ref01.digit by a walk).
-/
import Derived.Test.YtilkbgdfndifgaaGreatDoorAllR
import Derived.Test.YtilkbgdfndifgaaGreatDoorDigit
namespace Go.Proofs.YtilkbgdfndifgaaGreatDoor
open Go.Proofs.YtilkbgdfndifgaaGreatDoor.Eng
theorem all_ok : FsOk ErrD.gl Tryz.prog FX := fix_ok StrD.ok_baseD prog_ok
end Go.Proofs.YtilkbgdfndifgaaGreatDoor
