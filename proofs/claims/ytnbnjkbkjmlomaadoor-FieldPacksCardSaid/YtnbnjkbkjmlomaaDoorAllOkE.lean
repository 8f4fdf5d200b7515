/-
  The table of all functions of this seat says what the program does (errors.Is, errors.As by their contracts).
-/
import Derived.Test.YtnbnjkbkjmlomaaDoorAllR
import Derived.Test.YtnbnjkbkjmlomaaDoorErrOk
namespace Go.Proofs.YtnbnjkbkjmlomaaDoor
open Go.Proofs.YtnbnjkbkjmlomaaDoor.Eng
theorem all_ok : FsOk ErrD.gl Tryd.prog FX := fix_ok ErrD.ok_base prog_ok
end Go.Proofs.YtnbnjkbkjmlomaaDoor
