/-
  The table of all functions of this seat says what the program does (errors.Is, errors.As by their contracts).
-/
import Derived.Test.YtofkbhilhgmnlaaAllR
import Derived.Test.YtofkbhilhgmnlaaErrOk
namespace Go.Proofs.Ytofkbhilhgmnlaa
open Go.Proofs.Ytofkbhilhgmnlaa.Eng
theorem all_ok : FsOk (Gl.of cfg) Try.prog FX := fix_ok ErrD.ok_base prog_ok
end Go.Proofs.Ytofkbhilhgmnlaa
