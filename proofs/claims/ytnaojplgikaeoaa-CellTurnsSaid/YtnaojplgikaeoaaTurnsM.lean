/-
  The law CellTurns walks to true.
-/
import Derived.Test.YtnaojplgikaeoaaTurnsL
import Derived.Test.YtnaojplgikaeoaaTreesV
namespace Go.Proofs.Ytnaojplgikaeoaa.CS
open Go.RowKit Go.Proofs.Ytnaojplgikaeoaa.Eng Go.Proofs.Ytnaojplgikaeoaa
theorem turns_walk (k : Int) (f : Bool) (g l n q m p : Int) (W : World) :
    Calls Try.prog 5 #[.agg #[.int .i64 k, .bool f, .int .i64 g, .int .i64 l, .int .i64 n], .int .i64 q, .int .i64 m, .int .i64 p] W fun e w' => e = .returned (.bool true) ∧ Below W.heap.size W w' := by
  have hsig : sigOf Try.prog 5 = some ([.agg [.int .i64, .bool, .int .i64, .int .i64, .int .i64], .one (.int .i64), .one (.int .i64), .one (.int .i64)], [.one .bool]) := by kernel_rfl
  have h := fn_sound okT [] 5 hsig (fuel := 0) (ds := (St.mk k f g l n).ds ++ [.int q, .int m, .int p]) (r := [.bool true]) (by rw [readCellTurns]; exact turns_eq ⟨k, f, g, l, n⟩ q m p)
  exact law_calls h (args_agg (us := [.int .i64 k, .bool f, .int .i64 g, .int .i64 l, .int .i64 n]) ⟨Rd.int rfl, Rd.bool rfl, Rd.int rfl, Rd.int rfl, Rd.int rfl, trivial⟩ (args_one (Rd.int rfl) (args_one (Rd.int rfl) (args_one (Rd.int rfl) args_nil))))
end Go.Proofs.Ytnaojplgikaeoaa.CS
