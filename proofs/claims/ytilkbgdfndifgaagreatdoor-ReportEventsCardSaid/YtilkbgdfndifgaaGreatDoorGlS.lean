/-
  What is known of the package's variables, where the seat has neither errors.Is nor errors.As.
-/
import Derived.Lib.ItoaNum
import Derived.Test.YtilkbgdfndifgaaGreatDoorAll
import Derived.Test.YtilkbgdfndifgaaGreatDoorProg
import Derived.KernelRfl
namespace Go.Proofs.YtilkbgdfndifgaaGreatDoor.ErrD
open Go.RowKit Go.Proofs.YtilkbgdfndifgaaGreatDoor.Eng Go.Proofs.YtilkbgdfndifgaaGreatDoor
set_option linter.unusedVariables false

def maxOk (w : World) (F : Fr) : Prop := F 2 ∧ ∃ m, w.cell? ⟨2, 0, none⟩ = some (.int .i64 m)
def tabOk (w : World) (F : Fr) : Prop := F 1 ∧ w.var? Tryz.prog "internal/strconv.uint64pow10" = some (Go.Lib.pow10Tab.map fun z => Value.int .u64 z).toArray
def strOk (w : World) (F : Fr) : Prop := maxOk w F ∧ tabOk w F
theorem strOk_mono {w w' : World} {F F' : Fr} (h : Le w F w' F') (q : strOk w F) : strOk w' F' := by
  refine ⟨?_, ?_⟩
  · obtain ⟨m, hm⟩ := q.1.2
    exact ⟨(h.b _ q.1.1).1, m, by rw [cell?_of_heap (h.b _ q.1.1).2]; exact hm⟩
  · refine ⟨(h.b _ q.2.1).1, ?_⟩
    have hn : Tryz.prog.globalNamed "internal/strconv.uint64pow10" = some 1 := by kernel_rfl
    have := q.2.2
    unfold World.var? at this ⊢
    rw [hn] at this ⊢
    simp only [Option.bind_some] at this ⊢
    rw [(h.b _ q.2.1).2]; exact this
def gl : Gl where
  cf := cfg
  ok := fun w F => GsOk cfg.gs w F ∧ strOk w F
  mono := fun {w w' F F'} h q => ⟨GsOk.mono h q.1, strOk_mono h q.2⟩
  glo := fun q => q.1
def base : Nat → Eng.Fn := none0
theorem ok_base : FsOk gl Tryz.prog base := ok_none _
end Go.Proofs.YtilkbgdfndifgaaGreatDoor.ErrD
