/-
  From what a law answers on data to what its call does.
-/
import Derived.Test.YtnaojplgikaeoaaDat
namespace Go.Proofs.Ytnaojplgikaeoaa.Dat
open Go.Proofs.Ytnaojplgikaeoaa.Eng Go.Proofs.Ytnaojplgikaeoaa Go.RowKit
set_option linter.unusedVariables false
set_option linter.unusedSimpArgs false

theorem rd_ints {P : Program} {W : World} {k : IntKind} {e : TypeId} {A : Option Addr} {len cap : Nat} {zs : List Int} (he : cellTys P e = some [.int k]) (h : IsRow k W A len cap zs) :
    ∃ xs : List Int, xs.length = len ∧ (∀ n ∈ xs, (Lit.int k n).wf = true) ∧ len ≤ cap ∧ Rd P W (fun b => b < W.heap.size) (.slice e) (.agg (xs.map D.int)) (.slice A len cap) := by
  obtain ⟨xs, hx, hw, hr, hl, _⟩ := row_of_isRow h
  refine ⟨xs, hx, hw, hl, ?_⟩
  cases xs with
  | nil =>
    obtain rfl : len = 0 := hx.symm
    exact Rd.snil rfl rfl
  | cons y ys =>
    rcases hr with hr | ⟨b, off, rfl, hc⟩
    · simp at hr
    · have hb : b < W.heap.size := World.block_lt_of_cell? W _ (hc 0 (.int k y) rfl)
      refine Rd.slice (g := fun i _ => .int k ((y :: ys).getD i 0)) rfl he (by simp [← hx]) hl hb ?_ ?_
      · intro i c hi hcc
        simp only [D.toL_agg, List.length_map] at hi
        simp only [List.length_singleton] at hcc
        obtain rfl : c = 0 := by omega
        simp only [List.length_singleton, Nat.mul_one, Nat.add_zero]
        apply hc
        rw [List.getElem?_map, List.getElem?_eq_getElem hi, List.getD_eq_getElem?_getD, List.getElem?_eq_getElem hi]
        rfl
      · intro i c x t hx' ht
        cases c with
        | succ c => simp at ht
        | zero =>
          simp at ht; subst ht
          simp only [D.toL_agg, List.getElem?_map] at hx'
          cases hq : (y :: ys)[i]? with
          | none => rw [hq] at hx'; simp at hx'
          | some z =>
            rw [hq] at hx'
            simp at hx'
            subst hx'
            refine Rd.int ?_
            simp only [cellOf, List.length_singleton, if_true, D.toInt_int, List.getD_eq_getElem?_getD, hq, Option.getD_some]
end Go.Proofs.Ytnaojplgikaeoaa.Dat
