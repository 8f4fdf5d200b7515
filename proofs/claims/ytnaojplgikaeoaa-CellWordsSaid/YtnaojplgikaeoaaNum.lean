/-
  law01.Num on data.
-/
import Derived.Test.YtnaojplgikaeoaaFDat
import Derived.Test.YtnaojplgikaeoaaIsF
namespace Go.Proofs.Ytnaojplgikaeoaa.FDat
open Go.Proofs.Ytnaojplgikaeoaa.Eng Go.Proofs.Ytnaojplgikaeoaa Go.Proofs.Ytnaojplgikaeoaa.Dat
set_option linter.unusedVariables false
set_option linter.unusedSimpArgs false
set_option linter.unusedSectionVars false

theorem is_eq (ds : List D) : FX 35 ds = IsD.isF ds := by
  have h : FX 35 = IsD.isBase 35 := fix_base (by rfl)
  rw [h]; rfl
/-- An error: none, a code, a code at a place. -/
def errD (c : Int) (p : Option Int) : D := if c = 0 then .nil else match p with | some i => errAt i c | none => code c
theorem num_loop (c : Int) (hc : 1 ≤ c ∧ c ≤ 29) (p : Option Int) : ∀ (d : Nat) (i : Int), i + d = c → 1 ≤ i → W_law01_Num_1 (errD c p) [.int i] = some [.int c]
  | d, i, h, hi => by
    have hne : c ≠ 0 := by omega
    have hlt : i < 30 := by omega
    have his : FX 35 [errD c p, .iface 51 (.int i)] = some [.bool (c == i)] := by
      rw [is_eq]
      unfold errD
      rw [if_neg hne]
      cases p <;> rfl
    rw [W_law01_Num_1_eq]
    simp only [D.toInt_int, hlt, decide_true, if_true, his, bindC, List.length_cons, List.length_nil, List.getD_cons_zero, D.toBool_bool]
    by_cases he : c = i
    · simp [he]
    · have hb : (c == i) = false := by simpa using he
      simp only [hb, Bool.false_eq_true, if_false]
      rw [i64w _ (by omega) (by omega)]
      match d, h with
      | 0, h => omega
      | d + 1, h => exact num_loop c hc p d (i + 1) (by omega) (by omega)
theorem num_eq (c : Int) (hc : 0 ≤ c ∧ c ≤ 29) (p : Option Int) : FX 20 [errD c p] = some [.int c] := by
  rw [E_law01_Num]
  by_cases h0 : c = 0
  · subst h0; simp [errD]
  · have hn : (errD c p).isNil = false := by
      unfold errD; rw [if_neg h0]; cases p <;> rfl
    simp only [hn, Bool.false_eq_true, if_false]
    exact num_loop c (by omega) p (c - 1).toNat 1 (by omega) (by omega)
/-- A word that was packed gives its numbers back. -/
theorem getZ_pack {ws ns : List Nat} (hf : Fits ws ns) {i : Nat} (hi : i < ws.length) : getZ ws (packN ws ns) (i : Int) = ((ns.getD i 0 : Nat) : Int) := by
  have hl := fits_length hf
  unfold getZ
  rw [if_neg (by omega), Int.toNat_natCast, getN_fields ws _ i hi]
  congr 1
  simp only [fields_pack hf]
  rw [List.getD_eq_getElem?_getD, List.getElem?_eq_getElem (by omega)]
  rfl
end Go.Proofs.Ytnaojplgikaeoaa.FDat
