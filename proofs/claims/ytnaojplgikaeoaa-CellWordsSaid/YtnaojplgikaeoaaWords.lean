/-
  The law CellWords, on data.
-/
import Derived.Test.YtnaojplgikaeoaaCelD
namespace Go.Proofs.Ytnaojplgikaeoaa.CW
open Go.RowKit Go.Proofs.Ytnaojplgikaeoaa.Eng Go.Proofs.Ytnaojplgikaeoaa Go.Proofs.Ytnaojplgikaeoaa.Dat Go.Proofs.Ytnaojplgikaeoaa.FDat
set_option linter.unusedVariables false
set_option linter.unusedSimpArgs false
set_option linter.unusedSectionVars false

theorem loose_eq (k : Int) (x1 x2 x3 x4 : D) : FX 17 [.int k, x1, x2, x3, x4] = some [.bool (decide (k = 1 ∨ k = 2))] := by
  rw [E_cell_Loose]
  by_cases h1 : k = 1
  · simp [h1]
  · by_cases h2 : k = 2 <;> simp [h1, h2]
theorem held_eq (k : Int) (x1 x2 x3 x4 : D) : FX 16 [.int k, x1, x2, x3, x4] = some [.bool (decide (k = 3 ∨ k = 4))] := by
  rw [E_cell_Held]
  by_cases h1 : k = 3
  · simp [h1]
  · by_cases h2 : k = 4 <;> simp [h1, h2]
theorem over_eq (k : Int) (x1 x2 x3 x4 : D) : FX 7 [.int k, x1, x2, x3, x4] = some [.bool (decide (5 ≤ k) && decide (k ≤ 8))] := by
  rw [E_cell_Over]
  by_cases h1 : 5 ≤ k
  · by_cases h2 : k ≤ 8 <;> simp [h1, h2]
  · simp [h1]
theorem live_eq (k : Int) (x1 x2 x3 x4 : D) : FX 15 [.int k, x1, x2, x3, x4] = some [.bool (decide (k = 1 ∨ k = 2) || decide (k = 3 ∨ k = 4))] := by
  rw [E_cell_Live]
  by_cases h1 : 1 ≤ k
  · by_cases h2 : k ≤ 4
    · have : (k = 1 ∨ k = 2) ∨ (k = 3 ∨ k = 4) := by omega
      rcases this with h | h <;> rcases h with rfl | rfl <;> simp
    · have a : ¬ (k = 1 ∨ k = 2) := by omega
      have b : ¬ (k = 3 ∨ k = 4) := by omega
      simp [h1, h2, a, b]
  · have a : ¬ (k = 1 ∨ k = 2) := by omega
    have b : ¬ (k = 3 ∨ k = 4) := by omega
    simp [h1, a, b]
theorem rloose_eq (k : Int) : FX 24 [.int k] = some [.bool (decide (k = 1 ∨ k = 2))] := by
  rw [E_ref06_Loose]
  by_cases h1 : k = 1
  · simp [h1]
  · by_cases h2 : k = 2 <;> simp [h1, h2]
theorem rheld_eq (k : Int) : FX 29 [.int k] = some [.bool (decide (k = 3 ∨ k = 4))] := by
  rw [E_ref06_Held]
  by_cases h1 : k = 3
  · simp [h1]
  · by_cases h2 : k = 4 <;> simp [h1, h2]
theorem awake_eq : FX 13 [] = some [.bool true] := by
  have h1 : FX 8 [.int 2, .bool false, .int 1, .int 5, .int 0, .int 5, .int 3] = some [.int 5, .bool false, .int 1, .int 0, .int 1, .nil] := by
    rw [E_cell_Take, loose_eq]
    simp only [bindC, List.length_cons, List.length_nil, if_true, List.getD_cons_zero, D.toBool_bool, D.toInt_int]
    have e1 : IntKind.i64.wrap (5 - 5) = 0 := rfl
    have e2 : IntKind.i64.wrap (0 + 1) = 1 := rfl
    rw [e1, e2, E_cell_ended]
    rfl
  have h2 : FX 9 [.int 4, .bool true, .int 1, .int 5, .int 0, .int 0, .int 3] = some [.int 6, .bool false, .int 1, .int 5, .int 0, .nil] := by
    have e1 : FX 33 [.int 4, .bool true, .int 1, .int 5, .int 0] = some [.int 2, .bool true, .int 1, .int 5, .int 0] := by rw [E_cell_loosen]; rfl
    have e2 : FX 32 [.int 2, .bool true, .int 1, .int 5, .int 0, .int 3] = some [.int 2, .bool true, .int 1, .int 5, .int 0] := by rw [E_cell_ended]; rfl
    rw [E_cell_Release, held_eq]
    simp [bindC, e1, e2]
  rw [E_law06_awake, h1, h2]
  rfl
theorem names (k : Int) (f : Bool) (g l n : Int) : ∃ s, FX 30 [.int k, .bool f, .int g, .int l, .int n] = some [.str s] ∧ FX 31 [.int k] = some [.str s] := by
  rw [E_cell_Kind, E_ref06_Name]
  by_cases h0 : k < 0
  · exact ⟨_, by simp [J_cell_Kind_1_eq, show ¬ k = 0 by omega, show ¬ k = 1 by omega, show ¬ k = 2 by omega, show ¬ k = 3 by omega, show ¬ k = 4 by omega, show ¬ k = 5 by omega, show ¬ k = 6 by omega, show ¬ k = 7 by omega, show ¬ k = 8 by omega]; rfl, by simp [h0]⟩
  by_cases h9 : k > 8
  · exact ⟨_, by simp [J_cell_Kind_1_eq, show ¬ k = 0 by omega, show ¬ k = 1 by omega, show ¬ k = 2 by omega, show ¬ k = 3 by omega, show ¬ k = 4 by omega, show ¬ k = 5 by omega, show ¬ k = 6 by omega, show ¬ k = 7 by omega, show ¬ k = 8 by omega]; rfl, by simp [h0, h9]⟩
  have : k = 0 ∨ k = 1 ∨ k = 2 ∨ k = 3 ∨ k = 4 ∨ k = 5 ∨ k = 6 ∨ k = 7 ∨ k = 8 := by omega
  rcases this with rfl | rfl | rfl | rfl | rfl | rfl | rfl | rfl | rfl <;> exact ⟨_, by simp [J_cell_Kind_1_eq]; rfl, by simp⟩
theorem same_bytes (s : ByteArray) : scmpF .eql s s = true := by simp [scmpF]
set_option maxHeartbeats 2000000 in
theorem words_law (k : Int) (f : Bool) (g l n : Int) (hr : ∀ z ∈ vsC k f g l n, z ≤ 9223372036854775807) (x : Nat) (hx : x < 18446744073709551616) :
    FX 6 [.int k, .bool f, .int g, .int l, .int n, .int x] = some [.bool true] := by
  have h1 := word_eq k f g l n hr
  have h2 := rword_eq k f g l n hr
  have h3 := num_eq (wordI k f g l n).2.1 (word_code k f g l n) (wordI k f g l n).2.2
  have hb := back k f g l n
  obtain ⟨h4, h5⟩ := state_eq x hx
  obtain ⟨s, h8, h9⟩ := names k f g l n
  have hsb := same_bytes s
  rw [E_law06_CellWords]
  generalize wordI k f g l n = w at *
  unfold stL at h4 h5
  simp only [h1, h2, h3, bindC, List.length_cons, List.length_nil, if_true, List.getD_cons_zero, List.getD_cons_succ, D.toInt_int, bne_self_eq_false, Bool.false_eq_true, if_false]
  have tail : ∀ (P : Prop) [Decidable P], P → True := fun _ _ _ => trivial
  by_cases hw : w.2.1 = 0
  · have hw' : (w.2.1 == 0) = true := by simpa using hw
    have hb' := hb hw
    simp only [hw', hb', h4, h5, rloose_eq, rheld_eq, awake_eq, loose_eq, held_eq, live_eq, over_eq, h8, h9, hsb, List.length_cons, List.length_nil, if_true, List.getD_cons_zero, List.getD_cons_succ, D.toInt_int, D.toBool_bool, D.toStr_str, beq_self_eq_true, Bool.and_self, Bool.not_true, Bool.false_eq_true, if_false]
    by_cases a : k = 1 ∨ k = 2
    · have c : ¬ 5 ≤ k := by omega
      simp [a, c, h8, h9, hsb]
    · by_cases b : k = 3 ∨ k = 4
      · have c : ¬ 5 ≤ k := by omega
        simp [a, b, c, h8, h9, hsb]
      · by_cases c : 5 ≤ k <;> by_cases d : k ≤ 8 <;> simp [a, b, c, d, h8, h9, hsb]
  · have hw' : (w.2.1 == 0) = false := by simpa using hw
    simp only [hw', h4, h5, rloose_eq, rheld_eq, awake_eq, loose_eq, held_eq, live_eq, over_eq, h8, h9, hsb, List.length_cons, List.length_nil, if_true, List.getD_cons_zero, List.getD_cons_succ, D.toInt_int, D.toBool_bool, D.toStr_str, beq_self_eq_true, Bool.and_self, Bool.not_true, Bool.false_eq_true, if_false]
    by_cases a : k = 1 ∨ k = 2
    · have c : ¬ 5 ≤ k := by omega
      simp [a, c, h8, h9, hsb]
    · by_cases b : k = 3 ∨ k = 4
      · have c : ¬ 5 ≤ k := by omega
        simp [a, b, c, h8, h9, hsb]
      · by_cases c : 5 ≤ k <;> by_cases d : k ≤ 8 <;> simp [a, b, c, d, h8, h9, hsb]
theorem words_true (k : Int) (f : Bool) (g l n x : Int) (w0 : (Lit.int .i64 k).wf = true) (w1 : (Lit.int .i64 g).wf = true) (w2 : (Lit.int .i64 l).wf = true) (w3 : (Lit.int .i64 n).wf = true) (wx : (Lit.int .u64 x).wf = true) :
    FX 6 [.int k, .bool f, .int g, .int l, .int n, .int x] = some [.bool true] := by
  have hx : 0 ≤ x ∧ x ≤ 18446744073709551615 := by simpa [Lit.wf, IntKind.min, IntKind.max, IntKind.bits, IntKind.signed] using wx
  obtain ⟨y, rfl⟩ : ∃ y : Nat, x = y := ⟨x.toNat, by omega⟩
  have key : ∀ c : Int, (Lit.int .i64 c).wf = true → c ≤ 9223372036854775807 := by
    intro c h
    have : -9223372036854775808 ≤ c ∧ c ≤ 9223372036854775807 := by simpa [Lit.wf, IntKind.min, IntKind.max, IntKind.bits, IntKind.signed] using h
    exact this.2
  refine words_law k f g l n ?_ y (by omega)
  intro z hz
  simp only [vsC, List.mem_cons, List.not_mem_nil, or_false] at hz
  rcases hz with rfl | rfl | rfl | rfl | rfl
  · exact key _ w0
  · cases f <;> decide
  · exact key _ w1
  · exact key _ w2
  · exact key _ w3
end Go.Proofs.Ytnaojplgikaeoaa.CW
