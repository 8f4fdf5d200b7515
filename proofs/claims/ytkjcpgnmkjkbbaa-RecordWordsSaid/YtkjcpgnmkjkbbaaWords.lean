/-
  The law RecordWords, on data.
-/
import Derived.Test.YtkjcpgnmkjkbbaaRecD
import Derived.Test.YtkjcpgnmkjkbbaaNum
namespace Go.Proofs.Ytkjcpgnmkjkbbaa.RW
open Go.RowKit Go.Proofs.Ytkjcpgnmkjkbbaa.Eng Go.Proofs.Ytkjcpgnmkjkbbaa Go.Proofs.Ytkjcpgnmkjkbbaa.Dat Go.Proofs.Ytkjcpgnmkjkbbaa.RC
set_option linter.unusedVariables false
set_option linter.unusedSimpArgs false
set_option linter.unusedSectionVars false

theorem err_same (z : Int × Int × Option Int) : RC.errD z = FDat.errD z.2.1 z.2.2 := rfl
theorem word_code (r : Rc) : 0 ≤ (wordI r).2.1 ∧ (wordI r).2.1 ≤ 29 := by
  unfold wordI packI
  split
  · simp
  · split
    · simp
    · split <;> simp
theorem widths_eq : FX 26 [] = some [FDat.wsD rws] := by rw [E_ref08_widths]; rfl
theorem rword_eq (r : Rc) (hr : r.wf) : FX 15 r.ds = some [.int (wordI r).1, .int (wordI r).2.1] := by
  unfold Rc.ds
  rw [E_ref08_Word, widths_eq]
  by_cases h : r.k > 5
  · simp only [D.toInt_int, h, decide_true, if_true]
    unfold wordI
    rw [if_pos h]
  · have hp := FDat.rpack_eq rws rgood r.vs hr
    have e : FDat.vsD r.vs = D.agg ((D.int r.k) :: ((D.int r.q) :: ((D.int r.p) :: ((D.int r.t) :: ((D.int r.c) :: ((D.int r.g) :: [])))))) := rfl
    rw [e] at hp
    have hpr : FDat.rpackR rws r.vs = [.int (wordI r).1, .int (wordI r).2.1, .int ((wordI r).2.2.getD 0)] := by
      unfold FDat.rpackR wordI
      rw [if_neg h]
    rw [hpr] at hp
    simp only [D.toInt_int, h, decide_false, Bool.false_eq_true, if_false, bindC, List.length_cons, List.length_nil, if_true, List.getD_cons_zero, List.getD_cons_succ, hp]
def ofL (x : Nat) : List D := [.int (FDat.getZ rws x 0), .int (FDat.getZ rws x 1), .int (FDat.getZ rws x 2), .int (FDat.getZ rws x 3), .int (FDat.getZ rws x 4), .int (FDat.getZ rws x 5)]
theorem of_eq (x : Nat) (hx : x < 18446744073709551616) : FX 17 [.int x] = some (ofL x) ∧ FX 18 [.int x] = some (ofL x) := by
  have hg := FDat.get_eq rws rgood x hx
  have hr := FDat.rget_eq rws rgood x hx
  constructor
  · rw [E_record_Of, layout_eq]
    simp only [bindC, List.length_cons, List.length_nil, if_true, List.getD_cons_zero, hg]
    rfl
  · rw [E_ref08_Of, widths_eq]
    simp only [bindC, List.length_cons, List.length_nil, if_true, List.getD_cons_zero, hr]
    rfl
def endI (k l n t : Int) : List D := if 5 ≤ k ∧ k ≤ 8 then [.int (k - 3), .int l, .int n, .int t, .int 0, .int 0, .bool true] else [.int 0, .int 0, .int 0, .int 0, .int 0, .int 0, .bool false]
theorem rend_eq (k : Int) (f : Bool) (g l n t : Int) : FX 19 [.int k, .bool f, .int g, .int l, .int n, .int t] = some (endI k l n t) := by
  rw [E_ref08_End]
  unfold endI
  by_cases h1 : k < 5
  · have : ¬ (5 ≤ k ∧ k ≤ 8) := by omega
    simp [h1, this]
  by_cases h2 : k > 8
  · have : ¬ (5 ≤ k ∧ k ≤ 8) := by omega
    simp [h1, h2, this]
  · have h3 : 5 ≤ k ∧ k ≤ 8 := by omega
    simp only [D.toInt_int, h1, h2, h3, decide_false, Bool.false_eq_true, if_false, and_self, if_true]
    rw [wrap_small _ (by omega) (by omega)]
theorem names (k : Int) : ∃ s, FX 20 [.int k] = some [.str s] ∧ FX 21 [.int k] = some [.str s] := by
  have kind : ∀ (x : Int), (x = 5 → FX 30 [.int x, .bool false, .int 0, .int 0, .int 0] = some [.str (.mk #[102, 105, 108, 108, 101, 100])]) ∧ (x = 6 → FX 30 [.int x, .bool false, .int 0, .int 0, .int 0] = some [.str (.mk #[99, 97, 110, 99, 101, 108, 108, 101, 100])]) ∧
      (x = 7 → FX 30 [.int x, .bool false, .int 0, .int 0, .int 0] = some [.str (.mk #[101, 120, 112, 105, 114, 101, 100])]) ∧ (x = 8 → FX 30 [.int x, .bool false, .int 0, .int 0, .int 0] = some [.str (.mk #[114, 101, 116, 105, 114, 101, 100])]) := by
    intro x
    refine ⟨?_, ?_, ?_, ?_⟩ <;> (rintro rfl; rw [E_cell_Kind]; simp [J_cell_Kind_1_eq])
  have k5 := (kind 5).1 rfl
  have k6 := (kind 6).2.1 rfl
  have k7 := (kind 7).2.2.1 rfl
  have k8 := (kind 8).2.2.2 rfl
  have l0 : IntKind.i64.wrap 0 = 0 := rfl
  have l1 : IntKind.i64.wrap 1 = 1 := rfl
  have l2 : IntKind.i64.wrap 2 = 2 := rfl
  have l3 : IntKind.i64.wrap 3 = 3 := rfl
  have l4 : IntKind.i64.wrap 4 = 4 := rfl
  rw [E_record_Name, E_ref08_Name]
  by_cases h1 : k = 1
  · subst h1; exact ⟨_, by simp; rfl, by simp [l0]⟩
  by_cases h2 : k = 2
  · subst h2; exact ⟨_, by simp [k5, bindC]; rfl, by simp [l1]⟩
  by_cases h3 : k = 3
  · subst h3; exact ⟨_, by simp [k6, bindC]; rfl, by simp [l2]⟩
  by_cases h4 : k = 4
  · subst h4; exact ⟨_, by simp [k7, bindC]; rfl, by simp [l3]⟩
  by_cases h5 : k = 5
  · subst h5; exact ⟨_, by simp [k8, bindC]; rfl, by simp [l4]⟩
  by_cases h6 : k < 1
  · exact ⟨_, by simp [h1, h2, h3, h4, h5]; rfl, by simp [h6]⟩
  · have h7 : k > 5 := by omega
    exact ⟨_, by simp [h1, h2, h3, h4, h5]; rfl, by simp [h6, h7]⟩
theorem same_bytes (s : ByteArray) : scmpF .eql s s = true := by simp [scmpF]
set_option maxHeartbeats 1000000 in
theorem words_law (r : Rc) (hr : r.wf) (x : Nat) (hx : x < 18446744073709551616) (k : Int) (f : Bool) (g l n t : Int) : FX 7 (r.ds ++ [.int x, .int k, .bool f, .int g, .int l, .int n, .int t]) = some [.bool true] := by
  have h1 := word_eq r hr
  have h2 := rword_eq r hr
  have h3 := FDat.num_eq (wordI r).2.1 (word_code r) (wordI r).2.2
  have hok := word_ok r
  obtain ⟨h4, h5⟩ := of_eq x hx
  have h6 := end_eq (.int k) (.bool f) (.int g) (.int l) (.int n) (.int t) k rfl
  have h7 := rend_eq k f g l n t
  obtain ⟨s, h8, h9⟩ := names r.k
  have hsb := same_bytes s
  have ha := awake_eq
  have hbk : (errD (wordI r)).isNil = true → FX 17 [.int (wordI r).1] = some r.ds := by
    intro he
    obtain ⟨ns, e1, e2, e3⟩ := hok he
    have hlt : packN rws ns < 18446744073709551616 := by
      have := pack_lt e2
      simp only [rws, List.sum_cons, List.sum_nil] at this
      exact this
    rw [e3]
    refine (of_eq _ hlt).1.trans ?_
    have hl := fits_length e2
    match ns, hl, e1 with
    | [n0, n1, n2, n3, n4, n5], _, e1 =>
      unfold Rc.vs at e1
      simp only [List.map_cons, List.map_nil, List.cons.injEq, and_true] at e1
      obtain ⟨q0, q1, q2, q3, q4, q5⟩ := e1
      unfold ofL Rc.ds
      rw [q0, q1, q2, q3, q4, q5]
      have z0 := FDat.getZ_pack e2 (i := 0) (by decide)
      have z1 := FDat.getZ_pack e2 (i := 1) (by decide)
      have z2 := FDat.getZ_pack e2 (i := 2) (by decide)
      have z3 := FDat.getZ_pack e2 (i := 3) (by decide)
      have z4 := FDat.getZ_pack e2 (i := 4) (by decide)
      have z5 := FDat.getZ_pack e2 (i := 5) (by decide)
      simp only [List.getD_cons_zero, List.getD_cons_succ] at z0 z1 z2 z3 z4 z5
      exact congrArg some (by rw [← z0, ← z1, ← z2, ← z3, ← z4, ← z5]; rfl)
  rw [err_same] at h1 hbk
  have hnil : (wordI r).2.1 = 0 → (FDat.errD (wordI r).2.1 (wordI r).2.2).isNil = true := fun h => by rw [h]; rfl
  generalize wordI r = w at *
  unfold Rc.ds at *
  simp only [List.cons_append, List.nil_append] at *
  rw [E_law08_RecordWords]
  have hc : ∀ b : Bool, b = decide (5 ≤ k ∧ k ≤ 8) → True := fun _ _ => trivial
  unfold endI at h7
  unfold ofL at h4 h5
  by_cases hk : 5 ≤ k ∧ k ≤ 8
  · rw [if_pos hk] at h6 h7
    have hi := isEnd_eq (k - 3) (.int l) (.int n) (.int t) (.int 0) (.int 0)
    have hk2 : 2 ≤ k - 3 ∧ k - 3 ≤ 5 := by omega
    by_cases hw : w.2.1 = 0
    · have hb := hbk (hnil hw)
      have hw' : (w.2.1 == 0) = true := by simpa using hw
      simp only [h1, h2, h3, hb, h4, h5, h6, h7, h8, h9, ha, hi, hk2, hw', hsb, bindC, List.length_cons, List.length_nil, if_true, List.getD_cons_zero, List.getD_cons_succ, D.toInt_int, D.toBool_bool, D.toStr_str, bne_self_eq_false, Bool.false_eq_true, if_false, beq_self_eq_true, Bool.and_self, Bool.not_true, and_self, decide_true]
    · have hw' : (w.2.1 == 0) = false := by simpa using hw
      simp only [h1, h2, h3, h4, h5, h6, h7, h8, h9, ha, hi, hk2, hw', hsb, bindC, List.length_cons, List.length_nil, if_true, List.getD_cons_zero, List.getD_cons_succ, D.toInt_int, D.toBool_bool, D.toStr_str, bne_self_eq_false, Bool.false_eq_true, if_false, beq_self_eq_true, Bool.and_self, Bool.not_true, and_self, decide_true]
  · rw [if_neg hk] at h6 h7
    have hi := isEnd_eq 0 (.int 0) (.int 0) (.int 0) (.int 0) (.int 0)
    have hk2 : ¬ (2 ≤ (0 : Int) ∧ (0 : Int) ≤ 5) := by omega
    by_cases hw : w.2.1 = 0
    · have hb := hbk (hnil hw)
      have hw' : (w.2.1 == 0) = true := by simpa using hw
      simp only [h1, h2, h3, hb, h4, h5, h6, h7, h8, h9, ha, hi, hk2, hw', hsb, bindC, List.length_cons, List.length_nil, if_true, List.getD_cons_zero, List.getD_cons_succ, D.toInt_int, D.toBool_bool, D.toStr_str, bne_self_eq_false, Bool.false_eq_true, if_false, beq_self_eq_true, Bool.and_self, Bool.not_true, and_self, decide_false]
    · have hw' : (w.2.1 == 0) = false := by simpa using hw
      simp only [h1, h2, h3, h4, h5, h6, h7, h8, h9, ha, hi, hk2, hw', hsb, bindC, List.length_cons, List.length_nil, if_true, List.getD_cons_zero, List.getD_cons_succ, D.toInt_int, D.toBool_bool, D.toStr_str, bne_self_eq_false, Bool.false_eq_true, if_false, beq_self_eq_true, Bool.and_self, Bool.not_true, and_self, decide_false]
theorem words_true (a0 a1 a2 a3 a4 a5 x k : Int) (f : Bool) (g l n t : Int) (w0 : (Lit.int .i64 a0).wf = true) (w1 : (Lit.int .i64 a1).wf = true) (w2 : (Lit.int .i64 a2).wf = true) (w3 : (Lit.int .i64 a3).wf = true) (w4 : (Lit.int .i64 a4).wf = true) (w5 : (Lit.int .i64 a5).wf = true)
    (wx : (Lit.int .u64 x).wf = true) (_ : (Lit.int .i64 k).wf = true) (_ : (Lit.int .i64 g).wf = true) (_ : (Lit.int .i64 l).wf = true) (_ : (Lit.int .i64 n).wf = true) (_ : (Lit.int .i64 t).wf = true) :
    FX 7 [.int a0, .int a1, .int a2, .int a3, .int a4, .int a5, .int x, .int k, .bool f, .int g, .int l, .int n, .int t] = some [.bool true] := by
  have hx : 0 ≤ x ∧ x ≤ 18446744073709551615 := by simpa [Lit.wf, IntKind.min, IntKind.max, IntKind.bits, IntKind.signed] using wx
  obtain ⟨y, rfl⟩ : ∃ y : Nat, x = y := ⟨x.toNat, by omega⟩
  exact words_law ⟨a0, a1, a2, a3, a4, a5⟩ (wf_of w0 w1 w2 w3 w4 w5) y (by omega) k f g l n t
end Go.Proofs.Ytkjcpgnmkjkbbaa.RW
