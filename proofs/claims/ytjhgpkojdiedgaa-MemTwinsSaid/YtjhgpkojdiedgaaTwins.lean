/-
  MemTwins on data.
-/
import Derived.Test.YtjhgpkojdiedgaaMemD
namespace Go.Proofs.Ytjhgpkojdiedgaa.MemD
open Go.Proofs.Ytjhgpkojdiedgaa.Eng Go.Proofs.Ytjhgpkojdiedgaa Go.Proofs.Ytjhgpkojdiedgaa.Dat Go.Proofs.Ytjhgpkojdiedgaa.Open
set_option linter.unusedVariables false
set_option linter.unusedSimpArgs false

structure Op where
  k : Int
  at_ : Int
  old : Int
  new : Int
def Op.d (o : Op) : D := .agg [.int o.k, .int o.at_, .int o.old, .int o.new]
def M.op (m : M) (o : Op) : M := if o.k = 1 then m.load o.at_ else if o.k = 2 then m.store o.at_ o.new else if o.k = 3 then m.swap o.at_ o.old o.new else m
theorem M.op_len (m : M) (o : Op) : (m.op o).ws.length = m.ws.length := by
  unfold M.op
  split
  · exact M.load_len _ _
  · split
    · exact M.store_len _ _ _
    · split
      · exact M.swap_len _ _ _ _
      · rfl
theorem foldl_len (l : List Op) : ∀ m : M, (l.foldl M.op m).ws.length = m.ws.length := by
  induction l with
  | nil => intro m; rfl
  | cons o l ih => intro m; rw [List.foldl_cons, ih, M.op_len]
theorem rounds (ops : List Op) (hl : ops.length ≤ 100) (x2 : D) (i : Nat) : ∀ (n j : Nat) (hs : List D) (m : M), ops.length - j = n → j ≤ ops.length → hs.getD i .nil = m.d → i < hs.length →
    W_law03_MemTwins_1_1 (.int (i : Int)) (.agg (ops.map Op.d)) x2 [.int (j : Int), .agg hs] = some [.agg (hs.set i ((ops.drop j).foldl M.op m).d)] := by
  intro n
  induction n with
  | zero =>
    intro j hs m hn hj hg hi
    obtain rfl : j = ops.length := by omega
    rw [W_law03_MemTwins_1_1_eq]
    simp only [D.toInt_int, D.toL_agg, List.length_map, Int.lt_irrefl, decide_false, Bool.false_eq_true, if_false, List.drop_length, List.foldl_nil, set_same hg hi]
  | succ n ih =>
    intro j hs m hn hj hg hi
    have hlt : j < ops.length := by omega
    have h1 : (j : Int) < (ops.length : Int) := by omega
    have eg : (ops.map Op.d).getD j .nil = ops[j].d := by rw [List.getD_eq_getElem?_getD, List.getElem?_map, List.getElem?_eq_getElem hlt]; rfl
    have ej : IntKind.i64.wrap ((j : Int) + 1) = ((j + 1 : Nat) : Int) := by rw [i64w _ (by omega) (by omega)]; simp
    have hdrop : ops.drop j = ops[j] :: ops.drop (j + 1) := List.drop_eq_getElem_cons hlt
    have d0 : (ops[j].d.toL.getD 0 .nil) = .int ops[j].k := rfl
    have d1 : (ops[j].d.toL.getD 1 .nil) = .int ops[j].at_ := rfl
    have d2 : (ops[j].d.toL.getD 2 .nil) = .int ops[j].old := rfl
    have d3 : (ops[j].d.toL.getD 3 .nil) = .int ops[j].new := rfl
    have next : ∀ m', m.op ops[j] = m' → W_law03_MemTwins_1_1 (.int (i : Int)) (.agg (ops.map Op.d)) x2 [.int ((j + 1 : Nat) : Int), .agg (hs.set i m'.d)] = some [.agg (hs.set i ((ops.drop j).foldl M.op m).d)] := by
      intro m' hm
      rw [ih (j + 1) (hs.set i m'.d) m' (by omega) (by omega) (getD_set _ hi) (by simpa using hi), List.set_set, hdrop, List.foldl_cons, hm]
    rw [W_law03_MemTwins_1_1_eq]
    simp only [D.toInt_int, D.toL_agg, List.length_map, h1, decide_true, if_true, ge_iff_le, Int.natCast_nonneg, Int.toNat_natCast, eg, d0, d1, d2, d3, load_eq hg hi, store_eq hg hi, swap_eq hg hi, bindC, List.length_cons, List.length_nil, List.getD_cons_zero, List.getD_cons_succ, ej]
    by_cases k1 : ops[j].k = 1
    · simp only [k1, beq_self_eq_true, if_true]
      exact next _ (by simp only [M.op, k1, if_true])
    · have k1' : (ops[j].k == 1) = false := by simpa using k1
      simp only [k1', Bool.false_eq_true, if_false]
      by_cases k2 : ops[j].k = 2
      · simp only [k2, beq_self_eq_true, if_true]
        exact next _ (by simp only [M.op, k2]; rfl)
      · have k2' : (ops[j].k == 2) = false := by simpa using k2
        simp only [k2', Bool.false_eq_true, if_false]
        by_cases k3 : ops[j].k = 3
        · simp only [k3, beq_self_eq_true, if_true]
          exact next _ (by simp only [M.op, k3]; rfl)
        · have k3' : (ops[j].k == 3) = false := by simpa using k3
          simp only [k3', Bool.false_eq_true, if_false]
          have := next m (by simp only [M.op, k1, k2, k3, if_false])
          rw [set_same hg hi] at this
          exact this
theorem do_eq (ops : List Op) (hl : ops.length ≤ 100) (i : Nat) (hs : List D) (m : M) (hg : hs.getD i .nil = m.d) (hi : i < hs.length) : FX 7 [.int (i : Int), .agg (ops.map Op.d), .agg hs] = some [.agg (hs.set i (ops.foldl M.op m).d)] := by
  rw [E_law03_MemTwins_1]
  exact rounds ops hl _ i ops.length 0 hs m (by omega) (by omega) hg hi
theorem same_rounds (ws : List Int) (hl : ws.length ≤ 1000000) : ∀ (n j : Nat), ws.length - j = n → j ≤ ws.length → W_law03_MemTwins_2_1 (.agg (ws.map D.int)) (.agg (ws.map D.int)) [.int (j : Int)] = some [.bool true] := by
  intro n
  induction n with
  | zero =>
    intro j hn hj
    obtain rfl : j = ws.length := by omega
    rw [W_law03_MemTwins_2_1_eq]
    simp only [D.toInt_int, D.toL_agg, List.length_map, Int.lt_irrefl, decide_false, Bool.false_eq_true, if_false]
  | succ n ih =>
    intro j hn hj
    have h1 : (j : Int) < (ws.length : Int) := by omega
    have ej : IntKind.i64.wrap ((j : Int) + 1) = ((j + 1 : Nat) : Int) := by rw [i64w _ (by omega) (by omega)]; simp
    rw [W_law03_MemTwins_2_1_eq]
    simp only [D.toInt_int, D.toL_agg, List.length_map, h1, decide_true, if_true, ge_iff_le, Int.natCast_nonneg, bne_self_eq_false, Bool.false_eq_true, if_false, ej]
    exact ih (j + 1) (by omega) (by omega)
theorem same_eq (ws : List Int) (hl : ws.length ≤ 1000000) : FX 11 [.agg (ws.map D.int), .agg (ws.map D.int)] = some [.bool true] := by
  rw [E_law03_MemTwins_2]
  simp only [D.toL_agg, bne_self_eq_false, Bool.false_eq_true, if_false]
  exact same_rounds ws hl ws.length 0 (by omega) (by omega)
theorem ops_of {d : D} (w : Wf Try.prog (.slice 31) d) : ∃ l : List Op, d = .agg (l.map Op.d) := by
  obtain ⟨l, h, _, _⟩ := w.structs (ts := [.int .i64, .int .i64, .int .u64, .int .u64]) (f := Op.d) (Q := fun _ => True) (by kernel_rfl) (by simp) (by
    rintro ys ⟨a, _, rfl, ha, b, _, rfl, hb, c, _, rfl, hc, e, _, rfl, he, rfl⟩
    obtain ⟨a, rfl, _⟩ := ha.toInt
    obtain ⟨b, rfl, _⟩ := hb.toInt
    obtain ⟨c, rfl, _⟩ := hc.toInt
    obtain ⟨e, rfl, _⟩ := he.toInt
    exact ⟨⟨a, b, c, e⟩, rfl, trivial⟩)
  exact ⟨l, h⟩
theorem twins (d0 d1 d2 : D) (w0 : Wf Try.prog (.int .u8) d0) (w1 : Wf Try.prog (.slice 31) d1) (w2 : Wf Try.prog (.slice 31) d2) : FX 3 [d0, d1, d2] = some [.bool true] := by
  obtain ⟨n, rfl, hn⟩ := w0.toInt
  obtain ⟨ops, rfl⟩ := ops_of w1
  obtain ⟨more, rfl⟩ := ops_of w2
  have hn' : 0 ≤ n ∧ n ≤ 255 := by simpa [Lit.wf, IntKind.min, IntKind.max, IntKind.bits, IntKind.signed] using hn
  have hm : 0 ≤ Int.tmod n 20 ∧ Int.tmod n 20 < 20 := by rw [Int.tmod_eq_emod_of_nonneg hn'.1]; omega
  obtain ⟨k, hk, en⟩ : ∃ k : Nat, k < 20 ∧ IntKind.i64.wrap (Int.tmod n 20) = (k : Int) := ⟨(Int.tmod n 20).toNat, by omega, by rw [i64w _ (by omega) (by omega)]; omega⟩
  rw [E_law03_MemTwins]
  have e1 := new_eq k (by omega) []
  simp only [List.nil_append, List.length_nil] at e1
  obtain ⟨y, ey⟩ := awake [(M.new k).d]
  simp only [D.toInt_int, en, e1, bindC, List.length_cons, List.length_nil, if_true, List.getD_cons_zero, List.getD_cons_succ, isNil_int, Bool.false_eq_true, if_false, D.isNil_nil, Bool.not_true, Bool.not_false, D.toL_agg, List.length_map, ey]
  by_cases h1 : (ops.length : Int) > 100
  · simp only [h1, decide_true, if_true]
  · simp only [h1, decide_false, Bool.false_eq_true, if_false]
    by_cases h2 : (more.length : Int) > 100
    · simp only [h2, decide_true, if_true]
    · simp only [h2, decide_false, Bool.false_eq_true, if_false]
      have lw : ∀ l : List Op, (l.foldl M.op (M.new k)).ws.length = k := fun l => by rw [foldl_len]; simp [M.new]
      let m1 := ops.foldl M.op (M.new k)
      let m2 := more.foldl M.op m1
      have l1 : m1.ws.length = k := lw ops
      have l2 : m2.ws.length = k := by show (more.foldl M.op m1).ws.length = k; rw [foldl_len, l1]
      have f1 : FX 7 [.int ((0 : Nat) : Int), .agg (ops.map Op.d), .agg [(M.new k).d]] = some [.agg [m1.d]] := do_eq ops (by omega) 0 _ (M.new k) rfl (by simp)
      have f2 : FX 12 [.int ((0 : Nat) : Int), .agg [m1.d]] = some [.agg (m1.ws.map D.int)] := words_eq rfl (by omega)
      have f3 : FX 13 [.int ((0 : Nat) : Int), .agg [m1.d]] = some [.int ((1 : Nat) : Int), .agg [m1.d, m1.d]] := twin_eq rfl (by omega)
      have f4 : FX 7 [.int ((1 : Nat) : Int), .agg (more.map Op.d), .agg [m1.d, m1.d]] = some [.agg [m1.d, m2.d]] := do_eq more (by omega) 1 _ m1 rfl (by simp)
      have f5 : FX 12 [.int ((0 : Nat) : Int), .agg [m1.d, m2.d]] = some [.agg (m1.ws.map D.int)] := words_eq rfl (by omega)
      have f6 := same_eq m1.ws (by omega)
      have f7 : FX 7 [.int ((0 : Nat) : Int), .agg (more.map Op.d), .agg [m1.d, m2.d]] = some [.agg [m2.d, m2.d]] := do_eq more (by omega) 0 _ m1 rfl (by simp)
      obtain ⟨z, f8⟩ := awake [m2.d, m2.d]
      simp only [List.cons_append, List.nil_append] at f8
      have f9 : FX 12 [.int ((0 : Nat) : Int), .agg [m2.d, m2.d, z]] = some [.agg (m2.ws.map D.int)] := words_eq rfl (by omega)
      have f10 : FX 12 [.int ((1 : Nat) : Int), .agg [m2.d, m2.d, z]] = some [.agg (m2.ws.map D.int)] := words_eq rfl (by omega)
      have f11 := same_eq m2.ws (by omega)
      have f12 : FX 14 [.int ((0 : Nat) : Int), .agg [m2.d, m2.d, z]] = some [.int m2.st] := steps_eq rfl
      have f13 : FX 14 [.int ((1 : Nat) : Int), .agg [m2.d, m2.d, z]] = some [.int m2.st] := steps_eq rfl
      have f14 : FX 15 [.int ((0 : Nat) : Int), .agg [m2.d, m2.d, z]] = some [.int m2.k, .int m2.a, .int m2.was, .int m2.now, .bool m2.dn] := last_eq rfl
      have f15 : FX 15 [.int ((1 : Nat) : Int), .agg [m2.d, m2.d, z]] = some [.int m2.k, .int m2.a, .int m2.was, .int m2.now, .bool m2.dn] := last_eq rfl
      rw [f1]
      simp only [List.length_cons, List.length_nil, if_true, List.getD_cons_zero, List.getD_cons_succ, f2]
      rw [f3]
      simp only [List.length_cons, List.length_nil, if_true, List.getD_cons_zero, List.getD_cons_succ]
      rw [f4]
      simp only [List.length_cons, List.length_nil, if_true, List.getD_cons_zero, List.getD_cons_succ, f5, f6, D.toBool_bool, Bool.not_true, Bool.false_eq_true, if_false]
      rw [f7]
      simp only [List.length_cons, List.length_nil, if_true, List.getD_cons_zero, List.getD_cons_succ, f8, f9, f10, f11, f12, f13, f14, f15, D.toBool_bool, D.toInt_int, beq_self_eq_true, Bool.and_self]
end Go.Proofs.Ytjhgpkojdiedgaa.MemD
