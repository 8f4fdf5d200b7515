/-
  Shared words, on data.
-/
import Derived.Test.YtjhgpkojdiedgaaDoorAllE
import Derived.Test.YtjhgpkojdiedgaaDoorProg
import Derived.Test.YtjhgpkojdiedgaaDoorDat
import Derived.Test.YtjhgpkojdiedgaaDoorOpen
namespace Go.Proofs.YtjhgpkojdiedgaaDoor.MemD
open Go.Proofs.YtjhgpkojdiedgaaDoor.Eng Go.Proofs.YtjhgpkojdiedgaaDoor Go.Proofs.YtjhgpkojdiedgaaDoor.Dat Go.Proofs.YtjhgpkojdiedgaaDoor.Open
set_option linter.unusedVariables false
set_option linter.unusedSimpArgs false

structure M where
  ws : List Int
  st : Int
  k : Int
  a : Int
  was : Int
  now : Int
  dn : Bool
def M.d (m : M) : D := .agg [.agg (m.ws.map D.int), .int m.st, .int m.k, .int m.a, .int m.was, .int m.now, .bool m.dn]
def M.get (m : M) (x : Int) : Int := m.ws.getD x.toNat 0
def M.inn (m : M) (x : Int) : Prop := 0 ≤ x ∧ x < m.ws.length
instance (m : M) (x : Int) : Decidable (m.inn x) := inferInstanceAs (Decidable (_ ∧ _))
def M.load (m : M) (x : Int) : M := if m.inn x then ⟨m.ws, IntKind.i64.wrap (m.st + 1), 1, x, m.get x, m.get x, true⟩ else m
def M.store (m : M) (x v : Int) : M := if m.inn x then ⟨m.ws.set x.toNat v, IntKind.i64.wrap (m.st + 1), 2, x, m.get x, v, true⟩ else m
def M.swap (m : M) (x o v : Int) : M := if m.inn x then if m.get x = o then ⟨m.ws.set x.toNat v, IntKind.i64.wrap (m.st + 1), 3, x, o, v, true⟩ else ⟨m.ws, IntKind.i64.wrap (m.st + 1), 3, x, m.get x, m.get x, false⟩ else m
theorem M.load_len (m : M) (x : Int) : (m.load x).ws.length = m.ws.length := by unfold M.load; split <;> rfl
theorem M.store_len (m : M) (x v : Int) : (m.store x v).ws.length = m.ws.length := by unfold M.store; split <;> simp
theorem M.swap_len (m : M) (x o v : Int) : (m.swap x o v).ws.length = m.ws.length := by
  unfold M.swap; split
  · split <;> simp
  · rfl
theorem isNil_int (n : Int) : (D.int n).isNil = false := rfl
theorem r7 : List.range 7 = [0, 1, 2, 3, 4, 5, 6] := rfl
theorem set_same {hs : List D} {i : Nat} {x : D} (hg : hs.getD i .nil = x) (hi : i < hs.length) : hs.set i x = hs := by
  rw [List.getD_eq_getElem?_getD, List.getElem?_eq_getElem hi] at hg
  simp only [Option.getD_some] at hg
  subst hg
  exact List.set_getElem_self hi
theorem getW {ws : List Int} {x : Int} (h : 0 ≤ x ∧ x < ws.length) : (ws.map D.int).getD x.toNat .nil = .int (ws.getD x.toNat 0) := by
  have : x.toNat < ws.length := by omega
  simp [List.getD_eq_getElem?_getD, this]
theorem setW (ws : List Int) (n : Nat) (v : Int) : (ws.map D.int).set n (.int v) = (ws.set n v).map D.int := by rw [List.map_set]

theorem clone_eq (ws : List Int) (hl : ws.length ≤ 1000000) : FX 20 [.agg (ws.map D.int)] = some [.agg (ws.map D.int)] := by
  rw [E_slices_Clone_uint64_uint64]
  have h : (ws.length : Int) ≤ 17592186044416 := by omega
  simp only [D.toL_agg, List.length_map, h, decide_true, if_true]
  split
  · rename_i h0
    have : ws = [] := List.eq_nil_of_length_eq_zero (by simpa using h0)
    subst this
    exact both_self _
  · rfl
def err (x : Int) : D := .iface 59 (.agg [.int x, .iface 52 (.int 5)])
section
variable {hs : List D} {i : Nat} {m : M}
theorem step (hg : hs.getD i .nil = m.d) (k a was now : Int) (dn : Bool) : FX 19 [.int (i : Int), .int k, .int a, .int was, .int now, .bool dn, .agg hs] = some [.agg (hs.set i (M.d ⟨m.ws, IntKind.i64.wrap (m.st + 1), k, a, was, now, dn⟩))] := by
  rw [E_p_mem_Mem_step]
  simp only [isNil_int, Bool.not_false, if_true, D.toInt_int, D.toL_agg, Int.toNat_natCast, hg, r7, M.d, List.map_cons, List.map_nil, List.getD_cons_zero, List.getD_cons_succ, List.set_cons_zero, List.set_cons_succ]
theorem may_in (hg : hs.getD i .nil = m.d) {x : Int} (h : m.inn x) : FX 18 [.int (i : Int), .int x, .agg hs] = some [.nil] := by
  rw [E_p_mem_Mem_may]
  obtain ⟨h1, h2⟩ := h
  simp only [isNil_int, Bool.not_false, if_true, D.toInt_int, D.toL_agg, Int.toNat_natCast, hg, M.d, List.getD_cons_zero, List.length_map, Bool.false_eq_true, if_false, show ¬ x < 0 by omega, show ¬ x ≥ (m.ws.length : Int) by omega, decide_false]
theorem may_out (hg : hs.getD i .nil = m.d) {x : Int} (h : ¬ m.inn x) : FX 18 [.int (i : Int), .int x, .agg hs] = some [err x] := by
  rw [E_p_mem_Mem_may, E_fault_At]
  simp only [isNil_int, Bool.not_false, if_true, D.toInt_int, D.toL_agg, Int.toNat_natCast, hg, M.d, List.getD_cons_zero, List.length_map, Bool.false_eq_true, if_false, D.isNil_iface, bindC, List.length_cons, List.length_nil]
  by_cases h1 : x < 0
  · simp [h1, err]
  · have h2 : x ≥ (m.ws.length : Int) := by
      rcases Int.lt_or_le x m.ws.length with h3 | h3
      · exact absurd ⟨by omega, h3⟩ h
      · exact h3
    simp [h1, h2, err]
theorem load_eq (hg : hs.getD i .nil = m.d) (hi : i < hs.length) (x : Int) : FX 9 [.int (i : Int), .int x, .agg hs] = some [.int (if m.inn x then m.get x else 0), if m.inn x then .nil else err x, .agg (hs.set i (m.load x).d)] := by
  rw [E_p_mem_Mem_Load]
  by_cases h : m.inn x
  · have h' := h
    obtain ⟨h1, h2⟩ := h
    simp only [may_in hg h', bindC, List.length_cons, List.length_nil, if_true, List.getD_cons_zero, D.isNil_nil, Bool.not_true, Bool.false_eq_true, if_false, isNil_int, Bool.not_false, D.toInt_int, D.toL_agg, Int.toNat_natCast, hg]
    have e0 : (m.d.toL.getD 0 D.nil).toL = m.ws.map D.int := rfl
    simp only [e0, List.length_map, h1, h2, ge_iff_le, decide_true, if_true, getW h', step hg, bindC, List.length_cons, List.length_nil, List.getD_cons_zero, M.load, h', M.get]
  · simp only [may_out hg h, bindC, List.length_cons, List.length_nil, if_true, List.getD_cons_zero, err, D.isNil_iface, Bool.not_false, M.load, if_neg h, set_same hg hi]
theorem store_eq (hg : hs.getD i .nil = m.d) (hi : i < hs.length) (x v : Int) : FX 10 [.int (i : Int), .int x, .int v, .agg hs] = some [if m.inn x then .nil else err x, .agg (hs.set i (m.store x v).d)] := by
  rw [E_p_mem_Mem_Store]
  by_cases h : m.inn x
  · have h' := h
    obtain ⟨h1, h2⟩ := h
    simp only [may_in hg h', bindC, List.length_cons, List.length_nil, if_true, List.getD_cons_zero, D.isNil_nil, Bool.not_true, Bool.false_eq_true, if_false, isNil_int, Bool.not_false, D.toInt_int, D.toL_agg, Int.toNat_natCast, hg]
    have e0 : (m.d.toL.getD 0 D.nil).toL = m.ws.map D.int := rfl
    simp only [e0, List.length_map, h1, h2, ge_iff_le, decide_true, if_true, getW h', step hg, bindC, List.length_cons, List.length_nil, List.getD_cons_zero]
    have e1 : (hs.set i (M.d ⟨m.ws, IntKind.i64.wrap (m.st + 1), 2, x, m.ws.getD x.toNat 0, v, true⟩)).getD i D.nil = M.d ⟨m.ws, IntKind.i64.wrap (m.st + 1), 2, x, m.ws.getD x.toNat 0, v, true⟩ := by simp [List.getD_eq_getElem?_getD, hi]
    simp only [D.toL_agg, e1]
    simp only [M.d, D.toL_agg, List.getD_cons_zero, List.length_map, h2, decide_true, if_true, r7, List.map_cons, List.map_nil, List.getD_cons_succ, List.set_cons_zero, setW, List.set_set, M.store, h', M.get]
  · simp only [may_out hg h, bindC, List.length_cons, List.length_nil, if_true, List.getD_cons_zero, err, D.isNil_iface, Bool.not_false, M.store, if_neg h, set_same hg hi]
theorem swap_eq (hg : hs.getD i .nil = m.d) (hi : i < hs.length) (x o v : Int) : FX 11 [.int (i : Int), .int x, .int o, .int v, .agg hs] = some [.bool (decide (m.inn x ∧ m.get x = o)), if m.inn x then .nil else err x, .agg (hs.set i (m.swap x o v).d)] := by
  rw [E_p_mem_Mem_Swap]
  by_cases h : m.inn x
  · have h' := h
    obtain ⟨h1, h2⟩ := h
    simp only [may_in hg h', bindC, List.length_cons, List.length_nil, if_true, List.getD_cons_zero, D.isNil_nil, Bool.not_true, Bool.false_eq_true, if_false, isNil_int, Bool.not_false, D.toInt_int, D.toL_agg, Int.toNat_natCast, hg]
    have e0 : (m.d.toL.getD 0 D.nil).toL = m.ws.map D.int := rfl
    simp only [e0, List.length_map, h1, h2, ge_iff_le, decide_true, if_true, getW h', D.toInt_int]
    by_cases ho : m.get x = o
    · have ho' : m.ws.getD x.toNat 0 = o := ho
      simp only [ho', beq_self_eq_true, if_true, setW]
      let m2 : M := { m with ws := m.ws.set x.toNat v }
      have e2 : (D.agg (((List.range 7).map fun j => m.d.toL.getD j D.nil).set 0 (.agg ((m.ws.set x.toNat v).map D.int)))) = m2.d := rfl
      have hg2 : (hs.set i m2.d).getD i D.nil = m2.d := by simp [List.getD_eq_getElem?_getD, hi]
      rw [e2, step hg2]
      simp only [bindC, List.length_cons, List.length_nil, if_true, List.getD_cons_zero, List.set_set, M.swap, h', ho, and_self, decide_true, m2]
    · have ho' : ¬ m.ws.getD x.toNat 0 = o := ho
      have ho2 : (m.ws.getD x.toNat 0 == o) = false := by simpa using ho'
      simp only [ho2, Bool.false_eq_true, if_false, step hg, bindC, List.length_cons, List.length_nil, if_true, List.getD_cons_zero, M.swap, h', ho, ho', and_false, decide_false, M.get, if_false]
  · simp only [may_out hg h, bindC, List.length_cons, List.length_nil, if_true, List.getD_cons_zero, err, D.isNil_iface, Bool.not_false, M.swap, h, if_false, set_same hg hi, false_and, decide_false]
theorem words_eq (hg : hs.getD i .nil = m.d) (hl : m.ws.length ≤ 1000000) : FX 16 [.int (i : Int), .agg hs] = some [.agg (m.ws.map D.int)] := by
  rw [E_p_mem_Mem_Words]
  have e0 : (m.d.toL.getD 0 D.nil) = .agg (m.ws.map D.int) := rfl
  simp only [isNil_int, Bool.not_false, if_true, D.toInt_int, D.toL_agg, Int.toNat_natCast, hg, Bool.false_eq_true, if_false, e0, clone_eq _ hl, bindC, List.length_cons, List.length_nil, List.getD_cons_zero]
theorem twin_eq (hg : hs.getD i .nil = m.d) (hl : m.ws.length ≤ 1000000) : FX 12 [.int (i : Int), .agg hs] = some [.int (hs.length : Int), .agg (hs ++ [m.d])] := by
  rw [E_p_mem_Mem_Twin]
  have e0 : (m.d.toL.getD 0 D.nil) = .agg (m.ws.map D.int) := rfl
  simp only [isNil_int, Bool.not_false, if_true, D.toInt_int, D.toL_agg, Int.toNat_natCast, hg, Bool.false_eq_true, if_false, e0, clone_eq _ hl, bindC, List.length_cons, List.length_nil, List.getD_cons_zero]
  rfl
theorem steps_eq (hg : hs.getD i .nil = m.d) : FX 14 [.int (i : Int), .agg hs] = some [.int m.st] := by
  rw [E_p_mem_Mem_Steps]
  simp only [isNil_int, Bool.not_false, if_true, D.toInt_int, D.toL_agg, Int.toNat_natCast, hg, Bool.false_eq_true, if_false]
  rfl
theorem last_eq (hg : hs.getD i .nil = m.d) : FX 15 [.int (i : Int), .agg hs] = some [.int m.k, .int m.a, .int m.was, .int m.now, .bool m.dn] := by
  rw [E_p_mem_Mem_Last]
  simp only [isNil_int, Bool.not_false, if_true, D.toInt_int, D.toL_agg, Int.toNat_natCast, hg, Bool.false_eq_true, if_false]
  rfl
end
def M.new (n : Nat) : M := ⟨List.replicate n 0, 0, 0, 0, 0, 0, false⟩
theorem new_eq (n : Nat) (hn : n ≤ 8192) (hs : List D) : FX 4 [.int (n : Int), .agg hs] = some [.int (hs.length : Int), .nil, .agg (hs ++ [(M.new n).d])] := by
  rw [E_mem_New]
  have e : List.replicate n (D.int 0) = (List.replicate n (0 : Int)).map D.int := by simp
  simp only [D.toInt_int, show ¬ (n : Int) < 0 by omega, show ¬ (n : Int) > 8192 by omega, show (n : Int) ≥ 0 by omega, show (n : Int) ≤ 17592186044416 by omega, decide_false, decide_true, if_true, Bool.false_eq_true, if_false, D.toL_agg, Int.toNat_natCast, e]
  rfl
theorem new_bad (n : Int) (hn : n < 0 ∨ 8192 < n) (h : D) : FX 4 [.int n, h] = some [.nil, .iface 52 (.int 4), h] := by
  rw [E_mem_New]
  rcases hn with hn | hn
  · simp [hn]
  · simp [hn]
theorem getD_new (hs : List D) (x : D) : (hs ++ [x]).getD hs.length .nil = x := by simp [List.getD_eq_getElem?_getD]
theorem getD_set {hs : List D} {i : Nat} (x : D) (hi : i < hs.length) : (hs.set i x).getD i .nil = x := by simp [List.getD_eq_getElem?_getD, hi]
theorem getD_set_ne {hs : List D} {i j : Nat} (x : D) (hi : i ≠ j) : (hs.set i x).getD j .nil = hs.getD j .nil := by simp [List.getD_eq_getElem?_getD, List.getElem?_set_ne hi]
theorem getD_left {hs : List D} {i : Nat} (x : D) (hi : i < hs.length) : (hs ++ [x]).getD i .nil = hs.getD i .nil := by simp [List.getD_eq_getElem?_getD, List.getElem?_append_left hi]
/-- The document's example, with things there already. -/
theorem awake (hs : List D) : ∃ x, FX 5 [.agg hs] = some [.bool true, .agg (hs ++ [x])] := by
  rw [E_law03_awake]
  have e1 := new_eq 1 (by omega) hs
  simp only [Int.natCast_one] at e1
  have hg0 : (hs ++ [(M.new 1).d]).getD hs.length D.nil = (M.new 1).d := getD_new _ _
  have e2 := swap_eq hg0 (by simp) 0 0 7
  have hg1 : ((hs ++ [(M.new 1).d]).set hs.length ((M.new 1).swap 0 0 7).d).getD hs.length D.nil = ((M.new 1).swap 0 0 7).d := getD_set _ (by simp)
  have e3 := swap_eq hg1 (by simp) 0 0 8
  have hg2 : (((hs ++ [(M.new 1).d]).set hs.length ((M.new 1).swap 0 0 7).d).set hs.length (((M.new 1).swap 0 0 7).swap 0 0 8).d).getD hs.length D.nil = (((M.new 1).swap 0 0 7).swap 0 0 8).d := getD_set _ (by simp)
  have e4 := words_eq hg2 (by rw [M.swap_len, M.swap_len]; simp [M.new])
  have hd1 : ((M.new 1).inn 0) := by decide
  have hd2 : (M.new 1).get 0 = 0 := by decide
  have hd3 : (((M.new 1).swap 0 0 7).inn 0) := by decide
  have hd4 : ¬ ((M.new 1).swap 0 0 7).get 0 = 0 := by decide
  have hd5 : (((M.new 1).swap 0 0 7).swap 0 0 8).ws = [7] := by decide
  refine ⟨(((M.new 1).swap 0 0 7).swap 0 0 8).d, ?_⟩
  simp only [e1, e2, e3, e4, bindC, List.length_cons, List.length_nil, if_true, List.getD_cons_zero, List.getD_cons_succ, hd1, hd2, hd3, hd4, hd5, and_self, and_false, decide_true, decide_false, D.isNil_nil, D.toBool_bool, Bool.not_false, D.toL_agg, List.length_map, D.toInt_int, List.map_cons, List.map_nil]
  simp
end Go.Proofs.YtjhgpkojdiedgaaDoor.MemD
