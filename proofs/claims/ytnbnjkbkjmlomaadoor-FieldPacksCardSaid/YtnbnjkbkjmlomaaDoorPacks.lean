/-
  FieldPacks on data.
-/
import Derived.Test.YtnbnjkbkjmlomaaDoorFDat
import Derived.Test.YtnbnjkbkjmlomaaDoorNumE
import Derived.Test.YtnbnjkbkjmlomaaDoorOpen
import Derived.Test.YtnbnjkbkjmlomaaDoorProg
namespace Go.Proofs.YtnbnjkbkjmlomaaDoor.Packs
open Go.Proofs.YtnbnjkbkjmlomaaDoor.Eng Go.Proofs.YtnbnjkbkjmlomaaDoor Go.Proofs.YtnbnjkbkjmlomaaDoor.Dat Go.Proofs.YtnbnjkbkjmlomaaDoor.Open Go.Proofs.YtnbnjkbkjmlomaaDoor.FDat
set_option linter.unusedVariables false
set_option linter.unusedSimpArgs false

theorem getI {l : List Int} {k : Nat} (h : k < l.length) : (l.map D.int).getD k .nil = .int l[k] := by rw [List.getD_eq_getElem?_getD, List.getElem?_map, List.getElem?_eq_getElem h]; rfl
theorem check_loop (l : List Int) (hl : l.length ≤ 70) (hw : ∀ x ∈ l, -9223372036854775808 ≤ x ∧ x ≤ 9223372036854775807) : ∀ (r k : Nat) (s : Int), l.length - k = r → k ≤ l.length → 0 ≤ s → s ≤ 64 → s = (l.take k).sum → (∀ x ∈ l.take k, 1 ≤ x ∧ x ≤ 32) →
    (∃ (j : Nat) (c : Int), (c = 4 ∨ c = 5) ∧ W_field_New_1 (.agg (l.map D.int)) [.int s, .int k] = some [.agg [], errAt j c] ∧ W_ref02_Check_1 (.agg (l.map D.int)) [.int s, .int k] = some [.int c, .int j]) ∨
    ((∀ x ∈ l, 1 ≤ x ∧ x ≤ 32) ∧ l.sum ≤ 64 ∧ W_field_New_1 (.agg (l.map D.int)) [.int s, .int k] = some [.agg (l.map D.int), .nil] ∧ W_ref02_Check_1 (.agg (l.map D.int)) [.int s, .int k] = some [.int 0, .int 0]) := by
  intro r
  induction r with
  | zero =>
    intro k s hr hk h0 h1 hs hp
    obtain rfl : k = l.length := by omega
    rw [List.take_length] at hs hp
    have hle : (l.length : Int) ≤ 17592186044416 := by omega
    refine .inr ⟨hp, by omega, ?_, ?_⟩
    · rw [W_field_New_1_eq]
      simp only [D.toInt_int, D.toL_agg, List.length_map, Int.lt_irrefl, decide_false, Bool.false_eq_true, if_false, hle, decide_true, if_true]
    · rw [W_ref02_Check_1_eq]
      simp only [D.toInt_int, D.toL_agg, List.length_map, Int.lt_irrefl, decide_false, Bool.false_eq_true, if_false]
  | succ r ih =>
    intro k s hr hk h0 h1 hs hp
    have hlt : k < l.length := by omega
    have h2 : (k : Int) < (l.length : Int) := by omega
    have hwk := hw l[k] (List.getElem_mem hlt)
    have ek : IntKind.i64.wrap ((k : Int) + 1) = ((k + 1 : Nat) : Int) := by rw [i64w _ (by omega) (by omega)]; simp
    have hc : ∀ c : Int, (code c).isNil = false := fun c => rfl
    have hat : ∀ c : Int, FX 17 [.int k, .iface 48 (.int c)] = some [errAt k c] := fun c => at_eq _ _ rfl
    rw [W_field_New_1_eq, W_ref02_Check_1_eq]
    simp only [D.toInt_int, D.toL_agg, List.length_map, h2, decide_true, if_true, ge_iff_le, Int.natCast_nonneg, Int.toNat_natCast, getI hlt, ek, hat, bindC, List.length_cons, List.length_nil, List.getD_cons_zero]
    by_cases h3 : l[k] < 1
    · simp only [h3, decide_true, if_true]
      exact .inl ⟨k, 5, .inr rfl, rfl, rfl⟩
    by_cases h4 : l[k] > 32
    · simp only [h3, h4, decide_false, decide_true, if_true, Bool.false_eq_true, if_false]
      exact .inl ⟨k, 5, .inr rfl, rfl, rfl⟩
    have hsum : IntKind.i64.wrap (s + l[k]) = s + l[k] := i64w _ (by omega) (by omega)
    simp only [h3, h4, decide_false, Bool.false_eq_true, if_false, hsum]
    by_cases h5 : s + l[k] > 64
    · simp only [h5, decide_true, if_true]
      exact .inl ⟨k, 4, .inl rfl, rfl, rfl⟩
    simp only [h5, decide_false, Bool.false_eq_true, if_false]
    refine ih (k + 1) (s + l[k]) (by omega) (by omega) (by omega) (by omega) ?_ ?_
    · rw [List.take_succ_eq_append_getElem hlt, List.sum_append, ← hs]; simp
    · intro x hx
      rw [List.take_succ_eq_append_getElem hlt, List.mem_append] at hx
      rcases hx with hx | hx
      · exact hp x hx
      · simp at hx; subst hx; omega
theorem num_nil : FX 8 [.nil] = some [.int 0] := by rw [E_law01_Num]; simp
theorem awake : FX 5 [] = some [.bool true] := by
  have hg : GoodW [3, 5] := ⟨by simp, by decide⟩
  have h1 := new_eq [3, 5] hg
  have h2 := pack_eq [3, 5] hg [1, 2] (by simp)
  have e1 : wsD [3, 5] = .agg [.int 3, .int 5] := rfl
  have e2 : vsD [1, 2] = .agg [.int 1, .int 2] := rfl
  have e3 : packR [3, 5] [1, 2] = [.int 17, .nil] := by rfl
  rw [e1] at h1 h2
  rw [e2, e3] at h2
  rw [E_law02_awake]
  simp only [h1, h2, bindC, List.length_cons, List.length_nil, if_true, List.getD_cons_zero, List.getD_cons_succ, D.isNil_nil, D.toInt_int]
  rfl
section
variable (ws : List Nat) (hg : GoodW ws)
include hg
theorem all_loop (x : Nat) (hx : x < 18446744073709551616) : ∀ (r k : Nat) (acc : List D), ws.length - k = r → k ≤ ws.length → acc.length ≤ k →
    W_field_Layout_All_1 (wsD ws) (.int x) [.int k, .agg acc] = some [.agg (acc ++ (List.range' k (ws.length - k)).map fun i => .int (getZ ws x i))] := by
  have hs := small ws hg
  intro r
  induction r with
  | zero =>
    intro k acc hr hk ha
    obtain rfl : k = ws.length := by omega
    have hl : (wsD ws).toL.length = ws.length := ws_len ws
    rw [W_field_Layout_All_1_eq]
    simp only [D.toInt_int, D.toL_agg, hl, Int.lt_irrefl, decide_false, Bool.false_eq_true, if_false, Nat.sub_self, List.range'_zero, List.map_nil, List.append_nil]
  | succ r ih =>
    intro k acc hr hk ha
    have hl : (wsD ws).toL.length = ws.length := ws_len ws
    have h2 : (k : Int) < (ws.length : Int) := by omega
    have ek : IntKind.i64.wrap ((k : Int) + 1) = ((k + 1 : Nat) : Int) := by rw [i64w _ (by omega) (by omega)]; simp
    have hb : ∀ x : D, ((acc ++ [x]).length : Int) ≤ 17592186044416 := fun x => by simp; omega
    rw [W_field_Layout_All_1_eq]
    simp only [D.toInt_int, D.toL_agg, hl, h2, decide_true, if_true, get_eq ws hg x hx k, bindC, List.length_cons, List.length_nil, List.getD_cons_zero, hb, ek]
    rw [ih (k + 1) _ (by omega) (by omega) (by simp; omega), show ws.length - k = (ws.length - (k + 1)) + 1 by omega, List.range'_succ]
    simp
theorem all_eq (x : Nat) (hx : x < 18446744073709551616) : FX 13 [wsD ws, .int x] = some [.agg ((List.range ws.length).map fun (i : Nat) => .int (getZ ws x i))] := by
  rw [E_field_Layout_All]
  have := all_loop ws hg x hx ws.length 0 [] (by omega) (by omega) (by simp)
  rw [List.nil_append, Nat.sub_zero, ← List.range_eq_range'] at this
  exact this
theorem law_loop (x : Nat) (hx : x < 18446744073709551616) (x1 x3 x4 x6 x7 x8 x9 x10 x11 x12 x13 x14 x15 x16 x17 x19 x20 : D) : ∀ (r k : Nat), ws.length - k = r → k ≤ ws.length →
    W_law02_FieldPacks_2 (wsD ws) x1 (.int x) x3 x4 (wsD ws) x6 x7 x8 x9 x10 x11 x12 x13 x14 x15 x16 x17 (.agg ((List.range ws.length).map fun (i : Nat) => .int (getZ ws x i))) x19 x20 [.int k] = some [.bool true] := by
  have hs := small ws hg
  intro r
  induction r with
  | zero =>
    intro k hr hk
    obtain rfl : k = ws.length := by omega
    rw [W_law02_FieldPacks_2_eq]
    simp only [D.toInt_int, D.toL_agg, List.length_map, List.length_range, Int.lt_irrefl, decide_false, Bool.false_eq_true, if_false, awake, bindC, List.length_cons, List.length_nil, if_true, List.getD_cons_zero]
  | succ r ih =>
    intro k hr hk
    have hlt : k < ws.length := by omega
    have hl : (wsD ws).toL.length = ws.length := ws_len ws
    have h2 : (k : Int) < (ws.length : Int) := by omega
    obtain ⟨g1, g2, g3⟩ := good_get hg k hlt
    have ek : IntKind.i64.wrap ((k : Int) + 1) = ((k + 1 : Nat) : Int) := by rw [i64w _ (by omega) (by omega)]; simp
    have hget : ((List.range ws.length).map fun (i : Nat) => D.int (getZ ws x i)).getD k .nil = .int (getZ ws x k) := by
      rw [List.getD_eq_getElem?_getD, List.getElem?_map, List.getElem?_range hlt]; rfl
    have hw : (wsD ws).toL.getD k .nil = .int (ws[k] : Int) := ws_get ws hlt
    have hm : IntKind.u64.wrap (arF .shl .u64 1 (ws[k] : Int) - 1) = ((2 ^ ws[k] - 1 : Nat) : Int) := by rw [shl_one ws[k] g2]; exact most_val _ g2
    rw [W_law02_FieldPacks_2_eq]
    simp only [D.toInt_int, D.toL_agg, hl, List.length_map, List.length_range, h2, decide_true, if_true, ge_iff_le, Int.natCast_nonneg, Int.toNat_natCast, hget, rget_eq ws hg x hx k, bindC, List.length_cons, List.length_nil, List.getD_cons_zero, bne_self_eq_false, Bool.false_eq_true, if_false, most_eq ws hg k hlt, hw, hm, ek]
    exact ih (k + 1) (by omega) (by omega)
theorem join_eq (x : Nat) (hx : x < 18446744073709551616) (i : Int) (x1 x4 x6 x7 x8 x9 x10 x11 x12 x13 x14 x15 x16 a0 : D) :
    J_law02_FieldPacks_1 (wsD ws) x1 (.int x) (.int i) x4 (wsD ws) x6 x7 x8 x9 x10 x11 x12 x13 x14 x15 x16 [a0] = some [.bool true] := by
  have hl : (wsD ws).toL.length = ws.length := ws_len ws
  rw [J_law02_FieldPacks_1_eq]
  simp only [all_eq ws hg x hx, bindC, List.length_cons, List.length_nil, if_true, List.getD_cons_zero, D.toL_agg, List.length_map, List.length_range, hl, bne_self_eq_false, Bool.false_eq_true, if_false, get_eq ws hg x hx i, rget_eq ws hg x hx i]
  exact law_loop ws hg x hx _ _ _ _ _ _ _ _ _ _ _ _ _ _ _ _ _ _ 0 rfl (by omega)
end
theorem packs (d0 d1 d2 d3 : D) (w0 : Wf Tryd.prog (.slice 3) d0) (w1 : Wf Tryd.prog (.slice 3) d1) (w2 : Wf Tryd.prog (.int .u64) d2) (w3 : Wf Tryd.prog (.int .i64) d3) : FX 3 [d0, d1, d2, d3] = some [.bool true] := by
  obtain ⟨l, rfl, _, hlw⟩ := Wf.ints (k := .i64) (by kernel_rfl) w0
  obtain ⟨vs, rfl, _, hvw⟩ := Wf.ints (k := .i64) (by kernel_rfl) w1
  obtain ⟨x, rfl, hxw⟩ := w2.toInt
  obtain ⟨i, rfl, _⟩ := w3.toInt
  have hlw' : ∀ x ∈ l, -9223372036854775808 ≤ x ∧ x ≤ 9223372036854775807 := fun x hx => by have := hlw x hx; simp [Lit.wf, IntKind.min, IntKind.max, IntKind.bits, IntKind.signed] at this; omega
  have hvw' : ∀ x ∈ vs, x ≤ 9223372036854775807 := fun x hx => by have := hvw x hx; simp [Lit.wf, IntKind.min, IntKind.max, IntKind.bits, IntKind.signed] at this; omega
  have hx0 : 0 ≤ x ∧ x < 18446744073709551616 := by simp [Lit.wf, IntKind.min, IntKind.max, IntKind.bits, IntKind.signed] at hxw; omega
  rw [E_law02_FieldPacks, E_law02_light]
  simp only [bindC, List.length_cons, List.length_nil, if_true, List.getD_cons_zero, D.toL_agg, List.length_map, D.toBool_bool]
  by_cases h1 : (l.length : Int) ≤ 70
  rotate_left
  · simp only [h1, decide_false, Bool.not_false, if_true, awake, List.length_cons, List.length_nil, List.getD_cons_zero]
  by_cases h2 : (vs.length : Int) > 70
  · simp only [h1, h2, decide_true, Bool.not_true, Bool.false_eq_true, if_false, if_true, awake, List.length_cons, List.length_nil, List.getD_cons_zero]
  simp only [h1, h2, decide_true, decide_false, Bool.not_true, Bool.false_eq_true, if_false]
  have hcl := check_loop l (by omega) hlw' l.length 0 0 (by omega) (by omega) (by omega) (by omega) (by simp) (by simp)
  rw [E_field_New, E_ref02_Check]
  rcases hcl with ⟨j, c, hc, e1, e2⟩ | ⟨hr, hsum, e1, e2⟩
  · have e1' : W_field_New_1 (.agg (l.map D.int)) [.int 0, .int 0] = some [.agg [], errAt j c] := e1
    have e2' : W_ref02_Check_1 (.agg (l.map D.int)) [.int 0, .int 0] = some [.int c, .int j] := e2
    have hn : FX 8 [errAt j c] = some [.int c] := NumE.num_at j c (by omega)
    obtain ⟨y, hp⟩ := NumE.place_at j c []
    have hp' : FX 9 [errAt j c, .agg []] = some [.int j, .bool true, .agg ([] ++ [y])] := hp
    have hc0 : (c != 0) = true := by simp; omega
    have hf : FX 10 [.agg []] = some [.int 0] := by rw [E_field_Layout_Fields]; rfl
    simp only [e1', e2', List.length_cons, List.length_nil, if_true, List.getD_cons_zero, List.getD_cons_succ, hn, D.toInt_int, bne_self_eq_false, Bool.false_eq_true, if_false, hc0, hp', awake, D.toBool_bool, beq_self_eq_true, hf]
  · have e1' : W_field_New_1 (.agg (l.map D.int)) [.int 0, .int 0] = some [.agg (l.map D.int), .nil] := e1
    have e2' : W_ref02_Check_1 (.agg (l.map D.int)) [.int 0, .int 0] = some [.int 0, .int 0] := e2
    obtain ⟨ws, hws⟩ : ∃ ws : List Nat, ws.map (fun (w : Nat) => (w : Int)) = l := ⟨l.map Int.toNat, by
      rw [List.map_map]
      conv => rhs; rw [← List.map_id l]
      refine List.map_congr_left fun x hx => ?_
      have := hr x hx
      simp only [Function.comp_apply, id_eq]
      omega⟩
    have hD : D.agg (l.map D.int) = wsD ws := by rw [← hws, List.map_map]; rfl
    have hsz : ∀ ws : List Nat, (ws.map (fun (w : Nat) => (w : Int))).sum = ((ws.sum : Nat) : Int) := by
      intro ws
      induction ws with
      | nil => rfl
      | cons a l ih => simp [ih]
    have hg : GoodW ws := by
      constructor
      · intro w hw
        have := hr (w : Int) (by rw [← hws]; exact List.mem_map.2 ⟨w, hw, rfl⟩)
        omega
      · rw [← hws, hsz] at hsum; omega
    have hll : l.length = ws.length := by rw [← hws, List.length_map]
    obtain ⟨xn, rfl⟩ : ∃ n : Nat, x = n := ⟨x.toNat, by omega⟩
    have hf : FX 10 [wsD ws] = some [.int ws.length] := by rw [E_field_Layout_Fields]; rw [show (wsD ws).toL.length = ws.length from ws_len ws]
    have hp := pack_eq ws hg vs hvw'
    have hrp := rpack_eq ws hg vs hvw'
    have hvD : D.agg (vs.map D.int) = vsD vs := rfl
    rw [hD] at e1' e2'
    rw [hD, hvD]
    have hj := fun a0 x1 x4 x6 x7 x8 x9 x10 x11 x12 x13 x14 x15 x16 => join_eq ws hg xn (by omega) i x1 x4 x6 x7 x8 x9 x10 x11 x12 x13 x14 x15 x16 a0
    simp only [e1', e2', List.length_cons, List.length_nil, if_true, List.getD_cons_zero, List.getD_cons_succ, num_nil, D.toInt_int, bne_self_eq_false, Bool.false_eq_true, if_false, hp, hrp]
    unfold packR rpackR
    have hcase : (∃ w, packI ws vs = (w, 0, none)) ∨ (∃ (k : Nat), packI ws vs = (0, 5, some (k : Int))) ∨ packI ws vs = (0, 1, none) := by
      unfold packI
      split
      · exact .inr (.inr rfl)
      · split
        · exact .inr (.inl ⟨_, rfl⟩)
        · exact .inl ⟨_, rfl⟩
    rcases hcase with ⟨w, hq⟩ | ⟨k, hq⟩ | hq
    · rw [hq]
      have h5 : ((0 : Int) == 5) = false := rfl
      simp only [if_true, List.length_cons, List.length_nil, List.getD_cons_zero, List.getD_cons_succ, num_nil, D.toInt_int, bne_self_eq_false, Bool.false_eq_true, if_false, hf, hll, h5, hj]
    · rw [hq]
      have hn : FX 8 [errAt k 5] = some [.int 5] := NumE.num_at k 5 (by omega)
      obtain ⟨y, hpl⟩ := NumE.place_at k 5 []
      have hpl' : FX 9 [errAt k 5, .agg []] = some [.int k, .bool true, .agg ([] ++ [y])] := hpl
      have h50 : ¬ ((5 : Int) = 0) := by omega
      simp only [h50, if_true, List.length_cons, List.length_nil, List.getD_cons_zero, List.getD_cons_succ, hn, D.toInt_int, bne_self_eq_false, Bool.false_eq_true, if_false, hf, hll, beq_self_eq_true, hpl', D.toBool_bool, Bool.not_true, Option.getD_some, hj]
    · rw [hq]
      have hn : FX 8 [code 1] = some [.int 1] := NumE.num_code 1 (by omega)
      have h10 : ¬ ((1 : Int) = 0) := by omega
      have h15 : ((1 : Int) == 5) = false := rfl
      simp only [h10, h15, if_true, List.length_cons, List.length_nil, List.getD_cons_zero, List.getD_cons_succ, hn, D.toInt_int, bne_self_eq_false, Bool.false_eq_true, if_false, hf, hll, hj]
end Go.Proofs.YtnbnjkbkjmlomaaDoor.Packs
