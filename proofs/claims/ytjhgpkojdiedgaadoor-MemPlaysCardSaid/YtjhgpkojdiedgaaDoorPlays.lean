/-
  MemPlays on data.
-/
import Derived.Test.YtjhgpkojdiedgaaDoorMemD
import Derived.Test.YtjhgpkojdiedgaaDoorNumE
namespace Go.Proofs.YtjhgpkojdiedgaaDoor.MemD
open Go.Proofs.YtjhgpkojdiedgaaDoor.Eng Go.Proofs.YtjhgpkojdiedgaaDoor Go.Proofs.YtjhgpkojdiedgaaDoor.Dat Go.Proofs.YtjhgpkojdiedgaaDoor.Open Go.Proofs.YtjhgpkojdiedgaaDoor.NumE
set_option linter.unusedVariables false
set_option linter.unusedSimpArgs false

def putD (p : Int × Int) : D := .agg [.int p.1, .int p.2]
/-- What was put there last. -/
def atV (l : List (Int × Int)) (p : Int) : Int := ((l.reverse.find? (fun q => q.1 == p)).map (·.2)).getD 0
theorem atV_nil (p : Int) : atV [] p = 0 := rfl
theorem atV_snoc (l : List (Int × Int)) (q : Int × Int) (p : Int) : atV (l ++ [q]) p = if q.1 = p then q.2 else atV l p := by
  unfold atV
  rw [List.reverse_append, List.reverse_cons, List.reverse_nil, List.nil_append, List.singleton_append, List.find?_cons]
  by_cases h : q.1 = p
  · simp [h]
  · have : (q.1 == p) = false := by simpa using h
    simp [this, h]
theorem at_loop (l : List (Int × Int)) (p : Int) (hl : l.length ≤ 1000) : ∀ k, k ≤ l.length → W_ref03_At_1 (.agg (l.map putD)) (.int p) [.int ((k : Int) - 1)] = some [.int (atV (l.take k) p)]
  | 0, h => by
    rw [W_ref03_At_1_eq]
    simp [atV_nil]
  | k + 1, h => by
    have e : ((k + 1 : Nat) : Int) - 1 = (k : Int) := by omega
    have hlt : k < l.length := h
    have eg : (l.map putD).getD k .nil = putD l[k] := by rw [List.getD_eq_getElem?_getD, List.getElem?_map, List.getElem?_eq_getElem hlt]; rfl
    have h1 : (k : Int) < (l.length : Int) := by omega
    rw [W_ref03_At_1_eq, e]
    simp only [D.toInt_int, D.toL_agg, List.length_map, ge_iff_le, Int.natCast_nonneg, decide_true, if_true, h1, Int.toNat_natCast, eg]
    simp only [putD, D.toL_agg, List.getD_cons_zero, List.getD_cons_succ, D.toInt_int]
    rw [List.take_succ_eq_append_getElem hlt, atV_snoc]
    by_cases hp : l[k].1 = p
    · simp [hp]
    · have hb : (l[k].1 == p) = false := by simpa using hp
      simp only [hb, Bool.false_eq_true, if_false, hp]
      rw [i64w _ (by omega) (by omega)]
      exact at_loop l p hl k (by omega)
theorem at_eq (l : List (Int × Int)) (p : Int) (hl : l.length ≤ 1000) : FX 8 [.agg (l.map putD), .int p] = some [.int (atV l p)] := by
  rw [E_ref03_At]
  simp only [D.toL_agg, List.length_map]
  rw [i64w _ (by omega) (by omega), at_loop l p hl l.length (Nat.le_refl _), List.take_length]

/-- What holds of the words and the past. -/
structure Inv (n : Nat) (m : M) (past : List (Int × Int)) (st : Int) : Prop where
  len : m.ws.length = n
  st : m.st = st
  at_ : ∀ p : Int, 0 ≤ p → p < n → m.get p = atV past p
theorem words_loop (n : Nat) (hn : n ≤ 8192) (m : M) (past : List (Int × Int)) (st : Int) (hi : Inv n m past st) (hp : past.length ≤ 1000) (hs : List D) (x0 x1 x2 x3 x4 x5 x8 x9 x11 : D) :
    ∀ (r j : Nat), n - j = r → j ≤ n → W_law03_MemPlays_2 x0 x1 x2 x3 x4 x5 (.agg (past.map putD)) (.agg hs) x8 x9 (.agg (m.ws.map D.int)) x11 [.int (j : Int)] = some [.bool true] := by
  intro r
  induction r with
  | zero =>
    intro j hr hj
    obtain rfl : j = n := by omega
    obtain ⟨z, ez⟩ := awake hs
    rw [W_law03_MemPlays_2_eq]
    simp only [D.toInt_int, D.toL_agg, List.length_map, hi.len, Int.lt_irrefl, decide_false, Bool.false_eq_true, if_false, ez, bindC, List.length_cons, List.length_nil, if_true, List.getD_cons_zero]
  | succ r ih =>
    intro j hr hj
    have h1 : (j : Int) < (n : Int) := by omega
    have ej : IntKind.i64.wrap ((j : Int) + 1) = ((j + 1 : Nat) : Int) := by rw [i64w _ (by omega) (by omega)]; simp
    have hw : ((m.ws.map D.int).getD j .nil) = .int (atV past j) := by
      have := hi.at_ j (by omega) h1
      have h2 := getW (ws := m.ws) (x := (j : Int)) ⟨by omega, by rw [hi.len]; exact h1⟩
      rw [Int.toNat_natCast] at h2
      rw [h2, ← this]; rfl
    rw [W_law03_MemPlays_2_eq]
    simp only [D.toInt_int, D.toL_agg, List.length_map, hi.len, h1, decide_true, if_true, ge_iff_le, Int.natCast_nonneg, at_eq past _ hp, bindC, List.length_cons, List.length_nil, List.getD_cons_zero, Int.toNat_natCast, hw, bne_self_eq_false, Bool.false_eq_true, if_false, ej]
    exact ih (j + 1) (by omega) (by omega)
theorem final (n : Nat) (hn : n ≤ 8192) (m : M) (past : List (Int × Int)) (st : Int) (hi : Inv n m past st) (hp : past.length ≤ 1000) (hs : List D) (k : Nat) (hg : hs.getD k .nil = m.d) (x1 x2 x3 x4 x5 : D) :
    J_law03_MemPlays_1 (.int (n : Int)) x1 x2 x3 x4 x5 [.agg (past.map putD), .agg hs, .int (k : Int), .int st] = some [.bool true] := by
  rw [J_law03_MemPlays_1_eq]
  simp only [words_eq hg (by rw [hi.len]; omega), steps_eq hg, bindC, List.length_cons, List.length_nil, if_true, List.getD_cons_zero, D.toL_agg, List.length_map, hi.len, hi.st, D.toInt_int, bne_self_eq_false, Bool.false_eq_true, if_false]
  exact words_loop n hn m past st hi hp hs _ _ _ _ _ _ _ _ _ n 0 (by omega) (by omega)

structure Op where
  k : Int
  at_ : Int
  old : Int
  new : Int
def Op.d (o : Op) : D := .agg [.int o.k, .int o.at_, .int o.old, .int o.new]
theorem ops_of {d : D} (w : Wf Tryd.prog (.slice 34) d) : ∃ l : List Op, d = .agg (l.map Op.d) := by
  obtain ⟨l, h, _, _⟩ := w.structs (ts := [.int .i64, .int .i64, .int .u64, .int .u64]) (f := Op.d) (Q := fun _ => True) (by kernel_rfl) (by simp) (by
    rintro ys ⟨a, _, rfl, ha, b, _, rfl, hb, c, _, rfl, hc, e, _, rfl, he, rfl⟩
    obtain ⟨a, rfl, _⟩ := ha.toInt
    obtain ⟨b, rfl, _⟩ := hb.toInt
    obtain ⟨c, rfl, _⟩ := hc.toInt
    obtain ⟨e, rfl, _⟩ := he.toInt
    exact ⟨⟨a, b, c, e⟩, rfl, trivial⟩)
  exact ⟨l, h⟩
theorem err_eq (x : Int) : err x = errAt x 5 := rfl
section
variable {ops : List Op} {i : Nat} {o : Op} (ho : (ops.map Op.d).getD i .nil = o.d)
include ho
theorem outJ6 {hs : List D} {k : Nat} {m : M} {st : Int} (hg : hs.getD k .nil = m.d) (hk : k < hs.length) (hst : m.st = st) (x0 x2 x3 x4 x5 x6 x10 x11 past : D) (g0 g1 g2 : Eng.Fn) (a0 a1 a2 a3 a4 : D) :
    ∃ y, J_law03_MemPlays_6 x0 (.agg (ops.map Op.d)) x2 x3 x4 x5 x6 (.int st) (.int (i : Int)) past x10 x11 g0 g1 g2 [a0, a1, a2, a3, a4, .agg hs, .int (k : Int), err o.at_] = g2 [past, .agg (hs ++ [y]), .int (k : Int), .int st] := by
  obtain ⟨y, hy⟩ := place_at o.at_ 5 hs
  have d1 : o.d.toL.getD 1 .nil = .int o.at_ := rfl
  refine ⟨y, ?_⟩
  rw [J_law03_MemPlays_6_eq]
  simp only [err_eq, hy, num_at o.at_ 5 (by omega), bindC, List.length_cons, List.length_nil, if_true, List.getD_cons_zero, List.getD_cons_succ, D.toInt_int, D.toBool_bool, bne_self_eq_false, Bool.not_true, Bool.false_eq_true, if_false, D.toL_agg, Int.toNat_natCast, ho, d1, steps_eq (hs := hs ++ [y]) (m := m) (by rw [getD_left y hk]; exact hg), hst]
theorem outJ5 {hs : List D} {k : Nat} {m : M} {st : Int} {n : Nat} (hout : ¬ o.at_ < (n : Int)) (hg : hs.getD k .nil = m.d) (hk : k < hs.length) (hst : m.st = st) (x2 x3 x4 x5 x6 x10 x11 past : D) (g0 g1 g2 : Eng.Fn) (a0 a1 a2 a3 a4 : D) :
    ∃ y, J_law03_MemPlays_5 (.int (n : Int)) (.agg (ops.map Op.d)) x2 x3 x4 x5 x6 (.int st) (.int (i : Int)) past x10 x11 g0 g1 g2 [a0, a1, a2, a3, a4, .agg hs, .int (k : Int), err o.at_] = g2 [past, .agg (hs ++ [y]), .int (k : Int), .int st] := by
  obtain ⟨y, hy⟩ := place_at o.at_ 5 hs
  have d1 : o.d.toL.getD 1 .nil = .int o.at_ := rfl
  refine ⟨y, ?_⟩
  rw [J_law03_MemPlays_5_eq]
  simp only [D.toInt_int, D.toL_agg, Int.toNat_natCast, ho, d1, hout, decide_false, Bool.not_false, if_true]
  simp only [err_eq, hy, num_at o.at_ 5 (by omega), bindC, List.length_cons, List.length_nil, if_true, List.getD_cons_zero, List.getD_cons_succ, D.toInt_int, D.toBool_bool, bne_self_eq_false, Bool.not_true, Bool.false_eq_true, if_false, steps_eq (hs := hs ++ [y]) (m := m) (by rw [getD_left y hk]; exact hg), hst]
theorem inJ5 {hs : List D} {k : Nat} {m : M} {st : Int} {n : Nat} (hin : o.at_ < (n : Int)) (hg : hs.getD k .nil = m.d) (hst : m.st = IntKind.i64.wrap (st + 1)) (past : List (Int × Int)) (hp : past.length ≤ 1000) (hk : m.k = o.k) (ha : m.a = o.at_) (x2 x3 x4 x5 x6 x10 : D) (g0 g1 g2 : Eng.Fn) :
    J_law03_MemPlays_5 (.int (n : Int)) (.agg (ops.map Op.d)) x2 x3 x4 x5 x6 (.int st) (.int (i : Int)) (.agg (past.map putD)) x10 (.int m.was) g0 g1 g2 [.int o.k, .int o.at_, .int m.was, .int m.now, .bool m.dn, .agg hs, .int (k : Int), .nil] =
      g2 [.agg ((if m.now = m.was then past else past ++ [(o.at_, m.now)]).map putD), .agg hs, .int (k : Int), .int (IntKind.i64.wrap (st + 1))] := by
  have d1 : o.d.toL.getD 1 .nil = .int o.at_ := rfl
  rw [J_law03_MemPlays_5_eq]
  simp only [D.toInt_int, D.toL_agg, Int.toNat_natCast, ho, d1, hin, decide_true, Bool.not_true, Bool.false_eq_true, if_false, D.isNil_nil, steps_eq hg, last_eq hg, bindC, List.length_cons, List.length_nil, if_true, List.getD_cons_zero, List.getD_cons_succ, hst, bne_self_eq_false, hk, ha, beq_self_eq_true, Bool.and_self, D.toBool_bool]
  by_cases h : m.now = m.was
  · simp only [h, bne_self_eq_false, Bool.false_eq_true, if_false, if_true]
  · have hb : (m.now != m.was) = true := by simpa using h
    have hl : ((past.map putD ++ [D.agg [.int o.at_, .int m.now]]).length : Int) ≤ 8796093022208 := by simp; omega
    simp only [hb, if_true, hl, decide_true, h, if_false, List.map_append, List.map_cons, List.map_nil, putD]
end
theorem inv_step {n : Nat} {m : M} {past : List (Int × Int)} {st : Int} (hI : Inv n m past st) {a : Int} (h0 : 0 ≤ a) (h1 : a < n) (m' : M) (hw : m'.ws = m.ws.set a.toNat m'.now) (hwas : m'.was = atV past a) (hst : m'.st = IntKind.i64.wrap (st + 1)) :
    Inv n m' (if m'.now = m'.was then past else past ++ [(a, m'.now)]) (IntKind.i64.wrap (st + 1)) := by
  have hl := hI.len
  refine ⟨by rw [hw, List.length_set]; exact hl, hst, fun p p0 p1 => ?_⟩
  have hget : m'.get p = if p = a then m'.now else m.get p := by
    unfold M.get
    rw [hw, List.getD_eq_getElem?_getD, List.getElem?_set]
    by_cases h : p = a
    · subst h
      rw [if_pos rfl, if_pos rfl, if_pos (by omega)]
      rfl
    · rw [if_neg (by omega), if_neg h, List.getD_eq_getElem?_getD]
  rw [hget]
  by_cases hn : m'.now = m'.was
  · rw [if_pos hn]
    by_cases h : p = a
    · rw [if_pos h, hn, hwas, h]
    · rw [if_neg h]; exact hI.at_ p p0 p1
  · rw [if_neg hn, atV_snoc]
    by_cases h : p = a
    · rw [if_pos h, if_pos h.symm]
    · rw [if_neg h, if_neg (fun e => h e.symm)]; exact hI.at_ p p0 p1
theorem past_len {past : List (Int × Int)} {i : Nat} (h : past.length ≤ i) (c : Prop) [Decidable c] (x : Int × Int) : (if c then past else past ++ [x]).length ≤ i + 1 := by
  split
  · omega
  · simp; omega
theorem set_self {ws : List Int} {a : Int} (h : 0 ≤ a ∧ a < ws.length) : ws.set a.toNat (ws.getD a.toNat 0) = ws := by
  have hl : a.toNat < ws.length := by omega
  rw [List.getD_eq_getElem?_getD, List.getElem?_eq_getElem hl]
  exact List.set_getElem_self hl
theorem plays (n : Nat) (hn : n ≤ 8192) (ops : List Op) (x2 x3 x4 x5 : D) : ∀ (r i : Nat) (hs : List D) (k : Nat) (m : M) (past : List (Int × Int)) (st : Int), ops.length - i = r → i ≤ ops.length → i ≤ 200 → past.length ≤ i → k < hs.length → hs.getD k .nil = m.d → Inv n m past st →
    W_law03_MemPlays_3 (.int (n : Int)) (.agg (ops.map Op.d)) x2 x3 x4 x5 (J_law03_MemPlays_1 (.int (n : Int)) (.agg (ops.map Op.d)) x2 x3 x4 x5) [.int (k : Int), .int st, .int (i : Int), .agg (past.map putD), .agg hs] = some [.bool true] := by
  intro r
  induction r with
  | zero =>
    intro i hs k m past st hr hi h200 hp hk hg hI
    obtain rfl : i = ops.length := by omega
    rw [W_law03_MemPlays_3_eq]
    simp only [D.toInt_int, D.toL_agg, List.length_map, Int.lt_irrefl, decide_false, Bool.false_eq_true, if_false]
    exact final n hn m past st hI (by omega) hs k hg _ _ _ _ _
  | succ r ih =>
    intro i hs k m past st hr hi h200 hp hk hg hI
    have hlt : i < ops.length := by omega
    have h1 : (i : Int) < (ops.length : Int) := by omega
    have ho : (ops.map Op.d).getD i .nil = ops[i].d := by rw [List.getD_eq_getElem?_getD, List.getElem?_map, List.getElem?_eq_getElem hlt]; rfl
    generalize ops[i] = o at ho
    have ei : IntKind.i64.wrap ((i : Int) + 1) = ((i + 1 : Nat) : Int) := by rw [i64w _ (by omega) (by omega)]; simp
    rw [W_law03_MemPlays_3_eq]
    simp only [D.toInt_int, D.toL_agg, List.length_map, h1, decide_true, if_true, ge_iff_le, Int.natCast_nonneg]
    by_cases h2 : (200 : Int) ≤ (i : Int)
    · simp only [h2, decide_true, if_true]
      exact final n hn m past st hI (by omega) hs k hg _ _ _ _ _
    have d0 : o.d.toL.getD 0 .nil = .int o.k := rfl
    have d1 : o.d.toL.getD 1 .nil = .int o.at_ := rfl
    have d2 : o.d.toL.getD 2 .nil = .int o.old := rfl
    have d3 : o.d.toL.getD 3 .nil = .int o.new := rfl
    generalize hg0 : J_law03_MemPlays_1 (.int (n : Int)) (.agg (ops.map Op.d)) x2 x3 x4 x5 = g0 at ih ⊢
    have next : ∀ (x6 x7 x9 x10 : D) (g : Eng.Fn) (hs' : List D) (k' : Nat) (m' : M) (past' : List (Int × Int)) (st' : Int), past'.length ≤ i + 1 → k' < hs'.length → hs'.getD k' .nil = m'.d → Inv n m' past' st' →
        J_law03_MemPlays_4 (.int (n : Int)) (.agg (ops.map Op.d)) x2 x3 x4 x5 x6 x7 (.int (i : Int)) x9 x10 g (W_law03_MemPlays_3 (.int (n : Int)) (.agg (ops.map Op.d)) x2 x3 x4 x5 g0) [.agg (past'.map putD), .agg hs', .int (k' : Int), .int st'] = some [.bool true] := by
      intro x6 x7 x9 x10 g hs' k' m' past' st' q1 q2 q3 q4
      rw [J_law03_MemPlays_4_eq]
      simp only [D.toInt_int, ei]
      exact ih (i + 1) hs' k' m' past' st' (by omega) (by omega) (by omega) q1 q2 q3 q4
    have twins : ∀ (x6 x7 x9 x10 : D) (g : Eng.Fn), (bindC (FX 12 [.int (k : Int), .agg hs]) 2 fun r12 =>
        bindC (FX 10 [(r12.getD 0 D.nil), (D.int (0 : Int)), (D.int (99 : Int)), (r12.getD 1 D.nil)]) 2 fun r14 =>
        bindC (FX 12 [.int (k : Int), (r14.getD 1 D.nil)]) 2 fun r16 =>
        (J_law03_MemPlays_4 (.int (n : Int)) (.agg (ops.map Op.d)) x2 x3 x4 x5 x6 x7 (.int (i : Int)) x9 x10 g (W_law03_MemPlays_3 (.int (n : Int)) (.agg (ops.map Op.d)) x2 x3 x4 x5 g0)) [.agg (past.map putD), (r16.getD 1 D.nil), (r16.getD 0 D.nil), .int st]) = some [.bool true] := by
      intro x6 x7 x9 x10 g
      have e1 := twin_eq hg (by rw [hI.len]; omega)
      have q1 : (hs ++ [m.d]).getD hs.length .nil = m.d := getD_new _ _
      have e2 := store_eq q1 (by simp) 0 99
      have q2 : ((hs ++ [m.d]).set hs.length (m.store 0 99).d).getD k .nil = m.d := by rw [getD_set_ne _ (by omega), getD_left _ hk]; exact hg
      have e3 := twin_eq q2 (by rw [hI.len]; omega)
      simp only [e1, e2, e3, bindC, List.length_cons, List.length_nil, if_true, List.getD_cons_zero, List.getD_cons_succ]
      exact next _ _ _ _ _ _ _ m past st (by omega) (by simp) (getD_new _ _) hI
    have stay : ∀ (x6 x7 x9 x10 : D) (g : Eng.Fn), (J_law03_MemPlays_4 (.int (n : Int)) (.agg (ops.map Op.d)) x2 x3 x4 x5 x6 x7 (.int (i : Int)) x9 x10 g (W_law03_MemPlays_3 (.int (n : Int)) (.agg (ops.map Op.d)) x2 x3 x4 x5 g0)) [.agg (past.map putD), .agg hs, .int (k : Int), .int st] = some [.bool true] :=
      fun x6 x7 x9 x10 g => next _ _ _ _ _ _ _ m past st (by omega) hk hg hI
    simp only [h2, decide_false, Bool.false_eq_true, if_false, Int.toNat_natCast, ho, d0, d1, d2, d3, D.toInt_int, at_eq past _ (show past.length ≤ 1000 by omega), load_eq hg hk, store_eq hg hk, swap_eq hg hk, bindC, List.length_cons, List.length_nil, if_true, List.getD_cons_zero, List.getD_cons_succ, D.toBool_bool]
    simp only [bindC] at twins
    by_cases hneg : (0 : Int) ≤ o.at_
    · simp only [hneg, decide_true, if_true]
      by_cases hin : o.at_ < (n : Int)
      · have hinn : m.inn o.at_ := ⟨hneg, by rw [hI.len]; exact hin⟩
        have hat : m.get o.at_ = atV past o.at_ := hI.at_ _ hneg hin
        have hself : m.ws.set o.at_.toNat (atV past o.at_) = m.ws := by rw [← hat]; exact set_self hinn
        have hst := hI.st
        simp only [hinn, if_true, hin, decide_true, Bool.not_true, Bool.false_eq_true, if_false, hat, bne_self_eq_false, true_and]
        by_cases k1 : o.k = 1
        · have kb : (o.k == 1) = true := by simpa using k1
          simp only [kb, if_true]
          have hm : m.load o.at_ = ⟨m.ws, IntKind.i64.wrap (st + 1), 1, o.at_, atV past o.at_, atV past o.at_, true⟩ := by simp only [M.load, hinn, if_true, hat, hst]
          rw [hm]
          refine (inJ5 (m := ⟨m.ws, IntKind.i64.wrap (st + 1), 1, o.at_, atV past o.at_, atV past o.at_, true⟩) ho hin (getD_set _ hk) rfl past (by omega) k1.symm rfl _ _ _ _ _ _ _ _ _).trans ?_
          exact next _ _ _ _ _ _ _ _ _ _ (past_len hp _ _) (by simpa using hk) (getD_set _ hk) (inv_step hI hneg hin _ hself.symm rfl rfl)
        · have kb : (o.k == 1) = false := by simpa using k1
          simp only [kb, Bool.false_eq_true, if_false]
          by_cases k2 : o.k = 2
          · have kb2 : (o.k == 2) = true := by simpa using k2
            simp only [kb2, if_true]
            have hm : m.store o.at_ o.new = ⟨m.ws.set o.at_.toNat o.new, IntKind.i64.wrap (st + 1), 2, o.at_, atV past o.at_, o.new, true⟩ := by simp only [M.store, hinn, if_true, hat, hst]
            rw [hm]
            refine (inJ5 (m := ⟨m.ws.set o.at_.toNat o.new, IntKind.i64.wrap (st + 1), 2, o.at_, atV past o.at_, o.new, true⟩) ho hin (getD_set _ hk) rfl past (by omega) k2.symm rfl _ _ _ _ _ _ _ _ _).trans ?_
            exact next _ _ _ _ _ _ _ _ _ _ (past_len hp _ _) (by simpa using hk) (getD_set _ hk) (inv_step hI hneg hin _ rfl rfl rfl)
          · have kb2 : (o.k == 2) = false := by simpa using k2
            simp only [kb2, Bool.false_eq_true, if_false]
            by_cases k3 : o.k = 3
            · have kb3 : (o.k == 3) = true := by simpa using k3
              simp only [kb3, if_true]
              by_cases hold : atV past o.at_ = o.old
              · have hb : (atV past o.at_ == o.old) = true := by simpa using hold
                simp only [hold, decide_true, hb, beq_self_eq_true, Bool.not_true, Bool.false_eq_true, if_false, if_true]
                have hm : m.swap o.at_ o.old o.new = ⟨m.ws.set o.at_.toNat o.new, IntKind.i64.wrap (st + 1), 3, o.at_, o.old, o.new, true⟩ := by simp only [M.swap, hinn, if_true, hat, hold, hst]
                rw [hm]
                refine (inJ5 (m := ⟨m.ws.set o.at_.toNat o.new, IntKind.i64.wrap (st + 1), 3, o.at_, o.old, o.new, true⟩) ho hin (getD_set _ hk) rfl past (by omega) k3.symm rfl _ _ _ _ _ _ _ _ _).trans ?_
                exact next _ _ _ _ _ _ _ _ _ _ (past_len hp _ _) (by simpa using hk) (getD_set _ hk) (inv_step hI hneg hin _ rfl hold.symm rfl)
              · have hb : (atV past o.at_ == o.old) = false := by simpa using hold
                simp only [hold, decide_false, hb, beq_self_eq_true, Bool.not_true, Bool.false_eq_true, if_false]
                have hm : m.swap o.at_ o.old o.new = ⟨m.ws, IntKind.i64.wrap (st + 1), 3, o.at_, atV past o.at_, atV past o.at_, false⟩ := by simp only [M.swap, hinn, if_true, hat, hold, if_false, hst]
                rw [hm]
                refine (inJ5 (m := ⟨m.ws, IntKind.i64.wrap (st + 1), 3, o.at_, atV past o.at_, atV past o.at_, false⟩) ho hin (getD_set _ hk) rfl past (by omega) k3.symm rfl _ _ _ _ _ _ _ _ _).trans ?_
                exact next _ _ _ _ _ _ _ _ _ _ (past_len hp _ _) (by simpa using hk) (getD_set _ hk) (inv_step hI hneg hin _ hself.symm rfl rfl)
            · have kb3 : (o.k == 3) = false := by simpa using k3
              simp only [kb3, Bool.false_eq_true, if_false]
              split
              · exact twins _ _ _ _ _
              · exact stay _ _ _ _ _
      · have hinn : ¬ m.inn o.at_ := fun h => hin (by rw [← hI.len]; exact h.2)
        have hst := hI.st
        simp only [hinn, hin, if_false, decide_false, Bool.not_false, if_true, bne_self_eq_false, Bool.false_eq_true, false_and, M.load, M.store, M.swap, set_same hg hk, beq_self_eq_true, Bool.not_true]
        have go : ∀ (x6 x10 x11 : D) (g1 : Eng.Fn) (b0 b1 b2 b3 b4 : D), J_law03_MemPlays_5 (.int (n : Int)) (.agg (ops.map Op.d)) x2 x3 x4 x5 x6 (.int st) (.int (i : Int)) (.agg (past.map putD)) x10 x11 g0 g1 (J_law03_MemPlays_4 (.int (n : Int)) (.agg (ops.map Op.d)) x2 x3 x4 x5 x6 (.int st) (.int (i : Int)) (.agg (past.map putD)) x10 g0 (W_law03_MemPlays_3 (.int (n : Int)) (.agg (ops.map Op.d)) x2 x3 x4 x5 g0)) [b0, b1, b2, b3, b4, .agg hs, .int (k : Int), err o.at_] = some [.bool true] := by
          intro x6 x10 x11 g1 b0 b1 b2 b3 b4
          obtain ⟨y, hy⟩ := outJ5 ho hin hg hk hst x2 x3 x4 x5 x6 x10 x11 (.agg (past.map putD)) g0 g1 (J_law03_MemPlays_4 (.int (n : Int)) (.agg (ops.map Op.d)) x2 x3 x4 x5 x6 (.int st) (.int (i : Int)) (.agg (past.map putD)) x10 g0 (W_law03_MemPlays_3 (.int (n : Int)) (.agg (ops.map Op.d)) x2 x3 x4 x5 g0)) b0 b1 b2 b3 b4
          rw [hy]
          exact next _ _ _ _ _ _ _ m past st (by omega) (by simp; omega) (by rw [getD_left y hk]; exact hg) hI
        split
        · exact go _ _ _ _ _ _ _ _ _
        · split
          · exact go _ _ _ _ _ _ _ _ _
          · split
            · exact go _ _ _ _ _ _ _ _ _
            · split
              · exact twins _ _ _ _ _
              · exact stay _ _ _ _ _
    · have hinn : ¬ m.inn o.at_ := fun h => hneg h.1
      have hst := hI.st
      simp only [hneg, decide_false, Bool.false_eq_true, if_false, hinn, false_and, M.load, M.store, M.swap, set_same hg hk, bne_self_eq_false, beq_self_eq_true, Bool.not_true]
      have go : ∀ (x6 x10 x11 : D) (g1 : Eng.Fn) (b0 b1 b2 b3 b4 : D), J_law03_MemPlays_6 (.int (n : Int)) (.agg (ops.map Op.d)) x2 x3 x4 x5 x6 (.int st) (.int (i : Int)) (.agg (past.map putD)) x10 x11 g0 g1 (J_law03_MemPlays_4 (.int (n : Int)) (.agg (ops.map Op.d)) x2 x3 x4 x5 x6 (.int st) (.int (i : Int)) (.agg (past.map putD)) x10 g0 (W_law03_MemPlays_3 (.int (n : Int)) (.agg (ops.map Op.d)) x2 x3 x4 x5 g0)) [b0, b1, b2, b3, b4, .agg hs, .int (k : Int), err o.at_] = some [.bool true] := by
        intro x6 x10 x11 g1 b0 b1 b2 b3 b4
        obtain ⟨y, hy⟩ := outJ6 ho hg hk hst (.int (n : Int)) x2 x3 x4 x5 x6 x10 x11 (.agg (past.map putD)) g0 g1 (J_law03_MemPlays_4 (.int (n : Int)) (.agg (ops.map Op.d)) x2 x3 x4 x5 x6 (.int st) (.int (i : Int)) (.agg (past.map putD)) x10 g0 (W_law03_MemPlays_3 (.int (n : Int)) (.agg (ops.map Op.d)) x2 x3 x4 x5 g0)) b0 b1 b2 b3 b4
        rw [hy]
        exact next _ _ _ _ _ _ _ m past st (by omega) (by simp; omega) (by rw [getD_left y hk]; exact hg) hI
      split
      · exact go _ _ _ _ _ _ _ _ _
      · split
        · exact go _ _ _ _ _ _ _ _ _
        · split
          · exact go _ _ _ _ _ _ _ _ _
          · split
            · exact twins _ _ _ _ _
            · exact stay _ _ _ _ _
theorem memplays (d0 d1 : D) (w0 : Wf Tryd.prog (.int .i64) d0) (w1 : Wf Tryd.prog (.slice 34) d1) : FX 3 [d0, d1] = some [.bool true] := by
  obtain ⟨n, rfl, hn⟩ := w0.toInt
  obtain ⟨ops, rfl⟩ := ops_of w1
  obtain ⟨z, ez⟩ := awake []
  have hnum := num_code 4 (by omega)
  rw [E_law03_MemPlays]
  by_cases h0 : n < 0
  · simp only [new_bad n (.inl h0), bindC, List.length_cons, List.length_nil, if_true, List.getD_cons_zero, List.getD_cons_succ, D.toInt_int, h0, decide_true, ez, D.toBool_bool, D.isNil_nil, show (D.iface 52 (D.int 4)) = code 4 from rfl, hnum, beq_self_eq_true]
  · by_cases h1 : n > 8192
    · simp only [new_bad n (.inr h1), bindC, List.length_cons, List.length_nil, if_true, List.getD_cons_zero, List.getD_cons_succ, D.toInt_int, h0, h1, decide_true, decide_false, Bool.false_eq_true, if_false, ez, D.toBool_bool, D.isNil_nil, show (D.iface 52 (D.int 4)) = code 4 from rfl, hnum, beq_self_eq_true]
    · obtain ⟨k, rfl⟩ : ∃ k : Nat, n = (k : Int) := ⟨n.toNat, by omega⟩
      have hk : k ≤ 8192 := by omega
      have e1 := new_eq k hk []
      simp only [List.nil_append, List.length_nil] at e1
      have hlen : FX 7 [.int ((0 : Nat) : Int), .agg [(M.new k).d]] = some [.int (k : Int)] := by
        rw [E_p_mem_Mem_Len]
        simp [isNil_int, M.d, M.new]
      simp only [e1, bindC, List.length_cons, List.length_nil, if_true, List.getD_cons_zero, List.getD_cons_succ, D.toInt_int, h0, h1, decide_false, Bool.false_eq_true, if_false, isNil_int, D.isNil_nil, Bool.not_true, hlen, bne_self_eq_false]
      exact plays k hk ops _ _ _ _ ops.length 0 [(M.new k).d] 0 (M.new k) [] 0 (by omega) (by omega) (by omega) (by simp) (by simp) rfl ⟨by simp [M.new], rfl, fun p p0 p1 => by
        have : p.toNat < k := by omega
        simp [M.get, M.new, atV_nil, List.getD_eq_getElem?_getD, this]⟩
end Go.Proofs.YtjhgpkojdiedgaaDoor.MemD
