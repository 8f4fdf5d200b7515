/-
  The model of trace on data: what stays, and the document's example.
-/
import Derived.Test.YtofkbhilhgmnlaaTrB
import Derived.Test.YtofkbhilhgmnlaaProg
namespace Go.Proofs.Ytofkbhilhgmnlaa.TrD
open Go.Proofs.Ytofkbhilhgmnlaa.Eng Go.Proofs.Ytofkbhilhgmnlaa Go.Proofs.Ytofkbhilhgmnlaa.Dat Go.Proofs.Ytofkbhilhgmnlaa.Open
set_option linter.unusedVariables false
set_option linter.unusedSimpArgs false
set_option maxRecDepth 10000

/-- What an order may become. -/
structure Od.Le (o n : Od) : Prop where
  cell : n.cell = o.cell
  gen : n.gen = o.gen
  name : n.name = o.name
  side : n.side = o.side
  price : n.price = o.price
  least : n.least = o.least
  till : n.till = o.till
  qty : n.qty = o.qty
  left : n.left ≤ o.left
  fills : o.fills ≤ n.fills
  fin : o.fin ≠ 0 → n = o
  ask : o.ask = true → n.ask = true
theorem Od.Le.refl (o : Od) : o.Le o := ⟨rfl, rfl, rfl, rfl, rfl, rfl, rfl, rfl, Int.le_refl _, Int.le_refl _, fun _ => rfl, id⟩
theorem Od.Le.trans {o n m : Od} (h : o.Le n) (g : n.Le m) : o.Le m :=
  ⟨g.cell.trans h.cell, g.gen.trans h.gen, g.name.trans h.name, g.side.trans h.side, g.price.trans h.price, g.least.trans h.least, g.till.trans h.till, g.qty.trans h.qty,
    Int.le_trans g.left h.left, Int.le_trans h.fills g.fills, fun hf => by have e := h.fin hf; subst e; exact g.fin hf, fun ha => g.ask (h.ask ha)⟩
structure LeL (os os' : List Od) : Prop where
  len : os.length ≤ os'.length
  le : ∀ i, i < os.length → (at? os i).Le (at? os' i)
theorem LeL.refl (os : List Od) : LeL os os := ⟨Nat.le_refl _, fun _ _ => .refl _⟩
theorem LeL.trans {a b c : List Od} (h : LeL a b) (g : LeL b c) : LeL a c := ⟨Nat.le_trans h.len g.len, fun i hi => (h.le i hi).trans (g.le i (Nat.lt_of_lt_of_le hi h.len))⟩
theorem LeL.set {os : List Od} {i : Nat} {x : Od} (hi : i < os.length) (h : (at? os i).Le x) : LeL os (os.set i x) := by
  refine ⟨by simp, fun j hj => ?_⟩
  by_cases e : i = j
  · subst e; rw [at_set hi]; exact h
  · rw [at_set_ne e]; exact .refl _
theorem LeL.snoc (os : List Od) (x : Od) : LeL os (os ++ [x]) := by
  refine ⟨by simp, fun j hj => ?_⟩
  rw [at_eq hj, at_eq (show j < (os ++ [x]).length by simp; omega), List.getElem_append_left hj]
  exact .refl _
def Inv (c : RU.Cf) (os : List Od) : Prop := ∀ o ∈ os, o.Ok c
theorem Inv.set {c : RU.Cf} {os : List Od} {i : Nat} {x : Od} (h : Inv c os) (hx : x.Ok c) : Inv c (os.set i x) := fun o ho => by
  rcases List.mem_or_eq_of_mem_set ho with h' | rfl
  · exact h o h'
  · exact hx
theorem Inv.at {c : RU.Cf} {os : List Od} {i : Nat} (h : Inv c os) (hi : i < os.length) : (at? os i).Ok c := by rw [at_eq hi]; exact h _ (List.getElem_mem hi)
/-- What a step keeps. -/
structure Kept (c : RU.Cf) (os : List Od) (r : Int × List Od) : Prop where
  le : LeL os r.2
  inv : Inv c r.2
  no : r.1 ≠ 0 → r.2 = os
  len : r.2.length ≤ os.length + 1
theorem Kept.err {c : RU.Cf} {os : List Od} (h : Inv c os) (k : Int) : Kept c os (k, os) := ⟨.refl _, h, fun _ => rfl, by simp⟩
theorem Kept.upd {c : RU.Cf} {os : List Od} {i : Nat} {x : Od} (h : Inv c os) (hi : i < os.length) (hl : (at? os i).Le x) (hx : x.Ok c) : Kept c os (0, os.set i x) :=
  ⟨.set hi hl, h.set hx, fun h => absurd rfl h, by simp⟩
section
variable {c : RU.Cf} {os : List Od}
theorem checkF_ok {c : RU.Cf} {name side price least till qty now : Int} (h : checkF c name side price least till qty now = 0) : (0 ≤ name ∧ name < c.c2) ∧ (side = 0 ∨ side = 1) ∧ (1 ≤ qty ∧ qty ≤ 9999) ∧ (1 ≤ price ∧ price ≤ 9999) ∧ (1 ≤ least ∧ least ≤ qty) ∧ (now < till ∧ till ≤ 1000000) := by
  unfold checkF at h
  by_cases a0 : name < 0
  · rw [if_pos a0] at h; exact absurd h (by decide)
  rw [if_neg a0] at h
  by_cases a1 : name ≥ c.c2
  · rw [if_pos a1] at h; exact absurd h (by decide)
  rw [if_neg a1] at h
  by_cases a2 : side ≠ 0 ∧ side ≠ 1
  · rw [if_pos a2] at h; exact absurd h (by decide)
  rw [if_neg a2] at h
  by_cases a3 : qty < 1
  · rw [if_pos a3] at h; exact absurd h (by decide)
  rw [if_neg a3] at h
  by_cases a4 : qty > 9999
  · rw [if_pos a4] at h; exact absurd h (by decide)
  rw [if_neg a4] at h
  by_cases a5 : price < 1
  · rw [if_pos a5] at h; exact absurd h (by decide)
  rw [if_neg a5] at h
  by_cases a6 : price > 9999
  · rw [if_pos a6] at h; exact absurd h (by decide)
  rw [if_neg a6] at h
  by_cases a7 : least < 1
  · rw [if_pos a7] at h; exact absurd h (by decide)
  rw [if_neg a7] at h
  by_cases a8 : least > qty
  · rw [if_pos a8] at h; exact absurd h (by decide)
  rw [if_neg a8] at h
  by_cases a9 : till ≤ now
  · rw [if_pos a9] at h; exact absurd h (by decide)
  rw [if_neg a9] at h
  by_cases a10 : till > 1000000
  · rw [if_pos a10] at h; exact absurd h (by decide)
  rw [if_neg a10] at h
  omega
theorem sub2_kept (hc : c.ok) (h : Inv c os) (e : Ev) (hcell : ¬ ownerF c e.cell < 0) (gen : Int) (hg : 0 ≤ gen) : Kept c os (sub2 c os e gen) := by
  unfold sub2
  split
  · exact .err h _
  rename_i h1
  split
  · exact .err h _
  rename_i h2
  split
  · exact .err h _
  rename_i h3
  refine ⟨.snoc _ _, ?_, fun h => absurd rfl h, by simp⟩
  intro o ho
  rcases List.mem_append.1 ho with h' | h'
  · exact h o h'
  · obtain rfl := List.mem_singleton.1 h'
    have h3 : checkF c e.name e.side e.price e.least e.till e.qty 0 = 0 := Classical.not_not.1 h3
    obtain ⟨n1, n2, n3, n4, n5, n6⟩ := checkF_ok h3
    have hcell' := hcell
    unfold ownerF at hcell'
    split at hcell'
    · omega
    split at hcell'
    · omega
    exact ⟨by show 0 ≤ ownerF c e.cell; omega, ⟨by show 0 ≤ e.cell; omega, by show e.cell < _; omega⟩, ⟨by show 1 ≤ e.gen; omega, by show e.gen ≤ _; omega⟩, ⟨by show 1 ≤ e.price; omega, by show e.price ≤ _; omega⟩,
      ⟨by show 1 ≤ e.least; omega, by show e.least ≤ e.qty; omega⟩, ⟨by show 1 ≤ e.qty; omega, by show e.qty ≤ _; omega⟩, ⟨by show 0 ≤ e.qty; omega, by show e.qty ≤ e.qty; omega⟩,
      ⟨by show (0 : Int) ≤ 0; omega, by show (0 : Int) ≤ c.c5; unfold RU.Cf.ok at hc; omega⟩, ⟨by show 1 ≤ e.till; omega, by show e.till ≤ _; omega⟩⟩
theorem fillA_le (a : Od) (q : Int) (h0 : a.fin = 0) (h1 : 1 ≤ q) : a.Le (fillA a q) :=
  ⟨rfl, rfl, rfl, rfl, rfl, rfl, rfl, rfl, by show a.left - q ≤ a.left; omega, by show a.fills ≤ a.fills + 1; omega, fun h => absurd h0 h, id⟩
theorem fillA_ok {a : Od} {q : Int} (h : a.Ok c) (h1 : 1 ≤ q) (h2 : q ≤ a.left) (h3 : overF c a = 0) : (fillA a q).Ok c := by
  have : ¬ a.fills ≥ c.c5 := by
    intro h'; unfold overF at h3; split at h3
    · omega
    · omega
  have := h.left; have := h.fills
  exact ⟨h.own, h.cell, h.gen, h.price, h.least, h.qty, ⟨by show 0 ≤ a.left - q; omega, by show a.left - q ≤ a.qty; omega⟩, ⟨by show 0 ≤ a.fills + 1; omega, by show a.fills + 1 ≤ c.c5; omega⟩, h.tl⟩
theorem fillB_le (a : Od) (q : Int) (h0 : a.fin = 0) (h1 : 1 ≤ q) : a.Le (fillB c a q) :=
  ⟨rfl, rfl, rfl, rfl, rfl, rfl, rfl, rfl, by show a.left - q ≤ a.left; omega, by show a.fills ≤ a.fills + 1; omega, fun h => absurd h0 h, id⟩
theorem fillB_ok {a : Od} {q : Int} (h : a.Ok c) (h1 : 1 ≤ q) (h2 : q ≤ a.left) (h3 : overF c a = 0) : (fillB c a q).Ok c := by
  have := fillA_ok h h1 h2 h3
  exact ⟨this.own, this.cell, this.gen, this.price, this.least, this.qty, this.left, this.fills, this.tl⟩
theorem fin_le (a : Od) (v : Int) (h0 : a.fin = 0) : a.Le {a with fin := v} := ⟨rfl, rfl, rfl, rfl, rfl, rfl, rfl, rfl, Int.le_refl _, Int.le_refl _, fun h => absurd h0 h, id⟩
theorem fin_ok {a : Od} (v : Int) (h : a.Ok c) : ({a with fin := v} : Od).Ok c := ⟨h.own, h.cell, h.gen, h.price, h.least, h.qty, h.left, h.fills, h.tl⟩
theorem fill_kept (h : Inv c os) (e : Ev) : Kept c os (fillF c os e) := by
  unfold fillF
  split
  · exact .err h _
  · exact .err h _
  rename_i i k hi hk
  obtain ⟨li, ai, fi⟩ := liveF_lt hi
  obtain ⟨lk, ak, fk⟩ := liveF_lt hk
  unfold fill2
  split
  · exact .err h _
  rename_i h1
  split
  · exact .err h _
  rename_i h2
  split
  · exact .err h _
  rename_i h3
  split
  · exact .err h _
  split
  · exact .err h _
  rename_i h5
  split
  · exact .err h _
  rename_i h6
  obtain ⟨hq, hp⟩ := Classical.not_not.1 h6
  have hne : i ≠ k := fun h => h1 (by rw [h])
  obtain ⟨q1, q2, q3⟩ := minb _ _ (at? os i) (at? os k) _ hq (by rw [← hq]; exact h5)
  refine ⟨(LeL.set li (fillA_le _ _ fi q1)).trans (.set (by simpa using lk) (by rw [at_set_ne hne]; exact fillB_le _ _ fk q1)), (h.set (fillA_ok (h.at li) q1 q2 (Classical.not_not.1 h2))).set (fillB_ok (h.at lk) q1 q3 (Classical.not_not.1 h3)), fun h => absurd rfl h, by simp⟩
theorem setEnd_kept (h : Inv c os) {i : Nat} (li : i < os.length) (fi : (at? os i).fin = 0) (v : Int) : Kept c os (0, setEnd os i v) := .upd h li (fin_le _ _ fi) (fin_ok _ (h.at li))
theorem ends_kept (h : Inv c os) (e : Ev) : Kept c os (endsF c os e) := by
  unfold endsF
  split
  · exact .err h _
  rename_i i hi
  obtain ⟨li, ai, fi⟩ := liveF_lt hi
  unfold ends2
  repeat' split
  all_goals first | exact .err h _ | exact setEnd_kept h li fi _
theorem turn_kept (h : Inv c os) (e : Ev) : Kept c os (turnF os e) := by
  unfold turnF
  split
  · exact .err h _
  rename_i i hi
  obtain ⟨li, ai, fi⟩ := liveF_lt hi
  have o := h.at li
  unfold turn2
  repeat' split
  all_goals first | exact .err h _ | skip
  · exact .upd h li ⟨rfl, rfl, rfl, rfl, rfl, rfl, rfl, rfl, Int.le_refl _, Int.le_refl _, fun h => absurd fi h, id⟩ ⟨o.own, o.cell, o.gen, o.price, o.least, o.qty, o.left, o.fills, o.tl⟩
  · exact .upd h li ⟨rfl, rfl, rfl, rfl, rfl, rfl, rfl, rfl, Int.le_refl _, Int.le_refl _, fun h => absurd fi h, fun _ => rfl⟩ ⟨o.own, o.cell, o.gen, o.price, o.least, o.qty, o.left, o.fills, o.tl⟩
theorem submit_kept (hc : c.ok) (h : Inv c os) (e : Ev) : Kept c os (submitF c os e) := by
  unfold submitF
  split
  · exact .err h _
  rename_i h1
  split
  · rename_i i hi
    have li := lastF_lt e.cell os 0 none os.length (by omega) (fun _ h => by cases h) i hi
    split
    · exact .err h _
    · exact sub2_kept hc h e h1 _ (by have := (h.at li).gen; omega)
  · exact sub2_kept hc h e h1 _ (by omega)
theorem step_kept (hc : c.ok) (h : Inv c os) (e : Ev) : Kept c os (stepF c os e) := by
  unfold stepF
  repeat' split
  · exact submit_kept hc h e
  · exact fill_kept h e
  · exact ends_kept h e
  · exact turn_kept h e
  · exact .err h _
/-- The same of an event with its time. -/
theorem do_kept (hc : c.ok) (h : Inv c os) (now : Int) (e : Ev) : LeL os (doF c os now e).2.1 ∧ Inv c (doF c os now e).2.1 ∧ ((doF c os now e).1 ≠ 0 → (doF c os now e).2 = (os, now)) ∧ (doF c os now e).2.1.length ≤ os.length + 1 := by
  have k := step_kept hc h e
  unfold doF
  split
  · exact ⟨.refl _, h, fun _ => rfl, by simp⟩
  split
  · exact ⟨k.le, k.inv, fun h => absurd rfl h, k.len⟩
  · rename_i h1
    have e1 := k.no h1
    rw [e1]
    exact ⟨.refl _, h, fun _ => rfl, by simp⟩
end

/-! The document's example. -/
theorem getD_snoc (H : List D) (x : D) : (H ++ [x]).getD H.length D.nil = x := by simp [List.getD_eq_getElem?_getD]
theorem set_snoc (H : List D) (x y : D) : (H ++ [x]).set H.length y = H ++ [y] := by simp
theorem new_eq (H : List D) (c : RU.Cf) : FX 8 (c.ds ++ [.agg H]) = some [.int (H.length : Nat), .agg (H ++ [mdl c [] 0])] := by
  unfold RU.Cf.ds
  simp only [List.cons_append, List.nil_append]
  rw [E_trace_New]
  rfl
theorem good {c : RU.Cf} (hc : c.ok) : FX 6 c.ds = some (c.ds ++ [.nil]) := by rw [RU.new_eq, (RU.firstBad_none c).2 hc]
def exC : RU.Cf := ⟨2, 1, 1, 1, 0, 2, 1⟩
def exA : Ev := ⟨1, 0, 1, 0, 0, 0, 0, 10, 1, 5, 5, 0, 0, 0⟩
def exB : Ev := ⟨1, 1, 1, 0, 0, 0, 1, 8, 1, 5, 3, 0, 0, 0⟩
def exF : Ev := ⟨2, 0, 1, 1, 1, 0, 0, 0, 0, 0, 3, 9, 0, 0⟩
def o1 : Od := newO exA
def o2 : Od := newO exB
def o3 : Od := fillA o1 3
def o4 : Od := fillB exC o2 3
theorem ex1 : doF exC [] 0 exA = (0, [o1], 0) := by decide
theorem ex2 : doF exC [o1] 0 exB = (0, [o1, o2], 0) := by decide
theorem ex3 : doF exC [o1, o2] 0 exF = (0, [o3, o4], 0) := by decide
theorem exOk : exC.ok := by unfold RU.Cf.ok exC; decide
theorem play_round {H : List D} {n : Nat} {c : RU.Cf} {os os' : List Od} {now now' : Int} (hc : c.ok) (hn : H.getD n D.nil = mdl c os now) (hl : n < H.length) (hos : os.length ≤ 100000) (hok : Inv c os) (es : List Ev) (j : Nat) (hj : j < es.length) (hj' : j < 100)
    (e : doF c os now es[j] = (0, os', now')) (x0 x1 x2 x3 x4 x5 x6 x8 x10 : D) :
    W_trace_Play_1 x0 x1 x2 x3 x4 x5 x6 (.agg (es.map Ev.d)) x8 (.int (n : Nat)) x10 [.int (j : Nat), .agg H] = W_trace_Play_1 x0 x1 x2 x3 x4 x5 x6 (.agg (es.map Ev.d)) x8 (.int (n : Nat)) x10 [.int ((j + 1 : Nat) : Int), .agg (H.set n (mdl c os' now'))] := by
  rw [W_trace_Play_1_eq]
  have h1 : (j : Int) < (es.length : Int) := by omega
  have hd := do_eq hc hn hl hos hok es[j]
  rw [e] at hd
  unfold Ev.ds at hd
  simp only [List.cons_append, List.nil_append] at hd
  simp only [D.toInt_int, D.toL_agg, List.length_map, h1, decide_true, if_true, ge_iff_le, Int.natCast_nonneg, Int.toNat_natCast, getD_map Ev.d hj, wj (show j < 9000000000000000 by omega), Ev.d, Ev.ds, List.getD_cons_zero, List.getD_cons_succ, hd, ans3, bindC, List.length_cons, List.length_nil, err0, nil_isNil, Bool.not_true, Bool.false_eq_true, if_false]
theorem play_end {H : List D} (n : Nat) (es : List Ev) (x0 x1 x2 x3 x4 x5 x6 x8 x10 : D) :
    W_trace_Play_1 x0 x1 x2 x3 x4 x5 x6 (.agg (es.map Ev.d)) x8 (.int (n : Nat)) x10 [.int (es.length : Nat), .agg H] = some [.int (n : Nat), .nil, .agg H] := by
  rw [W_trace_Play_1_eq]
  simp only [D.toInt_int, D.toL_agg, List.length_map, Int.lt_irrefl, decide_false, Bool.false_eq_true, if_false]
theorem order_eq {H : List D} {n : Nat} {c : RU.Cf} {os : List Od} {now : Int} (hn : H.getD n D.nil = mdl c os now) (hos : os.length ≤ 100000) (cell gen : Int) (i : Nat) (hf : os.findIdx? (isAt cell gen) = some i) :
    FX 11 [.int (n : Nat), .int cell, .int gen, .agg H] = some ((at? os i).d.toL ++ [.bool true]) := by
  obtain ⟨hi, _⟩ := findIdx_lt hf
  have h1 : ¬ ((i : Int) < 0) := by omega
  have h2 : ((i : Int) < (os.length : Int)) := by omega
  rw [E_p_trace_Model_Order]
  simp only [find_eq hn (show os.length ≤ 1000000 by omega), hf, ixD, D.toInt_int, D.toL_agg, Int.toNat_natCast, hn, mdl7, osd_l, int_isNil, h1, h2, decide_false, Bool.false_eq_true, if_false, Bool.not_false, if_true, ge_iff_le, Int.natCast_nonneg, decide_true, List.length_map, bindC, List.length_cons, List.length_nil, List.getD_cons_zero, getD_os hi]
  rfl
theorem awake_eq (H : List D) : ∃ H', FX 7 [.agg H] = some [.bool true, .agg H'] := by
  have inv1 : Inv exC [o1] := by have := (do_kept (c := exC) (os := []) exOk (fun _ h => by cases h) 0 exA).2.1; rwa [ex1] at this
  have inv2 : Inv exC [o1, o2] := by have := (do_kept exOk inv1 0 exB).2.1; rwa [ex2] at this
  have hl : ∀ x : D, H.length < (H ++ [x]).length := fun x => by simp
  have r1 := play_round exOk (getD_snoc H (mdl exC [] 0)) (hl _) (by simp) (fun _ h => by cases h) [exA, exB, exF] 0 (by simp) (by omega) ex1 (.int 2) (.int 1) (.int 1) (.int 1) (.int 0) (.int 2) (.int 1) (.agg H) (.agg (H ++ [mdl exC [] 0]))
  have r2 := play_round exOk (getD_snoc H (mdl exC [o1] 0)) (hl _) (by simp) inv1 [exA, exB, exF] 1 (by simp) (by omega) ex2 (.int 2) (.int 1) (.int 1) (.int 1) (.int 0) (.int 2) (.int 1) (.agg H) (.agg (H ++ [mdl exC [] 0]))
  have r3 := play_round exOk (getD_snoc H (mdl exC [o1, o2] 0)) (hl _) (by simp) inv2 [exA, exB, exF] 2 (by simp) (by omega) ex3 (.int 2) (.int 1) (.int 1) (.int 1) (.int 0) (.int 2) (.int 1) (.agg H) (.agg (H ++ [mdl exC [] 0]))
  rw [set_snoc] at r1 r2 r3
  have r4 := play_end (H := H ++ [mdl exC [o3, o4] 0]) H.length [exA, exB, exF] (.int 2) (.int 1) (.int 1) (.int 1) (.int 0) (.int 2) (.int 1) (.agg H) (.agg (H ++ [mdl exC [] 0]))
  have hp := ((r1.trans r2).trans r3).trans r4
  have hg := good exOk
  have hnw := new_eq H exC
  have ho1 := order_eq (getD_snoc H (mdl exC [o3, o4] 0)) (by simp) 1 1 1 (by decide)
  have ho0 := order_eq (getD_snoc H (mdl exC [o3, o4] 0)) (by simp) 0 1 0 (by decide)
  refine ⟨H ++ [mdl exC [o3, o4] 0], ?_⟩
  rw [E_law09_awake]
  simp only [RU.Cf.ds, exC, List.cons_append, List.nil_append] at hg hnw
  simp only [hg, bindC, List.length_cons, List.length_nil, if_true, List.getD_cons_zero, List.getD_cons_succ, E_trace_Play, hnw, D.toL_agg]
  have hp' : W_trace_Play_1 (.int 2) (.int 1) (.int 1) (.int 1) (.int 0) (.int 2) (.int 1) (.agg ([exA, exB, exF].map Ev.d)) (.agg H) (.int (H.length : Nat)) (.agg (H ++ [mdl ⟨2, 1, 1, 1, 0, 2, 1⟩ [] 0])) [.int 0, .agg (H ++ [mdl ⟨2, 1, 1, 1, 0, 2, 1⟩ [] 0])] = _ := hp
  simp only [exA, exB, exF, List.map_cons, List.map_nil, Ev.d, Ev.ds] at hp'
  simp only [hp', ho1, ho0, List.length_cons, List.length_nil, if_true, List.getD_cons_zero, List.getD_cons_succ]
  rfl
theorem awake_all (H : List D) : (bindC (FX 7 [.agg H]) 2 fun r => some [r.getD 0 D.nil]) = some [.bool true] := by
  obtain ⟨H', e⟩ := awake_eq H
  rw [e]; rfl
theorem orders_eq {H : List D} {n : Nat} {c : RU.Cf} {os : List Od} {now : Int} (hn : H.getD n D.nil = mdl c os now) (hos : os.length ≤ 100000) : FX 10 [.int (n : Nat), .agg H] = some [osd os] := by
  rw [E_p_trace_Model_Orders]
  have hb : (os.length : Int) ≤ 1466015503701 := by omega
  simp only [E_slices_Clone_trace_Order_trace_Order, D.toInt_int, D.toL_agg, Int.toNat_natCast, hn, mdl7, osd_l, List.length_map, int_isNil, Bool.false_eq_true, if_false, Bool.not_false, if_true, hb, decide_true]
  by_cases h : os = []
  · subst h; simp [both, osd, bindC]
  · have : ¬ ((os.length : Int) == 0) = true := by simpa using h
    rw [if_neg this]; rfl
/-- Events, one after the other, whether they can happen or not. -/
def runF (c : RU.Cf) : List Od → Int → List Ev → List Od × Int
  | os, now, [] => (os, now)
  | os, now, e :: l => runF c (doF c os now e).2.1 (doF c os now e).2.2 l
theorem run_kept {c : RU.Cf} (hc : c.ok) : ∀ (l : List Ev) (os : List Od) (now : Int), Inv c os → LeL os (runF c os now l).1 ∧ Inv c (runF c os now l).1 ∧ (runF c os now l).1.length ≤ os.length + l.length
  | [], os, now, h => ⟨.refl _, h, by simp [runF]⟩
  | e :: l, os, now, h => by
    obtain ⟨a, b, _, d⟩ := do_kept hc h now e
    obtain ⟨a', b', d'⟩ := run_kept hc l (doF c os now e).2.1 (doF c os now e).2.2 b
    exact ⟨a.trans a', b', by simp only [runF, List.length_cons]; omega⟩
theorem cf_of {x0 : List D} (w : Open.AllF Try.prog [.int .i64, .int .i64, .int .i64, .int .i64, .int .i64, .int .i64, .int .i64] x0) : ∃ c : RU.Cf, x0 = c.ds := by
  obtain ⟨d0, _, rfl, w0, d1, _, rfl, w1, d2, _, rfl, w2, d3, _, rfl, w3, d4, _, rfl, w4, d5, _, rfl, w5, d6, _, rfl, w6, rfl⟩ := w
  obtain ⟨n0, rfl, _⟩ := w0.toInt; obtain ⟨n1, rfl, _⟩ := w1.toInt; obtain ⟨n2, rfl, _⟩ := w2.toInt; obtain ⟨n3, rfl, _⟩ := w3.toInt; obtain ⟨n4, rfl, _⟩ := w4.toInt; obtain ⟨n5, rfl, _⟩ := w5.toInt; obtain ⟨n6, rfl, _⟩ := w6.toInt
  exact ⟨⟨n0, n1, n2, n3, n4, n5, n6⟩, rfl⟩
abbrev i14 : List Eng.Ty := [.int .i64, .int .i64, .int .i64, .int .i64, .int .i64, .int .i64, .int .i64, .int .i64, .int .i64, .int .i64, .int .i64, .int .i64, .int .i64, .int .i64]
theorem ev_of {x0 : List D} (w : Open.AllF Try.prog i14 x0) : ∃ e : Ev, x0 = e.ds := by
  obtain ⟨d0, _, rfl, w0, d1, _, rfl, w1, d2, _, rfl, w2, d3, _, rfl, w3, d4, _, rfl, w4, d5, _, rfl, w5, d6, _, rfl, w6, d7, _, rfl, w7, d8, _, rfl, w8, d9, _, rfl, w9, d10, _, rfl, w10, d11, _, rfl, w11, d12, _, rfl, w12, d13, _, rfl, w13, rfl⟩ := w
  obtain ⟨n0, rfl, _⟩ := w0.toInt; obtain ⟨n1, rfl, _⟩ := w1.toInt; obtain ⟨n2, rfl, _⟩ := w2.toInt; obtain ⟨n3, rfl, _⟩ := w3.toInt; obtain ⟨n4, rfl, _⟩ := w4.toInt; obtain ⟨n5, rfl, _⟩ := w5.toInt; obtain ⟨n6, rfl, _⟩ := w6.toInt
  obtain ⟨n7, rfl, _⟩ := w7.toInt; obtain ⟨n8, rfl, _⟩ := w8.toInt; obtain ⟨n9, rfl, _⟩ := w9.toInt; obtain ⟨n10, rfl, _⟩ := w10.toInt; obtain ⟨n11, rfl, _⟩ := w11.toInt; obtain ⟨n12, rfl, _⟩ := w12.toInt; obtain ⟨n13, rfl, _⟩ := w13.toInt
  exact ⟨⟨n0, n1, n2, n3, n4, n5, n6, n7, n8, n9, n10, n11, n12, n13⟩, rfl⟩
end Go.Proofs.Ytofkbhilhgmnlaa.TrD
