/-
  The model of trace on data: what an event does.
-/
import Derived.Test.YtofkbhilhgmnlaaTrA
namespace Go.Proofs.Ytofkbhilhgmnlaa.TrD
open Go.Proofs.Ytofkbhilhgmnlaa.Eng Go.Proofs.Ytofkbhilhgmnlaa Go.Proofs.Ytofkbhilhgmnlaa.Dat Go.Proofs.Ytofkbhilhgmnlaa.Open
set_option linter.unusedVariables false
set_option linter.unusedSimpArgs false
set_option maxRecDepth 10000

section
variable (c : RU.Cf) (os : List Od) (now : Int) (o : Od)
theorem mdl0 : (mdl c os now).toL.getD 0 D.nil = .int c.c0 := rfl
theorem mdl1 : (mdl c os now).toL.getD 1 D.nil = .int c.c1 := rfl
theorem mdl2 : (mdl c os now).toL.getD 2 D.nil = .int c.c2 := rfl
theorem mdl3 : (mdl c os now).toL.getD 3 D.nil = .int c.c3 := rfl
theorem mdl4 : (mdl c os now).toL.getD 4 D.nil = .int c.c4 := rfl
theorem mdl5 : (mdl c os now).toL.getD 5 D.nil = .int c.c5 := rfl
theorem mdl6 : (mdl c os now).toL.getD 6 D.nil = .int c.c6 := rfl
theorem mdl7 : (mdl c os now).toL.getD 7 D.nil = osd os := rfl
theorem mdl8 : (mdl c os now).toL.getD 8 D.nil = .int now := rfl
theorem mdls7 (os' : List Od) : D.agg (((List.range 9).map fun j => (mdl c os now).toL.getD j D.nil).set 7 (osd os')) = mdl c os' now := rfl
theorem mdls8 (now' : Int) : D.agg (((List.range 9).map fun j => (mdl c os now).toL.getD j D.nil).set 8 (.int now')) = mdl c os now' := rfl
theorem od0 : o.d.toL.getD 0 D.nil = .int o.cell := rfl
theorem od1 : o.d.toL.getD 1 D.nil = .int o.gen := rfl
theorem od2 : o.d.toL.getD 2 D.nil = .int o.name := rfl
theorem od3 : o.d.toL.getD 3 D.nil = .int o.side := rfl
theorem od4 : o.d.toL.getD 4 D.nil = .int o.price := rfl
theorem od5 : o.d.toL.getD 5 D.nil = .int o.least := rfl
theorem od6 : o.d.toL.getD 6 D.nil = .int o.till := rfl
theorem od7 : o.d.toL.getD 7 D.nil = .int o.qty := rfl
theorem od8 : o.d.toL.getD 8 D.nil = .int o.left := rfl
theorem od9 : o.d.toL.getD 9 D.nil = .int o.fills := rfl
theorem od10 : o.d.toL.getD 10 D.nil = .bool o.ask := rfl
theorem od11 : o.d.toL.getD 11 D.nil = .bool o.rests := rfl
theorem od12 : o.d.toL.getD 12 D.nil = .int o.fin := rfl
theorem ods8 (v : Int) : D.agg (((List.range 13).map fun j => o.d.toL.getD j D.nil).set 8 (.int v)) = ({o with left := v} : Od).d := rfl
theorem ods9 (v : Int) : D.agg (((List.range 13).map fun j => o.d.toL.getD j D.nil).set 9 (.int v)) = ({o with fills := v} : Od).d := rfl
theorem ods10 (v : Bool) : D.agg (((List.range 13).map fun j => o.d.toL.getD j D.nil).set 10 (.bool v)) = ({o with ask := v} : Od).d := rfl
theorem ods11 (v : Bool) : D.agg (((List.range 13).map fun j => o.d.toL.getD j D.nil).set 11 (.bool v)) = ({o with rests := v} : Od).d := rfl
theorem ods12 (v : Int) : D.agg (((List.range 13).map fun j => o.d.toL.getD j D.nil).set 12 (.int v)) = ({o with fin := v} : Od).d := rfl
theorem od_mk (a b e f g h i j k l : Int) (m n : Bool) (p : Int) : D.agg (.int a :: .int b :: .int e :: .int f :: .int g :: .int h :: .int i :: .int j :: .int k :: .int l :: .bool m :: .bool n :: .int p :: []) = (⟨a, b, e, f, g, h, i, j, k, l, m, n, p⟩ : Od).d := rfl
theorem osd_l : (osd os).toL = os.map Od.d := rfl
theorem osd_f : D.agg (os.map Od.d) = osd os := rfl
theorem map_set' (i : Nat) : (os.map Od.d).set i o.d = (os.set i o).map Od.d := by rw [List.map_set]
theorem map_snoc : os.map Od.d ++ (o.d :: []) = (os ++ [o]).map Od.d := by simp
theorem int_isNil (n : Int) : (D.int n).isNil = false := rfl
theorem nil_isNil : D.nil.isNil = true := rfl
theorem code_isNil (n : Int) : (code n).isNil = false := rfl
end

def newO (e : Ev) : Od := ⟨e.cell, e.gen, e.name, e.side, e.price, e.least, e.till, e.qty, e.qty, 0, false, false, 0⟩
def sub2 (c : RU.Cf) (os : List Od) (e : Ev) (gen : Int) : Int × List Od :=
  if gen ≥ c.c6 then (28, os) else if e.gen ≠ gen + 1 then (20, os) else
  if checkF c e.name e.side e.price e.least e.till e.qty 0 ≠ 0 then (checkF c e.name e.side e.price e.least e.till e.qty 0, os) else (0, os ++ [newO e])
def submitF (c : RU.Cf) (os : List Od) (e : Ev) : Int × List Od :=
  if ownerF c e.cell < 0 then (21, os) else match lastF e.cell os 0 none with
  | some i => if (at? os i).fin = 0 then (27, os) else sub2 c os e (at? os i).gen
  | none => sub2 c os e 0
def fillA (a : Od) (q : Int) : Od := {a with left := a.left - q, fills := a.fills + 1}
def fillB (c : RU.Cf) (a : Od) (q : Int) : Od := {fillA a q with fin := overF c (fillA a q)}
def fill2 (c : RU.Cf) (os : List Od) (e : Ev) (i k : Nat) : Int × List Od :=
  if ownerF c (at? os i).cell = ownerF c (at? os k).cell then (1, os) else if overF c (at? os i) ≠ 0 then (29, os) else if overF c (at? os k) ≠ 0 then (29, os)
  else if (at? os k).ask = true then (29, os) else if (matchF (at? os i) (at? os k)).1 = 0 then (23, os)
  else if ¬ ((matchF (at? os i) (at? os k)).1 = e.qty ∧ (matchF (at? os i) (at? os k)).2 = e.at') then (23, os)
  else (0, (os.set i (fillA (at? os i) e.qty)).set k (fillB c (at? os k) e.qty))
def fillF (c : RU.Cf) (os : List Od) (e : Ev) : Int × List Od := match liveF os e.cell e.gen, liveF os e.other e.with' with
  | .inr k, _ => (k, os)
  | .inl _, .inr k => (k, os)
  | .inl i, .inl k => fill2 c os e i k
def setEnd (os : List Od) (i : Nat) (v : Int) : List Od := os.set i {at? os i with fin := v}
def ends2 (c : RU.Cf) (os : List Od) (e : Ev) (i : Nat) : Int × List Od :=
  if e.kind = 5 then (if e.tick < (at? os i).till then (26, os) else if overF c (at? os i) ≠ 0 then (26, os) else if (at? os i).ask = true then (26, os) else (0, setEnd os i 7))
  else if e.kind = 3 then (if overF c (at? os i) ≠ 0 then (29, os) else if (at? os i).ask = true then (29, os) else (0, setEnd os i 6))
  else if overF c (at? os i) = 0 then (if (at? os i).ask = true then (if e.fin ≠ 6 then (1, os) else (0, setEnd os i 6)) else (1, os))
  else if overF c (at? os i) ≠ e.fin then (1, os) else (0, setEnd os i (overF c (at? os i)))
def endsF (c : RU.Cf) (os : List Od) (e : Ev) : Int × List Od := match liveF os e.cell e.gen with
  | .inr k => (k, os)
  | .inl i => ends2 c os e i
def turn2 (os : List Od) (e : Ev) (i : Nat) : Int × List Od :=
  if e.kind = 6 then (if (at? os i).rests = true then (1, os) else (0, os.set i {at? os i with rests := true}))
  else (if (at? os i).ask = true then (1, os) else (0, os.set i {at? os i with ask := true}))
def turnF (os : List Od) (e : Ev) : Int × List Od := match liveF os e.cell e.gen with
  | .inr k => (k, os)
  | .inl i => turn2 os e i
def stepF (c : RU.Cf) (os : List Od) (e : Ev) : Int × List Od :=
  if e.kind = 1 then submitF c os e else if e.kind = 2 then fillF c os e else if e.kind = 3 ∨ e.kind = 5 ∨ e.kind = 7 then endsF c os e
  else if e.kind = 4 ∨ e.kind = 6 then turnF os e else (6, os)
/-- The model behind an event: why it can't happen (0: it can), the orders, the time. -/
def doF (c : RU.Cf) (os : List Od) (now : Int) (e : Ev) : Int × List Od × Int :=
  if e.tick < now then (5, os, now) else if (stepF c os e).1 = 0 then (0, (stepF c os e).2, e.tick) else ((stepF c os e).1, (stepF c os e).2, now)

theorem lastF_lt (cell : Int) : ∀ (os : List Od) (i : Nat) (a : Option Nat) (n : Nat), i + os.length = n → (∀ j, a = some j → j < i) → ∀ j, lastF cell os i a = some j → j < n
  | [], i, a, n, hn, ha, j, h => by simp at hn; have := ha j h; omega
  | o :: l, i, a, n, hn, ha, j, h => by
    refine lastF_lt cell l (i + 1) _ n (by simp at hn; omega) ?_ j h
    intro k hk
    split at hk
    · simp at hk; omega
    · have := ha k hk; omega
theorem liveF_lt {os : List Od} {cell gen : Int} {i : Nat} (h : liveF os cell gen = .inl i) : i < os.length ∧ isAt cell gen (at? os i) = true ∧ (at? os i).fin = 0 := by
  unfold liveF at h
  split at h
  · cases h
  · rename_i j hj
    split at h
    · cases h
    · rename_i hf
      cases h
      obtain ⟨h1, h2⟩ := findIdx_lt hj
      exact ⟨h1, h2, by simpa using hf⟩
theorem liveF_ne {os : List Od} {cell gen k : Int} (h : liveF os cell gen = .inr k) : k ≠ 0 := by
  unfold liveF at h
  split at h
  · cases h; decide
  · split at h
    · cases h; decide
    · cases h
theorem set_self {H : List D} {n : Nat} {x : D} (h : H.getD n D.nil = x) (hl : n < H.length) : H.set n x = H := by
  subst h
  rw [List.getD_eq_getElem?_getD, List.getElem?_eq_getElem hl]
  simp
theorem getD_set {H : List D} {n : Nat} {x : D} (hl : n < H.length) : (H.set n x).getD n D.nil = x := by
  rw [List.getD_eq_getElem?_getD, List.getElem?_set_self hl]; rfl
theorem err0 : err 0 = .nil := rfl
theorem err_ne {k : Int} (h : k ≠ 0) : err k = code k := by simp [err, h]

section
variable {H : List D} {n : Nat} {c : RU.Cf} {os : List Od} {now : Int}
/-- What a step answers. -/
def ans (H : List D) (n : Nat) (c : RU.Cf) (now : Int) (r : Int × List Od) : Option (List D) := some [err r.1, .agg (H.set n (mdl c r.2 now))]
theorem ans_no (hn : H.getD n D.nil = mdl c os now) (hl : n < H.length) (k : Int) (hk : k ≠ 0) : ans H n c now (k, os) = some [code k, .agg H] := by
  unfold ans; rw [set_self hn hl, err_ne hk]
theorem ans_yes (os' : List Od) : ans H n c now (0, os') = some [.nil, .agg (H.set n (mdl c os' now))] := rfl

theorem sub2_eq (hc : c.ok) (hn : H.getD n D.nil = mdl c os now) (hl : n < H.length) (hos : os.length ≤ 100000) (e : Ev) (x : D) (gen : Int) (hg : 0 ≤ gen ∧ gen ≤ 15) :
    J_p_trace_Model_submit_1 (.int (n : Nat)) (.int e.kind) (.int e.cell) (.int e.gen) (.int e.other) (.int e.with') (.int e.name) (.int e.side) (.int e.price) (.int e.least) (.int e.till) (.int e.qty) (.int e.at') (.int e.tick) (.int e.fin) (.agg H) x [.agg H, .int gen] = ans H n c now (sub2 c os e gen) := by
  rw [J_p_trace_Model_submit_1_eq]
  unfold sub2
  simp only [hn, D.toInt_int, D.toL_agg, D.toBool_bool, Int.toNat_natCast, mdl0, mdl1, mdl2, mdl3, mdl4, mdl5, mdl6, mdl7, mdl8, od0, od1, od2, od3, od4, od5, od6, od7, od8, od9, od10, od11, od12, osd_l, int_isNil, Bool.not_false, Bool.not_true, if_true, ge_iff_le, Int.natCast_nonneg, decide_true, decide_false, Bool.false_eq_true, if_false, List.length_map, bindC, List.length_cons, List.length_nil, List.getD_cons_zero, List.getD_cons_succ, nil_isNil, code_isNil, i64w (gen + 1) (by omega) (by omega)]
  by_cases h1 : gen ≥ c.c6
  · rw [if_pos h1, ans_no hn hl _ (by decide)]; simp [h1, code]
  by_cases h2 : e.gen ≠ gen + 1
  · rw [if_neg h1, if_pos h2, ans_no hn hl _ (by decide)]; simp [h1, h2, code]
  have h2' : (e.gen != gen + 1) = false := by simpa using h2
  rw [if_neg h1, if_neg h2]
  have h1' : ¬ c.c6 ≤ gen := h1
  simp only [h1', h2', decide_false, Bool.false_eq_true, if_false, check_eq, D.toInt_int, D.toL_agg, D.toBool_bool, Int.toNat_natCast, mdl0, mdl1, mdl2, mdl3, mdl4, mdl5, mdl6, mdl7, mdl8, od0, od1, od2, od3, od4, od5, od6, od7, od8, od9, od10, od11, od12, osd_l, int_isNil, Bool.not_false, Bool.not_true, if_true, ge_iff_le, Int.natCast_nonneg, decide_true, decide_false, Bool.false_eq_true, if_false, List.length_map, bindC, List.length_cons, List.length_nil, List.getD_cons_zero, List.getD_cons_succ, nil_isNil, code_isNil]
  by_cases h3 : checkF c e.name e.side e.price e.least e.till e.qty 0 = 0
  · have hb : ((((os ++ [newO e]).map Od.d).length : Nat) : Int) ≤ 1466015503701 := by simp; omega
    simp only [h3, err0, ne_eq, not_true_eq_false, ans_yes, od_mk, map_snoc, D.toInt_int, D.toL_agg, D.toBool_bool, Int.toNat_natCast, mdl0, mdl1, mdl2, mdl3, mdl4, mdl5, mdl6, mdl7, mdl8, od0, od1, od2, od3, od4, od5, od6, od7, od8, od9, od10, od11, od12, osd_l, int_isNil, Bool.not_false, Bool.not_true, if_true, ge_iff_le, Int.natCast_nonneg, decide_true, decide_false, Bool.false_eq_true, if_false, List.length_map, bindC, List.length_cons, List.length_nil, List.getD_cons_zero, List.getD_cons_succ, nil_isNil, code_isNil]
    simp only [List.length_map] at hb
    rw [show (⟨e.cell, e.gen, e.name, e.side, e.price, e.least, e.till, e.qty, e.qty, 0, false, false, 0⟩ : Od) = newO e from rfl]
    simp only [hb, decide_true, if_true, osd_f, mdls7]
  · simp only [h3, err_ne h3, ne_eq, not_false_eq_true, ans_no hn hl _ h3, D.toInt_int, D.toL_agg, D.toBool_bool, Int.toNat_natCast, mdl0, mdl1, mdl2, mdl3, mdl4, mdl5, mdl6, mdl7, mdl8, od0, od1, od2, od3, od4, od5, od6, od7, od8, od9, od10, od11, od12, osd_l, int_isNil, Bool.not_false, Bool.not_true, if_true, ge_iff_le, Int.natCast_nonneg, decide_true, decide_false, Bool.false_eq_true, if_false, List.length_map, bindC, List.length_cons, List.length_nil, List.getD_cons_zero, List.getD_cons_succ, nil_isNil, code_isNil]
theorem submit_eq (hc : c.ok) (hn : H.getD n D.nil = mdl c os now) (hl : n < H.length) (hos : os.length ≤ 100000) (hok : ∀ o ∈ os, o.Ok c) (e : Ev) :
    FX 17 (.int (n : Nat) :: e.ds ++ [.agg H]) = ans H n c now (submitF c os e) := by
  unfold Ev.ds
  simp only [List.cons_append, List.nil_append]
  rw [E_p_trace_Model_submit]
  unfold submitF
  simp only [hn, owner_eq hc, last_eq hn (show os.length ≤ 1000000 by omega), D.toInt_int, D.toL_agg, D.toBool_bool, Int.toNat_natCast, mdl0, mdl1, mdl2, mdl3, mdl4, mdl5, mdl6, mdl7, mdl8, od0, od1, od2, od3, od4, od5, od6, od7, od8, od9, od10, od11, od12, osd_l, int_isNil, Bool.not_false, Bool.not_true, if_true, ge_iff_le, Int.natCast_nonneg, decide_true, decide_false, Bool.false_eq_true, if_false, List.length_map, bindC, List.length_cons, List.length_nil, List.getD_cons_zero, List.getD_cons_succ, nil_isNil, code_isNil]
  by_cases h1 : ownerF c e.cell < 0
  · rw [if_pos h1, ans_no hn hl _ (by decide)]; simp [h1, code]
  simp only [h1, decide_false, Bool.false_eq_true, if_false]
  cases hL : lastF e.cell os 0 none with
  | none =>
    have hz : ¬ (0 : Int) ≤ -1 := by decide
    simp only [ixD, hz, show decide ((0 : Int) ≤ -1) = false from by decide, D.toInt_int, D.toL_agg, D.toBool_bool, Int.toNat_natCast, mdl0, mdl1, mdl2, mdl3, mdl4, mdl5, mdl6, mdl7, mdl8, od0, od1, od2, od3, od4, od5, od6, od7, od8, od9, od10, od11, od12, osd_l, int_isNil, Bool.not_false, Bool.not_true, if_true, ge_iff_le, Int.natCast_nonneg, decide_true, decide_false, Bool.false_eq_true, if_false, List.length_map, bindC, List.length_cons, List.length_nil, List.getD_cons_zero, List.getD_cons_succ, nil_isNil, code_isNil]
    rw [sub2_eq hc hn hl hos e _ 0 (by omega)]
  | some i =>
    have hi := lastF_lt e.cell os 0 none os.length (by omega) (fun _ h => by cases h) i hL
    have hi' : (i : Int) < (os.length : Int) := by omega
    have ho : (at? os i).Ok c := by rw [at_eq hi]; exact hok _ (List.getElem_mem hi)
    simp only [ixD, hi', getD_os hi, D.toInt_int, D.toL_agg, D.toBool_bool, Int.toNat_natCast, mdl0, mdl1, mdl2, mdl3, mdl4, mdl5, mdl6, mdl7, mdl8, od0, od1, od2, od3, od4, od5, od6, od7, od8, od9, od10, od11, od12, osd_l, int_isNil, Bool.not_false, Bool.not_true, if_true, ge_iff_le, Int.natCast_nonneg, decide_true, decide_false, Bool.false_eq_true, if_false, List.length_map, bindC, List.length_cons, List.length_nil, List.getD_cons_zero, List.getD_cons_succ, nil_isNil, code_isNil]
    by_cases h2 : (at? os i).fin = 0
    · have h2' : ((at? os i).fin == 0) = true := by simp [h2]
      rw [if_pos h2', if_pos h2, ans_no hn hl _ (by decide)]; rfl
    · have h2' : ¬ ((at? os i).fin == 0) = true := by simp [h2]
      rw [if_neg h2', if_neg h2, sub2_eq hc hn hl hos e _ _ (by have := ho.gen; have := hc; unfold RU.Cf.ok at this; omega)]

theorem first_eq (a b : D) (ha : a = .nil ∨ a.isNil = false) (hb : b = .nil ∨ b.isNil = false) : FX 28 [.agg (a :: b :: [])] = some [if a.isNil then b else a] := by
  rw [E_fault_First, W_fault_First_1_eq]
  have w1 : IntKind.i64.wrap 1 = 1 := rfl
  have w2 : IntKind.i64.wrap (1 + 1) = 2 := rfl
  have w3 : IntKind.i64.wrap 2 = 2 := rfl
  rcases ha with rfl | ha
  · have h2 := W_fault_First_1_eq (.agg (.nil :: b :: [])) (.int 1)
    have h3 := W_fault_First_1_eq (.agg (.nil :: b :: [])) (.int 2)
    rcases hb with rfl | hb
    · simp [w1, w2, w3, nil_isNil] at h2 h3 ⊢; rw [h2, h3]
    · simp [w1, w2, w3, nil_isNil, hb] at h2 h3 ⊢; rw [h2]
  · simp [ha]
theorem minb (a b x y : Od) (q : Int) (h : (matchF a b).1 = q) (h0 : q ≠ 0) : 1 ≤ q ∧ q ≤ a.left ∧ q ≤ b.left := by
  subst h
  have key : ∀ bn bs bp sn ss sp an on l1 l2 m1 m2, (match2 bn bs bp sn ss sp an on l1 l2 m1 m2).1 ≠ 0 → 1 ≤ (match2 bn bs bp sn ss sp an on l1 l2 m1 m2).1 ∧ (match2 bn bs bp sn ss sp an on l1 l2 m1 m2).1 ≤ l1 ∧ (match2 bn bs bp sn ss sp an on l1 l2 m1 m2).1 ≤ l2 := by
    intro bn bs bp sn ss sp an on l1 l2 m1 m2 h
    unfold match2 at h ⊢
    repeat' split at h
    all_goals first | (simp at h; done) | skip
    rename_i h1 h2 h3 h4 h5 h6
    simp only [h1, h2, h3, h4, h5, h6, if_false]
    unfold minF at h5 ⊢
    split <;> rename_i hh <;> simp [hh] at h5 <;> omega
  unfold matchF at h0 ⊢
  by_cases hs : a.side = 1
  · simp only [hs, if_true] at h0 ⊢; exact key _ _ _ _ _ _ _ _ _ _ _ _ h0
  · simp only [hs, if_false] at h0 ⊢; exact key _ _ _ _ _ _ _ _ _ _ _ _ h0
theorem fill_eq (hc : c.ok) (hn : H.getD n D.nil = mdl c os now) (hl : n < H.length) (hos : os.length ≤ 100000) (hok : ∀ o ∈ os, o.Ok c) (e : Ev) :
    FX 18 (.int (n : Nat) :: e.ds ++ [.agg H]) = ans H n c now (fillF c os e) := by
  unfold Ev.ds
  simp only [List.cons_append, List.nil_append]
  rw [E_p_trace_Model_fill]
  simp only [live_eq hn (show os.length ≤ 1000000 by omega)]
  unfold fillF
  cases hi : liveF os e.cell e.gen with
  | inr k =>
    have hk : k ≠ 0 := liveF_ne hi
    have hb : (if (code k).isNil then (liveD (liveF os e.other e.with')).getD 1 .nil else code k) = code k := by simp [code_isNil]
    cases hk2 : liveF os e.other e.with' with
    | inl j => simp only [liveD, first_eq (code k) .nil (Or.inr rfl) (Or.inl rfl), ans_no hn hl _ hk, D.toInt_int, D.toL_agg, D.toBool_bool, Int.toNat_natCast, mdl0, mdl1, mdl2, mdl3, mdl4, mdl5, mdl6, mdl7, mdl8, od0, od1, od2, od3, od4, od5, od6, od7, od8, od9, od10, od11, od12, osd_l, int_isNil, Bool.not_false, Bool.not_true, if_true, ge_iff_le, Int.natCast_nonneg, decide_true, decide_false, Bool.false_eq_true, if_false, List.length_map, bindC, List.length_cons, List.length_nil, List.getD_cons_zero, List.getD_cons_succ, nil_isNil, code_isNil]
    | inr j => simp only [liveD, first_eq (code k) (code j) (Or.inr rfl) (Or.inr rfl), ans_no hn hl _ hk, D.toInt_int, D.toL_agg, D.toBool_bool, Int.toNat_natCast, mdl0, mdl1, mdl2, mdl3, mdl4, mdl5, mdl6, mdl7, mdl8, od0, od1, od2, od3, od4, od5, od6, od7, od8, od9, od10, od11, od12, osd_l, int_isNil, Bool.not_false, Bool.not_true, if_true, ge_iff_le, Int.natCast_nonneg, decide_true, decide_false, Bool.false_eq_true, if_false, List.length_map, bindC, List.length_cons, List.length_nil, List.getD_cons_zero, List.getD_cons_succ, nil_isNil, code_isNil]
  | inl i =>
    cases hk : liveF os e.other e.with' with
    | inr k =>
      have hk : k ≠ 0 := liveF_ne hk
      simp only [liveD, first_eq .nil (code k) (Or.inl rfl) (Or.inr rfl), ans_no hn hl _ hk, D.toInt_int, D.toL_agg, D.toBool_bool, Int.toNat_natCast, mdl0, mdl1, mdl2, mdl3, mdl4, mdl5, mdl6, mdl7, mdl8, od0, od1, od2, od3, od4, od5, od6, od7, od8, od9, od10, od11, od12, osd_l, int_isNil, Bool.not_false, Bool.not_true, if_true, ge_iff_le, Int.natCast_nonneg, decide_true, decide_false, Bool.false_eq_true, if_false, List.length_map, bindC, List.length_cons, List.length_nil, List.getD_cons_zero, List.getD_cons_succ, nil_isNil, code_isNil]
    | inl k =>
      obtain ⟨li, ai, fi⟩ := liveF_lt hi
      obtain ⟨lk, ak, fk⟩ := liveF_lt hk
      have li' : (i : Int) < (os.length : Int) := by omega
      have lk' : (k : Int) < (os.length : Int) := by omega
      have oi : (at? os i).Ok c := by rw [at_eq li]; exact hok _ (List.getElem_mem li)
      have ok : (at? os k).Ok c := by rw [at_eq lk]; exact hok _ (List.getElem_mem lk)
      simp only [liveD, first_eq .nil .nil (Or.inl rfl) (Or.inl rfl), hn, li', lk', getD_os li, getD_os lk, owner_eq hc, over_eq hn, match_eq oi ok, D.toInt_int, D.toL_agg, D.toBool_bool, Int.toNat_natCast, mdl0, mdl1, mdl2, mdl3, mdl4, mdl5, mdl6, mdl7, mdl8, od0, od1, od2, od3, od4, od5, od6, od7, od8, od9, od10, od11, od12, osd_l, int_isNil, Bool.not_false, Bool.not_true, if_true, ge_iff_le, Int.natCast_nonneg, decide_true, decide_false, Bool.false_eq_true, if_false, List.length_map, bindC, List.length_cons, List.length_nil, List.getD_cons_zero, List.getD_cons_succ, nil_isNil, code_isNil]
      unfold fill2
      by_cases h1 : ownerF c (at? os i).cell = ownerF c (at? os k).cell
      · rw [if_pos h1, ans_no hn hl _ (by decide)]; simp [h1, code]
      have h1' : (ownerF c (at? os i).cell == ownerF c (at? os k).cell) = false := by simpa using h1
      simp only [h1, h1', Bool.false_eq_true, if_false]
      by_cases h2 : ¬ (overF c (at? os i) = 0)
      · have h2' : (overF c (at? os i) != 0) = true := by simpa using h2
        simp only [h2, h2', ne_eq, not_false_eq_true, if_true, ans_no hn hl _ (show (29 : Int) ≠ 0 by decide)]; rfl
      replace h2 : overF c (at? os i) = 0 := Classical.not_not.1 h2
      have h2' : (overF c (at? os i) != 0) = false := by simp [h2]
      by_cases h3 : ¬ (overF c (at? os k) = 0)
      · have h3' : (overF c (at? os k) != 0) = true := by simpa using h3
        simp only [h2, h2', h3, h3', ne_eq, not_true_eq_false, not_false_eq_true, if_true, if_false, Bool.false_eq_true, ans_no hn hl _ (show (29 : Int) ≠ 0 by decide)]; rfl
      replace h3 : overF c (at? os k) = 0 := Classical.not_not.1 h3
      have h3' : (overF c (at? os k) != 0) = false := by simp [h3]
      simp only [h2, h2', h3, h3', ne_eq, not_true_eq_false, if_false, Bool.false_eq_true, bne_self_eq_false]
      by_cases h4 : (at? os k).ask = true
      · rw [if_pos h4, if_pos h4, ans_no hn hl _ (by decide)]; rfl
      rw [if_neg h4, if_neg h4]
      by_cases h5 : (matchF (at? os i) (at? os k)).1 = 0
      · rw [if_pos h5, if_pos (by simp [h5]), ans_no hn hl _ (by decide)]; rfl
      rw [if_neg h5, if_neg (by simpa using h5)]
      by_cases h6 : ¬ ((matchF (at? os i) (at? os k)).1 = e.qty ∧ (matchF (at? os i) (at? os k)).2 = e.at')
      · rw [if_pos h6, if_pos (by simp; omega), ans_no hn hl _ (by decide)]; rfl
      replace h6 : (matchF (at? os i) (at? os k)).1 = e.qty ∧ (matchF (at? os i) (at? os k)).2 = e.at' := Classical.not_not.1 h6
      rw [if_neg (by simpa using h6), if_neg (by simpa using h6)]
      obtain ⟨hq, hp⟩ := h6
      have hne : i ≠ k := fun h => h1 (by rw [h])
      obtain ⟨q1, q2, q3⟩ := minb _ _ (at? os i) (at? os k) _ hq (by rw [← hq]; exact h5)
      have a1 := oi.left; have a2 := oi.qty; have a3 := oi.fills; have b1 := ok.left; have b2 := ok.qty; have b3 := ok.fills
      have hcc := hc
      unfold RU.Cf.ok at hcc
      have lS : ∀ (l : List Od) (x : Od) (y : Nat), (l.set y x).length = l.length := fun l x y => List.length_set
      have g1 : ∀ (o : Od), ((os.set i o).map Od.d).getD i D.nil = o.d := fun o => by rw [getD_os (by simpa using li), at_set li]
      have g2 : ∀ (o : Od), ((os.set i o).map Od.d).getD k D.nil = (at? os k).d := fun o => by rw [getD_os (by simpa using lk), at_set_ne hne]
      have g3 : ∀ (o p : Od), (((os.set i o).set k p).map Od.d).getD k D.nil = p.d := fun o p => by rw [getD_os (by simpa using lk), at_set (by simpa using lk)]
      have ss : ∀ (o p : Od) (l : List Od) (j : Nat), (l.set j o).set j p = l.set j p := fun o p l j => List.set_set ..
      simp only [hq, ods8, ods9, ods12, map_set', g1, g2, g3, ss, D.toInt_int, D.toL_agg, D.toBool_bool, Int.toNat_natCast, mdl0, mdl1, mdl2, mdl3, mdl4, mdl5, mdl6, mdl7, mdl8, od0, od1, od2, od3, od4, od5, od6, od7, od8, od9, od10, od11, od12, osd_l, int_isNil, Bool.not_false, Bool.not_true, if_true, ge_iff_le, Int.natCast_nonneg, decide_true, decide_false, Bool.false_eq_true, if_false, List.length_map, bindC, List.length_cons, List.length_nil, List.getD_cons_zero, List.getD_cons_succ, nil_isNil, code_isNil, i64w ((at? os i).left - e.qty) (by omega) (by omega), i64w ((at? os k).left - e.qty) (by omega) (by omega), i64w ((at? os i).fills + 1) (by omega) (by omega), i64w ((at? os k).fills + 1) (by omega) (by omega)]
      have ho := over_eq (H := H.set n (mdl c ((os.set i (fillA (at? os i) e.qty)).set k (fillA (at? os k) e.qty)) now)) (n := n) (getD_set hl) (fillA (at? os k) e.qty)
      simp only [fillA] at ho
      simp only [osd_f, mdls7, ho, ods12, map_set', ss, D.toInt_int, D.toL_agg, D.toBool_bool, Int.toNat_natCast, mdl0, mdl1, mdl2, mdl3, mdl4, mdl5, mdl6, mdl7, mdl8, od0, od1, od2, od3, od4, od5, od6, od7, od8, od9, od10, od11, od12, osd_l, int_isNil, Bool.not_false, Bool.not_true, if_true, ge_iff_le, Int.natCast_nonneg, decide_true, decide_false, Bool.false_eq_true, if_false, List.length_map, bindC, List.length_cons, List.length_nil, List.getD_cons_zero, List.getD_cons_succ, nil_isNil, code_isNil]
      rfl

theorem ends_eq (hc : c.ok) (hn : H.getD n D.nil = mdl c os now) (hl : n < H.length) (hos : os.length ≤ 100000) (e : Ev) (he : e.kind = 3 ∨ e.kind = 5 ∨ e.kind = 7) :
    FX 19 (.int (n : Nat) :: e.ds ++ [.agg H]) = ans H n c now (endsF c os e) := by
  unfold Ev.ds
  simp only [List.cons_append, List.nil_append]
  rw [E_p_trace_Model_ends]
  simp only [live_eq hn (show os.length ≤ 1000000 by omega)]
  unfold endsF
  cases hi : liveF os e.cell e.gen with
  | inr k =>
    have hk : k ≠ 0 := liveF_ne hi
    simp only [liveD, ans_no hn hl _ hk, D.toInt_int, D.toL_agg, D.toBool_bool, Int.toNat_natCast, mdl0, mdl1, mdl2, mdl3, mdl4, mdl5, mdl6, mdl7, mdl8, od0, od1, od2, od3, od4, od5, od6, od7, od8, od9, od10, od11, od12, osd_l, int_isNil, Bool.not_false, Bool.not_true, if_true, ge_iff_le, Int.natCast_nonneg, decide_true, decide_false, Bool.false_eq_true, if_false, List.length_map, bindC, List.length_cons, List.length_nil, List.getD_cons_zero, List.getD_cons_succ, nil_isNil, code_isNil]
  | inl i =>
    obtain ⟨li, ai, fi⟩ := liveF_lt hi
    have li' : (i : Int) < (os.length : Int) := by omega
    simp only [liveD, hn, li', getD_os li, over_eq hn, ods12, map_set', osd_f, mdls7, D.toInt_int, D.toL_agg, D.toBool_bool, Int.toNat_natCast, mdl0, mdl1, mdl2, mdl3, mdl4, mdl5, mdl6, mdl7, mdl8, od0, od1, od2, od3, od4, od5, od6, od7, od8, od9, od10, od11, od12, osd_l, int_isNil, Bool.not_false, Bool.not_true, if_true, ge_iff_le, Int.natCast_nonneg, decide_true, decide_false, Bool.false_eq_true, if_false, List.length_map, bindC, List.length_cons, List.length_nil, List.getD_cons_zero, List.getD_cons_succ, nil_isNil, code_isNil]
    unfold ends2
    by_cases k5 : e.kind = 5
    · simp only [k5, beq_self_eq_true, if_true]
      by_cases h1 : e.tick < (at? os i).till
      · simp only [h1, decide_true, if_true, ans_no hn hl _ (show (26 : Int) ≠ 0 by decide)]; rfl
      by_cases h2 : ¬ (overF c (at? os i) = 0)
      · have h2' : (overF c (at? os i) != 0) = true := by simpa using h2
        simp only [h1, decide_false, Bool.false_eq_true, if_false, h2, h2', ne_eq, not_false_eq_true, if_true, ans_no hn hl _ (show (26 : Int) ≠ 0 by decide)]; rfl
      replace h2 : overF c (at? os i) = 0 := Classical.not_not.1 h2
      have h2' : (overF c (at? os i) != 0) = false := by simp [h2]
      simp only [h1, decide_false, Bool.false_eq_true, if_false, h2, h2', ne_eq, not_true_eq_false, bne_self_eq_false]
      by_cases h3 : (at? os i).ask = true
      · simp only [h3, if_true, ans_no hn hl _ (show (26 : Int) ≠ 0 by decide)]; rfl
      · rw [if_neg h3, if_neg h3, ans_yes]; rfl
    have k5' : (e.kind == 5) = false := by simpa using k5
    by_cases k3 : e.kind = 3
    · simp only [k3, k5', Bool.false_eq_true, if_false, beq_self_eq_true, if_true, show ((3 : Int) == 5) = false from rfl, show ¬ (3 : Int) = 5 by decide]
      by_cases h2 : ¬ (overF c (at? os i) = 0)
      · have h2' : (overF c (at? os i) != 0) = true := by simpa using h2
        simp only [h2, h2', ne_eq, not_false_eq_true, if_true, ans_no hn hl _ (show (29 : Int) ≠ 0 by decide)]; rfl
      replace h2 : overF c (at? os i) = 0 := Classical.not_not.1 h2
      have h2' : (overF c (at? os i) != 0) = false := by simp [h2]
      simp only [decide_false, Bool.false_eq_true, if_false, h2, h2', ne_eq, not_true_eq_false, bne_self_eq_false]
      by_cases h3 : (at? os i).ask = true
      · simp only [h3, if_true, ans_no hn hl _ (show (29 : Int) ≠ 0 by decide)]; rfl
      · rw [if_neg h3, if_neg h3, ans_yes]; rfl
    have k7 : e.kind = 7 := by omega
    simp only [k7, Bool.false_eq_true, if_false, beq_self_eq_true, if_true, show ((7 : Int) == 5) = false from rfl, show ((7 : Int) == 3) = false from rfl, show ¬ (7 : Int) = 5 by decide, show ¬ (7 : Int) = 3 by decide]
    by_cases h2 : overF c (at? os i) = 0
    · simp only [h2, beq_self_eq_true, if_true]
      by_cases h3 : (at? os i).ask = true
      · rw [if_pos h3, if_pos h3]
        by_cases h4 : e.fin = 6
        · have h4' : ¬ ((6 : Int) != e.fin) = true := by simp [h4]
          rw [if_neg h4', if_neg (by simp [h4]), ans_yes]; rfl
        · have h4' : ((6 : Int) != e.fin) = true := by simp; omega
          simp only [h4, h4', ne_eq, not_false_eq_true, if_true, ans_no hn hl _ (show (1 : Int) ≠ 0 by decide)]; rfl
      · rw [if_neg h3, if_neg h3, ans_no hn hl _ (by decide)]; rfl
    · have h2' : (overF c (at? os i) == 0) = false := by simpa using h2
      simp only [h2, h2', Bool.false_eq_true, if_false]
      by_cases h4 : overF c (at? os i) = e.fin
      · have h4' : (overF c (at? os i) != e.fin) = false := by simp [h4]
        simp only [h4, h4', ne_eq, not_true_eq_false, if_false, bne_self_eq_false, Bool.false_eq_true, ans_yes]; rfl
      · have h4' : (overF c (at? os i) != e.fin) = true := by simpa using h4
        simp only [h4, h4', ne_eq, not_false_eq_true, if_true, ans_no hn hl _ (show (1 : Int) ≠ 0 by decide)]; rfl

theorem turn_eq (hc : c.ok) (hn : H.getD n D.nil = mdl c os now) (hl : n < H.length) (hos : os.length ≤ 100000) (e : Ev) :
    FX 20 (.int (n : Nat) :: e.ds ++ [.agg H]) = ans H n c now (turnF os e) := by
  unfold Ev.ds
  simp only [List.cons_append, List.nil_append]
  rw [E_p_trace_Model_turn]
  simp only [live_eq hn (show os.length ≤ 1000000 by omega)]
  unfold turnF
  cases hi : liveF os e.cell e.gen with
  | inr k =>
    have hk : k ≠ 0 := liveF_ne hi
    simp only [liveD, ans_no hn hl _ hk, D.toInt_int, D.toL_agg, D.toBool_bool, Int.toNat_natCast, mdl0, mdl1, mdl2, mdl3, mdl4, mdl5, mdl6, mdl7, mdl8, od0, od1, od2, od3, od4, od5, od6, od7, od8, od9, od10, od11, od12, osd_l, int_isNil, Bool.not_false, Bool.not_true, if_true, ge_iff_le, Int.natCast_nonneg, decide_true, decide_false, Bool.false_eq_true, if_false, List.length_map, bindC, List.length_cons, List.length_nil, List.getD_cons_zero, List.getD_cons_succ, nil_isNil, code_isNil]
  | inl i =>
    obtain ⟨li, ai, fi⟩ := liveF_lt hi
    have li' : (i : Int) < (os.length : Int) := by omega
    simp only [liveD, hn, li', getD_os li, ods10, ods11, map_set', osd_f, mdls7, D.toInt_int, D.toL_agg, D.toBool_bool, Int.toNat_natCast, mdl0, mdl1, mdl2, mdl3, mdl4, mdl5, mdl6, mdl7, mdl8, od0, od1, od2, od3, od4, od5, od6, od7, od8, od9, od10, od11, od12, osd_l, int_isNil, Bool.not_false, Bool.not_true, if_true, ge_iff_le, Int.natCast_nonneg, decide_true, decide_false, Bool.false_eq_true, if_false, List.length_map, bindC, List.length_cons, List.length_nil, List.getD_cons_zero, List.getD_cons_succ, nil_isNil, code_isNil]
    unfold turn2
    by_cases k6 : e.kind = 6
    · simp only [k6, beq_self_eq_true, if_true]
      by_cases h3 : (at? os i).rests = true
      · simp only [h3, if_true, ans_no hn hl _ (show (1 : Int) ≠ 0 by decide)]; rfl
      · rw [if_neg h3, if_neg h3, ans_yes]
    · have k6' : (e.kind == 6) = false := by simpa using k6
      simp only [k6, k6', Bool.false_eq_true, if_false]
      by_cases h3 : (at? os i).ask = true
      · simp only [h3, if_true, ans_no hn hl _ (show (1 : Int) ≠ 0 by decide)]; rfl
      · rw [if_neg h3, if_neg h3, ans_yes]

def ans3 (H : List D) (n : Nat) (c : RU.Cf) (r : Int × List Od × Int) : Option (List D) := some [err r.1, .agg (H.set n (mdl c r.2.1 r.2.2))]
theorem do1_eq (hl : n < H.length) (x1 x2 x3 x4 x5 x6 x7 x8 x9 x10 x11 x12 x14 x15 : D) (tick : Int) (r : Int × List Od) :
    J_p_trace_Model_Do_1 (.int (n : Nat)) x1 x2 x3 x4 x5 x6 x7 x8 x9 x10 x11 x12 (.int tick) x14 x15 [.agg (H.set n (mdl c r.2 now)), err r.1] =
      some [err r.1, .agg (H.set n (mdl c r.2 (if r.1 = 0 then tick else now)))] := by
  rw [J_p_trace_Model_Do_1_eq]
  by_cases h : r.1 = 0
  · simp only [h, err0, getD_set hl, mdls8, List.set_set, D.toInt_int, D.toL_agg, D.toBool_bool, Int.toNat_natCast, mdl0, mdl1, mdl2, mdl3, mdl4, mdl5, mdl6, mdl7, mdl8, od0, od1, od2, od3, od4, od5, od6, od7, od8, od9, od10, od11, od12, osd_l, int_isNil, Bool.not_false, Bool.not_true, if_true, ge_iff_le, Int.natCast_nonneg, decide_true, decide_false, Bool.false_eq_true, if_false, List.length_map, bindC, List.length_cons, List.length_nil, List.getD_cons_zero, List.getD_cons_succ, nil_isNil, code_isNil]
  · simp only [h, err_ne h, D.toInt_int, D.toL_agg, D.toBool_bool, Int.toNat_natCast, mdl0, mdl1, mdl2, mdl3, mdl4, mdl5, mdl6, mdl7, mdl8, od0, od1, od2, od3, od4, od5, od6, od7, od8, od9, od10, od11, od12, osd_l, int_isNil, Bool.not_false, Bool.not_true, if_true, ge_iff_le, Int.natCast_nonneg, decide_true, decide_false, Bool.false_eq_true, if_false, List.length_map, bindC, List.length_cons, List.length_nil, List.getD_cons_zero, List.getD_cons_succ, nil_isNil, code_isNil]
theorem do_eq (hc : c.ok) (hn : H.getD n D.nil = mdl c os now) (hl : n < H.length) (hos : os.length ≤ 100000) (hok : ∀ o ∈ os, o.Ok c) (e : Ev) :
    FX 9 (.int (n : Nat) :: e.ds ++ [.agg H]) = ans3 H n c (doF c os now e) := by
  have hS := submit_eq hc hn hl hos hok e
  have hF := fill_eq hc hn hl hos hok e
  have hE := ends_eq hc hn hl hos e
  have hT := turn_eq hc hn hl hos e
  unfold Ev.ds at hS hF hE hT ⊢
  simp only [List.cons_append, List.nil_append] at hS hF hE hT ⊢
  rw [E_p_trace_Model_Do]
  unfold doF
  simp only [hn, D.toInt_int, D.toL_agg, D.toBool_bool, Int.toNat_natCast, mdl0, mdl1, mdl2, mdl3, mdl4, mdl5, mdl6, mdl7, mdl8, od0, od1, od2, od3, od4, od5, od6, od7, od8, od9, od10, od11, od12, osd_l, int_isNil, Bool.not_false, Bool.not_true, if_true, ge_iff_le, Int.natCast_nonneg, decide_true, decide_false, Bool.false_eq_true, if_false, List.length_map, bindC, List.length_cons, List.length_nil, List.getD_cons_zero, List.getD_cons_succ, nil_isNil, code_isNil]
  by_cases h0 : e.tick < now
  · simp only [h0, decide_true, if_true, ans3, set_self hn hl, err_ne (show (5 : Int) ≠ 0 by decide)]; rfl
  have hend : ∀ r : Int × List Od, (some [err r.1, D.agg (H.set n (mdl c r.2 (if r.1 = 0 then e.tick else now)))] : Option (List D)) = ans3 H n c (if r.1 = 0 then (0, r.2, e.tick) else (r.1, r.2, now)) := by
    intro r; by_cases h : r.1 = 0 <;> simp [h, ans3]
  simp only [h0, decide_false, Bool.false_eq_true, if_false]
  unfold stepF
  by_cases k1 : e.kind = 1
  · simp only [k1, beq_self_eq_true, if_true] at hS ⊢
    simp only [hS, ans, do1_eq hl, D.toInt_int, D.toL_agg, D.toBool_bool, Int.toNat_natCast, mdl0, mdl1, mdl2, mdl3, mdl4, mdl5, mdl6, mdl7, mdl8, od0, od1, od2, od3, od4, od5, od6, od7, od8, od9, od10, od11, od12, osd_l, int_isNil, Bool.not_false, Bool.not_true, if_true, ge_iff_le, Int.natCast_nonneg, decide_true, decide_false, Bool.false_eq_true, if_false, List.length_map, bindC, List.length_cons, List.length_nil, List.getD_cons_zero, List.getD_cons_succ, nil_isNil, code_isNil]; exact hend _
  have k1' : (e.kind == 1) = false := by simpa using k1
  by_cases k2 : e.kind = 2
  · simp only [k2, beq_self_eq_true, if_true, show ((2 : Int) == 1) = false from rfl, show ¬ (2 : Int) = 1 by decide, Bool.false_eq_true, if_false] at hF ⊢
    simp only [hF, ans, do1_eq hl, D.toInt_int, D.toL_agg, D.toBool_bool, Int.toNat_natCast, mdl0, mdl1, mdl2, mdl3, mdl4, mdl5, mdl6, mdl7, mdl8, od0, od1, od2, od3, od4, od5, od6, od7, od8, od9, od10, od11, od12, osd_l, int_isNil, Bool.not_false, Bool.not_true, if_true, ge_iff_le, Int.natCast_nonneg, decide_true, decide_false, Bool.false_eq_true, if_false, List.length_map, bindC, List.length_cons, List.length_nil, List.getD_cons_zero, List.getD_cons_succ, nil_isNil, code_isNil]; exact hend _
  have k2' : (e.kind == 2) = false := by simpa using k2
  simp only [k1, k1', k2, k2', Bool.false_eq_true, if_false]
  by_cases k3 : e.kind = 3
  · have hE' := hE (by omega)
    simp only [k3, beq_self_eq_true, if_true, true_or, J_p_trace_Model_Do_2_eq] at hE' ⊢
    simp only [hE', ans, do1_eq hl, D.toInt_int, D.toL_agg, D.toBool_bool, Int.toNat_natCast, mdl0, mdl1, mdl2, mdl3, mdl4, mdl5, mdl6, mdl7, mdl8, od0, od1, od2, od3, od4, od5, od6, od7, od8, od9, od10, od11, od12, osd_l, int_isNil, Bool.not_false, Bool.not_true, if_true, ge_iff_le, Int.natCast_nonneg, decide_true, decide_false, Bool.false_eq_true, if_false, List.length_map, bindC, List.length_cons, List.length_nil, List.getD_cons_zero, List.getD_cons_succ, nil_isNil, code_isNil]; exact hend _
  by_cases k5 : e.kind = 5
  · have hE' := hE (by omega)
    simp only [k5, beq_self_eq_true, if_true, true_or, or_true, J_p_trace_Model_Do_2_eq, show ((5 : Int) == 3) = false from rfl, Bool.false_eq_true, if_false] at hE' ⊢
    simp only [hE', ans, do1_eq hl, D.toInt_int, D.toL_agg, D.toBool_bool, Int.toNat_natCast, mdl0, mdl1, mdl2, mdl3, mdl4, mdl5, mdl6, mdl7, mdl8, od0, od1, od2, od3, od4, od5, od6, od7, od8, od9, od10, od11, od12, osd_l, int_isNil, Bool.not_false, Bool.not_true, if_true, ge_iff_le, Int.natCast_nonneg, decide_true, decide_false, Bool.false_eq_true, if_false, List.length_map, bindC, List.length_cons, List.length_nil, List.getD_cons_zero, List.getD_cons_succ, nil_isNil, code_isNil]; exact hend _
  have k3' : (e.kind == 3) = false := by simpa using k3
  have k5' : (e.kind == 5) = false := by simpa using k5
  simp only [k3', k5', Bool.false_eq_true, if_false]
  by_cases k7 : e.kind = 7
  · have hE' := hE (by omega)
    simp only [k7, beq_self_eq_true, if_true, true_or, or_true, J_p_trace_Model_Do_2_eq] at hE' ⊢
    simp only [hE', ans, do1_eq hl, D.toInt_int, D.toL_agg, D.toBool_bool, Int.toNat_natCast, mdl0, mdl1, mdl2, mdl3, mdl4, mdl5, mdl6, mdl7, mdl8, od0, od1, od2, od3, od4, od5, od6, od7, od8, od9, od10, od11, od12, osd_l, int_isNil, Bool.not_false, Bool.not_true, if_true, ge_iff_le, Int.natCast_nonneg, decide_true, decide_false, Bool.false_eq_true, if_false, List.length_map, bindC, List.length_cons, List.length_nil, List.getD_cons_zero, List.getD_cons_succ, nil_isNil, code_isNil]; exact hend _
  have k7' : (e.kind == 7) = false := by simpa using k7
  have kn : ¬ (e.kind = 3 ∨ e.kind = 5 ∨ e.kind = 7) := by omega
  simp only [kn, if_false, J_p_trace_Model_Do_2_eq, k7', D.toBool_bool, Bool.false_eq_true]
  by_cases k4 : e.kind = 4
  · simp only [k4, beq_self_eq_true, if_true, true_or] at hT ⊢
    simp only [hT, ans, do1_eq hl, D.toInt_int, D.toL_agg, D.toBool_bool, Int.toNat_natCast, mdl0, mdl1, mdl2, mdl3, mdl4, mdl5, mdl6, mdl7, mdl8, od0, od1, od2, od3, od4, od5, od6, od7, od8, od9, od10, od11, od12, osd_l, int_isNil, Bool.not_false, Bool.not_true, if_true, ge_iff_le, Int.natCast_nonneg, decide_true, decide_false, Bool.false_eq_true, if_false, List.length_map, bindC, List.length_cons, List.length_nil, List.getD_cons_zero, List.getD_cons_succ, nil_isNil, code_isNil]; exact hend _
  have k4' : (e.kind == 4) = false := by simpa using k4
  by_cases k6 : e.kind = 6
  · simp only [k6, beq_self_eq_true, if_true, or_true, show ((6 : Int) == 4) = false from rfl, Bool.false_eq_true, if_false] at hT ⊢
    simp only [hT, ans, do1_eq hl, D.toInt_int, D.toL_agg, D.toBool_bool, Int.toNat_natCast, mdl0, mdl1, mdl2, mdl3, mdl4, mdl5, mdl6, mdl7, mdl8, od0, od1, od2, od3, od4, od5, od6, od7, od8, od9, od10, od11, od12, osd_l, int_isNil, Bool.not_false, Bool.not_true, if_true, ge_iff_le, Int.natCast_nonneg, decide_true, decide_false, Bool.false_eq_true, if_false, List.length_map, bindC, List.length_cons, List.length_nil, List.getD_cons_zero, List.getD_cons_succ, nil_isNil, code_isNil]; exact hend _
  have k6' : (e.kind == 6) = false := by simpa using k6
  have kn2 : ¬ (e.kind = 4 ∨ e.kind = 6) := by omega
  simp only [kn2, k4', k6', D.toInt_int, Bool.false_eq_true, if_false]
  have := do1_eq (c := c) (now := now) hl (.int e.kind) (.int e.cell) (.int e.gen) (.int e.other) (.int e.with') (.int e.name) (.int e.side) (.int e.price) (.int e.least) (.int e.till) (.int e.qty) (.int e.at') (.int e.fin) (.agg H) e.tick (6, os)
  rw [show (H.set n (mdl c (6, os).2 now)) = H from set_self hn hl] at this
  exact this.trans (hend (6, os))
end
end Go.Proofs.Ytofkbhilhgmnlaa.TrD
