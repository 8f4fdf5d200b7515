/-
  The model of trace on data: orders, finding, and the small functions.
-/
import Derived.Test.YtofkbhilhgmnlaaAllE
import Derived.Test.YtofkbhilhgmnlaaDat
import Derived.Test.YtofkbhilhgmnlaaOpen
import Derived.Test.YtofkbhilhgmnlaaCfgN
namespace Go.Proofs.Ytofkbhilhgmnlaa.TrD
open Go.Proofs.Ytofkbhilhgmnlaa.Eng Go.Proofs.Ytofkbhilhgmnlaa Go.Proofs.Ytofkbhilhgmnlaa.Dat Go.Proofs.Ytofkbhilhgmnlaa.Open
set_option linter.unusedVariables false
set_option linter.unusedSimpArgs false
set_option maxRecDepth 10000

structure Od where
  cell : Int
  gen : Int
  name : Int
  side : Int
  price : Int
  least : Int
  till : Int
  qty : Int
  left : Int
  fills : Int
  ask : Bool
  rests : Bool
  fin : Int
deriving DecidableEq
def Od.d (o : Od) : D := .agg [.int o.cell, .int o.gen, .int o.name, .int o.side, .int o.price, .int o.least, .int o.till, .int o.qty, .int o.left, .int o.fills, .bool o.ask, .bool o.rests, .int o.fin]
structure Ev where
  kind : Int
  cell : Int
  gen : Int
  other : Int
  with' : Int
  name : Int
  side : Int
  price : Int
  least : Int
  till : Int
  qty : Int
  at' : Int
  tick : Int
  fin : Int
def Ev.ds (e : Ev) : List D := [.int e.kind, .int e.cell, .int e.gen, .int e.other, .int e.with', .int e.name, .int e.side, .int e.price, .int e.least, .int e.till, .int e.qty, .int e.at', .int e.tick, .int e.fin]
def Ev.d (e : Ev) : D := .agg e.ds
def osd (os : List Od) : D := .agg (os.map Od.d)
def mdl (c : RU.Cf) (os : List Od) (now : Int) : D := .agg [.int c.c0, .int c.c1, .int c.c2, .int c.c3, .int c.c4, .int c.c5, .int c.c6, osd os, .int now]
def Od.zero : Od := ⟨0, 0, 0, 0, 0, 0, 0, 0, 0, 0, false, false, 0⟩
def at? (os : List Od) (i : Nat) : Od := os.getD i Od.zero

theorem loop_to (W : Eng.Fn) (st : Nat → List D) : ∀ n, (∀ j, j < n → W (st j) = W (st (j + 1))) → W (st 0) = W (st n)
  | 0, _ => rfl
  | n + 1, h => (loop_to W st n fun j hj => h j (by omega)).trans (h n (by omega))
theorem loop_from (W : Eng.Fn) (st : Nat → List D) (n : Nat) {s0 : List D} (h0 : st 0 = s0) (h : ∀ j, j < n → W (st j) = W (st (j + 1))) : W s0 = W (st n) := h0 ▸ loop_to W st n h
theorem getD_map {α : Type} (f : α → D) {l : List α} {j : Nat} (h : j < l.length) : (l.map f).getD j .nil = f l[j] := by
  rw [List.getD_eq_getElem?_getD, List.getElem?_map, List.getElem?_eq_getElem h]; rfl
theorem wj {j : Nat} (h : j < 9000000000000000) : IntKind.i64.wrap ((j : Int) + 1) = ((j + 1 : Nat) : Int) := by rw [i64w _ (by omega) (by omega)]; simp
theorem getD_os {os : List Od} {i : Nat} (h : i < os.length) : (os.map Od.d).getD i D.nil = (at? os i).d := by
  rw [getD_map Od.d h, at?, List.getD_eq_getElem?_getD, List.getElem?_eq_getElem h]; rfl
theorem at_eq {os : List Od} {i : Nat} (h : i < os.length) : at? os i = os[i] := by
  rw [at?, List.getD_eq_getElem?_getD, List.getElem?_eq_getElem h]; rfl
theorem at_set {os : List Od} {i : Nat} {o : Od} (h : i < os.length) : at? (os.set i o) i = o := by
  rw [at_eq (by simpa using h)]; simp
theorem at_set_ne {os : List Od} {i k : Nat} {o : Od} (h : i ≠ k) : at? (os.set i o) k = at? os k := by
  simp [at?, List.getD_eq_getElem?_getD, List.getElem?_set, h]

/-- Finding. -/
def isAt (cell gen : Int) (o : Od) : Bool := o.cell == cell && o.gen == gen
def ixD : Option Nat → D
  | some i => .int (i : Nat)
  | none => .int (-1)
def code (k : Int) : D := .iface 58 (.int k)
theorem find1_eq (o : Od) (cell gen : Int) : FX 32 [.int o.cell, .int o.gen, .int o.name, .int o.side, .int o.price, .int o.least, .int o.till, .int o.qty, .int o.left, .int o.fills, .bool o.ask, .bool o.rests, .int o.fin, .agg [.int cell], .agg [.int gen]] = some [.bool (isAt cell gen o)] := by
  rw [E_p_trace_Model_find_1]
  unfold isAt
  by_cases h : o.cell = cell
  · simp [h]
  · simp [h]
theorem index_eq (os : List Od) (hos : os.length ≤ 1000000) (cell gen : Int) : FX 31 [osd os, .iface 32 (.agg [.iface 3 (.agg [.int cell]), .iface 3 (.agg [.int gen])])] = some [ixD (os.findIdx? (isAt cell gen))] := by
  rw [E_slices_IndexFunc_trace_Order_trace_Order]
  have key : ∀ (k i : Nat), i + k = os.length → W_slices_IndexFunc_trace_Order_trace_Order_1 (osd os) (.iface 32 (.agg [.iface 3 (.agg [.int cell]), .iface 3 (.agg [.int gen])])) [.int (i : Nat)] =
      some [ixD ((os.drop i).findIdx? (isAt cell gen) |>.map (· + i))] := by
    intro k
    induction k with
    | zero =>
      intro i hi
      rw [W_slices_IndexFunc_trace_Order_trace_Order_1_eq, List.drop_eq_nil_of_le (by omega)]
      have h1 : ¬ ((i : Int) < (os.length : Int)) := by omega
      simp only [D.toInt_int, osd, D.toL_agg, List.length_map, h1, decide_false, Bool.false_eq_true, if_false]
      rfl
    | succ k ih =>
      intro i hi
      have hlt : i < os.length := by omega
      rw [W_slices_IndexFunc_trace_Order_trace_Order_1_eq, List.drop_eq_getElem_cons hlt]
      have h1 : ((i : Int) < (os.length : Int)) := by omega
      have hif : ∀ (t : Nat) (x : D), (D.iface t x).isIf t = true := fun t x => by simp [D.isIf]
      simp only [D.toInt_int, osd, D.toL_agg, List.length_map, h1, decide_true, if_true, ge_iff_le, Int.natCast_nonneg, Int.toNat_natCast, getD_map Od.d hlt, hif, D.inner, List.length_cons, List.length_nil, List.getD_cons_zero, List.getD_cons_succ, Od.d, find1_eq, bindC, wj (show i < 9000000000000000 by omega)]
      simp only [List.findIdx?_cons]
      have ih' := ih (i + 1) (by omega)
      rw [osd] at ih'
      cases hb : isAt cell gen os[i] with
      | true => simp [ixD]
      | false =>
        rw [show ((i + 1 : Nat) : Int) = (i : Int) + 1 by omega] at ih'
        have hf : (fun x : Nat => x + 1 + i) = fun x => x + (i + 1) := by funext x; omega
        simp [ih', Function.comp_def, hf]
  have := key os.length 0 (by omega)
  simp only [List.drop_zero] at this
  rw [show ((0 : Nat) : Int) = 0 from rfl] at this
  rw [this]
  simp

section
variable {H : List D} {n : Nat} {c : RU.Cf} {os : List Od} {now : Int}
theorem find_eq (hn : H.getD n D.nil = mdl c os now) (hos : os.length ≤ 1000000) (cell gen : Int) :
    FX 22 [.int (n : Nat), .int cell, .int gen, .agg H] = some [ixD (os.findIdx? (isAt cell gen))] := by
  rw [E_p_trace_Model_find]
  simp only [D.toInt_int, D.toL_agg, Int.toNat_natCast, hn, mdl, List.getD_cons_zero, List.getD_cons_succ, index_eq os hos, bindC, List.length_cons, List.length_nil]
  rfl

/-- A live order's place, or why there is none. -/
def liveF (os : List Od) (cell gen : Int) : Nat ⊕ Int := match os.findIdx? (isAt cell gen) with
  | none => .inr 3
  | some i => if (at? os i).fin ≠ 0 then .inr 29 else .inl i
def liveD : Nat ⊕ Int → List D
  | .inl i => [.int (i : Nat), .nil]
  | .inr k => [.int (-1), code k]
theorem findIdx_lt {p : Od → Bool} {i : Nat} (h : os.findIdx? p = some i) : i < os.length ∧ p (at? os i) = true := by
  obtain ⟨h1, h2, _⟩ := List.findIdx?_eq_some_iff_getElem.1 h
  exact ⟨h1, by rw [at_eq h1]; exact h2⟩
theorem live_eq (hn : H.getD n D.nil = mdl c os now) (hos : os.length ≤ 1000000) (cell gen : Int) :
    FX 27 [.int (n : Nat), .int cell, .int gen, .agg H] = some (liveD (liveF os cell gen)) := by
  rw [E_p_trace_Model_live]
  simp only [find_eq hn hos, bindC, List.length_cons, List.length_nil, List.getD_cons_zero, liveF]
  cases hf : os.findIdx? (isAt cell gen) with
  | none => simp [ixD, liveD, code]
  | some i =>
    obtain ⟨hi, _⟩ := findIdx_lt hf
    have h1 : ¬ ((i : Int) < 0) := by omega
    have h2 : ((i : Int) < (os.length : Int)) := by omega
    have h3 : (D.int (n : Int)).isNil = false := rfl
    simp only [ixD, D.toInt_int, D.toL_agg, Int.toNat_natCast, hn, mdl, osd, List.getD_cons_zero, List.getD_cons_succ, h1, decide_false, Bool.false_eq_true, if_false, h3, Bool.not_false, if_true, ge_iff_le, Int.natCast_nonneg, decide_true, List.length_map, h2, getD_os hi, Od.d]
    by_cases h4 : (at? os i).fin = 0
    · simp [h4, liveD]
    · simp [h4, liveD, code]

def ownerF (c : RU.Cf) (cell : Int) : Int := if cell < 0 then -1 else if cell ≥ c.c0 * c.c1 then -1 else cell.tdiv c.c1
theorem prodb (hc : c.ok) : 1 ≤ c.c0 * c.c1 ∧ c.c0 * c.c1 ≤ 24 := by
  obtain ⟨⟨h1, h2⟩, ⟨h3, h4⟩, _⟩ := hc
  have a1 : c.c0 * c.c1 ≤ 6 * 4 := Int.mul_le_mul h2 h4 (by omega) (by omega)
  have a2 : 1 * 1 ≤ c.c0 * c.c1 := Int.mul_le_mul h1 h3 (by omega) (by omega)
  omega
theorem tdiv_b (x y : Int) (hx : 0 ≤ x) (hy : 1 ≤ y) : 0 ≤ x.tdiv y ∧ x.tdiv y ≤ x := by
  rw [Int.tdiv_eq_ediv_of_nonneg hx]
  exact ⟨Int.ediv_nonneg hx (by omega), Int.ediv_le_self _ hx⟩
theorem owner_eq (hc : c.ok) (cell : Int) : FX 24 [.int c.c0, .int c.c1, .int c.c2, .int c.c3, .int c.c4, .int c.c5, .int c.c6, .int cell] = some [.int (ownerF c cell)] := by
  have hp := prodb hc
  have h1 : ¬ c.c1 = 0 := by have := hc.2.1; omega
  rw [E_rules_Rules_Owner]
  simp only [E_rules_Rules_All, D.toInt_int, bindC, List.length_cons, List.length_nil, List.getD_cons_zero, i64w (c.c0 * c.c1) (by omega) (by omega), ownerF]
  by_cases h2 : cell < 0
  · simp [h2]
  by_cases h3 : cell ≥ c.c0 * c.c1
  · simp [h2, h3]
  · have hb := tdiv_b cell c.c1 (by omega) (by have := hc.2.1; omega)
    have hm : (c.c1 != 0) = true := by simp [h1]
    simp only [h2, h3, decide_false, Bool.false_eq_true, if_false, hm, if_true, i64w (cell.tdiv c.c1) (by omega) (by omega)]

/-- The last order of a cell. -/
def lastF (cell : Int) : List Od → Nat → Option Nat → Option Nat
  | [], _, a => a
  | o :: l, i, a => lastF cell l (i + 1) (if o.cell = cell then some i else a)
theorem last_eq (hn : H.getD n D.nil = mdl c os now) (hos : os.length ≤ 1000000) (cell : Int) :
    FX 25 [.int (n : Nat), .int cell, .agg H] = some [ixD (lastF cell os 0 none)] := by
  rw [E_p_trace_Model_last]
  have key : ∀ (k i : Nat) (a : Option Nat), i + k = os.length → W_p_trace_Model_last_1 (.int (n : Nat)) (.int cell) (.agg H) [ixD a, .int (i : Nat)] = some [ixD (lastF cell (os.drop i) i a)] := by
    intro k
    induction k with
    | zero =>
      intro i a hi
      rw [W_p_trace_Model_last_1_eq, List.drop_eq_nil_of_le (by omega)]
      have h1 : ¬ ((i : Int) < (os.length : Int)) := by omega
      simp only [D.toInt_int, osd, D.toL_agg, Int.toNat_natCast, hn, mdl, List.getD_cons_zero, List.getD_cons_succ, List.length_map, h1, decide_false, Bool.false_eq_true, if_false]
      rfl
    | succ k ih =>
      intro i a hi
      have hlt : i < os.length := by omega
      rw [W_p_trace_Model_last_1_eq, List.drop_eq_getElem_cons hlt]
      have h1 : ((i : Int) < (os.length : Int)) := by omega
      simp only [D.toInt_int, osd, D.toL_agg, Int.toNat_natCast, hn, mdl, List.getD_cons_zero, List.getD_cons_succ, List.length_map, h1, decide_true, if_true, ge_iff_le, Int.natCast_nonneg, getD_map Od.d hlt, Od.d, wj (show i < 9000000000000000 by omega), lastF]
      by_cases h2 : os[i].cell = cell
      · have h3 : (os[i].cell == cell) = true := by simp [h2]
        rw [if_pos h3, if_pos h2, show D.int (i : Int) = ixD (some i) from rfl, ih (i + 1) (some i) (by omega)]
      · have h3 : (os[i].cell == cell) = false := by simp [h2]
        simp only [h3, Bool.false_eq_true, if_false, h2]
        rw [ih (i + 1) a (by omega)]
  have := key os.length 0 none (by omega)
  simp only [List.drop_zero] at this
  have h3 : (D.int (n : Int)).isNil = false := rfl
  simp only [h3, Bool.not_false, if_true]
  exact this

def checkF (c : RU.Cf) (name side price least till_ qty now : Int) : Int :=
  if name < 0 then 22 else if name ≥ c.c2 then 22 else if side ≠ 0 ∧ side ≠ 1 then 1 else if qty < 1 then 23 else if qty > 9999 then 23
  else if price < 1 then 24 else if price > 9999 then 24 else if least < 1 then 25 else if least > qty then 25 else if till_ ≤ now then 26 else if till_ > 1000000 then 26 else 0
def err (k : Int) : D := if k = 0 then .nil else code k
theorem check_eq (name side price least till_ qty now : Int) : FX 26 [.int c.c0, .int c.c1, .int c.c2, .int c.c3, .int c.c4, .int c.c5, .int c.c6, .int name, .int side, .int price, .int least, .int till_, .int qty, .int now] = some [err (checkF c name side price least till_ qty now)] := by
  rw [E_terms_Check]
  simp only [D.toInt_int, checkF]
  by_cases h1 : name < 0
  · simp [h1, err, code]
  by_cases h2 : name ≥ c.c2
  · simp [h1, h2, err, code]
  have tail : ∀ (P : Prop) [Decidable P], ¬ P → (if (decide (qty < 1)) = true then some [D.iface 58 (D.int 23)] else if (decide (qty > 9999)) = true then some [D.iface 58 (D.int 23)]
      else if (decide (price < 1)) = true then some [D.iface 58 (D.int 24)] else if (decide (price > 9999)) = true then some [D.iface 58 (D.int 24)]
      else if (decide (least < 1)) = true then some [D.iface 58 (D.int 25)] else if (decide (least > qty)) = true then some [D.iface 58 (D.int 25)]
      else if (decide (till_ ≤ now)) = true then some [D.iface 58 (D.int 26)] else if (decide (till_ > 1000000)) = true then some [D.iface 58 (D.int 26)] else some [D.nil]) =
      some [err (if P then 1 else if qty < 1 then 23 else if qty > 9999 then 23
        else if price < 1 then 24 else if price > 9999 then 24 else if least < 1 then 25 else if least > qty then 25 else if till_ ≤ now then 26 else if till_ > 1000000 then 26 else 0)] := by
    intro P _ hP
    simp only [hP, if_false]
    by_cases a1 : qty < 1
    · simp [a1, err, code]
    by_cases a2 : qty > 9999
    · simp [a1, a2, err, code]
    by_cases a3 : price < 1
    · simp [a1, a2, a3, err, code]
    by_cases a4 : price > 9999
    · simp [a1, a2, a3, a4, err, code]
    by_cases a5 : least < 1
    · simp [a1, a2, a3, a4, a5, err, code]
    by_cases a6 : least > qty
    · simp [a1, a2, a3, a4, a5, a6, err, code]
    by_cases a7 : till_ ≤ now
    · simp [a1, a2, a3, a4, a5, a6, a7, err, code]
    by_cases a8 : till_ > 1000000
    · simp [a1, a2, a3, a4, a5, a6, a7, a8, err, code]
    · simp [a1, a2, a3, a4, a5, a6, a7, a8, err, code]
  simp only [h1, h2, decide_false, Bool.false_eq_true, if_false]
  by_cases h3 : side = 0
  · simp only [h3, bne_self_eq_false, Bool.false_eq_true, if_false]
    exact tail _ (by simp)
  have h4 : (side != 0) = true := by simp [h3]
  simp only [h4, if_true]
  by_cases h5 : side = 1
  · simp only [h5, bne_self_eq_false, Bool.false_eq_true, if_false]
    exact tail _ (by simp)
  · have h6 : (side != 1) = true := by simp [h5]
    simp [h6, h3, h5, err, code]
def overF (c : RU.Cf) (o : Od) : Int := if o.left = 0 then 5 else if o.fills ≥ c.c5 then 8 else 0
theorem over_eq (hn : H.getD n D.nil = mdl c os now) (o : Od) : FX 29 [.int (n : Nat), .int o.cell, .int o.gen, .int o.name, .int o.side, .int o.price, .int o.least, .int o.till, .int o.qty, .int o.left, .int o.fills, .bool o.ask, .bool o.rests, .int o.fin, .agg H] = some [.int (overF c o)] := by
  rw [E_p_trace_Model_over]
  have h3 : (D.int (n : Int)).isNil = false := rfl
  simp only [D.toInt_int, D.toL_agg, Int.toNat_natCast, hn, mdl, List.getD_cons_zero, List.getD_cons_succ, h3, Bool.not_false, if_true, overF]
  by_cases h1 : o.left = 0
  · simp [h1]
  by_cases h2 : o.fills ≥ c.c5
  · simp [h1, h2]
  · simp [h1, h2]
def midF (a b : Int) : Int := a + (b - a).tdiv 2
def minF (a b : Int) : Int := if b < a then b else a
def maxF (a b : Int) : Int := if b > a then b else a
/-- What a buy and a sell come to. -/
def match2 (bn bs bp : Int) (sn ss sp : Int) (an on : Int) (l1 l2 m1 m2 : Int) : Int × Int :=
  if bs ≠ 0 then (0, 0) else if ss ≠ 1 then (0, 0) else if an ≠ on then (0, 0) else if bp < sp then (0, 0) else if minF l1 l2 < 1 then (0, 0) else if minF l1 l2 < maxF m1 m2 then (0, 0)
  else (minF l1 l2, midF sp bp)
def matchF (a b : Od) : Int × Int :=
  if a.side = 1 then match2 b.name b.side b.price a.name a.side a.price a.name b.name a.left b.left a.least b.least
  else match2 a.name a.side a.price b.name b.side b.price a.name b.name a.left b.left a.least b.least
/-- An order as it may be. -/
structure Od.Ok (c : RU.Cf) (o : Od) : Prop where
  own : 0 ≤ ownerF c o.cell
  cell : 0 ≤ o.cell ∧ o.cell < c.c0 * c.c1
  gen : 1 ≤ o.gen ∧ o.gen ≤ c.c6
  price : 1 ≤ o.price ∧ o.price ≤ 9999
  least : 1 ≤ o.least ∧ o.least ≤ o.qty
  qty : 1 ≤ o.qty ∧ o.qty ≤ 9999
  left : 0 ≤ o.left ∧ o.left ≤ o.qty
  fills : 0 ≤ o.fills ∧ o.fills ≤ c.c5
  tl : 1 ≤ o.till ∧ o.till ≤ 1000000
theorem mid_eq (a b : Int) (h1 : 1 ≤ a) (h2 : a ≤ b) (h3 : b ≤ 9999) : FX 36 [.int a, .int b] = some [.int (midF a b)] := by
  rw [E_field_Mid]
  have hb : ¬ b < a := by omega
  have hd := tdiv_b (b - a) 2 (by omega) (by omega)
  simp only [E_field_up, D.toInt_int, hb, decide_false, Bool.false_eq_true, if_false, bindC, List.length_cons, List.length_nil, List.getD_cons_zero,
    i64w (b - a) (by omega) (by omega), i64w ((b - a).tdiv 2) (by omega) (by omega), i64w (a + (b - a).tdiv 2) (by omega) (by omega), Int.sub_zero, midF]
  simp
theorem match_eq {a b : Od} (ha : a.Ok c) (hb : b.Ok c) : FX 30 [.int a.name, .int a.side, .int a.price, .int a.least, .int a.till, .int b.name, .int b.side, .int b.price, .int b.least, .int b.till, .int a.left, .int b.left] =
    some [.int (matchF a b).1, .int (matchF a b).2] := by
  have key : ∀ (bn bs bp bl bu sn ss sp sl su an asd ap al au on osd op ol ou l1 l2 : Int), 1 ≤ bp → bp ≤ 9999 → 1 ≤ sp → sp ≤ 9999 →
      J_terms_Match_1 (.int an) (.int asd) (.int ap) (.int al) (.int au) (.int on) (.int osd) (.int op) (.int ol) (.int ou) (.int l1) (.int l2) [.int bn, .int bs, .int bp, .int bl, .int bu, .int sn, .int ss, .int sp, .int sl, .int su] =
      some [.int (match2 bn bs bp sn ss sp an on l1 l2 al ol).1, .int (match2 bn bs bp sn ss sp an on l1 l2 al ol).2] := by
    intro bn bs bp bl bu sn ss sp sl su an asd ap al au on osd op ol ou l1 l2 hb1 hb2 hs1 hs2
    rw [J_terms_Match_1_eq]
    have e1 : (if (decide ((D.int l2).toInt < (D.int l1).toInt)) = true then D.int l2 else D.int l1) = D.int (minF l1 l2) := by
      unfold minF; by_cases h : l2 < l1 <;> simp [h]
    have e2 : (if (decide ((D.int ol).toInt > (D.int al).toInt)) = true then D.int ol else D.int al) = D.int (maxF al ol) := by
      unfold maxF; by_cases h : ol > al <;> simp [h]
    rw [e1, e2]
    simp only [D.toInt_int, match2]
    by_cases h1 : ¬ bs = 0
    · simp [h1]
    by_cases h2 : ¬ ss = 1
    · simp [h1, h2]
    by_cases h3 : ¬ an = on
    · simp [h1, h2, h3]
    have h1 : bs = 0 := by omega
    have h2 : ss = 1 := by omega
    have h3 : an = on := by omega
    by_cases h4 : bp < sp
    · simp [h1, h2, h3, h4]
    by_cases h5 : minF l1 l2 < 1
    · simp [h1, h2, h3, h4, h5]
    by_cases h6 : minF l1 l2 < maxF al ol
    · simp [h1, h2, h3, h4, h5, h6]
    · simp [h1, h2, h3, h4, h5, h6, mid_eq sp bp hs1 (by omega) hb2, bindC]
  rw [E_terms_Match]
  unfold matchF
  by_cases h : a.side = 1
  · have h' : ((D.int a.side).toInt == 1) = true := by simp [h]
    rw [if_pos h', key _ _ _ _ _ _ _ _ _ _ _ _ _ _ _ _ _ _ _ _ _ _ hb.price.1 hb.price.2 ha.price.1 ha.price.2, if_pos h]
  · have h' : ((D.int a.side).toInt == 1) = false := by simp [h]
    rw [h', key _ _ _ _ _ _ _ _ _ _ _ _ _ _ _ _ _ _ _ _ _ _ ha.price.1 ha.price.2 hb.price.1 hb.price.2, if_neg h]
    simp
end
end Go.Proofs.Ytofkbhilhgmnlaa.TrD
