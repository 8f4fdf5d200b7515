/-
  answer.Parse on data, of the words of a right reply.
-/
import Derived.Test.YtmgpbjennnadhaaGreatDoorAnsP
namespace Go.Proofs.YtmgpbjennnadhaaGreatDoor.AnsD
open Go.Proofs.YtmgpbjennnadhaaGreatDoor.Eng Go.Proofs.YtmgpbjennnadhaaGreatDoor.Dat Go.Proofs.YtmgpbjennnadhaaGreatDoor Go.Proofs.YtmgpbjennnadhaaGreatDoor.WordP Go.Proofs.YtmgpbjennnadhaaGreatDoor.StrL
open Go.Lib (decDigits itoa nDigits)
set_option linter.unusedVariables false
set_option linter.unusedSimpArgs false

/-- A heap whose newest object is a reader of these words; nothing is wrong yet. -/
def hR (pre : List D) (W : List Bs) : D := .agg (pre ++ [.agg [wD W, .bool false]])
theorem isnil_int (n : Int) : (D.int n).isNil = false := rfl
theorem isnil_nil : D.nil.isNil = true := rfl
theorem getD_pre (pre : List D) (x d : D) : (pre ++ [x]).getD pre.length d = x := by simp
theorem set_pre (pre : List D) (x y : D) : (pre ++ [x]).set pre.length y = pre ++ [y] := by simp
theorem next_eq (pre : List D) (w : Bs) (W : List Bs) (hW : W.length ≤ 100000) :
    FX 34 [.int (pre.length : Nat), hR pre (w :: W)] = some [.str (toB w), hR pre W] := by
  rw [E_p_answer_reader_next]
  have e0 : ((((w :: W).length : Nat) : Int) == 0) = false := by simp; omega
  have e1 : (0 : Int) < (((w :: W).length : Nat) : Int) := by simp only [List.length_cons]; omega
  have e2 : (1 : Int) ≤ (((w :: W).length : Nat) : Int) := by simp only [List.length_cons]; omega
  have e3 : (0 : Int) ≤ 1 := by decide
  simp only [hR, D.toL_agg, D.toInt_int, isnil_int, Int.toNat_natCast, getD_pre, set_pre, List.getD_cons_zero, wD_lenN, e0, e1, e2, e3, Bool.not_false, if_true, Bool.false_eq_true, if_false, decide_true, Int.le_refl]
  simp [wD, List.range_succ, List.take_of_length_le]
theorem num_eq (pre : List D) {w : Bs} (hd : dig w = true) (W : List Bs) (hW : W.length ≤ 100000) :
    FX 33 [.int (pre.length : Nat), hR pre (w :: W)] = some [.int (val w : Nat), hR pre W] := by
  rw [E_p_answer_reader_num]
  simp only [next_eq pre w W hW, bindC, List.length_cons, List.length_nil, if_true, List.getD_cons_zero, List.getD_cons_succ, atoi_dig hd, digits_eq, hd, isnil_int, Bool.not_false, Bool.not_true, isnil_nil, Bool.false_eq_true, if_false, D.toInt_int, Int.toNat_natCast]
  simp only [hR, D.toL_agg, getD_pre, set_pre, List.getD_cons_succ, List.getD_cons_zero, D.toBool_bool, Bool.false_eq_true, if_false, Bool.not_true]
  simp [wD, List.range_succ]
theorem num_dec (pre : List D) {n : Int} (hn : most n) (W : List Bs) (hW : W.length ≤ 100000) :
    FX 33 [.int (pre.length : Nat), hR pre (decI n :: W)] = some [.int n, hR pre W] := by
  have h := dec_dig (n := n.toNat) (by have := hn.2; omega)
  have e : ((val (decI n) : Nat) : Int) = n := by unfold decI; rw [h.2]; have := hn.1; omega
  show FX 33 [.int (pre.length : Nat), hR pre (decDigits n.toNat :: W)] = _
  rw [num_eq pre h.1 W hW]
  exact congrArg (fun z => some [D.int z, hR pre W]) e
def kinds6 : List Int := [0, 1, 5, 6, 7, 8]
theorem look_loop (pre : List D) (x3 : D) (x : Int × Int × Int) (hx : lookRight x) (W : List Bs) (hW : W.length ≤ 10000) : ∀ (n i : Nat), n + i = 6 → (∃ j, i ≤ j ∧ j < 6 ∧ kinds6[j]? = some x.1) →
    W_p_answer_reader_look_1 (.int (pre.length : Nat)) (hR pre (lookB x.1 :: decI x.2.1 :: decI x.2.2 :: W)) (.str (toB (lookB x.1))) x3 [.int (i : Nat), hR pre (decI x.2.1 :: decI x.2.2 :: W)] = some [.int x.1, .int x.2.1, .int x.2.2, hR pre W]
  | 0, i, h, ⟨j, h1, h2, _⟩ => by omega
  | n + 1, i, h, ⟨j, h1, h2, h3⟩ => by
    have ha : (i : Int) < (((0 + 1 + 1 + 1 + 1 + 1 + 1 : Nat) : Nat) : Int) := by omega
    have hb : (i : Int) ≥ 0 := by omega
    have hw : IntKind.i64.wrap ((i : Nat) + 1 : Int) = ((i + 1 : Nat) : Int) := by rw [wrap_small _ (by omega) (by omega)]; omega
    obtain ⟨k, hk⟩ : ∃ k, kinds6[i]? = some k := ⟨kinds6[i]'(by simp [kinds6]; omega), List.getElem?_eq_getElem _⟩
    have hg : [D.int 0, D.int 1, D.int 5, D.int 6, D.int 7, D.int 8].getD i .nil = .int k := by
      have : [D.int 0, D.int 1, D.int 5, D.int 6, D.int 7, D.int 8] = kinds6.map D.int := rfl
      rw [this, List.getD_eq_getElem?_getD, List.getElem?_map, hk]; rfl
    rw [W_p_answer_reader_look_1_eq]
    simp only [D.toL_agg, D.toInt_int, List.length_cons, List.length_nil, ha, hb, decide_true, if_true, Int.toNat_natCast, hg, word_eq, bindC, List.getD_cons_zero, D.toStr_str, eql_toB, hw]
    refine cutI (fun he => ?_) fun he => ?_
    · have hk6 : ∀ (i : Nat) (k : Int), kinds6[i]? = some k → (k = 0 ∨ k = 1 ∨ k = 5 ∨ k = 6 ∨ k = 7 ∨ k = 8) := by
        intro i k h
        have := List.mem_of_getElem? h
        simpa [kinds6] using this
      have ek := lookB_inj (hk6 i k hk) hx.1 (by simpa using he)
      simp only [num_dec pre hx.2.1 (decI x.2.2 :: W) (by simp; omega), num_dec pre hx.2.2 W (by omega), List.length_cons, List.length_nil, if_true, List.getD_cons_zero, List.getD_cons_succ, ek]
    · have : i ≠ j := by
        rintro rfl
        rw [h3] at hk
        have := Option.some.inj hk
        rw [this] at he
        simp at he
      exact look_loop pre x3 x hx W hW n (i + 1) (by omega) ⟨j, by omega, h2, h3⟩
theorem look_eq (pre : List D) (x : Int × Int × Int) (hx : lookRight x) (W : List Bs) (hW : W.length ≤ 10000) :
    FX 51 [.int (pre.length : Nat), hR pre (lookB x.1 :: decI x.2.1 :: decI x.2.2 :: W)] = some [.int x.1, .int x.2.1, .int x.2.2, hR pre W] := by
  rw [E_p_answer_reader_look]
  have hj : ∃ j, 0 ≤ j ∧ j < 6 ∧ kinds6[j]? = some x.1 := by
    rcases hx.1 with h | h | h | h | h | h <;> rw [h]
    · exact ⟨0, by omega, by omega, rfl⟩
    · exact ⟨1, by omega, by omega, rfl⟩
    · exact ⟨2, by omega, by omega, rfl⟩
    · exact ⟨3, by omega, by omega, rfl⟩
    · exact ⟨4, by omega, by omega, rfl⟩
    · exact ⟨5, by omega, by omega, rfl⟩
  have := look_loop pre (hR pre (decI x.2.1 :: decI x.2.2 :: W)) x hx W hW 6 0 (by omega) hj
  simp only [next_eq pre (lookB x.1) (decI x.2.1 :: decI x.2.2 :: W) (by simp; omega), bindC, List.length_cons, List.length_nil, if_true, List.getD_cons_zero, List.getD_cons_succ]
  exact this
def bads : List D := [.int 0, .int 0, .int 0, .int 0, .int 0, .bool false, .int 0, .int 0, .int 0, .int 0, .int 0, .int 0, .agg [], .iface 22 (.int 6)]
/-! The ways of a line. -/
theorem parse3 (pre : List D) (r : Rep) (h : r.Right) (hl : r.looks.length ≤ 1000) (x0 x2 x3 x4 x5 x6 x7 x8 x9 x10 x11 x12 x13 x14 x15 x16 x17 x18 x19 x20 x21 x22 x23 x24 x25 x26 x27 x28 x29 x30 x31 x32 x33 x34 : D) (g0 : Eng.Fn) :
    J_answer_Parse_3 x0 (.agg pre) x2 x3 x4 x5 x6 x7 x8 x9 x10 x11 x12 x13 x14 x15 x16 x17 x18 x19 x20 x21 x22 x23 x24 x25 x26 x27 x28 x29 x30 x31 x32 x33 x34 g0
      [.int r.kind, .int r.code, .int r.tick, .int r.id, .int r.cell, .bool r.asked, .int r.rk, .int r.rq, .int r.rp, .int r.rt, .int r.rc, .int r.rg, looksD r.looks, hR pre []] = some (dsOf r ++ [.nil, hR pre []]) := by
  have hR' := ansRight_eq r (by omega)
  unfold dsOf at hR'
  rw [J_answer_Parse_3_eq]
  have k0 : (r.kind == 0) = false := by have := h.kind; simp; omega
  have l0 : ¬ (((([] : List Bs).length : Nat) : Int) > 0) := by simp
  simp only [D.toInt_int, k0, Bool.false_eq_true, if_false, hR, D.toL_agg, Int.toNat_natCast, getD_pre, List.getD_cons_succ, List.getD_cons_zero, D.toBool_bool, wD_lenN, l0, decide_false, hR', (right_iff r).2 h, bindC, List.length_cons, List.length_nil, if_true, Bool.not_true]
  rfl
theorem looks_snoc (L : List (Int × Int × Int)) (x : Int × Int × Int) : D.agg ((looksD L).toL ++ [.agg [.int x.1, .int x.2.1, .int x.2.2]]) = looksD (L ++ [x]) := by simp [looksD, lookD]
theorem looksW_cons (x : Int × Int × Int) (L : List (Int × Int × Int)) : looksW (x :: L) = lookB x.1 :: decI x.2.1 :: decI x.2.2 :: looksW L := rfl
theorem parse4 (pre : List D) (x0  x2 x3 x4 x5 x6 x7 x8 x9 x10 x11 x12 x13 x14 x15 x16 x17 x18 x19 x20 x21 x22 x23 x24 x25 x26 x27 x28 x29 x30 x31 x32 x33 x34 : D) (g0 g1 : Eng.Fn) (a0 a1 a2 a3 a4 a5 a6 a7 a8 a9 a10 a11 : D) : ∀ (rest done : List (Int × Int × Int)), (∀ l ∈ rest, lookRight l) → done.length + rest.length ≤ 1000 →
    W_answer_Parse_4 x0 (.agg pre) x2 x3 x4 x5 x6 x7 x8 x9 x10 x11 x12 x13 x14 x15 x16 x17 x18 x19 x20 x21 x22 x23 x24 x25 x26 x27 x28 x29 x30 x31 x32 x33 x34 g0 g1 [a0, a1, a2, a3, a4, a5, a6, a7, a8, a9, a10, a11, looksD done, hR pre (looksW rest)] = g1 [a0, a1, a2, a3, a4, a5, a6, a7, a8, a9, a10, a11, looksD (done ++ rest), hR pre []]
  | [], done, _, _ => by
    rw [W_answer_Parse_4_eq]
    have l0 : ¬ ((((looksW []).length : Nat) : Int) > 0) := by simp [looksW]
    simp only [hR, D.toL_agg, Int.toNat_natCast, getD_pre, List.getD_cons_succ, List.getD_cons_zero, wD_lenN, l0, decide_false, Bool.false_eq_true, if_false, List.append_nil]
    rfl
  | x :: rest, done, hr, hl => by
    have hx := hr x (List.mem_cons_self ..)
    have l0 : ((((looksW (x :: rest)).length : Nat) : Int) > 0) := by rw [looksW_len]; simp only [List.length_cons]; omega
    have hlk := look_eq pre x hx (looksW rest) (by rw [looksW_len]; simp only [List.length_cons] at hl; omega)
    have hb : (((looksD (done ++ [x])).toL.length : Int) ≤ 5864062014805) := by rw [looks_len]; simp only [List.length_append, List.length_cons, List.length_nil] at hl ⊢; omega
    have ih := parse4 pre x0  x2 x3 x4 x5 x6 x7 x8 x9 x10 x11 x12 x13 x14 x15 x16 x17 x18 x19 x20 x21 x22 x23 x24 x25 x26 x27 x28 x29 x30 x31 x32 x33 x34 g0 g1 a0 a1 a2 a3 a4 a5 a6 a7 a8 a9 a10 a11 rest (done ++ [x]) (fun l hl => hr l (List.mem_cons_of_mem _ hl)) (by simp only [List.length_append, List.length_cons, List.length_nil] at hl ⊢; omega)
    rw [W_answer_Parse_4_eq]
    rw [← looksW_cons] at hlk
    have e1 : ((hR pre (looksW (x :: rest))).toL.getD (((pre.length : Nat) : Int)).toNat .nil) = .agg [wD (looksW (x :: rest)), .bool false] := by simp [hR]
    have e2 : (D.int (((D.agg pre).toL.length : Nat) : Int)) = .int (pre.length : Nat) := rfl
    simp only [e1, e2, D.toL_agg, List.getD_cons_succ, List.getD_cons_zero, wD_lenN, l0, decide_true, if_true, D.toBool_bool, Bool.not_false, hlk, bindC, List.length_cons, List.length_nil, looks_snoc, hb, ih, List.append_assoc, List.cons_append, List.nil_append]
theorem parse5 (pre : List D) (x0  x2 x3 x4 x5 x6 x7 x8 x9 x10 x11 x12 x13 x14 x15 x16 x17 x18 x19 x20 x21 x22 x23 x24 x25 x26 x27 x28 x29 x30 x31 x32 x33 x34 : D) (g0 g1 : Eng.Fn) (a0 a1 a2 a3 a4 a5 a6 a7 a8 a9 a10 a11 : D) : ∀ (rest done : List (Int × Int × Int)), (∀ l ∈ rest, lookRight l) → done.length + rest.length ≤ 1000 →
    W_answer_Parse_5 x0 (.agg pre) x2 x3 x4 x5 x6 x7 x8 x9 x10 x11 x12 x13 x14 x15 x16 x17 x18 x19 x20 x21 x22 x23 x24 x25 x26 x27 x28 x29 x30 x31 x32 x33 x34 g0 g1 [a0, a1, a2, a3, a4, a5, a6, a7, a8, a9, a10, a11, looksD done, hR pre (looksW rest)] = g1 [a0, a1, a2, a3, a4, a5, a6, a7, a8, a9, a10, a11, looksD (done ++ rest), hR pre []]
  | [], done, _, _ => by
    rw [W_answer_Parse_5_eq]
    have l0 : ¬ ((((looksW []).length : Nat) : Int) > 0) := by simp [looksW]
    simp only [hR, D.toL_agg, Int.toNat_natCast, getD_pre, List.getD_cons_succ, List.getD_cons_zero, wD_lenN, l0, decide_false, Bool.false_eq_true, if_false, List.append_nil]
    rfl
  | x :: rest, done, hr, hl => by
    have hx := hr x (List.mem_cons_self ..)
    have l0 : ((((looksW (x :: rest)).length : Nat) : Int) > 0) := by rw [looksW_len]; simp only [List.length_cons]; omega
    have hlk := look_eq pre x hx (looksW rest) (by rw [looksW_len]; simp only [List.length_cons] at hl; omega)
    have hb : (((looksD (done ++ [x])).toL.length : Int) ≤ 5864062014805) := by rw [looks_len]; simp only [List.length_append, List.length_cons, List.length_nil] at hl ⊢; omega
    have ih := parse5 pre x0  x2 x3 x4 x5 x6 x7 x8 x9 x10 x11 x12 x13 x14 x15 x16 x17 x18 x19 x20 x21 x22 x23 x24 x25 x26 x27 x28 x29 x30 x31 x32 x33 x34 g0 g1 a0 a1 a2 a3 a4 a5 a6 a7 a8 a9 a10 a11 rest (done ++ [x]) (fun l hl => hr l (List.mem_cons_of_mem _ hl)) (by simp only [List.length_append, List.length_cons, List.length_nil] at hl ⊢; omega)
    rw [W_answer_Parse_5_eq]
    rw [← looksW_cons] at hlk
    have e1 : ((hR pre (looksW (x :: rest))).toL.getD (((pre.length : Nat) : Int)).toNat .nil) = .agg [wD (looksW (x :: rest)), .bool false] := by simp [hR]
    have e2 : (D.int (((D.agg pre).toL.length : Nat) : Int)) = .int (pre.length : Nat) := rfl
    simp only [e1, e2, D.toL_agg, List.getD_cons_succ, List.getD_cons_zero, wD_lenN, l0, decide_true, if_true, D.toBool_bool, Bool.not_false, hlk, bindC, List.length_cons, List.length_nil, looks_snoc, hb, ih, List.append_assoc, List.cons_append, List.nil_append]
theorem parse7 (pre : List D) (x0  x2 x3 x4 x5 x6 x7 x8 x9 x10 x11 x12 x13 x14 x15 x16 x17 x18 x19 x20 x21 x22 x23 x24 x25 x26 x27 x28 x29 x30 x31 x32 x33 x34  x36 x37 : D) (g0 g1 : Eng.Fn) (k q p t : Int) (hk : 1 ≤ k ∧ k ≤ 5) (hq : most q) (hp : most p) (ht : most t) : ∀ (n : Nat) (i : Int), (n : Int) + i = 6 → 1 ≤ i → i ≤ k →
    W_answer_Parse_7 x0 (.agg pre) x2 x3 x4 x5 x6 x7 x8 x9 x10 x11 x12 x13 x14 x15 x16 x17 x18 x19 x20 x21 x22 x23 x24 x25 x26 x27 x28 x29 x30 x31 x32 x33 x34 (.str (toB (recB k))) x36 x37 g0 g1 [.int i, hR pre [decI q, decI p, decI t]] = g1 [x21, x22, x23, x24, x25, x26, .int k, .int q, .int p, .int t, .int 0, .int 0, x33, hR pre []]
  | 0, i, h, _, _ => by omega
  | n + 1, i, h, h1, h2 => by
    have e2 : (D.int (((D.agg pre).toL.length : Nat) : Int)) = .int (pre.length : Nat) := rfl
    have h5 : i ≤ 5 := by omega
    have hw : IntKind.i64.wrap (i + 1 : Int) = i + 1 := wrap_small _ (by omega) (by omega)
    rw [W_answer_Parse_7_eq]
    simp only [D.toInt_int, h5, decide_true, if_true, rname_eq (k := i) (by omega), bindC, List.length_cons, List.length_nil, List.getD_cons_zero, D.toStr_str, eql_toB, hw, e2]
    refine cutI (fun he => ?_) fun he => ?_
    · have ek := recB_inj (m := i) (n := k) (by omega) (by omega) (by simpa using he)
      simp only [num_dec pre hq [decI p, decI t] (by simp), num_dec pre hp [decI t] (by simp), num_dec pre ht [] (by simp), List.length_cons, List.length_nil, if_true, List.getD_cons_zero, List.getD_cons_succ, ek]
    · have : i ≠ k := by
        rintro rfl
        simp at he
      exact parse7 pre x0  x2 x3 x4 x5 x6 x7 x8 x9 x10 x11 x12 x13 x14 x15 x16 x17 x18 x19 x20 x21 x22 x23 x24 x25 x26 x27 x28 x29 x30 x31 x32 x33 x34  x36 x37 g0 g1 k q p t hk hq hp ht n (i + 1) (by omega) (by omega) (by omega)
theorem parse2 (pre : List D) (r : Rep) (h : r.Right) (hc : r.code ≤ 9999999) (hl : r.looks.length ≤ 1000) (x0  x2 x3 x4 x5 x6 x7 x8 x9 x10 x11 x12 x13 x14 x15 x16 x17 x18 x19 x20 : D) (g0 : Eng.Fn) :
    J_answer_Parse_2 x0 (.agg pre) x2 x3 x4 x5 x6 x7 x8 x9 x10 x11 x12 x13 x14 x15 x16 x17 x18 x19 x20 g0 [.int r.kind, .int 0, .int r.tick, .int r.id, .int r.cell, .bool false, .int 0, .int 0, .int 0, .int 0, .int 0, .int 0, .agg [], hR pre r.tail] = some (dsOf r ++ [.nil, hR pre []]) := by
  have e2 : (D.int (((D.agg pre).toL.length : Nat) : Int)) = .int (pre.length : Nat) := rfl
  have e1 : ∀ W : List Bs, ((hR pre W).toL.getD (((pre.length : Nat) : Int)).toNat .nil) = .agg [wD W, .bool false] := by intro W; simp [hR]
  have hset : ∀ W : List Bs, D.agg ((hR pre W).toL.set (((pre.length : Nat) : Int)).toNat (.agg (((List.range 2).map fun j => [wD W, .bool false].getD j .nil).set 1 (.bool false)))) = hR pre W := by
    intro W; simp [hR, List.range_succ]
  have hk := h.kind
  have k0 : (r.kind != 0) = true := by simp; omega
  have z0 : (D.int 0) = .int 0 := rfl
  have fin := fun (y0 y2 y3 y4 y5 y6 y7 y8 y9 y10 y11 y12 y13 y14 y15 y16 y17 y18 y19 y20 y21 y22 y23 y24 y25 y26 y27 y28 y29 y30 y31 y32 y33 y34 : D) => parse3 pre r h hl y0 y2 y3 y4 y5 y6 y7 y8 y9 y10 y11 y12 y13 y14 y15 y16 y17 y18 y19 y20 y21 y22 y23 y24 y25 y26 y27 y28 y29 y30 y31 y32 y33 y34 g0
  have ee : (ByteArray.mk #[101, 114, 114, 111, 114]) = toB errorB := rfl
  have ea : (ByteArray.mk #[97, 115, 107, 101, 100]) = toB askedB := rfl
  have eo : (ByteArray.mk #[111, 107]) = toB okB := rfl
  have nB : toB ([] : Bs) = ByteArray.mk #[] := rfl
  rw [J_answer_Parse_2_eq]
  simp only [e1, e2, D.toInt_int, k0, if_true, D.toL_agg, List.getD_cons_zero, List.getD_cons_succ, D.toBool_bool, Bool.not_false, wD_lenN]
  by_cases c0 : r.code = 0
  · have nk : ¬ r.code ≠ 0 := fun h => h c0
    refine cutI (fun k4 => ?_) fun k4 => ?_
    · replace k4 : r.kind = 4 := by simpa using k4
      obtain ⟨rk, rq, rp, rt, rc, rg⟩ := h.rec0 (.inl (by omega))
      have ra := h.asked0 (.inl (by omega))
      have et : r.tail = looksW r.looks := by unfold Rep.tail; rw [if_neg nk, if_neg (by rw [ra]; simp), if_neg (by omega), if_neg (by omega)]
      have lr : ∀ l ∈ r.looks, lookRight l := fun l hl => (h.looks l hl).2.2
      have fin' : ∀ (y0 y2 y3 y4 y5 y6 y7 y8 y9 y10 y11 y12 y13 y14 y15 y16 y17 y18 y19 y20 y21 y22 y23 y24 y25 y26 y27 y28 y29 y30 y31 y32 y33 y34 : D), J_answer_Parse_3 y0 (.agg pre) y2 y3 y4 y5 y6 y7 y8 y9 y10 y11 y12 y13 y14 y15 y16 y17 y18 y19 y20 y21 y22 y23 y24 y25 y26 y27 y28 y29 y30 y31 y32 y33 y34 g0 [.int r.kind, .int 0, .int r.tick, .int r.id, .int r.cell, .bool false, .int 0, .int 0, .int 0, .int 0, .int 0, .int 0, looksD r.looks, hR pre []] = some (dsOf r ++ [.nil, hR pre []]) := by
        intros
        have := parse3 pre r h hl
        rw [c0, ra, rk, rq, rp, rt, rc, rg] at this
        exact this ..
      rw [et]
      have ln : D.agg [] = looksD [] := rfl
      refine cutI (fun hp => ?_) fun hp => ?_
      · replace hp := dT hp
        rw [if_pos (decide_eq_true hp)]
        obtain ⟨x, L, ex⟩ : ∃ x L, r.looks = x :: L := by
          cases hL : r.looks with
          | nil => rw [hL] at hp; simp [looksW] at hp
          | cons x L => exact ⟨x, L, rfl⟩
        have hne : (lookB x.1 == errorB) = false := by
          have := lookB_error (lr x (by rw [ex]; exact List.mem_cons_self ..)).1
          simpa using this
        have hg : ((wD (looksW r.looks)).toL.getD ((0 : Int)).toNat .nil) = .str (toB (lookB x.1)) := by rw [ex, looksW_cons]; simp [wD]
        simp only [hg, D.toStr_str, ee, eql_toB, hne, Bool.false_eq_true, if_false]
        rw [ln, parse4 pre _ _ _ _ _ _ _ _ _ _ _ _ _ _ _ _ _ _ _ _ _ _ _ _ _ _ _ _ _ _ _ _ _ _ _ _ _ _ _ _ _ _ _ _ _ _ _ _ r.looks [] lr (by simp; omega)]
        exact fin' ..
      · rw [ln, parse5 pre _ _ _ _ _ _ _ _ _ _ _ _ _ _ _ _ _ _ _ _ _ _ _ _ _ _ _ _ _ _ _ _ _ _ _ _ _ _ _ _ _ _ _ _ _ _ _ _ r.looks [] lr (by simp; omega)]
        exact fin' ..
    replace k4 : r.kind ≠ 4 := by simpa using k4
    have lk := h.looks0 (.inl k4)
    by_cases k3 : r.kind = 3
    · have ra := h.asked0 (.inl (by omega))
      have et : r.tail = recB r.rk :: (if 0 < r.rk then [decI r.rq, decI r.rp, decI r.rt] else []) := by unfold Rep.tail; rw [if_neg nk, if_neg (by rw [ra]; simp), if_neg (by omega), if_pos k3]
      have r5 := h.rk5
      have hne : (recB r.rk == errorB) = false := by simpa using (recB_error r5).1
      have q2 : (r.kind == 2) = false := by simp; omega
      have q3 : (r.kind == 3) = true := by simp; omega
      rw [et]
      simp only [next_eq pre (recB r.rk) _ (show (if 0 < r.rk then [decI r.rq, decI r.rp, decI r.rt] else []).length ≤ 100000 by split <;> simp), bindC, List.length_cons, List.length_nil, if_true, List.getD_cons_zero, List.getD_cons_succ, D.toStr_str, ee, eql_toB, hne, Bool.false_eq_true, if_false, q2, q3, rname_eq (k := 0) (by omega)]
      refine cutI (fun he => ?_) fun he => ?_
      · have rk := recB_inj r5 (n := 0) (by omega) (by simpa using he)
        obtain ⟨_, rq, rp, rt, rc, rg⟩ : r.rk = 0 ∧ r.rq = 0 ∧ r.rp = 0 ∧ r.rt = 0 ∧ r.rc = 0 ∧ r.rg = 0 := by
          rcases h.rcd with h | h
          · exact h
          · omega
        have := parse3 pre r h hl
        rw [c0, ra, rk, rq, rp, rt, rc, rg, lk] at this
        rw [if_neg (by omega)]
        exact this ..
      · have rk : r.rk ≠ 0 := by
          intro e; rw [e] at he; simp at he
        obtain ⟨hq, hp, ht, rc, rg⟩ : most r.rq ∧ most r.rp ∧ most r.rt ∧ r.rc = 0 ∧ r.rg = 0 := by
          rcases h.rcd with h | h
          · omega
          · exact ⟨h.2.2.2.1, h.2.2.2.2.1, h.2.2.2.2.2.1, h.2.2.2.2.2.2.1, h.2.2.2.2.2.2.2⟩
        have := parse3 pre r h hl
        rw [c0, ra, rc, rg, lk] at this
        rw [if_pos (by omega), parse7 pre _ _ _ _ _ _ _ _ _ _ _ _ _ _ _ _ _ _ _ _ _ _ _ _ _ _ _ _ _ _ _ _ _ _ _ _ _ _ r.rk r.rq r.rp r.rt (by omega) hq hp ht 5 1 (by omega) (by omega) (by omega)]
        exact this ..
    · obtain ⟨rk, rq, rp, rt, rc, rg⟩ := h.rec0 (.inl (by omega))
      have q3 : (r.kind == 3) = false := by simp; omega
      have fin' := parse3 pre r h hl
      rw [c0, rk, rq, rp, rt, rc, rg, lk] at fin'
      cases ha : r.asked with
      | true =>
        have k2 := (h.asked ha).1
        have et : r.tail = [askedB] := by unfold Rep.tail; rw [if_neg nk, if_pos ha]
        have d1 : (askedB == errorB) = false := by decide
        have q2 : (r.kind == 2) = true := by simp; omega
        rw [ha] at fin'
        rw [et]
        simp only [next_eq pre askedB [] (by simp), bindC, List.length_cons, List.length_nil, if_true, List.getD_cons_zero, List.getD_cons_succ, D.toStr_str, ee, ea, eql_toB, d1, Bool.false_eq_true, if_false, q2, beq_self_eq_true]
        exact fin' ..
      | false =>
        have et : r.tail = [okB] := by unfold Rep.tail; rw [if_neg nk, if_neg (by rw [ha]; simp), if_pos (by omega)]
        have d1 : (okB == errorB) = false := by decide
        have d2 : (okB == askedB) = false := by decide
        rw [ha] at fin'
        rw [et]
        simp only [next_eq pre okB [] (by simp), bindC, List.length_cons, List.length_nil, if_true, List.getD_cons_zero, List.getD_cons_succ, D.toStr_str, ee, ea, eo, eql_toB, neq_toB, d1, d2, Bool.false_eq_true, if_false, q3, beq_self_eq_true, Bool.not_true]
        refine cutI (fun _ => ?_) fun _ => ?_ <;> exact fin' ..
  · have et : r.tail = [errorB, decI r.code] := by unfold Rep.tail; rw [if_pos c0]
    obtain ⟨rk, rq, rp, rt, rc, rg⟩ := h.rec0 (.inr c0)
    have ra := h.asked0 (.inr c0)
    have lk := h.looks0 (.inr c0)
    have hm : most r.code := ⟨h.code, hc⟩
    have cz : (r.code == 0) = false := by simpa using c0
    have fin' := parse3 pre r h hl
    rw [ra, rk, rq, rp, rt, rc, rg, lk] at fin'
    rw [et]
    have hp : (((([errorB, decI r.code] : List Bs).length : Nat) : Int) > 0) := by simp
    have hp2 : ((0 : Int) < ((([errorB, decI r.code] : List Bs).length : Nat) : Int)) := by simp
    have hg : ((wD [errorB, decI r.code]).toL.getD ((0 : Int)).toNat .nil) = .str (toB errorB) := rfl
    have nx := next_eq pre errorB [decI r.code] (by simp)
    have nm := num_dec pre hm [] (by simp)
    simp only [hp, hp2, decide_true, if_true, hg, D.toStr_str, ee, eql_toB, beq_self_eq_true, nx, nm, bindC, List.length_cons, List.length_nil, List.getD_cons_zero, List.getD_cons_succ, e1, D.toL_agg, D.toBool_bool, Bool.false_eq_true, if_false, D.toInt_int, cz, hset]
    refine cutI (fun _ => ?_) fun _ => ?_ <;> exact fin' ..
theorem verb_loop (pre : List D) (r : Rep) (hk : r.kind = 1 ∨ r.kind = 2 ∨ r.kind = 3 ∨ r.kind = 4) (x0 x2 x3 x4 x6 a2 a3 a4 a5 a6 a7 a8 a9 a10 a11 a12 a13 : D) (Z : Option (List D))
    (hZ : W_answer_Parse_1 x0 (.agg pre) x2 x3 x4 (.str (toB (verbK r.kind))) x6 [.int 5, .int r.kind, a2, a3, a4, a5, a6, a7, a8, a9, a10, a11, a12, a13] = Z) : ∀ (n : Nat) (i : Int), (n : Int) + i = 5 → 1 ≤ i →
    W_answer_Parse_1 x0 (.agg pre) x2 x3 x4 (.str (toB (verbK r.kind))) x6 [.int i, .int (if r.kind < i then r.kind else 0), a2, a3, a4, a5, a6, a7, a8, a9, a10, a11, a12, a13] = Z
  | 0, i, h, h1 => by
    have : i = 5 := by omega
    subst this
    rw [if_pos (by omega)]
    exact hZ
  | n + 1, i, h, h1 => by
    have h4 : i ≤ 4 := by omega
    have hw : IntKind.i64.wrap (i + 1 : Int) = i + 1 := wrap_small _ (by omega) (by omega)
    have hv : FX 21 [.int i] = some [.str (toB (verbK i))] := by rw [verb_eq, if_neg (by omega)]
    have ih := verb_loop pre r hk x0 x2 x3 x4 x6 a2 a3 a4 a5 a6 a7 a8 a9 a10 a11 a12 a13 Z hZ n (i + 1) (by omega) (by omega)
    rw [W_answer_Parse_1_eq]
    simp only [D.toInt_int, h4, decide_true, if_true, hv, bindC, List.length_cons, List.length_nil, List.getD_cons_zero, D.toStr_str, eql_toB, hw]
    refine cutI (fun he => ?_) fun he => ?_
    · have e := verbK_inj (m := i) (n := r.kind) (by omega) hk (by simpa using he)
      rw [if_pos (by omega)] at ih
      rw [e] at ih ⊢
      exact ih
    · have : i ≠ r.kind := by
        intro e; rw [e] at he; simp at he
      have e : (if r.kind < i then r.kind else 0) = (if r.kind < i + 1 then r.kind else 0) := by
        by_cases q : r.kind < i
        · rw [if_pos q, if_pos (by omega)]
        · rw [if_neg q, if_neg (by omega)]
      rw [e]
      exact ih
theorem decI_ink {n : Int} : ∀ c ∈ decI n, c ≠ 32 := by
  intro c hc
  have := (dec_good n.toNat).1.all
  rw [List.all_eq_true] at this
  have := dgt_iff.1 (this c hc)
  intro e; rw [e] at this
  exact absurd this.1 (by decide)
theorem verbK_ink (k : Int) : ∀ c ∈ verbK k, c ≠ 32 := by unfold verbK; split; decide; split; decide; split <;> decide
theorem lookB_ink (k : Int) : ∀ c ∈ lookB k, c ≠ 32 := by unfold lookB; split; decide; split; decide; split; decide; split; decide; split; decide; split <;> decide
theorem recB_ink (k : Int) : ∀ c ∈ recB k, c ≠ 32 := by unfold recB; split; decide; split; decide; split; decide; split; decide; split <;> decide
theorem looksW_ink : ∀ {L : List (Int × Int × Int)}, ∀ w ∈ looksW L, ∀ c ∈ w, c ≠ 32
  | [], w, h => by simp [looksW] at h
  | x :: L, w, h => by
    rw [looksW_cons] at h
    simp only [List.mem_cons] at h
    rcases h with rfl | rfl | rfl | h
    · exact lookB_ink _
    · exact decI_ink
    · exact decI_ink
    · exact looksW_ink w h
theorem words_ink (r : Rep) : ∀ w ∈ r.words, ∀ c ∈ w, c ≠ 32 := by
  intro w hw
  simp only [Rep.words, List.mem_cons, List.mem_append] at hw
  rcases hw with rfl | rfl | hw | hw | hw
  · exact decI_ink
  · exact verbK_ink _
  · split at hw
    · simp only [List.mem_cons, List.not_mem_nil, or_false] at hw; subst hw; exact decI_ink
    · cases hw
  · split at hw
    · simp only [List.mem_cons, List.not_mem_nil, or_false] at hw; subst hw; exact decI_ink
    · cases hw
  · unfold Rep.tail at hw
    split at hw
    · simp only [List.mem_cons, List.not_mem_nil, or_false] at hw
      rcases hw with rfl | rfl
      · decide
      · exact decI_ink
    split at hw
    · simp only [List.mem_cons, List.not_mem_nil, or_false] at hw; subst hw; decide
    split at hw
    · simp only [List.mem_cons, List.not_mem_nil, or_false] at hw; subst hw; decide
    split at hw
    · rw [List.mem_cons] at hw
      rcases hw with rfl | hw
      · exact recB_ink _
      · split at hw
        · simp only [List.mem_cons, List.not_mem_nil, or_false] at hw
          rcases hw with rfl | rfl | rfl <;> exact decI_ink
        · cases hw
    · exact looksW_ink w hw
theorem tail_len {r : Rep} (hl : r.looks.length ≤ 1000) : r.tail.length ≤ 4000 := by
  unfold Rep.tail
  split
  · simp
  split
  · simp
  split
  · simp
  split
  · split <;> simp
  · rw [looksW_len]; omega
theorem words_len {r : Rep} (hl : r.looks.length ≤ 1000) : r.words.length ≤ 4004 := by
  have := tail_len hl
  unfold Rep.words
  simp only [List.length_cons, List.length_append]
  split <;> split <;> simp <;> omega
theorem parse_eq (pre : List D) (r : Rep) (h : r.Right) (hc : r.code ≤ 9999999) (hl : r.looks.length ≤ 1000) :
    FX 12 [.str (toB (un r.words)), .agg pre] = some (dsOf r ++ [.nil, hR pre []]) := by
  have hsp : sp (un r.words) = r.words := sp_un (by simp [Rep.words]) (words_ink r)
  have hlen : (un r.words).length ≤ 1000000 := by
    have h1 := short_span (words_short h (by omega)) (by have := words_len hl; omega)
    have h2 := span_sp (un r.words)
    rw [hsp] at h2
    omega
  have hs := split_words (un r.words) hlen
  rw [hsp] at hs
  have z32 : (ByteArray.mk #[32]) = toB [32] := rfl
  have e2 : (D.int (((D.agg pre).toL.length : Nat) : Int)) = .int (pre.length : Nat) := rfl
  have e3 : D.agg (pre ++ [D.agg [wD r.words, D.bool false]]) = hR pre r.words := rfl
  have htl := tail_len hl
  have hk := h.kind
  have mt : most r.tick := ⟨h.tick.1, by have := h.tick.2; omega⟩
  have L1 : ((if r.kind ≤ 2 then [decI r.id] else []) ++ ((if r.kind ≤ 3 then [decI r.cell] else []) ++ r.tail)).length ≤ 5000 := by
    simp only [List.length_append]
    split <;> split <;> simp <;> omega
  have fin := parse2 pre r h hc hl
  have hV : ∀ (x0 x2 x3 x4 x6 : D), W_answer_Parse_1 x0 (.agg pre) x2 x3 x4 (.str (toB (verbK r.kind))) (hR pre ((if r.kind ≤ 2 then [decI r.id] else []) ++ ((if r.kind ≤ 3 then [decI r.cell] else []) ++ r.tail)))
      [.int 5, .int r.kind, .int 0, .int r.tick, .int 0, .int 0, .bool false, .int 0, .int 0, .int 0, .int 0, .int 0, .int 0, .agg []] = some (dsOf r ++ [.nil, hR pre []]) := by
    intro x0 x2 x3 x4 x6
    rw [W_answer_Parse_1_eq]
    have h5 : ¬ ((5 : Int) ≤ 4) := by decide
    simp only [D.toInt_int, h5, decide_false, Bool.false_eq_true, if_false]
    have tl : r.tail.length ≤ 100000 := by omega
    have tl1 : (decI r.cell :: r.tail).length ≤ 100000 := by simp only [List.length_cons]; omega
    refine cutI (fun k => ?_) fun k1 => ?_
    · replace k : r.kind = 1 := by simpa using k
      have e : ((if r.kind ≤ 2 then [decI r.id] else []) ++ ((if r.kind ≤ 3 then [decI r.cell] else []) ++ r.tail)) = decI r.id :: decI r.cell :: r.tail := by rw [if_pos (by omega), if_pos (by omega)]; rfl
      rw [e]
      simp only [D.toL_agg, num_dec pre h.id _ tl1, num_dec pre h.cell _ tl, bindC, List.length_cons, List.length_nil, if_true, List.getD_cons_zero, List.getD_cons_succ]
      exact fin ..
    refine cutI (fun k => ?_) fun k2 => ?_
    · replace k : r.kind = 2 := by simpa using k
      have e : ((if r.kind ≤ 2 then [decI r.id] else []) ++ ((if r.kind ≤ 3 then [decI r.cell] else []) ++ r.tail)) = decI r.id :: decI r.cell :: r.tail := by rw [if_pos (by omega), if_pos (by omega)]; rfl
      rw [e]
      simp only [D.toL_agg, num_dec pre h.id _ tl1, num_dec pre h.cell _ tl, bindC, List.length_cons, List.length_nil, if_true, List.getD_cons_zero, List.getD_cons_succ]
      exact fin ..
    refine cutI (fun k => ?_) fun k3 => ?_
    · replace k : r.kind = 3 := by simpa using k
      have e : ((if r.kind ≤ 2 then [decI r.id] else []) ++ ((if r.kind ≤ 3 then [decI r.cell] else []) ++ r.tail)) = decI r.cell :: r.tail := by rw [if_neg (by omega), if_pos (by omega)]; rfl
      rw [e]
      simp only [D.toL_agg, num_dec pre h.cell _ tl, bindC, List.length_cons, List.length_nil, if_true, List.getD_cons_zero, List.getD_cons_succ]
      have i0 := h.id0 (by omega)
      rw [i0] at fin
      exact fin ..
    · have k4 : r.kind = 4 := by
        have a : r.kind ≠ 1 := by simpa using k1
        have b : r.kind ≠ 2 := by simpa using k2
        have c : r.kind ≠ 3 := by simpa using k3
        omega
      have e : ((if r.kind ≤ 2 then [decI r.id] else []) ++ ((if r.kind ≤ 3 then [decI r.cell] else []) ++ r.tail)) = r.tail := by rw [if_neg (by omega), if_neg (by omega)]; rfl
      rw [e]
      have i0 := h.id0 (by omega)
      have c0 := h.cell0 k4
      rw [i0, c0] at fin
      exact fin ..
  rw [E_answer_Parse]
  have ew : r.words = decI r.tick :: verbK r.kind :: ((if r.kind ≤ 2 then [decI r.id] else []) ++ ((if r.kind ≤ 3 then [decI r.cell] else []) ++ r.tail)) := rfl
  simp only [z32, hs, bindC, List.length_cons, List.length_nil, if_true, List.getD_cons_zero, D.toL_agg, e3]
  rw [ew]
  simp only [num_dec pre mt _ (show (verbK r.kind :: ((if r.kind ≤ 2 then [decI r.id] else []) ++ ((if r.kind ≤ 3 then [decI r.cell] else []) ++ r.tail))).length ≤ 100000 by rw [List.length_cons]; omega), next_eq pre (verbK r.kind) _ (Nat.le_trans L1 (by omega)), List.length_cons, List.length_nil, if_true, List.getD_cons_zero, List.getD_cons_succ]
  have hz : (if r.kind < 1 then r.kind else 0) = 0 := if_neg (by omega)
  have := verb_loop pre r hk (.str (toB (un r.words))) (wD r.words) (.int r.tick) (hR pre (verbK r.kind :: ((if r.kind ≤ 2 then [decI r.id] else []) ++ ((if r.kind ≤ 3 then [decI r.cell] else []) ++ r.tail)))) _ _ _ _ _ _ _ _ _ _ _ _ _ _ (hV _ _ _ _ .nil) 4 1 (by omega) (by omega)
  rw [hz] at this
  exact this
/-- The document's example. -/
def exR : Rep := ⟨2, 0, 9, 7, 0, true, 0, 0, 0, 0, 0, 0, []⟩
theorem exR_right : exR.Right := ⟨.inr (.inl rfl), by decide, by unfold exR most; decide, by unfold exR most; decide, by decide, fun h => absurd h (by decide), fun h => absurd h (by decide), fun _ => ⟨rfl, rfl⟩, .inl ⟨rfl, rfl, rfl, rfl, rfl, rfl⟩, fun l hl => by cases hl⟩
theorem exR_words : toB (un exR.words) = ByteArray.mk #[57, 32, 99, 97, 110, 99, 101, 108, 32, 55, 32, 48, 32, 97, 115, 107, 101, 100] := by
  have a : decI 9 = [57] := by unfold decI; rw [decDigits_small (by decide)]; rfl
  have b : decI 7 = [55] := by unfold decI; rw [decDigits_small (by decide)]; rfl
  have c : decI 0 = [48] := by unfold decI; rw [decDigits_small (by decide)]; rfl
  have : exR.words = [[57], verbK 2, [55], [48], askedB] := by
    show decI 9 :: verbK 2 :: ([decI 7] ++ ([decI 0] ++ [askedB])) = _
    rw [a, b, c]; rfl
  rw [this]
  rfl
theorem awake_eq (pre : List D) : FX 5 [.agg pre] = some [.bool true, hR pre []] := by
  have h := parse_eq pre exR exR_right (by decide) (by decide)
  rw [exR_words] at h
  rw [E_law16_awake, h]
  rfl
end Go.Proofs.YtmgpbjennnadhaaGreatDoor.AnsD
