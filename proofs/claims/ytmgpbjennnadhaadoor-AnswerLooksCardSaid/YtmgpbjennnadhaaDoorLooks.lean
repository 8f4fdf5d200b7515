/-
  AnswerLooks on data.
-/
import Derived.Test.YtmgpbjennnadhaaDoorAnsR
import Derived.Test.YtmgpbjennnadhaaDoorOpenS
import Derived.Test.YtmgpbjennnadhaaDoorChecked
namespace Go.Proofs.YtmgpbjennnadhaaDoor.AnsD
open Go.Proofs.YtmgpbjennnadhaaDoor.Eng Go.Proofs.YtmgpbjennnadhaaDoor.Dat Go.Proofs.YtmgpbjennnadhaaDoor Go.Proofs.YtmgpbjennnadhaaDoor.WordP Go.Proofs.YtmgpbjennnadhaaDoor.StrL Go.Proofs.YtmgpbjennnadhaaDoor.Open
set_option linter.unusedVariables false
set_option linter.unusedSimpArgs false

theorem to_loop (r : Rep) (hl : r.looks.length ≤ 1000) (a1 a2 a3 a4 a5 a6 a7 a8 a9 a10 a11 a12 : D) : ∀ (n i : Nat), n + i = r.looks.length →
    W_law16_AnswerLooks_1_1 (.int r.kind) (.int r.code) (.int r.tick) (.int r.id) (.int r.cell) (.bool r.asked) (.int r.rk) (.int r.rq) (.int r.rp) (.int r.rt) (.int r.rc) (.int r.rg) (looksD r.looks) [.int (i : Nat), a1, a2, a3, a4, a5, a6, a7, a8, a9, a10, a11, a12, looksD (r.looks.take i)] = some [a1, a2, a3, a4, a5, a6, a7, a8, a9, a10, a11, a12, looksD r.looks]
  | 0, i, h => by
    rw [W_law16_AnswerLooks_1_1_eq]
    have h1 : ¬ ((i : Nat) : Int) < (r.looks.length : Int) := by omega
    simp only [D.toInt_int, looks_len, h1, decide_false, Bool.false_eq_true, if_false]
    rw [List.take_of_length_le (by omega)]
  | n + 1, i, h => by
    rw [W_law16_AnswerLooks_1_1_eq]
    have hlt : i < r.looks.length := by omega
    have hx : r.looks[i]? = some r.looks[i] := List.getElem?_eq_getElem hlt
    have h1 : ((i : Nat) : Int) < (r.looks.length : Int) := by omega
    have h2 : ((i : Nat) : Int) ≥ 0 := by omega
    have hw : IntKind.i64.wrap ((i : Nat) + 1 : Int) = ((i + 1 : Nat) : Int) := by rw [wrap_small _ (by omega) (by omega)]; omega
    have ih := to_loop r hl a1 a2 a3 a4 a5 a6 a7 a8 a9 a10 a11 a12 n (i + 1) (by omega)
    have ht : r.looks.take (i + 1) = r.looks.take i ++ [r.looks[i]] := List.take_succ_eq_append_getElem hlt
    rw [ht] at ih
    generalize hg : r.looks[i] = x at hx ih
    have hb : (((looksD (r.looks.take i ++ [x])).toL.length : Int) ≤ 5864062014805) := by
      rw [looks_len, List.length_append, List.length_take]; simp only [List.length_cons, List.length_nil]; omega
    simp only [D.toInt_int, looks_len, h1, h2, decide_true, if_true, Int.toNat_natCast, look_get hx, hw]
    simp only [lookD, D.toL_agg, List.getD_cons_zero, List.getD_cons_succ, looks_snoc, hb, decide_true, if_true, ih]
theorem to_eq (r : Rep) (hl : r.looks.length ≤ 1000) : FX 6 (dsOf r) = some (dsOf r) := by
  unfold dsOf
  rw [E_law16_AnswerLooks_1]
  have := to_loop r hl (.int r.kind) (.int r.code) (.int r.tick) (.int r.id) (.int r.cell) (.bool r.asked) (.int r.rk) (.int r.rq) (.int r.rp) (.int r.rt) (.int r.rc) (.int r.rg) r.looks.length 0 (by omega)
  exact this
noncomputable instance repDec : DecidableEq Rep := fun a b => Classical.propDecidable _
theorem look_ext {x y : Int × Int × Int} (a : x.1 = y.1) (b : x.2.1 = y.2.1) (c : x.2.2 = y.2.2) : x = y := by
  obtain ⟨x1, x2, x3⟩ := x
  obtain ⟨y1, y2, y3⟩ := y
  simp only at a b c
  rw [a, b, c]
theorem same_loop (a b : Rep) (hab : a.looks.length = b.looks.length) (hl : a.looks.length ≤ 1000) (x0 x1 x2 x3 x4 x5 x6 x7 x8 x9 x10 x11 x13 x14 x15 x16 x17 x18 x19 x20 x21 x22 x23 x24 : D) : ∀ (n i : Nat), n + i = a.looks.length →
    W_ref11_Same_1 x0 x1 x2 x3 x4 x5 x6 x7 x8 x9 x10 x11 (looksD a.looks) x13 x14 x15 x16 x17 x18 x19 x20 x21 x22 x23 x24 (looksD b.looks) [.int (i : Nat)] = some [.bool (a.looks.drop i == b.looks.drop i)]
  | 0, i, h => by
    rw [W_ref11_Same_1_eq]
    have h1 : ¬ ((i : Nat) : Int) < (a.looks.length : Int) := by omega
    simp only [D.toInt_int, looks_len, h1, decide_false, Bool.false_eq_true, if_false]
    rw [List.drop_eq_nil_of_le (by omega), List.drop_eq_nil_of_le (by omega)]
    rfl
  | n + 1, i, h => by
    rw [W_ref11_Same_1_eq]
    have hlt : i < a.looks.length := by omega
    have hlt' : i < b.looks.length := by omega
    have hx : a.looks[i]? = some a.looks[i] := List.getElem?_eq_getElem hlt
    have hy : b.looks[i]? = some b.looks[i] := List.getElem?_eq_getElem hlt'
    have h1 : ((i : Nat) : Int) < (a.looks.length : Int) := by omega
    have h1' : ((i : Nat) : Int) < (b.looks.length : Int) := by omega
    have h2 : ((i : Nat) : Int) ≥ 0 := by omega
    have hw : IntKind.i64.wrap ((i : Nat) + 1 : Int) = ((i + 1 : Nat) : Int) := by rw [wrap_small _ (by omega) (by omega)]; omega
    have ih := same_loop a b hab hl x0 x1 x2 x3 x4 x5 x6 x7 x8 x9 x10 x11 x13 x14 x15 x16 x17 x18 x19 x20 x21 x22 x23 x24 n (i + 1) (by omega)
    rw [List.drop_eq_getElem_cons hlt, List.drop_eq_getElem_cons hlt']
    generalize a.looks[i] = x at hx
    generalize b.looks[i] = y at hy
    simp only [D.toInt_int, looks_len, h1, h1', h2, decide_true, if_true, Int.toNat_natCast, look_get hx, look_get hy, hw]
    simp only [lookD, D.toL_agg, List.getD_cons_zero, List.getD_cons_succ, D.toInt_int, ih]
    refine cutF (fun he => ?_) fun he => ?_
    · by_cases e : x = y
      · subst e; simp at he
      · have : (x :: List.drop (i + 1) a.looks == y :: List.drop (i + 1) b.looks) = false := by simp [e]
        exact this
    · have e : x = y := by
        simp at he
        exact look_ext he.1 he.2.1 he.2.2
      subst e
      simp
theorem same_eq (a b : Rep) (ha : a.looks.length ≤ 1000) : FX 8 (dsOf a ++ dsOf b) = some [.bool (decide (a = b))] := by
  unfold dsOf
  simp only [List.cons_append, List.nil_append]
  rw [E_ref11_Same]
  simp only [D.toInt_int, D.toBool_bool, looks_len]
  have ne : ∀ {p : Prop}, (a = b → p) → ¬ p → decide (a = b) = false := fun h n => decide_eq_false fun e => n (h e)
  refine cutF (fun h => ne (p := a.kind = b.kind) (fun e => by rw [e]) (by simpa using h)) fun h1 => ?_
  refine cutF (fun h => ne (p := a.code = b.code) (fun e => by rw [e]) (by simpa using h)) fun h2 => ?_
  refine cutF (fun h => ne (p := a.tick = b.tick) (fun e => by rw [e]) (by simpa using h)) fun h3 => ?_
  refine cutF (fun h => ne (p := a.id = b.id) (fun e => by rw [e]) (by simpa using h)) fun h4 => ?_
  refine cutF (fun h => ne (p := a.cell = b.cell) (fun e => by rw [e]) (by simpa using h)) fun h5 => ?_
  refine cutF (fun h => ne (p := a.asked = b.asked) (fun e => by rw [e]) (by simpa using h)) fun h6 => ?_
  refine cutF (fun h => ?_) fun h7 => ?_
  · refine decide_eq_false fun e => ?_
    subst e
    simp at h
  refine cutF (fun h => ne (p := a.looks.length = b.looks.length) (fun e => by rw [e]) (fun q => by rw [q] at h; simp at h)) fun h8 => ?_
  have e1 : a.kind = b.kind := by simpa using h1
  have e2 : a.code = b.code := by simpa using h2
  have e3 : a.tick = b.tick := by simpa using h3
  have e4 : a.id = b.id := by simpa using h4
  have e5 : a.cell = b.cell := by simpa using h5
  have e6 : a.asked = b.asked := by simpa using h6
  have e7 : a.rk = b.rk ∧ a.rq = b.rq ∧ a.rp = b.rp ∧ a.rt = b.rt ∧ a.rc = b.rc ∧ a.rg = b.rg := by simpa using h7
  have e8 : a.looks.length = b.looks.length := by
    simp only [bne_iff_ne, ne_eq, Decidable.not_not] at h8
    omega
  have := same_loop a b e8 ha (.int a.kind) (.int a.code) (.int a.tick) (.int a.id) (.int a.cell) (.bool a.asked) (.int a.rk) (.int a.rq) (.int a.rp) (.int a.rt) (.int a.rc) (.int a.rg) (.int b.kind) (.int b.code) (.int b.tick) (.int b.id) (.int b.cell) (.bool b.asked) (.int b.rk) (.int b.rq) (.int b.rp) (.int b.rt) (.int b.rc) (.int b.rg) a.looks.length 0 (by omega)
  rw [List.drop_zero, List.drop_zero] at this
  refine this.trans ?_
  have q : (a.looks == b.looks) = decide (a = b) := by
    apply Bool.eq_iff_iff.2
    rw [beq_iff_eq, decide_eq_true_eq]
    constructor
    · intro e
      obtain ⟨_, _, _, _, _, _, _, _, _, _, _, _, _⟩ := a
      obtain ⟨_, _, _, _, _, _, _, _, _, _, _, _, _⟩ := b
      simp only at e1 e2 e3 e4 e5 e6 e7 e
      obtain ⟨f1, f2, f3, f4, f5, f6⟩ := e7
      subst e1 e2 e3 e4 e5 e6 f1 f2 f3 f4 f5 f6 e
      rfl
    · intro e; rw [e]
  rw [q]
/-- What a Go reply may be. -/
structure RepFits (r : Rep) : Prop where
  code : r.code ≤ 9223372036854775807
theorem lit64 {n : Int} (h : (Lit.int IntKind.i64 n).wf = true) : -9223372036854775808 ≤ n ∧ n ≤ 9223372036854775807 := by
  simp [Lit.wf, IntKind.min, IntKind.max, IntKind.bits, IntKind.signed] at h
  omega
theorem lookT (ys : List D) (h : AllF Tryd.prog [.int .i64, .int .i64, .int .i64] ys) : ∃ a : Int × Int × Int, D.agg ys = lookD a ∧ True := by
  obtain ⟨_, _, rfl, h0, _, _, rfl, h1, _, _, rfl, h2, h⟩ := h
  obtain ⟨c0, rfl, _⟩ := h0.toInt
  obtain ⟨c1, rfl, _⟩ := h1.toInt
  obtain ⟨c2, rfl, _⟩ := h2.toInt
  have h : _ = [] := h
  subst h
  exact ⟨(c0, c1, c2), rfl, trivial⟩
theorem rep_of {tl : TypeId} (hT : cellTys Tryd.prog tl = some [.int .i64, .int .i64, .int .i64]) (hB : Tryd.prog.bytesOf tl = 24) {ds : List D} (h : AllF Tryd.prog [.int .i64, .int .i64, .int .i64, .int .i64, .int .i64, .bool, .int .i64, .int .i64, .int .i64, .int .i64, .int .i64, .int .i64, .slice tl] ds) :
    ∃ r : Rep, ds = dsOf r ∧ RepFits r ∧ r.looks.length ≤ 1000000000000000 := by
  obtain ⟨_, _, rfl, h0, _, _, rfl, h1, _, _, rfl, h2, _, _, rfl, h3, _, _, rfl, h4, _, _, rfl, h5, _, _, rfl, h6, _, _, rfl, h7, _, _, rfl, h8, _, _, rfl, h9, _, _, rfl, h10, _, _, rfl, h11, _, _, rfl, h12, h⟩ := h
  obtain ⟨c0, rfl, _⟩ := h0.toInt
  obtain ⟨c1, rfl, w1⟩ := h1.toInt
  obtain ⟨c2, rfl, _⟩ := h2.toInt
  obtain ⟨c3, rfl, _⟩ := h3.toInt
  obtain ⟨c4, rfl, _⟩ := h4.toInt
  obtain ⟨c5, rfl⟩ := h5.toBool
  obtain ⟨c6, rfl, _⟩ := h6.toInt
  obtain ⟨c7, rfl, _⟩ := h7.toInt
  obtain ⟨c8, rfl, _⟩ := h8.toInt
  obtain ⟨c9, rfl, _⟩ := h9.toInt
  obtain ⟨c10, rfl, _⟩ := h10.toInt
  obtain ⟨c11, rfl, _⟩ := h11.toInt
  obtain ⟨l, rfl, hl, _⟩ := h12.structs (f := lookD) (Q := fun _ => True) hT (by decide) lookT
  have h : _ = [] := h
  subst h
  exact ⟨⟨c0, c1, c2, c3, c4, c5, c6, c7, c8, c9, c10, c11, l⟩, rfl, ⟨(lit64 w1).2⟩, by rw [hB] at hl; have : reachBytes < 140737488355328 := reachBytes_lt; simp only; omega⟩
theorem looks_law (a b : Rep) (fa : RepFits a) (fb : RepFits b) (la : a.looks.length ≤ 1000000000000000) (lb : b.looks.length ≤ 1000000000000000) : FX 3 (dsOf a ++ dsOf b) = some [.bool true] := by
  have haw := awake_eq []
  by_cases hn : a.looks.length + b.looks.length ≤ 20
  · have ra := refRight_eq a (by omega)
    have rb := refRight_eq b (by omega)
    have ta := to_eq a (by omega)
    have tb := to_eq b (by omega)
    have hs := same_eq a b (by omega)
    have hw : IntKind.i64.wrap ((a.looks.length : Int) + (b.looks.length : Int)) = ((a.looks.length + b.looks.length : Nat) : Int) := by rw [wrap_small _ (by omega) (by omega)]; omega
    have h20 : ¬ (((a.looks.length + b.looks.length : Nat) : Int) > 20) := by omega
    have pa : a.Right → _ := fun h => print_right a h fa.code (by omega)
    have pb : b.Right → _ := fun h => print_right b h fb.code (by omega)
    unfold dsOf at ra rb ta tb hs pa pb ⊢
    simp only [List.cons_append, List.nil_append] at hs ⊢
    rw [E_law16_AnswerLooks]
    simp only [looks_len, hw, h20, decide_false, Bool.false_eq_true, if_false, ra, bindC, List.length_cons, List.length_nil, if_true, List.getD_cons_zero, D.toBool_bool, haw]
    refine cutI (fun _ => rfl) fun hra => ?_
    simp only [rb, List.length_cons, List.length_nil, if_true, List.getD_cons_zero, D.toBool_bool]
    refine cutI (fun _ => rfl) fun hrb => ?_
    have Ra : a.Right := (right_iff a).1 (by simpa using hra)
    have Rb : b.Right := (right_iff b).1 (by simpa using hrb)
    simp only [ta, tb, pa Ra, pb Rb, hs, List.length_cons, List.length_nil, if_true, List.getD_cons_zero, List.getD_cons_succ, D.isNil_nil, D.toStr_str, eql_toB, D.toBool_bool]
    have key : ((un a.words == un b.words) == decide (a = b)) = true := by
      rw [beq_iff_eq]
      apply Bool.eq_iff_iff.2
      rw [beq_iff_eq, decide_eq_true_eq]
      constructor
      · intro e
        have e2 : a.words = b.words := by
          have := congrArg sp e
          rwa [sp_un (by simp [Rep.words]) (words_ink a), sp_un (by simp [Rep.words]) (words_ink b)] at this
        exact words_inj Ra Rb e2
      · intro e; rw [e]
    rw [key]
  · have hw : IntKind.i64.wrap ((a.looks.length : Int) + (b.looks.length : Int)) = ((a.looks.length + b.looks.length : Nat) : Int) := by rw [wrap_small _ (by omega) (by omega)]; omega
    have h20 : (((a.looks.length + b.looks.length : Nat) : Int) > 20) := by omega
    unfold dsOf
    simp only [List.cons_append, List.nil_append]
    rw [E_law16_AnswerLooks]
    simp only [looks_len, hw, h20, decide_true, if_true, haw, bindC, List.length_cons, List.length_nil, List.getD_cons_zero]
theorem looks (x0 x1 : List D) (w0 : AllF Tryd.prog [.int .i64, .int .i64, .int .i64, .int .i64, .int .i64, .bool, .int .i64, .int .i64, .int .i64, .int .i64, .int .i64, .int .i64, .slice 34] x0) (w1 : AllF Tryd.prog [.int .i64, .int .i64, .int .i64, .int .i64, .int .i64, .bool, .int .i64, .int .i64, .int .i64, .int .i64, .int .i64, .int .i64, .slice 34] x1) :
    FX 3 (x0 ++ (x1 ++ [])) = some [.bool true] := by
  obtain ⟨a, rfl, fa, la⟩ := rep_of (by kernel_rfl) (by kernel_rfl) w0
  obtain ⟨b, rfl, fb, lb⟩ := rep_of (by kernel_rfl) (by kernel_rfl) w1
  rw [List.append_nil]
  exact looks_law a b fa fb la lb
end Go.Proofs.YtmgpbjennnadhaaDoor.AnsD
