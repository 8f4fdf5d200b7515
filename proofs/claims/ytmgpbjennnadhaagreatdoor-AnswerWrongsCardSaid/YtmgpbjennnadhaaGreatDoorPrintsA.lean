/-
  AnswerPrints on data.
-/
import Derived.Test.YtmgpbjennnadhaaGreatDoorRefP
import Derived.Test.YtmgpbjennnadhaaGreatDoorNumE
import Derived.Test.YtmgpbjennnadhaaGreatDoorOpenS
import Derived.Test.YtmgpbjennnadhaaGreatDoorChecked
namespace Go.Proofs.YtmgpbjennnadhaaGreatDoor.AnsD
open Go.Proofs.YtmgpbjennnadhaaGreatDoor.Eng Go.Proofs.YtmgpbjennnadhaaGreatDoor.Dat Go.Proofs.YtmgpbjennnadhaaGreatDoor Go.Proofs.YtmgpbjennnadhaaGreatDoor.WordP Go.Proofs.YtmgpbjennnadhaaGreatDoor.StrL Go.Proofs.YtmgpbjennnadhaaGreatDoor.RefD Go.Proofs.YtmgpbjennnadhaaGreatDoor.Open
set_option linter.unusedVariables false
set_option linter.unusedSimpArgs false

theorem from_loop (r : Rep) (hl : r.looks.length ≤ 1000) (a1 a2 a3 a4 a5 a6 a7 a8 a9 a10 a11 a12 : D) : ∀ (n i : Nat), n + i = r.looks.length →
    W_law11_From_1 (.int r.kind) (.int r.code) (.int r.tick) (.int r.id) (.int r.cell) (.bool r.asked) (.int r.rk) (.int r.rq) (.int r.rp) (.int r.rt) (.int r.rc) (.int r.rg) (looksD r.looks) [.int (i : Nat), a1, a2, a3, a4, a5, a6, a7, a8, a9, a10, a11, a12, looksD (r.looks.take i)] = some [a1, a2, a3, a4, a5, a6, a7, a8, a9, a10, a11, a12, looksD r.looks]
  | 0, i, h => by
    rw [W_law11_From_1_eq]
    have h1 : ¬ ((i : Nat) : Int) < (r.looks.length : Int) := by omega
    simp only [D.toInt_int, looks_len, h1, decide_false, Bool.false_eq_true, if_false]
    rw [List.take_of_length_le (by omega)]
  | n + 1, i, h => by
    rw [W_law11_From_1_eq]
    have hlt : i < r.looks.length := by omega
    have hx : r.looks[i]? = some r.looks[i] := List.getElem?_eq_getElem hlt
    have h1 : ((i : Nat) : Int) < (r.looks.length : Int) := by omega
    have h2 : ((i : Nat) : Int) ≥ 0 := by omega
    have hw : IntKind.i64.wrap ((i : Nat) + 1 : Int) = ((i + 1 : Nat) : Int) := by rw [wrap_small _ (by omega) (by omega)]; omega
    have ih := from_loop r hl a1 a2 a3 a4 a5 a6 a7 a8 a9 a10 a11 a12 n (i + 1) (by omega)
    have ht : r.looks.take (i + 1) = r.looks.take i ++ [r.looks[i]] := List.take_succ_eq_append_getElem hlt
    rw [ht] at ih
    generalize hg : r.looks[i] = x at hx ih
    have hb : (((looksD (r.looks.take i ++ [x])).toL.length : Int) ≤ 5864062014805) := by
      rw [looks_len, List.length_append, List.length_take]; simp only [List.length_cons, List.length_nil]; omega
    simp only [D.toInt_int, looks_len, h1, h2, decide_true, if_true, Int.toNat_natCast, look_get hx, hw]
    simp only [lookD, D.toL_agg, List.getD_cons_zero, List.getD_cons_succ, looks_snoc, hb, decide_true, if_true, ih]
theorem from_eq (r : Rep) (hl : r.looks.length ≤ 1000) : FX 7 (dsOf r) = some (dsOf r) := by
  unfold dsOf
  rw [E_law11_From]
  have := from_loop r hl (.int r.kind) (.int r.code) (.int r.tick) (.int r.id) (.int r.cell) (.bool r.asked) (.int r.rk) (.int r.rq) (.int r.rp) (.int r.rt) (.int r.rc) (.int r.rg) r.looks.length 0 (by omega)
  exact this
/-- What a Go reply may be. -/
structure RepFits (r : Rep) : Prop where
  code : r.code ≤ 9223372036854775807
theorem lit64 {n : Int} (h : (Lit.int IntKind.i64 n).wf = true) : -9223372036854775808 ≤ n ∧ n ≤ 9223372036854775807 := by
  simp [Lit.wf, IntKind.min, IntKind.max, IntKind.bits, IntKind.signed] at h
  omega
theorem lookT (ys : List D) (h : AllF Tryz.prog [.int .i64, .int .i64, .int .i64] ys) : ∃ a : Int × Int × Int, D.agg ys = lookD a ∧ True := by
  obtain ⟨_, _, rfl, h0, _, _, rfl, h1, _, _, rfl, h2, h⟩ := h
  obtain ⟨c0, rfl, _⟩ := h0.toInt
  obtain ⟨c1, rfl, _⟩ := h1.toInt
  obtain ⟨c2, rfl, _⟩ := h2.toInt
  have h : _ = [] := h
  subst h
  exact ⟨(c0, c1, c2), rfl, trivial⟩
theorem rep_of {tl : TypeId} (hT : cellTys Tryz.prog tl = some [.int .i64, .int .i64, .int .i64]) (hB : Tryz.prog.bytesOf tl = 24) {ds : List D} (h : AllF Tryz.prog [.int .i64, .int .i64, .int .i64, .int .i64, .int .i64, .bool, .int .i64, .int .i64, .int .i64, .int .i64, .int .i64, .int .i64, .slice tl] ds) :
    ∃ r : Rep, ds = dsOf r ∧ RepFits r ∧ r.looks.length ≤ 1000000000000000 := by
  obtain ⟨_, _, rfl, h0, _, _, rfl, h1, _, _, rfl, h2, _, _, rfl, h3, _, _, rfl, h4, _, _, rfl, h5, _, _, rfl, h6, _, _, rfl, h7, _, _, rfl, h8, _, _, rfl, h9, _, _, rfl, h10, _, _, rfl, h11, _, _, rfl, h12, h⟩ := h
  obtain ⟨c0, rfl, _⟩ := h0.toInt
  obtain ⟨c1, rfl, w1⟩ := h1.toInt
  obtain ⟨c2, rfl, _⟩ := h2.toInt
  obtain ⟨c3, rfl, _⟩ := h3.toInt
  obtain ⟨c4, rfl, _⟩ := h4.toInt
  obtain ⟨c5, rfl⟩ := h5.toBool
  obtain ⟨c6, rfl, _⟩ := h6.toInt
  obtain ⟨c7, rfl, _⟩ := h7.toInt
  obtain ⟨c8, rfl, _⟩ := h8.toInt
  obtain ⟨c9, rfl, _⟩ := h9.toInt
  obtain ⟨c10, rfl, _⟩ := h10.toInt
  obtain ⟨c11, rfl, _⟩ := h11.toInt
  obtain ⟨l, rfl, hl, _⟩ := h12.structs (f := lookD) (Q := fun _ => True) hT (by decide) lookT
  have h : _ = [] := h
  subst h
  exact ⟨⟨c0, c1, c2, c3, c4, c5, c6, c7, c8, c9, c10, c11, l⟩, rfl, ⟨(lit64 w1).2⟩, by rw [hB] at hl; have : reachBytes < 140737488355328 := reachBytes_lt; simp only; omega⟩
theorem same_self (r : Rep) (hl : r.looks.length ≤ 1000) (x0 x1 x2 x3 x4 x6 x7 x8 x9 x10 x11 : Int) (x5 : Bool) : ∀ (n i : Nat), n + i = r.looks.length →
    W_seat_Same_1 (.int x0) (.int x1) (.int x2) (.int x3) (.int x4) (.bool x5) (.int x6) (.int x7) (.int x8) (.int x9) (.int x10) (.int x11) (looksD r.looks) (.int x0) (.int x1) (.int x2) (.int x3) (.int x4) (.bool x5) (.int x6) (.int x7) (.int x8) (.int x9) (.int x10) (.int x11) (looksD r.looks) [.int (i : Nat)] = some [.bool true]
  | 0, i, h => by
    rw [W_seat_Same_1_eq]
    have h1 : ¬ ((i : Nat) : Int) < (r.looks.length : Int) := by omega
    simp only [D.toInt_int, D.toBool_bool, looks_len, h1, decide_false, Bool.false_eq_true, if_false, beq_self_eq_true, if_true, Bool.and_self]
  | n + 1, i, h => by
    rw [W_seat_Same_1_eq]
    have hlt : i < r.looks.length := by omega
    have hx : r.looks[i]? = some r.looks[i] := List.getElem?_eq_getElem hlt
    have h1 : ((i : Nat) : Int) < (r.looks.length : Int) := by omega
    have h2 : ((i : Nat) : Int) ≥ 0 := by omega
    have hw : IntKind.i64.wrap ((i : Nat) + 1 : Int) = ((i + 1 : Nat) : Int) := by rw [wrap_small _ (by omega) (by omega)]; omega
    have ih := same_self r hl x0 x1 x2 x3 x4 x6 x7 x8 x9 x10 x11 x5 n (i + 1) (by omega)
    generalize r.looks[i] = x at hx
    simp only [D.toInt_int, looks_len, h1, h2, decide_true, if_true, Int.toNat_natCast, look_get hx, hw]
    simp only [lookD, D.toL_agg, List.getD_cons_zero, List.getD_cons_succ, D.toInt_int, ih, beq_self_eq_true, Bool.and_self, Bool.not_true, Bool.false_eq_true, if_false]
theorem same_eq (r : Rep) (hl : r.looks.length ≤ 1000) : FX 13 (dsOf r ++ dsOf r) = some [.bool true] := by
  unfold dsOf
  simp only [List.cons_append, List.nil_append]
  rw [E_seat_Same]
  have := same_self r hl r.kind r.code r.tick r.id r.cell r.rk r.rq r.rp r.rt r.rc r.rg r.asked r.looks.length 0 (by omega)
  simp only [bne_self_eq_false, Bool.false_eq_true, if_false]
  exact this
theorem print_bad (r : Rep) (h : ¬ r.Right) (hl : r.looks.length ≤ 1000) : FX 8 (dsOf r) = some [.str (toB []), NumE.code 6] := by
  have hR := ansRight_eq r (by omega)
  rw [nr h] at hR
  unfold dsOf at hR ⊢
  rw [E_answer_Print]
  simp only [hR, bS1, List.getD_cons_zero, D.toBool_bool, Bool.not_false, if_true]
  rfl
theorem prints_law (r : Rep) (hf : RepFits r) (hl : r.looks.length ≤ 1000000000000000) : FX 3 (dsOf r) = some [.bool true] := by
  have haw := awake_eq []
  by_cases h20 : r.looks.length ≤ 20
  · have g : ¬ ((r.looks.length : Int) > 20) := by omega
    have hfrom := from_eq r (by omega)
    have kR := ansRight_eq r (by omega)
    have kR' := refRight_eq r (by omega)
    by_cases hr : r.Right
    · have hp := print_right r hr hf.code (by omega)
      have hq := refPrint_eq r hr hf.code (by omega)
      have hb : rightB r = true := (right_iff r).2 hr
      have hs := same_eq r (by omega)
      rw [hb] at kR kR'
      have hpp : r.code ≤ 9999999 → _ := fun hc => parse_eq [] r hr hc (by omega)
      have haw2 := awake_eq [D.agg [wD [], D.bool false]]
      unfold dsOf at *
      simp only [List.cons_append, List.nil_append] at hs
      rw [E_law16_AnswerPrints]
      simp only [looks_len, g, decide_false, Bool.false_eq_true, if_false, hfrom, bindC, List.length_cons, List.length_nil, if_true, List.getD_cons_zero, List.getD_cons_succ, kR', hp, kR, hq, D.toBool_bool, D.isNil_nil, beq_self_eq_true, Bool.not_true, D.toStr_str, neq_toB, D.toInt_int]
      refine cutI (fun hc => ?_) fun hc => ?_
      · simp only [haw, List.length_cons, List.length_nil, if_true, List.getD_cons_zero]
      · have hc' : r.code ≤ 9999999 := by have := dF hc; omega
        have e1 := hpp hc'
        have e2 : hR [] [] = D.agg [D.agg [wD [], D.bool false]] := rfl
        rw [e2] at e1
        simp only [e1, List.cons_append, List.nil_append, List.length_cons, List.length_nil, if_true, List.getD_cons_zero, List.getD_cons_succ, haw2, D.toBool_bool, D.isNil_nil, hs]
    · have hp := print_bad r hr (by omega)
      rw [nr hr] at kR kR'
      have hnum := NumE.num_code 6 (by omega)
      have hnil : (NumE.code 6).isNil = false := rfl
      have z0 : ByteArray.mk #[] = toB [] := rfl
      unfold dsOf at *
      rw [E_law16_AnswerPrints]
      simp only [looks_len, g, decide_false, Bool.false_eq_true, if_false, hfrom, bindC, List.length_cons, List.length_nil, if_true, List.getD_cons_zero, List.getD_cons_succ, kR', hp, kR, D.toBool_bool, hnil, beq_self_eq_true, Bool.not_true, Bool.not_false, haw, hnum, D.toInt_int, D.toStr_str, z0, eql_toB]
  · have g : ((r.looks.length : Int) > 20) := by omega
    unfold dsOf
    rw [E_law16_AnswerPrints]
    simp only [looks_len, g, decide_true, if_true, haw, bindC, List.length_cons, List.length_nil, List.getD_cons_zero]
theorem prints (x0 : List D) (w0 : AllF Tryz.prog [.int .i64, .int .i64, .int .i64, .int .i64, .int .i64, .bool, .int .i64, .int .i64, .int .i64, .int .i64, .int .i64, .int .i64, .slice 54] x0) :
    FX 3 (x0 ++ []) = some [.bool true] := by
  obtain ⟨r, rfl, hf, hl⟩ := rep_of (by kernel_rfl) (by kernel_rfl) w0
  rw [List.append_nil]
  exact prints_law r hf hl
end Go.Proofs.YtmgpbjennnadhaaGreatDoor.AnsD
