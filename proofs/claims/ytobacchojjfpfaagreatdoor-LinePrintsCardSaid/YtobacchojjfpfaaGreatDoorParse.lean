/-
  line.Parse on data: it is what the plain words say.
-/
import Derived.Test.YtobacchojjfpfaaGreatDoorLineP
namespace Go.Proofs.YtobacchojjfpfaaGreatDoor.LineD
open Go.Proofs.YtobacchojjfpfaaGreatDoor.Eng Go.Proofs.YtobacchojjfpfaaGreatDoor Go.Proofs.YtobacchojjfpfaaGreatDoor.Dat Go.Proofs.YtobacchojjfpfaaGreatDoor.WordP Go.Proofs.YtobacchojjfpfaaGreatDoor.NumE
set_option linter.unusedVariables false
set_option linter.unusedSimpArgs false

theorem at_code (a : D) (c : Int) : FX 15 [a, .iface 45 (.int c)] = some [.iface 62 (.agg [a, .iface 45 (.int c)])] := by
  rw [E_fault_At]; simp
/-- What stands behind all words' reading: one word more is wrong. -/
theorem more_eq (pre : List D) {W : List Bs} {E : Nat} (s : R) : FX 21 [.int (pre.length : Nat), .int s.p, .int (12 : Int), H pre W E s] = some [H pre W E (failM s s.p 12)] := fail_eq pre W E s s.p 12
theorem H_get (pre : List D) (W : List Bs) (E : Nat) (s : R) : (H pre W E s).toL.getD pre.length .nil = obj W E s := by simp [H]
theorem obj_e (W : List Bs) (E : Nat) (s : R) : (obj W E s).toL.getD 4 .nil = s.e := rfl
theorem obj_k (W : List Bs) (E : Nat) (s : R) : (obj W E s).toL.getD 1 .nil = .int s.k := rfl
theorem obj_p (W : List Bs) (E : Nat) (s : R) : (obj W E s).toL.getD 2 .nil = .int s.p := rfl
theorem obj_w (W : List Bs) (E : Nat) (s : R) : (obj W E s).toL.getD 0 .nil = wD W := rfl
theorem wD_len (W : List Bs) : (wD W).toL.length = W.length := by simp [wD]
def verbsD : List D := [.str (toB []), .str (toB submitB), .str (toB cancelB), .str (toB pollB), .str (toB viewB)]
theorem isNil_or (e : D) : e.isNil = true → e = .nil := by cases e <;> simp [D.isNil]
def v0 : List D := [.str (ByteArray.mk #[]), .str (ByteArray.mk #[115, 117, 98, 109, 105, 116]), .str (ByteArray.mk #[99, 97, 110, 99, 101, 108]), .str (ByteArray.mk #[112, 111, 108, 108]), .str (ByteArray.mk #[118, 105, 101, 119])]
set_option maxHeartbeats 2000000 in
theorem parse_eq (s : Bs) (hs : s.length ≤ 1000000) (pre : List D) : ∃ post, FX 6 [.str (toB s), .agg pre] = some (resD (askB s) ++ [.agg post]) := by
  rw [E_line_Parse]
  simp only [D.toStr_str, toB_size, at_code, bytes_eq s hs, split_words s hs, bindC, List.length_cons, List.length_nil, if_true, List.getD_cons_zero, D.toL_agg, show (ByteArray.mk #[32]) = toB [32] from rfl]
  unfold askB
  by_cases hl : 200 < s.length
  · have h1 : ((s.length : Int) > 200) := by omega
    simp only [h1, hl, decide_true, if_true]
    exact ⟨pre, rfl⟩
  · have h1 : ¬ ((s.length : Int) > 200) := by omega
    simp only [h1, hl, decide_false, Bool.false_eq_true, if_false]
    cases hb : badFrom 0 s with
    | some i =>
      have h2 : ((i : Int) ≥ 0) := by omega
      simp only [D.toInt_int, h2, decide_true, if_true]
      exact ⟨pre, rfl⟩
    | none =>
      have h2 : ¬ ((-1 : Int) ≥ 0) := by omega
      have hsp := sp_len s
      have hspan := span_sp s
      have hW : (sp s).length ≤ 100000 := by omega
      have hH0 : (D.agg (pre ++ [D.agg [wD (sp s), .int 0, .int 0, .int (s.length : Nat), .nil]])) = H pre (sp s) s.length ⟨0, 0, .nil⟩ := rfl
      have i0 : Inv (sp s) ⟨0, 0, .nil⟩ := ⟨Nat.zero_le _, by simp only [List.drop_zero]; omega⟩
      obtain ⟨n1, i1⟩ := next_eq pre (E := s.length) i0 hW
      simp only [D.toInt_int, h2, decide_false, Bool.false_eq_true, if_false, hH0, n1, List.getD_cons_zero, List.getD_cons_succ, D.toStr_str]
      generalize hWW : sp s = W at *
      generalize hE : s.length = E at *
      cases W with
      | nil => exact absurd hWW (sp_ne s)
      | cons v ws =>
        have hm : nextM (v :: ws) E ⟨0, 0, .nil⟩ = (v, 0, ⟨1, v.length + 1, .nil⟩) := by simp [nextM]
        rw [hm] at i1
        rw [hm]
        simp only at i1 ⊢
        have b1 : (D.str (ByteArray.mk #[115, 117, 98, 109, 105, 116])).toStr = toB submitB := rfl
        have b2 : (D.str (ByteArray.mk #[99, 97, 110, 99, 101, 108])).toStr = toB cancelB := rfl
        have b3 : (D.str (ByteArray.mk #[112, 111, 108, 108])).toStr = toB pollB := rfl
        have b4 : (D.str (ByteArray.mk #[118, 105, 101, 119])).toStr = toB viewB := rfl
        have t1 : ((1 : Int)).toNat = 1 := rfl
        have t2 : ((2 : Int)).toNat = 2 := rfl
        have t3 : ((3 : Int)).toNat = 3 := rfl
        have t4 : ((4 : Int)).toNat = 4 := rfl
        have l1 : ((1 : Int) < ((0 + 1 + 1 + 1 + 1 + 1 : Nat) : Int)) := by omega
        have l2 : ((2 : Int) < ((0 + 1 + 1 + 1 + 1 + 1 : Nat) : Int)) := by omega
        have l3 : ((3 : Int) < ((0 + 1 + 1 + 1 + 1 + 1 : Nat) : Int)) := by omega
        have l4 : ((4 : Int) < ((0 + 1 + 1 + 1 + 1 + 1 : Nat) : Int)) := by omega
        have lv : ((1 : Int) < 5 ∧ (2 : Int) < 5 ∧ (3 : Int) < 5 ∧ (4 : Int) < 5) := by omega
        obtain ⟨lv1, lv2, lv3, lv4⟩ := lv
        simp only [D.toInt_int, D.toL_agg, t1, t2, t3, t4, List.getD_cons_succ, List.getD_cons_zero, b1, b2, b3, b4, eql_toB]
        --VERBS
        cases hv1 : v == submitB with
        | true =>
          have hshape : shapeB v = some (1, [false, false, true, false, false, false, false, false]) := by simp only [shapeB, hv1, Bool.false_eq_true, if_false, if_true]
          obtain ⟨c0, j0⟩ := num_eq pre (E := E) i1 hW
          rcases q0 : numM (v :: ws) E ⟨1, v.length + 1, .nil⟩ with ⟨x0, s0⟩
          rw [q0] at c0 j0
          dsimp only at c0 j0
          obtain ⟨c1, j1⟩ := num_eq pre (E := E) j0 hW
          rcases q1 : numM (v :: ws) E s0 with ⟨x1, s1⟩
          rw [q1] at c1 j1
          dsimp only at c1 j1
          obtain ⟨c2, j2⟩ := side_eq pre (E := E) j1 hW
          rcases q2 : sideM (v :: ws) E s1 with ⟨x2, s2⟩
          rw [q2] at c2 j2
          dsimp only at c2 j2
          obtain ⟨c3, j3⟩ := num_eq pre (E := E) j2 hW
          rcases q3 : numM (v :: ws) E s2 with ⟨x3, s3⟩
          rw [q3] at c3 j3
          dsimp only at c3 j3
          obtain ⟨c4, j4⟩ := num_eq pre (E := E) j3 hW
          rcases q4 : numM (v :: ws) E s3 with ⟨x4, s4⟩
          rw [q4] at c4 j4
          dsimp only at c4 j4
          obtain ⟨c5, j5⟩ := num_eq pre (E := E) j4 hW
          rcases q5 : numM (v :: ws) E s4 with ⟨x5, s5⟩
          rw [q5] at c5 j5
          dsimp only at c5 j5
          obtain ⟨c6, j6⟩ := num_eq pre (E := E) j5 hW
          rcases q6 : numM (v :: ws) E s5 with ⟨x6, s6⟩
          rw [q6] at c6 j6
          dsimp only at c6 j6
          obtain ⟨c7, j7⟩ := num_eq pre (E := E) j6 hW
          rcases q7 : numM (v :: ws) E s6 with ⟨x7, s7⟩
          rw [q7] at c7 j7
          dsimp only at c7 j7
          have hrun : runM (v :: ws) E [false, false, true, false, false, false, false, false] ⟨1, v.length + 1, .nil⟩ = ([x0, x1, x2, x3, x4, x5, x6, x7], s7) := by simp only [runM, q0, q1, q2, q3, q4, q5, q6, q7]
          have hr := run_steps (W := v :: ws) (E := E) [false, false, true, false, false, false, false, false] (s := ⟨1, v.length + 1, .nil⟩) rfl
          rw [hrun] at hr
          change Ran (v :: ws) E (steps [false, false, true, false, false, false, false, false] E (v.length + 1) ws) _ at hr
          simp only [askW, hshape]
          cases hst : steps [false, false, true, false, false, false, false, false] E (v.length + 1) ws with
          | error e =>
            obtain ⟨c, a⟩ := e
            rw [hst] at hr
            have hr : s7.e = flt a c := hr
            simp only [hv1, l1, l2, l3, l4, lv1, lv2, lv3, lv4, decide_true, decide_false, Bool.false_eq_true, if_true, if_false, bindC, List.length_cons, List.length_nil, List.getD_cons_zero, List.getD_cons_succ, Int.toNat_natCast, H_get, obj_e, obj_k, obj_p, obj_w, wD_len, D.toInt_int, c0, c1, c2, c3, c4, c5, c6, c7, hr, flt_nil, Bool.not_false]
            exact ⟨_, rfl⟩
          | ok y =>
            obtain ⟨ns, p, rest⟩ := y
            rw [hst] at hr
            obtain ⟨r1, r2, r3, r4⟩ := hr
            dsimp only at r1 r2 r3 r4
            subst r1
            cases rest with
            | nil =>
              have hlt : ¬ ((s7.k : Int) < ((ws.length + 1 : Nat) : Int)) := by have := List.drop_eq_nil_iff.1 r4; simp only [List.length_cons] at this; omega
              simp only [hv1, l1, l2, l3, l4, lv1, lv2, lv3, lv4, decide_true, decide_false, Bool.false_eq_true, if_true, if_false, bindC, List.length_cons, List.length_nil, List.getD_cons_zero, List.getD_cons_succ, Int.toNat_natCast, H_get, obj_e, obj_k, obj_p, obj_w, wD_len, D.toInt_int, c0, c1, c2, c3, c4, c5, c6, c7, r2, hlt, D.isNil_nil, Bool.not_true]
              exact ⟨_, rfl⟩
            | cons y rest =>
              have hlt : ((s7.k : Int) < ((ws.length + 1 : Nat) : Int)) := by
                rcases Nat.lt_or_ge s7.k (v :: ws).length with h | h
                · simp only [List.length_cons] at h; omega
                · rw [List.drop_eq_nil_of_le h] at r4; cases r4
              have hmore := more_eq pre (W := v :: ws) (E := E) s7
              have hme : (failM s7 s7.p 12).e = flt s7.p 12 := by simp [failM, r2]
              simp only [hv1, l1, l2, l3, l4, lv1, lv2, lv3, lv4, decide_true, decide_false, Bool.false_eq_true, if_true, if_false, bindC, List.length_cons, List.length_nil, List.getD_cons_zero, List.getD_cons_succ, Int.toNat_natCast, H_get, obj_e, obj_k, obj_p, obj_w, wD_len, D.toInt_int, c0, c1, c2, c3, c4, c5, c6, c7, r2, hlt, D.isNil_nil, Bool.not_true, hmore, hme, flt_nil, Bool.not_false]
              rw [← r3]
              exact ⟨_, rfl⟩
        | false =>
          cases hv2 : v == cancelB with
          | true =>
            have hshape : shapeB v = some (2, [false, false]) := by simp only [shapeB, hv2, hv1, Bool.false_eq_true, if_false, if_true]
            obtain ⟨c0, j0⟩ := num_eq pre (E := E) i1 hW
            rcases q0 : numM (v :: ws) E ⟨1, v.length + 1, .nil⟩ with ⟨x0, s0⟩
            rw [q0] at c0 j0
            dsimp only at c0 j0
            obtain ⟨c1, j1⟩ := num_eq pre (E := E) j0 hW
            rcases q1 : numM (v :: ws) E s0 with ⟨x1, s1⟩
            rw [q1] at c1 j1
            dsimp only at c1 j1
            have hrun : runM (v :: ws) E [false, false] ⟨1, v.length + 1, .nil⟩ = ([x0, x1], s1) := by simp only [runM, q0, q1]
            have hr := run_steps (W := v :: ws) (E := E) [false, false] (s := ⟨1, v.length + 1, .nil⟩) rfl
            rw [hrun] at hr
            change Ran (v :: ws) E (steps [false, false] E (v.length + 1) ws) _ at hr
            simp only [askW, hshape]
            cases hst : steps [false, false] E (v.length + 1) ws with
            | error e =>
              obtain ⟨c, a⟩ := e
              rw [hst] at hr
              have hr : s1.e = flt a c := hr
              simp only [hv2, hv1, l1, l2, l3, l4, lv1, lv2, lv3, lv4, decide_true, decide_false, Bool.false_eq_true, if_true, if_false, bindC, List.length_cons, List.length_nil, List.getD_cons_zero, List.getD_cons_succ, Int.toNat_natCast, H_get, obj_e, obj_k, obj_p, obj_w, wD_len, D.toInt_int, c0, c1, hr, flt_nil, Bool.not_false]
              exact ⟨_, rfl⟩
            | ok y =>
              obtain ⟨ns, p, rest⟩ := y
              rw [hst] at hr
              obtain ⟨r1, r2, r3, r4⟩ := hr
              dsimp only at r1 r2 r3 r4
              subst r1
              cases rest with
              | nil =>
                have hlt : ¬ ((s1.k : Int) < ((ws.length + 1 : Nat) : Int)) := by have := List.drop_eq_nil_iff.1 r4; simp only [List.length_cons] at this; omega
                simp only [hv2, hv1, l1, l2, l3, l4, lv1, lv2, lv3, lv4, decide_true, decide_false, Bool.false_eq_true, if_true, if_false, bindC, List.length_cons, List.length_nil, List.getD_cons_zero, List.getD_cons_succ, Int.toNat_natCast, H_get, obj_e, obj_k, obj_p, obj_w, wD_len, D.toInt_int, c0, c1, r2, hlt, D.isNil_nil, Bool.not_true]
                exact ⟨_, rfl⟩
              | cons y rest =>
                have hlt : ((s1.k : Int) < ((ws.length + 1 : Nat) : Int)) := by
                  rcases Nat.lt_or_ge s1.k (v :: ws).length with h | h
                  · simp only [List.length_cons] at h; omega
                  · rw [List.drop_eq_nil_of_le h] at r4; cases r4
                have hmore := more_eq pre (W := v :: ws) (E := E) s1
                have hme : (failM s1 s1.p 12).e = flt s1.p 12 := by simp [failM, r2]
                simp only [hv2, hv1, l1, l2, l3, l4, lv1, lv2, lv3, lv4, decide_true, decide_false, Bool.false_eq_true, if_true, if_false, bindC, List.length_cons, List.length_nil, List.getD_cons_zero, List.getD_cons_succ, Int.toNat_natCast, H_get, obj_e, obj_k, obj_p, obj_w, wD_len, D.toInt_int, c0, c1, r2, hlt, D.isNil_nil, Bool.not_true, hmore, hme, flt_nil, Bool.not_false]
                rw [← r3]
                exact ⟨_, rfl⟩
          | false =>
            cases hv3 : v == pollB with
            | true =>
              have hshape : shapeB v = some (3, [false]) := by simp only [shapeB, hv3, hv1, hv2, Bool.false_eq_true, if_false, if_true]
              obtain ⟨c0, j0⟩ := num_eq pre (E := E) i1 hW
              rcases q0 : numM (v :: ws) E ⟨1, v.length + 1, .nil⟩ with ⟨x0, s0⟩
              rw [q0] at c0 j0
              dsimp only at c0 j0
              have hrun : runM (v :: ws) E [false] ⟨1, v.length + 1, .nil⟩ = ([x0], s0) := by simp only [runM, q0]
              have hr := run_steps (W := v :: ws) (E := E) [false] (s := ⟨1, v.length + 1, .nil⟩) rfl
              rw [hrun] at hr
              change Ran (v :: ws) E (steps [false] E (v.length + 1) ws) _ at hr
              simp only [askW, hshape]
              cases hst : steps [false] E (v.length + 1) ws with
              | error e =>
                obtain ⟨c, a⟩ := e
                rw [hst] at hr
                have hr : s0.e = flt a c := hr
                simp only [hv3, hv1, hv2, l1, l2, l3, l4, lv1, lv2, lv3, lv4, decide_true, decide_false, Bool.false_eq_true, if_true, if_false, bindC, List.length_cons, List.length_nil, List.getD_cons_zero, List.getD_cons_succ, Int.toNat_natCast, H_get, obj_e, obj_k, obj_p, obj_w, wD_len, D.toInt_int, c0, hr, flt_nil, Bool.not_false]
                exact ⟨_, rfl⟩
              | ok y =>
                obtain ⟨ns, p, rest⟩ := y
                rw [hst] at hr
                obtain ⟨r1, r2, r3, r4⟩ := hr
                dsimp only at r1 r2 r3 r4
                subst r1
                cases rest with
                | nil =>
                  have hlt : ¬ ((s0.k : Int) < ((ws.length + 1 : Nat) : Int)) := by have := List.drop_eq_nil_iff.1 r4; simp only [List.length_cons] at this; omega
                  simp only [hv3, hv1, hv2, l1, l2, l3, l4, lv1, lv2, lv3, lv4, decide_true, decide_false, Bool.false_eq_true, if_true, if_false, bindC, List.length_cons, List.length_nil, List.getD_cons_zero, List.getD_cons_succ, Int.toNat_natCast, H_get, obj_e, obj_k, obj_p, obj_w, wD_len, D.toInt_int, c0, r2, hlt, D.isNil_nil, Bool.not_true]
                  exact ⟨_, rfl⟩
                | cons y rest =>
                  have hlt : ((s0.k : Int) < ((ws.length + 1 : Nat) : Int)) := by
                    rcases Nat.lt_or_ge s0.k (v :: ws).length with h | h
                    · simp only [List.length_cons] at h; omega
                    · rw [List.drop_eq_nil_of_le h] at r4; cases r4
                  have hmore := more_eq pre (W := v :: ws) (E := E) s0
                  have hme : (failM s0 s0.p 12).e = flt s0.p 12 := by simp [failM, r2]
                  simp only [hv3, hv1, hv2, l1, l2, l3, l4, lv1, lv2, lv3, lv4, decide_true, decide_false, Bool.false_eq_true, if_true, if_false, bindC, List.length_cons, List.length_nil, List.getD_cons_zero, List.getD_cons_succ, Int.toNat_natCast, H_get, obj_e, obj_k, obj_p, obj_w, wD_len, D.toInt_int, c0, r2, hlt, D.isNil_nil, Bool.not_true, hmore, hme, flt_nil, Bool.not_false]
                  rw [← r3]
                  exact ⟨_, rfl⟩
            | false =>
              cases hv4 : v == viewB with
              | true =>
                have hshape : shapeB v = some (4, []) := by simp only [shapeB, hv4, hv1, hv2, hv3, Bool.false_eq_true, if_false, if_true]
                have hrun : runM (v :: ws) E [] ⟨1, v.length + 1, .nil⟩ = ([], ⟨1, v.length + 1, .nil⟩) := by simp only [runM]
                have hr := run_steps (W := v :: ws) (E := E) [] (s := ⟨1, v.length + 1, .nil⟩) rfl
                rw [hrun] at hr
                change Ran (v :: ws) E (steps [] E (v.length + 1) ws) _ at hr
                simp only [askW, hshape]
                cases hst : steps [] E (v.length + 1) ws with
                | error e =>
                  obtain ⟨c, a⟩ := e
                  rw [hst] at hr
                  have hr : D.nil = flt a c := hr
                  cases hr
                | ok y =>
                  obtain ⟨ns, p, rest⟩ := y
                  rw [hst] at hr
                  obtain ⟨r1, r2, r3, r4⟩ := hr
                  dsimp only at r1 r2 r3 r4
                  subst r1
                  cases rest with
                  | nil =>
                    have hlt : ¬ (((1 : Nat) : Int) < ((ws.length + 1 : Nat) : Int)) := by have := List.drop_eq_nil_iff.1 r4; simp only [List.length_cons] at this; omega
                    simp only [hv4, hv1, hv2, hv3, l1, l2, l3, l4, lv1, lv2, lv3, lv4, decide_true, decide_false, Bool.false_eq_true, if_true, if_false, bindC, List.length_cons, List.length_nil, List.getD_cons_zero, List.getD_cons_succ, Int.toNat_natCast, H_get, obj_e, obj_k, obj_p, obj_w, wD_len, D.toInt_int, hlt, D.isNil_nil, Bool.not_true]
                    exact ⟨_, rfl⟩
                  | cons y rest =>
                    have hlt : (((1 : Nat) : Int) < ((ws.length + 1 : Nat) : Int)) := by
                      rcases Nat.lt_or_ge 1 (v :: ws).length with h | h
                      · simp only [List.length_cons] at h; omega
                      · rw [List.drop_eq_nil_of_le h] at r4; cases r4
                    have hmore := more_eq pre (W := v :: ws) (E := E) (⟨1, v.length + 1, .nil⟩ : R)
                    have hme : (failM (⟨1, v.length + 1, .nil⟩ : R) (⟨1, v.length + 1, .nil⟩ : R).p 12).e = flt (⟨1, v.length + 1, .nil⟩ : R).p 12 := by simp [failM]
                    dsimp only at hmore hme r3
                    simp only [hv4, hv1, hv2, hv3, l1, l2, l3, l4, lv1, lv2, lv3, lv4, decide_true, decide_false, Bool.false_eq_true, if_true, if_false, bindC, List.length_cons, List.length_nil, List.getD_cons_zero, List.getD_cons_succ, Int.toNat_natCast, H_get, obj_e, obj_k, obj_p, obj_w, wD_len, D.toInt_int, hlt, D.isNil_nil, Bool.not_true, hmore, hme, flt_nil, Bool.not_false]
                    rw [← r3]
                    exact ⟨_, rfl⟩
              | false =>
                have hshape : shapeB v = none := by simp only [shapeB, hv1, hv2, hv3, hv4, Bool.false_eq_true, if_false]
                have hf : FX 21 [.int (pre.length : Nat), .int (0 : Int), .int (10 : Int), H pre (v :: ws) E ⟨1, v.length + 1, .nil⟩] = some [H pre (v :: ws) E (failM ⟨1, v.length + 1, .nil⟩ 0 10)] := fail_eq pre (v :: ws) E ⟨1, v.length + 1, .nil⟩ 0 10
                have hfe : (failM (⟨1, v.length + 1, .nil⟩ : R) 0 10).e = flt 0 10 := rfl
                simp only [askW, hshape, hv1, hv2, hv3, hv4, l1, l2, l3, l4, lv1, lv2, lv3, lv4, decide_true, decide_false, Bool.false_eq_true, if_true, if_false, bindC, List.length_cons, List.length_nil, List.getD_cons_zero, List.getD_cons_succ, Int.toNat_natCast, H_get, obj_e, hf, hfe, flt_nil, Bool.not_false]
                exact ⟨_, rfl⟩
end Go.Proofs.YtobacchojjfpfaaGreatDoor.LineD
