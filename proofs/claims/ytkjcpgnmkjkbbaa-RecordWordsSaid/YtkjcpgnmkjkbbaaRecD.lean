/-
  Records on data.
-/
import Derived.Test.YtkjcpgnmkjkbbaaFDat
namespace Go.Proofs.Ytkjcpgnmkjkbbaa.RC
open Go.RowKit Go.Proofs.Ytkjcpgnmkjkbbaa.Eng Go.Proofs.Ytkjcpgnmkjkbbaa Go.Proofs.Ytkjcpgnmkjkbbaa.Dat Go.Proofs.Ytkjcpgnmkjkbbaa.FDat
set_option linter.unusedVariables false
set_option linter.unusedSimpArgs false

def rws : List Nat := [3, 16, 16, 20, 5, 4]
theorem rgood : GoodW rws := by constructor <;> simp [rws]
structure Rc where
  k : Int
  q : Int
  p : Int
  t : Int
  c : Int
  g : Int
  deriving DecidableEq
def Rc.ds (r : Rc) : List D := [.int r.k, .int r.q, .int r.p, .int r.t, .int r.c, .int r.g]
def Rc.vs (r : Rc) : List Int := [r.k, r.q, r.p, r.t, r.c, r.g]
def Rc.wf (r : Rc) : Prop := ∀ z ∈ r.vs, z ≤ 9223372036854775807
theorem layout_eq : FX 23 [] = some [wsD rws] := by
  have h := new_eq rws rgood
  rw [E_record_layout]
  have e : (D.agg ((D.int (3 : Int)) :: ((D.int (16 : Int)) :: ((D.int (16 : Int)) :: ((D.int (20 : Int)) :: ((D.int (5 : Int)) :: ((D.int (4 : Int)) :: []))))))) = wsD rws := rfl
  rw [e, h]
  rfl
/-- A record's word, the code, the place. -/
def wordI (r : Rc) : Int × Int × Option Int := if r.k > 5 then (0, 5, some 0) else packI rws r.vs
def errD (p : Int × Int × Option Int) : D := if p.2.1 = 0 then .nil else match p.2.2 with | some i => errAt i p.2.1 | none => code p.2.1
theorem word_eq (r : Rc) (hr : r.wf) : FX 12 r.ds = some [.int (wordI r).1, errD (wordI r)] := by
  unfold Rc.ds
  rw [E_record_Word, layout_eq]
  by_cases h : r.k > 5
  · have hcode : (D.iface 57 (.int 5)).isNil = false := rfl
    simp only [D.toInt_int, h, decide_true, if_true, at_eq _ _ hcode, bindC, List.length_cons, List.length_nil, List.getD_cons_zero]
    unfold wordI errD
    rw [if_pos h]
    rfl
  · have hp := pack_eq rws rgood r.vs hr
    have e : vsD r.vs = D.agg ((D.int r.k) :: ((D.int r.q) :: ((D.int r.p) :: ((D.int r.t) :: ((D.int r.c) :: ((D.int r.g) :: [])))))) := rfl
    rw [e] at hp
    have hpr : packR rws r.vs = [.int (wordI r).1, errD (wordI r)] := by
      unfold packR wordI errD
      rw [if_neg h]
      generalize packI rws r.vs = z
      obtain ⟨_, _, _⟩ := z
      rfl
    rw [hpr] at hp
    simp only [D.toInt_int, h, decide_false, Bool.false_eq_true, if_false, bindC, List.length_cons, List.length_nil, if_true, List.getD_cons_zero, List.getD_cons_succ, hp]
/-- Records whose words are told. -/
theorem word_ok (r : Rc) (h : (errD (wordI r)).isNil = true) : ∃ ns : List Nat, r.vs = ns.map (fun (n : Nat) => (n : Int)) ∧ Fits rws ns ∧ wordI r = ((packN rws ns : Int), 0, none) := by
  unfold wordI at h ⊢
  by_cases hk : r.k > 5
  · rw [if_pos hk] at h; cases h
  · rw [if_neg hk] at h ⊢
    have hl : r.vs.length = rws.length := rfl
    unfold packI at h ⊢
    rw [if_neg (by omega)] at h ⊢
    cases hb : firstBad rws r.vs 0 with
    | some i => rw [hb] at h; cases h
    | none =>
      have key : ∀ {ws : List Nat} {vs : List Int} (k : Nat), vs.length = ws.length → firstBad ws vs k = none → ∃ ns : List Nat, vs = ns.map (fun (x : Nat) => (x : Int)) ∧ Fits ws ns := by
        intro ws
        induction ws with
        | nil => intro vs k h _; have := List.eq_nil_of_length_eq_zero h; subst this; exact ⟨[], rfl, trivial⟩
        | cons w ws ih =>
          intro vs k h hb
          cases vs with
          | nil => simp at h
          | cons v vs =>
            simp only [firstBad] at hb
            split at hb
            · cases hb
            · rename_i hc
              obtain ⟨ns, e, hf⟩ := ih (k + 1) (by simpa using h) hb
              have hp : 0 < 2 ^ w := Nat.two_pow_pos w
              refine ⟨v.toNat :: ns, ?_, ?_, hf⟩
              · rw [List.map_cons, e]
                congr 1
                omega
              · omega
      obtain ⟨ns, e, hf⟩ := key 0 hl hb
      have e2 : r.vs.map Int.toNat = ns := by
        rw [e, List.map_map]
        apply List.ext_getElem
        · simp
        · intro j h1 h2; simp
      exact ⟨ns, e, hf, by simp only [e2]⟩
theorem end_eq (k f g l n t : D) (kk : Int) (hk : k = .int kk) : FX 13 [k, f, g, l, n, t] = some (if 5 ≤ kk ∧ kk ≤ 8 then [.int (kk - 3), l, n, t, .int 0, .int 0, .bool true] else [.int 0, .int 0, .int 0, .int 0, .int 0, .int 0, .bool false]) := by
  subst hk
  rw [E_record_End]
  by_cases h5 : kk = 5
  · simp [h5]
  by_cases h6 : kk = 6
  · simp [h6]
  by_cases h7 : kk = 7
  · simp [h7]
  by_cases h8 : kk = 8
  · simp [h8]
  have hno : ¬ (5 ≤ kk ∧ kk ≤ 8) := by omega
  simp [h5, h6, h7, h8, hno]
theorem isEnd_eq (k : Int) (a b c d e : D) : FX 14 [.int k, a, b, c, d, e] = some [.bool (decide (2 ≤ k ∧ k ≤ 5))] := by
  rw [E_record_IsEnd]
  by_cases h1 : 2 ≤ k
  · by_cases h2 : k ≤ 5 <;> simp [h1, h2]
  · simp [h1]
theorem awake_eq : FX 9 [] = some [.bool true] := by
  rw [E_law08_awake, end_eq _ _ _ _ _ _ 6 rfl]
  simp [bindC]
theorem rc_ext {a b : Rc} (h : a.vs = b.vs) : a = b := by
  cases a; cases b
  simp only [Rc.vs, List.cons.injEq, and_true] at h
  simp [h]
/-- Behind the words: what the end tells. -/
theorem ends_true (x12 x14 x15 x16 x17 : Int) (f : Bool) : (bindC (FX 13 [.int x12, .bool f, .int x14, .int x15, .int x16, .int x17]) 7 fun r22 =>
        if (!((r22.getD 6 D.nil)).toBool) = true then
        bindC (FX 9 []) 1 fun r29 =>
          if ((r29.getD 0 D.nil)).toBool = true then
          some [(D.bool ((((r22.getD 0 D.nil)).toInt == (0 : Int)) && ((((r22.getD 1 D.nil)).toInt == (0 : Int)) && ((((r22.getD 2 D.nil)).toInt == (0 : Int)) && ((((r22.getD 3 D.nil)).toInt == (0 : Int)) && ((((r22.getD 4 D.nil)).toInt == (0 : Int)) && (((r22.getD 5 D.nil)).toInt == (0 : Int))))))))]
          else
          some [(D.bool false)]
        else
        bindC (FX 9 []) 1 fun r29 =>
          if ((r29.getD 0 D.nil)).toBool = true then
          if (((r22.getD 1 D.nil)).toInt == x15) = true then
            if (((r22.getD 2 D.nil)).toInt == x16) = true then
              if (((r22.getD 3 D.nil)).toInt == x17) = true then
                bindC (FX 14 [(r22.getD 0 D.nil), (r22.getD 1 D.nil), (r22.getD 2 D.nil), (r22.getD 3 D.nil), (r22.getD 4 D.nil), (r22.getD 5 D.nil)]) 1 fun r30 =>
                  if ((r30.getD 0 D.nil)).toBool = true then
                  if (((r22.getD 4 D.nil)).toInt == (0 : Int)) = true then
                    some [(D.bool (((r22.getD 5 D.nil)).toInt == (0 : Int)))]
                    else
                    some [(D.bool false)]
                  else
                  some [(D.bool false)]
                else
                some [(D.bool false)]
              else
              some [(D.bool false)]
            else
            some [(D.bool false)]
          else
          some [(D.bool false)]) = some [D.bool true] := by
  rw [end_eq _ _ _ _ _ _ x12 rfl]
  by_cases h : 5 ≤ x12 ∧ x12 ≤ 8
  · have h1 : 2 ≤ x12 - 3 ∧ x12 - 3 ≤ 5 := by omega
    rw [if_pos h]
    simp only [bindC, List.length_cons, List.length_nil, if_true, List.getD_cons_zero, List.getD_cons_succ, D.toBool_bool, D.toInt_int, Bool.not_true, Bool.false_eq_true, if_false, awake_eq, beq_self_eq_true, isEnd_eq, h1, and_self, decide_true]
  · rw [if_neg h]
    simp only [bindC, List.length_cons, List.length_nil, if_true, List.getD_cons_zero, List.getD_cons_succ, D.toBool_bool, D.toInt_int, Bool.not_false, awake_eq, beq_self_eq_true, Bool.and_self]
theorem apart_law (a b : Rc) (ha : a.wf) (hb : b.wf) (k : Int) (f : Bool) (g l n t : Int) : FX 6 (a.ds ++ b.ds ++ [.int k, .bool f, .int g, .int l, .int n, .int t]) = some [.bool true] := by
  have hwa := word_eq a ha
  have hwb := word_eq b hb
  have hend := ends_true k g l n t f
  have pa := word_ok a
  have pb := word_ok b
  generalize hca : wordI a = ca at *
  generalize hcb : wordI b = cb at *
  unfold Rc.ds at *
  simp only [List.cons_append, List.nil_append] at *
  rw [E_law08_RecordApart, hwa, hwb]
  simp only [D.toInt_int, bindC, List.length_cons, List.length_nil, if_true, List.getD_cons_zero, List.getD_cons_succ] at hend ⊢
  by_cases e1 : (errD ca).isNil = true
  · by_cases e2 : (errD cb).isNil = true
    · obtain ⟨na, a1, a2, rfl⟩ := pa e1
      obtain ⟨nb, b1, b2, rfl⟩ := pb e2
      have hiff : ((packN rws na : Int) == (packN rws nb : Int)) = decide (a = b) := by
        by_cases hab : a = b
        · subst hab
          have : na = nb := by
            rw [a1] at b1
            have := List.map_inj_right (f := fun (n : Nat) => (n : Int)) (fun x y h => by omega) |>.1 b1
            exact this
          simp [this]
        · have : packN rws na ≠ packN rws nb := fun h => by
            have h2 := pack_inj a2 b2 h
            rw [← h2, ← a1] at b1
            exact hab (rc_ext b1.symm)
          have h3 : ¬ ((packN rws na : Int) = (packN rws nb : Int)) := by omega
          simp [hab, h3]
      have hite : ((a.k == b.k) && ((a.q == b.q) && ((a.p == b.p) && ((a.t == b.t) && ((a.c == b.c) && (a.g == b.g)))))) = decide (a = b) := by
        obtain ⟨k1, q1, p1, t1, c1, g1⟩ := a
        obtain ⟨k2, q2, p2, t2, c2, g2⟩ := b
        rw [Bool.eq_iff_iff]
        simp [Rc.mk.injEq]
      simp only [e1, e2, if_true, hiff]
      rw [hite]
      simp only [beq_self_eq_true, Bool.not_true, Bool.false_eq_true, if_false]
      exact hend
    · simp only [e1, e2, if_true, if_false, Bool.false_eq_true]
      exact hend
  · simp only [e1, if_false, Bool.false_eq_true]
    exact hend
theorem wf_of {c0 c1 c2 c3 c4 c5 : Int} (w0 : (Lit.int .i64 c0).wf = true) (w1 : (Lit.int .i64 c1).wf = true) (w2 : (Lit.int .i64 c2).wf = true) (w3 : (Lit.int .i64 c3).wf = true) (w4 : (Lit.int .i64 c4).wf = true) (w5 : (Lit.int .i64 c5).wf = true) : (Rc.mk c0 c1 c2 c3 c4 c5).wf := by
  have key : ∀ c : Int, (Lit.int .i64 c).wf = true → c ≤ 9223372036854775807 := by
    intro c h
    have : -9223372036854775808 ≤ c ∧ c ≤ 9223372036854775807 := by simpa [Lit.wf, IntKind.min, IntKind.max, IntKind.bits, IntKind.signed] using h
    exact this.2
  intro z hz
  simp only [Rc.vs, List.mem_cons, List.not_mem_nil, or_false] at hz
  rcases hz with rfl | rfl | rfl | rfl | rfl | rfl
  · exact key _ w0
  · exact key _ w1
  · exact key _ w2
  · exact key _ w3
  · exact key _ w4
  · exact key _ w5
theorem apart_true (a0 a1 a2 a3 a4 a5 b0 b1 b2 b3 b4 b5 k : Int) (f : Bool) (g l n t : Int) (w0 : (Lit.int .i64 a0).wf = true) (w1 : (Lit.int .i64 a1).wf = true) (w2 : (Lit.int .i64 a2).wf = true) (w3 : (Lit.int .i64 a3).wf = true) (w4 : (Lit.int .i64 a4).wf = true) (w5 : (Lit.int .i64 a5).wf = true)
    (v0 : (Lit.int .i64 b0).wf = true) (v1 : (Lit.int .i64 b1).wf = true) (v2 : (Lit.int .i64 b2).wf = true) (v3 : (Lit.int .i64 b3).wf = true) (v4 : (Lit.int .i64 b4).wf = true) (v5 : (Lit.int .i64 b5).wf = true)
    (_ : (Lit.int .i64 k).wf = true) (_ : (Lit.int .i64 g).wf = true) (_ : (Lit.int .i64 l).wf = true) (_ : (Lit.int .i64 n).wf = true) (_ : (Lit.int .i64 t).wf = true) :
    FX 6 [.int a0, .int a1, .int a2, .int a3, .int a4, .int a5, .int b0, .int b1, .int b2, .int b3, .int b4, .int b5, .int k, .bool f, .int g, .int l, .int n, .int t] = some [.bool true] :=
  apart_law ⟨a0, a1, a2, a3, a4, a5⟩ ⟨b0, b1, b2, b3, b4, b5⟩ (wf_of w0 w1 w2 w3 w4 w5) (wf_of v0 v1 v2 v3 v4 v5) k f g l n t
end Go.Proofs.Ytkjcpgnmkjkbbaa.RC
