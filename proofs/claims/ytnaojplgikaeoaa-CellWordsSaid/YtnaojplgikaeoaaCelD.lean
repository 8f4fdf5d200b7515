/-
  Cells' words on data.
-/
import Derived.Test.YtnaojplgikaeoaaFDat
import Derived.Test.YtnaojplgikaeoaaNum
namespace Go.Proofs.Ytnaojplgikaeoaa.CW
open Go.RowKit Go.Proofs.Ytnaojplgikaeoaa.Eng Go.Proofs.Ytnaojplgikaeoaa Go.Proofs.Ytnaojplgikaeoaa.Dat Go.Proofs.Ytnaojplgikaeoaa.FDat
set_option linter.unusedVariables false
set_option linter.unusedSimpArgs false
set_option linter.unusedSectionVars false

theorem key_fits : ∀ {ws : List Nat} {vs : List Int} (k : Nat), vs.length = ws.length → firstBad ws vs k = none → ∃ ns : List Nat, vs = ns.map (fun (x : Nat) => (x : Int)) ∧ Fits ws ns := by
  intro ws
  induction ws with
  | nil => intro vs k h _; have := List.eq_nil_of_length_eq_zero h; subst this; exact ⟨[], rfl, trivial⟩
  | cons w ws ih =>
    intro vs k h hb
    cases vs with
    | nil => simp at h
    | cons v vs =>
      simp only [firstBad] at hb
      split at hb
      · cases hb
      · rename_i hc
        obtain ⟨ns, e, hf⟩ := ih (k + 1) (by simpa using h) hb
        have hp : 0 < 2 ^ w := Nat.two_pow_pos w
        refine ⟨v.toNat :: ns, ?_, ?_, hf⟩
        · rw [List.map_cons, e]
          congr 1
          omega
        · omega
/-- What packs: the numbers, as natural ones. -/
theorem packI_ok {ws : List Nat} {vs : List Int} (hl : vs.length = ws.length) (h : (packI ws vs).2.1 = 0) : ∃ ns : List Nat, vs = ns.map (fun (n : Nat) => (n : Int)) ∧ Fits ws ns ∧ packI ws vs = ((packN ws ns : Int), 0, none) := by
  unfold packI at h ⊢
  rw [if_neg (by omega)] at h ⊢
  cases hb : firstBad ws vs 0 with
  | some i => rw [hb] at h; cases h
  | none =>
    obtain ⟨ns, e, hf⟩ := key_fits 0 hl hb
    have e2 : vs.map Int.toNat = ns := by
      rw [e, List.map_map]
      apply List.ext_getElem
      · simp
      · intro j h1 h2; simp
    exact ⟨ns, e, hf, by simp only [e2]⟩
theorem packI_code (ws : List Nat) (vs : List Int) : 0 ≤ (packI ws vs).2.1 ∧ (packI ws vs).2.1 ≤ 29 := by
  unfold packI
  split
  · simp
  · split <;> simp

def cws : List Nat := [4, 1, 8, 16, 8]
theorem cgood : GoodW cws := by constructor <;> simp [cws]
def fl (f : Bool) : Int := if f then 1 else 0
def vsC (k : Int) (f : Bool) (g l n : Int) : List Int := [k, fl f, g, l, n]
def wordI (k : Int) (f : Bool) (g l n : Int) : Int × Int × Option Int := if k > 8 then (0, 5, some 0) else packI cws (vsC k f g l n)
theorem word_code (k : Int) (f : Bool) (g l n : Int) : 0 ≤ (wordI k f g l n).2.1 ∧ (wordI k f g l n).2.1 ≤ 29 := by
  unfold wordI
  split
  · simp
  · exact packI_code _ _
theorem layout_eq : FX 37 [] = some [wsD cws] := by
  have h := new_eq cws cgood
  rw [E_cell_layout]
  have e : (D.agg ((D.int (4 : Int)) :: ((D.int (1 : Int)) :: ((D.int (8 : Int)) :: ((D.int (16 : Int)) :: ((D.int (8 : Int)) :: [])))))) = wsD cws := rfl
  rw [e, h]
  rfl
theorem wlit : (D.agg ((D.int (4 : Int)) :: ((D.int (1 : Int)) :: ((D.int (8 : Int)) :: ((D.int (16 : Int)) :: ((D.int (8 : Int)) :: [])))))) = wsD cws := rfl
theorem vlit (k a g l n : Int) : D.agg ((D.int k) :: ((D.int a) :: ((D.int g) :: ((D.int l) :: ((D.int n) :: []))))) = vsD [k, a, g, l, n] := rfl
section
variable (k : Int) (f : Bool) (g l n : Int) (hr : ∀ z ∈ vsC k f g l n, z ≤ 9223372036854775807)
include hr
theorem word_eq : FX 25 [.int k, .bool f, .int g, .int l, .int n] = some [.int (wordI k f g l n).1, FDat.errD (wordI k f g l n).2.1 (wordI k f g l n).2.2] := by
  rw [E_cell_Word, layout_eq]
  by_cases h : k > 8
  · have hcode : (D.iface 51 (.int 5)).isNil = false := rfl
    simp only [D.toInt_int, h, decide_true, if_true, at_eq _ _ hcode, bindC, List.length_cons, List.length_nil, List.getD_cons_zero]
    unfold wordI
    rw [if_pos h]
    rfl
  · have hp := pack_eq cws cgood (vsC k f g l n) hr
    have hpr : packR cws (vsC k f g l n) = [.int (wordI k f g l n).1, FDat.errD (wordI k f g l n).2.1 (wordI k f g l n).2.2] := by
      unfold packR wordI FDat.errD
      rw [if_neg h]
      generalize packI cws (vsC k f g l n) = z
      obtain ⟨_, _, _⟩ := z
      rfl
    rw [hpr] at hp
    have hb : vsD (vsC k f g l n) = if f then vsD [k, 1, g, l, n] else vsD [k, 0, g, l, n] := by cases f <;> rfl
    simp only [D.toInt_int, h, decide_false, Bool.false_eq_true, if_false, bindC, List.length_cons, List.length_nil, if_true, List.getD_cons_zero, List.getD_cons_succ, vlit]
    cases f
    · simp only [Bool.false_eq_true, if_false] at hb
      rw [hb] at hp
      simp only [D.toBool_bool, Bool.false_eq_true, if_false, hp, List.length_cons, List.length_nil, if_true, List.getD_cons_zero, List.getD_cons_succ]
    · simp only [if_true] at hb
      rw [hb] at hp
      simp only [D.toBool_bool, if_true, hp, List.length_cons, List.length_nil, List.getD_cons_zero, List.getD_cons_succ]
theorem rword_eq : FX 26 [.int k, .bool f, .int g, .int l, .int n] = some [.int (wordI k f g l n).1, .int (wordI k f g l n).2.1] := by
  rw [E_ref06_Word, wlit]
  by_cases h : k > 8
  · simp only [D.toInt_int, h, decide_true, if_true]
    unfold wordI
    rw [if_pos h]
  · have hp := rpack_eq cws cgood (vsC k f g l n) hr
    have hpr : rpackR cws (vsC k f g l n) = [.int (wordI k f g l n).1, .int (wordI k f g l n).2.1, .int ((wordI k f g l n).2.2.getD 0)] := by
      unfold rpackR wordI
      rw [if_neg h]
    rw [hpr] at hp
    have hb : vsD (vsC k f g l n) = if f then vsD [k, 1, g, l, n] else vsD [k, 0, g, l, n] := by cases f <;> rfl
    simp only [D.toInt_int, h, decide_false, Bool.false_eq_true, if_false, bindC, List.length_cons, List.length_nil, if_true, List.getD_cons_zero, List.getD_cons_succ, vlit]
    cases f
    · simp only [Bool.false_eq_true, if_false] at hb
      rw [hb] at hp
      simp only [D.toBool_bool, Bool.false_eq_true, if_false, hp, List.length_cons, List.length_nil, if_true, List.getD_cons_zero, List.getD_cons_succ]
    · simp only [if_true] at hb
      rw [hb] at hp
      simp only [D.toBool_bool, if_true, hp, List.length_cons, List.length_nil, List.getD_cons_zero, List.getD_cons_succ]
end
def stL (x : Nat) : List D := [.int (getZ cws x 0), .bool (getZ cws x 1 == 1), .int (getZ cws x 2), .int (getZ cws x 3), .int (getZ cws x 4)]
theorem state_eq (x : Nat) (hx : x < 18446744073709551616) : FX 27 [.int x] = some (stL x) ∧ FX 28 [.int x] = some (stL x) := by
  have hg := get_eq cws cgood x hx
  have hr := rget_eq cws cgood x hx
  constructor
  · rw [E_cell_State, layout_eq]
    simp only [bindC, List.length_cons, List.length_nil, if_true, List.getD_cons_zero, hg, D.toInt_int]
    rfl
  · rw [E_ref06_State]
    simp only [wlit, bindC, List.length_cons, List.length_nil, if_true, List.getD_cons_zero, hr, D.toInt_int]
    rfl
theorem back (k : Int) (f : Bool) (g l n : Int) (h : (wordI k f g l n).2.1 = 0) : FX 27 [.int (wordI k f g l n).1] = some [.int k, .bool f, .int g, .int l, .int n] := by
  unfold wordI at h ⊢
  by_cases hk : k > 8
  · rw [if_pos hk] at h; cases h
  rw [if_neg hk] at h ⊢
  obtain ⟨ns, e1, e2, e3⟩ := packI_ok rfl h
  have hlt : packN cws ns < 18446744073709551616 := by
    have := pack_lt e2
    simp only [cws, List.sum_cons, List.sum_nil] at this
    exact Nat.lt_trans this (by decide)
  rw [e3]
  refine (state_eq _ hlt).1.trans ?_
  have hl := fits_length e2
  match ns, hl, e1 with
  | [n0, n1, n2, n3, n4], _, e1 =>
    unfold vsC at e1
    simp only [List.map_cons, List.map_nil, List.cons.injEq, and_true] at e1
    obtain ⟨q0, q1, q2, q3, q4⟩ := e1
    unfold stL
    rw [q0, q2, q3, q4]
    have z0 := getZ_pack e2 (i := 0) (by decide)
    have z1 := getZ_pack e2 (i := 1) (by decide)
    have z2 := getZ_pack e2 (i := 2) (by decide)
    have z3 := getZ_pack e2 (i := 3) (by decide)
    have z4 := getZ_pack e2 (i := 4) (by decide)
    simp only [List.getD_cons_zero, List.getD_cons_succ] at z0 z1 z2 z3 z4
    have hf : (getZ cws (packN cws [n0, n1, n2, n3, n4]) 1 == 1) = f := by
      have : getZ cws (packN cws [n0, n1, n2, n3, n4]) 1 = fl f := Eq.trans z1 q1.symm
      rw [this]
      cases f <;> rfl
    rw [hf]
    exact congrArg some (by rw [← z0, ← z2, ← z3, ← z4]; rfl)
end Go.Proofs.Ytnaojplgikaeoaa.CW
