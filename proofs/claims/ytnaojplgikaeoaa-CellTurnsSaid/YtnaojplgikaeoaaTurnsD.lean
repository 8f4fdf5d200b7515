/-
  The law CellTurns, on data.
-/
import Derived.Test.YtnaojplgikaeoaaStays
import Derived.Test.YtnaojplgikaeoaaTreesT
import Derived.Test.YtnaojplgikaeoaaIs
namespace Go.Proofs.Ytnaojplgikaeoaa.CS
open Go.RowKit Go.Proofs.Ytnaojplgikaeoaa.Eng Go.Proofs.Ytnaojplgikaeoaa
set_option linter.unusedVariables false
set_option linter.unusedSimpArgs false

def isF : Eng.Fn := fun ds => match ds with
  | [.iface t (.int c), .iface u (.int d)] => if t = 51 ∧ u = 51 then some [.bool (c == d)] else none
  | _ => none
theorem rd_code {P : Program} {w : World} {F : Nat → Prop} {t : TypeId} {c : Int} {v : Value} {k : IntKind} (h : Rd P w F .ifc (.iface t (.int c)) v) (ht : tyOf P t = some (.int k)) : v = .iface t (.int k c) := by
  cases h with
  | inil e _ => cases e
  | iface e1 e2 e3 e4 h5 =>
    cases e1
    rw [ht] at e3
    cases e3
    rw [e2, h5.int_inv]
    rfl
theorem ok_is : ∀ ps rs ds r, sigOf Try.prog 35 = some (ps, rs) → isF ds = some r → Ok1 Try.prog 35 ps rs ds r := by
  intro ps rs ds r hsig hr
  have hs : sigOf Try.prog 35 = some ([.one .ifc, .one .ifc], [.one .bool]) := by kernel_rfl
  rw [hs] at hsig
  simp only [Option.some.injEq, Prod.mk.injEq] at hsig
  obtain ⟨rfl, rfl⟩ := hsig
  unfold isF at hr
  split at hr
  · rename_i t c u d
    split at hr
    · rename_i htu
      obtain ⟨rfl, rfl⟩ := htu
      simp at hr; subst hr
      intro w Ft vs hFt ha
      obtain ⟨_, _, v0, _, e1, e2, h0, _, _, v1, _, e3, e4, h1, e5, e6⟩ := ha
      cases e1; cases e3; subst e2 e4
      have ht : tyOf Try.prog 51 = some (.int .i64) := by kernel_rfl
      have q0 := rd_code h0 ht
      have q1 := rd_code h1 ht
      subst q0 q1 e6
      refine (is_code c d w).mono ?_
      rintro e w' ⟨rfl, rfl⟩
      exact ⟨_, rfl, Below.refl _ _, args_one (Rd.bool rfl) args_nil⟩
    · cases hr
  · cases hr
def tabT := add (addF (add (add (add (add (add (add (add (add tab3 24 tr6Loose z0) 29 tr6Held z0) 34 tr6Filled z0) 19 tr6Take z0) 21 tr6Release z0) 22 tr6Cancel z0) 23 tr6Begin z0) 18 tcBegin z0) 35 isF) 20 tnum (fun _ => 40)
theorem okT : FsOk Try.prog tabT :=
  ok_add (ok_addF (ok_add (ok_add (ok_add (ok_add (ok_add (ok_add (ok_add (ok_add ok3 [] _ _ readr6Loose _) [] _ _ readr6Held _) [] _ _ readr6Filled _) [] _ _ readr6Take _) [] _ _ readr6Release _) [] _ _ readr6Cancel _) [] _ _ readr6Begin _) [] _ _ readcBegin _) _ _ ok_is) _ _ _ readnum _
theorem old (f : Nat) (ds : List D) (h : (f == 24 || f == 29 || f == 34 || f == 19 || f == 21 || f == 22 || f == 23 || f == 18 || f == 35 || f == 20) = false) : tabT f ds = tab3 f ds := by
  simp only [Bool.or_eq_false_iff, beq_eq_false_iff_ne] at h
  simp only [tabT, add, addF]
  simp [h]
theorem num_eq (c : Int) (h : c = 0 ∨ c = 1 ∨ c = 4 ∨ c = 23 ∨ c = 27 ∨ c = 28 ∨ c = 29) : tabT 20 [errD c] = some [.int c] := by
  rcases h with h | h | h | h | h | h | h <;> subst h <;> kernel_rfl
def beginF (s : St) (q m : Int) : St × Int :=
  if liveB s = true then (St.zero, 27) else if s.g ≥ m then (St.zero, 28) else if q < 1 then (St.zero, 23) else if q > 9999 then (St.zero, 23) else (⟨1, false, w64 (s.g + 1), q, 0⟩, 0)
theorem live_or (s : St) : liveB s = (looseB s || heldB s) := by
  rw [Bool.eq_iff_iff]
  simp [liveB, looseB, heldB]
  omega
theorem begin_eq (s : St) (q m : Int) : tabT 18 (s.ds ++ [.int q, .int m]) = some ((beginF s q m).1.ds ++ [errD (beginF s q m).2]) := by
  have h := live_eq s
  unfold beginF
  cases hb : liveB s <;> rw [hb] at h <;> simp [tabT, tab3, tab2, tab1, add, addF, St.ds] at h <;> simp [tabT, tab3, tab2, tab1, add, addF, eval, tcBegin, den, cmpF, arF, St.ds, errD, St.zero, h]
  by_cases h3 : m ≤ s.g
  · simp [h3]
  · by_cases h4 : q < 1
    · simp [h3, h4]
    · by_cases h5 : 9999 < q
      · simp [h3, h4, h5]
      · simp [h3, h4, h5, w64]
theorem rloose_eq (s : St) : tabT 24 [.int s.k] = some [.bool (looseB s)] := by
  simp [tabT, add, addF, eval, tr6Loose, den, cmpF, looseB]
  split <;> simp_all
theorem rheld_eq (s : St) : tabT 29 [.int s.k] = some [.bool (heldB s)] := by
  simp [tabT, add, addF, eval, tr6Held, den, cmpF, heldB]
  split <;> simp_all
theorem rbegin_eq (s : St) (q m : Int) : tabT 23 (s.ds ++ [.int q, .int m]) = some ((beginF s q m).1.ds ++ [.int (beginF s q m).2]) := by
  have h := rloose_eq s
  have h2 := rheld_eq s
  unfold beginF
  rw [live_or]
  cases hb : looseB s <;> rw [hb] at h <;> cases hb2 : heldB s <;> rw [hb2] at h2 <;> simp [tabT, add, addF, St.ds] at h h2 <;> simp [tabT, add, addF, eval, tr6Begin, den, cmpF, arF, St.ds, St.zero, h, h2]
  by_cases h3 : m ≤ s.g
  · simp [h3]
  · by_cases h4 : q < 1
    · simp [h3, h4]
    · by_cases h5 : 9999 < q
      · simp [h3, h4, h5]
      · simp [h3, h4, h5, w64]
theorem rcancel_eq (s : St) : tabT 22 s.ds = some ((cancelF s).1.ds ++ [.int (cancelF s).2]) := by
  have h := rloose_eq s
  have h2 := rheld_eq s
  unfold cancelF
  cases hb : looseB s <;> rw [hb] at h <;> cases hb2 : heldB s <;> rw [hb2] at h2 <;> simp [tabT, add, addF, St.ds] at h h2 <;> simp [tabT, add, addF, eval, tr6Cancel, den, cmpF, arF, St.ds, St.zero, h, h2]
theorem rfilled_eq (s : St) (q m : Int) : tabT 34 (s.ds ++ [.int q, .int m]) = some (endF (someF s q) m).ds := by
  simp [tabT, add, addF, eval, tr6Filled, den, cmpF, arF, St.ds, someF, endF, w64]
  by_cases h1 : 0 < q
  · simp only [h1, if_true]
    by_cases h2 : IntKind.i64.wrap (s.l - q) = 0
    · simp [h2]
    · by_cases h3 : m ≤ IntKind.i64.wrap (s.n + 1) <;> simp [h2, h3]
  · simp only [h1, if_false]
    by_cases h2 : s.l = 0
    · simp [h2]
    · by_cases h3 : m ≤ s.n <;> simp [h2, h3]
theorem rtake_eq (s : St) (q m : Int) : tabT 19 (s.ds ++ [.int q, .int m]) = some ((takeF s q m).1.ds ++ [.int (takeF s q m).2]) := by
  have h := rloose_eq s
  have h2 := rfilled_eq s q m
  unfold takeF
  cases hb : looseB s <;> rw [hb] at h <;> simp [tabT, add, addF, St.ds] at h h2 <;> simp [tabT, add, addF, eval, tr6Take, den, cmpF, arF, St.ds, St.zero, h]
  by_cases h3 : q < 1
  · simp [h3]
  · by_cases h4 : s.l < q
    · simp [h3, h4]
    · by_cases h5 : m ≤ s.n
      · simp [h3, h4, h5]
      · have hq : 0 < q := by omega
        simp only [h3, h4, h5, if_false]
        simp [h2, someF, hq]
theorem loosen_some (s : St) (q : Int) (h : heldB s = true) : loosenF (someF s q) = someF ⟨w64 (s.k - 2), s.f, s.g, s.l, s.n⟩ q := by
  have hk : s.k = 3 ∨ s.k = 4 := by simpa [heldB] using h
  rcases hk with h | h
  · have e : w64 (s.k - 2) = 1 := by rw [h]; rfl
    rw [e]
    unfold loosenF someF
    split <;> simp [h]
  · have e : w64 (s.k - 2) = 2 := by rw [h]; rfl
    rw [e]
    unfold loosenF someF
    split <;> simp [h]
theorem rrelease_eq (s : St) (q m : Int) : tabT 21 (s.ds ++ [.int q, .int m]) = some ((releaseF s q m).1.ds ++ [.int (releaseF s q m).2]) := by
  have h := rheld_eq s
  have h2 := rfilled_eq ⟨w64 (s.k - 2), s.f, s.g, s.l, s.n⟩ q m
  have h9 : heldB s = true → loosenF (someF s q) = someF ⟨w64 (s.k - 2), s.f, s.g, s.l, s.n⟩ q := loosen_some s q
  unfold releaseF
  cases hb : heldB s <;> rw [hb] at h h9 <;> simp [tabT, add, addF, St.ds, w64] at h h2 <;> simp [tabT, add, addF, eval, tr6Release, den, cmpF, arF, St.ds, St.zero, h]
  rw [h9 rfl]
  by_cases h3 : q < 0
  · simp [h3]
  · by_cases h4 : s.l < q
    · simp [h3, h4]
    · by_cases h6 : 0 < q
      · by_cases h5 : m ≤ s.n
        · simp [h3, h4, h5, h6]
        · simp only [h3, h4, h5, h6, if_false, if_true]
          simp [h2, flagF, w64]
          split <;> simp_all
      · simp only [h3, h4, h6, if_false]
        simp [h2, flagF, w64]
        split <;> simp_all
theorem take_code (s : St) (q m : Int) : (takeF s q m).2 = 0 ∨ (takeF s q m).2 = 1 ∨ (takeF s q m).2 = 4 ∨ (takeF s q m).2 = 23 ∨ (takeF s q m).2 = 27 ∨ (takeF s q m).2 = 28 ∨ (takeF s q m).2 = 29 := by
  unfold takeF
  repeat' split
  all_goals simp
theorem release_code (s : St) (q m : Int) : (releaseF s q m).2 = 0 ∨ (releaseF s q m).2 = 1 ∨ (releaseF s q m).2 = 4 ∨ (releaseF s q m).2 = 23 ∨ (releaseF s q m).2 = 27 ∨ (releaseF s q m).2 = 28 ∨ (releaseF s q m).2 = 29 := by
  unfold releaseF
  repeat' split
  all_goals simp
theorem cancel_code (s : St) : (cancelF s).2 = 0 ∨ (cancelF s).2 = 1 ∨ (cancelF s).2 = 4 ∨ (cancelF s).2 = 23 ∨ (cancelF s).2 = 27 ∨ (cancelF s).2 = 28 ∨ (cancelF s).2 = 29 := by
  unfold cancelF
  repeat' split
  all_goals simp
theorem begin_code (s : St) (q m : Int) : (beginF s q m).2 = 0 ∨ (beginF s q m).2 = 1 ∨ (beginF s q m).2 = 4 ∨ (beginF s q m).2 = 23 ∨ (beginF s q m).2 = 27 ∨ (beginF s q m).2 = 28 ∨ (beginF s q m).2 = 29 := by
  unfold beginF
  repeat' split
  all_goals simp
theorem expire_code (s : St) : (expireF s).2 = 0 ∨ (expireF s).2 = 1 ∨ (expireF s).2 = 4 ∨ (expireF s).2 = 23 ∨ (expireF s).2 = 27 ∨ (expireF s).2 = 28 ∨ (expireF s).2 = 29 := by
  unfold expireF
  repeat' split
  all_goals simp
theorem promote_code (s : St) : (promoteF s).2 = 0 ∨ (promoteF s).2 = 1 ∨ (promoteF s).2 = 4 ∨ (promoteF s).2 = 23 ∨ (promoteF s).2 = 27 ∨ (promoteF s).2 = 28 ∨ (promoteF s).2 = 29 := by
  unfold promoteF
  repeat' split
  all_goals simp
end Go.Proofs.Ytnaojplgikaeoaa.CS
