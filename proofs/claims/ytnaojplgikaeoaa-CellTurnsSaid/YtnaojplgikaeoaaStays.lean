/-
  The law CellStays, on data.
-/
import Derived.Test.YtnaojplgikaeoaaTrees
namespace Go.Proofs.Ytnaojplgikaeoaa.CS
open Go.RowKit Go.Proofs.Ytnaojplgikaeoaa.Eng Go.Proofs.Ytnaojplgikaeoaa
set_option linter.unusedVariables false
set_option linter.unusedSimpArgs false

def z0 : List D → Nat := fun _ => 0
def tab1 := add (add (add (add (add (add (add (add (add none0 32 tcEnded z0) 33 tcLoosen z0) 7 tcOver z0) 14 tcHold z0) 17 tcLoose z0) 15 tcLive z0) 16 tcHeld z0) 10 tcCancel z0) 12 tcPromote z0
def tab2 := add (add (add tab1 8 tcTake z0) 9 tcRelease z0) 11 tcExpire z0
def tab3 := add tab2 13 tcellAwake z0
theorem ok3 : FsOk Try.prog tab3 :=
  ok_add (ok_add (ok_add (ok_add (ok_add (ok_add (ok_add (ok_add (ok_add (ok_add (ok_add (ok_add (ok_add (ok_none _) [] _ _ readcEnded _) [] _ _ readcLoosen _) [] _ _ readcOver _) [] _ _ readcHold _) [] _ _ readcLoose _) [] _ _ readcLive _) [] _ _ readcHeld _) [] _ _ readcCancel _) [] _ _ readcPromote _)
    [] _ _ readcTake _) [] _ _ readcRelease _) [] _ _ readcExpire _) [] _ _ readcellAwake _

structure St where
  k : Int
  f : Bool
  g : Int
  l : Int
  n : Int
def St.ds (s : St) : List D := [.int s.k, .bool s.f, .int s.g, .int s.l, .int s.n]
def St.zero : St := ⟨0, false, 0, 0, 0⟩
def errD (c : Int) : D := if c = 0 then .nil else .iface 51 (.int c)
def endF (s : St) (m : Int) : St := if s.l = 0 then ⟨5, false, s.g, s.l, s.n⟩ else if s.n ≥ m then ⟨8, false, s.g, s.l, s.n⟩ else s
def loosenF (s : St) : St := if s.k = 3 then ⟨1, s.f, s.g, s.l, s.n⟩ else if s.k = 4 then ⟨2, s.f, s.g, s.l, s.n⟩ else s
theorem ended_eq (s : St) (m : Int) : tab3 32 (s.ds ++ [.int m]) = some (endF s m).ds := by
  simp [tab3, tab2, tab1, add, eval, tcEnded, den, cmpF, St.ds, endF]
  split
  · simp [*]
  · split <;> simp_all
def looseB (s : St) : Bool := s.k == 1 || s.k == 2
def heldB (s : St) : Bool := s.k == 3 || s.k == 4
def liveB (s : St) : Bool := decide (s.k ≥ 1) && decide (s.k ≤ 4)
def overB (s : St) : Bool := decide (s.k ≥ 5) && decide (s.k ≤ 8)
def w64 (n : Int) : Int := IntKind.i64.wrap n
def holdF (s : St) : St := if s.k = 1 then ⟨3, s.f, s.g, s.l, s.n⟩ else if s.k = 2 then ⟨4, s.f, s.g, s.l, s.n⟩ else s
def takeF (s : St) (q m : Int) : St × Int :=
  if looseB s = false then (St.zero, 27) else if q < 1 then (St.zero, 23) else if q > s.l then (St.zero, 23) else if s.n ≥ m then (St.zero, 4) else (endF ⟨s.k, s.f, s.g, w64 (s.l - q), w64 (s.n + 1)⟩ m, 0)
def flagF (s : St) : St := if s.f = true then ⟨6, false, s.g, s.l, s.n⟩ else s
def someF (s : St) (q : Int) : St := if q > 0 then ⟨s.k, s.f, s.g, w64 (s.l - q), w64 (s.n + 1)⟩ else s
def releaseF (s : St) (q m : Int) : St × Int :=
  if heldB s = false then (St.zero, 1) else if q < 0 then (St.zero, 23) else if q > s.l then (St.zero, 23) else if q > 0 ∧ s.n ≥ m then (St.zero, 4) else (flagF (endF (loosenF (someF s q)) m), 0)
def cancelF (s : St) : St × Int :=
  if looseB s = true then (⟨6, s.f, s.g, s.l, s.n⟩, 0) else if heldB s = true then (⟨s.k, true, s.g, s.l, s.n⟩, 0) else (St.zero, 29)
def expireF (s : St) : St × Int := if looseB s = false then (St.zero, 27) else (⟨7, s.f, s.g, s.l, s.n⟩, 0)
def promoteF (s : St) : St × Int := if s.k = 1 then (⟨2, s.f, s.g, s.l, s.n⟩, 0) else (St.zero, 29)

theorem loosen_eq (s : St) : tab3 33 s.ds = some (loosenF s).ds := by
  simp [tab3, tab2, tab1, add, eval, tcLoosen, den, cmpF, St.ds, loosenF]
  split
  · simp [*]
  · split <;> simp_all
theorem hold_eq (s : St) : tab3 14 s.ds = some (holdF s).ds := by
  simp [tab3, tab2, tab1, add, eval, tcHold, den, cmpF, St.ds, holdF]
  split
  · simp [*]
  · split <;> simp_all
theorem over_eq (s : St) : tab3 7 s.ds = some [.bool (overB s)] := by
  simp [tab3, tab2, tab1, add, eval, tcOver, den, cmpF, St.ds, overB]
  split <;> simp_all <;> omega
theorem live_eq (s : St) : tab3 15 s.ds = some [.bool (liveB s)] := by
  simp [tab3, tab2, tab1, add, eval, tcLive, den, cmpF, St.ds, liveB]
  split <;> simp_all <;> omega
theorem loose_eq (s : St) : tab3 17 s.ds = some [.bool (looseB s)] := by
  simp [tab3, tab2, tab1, add, eval, tcLoose, den, cmpF, St.ds, looseB]
  split <;> simp_all
theorem held_eq (s : St) : tab3 16 s.ds = some [.bool (heldB s)] := by
  simp [tab3, tab2, tab1, add, eval, tcHeld, den, cmpF, St.ds, heldB]
  split <;> simp_all
theorem cancel_eq (s : St) : tab3 10 s.ds = some ((cancelF s).1.ds ++ [errD (cancelF s).2]) := by
  simp [tab3, tab2, tab1, add, eval, tcCancel, den, cmpF, St.ds, cancelF, looseB, heldB, errD, St.zero]
  repeat' (split <;> try simp_all)
theorem promote_eq (s : St) : tab3 12 s.ds = some ((promoteF s).1.ds ++ [errD (promoteF s).2]) := by
  simp [tab3, tab2, tab1, add, eval, tcPromote, den, cmpF, St.ds, promoteF, errD, St.zero]
  repeat' (split <;> try simp_all)
theorem expire_eq (s : St) : tab3 11 s.ds = some ((expireF s).1.ds ++ [errD (expireF s).2]) := by
  have h := loose_eq s
  cases hb : looseB s <;> rw [hb] at h <;> simp [tab3, tab2, tab1, add, St.ds] at h <;> simp [tab3, tab2, tab1, add, eval, tcExpire, den, St.ds, expireF, hb, errD, St.zero, h]
theorem take_eq (s : St) (q m : Int) : tab3 8 (s.ds ++ [.int q, .int m]) = some ((takeF s q m).1.ds ++ [errD (takeF s q m).2]) := by
  have h := loose_eq s
  have h2 := ended_eq ⟨s.k, s.f, s.g, w64 (s.l - q), w64 (s.n + 1)⟩ m
  unfold takeF
  cases hb : looseB s <;> rw [hb] at h <;> simp [tab3, tab2, tab1, add, St.ds] at h h2 <;> simp [tab3, tab2, tab1, add, eval, tcTake, den, cmpF, arF, St.ds, errD, St.zero, h]
  by_cases h3 : q < 1
  · simp [h3]
  · by_cases h4 : s.l < q
    · simp [h3, h4]
    · by_cases h5 : m ≤ s.n
      · simp [h3, h4, h5]
      · simp only [h3, h4, h5, if_false]
        unfold w64 at h2
        simp [h2, w64]
theorem release_eq (s : St) (q m : Int) : tab3 9 (s.ds ++ [.int q, .int m]) = some ((releaseF s q m).1.ds ++ [errD (releaseF s q m).2]) := by
  have h := held_eq s
  unfold releaseF
  cases hb : heldB s <;> rw [hb] at h <;> simp [tab3, tab2, tab1, add, St.ds] at h <;> simp [tab3, tab2, tab1, add, eval, tcRelease, den, cmpF, arF, St.ds, errD, St.zero, h]
  by_cases h3 : q < 0
  · simp [h3]
  · by_cases h4 : s.l < q
    · simp [h3, h4]
    · by_cases h6 : 0 < q
      · by_cases h5 : m ≤ s.n
        · simp [h3, h4, h5, h6]
        · have h7 := loosen_eq ⟨s.k, s.f, s.g, w64 (s.l - q), w64 (s.n + 1)⟩
          have h8 := ended_eq (loosenF ⟨s.k, s.f, s.g, w64 (s.l - q), w64 (s.n + 1)⟩) m
          simp [tab3, tab2, tab1, add, St.ds, w64] at h7 h8
          simp only [h3, h4, h5, h6, if_false, if_true]
          simp [h7, h8, someF, h6, w64, flagF]
          split <;> simp_all
      · have h7 := loosen_eq s
        have h8 := ended_eq (loosenF s) m
        simp [tab3, tab2, tab1, add, St.ds, w64] at h7 h8
        simp only [h3, h4, h6, if_false]
        simp [h7, h8, someF, h6, w64, flagF]
        split <;> simp_all
theorem awake_eq : tab3 13 [] = some [.bool true] := by kernel_rfl
theorem errD_nil (c : Int) : (errD c).isNil = decide (c = 0) := by unfold errD; split <;> simp_all
theorem take_ok (s : St) (m : Int) (h : looseB s = true) : (endF s m).l = s.l ∧ (endF s m).n = s.n ∧ (endF s m).g = s.g ∧ heldB (endF s m) = false := by
  unfold endF heldB looseB at *
  split
  · simp
  · split
    · simp
    · simp at h ⊢; omega
theorem rel_ok (s : St) (q m : Int) (h : heldB s = true) (h0 : 0 ≤ q) (hw : IntKind.i64.wrap s.l = s.l) :
    (flagF (endF (loosenF (someF s q)) m)).l = IntKind.i64.wrap (s.l - q) ∧ (flagF (endF (loosenF (someF s q)) m)).g = s.g ∧ heldB (flagF (endF (loosenF (someF s q)) m)) = false := by
  have hs : (someF s q).l = IntKind.i64.wrap (s.l - q) ∧ (someF s q).g = s.g ∧ (someF s q).k = s.k := by
    unfold someF
    split
    · exact ⟨rfl, rfl, rfl⟩
    · have : q = 0 := by omega
      subst this
      simp [hw]
  obtain ⟨h1, h2, h3⟩ := hs
  have hl : (loosenF (someF s q)).l = IntKind.i64.wrap (s.l - q) ∧ (loosenF (someF s q)).g = s.g ∧ looseB (loosenF (someF s q)) = true := by
    unfold loosenF looseB
    unfold heldB at h
    split
    · simp [h1, h2]
    · split
      · simp [h1, h2]
      · simp at h; omega
  obtain ⟨g1, g2, g3⟩ := hl
  obtain ⟨k1, k2, k3, k4⟩ := take_ok (loosenF (someF s q)) m g3
  unfold flagF
  split
  · simp [k1, k3, g1, g2, heldB]
  · exact ⟨by rw [k1, g1], by rw [k3, g2], k4⟩
theorem stays_eq (s : St) (q m : Int) (hl1 : -9223372036854775808 ≤ s.l) (hl2 : s.l ≤ 9223372036854775807) : eval tab3 0 tCellStays [] (s.ds ++ [.int q, .int m]) = some [.bool true] := by
  have h7 := over_eq s
  have h8 := take_eq s q m
  have h9 := release_eq s q m
  have h10 := cancel_eq s
  have h11 := expire_eq s
  have h12 := promote_eq s
  have h13 := awake_eq
  have h14 := hold_eq s
  have h15 := live_eq s
  have h9b := release_eq (holdF s) q m
  have h16 := held_eq (takeF s q m).1
  have h16b := held_eq (releaseF (holdF s) q m).1
  have h17 := loose_eq s
  generalize tab3 = Fs at *
  simp only [St.ds, List.cons_append, List.nil_append] at *
  have hw : IntKind.i64.wrap s.l = s.l := by
    simp [IntKind.wrap, IntKind.bits, IntKind.signed]; omega
  cases ho : overB s
  · simp [eval, tCellStays, den, cmpF, arF, h7, h8, h9, h9b, h10, h11, h12, h13, h14, h15, h16, h16b, h17, ho, errD_nil]
    cases hlo : looseB s
    · have e1 : takeF s q m = (St.zero, 27) := by simp [takeF, hlo]
      have hk : s.k ≠ 1 ∧ s.k ≠ 2 := by simpa [looseB] using hlo
      have e6 : holdF s = s := by simp [holdF, hk.1, hk.2]
      rw [e1, e6]
      simp
      unfold releaseF
      cases hhe : heldB s
      · simp
      · by_cases c1 : q < 0
        · simp [c1]
        · by_cases c2 : q > s.l
          · simp [c1, c2]
          · by_cases c3 : q > 0 ∧ s.n ≥ m
            · simp [c1, c2, c3]
            · obtain ⟨r1, r2, r3⟩ := rel_ok s q m hhe (by omega) hw
              rw [if_neg (by simp), if_neg c1, if_neg c2, if_neg c3]
              simp [r1, r2, r3]
    · have hk : s.k = 1 ∨ s.k = 2 := by simpa [looseB] using hlo
      have hh : heldB (holdF s) = true := by
        rcases hk with h | h <;> simp [holdF, h, heldB]
      have hf : (holdF s).l = s.l ∧ (holdF s).n = s.n ∧ (holdF s).g = s.g := by
        rcases hk with h | h <;> simp [holdF, h]
      by_cases c1 : q < 0
      · have c1' : q < 1 := by omega
        have e1 : takeF s q m = (St.zero, 23) := by simp [takeF, hlo, c1']
        have e2 : releaseF (holdF s) q m = (St.zero, 23) := by simp [releaseF, hh, c1]
        rw [e1, e2]
        simp
      · by_cases c2 : q > s.l
        · have e1 : takeF s q m = (St.zero, 23) := by simp [takeF, hlo, c2]
          have e2 : releaseF (holdF s) q m = (St.zero, 23) := by simp [releaseF, hh, c1, hf.1, c2]
          rw [e1, e2]
          simp
        · by_cases c0 : q < 1
          · have hq : q = 0 := by omega
            subst hq
            have c2' : ¬ s.l < 0 := c2
            obtain ⟨r1, r2, r3⟩ := rel_ok (holdF s) 0 m hh (by omega) (by rw [hf.1]; exact hw)
            rw [hf.1] at r1
            rw [hf.2.2] at r2
            have e1 : takeF s 0 m = (St.zero, 23) := by simp [takeF, hlo]
            have e2 : releaseF (holdF s) 0 m = (flagF (endF (loosenF (someF (holdF s) 0)) m), 0) := by simp [releaseF, hh, hf.1, c2']
            rw [e1, e2]
            simp [r1, r2, r3]
          · have hq : 0 < q := by omega
            by_cases c3 : s.n ≥ m
            · have e1 : takeF s q m = (St.zero, 4) := by simp [takeF, hlo, c0, c2, c3]
              have e2 : releaseF (holdF s) q m = (St.zero, 4) := by simp [releaseF, hh, c1, hf.1, hf.2.1, c2, c3, hq]
              rw [e1, e2]
              simp
            · obtain ⟨r1, r2, r3⟩ := rel_ok (holdF s) q m hh (by omega) (by rw [hf.1]; exact hw)
              rw [hf.1] at r1
              rw [hf.2.2] at r2
              obtain ⟨t1, t2, t3, t4⟩ := take_ok ⟨s.k, s.f, s.g, w64 (s.l - q), w64 (s.n + 1)⟩ m (by simpa [looseB] using hlo)
              have e1 : takeF s q m = (endF ⟨s.k, s.f, s.g, w64 (s.l - q), w64 (s.n + 1)⟩ m, 0) := by simp [takeF, hlo, c0, c2, c3]
              have e2 : releaseF (holdF s) q m = (flagF (endF (loosenF (someF (holdF s) q)) m), 0) := by simp [releaseF, hh, c1, hf.1, hf.2.1, c2, c3]
              rw [e1, e2]
              simp only [w64] at t1 t2 t3 t4
              simp [t1, t2, t3, t4, r1, r2, r3, hq, w64]
  · have hlo : looseB s = false := by simp [overB, looseB] at ho ⊢; omega
    have hhe : heldB s = false := by simp [overB, heldB] at ho ⊢; omega
    have hli : liveB s = false := by simp [overB, liveB] at ho ⊢; omega
    have hk1 : s.k ≠ 1 := by simp [overB] at ho; omega
    have hk2 : s.k ≠ 2 := by simp [overB] at ho; omega
    have e1 : takeF s q m = (St.zero, 27) := by simp [takeF, hlo]
    have e2 : releaseF s q m = (St.zero, 1) := by simp [releaseF, hhe]
    have e3 : cancelF s = (St.zero, 29) := by simp [cancelF, hlo, hhe]
    have e4 : expireF s = (St.zero, 27) := by simp [expireF, hlo]
    have e5 : promoteF s = (St.zero, 29) := by simp [promoteF, hk1]
    have e6 : holdF s = s := by simp [holdF, hk1, hk2]
    simp [eval, tCellStays, den, cmpF, arF, h7, h8, h9, h10, h11, h12, h13, h14, h15, ho, errD_nil, e1, e2, e3, e4, e5, e6, hli]
theorem stays_walk (k : Int) (f : Bool) (g l n q m : Int) (hl1 : -9223372036854775808 ≤ l) (hl2 : l ≤ 9223372036854775807) (W : World) :
    Calls Try.prog 3 #[.agg #[.int .i64 k, .bool f, .int .i64 g, .int .i64 l, .int .i64 n], .int .i64 q, .int .i64 m] W fun e w' => e = .returned (.bool true) ∧ Below W.heap.size W w' := by
  have hsig : sigOf Try.prog 3 = some ([.agg [.int .i64, .bool, .int .i64, .int .i64, .int .i64], .one (.int .i64), .one (.int .i64)], [.one .bool]) := by kernel_rfl
  have h := fn_sound ok3 [] 3 hsig (fuel := 0) (ds := (St.mk k f g l n).ds ++ [.int q, .int m]) (r := [.bool true]) (by rw [readCellStays]; exact stays_eq ⟨k, f, g, l, n⟩ q m hl1 hl2)
  exact law_calls h (args_agg (us := [.int .i64 k, .bool f, .int .i64 g, .int .i64 l, .int .i64 n]) ⟨Rd.int rfl, Rd.bool rfl, Rd.int rfl, Rd.int rfl, Rd.int rfl, trivial⟩ (args_one (Rd.int rfl) (args_one (Rd.int rfl) args_nil)))
end Go.Proofs.Ytnaojplgikaeoaa.CS
