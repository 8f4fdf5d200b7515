/-
  ref29.Event: the same words; and the document's examples.
-/
import Derived.Test.YtilkbgdfndifgaaGreatDoorEventP
import Derived.Test.YtilkbgdfndifgaaGreatDoorRun
import Derived.KernelRfl
namespace Go.Proofs.YtilkbgdfndifgaaGreatDoor.RepD
open Go.Proofs.YtilkbgdfndifgaaGreatDoor.Eng Go.Proofs.YtilkbgdfndifgaaGreatDoor Go.Proofs.YtilkbgdfndifgaaGreatDoor.Dat Go.Proofs.YtilkbgdfndifgaaGreatDoor.WordP Go.Proofs.YtilkbgdfndifgaaGreatDoor.StrL Go.Proofs.YtilkbgdfndifgaaGreatDoor.RefD
open Go.Lib (decDigits itoa)
set_option linter.unusedVariables false
set_option linter.unusedSimpArgs false

theorem ref_event (k c g o wi n s p l u q pr t e : Int) (hc : inI c) (hg : inI g) (ho : inI o) (hwi : inI wi) (hn : inI n) (hp : inI p) (hl : inI l) (hu : inI u) (hq : inI q) (hpr : inI pr) (ht : inI t) :
    FX 6 [.int k, .int c, .int g, .int o, .int wi, .int n, .int s, .int p, .int l, .int u, .int q, .int pr, .int t, .int e] = some [.str (toB (lineB k (wordB k) c g o wi n s p l u q pr t e))] := by
  rw [E_ref29_Event]
  have go := fun w hw => ref_go k w hw c g o wi n s p l u q pr t e hc hg ho hwi hn hp hl hu hq hpr ht
  rcases word_cases k with h | rfl | rfl | rfl | rfl | rfl | rfl | rfl
  · have hw : wordB k = [63] := by unfold wordB; rw [if_pos h]
    have hq1 : (ByteArray.mk #[63]) = toB (wordB k) := by rw [hw]; rfl
    by_cases hk0 : k ≥ 1
    · have d2 : ¬ (k ≤ 7) := by omega
      simp only [D.toInt_int, hk0, d2, decide_true, decide_false, Bool.false_eq_true, if_false, if_true, hq1]
      exact go _ (wordB_len k)
    · simp only [D.toInt_int, hk0, decide_false, Bool.false_eq_true, if_false, hq1]
      exact go _ (wordB_len k)
  all_goals exact go _ (by decide)
def fst2 : List D → Option (List D)
  | [d, _] => some [d]
  | _ => none
theorem awake_run : tabC prog 200 16 [.agg []] fst2 = some [.bool true] := by kernel_rfl
theorem awake13 : ∃ h, FX 16 [.agg []] = some [.bool true, h] := by
  obtain ⟨q, h1, h2⟩ := fix_runK (base := StrD.baseD) 200 awake_run
  match q, h2 with
  | [d, h], h2 =>
    simp only [fst2, Option.some.injEq, List.cons.injEq, and_true] at h2
    subst h2
    exact ⟨h, h1⟩
theorem awake_ok : ∃ h, FX 4 [.agg []] = some [.bool true, h] := by
  obtain ⟨h, hh⟩ := awake13
  have st : ∀ (a : D) (k : List D → Option (List D)), bindC (some [a]) 1 k = k [a] := fun a k => by simp [bindC]
  have st2 : ∀ (a b : D) (k : List D → Option (List D)), bindC (some [a, b]) 2 k = k [a, b] := fun a b k => by simp [bindC]
  have g0 : ∀ a : D, ([a] : List D).getD 0 .nil = a := fun a => rfl
  have dg : ∀ n : Nat, n < 10 → itoa (n : Int) = [UInt8.ofNat (48 + n)] := fun n hn => by rw [itoa_nn, decDigits_small hn]
  have i0 : itoa 0 = [48] := dg 0 (by decide)
  have i1 : itoa 1 = [49] := dg 1 (by decide)
  have i3 : itoa 3 = [51] := dg 3 (by decide)
  have i4 : itoa 4 = [52] := dg 4 (by decide)
  have i9 : itoa 9 = [57] := dg 9 (by decide)
  have b0 : inI 0 := by unfold inI; omega
  have b1 : inI 1 := by unfold inI; omega
  have b3 : inI 3 := by unfold inI; omega
  have b4 : inI 4 := by unfold inI; omega
  have b9 : inI 9 := by unfold inI; omega
  refine ⟨h, ?_⟩
  rw [E_law29_awake, rep_event 2 0 1 1 1 0 0 0 0 0 3 9 4 0 b0 b1 b1 b1 b0 b0 b0 b0 b3 b9 b4, st]
  have hw : wordB 2 = [102, 105, 108, 108] := by decide
  have hl : lineB 2 (wordB 2) 0 1 1 1 0 0 0 0 0 3 9 4 0 = [52, 32, 102, 105, 108, 108, 32, 48, 32, 49, 32, 119, 105, 116, 104, 32, 49, 32, 49, 32, 111, 102, 32, 51, 32, 97, 116, 32, 57] := by
    simp [lineB, tailB, hw, i0, i1, i3, i4, i9, un_cons, un_one, ofB]
  have hs : scmpF .eql (D.toStr (.str (toB (lineB 2 (wordB 2) 0 1 1 1 0 0 0 0 0 3 9 4 0)))) (ByteArray.mk #[52, 32, 102, 105, 108, 108, 32, 48, 32, 49, 32, 119, 105, 116, 104, 32, 49, 32, 49, 32, 111, 102, 32, 51, 32, 97, 116, 32, 57]) = true := by
    have hb : (ByteArray.mk #[52, 32, 102, 105, 108, 108, 32, 48, 32, 49, 32, 119, 105, 116, 104, 32, 49, 32, 49, 32, 111, 102, 32, 51, 32, 97, 116, 32, 57]) = toB [52, 32, 102, 105, 108, 108, 32, 48, 32, 49, 32, 119, 105, 116, 104, 32, 49, 32, 49, 32, 111, 102, 32, 51, 32, 97, 116, 32, 57] := rfl
    rw [hl, hb, D.toStr_str]
    simp [scmpF]
  simp only [g0, hs, if_true]
  rw [E_law13_Awake, hh, st2]
  simp only [List.getD_cons_zero, st2]
  rfl
/-- The law: any event, and any terms, as lines. -/
theorem law (k c g o wi n s p l u q pr t e : Int) (hc : inI c) (hg : inI g) (ho : inI o) (hwi : inI wi) (hn : inI n) (hp : inI p) (hl : inI l) (hu : inI u) (hq : inI q) (hpr : inI pr) (ht : inI t) :
    FX 3 [.int k, .int c, .int g, .int o, .int wi, .int n, .int s, .int p, .int l, .int u, .int q, .int pr, .int t, .int e] = some [.bool true] := by
  obtain ⟨h, hh⟩ := awake_ok
  have st : ∀ (a : D) (k : List D → Option (List D)), bindC (some [a]) 1 k = k [a] := fun a k => by simp [bindC]
  have st2 : ∀ (a b : D) (k : List D → Option (List D)), bindC (some [a, b]) 2 k = k [a, b] := fun a b k => by simp [bindC]
  have g0 : ∀ a : D, ([a] : List D).getD 0 .nil = a := fun a => rfl
  have sc : ∀ x : ByteArray, scmpF .eql x x = true := fun x => by simp [scmpF]
  rw [E_law29_ReportEvents, hh, st2, rep_event k c g o wi n s p l u q pr t e hc hg ho hwi hn hp hl hu hq hpr ht, ref_event k c g o wi n s p l u q pr t e hc hg ho hwi hn hp hl hu hq hpr ht, terms_r n s p l u hn hp hl hu, terms_ref n s p l u hn hp hl hu]
  simp only [st, g0, sc, if_true, List.getD_cons_zero, D.toBool_bool]
end Go.Proofs.YtilkbgdfndifgaaGreatDoor.RepD
