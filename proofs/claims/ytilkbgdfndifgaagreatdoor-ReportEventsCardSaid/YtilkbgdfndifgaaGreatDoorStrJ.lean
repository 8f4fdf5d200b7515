/-
  Numbers and words on data: what strconv.Itoa and strings.Join give.
-/
import Derived.Test.YtilkbgdfndifgaaGreatDoorAllE
import Derived.Test.YtilkbgdfndifgaaGreatDoorDat
import Derived.Test.YtilkbgdfndifgaaGreatDoorPrintP
namespace Go.Proofs.YtilkbgdfndifgaaGreatDoor.StrL
open Go.Proofs.YtilkbgdfndifgaaGreatDoor.Eng Go.Proofs.YtilkbgdfndifgaaGreatDoor Go.Proofs.YtilkbgdfndifgaaGreatDoor.Dat Go.Proofs.YtilkbgdfndifgaaGreatDoor.WordP
open Go.Lib (decDigits itoa nDigits)
set_option linter.unusedVariables false
set_option linter.unusedSimpArgs false

def wD (W : List Bs) : D := .agg (W.map fun w => .str (toB w))
theorem itoa_eq (ds : List D) : FX 17 ds = StrD.itoaF ds := by
  have h : FX 17 = StrD.base 17 := fix_base (by rfl)
  rw [h]; rfl
theorem join_eq (ds : List D) : FX 19 ds = StrD.joinF ds := by
  have h : FX 19 = StrD.base 19 := fix_base (by rfl)
  rw [h]; rfl
theorem itoa_big (n : Int) (h0 : 0 ≤ n) (h1 : n ≤ 9223372036854775807) : FX 17 [.int n] = some [.str (toB (decDigits n.toNat))] := by
  rw [itoa_eq]
  unfold StrD.itoaF
  have : -9223372036854775808 ≤ n ∧ n ≤ 9223372036854775807 := by omega
  have h2 : ¬ n < 0 := by omega
  simp only [this, and_self, if_true, itoa, h2, if_false]
  rfl
theorem itoa_nat (n : Int) (h0 : 0 ≤ n) (h1 : n ≤ 9999999) : FX 17 [.int n] = some [.str (toB (decDigits n.toNat))] := itoa_big n h0 (by omega)
theorem nDigits_le : ∀ (k n : Nat), 1 ≤ k → n < 10 ^ k → nDigits n ≤ k
  | 0, n, h, _ => absurd h (by omega)
  | k + 1, n, _, h => by
    by_cases hn : n < 10
    · rw [Go.Lib.nDigits_small hn]; omega
    · rw [Go.Lib.nDigits_big hn]
      cases k with
      | zero => simp at h; omega
      | succ k =>
        have := nDigits_le (k + 1) (n / 10) (by omega) (by rw [Nat.pow_succ] at h; omega)
        omega
theorem dec_len {n : Nat} (h : n ≤ 9223372036854775807) : (decDigits n).length ≤ 19 := by
  rw [Go.Lib.decDigits_length]
  exact nDigits_le 19 n (by omega) (Nat.lt_of_le_of_lt h (by decide))
theorem span_short {ws : List Bs} (h : ∀ w ∈ ws, w.length ≤ 20) : span ws ≤ 21 * ws.length := by
  induction ws with
  | nil => simp [span]
  | cons w l ih =>
    have h1 := h w (List.mem_cons_self ..)
    have h2 := ih fun x hx => h x (List.mem_cons_of_mem _ hx)
    simp only [span, List.map_cons, List.sum_cons, List.length_cons] at h2 ⊢
    omega
theorem span_ge (ws : List Bs) : ws.length ≤ span ws := by
  induction ws with
  | nil => simp [span]
  | cons w l ih => simp only [span, List.map_cons, List.sum_cons, List.length_cons] at ih ⊢; omega
theorem join_words (ws : List Bs) (h : span ws ≤ 1000000) : FX 19 [wD ws, .str (toB [32])] = some [.str (toB (un ws))] := by
  rw [join_eq]
  unfold StrD.joinF wD
  have hg := span_ge ws
  have e1 : (List.map (fun x : D => x.toStr.data.toList) (List.map (fun w => D.str (toB w)) ws)) = ws := by
    rw [List.map_map]
    have : ((fun x : D => x.toStr.data.toList) ∘ fun w => D.str (toB w)) = id := by funext w; simp
    rw [this, List.map_id]
  have e2 : (Go.Lib.join ws [32]).length ≤ 140737488355328 := by
    cases ws with
    | nil => simp [Go.Lib.join_nil]
    | cons w ws => have := span_un (w := w) (ws := ws); unfold un at this; omega
  simp only [e1, toB_list, List.length_map]
  rw [if_pos ⟨by omega, e2⟩]
  rfl
theorem wD_snoc (acc : List Bs) (w : Bs) : D.agg ((wD acc).toL ++ [D.str (toB w)]) = wD (acc ++ [w]) := by simp [wD]
theorem wD_two (acc : List Bs) (v w : Bs) : D.agg ((wD acc).toL ++ [D.str (toB v)] ++ [D.str (toB w)]) = wD (acc ++ [v] ++ [w]) := by simp [wD]
theorem wD_lenN (acc : List Bs) : (wD acc).toL.length = acc.length := by simp [wD]
theorem span_snoc (acc : List Bs) (w : Bs) : span (acc ++ [w]) = span acc + w.length + 1 := by simp [span]; omega
theorem itoa_any (n : Int) (h1 : -9223372036854775808 ≤ n) (h2 : n ≤ 9223372036854775807) : FX 17 [.int n] = some [.str (toB (itoa n))] := by
  rw [itoa_eq]
  unfold StrD.itoaF
  have : -9223372036854775808 ≤ n ∧ n ≤ 9223372036854775807 := ⟨h1, h2⟩
  simp only [this, and_self, if_true]
  rfl
end Go.Proofs.YtilkbgdfndifgaaGreatDoor.StrL
