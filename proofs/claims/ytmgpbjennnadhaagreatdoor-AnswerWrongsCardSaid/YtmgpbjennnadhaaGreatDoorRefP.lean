/-
  The document's answer.Print on data, of a right reply.
-/
import Derived.Test.YtmgpbjennnadhaaGreatDoorAnsR
import Derived.Test.YtmgpbjennnadhaaGreatDoorRefNum
namespace Go.Proofs.YtmgpbjennnadhaaGreatDoor.AnsD
open Go.Proofs.YtmgpbjennnadhaaGreatDoor.Eng Go.Proofs.YtmgpbjennnadhaaGreatDoor.Dat Go.Proofs.YtmgpbjennnadhaaGreatDoor Go.Proofs.YtmgpbjennnadhaaGreatDoor.WordP Go.Proofs.YtmgpbjennnadhaaGreatDoor.StrL Go.Proofs.YtmgpbjennnadhaaGreatDoor.RefD
open Go.Lib (decDigits itoa nDigits)
set_option linter.unusedVariables false
set_option linter.unusedSimpArgs false

/-- Two texts, neither too long, are put together. -/
theorem cat3 {a b : Nat} {x : Option (List D)} {i1 : Decidable (IntKind.i64.wrap ((a : Int) + (b : Int)) ≤ (4611686018427387903 : Int))} {i2 : Decidable ((a : Int) ≤ 4611686018427387903)} {i3 : Decidable ((b : Int) ≤ 4611686018427387903)} (h : a + b ≤ 1000000000) :
    (if (@decide _ i1) = true then if (@decide _ i2) = true then if (@decide _ i3) = true then x else none else none else none) = x := by
  have e : IntKind.i64.wrap ((a : Int) + (b : Int)) = ((a + b : Nat) : Int) := by rw [i64w _ (by omega) (by omega)]; omega
  have h1 : IntKind.i64.wrap ((a : Int) + (b : Int)) ≤ (4611686018427387903 : Int) := by rw [e]; omega
  have h2 : ((a : Int) ≤ 4611686018427387903) := by omega
  have h3 : ((b : Int) ≤ 4611686018427387903) := by omega
  rw [if_pos (decide_eq_true h1), if_pos (decide_eq_true h2), if_pos (decide_eq_true h3)]
theorem bS1 (a : D) (k : List D → Option (List D)) : bindC (some [a]) 1 k = k [a] := rfl
theorem bS2 (a b : D) (k : List D → Option (List D)) : bindC (some [a, b]) 2 k = k [a, b] := rfl
theorem un_app : ∀ {a b : List Bs}, a ≠ [] → b ≠ [] → un (a ++ b) = un a ++ 32 :: un b
  | [], _, h, _ => absurd rfl h
  | [w], b, _, hb => by rw [List.singleton_append, un_cons' hb, un_one]
  | w :: v :: a, b, _, hb => by
    have ih := un_app (a := v :: a) (b := b) (by simp) hb
    rw [List.cons_append, un_cons' (by simp), ih, un_cons]
    simp
theorem un_snoc {a : List Bs} (w : Bs) (h : a ≠ []) : un (a ++ [w]) = un a ++ [32] ++ w := by rw [un_app h (by simp), un_one]; simp
theorem un_len {ws : List Bs} (h : ∀ w ∈ ws, w.length ≤ 20) : (un ws).length ≤ 21 * ws.length := by
  cases ws with
  | nil => simp [un_nil]
  | cons w ws =>
    have h1 := span_un (w := w) (ws := ws)
    have h2 := span_short h
    omega
theorem dec_most {n : Int} (h : most n) : FX 29 [.int n] = some [.str (toB (decI n))] := by
  obtain ⟨m, rfl⟩ := Int.eq_ofNat_of_zero_le h.1
  have := h.2
  exact dec_eq m (by omega)
theorem name6 {k : Int} (h : k = 0 ∨ k = 1 ∨ k = 5 ∨ k = 6 ∨ k = 7 ∨ k = 8) : FX 31 [.int k] = some [.str (toB (lookB k))] := by
  rw [E_ref06_Name]
  rcases h with rfl | rfl | rfl | rfl | rfl | rfl <;> rfl
theorem name8 {k : Int} (h : 0 ≤ k ∧ k ≤ 5) : FX 30 [.int k] = some [.str (toB (recB k))] := by
  have : k = 0 ∨ k = 1 ∨ k = 2 ∨ k = 3 ∨ k = 4 ∨ k = 5 := by omega
  rw [E_ref08_Name]
  rcases this with rfl | rfl | rfl | rfl | rfl | rfl <;> rfl
theorem short_snoc {ws : List Bs} {w : Bs} (h : ∀ w ∈ ws, w.length ≤ 20) (hw : w.length ≤ 20) : ∀ v ∈ ws ++ [w], v.length ≤ 20 := by
  intro v hv
  rcases List.mem_append.1 hv with hv | hv
  · exact h v hv
  · rw [List.mem_singleton.1 hv]; exact hw
theorem refp3 (x0 x1 x2 x3 x4 x5 x6 x7 x8 x9 x10 x11 x13 x14 x15 : D) (L : List (Int × Int × Int)) (hL : ∀ l ∈ L, lookRight l) (hl : L.length ≤ 1000) : ∀ (n i : Nat) (acc : List Bs), n + i = L.length → acc ≠ [] → acc.length ≤ 10 + 3 * i → (∀ w ∈ acc, w.length ≤ 20) →
    W_ref16_Print_3 x0 x1 x2 x3 x4 x5 x6 x7 x8 x9 x10 x11 (looksD L) x13 x14 x15 [.str (toB (un acc)), .int (i : Nat)] = some [.str (toB (un (acc ++ looksW (L.drop i))))]
  | 0, i, acc, h, hne, ha, hs => by
    have h1 : ¬ ((i : Nat) : Int) < (L.length : Int) := by omega
    have hd : L.drop i = [] := List.drop_eq_nil_of_le (by omega)
    rw [W_ref16_Print_3_eq, hd]
    have e : acc ++ looksW [] = acc := by simp [looksW]
    rw [e]
    simp only [D.toInt_int, looks_len, h1, decide_false, Bool.false_eq_true, if_false]
  | n + 1, i, acc, h, hne, ha, hs => by
    have hlt : i < L.length := by omega
    have hx : L[i]? = some L[i] := List.getElem?_eq_getElem hlt
    have h1 : ((i : Nat) : Int) < (L.length : Int) := by omega
    have h2 : ((i : Nat) : Int) ≥ 0 := by omega
    have hw : IntKind.i64.wrap ((i : Nat) + 1 : Int) = ((i + 1 : Nat) : Int) := by rw [wrap_small _ (by omega) (by omega)]; omega
    have hr := hL L[i] (List.getElem_mem hlt)
    rw [List.drop_eq_getElem_cons hlt]
    generalize L[i] = x at hx hr
    have l1 : (decI x.2.1).length ≤ 20 := decI_len (by have := hr.2.1.2; omega)
    have l2 : (decI x.2.2).length ≤ 20 := decI_len (by have := hr.2.2.2; omega)
    have l3 := lookB_len x.1
    have la := un_len hs
    have e : acc ++ looksW (x :: L.drop (i + 1)) = (acc ++ [lookB x.1] ++ [decI x.2.1] ++ [decI x.2.2]) ++ looksW (L.drop (i + 1)) := by simp [looksW]
    have es : un acc ++ [32] ++ lookB x.1 ++ [32] ++ decI x.2.1 ++ [32] ++ decI x.2.2 = un (acc ++ [lookB x.1] ++ [decI x.2.1] ++ [decI x.2.2]) := by
      rw [un_snoc _ (by simp), un_snoc _ (by simp), un_snoc _ hne]
    have ih := refp3 x0 x1 x2 x3 x4 x5 x6 x7 x8 x9 x10 x11 x13 x14 x15 L hL hl n (i + 1) (acc ++ [lookB x.1] ++ [decI x.2.1] ++ [decI x.2.2]) (by omega) (by simp) (by simp; omega) (short_snoc (short_snoc (short_snoc hs l3) l1) l2)
    have z32 : ByteArray.mk #[32] = toB [32] := rfl
    rw [e, W_ref16_Print_3_eq]
    simp only [D.toInt_int, looks_len, h1, h2, decide_true, if_true, Int.toNat_natCast, look_get hx, lookD, D.toL_agg, List.getD_cons_zero, List.getD_cons_succ, name6 hr.1, dec_most hr.2.1, dec_most hr.2.2, bS1, D.toStr_str, z32, append_toB, toB_size, hw, es, ih]
    refine (cat3 (by simp; omega)).trans ?_
    refine (cat3 (by simp; omega)).trans ?_
    refine (cat3 (by simp; omega)).trans ?_
    refine (cat3 (by simp; omega)).trans ?_
    refine (cat3 (by simp; omega)).trans ?_
    exact cat3 (by simp; omega)
theorem refp2 (r : Rep) (h : r.Right) (hc : r.code ≤ 9223372036854775807) (hl : r.looks.length ≤ 1000) (x13 x14 : D) (acc : List Bs) (hne : acc ≠ []) (ha : acc.length ≤ 10) (hs : ∀ w ∈ acc, w.length ≤ 20) :
    J_ref16_Print_2 (.int r.kind) (.int r.code) (.int r.tick) (.int r.id) (.int r.cell) (.bool r.asked) (.int r.rk) (.int r.rq) (.int r.rp) (.int r.rt) (.int r.rc) (.int r.rg) (looksD r.looks) x13 x14 [.str (toB (un acc))] = some [.str (toB (un (acc ++ r.tail)))] := by
  have la := un_len hs
  have z32 : ByteArray.mk #[32] = toB [32] := rfl
  have ze : ByteArray.mk #[32, 101, 114, 114, 111, 114, 32] = toB (32 :: errorB ++ [32]) := rfl
  have za : ByteArray.mk #[32, 97, 115, 107, 101, 100] = toB (32 :: askedB) := rfl
  have zo : ByteArray.mk #[32, 111, 107] = toB (32 :: okB) := rfl
  have lE : errorB.length = 5 := rfl
  have lA : askedB.length = 5 := rfl
  have lO : okB.length = 2 := rfl
  rw [J_ref16_Print_2_eq]
  simp only [D.toInt_int, D.toBool_bool]
  refine cutI (fun k => ?_) fun k => ?_
  · replace k : r.code ≠ 0 := by simpa using k
    have et : r.tail = [errorB, decI r.code] := by unfold Rep.tail; rw [if_pos k]
    have hd : FX 29 [.int r.code] = some [.str (toB (decI r.code))] := by
      have h0 := h.code
      obtain ⟨m, hm⟩ := Int.eq_ofNat_of_zero_le h0
      rw [hm]
      exact dec_eq m (by omega)
    have ld : (decI r.code).length ≤ 20 := decI_len hc
    have es : un acc ++ (32 :: errorB ++ [32]) ++ decI r.code = un (acc ++ [errorB, decI r.code]) := by
      rw [un_app hne (by simp), un_cons, un_one]; simp
    rw [et]
    simp only [hd, bS1, D.toStr_str, ze, append_toB, toB_size, es, List.getD_cons_zero]
    refine (cat3 (by simp; omega)).trans ?_
    exact cat3 (by simp; omega)
  replace k : r.code = 0 := by simpa using k
  have nk : ¬ r.code ≠ 0 := fun h => h k
  refine cutI (fun k2 => ?_) fun k2 => ?_
  · have et : r.tail = [askedB] := by unfold Rep.tail; rw [if_neg nk, if_pos k2]
    have es : un acc ++ 32 :: askedB = un (acc ++ [askedB]) := by rw [un_snoc _ hne]; simp
    rw [et]
    simp only [D.toStr_str, za, append_toB, toB_size, es]
    exact cat3 (by simp; omega)
  refine cutI (fun k3 => ?_) fun k3 => ?_
  · replace k3 := dT k3
    have et : r.tail = [okB] := by unfold Rep.tail; rw [if_neg nk, if_neg k2, if_pos k3]
    have es : un acc ++ 32 :: okB = un (acc ++ [okB]) := by rw [un_snoc _ hne]; simp
    rw [et]
    simp only [D.toStr_str, zo, append_toB, toB_size, es]
    exact cat3 (by simp; omega)
  replace k3 := dF k3
  refine cutI (fun k4 => ?_) fun k4 => ?_
  · replace k4 : r.kind = 3 := by simpa using k4
    have et : r.tail = recB r.rk :: (if 0 < r.rk then [decI r.rq, decI r.rp, decI r.rt] else []) := by unfold Rep.tail; rw [if_neg nk, if_neg k2, if_neg k3, if_pos k4]
    have r5 := h.rk5
    have lr := recB_len r.rk
    by_cases k5 : 0 < r.rk
    · have : most r.rq ∧ most r.rp ∧ most r.rt := by
        rcases h.rcd with h | h
        · omega
        · exact ⟨h.2.2.2.1, h.2.2.2.2.1, h.2.2.2.2.2.1⟩
      obtain ⟨hq, hp, htk⟩ := this
      have lq : (decI r.rq).length ≤ 20 := decI_len (by have := hq.2; omega)
      have lp : (decI r.rp).length ≤ 20 := decI_len (by have := hp.2; omega)
      have lt : (decI r.rt).length ≤ 20 := decI_len (by have := htk.2; omega)
      have es : un acc ++ [32] ++ recB r.rk ++ [32] ++ decI r.rq ++ [32] ++ decI r.rp ++ [32] ++ decI r.rt = un (acc ++ [recB r.rk, decI r.rq, decI r.rp, decI r.rt]) := by
        have : acc ++ [recB r.rk, decI r.rq, decI r.rp, decI r.rt] = acc ++ [recB r.rk] ++ [decI r.rq] ++ [decI r.rp] ++ [decI r.rt] := by simp
        rw [this, un_snoc _ (by simp), un_snoc _ (by simp), un_snoc _ (by simp), un_snoc _ hne]
      have k5' : r.rk > 0 := k5
      rw [et, if_pos k5]
      simp only [name8 r5, dec_most hq, dec_most hp, dec_most htk, bS1, D.toStr_str, z32, append_toB, toB_size, es, k5', decide_true, if_true, List.getD_cons_zero]
      refine (cat3 (by simp; omega)).trans ?_
      refine (cat3 (by simp; omega)).trans ?_
      refine (cat3 (by simp; omega)).trans ?_
      refine (cat3 (by simp; omega)).trans ?_
      refine (cat3 (by simp; omega)).trans ?_
      refine (cat3 (by simp; omega)).trans ?_
      refine (cat3 (by simp; omega)).trans ?_
      exact cat3 (by simp; omega)
    · have k5' : ¬ r.rk > 0 := k5
      have es : un acc ++ [32] ++ recB r.rk = un (acc ++ [recB r.rk]) := by rw [un_snoc _ hne]
      rw [et, if_neg k5]
      simp only [name8 r5, bS1, D.toStr_str, z32, append_toB, toB_size, es, k5', decide_false, Bool.false_eq_true, if_false, List.getD_cons_zero]
      refine (cat3 (by simp; omega)).trans ?_
      exact cat3 (by simp; omega)
  · replace k4 : r.kind ≠ 3 := by simpa using k4
    have hk := h.kind
    have et : r.tail = looksW r.looks := by unfold Rep.tail; rw [if_neg nk, if_neg k2, if_neg k3, if_neg k4]
    rw [et]
    have := refp3 (.int r.kind) (.int r.code) (.int r.tick) (.int r.id) (.int r.cell) (.bool r.asked) (.int r.rk) (.int r.rq) (.int r.rp) (.int r.rt) (.int r.rc) (.int r.rg) x13 x14 (.str (toB (un acc))) r.looks (fun l hl => (h.looks l hl).2.2) hl r.looks.length 0 acc (by omega) hne (by omega) hs
    rw [List.drop_zero] at this
    exact this
theorem refPrint_eq (r : Rep) (h : r.Right) (hc : r.code ≤ 9223372036854775807) (hl : r.looks.length ≤ 1000) : FX 11 (dsOf r) = some [.str (toB (un r.words))] := by
  have hk := h.kind
  have mt : most r.tick := ⟨h.tick.1, by have := h.tick.2; omega⟩
  have lt : (decI r.tick).length ≤ 20 := decI_len (by have := mt.2; omega)
  have li : (decI r.id).length ≤ 20 := decI_len (by have := h.id.2; omega)
  have lc : (decI r.cell).length ≤ 20 := decI_len (by have := h.cell.2; omega)
  have lv := verbK_len r.kind
  have z32 : ByteArray.mk #[32] = toB [32] := rfl
  have w0 : IntKind.i64.wrap (r.kind - 1) = r.kind - 1 := i64w _ (by omega) (by omega)
  have hv : [D.str (ByteArray.mk #[115, 117, 98, 109, 105, 116]), D.str (ByteArray.mk #[99, 97, 110, 99, 101, 108]), D.str (ByteArray.mk #[112, 111, 108, 108]), D.str (ByteArray.mk #[118, 105, 101, 119])].getD (r.kind - 1).toNat .nil = .str (toB (verbK r.kind)) := by
    rcases hk with k | k | k | k <;> rw [k] <;> rfl
  have g1 : r.kind - 1 ≥ 0 := by omega
  have g2 : r.kind - 1 < ((0 + 1 + 1 + 1 + 1 : Nat) : Int) := by omega
  have s2 : ∀ w ∈ [decI r.tick, verbK r.kind], w.length ≤ 20 := by
    intro w hw
    simp only [List.mem_cons, List.not_mem_nil, or_false] at hw
    rcases hw with rfl | rfl
    · exact lt
    · exact lv
  have e2 : decI r.tick ++ [32] ++ verbK r.kind = un [decI r.tick, verbK r.kind] := by rw [un_cons, un_one]; simp
  have l2 : (un [decI r.tick, verbK r.kind]).length ≤ 42 := un_len s2
  unfold dsOf
  rw [E_ref16_Print]
  simp only [dec_most mt, bS1, D.toInt_int, w0, D.toL_agg, hv, List.length_cons, List.length_nil, g1, g2, decide_true, if_true, List.getD_cons_zero, D.toStr_str, z32, append_toB, toB_size, e2]
  refine (cat3 (by simp; omega)).trans ?_
  refine (cat3 (by simp; omega)).trans ?_
  have J1 : ∀ (x13 : D) (acc : List Bs), acc ≠ [] → acc.length ≤ 5 → (∀ w ∈ acc, w.length ≤ 20) → J_ref16_Print_1 (.int r.kind) (.int r.code) (.int r.tick) (.int r.id) (.int r.cell) (.bool r.asked) (.int r.rk) (.int r.rq) (.int r.rp) (.int r.rt) (.int r.rc) (.int r.rg) (looksD r.looks) x13 [.str (toB (un acc))] =
      some [.str (toB (un (acc ++ (if r.kind ≤ 3 then [decI r.cell] else []) ++ r.tail)))] := by
    intro x13 acc hne ha hs
    have la := un_len hs
    rw [J_ref16_Print_1_eq]
    simp only [D.toInt_int]
    refine cutI (fun k => ?_) fun k => ?_
    · replace k := dT k
      have es : un acc ++ [32] ++ decI r.cell = un (acc ++ [decI r.cell]) := by rw [un_snoc _ hne]
      rw [if_pos k]
      simp only [dec_most h.cell, bS1, D.toStr_str, z32, append_toB, toB_size, es, List.getD_cons_zero]
      refine (cat3 (by simp; omega)).trans ?_
      refine (cat3 (by simp; omega)).trans ?_
      exact refp2 r h hc hl _ _ _ (by simp) (by simp; omega) (short_snoc hs lc)
    · replace k := dF k
      rw [if_neg k, List.append_nil]
      exact refp2 r h hc hl _ _ _ hne (by omega) hs
  refine cutI (fun k => ?_) fun k => ?_
  · replace k := dT k
    have es : un [decI r.tick, verbK r.kind] ++ [32] ++ decI r.id = un ([decI r.tick, verbK r.kind] ++ [decI r.id]) := by rw [un_snoc _ (by simp)]
    have ew : r.words = [decI r.tick, verbK r.kind] ++ [decI r.id] ++ (if r.kind ≤ 3 then [decI r.cell] else []) ++ r.tail := by unfold Rep.words; rw [if_pos k]; simp
    simp only [dec_most h.id, bS1, es, List.getD_cons_zero, D.toStr_str, append_toB, toB_size]
    refine (cat3 (by simp; omega)).trans ?_
    refine (cat3 (by simp; omega)).trans ?_
    rw [ew]
    exact J1 _ _ (by simp) (by simp) (short_snoc s2 li)
  · replace k := dF k
    have ew : r.words = [decI r.tick, verbK r.kind] ++ (if r.kind ≤ 3 then [decI r.cell] else []) ++ r.tail := by unfold Rep.words; rw [if_neg k]; simp
    rw [ew]
    exact J1 _ _ (by simp) (by simp) s2
end Go.Proofs.YtmgpbjennnadhaaGreatDoor.AnsD
