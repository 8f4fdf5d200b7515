/-
  answer.Print on data.
-/
import Derived.Test.YtmgpbjennnadhaaGreatDoorAnsA
import Derived.Test.YtmgpbjennnadhaaGreatDoorStrD
namespace Go.Proofs.YtmgpbjennnadhaaGreatDoor.AnsD
open Go.Proofs.YtmgpbjennnadhaaGreatDoor.Eng Go.Proofs.YtmgpbjennnadhaaGreatDoor.Dat Go.Proofs.YtmgpbjennnadhaaGreatDoor Go.Proofs.YtmgpbjennnadhaaGreatDoor.WordP Go.Proofs.YtmgpbjennnadhaaGreatDoor.StrL
open Go.Lib (decDigits itoa nDigits)
set_option linter.unusedVariables false
set_option linter.unusedSimpArgs false

theorem i01 : ((0 : Int) < ((0 + 1 : Nat) : Int)) := by decide
theorem i02 : ((0 : Int) < ((0 + 1 + 1 : Nat) : Int)) := by decide
theorem i12 : ((1 : Int) < ((0 + 1 + 1 : Nat) : Int)) := by decide
theorem i03 : ((0 : Int) < ((0 + 1 + 1 + 1 : Nat) : Int)) := by decide
theorem i13 : ((1 : Int) < ((0 + 1 + 1 + 1 : Nat) : Int)) := by decide
theorem i23 : ((2 : Int) < ((0 + 1 + 1 + 1 : Nat) : Int)) := by decide
theorem i33 : ¬ ((3 : Int) < ((0 + 1 + 1 + 1 : Nat) : Int)) := by decide
theorem i22 : ¬ ((2 : Int) < ((0 + 1 + 1 : Nat) : Int)) := by decide
theorem i11 : ¬ ((1 : Int) < ((0 + 1 : Nat) : Int)) := by decide
theorem g00 : ((0 : Int) ≥ 0) := by decide
theorem g10 : ((1 : Int) ≥ 0) := by decide
theorem g20 : ((2 : Int) ≥ 0) := by decide
theorem w01 : IntKind.i64.wrap ((0 : Int) + 1) = 1 := by decide
theorem w12 : IntKind.i64.wrap ((1 : Int) + 1) = 2 := by decide
theorem w23 : IntKind.i64.wrap ((2 : Int) + 1) = 3 := by decide
theorem n0 : (0 : Int).toNat = 0 := rfl
theorem n1 : (1 : Int).toNat = 1 := rfl
theorem n2 : (2 : Int).toNat = 2 := rfl
theorem bw (acc : List Bs) (h : acc.length ≤ 1000000) : (((wD acc).toL.length : Int) ≤ 8796093022208) := by rw [wD_lenN]; omega
theorem dec_it {n : Int} (h : most n) : FX 20 [.int n] = some [.str (toB (decI n))] := itoa_nat n h.1 h.2
theorem print6 (x0 x1 x2 x4 x5 x6 x7 x8 x9 x10 x11 x12 x13 x14 x15 : D) (n m : Int) (hn : most n) (hm : most m) (g0 : Eng.Fn) (acc : List Bs) (ha : acc.length ≤ 1000) :
    W_answer_Print_6 x0 x1 x2 (.int n) (.int m) x5 x6 x7 x8 x9 x10 x11 x12 x13 x14 x15 g0 [.int 0, wD acc] = g0 [wD (acc ++ [decI n] ++ [decI m])] := by
  rw [W_answer_Print_6_eq]
  simp only [D.toInt_int, D.toL_agg, List.length_cons, List.length_nil, i01, g00, if_true, n0, List.getD_cons_zero, dec_it hn, bindC, bw (acc ++ [decI n]) (by simp; omega), decide_true, wD_snoc, w01]
  rw [W_answer_Print_6_eq]
  simp only [D.toInt_int, D.toL_agg, List.length_cons, List.length_nil, i11, decide_false, Bool.false_eq_true, if_false]
  rw [W_answer_Print_7_eq]
  simp only [D.toInt_int, D.toL_agg, List.length_cons, List.length_nil, i01, g00, if_true, n0, List.getD_cons_zero, dec_it hm, bindC, bw (acc ++ [decI n] ++ [decI m]) (by simp; omega), decide_true, wD_snoc, w01]
  rw [W_answer_Print_7_eq]
  simp only [D.toInt_int, D.toL_agg, List.length_cons, List.length_nil, i11, decide_false, Bool.false_eq_true, if_false]
theorem print8 (x0 x1 x2 x4 x5 x6 x7 x8 x9 x10 x11 x12 x13 x14 x15 : D) (n m : Int) (hn : most n) (hm : most m) (g0 : Eng.Fn) (acc : List Bs) (ha : acc.length ≤ 1000) :
    W_answer_Print_8 x0 x1 x2 (.int n) (.int m) x5 x6 x7 x8 x9 x10 x11 x12 x13 x14 x15 g0 [.int 0, wD acc] = g0 [wD (acc ++ [decI n] ++ [decI m])] := by
  rw [W_answer_Print_8_eq]
  simp only [D.toInt_int, D.toL_agg, List.length_cons, List.length_nil, i01, g00, if_true, n0, List.getD_cons_zero, dec_it hn, bindC, bw (acc ++ [decI n]) (by simp; omega), decide_true, wD_snoc, w01]
  rw [W_answer_Print_8_eq]
  simp only [D.toInt_int, D.toL_agg, List.length_cons, List.length_nil, i11, decide_false, Bool.false_eq_true, if_false]
  rw [W_answer_Print_9_eq]
  simp only [D.toInt_int, D.toL_agg, List.length_cons, List.length_nil, i01, g00, if_true, n0, List.getD_cons_zero, dec_it hm, bindC, bw (acc ++ [decI n] ++ [decI m]) (by simp; omega), decide_true, wD_snoc, w01]
  rw [W_answer_Print_9_eq]
  simp only [D.toInt_int, D.toL_agg, List.length_cons, List.length_nil, i11, decide_false, Bool.false_eq_true, if_false]
theorem print10 (x0 x1 x2 x3 x5 x6 x7 x8 x9 x10 x11 x12 x13 x14 x15 : D) (m : Int) (hm : most m) (g0 : Eng.Fn) (acc : List Bs) (ha : acc.length ≤ 1000) :
    W_answer_Print_10 x0 x1 x2 x3 (.int m) x5 x6 x7 x8 x9 x10 x11 x12 x13 x14 x15 g0 [.int 0, wD acc] = g0 [wD (acc ++ [decI m])] := by
  rw [W_answer_Print_10_eq]
  simp only [D.toInt_int, D.toL_agg, List.length_cons, List.length_nil, i01, g00, if_true, n0, List.getD_cons_zero, dec_it hm, bindC, bw (acc ++ [decI m]) (by simp; omega), decide_true, wD_snoc, w01]
  rw [W_answer_Print_10_eq]
  simp only [D.toInt_int, D.toL_agg, List.length_cons, List.length_nil, i11, decide_false, Bool.false_eq_true, if_false]
theorem short_span {ws : List Bs} (h : ∀ w ∈ ws, w.length ≤ 20) (hl : ws.length ≤ 10000) : span ws ≤ 1000000 := by
  have := span_short h
  omega
theorem join_short {ws : List Bs} (h : ∀ w ∈ ws, w.length ≤ 20) (hl : ws.length ≤ 10000) : FX 25 [wD ws, .str (ByteArray.mk #[32])] = some [.str (toB (un ws))] := join_words ws (short_span h hl)
theorem print3 (x0 x1 x2 x3 x4 x5 x6 x10 x11 x12 x13 x14 x15 x16 x17 : D) (q p t : Int) (hq : most q) (hp : most p) (ht : most t) (acc : List Bs) (ha : acc.length ≤ 1000)
    (hs : ∀ w ∈ acc ++ [decI q] ++ [decI p] ++ [decI t], w.length ≤ 20) :
    W_answer_Print_3 x0 x1 x2 x3 x4 x5 x6 (.int q) (.int p) (.int t) x10 x11 x12 x13 x14 x15 x16 x17 [.int 0, wD acc] = some [.str (toB (un (acc ++ [decI q] ++ [decI p] ++ [decI t]))), .nil] := by
  rw [W_answer_Print_3_eq]
  simp only [D.toInt_int, D.toL_agg, List.length_cons, List.length_nil, i03, g00, if_true, n0, List.getD_cons_zero, dec_it hq, bindC, bw (acc ++ [decI q]) (by simp; omega), decide_true, wD_snoc, w01]
  rw [W_answer_Print_3_eq]
  simp only [D.toInt_int, D.toL_agg, List.length_cons, List.length_nil, i13, g10, if_true, n1, List.getD_cons_zero, List.getD_cons_succ, dec_it hp, bindC, bw (acc ++ [decI q] ++ [decI p]) (by simp; omega), decide_true, wD_snoc, w12]
  rw [W_answer_Print_3_eq]
  simp only [D.toInt_int, D.toL_agg, List.length_cons, List.length_nil, i23, g20, if_true, n2, List.getD_cons_zero, List.getD_cons_succ, dec_it ht, bindC, bw (acc ++ [decI q] ++ [decI p] ++ [decI t]) (by simp; omega), decide_true, wD_snoc, w23]
  rw [W_answer_Print_3_eq]
  simp only [D.toInt_int, D.toL_agg, List.length_cons, List.length_nil, i33, decide_false, Bool.false_eq_true, if_false, join_short hs (by simp; omega), bindC, if_true, List.getD_cons_zero]
theorem print5 (x0 x1 x2 x3 x4 x5 x6 x7 x8 x9 x10 x11 x13 x14 x15 x16 x18 x19 : D) (L : List (Int × Int × Int)) (i : Nat) (x : Int × Int × Int) (hx : L[i]? = some x) (hn : most x.2.1) (hm : most x.2.2) (hi : i ≤ 1000000) (g0 : Eng.Fn) (acc : List Bs) (ha : acc.length ≤ 100000) :
    W_answer_Print_5 x0 x1 x2 x3 x4 x5 x6 x7 x8 x9 x10 x11 (looksD L) x13 x14 x15 x16 (.int (i : Nat)) x18 x19 g0 [.int 0, wD acc] = g0 [.int ((i + 1 : Nat) : Int), wD (acc ++ [decI x.2.1] ++ [decI x.2.2])] := by
  have hw : IntKind.i64.wrap ((i : Nat) + 1 : Int) = ((i + 1 : Nat) : Int) := by rw [wrap_small _ (by omega) (by omega)]; omega
  rw [W_answer_Print_5_eq]
  simp only [D.toInt_int, Int.toNat_natCast, look_get hx, lookD, D.toL_agg, List.length_cons, List.length_nil, i02, g00, if_true, n0, List.getD_cons_zero, List.getD_cons_succ, dec_it hn, bindC, bw (acc ++ [decI x.2.1]) (by simp; omega), decide_true, wD_snoc, w01]
  rw [W_answer_Print_5_eq]
  simp only [D.toInt_int, Int.toNat_natCast, look_get hx, lookD, D.toL_agg, List.length_cons, List.length_nil, i12, g10, if_true, n1, List.getD_cons_zero, List.getD_cons_succ, dec_it hm, bindC, bw (acc ++ [decI x.2.1] ++ [decI x.2.2]) (by simp; omega), decide_true, wD_snoc, w12]
  rw [W_answer_Print_5_eq]
  simp only [D.toInt_int, Int.toNat_natCast, look_get hx, lookD, D.toL_agg, List.length_cons, List.length_nil, i22, decide_false, Bool.false_eq_true, if_false, hw]
theorem print4 (x0 x1 x2 x3 x4 x5 x6 x7 x8 x9 x10 x11 x13 x14 x15 x16 : D) (L : List (Int × Int × Int)) (hL : ∀ l ∈ L, lookRight l) (hl : L.length ≤ 1000) : ∀ (n i : Nat) (acc : List Bs), n + i = L.length → acc.length ≤ 10 + 3 * i → (∀ w ∈ acc ++ looksW (L.drop i), w.length ≤ 20) →
    W_answer_Print_4 x0 x1 x2 x3 x4 x5 x6 x7 x8 x9 x10 x11 (looksD L) x13 x14 x15 x16 [.int (i : Nat), wD acc] = some [.str (toB (un (acc ++ looksW (L.drop i)))), .nil]
  | 0, i, acc, h, ha, hs => by
    have h1 : ¬ ((i : Nat) : Int) < (L.length : Int) := by omega
    have hd : L.drop i = [] := List.drop_eq_nil_of_le (by omega)
    rw [hd] at hs ⊢
    have e : acc ++ looksW [] = acc := by simp [looksW]
    rw [e] at hs ⊢
    rw [W_answer_Print_4_eq]
    simp only [D.toInt_int, looks_len, h1, decide_false, Bool.false_eq_true, if_false, join_short hs (by omega), bindC, List.length_cons, List.length_nil, if_true, List.getD_cons_zero]
  | n + 1, i, acc, h, ha, hs => by
    have hlt : i < L.length := by omega
    have hx : L[i]? = some L[i] := List.getElem?_eq_getElem hlt
    have h1 : ((i : Nat) : Int) < (L.length : Int) := by omega
    have h2 : ((i : Nat) : Int) ≥ 0 := by omega
    have hr := hL L[i] (List.getElem_mem hlt)
    rw [List.drop_eq_getElem_cons hlt] at hs ⊢
    generalize L[i] = x at hx hr hs
    have e : acc ++ looksW (x :: L.drop (i + 1)) = (acc ++ [lookB x.1] ++ [decI x.2.1] ++ [decI x.2.2]) ++ looksW (L.drop (i + 1)) := by simp [looksW]
    rw [e] at hs ⊢
    rw [W_answer_Print_4_eq]
    simp only [D.toInt_int, looks_len, h1, h2, decide_true, if_true, Int.toNat_natCast, look_get hx]
    simp only [lookD, D.toL_agg, List.getD_cons_zero, word_eq, bindC, List.length_cons, List.length_nil, if_true, bw (acc ++ [lookB x.1]) (by simp; omega), decide_true, wD_snoc]
    rw [print5 x0 x1 x2 x3 x4 x5 x6 x7 x8 x9 x10 x11 x13 x14 x15 x16 _ _ L i x hx hr.2.1 hr.2.2 (by omega) _ _ (by simp; omega)]
    exact print4 x0 x1 x2 x3 x4 x5 x6 x7 x8 x9 x10 x11 x13 x14 x15 x16 L hL hl n (i + 1) _ (by omega) (by simp; omega) hs
theorem rname_eq {k : Int} (h : 0 ≤ k ∧ k ≤ 5) : FX 23 [.int k] = some [.str (toB (recB k))] := by
  have : k = 0 ∨ k = 1 ∨ k = 2 ∨ k = 3 ∨ k = 4 ∨ k = 5 := by omega
  rw [E_record_Name]
  rcases this with rfl | rfl | rfl | rfl | rfl | rfl
  · rfl
  · rfl
  · simp only [D.toInt_int, show ((2 : Int) == 1) = false from rfl, show ((2 : Int) == 2) = true from rfl, Bool.false_eq_true, if_false, if_true, kind_eq 5 rfl]; rfl
  · simp only [D.toInt_int, show ((3 : Int) == 1) = false from rfl, show ((3 : Int) == 2) = false from rfl, show ((3 : Int) == 3) = true from rfl, Bool.false_eq_true, if_false, if_true, kind_eq 6 rfl]; rfl
  · simp only [D.toInt_int, show ((4 : Int) == 1) = false from rfl, show ((4 : Int) == 2) = false from rfl, show ((4 : Int) == 3) = false from rfl, show ((4 : Int) == 4) = true from rfl, Bool.false_eq_true, if_false, if_true, kind_eq 7 rfl]; rfl
  · simp only [D.toInt_int, show ((5 : Int) == 1) = false from rfl, show ((5 : Int) == 2) = false from rfl, show ((5 : Int) == 3) = false from rfl, show ((5 : Int) == 4) = false from rfl, show ((5 : Int) == 5) = true from rfl, Bool.false_eq_true, if_false, if_true, kind_eq 8 rfl]; rfl
theorem decI_len {n : Int} (h : n ≤ 9223372036854775807) : (decI n).length ≤ 20 := by
  have := dec_len (n := n.toNat) (by omega)
  unfold decI; omega
theorem lookB_len (k : Int) : (lookB k).length ≤ 20 := by unfold lookB; split; decide; split; decide; split; decide; split; decide; split; decide; split <;> decide
theorem recB_len (k : Int) : (recB k).length ≤ 20 := by unfold recB; split; decide; split; decide; split; decide; split; decide; split <;> decide
theorem verbK_len (k : Int) : (verbK k).length ≤ 20 := by unfold verbK; split; decide; split; decide; split <;> decide
theorem looksW_short : ∀ {L : List (Int × Int × Int)}, (∀ l ∈ L, lookRight l) → ∀ w ∈ looksW L, w.length ≤ 20
  | [], _, w, h => by simp [looksW] at h
  | x :: L, hL, w, h => by
    simp only [looksW, List.flatMap_cons, List.cons_append, List.nil_append, List.mem_cons] at h
    have hx := hL x (List.mem_cons_self ..)
    have m1 : x.2.1 ≤ 9999999 := hx.2.1.2
    have m2 : x.2.2 ≤ 9999999 := hx.2.2.2
    rcases h with rfl | rfl | rfl | h
    · exact lookB_len _
    · exact decI_len (by omega)
    · exact decI_len (by omega)
    · exact looksW_short (fun l hl => hL l (List.mem_cons_of_mem _ hl)) w h
theorem looksW_len (L : List (Int × Int × Int)) : (looksW L).length = 3 * L.length := by
  induction L with
  | nil => rfl
  | cons x L ih => simp only [looksW, List.flatMap_cons, List.length_append, List.length_cons, List.length_nil] at ih ⊢; omega
theorem tail_short {r : Rep} (h : r.Right) (hc : r.code ≤ 9223372036854775807) : ∀ w ∈ r.tail, w.length ≤ 20 := by
  intro w hw
  unfold Rep.tail at hw
  split at hw
  · simp only [List.mem_cons, List.not_mem_nil, or_false] at hw
    rcases hw with rfl | rfl
    · decide
    · exact decI_len hc
  split at hw
  · simp only [List.mem_cons, List.not_mem_nil, or_false] at hw; subst hw; decide
  split at hw
  · simp only [List.mem_cons, List.not_mem_nil, or_false] at hw; subst hw; decide
  split at hw
  · rw [List.mem_cons] at hw
    rcases hw with rfl | hw
    · exact recB_len _
    · split at hw
      · rename_i h0
        have : most r.rq ∧ most r.rp ∧ most r.rt := by
          rcases h.rcd with h | h
          · omega
          · exact ⟨h.2.2.2.1, h.2.2.2.2.1, h.2.2.2.2.2.1⟩
        obtain ⟨⟨_, a⟩, ⟨_, b⟩, ⟨_, c⟩⟩ := this
        simp only [List.mem_cons, List.not_mem_nil, or_false] at hw
        rcases hw with rfl | rfl | rfl <;> exact decI_len (by omega)
      · cases hw
  · exact looksW_short (fun l hl => (h.looks l hl).2.2) w hw
theorem words_short {r : Rep} (h : r.Right) (hc : r.code ≤ 9223372036854775807) : ∀ w ∈ r.words, w.length ≤ 20 := by
  intro w hw
  have m1 := h.tick.2
  have m2 : r.id ≤ 9999999 := h.id.2
  have m3 : r.cell ≤ 9999999 := h.cell.2
  simp only [Rep.words, List.mem_cons, List.mem_append] at hw
  rcases hw with rfl | rfl | hw | hw | hw
  · exact decI_len (by omega)
  · exact verbK_len _
  · split at hw
    · simp only [List.mem_cons, List.not_mem_nil, or_false] at hw; subst hw; exact decI_len (by omega)
    · cases hw
  · split at hw
    · simp only [List.mem_cons, List.not_mem_nil, or_false] at hw; subst hw; exact decI_len (by omega)
    · cases hw
  · exact tail_short h hc w hw
theorem print2 (r : Rep) (h : r.Right) (hc : r.code ≤ 9223372036854775807) (hl : r.looks.length ≤ 1000) (x13 x14 x15 : D) (acc : List Bs) (ha : acc.length ≤ 10) (hs : ∀ w ∈ acc, w.length ≤ 20) :
    J_answer_Print_2 (.int r.kind) (.int r.code) (.int r.tick) (.int r.id) (.int r.cell) (.bool r.asked) (.int r.rk) (.int r.rq) (.int r.rp) (.int r.rt) (.int r.rc) (.int r.rg) (looksD r.looks) x13 x14 x15 [wD acc] = some [.str (toB (un (acc ++ r.tail))), .nil] := by
  have ht := tail_short h hc
  have hb : ∀ (ws : List Bs), r.tail = ws → (∀ w ∈ acc ++ ws, w.length ≤ 20) := by
    rintro ws rfl w hw
    rcases List.mem_append.1 hw with hw | hw
    · exact hs w hw
    · exact ht w hw
  have one : ∀ w : Bs, D.agg ((wD acc).toL ++ [D.str (toB w)]) = wD (acc ++ [w]) := fun w => wD_snoc acc w
  have bA : ∀ ws : List Bs, ws.length ≤ 10 → (((wD (acc ++ ws)).toL.length : Int) ≤ 8796093022208) := fun ws h => bw _ (by simp; omega)
  rw [J_answer_Print_2_eq]
  simp only [D.toInt_int, D.toBool_bool]
  refine cutI (fun k => ?_) fun k => ?_
  · replace k : r.code ≠ 0 := by simpa using k
    have et : r.tail = [errorB, decI r.code] := by unfold Rep.tail; rw [if_pos k]
    have e : (ByteArray.mk #[101, 114, 114, 111, 114]) = toB errorB := rfl
    have two : D.agg ((wD acc).toL ++ [D.str (toB errorB), D.str (toB (decI r.code))]) = wD (acc ++ [errorB, decI r.code]) := by simp [wD]
    have hi : FX 20 [.int r.code] = some [.str (toB (decI r.code))] := itoa_big r.code h.code hc
    rw [et]
    simp only [hi, bindC, List.length_cons, List.length_nil, if_true, List.getD_cons_zero, e, D.toL_agg, two, bA [_, _] (by simp), decide_true, join_short (hb _ et) (by simp; omega)]
  replace k : r.code = 0 := by simpa using k
  have nk : ¬ r.code ≠ 0 := fun h => h k
  refine cutI (fun k2 => ?_) fun k2 => ?_
  · have et : r.tail = [askedB] := by unfold Rep.tail; rw [if_neg nk, if_pos k2]
    have e : (ByteArray.mk #[97, 115, 107, 101, 100]) = toB askedB := rfl
    rw [et]
    simp only [D.toL_agg, e, one, bA [_] (by simp), decide_true, if_true, join_short (hb _ et) (by simp; omega), bindC, List.length_cons, List.length_nil, List.getD_cons_zero]
  refine cutI (fun k3 => ?_) fun k3 => ?_
  · replace k3 : r.kind = 3 := by simpa using k3
    have et : r.tail = recB r.rk :: (if 0 < r.rk then [decI r.rq, decI r.rp, decI r.rt] else []) := by unfold Rep.tail; rw [if_neg nk, if_neg k2, if_neg (by omega), if_pos k3]
    refine cutI (fun k4 => ?_) fun k4 => ?_
    · replace k4 : r.rk = 0 := by simpa using k4
      have et' : r.tail = [recB 0] := by rw [et, k4]; rfl
      rw [et']
      simp only [rname_eq (k := 0) (by omega), bindC, List.length_cons, List.length_nil, if_true, List.getD_cons_zero, D.toL_agg, one, bA [_] (by simp), decide_true, join_short (hb _ et') (by simp; omega)]
    · replace k4 : r.rk ≠ 0 := by simpa using k4
      have r5 := h.rk5
      have : most r.rq ∧ most r.rp ∧ most r.rt := by
        rcases h.rcd with h | h
        · omega
        · exact ⟨h.2.2.2.1, h.2.2.2.2.1, h.2.2.2.2.2.1⟩
      obtain ⟨hq, hp, htk⟩ := this
      have et' : r.tail = [recB r.rk, decI r.rq, decI r.rp, decI r.rt] := by rw [et, if_pos (by omega)]
      have es : acc ++ [recB r.rk, decI r.rq, decI r.rp, decI r.rt] = acc ++ [recB r.rk] ++ [decI r.rq] ++ [decI r.rp] ++ [decI r.rt] := by simp
      have hb' := hb _ et'
      rw [et', es]
      rw [es] at hb'
      simp only [rname_eq r5, bindC, List.length_cons, List.length_nil, if_true, List.getD_cons_zero, D.toL_agg, one, bA [_] (by simp), decide_true]
      exact print3 _ _ _ _ _ _ _ _ _ _ _ _ _ _ _ _ _ _ hq hp htk _ (by simp; omega) hb'
  replace k3 : r.kind ≠ 3 := by simpa using k3
  refine cutI (fun k4 => ?_) fun k4 => ?_
  · replace k4 : r.kind = 4 := by simpa using k4
    have et : r.tail = looksW r.looks := by unfold Rep.tail; rw [if_neg nk, if_neg k2, if_neg (by omega), if_neg k3]
    rw [et]
    have := print4 (.int r.kind) (.int r.code) (.int r.tick) (.int r.id) (.int r.cell) (.bool r.asked) (.int r.rk) (.int r.rq) (.int r.rp) (.int r.rt) (.int r.rc) (.int r.rg) x13 x14 x15 (wD acc) r.looks (fun l hl => (h.looks l hl).2.2) hl r.looks.length 0 acc (by omega) (by omega) (hb _ et)
    rw [List.drop_zero] at this
    exact this
  · replace k4 : r.kind ≠ 4 := by simpa using k4
    have hk := h.kind
    have et : r.tail = [okB] := by unfold Rep.tail; rw [if_neg nk, if_neg k2, if_pos (by omega)]
    have e : (ByteArray.mk #[111, 107]) = toB okB := rfl
    rw [et]
    simp only [D.toL_agg, e, one, bA [_] (by simp), decide_true, if_true, join_short (hb _ et) (by simp; omega), bindC, List.length_cons, List.length_nil, List.getD_cons_zero]
theorem print_right (r : Rep) (h : r.Right) (hc : r.code ≤ 9223372036854775807) (hl : r.looks.length ≤ 1000) : FX 8 (dsOf r) = some [.str (toB (un r.words)), .nil] := by
  have hR := ansRight_eq r (by omega)
  have hw := words_short h hc
  have hk := h.kind
  have hv : FX 21 [.int r.kind] = some [.str (toB (verbK r.kind))] := by rw [verb_eq, if_neg (by omega)]
  have ht : FX 20 [.int r.tick] = some [.str (toB (decI r.tick))] := itoa_nat _ h.tick.1 (by have := h.tick.2; omega)
  have v0 : D.agg [D.str (toB (decI r.tick)), D.str (toB (verbK r.kind))] = wD [decI r.tick, verbK r.kind] := rfl
  unfold dsOf at hR ⊢
  rw [E_answer_Print]
  simp only [hR, (right_iff r).2 h, bindC, List.length_cons, List.length_nil, if_true, List.getD_cons_zero, D.toBool_bool, Bool.not_true, Bool.false_eq_true, if_false, hv, ht]
  rw [J_answer_Print_1_eq]
  simp only [D.toInt_int, v0]
  have s2 : ∀ ws : List Bs, (∀ w ∈ ws, w ∈ r.words) → ∀ w ∈ ws, w.length ≤ 20 := fun ws h w hm => hw w (h w hm)
  refine cutI (fun k => ?_) fun k1 => ?_
  · replace k : r.kind = 1 := by simpa using k
    have ew : r.words = [decI r.tick, verbK r.kind] ++ [decI r.id] ++ [decI r.cell] ++ r.tail := by unfold Rep.words; rw [if_pos (by omega), if_pos (by omega)]; simp
    rw [print6 _ _ _ (.int 0) _ _ _ _ _ _ _ _ _ _ _ _ _ h.id h.cell _ _ (by simp), print2 r h hc hl _ _ _ _ (by simp) (s2 _ fun w hm => by rw [ew]; exact List.mem_append_left _ hm), ew]
  refine cutI (fun k => ?_) fun k2 => ?_
  · replace k : r.kind = 2 := by simpa using k
    have ew : r.words = [decI r.tick, verbK r.kind] ++ [decI r.id] ++ [decI r.cell] ++ r.tail := by unfold Rep.words; rw [if_pos (by omega), if_pos (by omega)]; simp
    rw [print8 _ _ _ (.int 0) _ _ _ _ _ _ _ _ _ _ _ _ _ h.id h.cell _ _ (by simp), print2 r h hc hl _ _ _ _ (by simp) (s2 _ fun w hm => by rw [ew]; exact List.mem_append_left _ hm), ew]
  refine cutI (fun k => ?_) fun k3 => ?_
  · replace k : r.kind = 3 := by simpa using k
    have ew : r.words = [decI r.tick, verbK r.kind] ++ [decI r.cell] ++ r.tail := by unfold Rep.words; rw [if_neg (by omega), if_pos (by omega)]; simp
    rw [print10 _ _ _ _ _ _ _ _ _ _ _ _ _ _ _ _ h.cell _ _ (by simp), print2 r h hc hl _ _ _ _ (by simp) (s2 _ fun w hm => by rw [ew]; exact List.mem_append_left _ hm), ew]
  · replace k1 : r.kind ≠ 1 := by simpa using k1
    replace k2 : r.kind ≠ 2 := by simpa using k2
    replace k3 : r.kind ≠ 3 := by simpa using k3
    have ew : r.words = [decI r.tick, verbK r.kind] ++ r.tail := by unfold Rep.words; rw [if_neg (by omega), if_neg (by omega)]; simp
    rw [print2 r h hc hl _ _ _ _ (by simp) (s2 _ fun w hm => by rw [ew]; exact List.mem_append_left _ hm), ew]
end Go.Proofs.YtmgpbjennnadhaaGreatDoor.AnsD
