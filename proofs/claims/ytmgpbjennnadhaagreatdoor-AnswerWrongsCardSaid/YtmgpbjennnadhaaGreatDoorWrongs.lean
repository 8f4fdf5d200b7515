/-
  AnswerWrongs on data.
-/
import Derived.Test.YtmgpbjennnadhaaGreatDoorPrintsA
import Derived.Test.YtmgpbjennnadhaaGreatDoorDecN
namespace Go.Proofs.YtmgpbjennnadhaaGreatDoor.AnsD
open Go.Proofs.YtmgpbjennnadhaaGreatDoor.Eng Go.Proofs.YtmgpbjennnadhaaGreatDoor.Dat Go.Proofs.YtmgpbjennnadhaaGreatDoor Go.Proofs.YtmgpbjennnadhaaGreatDoor.WordP Go.Proofs.YtmgpbjennnadhaaGreatDoor.StrL Go.Proofs.YtmgpbjennnadhaaGreatDoor.RefD Go.Proofs.YtmgpbjennnadhaaGreatDoor.Open
open Go.Lib (decDigits itoa nDigits)
set_option linter.unusedVariables false
set_option linter.unusedSimpArgs false
set_option maxRecDepth 10000

theorem nDigits_19 {n : Nat} (h : n ≤ 9223372036854775808) : (decDigits n).length ≤ 19 := by
  rw [Go.Lib.decDigits_length]
  exact nDigits_le 19 n (by omega) (Nat.lt_of_le_of_lt h (by decide))
theorem itoa_len (n : Int) (h1 : -9223372036854775808 ≤ n) (h2 : n ≤ 9223372036854775807) : (itoa n).length ≤ 20 := by
  by_cases h : n < 0
  · obtain ⟨m, rfl⟩ : ∃ m : Nat, n = -(m : Int) := ⟨(-n).toNat, by omega⟩
    rw [itoa_neg m (by omega), List.length_cons]
    have := nDigits_19 (n := m) (by omega)
    omega
  · obtain ⟨m, rfl⟩ := Int.eq_ofNat_of_zero_le (show 0 ≤ n by omega)
    rw [itoa_nn]
    have := nDigits_19 (n := m) (by omega)
    omega
def wrongB (tick code at' : Int) : Bs := itoa tick ++ [32, 119, 114, 111, 110, 103, 32] ++ itoa code ++ [32, 97, 116, 32] ++ itoa at'
def I64 (n : Int) : Prop := -9223372036854775808 ≤ n ∧ n ≤ 9223372036854775807
theorem refWrong_eq (t c a : Int) (ht : I64 t) (hc : I64 c) (ha : I64 a) : FX 18 [.int t, .int c, .int a] = some [.str (toB (wrongB t c a))] := by
  have l1 := itoa_len t ht.1 ht.2
  have l2 := itoa_len c hc.1 hc.2
  have l3 := itoa_len a ha.1 ha.2
  have z1 : ByteArray.mk #[32, 119, 114, 111, 110, 103, 32] = toB [32, 119, 114, 111, 110, 103, 32] := rfl
  have z2 : ByteArray.mk #[32, 97, 116, 32] = toB [32, 97, 116, 32] := rfl
  rw [E_ref16_Wrong]
  simp only [dec_any t ht.1 ht.2, dec_any c hc.1 hc.2, dec_any a ha.1 ha.2, bS1, List.getD_cons_zero, D.toStr_str, D.toInt_int, z1, z2, append_toB, toB_size]
  refine (cat3 (by simp; omega)).trans ?_
  refine (cat3 (by simp; omega)).trans ?_
  refine (cat3 (by simp; omega)).trans ?_
  exact cat3 (by simp; omega)
theorem place_code (c : Int) (hs : List D) : ∃ y, FX 38 [NumE.code c, .agg hs] = some [.int 0, .bool false, .agg (hs ++ [y])] := by
  refine ⟨.agg [.nil], ?_⟩
  rw [E_fault_Place, NumE.as_eq]
  simp [ErrD.asFn, ErrD.asRes, ErrD.asF, NumE.code, bindC]
theorem code_at (p c : Int) (hs : List D) : ∃ y, FX 39 [NumE.errAt p c, .agg hs] = some [.int c, .agg (hs ++ [y])] := by
  refine ⟨.agg [.int c], ?_⟩
  rw [E_fault_Code, NumE.as_eq]
  simp [ErrD.asFn, ErrD.asRes, ErrD.asC, NumE.errAt, NumE.code, bindC]
theorem code_code (c : Int) (hs : List D) : ∃ y, FX 39 [NumE.code c, .agg hs] = some [.int c, .agg (hs ++ [y])] := by
  refine ⟨.agg [.int c], ?_⟩
  rw [E_fault_Code, NumE.as_eq]
  simp [ErrD.asFn, ErrD.asRes, ErrD.asC, NumE.code, bindC]
theorem wrong_eq (e : D) (t c a : Int) (b : Bool) (ht : I64 t) (hc : I64 c) (ha : I64 a) (hp : ∀ hs, ∃ y, FX 38 [e, .agg hs] = some [.int a, .bool b, .agg (hs ++ [y])]) (hq : ∀ hs, ∃ y, FX 39 [e, .agg hs] = some [.int c, .agg (hs ++ [y])]) (hs : List D) :
    ∃ h, FX 17 [.int t, e, .agg hs] = some [.str (toB (wrongB t c a)), h] := by
  obtain ⟨y1, e1⟩ := hp hs
  obtain ⟨y2, e2⟩ := hq (hs ++ [y1])
  have l1 := itoa_len t ht.1 ht.2
  have l2 := itoa_len c hc.1 hc.2
  have l3 := itoa_len a ha.1 ha.2
  have z1 : ByteArray.mk #[32, 119, 114, 111, 110, 103, 32] = toB [32, 119, 114, 111, 110, 103, 32] := rfl
  have z2 : ByteArray.mk #[32, 97, 116, 32] = toB [32, 97, 116, 32] := rfl
  have b3 : ∀ (a b c : D) (k : List D → Option (List D)), bindC (some [a, b, c]) 3 k = k [a, b, c] := fun a b c k => rfl
  refine ⟨.agg (hs ++ [y1] ++ [y2]), ?_⟩
  rw [E_answer_Wrong]
  simp only [e1, b3, itoa_all t ht.1 ht.2, itoa_all c hc.1 hc.2, itoa_all a ha.1 ha.2, bS1, bS2, e2, List.getD_cons_zero, List.getD_cons_succ, D.toStr_str, D.toInt_int, z1, z2, append_toB, toB_size]
  refine (cat3 (by simp; omega)).trans ?_
  refine (cat3 (by simp; omega)).trans ?_
  refine (cat3 (by simp; omega)).trans ?_
  exact cat3 (by simp; omega)
def nameB (c : Int) : Bs :=
  if c = 10 then [119, 111, 114, 100] else if c = 11 then [115, 104, 111, 114, 116] else if c = 12 then [109, 111, 114, 101] else if c = 13 then [110, 117, 109] else if c = 14 then [108, 111, 110, 103] else if c = 15 then [98, 121, 116, 101]
  else if c = 20 then [105, 100, 101, 110, 116] else if c = 21 then [99, 101, 108, 108] else if c = 22 then [110, 97, 109, 101] else if c = 23 then [113, 116, 121] else if c = 24 then [112, 114, 105, 99, 101] else if c = 25 then [108, 101, 97, 115, 116]
  else if c = 26 then [108, 97, 116, 101] else if c = 27 then [98, 117, 115, 121] else if c = 28 then [102, 117, 108, 108] else if c = 29 then [103, 111, 110, 101] else [111, 116, 104, 101, 114]
def codesL : List Int := [6, 10, 11, 12, 13, 14, 15, 1, 20, 21, 22, 23, 24, 25, 26, 27, 28, 29]
theorem fname_eq (c : Int) (h : c ∈ codesL) : FX 37 [.int c] = some [.str (toB (nameB c))] := by
  simp only [codesL, List.mem_cons, List.not_mem_nil, or_false] at h
  rw [E_fault_Name]
  rcases h with rfl | rfl | rfl | rfl | rfl | rfl | rfl | rfl | rfl | rfl | rfl | rfl | rfl | rfl | rfl | rfl | rfl | rfl <;> rfl
/-! A map from names to numbers. -/
def encL (L : List (Bs × Int)) : List D := L.map fun e => .agg [.str (toB e.1), .int e.2]
def putL (L : List (Bs × Int)) (k : Bs) (v : Int) : List (Bs × Int) := if L.findIdx (fun e => k == e.1) < L.length then L.set (L.findIdx fun e => k == e.1) (k, v) else L ++ [(k, v)]
def getL (L : List (Bs × Int)) (k : Bs) : Int := ((L[L.findIdx fun e => k == e.1]?).map (·.2)).getD 0
theorem keq_str (a b : Bs) : keq [2] (.str (toB a)) (.str (toB b)) = (a == b) := by
  simp [keq, keqL, kcell, cellOf, Go.Lib.toList_data]
theorem mfind_enc (k : Bs) : ∀ L : List (Bs × Int), mfind [2] (encL L) (.str (toB k)) = L.findIdx fun e => k == e.1
  | [] => rfl
  | e :: L => by
    have ih := mfind_enc k L
    unfold mfind encL at ih ⊢
    rw [List.map_cons, List.findIdx_cons, List.findIdx_cons]
    simp only [D.toL_agg, List.getD_cons_zero, keq_str] at ih ⊢
    rw [ih]
theorem mput_enc (L : List (Bs × Int)) (k : Bs) (v : Int) : mputD [2] (encL L) (.str (toB k)) (.int v) = encL (putL L k v) := by
  unfold mputD putL
  rw [mfind_enc]
  have hl : (encL L).length = L.length := by simp [encL]
  rw [hl]
  split
  · simp [encL, List.map_set]
  · simp [encL]
theorem mget_enc (L : List (Bs × Int)) (k : Bs) : mgetD [2] (encL L) (.str (toB k)) (.int 0) = .int (getL L k) := by
  unfold mgetD getL
  rw [mfind_enc]
  have hl : (encL L).length = L.length := by simp [encL]
  rw [hl]
  split
  · rename_i h
    rw [List.getElem?_eq_getElem h]
    simp [encL, h]
  · rename_i h
    rw [List.getElem?_eq_none (by omega)]
    rfl
def codesP : List (Bs × Int) := codesL.foldl (fun L c => putL L (nameB c) c) []
theorem codes_loop : ∀ (d i : Nat) (L : List (Bs × Int)), d + i = 18 → W_answer_Codes_1 (.agg (codesL.map D.int)) [.int (i : Nat), .agg (encL L)] = some [.agg (encL ((codesL.drop i).foldl (fun L c => putL L (nameB c) c) L))]
  | 0, i, L, h => by
    have : i = 18 := by omega
    subst this
    have h1 : ¬ (((18 : Nat) : Int) < (((codesL.map D.int).length : Nat) : Int)) := by decide
    rw [W_answer_Codes_1_eq]
    simp only [D.toInt_int, D.toL_agg, h1, decide_false, Bool.false_eq_true, if_false]
    rfl
  | d + 1, i, L, h => by
    have hlt : i < codesL.length := by simp [codesL]; omega
    have hl : codesL.length = 18 := rfl
    have h1 : ((i : Int) < (((codesL.map D.int).length : Nat) : Int)) := by rw [List.length_map]; omega
    have h2 : (i : Int) ≥ 0 := by omega
    have hw : IntKind.i64.wrap ((i : Nat) + 1 : Int) = ((i + 1 : Nat) : Int) := by rw [wrap_small _ (by omega) (by omega)]; omega
    have hg : (codesL.map D.int).getD i .nil = .int codesL[i] := by rw [List.getD_eq_getElem?_getD, List.getElem?_map, List.getElem?_eq_getElem hlt]; rfl
    have hm := List.getElem_mem hlt
    rw [List.drop_eq_getElem_cons hlt, List.foldl_cons, W_answer_Codes_1_eq]
    generalize codesL[i] = c at hg hm
    simp only [D.toInt_int, D.toL_agg, h1, h2, decide_true, if_true, Int.toNat_natCast, hg, fname_eq c hm, bS1, List.getD_cons_zero, hw, mput_enc]
    exact codes_loop d (i + 1) _ (by omega)
theorem codes_eq : FX 15 [] = some [.agg (encL codesP)] := by
  have := codes_loop 18 0 [] (by omega)
  rw [E_answer_Codes, E_answer_codes]
  exact this
theorem codesP_len : codesP.length = 17 := by decide +kernel
theorem codesP_other : getL codesP [111, 116, 104, 101, 114] = 1 := by decide +kernel
theorem codesP_get : ∀ c : Fin 30, nameB ((c.val : Nat) : Int) ≠ [111, 116, 104, 101, 114] → getL codesP (nameB ((c.val : Nat) : Int)) = ((c.val : Nat) : Int) := by decide +kernel
def cnt (c : Nat) : Nat := (List.range c).countP fun k => nameB ((k : Nat) : Int) != [111, 116, 104, 101, 114]
theorem cnt_succ (c : Nat) : cnt (c + 1) = cnt c + (if nameB ((c : Nat) : Int) = [111, 116, 104, 101, 114] then 0 else 1) := by
  unfold cnt
  rw [List.range_succ, List.countP_append]
  by_cases h : nameB ((c : Nat) : Int) = [111, 116, 104, 101, 114] <;> simp [h]
theorem cnt_le (c : Nat) : cnt c ≤ c := by
  have := List.countP_le_length (p := fun k : Nat => nameB ((k : Nat) : Int) != [111, 116, 104, 101, 114]) (l := List.range c)
  simpa [cnt] using this
theorem cnt_30 : cnt 30 = 16 := by decide +kernel
theorem rname01 (c : Nat) (h : c < 30) : FX 16 [.int (c : Nat)] = some [.str (toB (nameB ((c : Nat) : Int)))] := by
  rw [E_ref01_Name]
  have : c = 0 ∨ c = 1 ∨ c = 2 ∨ c = 3 ∨ c = 4 ∨ c = 5 ∨ c = 6 ∨ c = 7 ∨ c = 8 ∨ c = 9 ∨ c = 10 ∨ c = 11 ∨ c = 12 ∨ c = 13 ∨ c = 14 ∨ c = 15 ∨ c = 16 ∨ c = 17 ∨ c = 18 ∨ c = 19 ∨ c = 20 ∨ c = 21 ∨ c = 22 ∨ c = 23 ∨ c = 24 ∨ c = 25 ∨ c = 26 ∨ c = 27 ∨ c = 28 ∨ c = 29 := by omega
  rcases this with rfl | rfl | rfl | rfl | rfl | rfl | rfl | rfl | rfl | rfl | rfl | rfl | rfl | rfl | rfl | rfl | rfl | rfl | rfl | rfl | rfl | rfl | rfl | rfl | rfl | rfl | rfl | rfl | rfl | rfl <;> rfl
theorem nF {p : Prop} {i : Decidable p} (h : (!@decide p i) = true) : ¬ p := fun q => by rw [decide_eq_true q] at h; cases h
theorem wrongs_loop (x0 x1 x2 x3 x4 x5 x6 : D) (Z : Option (List D)) (hZ : W_law16_AnswerWrongs_2 x0 x1 x2 x3 x4 x5 x6 (.agg (encL codesP)) [.int ((16 : Nat) : Int), .int ((30 : Nat) : Int)] = Z) : ∀ (d c : Nat), d + c = 30 →
    W_law16_AnswerWrongs_2 x0 x1 x2 x3 x4 x5 x6 (.agg (encL codesP)) [.int (cnt c : Nat), .int (c : Nat)] = Z
  | 0, c, h => by
    have : c = 30 := by omega
    subst this
    rw [cnt_30]
    exact hZ
  | d + 1, c, h => by
    have ih := wrongs_loop x0 x1 x2 x3 x4 x5 x6 Z hZ d (c + 1) (by omega)
    have hc := cnt_le c
    have h1 : ((c : Int) < 30) := by omega
    have hw : IntKind.i64.wrap ((c : Nat) + 1 : Int) = ((c + 1 : Nat) : Int) := by rw [wrap_small _ (by omega) (by omega)]; omega
    have hn : IntKind.i64.wrap ((cnt c : Nat) + 1 : Int) = ((cnt c + 1 : Nat) : Int) := by rw [wrap_small _ (by omega) (by omega)]; omega
    have zo : ByteArray.mk #[111, 116, 104, 101, 114] = toB [111, 116, 104, 101, 114] := rfl
    have hcs := cnt_succ c
    have skip : nameB ((c : Nat) : Int) = [111, 116, 104, 101, 114] → W_law16_AnswerWrongs_2 x0 x1 x2 x3 x4 x5 x6 (.agg (encL codesP)) [.int (cnt c : Nat), .int ((c + 1 : Nat) : Int)] = Z := by
      intro e
      rw [if_pos e, Nat.add_zero] at hcs
      rw [hcs] at ih
      exact ih
    have take : (if (!(nameB ((c : Nat) : Int) == [111, 116, 104, 101, 114])) = true then (if (getL codesP (nameB ((c : Nat) : Int)) != ((c : Nat) : Int)) = true then some [D.bool false] else W_law16_AnswerWrongs_2 x0 x1 x2 x3 x4 x5 x6 (.agg (encL codesP)) [.int ((cnt c + 1 : Nat) : Int), .int ((c + 1 : Nat) : Int)]) else W_law16_AnswerWrongs_2 x0 x1 x2 x3 x4 x5 x6 (.agg (encL codesP)) [.int (cnt c : Nat), .int ((c + 1 : Nat) : Int)]) = Z := by
      by_cases e : nameB ((c : Nat) : Int) = [111, 116, 104, 101, 114]
      · rw [if_neg (by rw [e]; decide)]
        exact skip e
      · have hg := codesP_get ⟨c, by omega⟩ e
        simp only at hg
        rw [if_neg e] at hcs
        rw [hcs] at ih
        rw [if_pos (by simpa using e), if_neg (by rw [hg]; simp)]
        exact ih
    rw [W_law16_AnswerWrongs_2_eq]
    simp only [D.toInt_int, D.toL_agg, h1, decide_true, if_true, rname01 c (by omega), bS1, List.getD_cons_zero, D.toStr_str, zo, neq_toB, mget_enc, hw, hn]
    have no : c ≠ 1 → c ≠ 6 → ¬ (10 ≤ c ∧ c ≤ 15) → ¬ 20 ≤ c → nameB ((c : Nat) : Int) = [111, 116, 104, 101, 114] := by
      intro a1 a2 a3 a4
      have : ∀ k : Fin 30, k.val ≠ 1 → k.val ≠ 6 → ¬ (10 ≤ k.val ∧ k.val ≤ 15) → ¬ 20 ≤ k.val → nameB ((k.val : Nat) : Int) = [111, 116, 104, 101, 114] := by decide +kernel
      exact this ⟨c, by omega⟩ a1 a2 a3 a4
    refine cutI (fun _ => take) fun k1 => ?_
    refine cutI (fun _ => take) fun k6 => ?_
    replace k1 : c ≠ 1 := by intro e; apply k1; rw [e]; rfl
    replace k6 : c ≠ 6 := by intro e; apply k6; rw [e]; rfl
    refine cutI (fun k10 => ?_) fun k10 => ?_
    · refine cutI (fun _ => take) fun k15 => ?_
      replace k15 := dF k15
      refine cutI (fun k20 => ?_) fun k20 => take
      have := nF k20
      exact skip (no k1 k6 (by omega) (by omega))
    · replace k10 := dF k10
      refine cutI (fun k20 => ?_) fun k20 => take
      have := nF k20
      exact skip (no k1 k6 (by omega) (by omega))
theorem wrongs_end (e : D) (t c a : Int) (x1 : D) (x2 x3 : D) (b : Bool) (ht : I64 t) (hc : I64 c) (ha : I64 a) (hp : ∀ hs, ∃ y, FX 38 [e, .agg hs] = some [.int a, .bool b, .agg (hs ++ [y])]) (hq : ∀ hs, ∃ y, FX 39 [e, .agg hs] = some [.int c, .agg (hs ++ [y])]) :
    J_law16_AnswerWrongs_1 (.int t) (.int c) x2 x3 [.agg [], e, .int a] = some [.bool true] := by
  rw [J_law16_AnswerWrongs_1_eq]
  simp only [codes_eq, bS1, List.getD_cons_zero]
  have z : (D.int (0 : Int)) = .int ((cnt 0 : Nat) : Int) := rfl
  have z' : (D.int (0 : Int)) = .int ((0 : Nat) : Int) := rfl
  have := wrongs_loop (.int t) (.int c) x2 x3 (.agg []) e (.int a) (some [.bool true]) ?_ 30 0 (by omega)
  · exact this
  · obtain ⟨h, hwr⟩ := wrong_eq e t c a b ht hc ha hp hq [D.agg [wD [], D.bool false]]
    have haw := awake_eq []
    have ehr : hR [] [] = D.agg [D.agg [wD [], D.bool false]] := rfl
    rw [ehr] at haw
    have h1 : ¬ ((((30 : Nat) : Int)) < 30) := by decide
    have hl : ((encL codesP).length : Int) = 17 := by
      have : (encL codesP).length = 17 := by rw [encL, List.length_map, codesP_len]
      rw [this]; rfl
    have hw : IntKind.i64.wrap (((16 : Nat) : Int) + 1) = 17 := by decide
    have zo : ByteArray.mk #[111, 116, 104, 101, 114] = toB [111, 116, 104, 101, 114] := rfl
    rw [W_law16_AnswerWrongs_2_eq]
    simp only [D.toInt_int, h1, decide_false, Bool.false_eq_true, if_false, haw, bS2, bS1, List.getD_cons_zero, List.getD_cons_succ, D.toBool_bool, if_true, hwr, refWrong_eq t c a ht hc ha, D.toStr_str, eql_toB, beq_self_eq_true, D.toL_agg, hl, hw, zo, mget_enc, codesP_other]
theorem wrongs_law (t c a : Int) (p : Bool) (ht : I64 t) (hc : I64 c) (ha : I64 a) : FX 4 [.int t, .int c, .int a, .bool p] = some [.bool true] := by
  rw [E_law16_AnswerWrongs]
  simp only [D.toBool_bool]
  refine cutI (fun hp => ?_) fun hp => ?_
  · have hat : FX 14 [.int a, .iface 22 (.int c)] = some [NumE.errAt a c] := E_fault_At _ _
    simp only [hat, bS1, List.getD_cons_zero]
    exact wrongs_end (NumE.errAt a c) t c a (.int c) _ _ true ht hc ha (fun hs => NumE.place_at a c hs) (fun hs => code_at a c hs)
  · exact wrongs_end (NumE.code c) t c 0 (.int c) _ _ false ht hc ⟨by decide, by decide⟩ (fun hs => place_code c hs) (fun hs => code_code c hs)
theorem wrongs (d0 d1 d2 d3 : D) (w0 : Wf Tryz.prog (.int .i64) d0) (w1 : Wf Tryz.prog (.int .i64) d1) (w2 : Wf Tryz.prog (.int .i64) d2) (w3 : Wf Tryz.prog .bool d3) : FX 4 [d0, d1, d2, d3] = some [.bool true] := by
  obtain ⟨t, rfl, ht⟩ := w0.toInt
  obtain ⟨c, rfl, hc⟩ := w1.toInt
  obtain ⟨a, rfl, ha⟩ := w2.toInt
  obtain ⟨p, rfl⟩ := w3.toBool
  exact wrongs_law t c a p (lit64 ht) (lit64 hc) (lit64 ha)
end Go.Proofs.YtmgpbjennnadhaaGreatDoor.AnsD
