/-
  FaultMany on data.
-/
import Derived.Test.YtnaokofklgbbcaaDoorWraps
namespace Go.Proofs.YtnaokofklgbbcaaDoor.FaultD
open Go.Proofs.YtnaokofklgbbcaaDoor.Eng Go.Proofs.YtnaokofklgbbcaaDoor Go.Proofs.YtnaokofklgbbcaaDoor.Dat Go.Proofs.YtnaokofklgbbcaaDoor.Open
set_option linter.unusedVariables false
set_option linter.unusedSimpArgs false

def sk (s : Int) (i : Nat) : Bool := arF .and .u8 (arF .shr .u8 s (Int.tmod (i : Int) 8)) 1 == 1
theorem and1 (x : Int) : arF .and .u8 x 1 = 0 ∨ arF .and .u8 x 1 = 1 := by
  have h : ((BitVec.ofInt 8 x &&& BitVec.ofInt 8 1).toNat) ≤ 1 := by
    rw [BitVec.toNat_and]
    exact Nat.and_le_right
  have e : arF .and .u8 x 1 = IntKind.u8.wrap (((BitVec.ofInt 8 x &&& BitVec.ofInt 8 1).toNat : Nat) : Int) := rfl
  rw [e]
  generalize (BitVec.ofInt 8 x &&& BitVec.ofInt 8 1).toNat = n at h
  have : n = 0 ∨ n = 1 := by omega
  rcases this with rfl | rfl
  · exact .inl (by decide)
  · exact .inr (by decide)
theorem sk0 (s : Int) (i : Nat) : (arF .and .u8 (arF .shr .u8 s (Int.tmod (i : Int) 8)) 1 == 0) = !sk s i := by
  unfold sk
  rcases and1 (arF .shr .u8 s (Int.tmod (i : Int) 8)) with h | h <;> rw [h] <;> decide
def wW : Wrap := ⟨false, 0, .mk #[119]⟩
def el (c : Int) : D := errD [wW] c
def errs (s : Int) (z : List (Int × Nat)) : List D := z.map fun p => if sk s p.2 then .nil else el p.1
def picks (s : Int) (z : List (Int × Nat)) : List Int := z.filterMap fun p => if sk s p.2 then none else some p.1
theorem el_nil (c : Int) : (el c).isNil = false := errD_nil _ c
theorem el_with (c : Int) : FX 9 [D.str (.mk #[119]), D.iface 27 (.int c)] = some [el c] := with_eq _ _ rfl
theorem mod8 (k : Nat) : (0 : Int) ≤ Int.tmod (k : Int) 8 := Int.tmod_nonneg _ (Int.natCast_nonneg k)
theorem errs_len (s : Int) (z : List (Int × Nat)) : (errs s z).length = z.length := List.length_map _
theorem picks_le (s : Int) (z : List (Int × Nat)) : (picks s z).length ≤ z.length := List.length_filterMap_le _ _
theorem zdrop {l : List Int} {k : Nat} (h : k < l.length) : l.zipIdx.drop k = (l[k], k) :: l.zipIdx.drop (k + 1) := by
  rw [List.drop_eq_getElem_cons (by simpa using h), List.getElem_zipIdx, Nat.zero_add]
theorem getI {l : List Int} {k : Nat} (h : k < l.length) : (l.map D.int).getD k .nil = .int l[k] := by rw [List.getD_eq_getElem?_getD, List.getElem?_map, List.getElem?_eq_getElem h]; rfl
theorem many_loop1 (l : List Int) (hl : l.length ≤ 1000) (s : Int) (x2 : D) : ∀ (r k : Nat) (acc : List D) (f : Int) (b : Bool), l.length - k = r → k ≤ l.length → acc.length ≤ k →
    W_law01_FaultMany_1 (.agg (l.map D.int)) (.int s) x2 [.int f, .bool b, .int (k : Int), .agg acc] =
    W_law01_FaultMany_1 (.agg (l.map D.int)) (.int s) x2 [.int (if b then f else (picks s (l.zipIdx.drop k)).headD f), .bool (b || !(picks s (l.zipIdx.drop k)).isEmpty), .int (l.length : Int), .agg (acc ++ errs s (l.zipIdx.drop k))] := by
  intro r
  induction r with
  | zero =>
    intro k acc f b hr hk ha
    obtain rfl : k = l.length := by omega
    have : l.zipIdx.drop l.length = [] := by simp
    rw [this]
    simp [picks, errs]
  | succ r ih =>
    intro k acc f b hr hk ha
    have hlt : k < l.length := by omega
    have h1 : (k : Int) < (l.length : Int) := by omega
    have ek : IntKind.i64.wrap ((k : Int) + 1) = ((k + 1 : Nat) : Int) := by rw [i64w _ (by omega) (by omega)]; simp
    have hb : ∀ x : D, ((acc ++ [x]).length : Int) ≤ 8796093022208 := fun x => by simp; omega
    have hm := mod8 k
    have hs : (arF .and .u8 (arF .shr .u8 s (Int.tmod (k : Int) 8)) 1 == 1) = sk s k := rfl
    rw [W_law01_FaultMany_1_eq, zdrop hlt]
    simp only [D.toInt_int, D.toL_agg, List.length_map, h1, decide_true, if_true, ge_iff_le, Int.natCast_nonneg, Int.toNat_natCast, getI hlt, D.toBool_bool, ek, hm, hs, hb, el_with, bindC, List.length_cons, List.length_nil, List.getD_cons_zero]
    cases hp : sk s k with
    | true =>
      simp only [if_true]
      rw [ih (k + 1) (acc ++ [D.nil]) f b (by omega) (by omega) (by simp; omega)]
      simp [picks, errs, hp]
    | false =>
      simp only [Bool.false_eq_true, if_false]
      cases b with
      | true =>
        simp only [Bool.not_true, Bool.false_eq_true, if_false]
        rw [ih (k + 1) (acc ++ [el l[k]]) f true (by omega) (by omega) (by simp; omega)]
        simp [picks, errs, hp]
      | false =>
        simp only [Bool.not_false, if_true]
        rw [ih (k + 1) (acc ++ [el l[k]]) l[k] true (by omega) (by omega) (by simp; omega)]
        simp [picks, errs, hp]
theorem all_loop (L : List D) (hl : L.length ≤ 1000) : ∀ (r k : Nat) (acc : List D), L.length - k = r → k ≤ L.length → acc.length ≤ k →
    W_fault_All_1 (.agg L) [.int (k : Int), .agg acc] = some [if (acc ++ (L.drop k).filter fun x => !x.isNil) = [] then .nil else .iface 61 (.agg (acc ++ (L.drop k).filter fun x => !x.isNil))] := by
  intro r
  induction r with
  | zero =>
    intro k acc hr hk ha
    obtain rfl : k = L.length := by omega
    rw [W_fault_All_1_eq, List.drop_length]
    simp only [D.toInt_int, D.toL_agg, Int.lt_irrefl, decide_false, Bool.false_eq_true, if_false, List.filter_nil, List.append_nil]
    cases acc with
    | nil => simp
    | cons a l =>
      have : (((a :: l).length : Int) == 0) = false := by simp; omega
      simp only [this, Bool.false_eq_true, if_false, reduceCtorEq]
  | succ r ih =>
    intro k acc hr hk ha
    have hlt : k < L.length := by omega
    have h1 : (k : Int) < (L.length : Int) := by omega
    have ek : IntKind.i64.wrap ((k : Int) + 1) = ((k + 1 : Nat) : Int) := by rw [i64w _ (by omega) (by omega)]; simp
    have hb : ∀ x : D, ((acc ++ [x]).length : Int) ≤ 8796093022208 := fun x => by simp; omega
    have hg : L.getD k .nil = L[k] := by rw [List.getD_eq_getElem?_getD, List.getElem?_eq_getElem hlt]; rfl
    rw [W_fault_All_1_eq, List.drop_eq_getElem_cons hlt]
    simp only [D.toInt_int, D.toL_agg, h1, decide_true, if_true, ge_iff_le, Int.natCast_nonneg, Int.toNat_natCast, hg, ek, hb]
    cases hp : L[k].isNil with
    | true =>
      simp only [Bool.not_true, Bool.false_eq_true, if_false]
      rw [ih (k + 1) acc (by omega) (by omega) (by omega), List.filter_cons_of_neg (by simp [hp])]
    | false =>
      simp only [Bool.not_false, if_true]
      rw [ih (k + 1) (acc ++ [L[k]]) (by omega) (by omega) (by simp; omega), List.filter_cons_of_pos (by simp [hp])]
      simp
theorem first_loop (L : List D) (hl : L.length ≤ 1000) : ∀ (r k : Nat), L.length - k = r → k ≤ L.length →
    W_fault_First_1 (.agg L) [.int (k : Int)] = some [((L.drop k).filter fun x => !x.isNil).headD .nil] := by
  intro r
  induction r with
  | zero =>
    intro k hr hk
    obtain rfl : k = L.length := by omega
    rw [W_fault_First_1_eq, List.drop_length]
    simp
  | succ r ih =>
    intro k hr hk
    have hlt : k < L.length := by omega
    have h1 : (k : Int) < (L.length : Int) := by omega
    have ek : IntKind.i64.wrap ((k : Int) + 1) = ((k + 1 : Nat) : Int) := by rw [i64w _ (by omega) (by omega)]; simp
    have hg : L.getD k .nil = L[k] := by rw [List.getD_eq_getElem?_getD, List.getElem?_eq_getElem hlt]; rfl
    rw [W_fault_First_1_eq, List.drop_eq_getElem_cons hlt]
    simp only [D.toInt_int, D.toL_agg, h1, decide_true, if_true, ge_iff_le, Int.natCast_nonneg, Int.toNat_natCast, hg, ek]
    cases hp : L[k].isNil with
    | true =>
      simp only [Bool.not_true, Bool.false_eq_true, if_false]
      rw [ih (k + 1) (by omega) (by omega), List.filter_cons_of_neg (by simp [hp])]
    | false =>
      simp only [Bool.not_false, if_true]
      rw [List.filter_cons_of_pos (by simp [hp])]
      rfl
theorem errs_filter (s : Int) (z : List (Int × Nat)) : ((errs s z).filter fun x => !x.isNil) = (picks s z).map el := by
  induction z with
  | nil => rfl
  | cons p z ih =>
    simp only [errs, picks, List.map_cons, List.filterMap_cons] at ih ⊢
    cases hp : sk s p.2 with
    | true =>
      simp only [if_true]
      rw [List.filter_cons_of_neg (by simp)]
      exact ih
    | false =>
      simp only [Bool.false_eq_true, if_false]
      rw [List.filter_cons_of_pos (by simp [el_nil]), ih]
      rfl
theorem all_eq (s : Int) (z : List (Int × Nat)) (hz : z.length ≤ 1000) (hn : picks s z ≠ []) : FX 17 [.agg (errs s z)] = some [.iface 61 (.agg ((picks s z).map el))] := by
  rw [E_fault_All]
  have := all_loop (errs s z) (by rw [errs_len]; exact hz) _ 0 [] rfl (by omega) (by simp)
  rw [List.drop_zero, errs_filter, List.nil_append, if_neg (by simpa using hn)] at this
  exact this
theorem all_eq0 (s : Int) (z : List (Int × Nat)) (hz : z.length ≤ 1000) (hn : picks s z = []) : FX 17 [.agg (errs s z)] = some [.nil] := by
  rw [E_fault_All]
  have := all_loop (errs s z) (by rw [errs_len]; exact hz) _ 0 [] rfl (by omega) (by simp)
  rw [List.drop_zero, errs_filter, List.nil_append, if_pos (by simpa using hn)] at this
  exact this
theorem first_eq (s : Int) (z : List (Int × Nat)) (hz : z.length ≤ 1000) : FX 18 [.agg (errs s z)] = some [((picks s z).map el).headD .nil] := by
  rw [E_fault_First]
  have := first_loop (errs s z) (by rw [errs_len]; exact hz) _ 0 rfl (by omega)
  rw [List.drop_zero, errs_filter] at this
  exact this
theorem isL_el (k : Int) : ∀ ps : List Int, ErrD.isL (ps.map el) k = some (ps.map (· == k))
  | [] => rfl
  | c :: ps => by
    obtain ⟨t, x, he⟩ := errD_if [wW] c
    have h := isN_eq c k [wW] 100 (by simp)
    have ih := isL_el k ps
    have e : el c = .iface t x := he
    simp only [List.map_cons, ErrD.isL, ih, e, ErrD.isE]
    rw [he] at h
    simp only [h]
theorem has_all (ps : List Int) (h0 : ps ≠ []) (hl : ps.length ≤ 100) (k : Int) : FX 15 [.iface 61 (.agg (ps.map el)), .int k] = some [.bool (ps.any (· == k))] := by
  have hp : 0 < ps.length := List.length_pos_iff.2 h0
  have h : FX 16 [.iface 61 (.agg (ps.map el)), .iface 27 (.int k)] = some [.bool (ps.any (· == k))] := by
    rw [is_eq]
    have hn : ErrD.isN 100 (.iface 61 (.agg (ps.map el))) k = none := rfl
    simp only [ErrD.isF, hn, if_true, ErrD.isAllF, List.length_map, hp, hl, and_self, isL_el, Option.map_some, List.any_map]
    rfl
  rw [E_fault_Has]
  simp only [h, bindC, List.length_cons, List.length_nil, if_true, List.getD_cons_zero]
theorem code_all (c : Int) (ps : List Int) (hs : List D) : ∃ y, FX 12 [.iface 61 (.agg ((c :: ps).map el)), .agg hs] = some [.int c, .agg (hs ++ [y])] := by
  obtain ⟨t, x, he⟩ := errD_if [wW] c
  have e : el c = .iface t x := he
  have h := asC_eq c [wW] 100 (by simp)
  rw [he] at h
  refine ⟨.agg [.int c], ?_⟩
  have hn : ErrD.asC 100 (.iface 61 (.agg ((c :: ps).map el))) = none := rfl
  rw [E_fault_Code]
  simp only [D.toL_agg, as_eq]
  simp only [List.map_cons, e] at hn
  simp [ErrD.asFn, hn, ErrD.asHead, List.map_cons, e, h, ErrD.asRes, bindC, getL]
theorem many_loop2 (l : List Int) (hl : l.length ≤ 30) (s c : Int) (first : Int) (x4 x6 : D) (ps : List Int) (hps : picks s l.zipIdx = first :: ps) (g0 : Eng.Fn) : ∀ (r k : Nat) (b : Bool), l.length - k = r → k ≤ l.length →
    (picks s l.zipIdx).any (· == c) = (b || (picks s (l.zipIdx.drop k)).any (· == c)) →
    W_law01_FaultMany_2 (.agg (l.map D.int)) (.int s) (.int c) (.int first) x4 (.int (l.length : Int)) x6 (.iface 61 (.agg ((picks s l.zipIdx).map el))) (el first) g0 [.bool b, .int (k : Int)] = some [.bool true] := by
  intro r
  have hlen : (picks s l.zipIdx).length ≤ 100 := Nat.le_trans (picks_le _ _) (by simp; omega)
  have hne : picks s l.zipIdx ≠ [] := by rw [hps]; simp
  induction r with
  | zero =>
    intro k b hr hk hb
    obtain rfl : k = l.length := by omega
    have : l.zipIdx.drop l.length = [] := by simp
    rw [this] at hb
    obtain ⟨z, ez⟩ := awake []
    have hh := has_all (picks s l.zipIdx) hne hlen c
    obtain ⟨y1, e1⟩ := code_all first ps ([] ++ z)
    rw [← hps] at e1
    obtain ⟨y2, e2⟩ := code_eq [wW] (by simp) first ([] ++ z ++ [y1])
    have e2' : FX 12 [el first, .agg ([] ++ z ++ [y1])] = some [.int first, .agg ([] ++ z ++ [y1] ++ [y2])] := e2
    have hb' : (picks s l.zipIdx).any (· == c) = b := by simpa [picks] using hb
    rw [W_law01_FaultMany_2_eq]
    simp only [D.toInt_int, D.toL_agg, List.length_map, Int.lt_irrefl, decide_false, Bool.false_eq_true, if_false, ez, bindC, List.length_cons, List.length_nil, if_true, List.getD_cons_zero, List.getD_cons_succ, D.toBool_bool, D.isNil_iface, Bool.not_false, el_nil, hh, hb', beq_self_eq_true, e1, e2']
  | succ r ih =>
    intro k b hr hk hb
    have hlt : k < l.length := by omega
    have h1 : (k : Int) < (l.length : Int) := by omega
    have ek : IntKind.i64.wrap ((k : Int) + 1) = ((k + 1 : Nat) : Int) := by rw [i64w _ (by omega) (by omega)]; simp
    have hm := mod8 k
    rw [zdrop hlt] at hb
    rw [W_law01_FaultMany_2_eq]
    simp only [D.toInt_int, D.toL_agg, List.length_map, h1, decide_true, if_true, ge_iff_le, Int.natCast_nonneg, Int.toNat_natCast, getI hlt, D.toBool_bool, ek, hm, sk0]
    cases hp : sk s k with
    | true =>
      simp only [Bool.not_true, Bool.false_eq_true, if_false]
      exact ih (k + 1) b (by omega) (by omega) (by simpa [picks, hp] using hb)
    | false =>
      have hin : l[k] ∈ picks s l.zipIdx := by
        unfold picks
        rw [List.mem_filterMap]
        refine ⟨(l[k], k), ?_, by simp [hp]⟩
        rw [List.mem_iff_getElem]
        exact ⟨k, by simpa using hlt, by rw [List.getElem_zipIdx, Nat.zero_add]⟩
      have hh := has_all (picks s l.zipIdx) hne hlen l[k]
      have ht : ((picks s l.zipIdx).any fun x => x == l[k]) = true := List.any_eq_true.2 ⟨_, hin, by simp⟩
      rw [ht] at hh
      simp only [Bool.not_false, if_true, hh, bindC, List.length_cons, List.length_nil, List.getD_cons_zero, D.toBool_bool, Bool.not_true, Bool.false_eq_true, if_false]
      have hb2 : (picks s l.zipIdx).any (· == c) = (b || (l[k] == c || (picks s (l.zipIdx.drop (k + 1))).any (· == c))) := by simpa [picks, hp] using hb
      cases b with
      | true =>
        simp only [if_true]
        exact ih (k + 1) true (by omega) (by omega) (by simpa using hb2)
      | false =>
        simp only [Bool.false_eq_true, if_false]
        exact ih (k + 1) (l[k] == c) (by omega) (by omega) (by simpa using hb2)
theorem many (d0 d1 d2 : D) (w0 : Wf Tryd.prog (.slice 3) d0) (w1 : Wf Tryd.prog (.int .u8) d1) (w2 : Wf Tryd.prog (.int .i64) d2) : FX 5 [d0, d1, d2] = some [.bool true] := by
  obtain ⟨l, rfl, _, _⟩ := Wf.ints (k := .i64) (by kernel_rfl) w0
  obtain ⟨s, rfl, _⟩ := w1.toInt
  obtain ⟨c, rfl, _⟩ := w2.toInt
  obtain ⟨z, ez⟩ := awake []
  rw [E_law01_FaultMany]
  simp only [D.toL_agg, List.length_map]
  by_cases h1 : (l.length : Int) > 30
  · simp only [h1, decide_true, if_true, ez, bindC, List.length_cons, List.length_nil, List.getD_cons_zero]
  simp only [h1, decide_false, Bool.false_eq_true, if_false]
  have hL := many_loop1 l (by omega) s (.int c) _ 0 [] 0 false rfl (by omega) (by simp)
  rw [List.drop_zero, List.nil_append] at hL
  refine Eq.trans hL ?_
  simp only [Bool.false_eq_true, if_false, Bool.false_or]
  rw [W_law01_FaultMany_1_eq]
  have hzl : l.zipIdx.length ≤ 1000 := by simp; omega
  simp only [D.toInt_int, D.toL_agg, List.length_map, Int.lt_irrefl, decide_false, Bool.false_eq_true, if_false, first_eq s l.zipIdx hzl, D.toBool_bool]
  cases hp : picks s l.zipIdx with
  | nil =>
    simp only [all_eq0 s l.zipIdx hzl hp, bindC, List.length_cons, List.length_nil, if_true, List.getD_cons_zero, List.isEmpty_nil, Bool.not_true, Bool.not_false, ez, D.toBool_bool, D.isNil_nil, List.map_nil, List.headD_nil]
  | cons f ps =>
    have ha := all_eq s l.zipIdx hzl (by rw [hp]; simp)
    simp only [ha, bindC, List.length_cons, List.length_nil, if_true, List.getD_cons_zero, List.isEmpty_cons, Bool.not_true, Bool.not_false, Bool.false_eq_true, if_false, List.map_cons, List.headD_cons]
    have := many_loop2 l (by omega) s c f (.bool true) (.agg (errs s l.zipIdx)) ps hp (W_law01_FaultMany_1 (.agg (l.map D.int)) (.int s) (.int c)) _ 0 false rfl (by omega) (by simp)
    exact this
end Go.Proofs.YtnaokofklgbbcaaDoor.FaultD
