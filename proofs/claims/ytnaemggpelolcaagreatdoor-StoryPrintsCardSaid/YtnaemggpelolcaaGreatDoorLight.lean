/-
  The laws' bound on lines, and the document's example, on data.
-/
import Derived.Test.YtnaemggpelolcaaGreatDoorStoryM
import Derived.Test.YtnaemggpelolcaaGreatDoorOpenS
import Derived.Test.YtnaemggpelolcaaGreatDoorChecked
namespace Go.Proofs.YtnaemggpelolcaaGreatDoor.StoD
open Go.Proofs.YtnaemggpelolcaaGreatDoor.Eng Go.Proofs.YtnaemggpelolcaaGreatDoor.Dat Go.Proofs.YtnaemggpelolcaaGreatDoor Go.Proofs.YtnaemggpelolcaaGreatDoor.WordP Go.Proofs.YtnaemggpelolcaaGreatDoor.StrL Go.Proofs.YtnaemggpelolcaaGreatDoor.Open
open Go.Lib (decDigits itoa nDigits)
set_option linter.unusedVariables false
set_option linter.unusedSimpArgs false
set_option maxRecDepth 10000

def lightB : Nat → List Bs → Bool
  | _, [] => true
  | n, s :: l => if 5000 < n + s.length + 1 then false else if s.any (· == 10) = true then false else lightB (n + s.length + 1) l
theorem u8_10 (c : UInt8) : (((c.toNat : Nat) : Int) == 10) = (c == 10) := by
  by_cases h : c = 10
  · subst h; rfl
  · have : c.toNat ≠ 10 := fun e => h (by rw [← UInt8.toNat_inj]; exact e)
    have h1 : (c == 10) = false := by simpa using h
    rw [h1]
    simp; omega
theorem light2 (ls : List Bs) (i n : Nat) (hi : i < ls.length) (hl : ls.length ≤ 1000000000000000) (hn : n ≤ 5000) (hs : ls[i].length ≤ 5000) (g0 : Eng.Fn) : ∀ (d j : Nat), d + j = ls[i].length →
    W_law26_light_2 (wD ls) (.int (n : Nat)) (.int (i : Nat)) g0 [.int (j : Nat)] = if (ls[i].drop j).any (· == 10) = true then some [.bool false] else g0 [.int ((n + ls[i].length + 1 : Nat) : Int), .int ((i + 1 : Nat) : Int)]
  | 0, j, h => by
    have hg : (wD ls).toL.getD i .nil = .str (toB ls[i]) := by simp [wD, hi]
    have h1 : ¬ ((j : Int) < ((ls[i].length : Nat) : Int)) := by omega
    have e1 : IntKind.i64.wrap ((ls[i].length : Int) + 1) = ((ls[i].length + 1 : Nat) : Int) := by rw [wrap_small _ (by omega) (by omega)]; omega
    have e2 : IntKind.i64.wrap ((n : Int) + ((ls[i].length + 1 : Nat) : Int)) = ((n + ls[i].length + 1 : Nat) : Int) := by rw [wrap_small _ (by omega) (by omega)]; omega
    have e3 : IntKind.i64.wrap ((i : Int) + 1) = ((i + 1 : Nat) : Int) := by rw [wrap_small _ (by omega) (by omega)]; omega
    rw [W_law26_light_2_eq, List.drop_eq_nil_of_le (by omega)]
    simp only [D.toInt_int, Int.toNat_natCast, hg, D.toStr_str, toB_size, h1, decide_false, Bool.false_eq_true, if_false, e1, e2, e3, List.any_nil]
  | d + 1, j, h => by
    have hg : (wD ls).toL.getD i .nil = .str (toB ls[i]) := by simp [wD, hi]
    have hlt : j < ls[i].length := by omega
    have h1 : ((j : Int) < ((ls[i].length : Nat) : Int)) := by omega
    have h2 : (j : Int) ≥ 0 := by omega
    have e3 : IntKind.i64.wrap ((j : Int) + 1) = ((j + 1 : Nat) : Int) := by rw [wrap_small _ (by omega) (by omega)]; omega
    have ih := light2 ls i n hi hl hn hs g0 d (j + 1) (by omega)
    have hgj : ls[i].getD j 0 = ls[i][j] := by rw [List.getD_eq_getElem?_getD, List.getElem?_eq_getElem hlt, Option.getD_some]
    rw [W_law26_light_2_eq, List.drop_eq_getElem_cons hlt, List.any_cons]
    simp only [D.toInt_int, Int.toNat_natCast, hg, D.toStr_str, toB_size, toB_get, hgj, h1, h2, decide_true, if_true, u8_10, e3, ih]
    cases (ls[i][j] == 10) <;> simp
theorem light1 (ls : List Bs) (hl : ls.length ≤ 1000000000000000) (hs : ∀ s ∈ ls, s.length ≤ 1000000000000000) : ∀ (d i n : Nat), d + i = ls.length → n ≤ 5000 →
    W_law26_light_1 (wD ls) [.int (n : Nat), .int (i : Nat)] = some [.bool (lightB n (ls.drop i) && decide (ls.length ≤ 100))]
  | 0, i, n, h, hn => by
    have h1 : ¬ ((i : Int) < ((ls.length : Nat) : Int)) := by omega
    rw [W_law26_light_1_eq, List.drop_eq_nil_of_le (by omega)]
    simp only [D.toInt_int, wD_lenN, h1, decide_false, Bool.false_eq_true, if_false, lightB, Bool.true_and]
    have : decide ((ls.length : Int) ≤ 100) = decide (ls.length ≤ 100) := decide_eq_decide.2 (by omega)
    rw [this]
  | d + 1, i, n, h, hn => by
    have hlt : i < ls.length := by omega
    have hg : (wD ls).toL.getD i .nil = .str (toB ls[i]) := by simp [wD, hlt]
    have hsi := hs ls[i] (List.getElem_mem hlt)
    have h1 : ((i : Int) < ((ls.length : Nat) : Int)) := by omega
    have h2 : (i : Int) ≥ 0 := by omega
    have e1 : IntKind.i64.wrap ((ls[i].length : Int) + 1) = ((ls[i].length + 1 : Nat) : Int) := by rw [wrap_small _ (by omega) (by omega)]; omega
    have e2 : IntKind.i64.wrap ((n : Int) + ((ls[i].length + 1 : Nat) : Int)) = ((n + ls[i].length + 1 : Nat) : Int) := by rw [wrap_small _ (by omega) (by omega)]; omega
    rw [W_law26_light_1_eq, List.drop_eq_getElem_cons hlt]
    simp only [D.toInt_int, wD_lenN, h1, h2, decide_true, if_true, Int.toNat_natCast, hg, D.toStr_str, toB_size, e1, e2]
    by_cases hb : 5000 < n + ls[i].length + 1
    · have hb' : ((n + ls[i].length + 1 : Nat) : Int) > 5000 := by omega
      simp only [hb', decide_true, if_true, lightB, hb, Bool.false_and]
    · have hb' : ¬ ((n + ls[i].length + 1 : Nat) : Int) > 5000 := by omega
      have hz : (D.int (0 : Int)) = .int ((0 : Nat) : Int) := rfl
      simp only [hb', decide_false, Bool.false_eq_true, if_false, lightB, hb]
      rw [hz, light2 ls i n hlt hl hn (by omega) _ ls[i].length 0 (by omega), List.drop_zero]
      cases ha : ls[i].any (· == 10) with
      | true => simp
      | false =>
        simp only [Bool.false_eq_true, if_false]
        exact light1 ls hl hs d (i + 1) (n + ls[i].length + 1) (by omega) (by omega)
theorem light_eq (ls : List Bs) (hl : ls.length ≤ 1000000000000000) (hs : ∀ s ∈ ls, s.length ≤ 1000000000000000) : FX 5 [wD ls] = some [.bool (lightB 0 ls && decide (ls.length ≤ 100))] := by
  rw [E_law26_light]
  have := light1 ls hl hs ls.length 0 0 (by omega) (by omega)
  rw [List.drop_zero] at this
  exact this
theorem lightB_short : ∀ {ls : List Bs} {n : Nat}, lightB n ls = true → ∀ s ∈ ls, s.length ≤ 5000
  | s :: l, n, h, t, ht => by
    simp only [lightB] at h
    split at h
    · cases h
    · split at h
      · cases h
      · rcases List.mem_cons.1 ht with rfl | ht
        · omega
        · exact lightB_short h t ht
theorem lightB_ink : ∀ {ls : List Bs} {n : Nat}, lightB n ls = true → ∀ s ∈ ls, s.any (· == 10) = false
  | s :: l, n, h, t, ht => by
    simp only [lightB] at h
    split at h
    · cases h
    · split at h
      · cases h
      · rename_i h1
        rcases List.mem_cons.1 ht with rfl | ht
        · exact Bool.eq_false_iff.2 h1
        · exact lightB_ink h t ht
def exL : List Bs := [[115, 97, 121, 32, 48, 32, 118, 105, 101, 119], [112, 105, 99, 107, 32, 48, 32, 51]]
theorem exL_eq : storyB 0 exL = .ok [⟨1, 0, 0, [118, 105, 101, 119]⟩, ⟨3, 0, 0, []⟩, ⟨3, 0, 0, []⟩, ⟨3, 0, 0, []⟩] := by rfl
theorem awake_eq : FX 6 [] = some [.bool true] := by
  have h := story_eq exL (by decide) (by decide)
  rw [exL_eq] at h
  rw [E_law26_awake]
  have e : D.agg [D.str (ByteArray.mk #[115, 97, 121, 32, 48, 32, 118, 105, 101, 119]), D.str (ByteArray.mk #[112, 105, 99, 107, 32, 48, 32, 51])] = wD exL := rfl
  rw [e, h]
  simp [resS, bindC, evsD, evD, show ByteArray.mk #[118, 105, 101, 119] = toB [118, 105, 101, 119] from rfl, show ByteArray.mk #[] = toB [] from rfl, eql_toB]
theorem lines_of {t : TypeId} (hT : cellTys Tryz.prog t = some [.str]) (hB : Tryz.prog.bytesOf t = 16) {d : D} (h : Wf Tryz.prog (.slice t) d) : ∃ ls : List Bs, d = wD ls ∧ ls.length ≤ 1000000000000000 ∧ ∀ s ∈ ls, s.length ≤ 1000000000000000 := by
  obtain ⟨l, rfl, hl, hs⟩ := h.strings hT
  have hr : reachBytes < 140737488355328 := reachBytes_lt
  rw [hB] at hl
  refine ⟨l.map fun s => s.data.toList, ?_, by rw [List.length_map]; omega, fun s hs' => ?_⟩
  · have : (fun s : ByteArray => D.str (toB s.data.toList)) = D.str := by funext s; rw [toB_of]
    simp only [wD, List.map_map, Function.comp_def, this]
  · obtain ⟨b, hb, rfl⟩ := List.mem_map.1 hs'
    have := hs b hb
    have e : b.data.toList.length = b.size := by rw [Array.length_toList]; rfl
    omega
end Go.Proofs.YtnaemggpelolcaaGreatDoor.StoD
