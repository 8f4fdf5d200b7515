/-
  RulesAgents, on data.
-/
import Derived.Test.YtifghdombpcpjaaAllE
import Derived.Test.YtifghdombpcpjaaMapD
import Derived.Test.YtifghdombpcpjaaCfgN
import Derived.Test.YtifghdombpcpjaaOpen
import Derived.Test.YtifghdombpcpjaaProg
namespace Go.Proofs.Ytifghdombpcpjaa.RU
open Go.Proofs.Ytifghdombpcpjaa.Eng Go.Proofs.Ytifghdombpcpjaa Go.Proofs.Ytifghdombpcpjaa.Dat Go.Proofs.Ytifghdombpcpjaa.Open Go.Proofs.Ytifghdombpcpjaa.MapD
set_option linter.unusedVariables false
set_option linter.unusedSimpArgs false
set_option maxRecDepth 10000
set_option linter.unusedSectionVars false

theorem loop_to (W : Eng.Fn) (st : Nat → List D) : ∀ n, (∀ j, j < n → W (st j) = W (st (j + 1))) → W (st 0) = W (st n)
  | 0, _ => rfl
  | n + 1, h => (loop_to W st n fun j hj => h j (by omega)).trans (h n (by omega))
theorem loop_from (W : Eng.Fn) (st : Nat → List D) (n : Nat) {s0 : List D} (h0 : st 0 = s0) (h : ∀ j, j < n → W (st j) = W (st (j + 1))) : W s0 = W (st n) := h0 ▸ loop_to W st n h
theorem wj {j : Nat} (h : j < 9000000000000000) : IntKind.i64.wrap ((j : Int) + 1) = ((j + 1 : Nat) : Int) := by rw [i64w _ (by omega) (by omega)]; simp
theorem good {c : Cf} (hc : c.ok) : FX 7 c.ds = some (c.ds ++ [.nil]) := by rw [new_eq, (firstBad_none c).2 hc]
theorem awake_eq : FX 9 [] = some [.bool true] := by
  have hg := good (c := ⟨2, 3, 1, 1, 0, 1, 1⟩) (by unfold Cf.ok; decide)
  simp only [Cf.ds, List.cons_append, List.nil_append] at hg
  rw [E_law05_awake]
  simp only [hg, bindC, List.length_cons, List.length_nil, if_true, List.getD_cons_zero, List.getD_cons_succ, E_rules_Rules_Cell, E_rules_Rules_Owner, E_rules_Rules_All, D.toInt_int]
  rfl
/-- The keys that are there: participants below p, so many sweepers, so many reapers. -/
def one : D := .bool true
structure Keys (P S : Nat) (p i : Nat) (l : List (Int × D)) : Prop where
  val : ∀ k : Int, val l k = if (0 ≤ k ∧ k < p) ∨ ((P : Int) ≤ k ∧ k < P + i) ∨ ((P + S : Nat) ≤ k ∧ k < ((P + S + i : Nat) : Int)) then some one else none
  len : l.length = p + 2 * i
theorem Keys.put {P S p i : Nat} {l : List (Int × D)} (h : Keys P S p i l) {k : Int} (hk : MapD.val l k = none) : MapD.put l k one = l ++ [(k, one)] := put_new hk _
theorem laws (c : Cf) (hc : c.ok) : ∃ P S : Nat, c.c0 = P ∧ c.c2 * c.c3 = S ∧ 1 ≤ P ∧ P ≤ 6 ∧ 1 ≤ S ∧ S ≤ 12 := by
  obtain ⟨⟨a1, a2⟩, _, ⟨b1, b2⟩, ⟨c1, c2⟩, _⟩ := hc
  have h1 : c.c2 * c.c3 ≤ 3 * 4 := Int.mul_le_mul b2 c2 (by omega) (by omega)
  have h2 : 1 * 1 ≤ c.c2 * c.c3 := Int.mul_le_mul b1 c1 (by omega) (by omega)
  exact ⟨c.c0.toNat, (c.c2 * c.c3).toNat, by omega, by omega, by omega, by omega, by omega, by omega⟩
section
variable {c : Cf} {P S : Nat} (h0 : c.c0 = P) (hS : c.c2 * c.c3 = S) (hP1 : P ≤ 6) (hS1 : S ≤ 12)
include h0 hS hP1 hS1
theorem shards_eq : FX 15 c.ds = some [.int (S : Nat)] := by
  unfold Cf.ds
  rw [E_rules_Rules_Shards]
  simp only [D.toInt_int, hS, i64w (S : Int) (by omega) (by omega)]
theorem agents_eq : FX 18 c.ds = some [.int ((P + 2 * S : Nat) : Int)] := by
  have hs := shards_eq h0 hS hP1 hS1
  unfold Cf.ds at hs ⊢
  rw [h0] at hs ⊢
  rw [E_rules_Rules_Agents]
  simp only [hs, bindC, List.length_cons, List.length_nil, if_true, List.getD_cons_zero, D.toInt_int, i64w (2 * (S : Int)) (by omega) (by omega), i64w ((P : Int) + 2 * (S : Int)) (by omega) (by omega)]
  rw [show (P : Int) + 2 * (S : Int) = ((P + 2 * S : Nat) : Int) by omega]
theorem sweeper_eq (i : Nat) (hi : i < S) : FX 16 (c.ds ++ [.int (i : Nat)]) = some [.int ((P + i : Nat) : Int)] := by
  have hs := shards_eq h0 hS hP1 hS1
  unfold Cf.ds at hs ⊢
  simp only [List.cons_append, List.nil_append]
  rw [h0] at hs ⊢
  rw [E_rules_Rules_Sweeper]
  have e1 : ¬ (i : Int) < 0 := by omega
  have e2 : ¬ (i : Int) ≥ (S : Int) := by omega
  simp only [hs, bindC, List.length_cons, List.length_nil, if_true, List.getD_cons_zero, D.toInt_int, e1, e2, decide_false, Bool.false_eq_true, if_false, i64w ((P : Int) + (i : Int)) (by omega) (by omega)]
  rw [show (P : Int) + (i : Int) = ((P + i : Nat) : Int) by omega]
theorem reaper_eq (i : Nat) (hi : i < S) : FX 17 (c.ds ++ [.int (i : Nat)]) = some [.int ((P + S + i : Nat) : Int)] := by
  have hs := shards_eq h0 hS hP1 hS1
  unfold Cf.ds at hs ⊢
  simp only [List.cons_append, List.nil_append]
  rw [h0] at hs ⊢
  rw [E_rules_Rules_Reaper]
  have e1 : ¬ (i : Int) < 0 := by omega
  have e2 : ¬ (i : Int) ≥ (S : Int) := by omega
  simp only [hs, bindC, List.length_cons, List.length_nil, if_true, List.getD_cons_zero, D.toInt_int, e1, e2, decide_false, Bool.false_eq_true, if_false, i64w ((P : Int) + (S : Int)) (by omega) (by omega), i64w ((P : Int) + (S : Int) + (i : Int)) (by omega) (by omega)]
  rw [show (P : Int) + (S : Int) + (i : Int) = ((P + S + i : Nat) : Int) by omega]
theorem third (x14 a b : D) (l : List (Int × D)) (hl : Keys P S P S l) (g0 g1 : Eng.Fn) :
    W_law05_RulesAgents_3 (.int c.c0) (.int c.c1) (.int c.c2) (.int c.c3) (.int c.c4) (.int c.c5) (.int c.c6) (.int c.c0) (.int c.c1) (.int c.c2) (.int c.c3) (.int c.c4) (.int c.c5) (.int c.c6) x14 a b (.int (S : Nat)) (.int (S : Nat)) (.agg (ents D.int l)) (.int ((P + 2 * S : Nat) : Int)) g0 g1 [.int 0] = some [.bool true] := by
  have ha := agents_eq h0 hS hP1 hS1
  have hs := shards_eq h0 hS hP1 hS1
  unfold Cf.ds at ha hs
  rw [h0] at ha hs ⊢
  have hL := loop_from (W_law05_RulesAgents_3 (.int (P : Int)) (.int c.c1) (.int c.c2) (.int c.c3) (.int c.c4) (.int c.c5) (.int c.c6) (.int (P : Int)) (.int c.c1) (.int c.c2) (.int c.c3) (.int c.c4) (.int c.c5) (.int c.c6) x14 a b (.int (S : Nat)) (.int (S : Nat)) (.agg (ents D.int l)) (.int ((P + 2 * S : Nat) : Int)) g0 g1) (fun j => [.int (j : Nat)]) (P + 2 * S) (s0 := [.int 0]) rfl (fun j hj => by
    rw [W_law05_RulesAgents_3_eq]
    have h1 : (j : Int) < ((P + 2 * S : Nat) : Int) := by omega
    have hv : MapD.val l (j : Int) = some one := by rw [hl.val, if_pos (by omega)]
    simp only [D.toInt_int, D.toL_agg, h1, decide_true, if_true, mget_ents keq_int, hv, Option.getD_some, one, D.toBool_bool, Bool.not_true, Bool.false_eq_true, if_false, wj (show j < 9000000000000000 by omega)])
  refine hL.trans ?_
  rw [W_law05_RulesAgents_3_eq]
  have hlen : ((ents D.int l).length : Int) = ((P + 2 * S : Nat) : Int) := by simp only [ents, List.length_map, hl.len]
  simp only [D.toInt_int, D.toL_agg, Int.lt_irrefl, decide_false, Bool.false_eq_true, if_false, awake_eq, bindC, List.length_cons, List.length_nil, if_true, List.getD_cons_zero, D.toBool_bool, ha, hs, hlen, beq_self_eq_true, i64w (2 * (S : Int)) (by omega) (by omega), i64w ((P : Int) + 2 * (S : Int)) (by omega) (by omega)]
  rw [show (P : Int) + 2 * (S : Int) = ((P + 2 * S : Nat) : Int) by omega]
  simp
theorem second (x14 a b : D) (l : List (Int × D)) (hl : Keys P S P 0 l) (g0 : Eng.Fn) :
    W_law05_RulesAgents_2 (.int c.c0) (.int c.c1) (.int c.c2) (.int c.c3) (.int c.c4) (.int c.c5) (.int c.c6) (.int c.c0) (.int c.c1) (.int c.c2) (.int c.c3) (.int c.c4) (.int c.c5) (.int c.c6) x14 a b (.int (S : Nat)) g0 [.int 0, .agg (ents D.int l)] = some [.bool true] := by
  have ha := agents_eq h0 hS hP1 hS1
  unfold Cf.ds at ha
  have go : ∀ (n i : Nat) (l : List (Int × D)), i + n = S → Keys P S P i l → W_law05_RulesAgents_2 (.int c.c0) (.int c.c1) (.int c.c2) (.int c.c3) (.int c.c4) (.int c.c5) (.int c.c6) (.int c.c0) (.int c.c1) (.int c.c2) (.int c.c3) (.int c.c4) (.int c.c5) (.int c.c6) x14 a b (.int (S : Nat)) g0 [.int (i : Nat), .agg (ents D.int l)] = some [.bool true] := by
    intro n
    induction n with
    | zero =>
      intro i l hi hk
      have : i = S := by omega
      subst this
      rw [W_law05_RulesAgents_2_eq]
      simp only [D.toInt_int, Int.lt_irrefl, decide_false, Bool.false_eq_true, if_false, ha, bindC, List.length_cons, List.length_nil, if_true, List.getD_cons_zero]
      exact third h0 hS hP1 hS1 _ _ _ l hk _ _
    | succ n ih =>
      intro i l hi hk
      have hsw := sweeper_eq h0 hS hP1 hS1 i (by omega)
      have hre := reaper_eq h0 hS hP1 hS1 i (by omega)
      unfold Cf.ds at hsw hre
      simp only [List.cons_append, List.nil_append] at hsw hre
      have v1 : MapD.val l ((P + i : Nat) : Int) = none := by rw [hk.val, if_neg (by omega)]
      have v2 : MapD.val (MapD.put l ((P + i : Nat) : Int) one) ((P + S + i : Nat) : Int) = none := by rw [val_put, if_neg (by omega), hk.val, if_neg (by omega)]
      have hk' : Keys P S P (i + 1) (MapD.put (MapD.put l ((P + i : Nat) : Int) one) ((P + S + i : Nat) : Int) one) := by
        refine ⟨fun k => ?_, ?_⟩
        · rw [val_put, val_put, hk.val]
          by_cases e1 : k = ((P + S + i : Nat) : Int)
          · rw [if_pos e1, if_pos (by omega)]
          · rw [if_neg e1]
            by_cases e2 : k = ((P + i : Nat) : Int)
            · rw [if_pos e2, if_pos (by omega)]
            · rw [if_neg e2]
              by_cases e3 : (0 ≤ k ∧ k < P) ∨ ((P : Int) ≤ k ∧ k < P + i) ∨ ((P + S : Nat) ≤ k ∧ k < ((P + S + i : Nat) : Int))
              · rw [if_pos e3, if_pos (by omega)]
              · rw [if_neg e3, if_neg (by omega)]
        · rw [put_new v2, List.length_append, put_new v1, List.length_append, hk.len]
          simp only [List.length_cons, List.length_nil]
          omega
      have := ih (i + 1) _ (by omega) hk'
      rw [W_law05_RulesAgents_2_eq]
      have h1 : (i : Int) < (S : Int) := by omega
      simp only [D.toInt_int, D.toL_agg, h1, decide_true, if_true, hsw, hre, bindC, List.length_cons, List.length_nil, List.getD_cons_zero, mput_ents keq_int, wj (show i < 9000000000000000 by omega)]
      exact this
  exact go S 0 l (by omega) hl
theorem first (x14 : D) :
    W_law05_RulesAgents_1 (.int c.c0) (.int c.c1) (.int c.c2) (.int c.c3) (.int c.c4) (.int c.c5) (.int c.c6) (.int c.c0) (.int c.c1) (.int c.c2) (.int c.c3) (.int c.c4) (.int c.c5) (.int c.c6) x14 [.int 0, .agg []] = some [.bool true] := by
  have hs := shards_eq h0 hS hP1 hS1
  unfold Cf.ds at hs
  have go : ∀ (n p : Nat) (l : List (Int × D)), p + n = P → Keys P S p 0 l → W_law05_RulesAgents_1 (.int c.c0) (.int c.c1) (.int c.c2) (.int c.c3) (.int c.c4) (.int c.c5) (.int c.c6) (.int c.c0) (.int c.c1) (.int c.c2) (.int c.c3) (.int c.c4) (.int c.c5) (.int c.c6) x14 [.int (p : Nat), .agg (ents D.int l)] = some [.bool true] := by
    intro n
    induction n with
    | zero =>
      intro p l hi hk
      have : p = P := by omega
      subst this
      rw [W_law05_RulesAgents_1_eq]
      have hq : ¬ ((p : Nat) : Int) < c.c0 := by omega
      simp only [D.toInt_int, hq, decide_false, Bool.false_eq_true, if_false]
      simp only [hs, bindC, List.length_cons, List.length_nil, if_true, List.getD_cons_zero]
      exact second h0 hS hP1 hS1 _ _ _ l hk _
    | succ n ih =>
      intro p l hi hk
      have v1 : MapD.val l ((p : Nat) : Int) = none := by rw [hk.val, if_neg (by omega)]
      have hk' : Keys P S (p + 1) 0 (MapD.put l ((p : Nat) : Int) one) := by
        refine ⟨fun k => ?_, ?_⟩
        · rw [val_put, hk.val]
          by_cases e2 : k = ((p : Nat) : Int)
          · rw [if_pos e2, if_pos (by omega)]
          · rw [if_neg e2]
            by_cases e3 : (0 ≤ k ∧ k < p) ∨ ((P : Int) ≤ k ∧ k < P + (0 : Nat)) ∨ ((P + S : Nat) ≤ k ∧ k < ((P + S + 0 : Nat) : Int))
            · rw [if_pos e3, if_pos (by omega)]
            · rw [if_neg e3, if_neg (by omega)]
        · rw [put_new v1, List.length_append, hk.len]
          simp only [List.length_cons, List.length_nil]
      have := ih (p + 1) _ (by omega) hk'
      rw [W_law05_RulesAgents_1_eq]
      have h1 : (p : Int) < c.c0 := by omega
      simp only [D.toInt_int, D.toL_agg, h1, decide_true, if_true, mput_ents keq_int, wj (show p < 9000000000000000 by omega)]
      exact this
  exact go P 0 [] (by omega) ⟨fun k => by simp only [MapD.val]; rw [if_neg (by omega)], rfl⟩
end
theorem agents_law (c : Cf) : FX 4 c.ds = some [.bool true] := by
  have hn := new_eq c
  unfold Cf.ds at hn ⊢
  rw [E_law05_RulesAgents]
  cases hb : firstBad c.lims 0 with
  | some p =>
    obtain ⟨j, e⟩ := p
    simp only [hb] at hn
    have he : (errAt j e).isNil = false := rfl
    simp only [hn, bindC, List.length_cons, List.length_nil, if_true, List.getD_cons_zero, List.getD_cons_succ, he, Bool.not_false, awake_eq]
  | none =>
    have hc := (firstBad_none c).1 hb
    simp only [hb, Cf.ds, List.cons_append, List.nil_append] at hn
    have hz : D.nil.isNil = true := rfl
    simp only [hn, bindC, List.length_cons, List.length_nil, if_true, List.getD_cons_zero, List.getD_cons_succ, hz, Bool.not_true, Bool.false_eq_true, if_false]
    obtain ⟨P, S, h0, hS, _, h1, _, h2⟩ := laws c hc
    exact first h0 hS h1 h2 _
theorem agents (x0 : List D) (w0 : Open.AllF Try.prog [.int .i64, .int .i64, .int .i64, .int .i64, .int .i64, .int .i64, .int .i64] x0) : FX 4 (x0 ++ []) = some [.bool true] := by
  obtain ⟨d0, _, rfl, w0, d1, _, rfl, w1, d2, _, rfl, w2, d3, _, rfl, w3, d4, _, rfl, w4, d5, _, rfl, w5, d6, _, rfl, w6, rfl⟩ := w0
  obtain ⟨n0, rfl, _⟩ := w0.toInt; obtain ⟨n1, rfl, _⟩ := w1.toInt; obtain ⟨n2, rfl, _⟩ := w2.toInt; obtain ⟨n3, rfl, _⟩ := w3.toInt; obtain ⟨n4, rfl, _⟩ := w4.toInt; obtain ⟨n5, rfl, _⟩ := w5.toInt; obtain ⟨n6, rfl, _⟩ := w6.toInt
  exact agents_law ⟨n0, n1, n2, n3, n4, n5, n6⟩
end Go.Proofs.Ytifghdombpcpjaa.RU
