/-
  A reader of Go functions, part X: the functions of a program, all at once, without fuel.
-/
import Derived.Test.YtobacchojjfpfaaGreatDoorEngQ
namespace Go.Proofs.YtobacchojjfpfaaGreatDoor.Eng
set_option linter.unusedVariables false
set_option linter.unusedSimpArgs false

def Fn.le (f g : Eng.Fn) : Prop := ∀ xs r, f xs = some r → g xs = some r
def LeL (L M : List Fn) : Prop := L.length = M.length ∧ ∀ (i : Nat) (g h : Fn), L[i]? = some g → M[i]? = some h → Fn.le g h
theorem Fn.le_refl (f : Eng.Fn) : Fn.le f f := fun _ _ h => h
theorem Fn.le_trans {f g h : Eng.Fn} (a : Fn.le f g) (b : Fn.le g h) : Fn.le f h := fun xs r q => b xs r (a xs r q)
theorem LeL.refl (L : List Fn) : LeL L L := ⟨rfl, fun i g h a b => by rw [a] at b; cases b; exact Fn.le_refl _⟩
theorem LeL.snoc {L M : List Fn} (h : LeL L M) {g k : Fn} (hg : Fn.le g k) : LeL (L ++ [g]) (M ++ [k]) := by
  refine ⟨by simp [h.1], fun i a b ha hb => ?_⟩
  rcases Nat.lt_trichotomy i L.length with hi | hi | hi
  · rw [List.getElem?_append_left hi] at ha
    rw [List.getElem?_append_left (by rw [← h.1]; exact hi)] at hb
    exact h.2 i a b ha hb
  · subst hi
    rw [List.getElem?_append_right (Nat.le_refl _), Nat.sub_self] at ha
    rw [List.getElem?_append_right (by rw [h.1]; exact Nat.le_refl _), ← h.1, Nat.sub_self] at hb
    cases ha; cases hb; exact hg
  · rw [List.getElem?_eq_none (by simp; omega)] at ha
    cases ha
theorem loopN_mono {G H : Fn → Fn} (hG : ∀ g h, Fn.le g h → Fn.le (G g) (H h)) : ∀ {n m : Nat}, n ≤ m → Fn.le (loopN G n) (loopN H m)
  | 0, m, _ => fun xs r h => by cases h
  | n + 1, 0, h => by omega
  | n + 1, m + 1, h => hG _ _ (loopN_mono hG (by omega))
theorem eval_mono {Fs Gs : Nat → Fn} (hF : ∀ f, Fn.le (Fs f) (Gs f)) {n m : Nat} (hn : n ≤ m) : ∀ (t : T) {L M : List Fn} {ρ r : List D}, LeL L M → eval Fs n t L ρ = some r → eval Gs m t M ρ = some r := by
  intro t
  induction t with
  | ret es => intro L M ρ r hL h; exact h
  | ite c a b iha ihb =>
    intro L M ρ r hL h
    simp only [eval] at h ⊢
    split at h
    · rename_i hc
      simp only [if_pos hc]
      exact iha hL h
    · rename_i hc
      simp only [if_neg hc]
      exact ihb hL h
  | need c t ih =>
    intro L M ρ r hL h
    simp only [eval] at h ⊢
    split at h
    · rename_i hc
      simp only [if_pos hc]
      exact ih hL h
    · cases h
  | call f args k t ih =>
    intro L M ρ r hL h
    simp only [eval] at h ⊢
    split at h
    · rename_i x hx
      rw [hF f _ _ hx]
      simp only
      split at h
      · rename_i hk
        rw [if_pos hk]
        exact ih hL h
      · cases h
    · cases h
  | any a b iha ihb =>
    intro L M ρ r hL h
    simp only [eval] at h ⊢
    obtain ⟨h1, h2⟩ := both_some h
    exact both_mk (iha hL h1) (ihb hL h2)
  | loop inits body ih =>
    intro L M ρ r hL h
    simp only [eval] at h ⊢
    exact loopN_mono (G := fun g xs => eval Fs n body (L ++ [g]) (ρ ++ xs)) (H := fun g xs => eval Gs m body (M ++ [g]) (ρ ++ xs)) (fun g k hg xs r q => ih (hL.snoc hg) q) hn (inits.map (den ρ)) r h
  | again l es =>
    intro L M ρ r hL h
    simp only [eval] at h ⊢
    split at h
    · rename_i g hg
      have hlt := (List.getElem?_eq_some_iff.1 hg).1
      have hm : M[l]? = some (M[l]'(by rw [← hL.1]; exact hlt)) := List.getElem?_eq_getElem _
      rw [hm]
      exact hL.2 l _ _ hg hm _ _ h
    · cases h
  | jp body t ihb iht =>
    intro L M ρ r hL h
    simp only [eval] at h ⊢
    exact iht (hL.snoc (fun xs r q => ihb hL q)) h
  | fail w => intro L M ρ r hL h; cases h
  | stop w => intro L M ρ r hL h; cases h

/-! Limits. -/
def Chain (c : Nat → Fn) : Prop := ∀ n m, n ≤ m → Fn.le (c n) (c m)
open Classical in
noncomputable def lim (c : Nat → Fn) : Fn := fun xs => if h : ∃ n, (c n xs).isSome = true then c (Classical.choose h) xs else none
theorem lim_some {c : Nat → Fn} (hc : Chain c) {xs r : List D} : lim c xs = some r ↔ ∃ n, c n xs = some r := by
  unfold lim
  constructor
  · intro h
    split at h
    · exact ⟨_, h⟩
    · cases h
  · rintro ⟨n, h⟩
    have hex : ∃ n, (c n xs).isSome = true := ⟨n, by rw [h]; rfl⟩
    rw [dif_pos hex]
    have hs := Classical.choose_spec hex
    cases hq : c (Classical.choose hex) xs with
    | none => rw [hq] at hs; cases hs
    | some q =>
      rcases Nat.le_total n (Classical.choose hex) with h1 | h1
      · rw [hc _ _ h1 _ _ h] at hq; exact hq.symm
      · have := hc _ _ h1 _ _ hq; rw [h] at this; exact this.symm
theorem lim_ge {c : Nat → Fn} (hc : Chain c) (n : Nat) : Fn.le (c n) (lim c) := fun xs r h => (lim_some hc).2 ⟨n, h⟩
noncomputable def loopF (G : Fn → Fn) : Fn := lim (loopN G)
noncomputable def evalF (F : Nat → Fn) : T → List Fn → List D → Option (List D)
  | .ret es, _, ρ => some (es.map (den ρ))
  | .ite c a b, L, ρ => if (den ρ c).toBool = true then evalF F a L ρ else evalF F b L ρ
  | .need c t, L, ρ => if (den ρ c).toBool = true then evalF F t L ρ else none
  | .call f args k t, L, ρ => match F f (args.map (den ρ)) with
    | some r => if r.length = k then evalF F t L (ρ ++ r) else none
    | none => none
  | .any a b, L, ρ => both (evalF F a L ρ) (evalF F b L ρ)
  | .loop inits body, L, ρ => loopF (fun g xs => evalF F body (L ++ [g]) (ρ ++ xs)) (inits.map (den ρ))
  | .again l es, L, ρ => match L[l]? with
    | some g => g (es.map (den ρ))
    | none => none
  | .jp body t, L, ρ => evalF F t (L ++ [fun xs => evalF F body L (ρ ++ xs)]) ρ
  | .fail _, _, _ => none
  | .stop _, _, _ => none
def MonoG (G : Fn → Fn) : Prop := ∀ g h, Fn.le g h → Fn.le (G g) (G h)
theorem MonoG.chain {G : Fn → Fn} (h : MonoG G) : Chain (loopN G) := fun n m hn => loopN_mono h hn
theorem loopF_mono {G H : Fn → Fn} (hG : MonoG G) (hH : MonoG H) (h : ∀ g k, Fn.le g k → Fn.le (G g) (H k)) : Fn.le (loopF G) (loopF H) := by
  intro xs r q
  obtain ⟨n, hn⟩ := (lim_some hG.chain).1 q
  exact (lim_some hH.chain).2 ⟨n, loopN_mono h (Nat.le_refl _) _ _ hn⟩
theorem evalF_mono : ∀ (t : T) {F G : Nat → Fn} (hF : ∀ f, Fn.le (F f) (G f)) {L M : List Fn} {ρ r : List D}, LeL L M → evalF F t L ρ = some r → evalF G t M ρ = some r := by
  intro t
  induction t with
  | ret es => intro F G hF L M ρ r hL h; exact h
  | ite c a b iha ihb =>
    intro F G hF L M ρ r hL h
    simp only [evalF] at h ⊢
    split at h
    · rename_i hc
      simp only [if_pos hc]
      exact iha hF hL h
    · rename_i hc
      simp only [if_neg hc]
      exact ihb hF hL h
  | need c t ih =>
    intro F G hF L M ρ r hL h
    simp only [evalF] at h ⊢
    split at h
    · rename_i hc
      simp only [if_pos hc]
      exact ih hF hL h
    · cases h
  | call f args k t ih =>
    intro F G hF L M ρ r hL h
    simp only [evalF] at h ⊢
    split at h
    · rename_i x hx
      rw [hF f _ _ hx]
      simp only
      split at h
      · rename_i hk
        rw [if_pos hk]
        exact ih hF hL h
      · cases h
    · cases h
  | any a b iha ihb =>
    intro F G hF L M ρ r hL h
    simp only [evalF] at h ⊢
    obtain ⟨h1, h2⟩ := both_some h
    exact both_mk (iha hF hL h1) (ihb hF hL h2)
  | loop inits body ih =>
    intro F G hF L M ρ r hL h
    simp only [evalF] at h ⊢
    have m1 : MonoG (fun g xs => evalF F body (L ++ [g]) (ρ ++ xs)) := fun g k hg xs r q => ih (fun f => Fn.le_refl _) ((LeL.refl L).snoc hg) q
    have m2 : MonoG (fun g xs => evalF G body (M ++ [g]) (ρ ++ xs)) := fun g k hg xs r q => ih (fun f => Fn.le_refl _) ((LeL.refl M).snoc hg) q
    exact loopF_mono m1 m2 (fun g k hg xs r q => ih hF (hL.snoc hg) q) _ _ h
  | again l es =>
    intro F G hF L M ρ r hL h
    simp only [evalF] at h ⊢
    split at h
    · rename_i g hg
      have hlt := (List.getElem?_eq_some_iff.1 hg).1
      have hm : M[l]? = some (M[l]'(by rw [← hL.1]; exact hlt)) := List.getElem?_eq_getElem _
      rw [hm]
      exact hL.2 l _ _ hg hm _ _ h
    · cases h
  | jp body t ihb iht =>
    intro F G hF L M ρ r hL h
    simp only [evalF] at h ⊢
    exact iht hF (hL.snoc (fun xs r q => ihb hF hL q)) h
  | fail w => intro F G hF L M ρ r hL h; cases h
  | stop w => intro F G hF L M ρ r hL h; cases h
theorem body_mono (F : Nat → Fn) (body : T) (L : List Fn) (ρ : List D) : MonoG (fun g xs => evalF F body (L ++ [g]) (ρ ++ xs)) :=
  fun g k hg xs r q => evalF_mono body (fun f => Fn.le_refl _) ((LeL.refl L).snoc hg) q
/-- Chains of lists. -/
noncomputable def limL (Lc : Nat → List Fn) (k : Nat) : List Fn := (List.range k).map fun i => lim fun n => (Lc n).getD i fun _ => none
structure ChainL (Lc : Nat → List Fn) (k : Nat) : Prop where
  len : ∀ n, (Lc n).length = k
  mono : ∀ n m, n ≤ m → LeL (Lc n) (Lc m)
theorem ChainL.at {Lc : Nat → List Fn} {k : Nat} (h : ChainL Lc k) {i : Nat} (hi : i < k) : Chain fun n => (Lc n).getD i fun _ => none := by
  intro n m hnm
  have h1 : (Lc n)[i]? = some ((Lc n)[i]'(by rw [h.len]; exact hi)) := List.getElem?_eq_getElem _
  have h2 : (Lc m)[i]? = some ((Lc m)[i]'(by rw [h.len]; exact hi)) := List.getElem?_eq_getElem _
  simp only [List.getD_eq_getElem?_getD, h1, h2, Option.getD_some]
  exact (h.mono n m hnm).2 i _ _ h1 h2
theorem limL_snoc {Lc : Nat → List Fn} {k : Nat} (h : ChainL Lc k) (c : Nat → Fn) : limL (fun n => Lc n ++ [c n]) (k + 1) = limL Lc k ++ [lim c] := by
  unfold limL
  rw [List.range_succ, List.map_append]
  congr 1
  · apply List.map_congr_left
    intro i hi
    have hi' : i < k := by simpa using hi
    congr 1
    funext n
    rw [List.getD_eq_getElem?_getD, List.getElem?_append_left (by rw [h.len]; exact hi'), ← List.getD_eq_getElem?_getD]
  · simp only [List.map_cons, List.map_nil]
    congr 2
    funext n
    rw [List.getD_eq_getElem?_getD, List.getElem?_append_right (by rw [h.len]; exact Nat.le_refl _), h.len, Nat.sub_self]
    rfl
theorem ChainL.snoc {Lc : Nat → List Fn} {k : Nat} (h : ChainL Lc k) {c : Nat → Fn} (hc : Chain c) : ChainL (fun n => Lc n ++ [c n]) (k + 1) :=
  ⟨fun n => by simp [h.len], fun n m hnm => (h.mono n m hnm).snoc (hc n m hnm)⟩
theorem LeL.lim {Lc : Nat → List Fn} {k : Nat} (h : ChainL Lc k) (n : Nat) : LeL (Lc n) (limL Lc k) := by
  refine ⟨by rw [h.len]; unfold limL; simp, fun i g q hg hq => ?_⟩
  have hi : i < k := by rw [← h.len n]; exact (List.getElem?_eq_some_iff.1 hg).1
  unfold limL at hq
  rw [List.getElem?_map, List.getElem?_range hi] at hq
  simp only [Option.map_some, Option.some.injEq] at hq
  subst hq
  have := lim_ge (h.at hi) n
  simp only [List.getD_eq_getElem?_getD, hg, Option.getD_some] at this
  exact this
theorem evalF_cont : ∀ (t : T) {Fc : Nat → Nat → Fn} (hF : ∀ f, Chain fun n => Fc n f) {Lc : Nat → List Fn} {k : Nat} (hL : ChainL Lc k) {ρ r : List D}, evalF (fun f => lim fun n => Fc n f) t (limL Lc k) ρ = some r → ∃ n, evalF (Fc n) t (Lc n) ρ = some r := by
  intro t
  induction t with
  | ret es => intro Fc hF Lc k hL ρ r h; exact ⟨0, h⟩
  | ite c a b iha ihb =>
    intro Fc hF Lc k hL ρ r h
    simp only [evalF] at h ⊢
    split at h
    · rename_i hc
      simp only [if_pos hc]
      exact iha hF hL h
    · rename_i hc
      simp only [if_neg hc]
      exact ihb hF hL h
  | need c t ih =>
    intro Fc hF Lc k hL ρ r h
    simp only [evalF] at h ⊢
    split at h
    · rename_i hc
      simp only [if_pos hc]
      exact ih hF hL h
    · cases h
  | call f args k' t ih =>
    intro Fc hF Lc k hL ρ r h
    simp only [evalF] at h ⊢
    split at h
    · rename_i x hx
      split at h
      · rename_i hk
        obtain ⟨n1, h1⟩ := (lim_some (hF f)).1 hx
        obtain ⟨n2, h2⟩ := ih hF hL h
        refine ⟨max n1 n2, ?_⟩
        have h1' : Fc (max n1 n2) f (args.map (den ρ)) = some x := hF f n1 _ (Nat.le_max_left _ _) _ _ h1
        simp only [h1', if_pos hk]
        exact evalF_mono t (fun f => hF f n2 _ (Nat.le_max_right _ _)) (hL.mono _ _ (Nat.le_max_right _ _)) h2
      · cases h
    · cases h
  | any a b iha ihb =>
    intro Fc hF Lc k hL ρ r h
    simp only [evalF] at h ⊢
    obtain ⟨h1, h2⟩ := both_some h
    obtain ⟨n1, h1⟩ := iha hF hL h1
    obtain ⟨n2, h2⟩ := ihb hF hL h2
    exact ⟨max n1 n2, both_mk (evalF_mono a (fun f => hF f n1 _ (Nat.le_max_left _ _)) (hL.mono _ _ (Nat.le_max_left _ _)) h1) (evalF_mono b (fun f => hF f n2 _ (Nat.le_max_right _ _)) (hL.mono _ _ (Nat.le_max_right _ _)) h2)⟩
  | loop inits body ih =>
    intro Fc hF Lc k hL ρ r h
    simp only [evalF] at h ⊢
    let G : Fn → Fn := fun g xs => evalF (fun f => lim fun n => Fc n f) body (limL Lc k ++ [g]) (ρ ++ xs)
    let Gn : Nat → Fn → Fn := fun n g xs => evalF (Fc n) body (Lc n ++ [g]) (ρ ++ xs)
    have hc : Chain fun n => loopF (Gn n) := fun n m hnm => loopF_mono (body_mono _ _ _ _) (body_mono _ _ _ _) (fun g q hg xs r z => evalF_mono body (fun f => hF f n m hnm) ((hL.mono n m hnm).snoc hg) z)
    have hstep : ∀ j, Fn.le (loopN G j) (lim fun n => loopF (Gn n)) := by
      intro j
      induction j with
      | zero => intro xs r h; cases h
      | succ j ihj =>
        intro xs r h
        have h1 : evalF (fun f => lim fun n => Fc n f) body (limL Lc k ++ [lim fun n => loopF (Gn n)]) (ρ ++ xs) = some r := evalF_mono body (fun f => Fn.le_refl _) ((LeL.refl _).snoc ihj) h
        rw [← limL_snoc hL] at h1
        obtain ⟨n, hn⟩ := ih hF (hL.snoc hc) h1
        refine (lim_some hc).2 ⟨n, ?_⟩
        -- one round less
        have hcl : ChainL (fun m => Lc n ++ [loopN (Gn n) m]) ((Lc n).length + 1) := ⟨fun m => by simp, fun a b hab => (LeL.refl _).snoc (loopN_mono (body_mono _ _ _ _) hab)⟩
        have hlimL : limL (fun m => Lc n ++ [loopN (Gn n) m]) ((Lc n).length + 1) = Lc n ++ [loopF (Gn n)] := by
          have hcon : ChainL (fun _ : Nat => Lc n) (Lc n).length := ⟨fun _ => rfl, fun _ _ _ => LeL.refl _⟩
          rw [limL_snoc hcon]
          congr 1
          unfold limL
          apply List.ext_getElem?
          intro i
          rw [List.getElem?_map]
          rcases Nat.lt_or_ge i (Lc n).length with hi | hi
          · rw [List.getElem?_range hi, List.getElem?_eq_getElem hi]
            simp only [Option.map_some, Option.some.injEq]
            funext ys
            have hcc : Chain fun _ : Nat => (Lc n).getD i fun _ => none := fun _ _ _ => Fn.le_refl _
            cases hq : (Lc n)[i] ys with
            | none =>
              cases hz : lim (fun _ : Nat => (Lc n).getD i fun _ => none) ys with
              | none => rfl
              | some z =>
                obtain ⟨_, hz'⟩ := (lim_some hcc).1 hz
                simp only [List.getD_eq_getElem?_getD, List.getElem?_eq_getElem hi, Option.getD_some, hq] at hz'
                cases hz'
            | some q => exact (lim_some hcc).2 ⟨0, by simp only [List.getD_eq_getElem?_getD, List.getElem?_eq_getElem hi, Option.getD_some, hq]⟩
          · rw [List.getElem?_eq_none (by simpa using hi), List.getElem?_eq_none hi]; rfl
        have hconF : ∀ f, Chain fun _ : Nat => Fc n f := fun f _ _ _ => Fn.le_refl _
        have hlimF : (fun f => lim fun _ : Nat => Fc n f) = Fc n := by
          funext f ys
          cases hq : Fc n f ys with
          | none =>
            cases hz : lim (fun _ : Nat => Fc n f) ys with
            | none => rfl
            | some z => obtain ⟨_, hz'⟩ := (lim_some (hconF f)).1 hz; rw [hq] at hz'; cases hz'
          | some q => exact (lim_some (hconF f)).2 ⟨0, hq⟩
        have h2 : evalF (fun f => lim fun _ : Nat => Fc n f) body (limL (fun m => Lc n ++ [loopN (Gn n) m]) ((Lc n).length + 1)) (ρ ++ xs) = some r := by
          rw [hlimL, hlimF]; exact hn
        obtain ⟨m, hm⟩ := ih hconF hcl h2
        exact (lim_some (MonoG.chain (body_mono _ _ _ _))).2 ⟨m + 1, hm⟩
    obtain ⟨j, hj⟩ := (lim_some (MonoG.chain (body_mono _ _ _ _))).1 h
    exact (lim_some hc).1 (hstep j _ _ hj)
  | again l es =>
    intro Fc hF Lc k hL ρ r h
    simp only [evalF] at h ⊢
    split at h
    · rename_i g hg
      have hi : l < k := by have := (List.getElem?_eq_some_iff.1 hg).1; simpa [limL] using this
      unfold limL at hg
      rw [List.getElem?_map, List.getElem?_range hi] at hg
      simp only [Option.map_some, Option.some.injEq] at hg
      subst hg
      obtain ⟨n, hn⟩ := (lim_some (hL.at hi)).1 h
      refine ⟨n, ?_⟩
      have h1 : (Lc n)[l]? = some ((Lc n)[l]'(by rw [hL.len]; exact hi)) := List.getElem?_eq_getElem _
      simp only [h1]
      simp only [List.getD_eq_getElem?_getD, h1, Option.getD_some] at hn
      exact hn
    · cases h
  | jp body t ihb iht =>
    intro Fc hF Lc k hL ρ r h
    simp only [evalF] at h ⊢
    have hc : Chain fun n => (fun xs => evalF (Fc n) body (Lc n) (ρ ++ xs) : Fn) := fun n m hnm xs r q => evalF_mono body (fun f => hF f n m hnm) (hL.mono n m hnm) q
    have h1 : evalF (fun f => lim fun n => Fc n f) t (limL Lc k ++ [lim fun n => (fun xs => evalF (Fc n) body (Lc n) (ρ ++ xs) : Fn)]) ρ = some r :=
      evalF_mono t (fun f => Fn.le_refl _) ((LeL.refl _).snoc (fun xs r q => (lim_some hc).2 (ihb hF hL q))) h
    rw [← limL_snoc hL] at h1
    exact iht hF (hL.snoc hc) h1
  | fail w => intro Fc hF Lc k hL ρ r h; cases h
  | stop w => intro Fc hF Lc k hL ρ r h; cases h
theorem lim_const (f : Fn) : lim (fun _ : Nat => f) = f := by
  funext ys
  have hcc : Chain fun _ : Nat => f := fun _ _ _ => Fn.le_refl _
  cases hq : f ys with
  | none =>
    cases hz : lim (fun _ : Nat => f) ys with
    | none => rfl
    | some z => obtain ⟨_, hz'⟩ := (lim_some hcc).1 hz; rw [hq] at hz'; cases hz'
  | some q => exact (lim_some hcc).2 ⟨0, hq⟩
theorem limL_const (L : List Fn) : limL (fun _ => L) L.length = L := by
  unfold limL
  apply List.ext_getElem?
  intro i
  rw [List.getElem?_map]
  rcases Nat.lt_or_ge i L.length with hi | hi
  · rw [List.getElem?_range hi, List.getElem?_eq_getElem hi]
    simp only [Option.map_some, Option.some.injEq, lim_const, List.getD_eq_getElem?_getD, List.getElem?_eq_getElem hi, Option.getD_some]
  · rw [List.getElem?_eq_none (by simpa using hi), List.getElem?_eq_none hi]; rfl
/-- A loop, one round. -/
theorem loopF_eq (F : Nat → Fn) (body : T) (L : List Fn) (ρ xs : List D) : loopF (fun g xs => evalF F body (L ++ [g]) (ρ ++ xs)) xs = evalF F body (L ++ [loopF (fun g xs => evalF F body (L ++ [g]) (ρ ++ xs))]) (ρ ++ xs) := by
  let G : Fn → Fn := fun g xs => evalF F body (L ++ [g]) (ρ ++ xs)
  have hG : MonoG G := body_mono _ _ _ _
  show loopF G xs = G (loopF G) xs
  have h1 : ∀ r, loopF G xs = some r → G (loopF G) xs = some r := by
    intro r h
    obtain ⟨n, hn⟩ := (lim_some hG.chain).1 h
    cases n with
    | zero => cases hn
    | succ n => exact hG _ _ (lim_ge hG.chain n) _ _ hn
  have h2 : ∀ r, G (loopF G) xs = some r → loopF G xs = some r := by
    intro r h
    have hcon : ChainL (fun _ : Nat => L) L.length := ⟨fun _ => rfl, fun _ _ _ => LeL.refl _⟩
    have h' : evalF (fun f => lim fun _ : Nat => F f) body (limL (fun n => L ++ [loopN G n]) (L.length + 1)) (ρ ++ xs) = some r := by
      rw [limL_snoc hcon, limL_const]
      simp only [lim_const]
      exact h
    obtain ⟨n, hn⟩ := evalF_cont body (Fc := fun _ => F) (fun f _ _ _ => Fn.le_refl _) (hcon.snoc hG.chain) h'
    exact (lim_some hG.chain).2 ⟨n + 1, hn⟩
  cases hq : loopF G xs with
  | none =>
    cases hz : G (loopF G) xs with
    | none => rfl
    | some z => rw [h2 z hz] at hq; cases hq
  | some q => rw [h1 q hq]
theorem eval_evalF (F : Nat → Fn) (n : Nat) : ∀ (t : T) {L : List Fn} {ρ r : List D}, eval F n t L ρ = some r → evalF F t L ρ = some r := by
  intro t
  induction t with
  | loop inits body ih =>
    intro L ρ r h
    simp only [eval, evalF] at h ⊢
    have hstep : ∀ j, Fn.le (loopN (fun g xs => eval F n body (L ++ [g]) (ρ ++ xs)) j) (loopN (fun g xs => evalF F body (L ++ [g]) (ρ ++ xs)) j) := by
      intro j
      induction j with
      | zero => intro xs r h; cases h
      | succ j ihj => intro xs r h; exact body_mono _ _ _ _ _ _ ihj _ _ (ih h)
    exact (lim_some (MonoG.chain (body_mono _ _ _ _))).2 ⟨n, hstep n _ _ h⟩
  | ret es => intro L ρ r h; exact h
  | ite c a b iha ihb =>
    intro L ρ r h
    simp only [eval, evalF] at h ⊢
    split at h
    · rename_i hc
      simp only [if_pos hc]
      exact iha h
    · rename_i hc
      simp only [if_neg hc]
      exact ihb h
  | need c t ih =>
    intro L ρ r h
    simp only [eval, evalF] at h ⊢
    split at h
    · rename_i hc
      simp only [if_pos hc]
      exact ih h
    · cases h
  | call f args k t ih =>
    intro L ρ r h
    simp only [eval, evalF] at h ⊢
    split at h
    · rename_i x hx
      simp only [hx]
      split at h
      · rename_i hk
        rw [if_pos hk]
        exact ih h
      · cases h
    · cases h
  | any a b iha ihb =>
    intro L ρ r h
    simp only [eval, evalF] at h ⊢
    obtain ⟨h1, h2⟩ := both_some h
    exact both_mk (iha h1) (ihb h2)
  | again l es => intro L ρ r h; exact h
  | jp body t ihb iht =>
    intro L ρ r h
    simp only [eval, evalF] at h ⊢
    exact evalF_mono t (fun f => Fn.le_refl _) ((LeL.refl L).snoc (fun xs r q => ihb q)) (iht h)
  | fail w => intro L ρ r h; cases h
  | stop w => intro L ρ r h; cases h
theorem evalF_eval (F : Nat → Fn) : ∀ (t : T) {L : List Fn} {ρ r : List D}, evalF F t L ρ = some r → ∃ n, eval F n t L ρ = some r := by
  intro t
  induction t with
  | loop inits body ih =>
    intro L ρ r h
    simp only [eval, evalF] at h ⊢
    let G : Fn → Fn := fun g xs => evalF F body (L ++ [g]) (ρ ++ xs)
    let Gn : Nat → Fn → Fn := fun n g xs => eval F n body (L ++ [g]) (ρ ++ xs)
    have hm : ∀ n m, n ≤ m → ∀ g k, Fn.le g k → Fn.le (Gn n g) (Gn m k) := fun n m hnm g k hg xs r q => eval_mono (fun f => Fn.le_refl _) hnm body ((LeL.refl L).snoc hg) q
    have hc : Chain fun n => loopN (Gn n) n := fun n m hnm => loopN_mono (hm n m hnm) hnm
    have hstep : ∀ j, Fn.le (loopN G j) (lim fun n => loopN (Gn n) n) := by
      intro j
      induction j with
      | zero => intro xs r h; cases h
      | succ j ihj =>
        intro xs r h
        have h1 : evalF F body (L ++ [lim fun n => loopN (Gn n) n]) (ρ ++ xs) = some r := evalF_mono body (fun f => Fn.le_refl _) ((LeL.refl _).snoc ihj) h
        have hcon : ChainL (fun _ : Nat => L) L.length := ⟨fun _ => rfl, fun _ _ _ => LeL.refl _⟩
        have h' : evalF (fun f => lim fun _ : Nat => F f) body (limL (fun n => L ++ [loopN (Gn n) n]) (L.length + 1)) (ρ ++ xs) = some r := by
          rw [limL_snoc hcon, limL_const]
          simp only [lim_const]
          exact h1
        obtain ⟨m, hm1⟩ := evalF_cont body (Fc := fun _ => F) (fun f _ _ _ => Fn.le_refl _) (hcon.snoc hc) h'
        obtain ⟨n, hn⟩ := ih hm1
        refine (lim_some hc).2 ⟨max n m + 1, ?_⟩
        have h2 : Gn (max n m) (loopN (Gn (max n m)) (max n m)) xs = some r := hm n _ (Nat.le_max_left _ _) _ _ (hc m _ (Nat.le_max_right _ _)) _ _ hn
        exact hm _ _ (Nat.le_succ _) _ _ (loopN_mono (hm _ _ (Nat.le_succ _)) (Nat.le_refl _)) _ _ h2
    obtain ⟨j, hj⟩ := (lim_some (MonoG.chain (body_mono _ _ _ _))).1 h
    obtain ⟨n, hn⟩ := (lim_some hc).1 (hstep j _ _ hj)
    exact ⟨n, hn⟩
  | ret es => intro L ρ r h; exact ⟨0, h⟩
  | ite c a b iha ihb =>
    intro L ρ r h
    simp only [eval, evalF] at h ⊢
    split at h
    · rename_i hc; simp only [if_pos hc]; exact iha h
    · rename_i hc; simp only [if_neg hc]; exact ihb h
  | need c t ih =>
    intro L ρ r h
    simp only [eval, evalF] at h ⊢
    split at h
    · rename_i hc
      simp only [if_pos hc]
      exact ih h
    · cases h
  | call f args k t ih =>
    intro L ρ r h
    simp only [eval, evalF] at h ⊢
    split at h
    · rename_i x hx
      simp only [hx]
      split at h
      · rename_i hk
        simp only [if_pos hk]
        exact ih h
      · cases h
    · cases h
  | any a b iha ihb =>
    intro L ρ r h
    simp only [eval, evalF] at h ⊢
    obtain ⟨h1, h2⟩ := both_some h
    obtain ⟨n1, h1⟩ := iha h1
    obtain ⟨n2, h2⟩ := ihb h2
    exact ⟨max n1 n2, both_mk (eval_mono (fun f => Fn.le_refl _) (Nat.le_max_left _ _) a (LeL.refl L) h1) (eval_mono (fun f => Fn.le_refl _) (Nat.le_max_right _ _) b (LeL.refl L) h2)⟩
  | again l es => intro L ρ r h; exact ⟨0, h⟩
  | jp body t ihb iht =>
    intro L ρ r h
    simp only [eval, evalF] at h ⊢
    have hc : Chain fun n => (fun xs => eval F n body L (ρ ++ xs) : Fn) := fun n m hnm xs r q => eval_mono (fun f => Fn.le_refl _) hnm body (LeL.refl L) q
    have hcon : ChainL (fun _ : Nat => L) L.length := ⟨fun _ => rfl, fun _ _ _ => LeL.refl _⟩
    have h1 : evalF F t (L ++ [lim fun n => (fun xs => eval F n body L (ρ ++ xs) : Fn)]) ρ = some r :=
      evalF_mono t (fun f => Fn.le_refl _) ((LeL.refl _).snoc (fun xs r q => (lim_some hc).2 (ihb q))) h
    have h' : evalF (fun f => lim fun _ : Nat => F f) t (limL (fun n => L ++ [(fun xs => eval F n body L (ρ ++ xs) : Fn)]) (L.length + 1)) ρ = some r := by
      rw [limL_snoc hcon, limL_const]
      simp only [lim_const]
      exact h1
    obtain ⟨m, hm1⟩ := evalF_cont t (Fc := fun _ => F) (fun f _ _ _ => Fn.le_refl _) (hcon.snoc hc) h'
    obtain ⟨n, hn⟩ := iht hm1
    exact ⟨max n m, eval_mono (fun f => Fn.le_refl _) (Nat.le_max_left _ _) t ((LeL.refl L).snoc (hc m _ (Nat.le_max_right _ _))) hn⟩
  | fail w => intro L ρ r h; cases h
  | stop w => intro L ρ r h; cases h

/-! All functions of a program. -/
section
variable (base : Nat → Fn) (prog : List (Nat × T))
noncomputable def tab : Nat → Nat → Fn
  | 0 => fun f => match prog.lookup f with | some _ => fun _ => none | none => base f
  | n + 1 => fun f => match prog.lookup f with | some t => fun ds => eval (tab n) n t [] ds | none => base f
theorem tab_chain : ∀ n m, n ≤ m → ∀ f, Fn.le (tab base prog n f) (tab base prog m f)
  | 0, 0, _ => fun f => Fn.le_refl _
  | 0, m + 1, _ => fun f xs r h => by
    simp only [tab] at h ⊢
    cases hq : prog.lookup f with
    | none => rw [hq] at h; exact h
    | some t => rw [hq] at h; cases h
  | n + 1, 0, h => by omega
  | n + 1, m + 1, hnm => fun f xs r h => by
    simp only [tab] at h ⊢
    cases hq : prog.lookup f with
    | none => rw [hq] at h; exact h
    | some t =>
      rw [hq] at h
      exact eval_mono (tab_chain n m (by omega)) (by omega) t (LeL.refl _) h
noncomputable def Fix : Nat → Fn := fun f => lim fun n => tab base prog n f
variable {base prog}
theorem fix_eq {f : Nat} {t : T} (hf : prog.lookup f = some t) (ds : List D) : Fix base prog f ds = evalF (Fix base prog) t [] ds := by
  have hc : ∀ f, Chain fun n => tab base prog n f := fun f n m h => tab_chain base prog n m h f
  have h1 : ∀ r, Fix base prog f ds = some r → evalF (Fix base prog) t [] ds = some r := by
    intro r h
    obtain ⟨n, hn⟩ := (lim_some (hc f)).1 h
    cases n with
    | zero => simp only [tab, hf] at hn; cases hn
    | succ n =>
      simp only [tab, hf] at hn
      exact evalF_mono t (fun f => lim_ge (hc f) n) (LeL.refl _) (eval_evalF _ _ t hn)
  have h2 : ∀ r, evalF (Fix base prog) t [] ds = some r → Fix base prog f ds = some r := by
    intro r h
    have hnil : ChainL (fun _ : Nat => ([] : List Fn)) 0 := ⟨fun _ => rfl, fun _ _ _ => LeL.refl _⟩
    obtain ⟨n, hn⟩ := evalF_cont t (Fc := tab base prog) hc hnil (ρ := ds) (r := r) h
    obtain ⟨m, hm⟩ := evalF_eval _ t hn
    refine (lim_some (hc f)).2 ⟨max n m + 1, ?_⟩
    simp only [tab, hf]
    exact eval_mono (tab_chain base prog n _ (Nat.le_max_left _ _)) (Nat.le_max_right _ _) t (LeL.refl _) hm
  cases hq : Fix base prog f ds with
  | none =>
    cases hz : evalF (Fix base prog) t [] ds with
    | none => rfl
    | some z => rw [h2 z hz] at hq; cases hq
  | some q => rw [h1 q hq]
theorem fix_base {f : Nat} (hf : prog.lookup f = none) : Fix base prog f = base f := by
  have hc : ∀ n, tab base prog n f = base f := fun n => by cases n <;> simp only [tab, hf]
  show lim (fun n => tab base prog n f) = base f
  simp only [hc, lim_const]
theorem fix_ok {G : Gl} {P : Program} (hb : FsOk G P base) (hp : ∀ p ∈ prog, ∃ hints, execFn P G.cf hints p.1 = p.2) : FsOk G P (Fix base prog) := by
  have hn : ∀ n, FsOk G P (tab base prog n) := by
    intro n
    induction n with
    | zero =>
      intro f ps rs hm ds r hs h
      simp only [tab] at h
      cases hq : prog.lookup f with
      | some t => rw [hq] at h; cases h
      | none => rw [hq] at h; exact hb f ps rs hm ds r hs h
    | succ n ih =>
      intro f ps rs hm ds r hs h
      simp only [tab] at h
      cases hq : prog.lookup f with
      | some t =>
        rw [hq] at h
        obtain ⟨hints, he⟩ := hp _ (mem_of_lookup hq)
        simp only at he
        rw [← he] at h
        exact fn_sound ih hints f hs h
      | none => rw [hq] at h; exact hb f ps rs hm ds r hs h
  intro f ps rs hm ds r hs h
  obtain ⟨n, h'⟩ := (lim_some (fun n m q => tab_chain base prog n m q f)).1 h
  exact hn n f ps rs hm ds r hs h'
end
/-! The same, with a call's results named one by one. -/
def pick : Nat → Nat → List D → List D
  | 0, _, _ => []
  | k + 1, i, r => r.getD i .nil :: pick k (i + 1) r
theorem pick_drop : ∀ (k i : Nat) (r : List D), r.length = i + k → pick k i r = r.drop i
  | 0, i, r, h => by rw [List.drop_eq_nil_of_le (by omega)]; rfl
  | k + 1, i, r, h => by
    have hlt : i < r.length := by omega
    simp only [pick]
    rw [pick_drop k (i + 1) r (by omega), List.drop_eq_getElem_cons hlt, List.getD_eq_getElem?_getD, List.getElem?_eq_getElem hlt]
    rfl
theorem pick_all {k : Nat} {r : List D} (h : r.length = k) : pick k 0 r = r := by rw [pick_drop k 0 r (by omega)]; rfl
/-- What a call gives, handed on. -/
def bindC (x : Option (List D)) (k : Nat) (f : List D → Option (List D)) : Option (List D) := match x with | some r => if r.length = k then f r else none | none => none
theorem bindC_some {r : List D} {k : Nat} {f : List D → Option (List D)} (h : r.length = k) : bindC (some r) k f = f r := if_pos h
noncomputable def evalP (F : Nat → Fn) : T → List Fn → List D → Option (List D)
  | .ret es, _, ρ => some (es.map (den ρ))
  | .ite c a b, L, ρ => if (den ρ c).toBool = true then evalP F a L ρ else evalP F b L ρ
  | .need c t, L, ρ => if (den ρ c).toBool = true then evalP F t L ρ else none
  | .call f args k t, L, ρ => bindC (F f (args.map (den ρ))) k fun r => evalP F t L (ρ ++ pick k 0 r)
  | .any a b, L, ρ => both (evalP F a L ρ) (evalP F b L ρ)
  | .loop inits body, L, ρ => loopF (fun g xs => evalP F body (L ++ [g]) (ρ ++ xs)) (inits.map (den ρ))
  | .again l es, L, ρ => match L[l]? with
    | some g => g (es.map (den ρ))
    | none => none
  | .jp body t, L, ρ => evalP F t (L ++ [fun xs => evalP F body L (ρ ++ xs)]) ρ
  | .fail _, _, _ => none
  | .stop _, _, _ => none
theorem evalP_eq (F : Nat → Fn) : ∀ (t : T) (L : List Fn) (ρ : List D), evalP F t L ρ = evalF F t L ρ := by
  intro t
  induction t with
  | ret es => intro L ρ; rfl
  | ite c a b iha ihb => intro L ρ; simp only [evalP, evalF, iha, ihb]
  | need c t ih => intro L ρ; simp only [evalP, evalF, ih]
  | call f args k t ih =>
    intro L ρ
    simp only [evalP, evalF, bindC, ih]
    cases F f (args.map (den ρ)) with
    | none => rfl
    | some r =>
      simp only
      by_cases h : r.length = k
      · rw [if_pos h, if_pos h, pick_all h]
      · rw [if_neg h, if_neg h]
  | any a b iha ihb => intro L ρ; simp only [evalP, evalF, iha, ihb]
  | loop inits body ih => intro L ρ; simp only [evalP, evalF, ih]
  | again l es => intro L ρ; rfl
  | jp body t ihb iht => intro L ρ; simp only [evalP, evalF, ihb, iht]
  | fail w => intro L ρ; rfl
  | stop w => intro L ρ; rfl
theorem loopP_eq (F : Nat → Fn) (body : T) (L : List Fn) (ρ xs : List D) : loopF (fun g xs => evalP F body (L ++ [g]) (ρ ++ xs)) xs = evalP F body (L ++ [loopF (fun g xs => evalP F body (L ++ [g]) (ρ ++ xs))]) (ρ ++ xs) := by
  simp only [evalP_eq]
  exact loopF_eq F body L ρ xs
theorem fixP_eq {base : Nat → Fn} {prog : List (Nat × T)} {f : Nat} {t : T} (hf : prog.lookup f = some t) (ds : List D) : Fix base prog f ds = evalP (Fix base prog) t [] ds := by
  rw [evalP_eq]; exact fix_eq hf ds
end Go.Proofs.YtobacchojjfpfaaGreatDoor.Eng
