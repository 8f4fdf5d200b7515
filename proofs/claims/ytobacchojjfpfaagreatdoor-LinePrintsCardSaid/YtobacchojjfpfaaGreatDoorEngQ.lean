/-
  A reader of Go functions, part Q: tables of functions that were read.
-/
import Derived.Test.YtobacchojjfpfaaGreatDoorEngM
namespace Go.Proofs.YtobacchojjfpfaaGreatDoor.Eng
open Go.RowKit
set_option linter.unusedVariables false

/-- A function more, read as the program t. -/
noncomputable def add (Fs : Nat → Fn) (f : Nat) (t : T) (fu : List D → Nat) : Nat → Fn := fun g ds => if g = f then eval Fs (fu ds) t [] ds else Fs g ds
/-- A function more, by what is known of it. -/
def addF (Fs : Nat → Fn) (f : Nat) (F : Fn) : Nat → Fn := fun g ds => if g = f then F ds else Fs g ds
def none0 : Nat → Fn := fun _ _ => none
theorem ok_none {G : Gl} (P : Program) : FsOk G P none0 := fun f ps rs hm ds r _ h => by cases h
theorem ok_add {G : Gl} {P : Program} {Fs : Nat → Fn} (h : FsOk G P Fs) (hints : List (Nat × Hint)) (f : Nat) (t : T) (ht : execFn P G.cf hints f = t) (fu : List D → Nat) : FsOk G P (add Fs f t fu) := by
  intro g ps rs hm ds r hsig hr
  unfold add at hr
  split at hr
  · rename_i e
    subst e
    rw [← ht] at hr
    exact fn_sound h hints g hsig hr
  · exact h g ps rs hm ds r hsig hr
theorem ok_addF {G : Gl} {P : Program} {Fs : Nat → Fn} (h : FsOk G P Fs) (f : Nat) (F : Fn) (hf : ∀ ps rs hm ds r, sigOf P G.cf f = some (ps, rs, hm) → F ds = some r → Ok1 G P f ps rs hm ds r) : FsOk G P (addF Fs f F) := by
  intro g ps rs hm ds r hsig hr
  unfold addF at hr
  split at hr
  · rename_i e
    subst e
    exact hf ps rs hm ds r hsig hr
  · exact h g ps rs hm ds r hsig hr
/-- A table may say less, in nicer words. -/
theorem ok_less {G : Gl} {P : Program} {Fs Gs : Nat → Fn} (h : FsOk G P Fs) (hl : ∀ f ds r, Gs f ds = some r → Fs f ds = some r) : FsOk G P Gs :=
  fun f ps rs hm ds r hsig hr => h f ps rs hm ds r hsig (hl f ds r hr)
theorem add_same (Fs : Nat → Fn) (f : Nat) (t : T) (fu : List D → Nat) (ds : List D) : add Fs f t fu f ds = eval Fs (fu ds) t [] ds := if_pos rfl
theorem add_ne (Fs : Nat → Fn) (f g : Nat) (t : T) (fu : List D → Nat) (ds : List D) (h : (g == f) = false) : add Fs f t fu g ds = Fs g ds := if_neg (by simpa using h)
/-- A call of a function that is known at these arguments. -/
theorem eval_call {Fs : Nat → Fn} {fuel f k : Nat} {args : List E} {t : T} {L : List Fn} {ρ r : List D} (h : Fs f (args.map (den ρ)) = some r) (hk : r.length = k) : eval Fs fuel (.call f args k t) L ρ = eval Fs fuel t L (ρ ++ r) := by
  simp only [eval, h]
  rw [if_pos hk]
/-! Arguments one by one. -/
def AllRd (P : Program) (w : World) (F : Fr) : List Ty → List D → List Value → Prop
  | [], [], [] => True
  | t :: ts, d :: ds, u :: us => Rd P w F t d u ∧ AllRd P w F ts ds us
  | _, _, _ => False
theorem allRd_get {P : Program} {w : World} {F : Fr} : ∀ {ts : List Ty} {ds : List D} {us : List Value}, AllRd P w F ts ds us → ds.length = ts.length ∧ us.length = ts.length ∧ ∀ (i : Nat) (t : Ty) (d : D) (u : Value), ts[i]? = some t → ds[i]? = some d → us[i]? = some u → Rd P w F t d u
  | [], [], [], _ => ⟨rfl, rfl, fun i t d u h => by simp at h⟩
  | t :: ts, d :: ds, u :: us, ⟨h1, h2⟩ => by
    obtain ⟨l1, l2, q⟩ := allRd_get h2
    refine ⟨by simp [l1], by simp [l2], fun i => ?_⟩
    cases i with
    | zero => intro t' d' u' a b c; simp at a b c; subst a b c; exact h1
    | succ i => intro t' d' u' a b c; exact q i t' d' u' (by simpa using a) (by simpa using b) (by simpa using c)
  | [], [], _ :: _, h => h.elim
  | [], _ :: _, _, h => h.elim
  | _ :: _, [], _, h => h.elim
  | _ :: _, _ :: _, [], h => h.elim
theorem args_nil {P : Program} {w : World} {F : Fr} : Args P w F [] [] [] := ⟨rfl, rfl⟩
theorem args_one {P : Program} {w : World} {F : Fr} {t : Ty} {d : D} {v : Value} {ps : List Sh} {ds : List D} {vs : List Value} (h : Rd P w F t d v) (hr : Args P w F ps ds vs) : Args P w F (.one t :: ps) (d :: ds) (v :: vs) := ⟨d, ds, v, vs, rfl, rfl, h, hr⟩
theorem args_agg {P : Program} {w : World} {F : Fr} {ts : List Ty} {d1 ds : List D} {us vs : List Value} {ps : List Sh} (h : AllRd P w F ts d1 us) (hr : Args P w F ps ds vs) : Args P w F (.agg ts :: ps) (d1 ++ ds) (.agg us.toArray :: vs) :=
  let ⟨l1, l2, q⟩ := allRd_get h
  ⟨d1, ds, us, vs, rfl, rfl, l1, l2, q, hr⟩
/-- A law that answers by one bool. -/
theorem rowBx_nil : ∀ {ps : List Sh} {n : Nat} (vs : List Value), rowBx ps n = [] → rowsB ps vs = []
  | [], n, vs, h => by cases vs <;> rfl
  | .row e :: ps, n, vs, h => by simp [rowBx] at h
  | .one t :: ps, n, [], h => rfl
  | .agg t :: ps, n, [], h => rfl
  | .one t :: ps, n, v :: vs, h => rowBx_nil vs h
  | .agg t :: ps, n, v :: vs, h => rowBx_nil vs h
theorem law_callsG {G : Gl} {P : Program} {f : Nat} {ps : List Sh} {ds : List D} {b : Bool} {hm : Nat} (h : Ok1 G P f ps [.one .bool] hm ds [.bool b]) (h0 : hm = 0 ∨ 3 ≤ hm) (hrow : rowBx ps 0 = []) {vs : List Value} {W : World} (hG : G.ok W ⟨fun b => b < W.heap.size, [], G.cf.hc⟩) (ha : Args P W ⟨fun b => b < W.heap.size, [], G.cf.hc⟩ ps ds vs) :
    Calls P f vs.toArray W fun e w' => e = .returned (.bool b) ∧ Below W.heap.size W w' := by
  have hne : hm ≠ 2 := by omega
  refine (h W _ vs (fun _ => []) ds [] (by simp) ⟨hG, rfl, fun b hb => hb, (fun n b t hn => by simp at hn), fun _ => rfl, (fun h => by omega), (fun _ => ⟨rfl, rfl⟩), fun b hb => by rw [rowBx_nil vs hrow] at hb; cases hb⟩ ha).mono ?_
  rw [rowBx_nil vs hrow]
  rintro e w' ⟨v, F', φ', rfl, ho⟩
  have hc := ho.chg
  rw [may_nil hne] at hc
  obtain ⟨r0, hd, e1, hr, e2⟩ := ho.res
  rw [if_neg hne] at e2
  subst e2
  rw [List.append_nil] at e1
  subst e1
  obtain ⟨d, ds', v', vs', z1, z2, z3, z4⟩ := hr
  cases z1
  cases z2
  exact ⟨by rw [z3.bool_inv]; rfl, below_of_chg hc⟩
theorem law_calls {cf : Cf} {P : Program} {f : Nat} {ps : List Sh} {ds : List D} {b : Bool} {hm : Nat} (h : Ok1 (Gl.of cf) P f ps [.one .bool] hm ds [.bool b]) (h0 : hm = 0 ∨ 3 ≤ hm) (hrow : rowBx ps 0 = []) {vs : List Value} {W : World} (ha : Args P W ⟨fun b => b < W.heap.size, [], cf.hc⟩ ps ds vs) (hgs : cf.gs = [] := by rfl) :
    Calls P f vs.toArray W fun e w' => e = .returned (.bool b) ∧ Below W.heap.size W w' := law_callsG h h0 hrow (by show GsOk cf.gs _ _; rw [hgs]; exact GsOk.nil) ha
end Go.Proofs.YtobacchojjfpfaaGreatDoor.Eng
