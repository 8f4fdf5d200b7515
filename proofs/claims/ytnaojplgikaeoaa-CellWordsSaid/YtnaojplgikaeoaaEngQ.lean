/-
  A reader of Go functions, part Q: tables of functions that were read.
-/
import Derived.Test.YtnaojplgikaeoaaEngM
namespace Go.Proofs.Ytnaojplgikaeoaa.Eng
open Go.RowKit
set_option linter.unusedVariables false

/-- A function more, read as the program t. -/
def add (Fs : Nat → Fn) (f : Nat) (t : T) (fu : List D → Nat) : Nat → Fn := fun g ds => if g = f then eval Fs (fu ds) t [] ds else Fs g ds
/-- A function more, by what is known of it. -/
def addF (Fs : Nat → Fn) (f : Nat) (F : Fn) : Nat → Fn := fun g ds => if g = f then F ds else Fs g ds
def none0 : Nat → Fn := fun _ _ => none
theorem ok_none (P : Program) : FsOk P none0 := fun f ps rs ds r _ h => by cases h
theorem ok_add {P : Program} {Fs : Nat → Fn} (h : FsOk P Fs) (hints : List (Nat × Hint)) (f : Nat) (t : T) (ht : execFn P hints f = t) (fu : List D → Nat) : FsOk P (add Fs f t fu) := by
  intro g ps rs ds r hsig hr
  unfold add at hr
  split at hr
  · rename_i e
    subst e
    rw [← ht] at hr
    exact fn_sound h hints g hsig hr
  · exact h g ps rs ds r hsig hr
theorem ok_addF {P : Program} {Fs : Nat → Fn} (h : FsOk P Fs) (f : Nat) (F : Fn) (hf : ∀ ps rs ds r, sigOf P f = some (ps, rs) → F ds = some r → Ok1 P f ps rs ds r) : FsOk P (addF Fs f F) := by
  intro g ps rs ds r hsig hr
  unfold addF at hr
  split at hr
  · rename_i e
    subst e
    exact hf ps rs ds r hsig hr
  · exact h g ps rs ds r hsig hr
/-- A table may say less, in nicer words. -/
theorem ok_less {P : Program} {Fs Gs : Nat → Fn} (h : FsOk P Fs) (hl : ∀ f ds r, Gs f ds = some r → Fs f ds = some r) : FsOk P Gs :=
  fun f ps rs ds r hsig hr => h f ps rs ds r hsig (hl f ds r hr)
theorem add_same (Fs : Nat → Fn) (f : Nat) (t : T) (fu : List D → Nat) (ds : List D) : add Fs f t fu f ds = eval Fs (fu ds) t [] ds := if_pos rfl
theorem add_ne (Fs : Nat → Fn) (f g : Nat) (t : T) (fu : List D → Nat) (ds : List D) (h : (g == f) = false) : add Fs f t fu g ds = Fs g ds := if_neg (by simpa using h)
/-- A call of a function that is known at these arguments. -/
theorem eval_call {Fs : Nat → Fn} {fuel f k : Nat} {args : List E} {t : T} {L : List Fn} {ρ r : List D} (h : Fs f (args.map (den ρ)) = some r) (hk : r.length = k) : eval Fs fuel (.call f args k t) L ρ = eval Fs fuel t L (ρ ++ r) := by
  simp only [eval, h]
  rw [if_pos hk]
/-! Arguments one by one. -/
def AllRd (P : Program) (w : World) (F : Nat → Prop) : List Ty → List D → List Value → Prop
  | [], [], [] => True
  | t :: ts, d :: ds, u :: us => Rd P w F t d u ∧ AllRd P w F ts ds us
  | _, _, _ => False
theorem allRd_get {P : Program} {w : World} {F : Nat → Prop} : ∀ {ts : List Ty} {ds : List D} {us : List Value}, AllRd P w F ts ds us → ds.length = ts.length ∧ us.length = ts.length ∧ ∀ (i : Nat) (t : Ty) (d : D) (u : Value), ts[i]? = some t → ds[i]? = some d → us[i]? = some u → Rd P w F t d u
  | [], [], [], _ => ⟨rfl, rfl, fun i t d u h => by simp at h⟩
  | t :: ts, d :: ds, u :: us, ⟨h1, h2⟩ => by
    obtain ⟨l1, l2, q⟩ := allRd_get h2
    refine ⟨by simp [l1], by simp [l2], fun i => ?_⟩
    cases i with
    | zero => intro t' d' u' a b c; simp at a b c; subst a b c; exact h1
    | succ i => intro t' d' u' a b c; exact q i t' d' u' (by simpa using a) (by simpa using b) (by simpa using c)
  | [], [], _ :: _, h => h.elim
  | [], _ :: _, _, h => h.elim
  | _ :: _, [], _, h => h.elim
  | _ :: _, _ :: _, [], h => h.elim
theorem args_nil {P : Program} {w : World} {F : Nat → Prop} : Args P w F [] [] [] := ⟨rfl, rfl⟩
theorem args_one {P : Program} {w : World} {F : Nat → Prop} {t : Ty} {d : D} {v : Value} {ps : List Sh} {ds : List D} {vs : List Value} (h : Rd P w F t d v) (hr : Args P w F ps ds vs) : Args P w F (.one t :: ps) (d :: ds) (v :: vs) := ⟨d, ds, v, vs, rfl, rfl, h, hr⟩
theorem args_agg {P : Program} {w : World} {F : Nat → Prop} {ts : List Ty} {d1 ds : List D} {us vs : List Value} {ps : List Sh} (h : AllRd P w F ts d1 us) (hr : Args P w F ps ds vs) : Args P w F (.agg ts :: ps) (d1 ++ ds) (.agg us.toArray :: vs) :=
  let ⟨l1, l2, q⟩ := allRd_get h
  ⟨d1, ds, us, vs, rfl, rfl, l1, l2, q, hr⟩
/-- A law that answers by one bool. -/
theorem law_calls {P : Program} {f : Nat} {ps : List Sh} {ds : List D} {b : Bool} (h : Ok1 P f ps [.one .bool] ds [.bool b]) {vs : List Value} {W : World} (ha : Args P W (fun b => b < W.heap.size) ps ds vs) :
    Calls P f vs.toArray W fun e w' => e = .returned (.bool b) ∧ Below W.heap.size W w' := by
  refine (h W _ vs (fun b hb => hb) ha).mono ?_
  rintro e w' ⟨v, rfl, hb, hr⟩
  obtain ⟨d, ds', v', vs', e1, e2, h1, h2⟩ := hr
  cases e1
  cases e2
  exact ⟨by rw [h1.bool_inv]; rfl, hb⟩
end Go.Proofs.Ytnaojplgikaeoaa.Eng
