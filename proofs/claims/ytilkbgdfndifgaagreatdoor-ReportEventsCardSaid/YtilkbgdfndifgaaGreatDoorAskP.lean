/-
  What a line asks, in plain words: what is asked, or what is wrong first, and where.
-/
import Derived.Test.YtilkbgdfndifgaaGreatDoorWordP
namespace Go.Proofs.YtilkbgdfndifgaaGreatDoor.WordP
set_option linter.unusedVariables false
set_option linter.unusedSimpArgs false

def buyB : Bs := [98, 117, 121]
def sellB : Bs := [115, 101, 108, 108]
def submitB : Bs := [115, 117, 98, 109, 105, 116]
def cancelB : Bs := [99, 97, 110, 99, 101, 108]
def pollB : Bs := [112, 111, 108, 108]
def viewB : Bs := [118, 105, 101, 119]
/-- Words read by a shape (true: a side): the numbers, the next word's place, the words behind; or the code and the place of what is wrong. -/
def steps : List Bool → Nat → Nat → List Bs → Except (Nat × Nat) (List Nat × Nat × List Bs)
  | [], E, p, ws => .ok ([], p, ws)
  | b :: sh, E, p, [] => .error (11, E)
  | false :: sh, E, p, w :: ws => if dig w then (match steps sh E (p + w.length + 1) ws with | .ok (ns, r) => .ok (val w :: ns, r) | .error e => .error e) else .error (13, p)
  | true :: sh, E, p, w :: ws => if w == buyB then (match steps sh E (p + w.length + 1) ws with | .ok (ns, r) => .ok (0 :: ns, r) | .error e => .error e)
      else if w == sellB then (match steps sh E (p + w.length + 1) ws with | .ok (ns, r) => .ok (1 :: ns, r) | .error e => .error e)
      else .error (10, p)
def shapeB (verb : Bs) : Option (Nat × List Bool) :=
  if verb == submitB then some (1, [false, false, true, false, false, false, false, false])
  else if verb == cancelB then some (2, [false, false])
  else if verb == pollB then some (3, [false])
  else if verb == viewB then some (4, [])
  else none
def okc (c : UInt8) : Bool := decide (32 ≤ c.toNat) && decide (c.toNat ≤ 126)
/-- The place of a byte that can't be. -/
def badFrom : Nat → Bs → Option Nat
  | _, [] => none
  | i, c :: l => if okc c then badFrom (i + 1) l else some i
def askW (E : Nat) : List Bs → Except (Nat × Nat) (Nat × List Nat)
  | [] => .error (10, 0)
  | v :: ws => match shapeB v with
    | none => .error (10, 0)
    | some (k, sh) => match steps sh E (v.length + 1) ws with
      | .error e => .error e
      | .ok (ns, p, []) => .ok (k, ns)
      | .ok (ns, p, _ :: _) => .error (12, p)
def askB (s : Bs) : Except (Nat × Nat) (Nat × List Nat) :=
  if 200 < s.length then .error (14, 200) else match badFrom 0 s with
  | some i => .error (15, i)
  | none => askW s.length (sp s)
theorem steps_len : ∀ (sh : List Bool) (E p : Nat) (ws : List Bs) {ns : List Nat} {q : Nat} {r : List Bs}, steps sh E p ws = .ok (ns, q, r) → ws.length = sh.length + r.length ∧ ns.length = sh.length ∧ r = ws.drop sh.length ∧ q = p + span (ws.take sh.length)
  | [], E, p, ws, ns, q, r, h => by
    simp only [steps, Except.ok.injEq, Prod.mk.injEq] at h
    obtain ⟨rfl, rfl, rfl⟩ := h
    simp [span]
  | b :: sh, E, p, [], ns, q, r, h => by simp [steps] at h
  | false :: sh, E, p, w :: ws, ns, q, r, h => by
    simp only [steps] at h
    split at h
    · split at h
      · rename_i ns' r' hr
        obtain ⟨q', r''⟩ := r'
        simp only [Except.ok.injEq, Prod.mk.injEq] at h
        obtain ⟨rfl, rfl, rfl⟩ := h
        obtain ⟨h1, h2, h3, h4⟩ := steps_len sh E _ ws hr
        refine ⟨by simp; omega, by simp [h2], by simp [h3], ?_⟩
        simp only [span] at h4
        simp only [span, List.length_cons, List.take_succ_cons, List.map_cons, List.sum_cons]
        omega
      · cases h
    · cases h
  | true :: sh, E, p, w :: ws, ns, q, r, h => by
    simp only [steps] at h
    split at h
    · split at h
      · rename_i ns' r' hr
        obtain ⟨q', r''⟩ := r'
        simp only [Except.ok.injEq, Prod.mk.injEq] at h
        obtain ⟨rfl, rfl, rfl⟩ := h
        obtain ⟨h1, h2, h3, h4⟩ := steps_len sh E _ ws hr
        refine ⟨by simp; omega, by simp [h2], by simp [h3], ?_⟩
        simp only [span] at h4
        simp only [span, List.length_cons, List.take_succ_cons, List.map_cons, List.sum_cons]
        omega
      · cases h
    · split at h
      · split at h
        · rename_i ns' r' hr
          obtain ⟨q', r''⟩ := r'
          simp only [Except.ok.injEq, Prod.mk.injEq] at h
          obtain ⟨rfl, rfl, rfl⟩ := h
          obtain ⟨h1, h2, h3, h4⟩ := steps_len sh E _ ws hr
          refine ⟨by simp; omega, by simp [h2], by simp [h3], ?_⟩
          simp only [span] at h4
          simp only [span, List.length_cons, List.take_succ_cons, List.map_cons, List.sum_cons]
          omega
        · cases h
      · cases h
end Go.Proofs.YtilkbgdfndifgaaGreatDoor.WordP
