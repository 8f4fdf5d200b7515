/-
  Lines of a story: plain laws.
-/
import Derived.Test.YtnaemggpelolcaaGreatDoorPrintP
import Derived.Lib.CutLaws
namespace Go.Proofs.YtnaemggpelolcaaGreatDoor.WordP
open Go.Lib (decDigits)
set_option linter.unusedVariables false
set_option linter.unusedSimpArgs false

/-- Cut at the first blank. -/
def cutS : Bs → Bs × Bs × Bool
  | [] => ([], [], false)
  | c :: l => if c = 32 then ([], l, true) else (c :: (cutS l).1, (cutS l).2.1, (cutS l).2.2)
open Go.Lib in
theorem cut_cutS : ∀ s : Bs, cut s [32] = cutS s
  | [] => by simp [cut, cutS, index]
  | b :: l => by
    have ih := cut_cutS l
    by_cases h : b = 32
    · subst h
      have hix : index (32 :: l) [32] = 0 := by rw [index]; simp [List.isPrefixOf]
      simp [cut, cutS, hix]
    · have hix : index (b :: l) [32] = if index l [32] == -1 then -1 else index l [32] + 1 := by rw [index]; simp [List.isPrefixOf, Ne.symm h]
      have hge := index_ge l [32]
      unfold cut at ih ⊢
      by_cases hm : index l [32] = -1
      · rw [hm] at ih
        simp only [show ¬ (0 : Int) ≤ -1 by decide, if_false] at ih
        rw [hix, hm]
        simp only [beq_self_eq_true, if_true, show ¬ (0 : Int) ≤ -1 by decide, if_false, cutS, h, ← ih]
      · obtain ⟨j, hj⟩ : ∃ j : Nat, index l [32] = j := ⟨(index l [32]).toNat, by omega⟩
        have e0 : (index l [32] == -1) = false := by simpa using hm
        rw [hix, e0]
        rw [hj] at ih ⊢
        simp only [Bool.false_eq_true, if_false, Int.natCast_nonneg, if_true, Int.toNat_natCast, List.length_cons, List.length_nil] at ih ⊢
        have h1 : (0 : Int) ≤ (j : Int) + 1 := by omega
        have h2 : ((j : Int) + 1).toNat = j + 1 := by omega
        simp only [h1, if_true, h2, cutS, h, if_false, ← ih]
        simp [Nat.add_right_comm]
theorem sp_cutS : ∀ s : Bs, sp s = (cutS s).1 :: (if (cutS s).2.2 = true then sp (cutS s).2.1 else [])
  | [] => rfl
  | c :: l => by
    by_cases h : c = 32
    · simp [sp, cutS, h]
    · have ih := sp_cutS l
      simp [sp, cutS, h, ih]
theorem cutS_false : ∀ {s : Bs}, (cutS s).2.2 = false → (cutS s).1 = s ∧ (cutS s).2.1 = []
  | [], _ => ⟨rfl, rfl⟩
  | c :: l, h => by
    by_cases hc : c = 32
    · simp [cutS, hc] at h
    · simp only [cutS, hc, if_false] at h ⊢
      obtain ⟨a, b⟩ := cutS_false h
      exact ⟨by rw [a], b⟩
theorem cutS_true : ∀ {s : Bs}, (cutS s).2.2 = true → s = (cutS s).1 ++ 32 :: (cutS s).2.1
  | [], h => by cases h
  | c :: l, h => by
    by_cases hc : c = 32
    · simp [cutS, hc]
    · simp only [cutS, hc, if_false] at h ⊢
      rw [List.cons_append, ← cutS_true h]
theorem cutS_len (s : Bs) : (cutS s).1.length + (cutS s).2.1.length ≤ s.length := by
  cases h : (cutS s).2.2 with
  | false => obtain ⟨a, b⟩ := cutS_false h; rw [a, b]; simp
  | true =>
    have := congrArg List.length (cutS_true h)
    simp at this
    omega
/-- A number, with a sign ahead of all but nought. -/
def numB (w : Bs) : Option Int :=
  match w with
  | [] => none
  | c :: l => if c = 45 then (if dig l && !(l == [48]) then some (-(val l : Int)) else none) else if dig (c :: l) then some (val (c :: l) : Int) else none
theorem numB_bound {w : Bs} {n : Int} (h : numB w = some n) : -9999999 ≤ n ∧ n ≤ 9999999 := by
  unfold numB at h
  split at h
  · cases h
  · split at h
    · split at h
      · rename_i hd
        simp only [Bool.and_eq_true] at hd
        have := val_lt hd.1
        simp only [Option.some.injEq] at h; subst h; omega
      · cases h
    · split at h
      · rename_i hd
        have := val_lt hd
        simp only [Option.some.injEq] at h; subst h; omega
      · cases h
theorem atoi_neg {w : Bs} (hw : w ≠ []) (h : w.all dgt = true) : Go.Lib.atoi (45 :: w) = some (-(val w : Int)) := by
  have h1 := atoi_val hw h
  cases w with
  | nil => exact absurd rfl hw
  | cons c w =>
    simp only [Go.Lib.atoi, beq_self_eq_true, if_true, Go.Lib.decNat, List.isEmpty_cons, Bool.false_eq_true, if_false, decFrom_val (c :: w) 0 h, Option.map_some]
    rfl
structure Ev where
  k : Int
  w : Int
  n : Int
  l : Bs
def sayB : Bs := [115, 97, 121]
def tickB : Bs := [116, 105, 99, 107]
def pickB : Bs := [112, 105, 99, 107]
def drawB : Bs := [100, 114, 97, 119]
def numsB : List Bs → Option (List Int)
  | [] => some []
  | w :: ws => match numB w with
    | none => none
    | some n => match numsB ws with
      | none => none
      | some ns => some (n :: ns)
/-- The events of a verb and its numbers. -/
def evsB (verb : Bs) (ns : List Int) : Except (Nat × Nat) (List Ev) :=
  match ns with
  | [a] => if verb = tickB then .ok [⟨2, 0, a, []⟩] else if verb = pickB then .ok [⟨3, a, 0, []⟩] else .error (10, 0)
  | [a, b] => if verb = pickB ∧ 2 ≤ b ∧ b ≤ 10000 then .ok (List.replicate b.toNat ⟨3, a, 0, []⟩) else if verb = drawB then .ok [⟨4, a, b, []⟩] else .error (10, 0)
  | _ => .error (10, 0)
/-- One line, that begins with one of the words. -/
def parseB (s : Bs) : Except (Nat × Nat) (List Ev) :=
  if (cutS s).1 = sayB then
    (match numB (cutS (cutS s).2.1).1 with
     | none => .error (13, 4)
     | some n => if (cutS (cutS s).2.1).2.2 = true then .ok [⟨1, n, 0, (cutS (cutS s).2.1).2.1⟩] else .error (13, 4))
  else match numsB (sp (cutS s).2.1) with
    | none => .error (13, (cutS s).1.length + 1)
    | some ns => evsB (cutS s).1 ns
def knownB (s : Bs) : Bool := (cutS s).1 == sayB || ((cutS s).1 == tickB || ((cutS s).1 == pickB || (cutS s).1 == drawB))
def skipB (s : Bs) : Bool := match s with
  | [] => true
  | c :: _ => c == 35
def lineB (s : Bs) : Except (Nat × Nat) (List Ev) := if skipB s then .ok [] else if knownB s then parseB s else .error (10, 0)
/-- All lines: the events, or which line is none, why, and where. -/
def storyB : Nat → List Bs → Except (Nat × Nat × Nat) (List Ev)
  | _, [] => .ok []
  | i, s :: l => match lineB s with
    | .error (c, p) => .error (i, c, p)
    | .ok es => match storyB (i + 1) l with
      | .error e => .error e
      | .ok fs => .ok (es ++ fs)
theorem storyB_ok {l : List Bs} : ∀ {i : Nat} {es : List Ev}, storyB i l = .ok es → ∀ j, storyB j l = .ok es := by
  induction l with
  | nil => intro i es h j; simpa [storyB] using h
  | cons s l ih =>
    intro i es h j
    simp only [storyB] at h ⊢
    cases hl : lineB s with
    | error e => rw [hl] at h; cases h
    | ok fs =>
      rw [hl] at h
      simp only at h ⊢
      cases hs : storyB (i + 1) l with
      | error e => rw [hs] at h; cases h
      | ok gs =>
        rw [hs] at h
        rw [ih hs (j + 1)]
        exact h
theorem storyB_append {a b : List Bs} : ∀ {i : Nat} {es fs : List Ev}, storyB i a = .ok es → storyB 0 b = .ok fs → storyB i (a ++ b) = .ok (es ++ fs) := by
  induction a with
  | nil => intro i es fs h h'; simp only [storyB, Except.ok.injEq] at h; subst h; exact storyB_ok h' _
  | cons s a ih =>
    intro i es fs h h'
    simp only [storyB] at h
    cases hl : lineB s with
    | error e => rw [hl] at h; cases h
    | ok gs =>
      rw [hl] at h
      simp only at h
      cases hs : storyB (i + 1) a with
      | error e => rw [hs] at h; cases h
      | ok ks =>
        rw [hs] at h
        simp only [Except.ok.injEq] at h
        subst h
        simp only [List.cons_append, storyB, hl, ih hs h', List.append_assoc]
theorem evsB_len {verb : Bs} {ns : List Int} {es : List Ev} (h : evsB verb ns = .ok es) : es.length ≤ 10000 := by
  unfold evsB at h
  split at h
  · split at h
    · cases h; simp
    · split at h
      · cases h; simp
      · cases h
  · split at h
    · rename_i hb
      cases h; simp; omega
    · split at h
      · cases h; simp
      · cases h
  · cases h
theorem lineB_len {s : Bs} {es : List Ev} (h : lineB s = .ok es) : es.length ≤ 10000 := by
  unfold lineB at h
  split at h
  · cases h; simp
  · split at h
    · unfold parseB at h
      split at h
      · split at h
        · cases h
        · split at h
          · cases h; simp
          · cases h
      · split at h
        · cases h
        · exact evsB_len h
    · cases h
theorem storyB_len {l : List Bs} : ∀ {i : Nat} {es : List Ev}, storyB i l = .ok es → es.length ≤ 10000 * l.length := by
  induction l with
  | nil => intro i es h; simp only [storyB, Except.ok.injEq] at h; subst h; simp
  | cons s l ih =>
    intro i es h
    simp only [storyB] at h
    cases hl : lineB s with
    | error e => rw [hl] at h; cases h
    | ok fs =>
      rw [hl] at h
      simp only at h
      cases hs : storyB (i + 1) l with
      | error e => rw [hs] at h; cases h
      | ok gs =>
        rw [hs] at h
        simp only [Except.ok.injEq] at h
        subst h
        have h1 := lineB_len hl
        have h2 := ih hs
        simp only [List.length_append, List.length_cons]
        omega
theorem numsB_len : ∀ {ws : List Bs} {ns : List Int}, numsB ws = some ns → ns.length = ws.length
  | [], ns, h => by simp only [numsB, Option.some.injEq] at h; subst h; rfl
  | w :: ws, ns, h => by
    simp only [numsB] at h
    split at h
    · cases h
    · split at h
      · cases h
      · rename_i n _ ks hk
        simp only [Option.some.injEq] at h; subst h
        simp [numsB_len hk]
end Go.Proofs.YtnaemggpelolcaaGreatDoor.WordP
