/-
  An event as a line: plain laws.
-/
import Derived.Test.YtnaemggpelolcaaGreatDoorStoryP
namespace Go.Proofs.YtnaemggpelolcaaGreatDoor.WordP
open Go.Lib (decDigits itoa nDigits)
set_option linter.unusedVariables false
set_option linter.unusedSimpArgs false
set_option maxRecDepth 10000

theorem itoaNeg (n : Nat) (h : 0 < n) : itoa (-(n : Int)) = 45 :: decDigits n := by
  unfold itoa
  rw [if_pos (by omega)]
  congr 1
  congr 1
  omega
theorem itoaNn (n : Nat) : itoa (n : Int) = decDigits n := by
  unfold itoa
  rw [if_neg (by omega)]
  congr 1
theorem decLen (n : Nat) (h : n < 2 ^ 64) : (decDigits n).length ≤ 64 := by
  rw [Go.Lib.decDigits_length]
  have : ∀ k u : Nat, u < 2 ^ k → 1 ≤ k → Go.Lib.nDigits u ≤ k := by
    intro k
    induction k with
    | zero => intro u _ h; omega
    | succ k ih =>
      intro u hu _
      by_cases h10 : u < 10
      · rw [Go.Lib.nDigits_small h10]; omega
      · rw [Go.Lib.nDigits_big h10]
        by_cases hk : k = 0
        · subst hk; omega
        · have := ih (u / 10) (by rw [Nat.pow_succ] at hu; omega) (by omega)
          omega
  exact this 64 n h (by omega)
def inR (n : Int) : Prop := -9999999 ≤ n ∧ n ≤ 9999999
instance (n : Int) : Decidable (inR n) := by unfold inR; infer_instance
/-- An event, as often as told, as a line. -/
def evLine (e : Ev) (t : Nat) : Option Bs :=
  if ¬ (inR e.w ∧ inR e.n) then none
  else if e.k = 1 then (if e.n = 0 ∧ e.l.any (· == 10) = false then some (sayB ++ [32] ++ itoa e.w ++ [32] ++ e.l) else none)
  else if e.l ≠ [] then none
  else if e.k = 2 then (if e.w = 0 then some (tickB ++ [32] ++ itoa e.n) else none)
  else if e.k = 3 then (if e.n = 0 then some (if 1 < t then pickB ++ [32] ++ itoa e.w ++ [32] ++ itoa (t : Int) else pickB ++ [32] ++ itoa e.w) else none)
  else if e.k = 4 then some (drawB ++ [32] ++ itoa e.w ++ [32] ++ itoa e.n)
  else none
theorem itoa_num {n : Int} (h : inR n) : numB (itoa n) = some n := by
  unfold inR at h
  by_cases h0 : n < 0
  · obtain ⟨m, rfl⟩ : ∃ m : Nat, n = -(m : Int) := ⟨(-n).toNat, by omega⟩
    obtain ⟨hd, hv⟩ := dec_dig (n := m) (by omega)
    have h48 : decDigits m ≠ [48] := by
      intro e
      rw [e] at hv
      have : m = 0 := hv.symm
      omega
    rw [itoaNeg m (by omega)]
    simp [numB, hd, hv, h48]
  · obtain ⟨m, rfl⟩ := Int.eq_ofNat_of_zero_le (show 0 ≤ n by omega)
    obtain ⟨hd, hv⟩ := dec_dig (n := m) (by omega)
    rw [itoaNn]
    cases e : decDigits m with
    | nil => rw [e] at hd; simp [dig] at hd
    | cons c l =>
      rw [e] at hd hv
      have h45 : c ≠ 45 := by
        rintro rfl
        simp [dig, dgt] at hd
      simp [numB, hd, hv, h45]
theorem itoa_noblank {n : Int} (h : inR n) : ∀ c ∈ itoa n, c ≠ 32 := by
  have dd : ∀ m : Nat, ∀ c ∈ decDigits m, c ≠ 32 := fun m => ink_ne (dec_ink m)
  by_cases h0 : n < 0
  · obtain ⟨m, rfl⟩ : ∃ m : Nat, n = -(m : Int) := ⟨(-n).toNat, by omega⟩
    rw [itoaNeg m (by omega)]
    intro c hc
    rcases List.mem_cons.1 hc with rfl | hc
    · decide
    · exact dd m c hc
  · obtain ⟨m, rfl⟩ := Int.eq_ofNat_of_zero_le (show 0 ≤ n by omega)
    rw [itoaNn]
    exact dd m
theorem itoa_short {n : Int} (h1 : -9223372036854775808 ≤ n) (h2 : n ≤ 9223372036854775807) : (itoa n).length ≤ 100 := by
  by_cases h0 : n < 0
  · obtain ⟨m, rfl⟩ : ∃ m : Nat, n = -(m : Int) := ⟨(-n).toNat, by omega⟩
    rw [itoaNeg m (by omega)]
    have := decLen m (by omega)
    simp only [List.length_cons]; omega
  · obtain ⟨m, rfl⟩ := Int.eq_ofNat_of_zero_le (show 0 ≤ n by omega)
    rw [itoaNn]
    have := decLen m (by omega)
    omega
theorem cutS_app {a b : Bs} (h : ∀ c ∈ a, c ≠ 32) : cutS (a ++ 32 :: b) = (a, b, true) := by
  induction a with
  | nil => simp [cutS]
  | cons c a ih =>
    have hc : c ≠ 32 := h c (by simp)
    simp [cutS, hc, ih fun c hc => h c (by simp [hc])]
theorem cutS_no {a : Bs} (h : ∀ c ∈ a, c ≠ 32) : cutS a = (a, [], false) := by
  induction a with
  | nil => rfl
  | cons c a ih =>
    have hc : c ≠ 32 := h c (by simp)
    simp [cutS, hc, ih fun c hc => h c (by simp [hc])]
theorem sp_app {a b : Bs} (h : ∀ c ∈ a, c ≠ 32) : sp (a ++ 32 :: b) = a :: sp b := by
  rw [sp_cutS, cutS_app h]; simp
theorem sp_no {a : Bs} (h : ∀ c ∈ a, c ≠ 32) : sp a = [a] := by
  rw [sp_cutS, cutS_no h]; simp
theorem nb (a : Bs) (h : a.all (fun c => !(c == 32)) = true) : ∀ c ∈ a, c ≠ 32 := by
  intro c hc e
  have := List.all_eq_true.1 h c hc
  subst e
  simp at this
theorem line_back {e : Ev} {t : Nat} {s : Bs} (ht : 1 ≤ t ∧ t ≤ 10000) (hk : e.k = 3 ∨ t = 1) (h : evLine e t = some s) : lineB s = .ok (List.replicate t e) := by
  obtain ⟨k, w, n, l⟩ := e
  unfold evLine at h
  simp only at h hk
  split at h
  · cases h
  rename_i hr
  obtain ⟨hw, hn⟩ := Decidable.not_not.1 hr
  have lb : ∀ s : Bs, skipB s = false → knownB s = true → lineB s = parseB s := by intro s h1 h2; simp [lineB, h1, h2]
  have a1 := nb sayB (by rfl)
  have a2 := nb tickB (by rfl)
  have a3 := nb pickB (by rfl)
  have a4 := nb drawB (by rfl)
  have bw := itoa_noblank hw
  have bn := itoa_noblank hn
  have w1 := itoa_num hw
  have n1 := itoa_num hn
  split at h
  · rename_i hk1
    split at h
    · rename_i hc
      simp only [Option.some.injEq] at h
      have t1 : t = 1 := by omega
      subst h t1 hk1
      have e : sayB ++ [32] ++ itoa w ++ [32] ++ l = sayB ++ 32 :: (itoa w ++ 32 :: l) := by simp
      rw [e, lb _ rfl (by rw [knownB, cutS_app a1]; rfl)]
      unfold parseB
      simp only [cutS_app a1, cutS_app bw, if_true, w1]
      rw [hc.1]
      rfl
    · cases h
  rename_i nk1
  split at h
  · cases h
  rename_i hl
  have hl : l = [] := Decidable.not_not.1 hl
  subst hl
  split at h
  · rename_i hk2
    split at h
    · rename_i hc
      simp only [Option.some.injEq] at h
      have t1 : t = 1 := by omega
      subst h t1 hk2
      have e : tickB ++ [32] ++ itoa n = tickB ++ 32 :: itoa n := by simp
      rw [e, lb _ rfl (by rw [knownB, cutS_app a2]; rfl)]
      unfold parseB
      simp only [cutS_app a2, sp_no bn, numsB, n1, show tickB ≠ sayB by decide, if_false]
      rw [hc]
      rfl
    · cases h
  rename_i nk2
  split at h
  · rename_i hk3
    split at h
    · rename_i hc
      simp only [Option.some.injEq] at h
      subst h hk3 hc
      by_cases h1 : 1 < t
      · have bt := itoa_noblank (n := (t : Int)) (by unfold inR; omega)
        have t1 := itoa_num (n := (t : Int)) (by unfold inR; omega)
        have e : pickB ++ [32] ++ itoa w ++ [32] ++ itoa (t : Int) = pickB ++ 32 :: (itoa w ++ 32 :: itoa (t : Int)) := by simp
        rw [if_pos h1, e, lb _ rfl (by rw [knownB, cutS_app a3]; rfl)]
        unfold parseB
        simp only [cutS_app a3, sp_app bw, sp_no bt, numsB, w1, t1, show pickB ≠ sayB by decide, if_false]
        show (if pickB = pickB ∧ 2 ≤ (t : Int) ∧ (t : Int) ≤ 10000 then (Except.ok (List.replicate ((t : Int)).toNat ⟨3, w, 0, []⟩) : Except (Nat × Nat) (List Ev)) else _) = _
        rw [if_pos ⟨rfl, by omega, by omega⟩, Int.toNat_natCast]
      · have t1 : t = 1 := by omega
        subst t1
        have e : pickB ++ [32] ++ itoa w = pickB ++ 32 :: itoa w := by simp
        rw [if_neg h1, e, lb _ rfl (by rw [knownB, cutS_app a3]; rfl)]
        unfold parseB
        simp only [cutS_app a3, sp_no bw, numsB, w1, show pickB ≠ sayB by decide, if_false]
        rfl
    · cases h
  rename_i nk3
  split at h
  · rename_i hk4
    simp only [Option.some.injEq] at h
    have t1 : t = 1 := by omega
    subst h t1 hk4
    have e : drawB ++ [32] ++ itoa w ++ [32] ++ itoa n = drawB ++ 32 :: (itoa w ++ 32 :: itoa n) := by simp
    rw [e, lb _ rfl (by rw [knownB, cutS_app a4]; rfl)]
    unfold parseB
    simp only [cutS_app a4, sp_app bw, sp_no bn, numsB, w1, n1, show drawB ≠ sayB by decide, if_false]
    rfl
  · cases h
theorem evLine_len {e : Ev} {t : Nat} {s : Bs} (ht : t ≤ 10000) (he : e.l.length ≤ 5000) (h : evLine e t = some s) : s.length ≤ 6000 := by
  unfold evLine at h
  split at h
  · cases h
  rename_i hr
  obtain ⟨hw, hn⟩ := Decidable.not_not.1 hr
  have h1 := itoa_short (n := e.w) (by unfold inR at hw; omega) (by unfold inR at hw; omega)
  have h2 := itoa_short (n := e.n) (by unfold inR at hn; omega) (by unfold inR at hn; omega)
  have h3 := itoa_short (n := (t : Int)) (by omega) (by omega)
  have l1 : sayB.length = 3 := rfl
  have l2 : tickB.length = 4 := rfl
  have l3 : pickB.length = 4 := rfl
  have l4 : drawB.length = 4 := rfl
  split at h
  · split at h
    · cases h; simp; omega
    · cases h
  split at h
  · cases h
  split at h
  · split at h
    · cases h; simp; omega
    · cases h
  split at h
  · split at h
    · simp only [Option.some.injEq] at h
      subst h
      split <;> (simp; omega)
    · cases h
  split at h
  · cases h; simp; omega
  · cases h
end Go.Proofs.YtnaemggpelolcaaGreatDoor.WordP
