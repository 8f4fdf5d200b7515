/-
  Numbers as lines have them, and lines as words: plain laws.
-/
import Derived.Test.YtilkbgdfndifgaaGreatDoorAskP
import Derived.Lib.ItoaNum
import Derived.Lib.Join
namespace Go.Proofs.YtilkbgdfndifgaaGreatDoor.WordP
open Go.Lib (decDigits nDigits)
set_option linter.unusedVariables false
set_option linter.unusedSimpArgs false

/-- Digits, and none of them a nought ahead. -/
structure Good (w : Bs) : Prop where
  ne : w ≠ []
  all : w.all dgt = true
  lead : w.getD 0 0 = 48 → w = [48]
theorem dig_iff (w : Bs) : dig w = true ↔ Good w ∧ w.length ≤ 7 := by
  simp only [dig, Bool.and_eq_true, Bool.not_eq_true', beq_eq_false_iff_ne, ne_eq, decide_eq_true_eq, Bool.and_eq_false_imp, beq_iff_eq, Bool.not_eq_false']
  constructor
  · rintro ⟨⟨⟨h1, h2⟩, h3⟩, h4⟩
    exact ⟨⟨h1, h4, h3⟩, h2⟩
  · rintro ⟨⟨h1, h4, h3⟩, h2⟩
    exact ⟨⟨⟨h1, h2⟩, h3⟩, h4⟩
theorem valF_snoc (w : Bs) (c : UInt8) (acc : Nat) : valF acc (w ++ [c]) = valF acc w * 10 + (c.toNat - 48) := by simp [valF, List.foldl_append]
theorem dgt_iff {c : UInt8} : dgt c = true ↔ 48 ≤ c.toNat ∧ c.toNat ≤ 57 := by simp [dgt]
theorem valF_ge : ∀ (w : Bs) (acc : Nat), acc ≤ valF acc w
  | [], acc => Nat.le_refl _
  | c :: w, acc => by
    have := valF_ge w (acc * 10 + (c.toNat - 48))
    show acc ≤ valF (acc * 10 + (c.toNat - 48)) w
    omega
theorem val_pos {c : UInt8} {w : Bs} (hc : dgt c = true) (h : c ≠ 48) : 1 ≤ val (c :: w) := by
  have h1 := valF_ge w (0 * 10 + (c.toNat - 48))
  have h2 := dgt_iff.1 hc
  have h3 : c.toNat ≠ 48 := fun e => h (by rw [← UInt8.toNat_inj]; exact e)
  show 1 ≤ valF (0 * 10 + (c.toNat - 48)) w
  omega
theorem ofNat_dgt {c : UInt8} (h : dgt c = true) : UInt8.ofNat (48 + (c.toNat - 48)) = c := by
  have := dgt_iff.1 h
  rw [show 48 + (c.toNat - 48) = c.toNat by omega]
  simp
theorem decDigits_small {n : Nat} (h : n < 10) : decDigits n = [UInt8.ofNat (48 + n)] := by rw [decDigits, dif_pos h]
theorem decDigits_big {n : Nat} (h : ¬ n < 10) : decDigits n = decDigits (n / 10) ++ [UInt8.ofNat (48 + n % 10)] := by rw [decDigits, dif_neg h]
theorem snoc_cases {w : Bs} (h : w ≠ []) : ∃ u c, w = u ++ [c] := ⟨w.dropLast, w.getLast h, (List.dropLast_concat_getLast h).symm⟩
theorem good_dec : ∀ (n : Nat) (w : Bs), w.length ≤ n → Good w → decDigits (val w) = w
  | 0, w, hn, h => absurd (List.eq_nil_of_length_eq_zero (by omega)) h.ne
  | n + 1, w, hn, h => by
    obtain ⟨u, c, rfl⟩ := snoc_cases h.ne
    have hall := h.all
    simp only [List.all_append, List.all_cons, List.all_nil, Bool.and_true, Bool.and_eq_true] at hall
    have hc := dgt_iff.1 hall.2
    unfold val
    rw [valF_snoc]
    cases u with
    | nil =>
      simp only [valF, List.foldl_nil, Nat.zero_mul, Nat.zero_add, List.nil_append]
      rw [decDigits_small (by omega), ofNat_dgt hall.2]
    | cons d u =>
      have hd : d ≠ 48 := by
        intro e
        have := h.lead (by simp [e])
        simp at this
      have h1 := hall.1
      have hg : Good (d :: u) := ⟨by simp, h1, fun e => absurd (by simpa using e) hd⟩
      simp only [List.all_cons, Bool.and_eq_true] at h1
      have hp := val_pos (w := u) h1.1 hd
      have ih := good_dec n (d :: u) (by simp at hn ⊢; omega) hg
      unfold val at hp ih
      rw [decDigits_big (by omega), show (valF 0 (d :: u) * 10 + (c.toNat - 48)) / 10 = valF 0 (d :: u) by omega, show (valF 0 (d :: u) * 10 + (c.toNat - 48)) % 10 = c.toNat - 48 by omega, ih, ofNat_dgt hall.2]
theorem dec_val {w : Bs} (h : dig w = true) : decDigits (val w) = w := good_dec w.length w (Nat.le_refl _) ((dig_iff w).1 h).1
theorem u8_small {n : Nat} (h : n < 10) : (UInt8.ofNat (48 + n)).toNat = 48 + n := by
  rw [UInt8.toNat_ofNat']
  omega
theorem dec_good (n : Nat) : Good (decDigits n) ∧ val (decDigits n) = n ∧ (1 ≤ n → (decDigits n).getD 0 0 ≠ 48) := by
  induction n using Nat.strongRecOn with
  | _ n ih =>
    by_cases h : n < 10
    · rw [decDigits_small h]
      have h1 := u8_small h
      generalize UInt8.ofNat (48 + n) = c at h1
      have hd : dgt c = true := dgt_iff.2 (by omega)
      refine ⟨⟨by simp, by simp only [List.all_cons, List.all_nil, Bool.and_true, hd], fun e => ?_⟩, ?_, fun hp e => ?_⟩
      · have e' : c = 48 := e
        rw [e']
      · show 0 * 10 + (c.toNat - 48) = n
        omega
      · have e' : c = 48 := e
        rw [e'] at h1
        have : (48 : UInt8).toNat = 48 := rfl
        omega
    · rw [decDigits_big h]
      obtain ⟨h1, h2, h3⟩ := ih (n / 10) (by omega)
      have h4 := h3 (by omega)
      have h5 := u8_small (show n % 10 < 10 by omega)
      generalize UInt8.ofNat (48 + n % 10) = c at h5
      have hlen : 0 < (decDigits (n / 10)).length := List.length_pos_iff.2 h1.ne
      have hh : (decDigits (n / 10) ++ [c]).getD 0 0 = (decDigits (n / 10)).getD 0 0 := by
        rw [List.getD_eq_getElem?_getD, List.getElem?_append_left hlen, ← List.getD_eq_getElem?_getD]
      refine ⟨⟨by simp, ?_, fun e => absurd (hh ▸ e) h4⟩, ?_, fun _ => by rw [hh]; exact h4⟩
      · rw [List.all_append, h1.all]
        have : dgt c = true := dgt_iff.2 (by omega)
        simp only [List.all_cons, List.all_nil, this, Bool.and_true]
      · unfold val at h2 ⊢
        rw [valF_snoc, h2, h5]
        omega
theorem dec_dig {n : Nat} (h : n ≤ 9999999) : dig (decDigits n) = true ∧ val (decDigits n) = n := by
  obtain ⟨h1, h2, _⟩ := dec_good n
  refine ⟨(dig_iff _).2 ⟨h1, ?_⟩, h2⟩
  rw [Go.Lib.decDigits_length]
  by_cases h0 : nDigits n ≤ 7
  · exact h0
  · exfalso
    have hp := Go.Lib.nDigits_pos n
    have : ∀ k u : Nat, k < nDigits u → 1 ≤ k → 10 ^ k ≤ u := by
      intro k
      induction k with
      | zero => intro u _ h; omega
      | succ k ih =>
        intro u hk _
        by_cases hu : u < 10
        · rw [Go.Lib.nDigits_small hu] at hk; omega
        · rw [Go.Lib.nDigits_big hu] at hk
          by_cases hk0 : k = 0
          · subst hk0; omega
          · have := ih (u / 10) (by omega) (by omega)
            rw [Nat.pow_succ]
            omega
    have := this 7 n (by omega) (by omega)
    omega
/-! Lines and words. -/
def un (ws : List Bs) : Bs := Go.Lib.join ws [32]
theorem un_nil : un [] = [] := rfl
theorem un_one (w : Bs) : un [w] = w := Go.Lib.join_one w [32]
theorem un_cons (w v : Bs) (ws : List Bs) : un (w :: v :: ws) = w ++ 32 :: un (v :: ws) := by
  unfold un
  rw [Go.Lib.join_cons, Go.Lib.join_cons]
  simp [Go.Lib.joinTail]
theorem un_cons' {w : Bs} {ws : List Bs} (h : ws ≠ []) : un (w :: ws) = w ++ 32 :: un ws := by
  cases ws with
  | nil => exact absurd rfl h
  | cons v ws => exact un_cons w v ws
theorem un_sp : ∀ s : Bs, un (sp s) = s
  | [] => by simp [sp, un_one]
  | c :: l => by
    have ih := un_sp l
    by_cases h : c = 32
    · simp only [sp, h, if_true]
      rw [un_cons' (sp_ne l), ih]
      rfl
    · obtain ⟨w, ws, e1, e2⟩ := sp_cons (l := l) h
      rw [e2]
      rw [e1] at ih
      cases ws with
      | nil => rw [un_one] at ih ⊢; rw [ih]
      | cons v ws => rw [un_cons] at ih ⊢; rw [← ih]; rfl
theorem sp_inj {s t : Bs} (h : sp s = sp t) : s = t := by rw [← un_sp s, ← un_sp t, h]
theorem sp_blank : ∀ (a b : Bs), sp (a ++ 32 :: b) = sp a ++ sp b
  | [], b => by simp [sp]
  | c :: a, b => by
    have ih := sp_blank a b
    by_cases h : c = 32
    · simp [sp, h, ih]
    · obtain ⟨w, ws, e1, e2⟩ := sp_cons (l := a) h
      obtain ⟨w', ws', e3, e4⟩ := sp_cons (l := a ++ 32 :: b) h
      rw [List.cons_append, e4, e2]
      rw [e3, e1] at ih
      simp at ih
      simp [ih]
theorem sp_noblank : ∀ {w : Bs}, (∀ c ∈ w, c ≠ 32) → sp w = [w]
  | [], _ => rfl
  | c :: w, h => by
    have ih := sp_noblank (w := w) fun x hx => h x (List.mem_cons_of_mem _ hx)
    have hc := h c (List.mem_cons_self ..)
    simp [sp, hc, ih]
theorem sp_un : ∀ {ws : List Bs}, ws ≠ [] → (∀ w ∈ ws, ∀ c ∈ w, c ≠ 32) → sp (un ws) = ws
  | [], h, _ => absurd rfl h
  | [w], _, h => by rw [un_one]; exact sp_noblank (h w (List.mem_cons_self ..))
  | w :: v :: ws, _, h => by
    rw [un_cons, sp_blank, sp_noblank (h w (List.mem_cons_self ..)), sp_un (by simp) fun x hx => h x (List.mem_cons_of_mem _ hx)]
    rfl
/-- The words of two texts one behind the other. -/
theorem sp_append : ∀ (a b : Bs), ∃ ws v, sp a = ws ++ [v] ∧ ∃ u us, sp b = u :: us ∧ sp (a ++ b) = ws ++ (v ++ u) :: us
  | [], b => by
    cases hb : sp b with
    | nil => exact absurd hb (sp_ne b)
    | cons u us => exact ⟨[], [], rfl, u, us, rfl, by simp [hb]⟩
  | c :: a, b => by
    obtain ⟨ws, v, h1, u, us, h2, h3⟩ := sp_append a b
    by_cases h : c = 32
    · exact ⟨[] :: ws, v, by simp [sp, h, h1], u, us, h2, by simp [sp, h, h3]⟩
    · cases ws with
      | nil => exact ⟨[], c :: v, by simp [sp, h, h1], u, us, h2, by simp [sp, h, h3]⟩
      | cons w ws => exact ⟨(c :: w) :: ws, v, by simp [sp, h, h1], u, us, h2, by simp [sp, h, h3]⟩
end Go.Proofs.YtilkbgdfndifgaaGreatDoor.WordP
