/-
  ref01.Decimal and ref15.Num, ref15.Split on data.
-/
import Derived.Test.YtnaemggpelolcaaGreatDoorAllE
import Derived.Test.YtnaemggpelolcaaGreatDoorDat
import Derived.Test.YtnaemggpelolcaaGreatDoorNumP
namespace Go.Proofs.YtnaemggpelolcaaGreatDoor.RefD
open Go.Proofs.YtnaemggpelolcaaGreatDoor.Eng Go.Proofs.YtnaemggpelolcaaGreatDoor Go.Proofs.YtnaemggpelolcaaGreatDoor.Dat Go.Proofs.YtnaemggpelolcaaGreatDoor.WordP
open Go.Lib (decDigits itoa)
set_option linter.unusedVariables false
set_option linter.unusedSimpArgs false

theorem digit_eq (n : Nat) (h : n ≤ 9) : FX 25 [.int n] = some [.str (toB [UInt8.ofNat (48 + n)])] := by
  have h1 : FX 25 = StrD.baseD 25 := fix_base (by rfl)
  rw [h1]
  show StrD.digitF [.int n] = _
  unfold StrD.digitF
  have : 0 ≤ (n : Int) ∧ (n : Int) ≤ 9 := by omega
  simp only [this, and_self, if_true, Int.toNat_natCast]
  rfl
theorem dec_len (n : Nat) (h : n < 2 ^ 64) : (decDigits n).length ≤ 64 := by
  rw [Go.Lib.decDigits_length]
  have : ∀ k u : Nat, u < 2 ^ k → 1 ≤ k → Go.Lib.nDigits u ≤ k := by
    intro k
    induction k with
    | zero => intro u _ h; omega
    | succ k ih =>
      intro u hu _
      by_cases h10 : u < 10
      · rw [Go.Lib.nDigits_small h10]; omega
      · rw [Go.Lib.nDigits_big h10]
        by_cases hk : k = 0
        · subst hk; omega
        · have := ih (u / 10) (by rw [Nat.pow_succ] at hu; omega) (by omega)
          omega
  exact this 64 n h (by omega)
theorem dec_eq : ∀ n : Nat, n < 2 ^ 63 → FX 12 [.int n] = some [.str (toB (decDigits n))] := by
  intro n
  induction n using Nat.strongRecOn with
  | _ n ih =>
    intro hn
    rw [E_ref01_Decimal]
    have h0 : ¬ ((n : Int) < 0) := by omega
    by_cases h : n < 10
    · have h1 : ((n : Int) < 10) := by omega
      simp only [D.toInt_int, h0, h1, decide_true, decide_false, Bool.false_eq_true, if_false, if_true, digit_eq n (by omega), bindC, List.length_cons, List.length_nil, List.getD_cons_zero, decDigits_small h]
    · have h1 : ¬ ((n : Int) < 10) := by omega
      have e1 : Int.tdiv (n : Int) 10 = ((n / 10 : Nat) : Int) := (Int.ofNat_tdiv n 10).symm
      have e2 : Int.tmod (n : Int) 10 = ((n % 10 : Nat) : Int) := (Int.ofNat_tmod n 10).symm
      have e3 : IntKind.i64.wrap ((n / 10 : Nat) : Int) = ((n / 10 : Nat) : Int) := wrap_small _ (by omega) (by omega)
      have hl := dec_len (n / 10) (by omega)
      have l1 : IntKind.i64.wrap (((decDigits (n / 10)).length : Int) + ((0 + 1 : Nat) : Int)) = (((decDigits (n / 10)).length + 1 : Nat) : Int) := by rw [wrap_small _ (by omega) (by omega)]; omega
      have l2 : ((((decDigits (n / 10)).length + 1 : Nat) : Int) ≤ 4611686018427387903) := by omega
      have l3 : ((((decDigits (n / 10)).length : Nat) : Int) ≤ 4611686018427387903) := by omega
      have l4 : (((0 + 1 : Nat) : Int) ≤ 4611686018427387903) := by omega
      simp only [D.toInt_int, h0, h1, decide_true, decide_false, Bool.false_eq_true, if_false, if_true, e1, e2, e3, ih (n / 10) (by omega) (by omega), digit_eq (n % 10) (by omega), bindC, List.length_cons, List.length_nil, List.getD_cons_zero, D.toStr_str, toB_size, l1, l2, l3, l4, append_toB]
      rw [decDigits_big h]
theorem u8_sub {c : UInt8} (h : dgt c = true) : IntKind.i64.wrap (IntKind.u8.wrap ((c.toNat : Int) - 48)) = ((c.toNat - 48 : Nat) : Int) := by
  have := dgt_iff.1 h
  have h1 : IntKind.u8.wrap ((c.toNat : Int) - 48) = ((c.toNat - 48 : Nat) : Int) := by
    simp [IntKind.wrap, IntKind.bits, IntKind.signed]; omega
  rw [h1, wrap_small _ (by omega) (by omega)]
theorem take_snoc {l : Bs} {i : Nat} (h : i < l.length) : l.take (i + 1) = l.take i ++ [l[i]] := by
  rw [List.take_add_one, List.getElem?_eq_getElem h]; rfl
theorem refnum_loop (w : Bs) (hw : w.length ≤ 7) : ∀ (d i : Nat), i + d = w.length → (w.take i).all dgt = true → ∃ v : Int, W_ref15_Num_1 (.str (toB w)) [.int (val (w.take i)), .int i] = some [.int v, .bool (w.all dgt && (decDigits (val w) == w))] ∧ (w.all dgt = true → v = val w)
  | 0, i, h, hall => by
    have hi : i = w.length := by omega
    subst hi
    rw [List.take_length] at hall ⊢
    rw [W_ref15_Num_1_eq]
    have h1 : ¬ ((w.length : Int) < (w.length : Int)) := by omega
    have hv := valF_lt w 0 hall
    have hp : (10 : Nat) ^ w.length ≤ 10 ^ 7 := Nat.pow_le_pow_right (by omega) hw
    refine ⟨val w, ?_, fun _ => rfl⟩
    simp only [D.toInt_int, D.toStr_str, toB_size, h1, decide_false, Bool.false_eq_true, if_false, dec_eq (val w) (by unfold val; omega), bindC, List.length_cons, List.length_nil, if_true, List.getD_cons_zero, eql_toB, hall, Bool.true_and]
  | d + 1, i, h, hall => by
    have hi : i < w.length := by omega
    have h1 : ((i : Int) < (w.length : Int)) := by omega
    have h2 : ((i : Int) ≥ 0) := by omega
    have h3 : IntKind.i64.wrap ((i : Int) + 1) = ((i + 1 : Nat) : Int) := by rw [wrap_small _ (by omega) (by omega)]; omega
    have hg : w.getD i 0 = w[i] := by rw [List.getD_eq_getElem?_getD, List.getElem?_eq_getElem hi, Option.getD_some]
    have hsplit : w.all dgt = ((w.take i).all dgt && (dgt w[i] && (w.drop (i + 1)).all dgt)) := by
      conv => lhs; rw [← List.take_append_drop i w, List.all_append, List.drop_eq_getElem_cons hi, List.all_cons]
    by_cases hd : dgt w[i] = true
    · have hc := dgt_iff.1 hd
      have ha : ¬ ((w[i].toNat : Int) < 48) := by omega
      have hb : ¬ ((w[i].toNat : Int) > 57) := by omega
      have htk : w.take (i + 1) = w.take i ++ [w[i]] := take_snoc hi
      have hall' : (w.take (i + 1)).all dgt = true := by rw [htk, List.all_append, hall]; simp [hd]
      obtain ⟨v, ih, hv⟩ := refnum_loop w hw d (i + 1) (by omega) hall'
      have hbound := valF_lt (w.take i) 0 hall
      have hlen : (w.take i).length ≤ 7 := by simp; omega
      have hp : (10 : Nat) ^ (w.take i).length ≤ 10 ^ 7 := Nat.pow_le_pow_right (by omega) hlen
      have hval : val (w.take (i + 1)) = val (w.take i) * 10 + (w[i].toNat - 48) := by unfold val; rw [htk, valF_snoc]
      have e1 : IntKind.i64.wrap (((val (w.take i) : Nat) : Int) * 10) = ((val (w.take i) * 10 : Nat) : Int) := by unfold val; rw [wrap_small _ (by omega) (by omega)]; omega
      have e2 : IntKind.i64.wrap (((val (w.take i) * 10 : Nat) : Int) + ((w[i].toNat - 48 : Nat) : Int)) = ((val (w.take (i + 1)) : Nat) : Int) := by rw [hval]; unfold val; rw [wrap_small _ (by omega) (by omega)]; omega
      refine ⟨v, ?_, hv⟩
      rw [W_ref15_Num_1_eq]
      simp only [D.toInt_int, D.toStr_str, toB_size, h1, h2, decide_true, if_true, Int.toNat_natCast, toB_get, hg, ha, hb, decide_false, Bool.false_eq_true, if_false, u8_sub hd, h3, e1, e2, ih]
    · have hd' : dgt w[i] = false := by simpa using hd
      refine ⟨0, ?_, fun hh => by rw [hsplit, hd'] at hh; simp at hh⟩
      have : w.all dgt = false := by rw [hsplit, hd']; simp
      rw [this, W_ref15_Num_1_eq]
      simp only [D.toInt_int, D.toStr_str, toB_size, h1, h2, decide_true, if_true, Int.toNat_natCast, toB_get, hg, Bool.false_and]
      by_cases ha : ((w[i].toNat : Int) < 48)
      · simp only [ha, decide_true, if_true]
      · have hb : ((w[i].toNat : Int) > 57) := by
          simp only [dgt, Bool.and_eq_false_iff, decide_eq_false_iff_not] at hd'
          omega
        simp only [ha, hb, decide_true, decide_false, Bool.false_eq_true, if_false, if_true]
theorem refnum_eq (w : Bs) : ∃ v : Int, FX 35 [.str (toB w)] = some [.int v, .bool (dig w)] ∧ (dig w = true → v = val w) := by
  rw [E_ref15_Num]
  by_cases h0 : w = []
  · subst h0
    exact ⟨0, by simp [dig], fun h => by simp [dig] at h⟩
  · have hpos : 0 < w.length := List.length_pos_iff.2 h0
    by_cases h7 : w.length ≤ 7
    · obtain ⟨v, h1, h2⟩ := refnum_loop w h7 w.length 0 (by omega) rfl
      have hdig : dig w = (w.all dgt && (decDigits (val w) == w)) := by
        rw [Bool.eq_iff_iff, Bool.and_eq_true, beq_iff_eq, dig_iff]
        constructor
        · rintro ⟨hg, _⟩
          exact ⟨hg.all, good_dec w.length w (Nat.le_refl _) hg⟩
        · rintro ⟨ha, he⟩
          have := (dec_good (val w)).1
          rw [he] at this
          exact ⟨this, h7⟩
      refine ⟨v, ?_, fun h => h2 (by rw [hdig, Bool.and_eq_true] at h; exact h.1)⟩
      have e1 : ((w.length : Int) == 0) = false := by simp; omega
      have e2 : ¬ ((w.length : Int) > 7) := by omega
      have z : (D.int (0 : Int)) = .int ((0 : Nat) : Int) := rfl
      have h1' : W_ref15_Num_1 (.str (toB w)) [.int ((0 : Nat) : Int), .int ((0 : Nat) : Int)] = _ := h1
      rw [← hdig] at h1'
      simp only [D.toStr_str, toB_size, e1, e2, decide_false, Bool.false_eq_true, if_false, z, h1']
    · refine ⟨0, ?_, fun h => by simp [dig, h7] at h⟩
      have e1 : ((w.length : Int) == 0) = false := by simp; omega
      have e2 : ((w.length : Int) > 7) := by omega
      have hd : dig w = false := by simp [dig, h7]
      simp only [D.toStr_str, toB_size, e1, e2, decide_true, Bool.false_eq_true, if_false, if_true, hd]
/-- Words with their places. -/
def pl : Nat → List Bs → List D
  | _, [] => []
  | p, w :: ws => .agg [.str (toB w), .int p] :: pl (p + w.length + 1) ws
theorem pl_length : ∀ (l : List Bs) (p : Nat), (pl p l).length = l.length
  | [], p => rfl
  | w :: l, p => by simp [pl, pl_length l]
theorem pl_get : ∀ (l : List Bs) (p i : Nat) (h : i < l.length), (pl p l).getD i .nil = .agg [.str (toB l[i]), .int (p + span (l.take i) : Nat)]
  | w :: l, p, 0, h => by simp [pl, span]
  | w :: l, p, i + 1, h => by
    have := pl_get l (p + w.length + 1) i (by simpa using h)
    simp only [pl, List.getD_cons_succ, List.getElem_cons_succ, List.take_succ_cons]
    rw [this]
    simp only [span, List.map_cons, List.sum_cons]
    congr 4
    omega
theorem refsplit_loop (s : Bs) (hs : s.length ≤ 1000000) : ∀ (d i f : Nat) (out : List D), i + d = s.length → f ≤ i → out.length + span [((s.take i).drop f)] ≤ i + 1 → (∀ c ∈ (s.take i).drop f, c ≠ 32) →
    W_ref15_Split_1 (.str (toB s)) [.int f, .int i, .agg out] = some [.agg (out ++ pl f (sp ((s.take i).drop f ++ s.drop i)))]
  | 0, i, f, out, h, hf, hlen, hcur => by
    have hi : i = s.length := by omega
    subst hi
    have hspan : out.length ≤ 1000001 := by omega
    rw [List.take_length, List.drop_length, List.append_nil] at *
    rw [sp_noblank hcur]
    have e0 : ((s.length : Int) ≤ (s.length : Int)) := by omega
    have e1 : ((s.length : Int) == (s.length : Int)) = true := by simp
    have e2 : ((0 : Int) ≤ (f : Int)) := by omega
    have e3 : ((f : Int) ≤ (s.length : Int)) := by omega
    have e4 : IntKind.i64.wrap ((s.length : Int) + 1) = ((s.length + 1 : Nat) : Int) := by rw [wrap_small _ (by omega) (by omega)]; omega
    have e5 : (((out ++ [D.agg [D.str (toB ((s.drop f).take (s.length - f))), D.int (f : Nat)]]).length : Int) ≤ 5864062014805) := by simp; omega
    have e6 : ¬ (((s.length + 1 : Nat) : Int) ≤ (s.length : Int)) := by omega
    rw [W_ref15_Split_1_eq]
    simp only [D.toInt_int, D.toStr_str, toB_size, e0, e1, e2, e3, e4, e5, decide_true, if_true, D.toL_agg, extract_toB, Int.toNat_natCast]
    rw [W_ref15_Split_1_eq]
    simp only [D.toInt_int, D.toStr_str, toB_size, e6, decide_false, Bool.false_eq_true, if_false]
    rw [List.take_of_length_le (by simp)]
    rfl
  | d + 1, i, f, out, h, hf, hlen, hcur => by
    have hi : i < s.length := by omega
    have e0 : ((i : Int) ≤ (s.length : Int)) := by omega
    have e1 : ((i : Int) == (s.length : Int)) = false := by simp; omega
    have e2 : ((0 : Int) ≤ (f : Int)) := by omega
    have e3 : ((f : Int) ≤ (i : Int)) := by omega
    have e4 : IntKind.i64.wrap ((i : Int) + 1) = ((i + 1 : Nat) : Int) := by rw [wrap_small _ (by omega) (by omega)]; omega
    have e7 : ((i : Int) ≥ 0) := by omega
    have e8 : ((i : Int) < (s.length : Int)) := by omega
    have hg : s.getD i 0 = s[i] := by rw [List.getD_eq_getElem?_getD, List.getElem?_eq_getElem hi, Option.getD_some]
    have hcl : ((s.take i).drop f).length = i - f := by simp; omega
    have hout : out.length ≤ i := by
      simp only [span, List.map_cons, List.map_nil, List.sum_cons, List.sum_nil, hcl] at hlen
      omega
    have htk : s.take (i + 1) = s.take i ++ [s[i]] := take_snoc hi
    rw [W_ref15_Split_1_eq]
    rw [List.drop_eq_getElem_cons hi]
    have hu : (((s[i].toNat : Nat) : Int) == 32) = (s[i] == 32) := by
      by_cases hc : s[i] = 32
      · rw [hc]; rfl
      · have : s[i].toNat ≠ 32 := fun e => hc (by rw [← UInt8.toNat_inj]; exact e)
        have h1 : (s[i] == 32) = false := by simpa using hc
        rw [h1]; simp; omega
    by_cases hc : s[i] = 32
    · have hwd : (s.drop f).take (i - f) = (s.take i).drop f := by rw [List.drop_take]
      have e5 : (((out ++ [D.agg [D.str (toB ((s.drop f).take (i - f))), D.int (f : Nat)]]).length : Int) ≤ 5864062014805) := by simp; omega
      have ih := refsplit_loop s hs d (i + 1) (i + 1) (out ++ [D.agg [D.str (toB ((s.drop f).take (i - f))), D.int (f : Nat)]]) (by omega) (Nat.le_refl _) (by
        have : (s.take (i + 1)).drop (i + 1) = [] := List.drop_eq_nil_of_le (by simp; omega)
        rw [this]
        simp only [span, List.map_cons, List.map_nil, List.sum_cons, List.sum_nil, List.length_append, List.length_cons, List.length_nil]
        omega) (by
        have : (s.take (i + 1)).drop (i + 1) = [] := List.drop_eq_nil_of_le (by simp; omega)
        rw [this]; intro c hc; cases hc)
      have hnil : (s.take (i + 1)).drop (i + 1) = [] := List.drop_eq_nil_of_le (by simp; omega)
      rw [hnil, List.nil_append] at ih
      simp only [D.toInt_int, D.toStr_str, toB_size, e0, e1, e2, e3, e4, e5, e7, e8, decide_true, if_true, Bool.false_eq_true, if_false, D.toL_agg, extract_toB, Int.toNat_natCast, toB_get, hg, hc, show (((32 : UInt8).toNat : Int) == 32) = true from rfl, ih]
      rw [hwd, sp_blank, sp_noblank hcur]
      simp only [List.append_assoc, List.singleton_append, pl, hcl]
      have : f + (i - f) + 1 = i + 1 := by omega
      rw [this]
    · have hb : (s[i] == 32) = false := by simpa using hc
      have hcur' : (s.take (i + 1)).drop f = (s.take i).drop f ++ [s[i]] := by
        rw [htk, List.drop_append_of_le_length (by simp; omega)]
      have ih := refsplit_loop s hs d (i + 1) f out (by omega) (by omega) (by
        rw [hcur']
        simp only [span, List.map_cons, List.map_nil, List.sum_cons, List.sum_nil, hcl, List.length_append, List.length_cons, List.length_nil] at hlen ⊢
        omega) (by
        rw [hcur']
        intro c hm
        rcases List.mem_append.1 hm with hm | hm
        · exact hcur c hm
        · rw [List.mem_singleton.1 hm]; exact hc)
      rw [hcur', List.append_assoc] at ih
      simp only [D.toInt_int, D.toStr_str, toB_size, e0, e1, e4, e7, e8, decide_true, if_true, Bool.false_eq_true, if_false, Int.toNat_natCast, toB_get, hg, hu, hb, ih]
      rfl
theorem refsplit_eq (s : Bs) (hs : s.length ≤ 1000000) : FX 21 [.str (toB s)] = some [.agg (pl 0 (sp s))] := by
  rw [E_ref15_Split]
  have := refsplit_loop s hs s.length 0 0 [] (by omega) (Nat.le_refl _) (by simp [span]) (by simp)
  simpa using this
end Go.Proofs.YtnaemggpelolcaaGreatDoor.RefD
