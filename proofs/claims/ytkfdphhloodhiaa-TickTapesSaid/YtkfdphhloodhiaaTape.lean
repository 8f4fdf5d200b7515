/-
  The walks of the tape: Put, Take, Left, Taken.
-/
import Derived.Test.YtkfdphhloodhiaaGoes
namespace Go.Proofs.Ytkfdphhloodhiaa
open Go.RowKit
set_option linter.unusedSimpArgs false
set_option linter.unusedVariables false

/-- A tape at block g: its numbers lie in a row of the call's own (from block B on), so many are taken. -/
def TapeIs (w : World) (B g : Nat) (sv : Value) (xs : List Int) (k : Nat) : Prop :=
  B ≤ g ∧ Blk w g 36 #[sv, .int .i64 k] ∧ w.ownsRow B 3 1 sv xs.length (xs.map (Value.int .i64)) ∧ k ≤ xs.length

theorem tape_ne {w : World} {B g : Nat} {sv : Value} {xs : List Int} {k : Nat} (h : TapeIs w B g sv xs k) : sv.ownBlock ≠ some g := own_blk_ne h.2.2.1 h.2.1 (by decide)

theorem grown_set (w : World) (p : Addr) (v : Value) : w.grownBy (w.setCell p v) (some p.block) :=
  ⟨rfl, rfl, rfl, by simp [World.setCell], fun i _ hn => Below.heap_setCell _ _ _ _ (fun e => hn (by rw [e]))⟩
/-- What Put leaves. -/
def PutDone (w : World) (B g : Nat) (sv : Value) (xs : List Int) (k : Nat) (e : Ending) (w' : World) : Prop :=
  ∃ sv', e = .returned (.tuple #[]) ∧ TapeIs w' B g sv' xs k ∧ Chg (g :: sv.ownBlock.toList) w w' ∧ (sv'.ownBlock = sv.ownBlock ∨ ∃ n, sv'.ownBlock = some n ∧ w.heap.size ≤ n)

set_option maxHeartbeats 1000000 in
theorem put_any (B g : Nat) (sv : Value) (xs ys : List Int) (k : Nat) (A : Option Addr) (m c : Nat) (hm : ys.length = m) (hb : xs.length + m ≤ 100000) (w : World) (ht : TapeIs w B g sv xs k) (hr : Row w A (ys.map (Value.int .i64))) :
    Calls Try.prog 12 #[.pointer (some ⟨g, 0, none⟩), .slice A m c] w (PutDone w B g sv (xs ++ ys) k) := by
  have hne := tape_ne ht
  obtain ⟨hB, hg, hown, hk⟩ := ht
  have Hm := Lib.hid hm
  have Hne := Lib.hid hne
  have hBs : B ≤ w.heap.size := by have := blk_lt hg; omega
  clear hm hne
  obtain ⟨q1, q2, q3⟩ := blk_facts hg
  obtain ⟨i0, hi0, hk0, hk1, hk2⟩ := info_parts int_info
  go_enter Try.func12, Try.ntmps12
  go_wp2_with (at_builtin
               refine wpList_append_row _ rfl (.tmp 10) (.tmp 11) _ rfl B 3 i0 _ 1 8 Try.underlying22 hi0 hk0 hk1 hk2 rfl (by omega) sv xs.length (xs.map (Value.int .i64)) rfl hown A m c (ys.map (Value.int .i64)) rfl (by rw [List.length_map, Hm.out]; simp) hr (one_ints ys) (by simp only [maxLen]; omega) (by omega) hBs ?_
               intro v1 w3 hown1 hg3 hnil1 hat1
               have hg' := blk_grown hg hg3 (fun e => Hne.out e.symm)
               obtain ⟨p1, p2, p3⟩ := blk_facts hg'
               have hne1 : v1.ownBlock ≠ some g := own_blk_ne hown1 hg' (by decide)
               obtain ⟨A1, c1, hv1⟩ := own_form hown1
               subst hv1
               clear q1 q2 q3 hnil1)
  go_end0
  refine ⟨.slice A1 (xs.length + m) c1, rfl, ⟨hB, by simpa using blk_set hg' 0 (.slice A1 (xs.length + m) c1), ?_, by simp; omega⟩, ?_, ?_⟩
  · have h1 : (w3.setCell ⟨g, 0, none⟩ (.slice A1 (xs.length + m) c1)).ownsRow B 3 1 (.slice A1 (xs.length + m) c1) (xs.length + m) (xs.map (Value.int .i64) ++ ys.map (Value.int .i64)) := by
      refine hown1.kept (row := some g) (grown_set w3 ⟨g, 0, none⟩ _) (.inr hne1)
    rw [List.map_append, List.length_append, Hm.out]
    exact h1
  · exact chg_set (chg_more (chg_of_grown hg3) (fun x hx => .inl (List.mem_cons_of_mem _ hx))) _ (.inl (by simp)) _
  · rcases hat1 with h | h
    · exact .inl h
    · exact .inr ⟨_, h, Nat.le_refl _⟩

theorem put_nil (A : Option Addr) (m c : Nat) (w : World) :
    Calls Try.prog 12 #[.pointer none, .slice A m c] w fun e w' => e = .returned (.tuple #[]) ∧ w = w' := by
  go_enter Try.func12, Try.ntmps12
  go_wp2
  go_end0
  exact ⟨rfl, rfl⟩

/-- What Take leaves. -/
def TakeDone (w : World) (B g : Nat) (sv : Value) (xs : List Int) (k : Nat) (v : Int) (ok : Bool) (e : Ending) (w' : World) : Prop :=
  e = .returned (.tuple #[.int .i64 v, .bool ok]) ∧ TapeIs w' B g sv xs k ∧ Chg [g] w w'

theorem take_nil (w : World) : Calls Try.prog 13 #[.pointer none] w fun e w' => e = .returned (.tuple #[.int .i64 0, .bool false]) ∧ ∃ n, w' = w.drewN n := by
  go_enter Try.func13, Try.ntmps13
  go_wp2
  go_quiet (fail)
  go_wp2
  go_ret2
  exact ⟨rfl, _, rfl⟩

set_option maxHeartbeats 1000000 in
theorem take_end (B g : Nat) (sv : Value) (xs : List Int) (k : Nat) (hk : k = xs.length) (hl : xs.length ≤ 100000) (w : World) (ht : TapeIs w B g sv xs k) :
    Calls Try.prog 13 #[.pointer (some ⟨g, 0, none⟩)] w (TakeDone w B g sv xs k 0 false) := by
  have Ht := Lib.hid ht
  obtain ⟨hB, hg, hown, hk'⟩ := ht
  obtain ⟨A, c, hv⟩ := own_form hown
  subst hv
  obtain ⟨q1, q2, q3⟩ := blk_facts hg
  have e1 : ((k : Int) == (xs.length : Int)) = true := by rw [hk]; simp
  clear hk hown
  go_enter Try.func13, Try.ntmps13
  go_wp2
  go_quiet (fail)
  go_wp2
  go_ret2
  exact ⟨rfl, Ht.out, chg_drewN (chg_refl _ _) _⟩

set_option maxHeartbeats 1000000 in
theorem take_one (B g : Nat) (sv : Value) (xs : List Int) (k : Nat) (hk : k < xs.length) (hl : xs.length ≤ 100000) (w : World) (ht : TapeIs w B g sv xs k) :
    Calls Try.prog 13 #[.pointer (some ⟨g, 0, none⟩)] w (TakeDone w B g sv xs (k + 1) xs[k] true) := by
  have hne := tape_ne ht
  obtain ⟨hB, hg, hown, hk'⟩ := ht
  obtain ⟨b, c, hv, hx⟩ : ∃ b c, sv = .slice (some ⟨b, 0, none⟩) xs.length c ∧ ∀ j u, (xs.map (Value.int .i64))[j]? = some u → w.cell? ⟨b, j, none⟩ = some u := by
    obtain ⟨b, c, hv, _, hlt⟩ := hown.form (by omega)
    refine ⟨b, c, hv, fun j u hu => ?_⟩
    have := hown.cells (g := b) (by rw [hv]; rfl) j u hu
    rw [addr_add, Nat.zero_add] at this
    exact this
  subst hv
  obtain ⟨z, hz⟩ : ∃ z, z = xs[k] := ⟨_, rfl⟩
  have hcell : w.cell? ⟨b, k, none⟩ = some (.int .i64 z) := hx k _ (by rw [List.getElem?_map, List.getElem?_eq_getElem hk, hz]; rfl)
  rw [← hz]
  have hbg : b ≠ g := by intro e; exact hne (by rw [e]; rfl)
  have Hown := Lib.hid hown
  have Hz := Lib.hid hz
  obtain ⟨q1, q2, q3⟩ := blk_facts hg
  have e1 : ((k : Int) == (xs.length : Int)) = false := by simp; omega
  clear hown hx hz hne
  go_enter Try.func13, Try.ntmps13
  go_wp2
  go_quiet (fail)
  go_wp2
  go_quiet (fail)
  go_wp2
  go_ret2
  refine ⟨rfl, ⟨hB, ?_, ?_, by omega⟩, ?_⟩
  · have h2 : Blk (w.setCell ⟨g, 1, none⟩ (.int .i64 ((k : Int) + 1))) g 36 #[.slice (some ⟨b, 0, none⟩) xs.length c, .int .i64 ((k + 1 : Nat) : Int)] := by
      have := blk_set hg 1 (.int .i64 ((k : Int) + 1))
      simpa using this
    exact h2
  · have h1 := Hown.out.kept (w' := w.setCell ⟨g, 1, none⟩ (.int .i64 ((k : Int) + 1))) (row := some g) (grown_set w ⟨g, 1, none⟩ _) (.inr (by simpa [Value.ownBlock] using hbg))
    exact h1
  · have h3 : Chg [g] w (w.setCell ⟨g, 1, none⟩ (.int .i64 ((k : Int) + 1))) := chg_set (chg_refl _ _) _ (.inl (by simp)) _
    exact ⟨h3.os, h3.tape, h3.output, h3.size, h3.block⟩

theorem tape_chg {w w' : World} {S : List Nat} {B g : Nat} {sv : Value} {xs : List Int} {k : Nat} (h : TapeIs w B g sv xs k) (hc : Chg S w w') (h1 : g ∉ S) (h2 : ∀ x, sv.ownBlock = some x → x ∉ S) : TapeIs w' B g sv xs k := by
  refine ⟨h.1, blk_chg h.2.1 hc h1, ?_, h.2.2.2⟩
  obtain ⟨a, b⟩ := h.2.2.1
  refine ⟨a, ?_⟩
  rcases b with b | ⟨g', cap, cur, rfl, hb, hgg, rest⟩
  · exact .inl b
  · exact .inr ⟨g', cap, cur, rfl, hb, (hc.block g' (Array.getElem?_eq_some_iff.1 hgg).1 (h2 g' rfl)).trans hgg, rest⟩
theorem tape_kept {w w' : World} {B g : Nat} {sv : Value} {xs : List Int} {k : Nat} (h : TapeIs w B g sv xs k) (hb : Below w.heap.size w w') : TapeIs w' B g sv xs k :=
  tape_chg (S := []) h (chg_of_below hb) (by simp) (by simp)

set_option maxHeartbeats 400000 in
theorem left_any (B g : Nat) (sv : Value) (xs : List Int) (k : Nat) (hl : xs.length ≤ 100000) (w : World) (ht : TapeIs w B g sv xs k) :
    Calls Try.prog 14 #[.pointer (some ⟨g, 0, none⟩)] w fun e w' => e = .returned (.int .i64 ((xs.length : Int) - k)) ∧ ∃ n, w' = w.drewN n := by
  obtain ⟨hB, hg, hown, hk'⟩ := ht
  obtain ⟨A, c, hv⟩ := own_form hown
  subst hv
  obtain ⟨q1, q2, q3⟩ := blk_facts hg
  clear hown
  go_enter Try.func14, Try.ntmps14
  go_wp2
  go_quiet (fail)
  go_wp2
  go_ret
  exact ⟨rfl, _, rfl⟩
theorem taken_any (B g : Nat) (sv : Value) (xs : List Int) (k : Nat) (w : World) (ht : TapeIs w B g sv xs k) :
    Calls Try.prog 15 #[.pointer (some ⟨g, 0, none⟩)] w fun e w' => e = .returned (.int .i64 (k : Int)) ∧ w = w' := by
  obtain ⟨hB, hg, hown, hk'⟩ := ht
  obtain ⟨q1, q2, q3⟩ := blk_facts hg
  clear hown
  go_enter Try.func15, Try.ntmps15
  go_wp2
  go_ret
  exact ⟨rfl, rfl⟩
theorem left_nil (w : World) : Calls Try.prog 14 #[.pointer none] w fun e w' => e = .returned (.int .i64 0) ∧ w = w' := by
  go_enter Try.func14, Try.ntmps14
  go_wp2
  go_ret
  exact ⟨rfl, rfl⟩
theorem taken_nil (w : World) : Calls Try.prog 15 #[.pointer none] w fun e w' => e = .returned (.int .i64 0) ∧ w = w' := by
  go_enter Try.func15, Try.ntmps15
  go_wp2
  go_ret
  exact ⟨rfl, rfl⟩
end Go.Proofs.Ytkfdphhloodhiaa
