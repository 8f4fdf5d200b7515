/-
  errors.Is where the target is a code: over a bare code, and over a fault at a place around a code; fault.At; the number of an error (Num).
-/
import Derived.Test.YtjhgpkojdiedgaaProg
import Derived.Test.YtjhgpkojdiedgaaMem
import Derived.WalkSpells
import Derived.WalkLawsBesides
import Derived.KernelRfl
import Derived.LaidEql
import Derived.Stop.Asserts
import Derived.RowKitTokens
import Derived.LoopTactic
namespace Go.Proofs.Ytjhgpkojdiedgaa
open Go.RowKit Go.Extern.Stop Go.Stop Go.Extern
set_option linter.unusedSimpArgs false
set_option linter.unusedVariables false

section
variable {P : Program} (w : World)
theorem run_equalIn_codes (d : Nat) {ti tn : TypeId} {ms : Array (String × TypeId)} {i : TypeInfo} {k : IntKind} (a b : Int)
    (hi : P.underlying ti = some (.interface ms)) (hn : P.underlying tn = some (.int k)) (hinfo : P.info? tn = some i) (hcomp : i.comparable = true) :
    (Op.equalIn (d + 2) ti (.iface tn (.int k a)) (.iface tn (.int k b))).run P w = .ok (a == b) w := by
  simp [Op.equalIn, run_underlying hi, run_underlying hn, typeInfo, hinfo, hcomp]
theorem run_eql_codes {ti tn : TypeId} {ms : Array (String × TypeId)} {i : TypeInfo} {k : IntKind} (a b : Int)
    (hi : P.underlying ti = some (.interface ms)) (hn : P.underlying tn = some (.int k)) (hinfo : P.info? tn = some i) (hcomp : i.comparable = true) :
    (binOp .eql ti (.iface tn (.int k a)) (.iface tn (.int k b))).run P w = .ok (.bool (a == b)) w := by
  simp only [binOp]
  simp [Op.equal, Op.maxDepth, run_equalIn_codes w 9998 a b hi hn hinfo hcomp]
end

theorem isTypeOf (v : Value) (w : World) : (Extern.ReflectliteType.typeOf #[.iface 49 v]).run Try.prog w = .ok (.iface 65 (.agg #[.pointer (some ⟨0, 49, none⟩)])) w := by kernel_rfl
def compExt : Array Value → Sem Value := Extern.ReflectliteType.method fun t => do Go.Extern.Rtype.noPackHeld "Comparable" t; pure (.bool (← typeInfo t).comparable)
theorem isComparable (w : World) : (compExt #[.agg #[.pointer (some ⟨0, 49, none⟩)]]).run Try.prog w = .ok (.bool true) w := by kernel_rfl
theorem isMethodComparable (v : Value) (w : World) : (Go.method 208 65 v "Comparable").run Try.prog w = .ok (46, v) w := by kernel_rfl
theorem isComp : (Try.prog.info? 49).map (·.comparable) = some true := by kernel_rfl
theorem noIsC (v : Value) (xT : TypeId) (w : World) : (Instr.typeAssert (.iface 49 v) xT 67 true).run Try.prog w = .ok (.tuple #[.nilIface, .bool false]) w := run_typeAssert_lacksB Try.underlying67 (by kernel_rfl) (by kernel_rfl) v xT w
theorem noUnwrapC (v : Value) (xT : TypeId) (w : World) : (Instr.typeAssert (.iface 49 v) xT 70 true).run Try.prog w = .ok (.tuple #[.nilIface, .bool false]) w := run_typeAssert_lacksB Try.underlying70 (by kernel_rfl) (by kernel_rfl) v xT w
theorem noUnwrapsC (v : Value) (xT : TypeId) (w : World) : (Instr.typeAssert (.iface 49 v) xT 72 true).run Try.prog w = .ok (.tuple #[.nilIface, .bool false]) w := run_typeAssert_lacksB Try.underlying72 (by kernel_rfl) (by kernel_rfl) v xT w
theorem noIsF (v : Value) (xT : TypeId) (w : World) : (Instr.typeAssert (.iface 61 v) xT 67 true).run Try.prog w = .ok (.tuple #[.nilIface, .bool false]) w := run_typeAssert_lacksB Try.underlying67 (by kernel_rfl) (by kernel_rfl) v xT w
theorem hasUnwrapF (v : Value) (xT : TypeId) (w : World) : (Instr.typeAssert (.iface 61 v) xT 70 true).run Try.prog w = .ok (.tuple #[.iface 61 v, .bool true]) w := run_typeAssert_hasB Try.underlying70 (by kernel_rfl) v xT w
theorem methodUnwrapF (v : Value) (w : World) : (Go.method 208 61 v "Unwrap").run Try.prog w = .ok (42, v) w := by kernel_rfl

/-- errors.Is of a code and a code. -/
theorem is_code (c d : Int) (w : World) :
    Calls Try.prog 21 #[.iface 49 (.int .i64 c), .iface 49 (.int .i64 d)] w fun e w' => e = .returned (.bool (c == d)) ∧ w = w' := by
  obtain ⟨i, hi, hcmp⟩ := Option.map_eq_some_iff.1 isComp
  have h8 := @run_callFunc_extern Try.prog 23 _ Extern.ReflectliteType.typeOf Try.func23 (by kernel_rfl) (by kernel_rfl) (by kernel_rfl) (by kernel_rfl)
  have h32 := @run_callFunc_extern Try.prog 46 _ compExt Try.func46 (by kernel_rfl) (by kernel_rfl) (by kernel_rfl) (by kernel_rfl)
  have tT := isTypeOf
  have cT := isComparable
  have mR := isMethodComparable
  have nE := noIsC
  have uE := noUnwrapC
  have vE := noUnwrapsC
  have heq := run_eql_codes (P := Try.prog) w c d Try.underlying25 Try.underlying49 hi hcmp
  by_cases hcd : c = d
  · have hb : (c == d) = true := by simpa using hcd
    rw [hb] at heq ⊢
    clear hcd hb
    go_enter Try.func21, Try.ntmps21
    go_wp2
    refine wp_loop_rounds 1 ?_
    rw [rounds_succ]
    go_wp2
    go_ret
    exact ⟨rfl, rfl⟩
  · have hb : (c == d) = false := by simpa using hcd
    rw [hb] at heq ⊢
    clear hcd hb
    go_enter Try.func21, Try.ntmps21
    go_wp2
    refine wp_loop_rounds 1 ?_
    rw [rounds_succ]
    go_wp2
    go_ret
    exact ⟨rfl, rfl⟩

/-- errors.Is of a fault around a code, and a code. -/
theorem is_fault (g : Nat) (at_ c d : Int) (w : World) (hg : Blk w g 63 #[.int .i64 at_, .iface 49 (.int .i64 c)]) :
    Calls Try.prog 21 #[.iface 61 (.pointer (some ⟨g, 0, none⟩)), .iface 49 (.int .i64 d)] w fun e w' => e = .returned (.bool (c == d)) ∧ w = w' := by
  obtain ⟨i, hi, hcmp⟩ := Option.map_eq_some_iff.1 isComp
  have h8 := @run_callFunc_extern Try.prog 23 _ Extern.ReflectliteType.typeOf Try.func23 (by kernel_rfl) (by kernel_rfl) (by kernel_rfl) (by kernel_rfl)
  have h32 := @run_callFunc_extern Try.prog 46 _ compExt Try.func46 (by kernel_rfl) (by kernel_rfl) (by kernel_rfl) (by kernel_rfl)
  have tT := isTypeOf
  have cT := isComparable
  have mR := isMethodComparable
  have nE := noIsC
  have uE := noUnwrapC
  have vE := noUnwrapsC
  have nF := noIsF
  have uF := hasUnwrapF
  have mF := methodUnwrapF
  obtain ⟨q1, q2, q3⟩ := blk_facts hg
  have heq := run_eql_codes (P := Try.prog) w c d Try.underlying25 Try.underlying49 hi hcmp
  have hty := run_eql_iface_types (P := Try.prog) 61 49 (.pointer (some ⟨g, 0, none⟩)) (.int .i64 d) Try.underlying25 (by decide) w
  by_cases hcd : c = d
  · have hb : (c == d) = true := by simpa using hcd
    rw [hb] at heq ⊢
    clear hcd hb
    go_enter Try.func21, Try.ntmps21
    go_wp2
    refine wp_loop_rounds 2 ?_
    rw [rounds_succ]
    go_wp2
    rw [rounds_succ]
    go_wp2
    go_ret
    exact ⟨rfl, rfl⟩
  · have hb : (c == d) = false := by simpa using hcd
    rw [hb] at heq ⊢
    clear hcd hb
    go_enter Try.func21, Try.ntmps21
    go_wp2
    refine wp_loop_rounds 2 ?_
    rw [rounds_succ]
    go_wp2
    rw [rounds_succ]
    go_wp2
    go_ret
    exact ⟨rfl, rfl⟩

/-- The same, where only the cells are known. -/
theorem is_faultC (g o : Nat) (c d : Int) (w : World) (q1 : w.cell? ⟨g, o + 1, none⟩ = some (.iface 49 (.int .i64 c))) :
    Calls Try.prog 21 #[.iface 61 (.pointer (some ⟨g, o, none⟩)), .iface 49 (.int .i64 d)] w fun e w' => e = .returned (.bool (c == d)) ∧ w = w' := by
  obtain ⟨i, hi, hcmp⟩ := Option.map_eq_some_iff.1 isComp
  have h8 := @run_callFunc_extern Try.prog 23 _ Extern.ReflectliteType.typeOf Try.func23 (by kernel_rfl) (by kernel_rfl) (by kernel_rfl) (by kernel_rfl)
  have h32 := @run_callFunc_extern Try.prog 46 _ compExt Try.func46 (by kernel_rfl) (by kernel_rfl) (by kernel_rfl) (by kernel_rfl)
  have tT := isTypeOf
  have cT := isComparable
  have mR := isMethodComparable
  have nE := noIsC
  have uE := noUnwrapC
  have vE := noUnwrapsC
  have nF := noIsF
  have uF := hasUnwrapF
  have mF := methodUnwrapF
  have heq := run_eql_codes (P := Try.prog) w c d Try.underlying25 Try.underlying49 hi hcmp
  have hty := run_eql_iface_types (P := Try.prog) 61 49 (.pointer (some ⟨g, o, none⟩)) (.int .i64 d) Try.underlying25 (by decide) w
  by_cases hcd : c = d
  · have hb : (c == d) = true := by simpa using hcd
    rw [hb] at heq ⊢
    clear hcd hb
    go_enter Try.func21, Try.ntmps21
    go_wp2
    refine wp_loop_rounds 2 ?_
    rw [rounds_succ]
    go_wp2
    rw [rounds_succ]
    go_wp2
    go_ret
    exact ⟨rfl, rfl⟩
  · have hb : (c == d) = false := by simpa using hcd
    rw [hb] at heq ⊢
    clear hcd hb
    go_enter Try.func21, Try.ntmps21
    go_wp2
    refine wp_loop_rounds 2 ?_
    rw [rounds_succ]
    go_wp2
    rw [rounds_succ]
    go_wp2
    go_ret
    exact ⟨rfl, rfl⟩

/-- An error as the checks hand it back: none, a code, or a code at a place. -/
def ErrIs (w : World) (v : Value) (c : Int) (place : Option Int) : Prop :=
  (c = 0 ∧ place = none ∧ v = .nilIface) ∨ (1 ≤ c ∧ c ≤ 29 ∧ place = none ∧ v = .iface 49 (.int .i64 c)) ∨
  (1 ≤ c ∧ c ≤ 29 ∧ ∃ p g, place = some p ∧ v = .iface 61 (.pointer (some ⟨g, 0, none⟩)) ∧ Blk w g 63 #[.int .i64 p, .iface 49 (.int .i64 c)])
theorem err_kept {w w1 : World} {v : Value} {c : Int} {p : Option Int} (h : ErrIs w v c p) (hb : Below w.heap.size w w1) : ErrIs w1 v c p := by
  rcases h with h | h | ⟨h1, h2, q, g, h3, h4, h5⟩
  · exact .inl h
  · exact .inr (.inl h)
  · exact .inr (.inr ⟨h1, h2, q, g, h3, h4, blk_kept h5 hb⟩)

theorem is_any (v : Value) (c d : Int) (p : Option Int) (w : World) (h : ErrIs w v c p) (hc : 1 ≤ c) :
    Calls Try.prog 21 #[v, .iface 49 (.int .i64 d)] w fun e w' => e = .returned (.bool (c == d)) ∧ w = w' := by
  rcases h with ⟨h1, _, h2⟩ | ⟨h1, h2, h3, h4⟩ | ⟨h1, h2, q, g, h3, h4, h5⟩
  · omega
  · subst h4
    exact is_code c d w
  · subst h4
    exact is_fault g q c d w h5

/-- law01.Num: an error's code, asked code by code. -/
theorem num_nil (w : World) : Calls Try.prog 16 #[.nilIface] w fun e w' => e = .returned (.int .i64 0) ∧ w = w' := by
  go_enter Try.func16, Try.ntmps16
  go_wp2
  go_ret
  exact ⟨rfl, rfl⟩

theorem err_iface {w : World} {v : Value} {c : Int} {p : Option Int} (h : ErrIs w v c p) (hc : 1 ≤ c) : ∃ t u, v = .iface t u := by
  rcases h with ⟨h1, _, h2⟩ | ⟨h1, h2, h3, h4⟩ | ⟨h1, h2, q, g, h3, h4, h5⟩
  · omega
  · exact ⟨_, _, h4⟩
  · exact ⟨_, _, h4⟩

set_option maxHeartbeats 400000 in
theorem num_some (t : TypeId) (u : Value) (c : Int) (p : Option Int) (w : World) (h : ErrIs w (.iface t u) c p) (hc : 1 ≤ c) (hc9 : c ≤ 29) :
    Calls Try.prog 16 #[.iface t u] w fun e w' => e = .returned (.int .i64 c) ∧ w = w' := by
  have H := Lib.hid (is_any _ c · p w h hc)
  clear h
  go_enter Try.func16, Try.ntmps16
  go_wp2_with fail
  go_loop [3] (fun i => ∃ k : Int, 1 ≤ k ∧ k ≤ c ∧ i = .int .i64 k) (fun i => (30 - intOf i).toNat)
  case atStart => exact ⟨1, by omega, by omega, rfl⟩
  case round =>
    obtain ⟨k, hk1, hk2, rfl⟩ := hrel
    by_cases hk : k = c
    · subst hk
      have hb : (k == k) = true := by simp
      go_wp2_with (go_at_call 21; refine (H.out k).mono ?_; rintro e w1 ⟨rfl, rfl⟩; rw [hb])
      go_ret
      exact ⟨rfl, rfl⟩
    · have hb : (c == k) = false := by simp; omega
      have hlt : k < c := by omega
      clear hk
      go_wp2_with (go_at_call 21; refine (H.out k).mono ?_; rintro e w1 ⟨rfl, rfl⟩; rw [hb])
      go_round
      case rel => exact ⟨k + 1, by omega, by omega, rfl⟩
      case measure => simp [intOf]; omega

theorem num_any (v : Value) (c : Int) (p : Option Int) (w : World) (h : ErrIs w v c p) :
    Calls Try.prog 16 #[v] w fun e w' => e = .returned (.int .i64 c) ∧ w = w' := by
  by_cases hc : 1 ≤ c
  · obtain ⟨t, u, rfl⟩ := err_iface h hc
    have h9 : c ≤ 29 := by rcases h with ⟨h1, _, h2⟩ | ⟨h1, h2, h3, h4⟩ | ⟨h1, h2, q, g, h3, h4, h5⟩ <;> omega
    exact num_some t u c p w h hc h9
  · rcases h with ⟨h1, _, h2⟩ | ⟨h1, h2, h3, h4⟩ | ⟨h1, h2, q, g, h3, h4, h5⟩
    · subst h1 h2
      exact num_nil w
    · omega
    · omega

/-- fault.At around a code: the fault's block is new. -/
theorem at_code (i c : Int) (w : World) :
    Calls Try.prog 22 #[.int .i64 i, .iface 49 (.int .i64 c)] w fun e w' => e = .returned (.iface 61 (.pointer (some ⟨w.heap.size, 0, none⟩))) ∧ w.alloc (.cells #[.int .i64 i, .iface 49 (.int .i64 c)] 63) = w' := by
  go_enter Try.func22, Try.ntmps22
  go_wp2
  go_ret
  exact ⟨rfl, rfl⟩
theorem at_err (i c : Int) (hc1 : 1 ≤ c) (hc2 : c ≤ 29) (w : World) :
    ErrIs (w.alloc (.cells #[.int .i64 i, .iface 49 (.int .i64 c)] 63)) (.iface 61 (.pointer (some ⟨w.heap.size, 0, none⟩))) c (some i) :=
  .inr (.inr ⟨hc1, hc2, i, _, rfl, rfl, blk_new w _ _⟩)
end Go.Proofs.Ytjhgpkojdiedgaa
