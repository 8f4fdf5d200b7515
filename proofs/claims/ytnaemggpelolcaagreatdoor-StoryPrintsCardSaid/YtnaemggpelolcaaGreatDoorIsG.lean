/-
  errors.Is of any error: codes with faults and notes around them, several at once; the target is a code.
-/
import Derived.Test.YtnaemggpelolcaaGreatDoorIsB
import Derived.Test.YtnaemggpelolcaaGreatDoorErrF
import Derived.Lib.Hide
namespace Go.Proofs.YtnaemggpelolcaaGreatDoor.IsD
open Go.RowKit Go.Extern.Stop Go.Stop Go.Extern Go.Proofs.YtnaemggpelolcaaGreatDoor.Eng Go.Proofs.YtnaemggpelolcaaGreatDoor Go.Proofs.YtnaemggpelolcaaGreatDoor.ErrD
set_option linter.unusedSimpArgs false
set_option linter.unusedVariables false

theorem rounds_ind {P : Program} {c : Code} {Q : Exit → Act → World → Prop} {w : World} {ι : Type} (A : ι → Act) (m : ι → Nat) (step : ∀ i n, (∀ j, m j < n → Code.rounds P c Q n (A j) w) → m i < n + 1 → Code.rounds P c Q (n + 1) (A i) w) :
    ∀ n i, m i < n → Code.rounds P c Q n (A i) w
  | 0, i, h => by omega
  | n + 1, i, h => step i n (fun j h2 => rounds_ind A m step n j h2) h

structure IsI (k : Int) (w : World) (F : Fr) (b : Bool) where
  v : Value
  x : D
  d : Nat
  h : isN d x k = some b
  r : Rd Tryz.prog w F .ifc x v
  u3 : Value
  u4 : Value
  u5 : Value
  u6 : Value
  u7 : Value
  u8 : Value
  u9 : Value
  u10 : Value
  u11 : Value
  u12 : Value
  u13 : Value
  u14 : Value
  u15 : Value
  u16 : Value
  u17 : Value
  u18 : Value
  u19 : Value
  u20 : Value
  u21 : Value
  u22 : Value
  u23 : Value
  u24 : Value
  u25 : Value
  u26 : Value
  u27 : Value
  u28 : Value
  u29 : Value
  u30 : Value
  u31 : Value
  u32 : Value
  u33 : Value
  u34 : Value
  u35 : Value
  u36 : Value
  u37 : Value
  u38 : Value
  u39 : Value
  u40 : Value
  u41 : Value
  u42 : Value
  u43 : Value
  u44 : Value
  u45 : Value
  u46 : Value
  u47 : Value
  u48 : Value
  u49 : Value
  u50 : Value
  u51 : Value
  u52 : Value
  u53 : Value
def IsI.act {k : Int} {w : World} {F : Fr} {b : Bool} (i : IsI k w F b) : Act := { tmps := #[i.v, .iface 50 (.int .i64 k), .bool true, i.u3, i.u4, i.u5, i.u6, i.u7, i.u8, i.u9, i.u10, i.u11, i.u12, i.u13, i.u14, i.u15, i.u16, i.u17, i.u18, i.u19, i.u20, i.u21, i.u22, i.u23, i.u24, i.u25, i.u26, i.u27, i.u28, i.u29, i.u30, i.u31, i.u32, i.u33, i.u34, i.u35, i.u36, i.u37, i.u38, i.u39, i.u40, i.u41, i.u42, i.u43, i.u44, i.u45, i.u46, i.u47, i.u48, i.u49, i.u50, i.u51, i.u52, i.u53], defers := [] }
theorem rd_codeV {w : World} {F : Fr} {c : Int} {v : Value} (h : Rd Tryz.prog w F .ifc (.iface 50 (.int c)) v) : v = .iface 50 (.int .i64 c) := by
  have ht : tyOf Tryz.prog 50 = some (.int .i64) := by kernel_rfl
  cases h with
  | inil e _ => cases e
  | iface e1 e2 e3 e4 h5 =>
    cases e1
    rw [ht] at e3
    cases e3
    rw [e2, h5.int_inv]
    rfl
theorem rd_faultV {w : World} {F : Fr} {a e : D} {v : Value} (h : Rd Tryz.prog w F .ifc (.iface 58 (.agg [a, e])) v) : ∃ b o ve, v = .iface 58 (.pointer (some ⟨b, o, none⟩)) ∧ w.cell? ⟨b, o + 1, none⟩ = some ve ∧ Rd Tryz.prog w F .ifc e ve := by
  have htF : tyOf Tryz.prog 58 = some (.ptr 62) := by kernel_rfl
  have hcF : cellTys Tryz.prog 62 = some [.int .i64, .ifc] := by kernel_rfl
  cases h with
  | inil e _ => cases e
  | iface g1 g2 g3 g4 g5 =>
    cases g1
    rw [htF] at g3; cases g3
    cases g5 with
    | pnil z1 _ => cases z1
    | href _ z1 _ _ => cases z1
    | @ptr _ _ _ b o l ts g _ z1 z2 z3 z4 z5 z6 z7 =>
      cases z1
      rw [hcF] at z3; cases z3
      exact ⟨b, o, _, by rw [g2, z2], z6 1 _ rfl, z7 1 _ .ifc rfl rfl⟩
theorem rd_noteV {w : World} {F : Fr} {a e : D} {v : Value} (h : Rd Tryz.prog w F .ifc (.iface 63 (.agg [a, e])) v) : ∃ b o ve, v = .iface 63 (.pointer (some ⟨b, o, none⟩)) ∧ w.cell? ⟨b, o + 1, none⟩ = some ve ∧ Rd Tryz.prog w F .ifc e ve := by
  have htF : tyOf Tryz.prog 63 = some (.ptr 66) := by kernel_rfl
  have hcF : cellTys Tryz.prog 66 = some [.str, .ifc] := by kernel_rfl
  cases h with
  | inil e _ => cases e
  | iface g1 g2 g3 g4 g5 =>
    cases g1
    rw [htF] at g3; cases g3
    cases g5 with
    | pnil z1 _ => cases z1
    | href _ z1 _ _ => cases z1
    | @ptr _ _ _ b o l ts g _ z1 z2 z3 z4 z5 z6 z7 =>
      cases z1
      rw [hcF] at z3; cases z3
      exact ⟨b, o, _, by rw [g2, z2], z6 1 _ rfl, z7 1 _ .ifc rfl rfl⟩
theorem noIsNt (v : Value) (xT : TypeId) (w : World) : (Instr.typeAssert (.iface 63 v) xT 114 true).run Tryz.prog w = .ok (.tuple #[.nilIface, .bool false]) w := run_typeAssert_lacksB Tryz.underlying114 (by kernel_rfl) (by kernel_rfl) v xT w
theorem hasUnwrapNt (v : Value) (xT : TypeId) (w : World) : (Instr.typeAssert (.iface 63 v) xT 109 true).run Tryz.prog w = .ok (.tuple #[.iface 63 v, .bool true]) w := run_typeAssert_hasB Tryz.underlying109 (by kernel_rfl) v xT w
theorem methodUnwrapNt (v : Value) (w : World) : (Go.method 293 63 v "Unwrap").run Tryz.prog w = .ok (115, v) w := by kernel_rfl
theorem ifc_cases {w : World} {F : Fr} {u : Nat} {y : D} {v : Value} (h : Rd Tryz.prog w F .ifc (.iface u y) v) : ∃ v', v = .iface u v' := by
  cases h with
  | inil e _ => cases e
  | iface g1 g2 g3 g4 g5 => cases g1; exact ⟨_, g2⟩
theorem nil_case {w : World} {F : Fr} {v : Value} (h : Rd Tryz.prog w F .ifc .nil v) : v = .nilIface := by
  cases h with
  | inil _ e => exact e
  | iface g1 _ _ _ _ => cases g1

set_option maxHeartbeats 1000000 in
theorem is_low (k : Int) (w : World) (F : Fr) (b : Bool) (n0 : Nat) (x0 : D) (v0 : Value) (h0 : isN n0 x0 k = some b) (hr0 : Rd Tryz.prog w F .ifc x0 v0) :
    Calls Tryz.prog 41 #[v0, .iface 50 (.int .i64 k), .bool true] w fun e w' => e = .returned (.bool b) ∧ w = w' := by
  obtain ⟨iC, hiC, hcmp⟩ := Option.map_eq_some_iff.1 isComp
  have nE := noIsC
  have uE := noUnwrapC
  have vE := noUnwrapsC
  have nF := noIsF
  have uF := hasUnwrapF
  have mF := methodUnwrapF
  have nN := noIsNt
  have uN := hasUnwrapNt
  have mN := methodUnwrapNt
  have hyes := fun c => run_eql_codes (P := Tryz.prog) w c k Tryz.underlying27 Tryz.underlying50 hiC hcmp
  have hno := fun t (ht : t ≠ 50) v => run_eql_iface_types (P := Tryz.prog) t 50 v (.int .i64 k) Tryz.underlying27 ht w
  have Hyes := Lib.hid hyes
  have Hno := Lib.hid hno
  have Hh := Lib.hid h0
  have Hr := Lib.hid hr0
  clear hyes hno h0 hr0
  go_enter Tryz.func41, Tryz.ntmps41
  go_wp2
  refine wp_loop_rounds (n0 + 1) (rounds_ind (ι := IsI k w F b) IsI.act IsI.d ?_ (n0 + 1) ⟨v0, x0, n0, Hh, Hr, _, _, _, _, _, _, _, _, _, _, _, _, _, _, _, _, _, _, _, _, _, _, _, _, _, _, _, _, _, _, _, _, _, _, _, _, _, _, _, _, _, _, _, _, _, _, _, _, _, _, _⟩ (Nat.lt_succ_self _))
  intro i n ih hlt
  have IH := Lib.hid ih
  clear ih
  obtain ⟨v, x, d, h, hr, u3, u4, u5, u6, u7, u8, u9, u10, u11, u12, u13, u14, u15, u16, u17, u18, u19, u20, u21, u22, u23, u24, u25, u26, u27, u28, u29, u30, u31, u32, u33, u34, u35, u36, u37, u38, u39, u40, u41, u42, u43, u44, u45, u46, u47, u48, u49, u50, u51, u52, u53⟩ := i
  replace hlt : d < n + 1 := hlt
  simp only [IsI.act]
  unfold isN at h
  split at h
  · rename_i d' t y k'
    split at h
    · rename_i ht
      subst ht
      split at h
      · rename_i c
        have hv := rd_codeV hr
        subst hv
        have hb : (c == k) = b := by simpa using h
        have e := Hyes c
        rw [hb] at e
        clear h hr hb
        rw [rounds_succ]
        cases b with
        | true =>
          go_wp2
          go_ret
          exact ⟨rfl, rfl⟩
        | false =>
          go_wp2
          go_ret
          exact ⟨rfl, rfl⟩
      · cases h
    · split at h
      · rename_i ht
        subst ht
        split at h
        · have hb : false = b := by simpa using h
          subst hb
          obtain ⟨g, o, ve, hv, hc, hve⟩ := rd_faultV hr
          obtain rfl := nil_case hve
          subst hv
          have e := Hno 58 (by decide) (.pointer (some ⟨g, o, none⟩))
          clear h hr hve
          rw [rounds_succ]
          go_wp2
          go_ret
          exact ⟨rfl, rfl⟩
        · rename_i u y'
          obtain ⟨g, o, ve, hv, hc, hve⟩ := rd_faultV hr
          obtain ⟨v', rfl⟩ := ifc_cases hve
          subst hv
          have e := Hno 58 (by decide) (.pointer (some ⟨g, o, none⟩))
          have h' := Lib.hid h
          have hve' := Lib.hid hve
          clear h hr hve
          rw [rounds_succ]
          go_wp2
          exact IH ⟨_, _, _, h', hve', _, _, _, _, _, _, _, _, _, _, _, _, _, _, _, _, _, _, _, _, _, _, _, _, _, _, _, _, _, _, _, _, _, _, _, _, _, _, _, _, _, _, _, _, _, _, _, _, _, _, _⟩ (by dsimp only; omega)
        · cases h
      · split at h
        · rename_i ht
          subst ht
          split at h
          · have hb : false = b := by simpa using h
            subst hb
            obtain ⟨g, o, ve, hv, hc, hve⟩ := rd_noteV hr
            obtain rfl := nil_case hve
            subst hv
            have e := Hno 63 (by decide) (.pointer (some ⟨g, o, none⟩))
            clear h hr hve
            rw [rounds_succ]
            go_wp2
            go_ret
            exact ⟨rfl, rfl⟩
          · rename_i u y'
            obtain ⟨g, o, ve, hv, hc, hve⟩ := rd_noteV hr
            obtain ⟨v', rfl⟩ := ifc_cases hve
            subst hv
            have e := Hno 63 (by decide) (.pointer (some ⟨g, o, none⟩))
            have h' := Lib.hid h
            have hve' := Lib.hid hve
            clear h hr hve
            rw [rounds_succ]
            go_wp2
            exact IH ⟨_, _, _, h', hve', _, _, _, _, _, _, _, _, _, _, _, _, _, _, _, _, _, _, _, _, _, _, _, _, _, _, _, _, _, _, _, _, _, _, _, _, _, _, _, _, _, _, _, _, _, _, _, _, _, _, _⟩ (by dsimp only; omega)
          · cases h
        · cases h
  · cases h

/-- errors.Is of an error that isn't nil, and a code. -/
theorem is_some (k : Int) (w : World) (F : Fr) (b : Bool) (n0 : Nat) (t : Nat) (y : D) (v0 : Value) (h0 : isN n0 (.iface t y) k = some b) (hr0 : Rd Tryz.prog w F .ifc (.iface t y) v0) :
    Calls Tryz.prog 24 #[v0, .iface 50 (.int .i64 k)] w fun e w' => e = .returned (.bool b) ∧ w = w' := by
  obtain ⟨v', rfl⟩ := ifc_cases hr0
  have h8 := @run_callFunc_extern Tryz.prog 40 _ Extern.ReflectliteType.typeOf Tryz.func40 (by kernel_rfl) (by kernel_rfl) (by kernel_rfl) (by kernel_rfl)
  have h32 := @run_callFunc_extern Tryz.prog 121 _ compExt Tryz.func121 (by kernel_rfl) (by kernel_rfl) (by kernel_rfl) (by kernel_rfl)
  have tT := isTypeOf
  have cT := isComparable
  have mR := isMethodComparable
  have H0 := Lib.hid h0
  have Hr := Lib.hid hr0
  clear h0 hr0
  go_enter Tryz.func24, Tryz.ntmps24
  go_wp2_with fail
  refine (is_low k w F b n0 _ _ H0 Hr).mono ?_
  rintro e w1 ⟨rfl, rfl⟩
  go_wp2
  go_ret
  exact ⟨rfl, rfl⟩
theorem is_nil (k : Int) (w : World) :
    Calls Tryz.prog 24 #[.nilIface, .iface 50 (.int .i64 k)] w fun e w' => e = .returned (.bool false) ∧ w = w' := by
  have e : (binOp .eql 27 .nilIface (.iface 50 (.int .i64 k))).run Tryz.prog w = .ok (.bool false) w := by
    have e1 : ∀ n, (Op.equalIn (n + 1) 27 .nilIface (.iface 50 (.int .i64 k))).run Tryz.prog w = .ok false w := fun n => by simp [Op.equalIn, run_underlying Tryz.underlying27]
    simp only [binOp]
    simp [Op.equal, Op.maxDepth, e1 9999]
  go_enter Tryz.func24, Tryz.ntmps24
  go_wp2
  go_ret
  exact ⟨rfl, rfl⟩
end Go.Proofs.YtnaemggpelolcaaGreatDoor.IsD
