/-
  errors.As over faults, notes and codes: the target is a variable of one of these types.
-/
import Derived.Test.YtnaemggpelolcaaGreatDoorIsG
import Derived.WalkKit
import Derived.LaidEql
import Derived.Stop.Asserts
import Derived.RowKitTokens
import Derived.Lib.Hide
namespace Go.Proofs.YtnaemggpelolcaaGreatDoor.AsD
open Go.RowKit Go.Extern.Stop Go.Stop Go.Extern Go.Proofs.YtnaemggpelolcaaGreatDoor.Eng Go.Proofs.YtnaemggpelolcaaGreatDoor Go.Proofs.YtnaemggpelolcaaGreatDoor.ErrD Go.Proofs.YtnaemggpelolcaaGreatDoor.IsD
set_option linter.unusedSimpArgs false
set_option linter.unusedVariables false

theorem rlm (z : Sem Value) (f : TypeId → Addr → Nat → Nat → Sem Value) (v : Value) :
    ReflectliteValue.method z f #[v] = (do match ← ReflectliteValue.parts v with | none => z | some (t, a, fl) => f t a fl (fl % 32)) := rfl
theorem rls (v x : Value) : ReflectliteValue.set #[v, x] = (do
    let (some (dst, a, fl), some (src, b, _)) := (← ReflectliteValue.parts v, ← ReflectliteValue.parts x)
      | unsupported (.noEntry "extern/(internal/reflectlite.Value).Set.zeroValue")
    if fl / ReflectliteValue.flagAddr % 2 == 0 then unsupported (.noEntry "extern/(internal/reflectlite.Value).Set.unaddressable")
    let val ← loadVar src b
    if ← Rtype.directlyAssignable dst src then storeVar dst a val
    else if ← Rtype.implements dst src then
      if (← Rtype.kind src) == 20 then
        match val with
        | .nilIface => unsupported (.noEntry "extern/reflectlite: a nil value of one interface type handed on as a value of another")
        | _ => storeVar dst a val
      else storeVar dst a (.iface src val)
    else panicString ("reflectlite.Set: value of type " ++ (← Rtype.spelt src) ++ " is not assignable to type " ++ (← Rtype.spelt dst))
    pure (.tuple #[])) := rfl
theorem rd_faultP {w : World} {F : Fr} {l : List D} {v : Value} (h : Rd Tryz.prog w F .ifc (.iface 58 (.agg l)) v) : ∃ g o, v = .iface 58 (.pointer (some ⟨g, o, none⟩)) ∧ Rd Tryz.prog w F (.ptr 62) (.agg l) (.pointer (some ⟨g, o, none⟩)) := by
  have htF : tyOf Tryz.prog 58 = some (.ptr 62) := by kernel_rfl
  cases h with
  | inil e _ => cases e
  | iface g1 g2 g3 g4 g5 =>
    cases g1
    rw [htF] at g3; cases g3
    have g6 := g5
    cases g5 with
    | pnil z1 _ => cases z1
    | href _ z1 _ _ => cases z1
    | @ptr _ _ _ b o l ts g _ z1 z2 z3 z4 z5 z6 z7 =>
      subst z2
      exact ⟨b, o, g2, g6⟩
theorem rd_noteP {w : World} {F : Fr} {l : List D} {v : Value} (h : Rd Tryz.prog w F .ifc (.iface 63 (.agg l)) v) : ∃ g o, v = .iface 63 (.pointer (some ⟨g, o, none⟩)) ∧ Rd Tryz.prog w F (.ptr 66) (.agg l) (.pointer (some ⟨g, o, none⟩)) := by
  have htF : tyOf Tryz.prog 63 = some (.ptr 66) := by kernel_rfl
  cases h with
  | inil e _ => cases e
  | iface g1 g2 g3 g4 g5 =>
    cases g1
    rw [htF] at g3; cases g3
    have g6 := g5
    cases g5 with
    | pnil z1 _ => cases z1
    | href _ z1 _ _ => cases z1
    | @ptr _ _ _ b o l ts g _ z1 z2 z3 z4 z5 z6 z7 =>
      subst z2
      exact ⟨b, o, g2, g6⟩
theorem as_nil (t : Value) (w : World) : Calls Tryz.prog 23 #[.nilIface, t] w fun e w' => e = .returned (.bool false) ∧ w' = w := by
  go_enter Tryz.func23, Tryz.ntmps23
  go_wp2
  go_ret
  exact ⟨rfl, rfl⟩
theorem methodKind (h : Value) (w : World) : (Go.method 293 102 (.agg #[h]) "Kind").run Tryz.prog w = .ok (108, h) w := by kernel_rfl
theorem methodElem (h : Value) (w : World) : (Go.method 293 102 (.agg #[h]) "Elem").run Tryz.prog w = .ok (122, .agg #[h]) w := by kernel_rfl
theorem methodImplements (h : Value) (w : World) : (Go.method 293 102 (.agg #[h]) "Implements").run Tryz.prog w = .ok (123, .agg #[h]) w := by kernel_rfl
theorem methodAssignableTo (h : Value) (w : World) : (Go.method 293 102 (.agg #[h]) "AssignableTo").run Tryz.prog w = .ok (120, .agg #[h]) w := by kernel_rfl
theorem typeOfF (v : Value) (w : World) : (ReflectliteType.typeOf #[.iface 58 v]).run Tryz.prog w = .ok (.iface 102 (.agg #[.pointer (some ⟨9, 58, none⟩)])) w := by kernel_rfl
theorem noAsF (v : Value) (xT : TypeId) (w : World) : (Instr.typeAssert (.iface 58 v) xT 106 true).run Tryz.prog w = .ok (.tuple #[.nilIface, .bool false]) w := run_typeAssert_lacksB Tryz.underlying106 (by kernel_rfl) (by kernel_rfl) v xT w
theorem typeOfN (v : Value) (w : World) : (ReflectliteType.typeOf #[.iface 63 v]).run Tryz.prog w = .ok (.iface 102 (.agg #[.pointer (some ⟨9, 63, none⟩)])) w := by kernel_rfl
theorem noAsN (v : Value) (xT : TypeId) (w : World) : (Instr.typeAssert (.iface 63 v) xT 106 true).run Tryz.prog w = .ok (.tuple #[.nilIface, .bool false]) w := run_typeAssert_lacksB Tryz.underlying106 (by kernel_rfl) (by kernel_rfl) v xT w
theorem typeOfC (v : Value) (w : World) : (ReflectliteType.typeOf #[.iface 50 v]).run Tryz.prog w = .ok (.iface 102 (.agg #[.pointer (some ⟨9, 50, none⟩)])) w := by kernel_rfl
theorem noAsC (v : Value) (xT : TypeId) (w : World) : (Instr.typeAssert (.iface 50 v) xT 106 true).run Tryz.prog w = .ok (.tuple #[.nilIface, .bool false]) w := run_typeAssert_lacksB Tryz.underlying106 (by kernel_rfl) (by kernel_rfl) v xT w
/-! The target F. -/
theorem valueOfTF (t : Addr) (w : World) : (ReflectliteValue.unpack (.iface 60 (.pointer (some t)))).run Tryz.prog w
    = .ok (.agg #[.pointer (some ⟨9, 60, none⟩), .pointer (some ⟨w.heap.size, 0, none⟩), .int .u64 150]) (w.alloc (.cells #[.pointer (some t)] 60)) := by kernel_rfl
theorem typeTF (a : Addr) (w : World) : (ReflectliteValue.methodAny (ReflectliteValue.valueError "reflectlite.Value.Type" 0) (fun t _ _ _ => ReflectliteType.toType t) #[.agg #[.pointer (some ⟨9, 60, none⟩), .pointer (some a), .int .u64 150]]).run Tryz.prog w
    = .ok (.iface 102 (.agg #[.pointer (some ⟨9, 60, none⟩)])) w := by kernel_rfl
theorem kindTF (w : World) : ((ReflectliteType.abiMethod fun t => (fun a : Nat => Value.int IntKind.u8 (a : Int)) <$> Rtype.kind t) #[.pointer (some ⟨9, 60, none⟩)]).run Tryz.prog w = .ok (.int .u8 22) w := by kernel_rfl
theorem kindEF (w : World) : ((ReflectliteType.abiMethod fun t => (fun a : Nat => Value.int IntKind.u8 (a : Int)) <$> Rtype.kind t) #[.pointer (some ⟨9, 58, none⟩)]).run Tryz.prog w = .ok (.int .u8 22) w := by kernel_rfl
theorem partsTF (a : Addr) (w : World) : (ReflectliteValue.parts (.agg #[.pointer (some ⟨9, 60, none⟩), .pointer (some a), .int .u64 150])).run Tryz.prog w = .ok (some (60, a, 150)) w := by kernel_rfl
theorem isNilTF (a p : Addr) (W : World) (ha : W.cell? a = some (.pointer (some p))) :
    (ReflectliteValue.method (ReflectliteValue.valueError "reflectlite.Value.IsNil" 0) ReflectliteValue.isNil #[.agg #[.pointer (some ⟨9, 60, none⟩), .pointer (some a), .int .u64 150]]).run Tryz.prog W = .ok (.bool false) W := by
  rw [rlm]
  simp only [Sem.run_bind, partsTF, Result.andThen]
  simp [ReflectliteValue.isNil, loadVar, isAgg, underlying, Tryz.underlying60, ha, Result.andThen]
theorem elemTF (w : World) : (ReflectliteType.method ReflectliteType.elem #[.agg #[.pointer (some ⟨9, 60, none⟩)]]).run Tryz.prog w = .ok (.iface 102 (.agg #[.pointer (some ⟨9, 58, none⟩)])) w := by kernel_rfl
theorem implEF (w : World) : (ReflectliteType.relation "Implements" ReflectliteType.implements_ #[.agg #[.pointer (some ⟨9, 58, none⟩)], .iface 102 (.agg #[.pointer (some ⟨9, 27, none⟩)])]).run Tryz.prog w = .ok (.bool true) w := by kernel_rfl
theorem valueOfEF (e : Addr) (w : World) : (ReflectliteValue.unpack (.iface 58 (.pointer (some e)))).run Tryz.prog w
    = .ok (.agg #[.pointer (some ⟨9, 58, none⟩), .pointer (some ⟨w.heap.size, 0, none⟩), .int .u64 150]) (w.alloc (.cells #[.pointer (some e)] 58)) := by kernel_rfl
theorem elemOfTF (w : World) : (Rtype.elem? 60).run Tryz.prog w = .ok (some 58) w := by kernel_rfl
theorem mkEF (p : Addr) (w : World) : (ReflectliteValue.mk 58 p ReflectliteValue.flagAddr).run Tryz.prog w = .ok (.agg #[.pointer (some ⟨9, 58, none⟩), .pointer (some p), .int .u64 406]) w := by kernel_rfl
theorem elemVF (a p : Addr) (W : World) (ha : W.cell? a = some (.pointer (some p))) :
    (ReflectliteValue.method (ReflectliteValue.valueError "reflectlite.Value.Elem" 0) ReflectliteValue.elem #[.agg #[.pointer (some ⟨9, 60, none⟩), .pointer (some a), .int .u64 150]]).run Tryz.prog W
      = .ok (.agg #[.pointer (some ⟨9, 58, none⟩), .pointer (some p), .int .u64 406]) W := by
  rw [rlm]
  simp only [Sem.run_bind, partsTF, Result.andThen]
  simp [ReflectliteValue.elem, loadVar, isAgg, underlying, Tryz.underlying60, ha, Result.andThen, elemOfTF, mkEF]
theorem partsAF (a : Addr) (w : World) : (ReflectliteValue.parts (.agg #[.pointer (some ⟨9, 58, none⟩), .pointer (some a), .int .u64 406])).run Tryz.prog w = .ok (some (58, a, 406)) w := by kernel_rfl
theorem partsEF (a : Addr) (w : World) : (ReflectliteValue.parts (.agg #[.pointer (some ⟨9, 58, none⟩), .pointer (some a), .int .u64 150])).run Tryz.prog w = .ok (some (58, a, 150)) w := by kernel_rfl
theorem directF (w : World) : (Rtype.directlyAssignable 58 58).run Tryz.prog w = .ok true w := by kernel_rfl
theorem setF (ta b : Addr) (e : Addr) (old : Value) (W : World) (hb : W.cell? b = some (.pointer (some e))) (ht : W.cell? ta = some old) (hf : W.frozen? ta = false) :
    (ReflectliteValue.set #[.agg #[.pointer (some ⟨9, 58, none⟩), .pointer (some ta), .int .u64 406], .agg #[.pointer (some ⟨9, 58, none⟩), .pointer (some b), .int .u64 150]]).run Tryz.prog W
      = .ok (.tuple #[]) (W.setCell ta (.pointer (some e))) := by
  rw [rls]
  simp only [Sem.run_bind, partsAF, partsEF, Result.andThen]
  simp [ReflectliteValue.flagAddr, loadVar, isAgg, underlying, Tryz.underlying58, hb, Result.andThen, directF, storeVar, Value.cells, storeCells, Addr.add]
  rw [run_store Tryz.prog W ta _ _ (by rfl)]
  simp [ht, hf]
theorem assignFF (w : World) : (ReflectliteType.relation "AssignableTo" ReflectliteType.assignableTo #[.agg #[.pointer (some ⟨9, 58, none⟩)], .iface 102 (.agg #[.pointer (some ⟨9, 58, none⟩)])]).run Tryz.prog w = .ok (.bool true) w := by kernel_rfl
theorem assignNF (w : World) : (ReflectliteType.relation "AssignableTo" ReflectliteType.assignableTo #[.agg #[.pointer (some ⟨9, 63, none⟩)], .iface 102 (.agg #[.pointer (some ⟨9, 58, none⟩)])]).run Tryz.prog w = .ok (.bool false) w := by kernel_rfl
theorem assignCF (w : World) : (ReflectliteType.relation "AssignableTo" ReflectliteType.assignableTo #[.agg #[.pointer (some ⟨9, 50, none⟩)], .iface 102 (.agg #[.pointer (some ⟨9, 58, none⟩)])]).run Tryz.prog w = .ok (.bool false) w := by kernel_rfl
structure AsF (w : World) (F : Fr) (b : Option D) where
  v : Value
  x : D
  d : Nat
  h : asF d x = some b
  r : Rd Tryz.prog w F .ifc x v
  u4 : Value
  u5 : Value
  u7 : Value
  u8 : Value
  u9 : Value
  u10 : Value
  u11 : Value
  u12 : Value
  u13 : Value
  u14 : Value
  u15 : Value
  u16 : Value
  u17 : Value
  u18 : Value
  u19 : Value
  u20 : Value
  u21 : Value
  u22 : Value
  u23 : Value
  u24 : Value
  u25 : Value
  u26 : Value
  u27 : Value
  u28 : Value
  u29 : Value
  u30 : Value
  u31 : Value
  u32 : Value
  u33 : Value
  u34 : Value
  u35 : Value
  u36 : Value
  u37 : Value
  u38 : Value
  u39 : Value
  u40 : Value
  u41 : Value
  u42 : Value
  u43 : Value
  u44 : Value
  u45 : Value
  u46 : Value
  u47 : Value
  u48 : Value
  u49 : Value
  u50 : Value
  u51 : Value
  u52 : Value
  u53 : Value
  u54 : Value
  u55 : Value
  u56 : Value
  u57 : Value
  u58 : Value
  u59 : Value
  u60 : Value
  u61 : Value
def AsF.act {w : World} {F : Fr} {b : Option D} (t a : Addr) (i : AsF w F b) : Act := { tmps := #[i.v, .iface 60 (.pointer (some t)), .agg #[.pointer (some ⟨9, 60, none⟩), .pointer (some a), .int .u64 150], .iface 102 (.agg #[.pointer (some ⟨9, 58, none⟩)]), i.u4, i.u5, .pointer (some ⟨w.heap.size, 0, none⟩), i.u7, i.u8, i.u9, i.u10, i.u11, i.u12, i.u13, i.u14, i.u15, i.u16, i.u17, i.u18, i.u19, i.u20, i.u21, i.u22, i.u23, i.u24, i.u25, i.u26, i.u27, i.u28, i.u29, i.u30, i.u31, i.u32, i.u33, i.u34, i.u35, i.u36, i.u37, i.u38, i.u39, i.u40, i.u41, i.u42, i.u43, i.u44, i.u45, i.u46, i.u47, i.u48, i.u49, i.u50, i.u51, i.u52, i.u53, i.u54, i.u55, i.u56, i.u57, i.u58, i.u59, i.u60, i.u61], defers := [] }
/-- What errors.as leaves. -/
def LeftF (t : Addr) (F : Fr) (w : World) (b : Option D) (e : Ending) (w' : World) : Prop := e = .returned (.bool b.isSome) ∧ match b with
  | none => Below w.heap.size w w'
  | some x => ∃ w2 u, Below w.heap.size w w2 ∧ w' = w2.setCell t u ∧ Rd Tryz.prog w2 F (.ptr 62) x u
set_option maxHeartbeats 4000000 in
theorem as_lowF (t a : Addr) (old : Value) (w : World) (F : Fr) (b : Option D) (n0 : Nat) (x0 : D) (v0 : Value) (h0 : asF n0 x0 = some b) (hr0 : Rd Tryz.prog w F .ifc x0 v0)
    (ha : w.cell? a = some (.pointer (some t))) (ht : w.cell? t = some old) (hf : w.frozen? t = false) (hF : ∀ b, F b → b < w.heap.size) :
    Calls Tryz.prog 39 #[v0, .iface 60 (.pointer (some t)), .agg #[.pointer (some ⟨9, 60, none⟩), .pointer (some a), .int .u64 150], .iface 102 (.agg #[.pointer (some ⟨9, 58, none⟩)])] w (LeftF t F w b) := by
  have hTO := @run_callFunc_extern Tryz.prog 40 _ ReflectliteType.typeOf Tryz.func40 (by kernel_rfl) (by kernel_rfl) (by kernel_rfl) (by kernel_rfl)
  have hVO := @run_callFunc_extern Tryz.prog 36 _ (fun args => ReflectliteValue.unpack (args.getD 0 (.tuple #[]))) Tryz.func36 (by kernel_rfl) (by kernel_rfl) (by kernel_rfl) (by kernel_rfl)
  have hEL := @run_callFunc_extern Tryz.prog 52 _ (ReflectliteValue.method (ReflectliteValue.valueError "reflectlite.Value.Elem" 0) ReflectliteValue.elem) Tryz.func52 (by kernel_rfl) (by kernel_rfl) (by kernel_rfl) (by kernel_rfl)
  have hST := @run_callFunc_extern Tryz.prog 53 _ ReflectliteValue.set Tryz.func53 (by kernel_rfl) (by kernel_rfl) (by kernel_rfl) (by kernel_rfl)
  have hAS := @run_callFunc_extern Tryz.prog 120 _ (ReflectliteType.relation "AssignableTo" ReflectliteType.assignableTo) Tryz.func120 (by kernel_rfl) (by kernel_rfl) (by kernel_rfl) (by kernel_rfl)
  have mA := methodAssignableTo
  have vO := valueOfEF
  have tOF := typeOfF
  have nAF := noAsF
  have aSF := assignFF
  have uF := hasUnwrapF
  have mF := methodUnwrapF
  have tON := typeOfN
  have nAN := noAsN
  have aSN := assignNF
  have uN := hasUnwrapNt
  have mN := methodUnwrapNt
  have tOC := typeOfC
  have nAC := noAsC
  have aSC := assignCF
  have uC := noUnwrapC
  have vC := noUnwrapsC
  have hab : a.block < w.heap.size := World.block_lt_of_cell? w _ ha
  have htb : t.block < w.heap.size := World.block_lt_of_cell? w _ ht
  have ha1 : (w.alloc (.cells #[.pointer (some ⟨9, 60, none⟩), .pointer (some a), .int .u64 150] 79)).cell? a = some (.pointer (some t)) := by rw [World.cell?_alloc_lt _ _ a hab]; exact ha
  have el := elemVF a t (w.alloc (.cells #[.pointer (some ⟨9, 60, none⟩), .pointer (some a), .int .u64 150] 79)) ha1
  have st := fun (e : Addr) => setF t ⟨w.heap.size + 1, 0, none⟩ e old ((w.alloc (.cells #[.pointer (some ⟨9, 60, none⟩), .pointer (some a), .int .u64 150] 79)).alloc (.cells #[.pointer (some e)] 58))
    (by rw [World.cell?_alloc_at _ _ _ _ (by simp)]; rfl)
    (by rw [World.cell?_alloc_lt _ _ t (by simp; omega), World.cell?_alloc_lt _ _ t htb]; exact ht)
    (by rw [World.frozen?_alloc_old _ _ t (by simp; omega), World.frozen?_alloc_old _ _ t (Nat.ne_of_lt htb)]; exact hf)
  have hbel : Below w.heap.size w (w.alloc (.cells #[.pointer (some ⟨9, 60, none⟩), .pointer (some a), .int .u64 150] 79)) := (Below.refl _ _).alloc (Nat.le_refl _) _
  have hbel2 := fun (e : Addr) => hbel.alloc (Nat.le_of_lt (by simp)) (.cells #[.pointer (some e)] 58)
  have HF := Lib.hid hF
  have Hbel := Lib.hid hbel
  have Hbel2 := Lib.hid hbel2
  have Hh := Lib.hid h0
  have Hr := Lib.hid hr0
  clear h0 hr0 hbel hbel2 ha ht hf ha1 hF
  go_enter Tryz.func39, Tryz.ntmps39
  go_wp2
  refine wp_loop_rounds (n0 + 1) (rounds_ind (ι := AsF w F b) (AsF.act t a) AsF.d ?_ (n0 + 1) ⟨v0, x0, n0, Hh, Hr, _, _, _, _, _, _, _, _, _, _, _, _, _, _, _, _, _, _, _, _, _, _, _, _, _, _, _, _, _, _, _, _, _, _, _, _, _, _, _, _, _, _, _, _, _, _, _, _, _, _, _, _, _, _, _, _, _⟩ (Nat.lt_succ_self _))
  intro i n ih hlt
  have IH := Lib.hid ih
  clear ih
  obtain ⟨v, x, d, h, hr, u4, u5, u7, u8, u9, u10, u11, u12, u13, u14, u15, u16, u17, u18, u19, u20, u21, u22, u23, u24, u25, u26, u27, u28, u29, u30, u31, u32, u33, u34, u35, u36, u37, u38, u39, u40, u41, u42, u43, u44, u45, u46, u47, u48, u49, u50, u51, u52, u53, u54, u55, u56, u57, u58, u59, u60, u61⟩ := i
  replace hlt : d < n + 1 := hlt
  simp only [AsF.act]
  unfold asF at h
  split at h
  · rename_i d' tt y
    split at h
    · rename_i ht
      subst ht
      split at h
      · rename_i p q
        obtain rfl : some (D.agg [p, q]) = b := by simpa using h
        obtain ⟨g, o, hv, hrd⟩ := rd_faultP hr
        subst hv
        have e := st ⟨g, o, none⟩
        have hb2 := Lib.hid (Hbel2 ⟨g, o, none⟩)
        have hrd' := Lib.hid hrd
        clear h hr st hrd
        rw [rounds_succ]
        go_wp2
        go_ret
        exact ⟨rfl, _, _, hb2, rfl, Rd.mono (Le.same fun b hb => Below.block (Hbel2 ⟨g, o, none⟩) b (HF b hb)) hrd'⟩
      · cases h
    ·
      split at h
      · rename_i ht
        subst ht
        split at h
        · obtain rfl : none = b := by simpa using h
          obtain ⟨g, o, ve, hv, hc, hve⟩ := rd_noteV hr
          obtain rfl := nil_case hve
          subst hv
          have hc1 : (w.alloc (.cells #[.pointer (some ⟨9, 60, none⟩), .pointer (some a), .int .u64 150] 79)).cell? ⟨g, o + 1, none⟩ = some .nilIface := by rw [World.cell?_alloc_lt _ _ _ (World.block_lt_of_cell? w _ hc)]; exact hc
          have hgb : g < w.heap.size := World.block_lt_of_cell? w _ hc
          clear h hr hve st
          rw [rounds_succ]
          go_wp2
          go_ret
          exact ⟨rfl, Hbel⟩
        · rename_i u y'
          obtain ⟨g, o, ve, hv, hc, hve⟩ := rd_noteV hr
          obtain ⟨v', rfl⟩ := ifc_cases hve
          subst hv
          have hc1 : (w.alloc (.cells #[.pointer (some ⟨9, 60, none⟩), .pointer (some a), .int .u64 150] 79)).cell? ⟨g, o + 1, none⟩ = some (.iface u v') := by rw [World.cell?_alloc_lt _ _ _ (World.block_lt_of_cell? w _ hc)]; exact hc
          have hgb : g < w.heap.size := World.block_lt_of_cell? w _ hc
          have h' := Lib.hid h
          have hve' := Lib.hid hve
          clear h hr hve st
          rw [rounds_succ]
          go_wp2
          exact IH ⟨_, _, _, h', hve', _, _, _, _, _, _, _, _, _, _, _, _, _, _, _, _, _, _, _, _, _, _, _, _, _, _, _, _, _, _, _, _, _, _, _, _, _, _, _, _, _, _, _, _, _, _, _, _, _, _, _, _, _, _, _, _, _⟩ (by dsimp only; omega)
        · cases h
      ·
        split at h
        · rename_i ht
          subst ht
          obtain rfl : none = b := by simpa using h
          obtain ⟨v', hv⟩ := ifc_cases hr
          subst hv
          clear h hr st
          rw [rounds_succ]
          go_wp2
          go_ret
          exact ⟨rfl, Hbel⟩
        ·
          cases h
  · cases h
set_option maxHeartbeats 4000000 in
theorem as_someF (t : Addr) (old : Value) (w : World) (F : Fr) (b : Option D) (n0 : Nat) (q : Nat) (y : D) (v0 : Value) (h0 : asF n0 (.iface q y) = some b) (hr0 : Rd Tryz.prog w F .ifc (.iface q y) v0)
    (hg : w.cell? ⟨0, 0, none⟩ = some (.iface 102 (.agg #[.pointer (some ⟨9, 27, none⟩)]))) (ht : w.cell? t = some old) (hf : w.frozen? t = false) (hF : ∀ b, F b → b < w.heap.size) :
    Calls Tryz.prog 23 #[v0, .iface 60 (.pointer (some t))] w (LeftF t F w b) := by
  obtain ⟨v', rfl⟩ := ifc_cases hr0
  have hVO := @run_callFunc_extern Tryz.prog 36 _ (fun args => ReflectliteValue.unpack (args.getD 0 (.tuple #[]))) Tryz.func36 (by kernel_rfl) (by kernel_rfl) (by kernel_rfl) (by kernel_rfl)
  have hTY := @run_callFunc_extern Tryz.prog 37 _ (ReflectliteValue.methodAny (ReflectliteValue.valueError "reflectlite.Value.Type" 0) (fun t _ _ _ => ReflectliteType.toType t)) Tryz.func37 (by kernel_rfl) (by kernel_rfl) (by kernel_rfl) (by kernel_rfl)
  have hIN := @run_callFunc_extern Tryz.prog 38 _ (ReflectliteValue.method (ReflectliteValue.valueError "reflectlite.Value.IsNil" 0) ReflectliteValue.isNil) Tryz.func38 (by kernel_rfl) (by kernel_rfl) (by kernel_rfl) (by kernel_rfl)
  have hKD := @run_callFunc_extern Tryz.prog 108 _ (ReflectliteType.abiMethod fun t => do pure (.int .u8 (← Rtype.kind t))) Tryz.func108 (by kernel_rfl) (by kernel_rfl) (by kernel_rfl) (by kernel_rfl)
  have hEM := @run_callFunc_extern Tryz.prog 122 _ (ReflectliteType.method ReflectliteType.elem) Tryz.func122 (by kernel_rfl) (by kernel_rfl) (by kernel_rfl) (by kernel_rfl)
  have hIM := @run_callFunc_extern Tryz.prog 123 _ (ReflectliteType.relation "Implements" ReflectliteType.implements_) Tryz.func123 (by kernel_rfl) (by kernel_rfl) (by kernel_rfl) (by kernel_rfl)
  have vT := valueOfTF
  have tyT := typeTF
  have mK := methodKind
  have mE := methodElem
  have mI := methodImplements
  have kT := kindTF
  have kE := kindEF
  have eT := elemTF
  have iE := implEF
  have htb : t.block < w.heap.size := World.block_lt_of_cell? w _ ht
  have hlt : 0 < w.heap.size := World.block_lt_of_cell? w _ hg
  have inl := isNilTF ⟨w.heap.size, 0, none⟩ t ((w.alloc (.cells #[.pointer (some t)] 60)).alloc (.cells #[.pointer (some ⟨9, 60, none⟩), .pointer (some ⟨w.heap.size, 0, none⟩), .int .u64 150] 79)) (by simp)
  have hg2 : ((w.alloc (.cells #[.pointer (some t)] 60)).alloc (.cells #[.pointer (some ⟨9, 60, none⟩), .pointer (some ⟨w.heap.size, 0, none⟩), .int .u64 150] 79)).cell? ⟨0, 0, none⟩ = some (.iface 102 (.agg #[.pointer (some ⟨9, 27, none⟩)])) := by
    rw [World.cell?_alloc_lt _ _ ⟨0, 0, none⟩ (by simp <;> omega), World.cell?_alloc_lt _ _ ⟨0, 0, none⟩ hlt]; exact hg
  have hbel : Below w.heap.size w ((w.alloc (.cells #[.pointer (some t)] 60)).alloc (.cells #[.pointer (some ⟨9, 60, none⟩), .pointer (some ⟨w.heap.size, 0, none⟩), .int .u64 150] 79)) := ((Below.refl _ _).alloc (Nat.le_refl _) _).alloc (Nat.le_of_lt (by simp)) _
  have hlow := as_lowF t ⟨w.heap.size, 0, none⟩ old ((w.alloc (.cells #[.pointer (some t)] 60)).alloc (.cells #[.pointer (some ⟨9, 60, none⟩), .pointer (some ⟨w.heap.size, 0, none⟩), .int .u64 150] 79)) F b n0 _ _ h0 (Rd.mono (Le.same fun b hb => hbel.block b (hF b hb)) hr0) (by rw [World.cell?_alloc_lt _ _ ⟨w.heap.size, 0, none⟩ (by simp)]; simp)
    (by rw [World.cell?_alloc_lt _ _ t (by simp; omega), World.cell?_alloc_lt _ _ t htb]; exact ht)
    (by rw [World.frozen?_alloc_old _ _ t (by simp; omega), World.frozen?_alloc_old _ _ t (Nat.ne_of_lt htb)]; exact hf) (fun b hb => Nat.lt_of_lt_of_le (hF b hb) (by simp; omega))
  have Hlow := Lib.hid hlow
  have Hbel := Lib.hid hbel
  clear h0 hr0 ht hf hF hlow hbel hg
  go_enter Tryz.func23, Tryz.ntmps23
  go_wp2_with fail
  refine Calls.mono Hlow ?_
  rintro e w1 ⟨rfl, hleft⟩
  have Hleft := Lib.hid hleft
  clear hleft
  go_wp2
  go_ret
  refine ⟨rfl, ?_⟩
  cases b with
  | none => exact Below.trans Hbel (Below.mono Hleft (Below.size Hbel))
  | some x =>
    obtain ⟨w2, u, h1, h2, h3⟩ := Hleft
    exact ⟨w2, u, Below.trans Hbel (Below.mono h1 (Below.size Hbel)), h2, h3⟩
/-! The target N. -/
theorem valueOfTN (t : Addr) (w : World) : (ReflectliteValue.unpack (.iface 64 (.pointer (some t)))).run Tryz.prog w
    = .ok (.agg #[.pointer (some ⟨9, 64, none⟩), .pointer (some ⟨w.heap.size, 0, none⟩), .int .u64 150]) (w.alloc (.cells #[.pointer (some t)] 64)) := by kernel_rfl
theorem typeTN (a : Addr) (w : World) : (ReflectliteValue.methodAny (ReflectliteValue.valueError "reflectlite.Value.Type" 0) (fun t _ _ _ => ReflectliteType.toType t) #[.agg #[.pointer (some ⟨9, 64, none⟩), .pointer (some a), .int .u64 150]]).run Tryz.prog w
    = .ok (.iface 102 (.agg #[.pointer (some ⟨9, 64, none⟩)])) w := by kernel_rfl
theorem kindTN (w : World) : ((ReflectliteType.abiMethod fun t => (fun a : Nat => Value.int IntKind.u8 (a : Int)) <$> Rtype.kind t) #[.pointer (some ⟨9, 64, none⟩)]).run Tryz.prog w = .ok (.int .u8 22) w := by kernel_rfl
theorem kindEN (w : World) : ((ReflectliteType.abiMethod fun t => (fun a : Nat => Value.int IntKind.u8 (a : Int)) <$> Rtype.kind t) #[.pointer (some ⟨9, 63, none⟩)]).run Tryz.prog w = .ok (.int .u8 22) w := by kernel_rfl
theorem partsTN (a : Addr) (w : World) : (ReflectliteValue.parts (.agg #[.pointer (some ⟨9, 64, none⟩), .pointer (some a), .int .u64 150])).run Tryz.prog w = .ok (some (64, a, 150)) w := by kernel_rfl
theorem isNilTN (a p : Addr) (W : World) (ha : W.cell? a = some (.pointer (some p))) :
    (ReflectliteValue.method (ReflectliteValue.valueError "reflectlite.Value.IsNil" 0) ReflectliteValue.isNil #[.agg #[.pointer (some ⟨9, 64, none⟩), .pointer (some a), .int .u64 150]]).run Tryz.prog W = .ok (.bool false) W := by
  rw [rlm]
  simp only [Sem.run_bind, partsTN, Result.andThen]
  simp [ReflectliteValue.isNil, loadVar, isAgg, underlying, Tryz.underlying64, ha, Result.andThen]
theorem elemTN (w : World) : (ReflectliteType.method ReflectliteType.elem #[.agg #[.pointer (some ⟨9, 64, none⟩)]]).run Tryz.prog w = .ok (.iface 102 (.agg #[.pointer (some ⟨9, 63, none⟩)])) w := by kernel_rfl
theorem implEN (w : World) : (ReflectliteType.relation "Implements" ReflectliteType.implements_ #[.agg #[.pointer (some ⟨9, 63, none⟩)], .iface 102 (.agg #[.pointer (some ⟨9, 27, none⟩)])]).run Tryz.prog w = .ok (.bool true) w := by kernel_rfl
theorem valueOfEN (e : Addr) (w : World) : (ReflectliteValue.unpack (.iface 63 (.pointer (some e)))).run Tryz.prog w
    = .ok (.agg #[.pointer (some ⟨9, 63, none⟩), .pointer (some ⟨w.heap.size, 0, none⟩), .int .u64 150]) (w.alloc (.cells #[.pointer (some e)] 63)) := by kernel_rfl
theorem elemOfTN (w : World) : (Rtype.elem? 64).run Tryz.prog w = .ok (some 63) w := by kernel_rfl
theorem mkEN (p : Addr) (w : World) : (ReflectliteValue.mk 63 p ReflectliteValue.flagAddr).run Tryz.prog w = .ok (.agg #[.pointer (some ⟨9, 63, none⟩), .pointer (some p), .int .u64 406]) w := by kernel_rfl
theorem elemVN (a p : Addr) (W : World) (ha : W.cell? a = some (.pointer (some p))) :
    (ReflectliteValue.method (ReflectliteValue.valueError "reflectlite.Value.Elem" 0) ReflectliteValue.elem #[.agg #[.pointer (some ⟨9, 64, none⟩), .pointer (some a), .int .u64 150]]).run Tryz.prog W
      = .ok (.agg #[.pointer (some ⟨9, 63, none⟩), .pointer (some p), .int .u64 406]) W := by
  rw [rlm]
  simp only [Sem.run_bind, partsTN, Result.andThen]
  simp [ReflectliteValue.elem, loadVar, isAgg, underlying, Tryz.underlying64, ha, Result.andThen, elemOfTN, mkEN]
theorem partsAN (a : Addr) (w : World) : (ReflectliteValue.parts (.agg #[.pointer (some ⟨9, 63, none⟩), .pointer (some a), .int .u64 406])).run Tryz.prog w = .ok (some (63, a, 406)) w := by kernel_rfl
theorem partsEN (a : Addr) (w : World) : (ReflectliteValue.parts (.agg #[.pointer (some ⟨9, 63, none⟩), .pointer (some a), .int .u64 150])).run Tryz.prog w = .ok (some (63, a, 150)) w := by kernel_rfl
theorem directN (w : World) : (Rtype.directlyAssignable 63 63).run Tryz.prog w = .ok true w := by kernel_rfl
theorem setN (ta b : Addr) (e : Addr) (old : Value) (W : World) (hb : W.cell? b = some (.pointer (some e))) (ht : W.cell? ta = some old) (hf : W.frozen? ta = false) :
    (ReflectliteValue.set #[.agg #[.pointer (some ⟨9, 63, none⟩), .pointer (some ta), .int .u64 406], .agg #[.pointer (some ⟨9, 63, none⟩), .pointer (some b), .int .u64 150]]).run Tryz.prog W
      = .ok (.tuple #[]) (W.setCell ta (.pointer (some e))) := by
  rw [rls]
  simp only [Sem.run_bind, partsAN, partsEN, Result.andThen]
  simp [ReflectliteValue.flagAddr, loadVar, isAgg, underlying, Tryz.underlying63, hb, Result.andThen, directN, storeVar, Value.cells, storeCells, Addr.add]
  rw [run_store Tryz.prog W ta _ _ (by rfl)]
  simp [ht, hf]
theorem assignFN (w : World) : (ReflectliteType.relation "AssignableTo" ReflectliteType.assignableTo #[.agg #[.pointer (some ⟨9, 58, none⟩)], .iface 102 (.agg #[.pointer (some ⟨9, 63, none⟩)])]).run Tryz.prog w = .ok (.bool false) w := by kernel_rfl
theorem assignNN (w : World) : (ReflectliteType.relation "AssignableTo" ReflectliteType.assignableTo #[.agg #[.pointer (some ⟨9, 63, none⟩)], .iface 102 (.agg #[.pointer (some ⟨9, 63, none⟩)])]).run Tryz.prog w = .ok (.bool true) w := by kernel_rfl
theorem assignCN (w : World) : (ReflectliteType.relation "AssignableTo" ReflectliteType.assignableTo #[.agg #[.pointer (some ⟨9, 50, none⟩)], .iface 102 (.agg #[.pointer (some ⟨9, 63, none⟩)])]).run Tryz.prog w = .ok (.bool false) w := by kernel_rfl
structure AsN (w : World) (F : Fr) (b : Option D) where
  v : Value
  x : D
  d : Nat
  h : asN d x = some b
  r : Rd Tryz.prog w F .ifc x v
  u4 : Value
  u5 : Value
  u7 : Value
  u8 : Value
  u9 : Value
  u10 : Value
  u11 : Value
  u12 : Value
  u13 : Value
  u14 : Value
  u15 : Value
  u16 : Value
  u17 : Value
  u18 : Value
  u19 : Value
  u20 : Value
  u21 : Value
  u22 : Value
  u23 : Value
  u24 : Value
  u25 : Value
  u26 : Value
  u27 : Value
  u28 : Value
  u29 : Value
  u30 : Value
  u31 : Value
  u32 : Value
  u33 : Value
  u34 : Value
  u35 : Value
  u36 : Value
  u37 : Value
  u38 : Value
  u39 : Value
  u40 : Value
  u41 : Value
  u42 : Value
  u43 : Value
  u44 : Value
  u45 : Value
  u46 : Value
  u47 : Value
  u48 : Value
  u49 : Value
  u50 : Value
  u51 : Value
  u52 : Value
  u53 : Value
  u54 : Value
  u55 : Value
  u56 : Value
  u57 : Value
  u58 : Value
  u59 : Value
  u60 : Value
  u61 : Value
def AsN.act {w : World} {F : Fr} {b : Option D} (t a : Addr) (i : AsN w F b) : Act := { tmps := #[i.v, .iface 64 (.pointer (some t)), .agg #[.pointer (some ⟨9, 64, none⟩), .pointer (some a), .int .u64 150], .iface 102 (.agg #[.pointer (some ⟨9, 63, none⟩)]), i.u4, i.u5, .pointer (some ⟨w.heap.size, 0, none⟩), i.u7, i.u8, i.u9, i.u10, i.u11, i.u12, i.u13, i.u14, i.u15, i.u16, i.u17, i.u18, i.u19, i.u20, i.u21, i.u22, i.u23, i.u24, i.u25, i.u26, i.u27, i.u28, i.u29, i.u30, i.u31, i.u32, i.u33, i.u34, i.u35, i.u36, i.u37, i.u38, i.u39, i.u40, i.u41, i.u42, i.u43, i.u44, i.u45, i.u46, i.u47, i.u48, i.u49, i.u50, i.u51, i.u52, i.u53, i.u54, i.u55, i.u56, i.u57, i.u58, i.u59, i.u60, i.u61], defers := [] }
/-- What errors.as leaves. -/
def LeftN (t : Addr) (F : Fr) (w : World) (b : Option D) (e : Ending) (w' : World) : Prop := e = .returned (.bool b.isSome) ∧ match b with
  | none => Below w.heap.size w w'
  | some x => ∃ w2 u, Below w.heap.size w w2 ∧ w' = w2.setCell t u ∧ Rd Tryz.prog w2 F (.ptr 66) x u
set_option maxHeartbeats 4000000 in
theorem as_lowN (t a : Addr) (old : Value) (w : World) (F : Fr) (b : Option D) (n0 : Nat) (x0 : D) (v0 : Value) (h0 : asN n0 x0 = some b) (hr0 : Rd Tryz.prog w F .ifc x0 v0)
    (ha : w.cell? a = some (.pointer (some t))) (ht : w.cell? t = some old) (hf : w.frozen? t = false) (hF : ∀ b, F b → b < w.heap.size) :
    Calls Tryz.prog 39 #[v0, .iface 64 (.pointer (some t)), .agg #[.pointer (some ⟨9, 64, none⟩), .pointer (some a), .int .u64 150], .iface 102 (.agg #[.pointer (some ⟨9, 63, none⟩)])] w (LeftN t F w b) := by
  have hTO := @run_callFunc_extern Tryz.prog 40 _ ReflectliteType.typeOf Tryz.func40 (by kernel_rfl) (by kernel_rfl) (by kernel_rfl) (by kernel_rfl)
  have hVO := @run_callFunc_extern Tryz.prog 36 _ (fun args => ReflectliteValue.unpack (args.getD 0 (.tuple #[]))) Tryz.func36 (by kernel_rfl) (by kernel_rfl) (by kernel_rfl) (by kernel_rfl)
  have hEL := @run_callFunc_extern Tryz.prog 52 _ (ReflectliteValue.method (ReflectliteValue.valueError "reflectlite.Value.Elem" 0) ReflectliteValue.elem) Tryz.func52 (by kernel_rfl) (by kernel_rfl) (by kernel_rfl) (by kernel_rfl)
  have hST := @run_callFunc_extern Tryz.prog 53 _ ReflectliteValue.set Tryz.func53 (by kernel_rfl) (by kernel_rfl) (by kernel_rfl) (by kernel_rfl)
  have hAS := @run_callFunc_extern Tryz.prog 120 _ (ReflectliteType.relation "AssignableTo" ReflectliteType.assignableTo) Tryz.func120 (by kernel_rfl) (by kernel_rfl) (by kernel_rfl) (by kernel_rfl)
  have mA := methodAssignableTo
  have vO := valueOfEN
  have tOF := typeOfF
  have nAF := noAsF
  have aSF := assignFN
  have uF := hasUnwrapF
  have mF := methodUnwrapF
  have tON := typeOfN
  have nAN := noAsN
  have aSN := assignNN
  have uN := hasUnwrapNt
  have mN := methodUnwrapNt
  have tOC := typeOfC
  have nAC := noAsC
  have aSC := assignCN
  have uC := noUnwrapC
  have vC := noUnwrapsC
  have hab : a.block < w.heap.size := World.block_lt_of_cell? w _ ha
  have htb : t.block < w.heap.size := World.block_lt_of_cell? w _ ht
  have ha1 : (w.alloc (.cells #[.pointer (some ⟨9, 64, none⟩), .pointer (some a), .int .u64 150] 79)).cell? a = some (.pointer (some t)) := by rw [World.cell?_alloc_lt _ _ a hab]; exact ha
  have el := elemVN a t (w.alloc (.cells #[.pointer (some ⟨9, 64, none⟩), .pointer (some a), .int .u64 150] 79)) ha1
  have st := fun (e : Addr) => setN t ⟨w.heap.size + 1, 0, none⟩ e old ((w.alloc (.cells #[.pointer (some ⟨9, 64, none⟩), .pointer (some a), .int .u64 150] 79)).alloc (.cells #[.pointer (some e)] 63))
    (by rw [World.cell?_alloc_at _ _ _ _ (by simp)]; rfl)
    (by rw [World.cell?_alloc_lt _ _ t (by simp; omega), World.cell?_alloc_lt _ _ t htb]; exact ht)
    (by rw [World.frozen?_alloc_old _ _ t (by simp; omega), World.frozen?_alloc_old _ _ t (Nat.ne_of_lt htb)]; exact hf)
  have hbel : Below w.heap.size w (w.alloc (.cells #[.pointer (some ⟨9, 64, none⟩), .pointer (some a), .int .u64 150] 79)) := (Below.refl _ _).alloc (Nat.le_refl _) _
  have hbel2 := fun (e : Addr) => hbel.alloc (Nat.le_of_lt (by simp)) (.cells #[.pointer (some e)] 63)
  have HF := Lib.hid hF
  have Hbel := Lib.hid hbel
  have Hbel2 := Lib.hid hbel2
  have Hh := Lib.hid h0
  have Hr := Lib.hid hr0
  clear h0 hr0 hbel hbel2 ha ht hf ha1 hF
  go_enter Tryz.func39, Tryz.ntmps39
  go_wp2
  refine wp_loop_rounds (n0 + 1) (rounds_ind (ι := AsN w F b) (AsN.act t a) AsN.d ?_ (n0 + 1) ⟨v0, x0, n0, Hh, Hr, _, _, _, _, _, _, _, _, _, _, _, _, _, _, _, _, _, _, _, _, _, _, _, _, _, _, _, _, _, _, _, _, _, _, _, _, _, _, _, _, _, _, _, _, _, _, _, _, _, _, _, _, _, _, _, _, _⟩ (Nat.lt_succ_self _))
  intro i n ih hlt
  have IH := Lib.hid ih
  clear ih
  obtain ⟨v, x, d, h, hr, u4, u5, u7, u8, u9, u10, u11, u12, u13, u14, u15, u16, u17, u18, u19, u20, u21, u22, u23, u24, u25, u26, u27, u28, u29, u30, u31, u32, u33, u34, u35, u36, u37, u38, u39, u40, u41, u42, u43, u44, u45, u46, u47, u48, u49, u50, u51, u52, u53, u54, u55, u56, u57, u58, u59, u60, u61⟩ := i
  replace hlt : d < n + 1 := hlt
  simp only [AsN.act]
  unfold asN at h
  split at h
  · rename_i d' tt y
    split at h
    · rename_i ht
      subst ht
      split at h
      · obtain rfl : none = b := by simpa using h
        obtain ⟨g, o, ve, hv, hc, hve⟩ := rd_faultV hr
        obtain rfl := nil_case hve
        subst hv
        have hc1 : (w.alloc (.cells #[.pointer (some ⟨9, 64, none⟩), .pointer (some a), .int .u64 150] 79)).cell? ⟨g, o + 1, none⟩ = some .nilIface := by rw [World.cell?_alloc_lt _ _ _ (World.block_lt_of_cell? w _ hc)]; exact hc
        have hgb : g < w.heap.size := World.block_lt_of_cell? w _ hc
        clear h hr hve st
        rw [rounds_succ]
        go_wp2
        go_ret
        exact ⟨rfl, Hbel⟩
      · rename_i u y'
        obtain ⟨g, o, ve, hv, hc, hve⟩ := rd_faultV hr
        obtain ⟨v', rfl⟩ := ifc_cases hve
        subst hv
        have hc1 : (w.alloc (.cells #[.pointer (some ⟨9, 64, none⟩), .pointer (some a), .int .u64 150] 79)).cell? ⟨g, o + 1, none⟩ = some (.iface u v') := by rw [World.cell?_alloc_lt _ _ _ (World.block_lt_of_cell? w _ hc)]; exact hc
        have hgb : g < w.heap.size := World.block_lt_of_cell? w _ hc
        have h' := Lib.hid h
        have hve' := Lib.hid hve
        clear h hr hve st
        rw [rounds_succ]
        go_wp2
        exact IH ⟨_, _, _, h', hve', _, _, _, _, _, _, _, _, _, _, _, _, _, _, _, _, _, _, _, _, _, _, _, _, _, _, _, _, _, _, _, _, _, _, _, _, _, _, _, _, _, _, _, _, _, _, _, _, _, _, _, _, _, _, _, _, _⟩ (by dsimp only; omega)
      · cases h
    ·
      split at h
      · rename_i ht
        subst ht
        split at h
        · rename_i p q
          obtain rfl : some (D.agg [p, q]) = b := by simpa using h
          obtain ⟨g, o, hv, hrd⟩ := rd_noteP hr
          subst hv
          have e := st ⟨g, o, none⟩
          have hb2 := Lib.hid (Hbel2 ⟨g, o, none⟩)
          have hrd' := Lib.hid hrd
          clear h hr st hrd
          rw [rounds_succ]
          go_wp2
          go_ret
          exact ⟨rfl, _, _, hb2, rfl, Rd.mono (Le.same fun b hb => Below.block (Hbel2 ⟨g, o, none⟩) b (HF b hb)) hrd'⟩
        · cases h
      ·
        split at h
        · rename_i ht
          subst ht
          obtain rfl : none = b := by simpa using h
          obtain ⟨v', hv⟩ := ifc_cases hr
          subst hv
          clear h hr st
          rw [rounds_succ]
          go_wp2
          go_ret
          exact ⟨rfl, Hbel⟩
        ·
          cases h
  · cases h
set_option maxHeartbeats 4000000 in
theorem as_someN (t : Addr) (old : Value) (w : World) (F : Fr) (b : Option D) (n0 : Nat) (q : Nat) (y : D) (v0 : Value) (h0 : asN n0 (.iface q y) = some b) (hr0 : Rd Tryz.prog w F .ifc (.iface q y) v0)
    (hg : w.cell? ⟨0, 0, none⟩ = some (.iface 102 (.agg #[.pointer (some ⟨9, 27, none⟩)]))) (ht : w.cell? t = some old) (hf : w.frozen? t = false) (hF : ∀ b, F b → b < w.heap.size) :
    Calls Tryz.prog 23 #[v0, .iface 64 (.pointer (some t))] w (LeftN t F w b) := by
  obtain ⟨v', rfl⟩ := ifc_cases hr0
  have hVO := @run_callFunc_extern Tryz.prog 36 _ (fun args => ReflectliteValue.unpack (args.getD 0 (.tuple #[]))) Tryz.func36 (by kernel_rfl) (by kernel_rfl) (by kernel_rfl) (by kernel_rfl)
  have hTY := @run_callFunc_extern Tryz.prog 37 _ (ReflectliteValue.methodAny (ReflectliteValue.valueError "reflectlite.Value.Type" 0) (fun t _ _ _ => ReflectliteType.toType t)) Tryz.func37 (by kernel_rfl) (by kernel_rfl) (by kernel_rfl) (by kernel_rfl)
  have hIN := @run_callFunc_extern Tryz.prog 38 _ (ReflectliteValue.method (ReflectliteValue.valueError "reflectlite.Value.IsNil" 0) ReflectliteValue.isNil) Tryz.func38 (by kernel_rfl) (by kernel_rfl) (by kernel_rfl) (by kernel_rfl)
  have hKD := @run_callFunc_extern Tryz.prog 108 _ (ReflectliteType.abiMethod fun t => do pure (.int .u8 (← Rtype.kind t))) Tryz.func108 (by kernel_rfl) (by kernel_rfl) (by kernel_rfl) (by kernel_rfl)
  have hEM := @run_callFunc_extern Tryz.prog 122 _ (ReflectliteType.method ReflectliteType.elem) Tryz.func122 (by kernel_rfl) (by kernel_rfl) (by kernel_rfl) (by kernel_rfl)
  have hIM := @run_callFunc_extern Tryz.prog 123 _ (ReflectliteType.relation "Implements" ReflectliteType.implements_) Tryz.func123 (by kernel_rfl) (by kernel_rfl) (by kernel_rfl) (by kernel_rfl)
  have vT := valueOfTN
  have tyT := typeTN
  have mK := methodKind
  have mE := methodElem
  have mI := methodImplements
  have kT := kindTN
  have kE := kindEN
  have eT := elemTN
  have iE := implEN
  have htb : t.block < w.heap.size := World.block_lt_of_cell? w _ ht
  have hlt : 0 < w.heap.size := World.block_lt_of_cell? w _ hg
  have inl := isNilTN ⟨w.heap.size, 0, none⟩ t ((w.alloc (.cells #[.pointer (some t)] 64)).alloc (.cells #[.pointer (some ⟨9, 64, none⟩), .pointer (some ⟨w.heap.size, 0, none⟩), .int .u64 150] 79)) (by simp)
  have hg2 : ((w.alloc (.cells #[.pointer (some t)] 64)).alloc (.cells #[.pointer (some ⟨9, 64, none⟩), .pointer (some ⟨w.heap.size, 0, none⟩), .int .u64 150] 79)).cell? ⟨0, 0, none⟩ = some (.iface 102 (.agg #[.pointer (some ⟨9, 27, none⟩)])) := by
    rw [World.cell?_alloc_lt _ _ ⟨0, 0, none⟩ (by simp <;> omega), World.cell?_alloc_lt _ _ ⟨0, 0, none⟩ hlt]; exact hg
  have hbel : Below w.heap.size w ((w.alloc (.cells #[.pointer (some t)] 64)).alloc (.cells #[.pointer (some ⟨9, 64, none⟩), .pointer (some ⟨w.heap.size, 0, none⟩), .int .u64 150] 79)) := ((Below.refl _ _).alloc (Nat.le_refl _) _).alloc (Nat.le_of_lt (by simp)) _
  have hlow := as_lowN t ⟨w.heap.size, 0, none⟩ old ((w.alloc (.cells #[.pointer (some t)] 64)).alloc (.cells #[.pointer (some ⟨9, 64, none⟩), .pointer (some ⟨w.heap.size, 0, none⟩), .int .u64 150] 79)) F b n0 _ _ h0 (Rd.mono (Le.same fun b hb => hbel.block b (hF b hb)) hr0) (by rw [World.cell?_alloc_lt _ _ ⟨w.heap.size, 0, none⟩ (by simp)]; simp)
    (by rw [World.cell?_alloc_lt _ _ t (by simp; omega), World.cell?_alloc_lt _ _ t htb]; exact ht)
    (by rw [World.frozen?_alloc_old _ _ t (by simp; omega), World.frozen?_alloc_old _ _ t (Nat.ne_of_lt htb)]; exact hf) (fun b hb => Nat.lt_of_lt_of_le (hF b hb) (by simp; omega))
  have Hlow := Lib.hid hlow
  have Hbel := Lib.hid hbel
  clear h0 hr0 ht hf hF hlow hbel hg
  go_enter Tryz.func23, Tryz.ntmps23
  go_wp2_with fail
  refine Calls.mono Hlow ?_
  rintro e w1 ⟨rfl, hleft⟩
  have Hleft := Lib.hid hleft
  clear hleft
  go_wp2
  go_ret
  refine ⟨rfl, ?_⟩
  cases b with
  | none => exact Below.trans Hbel (Below.mono Hleft (Below.size Hbel))
  | some x =>
    obtain ⟨w2, u, h1, h2, h3⟩ := Hleft
    exact ⟨w2, u, Below.trans Hbel (Below.mono h1 (Below.size Hbel)), h2, h3⟩
end Go.Proofs.YtnaemggpelolcaaGreatDoor.AsD
