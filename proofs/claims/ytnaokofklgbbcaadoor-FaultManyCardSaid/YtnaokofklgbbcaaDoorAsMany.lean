/-
  errors.as of several errors at target code, the first of which has a code.
-/
import Derived.Test.YtnaokofklgbbcaaDoorAs
import Derived.Test.YtnaokofklgbbcaaDoorIsMany
namespace Go.Proofs.YtnaokofklgbbcaaDoor.AsD
open Go.RowKit Go.Extern.Stop Go.Stop Go.Extern Go.Proofs.YtnaokofklgbbcaaDoor.Eng Go.Proofs.YtnaokofklgbbcaaDoor Go.Proofs.YtnaokofklgbbcaaDoor.ErrD Go.Proofs.YtnaokofklgbbcaaDoor.IsD
set_option linter.unusedSimpArgs false
set_option linter.unusedVariables false
theorem typeOfA (v : Value) (w : World) : (ReflectliteType.typeOf #[.iface 61 v]).run Tryd.prog w = .ok (.iface 73 (.agg #[.pointer (some ⟨1, 61, none⟩)])) w := by kernel_rfl
theorem noAsA (v : Value) (xT : TypeId) (w : World) : (Instr.typeAssert (.iface 61 v) xT 84 true).run Tryd.prog w = .ok (.tuple #[.nilIface, .bool false]) w := run_typeAssert_lacksB Tryd.underlying84 (by kernel_rfl) (by kernel_rfl) v xT w
theorem assignAC (w : World) : (ReflectliteType.relation "AssignableTo" ReflectliteType.assignableTo #[.agg #[.pointer (some ⟨1, 61, none⟩)], .iface 73 (.agg #[.pointer (some ⟨1, 27, none⟩)])]).run Tryd.prog w = .ok (.bool false) w := by kernel_rfl
set_option maxHeartbeats 4000000 in
theorem as_manyC (t a : Addr) (old : Value) (w : World) (F : Fr) (y' : D) (n0 : Nat) (u : Nat) (y : D) (v' : Value) (b o len cap : Nat) (h0 : asC n0 (.iface u y) = some (some y')) (hlen : 0 < len)
    (hc : w.cell? ⟨b, o, none⟩ = some (.iface u v')) (hr0 : Rd Tryd.prog w F .ifc (.iface u y) (.iface u v'))
    (ha : w.cell? a = some (.pointer (some t))) (ht : w.cell? t = some old) (hf : w.frozen? t = false) (hF : ∀ b, F b → b < w.heap.size) :
    Calls Tryd.prog 25 #[.iface 61 (.slice (some ⟨b, o, none⟩) len cap), .iface 56 (.pointer (some t)), .agg #[.pointer (some ⟨1, 56, none⟩), .pointer (some a), .int .u64 150], .iface 73 (.agg #[.pointer (some ⟨1, 27, none⟩)])] w (LeftC t F w (some y')) := by
  have hTO := @run_callFunc_extern Tryd.prog 20 _ ReflectliteType.typeOf Tryd.func20 (by kernel_rfl) (by kernel_rfl) (by kernel_rfl) (by kernel_rfl)
  have hAS := @run_callFunc_extern Tryd.prog 56 _ (ReflectliteType.relation "AssignableTo" ReflectliteType.assignableTo) Tryd.func56 (by kernel_rfl) (by kernel_rfl) (by kernel_rfl) (by kernel_rfl)
  have mA := methodAssignableTo
  have tOA := typeOfA
  have nAA := noAsA
  have aSA := assignAC
  have uA := noUnwrapA
  have vA := hasUnwrapsA
  have mUA := methodUnwrapsA
  have hab : a.block < w.heap.size := World.block_lt_of_cell? w _ ha
  have htb : t.block < w.heap.size := World.block_lt_of_cell? w _ ht
  have hbb : b < w.heap.size := World.block_lt_of_cell? w _ hc
  have ha1 : (w.alloc (.cells #[.pointer (some ⟨1, 56, none⟩), .pointer (some a), .int .u64 150] 65)).cell? a = some (.pointer (some t)) := by rw [World.cell?_alloc_lt _ _ a hab]; exact ha
  have hc1 : (w.alloc (.cells #[.pointer (some ⟨1, 56, none⟩), .pointer (some a), .int .u64 150] 65)).cell? ⟨b, o, none⟩ = some (.iface u v') := by rw [World.cell?_alloc_lt _ _ ⟨b, o, none⟩ hbb]; exact hc
  have hbel : Below w.heap.size w (w.alloc (.cells #[.pointer (some ⟨1, 56, none⟩), .pointer (some a), .int .u64 150] 65)) := (Below.refl _ _).alloc (Nat.le_refl _) _
  have hlow := as_lowC t a old (w.alloc (.cells #[.pointer (some ⟨1, 56, none⟩), .pointer (some a), .int .u64 150] 65)) F (some y') n0 _ _ h0 (Rd.mono (Le.same fun b hb => hbel.block b (hF b hb)) hr0) ha1
    (by rw [World.cell?_alloc_lt _ _ t htb]; exact ht) (by rw [World.frozen?_alloc_old _ _ t (Nat.ne_of_lt htb)]; exact hf) (fun b hb => Nat.lt_of_lt_of_le (hF b hb) (by simp))
  have Hlow := Lib.hid hlow
  have Hbel := Lib.hid hbel
  clear h0 hr0 hbel ha ht hf ha1 hF hlow hc
  go_enter Tryd.func25, Tryd.ntmps25
  go_wp2
  refine wp_loop_rounds 1 ?_
  rw [rounds_succ]
  go_wp2
  refine wp_loop_rounds 1 ?_
  rw [rounds_succ]
  go_wp2_with fail
  refine Calls.mono Hlow ?_
  rintro e w1 ⟨rfl, hleft⟩
  have Hleft := Lib.hid hleft
  clear hleft
  go_wp2
  go_ret
  refine ⟨rfl, ?_⟩
  obtain ⟨w2, u, h1, h2, h3⟩ := Hleft
  exact ⟨w2, u, Below.trans Hbel (Below.mono h1 (Below.size Hbel)), h2, h3⟩
set_option maxHeartbeats 4000000 in
theorem as_someA (t : Addr) (old : Value) (w : World) (F : Fr) (y' : D) (n0 : Nat) (u : Nat) (y : D) (l : List D) (v0 : Value) (h0 : asC n0 (.iface u y) = some (some y')) (hr0 : Rd Tryd.prog w F .ifc (.iface 61 (.agg (.iface u y :: l))) v0)
    (hg : w.cell? ⟨0, 0, none⟩ = some (.iface 73 (.agg #[.pointer (some ⟨1, 25, none⟩)]))) (ht : w.cell? t = some old) (hf : w.frozen? t = false) (hF : ∀ b, F b → b < w.heap.size) :
    Calls Tryd.prog 19 #[v0, .iface 56 (.pointer (some t))] w (LeftC t F w (some y')) := by
  obtain ⟨A, cap, rfl, hA⟩ := rd_allV hr0
  obtain ⟨b, o, rfl, hcells⟩ := hA.resolve_left (by simp)
  obtain ⟨v', hc0, hrx⟩ := hcells 0 _ rfl
  rw [Nat.add_zero] at hc0
  obtain ⟨vi, rfl⟩ := ifc_cases hrx
  have hbb : b < w.heap.size := World.block_lt_of_cell? w _ hc0
  have hVO := @run_callFunc_extern Tryd.prog 22 _ (fun args => ReflectliteValue.unpack (args.getD 0 (.tuple #[]))) Tryd.func22 (by kernel_rfl) (by kernel_rfl) (by kernel_rfl) (by kernel_rfl)
  have hTY := @run_callFunc_extern Tryd.prog 23 _ (ReflectliteValue.methodAny (ReflectliteValue.valueError "reflectlite.Value.Type" 0) (fun t _ _ _ => ReflectliteType.toType t)) Tryd.func23 (by kernel_rfl) (by kernel_rfl) (by kernel_rfl) (by kernel_rfl)
  have hIN := @run_callFunc_extern Tryd.prog 24 _ (ReflectliteValue.method (ReflectliteValue.valueError "reflectlite.Value.IsNil" 0) ReflectliteValue.isNil) Tryd.func24 (by kernel_rfl) (by kernel_rfl) (by kernel_rfl) (by kernel_rfl)
  have hKD := @run_callFunc_extern Tryd.prog 42 _ (ReflectliteType.abiMethod fun t => do pure (.int .u8 (← Rtype.kind t))) Tryd.func42 (by kernel_rfl) (by kernel_rfl) (by kernel_rfl) (by kernel_rfl)
  have hEM := @run_callFunc_extern Tryd.prog 58 _ (ReflectliteType.method ReflectliteType.elem) Tryd.func58 (by kernel_rfl) (by kernel_rfl) (by kernel_rfl) (by kernel_rfl)
  have hIM := @run_callFunc_extern Tryd.prog 59 _ (ReflectliteType.relation "Implements" ReflectliteType.implements_) Tryd.func59 (by kernel_rfl) (by kernel_rfl) (by kernel_rfl) (by kernel_rfl)
  have vT := valueOfTC
  have tyT := typeTC
  have mK := methodKind
  have mE := methodElem
  have mI := methodImplements
  have kT := kindTC
  have kE := kindEC
  have eT := elemTC
  have iE := implEC
  have htb : t.block < w.heap.size := World.block_lt_of_cell? w _ ht
  have hlt : 0 < w.heap.size := World.block_lt_of_cell? w _ hg
  have inl := isNilTC ⟨w.heap.size, 0, none⟩ t ((w.alloc (.cells #[.pointer (some t)] 56)).alloc (.cells #[.pointer (some ⟨1, 56, none⟩), .pointer (some ⟨w.heap.size, 0, none⟩), .int .u64 150] 65)) (by simp)
  have hg2 : ((w.alloc (.cells #[.pointer (some t)] 56)).alloc (.cells #[.pointer (some ⟨1, 56, none⟩), .pointer (some ⟨w.heap.size, 0, none⟩), .int .u64 150] 65)).cell? ⟨0, 0, none⟩ = some (.iface 73 (.agg #[.pointer (some ⟨1, 25, none⟩)])) := by
    rw [World.cell?_alloc_lt _ _ ⟨0, 0, none⟩ (by simp), World.cell?_alloc_lt _ _ ⟨0, 0, none⟩ hlt]; exact hg
  have hbel : Below w.heap.size w ((w.alloc (.cells #[.pointer (some t)] 56)).alloc (.cells #[.pointer (some ⟨1, 56, none⟩), .pointer (some ⟨w.heap.size, 0, none⟩), .int .u64 150] 65)) := ((Below.refl _ _).alloc (Nat.le_refl _) _).alloc (Nat.le_of_lt (by simp)) _
  have hlow := as_manyC t ⟨w.heap.size, 0, none⟩ old ((w.alloc (.cells #[.pointer (some t)] 56)).alloc (.cells #[.pointer (some ⟨1, 56, none⟩), .pointer (some ⟨w.heap.size, 0, none⟩), .int .u64 150] 65)) F y' n0 _ _ vi b o (l.length + 1) cap h0 (by omega) (by rw [World.cell?_alloc_lt _ _ ⟨b, o, none⟩ (by simp; omega), World.cell?_alloc_lt _ _ ⟨b, o, none⟩ hbb]; exact hc0) (Rd.mono (Le.same fun b hb => hbel.block b (hF b hb)) hrx) (by rw [World.cell?_alloc_lt _ _ ⟨w.heap.size, 0, none⟩ (by simp)]; simp)
    (by rw [World.cell?_alloc_lt _ _ t (by simp; omega), World.cell?_alloc_lt _ _ t htb]; exact ht)
    (by rw [World.frozen?_alloc_old _ _ t (by simp; omega), World.frozen?_alloc_old _ _ t (Nat.ne_of_lt htb)]; exact hf) (fun b hb => Nat.lt_of_lt_of_le (hF b hb) (by simp; omega))
  have Hlow := Lib.hid hlow
  have Hbel := Lib.hid hbel
  clear h0 hr0 ht hf hF hlow hbel hg
  go_enter Tryd.func19, Tryd.ntmps19
  go_wp2_with fail
  refine Calls.mono Hlow ?_
  rintro e w1 ⟨rfl, hleft⟩
  have Hleft := Lib.hid hleft
  clear hleft
  go_wp2
  go_ret
  refine ⟨rfl, ?_⟩
  obtain ⟨w2, u, h1, h2, h3⟩ := Hleft
  exact ⟨w2, u, Below.trans Hbel (Below.mono h1 (Below.size Hbel)), h2, h3⟩
end Go.Proofs.YtnaokofklgbbcaaDoor.AsD
