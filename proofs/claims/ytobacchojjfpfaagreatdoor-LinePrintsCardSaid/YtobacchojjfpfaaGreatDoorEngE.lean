/-
  A reader of Go functions, part E: the other operations.
-/
import Derived.Test.YtobacchojjfpfaaGreatDoorEngD
namespace Go.Proofs.YtobacchojjfpfaaGreatDoor.Eng
set_option linter.unusedVariables false
set_option linter.unusedSimpArgs false

section
variable {P : Program} {w : World} {F : Fr} {ρ : List D} {β : Nat → Value}
variable {X : Cx} {st : St} {a : Act}
theorem fieldOf_spec {s : TypeId} {f : Nat} {fl : Field} (h : fieldOf P s f = some fl) : ∃ fs, P.underlying s = some (.struct fs) ∧ fs[f]? = some fl := by
  unfold fieldOf at h
  split at h
  · rename_i fs hu; exact ⟨fs, hu, h⟩
  · cases h
theorem run_fieldAt {s : TypeId} {f : Nat} {fl : Field} (h : fieldOf P s f = some fl) {n : Nat} (hn : szOf P fl.type = some (n + 1)) (b o : Nat) :
    (Instr.fieldAt s (.pointer (some ⟨b, o, none⟩)) f).run P w = .ok (.pointer (some ⟨b, o + fl.offset, none⟩)) w := by
  obtain ⟨fs, hu, hf⟩ := fieldOf_spec h
  simp [Instr.fieldAt, run_und hu, hf, Instr.sureAddr, fieldPlace, run_szOf hn, addr_add]
theorem came_fieldAddr (hs : Sat X ρ st F β a w) {o : Oper} {s : TypeId} {x : Operand} {f : Nat} (ho : o.op = .fieldAddr s x f) {es : List E} {sv : SV} {nb : Option Box} (h : evFieldAddr X.P st s x f = some (es, sv, nb)) (hes : ∀ e ∈ es, (den ρ e).toBool = true) (nn : Nat) :
    Came X.P w F ρ β nn sv nb ((execOp a.eval o).run X.P w) := by
  unfold evFieldAddr at h
  split at h
  · rename_i fl hf
    split at h
    · rename_i n hn
      split at h
      · rename_i m off hx
        simp [ev1] at h; obtain ⟨rfl, rfl, rfl⟩ := h
        obtain ⟨b, h1, h2⟩ := opC_sound hs hx
        exact ⟨_, by simp [execOp, ho, h2, run_fieldAt hf hn], b, h1, rfl⟩
      · rename_i t la i c hx
        simp [ev1] at h; obtain ⟨rfl, rfl, rfl⟩ := h
        obtain ⟨b, o', len, cap, ts, h1, h2, h3, h4, h5⟩ := opC_sound hs hx
        refine ⟨.pointer (some ⟨b, o' + (den ρ i).toInt.toNat * ts.length + c + fl.offset, none⟩), ?_, b, o', len, cap, ts, h1, h2, h3, h4, by rw [← Nat.add_assoc]⟩
        simp [execOp, ho, h5, run_fieldAt hf hn]
      · rename_i t la c hx
        simp [ev1] at h; obtain ⟨rfl, rfl, rfl⟩ := h
        obtain ⟨b, o', h1, h5⟩ := opC_sound hs hx
        refine ⟨.pointer (some ⟨b, o' + c + fl.offset, none⟩), ?_, b, o', h1, by rw [← Nat.add_assoc]⟩
        simp [execOp, ho, h5, run_fieldAt hf hn]
      · rename_i m t i c hx
        simp [ev1] at h; obtain ⟨rfl, rfl, rfl⟩ := h
        obtain ⟨b, o', len, cap, ts, h1, h2, h3, h4, h5⟩ := opC_sound hs hx
        refine ⟨.pointer (some ⟨b, o' + (den ρ i).toInt.toNat * ts.length + c + fl.offset, none⟩), ?_, b, o', len, cap, ts, h1, h2, h3, h4, by rw [← Nat.add_assoc]⟩
        simp [execOp, ho, h5, run_fieldAt hf hn]
      · rename_i x' hx
        split at h
        · rename_i es' t a' c has
          cases h
          obtain ⟨n', b, h1, h2, h3, h4⟩ := asH_sound has hs.cf.2 hes (opC_sound hs hx)
          refine ⟨.pointer (some ⟨b, c + fl.offset, none⟩), ?_, n', b, h1, h2, h3, rfl⟩
          simp [execOp, ho, h4, run_fieldAt hf hn]
        · split at h
          · rename_i e la _ _ _ _
            split at h
            · cases h
            rename_i hcl
            simp at h; obtain ⟨rfl, rfl, rfl⟩ := h
            have hr : Rd X.P w F (.ptr e) (den ρ la) (a.eval x) := opC_sound hs hx
            obtain ⟨b, o', hv⟩ := ptr_of hr (hes _ (List.mem_singleton.2 rfl)) (by rw [hs.cf.2]; simpa using hcl)
            refine ⟨.pointer (some ⟨b, o' + fl.offset, none⟩), ?_, b, o', by rw [← hv]; exact hr, rfl⟩
            simp [execOp, ho, hv, run_fieldAt hf hn]
          · cases h
      · cases h
    · cases h
  · cases h
theorem came_field (hs : Sat X ρ st F β a w) {o : Oper} {s : TypeId} {x : Operand} {f : Nat} (ho : o.op = .field s x f) {es : List E} {sv : SV} {nb : Option Box} (h : evField X.P st s x f = some (es, sv, nb)) (nn : Nat) :
    Came X.P w F ρ β nn sv nb ((execOp a.eval o).run X.P w) := by
  unfold evField at h
  split at h
  · rename_i fl hf
    split at h
    · rename_i cs hx
      obtain ⟨sv', hp, e⟩ := map_one h
      cases e
      obtain ⟨vs, e, hl⟩ := opV_sound hs hx
      obtain ⟨fs, hu, hf'⟩ := fieldOf_spec hf
      obtain ⟨v, hv1, hv2⟩ := pick_part hp hl
      exact ⟨v, by simp [execOp, ho, e, Instr.field, run_und hu, hf', asAgg, hv1], hv2⟩
    · cases h
  · cases h
theorem eqIn_bool {t : TypeId} (hu : P.underlying t = some .bool) (n : Nat) (a b : Bool) : (Op.equalIn (n + 1) t (.bool a) (.bool b)).run P w = .ok (a == b) w := by
  simp [Op.equalIn, run_und hu]
theorem eqIn_int {t : TypeId} {k0 : IntKind} (hu : P.underlying t = some (.int k0)) (n : Nat) (k : IntKind) (a b : Int) : (Op.equalIn (n + 1) t (.int k a) (.int k b)).run P w = .ok (a == b) w := by
  simp [Op.equalIn, run_und hu]
theorem eqIn_str {t : TypeId} (hu : P.underlying t = some .string) (n : Nat) (a b : ByteArray) : (Op.equalIn (n + 1) t (.string a) (.string b)).run P w = .ok (a == b) w := by
  simp [Op.equalIn, run_und hu]
theorem eqIn_nil {t : TypeId} {ms : Array (String × TypeId)} (hu : P.underlying t = some (.interface ms)) (n : Nat) : (Op.equalIn (n + 1) t .nilIface .nilIface).run P w = .ok true w := by
  simp [Op.equalIn, run_und hu]
theorem eqIn_iface {t u : TypeId} {v : Value} {ms : Array (String × TypeId)} (hu : P.underlying t = some (.interface ms)) (n : Nat) : (Op.equalIn (n + 1) t (.iface u v) .nilIface).run P w = .ok false w := by
  simp [Op.equalIn, run_und hu]
theorem eqIn_pnil {t e : TypeId} (hu : P.underlying t = some (.pointer e)) (n : Nat) : (Op.equalIn (n + 1) t (.pointer none) (.pointer none)).run P w = .ok true w := by
  simp [Op.equalIn, run_und hu]
theorem eqIn_ptr {t e : TypeId} (hu : P.underlying t = some (.pointer e)) (n : Nat) (x : Addr) : (Op.equalIn (n + 1) t (.pointer (some x)) (.pointer none)).run P w = .ok false w := by
  simp [Op.equalIn, run_und hu]
/-- '==' and '!=' on what 'equal' parts. -/
theorem run_eq {t : TypeId} {x y : Operand} {u v : Value} {b : Bool} (hb : binOp .eql t u v = (do pure (.bool (← Op.equal t u v)))) (hg : (eqGuard .eql t x y u v).run P w = .ok () w) (he : (Op.equalIn (9999 + 1) t u v).run P w = .ok b w) :
    (do eqGuard .eql t x y u v; binOp .eql t u v : Sem Value).run P w = .ok (.bool b) w := by
  have he' : (Op.equal t u v).run P w = .ok b w := he
  rw [hb]
  simp only [Sem.run_bind, hg, Result.andThen_ok, he', Sem.run_pure]
theorem run_ne {t : TypeId} {x y : Operand} {u v : Value} {b : Bool} (hb : binOp .neq t u v = (do pure (.bool (!(← Op.equal t u v))))) (hg : (eqGuard .neq t x y u v).run P w = .ok () w) (he : (Op.equalIn (9999 + 1) t u v).run P w = .ok b w) :
    (do eqGuard .neq t x y u v; binOp .neq t u v : Sem Value).run P w = .ok (.bool !b) w := by
  have he' : (Op.equal t u v).run P w = .ok b w := he
  rw [hb]
  simp only [Sem.run_bind, hg, Result.andThen_ok, he', Sem.run_pure]
theorem int_sound {op : BinOp} {t : TypeId} {k k' : IntKind} {a b : E} {es : List E} {c : C} (h : bin P op t (.dat (.int k) a) (.dat (.int k') b) = some (es, c))
    (hes : ∀ e ∈ es, (den ρ e).toBool = true) {x y : Operand} :
    ∃ v, (do eqGuard op t x y (.int k (den ρ a).toInt) (.int k' (den ρ b).toInt); binOp op t (.int k (den ρ a).toInt) (.int k' (den ρ b).toInt) : Sem Value).run P w = .ok v w ∧ RC P w F ρ β c v := by
  cases op <;> simp only [bin, Option.some.injEq, Prod.mk.injEq] at h
  case shl | shr =>
    obtain ⟨rfl, rfl⟩ := h
    have hge : ¬ (den ρ b).toInt < 0 := by
      have := hes _ (List.mem_singleton.2 rfl)
      simpa [den_mkCmp, cmpF, den] using this
    refine ⟨_, ?_, Rd.int rfl⟩
    rw [den_mkAr]
    simp [eqGuard, binOp, Op.shift, hge, arF]
  all_goals
    split at h
    · rename_i hk
      subst hk
      simp only [Option.some.injEq, Prod.mk.injEq] at h
      obtain ⟨rfl, rfl⟩ := h
      first
        | (refine ⟨_, ?_, Rd.bool rfl⟩; rw [den_mkCmp]; simp [eqGuard, binOp, Op.intCmp, cmpF]; done)
        | (refine ⟨_, ?_, Rd.int rfl⟩; rw [den_mkAr]; simp [eqGuard, binOp, Op.intArith, Op.intBits, arF]; done)
        | (have hne : (den ρ b).toInt ≠ 0 := by
             have := hes _ (List.mem_singleton.2 rfl)
             simpa [den_mkCmp, cmpF, den] using this
           refine ⟨_, ?_, Rd.int rfl⟩
           rw [den_mkAr]
           simp [eqGuard, binOp, Op.intDiv, hne, arF]; done)
    · cases h
theorem bin_sound {op : BinOp} {t : TypeId} {cx cy c : C} {es : List E} (h : bin P op t cx cy = some (es, c)) {vx vy : Value} (hx : RC P w F ρ β cx vx) (hy : RC P w F ρ β cy vy)
    (hes : ∀ e ∈ es, (den ρ e).toBool = true) {x y : Operand} (hi : ∀ e, cy = .dat .ifc e → isConst y = true) :
    ∃ v, (do eqGuard op t x y vx vy; binOp op t vx vy : Sem Value).run P w = .ok v w ∧ RC P w F ρ β c v := by
  unfold bin at h
  split at h
  · -- ints
    rename_i k a' k' b'
    have e1 := hx.int_inv
    have e2 := hy.int_inv
    subst e1 e2
    exact int_sound (P := P) (t := t) (by simpa only [bin] using h) hes
  · -- bools
    rename_i a' b'
    have e1 := hx.bool_inv
    have e2 := hy.bool_inv
    subst e1 e2
    split at h
    · rename_i hu
      simp only [Option.some.injEq, Prod.mk.injEq] at h; obtain ⟨rfl, rfl⟩ := h
      exact ⟨_, run_eq (by simp [binOp]) (by simp [eqGuard]) (eqIn_bool hu _ _ _), Rd.bool (by rw [den_mkBeq]; rfl)⟩
    · rename_i hu
      simp only [Option.some.injEq, Prod.mk.injEq] at h; obtain ⟨rfl, rfl⟩ := h
      exact ⟨_, run_ne (by simp [binOp]) (by simp [eqGuard]) (eqIn_bool hu _ _ _), Rd.bool (by rw [den_mkNot, den_mkBeq]; rfl)⟩
    · cases h
  · -- strings
    rename_i a' b'
    have e1 := hx.str_inv
    have e2 := hy.str_inv
    subst e1 e2
    cases op <;> simp only [reduceCtorEq, Option.some.injEq, Prod.mk.injEq] at h
    case add =>
      obtain ⟨rfl, rfl⟩ := h
      have h2 : ((den ρ a').toStr.size : Int) ≤ 4611686018427387903 := by
        have := hes (.cmp .leq (.slen a') (.int 4611686018427387903)) (by simp)
        exact of_decide_eq_true this
      have h3 : ((den ρ b').toStr.size : Int) ≤ 4611686018427387903 := by
        have := hes (.cmp .leq (.slen b') (.int 4611686018427387903)) (by simp)
        exact of_decide_eq_true this
      have hn : ¬ (((den ρ a').toStr.size + (den ρ b').toStr.size : Nat) : Int) > IntKind.i64.max := by
        have hm : IntKind.i64.max = 9223372036854775807 := by rfl
        rw [hm]; omega
      refine ⟨.string ((den ρ a').toStr ++ (den ρ b').toStr), ?_, Rd.str rfl⟩
      simp only [eqGuard, binOp, Op.stringOp, Sem.run_bind]
      rw [if_neg hn]
      rfl
    all_goals
      obtain ⟨rfl, rfl⟩ := h
      refine ⟨_, ?_, Rd.bool rfl⟩
      simp [eqGuard, binOp, Op.stringOp, den, scmpF]
  · -- an interface value against nil
    rename_i a'
    have hy' : Rd P w F .ifc .nil vy := hy
    have e2 : vy = .nilIface := by
      cases hy' with
      | inil _ e => exact e
      | iface e => cases e
    subst e2
    have hc := hi _ rfl
    have hyc : ∃ u, y = .const u := by cases y <;> simp [isConst] at hc; exact ⟨_, rfl⟩
    obtain ⟨u, rfl⟩ := hyc
    split at h
    · rename_i ms hu
      simp only [Option.some.injEq, Prod.mk.injEq] at h; obtain ⟨rfl, rfl⟩ := h
      cases hx with
      | inil e1 e2 => subst e2; exact ⟨_, run_eq (by simp [binOp]) (by simp [eqGuard]) (eqIn_nil hu _), Rd.bool (by rw [den_mkIsnil, e1]; rfl)⟩
      | iface e1 e2 _ _ => subst e2; exact ⟨_, run_eq (by simp [binOp]) (by simp [eqGuard]) (eqIn_iface hu _), Rd.bool (by rw [den_mkIsnil, e1]; rfl)⟩
    · rename_i ms hu
      simp only [Option.some.injEq, Prod.mk.injEq] at h; obtain ⟨rfl, rfl⟩ := h
      cases hx with
      | inil e1 e2 => subst e2; exact ⟨_, run_ne (by simp [binOp]) (by simp [eqGuard]) (eqIn_nil hu _), Rd.bool (by rw [den_mkNot, den_mkIsnil, e1]; rfl)⟩
      | iface e1 e2 _ _ => subst e2; exact ⟨_, run_ne (by simp [binOp]) (by simp [eqGuard]) (eqIn_iface hu _), Rd.bool (by rw [den_mkNot, den_mkIsnil, e1]; rfl)⟩
    · cases h
  · -- a pointer that reads as data against nil
    rename_i e' a'
    have e2 : vy = .pointer none := hy
    subst e2
    split at h
    · rename_i el hu
      simp only [Option.some.injEq, Prod.mk.injEq] at h; obtain ⟨rfl, rfl⟩ := h
      cases hx with
      | pnil e1 e2 => subst e2; exact ⟨_, run_eq (by simp [binOp]) (by simp [eqGuard]) (eqIn_pnil hu _), Rd.bool (by rw [den_mkIsnil, e1]; rfl)⟩
      | href _ e1 _ e2 => subst e2; exact ⟨_, run_eq (by simp [binOp]) (by simp [eqGuard]) (eqIn_ptr hu _ _), Rd.bool (by rw [den_mkIsnil, e1]; rfl)⟩
      | ptr _ e1 e2 _ _ _ _ _ => subst e2; exact ⟨_, run_eq (by simp [binOp]) (by simp [eqGuard]) (eqIn_ptr hu _ _), Rd.bool (by rw [den_mkIsnil, e1]; rfl)⟩
    · rename_i el hu
      simp only [Option.some.injEq, Prod.mk.injEq] at h; obtain ⟨rfl, rfl⟩ := h
      cases hx with
      | pnil e1 e2 => subst e2; exact ⟨_, run_ne (by simp [binOp]) (by simp [eqGuard]) (eqIn_pnil hu _), Rd.bool (by rw [den_mkNot, den_mkIsnil, e1]; rfl)⟩
      | href _ e1 _ e2 => subst e2; exact ⟨_, run_ne (by simp [binOp]) (by simp [eqGuard]) (eqIn_ptr hu _ _), Rd.bool (by rw [den_mkNot, den_mkIsnil, e1]; rfl)⟩
      | ptr _ e1 e2 _ _ _ _ _ => subst e2; exact ⟨_, run_ne (by simp [binOp]) (by simp [eqGuard]) (eqIn_ptr hu _ _), Rd.bool (by rw [den_mkNot, den_mkIsnil, e1]; rfl)⟩
    · cases h
  · -- a pointer to a box against nil
    rename_i n off
    have e2 : vy = .pointer none := hy
    obtain ⟨b, _, e1⟩ := hx
    subst e1 e2
    split at h
    · rename_i el hu
      simp only [Option.some.injEq, Prod.mk.injEq] at h; obtain ⟨rfl, rfl⟩ := h
      exact ⟨_, run_eq (by simp [binOp]) (by simp [eqGuard]) (eqIn_ptr hu _ _), Rd.bool rfl⟩
    · rename_i el hu
      simp only [Option.some.injEq, Prod.mk.injEq] at h; obtain ⟨rfl, rfl⟩ := h
      exact ⟨_, run_ne (by simp [binOp]) (by simp [eqGuard]) (eqIn_ptr hu _ _), Rd.bool rfl⟩
    · cases h
  · -- a pointer to a thing of the heap against nil
    have e2 : vy = .pointer none := hy
    obtain ⟨n, b, _, _, _, e1⟩ := hx
    subst e1 e2
    split at h
    · rename_i el hu
      simp only [Option.some.injEq, Prod.mk.injEq] at h; obtain ⟨rfl, rfl⟩ := h
      exact ⟨_, run_eq (by simp [binOp]) (by simp [eqGuard]) (eqIn_ptr hu _ _), Rd.bool rfl⟩
    · rename_i el hu
      simp only [Option.some.injEq, Prod.mk.injEq] at h; obtain ⟨rfl, rfl⟩ := h
      exact ⟨_, run_ne (by simp [binOp]) (by simp [eqGuard]) (eqIn_ptr hu _ _), Rd.bool rfl⟩
    · cases h
  · cases h
theorem came_un (hs : Sat X ρ st F β a w) {o : Oper} {op : UnOp} {t : TypeId} {x : Operand} (ho : o.op = .unOp op t x) {es : List E} {sv : SV} {nb : Option Box} (h : evUn st op x = some (es, sv, nb)) (nn : Nat) :
    Came X.P w F ρ β nn sv nb ((execOp a.eval o).run X.P w) := by
  unfold evUn at h
  split at h
  · rename_i e hx
    simp [ev1] at h; obtain ⟨rfl, rfl, rfl⟩ := h
    have e1 := (opC_sound hs hx).bool_inv
    exact ⟨_, by simp [execOp, ho, e1, Op.unary]; rfl, Rd.bool (by rw [den_mkNot])⟩
  · rename_i k e hx
    simp [ev1] at h; obtain ⟨rfl, rfl, rfl⟩ := h
    have e1 := (opC_sound hs hx).int_inv
    refine ⟨.int k (arF .sub k 0 (den ρ e).toInt), ?_, Rd.int (by rw [den_mkAr]; rfl)⟩
    simp [execOp, ho, e1, Op.unary, Op.intArith, arF]
  · rename_i k e hx
    simp [ev1] at h; obtain ⟨rfl, rfl, rfl⟩ := h
    have e1 := (opC_sound hs hx).int_inv
    refine ⟨.int k (arF .xor k (if k.signed then -1 else k.max) (den ρ e).toInt), ?_, Rd.int (by rw [den_mkAr]; rfl)⟩
    simp [execOp, ho, e1, Op.unary, Op.intBits, arF]
  · cases h
theorem came_conv (hs : Sat X ρ st F β a w) {o : Oper} {s d : TypeId} {x : Operand} (ho : o.op = .convert s d x) {es : List E} {sv : SV} {nb : Option Box} (h : evConv X.P st s d x = some (es, sv, nb)) (nn : Nat) :
    Came X.P w F ρ β nn sv nb ((execOp a.eval o).run X.P w) := by
  unfold evConv at h
  split at h
  · rename_i k0 k k1 e h1 h2 hx
    simp [ev1] at h; obtain ⟨rfl, rfl, rfl⟩ := h
    have e1 := (opC_sound hs hx).int_inv
    exact ⟨_, by simp [execOp, ho, e1, convert, run_und h1, run_und h2, Conv.intToInt]; rfl, Rd.int (by rw [den_mkConv]; rfl)⟩
  · rename_i e h1 h2 hx
    simp [ev1] at h; obtain ⟨rfl, rfl, rfl⟩ := h
    have e1 := (opC_sound hs hx).str_inv
    exact ⟨_, by simp [execOp, ho, e1, convert, run_und h1, run_und h2], Rd.str rfl⟩
  · cases h
theorem tyOf_und {t : TypeId} {u : Ty} (h : tyOf P t = some u) : ∃ d, P.underlying t = some d ∧ (u ≠ .ifc → ∀ ms, d ≠ .interface ms) := by
  unfold tyOf at h
  split at h <;> simp at h <;> subst h <;> exact ⟨_, by assumption, by simp⟩
theorem came_mkif (hs : Sat X ρ st F β a w) {o : Oper} {t : TypeId} {x : Operand} (ho : o.op = .makeInterface t x) {es : List E} {sv : SV} {nb : Option Box} (h : evMkIf X.P st t x = some (es, sv, nb)) (nn : Nat) :
    Came X.P w F ρ β nn sv nb ((execOp a.eval o).run X.P w) := by
  unfold evMkIf at h
  split at h
  · rename_i u u' e ht hx
    split at h
    · rename_i hu
      obtain ⟨rfl, hne⟩ := hu
      simp [ev1] at h; obtain ⟨rfl, rfl, rfl⟩ := h
      have hr := opC_sound hs hx
      obtain ⟨d, hd, hnd⟩ := tyOf_und ht
      refine ⟨.iface t (a.eval x), ?_, Rd.iface rfl rfl ht hne hr⟩
      simp only [execOp, ho, Instr.makeInterface, Sem.run_bind, run_und hd, Result.andThen_ok]
      split
      · exact absurd rfl (hnd hne _)
      · rfl
    · cases h
  · cases h
theorem came_extract (hs : Sat X ρ st F β a w) {o : Oper} {x : Operand} {i : Nat} (ho : o.op = .extract x i) {es : List E} {sv : SV} {nb : Option Box} (h : evExtract st x i = some (es, sv, nb)) (nn : Nat) :
    Came X.P w F ρ β nn sv nb ((execOp a.eval o).run X.P w) := by
  unfold evExtract at h
  split at h
  · rename_i l hx
    obtain ⟨v1, hi, e⟩ := map_one h
    cases e
    obtain ⟨vs, e, hl, hr⟩ := opV_sound hs hx
    have hlt : i < vs.length := by rw [← hl]; exact (List.getElem?_eq_some_iff.1 hi).1
    have hv : vs[i]? = some vs[i] := List.getElem?_eq_getElem hlt
    have h1 := hr i _ _ hi hv
    refine ⟨vs[i], by simp [execOp, ho, e, Instr.extract, hv], ?_⟩
    cases v1 <;> exact h1
  · cases h
theorem came_len (hs : Sat X ρ st F β a w) {o : Oper} {t : TypeId} {x : Operand} (ho : o.op = .call { callee := .builtin .len, args := #[x], argTypes := #[t] }) {es : List E} {sv : SV} {nb : Option Box} (h : evLen X.P st t x = some (es, sv, nb)) (nn : Nat) :
    Came X.P w F ρ β nn sv nb ((execOp a.eval o).run X.P w) := by
  unfold evLen at h
  split at h
  · rename_i e' e'' la hu hx
    simp [ev1] at h; obtain ⟨rfl, rfl, rfl⟩ := h
    have hr := opC_sound hs hx
    have : ∃ A cap, a.eval x = .slice A (den ρ la).toL.length cap := by
      cases hr with
      | snil e1 e2 => exact ⟨_, _, by rw [e2, e1]; rfl⟩
      | slice e1 _ e3 _ _ _ _ => exact ⟨_, _, by rw [e1, e3]⟩
    obtain ⟨A, cap, e⟩ := this
    exact ⟨_, by simp [execOp, ho, resolve, invoke, builtin, Builtin.len_, run_und hu, e]; rfl, Rd.int rfl⟩
  · rename_i e' hu hx
    simp [ev1] at h; obtain ⟨rfl, rfl, rfl⟩ := h
    have e : a.eval x = .slice none 0 0 := opC_sound hs hx
    exact ⟨_, by simp [execOp, ho, resolve, invoke, builtin, Builtin.len_, run_und hu, e]; rfl, Rd.int rfl⟩
  · rename_i e' m hu hx
    split at h
    · rename_i e'' y hb
      simp [ev1] at h; obtain ⟨rfl, rfl, rfl⟩ := h
      have hv : a.eval x = β m := opC_sound hs hx
      obtain ⟨ts, xs, _, ⟨_, hr⟩, _⟩ := rowOf_sound hs hb
      rcases hr with ⟨⟨A, hr⟩, hn⟩ | ⟨g, cap, cur, hr, _⟩
      · exact ⟨.int .i64 (den ρ y).toL.length, by rw [hn]; simp [execOp, ho, resolve, invoke, builtin, Builtin.len_, run_und hu, hv, hr]; rfl, Rd.int rfl⟩
      · exact ⟨.int .i64 (den ρ y).toL.length, by simp [execOp, ho, resolve, invoke, builtin, Builtin.len_, run_und hu, hv, hr]; rfl, Rd.int rfl⟩
    · cases h
  · rename_i e' n len hu hx
    simp [ev1] at h; obtain ⟨rfl, rfl, rfl⟩ := h
    obtain ⟨b, h1, h2⟩ := opC_sound hs hx
    exact ⟨.int .i64 len, by simp [execOp, ho, resolve, invoke, builtin, Builtin.len_, run_und hu, h2]; rfl, Rd.int rfl⟩
  · rename_i la hu hx
    simp [ev1] at h; obtain ⟨rfl, rfl, rfl⟩ := h
    have e := (opC_sound hs hx).str_inv
    exact ⟨_, by simp [execOp, ho, resolve, invoke, builtin, Builtin.len_, run_und hu, e]; rfl, Rd.int rfl⟩
  · rename_i k' e' m hu hx
    split at h
    · rename_i t' y hb
      simp [ev1] at h; obtain ⟨rfl, rfl, rfl⟩ := h
      have hv : a.eval x = β m := opC_sound hs hx
      obtain ⟨b, _, _, _, _, _, _, es', v1, _, _, _, _, _, v7, v8, _⟩ := hs.bx m _ hb
      exact ⟨.int .i64 (den ρ y).toL.length, by simp [execOp, ho, resolve, invoke, builtin, Builtin.len_, run_und hu, hv, v1, Go.MapKept.run_getObj_map v7, v8]; rfl, Rd.int rfl⟩
    · cases h
  · cases h
end
end Go.Proofs.YtobacchojjfpfaaGreatDoor.Eng
