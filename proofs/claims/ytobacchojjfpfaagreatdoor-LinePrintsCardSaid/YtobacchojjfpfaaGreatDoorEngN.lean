/-
  A reader of Go functions, part N: regions that draw their order.
-/
import Derived.Test.YtobacchojjfpfaaGreatDoorEngJ
import Derived.Test.YtobacchojjfpfaaGreatDoorEngO
namespace Go.Proofs.YtobacchojjfpfaaGreatDoor.Eng
open Go.RowKit
set_option linter.unusedVariables false
set_option linter.unusedSimpArgs false

structure Rec where
  i : Nat
  dst : Option Tmp
  sv : SV
  nb : Option (Nat × Box)
  /-- A store: the box, the first cell, what is stored. -/
  wr : Option (Nat × Nat × List C)
  deriving DecidableEq, Inhabited
def selTm (R : List Rec) (sel : Nat → Bool) : List (Nat × SV) := R.filterMap fun r => if sel r.i then r.dst.map (fun d => (d, r.sv)) else none
def selBx (R : List Rec) (sel : Nat → Bool) : List (Nat × Box) := R.filterMap fun r => if sel r.i then r.nb else none
/-- Boxes that are stored into are seen by nobody ahead of the tail. -/
def vis (sa : List Nat) (r : Rec) : Bool := match r.dst with | some t => !sa.contains t | none => true
def locSt (st0 : St) (R : List Rec) (sa : List Nat) (sel : Nat → Bool) : St := { st0 with tm := selTm R sel ++ st0.tm, bx := selBx (R.filter (vis sa)) sel ++ st0.bx }
/-- A box's cells behind those stores into it that are chosen. -/
def wrCells (R : List Rec) (sel : Nat → Bool) (n : Nat) (cs : List C) : List C := R.foldl (fun cs r => match r.wr with | some (m, off, xs) => if m = n ∧ sel r.i = true then putCells cs off xs else cs | none => cs) cs
def wrBox (bxF : List (Nat × Box)) (R : List Rec) (sel : Nat → Bool) (w : Nat × Nat × List C) : Option (Nat × Box) :=
  match bxF.lookup w.1 with
  | some (.box t cs) => some (w.1, .box t (wrCells R sel w.1 cs))
  | _ => none
def selWr (bxF : List (Nat × Box)) (R : List Rec) (sel : Nat → Bool) : List (Nat × Box) := R.filterMap fun r => if sel r.i then r.wr.bind (wrBox bxF R sel) else none
/-- Boxes as they are ahead of all stores. -/
def bxA (bxF : List (Nat × Box)) (R : List Rec) : List (Nat × Box) := R.filterMap (·.nb) ++ bxF
/-- With the boxes that are stored into. -/
def locFull (st0 : St) (bxF : List (Nat × Box)) (R : List Rec) (sel : Nat → Bool) : St := { st0 with tm := selTm R sel ++ st0.tm, bx := selWr (bxA bxF R) R sel ++ (selBx R sel ++ bxF) }
def direct (o : Oper) : List Nat := (o.after.toList.filter (Region.binds .any)).map (·.on)
/-- What must be done ahead of each operation, as bits. -/
def predsGo : List (List Nat) → List Nat → List Nat
  | [], acc => acc
  | d :: l, acc => predsGo l (acc ++ [d.foldl (fun m j => m ||| (1 <<< j ||| acc.getD j 0)) 0])
/-- All that stands ahead of it must be done ahead of it. -/
def isFull (preds : List Nat) (t : Nat) : Bool := (List.range t).all fun j => (preds.getD t 0).testBit j
def headLen (n : Nat) (preds : List Nat) : Nat := n - ((List.range n).reverse.takeWhile (isFull preds)).length

section
variable (P : Program) (nt : Nat)
def hdOp (st : St) (o : Oper) (K : SV → Option Box → Nat → T) : T :=
  match evV P st o.op o.type with
  | some (es, sv, nb) => needs es (K sv nb 0)
  | none => match o.op with
    | .call c => match c.callee with
      | .value x => match opC st x with
        | some (.fn f) => (match sigOf P st.cf f, opVL st c.args.toList with
          | some (ps, rs, hm), some vs => (match callArgs P st ps rs hm vs, heapArg st hm with
            | some es, some hs => if hm ≤ 1 ∧ (rowBx rs st.nv).length ≤ 1 ∧ consumed ps vs = [] then .call f (es ++ hs) (shSize rs) (K (resSV rs st.nv st.nn) (rowBx rs st.nv).head? (shSize rs)) else .fail 39
            | _, _ => .fail 40)
          | _, _ => .fail 41)
        | _ => .fail 42
      | _ => .fail 42
    | .buildSlice t n parts => match evB P st t n parts with
      | some sv => K sv none 0
      | none => .fail 52
    | _ => .fail 43
def hdG (ops : Array Oper) (st : St) (o : Oper) (K : SV → Option Box → Nat → List (E × Bool) → T) : T :=
  match o.guard with
  | none => if winHere o ops.toList then (match o.op with
      | .slice t x lo hi mx => match evWin P st t x lo hi mx with
        | some (es, sv) => needs es (K sv none 0 st.fs)
        | none => .fail 138
      | _ => .fail 139) else hdOp P st o fun sv nb k => K sv nb k st.fs
  | some (j, want) => match (ops[j]?).bind (·.dst) with
    | some d => match st.tm.lookup d with
      | some (.one (.dat .bool e)) => match known st e with
        | some b => if b = want then hdOp P st o fun sv nb k => K sv nb k st.fs else K (.tup []) none 0 st.fs
        | none => .ite e
            (if want then hdOp P { st with fs := addFact e true st.fs } o fun sv nb k => K sv nb k (addFact e true st.fs) else K (.tup []) none 0 (addFact e true st.fs))
            (if want then K (.tup []) none 0 (addFact e false st.fs) else hdOp P { st with fs := addFact e false st.fs } o fun sv nb k => K sv nb k (addFact e false st.fs))
      | some (.tup _) => K (.tup []) none 0 st.fs
      | _ => .fail 44
    | none => .fail 45
/-- A store that is always done, into a box of the call's own. -/
def storeOf (st : St) (o : Oper) : Option (Nat × Nat × List C) :=
  match o.op with
  | .store t x v => match opC st x, opV st v with
    | some (.ptr n off), some sv => match sv.cells with
      | some xs => if szOf P t = some xs.length ∧ o.dst = none ∧ o.guard = none then some (n, off, xs) else none
      | none => none
    | _, _ => none
  | _ => none
def runD (ops : Array Oper) (preds sa : List Nat) : List (Oper × Nat) → St → List Rec → (St → List Rec → T) → T
  | [], st0, R, K => K st0 R
  | (o, i) :: l, st0, R, K =>
    let sti := locSt st0 R sa (fun j => (preds.getD i 0).testBit j)
    match storeOf P sti o with
    | some (n, off, xs) => frN n fun n => frN off fun off => frL frC xs fun xs =>
      if xs.all (C.sc st0.nv) then runD ops preds sa l st0 (R ++ [⟨i, none, .tup [], none, some (n, off, xs)⟩]) K else .fail 56
    | none =>
    if okDst nt o.dst then
      hdG P ops sti o fun sv nb k fs => frSV sv fun sv => frO nb fun nb => frN (st0.nv + k) fun nv => frN (st0.nn + 1) fun nn =>
        if sv.sc (st0.nv + k) && nb.all (fun b => b.sc (st0.nv + k) && b.noN st0.nn) then
          runD ops preds sa l { st0 with nv := nv, nn := nn, fs := fs } (R ++ [⟨i, o.dst, sv, nb.map fun b => (st0.nn, b), none⟩]) K
        else .fail 46
    else .fail 47
/-- Names and slots lie apart. -/
def apartR (preds sa : List Nat) (st0 : St) (bxF : List (Nat × Box)) (R : List Rec) : Bool :=
  R.all fun r =>
    (match r.dst with | some t => (st0.tm.lookup t).isNone && R.all (fun q => q.dst != some t || q.i == r.i) | none => true) &&
    (match r.nb with
     | some (n, _) => st0.tm.all (fun p => p.2.noN n) && bxF.all (fun p => p.1 != n && p.2.noN n) &&
        R.all fun q => q.i == r.i || ((preds.getD q.i 0).testBit r.i || (q.sv.noN n && (q.nb.all fun p => p.2.noN n) && q.wr.all fun p => p.2.2.all (C.noN n))) && q.nb.all fun p => p.1 != n
     | none => true) &&
    (match r.wr with
     | some (n, off, xs) => (st0.bx.lookup n).isNone && (match (bxA bxF R).lookup n with | some (.box _ cs) => decide (off + xs.length ≤ cs.length) | _ => false) && r.dst.isNone && r.nb.isNone &&
        (R.all fun q => q.i == r.i || q.wr.all fun p => p.1 != n || decide (r.i < q.i) || (preds.getD r.i 0).testBit q.i) && R.all fun q => q.nb.all fun p => p.1 != n || ((preds.getD r.i 0).testBit q.i && !vis sa q)
     | none => true)
/-- The box that an address lies in, as far as can be seen ahead. -/
def baseN (ops : List Oper) (st : St) : Nat → Operand → Option Nat
  | 0, _ => none
  | k + 1, x => match opC st x with
    | some (.ptr n _) => some n
    | _ => match x with
      | .tmp t => match ops.find? (fun o => o.dst == some t) with
        | some o => match o.op with
          | .fieldAddr _ y _ => baseN ops st k y
          | .indexAddr _ y _ => baseN ops st k y
          | .nilCheck y => baseN ops st k y
          | .move y => baseN ops st k y
          | _ => none
        | none => none
      | _ => none
def basesOf (ops : List Oper) (st : St) : List Nat := ops.filterMap fun o => match o.op with | .store _ x _ => baseN ops st 6 x | _ => none
/-- Moves of values that nothing stands against: they may be thought of as done first. -/
def isMove (o : Oper) : Bool := match o.op, o.guard, o.dst with | .move _, none, some _ => true | _, _, _ => false
def floatGo (ops : Array Oper) : List (Oper × Nat) → Array Bool → List Nat → List Nat
  | [], _, acc => acc
  | (o, i) :: l, listed, acc => if isMove o && (direct o).all (acc.contains ·) && Region.free .any ops listed i then floatGo ops l (listed.setIfInBounds i true) (acc ++ [i]) else floatGo ops l listed acc
def floatOk (ops : Array Oper) : List Nat → Array Bool → Bool
  | [], _ => true
  | i :: l, listed => (match ops.toList[i]? with | some o => isMove o | none => false) && Region.free .any ops listed i && (Region.ready .any ops listed).contains i && floatOk ops l (listed.setIfInBounds i true)
/-- What must not be met in any order. -/
def isHard (o : Oper) : Bool := match o.op with
  | .call c => match c.callee with
    | .builtin .append | .builtin .copy | .builtin .clear => true
    | _ => false
  | _ => false
def floats (ops : Array Oper) (l : List Oper) : List Nat :=
  if (l.take (headLen l.length (predsGo (l.map direct) []))).any isHard then floatGo ops l.zipIdx (Array.replicate ops.size false) [] else []
def directF (fl : List Nat) (p : Oper × Nat) : List Nat := direct p.1 ++ fl.filter (fun k => decide (k < p.2))
def isAlloc (o : Oper) (t : Nat) : Bool := match o.op with | .alloc _ | .box _ _ => decide (o.dst = some t) | _ => false
/-- What is allocated here and stored into here. -/
def saOf (hd : List Oper) : List Nat := hd.filterMap fun o => match o.op with
  | .store _ (.tmp t) _ => if hd.any (fun q => isAlloc q t) then some t else none
  | _ => none
def doDraw (ops : Array Oper) (st : St) (K : St → T) : T :=
  let l := ops.toList
  frL frN (floats ops l) fun fl =>
  frL (frL frN) (l.map direct) fun ds => frL frN (predsGo (l.zipIdx.map (directF fl)) []) fun preds => frN (fl.foldl (fun m i => max m (i + 1)) (headLen l.length preds)) fun m =>
  let hd := l.take m
  frL frN (hd.filterMap (·.dst)) fun dsts => frL (fun p k => k p) (st.tm.filter fun p => !dsts.contains p.1) fun tm0 =>
  frL frN (basesOf hd st) fun bs => frL frN (saOf hd) fun sa =>
  let st0 := { st with tm := tm0, bx := st.bx.filter fun p => !bs.contains p.1 }
  if st.sc && P.follows .mixedOrders && (List.range l.length).all (fun t => (decide (t < m) || isFull preds t) && match ds[t]? with | some d => d.all (fun j => decide (j < t)) | none => true) && (fl.isEmpty || (Region.noSelect ops && floatOk ops fl (Array.replicate ops.size false) && fl.all (fun i => decide (i < m)) && decide (fl.Pairwise (· < ·)))) && decide (m ≤ l.length) then
    runD P nt ops preds sa hd.zipIdx st0 [] fun st1 R =>
      if apartR preds sa st0 st.bx R && decide (R.map (·.i) = List.range m) then doOps P nt ops (l.drop m) (locFull st1 st.bx R fun _ => true) K else .fail 48
  else .fail 49
end

/-! Lookups in what was chosen. -/
theorem lookup_append {α : Type} (t : Nat) : ∀ (l1 l2 : List (Nat × α)), (l1 ++ l2).lookup t = (l1.lookup t).or (l2.lookup t)
  | [], l2 => by simp
  | (k, v) :: l1, l2 => by
    rw [List.cons_append, List.lookup_cons, List.lookup_cons]
    split
    · rfl
    · exact lookup_append t l1 l2
theorem sel_lookup {α : Type} {R : List Rec} {f : Rec → Option (Nat × α)} {t : Nat} {x : α} (h : (R.filterMap f).lookup t = some x) : ∃ r ∈ R, f r = some (t, x) := by
  have := mem_of_lookup h
  obtain ⟨r, h1, h2⟩ := List.mem_filterMap.1 this
  exact ⟨r, h1, h2⟩
theorem sel_none {α : Type} {R : List Rec} {f : Rec → Option (Nat × α)} {t : Nat} : (R.filterMap f).lookup t = none ↔ ∀ r ∈ R, ∀ x, f r ≠ some (t, x) := by
  induction R with
  | nil => simp
  | cons r R ih =>
    rw [List.filterMap_cons]
    cases hf : f r with
    | none =>
      simp only [ih, List.mem_cons, forall_eq_or_imp, hf]
      simp
    | some p =>
      obtain ⟨k, y⟩ := p
      rw [List.lookup_cons]
      by_cases hk : t = k
      · subst hk
        simp only [beq_self_eq_true, List.mem_cons, forall_eq_or_imp, hf]
        simp
      · have : (t == k) = false := by simpa using hk
        simp only [this, ih, List.mem_cons, forall_eq_or_imp, hf]
        simp [Ne.symm hk]
theorem sel_some {α : Type} {R : List Rec} {f : Rec → Option (Nat × α)} {t : Nat} {x : α} {r : Rec} (hr : r ∈ R) (hf : f r = some (t, x)) (hu : ∀ q ∈ R, ∀ y, f q = some (t, y) → y = x) : (R.filterMap f).lookup t = some x := by
  cases h : (R.filterMap f).lookup t with
  | none => exact absurd hf (sel_none.1 h r hr x)
  | some y =>
    obtain ⟨q, q1, q2⟩ := sel_lookup h
    rw [hu q q1 y q2]
section
variable {X : Cx} {Fs : Nat → Fn} {fuel : Nat} {ρ : List D} {st st' : St} {Ft : Fr} {β : Nat → Value} {a : Act} {w : World}
theorem Sat.sub (hs : Sat X ρ st Ft β a w) (h1 : ∀ t sv, st'.tm.lookup t = some sv → st.tm.lookup t = some sv) (h2 : ∀ n x, st'.bx.lookup n = some x → st.bx.lookup n = some x) (h3 : ∀ p ∈ st'.fs, p ∈ st.fs) (h4 : st'.key = st.key ∧ st'.cf = st.cf := by exact ⟨rfl, rfl⟩) : Sat X ρ st' Ft β a w :=
  ⟨hs.df, hs.sz, fun b hb => ⟨(hs.ft b hb).1, fun n x hx => (hs.ft b hb).2 n x (h2 n x hx)⟩, fun t sv ht => hs.tm t sv (h1 t sv ht), fun n x hx => hs.bx n x (h2 n x hx),
    fun n m x y k hx hy => hs.inj n m x y k (h2 n x hx) (h2 m y hy), fun n x k hx => hs.own n x k (h2 n x hx), hs.chg, fun e b hm => hs.fs e b (h3 _ hm), hs.on, hs.f0, hs.gx, ⟨h4.2.trans hs.cf.1, by rw [h4.2]; exact hs.cf.2⟩, hs.hg.less (fun n x hx => ⟨x, h2 n x hx, .inl rfl⟩) (congrArg Prod.snd h4.1) (congrArg Prod.fst h4.1) h4.2, by rw [show st'.hp = st.hp from congrArg Prod.snd h4.1]; exact hs.fw⟩
structure OutD (X : Cx) (ρ : List D) (Ft : Fr) (β : Nat → Value) (w : World) (sv : SV) (nb : Option (Nat × Box)) (v : Value) (w' : World) (Ft' : Fr) (β' : Nat → Value) : Prop where
  bl : Below w.heap.size w w'
  ft : ∀ b, Ft' b → Ft b ∨ (w.heap.size ≤ b ∧ b < w'.heap.size)
  rv : RV X.P w' Ft' ρ β' sv v
  be : ∀ n, (∀ p, nb = some p → n ≠ p.1) → β' n = β n
  on : ∀ n, (β' n).oneCell' = true
  bx : ∀ n b, nb = some (n, b) → BoxOk X.P w' Ft' ρ β' b (β' n) ∧ ∀ k, b.bk (β' n) = some k → w.heap.size ≤ k ∧ k < w'.heap.size ∧ ¬ Ft' k
  gh : Ft'.γ = Ft.γ ∧ Ft'.hc = Ft.hc
theorem updN_id (β β' : Nat → Value) (m : Nat) (h : ∀ n, n ≠ m → β' n = β n) : β' = updN β m (β' m) := by
  funext n
  unfold updN
  split
  · rename_i e; rw [e]
  · rename_i e; exact h n e
theorem Sat.add (hs : Sat X ρ st Ft β a w) {dst : Option Tmp} {sv : SV} {nb : Option (Nat × Box)} {v : Value} {w' : World} {Ft' : Fr} {β' : Nat → Value} (ho : OutD X ρ Ft β w sv nb v w' Ft' β') (hd : okDst X.nt dst = true)
    (h1 : ∀ t s, st'.tm.lookup t = some s → (dst = some t ∧ s = sv) ∨ (dst ≠ some t ∧ st.tm.lookup t = some s))
    (h2 : ∀ n x, st'.bx.lookup n = some x → nb = some (n, x) ∨ ((∀ p, nb = some p → n ≠ p.1) ∧ st.bx.lookup n = some x)) (h3 : ∀ p ∈ st'.fs, p ∈ st.fs)
    (hn : ∀ n b, nb = some (n, b) → (∀ t s, st.tm.lookup t = some s → s.noN n = true) ∧ ∀ m x, st.bx.lookup m = some x → x.noN n = true) (h4 : st'.key = st.key ∧ st'.cf = st.cf) :
    Sat X ρ st' (Ft.or fun b => Ft' b) β' (a.put dst v) w' := by
  obtain ⟨p1, p2, p3, p4⟩ := tmps_put hd hs.sz v
  have hb := ho.bl
  have hf : Le w Ft w' (Ft.or fun b => Ft' b) := Le.or fun b h => hb.block b (hs.ft b h).1
  have hf' : Le w' Ft' w' (Ft.or fun b => Ft' b) := ⟨fun b h => ⟨.inr h, rfl⟩, by show Ft'.γ <+: Ft.γ; rw [ho.gh.1]; exact List.prefix_refl _, ho.gh.2.symm⟩
  have hmv : ∀ s u, (∀ n b, nb = some (n, b) → s.noN n = true) → RV X.P w Ft ρ β s u → RV X.P w' (Ft.or fun b => Ft' b) ρ β' s u := by
    intro s u hno hr
    have q := hr.mono hf
    cases hnb : nb with
    | none =>
      have : β' = β := funext fun n => ho.be n (fun p hp => by rw [hnb] at hp; cases hp)
      rw [this]; exact q
    | some p =>
      obtain ⟨n, b⟩ := p
      have : β' = updN β n (β' n) := updN_id β β' n (fun m hm => ho.be m (fun p hp => by rw [hnb] at hp; cases hp; exact hm))
      rw [this]
      exact q.updN (hno n b hnb)
  have hmb : ∀ x u, (∀ n b, nb = some (n, b) → x.noN n = true) → BoxOk X.P w' (Ft.or fun b => Ft' b) ρ β x u → BoxOk X.P w' (Ft.or fun b => Ft' b) ρ β' x u := by
    intro x u hno hr
    cases hnb : nb with
    | none =>
      have : β' = β := funext fun n => ho.be n (fun p hp => by rw [hnb] at hp; cases hp)
      rw [this]; exact hr
    | some p =>
      obtain ⟨n, b⟩ := p
      have : β' = updN β n (β' n) := updN_id β β' n (fun m hm => ho.be m (fun p hp => by rw [hnb] at hp; cases hp; exact hm))
      rw [this]
      have hno' := hno n b hnb
      cases x with
      | box t cs => obtain ⟨b, vs, q1, q2, q3⟩ := hr; exact ⟨b, vs, q1, q2, q3.updN hno'⟩
      | vec e x => exact hr
      | view t x c => exact hr
      | map t x => exact hr
  refine ⟨by rw [p2]; exact hs.df, p1, ?_, ?_, ?_, ?_, ?_, chg_kept hs.chg hb, fun e b hm => hs.fs e b (h3 _ hm), ho.on, ?_, hs.gx, ⟨h4.2.trans hs.cf.1, by rw [h4.2]; exact hs.cf.2⟩, ?_, ⟨fun b h => .inl (hs.fw.1 b h), by rw [show st'.hp = st.hp from congrArg Prod.snd h4.1]; exact hs.fw.2⟩⟩
  rotate_right
  · refine hs.hg.move hf rfl (fun k hk => ⟨hb.block k hk.1, Nat.lt_of_lt_of_le hk.1 hb.size, (fun h => h.elim hk.2.1 fun h => (ho.ft k h).elim hk.2.1 fun h => by have := hk.1; omega), fun n x hx he => ?_⟩) (congrArg Prod.snd h4.1) (congrArg Prod.fst h4.1) h4.2
    rcases h2 n x hx with hnb | ⟨hne, hx'⟩
    · have := (ho.bx n x hnb).2 k he
      have := hk.1
      omega
    · rw [ho.be n hne] at he
      exact hk.2.2 n x hx' he
  · intro b hbb
    have hlt : b < w'.heap.size := by
      rcases hbb with h | h
      · exact Nat.lt_of_lt_of_le (hs.ft b h).1 hb.size
      · rcases ho.ft b h with h | h
        · exact Nat.lt_of_lt_of_le (hs.ft b h).1 hb.size
        · exact h.2
    refine ⟨hlt, fun n x hx he => ?_⟩
    rcases h2 n x hx with hnb | ⟨hne, hx'⟩
    · obtain ⟨q1, q2, q3⟩ := (ho.bx n x hnb).2 b he
      rcases hbb with h | h
      · have := (hs.ft b h).1; omega
      · exact q3 h
    · rw [ho.be n hne] at he
      rcases hbb with h | h
      · exact (hs.ft b h).2 n x hx' he
      · rcases ho.ft b h with h | h
        · exact (hs.ft b h).2 n x hx' he
        · have := (hs.own n x b hx' he).1; omega
  · intro t s ht
    rcases h1 t s ht with ⟨e1, rfl⟩ | ⟨e1, ht'⟩
    · exact ⟨v, p3 t e1, ho.rv.mono hf'⟩
    · obtain ⟨u, u1, u2⟩ := hs.tm t s ht'
      exact ⟨u, by rw [p4 t e1]; exact u1, hmv s u (fun n b hnb => (hn n b hnb).1 t s ht') u2⟩
  · intro n x hx
    rcases h2 n x hx with hnb | ⟨hne, hx'⟩
    · exact (ho.bx n x hnb).1.mono hf' (fun k hk => rfl) (fun n b t h _ => rfl)
    · rw [ho.be n hne]
      exact hmb x _ (fun m b hnb => (hn m b hnb).2 n x hx') ((hs.bx n x hx').mono hf (fun k hk => hb.block k (hs.own n x k hx' hk).1) (fun n b t h _ => hb.block b (hs.hg.gm n b t h).1))
  · intro n m x y k hx hy e1 e2
    rcases h2 n x hx with hnb | ⟨hne, hx'⟩ <;> rcases h2 m y hy with hmb' | ⟨hme, hy'⟩
    · rw [hnb] at hmb'; cases hmb'; rfl
    · have q := (ho.bx n x hnb).2 k e1
      rw [ho.be m hme] at e2
      have := (hs.own m y k hy' e2).1
      omega
    · have q := (ho.bx m y hmb').2 k e2
      rw [ho.be n hne] at e1
      have := (hs.own n x k hx' e1).1
      omega
    · rw [ho.be n hne] at e1
      rw [ho.be m hme] at e2
      exact hs.inj n m x y k hx' hy' e1 e2
  · intro n x k hx hk
    rcases h2 n x hx with hnb | ⟨hne, hx'⟩
    · have q := (ho.bx n x hnb).2 k hk
      exact ⟨q.2.1, .inr (Nat.le_trans hs.chg.size q.1)⟩
    · rw [ho.be n hne] at hk
      have q := hs.own n x k hx' hk
      exact ⟨Nat.lt_of_lt_of_le q.1 hb.size, q.2⟩
  · rintro b (h | h)
    · exact hs.f0 b h
    · rcases ho.ft b h with h | h
      · exact hs.f0 b h
      · exact .inr (.inl (Nat.le_trans hs.chg.size h.1))
/-- More variables turn nothing of what an operation left. -/
theorem OutD.ext {sv : SV} {nb : Option (Nat × Box)} {v : Value} {w' : World} {Ft' : Fr} {β' : Nat → Value} (h : OutD X ρ Ft β w sv nb v w' Ft' β') (r : List D) (h1 : sv.sc ρ.length = true) (h2 : ∀ p, nb = some p → p.2.sc ρ.length = true) : OutD X (ρ ++ r) Ft β w sv nb v w' Ft' β' :=
  ⟨h.bl, h.ft, h.rv.ext r h1, h.be, h.on, fun n b hnb => ⟨(h.bx n b hnb).1.ext r (h2 _ hnb), (h.bx n b hnb).2⟩, h.gh⟩
/-- What an operation of a drawn region does from any state that holds what it looks at. -/
def StepD (X : Cx) (ρ : List D) (ops : Array Oper) (sti : St) (o : Oper) (sv : SV) (nb : Option (Nat × Box)) : Prop :=
  ∀ (Ft : Fr) (β : Nat → Value) (a : Act) (w : World), Sat X ρ sti Ft β a w → ∀ (next : Act → World → Prop) (Q : Exit → Act → World → Prop), (∀ v w' Ft' β', OutD X ρ Ft β w sv nb v w' Ft' β' → next (a.put o.dst v) w') →
    if Region.wanted o (yielded ops a.tmps) then o.wp X.P a w next Q ∨ (o.asks X.P a w ∧ LetsOut Q) else next (a.put o.dst undef) w
/-- The same without its guard. -/
def StepO (X : Cx) (ρ : List D) (sti : St) (o : Oper) (sv : SV) (nb : Option (Nat × Box)) : Prop :=
  ∀ (Ft : Fr) (β : Nat → Value) (a : Act) (w : World), Sat X ρ sti Ft β a w → ∀ (next : Act → World → Prop) (Q : Exit → Act → World → Prop), (∀ v w' Ft' β', OutD X ρ Ft β w sv nb v w' Ft' β' → next (a.put o.dst v) w') → o.wp X.P a w next Q
theorem hdOp_sound (hF : FsOk X.G X.P Fs) {o : Oper} {K : SV → Option Box → Nat → T} {L : List Fn} {r : List D} (he : eval Fs fuel (hdOp X.P st o K) L ρ = some r) (hnv : st.nv = ρ.length) (hsc : st.sc = true) :
    ∃ ext sv nb k, ext.length = k ∧ eval Fs fuel (K sv nb k) L (ρ ++ ext) = some r ∧ ((∀ b, nb = some b → b.noN st.nn = true) → StepO X (ρ ++ ext) { st with nv := st.nv + k } o sv (nb.map fun b => (st.nn, b))) := by
  unfold hdOp at he
  split at he
  · rename_i es sv nb hev
    obtain ⟨hes, he2⟩ := needs_sound he
    refine ⟨[], sv, nb, 0, rfl, by rw [List.append_nil]; exact he2, ?_⟩
    intro hno Ft β a w hs next Q HK
    rw [List.append_nil] at hs HK
    have hs' : Sat X ρ st Ft β a w := hs.sub (fun _ _ h => h) (fun _ _ h => h) (fun _ h => h)
    have hcame := evV_sound hs'.on hs' hev hes
    unfold Oper.wp
    unfold Came at hcame
    split at hcame
    · obtain ⟨v, e1, hv⟩ := hcame
      rw [e1]
      exact HK v w Ft β ⟨Below.refl _ _, fun b hb => .inl hb, hv, fun n _ => rfl, hs.on, (fun n b hnb => by cases hnb), ⟨rfl, rfl⟩⟩
    · rename_i t cs
      obtain ⟨vs, e1, rfl, hl⟩ := hcame
      rw [e1]
      have hb := below_alloc w (.cells vs.toArray t)
      have hf : Le w Ft (w.alloc (.cells vs.toArray t)) Ft := Le.same fun b h => hb.block b (hs.ft b h).1
      refine HK _ _ Ft (updN β st.nn (.pointer (some ⟨w.heap.size, 0, none⟩))) ⟨hb, fun b hb => .inl hb, ⟨w.heap.size, by simp [updN], rfl⟩, ?_, ?_, ?_, ⟨rfl, rfl⟩⟩
      · intro n hn
        have : n ≠ st.nn := hn (st.nn, .box t cs) rfl
        simp [updN, this]
      · intro n
        unfold updN
        split
        · rfl
        · exact hs.on n
      · intro n b hnb
        simp only [Option.map_some, Option.some.injEq, Prod.mk.injEq] at hnb
        obtain ⟨rfl, rfl⟩ := hnb
        refine ⟨⟨w.heap.size, vs, by simp [updN], heap_alloc_new w _, (hl.mono hf).updN (hno _ rfl)⟩, ?_⟩
        intro k hk
        simp [updN, bk] at hk
        subst hk
        exact ⟨Nat.le_refl _, by rw [heap_size_alloc]; omega, fun h => Nat.lt_irrefl _ (hs.ft _ h).1⟩
    · rename_i t x c
      obtain ⟨v, e1, rfl, hv, h1⟩ := hcame
      rw [e1]
      refine HK v w Ft (updN β st.nn v) ⟨Below.refl _ _, fun b hb => .inl hb, by show v = _; simp [updN], fun n hn => ?_, fun n => ?_, fun n b hnb => ?_, ⟨rfl, rfl⟩⟩
      · have : n ≠ st.nn := hn (st.nn, .view t x c) rfl
        simp [updN, this]
      · unfold updN
        split
        · exact h1
        · exact hs.on n
      · simp only [Option.map_some, Option.some.injEq, Prod.mk.injEq] at hnb
        obtain ⟨rfl, rfl⟩ := hnb
        refine ⟨by simp only [updN, if_true]; exact hv, fun k hk => by cases hk⟩
    · exact hcame.elim
    · exact hcame.elim
  · split at he
    · rename_i c ho
      split at he
      · rename_i x hcl
        split at he
        rotate_left
        · cases he
        rename_i f hx
        split at he
        · rename_i ps rs hm vs hsig hvs
          split at he
          · rename_i es hh hes hhs
            split at he
            · rename_i hc
              obtain ⟨hm1, hrow, hcon⟩ := hc
              have hm2 : hm ≠ 2 := by omega
              simp only [eval] at he
              split at he
              · rename_i res hres
                split at he
                · rename_i hlen
                  refine ⟨res, resSV rs st.nv st.nn, (rowBx rs st.nv).head?, shSize rs, hlen, he, ?_⟩
                  intro hno Ft β a w hs0 next Q HK
                  have hs : Sat X ρ st Ft β a w := Sat.cutS (st := st) (hs0.sub (st' := st) (fun _ _ h => h) (fun _ _ h => h) (fun _ h => h)) hsc hnv
                  obtain ⟨fn, rs', hfn, hbody, hname, _⟩ := sigOf_spec hsig
                  obtain ⟨l1, q1⟩ := opVL_sound hs hvs
                  obtain ⟨φ, _, hRR, hcall⟩ := call_out hF hs hsig (vals := c.args.toList.map a.eval) (by simpa using l1) q1 hes hhs hres
                  have hrun : (execOp a.eval o).run X.P w = .ok (.enter f (c.args.toList.map a.eval).toArray) w := by
                    simpa using run_value (X := X) (w := w) ho hcl (caps := []) (opC_sound hs hx) fn hfn hbody hname
                  unfold Oper.wp
                  rw [hrun]
                  simp only [Oper.upon]
                  refine hcall.mono ?_
                  have hR0 : rowsB ps (c.args.toList.map a.eval) = [] := List.eq_nil_iff_forall_not_mem.2 fun k hk => by
                    obtain ⟨m, x, z, _⟩ := hRR k hk
                    rw [hcon] at z; cases z
                  rw [hR0]
                  rintro e w' ⟨v, F', φ', rfl, hout⟩
                  have hchg := hout.chg
                  rw [may_nil hm2] at hchg
                  have hbl := below_of_chg hchg
                  obtain ⟨r0, hd0, hr, hr0, hr1⟩ := hout.res
                  rw [if_neg hm2] at hr1
                  subst hr1
                  rw [List.append_nil] at hr
                  subst hr
                  have hft : ∀ b, F' b → Ft b ∨ (w.heap.size ≤ b ∧ b < w'.heap.size) := fun b hb => by
                    obtain ⟨z1, z2⟩ := hout.new b hb
                    rcases z2 with z2 | z2 | z2
                    · exact .inl z2
                    · exact .inr ⟨z2, z1⟩
                    · rw [may_nil hm2] at z2; cases z2
                  have hgh : F'.γ = Ft.γ ∧ F'.hc = Ft.hc := ⟨hout.γ (by omega), hout.le.hc⟩
                  have hρ : ∀ (i : Nat) (d : D), res[i]? = some d → (ρ ++ res).getD (st.nv + i) .nil = d := fun i d hd => by
                    rw [hnv, List.getD_eq_getElem?_getD, List.getElem?_append_right (by omega), Nat.add_sub_cancel_left]
                    simp [hd]
                  rcases rowBx_sound (β := β) (ρ := ρ ++ res) (n := st.nv) hr0.args hρ hrow with ⟨e1, e2, e3⟩ | ⟨e, k, u, e1, e2, e3, e4, e5, e6⟩
                  · have hr2 := (res_sound (ρ := ρ) (β := β) (nn := st.nn) (hd := []) hr0 (fun i e u h => absurd h (e3 i e))).1
                    rw [List.append_nil, ← hnv] at hr2
                    refine HK v w' F' β ⟨hbl, hft, hr2, fun n _ => rfl, hs.on, (fun n b hnb => ?_), hgh⟩
                    rw [e1] at hnb; cases hnb
                  · have hr2 := (res_sound (ρ := ρ) (β := updN β st.nn u) (nn := st.nn) (hd := []) hr0 (fun i e' u' h h' => by rw [e6 i e' u' h h']; simp [updN])).1
                    rw [List.append_nil, ← hnv] at hr2
                    refine HK v w' F' (updN β st.nn u) ⟨hbl, hft, hr2, fun n hn => ?_, fun n => ?_, (fun n b hnb => ?_), hgh⟩
                    · have : n ≠ st.nn := hn (st.nn, .vec e (.var k)) (by rw [e1]; rfl)
                      simp [updN, this]
                    · unfold updN
                      split
                      · exact e5
                      · exact hs.on n
                    · rw [e1] at hnb
                      simp only [List.head?_cons, Option.map_some, Option.some.injEq, Prod.mk.injEq] at hnb
                      obtain ⟨rfl, rfl⟩ := hnb
                      refine ⟨by simp only [updN, if_true]; exact e3, fun k' hk' => ?_⟩
                      simp only [updN, if_true, Box.bk_vec] at hk'
                      obtain ⟨z1, z2, z3, _⟩ := hout.own k' (by rw [e4, hk']; simp)
                      exact ⟨z3.elim id (fun h => by rw [may_nil hm2] at h; cases h), z1, z2⟩
                · cases he
              · cases he
            · cases he
          · cases he
        · cases he
      · cases he
    · rename_i t n parts ho
      split at he
      · rename_i sv hev
        refine ⟨[], sv, none, 0, rfl, by rw [List.append_nil]; exact he, ?_⟩
        intro hno Ft β a w hs next Q HK
        rw [List.append_nil] at hs HK
        have hs' : Sat X ρ st Ft β a w := hs.sub (fun _ _ h => h) (fun _ _ h => h) (fun _ h => h)
        obtain ⟨v, w', e1, hb, hv⟩ := came_buildSlice hs'.on hs' ho hev
        unfold Oper.wp
        rw [e1]
        exact HK v w' (More Ft w w') β ⟨hb, fun b h => h, hv, fun n _ => rfl, hs.on, (fun n b hnb => by cases hnb), ⟨rfl, rfl⟩⟩
      · cases he
    · cases he
theorem known_true {e : E} {b : Bool} (hfs : ∀ e b, (e, b) ∈ st.fs → (den ρ e).toBool = b) (h : known st e = some b) : (den ρ e).toBool = b := by
  unfold known at h
  split at h
  · simp at h; subst h; rfl
  · cases hf : st.fs.find? (fun p => p.1 == e) with
    | none => simp [hf] at h
    | some p =>
      simp [hf] at h; subst h
      have hm := List.mem_of_find?_eq_some hf
      have he := List.find?_some hf
      simp at he; subst he
      exact hfs _ _ hm
theorem mem_addFact {e : E} {b : Bool} {fs : List (E × Bool)} {p : E × Bool} (h : p ∈ addFact e b fs) : p = (e, b) ∨ (∃ x, e = .not x ∧ p = (x, !b)) ∨ p ∈ fs := by
  unfold addFact at h
  split at h
  · rename_i x
    rcases List.mem_cons.1 h with h | h
    · exact .inl h
    · rcases List.mem_cons.1 h with h | h
      · exact .inr (.inl ⟨x, rfl, h⟩)
      · exact .inr (.inr h)
  · rcases List.mem_cons.1 h with h | h
    · exact .inl h
    · exact .inr (.inr h)
theorem addFact_mem {e : E} {b : Bool} {fs : List (E × Bool)} {p : E × Bool} (h : p ∈ fs) : p ∈ addFact e b fs := by
  unfold addFact
  split
  · exact List.mem_cons_of_mem _ (List.mem_cons_of_mem _ h)
  · exact List.mem_cons_of_mem _ h
theorem addFact_true {e : E} {b : Bool} (hfs : ∀ e b, (e, b) ∈ st.fs → (den ρ e).toBool = b) (h : (den ρ e).toBool = b) : ∀ e' b', (e', b') ∈ addFact e b st.fs → (den ρ e').toBool = b' := by
  intro e' b' hm
  rcases mem_addFact hm with h' | ⟨x, h1, h2⟩ | h'
  · cases h'; exact h
  · cases h2; subst h1
    have : (!(den ρ e').toBool) = b := h
    rw [← this]; simp
  · exact hfs e' b' h'
theorem addFact_sc {e : E} {b : Bool} (hsc : st.sc = true) (he : e.sc st.nv = true) : ({ st with fs := addFact e b st.fs } : St).sc = true := by
  simp only [St.sc, Bool.and_eq_true, List.all_eq_true] at hsc ⊢
  refine ⟨⟨hsc.1.1, fun p hp => ?_⟩, hsc.2⟩
  rcases mem_addFact hp with h' | ⟨x, h1, h2⟩ | h'
  · subst h'; exact he
  · subst h2 h1; exact he
  · exact hsc.1.2 p h'
theorem StepD.skip {ops : Array Oper} {sti : St} {o : Oper} (hw : ∀ Ft β a w, Sat X ρ sti Ft β a w → Region.wanted o (yielded ops a.tmps) = false) : StepD X ρ ops sti o (.tup []) none := by
  intro Ft β a w hs next Q HK
  rw [if_neg (by simp [hw Ft β a w hs])]
  exact HK undef w Ft β ⟨Below.refl _ _, fun b hb => .inl hb, ⟨[], rfl, rfl, fun i c u h => by simp at h⟩, fun n _ => rfl, hs.on, (fun n b hnb => by cases hnb), ⟨rfl, rfl⟩⟩
theorem StepD.run {ops : Array Oper} {sti : St} {o : Oper} {sv : SV} {nb : Option (Nat × Box)} (hw : ∀ Ft β a w, Sat X ρ sti Ft β a w → Region.wanted o (yielded ops a.tmps) = true) (h : StepO X ρ sti o sv nb) : StepD X ρ ops sti o sv nb := by
  intro Ft β a w hs next Q HK
  rw [if_pos (by simp [hw Ft β a w hs])]
  exact .inl (h Ft β a w hs next Q HK)
theorem hdG_sound (hF : FsOk X.G X.P Fs) {ops : Array Oper} {o : Oper} {K : SV → Option Box → Nat → List (E × Bool) → T} {L : List Fn} {r : List D} (he : eval Fs fuel (hdG X.P ops st o K) L ρ = some r) (hnv : st.nv = ρ.length) (hsc : st.sc = true)
    (hfs : ∀ e b, (e, b) ∈ st.fs → (den ρ e).toBool = b) :
    ∃ ext sv nb k fs, ext.length = k ∧ eval Fs fuel (K sv nb k fs) L (ρ ++ ext) = some r ∧ (∀ p ∈ st.fs, p ∈ fs) ∧ (∀ p ∈ fs, p.1.sc st.nv = true) ∧ (∀ e b, (e, b) ∈ fs → (den ρ e).toBool = b) ∧
      ((∀ b, nb = some b → b.noN st.nn = true) → StepD X (ρ ++ ext) ops { st with nv := st.nv + k, fs := fs } o sv (nb.map fun b => (st.nn, b))) := by
  have hfsc : ∀ p ∈ st.fs, p.1.sc st.nv = true := by
    simp only [St.sc, Bool.and_eq_true, List.all_eq_true] at hsc
    exact hsc.1.2
  unfold hdG at he
  split at he
  · rename_i hg
    split at he
    · split at he
      · rename_i t x lo hi mx ho
        split at he
        · rename_i es sv hev
          obtain ⟨hes, he2⟩ := needs_sound he
          refine ⟨[], sv, none, 0, st.fs, rfl, by rw [List.append_nil]; exact he2, fun p hp => hp, hfsc, hfs, fun hno => StepD.run (fun Ft β a w hs => by unfold Region.wanted; rw [hg]) ?_⟩
          intro Ft β a w hs next Q HK
          rw [List.append_nil] at hs HK
          have hs' : Sat X ρ st Ft β a w := hs.sub (fun _ _ h => h) (fun _ _ h => h) (fun _ h => h)
          obtain ⟨v, e1, hv⟩ := came_win hs' ho hev hes
          unfold Oper.wp
          rw [e1]
          exact HK v w Ft β ⟨Below.refl _ _, fun b hb => .inl hb, hv, fun n _ => rfl, hs.on, (fun n b hnb => by cases hnb), ⟨rfl, rfl⟩⟩
        · cases he
      · cases he
    · obtain ⟨ext, sv, nb, k, h1, h2, h3⟩ := hdOp_sound (X := X) hF he hnv hsc
      exact ⟨ext, sv, nb, k, st.fs, h1, h2, fun p hp => hp, hfsc, hfs, fun hno => StepD.run (fun Ft β a w hs => by unfold Region.wanted; rw [hg]) (h3 hno)⟩
  · rename_i j want hg
    split at he
    · rename_i d hd
      split at he
      · rename_i e hl
        have hesc : e.sc st.nv = true := by
          simp only [St.sc, Bool.and_eq_true, List.all_eq_true] at hsc
          exact hsc.1.1.1 _ (mem_of_lookup hl)
        have hwant : ∀ (ext : List D) (k : Nat) (fs : List (E × Bool)) Ft β a w, Sat X (ρ ++ ext) { st with nv := st.nv + k, fs := fs } Ft β a w → Region.wanted o (yielded ops a.tmps) = decide ((den ρ e).toBool = want) := by
          intro ext k fs Ft β a w hs
          obtain ⟨v, hv1, hv2⟩ := hs.tm _ _ hl
          have hv : v = .bool (den (ρ ++ ext) e).toBool := Rd.bool_inv hv2
          rw [den_append (by rw [← hnv]; exact hesc)] at hv
          subst hv
          have hy : yielded ops a.tmps j = some (den ρ e).toBool := by
            unfold yielded
            rw [hd]
            simp [hv1]
          unfold Region.wanted
          rw [hg]
          simp only [hy]
          cases (den ρ e).toBool <;> cases want <;> rfl
        split at he
        · rename_i b hk
          have hb := known_true hfs hk
          split at he
          · rename_i hbw
            obtain ⟨ext, sv, nb, k, h1, h2, h3⟩ := hdOp_sound (X := X) hF he hnv hsc
            exact ⟨ext, sv, nb, k, st.fs, h1, h2, fun p hp => hp, hfsc, hfs, fun hno => StepD.run (fun Ft β a w hs => by rw [hwant ext k st.fs Ft β a w hs, hb]; simpa using hbw) (h3 hno)⟩
          · rename_i hbw
            exact ⟨[], .tup [], none, 0, st.fs, rfl, by rw [List.append_nil]; exact he, fun p hp => hp, hfsc, hfs, fun hno => StepD.skip (fun Ft β a w hs => by rw [hwant [] 0 st.fs Ft β a w hs, hb]; simpa using hbw)⟩
        · simp only [eval] at he
          split at he
          · rename_i ht
            have hf1 := addFact_true (b := true) hfs ht
            have hf2 : ∀ p ∈ addFact e true st.fs, p.1.sc st.nv = true := by
              have := addFact_sc (b := true) hsc hesc
              simp only [St.sc, Bool.and_eq_true, List.all_eq_true] at this
              exact this.1.2
            split at he
            · rename_i hw
              obtain ⟨ext, sv, nb, k, h1, h2, h3⟩ := hdOp_sound (X := X) (st := { st with fs := addFact e true st.fs }) hF he hnv (addFact_sc hsc hesc)
              exact ⟨ext, sv, nb, k, _, h1, h2, fun p hp => addFact_mem hp, hf2, hf1, fun hno => StepD.run (fun Ft β a w hs => by rw [hwant ext k _ Ft β a w hs, ht]; simp [hw]) (h3 hno)⟩
            · rename_i hw
              exact ⟨[], .tup [], none, 0, _, rfl, by rw [List.append_nil]; exact he, fun p hp => addFact_mem hp, hf2, hf1, fun hno => StepD.skip (fun Ft β a w hs => by rw [hwant [] 0 _ Ft β a w hs, ht]; simpa using hw)⟩
          · rename_i ht
            have ht' : (den ρ e).toBool = false := by simpa using ht
            have hf1 := addFact_true (b := false) hfs ht'
            have hf2 : ∀ p ∈ addFact e false st.fs, p.1.sc st.nv = true := by
              have := addFact_sc (b := false) hsc hesc
              simp only [St.sc, Bool.and_eq_true, List.all_eq_true] at this
              exact this.1.2
            split at he
            · rename_i hw
              exact ⟨[], .tup [], none, 0, _, rfl, by rw [List.append_nil]; exact he, fun p hp => addFact_mem hp, hf2, hf1, fun hno => StepD.skip (fun Ft β a w hs => by rw [hwant [] 0 _ Ft β a w hs, ht']; simp [hw])⟩
            · rename_i hw
              obtain ⟨ext, sv, nb, k, h1, h2, h3⟩ := hdOp_sound (X := X) (st := { st with fs := addFact e false st.fs }) hF he hnv (addFact_sc hsc hesc)
              exact ⟨ext, sv, nb, k, _, h1, h2, fun p hp => addFact_mem hp, hf2, hf1, fun hno => StepD.run (fun Ft β a w hs => by rw [hwant ext k _ Ft β a w hs, ht']; simpa using hw) (h3 hno)⟩
      · rename_i l hl
        refine ⟨[], .tup [], none, 0, st.fs, rfl, by rw [List.append_nil]; exact he, fun p hp => hp, hfsc, hfs, fun hno => StepD.skip (fun Ft β a w hs => ?_)⟩
        obtain ⟨v, hv1, hv2⟩ := hs.tm _ _ hl
        obtain ⟨vs, rfl, _⟩ := hv2
        unfold Region.wanted yielded
        rw [hg]
        simp only [hd]
        simp [hv1]
      · cases he
    · cases he
/-- What a store of a drawn region does. -/
def StepW (X : Cx) (ρ : List D) (sti : St) (o : Oper) (n off : Nat) (xs : List C) : Prop :=
  o.guard = none ∧ o.dst = none ∧ ∀ (Ft : Fr) (β : Nat → Value) (a : Act) (w : World), Sat X ρ sti Ft β a w → ∃ b, ∃ ys : List Value, β n = .pointer (some ⟨b, 0, none⟩) ∧ RCL X.P w Ft ρ β xs ys ∧
    ∀ bt (vs : List Value), w.heap[b]? = some (.cells vs.toArray bt (0, 0)) → off + ys.length ≤ vs.length → (execOp a.eval o).run X.P w = .ok .skip (w.setRow b (vs.take off ++ ys ++ vs.drop (off + ys.length)).toArray)
def StepX (X : Cx) (ρ : List D) (ops : Array Oper) (sti : St) (o : Oper) (r : Rec) : Prop :=
  match r.wr with
  | none => StepD X ρ ops sti o r.sv r.nb
  | some (n, off, xs) => StepW X ρ sti o n off xs
theorem storeOf_sound {n off : Nat} {xs : List C} {o : Oper} (h : storeOf X.P st o = some (n, off, xs)) : StepW X ρ st o n off xs := by
  unfold storeOf at h
  split at h
  · rename_i t x v ho
    split at h
    · rename_i n' off' sv hx hv
      split at h
      · rename_i xs' hxs
        split at h
        · rename_i hc
          obtain ⟨hsz, hd, hg⟩ := hc
          simp only [Option.some.injEq, Prod.mk.injEq] at h
          obtain ⟨rfl, rfl, rfl⟩ := h
          refine ⟨hg, hd, fun Ft β a w hs => ?_⟩
          obtain ⟨b, hb1, hb2⟩ := opC_sound hs hx
          obtain ⟨ys, hy1, hy2⟩ := (opV_sound hs hv).cells hxs hs.on
          refine ⟨b, ys, hb1, hy2, fun bt vs e2 hle => ?_⟩
          have hlen : xs'.length = ys.length := hy2.1
          have hstore : (storeCells ⟨b, off', none⟩ ys 0).run X.P w = .ok () (w.setRow b (vs.take off' ++ ys ++ vs.drop (off' + ys.length)).toArray) := by
            have := run_storeCells_at (P := X.P) b off' bt ys 0 vs.toArray w e2 (by simp; omega) (by
              intro y hy
              obtain ⟨i, hi⟩ := List.getElem?_of_mem hy
              have hlt : i < xs'.length := by rw [hlen]; exact (List.getElem?_eq_some_iff.1 hi).1
              exact RC.one (hy2.2 i xs'[i] y (List.getElem?_eq_getElem hlt) hi) (fun n _ => hs.on n))
            simpa using this
          simp only [execOp, ho, Instr.storeAt, hb2, Instr.sureAddr, storeVar, Sem.run_bind, Sem.run_pure, Result.andThen_ok, run_szOf hsz, hy1, List.size_toArray, hlen, ne_eq, not_true, if_false]
          simp only [ite_false, Sem.run_pure, Result.andThen_ok, hstore]
        · cases h
      · cases h
    · cases h
  · cases h
theorem StepW.ext {sti : St} {o : Oper} {n off : Nat} {xs : List C} (h : StepW X ρ sti o n off xs) (r : List D) (hsc : sti.sc = true) (hnv : sti.nv = ρ.length) (hx : xs.all (C.sc ρ.length) = true) : StepW X (ρ ++ r) sti o n off xs := by
  obtain ⟨h1, h2, h3⟩ := h
  refine ⟨h1, h2, fun Ft β a w hs => ?_⟩
  obtain ⟨b, ys, q1, q2, q3⟩ := h3 Ft β a w (hs.cutS hsc hnv)
  exact ⟨b, ys, q1, q2.ext r hx, q3⟩
structure RecOk (X : Cx) (ρF : List D) (ops : Array Oper) (preds sa : List Nat) (l : List (Oper × Nat)) (stF : St) (R : List Rec) (r : Rec) : Prop where
  ex : ∃ (o : Oper) (R1 R1' : List Rec) (sti : St), (∀ q ∈ R1', q ∈ R ∧ vis sa q = true) ∧ (o, r.i) ∈ l ∧ r.dst = o.dst ∧ okDst X.nt o.dst = true ∧ (∀ q ∈ R1, q ∈ R) ∧ sti.tm = selTm R1 (fun j => (preds.getD r.i 0).testBit j) ++ stF.tm ∧
    sti.bx = selBx R1' (fun j => (preds.getD r.i 0).testBit j) ++ stF.bx ∧ ((∀ p ∈ sti.fs, p ∈ stF.fs) ∧ sti.key = stF.key ∧ sti.cf = stF.cf) ∧ StepX X ρF ops sti o r
theorem StepD.ext {ops : Array Oper} {sti : St} {o : Oper} {sv : SV} {nb : Option (Nat × Box)} (h : StepD X ρ ops sti o sv nb) (r : List D) (hsc : sti.sc = true) (hnv : sti.nv = ρ.length) (h1 : sv.sc ρ.length = true) (h2 : ∀ p, nb = some p → p.2.sc ρ.length = true) : StepD X (ρ ++ r) ops sti o sv nb := by
  intro Ft β a w hs0 next Q HK
  have hs : Sat X ρ sti Ft β a w := hs0.cutS hsc hnv
  exact h Ft β a w hs next Q (fun v w' Ft' β' ho => HK v w' Ft' β' (ho.ext r h1 h2))
theorem E.scm {n m : Nat} (h : n ≤ m) : ∀ e : E, e.sc n = true → e.sc m = true := by
  intro e
  induction e with
  | var k => intro h; simp [E.sc] at h ⊢; omega
  | _ => intro h; simp_all [E.sc]
theorem C.scm {n m : Nat} (h : n ≤ m) (c : C) : c.sc n = true → c.sc m = true := by
  cases c with
  | dat t e => exact E.scm h e
  | eptr t a i c => intro q; simp only [C.sc, Bool.and_eq_true] at q ⊢; exact ⟨E.scm h _ q.1, E.scm h _ q.2⟩
  | pptr t a c => exact E.scm h a
  | vptr m t i c => exact E.scm h i
  | win m t i j => intro q; simp only [C.sc, Bool.and_eq_true] at q ⊢; exact ⟨E.scm h _ q.1, E.scm h _ q.2⟩
  | hptr t a c => exact E.scm h a
  | _ => exact fun h => h
theorem Cs.scm {n m : Nat} (h : n ≤ m) (cs : List C) (q : cs.all (C.sc n) = true) : cs.all (C.sc m) = true := List.all_eq_true.2 fun c hc => C.scm h c (List.all_eq_true.1 q c hc)
theorem V1.scm {n m : Nat} (h : n ≤ m) (v : V1) : v.sc n = true → v.sc m = true := by
  cases v with
  | one c => exact C.scm h c
  | agg cs => exact Cs.scm h cs
theorem SV.scm {n m : Nat} (h : n ≤ m) (v : SV) : v.sc n = true → v.sc m = true := by
  cases v with
  | one c => exact C.scm h c
  | agg cs => exact Cs.scm h cs
  | tup l => exact fun q => List.all_eq_true.2 fun c hc => V1.scm h c (List.all_eq_true.1 q c hc)
theorem Box.scm {n m : Nat} (h : n ≤ m) (x : Box) : x.sc n = true → x.sc m = true := by
  cases x with
  | box t cs => exact Cs.scm h cs
  | vec e x => exact E.scm h x
  | view t a c => exact E.scm h a
  | map t x => exact E.scm h x
structure Hsc (st : St) (R : List Rec) : Prop where
  tm : ∀ p ∈ st.tm, p.2.sc st.nv = true
  bx : ∀ p ∈ st.bx, p.2.sc st.nv = true
  fs : ∀ p ∈ st.fs, p.1.sc st.nv = true
  hp : st.hp.all (fun p => p.2.sc st.nv) = true
  ex : ∀ p ∈ st.ex, p.2.2.sc st.nv = true
  sv : ∀ r ∈ R, r.sv.sc st.nv = true
  nb : ∀ r ∈ R, ∀ p, r.nb = some p → p.2.sc st.nv = true
theorem Hsc.loc {st : St} {R : List Rec} (h : Hsc st R) (sa : List Nat) (sel : Nat → Bool) : (locSt st R sa sel).sc = true := by
  simp only [St.sc, locSt, Bool.and_eq_true, List.all_eq_true]
  refine ⟨⟨⟨fun p hp => ?_, fun p hp => ?_⟩, h.fs⟩, h.hp, h.ex⟩
  · rcases List.mem_append.1 hp with hp | hp
    · obtain ⟨r, h1, h2⟩ := List.mem_filterMap.1 hp
      split at h2
      · cases hd : r.dst with
        | none => simp [hd] at h2
        | some t => simp [hd] at h2; subst h2; exact h.sv r h1
      · cases h2
    · exact h.tm p hp
  · rcases List.mem_append.1 hp with hp | hp
    · obtain ⟨r, h1, h2⟩ := List.mem_filterMap.1 hp
      split at h2
      · exact h.nb r (List.mem_filter.1 h1).1 p h2
      · cases h2
    · exact h.bx p hp
theorem hp_scm {n m : Nat} (h : n ≤ m) {hp : Option (Bool × E)} (q : hp.all (fun p => p.2.sc n) = true) : hp.all (fun p => p.2.sc m) = true := by
  cases hp with
  | none => rfl
  | some p => simp only [Option.all_some] at q ⊢; exact E.scm h _ q
theorem sc_mono {st : St} {n : Nat} (h : st.sc = true) (hn : st.nv ≤ n) {fs : List (E × Bool)} (hfs : ∀ p ∈ fs, p.1.sc n = true) : ({ st with nv := n, fs := fs } : St).sc = true := by
  simp only [St.sc, Bool.and_eq_true, List.all_eq_true] at h ⊢
  exact ⟨⟨⟨fun p hp => SV.scm hn _ (h.1.1.1 p hp), fun p hp => Box.scm hn _ (h.1.1.2 p hp)⟩, hfs⟩, hp_scm hn h.2.1, fun p hp => E.scm hn _ (h.2.2 p hp)⟩
theorem runD_sound (hF : FsOk X.G X.P Fs) {ops : Array Oper} {preds sa : List Nat} {K : St → List Rec → T} {L : List Fn} {r : List D} : ∀ (l : List (Oper × Nat)) {st0 : St} {R : List Rec} {ρ : List D}, eval Fs fuel (runD X.P X.nt ops preds sa l st0 R K) L ρ = some r → st0.nv = ρ.length → Hsc st0 R →
    (∀ e b, (e, b) ∈ st0.fs → (den ρ e).toBool = b) →
    ∃ ext stF R2, eval Fs fuel (K stF (R ++ R2)) L (ρ ++ ext) = some r ∧ stF.nv = (ρ ++ ext).length ∧ stF.tm = st0.tm ∧ (stF.bx = st0.bx ∧ stF.key = st0.key ∧ stF.cf = st0.cf) ∧ (∀ p ∈ st0.fs, p ∈ stF.fs) ∧ (∀ e b, (e, b) ∈ stF.fs → (den (ρ ++ ext) e).toBool = b) ∧
      ∀ q ∈ R2, ∀ e2, RecOk X (ρ ++ ext ++ e2) ops preds sa l stF (R ++ R2) q
  | [], st0, R, ρ, he, hnv, hH, hfs => ⟨[], st0, [], by simpa [runD] using he, by simpa using hnv, rfl, ⟨rfl, rfl, rfl⟩, fun p hp => hp, by simpa using hfs, fun q hq => by cases hq⟩
  | (o, i) :: l, st0, R, ρ, he, hnv, hH, hfs => by
    simp only [runD] at he
    split at he
    · rename_i n off xs hst
      rw [frN_eq, frN_eq, frL_eq frC_eq] at he
      split at he
      · rename_i hxs
        have hsc := hH.loc sa (fun j => (preds.getD i 0).testBit j)
        obtain ⟨ext', stF, R2, g1, g2, g3, g4, g5, g6, g7⟩ := runD_sound hF l he hnv ⟨hH.tm, hH.bx, hH.fs, hH.hp, hH.ex, fun q hq => by
          rcases List.mem_append.1 hq with hq | hq
          · exact hH.sv q hq
          · cases List.mem_singleton.1 hq; rfl, fun q hq p hp => by
          rcases List.mem_append.1 hq with hq | hq
          · exact hH.nb q hq p hp
          · cases List.mem_singleton.1 hq; cases hp⟩ hfs
        refine ⟨ext', stF, ⟨i, none, .tup [], none, some (n, off, xs)⟩ :: R2, by simpa using g1, g2, g3, g4, g5, g6, ?_⟩
        intro q hq e2
        rcases List.mem_cons.1 hq with rfl | hq
        · have hstep := (storeOf_sound (ρ := ρ) hst).ext (ext' ++ e2) hsc (by simpa [locSt] using hnv) (by rw [← hnv]; exact hxs)
          refine ⟨o, R, R.filter (vis sa), locSt st0 R sa (fun j => (preds.getD i 0).testBit j), fun q hq => ⟨List.mem_append_left _ (List.mem_filter.1 hq).1, (List.mem_filter.1 hq).2⟩, List.mem_cons_self .., hstep.2.1.symm, by rw [hstep.2.1]; rfl, fun q hq => List.mem_append_left _ hq, by simp [locSt, g3], by simp [locSt, g4.1], ⟨fun p hp => g5 p hp, g4.2.1.symm, g4.2.2.symm⟩, ?_⟩
          simp only [List.append_assoc] at hstep ⊢
          exact hstep
        · obtain ⟨o', R1, R1', sti, z0, z1, z2, z3, z4, z5, z6, z7, z8⟩ := (g7 q hq e2).ex
          exact ⟨o', R1, R1', sti, fun q' hq' => by have := z0 q' hq'; simpa using this, List.mem_cons_of_mem _ z1, z2, z3, fun q' hq' => by have := z4 q' hq'; simpa using this, z5, z6, z7, by simpa [List.append_assoc] using z8⟩
      · cases he
    split at he
    · rename_i hd
      have hsc := hH.loc sa (fun j => (preds.getD i 0).testBit j)
      obtain ⟨ext, sv, nb, k, fs, h1, h2, h3, h4, h5, h6⟩ := hdG_sound (X := X) hF he (by simpa [locSt] using hnv) hsc (by simpa [locSt] using hfs)
      rw [frSV_eq, frO_eq, frN_eq, frN_eq] at h2
      split at h2
      · rename_i hc2
        simp only [Bool.and_eq_true] at hc2
        obtain ⟨hsv, hnb⟩ := hc2
        have hnb1 : ∀ b, nb = some b → b.sc (st0.nv + k) = true ∧ b.noN st0.nn = true := by
          intro b hb
          subst hb
          simp only [Option.all_some, Bool.and_eq_true] at hnb
          exact hnb
        have hstep := h6 (fun b hb => (hnb1 b hb).2)
        have hlen : st0.nv + k = (ρ ++ ext).length := by rw [List.length_append, h1, hnv]
        obtain ⟨ext', stF, R2, g1, g2, g3, g4, g5, g6, g7⟩ := runD_sound hF l h2 hlen ⟨fun p hp => SV.scm (by simp) _ (hH.tm p hp), fun p hp => Box.scm (by simp) _ (hH.bx p hp), fun p hp => E.scm (by simp [locSt]) _ (h4 p hp), hp_scm (by simp) hH.hp, fun p hp => E.scm (by simp) _ (hH.ex p hp), fun q hq => by
          rcases List.mem_append.1 hq with hq | hq
          · exact SV.scm (by simp) _ (hH.sv q hq)
          · cases List.mem_singleton.1 hq; exact hsv, fun q hq p hp => by
          rcases List.mem_append.1 hq with hq | hq
          · exact Box.scm (by simp) _ (hH.nb q hq p hp)
          · cases List.mem_singleton.1 hq
            cases hnb' : nb with
            | none => rw [hnb'] at hp; cases hp
            | some b => rw [hnb'] at hp; simp at hp; subst hp; exact (hnb1 b hnb').1⟩ (by
          intro e b hm
          have hes := h4 _ hm
          simp only [locSt] at hes
          rw [den_append (by rw [← hnv]; exact hes)]
          exact h5 e b hm)
        refine ⟨ext ++ ext', stF, ⟨i, o.dst, sv, nb.map fun b => (st0.nn, b), none⟩ :: R2, by rw [← List.append_assoc]; simpa using g1, by rw [← List.append_assoc]; exact g2, g3, g4, fun p hp => g5 p (h3 p hp), by rw [← List.append_assoc]; exact g6, ?_⟩
        intro q hq e2
        rcases List.mem_cons.1 hq with rfl | hq
        · refine ⟨o, R, R.filter (vis sa), { locSt st0 R sa (fun j => (preds.getD i 0).testBit j) with nv := st0.nv + k, fs := fs }, fun q hq => ⟨List.mem_append_left _ (List.mem_filter.1 hq).1, (List.mem_filter.1 hq).2⟩, List.mem_cons_self .., rfl, hd, fun q hq => List.mem_append_left _ hq, by simp [locSt, g3], by simp [locSt, g4.1], ⟨fun p hp => g5 p hp, g4.2.1.symm, g4.2.2.symm⟩, ?_⟩
          have hsc2 : ({ locSt st0 R sa (fun j => (preds.getD i 0).testBit j) with nv := st0.nv + k, fs := fs } : St).sc = true := sc_mono hsc (by simp [locSt]) (fun p hp => by
            exact E.scm (by simp [locSt]) _ (h4 p hp))
          have := hstep.ext (ext' ++ e2) hsc2 hlen (by rw [← hlen]; exact hsv) (by
            intro p hp
            cases hnb' : nb with
            | none => rw [hnb'] at hp; cases hp
            | some b => rw [hnb'] at hp; simp at hp; subst hp; rw [← hlen]; exact (hnb1 b hnb').1)
          simp only [List.append_assoc] at this ⊢
          exact this
        · obtain ⟨o', R1, R1', sti, z0, z1, z2, z3, z4, z5, z6, z7, z8⟩ := (g7 q hq e2).ex
          exact ⟨o', R1, R1', sti, fun q' hq' => by have := z0 q' hq'; simpa using this, List.mem_cons_of_mem _ z1, z2, z3, fun q' hq' => by have := z4 q' hq'; simpa using this, z5, z6, z7, by simpa [List.append_assoc] using z8⟩
      · cases h2
    · cases he
end
end Go.Proofs.YtobacchojjfpfaaGreatDoor.Eng
