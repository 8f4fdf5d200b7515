/-
  A reader of Go functions, part G: the small programs that functions come to, and how they are made.
-/
import Derived.Test.YtifghdombpcpjaaEngF
namespace Go.Proofs.Ytifghdombpcpjaa.Eng
set_option linter.unusedVariables false

inductive T where
  | ret (es : List E)
  | ite (c : E) (a b : T)
  | need (c : E) (t : T)
  | call (f : Nat) (args : List E) (k : Nat) (t : T)
  | loop (inits : List E) (body : T)
  | again (l : Nat) (es : List E)
  | fail (why : Nat)
  deriving DecidableEq, Inhabited

abbrev Fn := List D → Option (List D)
def loopN (g : Fn → Fn) : Nat → Fn
  | 0 => fun _ => none
  | n + 1 => g (loopN g n)
def eval (Fs : Nat → Fn) (fuel : Nat) : T → List Fn → List D → Option (List D)
  | .ret es, _, ρ => some (es.map (den ρ))
  | .ite c a b, L, ρ => if (den ρ c).toBool = true then eval Fs fuel a L ρ else eval Fs fuel b L ρ
  | .need c t, L, ρ => if (den ρ c).toBool = true then eval Fs fuel t L ρ else none
  | .call f args k t, L, ρ => match Fs f (args.map (den ρ)) with
    | some r => if r.length = k then eval Fs fuel t L (ρ ++ r) else none
    | none => none
  | .loop inits body, L, ρ => loopN (fun g xs => eval Fs fuel body (L ++ [g]) (ρ ++ xs)) fuel (inits.map (den ρ))
  | .again l es, L, ρ => match L[l]? with
    | some g => g (es.map (den ρ))
    | none => none
  | .fail _, _, _ => none

/-! Names and variables of a state. -/
def C.noN (m : Nat) : C → Bool
  | .ptr n _ | .vec n | .vptr n _ _ => n != m
  | _ => true
def V1.noN (m : Nat) : V1 → Bool | .one c => c.noN m | .agg cs => cs.all (C.noN m)
def SV.noN (m : Nat) : SV → Bool | .one c => c.noN m | .agg cs => cs.all (C.noN m) | .tup l => l.all (V1.noN m)
def Box.noN (m : Nat) : Box → Bool | .box _ cs => cs.all (C.noN m) | .vec _ _ => true
def C.sc (n : Nat) : C → Bool
  | .dat _ e => e.sc n
  | .eptr _ a i _ => a.sc n && i.sc n
  | .pptr _ a _ => a.sc n
  | .vptr _ i _ => i.sc n
  | _ => true
def V1.sc (n : Nat) : V1 → Bool | .one c => c.sc n | .agg cs => cs.all (C.sc n)
def SV.sc (n : Nat) : SV → Bool | .one c => c.sc n | .agg cs => cs.all (C.sc n) | .tup l => l.all (V1.sc n)
def Box.sc (n : Nat) : Box → Bool | .box _ cs => cs.all (C.sc n) | .vec _ x => x.sc n

structure S where
  st : St
  lv : Nat
  deriving DecidableEq, Inhabited
def St.fresh (st : St) : Bool := st.tm.all (fun p => p.2.noN st.nn) && st.bx.all (fun p => p.1 != st.nn && p.2.noN st.nn)
def St.sc (st : St) : Bool := st.tm.all (fun p => p.2.sc st.nv) && st.bx.all (fun p => p.2.sc st.nv) && st.fs.all (fun p => p.1.sc st.nv)
def St.upd (st : St) (dst : Option Tmp) (sv : SV) (nb : Option Box) : St :=
  { st with
    tm := match dst with | some d => (d, sv) :: st.tm | none => st.tm
    bx := match nb with | some b => (st.nn, b) :: st.bx | none => st.bx
    nn := match nb with | some _ => st.nn + 1 | none => st.nn }

/-! Written out: the same values, computed. -/
def frN (n : Nat) (k : Nat → T) : T := match n with | 0 => k 0 | m + 1 => k (m + 1)
def frL {α : Type} (f : α → (α → T) → T) : List α → (List α → T) → T
  | [], k => k []
  | x :: xs, k => f x fun x' => frL f xs fun xs' => k (x' :: xs')
def frI (n : Int) (k : Int → T) : T := match n with | .ofNat m => frN m fun m => k (.ofNat m) | .negSucc m => frN m fun m => k (.negSucc m)
def frB (b : Bool) (k : Bool → T) : T := match b with | true => k true | false => k false
def frK (x : IntKind) (k : IntKind → T) : T :=
  match x with | .i8 => k .i8 | .i16 => k .i16 | .i32 => k .i32 | .i64 => k .i64 | .u8 => k .u8 | .u16 => k .u16 | .u32 => k .u32 | .u64 => k .u64
def frE : E → (E → T) → T
  | .var n, k => frN n fun n => k (.var n)
  | .int n, k => frI n fun n => k (.int n)
  | .bool b, k => frB b fun b => k (.bool b)
  | .str s, k => k (.str s)
  | .nil, k => k .nil
  | .ar op kd a b, k => frE a fun a => frE b fun b => frK kd fun kd => k (.ar op kd a b)
  | .cmp op a b, k => frE a fun a => frE b fun b => k (.cmp op a b)
  | .not a, k => frE a fun a => k (.not a)
  | .beq a b, k => frE a fun a => frE b fun b => k (.beq a b)
  | .conv kd a, k => frE a fun a => frK kd fun kd => k (.conv kd a)
  | .ite c a b, k => frE c fun c => frE a fun a => frE b fun b => k (.ite c a b)
  | .len a, k => frE a fun a => k (.len a)
  | .get a b, k => frE a fun a => frE b fun b => k (.get a b)
  | .cell a n, k => frE a fun a => frN n fun n => k (.cell a n)
  | .lnil, k => k .lnil
  | .lcons a b, k => frE a fun a => frE b fun b => k (.lcons a b)
  | .app a b, k => frE a fun a => frE b fun b => k (.app a b)
  | .sub c a b, k => frE c fun c => frE a fun a => frE b fun b => k (.sub c a b)
  | .slen a, k => frE a fun a => k (.slen a)
  | .scat a b, k => frE a fun a => frE b fun b => k (.scat a b)
  | .sidx a b, k => frE a fun a => frE b fun b => k (.sidx a b)
  | .ssub c a b, k => frE c fun c => frE a fun a => frE b fun b => k (.ssub c a b)
  | .scmp op a b, k => frE a fun a => frE b fun b => k (.scmp op a b)
  | .isnil a, k => frE a fun a => k (.isnil a)
  | .mkif n a, k => frE a fun a => frN n fun n => k (.mkif n a)
  | .isif n a, k => frE a fun a => frN n fun n => k (.isif n a)
  | .ifv a, k => frE a fun a => k (.ifv a)
  | .ptr a, k => frE a fun a => k (.ptr a)
def frTy : Ty → (Ty → T) → T
  | .int x, k => frK x fun x => k (.int x)
  | .bool, k => k .bool
  | .str, k => k .str
  | .ifc, k => k .ifc
  | .slice n, k => frN n fun n => k (.slice n)
  | .ptr n, k => frN n fun n => k (.ptr n)
def frC : C → (C → T) → T
  | .dat t e, k => frTy t fun t => frE e fun e => k (.dat t e)
  | .ptr n off, k => frN n fun n => frN off fun off => k (.ptr n off)
  | .eptr t a i c, k => frN t fun t => frE a fun a => frE i fun i => frN c fun c => k (.eptr t a i c)
  | .pptr t a c, k => frN t fun t => frE a fun a => frN c fun c => k (.pptr t a c)
  | .vec n, k => frN n fun n => k (.vec n)
  | .vptr n i c, k => frN n fun n => frE i fun i => frN c fun c => k (.vptr n i c)
  | .fn f, k => frN f fun f => k (.fn f)
  | .nils, k => k .nils
  | .nilp, k => k .nilp
  | .nilf, k => k .nilf
  | .junk, k => k .junk
def frV1 : V1 → (V1 → T) → T
  | .one c, k => frC c fun c => k (.one c)
  | .agg cs, k => frL frC cs fun cs => k (.agg cs)
def frSV : SV → (SV → T) → T
  | .one c, k => frC c fun c => k (.one c)
  | .agg cs, k => frL frC cs fun cs => k (.agg cs)
  | .tup l, k => frL frV1 l fun l => k (.tup l)
def frBox : Box → (Box → T) → T
  | .box t cs, k => frN t fun t => frL frC cs fun cs => k (.box t cs)
  | .vec t e, k => frN t fun t => frE e fun e => k (.vec t e)
def frO (nb : Option Box) (k : Option Box → T) : T := match nb with | none => k none | some b => frBox b fun b => k (some b)
theorem frN_eq (n : Nat) (k : Nat → T) : frN n k = k n := by cases n <;> rfl
theorem frL_eq {α : Type} {f : α → (α → T) → T} (hf : ∀ x k, f x k = k x) : ∀ (l : List α) (k : List α → T), frL f l k = k l
  | [], k => rfl
  | x :: xs, k => by simp only [frL, hf, frL_eq hf xs]
theorem frI_eq (n : Int) (k : Int → T) : frI n k = k n := by cases n <;> simp only [frI, frN_eq]
theorem frB_eq (b : Bool) (k : Bool → T) : frB b k = k b := by cases b <;> rfl
theorem frK_eq (x : IntKind) (k : IntKind → T) : frK x k = k x := by cases x <;> rfl
theorem frE_eq : ∀ (e : E) (k : E → T), frE e k = k e := by
  intro e
  induction e <;> intro k <;> simp only [frE, frN_eq, frI_eq, frB_eq, frK_eq, *]
theorem frTy_eq (t : Ty) (k : Ty → T) : frTy t k = k t := by cases t <;> simp only [frTy, frK_eq, frN_eq]
theorem frC_eq (c : C) (k : C → T) : frC c k = k c := by cases c <;> simp only [frC, frTy_eq, frE_eq, frN_eq]
theorem frV1_eq (c : V1) (k : V1 → T) : frV1 c k = k c := by cases c <;> simp only [frV1, frC_eq, frL_eq frC_eq]
theorem frSV_eq (c : SV) (k : SV → T) : frSV c k = k c := by cases c <;> simp only [frSV, frC_eq, frL_eq frC_eq, frL_eq frV1_eq]
theorem frBox_eq (c : Box) (k : Box → T) : frBox c k = k c := by cases c <;> simp only [frBox, frN_eq, frE_eq, frL_eq frC_eq]
theorem frO_eq (c : Option Box) (k : Option Box → T) : frO c k = k c := by cases c <;> simp only [frO, frBox_eq]

/-! Shapes of arguments and results. -/
inductive Sh where
  | one (t : Ty) | agg (ts : List Ty)
  deriving DecidableEq, Inhabited
def Sh.size : Sh → Nat | .one _ => 1 | .agg ts => ts.length
def shOf (P : Program) (t : TypeId) : Option Sh :=
  match tyOf P t with
  | some u => some (.one u)
  | none => match aggB P t with
    | some true => (cellTys P t).map .agg
    | _ => none
def shsOf (P : Program) : List TypeId → Option (List Sh)
  | [] => some []
  | t :: ts => match shOf P t, shsOf P ts with
    | some s, some l => some (s :: l)
    | _, _ => none
def sigOf (P : Program) (f : Nat) : Option (List Sh × List Sh) :=
  match P.funcs[f]? with
  | some fn => match shsOf P fn.params.toList, shsOf P fn.resultTypes.toList with
    | some ps, some rs => if fn.body.isSome && fn.name != "runtime.NumGoroutine" then some (ps, rs) else none
    | _, _ => none
  | none => none
def varCs : List Ty → Nat → List C
  | [], _ => []
  | t :: ts, n => .dat t (.var n) :: varCs ts (n + 1)
def Sh.mk (n : Nat) : Sh → V1
  | .one t => .one (.dat t (.var n))
  | .agg ts => .agg (varCs ts n)
def mkShs : List Sh → Nat → List V1
  | [], _ => []
  | s :: l, n => s.mk n :: mkShs l (n + s.size)
def shSize (l : List Sh) : Nat := (l.map Sh.size).sum
def resSV (l : List Sh) (n : Nat) : SV := match mkShs l n with | [v] => v.sv | l => .tup l
def matSh : Sh → SV → Option (List E)
  | .one t, .one c => (mat t c).map ([·])
  | .agg ts, .agg cs => matL ts cs
  | _, _ => none
def matShs : List Sh → List SV → Option (List E)
  | [], [] => some []
  | s :: ss, v :: vs => match matSh s v, matShs ss vs with
    | some a, some b => some (a ++ b)
    | _, _ => none
  | _, _ => none
def opVL (st : St) : List Operand → Option (List SV)
  | [] => some []
  | x :: l => match opV st x, opVL st l with
    | some v, some vs => some (v :: vs)
    | _, _ => none

def needs : List E → T → T
  | [], t => t
  | e :: es, t => if e = .bool true then needs es t else .need e (needs es t)
def addFact (e : E) (b : Bool) (fs : List (E × Bool)) : List (E × Bool) :=
  match e with
  | .not a => (.not a, b) :: (a, !b) :: fs
  | e => (e, b) :: fs

section
variable (P : Program) (nt : Nat)
def okDst (dst : Option Tmp) : Bool := match dst with | some d => decide (d < nt) | none => true

def newOk (st : St) : Option Box → Bool | none => true | some b => st.fresh && b.noN st.nn
/-- An operation that yields a value. -/
def doV (st : St) (o : Oper) (K : St → T) : Option T :=
  match evV P st o.op o.type with
  | some (es, sv, nb) => if okDst nt o.dst && newOk st nb then some (needs es (frSV sv fun sv => frO nb fun nb => K (st.upd o.dst sv nb))) else none
  | none => none
def doStore (st : St) (t : TypeId) (x v : Operand) (K : St → T) : T :=
  match opC st x, opV st v with
  | some (.ptr n off), some sv => match st.bx.lookup n, sv.cells with
    | some (.box bt cs), some xs => if szOf P t = some xs.length ∧ off + xs.length ≤ cs.length then K { st with bx := (n, .box bt (putCells cs off xs)) :: st.bx } else .fail 1
    | _, _ => .fail 2
  | _, _ => .fail 3
def doCall (st : St) (dst : Option Tmp) (f : Nat) (args : List Operand) (K : St → T) : T :=
  match sigOf P f, opVL st args with
  | some (ps, rs), some vs => match matShs ps vs with
    | some es => if st.sc && okDst nt dst then .call f es (shSize rs) (K { st.upd dst (resSV rs st.nv) none with nv := st.nv + shSize rs }) else .fail 4
    | none => .fail 5
  | _, _ => .fail 6
/-- A pointer to a box of the call's own becomes an interface value: the box is not written any more. -/
def doFreeze (st : St) (dst : Option Tmp) (t : TypeId) (x : Operand) (K : St → T) : T :=
  match opC st x, tyOf P t with
  | some (.ptr n 0), some (.ptr e) => match st.bx.lookup n, cellTys P e with
    | some (.box _ cs), some ts => match matL ts cs with
      | some es => if okDst nt dst then K ({ st with bx := st.bx.filter (fun p => p.1 != n) }.upd dst (.one (.dat .ifc (.mkif t (listE es)))) none) else .fail 7
      | none => .fail 8
    | _, _ => .fail 9
  | _, _ => .fail 10
def doOp (st : St) (o : Oper) (K : St → T) : T :=
  match doV P nt st o K with
  | some t => t
  | none => match o.op with
    | .store t x v => if o.dst = none then doStore P st t x v K else .fail 11
    | .call c => match c.callee with
      | .value (.func f) => doCall P nt st o.dst f c.args.toList K
      | _ => .fail 12
    | .makeInterface t x => doFreeze P nt st o.dst t x K
    | .buildSlice t n parts => match evB P st t n parts with
      | some sv => if okDst nt o.dst then frSV sv fun sv => K (st.upd o.dst sv none) else .fail 50
      | none => .fail 51
    | _ => .fail 13
/-- With its guard. -/
def doG (ops : Array Oper) (st : St) (o : Oper) (K : St → T) : T :=
  match o.guard with
  | none => doOp P nt st o K
  | some (j, want) => match (ops[j]?).bind (·.dst) with
    | some d => match st.tm.lookup d with
      | some (.one (.dat .bool e)) => match known st e with
        | some b => if b = want then doOp P nt st o K else (if okDst nt o.dst then K (st.upd o.dst (.tup []) none) else .fail 14)
        | none => if okDst nt o.dst then
            .ite e (if want then doOp P nt { st with fs := addFact e true st.fs } o K else K ({ st with fs := addFact e true st.fs }.upd o.dst (.tup []) none))
              (if want then K ({ st with fs := addFact e false st.fs }.upd o.dst (.tup []) none) else doOp P nt { st with fs := addFact e false st.fs } o K)
          else .fail 15
      | some (.tup _) => if okDst nt o.dst then K (st.upd o.dst (.tup []) none) else .fail 18
      | _ => .fail 16
    | none => .fail 17
def doOps (ops : Array Oper) : List Oper → St → (St → T) → T
  | [], st, K => K st
  | o :: l, st, K => doG P nt ops st o fun st' => doOps ops l st' K
end
end Go.Proofs.Ytifghdombpcpjaa.Eng
