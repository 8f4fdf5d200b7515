/-
  A reader of Go functions, part G: the small programs that functions come to, and how they are made.
-/
import Derived.Test.YtobacchojjfpfaaGreatDoorEngF
namespace Go.Proofs.YtobacchojjfpfaaGreatDoor.Eng
set_option linter.unusedVariables false

inductive T where
  | ret (es : List E)
  | ite (c : E) (a b : T)
  | need (c : E) (t : T)
  | call (f : Nat) (args : List E) (k : Nat) (t : T)
  /-- One of both, whichever: they must come to the same. -/
  | any (a b : T)
  | loop (inits : List E) (body : T)
  | again (l : Nat) (es : List E)
  | jp (body t : T)
  | fail (why : Nat)
  | stop (st : St)
  deriving DecidableEq, Inhabited

abbrev Fn := List D → Option (List D)
def loopN (g : Fn → Fn) : Nat → Fn
  | 0 => fun _ => none
  | n + 1 => g (loopN g n)
open Classical in
/-- What two ways come to, if it is the same. -/
noncomputable def both (x y : Option (List D)) : Option (List D) := if x = y then x else none
theorem both_some {x y : Option (List D)} {r : List D} (h : both x y = some r) : x = some r ∧ y = some r := by
  unfold both at h
  split at h
  · rename_i e; exact ⟨h, e ▸ h⟩
  · cases h
theorem both_mk {x y : Option (List D)} {r : List D} (hx : x = some r) (hy : y = some r) : both x y = some r := by unfold both; rw [hx, hy, if_pos rfl]
theorem both_self (x : Option (List D)) : both x x = x := by unfold both; rw [if_pos rfl]
noncomputable def eval (Fs : Nat → Fn) (fuel : Nat) : T → List Fn → List D → Option (List D)
  | .ret es, _, ρ => some (es.map (den ρ))
  | .ite c a b, L, ρ => if (den ρ c).toBool = true then eval Fs fuel a L ρ else eval Fs fuel b L ρ
  | .need c t, L, ρ => if (den ρ c).toBool = true then eval Fs fuel t L ρ else none
  | .call f args k t, L, ρ => match Fs f (args.map (den ρ)) with
    | some r => if r.length = k then eval Fs fuel t L (ρ ++ r) else none
    | none => none
  | .any a b, L, ρ => both (eval Fs fuel a L ρ) (eval Fs fuel b L ρ)
  | .loop inits body, L, ρ => loopN (fun g xs => eval Fs fuel body (L ++ [g]) (ρ ++ xs)) fuel (inits.map (den ρ))
  | .again l es, L, ρ => match L[l]? with
    | some g => g (es.map (den ρ))
    | none => none
  | .jp body t, L, ρ => eval Fs fuel t (L ++ [fun xs => eval Fs fuel body L (ρ ++ xs)]) ρ
  | .fail _, _, _ => none
  | .stop _, _, _ => none

/-! Names and variables of a state. -/
def C.noN (m : Nat) : C → Bool
  | .ptr n _ | .vec n | .vptr n _ _ _ | .win n _ _ _ | .lit n _ => n != m
  | _ => true
def V1.noN (m : Nat) : V1 → Bool | .one c => c.noN m | .agg cs => cs.all (C.noN m)
def SV.noN (m : Nat) : SV → Bool | .one c => c.noN m | .agg cs => cs.all (C.noN m) | .tup l => l.all (V1.noN m)
def Box.noN (m : Nat) : Box → Bool | .box _ cs => cs.all (C.noN m) | .vec _ _ => true | .view _ _ _ => true | .map _ _ => true
def C.sc (n : Nat) : C → Bool
  | .dat _ e => e.sc n
  | .eptr _ a i _ => a.sc n && i.sc n
  | .pptr _ a _ => a.sc n
  | .vptr _ _ i _ => i.sc n
  | .win _ _ i j => i.sc n && j.sc n
  | .hptr _ a _ => a.sc n
  | _ => true
def V1.sc (n : Nat) : V1 → Bool | .one c => c.sc n | .agg cs => cs.all (C.sc n)
def SV.sc (n : Nat) : SV → Bool | .one c => c.sc n | .agg cs => cs.all (C.sc n) | .tup l => l.all (V1.sc n)
def Box.sc (n : Nat) : Box → Bool | .box _ cs => cs.all (C.sc n) | .vec _ x => x.sc n | .view _ a _ => a.sc n | .map _ x => x.sc n

structure S where
  st : St
  lv : Nat
  deriving DecidableEq, Inhabited
def St.fresh (st : St) : Bool := st.tm.all (fun p => p.2.noN st.nn) && st.bx.all (fun p => p.1 != st.nn && p.2.noN st.nn)
def St.sc (st : St) : Bool := st.tm.all (fun p => p.2.sc st.nv) && st.bx.all (fun p => p.2.sc st.nv) && st.fs.all (fun p => p.1.sc st.nv) && (st.hp.all (fun p => p.2.sc st.nv) && st.ex.all (fun p => p.2.2.sc st.nv))
def St.upd (st : St) (dst : Option Tmp) (sv : SV) (nb : Option Box) : St :=
  { st with
    tm := match dst with | some d => (d, sv) :: st.tm | none => st.tm
    bx := match nb with | some b => (st.nn, b) :: st.bx | none => st.bx
    nn := match nb with | some _ => st.nn + 1 | none => st.nn }

/-! Written out: the same values, computed. -/
def frN (n : Nat) (k : Nat → T) : T := match n with | 0 => k 0 | m + 1 => k (m + 1)
def frL {α : Type} (f : α → (α → T) → T) : List α → (List α → T) → T
  | [], k => k []
  | x :: xs, k => f x fun x' => frL f xs fun xs' => k (x' :: xs')
def frI (n : Int) (k : Int → T) : T := match n with | .ofNat m => frN m fun m => k (.ofNat m) | .negSucc m => frN m fun m => k (.negSucc m)
def frB (b : Bool) (k : Bool → T) : T := match b with | true => k true | false => k false
def frK (x : IntKind) (k : IntKind → T) : T :=
  match x with | .i8 => k .i8 | .i16 => k .i16 | .i32 => k .i32 | .i64 => k .i64 | .u8 => k .u8 | .u16 => k .u16 | .u32 => k .u32 | .u64 => k .u64
def frE : E → (E → T) → T
  | .var n, k => frN n fun n => k (.var n)
  | .int n, k => frI n fun n => k (.int n)
  | .bool b, k => frB b fun b => k (.bool b)
  | .str s, k => k (.str s)
  | .nil, k => k .nil
  | .ar op kd a b, k => frE a fun a => frE b fun b => frK kd fun kd => k (.ar op kd a b)
  | .cmp op a b, k => frE a fun a => frE b fun b => k (.cmp op a b)
  | .not a, k => frE a fun a => k (.not a)
  | .beq a b, k => frE a fun a => frE b fun b => k (.beq a b)
  | .conv kd a, k => frE a fun a => frK kd fun kd => k (.conv kd a)
  | .ite c a b, k => frE c fun c => frE a fun a => frE b fun b => k (.ite c a b)
  | .len a, k => frE a fun a => k (.len a)
  | .get a b, k => frE a fun a => frE b fun b => k (.get a b)
  | .cell a n, k => frE a fun a => frN n fun n => k (.cell a n)
  | .lnil, k => k .lnil
  | .lcons a b, k => frE a fun a => frE b fun b => k (.lcons a b)
  | .app a b, k => frE a fun a => frE b fun b => k (.app a b)
  | .sub c a b, k => frE c fun c => frE a fun a => frE b fun b => k (.sub c a b)
  | .slen a, k => frE a fun a => k (.slen a)
  | .scat a b, k => frE a fun a => frE b fun b => k (.scat a b)
  | .sidx a b, k => frE a fun a => frE b fun b => k (.sidx a b)
  | .ssub c a b, k => frE c fun c => frE a fun a => frE b fun b => k (.ssub c a b)
  | .scmp op a b, k => frE a fun a => frE b fun b => k (.scmp op a b)
  | .isnil a, k => frE a fun a => k (.isnil a)
  | .mkif n a, k => frE a fun a => frN n fun n => k (.mkif n a)
  | .isif n a, k => frE a fun a => frN n fun n => k (.isif n a)
  | .ifv a, k => frE a fun a => k (.ifv a)
  | .ptr a, k => frE a fun a => k (.ptr a)
  | .and a b, k => frE a fun a => frE b fun b => k (.and a b)
  | .or a b, k => frE a fun a => frE b fun b => k (.or a b)
  | .set c a b, k => frE c fun c => frE a fun a => frE b fun b => k (.set c a b)
  | .setc n a c v, k => frN n fun n => frE a fun a => frN c fun c => frE v fun v => k (.setc n a c v)
  | .rep a b, k => frE a fun a => frE b fun b => k (.rep a b)
  | .mget ks a b c, k => frL frN ks fun ks => frE a fun a => frE b fun b => frE c fun c => k (.mget ks a b c)
  | .mput ks a b c, k => frL frN ks fun ks => frE a fun a => frE b fun b => frE c fun c => k (.mput ks a b c)
  | .mix ks a b, k => frL frN ks fun ks => frE a fun a => frE b fun b => k (.mix ks a b)
def frTy : Ty → (Ty → T) → T
  | .int x, k => frK x fun x => k (.int x)
  | .bool, k => k .bool
  | .str, k => k .str
  | .ifc, k => k .ifc
  | .slice n, k => frN n fun n => k (.slice n)
  | .ptr n, k => frN n fun n => k (.ptr n)
  | .fn, k => k .fn
def frC : C → (C → T) → T
  | .dat t e, k => frTy t fun t => frE e fun e => k (.dat t e)
  | .ptr n off, k => frN n fun n => frN off fun off => k (.ptr n off)
  | .eptr t a i c, k => frN t fun t => frE a fun a => frE i fun i => frN c fun c => k (.eptr t a i c)
  | .pptr t a c, k => frN t fun t => frE a fun a => frN c fun c => k (.pptr t a c)
  | .vec n, k => frN n fun n => k (.vec n)
  | .vptr n t i c, k => frN n fun n => frN t fun t => frE i fun i => frN c fun c => k (.vptr n t i c)
  | .lit n len, k => frN n fun n => frN len fun len => k (.lit n len)
  | .win n t i j, k => frN n fun n => frN t fun t => frE i fun i => frE j fun j => k (.win n t i j)
  | .hptr t a c, k => frN t fun t => frE a fun a => frN c fun c => k (.hptr t a c)
  | .fn f, k => frN f fun f => k (.fn f)
  | .nils, k => k .nils
  | .nilp, k => k .nilp
  | .nilf, k => k .nilf
  | .junk, k => k .junk
def frV1 : V1 → (V1 → T) → T
  | .one c, k => frC c fun c => k (.one c)
  | .agg cs, k => frL frC cs fun cs => k (.agg cs)
def frSV : SV → (SV → T) → T
  | .one c, k => frC c fun c => k (.one c)
  | .agg cs, k => frL frC cs fun cs => k (.agg cs)
  | .tup l, k => frL frV1 l fun l => k (.tup l)
def frBox : Box → (Box → T) → T
  | .box t cs, k => frN t fun t => frL frC cs fun cs => k (.box t cs)
  | .vec t e, k => frN t fun t => frE e fun e => k (.vec t e)
  | .view t a c, k => frN t fun t => frE a fun a => frN c fun c => k (.view t a c)
  | .map t e, k => frN t fun t => frE e fun e => k (.map t e)
def frO (nb : Option Box) (k : Option Box → T) : T := match nb with | none => k none | some b => frBox b fun b => k (some b)
def frP {α : Type} (f : α → (α → T) → T) (p : Nat × α) (k : Nat × α → T) : T := frN p.1 fun n => f p.2 fun x => k (n, x)
def frCf (cf : Cf) (k : Cf → T) : T := match cf with | ⟨a, b, c, d, e, f, g⟩ => k ⟨a, b, c, d, e, f, g⟩
def frHp (hp : Option (Bool × E)) (k : Option (Bool × E) → T) : T := match hp with | none => k none | some (b, e) => frB b fun b => frE e fun e => k (some (b, e))
def frSt (st : St) (k : St → T) : T := frL (frP frSV) st.tm fun tm => frL (frP frBox) st.bx fun bx => frN st.nn fun nn => frN st.nv fun nv => frL (fun p k => frE p.1 fun e => frB p.2 fun b => k (e, b)) st.fs fun fs => frL (fun p k => frN p.1 fun n => frN p.2.1 fun t => frE p.2.2 fun e => k (n, t, e)) st.ex fun ex => frCf st.cf fun cf => frHp st.hp fun hp => k ⟨tm, bx, nn, nv, fs, ex, cf, hp⟩
theorem frN_eq (n : Nat) (k : Nat → T) : frN n k = k n := by cases n <;> rfl
theorem frNs_eq : ∀ (l : List Nat) (k : List Nat → T), frL frN l k = k l
  | [], k => rfl
  | x :: xs, k => by simp only [frL, frN_eq, frNs_eq xs]
theorem frL_eq {α : Type} {f : α → (α → T) → T} (hf : ∀ x k, f x k = k x) : ∀ (l : List α) (k : List α → T), frL f l k = k l
  | [], k => rfl
  | x :: xs, k => by simp only [frL, hf, frL_eq hf xs]
theorem frI_eq (n : Int) (k : Int → T) : frI n k = k n := by cases n <;> simp only [frI, frN_eq]
theorem frB_eq (b : Bool) (k : Bool → T) : frB b k = k b := by cases b <;> rfl
theorem frK_eq (x : IntKind) (k : IntKind → T) : frK x k = k x := by cases x <;> rfl
theorem frE_eq : ∀ (e : E) (k : E → T), frE e k = k e := by
  intro e
  induction e <;> intro k <;> simp only [frE, frN_eq, frNs_eq, frI_eq, frB_eq, frK_eq, *]
theorem frTy_eq (t : Ty) (k : Ty → T) : frTy t k = k t := by cases t <;> simp only [frTy, frK_eq, frN_eq]
theorem frC_eq (c : C) (k : C → T) : frC c k = k c := by cases c <;> simp only [frC, frTy_eq, frE_eq, frN_eq]
theorem frV1_eq (c : V1) (k : V1 → T) : frV1 c k = k c := by cases c <;> simp only [frV1, frC_eq, frL_eq frC_eq]
theorem frSV_eq (c : SV) (k : SV → T) : frSV c k = k c := by cases c <;> simp only [frSV, frC_eq, frL_eq frC_eq, frL_eq frV1_eq]
theorem frBox_eq (c : Box) (k : Box → T) : frBox c k = k c := by cases c <;> simp only [frBox, frN_eq, frE_eq, frL_eq frC_eq]
theorem frP_eq {α : Type} {f : α → (α → T) → T} (hf : ∀ x k, f x k = k x) (p : Nat × α) (k : Nat × α → T) : frP f p k = k p := by obtain ⟨n, x⟩ := p; simp only [frP, frN_eq, hf]
theorem frCf_eq (cf : Cf) (k : Cf → T) : frCf cf k = k cf := by cases cf; rfl
theorem frHp_eq (hp : Option (Bool × E)) (k : Option (Bool × E) → T) : frHp hp k = k hp := by
  cases hp with
  | none => rfl
  | some p => obtain ⟨b, e⟩ := p; simp only [frHp, frB_eq, frE_eq]
theorem frSt_eq (st : St) (k : St → T) : frSt st k = k st := by
  obtain ⟨tm, bx, nn, nv, fs, ex, cf, hp⟩ := st
  simp only [frSt, frL_eq (frP_eq frSV_eq), frL_eq (frP_eq frBox_eq), frN_eq, frCf_eq, frHp_eq]
  rw [frL_eq (fun p k => by obtain ⟨e, b⟩ := p; simp only [frE_eq, frB_eq]), frL_eq (fun p k => by obtain ⟨n, t, e⟩ := p; simp only [frE_eq])]
theorem frO_eq (c : Option Box) (k : Option Box → T) : frO c k = k c := by cases c <;> simp only [frO, frBox_eq]

/-! Shapes of arguments and results: a cell, several, a slice that is given away. -/
inductive Sh where
  | one (t : Ty) | agg (ts : List Ty) | row (e : TypeId)
  deriving DecidableEq, Inhabited
def Sh.size : Sh → Nat | .one _ => 1 | .agg ts => ts.length | .row _ => 1
def shOf (P : Program) (t : TypeId) : Option Sh :=
  match tyOf P t with
  | some u => some (.one u)
  | none => match aggB P t with
    | some true => (cellTys P t).map .agg
    | _ => none
def shsOf (P : Program) : List TypeId → Option (List Sh)
  | [] => some []
  | t :: ts => match shOf P t, shsOf P ts with
    | some s, some l => some (s :: l)
    | _, _ => none
/-- Some results are rows. -/
def rowSh (m : Nat) : Nat → List Sh → List Sh
  | _, [] => []
  | i, .one (.slice e) :: l => (if m.testBit i then .row e else .one (.slice e)) :: rowSh m (i + 1) l
  | i, s :: l => s :: rowSh m (i + 1) l
def sigOf (P : Program) (cf : Cf) (f : Nat) : Option (List Sh × List Sh × Nat) :=
  match P.funcs[f]? with
  | some fn => match shsOf P fn.params.toList, shsOf P fn.resultTypes.toList with
    | some ps, some rs => if fn.body.isSome && fn.name != "runtime.NumGoroutine" then some ((match cf.rp.lookup f with | some m => rowSh m 0 ps | none => ps) ++ ((cf.cp.lookup f).getD []).map (fun e => .one (.ptr e)), match cf.rr.lookup f with | some m => rowSh m 0 rs | none => rs, (cf.hm.lookup f).getD 0) else none
    | _, _ => none
  | none => none
def varCs : List Ty → Nat → List C
  | [], _ => []
  | t :: ts, n => .dat t (.var n) :: varCs ts (n + 1)
def Sh.mk (n nn : Nat) : Sh → V1
  | .one t => .one (.dat t (.var n))
  | .agg ts => .agg (varCs ts n)
  | .row _ => .one (.vec nn)
def mkShs : List Sh → Nat → Nat → List V1
  | [], _, _ => []
  | s :: l, n, nn => s.mk n nn :: mkShs l (n + s.size) nn
def shSize (l : List Sh) : Nat := (l.map Sh.size).sum
def resSV (l : List Sh) (n nn : Nat) : SV := match mkShs l n nn with | [v] => v.sv | l => .tup l
/-- The row among results. -/
def rowBx : List Sh → Nat → List Box
  | [], _ => []
  | .row e :: l, n => .vec e (.var n) :: rowBx l (n + 1)
  | s :: l, n => rowBx l (n + s.size)
def Ty.flat : Ty → Bool | .int _ | .bool | .str => true | _ => false
def Sh.flat (P : Program) : Sh → Bool
  | .one t => t.flat
  | .agg ts => ts.all Ty.flat
  | .row e => match cellTys P e with | some ts => ts.all Ty.flat | none => false
def matSh : Sh → SV → Option (List E)
  | .one t, .one c => (mat t c).map ([·])
  | .agg ts, .agg cs => matL ts cs
  | _, _ => none
/-- A row lent. -/
def lendSV (P : Program) (st : St) : SV → SV
  | .one (.vec m) => match rowOf P st m with
    | some (e, y) => .one (.dat (.slice e) y)
    | none => .one (.vec m)
  | s => s
def ownN (st : St) : SV → Bool
  | .one (.vec m) => match st.bx.lookup m with | some (.view _ _ _) => false | _ => true
  | _ => true
def matShs : List Sh → List SV → Option (List E)
  | [], [] => some []
  | s :: ss, v :: vs => match matSh s v, matShs ss vs with
    | some a, some b => some (a ++ b)
    | _, _ => none
  | _, _ => none
/-- Rows that are given away. -/
def consumed : List Sh → List SV → List Nat
  | .row _ :: ss, .one (.vec m) :: vs => m :: consumed ss vs
  | _ :: ss, _ :: vs => consumed ss vs
  | _, _ => []
def matRow (P : Program) (st : St) (e : TypeId) : SV → Option E
  | .one (.vec m) => match st.bx.lookup m with
    | some (.vec e' y) => if e = e' then some y else none
    | _ => none
  | .one .nils => if (cellTys P e).isSome = true then some .lnil else none
  | _ => none
def matRes (P : Program) (st : St) : List Sh → List SV → Option (List E)
  | [], [] => some []
  | .row e :: ss, v :: vs => match matRow P st e v, matRes P st ss vs with
    | some y, some es => some (y :: es)
    | _, _ => none
  | .one t :: ss, v :: vs => match matSh (.one t) v, matRes P st ss vs with
    | some a, some b => some (a ++ b)
    | _, _ => none
  | .agg t :: ss, v :: vs => match matSh (.agg t) v, matRes P st ss vs with
    | some a, some b => some (a ++ b)
    | _, _ => none
  | _, _ => none
def opVL (st : St) : List Operand → Option (List SV)
  | [] => some []
  | x :: l => match opV st x, opVL st l with
    | some v, some vs => some (v :: vs)
    | _, _ => none

def needs : List E → T → T
  | [], t => t
  | e :: es, t => if e = .bool true then needs es t else .need e (needs es t)
def addFact (e : E) (b : Bool) (fs : List (E × Bool)) : List (E × Bool) :=
  match e with
  | .not a => (.not a, b) :: (a, !b) :: fs
  | e => (e, b) :: fs

/-! Rows of the call's own: what names the row m becomes junk, or data. -/
def C.jk (m : Nat) : C → C
  | .ptr n off => if n = m then .junk else .ptr n off
  | .vec n => if n = m then .junk else .vec n
  | .vptr n t i c => if n = m then .junk else .vptr n t i c
  | .win n t i j => if n = m then .junk else .win n t i j
  | .lit n len => if n = m then .junk else .lit n len
  | c => c
def V1.jk (m : Nat) : V1 → V1 | .one c => .one (c.jk m) | .agg cs => .agg (cs.map (C.jk m))
def SV.jk (m : Nat) : SV → SV | .one c => .one (c.jk m) | .agg cs => .agg (cs.map (C.jk m)) | .tup l => .tup (l.map (V1.jk m))
def Box.jk (m : Nat) : Box → Box | .box t cs => .box t (cs.map (C.jk m)) | b => b
def C.fz (m : Nat) (e : TypeId) (y : E) : C → C
  | .vec n => if n = m then .dat (.slice e) y else .vec n
  | .vptr n t i c => if n = m then (if t = e then .eptr e y i c else .junk) else .vptr n t i c
  | .win n t i j => if n = m then .junk else .win n t i j
  | c => c
def V1.fz (m : Nat) (e : TypeId) (y : E) : V1 → V1 | .one c => .one (c.fz m e y) | .agg cs => .agg (cs.map (C.fz m e y))
def SV.fz (m : Nat) (e : TypeId) (y : E) : SV → SV | .one c => .one (c.fz m e y) | .agg cs => .agg (cs.map (C.fz m e y)) | .tup l => .tup (l.map (V1.fz m e y))
def Box.fz (m : Nat) (e : TypeId) (y : E) : Box → Box | .box t cs => .box t (cs.map (C.fz m e y)) | b => b
/-- The row m is not written any more. -/
def St.fz (st : St) (m : Nat) : St :=
  match st.bx.lookup m with
  | some (.vec e y) => { st with tm := st.tm.map fun p => (p.1, p.2.fz m e y), bx := (st.bx.filter fun p => p.1 != m).map fun p => (p.1, p.2.fz m e y) }
  | _ => st
def St.fzs (st : St) (l : List Nat) : St := l.foldl St.fz st
/-- The row m has become y. -/
def St.grow (st : St) (m : Nat) (e : TypeId) (y : E) : St := { st with tm := st.tm.map fun p => (p.1, p.2.jk m), bx := (m, .vec e y) :: (st.bx.filter fun p => p.1 != m).map fun p => (p.1, p.2.jk m) }
/-- Rows that a value names. -/
def C.rows : C → List Nat
  | .vec n | .vptr n _ _ _ | .win n _ _ _ => [n]
  | _ => []
def V1.rows : V1 → List Nat | .one c => c.rows | .agg cs => cs.flatMap C.rows
def SV.rows : SV → List Nat | .one c => c.rows | .agg cs => cs.flatMap C.rows | .tup l => l.flatMap V1.rows
def Box.rows : Box → List Nat | .box _ cs => cs.flatMap C.rows | _ => []
/-- Rows that operands name, by themselves or by a box. -/
def St.rowsOf (st : St) (l : List Operand) : List Nat := l.flatMap fun x => match opV st x with
  | some (.one (.ptr n _)) => match st.bx.lookup n with | some b => b.rows | none => []
  | some v => v.rows
  | none => []
def St.allRows (st : St) : List Nat := st.bx.filterMap fun p => match p.2 with | .vec _ _ => some p.1 | _ => none
/-- Names lost. -/
def St.lose1 (st : St) (m : Nat) : St := { st with tm := st.tm.map fun p => (p.1, p.2.jk m), bx := (st.bx.filter fun p => p.1 != m).map fun p => (p.1, p.2.jk m) }
def St.lose (st : St) (l : List Nat) : St := l.foldl St.lose1 st
def St.views (st : St) : List Nat := st.bx.filterMap fun p => match p.2 with | .view _ _ _ => some p.1 | _ => none
/-- A row more, a nil one. -/
def St.newRow (st : St) (e : TypeId) : St := { st with bx := (st.nn, .vec e .lnil) :: st.bx, nn := st.nn + 1 }

section
variable (P : Program) (nt : Nat)
def okDst (dst : Option Tmp) : Bool := match dst with | some d => decide (d < nt) | none => true

def newOk (st : St) : Option Box → Bool | none => true | some b => st.fresh && b.noN st.nn
/-- An operation that yields a value. -/
def doV (st : St) (o : Oper) (K : St → T) : Option T :=
  match evV P st o.op o.type with
  | some (es, sv, nb) => if okDst nt o.dst && newOk st nb then some (needs es (frSV sv fun sv => frO nb fun nb => K (st.upd o.dst sv nb))) else none
  | none => none
def doStore (st : St) (t : TypeId) (x v : Operand) (K : St → T) : T :=
  match opC st x, opV st v with
  | some (.ptr n off), some sv => match st.bx.lookup n, sv.cells with
    | some (.box bt cs), some xs => if szOf P t = some xs.length ∧ off + xs.length ≤ cs.length then K { st with bx := (n, .box bt (putCells cs off xs)) :: st.bx } else .fail 1
    | _, _ => .fail 2
  | _, _ => .fail 3
/-- What a call hands over: data; rows of the call's own, and of the heap, are lent where nothing of them can come back. -/
def callArgs (st : St) (ps rs : List Sh) (hm : Nat) (vs : List SV) : Option (List E) :=
  match matRes P st ps vs with
  | some es => some es
  | none => if hm ≤ 1 ∧ rs.all (Sh.flat P) = true ∧ (hm = 0 ∨ vs.all (ownN st) = true) then matShs ps (vs.map (lendSV P st)) else none
/-- What it hands over of the heap. -/
def heapArg (st : St) (hm : Nat) : Option (List E) :=
  match hm with
  | 0 => some []
  | 1 => if st.ex = [] then st.hp.map fun p => [p.2] else none
  | 2 => if st.ex = [] then match st.hp with
    | some (true, h) => some [h]
    | _ => none
    else none
  | _ => none
/-- What is known behind a call. -/
def afterCall (st : St) (dst : Option Tmp) (rs : List Sh) (hm : Nat) : St :=
  let n := st.nv + shSize rs
  { st.upd dst (resSV rs st.nv st.nn) (rowBx rs st.nv).head? with nv := if hm = 2 then n + 1 else n, hp := if hm = 2 then some (true, .var n) else st.hp }
def resSize (rs : List Sh) (hm : Nat) : Nat := if hm = 2 then shSize rs + 1 else shSize rs
def frLose (st : St) (l : List Nat) (k : St → T) : T := match l with | [] => k st | l => frSt (st.lose l) k
def doCallV (st : St) (dst : Option Tmp) (f : Nat) (vs : List SV) (K : St → T) : T :=
  match sigOf P st.cf f with
  | some (ps, rs, hm) => match callArgs P st ps rs hm vs, heapArg st hm with
    | some es, some hs =>
      if (consumed ps vs).length ≤ 1 then frLose st (consumed ps vs ++ if hm = 2 then st.views else []) fun st1 => if st1.sc && st1.fresh && okDst nt dst && decide ((rowBx rs st1.nv).length ≤ 1) then .call f (es ++ hs) (resSize rs hm) (K (afterCall st1 dst rs hm)) else .fail 4
      else .fail 7
    | _, _ => .fail 5
  | none => .fail 6
def doCall (st : St) (dst : Option Tmp) (f : Nat) (args : List Operand) (K : St → T) : T :=
  match opVL st args with
  | some vs => doCallV P nt st dst f vs K
  | none => .fail 6
/-! Function values. -/
def capSV (e : E) : Nat → List TypeId → List SV
  | _, [] => []
  | i, t :: ts => .one (.dat (.ptr t) (mkIfv (mkCell (mkIfv e) i))) :: capSV e (i + 1) ts
def capNeed (e : E) : Nat → List TypeId → List E
  | _, [] => []
  | i, t :: ts => mkIsif t (mkCell (mkIfv e) i) :: capNeed e (i + 1) ts
/-- A function value is called: one of some functions. -/
def dynAll (st : St) (dst : Option Tmp) (e : E) (vs : List SV) (K : St → T) : List (Nat × List TypeId) → T
  | [] => .fail 112
  | (f, ts) :: l => match mkIsif f e with
    | .bool false => dynAll st dst e vs K l
    | c => .ite c (needs (mkCmp .eql (mkLen (mkIfv e)) (.int ts.length) :: capNeed e 0 ts) (doCallV P nt st dst f (vs ++ capSV e 0 ts) K)) (dynAll st dst e vs K l)
/-- Functions that may be called so. -/
def dynCands (st : St) (ty : TypeId) (e : E) (vs : List SV) : List (Nat × List TypeId) :=
  st.cf.cp.filter fun p => match sigOf P st.cf p.1 with
    | some (ps, rs, hm) => (callArgs P st ps rs hm (vs ++ capSV e 0 p.2)).isSome && (match rs with | [s] => decide (shOf P ty = some s) | _ => true)
    | none => false
/-- A captured variable: a box that turns no more, or a pointer that is data. -/
def capOne (st : St) (e : TypeId) (x : Operand) : Option (E × St) :=
  match opC st x with
  | some (.ptr n 0) => match st.bx.lookup n, cellTys P e with
    | some (.box bt cs), some ts => match matL ts cs with
      | some es => if st.cf.hc.contains e = false then some (listE es, { st with bx := st.bx.filter fun p => p.1 != n }) else none
      | none => none
    | _, _ => none
  | some c => (mat (.ptr e) c).map fun x => (x, st)
  | none => none
def capAll : St → List TypeId → List Operand → Option (List E × St)
  | st, [], [] => some ([], st)
  | st, e :: es, x :: xs => match capOne P st e x with
    | some (y, st1) => match capAll st1 es xs with
      | some (ys, st2) => some (.mkif e y :: ys, st2)
      | none => none
    | none => none
  | _, _, _ => none
def doFn (st : St) (dst : Option Tmp) (f : Nat) (caps : List Operand) (K : St → T) : T :=
  match capAll P st ((st.cf.cp.lookup f).getD []) caps with
  | some (es, st1) => if okDst nt dst then frE (listE es) fun d => frSt st1 fun st1 => K (st1.upd dst (.one (.dat .fn (.mkif f d))) none) else .fail 110
  | none => .fail 111
/-- Rows that are frozen ahead of a call: all but those that are given away, where the function takes such. -/
def callRows (st : St) (f : Nat) (args : List Operand) : List Nat := match sigOf P st.cf f, opVL st args with
  | some (ps, _, _), some vs => (st.rowsOf args).filter fun m => !(consumed ps vs).contains m
  | _, _ => st.rowsOf args
/-- Whether a call leaves all rows where they are. -/
def lends (st : St) (f : Nat) : Bool := match sigOf P st.cf f with | some (ps, rs, hm) => decide (hm ≤ 1) && rs.all (Sh.flat P) && (rowBx ps 0).isEmpty | none => false
/-- A pointer to a box of the call's own becomes an interface value: the box is not written any more. -/
def doFreeze (st : St) (dst : Option Tmp) (t : TypeId) (x : Operand) (K : St → T) : T :=
  match opC st x, tyOf P t with
  | some (.ptr n 0), some (.ptr e) => match st.bx.lookup n, cellTys P e with
    | some (.box _ cs), some ts => match matL ts cs with
      | some es => if okDst nt dst && !st.cf.hc.contains e then K ({ st with bx := st.bx.filter (fun p => p.1 != n) }.upd dst (.one (.dat .ifc (.mkif t (listE es)))) none) else .fail 7
      | none => .fail 8
    | _, _ => .fail 9
  | _, _ => .fail 10
/-- How many bytes an element has that may stand in a row of the call's own. -/
def rowOk (e : TypeId) : Option Nat :=
  match P.info? e, cellTys P e with
  | some i, some ts => match i.zero with
    | some z => if z.cells.size = i.size ∧ 0 < i.size ∧ ts.length = i.size then some i.bytes else none
    | none => none
  | _, _ => none
def mostOf (bytes : Nat) : Nat := 140737488355328 / max bytes 1
def mkApp : E → E → E
  | .lnil, d => d
  | .lcons a b, d => .lcons a (mkApp b d)
  | c, .lnil => c
  | c, d => .app c d
def mkAppE : E → E → E
  | .lnil, d => d
  | c, .lnil => c
  | c, d => .app c d
/-- What a slice that is appended holds. -/
def rowData (st : St) (e : TypeId) (m : Nat) (x : Operand) : Option E :=
  match opC st x with
  | some (.dat (.slice e') y) => if e = e' then some y else none
  | some .nils => some .lnil
  | some (.vec k) => if k = m then none else match rowOf P st k with
    | some (e', y) => if e = e' then some y else none
    | _ => none
  | _ => none
/-- The row that a thing of the heap holds in a cell is taken out of it. -/
def St.takeOut (st : St) (m : Nat) (e : TypeId) (y : E) (t : TypeId) (a : E) (j : Nat) : St :=
  let s := st.lose (st.views.filter fun n => n != m)
  { s with bx := (m, .vec e y) :: s.bx, ex := (j, t, a) :: s.ex }
def doAppendTo (st : St) (dst : Option Tmp) (e : TypeId) (m : Nat) (c : E) (y : Operand) (K : St → T) : T :=
  match rowOk P e, rowData P st e m y with
  | some bytes, some d => frE (mkApp c d) fun cd => .need (.cmp .leq (.len cd) (.int (mostOf bytes))) (frSt (st.grow m e cd) fun st' => K (st'.upd dst (.one (.vec m)) none))
  | _, _ => .fail 60
def doAppend (st : St) (dst : Option Tmp) (t : TypeId) (x y : Operand) (K : St → T) : T :=
  match P.underlying t with
  | some (.slice e) => if okDst nt dst then match opC st x with
    | some (.vec m) => match st.bx.lookup m with
      | some (.vec e' c) => if e' = e then doAppendTo P st dst e m c y K else .fail 61
      | some (.view ot a j) => match rowOf P st m, st.hp with
        | some (e', c), some (true, _) => if e' = e ∧ (P.underlying t).isSome = true then match rowData P st e m y with
          | some d => frSt (st.takeOut m e c ot a j) fun st1 => doAppendTo P st1 dst e m c y K
          | none => .fail 107
          else .fail 108
        | _, _ => .fail 109
      | _ => .fail 62
    | some .nils => if st.fresh && (rowOk P e).isSome then doAppendTo P (st.newRow e) dst e st.nn .lnil y K else .fail 63
    | _ => .fail 64
    else .fail 65
  | _ => .fail 66
def zeroE (e : TypeId) : Option E :=
  match zeroCs P e, cellTys P e with
  | some zs, some ts => match matL ts zs with
    | some es => some (if ts.length = 1 then es.headD .nil else listE es)
    | none => none
  | _, _ => none
def doMake (st : St) (dst : Option Tmp) (t : TypeId) (l c : Operand) (K : St → T) : T :=
  match P.underlying t with
  | some (.slice e) => match opC st l, opC st c, rowOk P e, zeroE P e with
    | some (.dat (.int k) n), some (.dat (.int k') n'), some bytes, some z => if n = n' ∧ okDst nt dst = true ∧ st.fresh = true then
        needs [mkCmp .geq n (.int 0), mkCmp .leq n (.int (mostOf bytes))] (K ({ st with bx := (st.nn, .vec e (.rep n z)) :: st.bx, nn := st.nn + 1 }.upd dst (.one (.vec st.nn)) none)) else .fail 67
    | _, _, _, _ => .fail 68
  | _ => .fail 69
def setcs (n : Nat) : E → Nat → List E → E
  | a, _, [] => a
  | a, c, e :: es => setcs n (.setc n a c e) (c + 1) es
/-- A store into an element of a row of the call's own. -/
def doStoreV (st : St) (t : TypeId) (x v : Operand) (K : St → T) : T :=
  match opC st x, opV st v with
  | some (.vptr m tt i c), some sv => match st.bx.lookup m, sv.cells, cellTys P tt with
    | some (.vec e y), some xs, some ts => if e = tt ∧ szOf P t = some xs.length ∧ c + xs.length ≤ ts.length ∧ 0 < xs.length then
        match matL ((ts.drop c).take xs.length) xs with
        | some es =>
          let el := if ts.length = 1 then es.headD .nil else if c = 0 ∧ es.length = ts.length then listE es else setcs ts.length (.get y i) c es
          frE (.set y i el) fun y' => K { st with bx := (m, .vec e y') :: st.bx }
        | none => .fail 70
        else .fail 71
    | _, _, _ => .fail 72
  | _, _ => .fail 73
/-- Whether a slice is nil: that is not told by what it holds, but if it holds nothing. -/
def nilT (op : BinOp) (z : E) (t f : T) : T := match op with
  | .eql => .ite (mkCmp .eql (.len z) (.int 0)) (.any t f) f
  | .neq => .ite (mkCmp .eql (.len z) (.int 0)) (.any f t) t
  | _ => .fail 117
def doNilS (st : St) (dst : Option Tmp) (op : BinOp) (t : TypeId) (x : Operand) (K : St → T) : T :=
  let ans := fun b => K (st.upd dst (.one (.dat .bool (.bool b))) none)
  let go := fun y => if okDst nt dst = true then nilT op y (ans true) (ans false) else .fail 118
  match P.underlying t, opC st x with
  | some (.slice _), some (.dat (.slice _) y) => go y
  | some (.slice _), some (.vec m) => match rowOf P st m with
    | some (_, y) => go y
    | none => .fail 119
  | _, _ => .fail 120
/-- A slice literal of nothing. -/
def doLit0 (st : St) (dst : Option Tmp) (t : TypeId) (K : St → T) : T :=
  match P.underlying t with
  | some (.slice e) => if okDst nt dst && st.fresh && (szOf P e).isSome && (cellTys P e).isSome && (zeroCs P e).isSome then K ((st.newRow e).upd dst (.one (.vec st.nn)) none) else .fail 121
  | _ => .fail 122
/-- A slice literal of pointers that are no data: a box of its own. -/
def ptrPart (st : St) (parts : List (Nat × Operand)) : Bool := parts.any fun p => match opC st p.2 with
  | some (.vptr _ _ _ _) | some (.eptr _ _ _ _) | some (.pptr _ _ _) => true
  | _ => false
def doLitP (st : St) (dst : Option Tmp) (t : TypeId) (len : Nat) (parts : Array (Nat × Operand)) (K : St → T) : T :=
  match P.underlying t with
  | some (.slice e) => match szOf P e, zeroCs P e, opVs st parts.toList with
    | some n, some zs, some vs => if zs.length = n ∧ 0 < n ∧ 0 < len ∧ len * n ≤ 2 ^ 24 ∧ okDst nt dst = true ∧ st.fresh = true then
        match fillC (fun i => some (i * n, n)) ((List.range (len * n)).map fun j => zs.getD (j % n) .junk) vs with
        | some cs => frL frC cs fun cs => if cs.all (C.noN st.nn) then K ((st.upd none (.tup []) (some (.box e cs))).upd dst (.one (.lit st.nn len)) none) else .fail 140
        | none => .fail 141
      else .fail 142
    | _, _, _ => .fail 143
  | _ => .fail 144
def isNilS : Operand → Bool | .const (.slice none 0 0) => true | _ => false
def isZero : Option Operand → Bool
  | none => true
  | some (.const (.int _ 0)) => true
  | _ => false
/-- The slice [0:0:0] of a slice: a row of its own that holds nothing. -/
def doEmpty (st : St) (dst : Option Tmp) (t : TypeId) (x : Operand) (K : St → T) : T :=
  match P.underlying t, opC st x with
  | some (.slice e), some (.dat (.slice _) _) => if okDst nt dst && st.fresh && (szOf P e).isSome && (cellTys P e).isSome then K ((st.newRow e).upd dst (.one (.vec st.nn)) none) else .fail 115
  | _, _ => .fail 116
/-- A window of a row of the call's own. -/
def evWin (st : St) (t : TypeId) (x : Operand) (lo hi mx : Option Operand) : Option (List E × SV) :=
  match P.underlying t, opC st x, mx with
  | some (.slice e), some (.vec m), none => match st.bx.lookup m with
    | some (.vec e' y) => match boundsC st lo (.int 0), boundsC st hi (.len y), cellTys P e, szOf P e with
      | some l, some h, some ts, some n => if e = e' ∧ ts.length = n then some ([.cmp .leq (.int 0) l, .cmp .leq l h, .cmp .leq h (.len y)], .one (.win m e l h)) else none
      | _, _, _, _ => none
    | _ => none
  | _, _, _ => none
def doWin (st : St) (dst : Option Tmp) (t : TypeId) (x : Operand) (lo hi mx : Option Operand) (K : St → T) : T :=
  match evWin P st t x lo hi mx with
  | some (es, sv) => if okDst nt dst = true then needs es (K (st.upd dst sv none)) else .fail 124
  | none => .fail 125
/-- What is copied into: the row, its elements from where to where. -/
def dstWin (st : St) (e : TypeId) (x : Operand) : Option (Nat × E × E × E) :=
  match opC st x with
  | some (.vec m) => match st.bx.lookup m with
    | some (.vec e' y) => if e = e' then some (m, y, .int 0, .len y) else none
    | _ => none
  | some (.win m e' i j) => match st.bx.lookup m with
    | some (.vec e'' y) => if e = e' ∧ e' = e'' then some (m, y, i, j) else none
    | _ => none
  | _ => none
def srcData (st : St) (e : TypeId) (x : Operand) : Option E :=
  match opC st x with
  | some (.dat (.slice e') y) => if e = e' then some y else none
  | some .nils => some .lnil
  | some (.vec k) => match rowOf P st k with
    | some (e', y) => if e = e' then some y else none
    | none => none
  | some (.win k e' i j) => match st.bx.lookup k with
    | some (.vec e'' y) => if e = e' ∧ e' = e'' then some (.sub y i j) else none
    | _ => none
  | _ => none
def copyN (y i j d : E) : E :=
  let l := if j = .len y ∧ i = .int 0 then j else .len (.sub y i j)
  mkIte (.cmp .leq (.len d) l) (.len d) l
def copyE (y i d n : E) : E :=
  let z := if i = .int 0 then y else .sub y i (.len y)
  mkAppE (if i = .int 0 then .lnil else .sub y (.int 0) i) (mkAppE (.sub d (.int 0) n) (.sub z n (.len z)))
def doCopy (st : St) (dst : Option Tmp) (t : TypeId) (x y : Operand) (K : St → T) : T :=
  match P.underlying t with
  | some (.slice e) => match dstWin st e x, srcData P st e y, rowOk P e with
    | some (m, y0, i, j), some d, some _ => if okDst nt dst = true then
        frE (copyN y0 i j d) fun n => frE (copyE y0 i d n) fun y' => K ({ st with bx := (m, .vec e y') :: st.bx }.upd dst (.one (.dat (.int .i64) n)) none) else .fail 134
    | _, _, _ => .fail 135
  | _ => .fail 136
/-- A row with d at its elements i to j. -/
def winE (y i j d : E) : E := mkAppE (if i = .int 0 then .lnil else .sub y (.int 0) i) (mkAppE d (if j = .len y then .lnil else .sub y j (.len y)))
def doClear (st : St) (dst : Option Tmp) (t : TypeId) (x : Operand) (K : St → T) : T :=
  match P.underlying t, opC st x with
  | some (.slice e), some (.win m e' i j) => match st.bx.lookup m, zeroE P e, rowOk P e with
    | some (.vec e'' y), some z, some _ => if e = e' ∧ e' = e'' ∧ okDst nt dst = true then frE (winE y i j (.rep (.len (.sub y i j)) z)) fun y' => K ({ st with bx := (m, .vec e y') :: st.bx }.upd dst (.tup []) none) else .fail 128
    | _, _, _ => .fail 129
  | _, _ => .fail 130
/-! Maps. -/
def doMkMap (st : St) (dst : Option Tmp) (t : TypeId) (K : St → T) : T :=
  match mapTy P t with
  | some (k, e) => if okDst nt dst && st.fresh && (cellTys P k).isSome && (cellTys P e).isSome && (aggB P k).isSome && (aggB P e).isSome then K ({ st with bx := (st.nn, .map t .lnil) :: st.bx, nn := st.nn + 1 }.upd dst (.one (.vec st.nn)) none) else .fail 150
  | none => .fail 151
def doMapUpd (st : St) (dst : Option Tmp) (t : TypeId) (m x v : Operand) (K : St → T) : T :=
  match mapArgs P st t m x with
  | some (n, y, k, e, ks, q) => match cellTys P e, aggB P e, opV st v with
    | some us, some g, some sv => match elData us g sv with
      | some d => if dst = none then frE (.mput ks y q d) fun y' => K { st with bx := (n, .map t y') :: st.bx } else .fail 152
      | none => .fail 153
    | _, _, _ => .fail 154
  | none => .fail 155
def doMapEntry (st : St) (dst : Option Tmp) (t : TypeId) (m x : Operand) (K : St → T) : T :=
  match mapArgs P st t m x with
  | some (n, y, k, e, ks, q) => match cellTys P e, aggB P e, zeroEl P e with
    | some us, some g, some z => if okDst nt dst = true ∧ (g = true ∨ us.length = 1) then
        match elSV us g (.mget ks y q z) with
        | .tup _ => .fail 156
        | .one c => frE (.mput ks y q (.mget ks y q z)) fun y' => K ({ st with bx := (n, .map t y') :: st.bx }.upd dst (.tup [.one c, .one (.dat (.int .i64) (.mix ks y q))]) none)
        | .agg cs => frE (.mput ks y q (.mget ks y q z)) fun y' => K ({ st with bx := (n, .map t y') :: st.bx }.upd dst (.tup [.agg cs, .one (.dat (.int .i64) (.mix ks y q))]) none)
        else .fail 157
    | _, _, _ => .fail 158
  | none => .fail 159
/-- The entry of a number, with another value. -/
def mstPlain (a s v : E) : E := .set a s (.lcons (.cell (.get a s) 0) (.lcons v .lnil))
def mkMst (a s v : E) : List E × E :=
  match a, s with
  | .mput ks y k z, .mix ks' y' k' => if ks = ks' ∧ y = y' ∧ k = k' then ([], .mput ks y k v) else ([.cmp .geq s (.int 0), .cmp .lss s (.len a)], mstPlain a s v)
  | a, s => ([.cmp .geq s (.int 0), .cmp .lss s (.len a)], mstPlain a s v)
def doEntryStore (st : St) (dst : Option Tmp) (t : TypeId) (m x v : Operand) (K : St → T) : T :=
  match mapTy P t, opC st m, opC st x, opV st v with
  | some (k, e), some (.vec n), some (.dat (.int .i64) s), some sv => match st.bx.lookup n, cellTys P e, aggB P e with
    | some (.map t' y), some us, some g => match elData us g sv with
      | some d => if dst = none ∧ t = t' then needs (mkMst y s d).1 (frE (mkMst y s d).2 fun y' => K { st with bx := (n, .map t y') :: st.bx }) else .fail 160
      | none => .fail 161
    | _, _, _ => .fail 162
  | _, _, _, _ => .fail 163
/-! The heap. -/
/-- Cells that a thing is laid with: data, or rows of the call's own that become its. -/
def ownCells (st : St) : List OTy → List C → Option (List E × List Nat)
  | [], [] => some ([], [])
  | o :: os, c :: cs => match ownCells st os cs with
    | some (es, ms) => match o with
      | .dat t => (mat t c).map fun e => (e :: es, ms)
      | .row e => match c with
        | .nils => if (cellTys P e).isSome = true then some (.lnil :: es, ms) else none
        | .vec m => match st.bx.lookup m with
          | some (.vec e' y) => if e = e' ∧ ms.contains m = false then some (y :: es, m :: ms) else none
          | _ => none
        | _ => none
    | none => none
  | _, _ => none
def setHs (n : Nat) : E → Nat → List E → E
  | a, _, [] => a
  | a, c, e :: es => setHs n (setH n a c e) (c + 1) es
/-- A thing more. -/
def doNew (st : St) (dst : Option Tmp) (t : TypeId) (cs : List C) (K : St → T) : T :=
  match st.hp, otys P st.cf.ob t with
  | some (true, h), some os => match ownCells P st os cs with
    | some (es, ms) => if okDst nt dst = true ∧ st.ex = [] then
        frE (mkSnoc h (listE es)) fun h' => frE (mkLen h) fun x => frSt (st.lose ms) fun st' => K ({ st' with hp := some (true, h') }.upd dst (.one (.dat (.ptr t) x)) none)
      else .fail 90
    | none => .fail 91
  | _, _ => .fail 92
def doStoreH (st : St) (t : TypeId) (es0 : List E) (tt : TypeId) (a : E) (c : Nat) (sv : SV) (K : St → T) : T :=
  match st.hp, otys P st.cf.ob tt, sv.cells with
  | some (true, h), some os, some xs => match ownCells P st ((os.drop c).take xs.length) xs with
    | some (es, ms) => if szOf P t = some xs.length ∧ c + xs.length ≤ os.length ∧ 0 < xs.length ∧ st.ex.all (fun x => !(decide (c ≤ x.1) && decide (x.1 < c + xs.length)) || decide (x.2.2 = a)) = true then
        needs es0 (frE (mkSet h a (setHs os.length (mkGet h a) c es)) fun h' => frSt (st.lose (ms ++ st.views)) fun st' => K { st' with hp := some (true, h'), ex := st'.ex.filter fun x => !(decide (c ≤ x.1) && decide (x.1 < c + xs.length)) })
      else .fail 93
    | none => .fail 94
  | _, _, _ => .fail 95
/-- A store into an element of a row of the heap. -/
def doStoreE (st : St) (t : TypeId) (m : Nat) (tt : TypeId) (i : E) (k : Nat) (sv : SV) (K : St → T) : T :=
  match st.bx.lookup m, sv.cells, cellTys P tt with
  | some (.view ot a j), some xs, some ts => match rowOf P st m, st.hp, otys P st.cf.ob ot with
    | some (e, y), some (true, h), some os => if e = tt ∧ szOf P t = some xs.length ∧ k + xs.length ≤ ts.length ∧ 0 < xs.length then
        match matL ((ts.drop k).take xs.length) xs with
        | some es =>
          let el := if ts.length = 1 then es.headD .nil else if k = 0 ∧ es.length = ts.length then listE es else setcs ts.length (.get y i) k es
          frE (mkSet h a (setH os.length (mkGet h a) j (.set y i el))) fun h' => K { st with hp := some (true, h') }
        | none => .fail 96
        else .fail 97
    | _, _, _ => .fail 98
  | _, _, _ => .fail 99
def frFz (st : St) (l : List Nat) (k : St → T) : T := match l with | [] => k st | l => frSt (st.fzs l) k
def doOp1 (st : St) (o : Oper) (K : St → T) : T :=
  match o.op with
    | .store t x v => if o.dst = none then match opC st x with
      | some (.vptr m tt i c) => match st.bx.lookup m, opV st v with
        | some (.view _ _ _), some sv => doStoreE P st t m tt i c sv K
        | _, _ => doStoreV P st t x v K
      | some (.ptr _ _) => doStore P st t x v K
      | some cx => match asH st cx, opV st v with
        | some (es, tt, a, c), some sv => doStoreH P st t es tt a c sv K
        | _, _ => .fail 100
      | none => .fail 101
      else .fail 11
    | .alloc t => match zeroCs P t with
      | some cs => if st.cf.hc.contains t then doNew P nt st o.dst t cs K else .fail 102
      | none => .fail 103
    | .box t x => match opV st x with
      | some sv => match sv.cells with
        | some cs => if st.cf.hc.contains t then doNew P nt st o.dst t cs K else .fail 104
        | none => .fail 105
      | none => .fail 106
    | .call c => match c.callee with
      | .value x => match opC st x with
        | some (.fn f) => if lends P st f then doCall P nt st o.dst f c.args.toList K else frFz st (callRows P st f c.args.toList) fun st' => doCall P nt st' o.dst f c.args.toList K
        | some (.dat .fn _) => frFz st (st.rowsOf c.args.toList) fun st' => match opC st' x, opVL st' c.args.toList with
          | some (.dat .fn e), some vs => dynAll P nt st' o.dst e vs K (dynCands P st' o.type e vs)
          | _, _ => .fail 113
        | _ => .fail 12
      | .builtin .append => match c.args.toList, c.argTypes.toList with
        | [x, y], [t, t'] => if t = t' then doAppend P nt st o.dst t x y K else .fail 53
        | _, _ => .fail 54
      | .builtin .clear => match c.args.toList, c.argTypes.toList with
        | [x], [t] => doClear P nt st o.dst t x K
        | _, _ => .fail 131
      | .builtin .copy => match c.args.toList, c.argTypes.toList with
        | [x, y], [t, t'] => doCopy P nt st o.dst t x y K
        | _, _ => .fail 137
      | _ => .fail 12
    | .makeInterface t x => frFz st (st.rowsOf [x]) fun st' => match doV P nt st' o K with
      | some t => t
      | none => doFreeze P nt st' o.dst t x K
    | .buildSlice t n parts => if n = 0 ∧ parts.toList = [] then doLit0 P nt st o.dst t K else if ptrPart st parts.toList then doLitP P nt st o.dst t n parts K else frFz st (st.rowsOf (parts.toList.map (·.2))) fun st' => match evB P st' t n parts with
      | some sv => if okDst nt o.dst then frSV sv fun sv => K (st'.upd o.dst sv none) else .fail 50
      | none => .fail 51
    | .makeSlice t l c => doMake P nt st o.dst t l c K
    | .makeMap t none => doMkMap P nt st o.dst t K
    | .mapUpdate t m x v => doMapUpd P st o.dst t m x v K
    | .insert t m x v => doMapUpd P st o.dst t m x v K
    | .mapEntry t m x => doMapEntry P nt st o.dst t m x K
    | .entryStore t m x v => doEntryStore P st o.dst t m x v K
    | .panic _ => .need (.bool false) (.ret [])
    | .binOp op t x y _ => if isNilS y then doNilS P nt st o.dst op t x K else .fail 123
    | .makeFunc fn fs cs => match fn, fs.toList with
      | .func f, [] => frFz st (st.rowsOf cs.toList) fun st' => doFn P nt st' o.dst f cs.toList K
      | _, _ => .fail 114
    | .slice t x lo hi mx => if isZero lo && hi.isSome && isZero hi && mx.isSome && isZero mx then doEmpty P nt st o.dst t x K else frFz st (st.rowsOf [x]) fun st' => match doV P nt st' o K with
      | some t => t
      | none => .fail 55
    | _ => .fail 13
def doOp (st : St) (o : Oper) (K : St → T) : T :=
  match doV P nt st o K with
  | some t => t
  | none => doOp1 P nt st o K
/-- With its guard. -/
def doG (ops : Array Oper) (st : St) (o : Oper) (K : St → T) : T :=
  match o.guard with
  | none => doOp P nt st o K
  | some (j, want) => match (ops[j]?).bind (·.dst) with
    | some d => match st.tm.lookup d with
      | some (.one (.dat .bool e)) => match known st e with
        | some b => if b = want then doOp P nt st o K else (if okDst nt o.dst then K (st.upd o.dst (.tup []) none) else .fail 14)
        | none => if okDst nt o.dst then
            .ite e (if want then doOp P nt { st with fs := addFact e true st.fs } o K else K ({ st with fs := addFact e true st.fs }.upd o.dst (.tup []) none))
              (if want then K ({ st with fs := addFact e false st.fs }.upd o.dst (.tup []) none) else doOp P nt { st with fs := addFact e false st.fs } o K)
          else .fail 15
      | some (.tup _) => if okDst nt o.dst then K (st.upd o.dst (.tup []) none) else .fail 18
      | _ => .fail 16
    | none => .fail 17
/-- A slice that is cleared behind: it stays a window. -/
def winHere (o : Oper) (l : List Oper) : Bool := match o.op, o.dst, o.guard with
  | .slice _ _ _ _ _, some d, none => l.any fun o2 => match o2.op with
    | .call c => match c.callee, c.args.toList with
      | .builtin .clear, [.tmp d'] => decide (d' = d)
      | .builtin .copy, l => l.any fun x => match x with | .tmp d' => decide (d' = d) | _ => false
      | _, _ => false
    | _ => false
  | _, _, _ => false
def doWinO (st : St) (o : Oper) (K : St → T) : T := match o.op with
  | .slice t x lo hi mx => doWin P nt st o.dst t x lo hi mx K
  | _ => .fail 132
def doOps (ops : Array Oper) : List Oper → St → (St → T) → T
  | [], st, K => K st
  | o :: l, st, K => if winHere o l then doWinO P nt st o fun st' => doOps ops l st' K else doG P nt ops st o fun st' => doOps ops l st' K
end
end Go.Proofs.YtobacchojjfpfaaGreatDoor.Eng
