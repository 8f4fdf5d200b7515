/-
  A reader of Go functions, part B: what each operation gives, and the program that a function's code comes to.
-/
import Derived.Test.YtobacchojjfpfaaGreatDoorEngA
namespace Go.Proofs.YtobacchojjfpfaaGreatDoor.Eng
set_option linter.unusedVariables false

/-! Smaller expressions for literals. -/
def mkAr (op : BinOp) (k : IntKind) (a b : E) : E :=
  match a, b with
  | .int x, .int y => .int (arF op k x y)
  | _, _ => .ar op k a b
def mkCmp (op : BinOp) (a b : E) : E :=
  match a, b with
  | .int x, .int y => .bool (cmpF op x y)
  | _, _ => .cmp op a b
def mkNot : E → E
  | .bool b => .bool (!b)
  | .not a => .ite a (.bool true) (.bool false)
  | a => .not a
def mkAnd (a b : E) : E :=
  match a, b with
  | .bool true, b => b
  | .bool false, _ => .bool false
  | a, .bool true => a
  | a, b => .and a b
def mkBeq (a b : E) : E :=
  match a, b with
  | .bool x, .bool y => .bool (x == y)
  | a, b => .beq a b
def mkIte (c a b : E) : E :=
  match c with
  | .bool true => a
  | .bool false => b
  | c => .ite c a b
/-- The same of bools. -/
def mkIteB (c a b : E) : E :=
  match a, b with
  | .bool true, b => .or c b
  | a, .bool false => .and c a
  | a, b => mkIte c a b
def mkIteT (t : Ty) (c a b : E) : E := match t with | .bool => mkIteB c a b | _ => mkIte c a b
def mkIsnil : E → E
  | .nil => .bool true
  | .mkif _ _ => .bool false
  | .ptr _ => .bool false
  | .int _ => .bool false
  | .len _ => .bool false
  | a => .isnil a
def mkIsif (f : Nat) : E → E
  | .mkif g _ => .bool (g == f)
  | .nil => .bool false
  | a => .isif f a
def mkIfv : E → E
  | .mkif _ a => a
  | a => .ifv a
def mkConv (k : IntKind) : E → E
  | .int n => .int (k.wrap n)
  | a => .conv k a
def mkCell (a : E) (c : Nat) : E :=
  match a, c with
  | .lcons x _, 0 => x
  | .lcons _ y, c + 1 => match y, c with
    | .lcons x _, 0 => x
    | y, c => .cell y c
  | a, c => .cell a c
/-! Things of the heap. -/
def cellH : E → Nat → E
  | .lcons x _, 0 => x
  | .lcons _ y, c + 1 => cellH y c
  | .setc n a k v, c => if c < n ∧ k < n then (if c = k then v else cellH a c) else .cell (.setc n a k v) c
  | a, c => .cell a c
def setL : E → Nat → E → Option E
  | .lcons _ y, 0, v => some (.lcons v y)
  | .lcons x y, c + 1, v => (setL y c v).map (.lcons x)
  | _, _, _ => none
def setH (n : Nat) (a : E) (c : Nat) (v : E) : E :=
  match setL a c v with
  | some r => r
  | none => match a with
    | .setc m b k u => if k = c ∧ m = n then .setc n b c v else .setc n (.setc m b k u) c v
    | a => .setc n a c v
def getL : E → Nat → Option E
  | .lcons x _, 0 => some x
  | .lcons _ y, n + 1 => getL y n
  | _, _ => none
def preE (g : E) : E → Bool
  | .app p (.lcons _ .lnil) => decide (g = p) || preE g p
  | _ => false
def litI : E → Option Nat
  | .int (.ofNat n) => some n
  | _ => none
def getLit (h a : E) : E := match litI a with | some n => (getL h n).getD (.get h a) | none => .get h a
def mkGet : E → E → E
  | .set h b x, a => if b = a then x else match litI a, litI b with
    | some m, some n => if m = n then .get (.set h b x) a else mkGet h a
    | _, _ => .get (.set h b x) a
  | .app h (.lcons x .lnil), a => if a = .len h then x else match a with
    | .len g => if preE g h then mkGet h a else .get (.app h (.lcons x .lnil)) a
    | a => .get (.app h (.lcons x .lnil)) a
  | h, a => getLit h a
def mkSet (h a x : E) : E :=
  match h with
  | .set g b y => if b = a then .set g a x else .set (.set g b y) a x
  | .app g (.lcons y .lnil) => if a = .len g then .app g (.lcons x .lnil) else .set (.app g (.lcons y .lnil)) a x
  | h => match litI a with
    | some n => (setL h n x).getD (.set h a x)
    | none => .set h a x
def snocL : E → E → Option E
  | .lnil, x => some (.lcons x .lnil)
  | .lcons a b, x => (snocL b x).map (.lcons a)
  | _, _ => none
def mkSnoc (h x : E) : E := (snocL h x).getD (.app h (.lcons x .lnil))
def litLen : E → Option Nat
  | .lnil => some 0
  | .lcons _ b => (litLen b).map (· + 1)
  | _ => none
def mkLen (h : E) : E := match litLen h with | some n => .int (n : Nat) | none => .len h
def elCell (n : Nat) (el : E) (c : Nat) : E := if n = 1 then el else .cell el c

/-! Constants. -/
def cst : Value → Option C
  | .int k n => some (.dat (.int k) (.int n))
  | .bool b => some (.dat .bool (.bool b))
  | .string s => some (.dat .str (.str s))
  | .nilIface => some (.dat .ifc .nil)
  | .slice none 0 0 => some .nils
  | .pointer none => some .nilp
  | .nilFunc => some .nilf
  | _ => none
def cstL : List Value → Option (List C)
  | [] => some []
  | v :: l => match cst v, cstL l with
    | some c, some cs => some (c :: cs)
    | _, _ => none
def cstV (v : Value) : Option SV :=
  match v with
  | .agg cs => (cstL cs.toList).map .agg
  | v => (cst v).map .one
def tyC : Ty → C → C
  | .ptr e, .nilp => .dat (.ptr e) .nil
  | _, c => c
def tyCs : List Ty → List C → List C
  | t :: ts, c :: cs => tyC t c :: tyCs ts cs
  | _, cs => cs
def zeroCs (P : Program) (t : TypeId) : Option (List C) :=
  match (P.info? t).bind (·.zero) with
  | some z => match cstL z.cells.toList with
    | some cs => some (match cellTys P t with | some ts => tyCs ts cs | none => cs)
    | none => none
  | none => none
def szOf (P : Program) (t : TypeId) : Option Nat := (P.info? t).map (·.size)
def SV.cells : SV → Option (List C)
  | .one c => some [c]
  | .agg cs => some cs
  | .tup _ => none
/-- n cells from off on, as a value of type t. -/
def pickCells (P : Program) (t : TypeId) (cs : List C) (off : Nat) : Option SV :=
  match aggB P t, szOf P t with
  | some true, some n => if off + n ≤ cs.length then some (.agg ((cs.drop off).take n)) else none
  | some false, some 1 => (cs[off]?).map .one
  | _, _ => none

/-- A cell as data of a type. -/
def mat (t : Ty) (c : C) : Option E :=
  match c with
  | .dat u e => if t = u then some e else none
  | .nils => match t with | .slice _ => some .lnil | _ => none
  | .nilp => match t with | .ptr _ => some .nil | _ => none
  | .nilf => match t with | .fn => some .nil | _ => none
  | .fn f => match t with | .fn => some (.mkif f .lnil) | _ => none
  | .hptr e a c => match t with | .ptr e' => if e = e' ∧ c = 0 then some a else none | _ => none
  | _ => none
/-- Cells of a thing of the heap: data, or a slice of its own. -/
inductive OTy where
  | dat (t : Ty) | row (e : TypeId)
  deriving DecidableEq, Inhabited
def otyOf (m : Nat) (c : Nat) : Ty → OTy
  | .slice e => if m.testBit c then .dat (.slice e) else .row e
  | t => .dat t
def otys (P : Program) (ob : List (Nat × Nat)) (t : TypeId) : Option (List OTy) :=
  (cellTys P t).map fun ts => ts.zipIdx.map fun (u, c) => otyOf ((ob.lookup t).getD 0) c u
def objCells (h : E) (os : List OTy) (a : E) : List C := os.zipIdx.map fun (o, j) => match o with
  | .dat u => .dat u (cellH (mkGet h a) j)
  | .row _ => .junk
/-- A cell of a type that was taken out of something. -/
def exAt (ex : List (Nat × TypeId × E)) (c : Nat) : Bool := ex.any fun x => x.1 == c
section
variable (P : Program) (st : St)
def opV : Operand → Option SV
  | .tmp t => st.tm.lookup t
  | .const v => cstV v
  | .func f => some (.one (.fn f))
  | .global g => match st.cf.gs.lookup g with
    | some (t, s :: l) => some (.one (.eptr t (strE (s :: l)) (.int 0) 0))
    | _ => none
def opC (x : Operand) : Option C := match opV st x with | some (.one c) => some c | _ => none

/-- What an operation asks, what it gives, what it makes. -/
abbrev R := List E × SV × Option Box
def ev1 (c : C) : Option R := some ([], .one c, none)

def known (e : E) : Option Bool := match e with | .bool b => some b | e => (st.fs.find? (fun p => p.1 == e)).map (·.2)

def evPick (c a b : Operand) : Option R :=
  match opC st c with
  | some (.dat .bool e) => match known st e with
    | some true => (opV st a).map fun v => ([], v, none)
    | some false => (opV st b).map fun v => ([], v, none)
    | none => match opC st a, opC st b with
      | some (.dat t x), some c => (mat t c).map fun y => ([], .one (.dat t (mkIteT t e x y)), none)
      | some c, some (.dat t y) => (mat t c).map fun x => ([], .one (.dat t (mkIteT t e x y)), none)
      | _, _ => none
  | _ => none

/-- An address into a thing of the heap, and what it asks. -/
def asH (c : C) : Option (List E × TypeId × E × Nat) :=
  match c with
  | .hptr t a c => some ([], t, a, c)
  | .dat (.ptr e) a => if st.cf.hc.contains e then some ([mkNot (mkIsnil a)], e, a, 0) else none
  | _ => none
/-- What a row holds. -/
def rowOf (m : Nat) : Option (TypeId × E) :=
  match st.bx.lookup m with
  | some (.vec e y) => some (e, y)
  | some (.view t a j) => match st.hp, otys P st.cf.ob t with
    | some (_, h), some os => match os[j]? with
      | some (.row e) => if exAt st.ex j then none else some (e, cellH (mkGet h a) j)
      | _ => none
    | _, _ => none
  | _ => none
def evLoadH (t : TypeId) (es : List E) (tt : TypeId) (a : E) (c : Nat) : Option R :=
  match st.hp, otys P st.cf.ob tt with
  | some (_, h), some os => match os[c]?, P.underlying t, szOf P t with
    | some (.row e), some (.slice e'), some 1 => if e = e' ∧ exAt st.ex c = false then some (es, .one (.vec st.nn), some (.view tt a c)) else none
    | _, _, _ => (pickCells P t (objCells h os a) c).map fun v => (es, v, none)
  | _, _ => none
def evLoad (t : TypeId) (x : Operand) : Option R :=
  match opC st x with
  | some (.ptr n off) => match st.bx.lookup n with
    | some (.box _ cs) => (pickCells P t cs off).map fun v => ([], v, none)
    | _ => none
  | some (.eptr tt a i c) => match cellTys P tt with
    | some ts => (pickCells P t (ts.zipIdx.map fun (u, j) => C.dat u (elCell ts.length (.get a i) j)) c).map fun v => ([], v, none)
    | none => none
  | some (.pptr tt a c) => match cellTys P tt with
    | some ts => if st.cf.hc.contains tt then none else (pickCells P t (ts.zipIdx.map fun (u, j) => C.dat u (mkCell a j)) c).map fun v => ([], v, none)
    | none => none
  | some (.vptr n tt i c) => match cellTys P tt, rowOf P st n with
    | some ts, some (e, y) => if e = tt then (pickCells P t (ts.zipIdx.map fun (u, j) => C.dat u (elCell ts.length (.get y i) j)) c).map fun v => ([], v, none) else none
    | _, _ => none
  | some x => match asH st x with
    | some (es, tt, a, c) => evLoadH P st t es tt a c
    | none => match x with
      | .dat (.ptr e) a => match cellTys P e with
        | some ts => if st.cf.hc.contains e then none else (pickCells P t (ts.zipIdx.map fun (u, j) => C.dat u (mkCell a j)) 0).map fun v => ([mkNot (mkIsnil a)], v, none)
        | none => none
      | _ => none
  | _ => none

def fieldOf (s : TypeId) (f : Nat) : Option Field :=
  match P.underlying s with
  | some (.struct fs) => fs[f]?
  | _ => none
def evFieldAddr (s : TypeId) (x : Operand) (f : Nat) : Option R :=
  match fieldOf P s f with
  | some fl => match szOf P fl.type with
    | some (_ + 1) => match opC st x with
      | some (.ptr n off) => ev1 (.ptr n (off + fl.offset))
      | some (.eptr t a i c) => ev1 (.eptr t a i (c + fl.offset))
      | some (.pptr t a c) => ev1 (.pptr t a (c + fl.offset))
      | some (.vptr m t i c) => ev1 (.vptr m t i (c + fl.offset))
      | some x => match asH st x with
        | some (es, t, a, c) => some (es, .one (.hptr t a (c + fl.offset)), none)
        | none => match x with
          | .dat (.ptr e) a => if st.cf.hc.contains e then none else some ([mkNot (mkIsnil a)], .one (.pptr e a fl.offset), none)
          | _ => none
      | _ => none
    | _ => none
  | none => none
def evField (s : TypeId) (x : Operand) (f : Nat) : Option R :=
  match fieldOf P s f with
  | some fl => match opV st x with
    | some (.agg cs) => (pickCells P fl.type cs fl.offset).map fun v => ([], v, none)
    | _ => none
  | none => none

def bin (op : BinOp) (t : TypeId) (x y : C) : Option (List E × C) :=
  match x, y with
  | .dat (.int k) a, .dat (.int k') b =>
    match op with
    | .shl | .shr => some ([mkCmp .geq b (.int 0)], .dat (.int k) (mkAr op k a b))
    | .add | .sub | .mul | .and | .or | .xor | .andNot => if k = k' then some ([], .dat (.int k) (mkAr op k a b)) else none
    | .quo | .rem => if k = k' then some ([mkCmp .neq b (.int 0)], .dat (.int k) (mkAr op k a b)) else none
    | _ => if k = k' then some ([], .dat .bool (mkCmp op a b)) else none
  | .dat .bool a, .dat .bool b =>
    match op, P.underlying t with
    | .eql, some .bool => some ([], .dat .bool (mkBeq a b))
    | .neq, some .bool => some ([], .dat .bool (mkNot (mkBeq a b)))
    | _, _ => none
  | .dat .str a, .dat .str b =>
    match op with
    | .add => some ([.cmp .leq (.ar .add .i64 (.slen a) (.slen b)) (.int 4611686018427387903), .cmp .leq (.slen a) (.int 4611686018427387903), .cmp .leq (.slen b) (.int 4611686018427387903)], .dat .str (.scat a b))
    | .eql | .neq | .lss | .leq | .gtr | .geq => some ([], .dat .bool (.scmp op a b))
    | _ => none
  | .dat .ifc a, .dat .ifc .nil =>
    match op, P.underlying t with
    | .eql, some (.interface _) => some ([], .dat .bool (mkIsnil a))
    | .neq, some (.interface _) => some ([], .dat .bool (mkNot (mkIsnil a)))
    | _, _ => none
  | .dat (.ptr _) a, .nilp =>
    match op, P.underlying t with
    | .eql, some (.pointer _) => some ([], .dat .bool (mkIsnil a))
    | .neq, some (.pointer _) => some ([], .dat .bool (mkNot (mkIsnil a)))
    | _, _ => none
  | .ptr _ _, .nilp | .hptr _ _ _, .nilp =>
    match op, P.underlying t with
    | .eql, some (.pointer _) => some ([], .dat .bool (.bool false))
    | .neq, some (.pointer _) => some ([], .dat .bool (.bool true))
    | _, _ => none
  | _, _ => none

/-- Two cells of one scalar type, as one test. -/
def eqC : C → C → Option E
  | .dat (.int k) a, .dat (.int k') b => if k = k' then some (mkCmp .eql a b) else none
  | .dat .bool a, .dat .bool b => some (mkBeq a b)
  | .dat .str a, .dat .str b => some (.scmp .eql a b)
  | _, _ => none
def eqCs : List C → List C → Option E
  | [], [] => some (.bool true)
  | c :: cs, d :: ds => match eqC c d, eqCs cs ds with
    | some e, some f => some (mkAnd e f)
    | _, _ => none
  | _, _ => none
def scT : C → Option TypeDesc → Bool
  | .dat (.int k) _, some (.int k') => k == k'
  | .dat .bool _, some .bool => true
  | .dat .str _, some .string => true
  | _, _ => false
/-- Two structs, field by field. -/
def eqFs (g : TypeId → List C → List C → Option E) : List Field → Nat → List C → List C → Option E
  | [], _, [], [] => some (.bool true)
  | f :: fs, n, cs, ds => match szOf P f.type with
    | some m => if f.name != "_" && f.offset == n && decide (m ≤ cs.length) && decide (m ≤ ds.length) then match g f.type (cs.take m) (ds.take m), eqFs g fs (n + m) (cs.drop m) (ds.drop m) with
      | some e, some f => some (mkAnd e f)
      | _, _ => none
      else none
    | none => none
  | _, _, _, _ => none
/-- Two arrays, element by element. -/
def eqIs (g : List C → List C → Option E) (m : Nat) : Nat → List C → List C → Option E
  | 0, [], [] => some (.bool true)
  | k + 1, cs, ds => if m ≤ cs.length ∧ m ≤ ds.length then match g (cs.take m) (ds.take m), eqIs g m k (cs.drop m) (ds.drop m) with
    | some e, some f => some (mkAnd e f)
    | _, _ => none
    else none
  | _, _, _ => none
/-- Two values of a type, as one test. -/
def eqT : Nat → TypeId → List C → List C → Option E
  | 0, _, _, _ => none
  | n + 1, t, cs, ds => match P.underlying t with
    | some (.struct fs) => if P.stoodInHeld t then none else eqFs P (eqT n) fs.toList 0 cs ds
    | some (.array k e) => match szOf P e with
      | some m => eqIs (eqT n e) m k cs ds
      | none => none
    | td => match cs, ds with
      | [c], [d] => if scT c td then eqC c d else none
      | _, _ => none
def isConst : Operand → Bool | .const _ => true | _ => false
def evBin (op : BinOp) (t : TypeId) (x y : Operand) : Option R :=
  match opV st x, opV st y with
  | some (.one a), some (.one b) => match a, b with
    | .dat .ifc u, .dat .ifc v => if isConst y then (bin P op t (.dat .ifc u) (.dat .ifc v)).map fun r => (r.1, .one r.2, none) else none
    | a, b => (bin P op t a b).map fun r => (r.1, .one r.2, none)
  | some (.agg cs), some (.agg ds) =>
      if aggB P t = some true ∧ P.eqGuardType P.depth t = false then match eqT P 8 t cs ds, op with
        | some e, .eql => some ([], .one (.dat .bool e), none)
        | some e, .neq => some ([], .one (.dat .bool (mkNot e)), none)
        | _, _ => none
      else none
  | _, _ => none
def evUn (op : UnOp) (x : Operand) : Option R :=
  match op, opC st x with
  | .not, some (.dat .bool e) => ev1 (.dat .bool (mkNot e))
  | .neg, some (.dat (.int k) e) => ev1 (.dat (.int k) (mkAr .sub k (.int 0) e))
  | .xor, some (.dat (.int k) e) => ev1 (.dat (.int k) (mkAr .xor k (.int (if k.signed then -1 else k.max)) e))
  | _, _ => none
def evConv (src dst : TypeId) (x : Operand) : Option R :=
  match P.underlying src, P.underlying dst, opC st x with
  | some (.int _), some (.int k), some (.dat (.int _) e) => ev1 (.dat (.int k) (mkConv k e))
  | some .string, some .string, some (.dat .str e) => ev1 (.dat .str e)
  | _, _, _ => none
def evMkIf (t : TypeId) (x : Operand) : Option R :=
  match tyOf P t, opC st x with
  | some u, some (.dat u' e) => if u = u' ∧ u ≠ .ifc then ev1 (.dat .ifc (.mkif t e)) else none
  | _, _ => none
def evExtract (x : Operand) (i : Nat) : Option R :=
  match opV st x with
  | some (.tup l) => (l[i]?).map fun v => ([], v.sv, none)
  | _ => none
/-- Parts laid into cells. -/
def putCells (cs : List C) (off : Nat) : List C → List C
  | [] => cs
  | x :: xs => putCells (cs.set off x) (off + 1) xs
def fillC (place : Nat → Option (Nat × Nat)) (cs : List C) : List (Nat × SV) → Option (List C)
  | [] => some cs
  | (i, v) :: rest => match place i, v.cells with
    | some (off, n), some xs => if xs.length = n ∧ off + n ≤ cs.length then fillC place (putCells cs off xs) rest else none
    | _, _ => none
def opVs : List (Nat × Operand) → Option (List (Nat × SV))
  | [] => some []
  | (i, x) :: l => match opV st x, opVs l with
    | some v, some vs => some ((i, v) :: vs)
    | _, _ => none
def placesL : List Field → Option (List (Nat × Nat))
  | [] => some []
  | f :: fs => match szOf P f.type, placesL fs with
    | some n, some l => some ((f.offset, n) :: l)
    | _, _ => none
def evBuild (t : TypeId) (parts : Array (Nat × Operand)) : Option R :=
  match zeroCs P t, opVs st parts.toList, P.underlying t with
  | some zs, some vs, some (.struct fs) => match placesL P fs.toList with
    | some ps => (fillC (ps[·]?) zs vs).map fun cs => ([], .agg cs, none)
    | none => none
  | some zs, some vs, some (.array _ e) => match szOf P e with
    | some n => (fillC (fun i => some (i * n, n)) zs vs).map fun cs => ([], .agg cs, none)
    | none => none
  | _, _, _ => none
def evIndexAddr (t : TypeId) (x i : Operand) : Option R :=
  match P.underlying t, opC st x, opC st i with
  | some (.slice e), some (.dat (.slice e') a), some (.dat (.int _) j) =>
    if e = e' then match cellTys P e, szOf P e with
      | some ts, some n => if ts.length = n then some ([mkCmp .geq j (.int 0), .cmp .lss j (.len a)], .one (.eptr e a j 0), none) else none
      | _, _ => none
    else none
  | some (.slice e), some (.vec m), some (.dat (.int _) j) =>
    match rowOf P st m with
    | some (e', y) => if e = e' then match cellTys P e, szOf P e with
      | some ts, some n => if ts.length = n then some ([mkCmp .geq j (.int 0), .cmp .lss j (.len y)], .one (.vptr m e j 0), none) else none
      | _, _ => none
    else none
    | _ => none
  | some (.slice e), some (.lit n len), some (.dat (.int _) (.int j)) =>
    match szOf P e with
    | some s => if 0 ≤ j ∧ j < len then ev1 (.ptr n (j.toNat * s)) else none
    | none => none
  | some (.array m e), some (.hptr t a off), some (.dat (.int _) (.int j)) =>
    match szOf P e with
    | some s => if 0 ≤ j ∧ j < m then ev1 (.hptr t a (off + j.toNat * s)) else none
    | none => none
  | some (.array m e), some (.ptr n off), some (.dat (.int _) (.int j)) =>
    match szOf P e with
    | some s => if 0 ≤ j ∧ j < m then ev1 (.ptr n (off + j.toNat * s)) else none
    | none => none
  | some (.array m e), some (.vptr n t k off), some (.dat (.int _) (.int j)) =>
    match szOf P e with
    | some s => if 0 ≤ j ∧ j < m then ev1 (.vptr n t k (off + j.toNat * s)) else none
    | none => none
  | some (.array m e), some (.eptr t a k off), some (.dat (.int _) j) =>
    if t = e ∧ k = .int 0 ∧ off = 0 then match cellTys P e, szOf P e with
      | some ts, some n => if ts.length = n then some ([mkCmp .geq j (.int 0), .cmp .lss j (.len a), .cmp .lss j (.int m)], .one (.eptr e a j 0), none) else none
      | _, _ => none
    else match j, szOf P e with
    | .int j, some s => if 0 ≤ j ∧ j < m then ev1 (.eptr t a k (off + j.toNat * s)) else none
    | _, _ => none
  | some (.array m e), some (.pptr t a off), some (.dat (.int _) (.int j)) =>
    match szOf P e with
    | some s => if 0 ≤ j ∧ j < m then ev1 (.pptr t a (off + j.toNat * s)) else none
    | none => none
  | _, _, _ => none
def evIndex (t : TypeId) (x i : Operand) : Option R :=
  match P.underlying t, opC st x, opC st i with
  | some .string, some (.dat .str a), some (.dat (.int _) j) => some ([mkCmp .geq j (.int 0), .cmp .lss j (.slen a)], .one (.dat (.int .u8) (.sidx a j)), none)
  | _, _, _ => none
def evLen (t : TypeId) (x : Operand) : Option R :=
  match P.underlying t, opC st x with
  | some (.slice _), some (.dat (.slice _) a) => ev1 (.dat (.int .i64) (.len a))
  | some (.slice _), some .nils => ev1 (.dat (.int .i64) (.int 0))
  | some (.slice _), some (.vec m) => match rowOf P st m with
    | some (_, y) => ev1 (.dat (.int .i64) (.len y))
    | _ => none
  | some (.slice _), some (.lit n len) => ev1 (.dat (.int .i64) (.int len))
  | some .string, some (.dat .str a) => ev1 (.dat (.int .i64) (.slen a))
  | some (.map _ _), some (.vec m) => match st.bx.lookup m with
    | some (.map _ y) => ev1 (.dat (.int .i64) (.len y))
    | _ => none
  | _, _ => none
def boundsC (x : Option Operand) (d : E) : Option E :=
  match x with
  | none => some d
  | some x => match opC st x with
    | some (.dat (.int _) e) => some e
    | _ => none
def evSlice (t : TypeId) (x : Operand) (lo hi mx : Option Operand) : Option R :=
  match P.underlying t, opC st x, mx with
  | some (.slice e), some (.dat (.slice e') a), none =>
    match boundsC st lo (.int 0), boundsC st hi (.len a), cellTys P e, szOf P e with
    | some l, some h, some ts, some n => if e = e' ∧ ts.length = n then some ([.cmp .leq (.int 0) l, .cmp .leq l h, .cmp .leq h (.len a)], .one (.dat (.slice e) (.sub a l h)), none) else none
    | _, _, _, _ => none
  | some .string, some (.dat .str a), none =>
    match boundsC st lo (.int 0), boundsC st hi (.slen a) with
    | some l, some h => some ([.cmp .leq (.int 0) l, .cmp .leq l h, .cmp .leq h (.slen a)], .one (.dat .str (.ssub a l h)), none)
    | _, _ => none
  | _, _, _ => none
def evNilCheck (x : Operand) : Option R :=
  match opC st x with
  | some (.ptr n off) => ev1 (.ptr n off)
  | some (.hptr t a c) => ev1 (.hptr t a c)
  | some (.vptr n t i c) => ev1 (.vptr n t i c)
  | some (.eptr t a i c) => ev1 (.eptr t a i c)
  | some (.dat (.ptr e) a) => if st.cf.hc.contains e then some ([mkNot (mkIsnil a)], .one (.hptr e a 0), none) else some ([mkNot (mkIsnil a)], .one (.pptr e a 0), none)
  | _ => none
def evMM (mx : Bool) (x y : Operand) : Option R :=
  match opC st x, opC st y with
  | some (.dat (.int k) a), some (.dat (.int k') b) => if k = k' then ev1 (.dat (.int k) (mkIte (mkCmp (if mx then .gtr else .lss) b a) b a)) else none
  | _, _ => none

/-- All expressions of a list, as a list. -/
def listE : List E → E
  | [] => .lnil
  | e :: l => .lcons e (listE l)
def matL : List Ty → List C → Option (List E)
  | [], [] => some []
  | t :: ts, c :: cs => match mat t c, matL ts cs with
    | some e, some es => some (e :: es)
    | _, _ => none
  | _, _ => none
def elemE (ts : List Ty) (n : Nat) (cs : List C) (i : Nat) : Option E :=
  match matL ts ((cs.drop (i * n)).take n) with
  | some es => some (if n = 1 then es.headD .nil else listE es)
  | none => none
def elemsE (ts : List Ty) (n : Nat) (cs : List C) : Nat → Nat → Option (List E)
  | 0, _ => some []
  | k + 1, i => match elemE ts n cs i, elemsE ts n cs k (i + 1) with
    | some e, some es => some (e :: es)
    | _, _ => none
/-- The cells' codes of a key's type, if its values can be compared cell by cell. -/
def vrs : List Ty → Nat → List C
  | [], _ => []
  | t :: ts, n => .dat t (.var n) :: vrs ts (n + 1)
def expE : List Ty → Nat → Nat → Option E
  | [], _, _ => some (.bool true)
  | t :: ts, a, b => match eqC (.dat t (.var a)) (.dat t (.var b)), expE ts (a + 1) (b + 1) with
    | some e, some f => some (mkAnd e f)
    | _, _ => none
def keyQ (k : TypeId) : Option (List Nat) :=
  match cellTys P k, aggB P k with
  | some ts, some g => if eqT P 8 k (vrs ts 0) (vrs ts ts.length) = expE ts 0 ts.length ∧ (expE ts 0 ts.length).isSome = true ∧ 0 < ts.length ∧ (g = true ∨ ts.length = 1) then tyCodes ts else none
  | _, _ => none
/-- A value as an element. -/
def elOf (us : List Ty) (es : List E) : E := if us.length = 1 then es.headD .nil else listE es
def elData (ts : List Ty) (g : Bool) (sv : SV) : Option E :=
  match g, sv with
  | true, .agg cs => (matL ts cs).map (elOf ts)
  | false, .one c => if ts.length = 1 then (matL ts [c]).map (elOf ts) else none
  | _, _ => none
def mapTy (t : TypeId) : Option (TypeId × TypeId) := match P.underlying t with | some (.map k e) => some (k, e) | _ => none
def zeroEl (e : TypeId) : Option E :=
  match (P.info? e).bind (·.zero), aggB P e, cellTys P e with
  | some (.agg zs), some true, some us => match cstL zs.toList with
    | some cs => (matL us (tyCs us cs)).map (elOf us)
    | none => none
  | some z, some false, some us => match cst z with
    | some c => if us.length = 1 then (matL us (tyCs us [c])).map (elOf us) else none
    | none => none
  | _, _, _ => none
/-- A map, its content; a key; the codes. -/
def mapArgs (t : TypeId) (m x : Operand) : Option (Nat × E × TypeId × TypeId × List Nat × E) :=
  match mapTy P t, opC st m with
  | some (k, e), some (.vec n) => match st.bx.lookup n, keyQ P k, cellTys P k, aggB P k, opV st x with
    | some (.map t' y), some ks, some ts, some g, some sv => if t = t' then match elData ts g sv with
      | some q => some (n, y, k, e, ks, q)
      | none => none
      else none
    | _, _, _, _, _ => none
  | _, _ => none
/-- The value of an entry, as a value of its type. -/
def elSV (us : List Ty) (g : Bool) (el : E) : SV :=
  if g = true then .agg (us.zipIdx.map fun (u, j) => C.dat u (elCell us.length el j)) else .one (.dat (us.headD .bool) (elCell us.length el 0))
/-- A look at a map into which a key came with what was told of it: nothing has turned. -/
def mkMget (ks : List Nat) (a q z : E) : E :=
  match a with
  | .mput ks1 y k (.mget ks2 y' k' z') => if ks = ks1 ∧ ks = ks2 ∧ y = y' ∧ k = k' ∧ z = z' then .mget ks y q z else .mget ks a q z
  | a => .mget ks a q z
def evLookup (t : TypeId) (m x : Operand) (ok : Bool) : Option R :=
  match mapArgs P st t m x with
  | some (n, y, k, e, ks, q) => match zeroEl P e, cellTys P e, aggB P e with
    | some z, some us, some g => if g = true ∨ us.length = 1 then
        let v := elSV us g (mkMget ks y q z)
        if ok = true then match v with
          | .one c => some ([], .tup [.one c, .one (.dat .bool (.cmp .lss (.mix ks y q) (.len y)))], none)
          | .agg cs => some ([], .tup [.agg cs, .one (.dat .bool (.cmp .lss (.mix ks y q) (.len y)))], none)
          | .tup _ => none
        else some ([], v, none)
      else none
    | _, _, _ => none
  | none => none
/-- A slice literal. -/
def evB (t : TypeId) (len : Nat) (parts : Array (Nat × Operand)) : Option SV :=
  match P.underlying t with
  | some (.slice e) => match szOf P e, cellTys P e, zeroCs P e, opVs st parts.toList with
    | some n, some ts, some zs, some vs =>
      if ts.length = n ∧ zs.length = n ∧ 0 < n ∧ 0 < len ∧ len * n ≤ 2 ^ 24 then
        match fillC (fun i => some (i * n, n)) ((List.range (len * n)).map fun j => zs.getD (j % n) .junk) vs with
        | some cs => (elemsE ts n cs len 0).map fun es => .one (.dat (.slice e) (listE es))
        | none => none
      else none
    | _, _, _, _ => none
  | _ => none

def evV (op : Op) (ty : TypeId) : Option R :=
  match op with
  | .move x | .assign x => (opV st x).map fun v => ([], v, none)
  | .pick c a b => evPick st c a b
  | .alloc t => if st.cf.hc.contains t then none else (zeroCs P t).map fun cs => ([], .one (.ptr st.nn 0), some (.box t cs))
  | .box t x => if st.cf.hc.contains t then none else match opV st x with
    | some v => match v.cells with | some cs => some ([], .one (.ptr st.nn 0), some (.box t cs)) | none => none
    | none => none
  | .build t parts => evBuild P st t parts
  | .load t x => evLoad P st t x
  | .nilCheck x => evNilCheck st x
  | .binOp op t x y _ => evBin P st op t x y
  | .unOp op _ x => evUn st op x
  | .convert s d x => evConv P st s d x
  | .makeInterface t x => evMkIf P st t x
  | .slice t x lo hi mx => evSlice P st t x lo hi mx
  | .fieldAddr s x f => evFieldAddr P st s x f
  | .field s x f => evField P st s x f
  | .indexAddr t x i => evIndexAddr P st t x i
  | .index t x i => evIndex P st t x i
  | .lookup t m x ok => evLookup P st t m x ok
  | .extract x i => evExtract st x i
  | .makeFunc fn fs cs => match fn, fs.toList, cs.toList with
    | .func f, [], [] => ev1 (.fn f)
    | _, _, _ => none
  | .call c => match c.callee, c.args.toList, c.argTypes.toList with
    | .builtin .len, [x], [t] => evLen P st t x
    | .builtin .max, [x, y], _ => evMM st true x y
    | .builtin .min, [x, y], _ => evMM st false x y
    | _, _, _ => none
  | _ => none
end
end Go.Proofs.YtobacchojjfpfaaGreatDoor.Eng
