import Derived.Calls
import Derived.Orders
import Derived.Below
import Derived.KernelRfl
import Derived.Test.YtglhnofjggpdjaaGreatMem
import Derived.RowKit
import Derived.Maps.Keyed
import Derived.WideKeyRuns
import Derived.MapKept
import Derived.Laws.CopyRow
import Derived.Laws.Cells
import Derived.WalkKit
import Derived.Laws.Tables
import Derived.Laws.StructEq
import Derived.ChangeKeysEq
namespace Go.Proofs.YtglhnofjggpdjaaGreat.Eng
set_option linter.unusedVariables false
inductive D where
 |int (n:Int)
 |bool (b:Bool)
 |str (s:ByteArray)
 |agg (l:List D)
 |iface (t:Nat) (d:D)
 |nil
 deriving Inhabited
def D.toInt:D→Int|.int n=>n|_=>0
def D.no0:Bool:=false
def D.no1:Bool:=D.no0
def D.no2:Bool:=D.no1
def D.no:Bool:=D.no2
def D.toBool:D→Bool|.bool b=>b|_=>D.no
@[simp] theorem D.no_eq:D.no=false:=rfl
def D.toStr:D→ByteArray|.str s=>s|_=>ByteArray.empty
def D.toL:D→List D|.agg l=>l|_=>[]
def D.isNil:D→Bool|.nil=>true|_=>false
def D.dyn:D→Nat|.iface t _=>t|_=>0
def D.isIf:D→Nat→Bool|.iface t _,u=>t == u|_,_=>false
def D.inner:D→D|.iface _ d=>d|_=>.nil
@[simp] theorem D.toInt_int(n:Int):(D.int n).toInt=n:=rfl
@[simp] theorem D.A1b(b:Bool):(D.bool b).toBool=b:=rfl
@[simp] theorem D.H4h(s:ByteArray):(D.str s).toStr=s:=rfl
@[simp] theorem D.A0f(l:List D):(D.agg l).toL=l:=rfl
@[simp] theorem D.H4n:D.nil.toL=[]:=rfl
@[simp] theorem D.H4j:D.nil.isNil=true:=rfl
@[simp] theorem D.H3m(t:Nat)(d:D):(D.iface t d).isNil=false:=rfl
@[simp] theorem D.H4i(l:List D):(D.agg l).isNil=false:=rfl
@[simp] theorem D.C6h(t:Nat)(d:D):(D.iface t d).inner=d:=rfl
@[simp] theorem D.H4k(t:Nat)(d:D):(D.iface t d).dyn=t:=rfl
@[simp] theorem D.F8t(t u:Nat)(d:D):(D.iface t d).isIf u=(t == u):=rfl
@[simp] theorem D.H4l(u:Nat):D.nil.isIf u=false:=rfl
inductive Ty where
 |int (k:IntKind)|bool|str|ifc|slice (e:TypeId)|ptr (e:TypeId)|fn|map (t:TypeId)
 deriving DecidableEq,Repr,Inhabited
structure Cf where
 hc:List TypeId
 ob:List (Nat × Nat)
 hm:List (Nat × Nat)
 cp:List (Nat × List TypeId)
 rr:List (Nat × Nat)
 rp:List (Nat × Nat)
 gs:List (Nat × TypeId × List ByteArray)
 deriving DecidableEq,Inhabited
def Cf.none:Cf:=⟨[],[],[],[],[],[],[]⟩
structure Fr where
 ok:Nat→Prop
 γ:List (Nat × TypeId)
 hc:List TypeId
instance:CoeFun Fr (fun _=>Nat→Prop):=⟨Fr.ok⟩
@[reducible] def Fr.or(F:Fr)(p:Nat→Prop):Fr:=⟨fun b=>F b∨p b,F.γ,F.hc⟩
def D3r(P:Program)(t:TypeId):Option Ty:=
 match P.underlying t with
 |some (.int k)=>some (.int k)
 |some .bool=>some .bool
 |some .string=>some .str
 |some (.interface _)=>some .ifc
 |some (.slice e)=>some (.slice e)
 |some (.pointer e)=>some (.ptr e)
 |some (.func _ _ _)=>some .fn
 |some (.map _ _)=>some (.map t)
 |_=>none
def D7u(P:Program):Nat→TypeId→Option (List Ty)
 |0,_=>none
 |n+1,t=>match P.underlying t with
  |some (.struct fs)=>fs.toList.foldr (fun f acc=>match D7u P n f.type,acc with|some a,some b=>some (a++b)|_,_=>none) (some [])
  |some (.array m e)=>(D7u P n e).map fun l=>(List.replicate m l).flatten
  |_=>(D3r P t).map ([·])
def A0n(P:Program)(t:TypeId):Option (List Ty):=D7u P 8 t
def cellOf(n:Nat)(el:D)(c:Nat):D:=if n=1 then el else el.toL.getD c .nil
def A1d(P:Program)(t:TypeId):Option Bool:=
 match P.underlying t with
 |some (.struct _)=>some true
 |some (.array _ _)=>some true
 |some _=>some false
 |none=>none
def B3v:Ty→D→Value
 |.int k,d=>.int k d.toInt
 |.bool,d=>.bool d.toBool
 |.str,d=>.string d.toStr
 |_,_=>.nilIface
def A3u(n:Nat):List Ty→Nat→D→List Value
 |[],_,_=>[]
 |t::ts,c,d=>B3v t (cellOf n d c)::A3u n ts (c+1) d
def valOf(agg:Bool)(vs:List Value):Value:=if agg=true then .agg vs.toArray else vs.headD .nilIface
inductive Rd(P:Program)(w:World)(F:Fr):Ty→D→Value→Prop
 |int {k d v}:v=.int k d.toInt→Rd P w F (.int k) d v
 |bool {d v}:v=.bool d.toBool→Rd P w F .bool d v
 |str {d v}:v=.string d.toStr→Rd P w F .str d v
 |D8m {d v}:d=.nil→v=.nilIface→Rd P w F .ifc d v
 |iface {d t d' u v' v}:d=.iface t d'→v=.iface t v'→D3r P t=some u→u≠.ifc→Rd P w F u d' v'→Rd P w F .ifc d v
 |B8i {e d v}:d=.nil→v=.pointer none→Rd P w F (.ptr e) d v
 |B7r {e d v n b}:F.hc.contains e=true→d=.int (n:Nat)→F.γ[n]?=some (b,e)→v=.pointer (some ⟨b,0,none⟩)→Rd P w F (.ptr e) d v
 |G0h {d v}:d=.nil→v=.nilFunc→Rd P w F .fn d v
 |fn {d v f} {l:List D} {vs:List Value}:d=.iface f (.agg l)→v=.func (.func f) #[] vs.toArray→vs.length=l.length→
   (∀(c:Nat) (x:D) (u:Value),l[c]?=some x→vs[c]?=some u→Rd P w F (.ptr x.dyn) x.inner u)→Rd P w F .fn d v
 |ptr {e d v b o} {l:List D} {ts:List Ty} {g:Nat→Value}:F.hc.contains e=false→d=.agg l→v=.pointer (some ⟨b,o,none⟩)→A0n P e=some ts→l.length=ts.length→F b→
   (∀c x,l[c]?=some x→w.cell? ⟨b,o+c,none⟩=some (g c))→(∀c x t,l[c]?=some x→ts[c]?=some t→Rd P w F t x (g c))→Rd P w F (.ptr e) d v
 |snil {e d a cap v}:d.toL=[]→v=.slice a 0 cap→Rd P w F (.slice e) d v
 |slice {e d v b o len cap} {ts:List Ty} {g:Nat→Nat→Value}:v=.slice (some ⟨b,o,none⟩) len cap→A0n P e=some ts→len=d.toL.length→len≤cap→F b→
   (∀i c,i<d.toL.length→c<ts.length→w.cell? ⟨b,o+i*ts.length+c,none⟩=some (g i c))→
   (∀i c x t,d.toL[i]?=some x→ts[c]?=some t→Rd P w F t (cellOf ts.length x c) (g i c))→Rd P w F (.slice e) d v
 |map {t d v b k e} {ts us:List Ty} {g h:Bool} {es:List MapEntry} {gv:Nat→Nat→Value}:v=.map (some b)→P.underlying t=some (.map k e)→A0n P k=some ts→A0n P e=some us→A1d P k=some g→A1d P e=some h→F b→
   w.heap[b]?=some (.map es.toArray es.length)→es.length=d.toL.length→
   (∀(i:Nat) (en:MapEntry) (x:D),es[i]?=some en→d.toL[i]?=some x→en.born=i∧en.key=valOf g (A3u ts.length ts 0 (x.toL.getD 0 .nil))∧en.val=valOf h ((List.range us.length).map (gv i)))→
   (∀(i c:Nat) (x:D) (u:Ty),d.toL[i]?=some x→us[c]?=some u→Rd P w F u (cellOf us.length (x.toL.getD 1 .nil) c) (gv i c))→Rd P w F (.map t) d v
theorem cell?_of_heap{w w':World}{b:Nat}(h:w'.heap[b]?=w.heap[b]?)(o:Nat)(s:Option Nat):w'.cell? ⟨b,o,s⟩=w.cell? ⟨b,o,s⟩:=by
 unfold World.cell?
 simp only[h]
structure Le(w:World)(F:Fr)(w':World)(F':Fr):Prop where
 b:∀b,F b→F' b∧w'.heap[b]?=w.heap[b]?
 γ:F.γ <+: F'.γ
 hc:F'.hc=F.hc
theorem Le.get{w w':World}{F F':Fr}(h:Le w F w' F'){n:Nat}{p:Nat × TypeId}(hn:F.γ[n]?=some p):F'.γ[n]?=some p:=by
 obtain⟨l,e⟩:=h.γ
 rw[←e,List.getElem?_append_left (List.getElem?_eq_some_iff.1 hn).1];exact hn
theorem Le.trans{w w' w'':World}{F F' F'':Fr}(h:Le w F w' F')(h':Le w' F' w'' F''):Le w F w'' F'':=
 ⟨fun b hb=>⟨(h'.b b (h.b b hb).1).1,(h'.b b (h.b b hb).1).2.trans (h.b b hb).2⟩,h.γ.trans h'.γ,h'.hc.trans h.hc⟩
theorem Le.same{w w':World}{F:Fr}(h:∀b,F b→w'.heap[b]?=w.heap[b]?):Le w F w' F:=⟨fun b hb=>⟨hb,h b hb⟩,List.prefix_refl _,rfl⟩
theorem Le.or{w w':World}{F:Fr}{p:Nat→Prop}(h:∀b,F b→w'.heap[b]?=w.heap[b]?):Le w F w' (F.or p):=⟨fun b hb=>⟨.inl hb,h b hb⟩,List.prefix_refl _,rfl⟩
theorem Rd.mono{P:Program}{w w':World}{F F':Fr}(h:Le w F w' F'){t:Ty}{d:D}{v:Value}(hr:Rd P w F t d v):Rd P w' F' t d v:=by
 induction hr with
 |int e=>exact .int e
 |bool e=>exact .bool e
 |str e=>exact .str e
 |D8m e1 e2=>exact .D8m e1 e2
 |iface e1 e2 e3 e4 _ ih=>exact .iface e1 e2 e3 e4 ih
 |B8i e1 e2=>exact .B8i e1 e2
 |B7r e1 e2 e3 e4=>exact .B7r (by rw[h.hc];exact e1) e2 (h.get e3) e4
 |G0h e1 e2=>exact .G0h e1 e2
 |fn e1 e2 e3 _ ih=>exact .fn e1 e2 e3 ih
 |ptr e0 e1 e2 e3 e4 e5 e6 _ ih=>exact .ptr (by rw[h.hc];exact e0) e1 e2 e3 e4 (h.b _ e5).1 (fun c x hx=>by rw[cell?_of_heap (h.b _ e5).2];exact e6 c x hx) ih
 |snil e1 e2=>exact .snil e1 e2
 |slice e1 e2 e3 e0 e4 e5 _ ih=>exact .slice e1 e2 e3 e0 (h.b _ e4).1 (fun i c hi hc=>by rw[cell?_of_heap (h.b _ e4).2];exact e5 i c hi hc) ih
 |map e1 e2 e3 e4 e5 e6 e7 e8 e9 e10 _ ih=>exact .map e1 e2 e3 e4 e5 e6 (h.b _ e7).1 (by rw[(h.b _ e7).2];exact e8) e9 e10 ih
inductive E where
 |var (n:Nat)
 |int (n:Int)|bool (b:Bool)|str (s:ByteArray)|nil
 |ar (op:BinOp) (k:IntKind) (a b:E)
 |cmp (op:BinOp) (a b:E)
 |not (a:E)|beq (a b:E)
 |conv (k:IntKind) (a:E)
 |ite (c a b:E)
 |len (a:E)|get (a i:E)|cell (a:E) (c:Nat)
 |A4d|A2n (a b:E)|app (a b:E)|sub (a lo hi:E)
 |B4f (a:E)|F1t (a b:E)|F2g (a i:E)|F4a (a lo hi:E)|E3v (op:BinOp) (a b:E)
 |D9y (a:E)|B5d (t:Nat) (a:E)|F1e (t:Nat) (a:E)|ifv (a:E)
 |ptr (a:E)
 |and (a b:E)|or (a b:E)
 |set (a i v:E)|B5c (n:Nat) (a:E) (c:Nat) (v:E)|rep (k z:E)
 |B2s (ks:List Nat) (a k z:E)|B3a (ks:List Nat) (a k v:E)|mix (ks:List Nat) (a k:E)
 deriving DecidableEq,Inhabited
def F8l:List ByteArray→E
 |[]=>.A4d
 |s::l=>.A2n (.str s) (F8l l)
def A8v:Nat→D→D→Bool
 |0,a,b=>a.toInt == b.toInt
 |1,a,b=>a.toBool == b.toBool
 |_,a,b=>a.toStr.toList == b.toStr.toList
def B2u(n:Nat):List Nat→Nat→D→D→Bool
 |[],_,_,_=>true
 |q::ks,c,a,b=>A8v q (cellOf n a c) (cellOf n b c)&&B2u n ks (c+1) a b
def keq(ks:List Nat)(a b:D):Bool:=B2u ks.length ks 0 a b
def A1h(ks:List Nat)(l:List D)(k:D):Nat:=l.findIdx fun e=>keq ks k (e.toL.getD 0 .nil)
def A8d(ks:List Nat)(l:List D)(k z:D):D:=if A1h ks l k<l.length then(l.getD (A1h ks l k) .nil).toL.getD 1 .nil else z
def A8f(ks:List Nat)(l:List D)(k v:D):List D:=if A1h ks l k<l.length then l.set (A1h ks l k) (.agg [k,v])else l++[.agg [k,v]]
def arF(op:BinOp)(k:IntKind)(x y:Int):Int:=
 match op with
 |.add=>k.wrap (x+y)|.sub=>k.wrap (x-y)|.mul=>k.wrap (x*y)
 |.quo=>k.wrap (x.tdiv y)|.rem=>x.tmod y
 |.and=>k.wrap ((BitVec.ofInt k.bits x &&& BitVec.ofInt k.bits y).toNat:Int)
 |.or=>k.wrap ((BitVec.ofInt k.bits x ||| BitVec.ofInt k.bits y).toNat:Int)
 |.xor=>k.wrap ((BitVec.ofInt k.bits x ^^^ BitVec.ofInt k.bits y).toNat:Int)
 |.andNot=>k.wrap ((BitVec.ofInt k.bits x &&& ~~~ BitVec.ofInt k.bits y).toNat:Int)
 |.shl=>k.wrap (x*2 ^ (min y.toNat k.bits))
 |.shr=>x.fdiv (2 ^ (min y.toNat k.bits))
 |_=>0
def C2n(op:BinOp)(x y:Int):Bool:=
 match op with
 |.eql=>x == y|.neq=>x != y|.lss=>x<y|.leq=>x≤y|.gtr=>x>y|.geq=>x≥y|_=>false
def G9n(op:BinOp)(x y:ByteArray):Bool:=
 match op with
 |.eql=>x.toList == y.toList|.neq=>!(x.toList == y.toList)
 |.lss=>Op.bytesLess x.toList y.toList
 |.leq=>Op.bytesLess x.toList y.toList || x.toList == y.toList
 |.gtr=>!(Op.bytesLess x.toList y.toList || x.toList == y.toList)
 |.geq=>!(Op.bytesLess x.toList y.toList)
 |_=>false
def den(ρ:List D):E→D
 |.var n=>ρ.getD n .nil
 |.int n=>.int n
 |.bool b=>.bool b
 |.str s=>.str s
 |.nil=>.nil
 |.ar op k a b=>.int (arF op k (den ρ a).toInt (den ρ b).toInt)
 |.cmp op a b=>.bool (C2n op (den ρ a).toInt (den ρ b).toInt)
 |.not a=>.bool (!(den ρ a).toBool)
 |.beq a b=>.bool ((den ρ a).toBool == (den ρ b).toBool)
 |.conv k a=>.int (k.wrap (den ρ a).toInt)
 |.ite c a b=>if(den ρ c).toBool=true then den ρ a else den ρ b
 |.len a=>.int (den ρ a).toL.length
 |.get a i=>(den ρ a).toL.getD (den ρ i).toInt.toNat .nil
 |.cell a c=>(den ρ a).toL.getD c .nil
 |.A4d=>.agg []
 |.A2n a b=>.agg (den ρ a::(den ρ b).toL)
 |.app a b=>.agg ((den ρ a).toL++(den ρ b).toL)
 |.sub a lo hi=>.agg (((den ρ a).toL.drop (den ρ lo).toInt.toNat).take ((den ρ hi).toInt.toNat-(den ρ lo).toInt.toNat))
 |.B4f a=>.int (den ρ a).toStr.size
 |.F1t a b=>.str ((den ρ a).toStr++(den ρ b).toStr)
 |.F2g a i=>.int (((den ρ a).toStr.data.getD (den ρ i).toInt.toNat 0).toNat)
 |.F4a a lo hi=>.str ((den ρ a).toStr.extract (den ρ lo).toInt.toNat (den ρ hi).toInt.toNat)
 |.E3v op a b=>.bool (G9n op (den ρ a).toStr (den ρ b).toStr)
 |.D9y a=>.bool (den ρ a).isNil
 |.B5d t a=>.iface t (den ρ a)
 |.F1e t a=>.bool ((den ρ a).isIf t)
 |.ifv a=>(den ρ a).inner
 |.ptr a=>.agg (den ρ a).toL
 |.and a b=>.bool ((den ρ a).toBool&&(den ρ b).toBool)
 |.or a b=>.bool ((den ρ a).toBool || (den ρ b).toBool)
 |.set a i v=>.agg ((den ρ a).toL.set (den ρ i).toInt.toNat (den ρ v))
 |.B5c n a c v=>.agg (((List.range n).map fun j=>(den ρ a).toL.getD j .nil).set c (den ρ v))
 |.rep k z=>.agg (List.replicate (den ρ k).toInt.toNat (den ρ z))
 |.B2s ks a k z=>A8d ks (den ρ a).toL (den ρ k) (den ρ z)
 |.B3a ks a k v=>.agg (A8f ks (den ρ a).toL (den ρ k) (den ρ v))
 |.mix ks a k=>.int (A1h ks (den ρ a).toL (den ρ k):Nat)
def E.sc(n:Nat):E→Bool
 |.var m=>decide (m<n)
 |.ar _ _ a b|.cmp _ a b|.beq a b|.get a b|.A2n a b|.app a b|.F1t a b|.F2g a b|.E3v _ a b|.B5c _ a _ b|.rep a b|.and a b|.or a b|.mix _ a b=>a.sc n&&b.sc n
 |.not a|.conv _ a|.len a|.cell a _|.B4f a|.D9y a|.B5d _ a|.F1e _ a|.ifv a|.ptr a=>a.sc n
 |.ite a b c|.sub a b c|.F4a a b c|.set a b c|.B2s _ a b c|.B3a _ a b c=>a.sc n&&b.sc n&&c.sc n
 |_=>true
theorem A0w{ρ ext:List D}:∀{e:E},e.sc ρ.length=true→den (ρ++ext) e=den ρ e:=by
 intro e
 induction e with
 |var n=>
  intro h
  simp only[E.sc,decide_eq_true_eq]at h
  simp[den,List.getElem?_append_left h]
 |_=>intro h;simp_all [E.sc,den]
inductive C where
 |dat (t:Ty) (e:E)
 |ptr (n off:Nat)
 |A8y (t:TypeId) (a i:E) (c:Nat)
 |B2c (t:TypeId) (a:E) (c:Nat)
 |vec (n:Nat)
 |A5h (n:Nat) (t:TypeId) (i:E) (c:Nat)
 |win (n:Nat) (t:TypeId) (i j:E)
 |lit (n len:Nat)
 |A7d (t:TypeId) (a:E) (c:Nat)
 |B4e|C3j|E4t
 |fn (f:Nat)
 |clo (f:Nat) (l:List (Nat × Nat))
 |B0j
 deriving DecidableEq,Inhabited
inductive V1 where
 |one (c:C)|agg (cs:List C)
 deriving DecidableEq,Inhabited
inductive SV where
 |one (c:C)|agg (cs:List C)|tup (l:List V1)
 deriving DecidableEq,Inhabited
def V1.sv:V1→SV|.one c=>.one c|.agg cs=>.agg cs
inductive Box where
 |box (t:TypeId) (cs:List C)
 |vec (e:TypeId) (x:E)
 |view (t:TypeId) (a:E) (c:Nat)
 |map (t:TypeId) (x:E)
 deriving DecidableEq,Inhabited
structure St where
 tm:List (Nat × SV)
 bx:List (Nat × Box)
 nn:Nat
 nv:Nat
 fs:List (E × Bool)
 ex:List (Nat × TypeId × E)
 cf:Cf
 hp:Option (Bool × E)
 deriving DecidableEq,Inhabited
def St.key(st:St):List (Nat × TypeId × E) × Option (Bool × E):=(st.ex,st.hp)
def bk:Value→Option Nat
 |.pointer (some a)=>some a.block
 |.slice (some a) _ cap=>if cap=0 then none else some a.block
 |.map (some b)=>some b
 |_=>none
theorem B1f{g o n cap:Nat}(h:0<cap):bk (.slice (some ⟨g,o,none⟩) n cap)=some g:=by
 simp[bk,Nat.ne_of_gt h]
def B2d(w:World)(e:TypeId)(size:Nat)(v:Value)(n:Nat)(xs:List Value):Prop:=
 xs.length=n*size∧(((∃A,v=.slice A 0 0)∧n=0)∨
  ∃g o cap cur,v=.slice (some ⟨g,o,none⟩) n cap∧0<cap∧w.heap[g]?=some (.cells cur e (0,0))∧n≤cap∧cap≤maxLen∧cur.size=o+cap*size∧(cur.toList.drop o).take (n*size)=xs)
theorem B2d.of{w:World}{k:Nat}{e:TypeId}{size:Nat}{v:Value}{n:Nat}{xs:List Value}(h:w.ownsRow k e size v n xs):B2d w e size v n xs:=by
 obtain⟨hl,hr⟩:=h
 refine⟨hl,?_⟩
 rcases hr with⟨h1,h2⟩|⟨g,cap,cur,e1,e2,e3,e4,e5⟩
 ·exact .inl ⟨⟨_,h1⟩,h2⟩
 ·rcases Nat.eq_zero_or_pos cap with h0|h0
  ·subst h0
   have:n=0:=by omega
   subst this
   exact .inl ⟨⟨_,e1⟩,rfl⟩
  ·exact .inr ⟨g,0,cap,cur,e1,h0,e3,e4,e5.1,by simpa using e5.2.1,by simpa using e5.2.2⟩
def Box.bk:Box→Value→Option Nat
 |.view _ _ _,_=>none
 |_,v=>Eng.bk v
@[simp] theorem Box.G4y(t:TypeId)(cs:List C)(v:Value):(Box.box t cs).bk v=Eng.bk v:=rfl
@[simp] theorem Box.D3o(t:TypeId)(y:E)(v:Value):(Box.map t y).bk v=Eng.bk v:=rfl
@[simp] theorem Box.A9m(t:TypeId)(y:E)(v:Value):(Box.vec t y).bk v=Eng.bk v:=rfl
@[simp] theorem Box.H4m(t:TypeId)(a:E)(c:Nat)(v:Value):(Box.view t a c).bk v=none:=rfl
def B0g:Ty→Option Nat
 |.int _=>some 0
 |.bool=>some 1
 |.str=>some 2
 |_=>none
def A5j:List Ty→Option (List Nat)
 |[]=>some []
 |t::ts=>match B0g t,A5j ts with
  |some k,some ks=>some (k::ks)
  |_,_=>none
section
variable(P:Program)(w:World)(F:Fr)(ρ:List D)(β:Nat→Value)
structure D0l(ts us:List Ty)(g h:Bool)(i:Nat)(d:D)(e:MapEntry):Prop where
 born:e.born=i
 key:e.key=valOf g (A3u ts.length ts 0 (d.toL.getD 0 .nil))
 val:∃vs:List Value,e.val=valOf h vs∧vs.length=us.length∧∀(c:Nat) (t:Ty) (u:Value),us[c]?=some t→vs[c]?=some u→Rd P w F t (cellOf us.length (d.toL.getD 1 .nil) c) u
def RC:C→Value→Prop
 |.dat t e,v=>Rd P w F t (den ρ e) v
 |.ptr n off,v=>∃b,β n=.pointer (some ⟨b,0,none⟩)∧v=.pointer (some ⟨b,off,none⟩)
 |.A8y t a i c,v=>∃b o len cap ts,Rd P w F (.slice t) (den ρ a) (.slice (some ⟨b,o,none⟩) len cap)∧A0n P t=some ts∧0≤(den ρ i).toInt∧(den ρ i).toInt.toNat<(den ρ a).toL.length∧
   v=.pointer (some ⟨b,o+(den ρ i).toInt.toNat*ts.length+c,none⟩)
 |.B2c t a c,v=>∃b o,Rd P w F (.ptr t) (den ρ a) (.pointer (some ⟨b,o,none⟩))∧v=.pointer (some ⟨b,o+c,none⟩)
 |.vec n,v=>v=β n
 |.A5h n t i c,v=>∃b o len cap ts,β n=.slice (some ⟨b,o,none⟩) len cap∧A0n P t=some ts∧0≤(den ρ i).toInt∧(den ρ i).toInt.toNat<len∧v=.pointer (some ⟨b,o+(den ρ i).toInt.toNat*ts.length+c,none⟩)
 |.win n t i j,v=>∃A len cap ts,β n=.slice A len cap∧A0n P t=some ts∧0≤(den ρ i).toInt∧(den ρ i).toInt≤(den ρ j).toInt∧(den ρ j).toInt≤(len:Int)∧len≤cap∧
   v=.slice (if cap=(den ρ i).toInt.toNat then A else A.map (·.add ((den ρ i).toInt.toNat*ts.length))) ((den ρ j).toInt.toNat-(den ρ i).toInt.toNat) (cap-(den ρ i).toInt.toNat)
 |.lit n len,v=>∃b,β n=.pointer (some ⟨b,0,none⟩)∧v=.slice (some ⟨b,0,none⟩) len len
 |.A7d t a c,v=>∃n b,F.hc.contains t=true∧den ρ a=.int (n:Nat)∧F.γ[n]?=some (b,t)∧v=.pointer (some ⟨b,c,none⟩)
 |.B4e,v=>v=.slice none 0 0
 |.C3j,v=>v=.pointer none
 |.E4t,v=>v=.nilFunc
 |.fn f,v=>v=.func (.func f) #[] #[]
 |.clo f l,v=>∃us:List Value,v=.func (.func f) #[] us.toArray∧l.length=us.length∧∀(i:Nat) (p:Nat × Nat) (u:Value),l[i]?=some p→us[i]?=some u→∃b,β p.1=.pointer (some ⟨b,0,none⟩)∧u=.pointer (some ⟨b,p.2,none⟩)
 |.B0j,v=>v.oneCell'=true
def RCL(cs:List C)(vs:List Value):Prop:=cs.length=vs.length∧∀(i:Nat) (c:C) (v:Value),cs[i]?=some c→vs[i]?=some v→RC P w F ρ β c v
def R1:V1→Value→Prop
 |.one c,v=>RC P w F ρ β c v
 |.agg cs,v=>∃vs:List Value,v=.agg vs.toArray∧RCL P w F ρ β cs vs
def RV:SV→Value→Prop
 |.one c,v=>RC P w F ρ β c v
 |.agg cs,v=>∃vs:List Value,v=.agg vs.toArray∧RCL P w F ρ β cs vs
 |.tup l,v=>∃vs:List Value,v=.tuple vs.toArray∧l.length=vs.length∧∀(i:Nat) (c:V1) (u:Value),l[i]?=some c→vs[i]?=some u→R1 P w F ρ β c u
def A0y:Box→Value→Prop
 |.box t cs,v=>∃b,∃vs:List Value,v=.pointer (some ⟨b,0,none⟩)∧w.heap[b]?=some (.cells vs.toArray t (0,0))∧RCL P w F ρ β cs vs
 |.vec e x,v=>∃ts,∃xs:List Value,A0n P e=some ts∧B2d w e ts.length v (den ρ x).toL.length xs∧
   ∀i c y t,(den ρ x).toL[i]?=some y→ts[c]?=some t→∃u,xs[i*ts.length+c]?=some u∧Rd P w F t (cellOf ts.length y c) u
 |.view t a c,v=>∃n b,∃vs:List Value,den ρ a=.int (n:Nat)∧F.γ[n]?=some (b,t)∧w.heap[b]?=some (.cells vs.toArray t (0,0))∧vs[c]?=some v
 |.map t x,v=>∃b k e ts us g h,∃es:List MapEntry,v=.map (some b)∧P.underlying t=some (.map k e)∧A0n P k=some ts∧A0n P e=some us∧A1d P k=some g∧A1d P e=some h∧
   w.heap[b]?=some (.map es.toArray es.length)∧es.length=(den ρ x).toL.length∧∀(i:Nat) (e:MapEntry) (d:D),es[i]?=some e→(den ρ x).toL[i]?=some d→D0l P w F ts us g h i d e
end
theorem F7g{P:Program}{w:World}{F:Fr}{ρ:List D}{β:Nat→Value}{t:TypeId}{y:E}{v:Value}(h:Rd P w F (.map t) (den ρ y) v):A0y P w F ρ β (.map t y) v:=by
 cases h with
 |map e1 e2 e3 e4 e5 e6 e7 e8 e9 e10 e11=>
  rename_i b k e ts us g h es gv
  refine⟨b,k,e,ts,us,g,h,es,e1,e2,e3,e4,e5,e6,e8,e9,fun i en d q1 q2=>?_⟩
  obtain⟨z1,z2,z3⟩:=e10 i en d q1 q2
  refine⟨z1,z2,_,z3,by simp,fun c t' u h1 h2=>?_⟩
  have hc:c<us.length:=(List.getElem?_eq_some_iff.1 h1).1
  rw[List.getElem?_map,List.getElem?_range hc]at h2
  simp only[Option.map_some,Option.some.injEq]at h2
  subst h2
  exact e11 i c d t' q2 h1
theorem H0x{P:Program}{w:World}{F:Fr}{ρ:List D}{β:Nat→Value}{t:TypeId}{y:E}{v:Value}(h:A0y P w F ρ β (.map t y) v):Rd P w (F.or fun k=>bk v=some k) (.map t) (den ρ y) v:=by
 obtain⟨b,k,e,ts,us,g,h,es,e1,e2,e3,e4,e5,e6,e8,e9,e10⟩:=h
 have hx:∀i:Nat,∃vs:List Value,∀(en:MapEntry) (x:D),es[i]?=some en→(den ρ y).toL[i]?=some x→en.val=valOf h vs∧vs.length=us.length∧∀(c:Nat) (t:Ty) (u:Value),us[c]?=some t→vs[c]?=some u→Rd P w F t (cellOf us.length (x.toL.getD 1 .nil) c) u:=by
  intro i
  cases h1:es[i]? with
  |none=>exact⟨[],fun en x q=>by cases q⟩
  |some en=>
   cases h2:(den ρ y).toL[i]? with
   |none=>exact⟨[],fun en x _ q=>by cases q⟩
   |some x=>
    obtain⟨vs,v1,v2,v3⟩:=(e10 i en x h1 h2).val
    exact⟨vs,fun en' x' q1 q2=>by cases q1;cases q2;exact⟨v1,v2,v3⟩⟩
 let f:Nat→List Value:=fun i=>Classical.choose (hx i)
 have hf:∀i,_:=fun i=>Classical.choose_spec (hx i)
 have hle:Le w F w (F.or fun k=>bk v=some k):=Le.or fun k hk=>rfl
 refine Rd.map (gv:=fun i c=>(f i).getD c undef) e1 e2 e3 e4 e5 e6 (.inr (by rw[e1];rfl)) e8 e9 (fun i en x q1 q2=>?_) (fun i c x u q1 q2=>?_)
 ·have ho:=e10 i en x q1 q2
  obtain⟨v1,v2,_⟩:=hf i en x q1 q2
  refine⟨ho.born,ho.key,?_⟩
  rw[v1]
  congr 1
  apply List.ext_getElem?
  intro c
  rw[List.getElem?_map]
  by_cases hc:c<us.length
  ·rw[List.getElem?_range hc]
   have hc':c<(f i).length:=by show c<(Classical.choose (hx i)).length;omega
   simp only[Option.map_some,List.getD_eq_getElem?_getD]
   show(f i)[c]?=some ((f i)[c]?.getD undef)
   rw[List.getElem?_eq_getElem hc']
   rfl
  ·rw[List.getElem?_eq_none (by show(Classical.choose (hx i)).length≤c;omega),List.getElem?_eq_none (by simpa using hc)]
   rfl
 ·have hi:i<es.length:=by rw[e9];exact(List.getElem?_eq_some_iff.1 q1).1
  obtain⟨v1,v2,v3⟩:=hf i es[i] x (List.getElem?_eq_getElem hi) q1
  have hc:c<us.length:=(List.getElem?_eq_some_iff.1 q2).1
  have hc':c<(f i).length:=by show c<(Classical.choose (hx i)).length;omega
  refine(v3 c u _ q2 (List.getElem?_eq_getElem hc')).mono hle |> fun hh=>?_
  have hgd:(f i).getD c undef=(f i)[c]:=by rw[List.getD_eq_getElem?_getD,List.getElem?_eq_getElem hc'];rfl
  show Rd P w _ u _ ((f i).getD c undef)
  rw[hgd]
  exact hh
end Go.Proofs.YtglhnofjggpdjaaGreat.Eng
namespace Go.Proofs.YtglhnofjggpdjaaGreat.Eng
set_option linter.unusedVariables false
def D7k(op:BinOp)(k:IntKind)(a b:E):E:=
 match a,b with
 |.int x,.int y=>.int (arF op k x y)
 |_,_=>.ar op k a b
def A7x(op:BinOp)(a b:E):E:=
 match a,b with
 |.int x,.int y=>.bool (C2n op x y)
 |_,_=>.cmp op a b
def mkNot:E→E
 |.bool b=>.bool (!b)
 |.not a=>.ite a (.bool true) (.bool false)
 |a=>.not a
def mkAnd(a b:E):E:=
 match a,b with
 |.bool true,b=>b
 |.bool false,_=>.bool false
 |a,.bool true=>a
 |a,b=>.and a b
def E3d(a b:E):E:=
 match a,b with
 |.bool x,.bool y=>.bool (x == y)
 |a,b=>.beq a b
def mkIte(c a b:E):E:=
 match c with
 |.bool true=>a
 |.bool false=>b
 |c=>.ite c a b
def E0a(c a b:E):E:=
 match a,b with
 |.bool true,b=>.or c b
 |a,.bool false=>.and c a
 |a,b=>mkIte c a b
def E0v(t:Ty)(c a b:E):E:=match t with|.bool=>E0a c a b|_=>mkIte c a b
def A8k:E→E
 |.nil=>.bool true
 |.B5d _ _=>.bool false
 |.ptr _=>.bool false
 |.int _=>.bool false
 |.len _=>.bool false
 |a=>.D9y a
def B1r(f:Nat):E→E
 |.B5d g _=>.bool (g == f)
 |.nil=>.bool false
 |a=>.F1e f a
def B4p:E→E
 |.B5d _ a=>a
 |a=>.ifv a
def F0w(k:IntKind):E→E
 |.int n=>.int (k.wrap n)
 |a=>.conv k a
def B9e(a:E)(c:Nat):E:=
 match a,c with
 |.A2n x _,0=>x
 |.A2n _ y,c+1=>match y,c with
  |.A2n x _,0=>x
  |y,c=>.cell y c
 |a,c=>.cell a c
def A9d:E→Nat→E
 |.A2n x _,0=>x
 |.A2n _ y,c+1=>A9d y c
 |.B5c n a k v,c=>if c<n∧k<n then(if c=k then v else A9d a c)else .cell (.B5c n a k v) c
 |a,c=>.cell a c
def B6f:E→Nat→E→Option E
 |.A2n _ y,0,v=>some (.A2n v y)
 |.A2n x y,c+1,v=>(B6f y c v).map (.A2n x)
 |_,_,_=>none
def B8b(n:Nat)(a:E)(c:Nat)(v:E):E:=
 match B6f a c v with
 |some r=>r
 |none=>match a with
  |.B5c m b k u=>if k=c∧m=n then .B5c n b c v else .B5c n (.B5c m b k u) c v
  |a=>.B5c n a c v
def D7g:E→Nat→Option E
 |.A2n x _,0=>some x
 |.A2n _ y,n+1=>D7g y n
 |_,_=>none
def F1m(g:E):E→Bool
 |.app p (.A2n _ .A4d)=>decide (g=p) || F1m g p
 |_=>false
def E4n:E→Option Nat
 |.int (.ofNat n)=>some n
 |_=>none
def getLit(h a:E):E:=match E4n a with|some n=>(D7g h n).getD (.get h a)|none=>.get h a
def mkGet:E→E→E
 |.set h b x,a=>if b=a then x else match E4n a,E4n b with
  |some m,some n=>if m=n then .get (.set h b x) a else mkGet h a
  |_,_=>.get (.set h b x) a
 |.app h (.A2n x .A4d),a=>if a=.len h then x else match a with
  |.len g=>if F1m g h then mkGet h a else .get (.app h (.A2n x .A4d)) a
  |a=>.get (.app h (.A2n x .A4d)) a
 |h,a=>getLit h a
def mkSet(h a x:E):E:=
 match h with
 |.set g b y=>if b=a then .set g a x else .set (.set g b y) a x
 |.app g (.A2n y .A4d)=>if a=.len g then .app g (.A2n x .A4d)else .set (.app g (.A2n y .A4d)) a x
 |h=>match E4n a with
  |some n=>(B6f h n x).getD (.set h a x)
  |none=>.set h a x
def C4t:E→E→Option E
 |.A4d,x=>some (.A2n x .A4d)
 |.A2n a b,x=>(C4t b x).map (.A2n a)
 |_,_=>none
def B7m(h x:E):E:=(C4t h x).getD (.app h (.A2n x .A4d))
def C2w:E→Option Nat
 |.A4d=>some 0
 |.A2n _ b=>(C2w b).map (·+1)
 |_=>none
def D5s(h:E):E:=match C2w h with|some n=>.int (n:Nat)|none=>.len h
def B9k(n:Nat)(el:E)(c:Nat):E:=if n=1 then el else .cell el c
def cst:Value→Option C
 |.int k n=>some (.dat (.int k) (.int n))
 |.bool b=>some (.dat .bool (.bool b))
 |.string s=>some (.dat .str (.str s))
 |.nilIface=>some (.dat .ifc .nil)
 |.slice none 0 0=>some .B4e
 |.pointer none=>some .C3j
 |.nilFunc=>some .E4t
 |.map none=>some .B0j
 |_=>none
def D3q:List Value→Option (List C)
 |[]=>some []
 |v::l=>match cst v,D3q l with
  |some c,some cs=>some (c::cs)
  |_,_=>none
def G5w(v:Value):Option SV:=
 match v with
 |.agg cs=>(D3q cs.toList).map .agg
 |v=>(cst v).map .one
def tyC:Ty→C→C
 |.ptr e,.C3j=>.dat (.ptr e) .nil
 |_,c=>c
def D7h:List Ty→List C→List C
 |t::ts,c::cs=>tyC t c::D7h ts cs
 |_,cs=>cs
def B2o(P:Program)(t:TypeId):Option (List C):=
 match (P.info? t).bind (·.zero)with
 |some z=>match D3q z.cells.toList with
  |some cs=>some (match A0n P t with|some ts=>D7h ts cs|none=>cs)
  |none=>none
 |none=>none
def A3e(P:Program)(t:TypeId):Option Nat:=(P.info? t).map (·.size)
def SV.cells:SV→Option (List C)
 |.one c=>some [c]
 |.agg cs=>some cs
 |.tup _=>none
def A5m(P:Program)(t:TypeId)(cs:List C)(off:Nat):Option SV:=
 match A1d P t,A3e P t with
 |some true,some n=>if off+n≤cs.length then some (.agg ((cs.drop off).take n))else none
 |some false,some 1=>(cs[off]?).map .one
 |_,_=>none
def mat(t:Ty)(c:C):Option E:=
 match c with
 |.dat u e=>if t=u then some e else none
 |.B4e=>match t with|.slice _=>some .A4d|_=>none
 |.C3j=>match t with|.ptr _=>some .nil|_=>none
 |.E4t=>match t with|.fn=>some .nil|_=>none
 |.fn f=>match t with|.fn=>some (.B5d f .A4d)|_=>none
 |.A7d e a c=>match t with|.ptr e'=>if e=e'∧c=0 then some a else none|_=>none
 |_=>none
inductive OTy where
 |dat (t:Ty)|row (g:Bool) (e:TypeId)
 deriving DecidableEq,Inhabited
def H3p(m:Nat)(c:Nat):Ty→OTy
 |.slice e=>if m.testBit c then .dat (.slice e)else .row (m.testBit (c+64)) e
 |t=>.dat t
def D0k(P:Program)(ob:List (Nat × Nat))(t:TypeId):Option (List OTy):=
 (A0n P t).map fun ts=>ts.zipIdx.map fun(u,c)=>H3p ((ob.lookup t).getD 0) c u
def C9z(h:E)(os:List OTy)(a:E):List C:=os.zipIdx.map fun(o,j)=>match o with
 |.dat u=>.dat u (A9d (mkGet h a) j)
 |.row _ _=>.B0j
def F1x(ex:List (Nat × TypeId × E))(c:Nat):Bool:=ex.any fun x=>x.1 == c
def LIM:Nat:=1000000
def St.at(st:St)(t:Nat):Option SV:=if t<LIM then st.tm.lookup t else none
theorem St.F6w{st:St}{t:Nat}{sv:SV}(h:st.at t=some sv):t<LIM∧st.tm.lookup t=some sv:=by
 unfold St.at at h
 split at h
 ·rename_i hl;exact⟨hl,h⟩
 ·cases h
section
variable(P:Program)(st:St)
def opV:Operand→Option SV
 |.tmp t=>st.at t
 |.const v=>G5w v
 |.func f=>some (.one (.fn f))
 |.global g=>match st.cf.gs.lookup g with
  |some (t,s::l)=>some (.one (.A8y t (F8l (s::l)) (.int 0) 0))
  |_=>none
def opC(x:Operand):Option C:=match opV st x with|some (.one c)=>some c|_=>none
abbrev R:=List E × SV × Option Box
def ev1(c:C):Option R:=some ([],.one c,none)
def known(e:E):Option Bool:=match e with|.bool b=>some b|e=>(st.fs.find? (fun p=>p.1 == e)).map (·.2)
def F3g(c a b:Operand):Option R:=
 match opC st c with
 |some (.dat .bool e)=>match known st e with
  |some true=>(opV st a).map fun v=>([],v,none)
  |some false=>(opV st b).map fun v=>([],v,none)
  |none=>match opC st a,opC st b with
   |some (.dat t x),some c=>(mat t c).map fun y=>([],.one (.dat t (E0v t e x y)),none)
   |some c,some (.dat t y)=>(mat t c).map fun x=>([],.one (.dat t (E0v t e x y)),none)
   |_,_=>none
 |_=>none
def asH(c:C):Option (List E × TypeId × E × Nat):=
 match c with
 |.A7d t a c=>some ([],t,a,c)
 |.dat (.ptr e) a=>if st.cf.hc.contains e then some ([mkNot (A8k a)],e,a,0)else none
 |_=>none
def rowOf(m:Nat):Option (TypeId × E):=
 match st.bx.lookup m with
 |some (.vec e y)=>some (e,y)
 |some (.view t a j)=>match st.hp,D0k P st.cf.ob t with
  |some (_,h),some os=>match os[j]? with
   |some (.row false e)=>if F1x st.ex j then none else some (e,A9d (mkGet h a) j)
   |_=>none
  |_,_=>none
 |_=>none
def D4w(t:TypeId)(es:List E)(tt:TypeId)(a:E)(c:Nat):Option R:=
 match st.hp,D0k P st.cf.ob tt with
 |some (_,h),some os=>match os[c]?,P.underlying t,A3e P t with
  |some (.row false e),some (.slice e'),some 1=>if e=e'∧F1x st.ex c=false then some (es,.one (.vec st.nn),some (.view tt a c))else none
  |some (.row true _),_,_=>none
  |_,_,_=>(A5m P t (C9z h os a) c).map fun v=>(es,v,none)
 |_,_=>none
def F4i(t:TypeId)(x:Operand):Option R:=
 match opC st x with
 |some (.ptr n off)=>match st.bx.lookup n with
  |some (.box _ cs)=>(A5m P t cs off).map fun v=>([],v,none)
  |_=>none
 |some (.A8y tt a i c)=>match A0n P tt with
  |some ts=>(A5m P t (ts.zipIdx.map fun(u,j)=>C.dat u (B9k ts.length (.get a i) j)) c).map fun v=>([],v,none)
  |none=>none
 |some (.B2c tt a c)=>match A0n P tt with
  |some ts=>if st.cf.hc.contains tt then none else(A5m P t (ts.zipIdx.map fun(u,j)=>C.dat u (B9e a j)) c).map fun v=>([],v,none)
  |none=>none
 |some (.A5h n tt i c)=>match A0n P tt,rowOf P st n with
  |some ts,some (e,y)=>if e=tt then(A5m P t (ts.zipIdx.map fun(u,j)=>C.dat u (B9k ts.length (.get y i) j)) c).map fun v=>([],v,none)else none
  |_,_=>none
 |some x=>match asH st x with
  |some (es,tt,a,c)=>D4w P st t es tt a c
  |none=>match x with
   |.dat (.ptr e) a=>match A0n P e with
    |some ts=>if st.cf.hc.contains e then none else(A5m P t (ts.zipIdx.map fun(u,j)=>C.dat u (B9e a j)) 0).map fun v=>([mkNot (A8k a)],v,none)
    |none=>none
   |_=>none
 |_=>none
def C2i(s:TypeId)(f:Nat):Option Field:=
 match P.underlying s with
 |some (.struct fs)=>fs[f]?
 |_=>none
def C5q(s:TypeId)(x:Operand)(f:Nat):Option R:=
 match C2i P s f with
 |some fl=>match A3e P fl.type with
  |some (_+1)=>match opC st x with
   |some (.ptr n off)=>ev1 (.ptr n (off+fl.offset))
   |some (.A8y t a i c)=>ev1 (.A8y t a i (c+fl.offset))
   |some (.B2c t a c)=>ev1 (.B2c t a (c+fl.offset))
   |some (.A5h m t i c)=>ev1 (.A5h m t i (c+fl.offset))
   |some x=>match asH st x with
    |some (es,t,a,c)=>some (es,.one (.A7d t a (c+fl.offset)),none)
    |none=>match x with
     |.dat (.ptr e) a=>if st.cf.hc.contains e then none else some ([mkNot (A8k a)],.one (.B2c e a fl.offset),none)
     |_=>none
   |_=>none
  |_=>none
 |none=>none
def E4j(s:TypeId)(x:Operand)(f:Nat):Option R:=
 match C2i P s f with
 |some fl=>match opV st x with
  |some (.agg cs)=>(A5m P fl.type cs fl.offset).map fun v=>([],v,none)
  |_=>none
 |none=>none
def bin(op:BinOp)(t:TypeId)(x y:C):Option (List E × C):=
 match x,y with
 |.dat (.int k) a,.dat (.int k') b=>
  match op with
  |.shl|.shr=>some ([A7x .geq b (.int 0)],.dat (.int k) (D7k op k a b))
  |.add|.sub|.mul|.and|.or|.xor|.andNot=>if k=k' then some ([],.dat (.int k) (D7k op k a b))else none
  |.quo|.rem=>if k=k' then some ([A7x .neq b (.int 0)],.dat (.int k) (D7k op k a b))else none
  |_=>if k=k' then some ([],.dat .bool (A7x op a b))else none
 |.dat .bool a,.dat .bool b=>
  match op,P.underlying t with
  |.eql,some .bool=>some ([],.dat .bool (E3d a b))
  |.neq,some .bool=>some ([],.dat .bool (mkNot (E3d a b)))
  |_,_=>none
 |.dat .str a,.dat .str b=>
  match op with
  |.add=>some ([.cmp .leq (.ar .add .i64 (.B4f a) (.B4f b)) (.int 4611686018427387903),.cmp .leq (.B4f a) (.int 4611686018427387903),.cmp .leq (.B4f b) (.int 4611686018427387903)],.dat .str (.F1t a b))
  |.eql|.neq|.lss|.leq|.gtr|.geq=>some ([],.dat .bool (.E3v op a b))
  |_=>none
 |.dat .ifc a,.dat .ifc .nil=>
  match op,P.underlying t with
  |.eql,some (.interface _)=>some ([],.dat .bool (A8k a))
  |.neq,some (.interface _)=>some ([],.dat .bool (mkNot (A8k a)))
  |_,_=>none
 |.dat (.ptr _) a,.C3j=>
  match op,P.underlying t with
  |.eql,some (.pointer _)=>some ([],.dat .bool (A8k a))
  |.neq,some (.pointer _)=>some ([],.dat .bool (mkNot (A8k a)))
  |_,_=>none
 |.ptr _ _,.C3j|.A7d _ _ _,.C3j=>
  match op,P.underlying t with
  |.eql,some (.pointer _)=>some ([],.dat .bool (.bool false))
  |.neq,some (.pointer _)=>some ([],.dat .bool (.bool true))
  |_,_=>none
 |_,_=>none
def eqC:C→C→Option E
 |.dat (.int k) a,.dat (.int k') b=>if k=k' then some (A7x .eql a b)else none
 |.dat .bool a,.dat .bool b=>some (E3d a b)
 |.dat .str a,.dat .str b=>some (.E3v .eql a b)
 |_,_=>none
def scT:C→Option TypeDesc→Bool
 |.dat (.int k) _,some (.int k')=>k == k'
 |.dat .bool _,some .bool=>true
 |.dat .str _,some .string=>true
 |_,_=>false
def C9g(g:TypeId→List C→List C→Option E):List Field→Nat→List C→List C→Option E
 |[],_,[],[]=>some (.bool true)
 |f::fs,n,cs,ds=>match A3e P f.type with
  |some m=>if f.name != "_"&&f.offset == n&&decide (m≤cs.length)&&decide (m≤ds.length)then match g f.type (cs.take m) (ds.take m),C9g g fs (n+m) (cs.drop m) (ds.drop m)with
   |some e,some f=>some (mkAnd e f)
   |_,_=>none
   else none
  |none=>none
 |_,_,_,_=>none
def D0o(g:List C→List C→Option E)(m:Nat):Nat→List C→List C→Option E
 |0,[],[]=>some (.bool true)
 |k+1,cs,ds=>if m≤cs.length∧m≤ds.length then match g (cs.take m) (ds.take m),D0o g m k (cs.drop m) (ds.drop m)with
  |some e,some f=>some (mkAnd e f)
  |_,_=>none
  else none
 |_,_,_=>none
def eqT:Nat→TypeId→List C→List C→Option E
 |0,_,_,_=>none
 |n+1,t,cs,ds=>match P.underlying t with
  |some (.struct fs)=>if P.stoodInHeld t then none else C9g P (eqT n) fs.toList 0 cs ds
  |some (.array k e)=>match A3e P e with
   |some m=>D0o (eqT n e) m k cs ds
   |none=>none
  |td=>match cs,ds with
   |[c],[d]=>if scT c td then eqC c d else none
   |_,_=>none
def isConst:Operand→Bool|.const _=>true|_=>false
def F8u(op:BinOp)(t:TypeId)(x y:Operand):Option R:=
 match opV st x,opV st y with
 |some (.one a),some (.one b)=>match a,b with
  |.dat .ifc u,.dat .ifc v=>if isConst y then(bin P op t (.dat .ifc u) (.dat .ifc v)).map fun r=>(r.1,.one r.2,none)else none
  |a,b=>(bin P op t a b).map fun r=>(r.1,.one r.2,none)
 |some (.agg cs),some (.agg ds)=>
   if A1d P t=some true∧P.eqGuardType P.depth t=false then match eqT P 8 t cs ds,op with
    |some e,.eql=>some ([],.one (.dat .bool e),none)
    |some e,.neq=>some ([],.one (.dat .bool (mkNot e)),none)
    |_,_=>none
   else none
 |_,_=>none
def G5v(op:UnOp)(x:Operand):Option R:=
 match op,opC st x with
 |.not,some (.dat .bool e)=>ev1 (.dat .bool (mkNot e))
 |.neg,some (.dat (.int k) e)=>ev1 (.dat (.int k) (D7k .sub k (.int 0) e))
 |.xor,some (.dat (.int k) e)=>ev1 (.dat (.int k) (D7k .xor k (.int (if k.signed then -1 else k.max)) e))
 |_,_=>none
def F2z(src dst:TypeId)(x:Operand):Option R:=
 match P.underlying src,P.underlying dst,opC st x with
 |some (.int _),some (.int k),some (.dat (.int _) e)=>ev1 (.dat (.int k) (F0w k e))
 |some .string,some .string,some (.dat .str e)=>ev1 (.dat .str e)
 |_,_,_=>none
def F1d(t:TypeId)(x:Operand):Option R:=
 match D3r P t,opC st x with
 |some u,some (.dat u' e)=>if u=u'∧u≠.ifc then ev1 (.dat .ifc (.B5d t e))else none
 |_,_=>none
def D7m(t:TypeId)(x:Operand)(ok:Bool):Option R:=
 match D3r P t,((P.info? t).bind (·.zero)).bind cst,opC st x with
 |some u,some z,some (.dat .ifc a)=>if u=.ifc then none else match tyC u z with
  |.dat u' z'=>if u'=u then(if ok then some ([],.tup [.one (.dat u (E0v u (B1r t a) (B4p a) z')),.one (.dat .bool (B1r t a))],none)else some ([B1r t a],.one (.dat u (B4p a)),none))else none
  |_=>none
 |_,_,_=>none
def D3d(x:Operand)(i:Nat):Option R:=
 match opV st x with
 |some (.tup l)=>(l[i]?).map fun v=>([],v.sv,none)
 |_=>none
def putCells(cs:List C)(off:Nat):List C→List C
 |[]=>cs
 |x::xs=>putCells (cs.set off x) (off+1) xs
def B7w(place:Nat→Option (Nat × Nat))(cs:List C):List (Nat × SV)→Option (List C)
 |[]=>some cs
 |(i,v)::rest=>match place i,v.cells with
  |some (off,n),some xs=>if xs.length=n∧off+n≤cs.length then B7w place (putCells cs off xs) rest else none
  |_,_=>none
def D9e:List (Nat × Operand)→Option (List (Nat × SV))
 |[]=>some []
 |(i,x)::l=>match opV st x,D9e l with
  |some v,some vs=>some ((i,v)::vs)
  |_,_=>none
def C6v:List Field→Option (List (Nat × Nat))
 |[]=>some []
 |f::fs=>match A3e P f.type,C6v fs with
  |some n,some l=>some ((f.offset,n)::l)
  |_,_=>none
def E4h(t:TypeId)(parts:Array (Nat × Operand)):Option R:=
 match B2o P t,D9e st parts.toList,P.underlying t with
 |some zs,some vs,some (.struct fs)=>match C6v P fs.toList with
  |some ps=>(B7w (ps[·]?) zs vs).map fun cs=>([],.agg cs,none)
  |none=>none
 |some zs,some vs,some (.array _ e)=>match A3e P e with
  |some n=>(B7w (fun i=>some (i*n,n)) zs vs).map fun cs=>([],.agg cs,none)
  |none=>none
 |_,_,_=>none
def C5p(t:TypeId)(x i:Operand):Option R:=
 match P.underlying t,opC st x,opC st i with
 |some (.slice e),some (.dat (.slice e') a),some (.dat (.int _) j)=>
  if e=e' then match A0n P e,A3e P e with
   |some ts,some n=>if ts.length=n then some ([A7x .geq j (.int 0),.cmp .lss j (.len a)],.one (.A8y e a j 0),none)else none
   |_,_=>none
  else none
 |some (.slice e),some (.vec m),some (.dat (.int _) j)=>
  match rowOf P st m with
  |some (e',y)=>if e=e' then match A0n P e,A3e P e with
   |some ts,some n=>if ts.length=n then some ([A7x .geq j (.int 0),.cmp .lss j (.len y)],.one (.A5h m e j 0),none)else none
   |_,_=>none
  else none
  |_=>none
 |some (.slice e),some (.lit n len),some (.dat (.int _) (.int j))=>
  match A3e P e with
  |some s=>if 0≤j∧j<len then ev1 (.ptr n (j.toNat*s))else none
  |none=>none
 |some (.array m e),some (.A7d t a off),some (.dat (.int _) (.int j))=>
  match A3e P e with
  |some s=>if 0≤j∧j<m then ev1 (.A7d t a (off+j.toNat*s))else none
  |none=>none
 |some (.array m e),some (.ptr n off),some (.dat (.int _) (.int j))=>
  match A3e P e with
  |some s=>if 0≤j∧j<m then ev1 (.ptr n (off+j.toNat*s))else none
  |none=>none
 |some (.array m e),some (.A5h n t k off),some (.dat (.int _) (.int j))=>
  match A3e P e with
  |some s=>if 0≤j∧j<m then ev1 (.A5h n t k (off+j.toNat*s))else none
  |none=>none
 |some (.array m e),some (.A8y t a k off),some (.dat (.int _) j)=>
  if t=e∧k=.int 0∧off=0 then match A0n P e,A3e P e with
   |some ts,some n=>if ts.length=n then some ([A7x .geq j (.int 0),.cmp .lss j (.len a),.cmp .lss j (.int m)],.one (.A8y e a j 0),none)else none
   |_,_=>none
  else match j,A3e P e with
  |.int j,some s=>if 0≤j∧j<m then ev1 (.A8y t a k (off+j.toNat*s))else none
  |_,_=>none
 |some (.array m e),some (.B2c t a off),some (.dat (.int _) (.int j))=>
  match A3e P e with
  |some s=>if 0≤j∧j<m then ev1 (.B2c t a (off+j.toNat*s))else none
  |none=>none
 |_,_,_=>none
def A3y:List E→E
 |[]=>.A4d
 |e::l=>.A2n e (A3y l)
def D8x(t:Ty):List C→Option (List E)
 |[]=>some []
 |.dat u e::cs=>if u=t then(D8x t cs).map (e::·)else none
 |_=>none
def E4w(t:TypeId)(x i:Operand):Option R:=
 match P.underlying t,opC st x,opC st i with
 |some .string,some (.dat .str a),some (.dat (.int _) j)=>some ([A7x .geq j (.int 0),.cmp .lss j (.B4f a)],.one (.dat (.int .u8) (.F2g a j)),none)
 |some (.array len e),_,some (.dat (.int _) j)=>match opV st x,A0n P e,A3e P e with
  |some (.agg cs),some [t],some 1=>match D8x t cs with
   |some es=>if A1d P e=some false∧es.length=len then some ([A7x .geq j (.int 0),.cmp .lss j (.int len)],.one (.dat t (.get (A3y es) j)),none)else none
   |none=>none
  |_,_,_=>none
 |_,_,_=>none
def F8h(t:TypeId)(x:Operand):Option R:=
 match P.underlying t,opC st x with
 |some (.slice _),some (.dat (.slice _) a)=>ev1 (.dat (.int .i64) (.len a))
 |some (.slice _),some .B4e=>ev1 (.dat (.int .i64) (.int 0))
 |some (.slice _),some (.vec m)=>match rowOf P st m with
  |some (_,y)=>ev1 (.dat (.int .i64) (.len y))
  |_=>none
 |some (.slice _),some (.lit n len)=>ev1 (.dat (.int .i64) (.int len))
 |some .string,some (.dat .str a)=>ev1 (.dat (.int .i64) (.B4f a))
 |some (.map _ _),some (.dat (.map _) a)=>ev1 (.dat (.int .i64) (.len a))
 |some (.map _ _),some (.vec m)=>match st.bx.lookup m with
  |some (.map _ y)=>ev1 (.dat (.int .i64) (.len y))
  |_=>none
 |_,_=>none
def A9a(x:Option Operand)(d:E):Option E:=
 match x with
 |none=>some d
 |some x=>match opC st x with
  |some (.dat (.int _) e)=>some e
  |_=>none
def E3m(t:TypeId)(x:Operand)(lo hi mx:Option Operand):Option R:=
 match P.underlying t,opC st x,mx with
 |some (.slice e),some (.dat (.slice e') a),none=>
  match A9a st lo (.int 0),A9a st hi (.len a),A0n P e,A3e P e with
  |some l,some h,some ts,some n=>if e=e'∧ts.length=n then some ([.cmp .leq (.int 0) l,.cmp .leq l h,.cmp .leq h (.len a)],.one (.dat (.slice e) (.sub a l h)),none)else none
  |_,_,_,_=>none
 |some .string,some (.dat .str a),none=>
  match A9a st lo (.int 0),A9a st hi (.B4f a)with
  |some l,some h=>some ([.cmp .leq (.int 0) l,.cmp .leq l h,.cmp .leq h (.B4f a)],.one (.dat .str (.F4a a l h)),none)
  |_,_=>none
 |_,_,_=>none
def C8a(x:Operand):Option R:=
 match opC st x with
 |some (.ptr n off)=>ev1 (.ptr n off)
 |some (.A7d t a c)=>ev1 (.A7d t a c)
 |some (.A5h n t i c)=>ev1 (.A5h n t i c)
 |some (.A8y t a i c)=>ev1 (.A8y t a i c)
 |some (.dat (.ptr e) a)=>if st.cf.hc.contains e then some ([mkNot (A8k a)],.one (.A7d e a 0),none)else some ([mkNot (A8k a)],.one (.B2c e a 0),none)
 |_=>none
def G0k(mx:Bool)(x y:Operand):Option R:=
 match opC st x,opC st y with
 |some (.dat (.int k) a),some (.dat (.int k') b)=>if k=k' then ev1 (.dat (.int k) (mkIte (A7x (if mx then .gtr else .lss) b a) b a))else none
 |_,_=>none
def A6j:List Ty→List C→Option (List E)
 |[],[]=>some []
 |t::ts,c::cs=>match mat t c,A6j ts cs with
  |some e,some es=>some (e::es)
  |_,_=>none
 |_,_=>none
def G0j(ts:List Ty)(n:Nat)(cs:List C)(i:Nat):Option E:=
 match A6j ts ((cs.drop (i*n)).take n)with
 |some es=>some (if n=1 then es.headD .nil else A3y es)
 |none=>none
def C7a(ts:List Ty)(n:Nat)(cs:List C):Nat→Nat→Option (List E)
 |0,_=>some []
 |k+1,i=>match G0j ts n cs i,C7a ts n cs k (i+1)with
  |some e,some es=>some (e::es)
  |_,_=>none
def vrs:List Ty→Nat→List C
 |[],_=>[]
 |t::ts,n=>.dat t (.var n)::vrs ts (n+1)
def D7s:List Ty→Nat→Nat→Option E
 |[],_,_=>some (.bool true)
 |t::ts,a,b=>match eqC (.dat t (.var a)) (.dat t (.var b)),D7s ts (a+1) (b+1)with
  |some e,some f=>some (mkAnd e f)
  |_,_=>none
def C0o(k:TypeId):Option (List Nat):=
 match A0n P k,A1d P k with
 |some ts,some g=>if eqT P 8 k (vrs ts 0) (vrs ts ts.length)=D7s ts 0 ts.length∧(D7s ts 0 ts.length).isSome=true∧0<ts.length∧(g=true∨ts.length=1)then A5j ts else none
 |_,_=>none
def C6c(us:List Ty)(es:List E):E:=if us.length=1 then es.headD .nil else A3y es
def C7u(ts:List Ty)(g:Bool)(sv:SV):Option E:=
 match g,sv with
 |true,.agg cs=>(A6j ts cs).map (C6c ts)
 |false,.one c=>if ts.length=1 then(A6j ts [c]).map (C6c ts)else none
 |_,_=>none
def C5j(t:TypeId):Option (TypeId × TypeId):=match P.underlying t with|some (.map k e)=>some (k,e)|_=>none
def E3b(e:TypeId):Option E:=
 match (P.info? e).bind (·.zero),A1d P e,A0n P e with
 |some (.agg zs),some true,some us=>match D3q zs.toList with
  |some cs=>(A6j us (D7h us cs)).map (C6c us)
  |none=>none
 |some z,some false,some us=>match cst z with
  |some c=>if us.length=1 then(A6j us (D7h us [c])).map (C6c us)else none
  |none=>none
 |_,_,_=>none
def mapArgs(t:TypeId)(m x:Operand):Option (Nat × E × TypeId × TypeId × List Nat × E):=
 match C5j P t,opC st m with
 |some (k,e),some (.vec n)=>match st.bx.lookup n,C0o P k,A0n P k,A1d P k,opV st x with
  |some (.map t' y),some ks,some ts,some g,some sv=>if t=t' then match C7u ts g sv with
   |some q=>some (n,y,k,e,ks,q)
   |none=>none
   else none
  |_,_,_,_,_=>none
 |_,_=>none
def G8k(us:List Ty)(g:Bool)(el:E):SV:=
 if g=true then .agg (us.zipIdx.map fun(u,j)=>C.dat u (B9k us.length el j))else .one (.dat (us.headD .bool) (B9k us.length el 0))
def E0r(ks:List Nat)(a q z:E):E:=
 match a with
 |.B3a ks1 y k (.B2s ks2 y' k' z')=>if ks=ks1∧ks=ks2∧y=y'∧k=k'∧z=z' then .B2s ks y q z else .B2s ks a q z
 |a=>.B2s ks a q z
def D7l(t:TypeId)(m x:Operand):Option (E × TypeId × TypeId × List Nat × E):=
 match C5j P t,opC st m with
 |some (k,e),some (.dat (.map t') y)=>match C0o P k,A0n P k,A1d P k,opV st x with
  |some ks,some ts,some g,some sv=>if t=t' then match C7u ts g sv with
   |some q=>some (y,k,e,ks,q)
   |none=>none
   else none
  |_,_,_,_=>none
 |_,_=>none
def E8z(y:E)(e:TypeId)(ks:List Nat)(q:E)(ok:Bool):Option R:=
 match E3b P e,A0n P e,A1d P e with
 |some z,some us,some g=>if g=true∨us.length=1 then
   let v:=G8k us g (E0r ks y q z)
   if ok=true then match v with
    |.one c=>some ([],.tup [.one c,.one (.dat .bool (.cmp .lss (.mix ks y q) (.len y)))],none)
    |.agg cs=>some ([],.tup [.agg cs,.one (.dat .bool (.cmp .lss (.mix ks y q) (.len y)))],none)
    |.tup _=>none
   else some ([],v,none)
  else none
 |_,_,_=>none
def D9f(t:TypeId)(m x:Operand)(ok:Bool):Option R:=
 match mapArgs P st t m x with
 |some (n,y,k,e,ks,q)=>E8z P y e ks q ok
 |none=>match D7l P st t m x with
  |some (y,k,e,ks,q)=>E8z P y e ks q ok
  |none=>none
def evB(t:TypeId)(len:Nat)(parts:Array (Nat × Operand)):Option SV:=
 match P.underlying t with
 |some (.slice e)=>match A3e P e,A0n P e,B2o P e,D9e st parts.toList with
  |some n,some ts,some zs,some vs=>
   if ts.length=n∧zs.length=n∧0<n∧0<len∧len*n≤2 ^ 24 then
    match B7w (fun i=>some (i*n,n)) ((List.range (len*n)).map fun j=>zs.getD (j%n) .B0j) vs with
    |some cs=>(C7a ts n cs len 0).map fun es=>.one (.dat (.slice e) (A3y es))
    |none=>none
   else none
  |_,_,_,_=>none
 |_=>none
def evV(op:Op)(ty:TypeId):Option R:=
 match op with
 |.move x|.assign x=>(opV st x).map fun v=>([],v,none)
 |.pick c a b=>F3g st c a b
 |.alloc t=>if st.cf.hc.contains t then none else(B2o P t).map fun cs=>([],.one (.ptr st.nn 0),some (.box t cs))
 |.box t x=>if st.cf.hc.contains t then none else match opV st x with
  |some v=>match v.cells with|some cs=>some ([],.one (.ptr st.nn 0),some (.box t cs))|none=>none
  |none=>none
 |.build t parts=>E4h P st t parts
 |.load t x=>F4i P st t x
 |.nilCheck x=>C8a st x
 |.binOp op t x y _=>F8u P st op t x y
 |.unOp op _ x=>G5v st op x
 |.convert s d x=>F2z P st s d x
 |.makeInterface t x=>F1d P st t x
 |.slice t x lo hi mx=>E3m P st t x lo hi mx
 |.fieldAddr s x f=>C5q P st s x f
 |.field s x f=>E4j P st s x f
 |.indexAddr t x i=>C5p P st t x i
 |.index t x i=>E4w P st t x i
 |.lookup t m x ok=>D9f P st t m x ok
 |.extract x i=>D3d st x i
 |.typeAssert x _ t ok=>D7m P st t x ok
 |.makeFunc fn fs cs=>match fn,fs.toList,cs.toList with
  |.func f,[],[]=>ev1 (.fn f)
  |_,_,_=>none
 |.call c=>match c.callee,c.args.toList,c.argTypes.toList with
  |.builtin .len,[x],[t]=>F8h P st t x
  |.builtin .max,[x,y],_=>G0k st true x y
  |.builtin .min,[x,y],_=>G0k st false x y
  |_,_,_=>none
 |_=>none
end
end Go.Proofs.YtglhnofjggpdjaaGreat.Eng
namespace Go.Proofs.YtglhnofjggpdjaaGreat.Eng
set_option linter.unusedVariables false
set_option linter.unusedSimpArgs false
def C6d(gs:List (Nat × TypeId × List ByteArray))(w:World)(F:Fr):Prop:=
 ∀g t l,gs.lookup g=some (t,l)→F g∧∀i s,l[i]?=some s→w.cell? ⟨g,i,none⟩=some (.string s)
theorem C6d.mono{gs:List (Nat × TypeId × List ByteArray)}{w w':World}{F F':Fr}(h:Le w F w' F')(q:C6d gs w F):C6d gs w' F':=
 fun g t l hl=>⟨(h.b g (q g t l hl).1).1,fun i s hi=>by rw[cell?_of_heap (h.b g (q g t l hl).1).2];exact(q g t l hl).2 i s hi⟩
theorem C6d.nil{w:World}{F:Fr}:C6d [] w F:=fun g t l h=>by cases h
structure Gl where
 cf:Cf
 ok:World→Fr→Prop
 mono:∀{w w':World} {F F':Fr},Le w F w' F'→ok w F→ok w' F'
 glo:∀{w:World} {F:Fr},ok w F→C6d cf.gs w F
def Gl.of(cf:Cf):Gl:=⟨cf,C6d cf.gs,C6d.mono,fun h=>h⟩
def Gl.none:Gl:=Gl.of Cf.none
structure Cx where
 P:Program
 S:List Nat
 w0:World
 nt:Nat
 F0:Fr
 G:Gl
 hv:Nat→Option Value
 dq:List Deferred:=[]
def Cx.val(X:Cx)(a:Act)(t:Nat):Option Value:=if t<LIM then a.tmps[t]? else X.hv t
theorem Cx.E0d{X:Cx}{a:Act}{t:Nat}(h:t<LIM):X.val a t=a.tmps[t]?:=if_pos h
structure CxOk(X:Cx):Prop where
 nl:X.nt≤LIM
 ok:X.G.ok X.w0 X.F0
 f0:∀b,X.F0 b→b<X.w0.heap.size∧b ∉ X.S
 gt:∀g t l,X.G.cf.gs.lookup g=some (t,l)→A0n X.P t=some [.str]
inductive C0p(P:Program)(w:World)(F:Fr):List Nat→OTy→D→Value→Prop
 |dat {t d v}:Rd P w F t d v→C0p P w F [] (.dat t) d v
 |gone {e v}:v.oneCell'=true→C0p P w F [] (.row true e) .nil v
 |row {g e d v} {ts:List Ty} {xs:List Value}:A0n P e=some ts→B2d w e ts.length v d.toL.length xs→
   (∀i c y t,d.toL[i]?=some y→ts[c]?=some t→∃u,xs[i*ts.length+c]?=some u∧Rd P w F t (cellOf ts.length y c) u)→C0p P w F (bk v).toList (.row g e) d v
def B3t(P:Program)(w:World)(F:Fr)(ob:List (Nat × Nat))(ex:Nat→Bool)(t:TypeId)(b:Nat)(d:D)(S:List Nat):Prop:=
 ∃(vs:List Value) (os:List OTy) (g:Nat→List Nat),w.heap[b]?=some (.cells vs.toArray t (0,0))∧D0k P ob t=some os∧d.toL.length=os.length∧vs.length=os.length∧
  (∀(i:Nat) (o:OTy) (x:D) (u:Value),os[i]?=some o→d.toL[i]?=some x→vs[i]?=some u→if ex i=true then u.oneCell'=true∧g i=[]∧∃z e,o=.row z e else C0p P w F (g i) o x u)∧
  (∀k,k ∈ S↔k=b∨∃i,i<os.length∧k ∈ g i)∧(∀i,i<os.length→b ∉ g i)∧∀i j k,i<os.length→j<os.length→k ∈ g i→k ∈ g j→i=j
structure A9s(P:Program)(w:World)(F:Fr)(ob:List (Nat × Nat))(h:D)(ex:List (Nat × Nat))(φ:Nat→List Nat):Prop where
 len:h.toL.length=F.γ.length
 obj:∀(n b:Nat) (t:TypeId),F.γ[n]?=some (b,t)→B3t P w F ob (fun c=>ex.contains (n,c)) t b (h.toL.getD n .nil) (φ n)
 dis:∀n m k,k ∈ φ n→k ∈ φ m→n=m
 far:∀n k,k ∈ φ n→k<w.heap.size∧¬F k
 out:∀n,F.γ.length≤n→φ n=[]
def exN(ρ:List D)(ex:List (Nat × TypeId × E)):List (Nat × Nat):=ex.map fun x=>((den ρ x.2.2).toInt.toNat,x.1)
def Oth(bx:List (Nat × Box))(Ft:Fr)(β:Nat→Value)(w:World)(k:Nat):Prop:=k<w.heap.size∧¬Ft k∧∀j x,bx.lookup j=some x→x.bk (β j)≠some k
structure Hg(X:Cx)(ρ:List D)(st:St)(Ft:Fr)(β:Nat→Value)(w:World):Prop where
 hp:∀m e,st.hp=some (m,e)→∃φ,A9s X.P w Ft st.cf.ob (den ρ e) (exN ρ st.ex) φ∧∀n k,k ∈ φ n→(m=true→k ∈ X.S∨X.w0.heap.size≤k)∧∀j x,st.bx.lookup j=some x→x.bk (β j)≠some k
 gm:∀(n b:Nat) (t:TypeId),Ft.γ[n]?=some (b,t)→Oth st.bx Ft β w b
structure Sat(X:Cx)(ρ:List D)(st:St)(Ft:Fr)(β:Nat→Value)(a:Act)(w:World):Prop where
 df:a.defers=X.dq
 sz:a.tmps.size=X.nt
 ft:∀b,Ft b→b<w.heap.size∧∀n x,st.bx.lookup n=some x→x.bk (β n)≠some b
 tm:∀t sv,st.tm.lookup t=some sv→∃v,X.val a t=some v∧RV X.P w Ft ρ β sv v
 bx:∀n x,st.bx.lookup n=some x→A0y X.P w Ft ρ β x (β n)
 inj:∀n m x y k,st.bx.lookup n=some x→st.bx.lookup m=some y→x.bk (β n)=some k→y.bk (β m)=some k→n=m
 own:∀n x k,st.bx.lookup n=some x→x.bk (β n)=some k→k<w.heap.size∧(k ∈ X.S∨X.w0.heap.size≤k)
 chg:Chg X.S X.w0 w
 fs:∀e b,(e,b) ∈ st.fs→(den ρ e).toBool=b
 on:∀n,(β n).oneCell'=true
 f0:∀b,Ft b→X.F0 b∨X.w0.heap.size≤b∨b ∈ X.S
 gx:CxOk X
 cf:st.cf=X.G.cf∧Ft.hc=st.cf.hc
 hg:Hg X ρ st Ft β w
 fw:(∀b,X.F0 b→Ft b)∧X.F0.γ <+: Ft.γ∧Ft.hc=X.F0.hc∧((∀e,st.hp≠some (true,e))→Ft.γ=X.F0.γ)
theorem Sat.at{X:Cx}{ρ:List D}{st:St}{Ft:Fr}{β:Nat→Value}{a:Act}{w:World}(hs:Sat X ρ st Ft β a w){t:Nat}{sv:SV}(h:st.at t=some sv):∃v,a.tmps[t]?=some v∧RV X.P w Ft ρ β sv v:=by
 obtain⟨h1,h2⟩:=St.F6w h
 obtain⟨v,h3,h4⟩:=hs.tm t sv h2
 exact⟨v,by rw[←Cx.E0d h1 (X:=X)];exact h3,h4⟩
theorem B2d.mono{w w':World}{e:TypeId}{n:Nat}{v:Value}{len:Nat}{xs:List Value}(hk:∀b,bk v=some b→w'.heap[b]?=w.heap[b]?)(h:B2d w e n v len xs):B2d w' e n v len xs:=by
 obtain⟨hl,hr⟩:=h
 refine⟨hl,?_⟩
 rcases hr with hr|⟨g,o,cap,cur,e1,e2,e3,e4⟩
 ·exact .inl hr
 ·exact .inr ⟨g,o,cap,cur,e1,e2,by rw[hk g (by rw[e1];exact B1f e2)];exact e3,e4⟩
theorem C0p.mono{P:Program}{w w':World}{F F':Fr}(hf:Le w F w' F'){S:List Nat}{t:OTy}{d:D}{v:Value}(h:C0p P w F S t d v)(hS:∀b ∈ S,w'.heap[b]?=w.heap[b]?):C0p P w' F' S t d v:=by
 cases h with
 |dat h=>exact .dat (h.mono hf)
 |gone h=>exact .gone h
 |row h1 h2 h3=>exact .row h1 (h2.mono fun b hb=>hS b (by rw[hb];exact List.mem_singleton.2 rfl)) (fun i c y t a b=>by obtain⟨u,q1,q2⟩:=h3 i c y t a b;exact⟨u,q1,q2.mono hf⟩)
theorem B3t.mono{P:Program}{w w':World}{F F':Fr}{ob:List (Nat × Nat)}{ex:Nat→Bool}{t:TypeId}{b:Nat}{d:D}{S:List Nat}(hf:Le w F w' F')(h:B3t P w F ob ex t b d S)(hS:∀b ∈ S,w'.heap[b]?=w.heap[b]?):B3t P w' F' ob ex t b d S:=by
 obtain⟨vs,os,g,h1,h2,h3,h4,h5,h6,h7⟩:=h
 refine⟨vs,os,g,by rw[hS b ((h6 b).2 (.inl rfl))];exact h1,h2,h3,h4,fun i o x u a1 a2 a3=>?_,h6,h7⟩
 have:=h5 i o x u a1 a2 a3
 split
 ·rename_i he;rw[if_pos he]at this;exact this
 ·rename_i he
  rw[if_neg he]at this
  exact this.mono hf fun k hk=>hS k ((h6 k).2 (.inr ⟨i,(List.getElem?_eq_some_iff.1 a1).1,hk⟩))
theorem A9s.mono{P:Program}{w w':World}{F F':Fr}{ob:List (Nat × Nat)}{h:D}{ex:List (Nat × Nat)}{φ:Nat→List Nat}(q:A9s P w F ob h ex φ)(hf:Le w F w' F')(hγ:F'.γ=F.γ)(hk:∀n k,k ∈ φ n→w'.heap[k]?=w.heap[k]?∧k<w'.heap.size∧¬F' k):A9s P w' F' ob h ex φ:=
 ⟨by rw[hγ];exact q.len,fun n b t hn=>(q.obj n b t (by rw[←hγ];exact hn)).mono hf fun k hm=>(hk n k hm).1,q.dis,fun n k hm=>(hk n k hm).2,fun n hn=>q.out n (by rw[←hγ];exact hn)⟩
theorem Hg.move{X:Cx}{ρ:List D}{st st':St}{Ft Ft':Fr}{β β':Nat→Value}{w w':World}(h:Hg X ρ st Ft β w)(hf:Le w Ft w' Ft')(hγ:Ft'.γ=Ft.γ)(ho:∀k,Oth st.bx Ft β w k→w'.heap[k]?=w.heap[k]?∧Oth st'.bx Ft' β' w' k)(h1:st'.hp=st.hp)(h2:st'.ex=st.ex)(h3:st'.cf=st.cf):Hg X ρ st' Ft' β' w':=by
 refine⟨fun m e he=>?_,fun n b t hn=>(ho b (h.gm n b t (by rw[←hγ];exact hn))).2⟩
 obtain⟨φ,q1,q2⟩:=h.hp m e (by rw[←h1];exact he)
 have hk:∀n k,k ∈ φ n→Oth st.bx Ft β w k:=fun n k hm=>⟨(q1.far n k hm).1,(q1.far n k hm).2,(q2 n k hm).2⟩
 refine⟨φ,?_,fun n k hm=>⟨(q2 n k hm).1,(ho k (hk n k hm)).2.2.2⟩⟩
 rw[h2,h3]
 exact q1.mono hf hγ fun n k hm=>⟨(ho k (hk n k hm)).1,(ho k (hk n k hm)).2.1,(ho k (hk n k hm)).2.2.1⟩
theorem Hg.less{X:Cx}{ρ:List D}{st st':St}{Ft:Fr}{β:Nat→Value}{w:World}(h:Hg X ρ st Ft β w)(hb:∀n x,st'.bx.lookup n=some x→∃y,st.bx.lookup n=some y∧(x.bk (β n)=y.bk (β n)∨x.bk (β n)=none))(h1:st'.hp=st.hp)(h2:st'.ex=st.ex)(h3:st'.cf=st.cf):Hg X ρ st' Ft β w:=
 h.move (Le.same fun _ _=>rfl) rfl (fun k hk=>⟨rfl,hk.1,hk.2.1,fun j x hx=>by
  obtain⟨y,hy,hq⟩:=hb j x hx
  rcases hq with hq|hq
  ·rw[hq];exact hk.2.2 j y hy
  ·rw[hq];simp⟩) h1 h2 h3
theorem Sat.gl{X:Cx}{ρ:List D}{st:St}{Ft:Fr}{β:Nat→Value}{a:Act}{w:World}(hs:Sat X ρ st Ft β a w):X.G.ok w Ft:=
 X.G.mono ⟨fun b hb=>⟨hs.fw.1 b hb,hs.chg.block b (hs.gx.f0 b hb).1 (hs.gx.f0 b hb).2⟩,hs.fw.2.1,hs.fw.2.2.1⟩ hs.gx.ok
theorem C8f{α:Type}{n:Nat}{x:α}:∀{l:List (Nat × α)},l.lookup n=some x→(n,x) ∈ l
 |[],h=>by cases h
 |(m,y)::l,h=>by
  rw[List.lookup_cons]at h
  split at h
  ·rename_i he
   simp at he h;subst he h
   exact List.mem_cons_self ..
  ·exact List.mem_cons_of_mem _ (C8f h)
section
variable{P:Program}{w w':World}{F F':Fr}{ρ:List D}{β β':Nat→Value}
theorem Rd.A3a{k:IntKind}{d:D}{v:Value}(h:Rd P w F (.int k) d v):v=.int k d.toInt:=by cases h;assumption
theorem Rd.A5z{d:D}{v:Value}(h:Rd P w F .bool d v):v=.bool d.toBool:=by cases h;assumption
theorem Rd.B1y{d:D}{v:Value}(h:Rd P w F .str d v):v=.string d.toStr:=by cases h;assumption
theorem Rd.one{t:Ty}{d:D}{v:Value}(h:Rd P w F t d v):v.oneCell'=true:=by
 cases h<;>subst_vars<;>rfl
theorem RC.one{c:C}{v:Value}(h:RC P w F ρ β c v)(hb:∀n,c=.vec n→(β n).oneCell'=true):v.oneCell'=true:=by
 cases c with
 |dat t e=>exact Rd.one h
 |ptr n off=>obtain⟨b,_,rfl⟩:=h;rfl
 |A8y t a i c=>obtain⟨b,o,len,cap,ts,_,_,_,_,rfl⟩:=h;rfl
 |B2c t a c=>obtain⟨b,o,_,rfl⟩:=h;rfl
 |vec n=>have e:v=β n:=h;rw[e];exact hb n rfl
 |A5h n t i c=>obtain⟨b,o,len,cap,ts,_,_,_,_,rfl⟩:=h;rfl
 |win n t i j=>obtain⟨A,len,cap,ts,_,_,_,_,_,_,rfl⟩:=h;rfl
 |lit n len=>obtain⟨b,_,rfl⟩:=h;rfl
 |A7d t a c=>obtain⟨n,b,_,_,_,rfl⟩:=h;rfl
 |B4e=>have e:v=_:=h;rw[e];rfl
 |C3j=>have e:v=_:=h;rw[e];rfl
 |E4t=>have e:v=_:=h;rw[e];rfl
 |fn f=>have e:v=_:=h;rw[e];rfl
 |clo f l=>obtain⟨us,e,_⟩:=h;rw[e];rfl
 |B0j=>exact h
theorem E9y{v:Value}(h:v.oneCell'=true):v.cells=#[v]:=by
 cases v<;>first|rfl|simp[Value.oneCell']at h
theorem RC.mono{c:C}{v:Value}(hf:Le w F w' F')(h:RC P w F ρ β c v):RC P w' F' ρ β c v:=by
 cases c with
 |dat t e=>exact Rd.mono hf h
 |ptr n off=>exact h
 |A8y t a i c=>obtain⟨b,o,len,cap,ts,h1,h2⟩:=h;exact⟨b,o,len,cap,ts,h1.mono hf,h2⟩
 |B2c t a c=>obtain⟨b,o,h1,h2⟩:=h;exact⟨b,o,h1.mono hf,h2⟩
 |A5h n t i c=>exact h
 |win n t i j=>exact h
 |lit n len=>exact h
 |A7d t a c=>obtain⟨n,b,h1,h2,h3,h4⟩:=h;exact⟨n,b,by rw[hf.hc];exact h1,h2,hf.get h3,h4⟩
 |_=>exact h
theorem RCL.mono{cs:List C}{vs:List Value}(hf:Le w F w' F')(h:RCL P w F ρ β cs vs):RCL P w' F' ρ β cs vs:=
 ⟨h.1,fun i c v hc hv=>(h.2 i c v hc hv).mono hf⟩
theorem R1.mono{c:V1}{v:Value}(hf:Le w F w' F')(h:R1 P w F ρ β c v):R1 P w' F' ρ β c v:=by
 cases c with
 |one c=>exact RC.mono hf h
 |agg cs=>obtain⟨vs,e,h⟩:=h;exact⟨vs,e,h.mono hf⟩
theorem RV.mono{c:SV}{v:Value}(hf:Le w F w' F')(h:RV P w F ρ β c v):RV P w' F' ρ β c v:=by
 cases c with
 |one c=>exact RC.mono hf h
 |agg cs=>obtain⟨vs,e,h⟩:=h;exact⟨vs,e,h.mono hf⟩
 |tup l=>obtain⟨vs,e,hl,h⟩:=h;exact⟨vs,e,hl,fun i c u hc hu=>(h i c u hc hu).mono hf⟩
theorem RCL.nil:RCL P w F ρ β [] []:=⟨rfl,fun i c v h=>by simp at h⟩
theorem RCL.cons{c:C}{cs:List C}{v:Value}{vs:List Value}(h:RC P w F ρ β c v)(hl:RCL P w F ρ β cs vs):RCL P w F ρ β (c::cs) (v::vs):=
 ⟨by simp[hl.1],fun i=>by
  cases i with
  |zero=>intro c' v' h1 h2;simp at h1 h2;subst h1 h2;exact h
  |succ i=>intro c' v' h1 h2;simp at h1 h2;exact hl.2 i c' v' h1 h2⟩
theorem RCL.drop{cs:List C}{vs:List Value}(h:RCL P w F ρ β cs vs)(n:Nat):RCL P w F ρ β (cs.drop n) (vs.drop n):=
 ⟨by simp[h.1],fun i c v h1 h2=>by rw[List.getElem?_drop]at h1 h2;exact h.2 _ c v h1 h2⟩
theorem RCL.take{cs:List C}{vs:List Value}(h:RCL P w F ρ β cs vs)(n:Nat):RCL P w F ρ β (cs.take n) (vs.take n):=
 ⟨by simp[h.1],fun i c v h1 h2=>by
  rw[List.getElem?_take]at h1 h2
  split at h1
  ·rename_i hi;rw[if_pos hi]at h2;exact h.2 _ c v h1 h2
  ·cases h1⟩
theorem RCL.set{cs:List C}{vs:List Value}(h:RCL P w F ρ β cs vs)(n:Nat){c:C}{v:Value}(hc:RC P w F ρ β c v):RCL P w F ρ β (cs.set n c) (vs.set n v):=
 ⟨by simp[h.1],fun i c' v' h1 h2=>by
  rw[List.getElem?_set]at h1 h2
  split at h1
  ·rename_i hi
   split at h1
   ·rename_i hl
    have:n<vs.length:=by rw[←h.1];exact hl
    rw[if_pos hi,if_pos this]at h2
    simp at h1 h2;subst h1 h2;exact hc
   ·cases h1
  ·rename_i hi;rw[if_neg hi]at h2;exact h.2 i c' v' h1 h2⟩
theorem C4p{v:Value}{c:C}(h:cst v=some c):RC P w F ρ β c v:=by
 unfold cst at h
 split at h<;>simp at h<;>subst h
 ·exact Rd.int rfl
 ·exact Rd.bool rfl
 ·exact Rd.str rfl
 ·exact Rd.D8m rfl rfl
 ·rfl
 ·rfl
 ·rfl
 ·rfl
theorem B6i:∀{vs:List Value} {cs:List C},D3q vs=some cs→RCL P w F ρ β cs vs
 |[],cs,h=>by simp[D3q]at h;subst h;exact RCL.nil
 |v::vs,cs,h=>by
  simp only[D3q]at h
  split at h
  ·rename_i c cs' h1 h2
   simp at h;subst h
   exact RCL.cons (C4p h1) (B6i h2)
  ·cases h
theorem G0v{v:Value}{c:SV}(h:G5w v=some c):RV P w F ρ β c v:=by
 unfold G5w at h
 split at h
 ·rename_i cs
  cases h1:D3q cs.toList with
  |none=>simp[h1]at h
  |some l=>simp[h1]at h;subst h;exact⟨cs.toList,by simp,B6i h1⟩
 ·cases h1:cst v with
  |none=>simp[h1]at h
  |some l=>simp[h1]at h;subst h;exact C4p h1
theorem E7r{t:Ty}{c:C}{v:Value}(h:RC P w F ρ β c v):RC P w F ρ β (tyC t c) v:=by
 unfold tyC
 split
 ·have e:v=_:=h;exact Rd.B8i rfl e
 ·exact h
theorem C1d:∀{ts:List Ty} {cs:List C} {vs:List Value},RCL P w F ρ β cs vs→RCL P w F ρ β (D7h ts cs) vs
 |[],cs,vs,h=>by cases cs<;>exact h
 |t::ts,[],vs,h=>h
 |t::ts,c::cs,[],h=>by have:=h.1;simp at this
 |t::ts,c::cs,v::vs,h=>RCL.cons (E7r (h.2 0 c v rfl rfl)) (C1d ⟨by have:=h.1;simpa using this,fun i c' v' h1 h2=>h.2 (i+1) c' v' h1 h2⟩)
theorem A6c{t:TypeId}{cs:List C}(h:B2o P t=some cs):∃z,(P.info? t).bind (·.zero)=some z∧RCL P w F ρ β cs z.cells.toList:=by
 unfold B2o at h
 split at h
 ·rename_i z hz
  refine⟨z,hz,?_⟩
  split at h
  ·rename_i cs' h1
   simp at h;subst h
   split
   ·exact C1d (B6i h1)
   ·exact B6i h1
  ·cases h
 ·cases h
theorem C3l(op:BinOp)(k:IntKind)(a b:E):den ρ (D7k op k a b)=.int (arF op k (den ρ a).toInt (den ρ b).toInt):=by unfold D7k;split<;>rfl
theorem A4o(op:BinOp)(a b:E):den ρ (A7x op a b)=.bool (C2n op (den ρ a).toInt (den ρ b).toInt):=by unfold A7x;split<;>rfl
theorem A5k(a:E):(den ρ (mkNot a)).toBool=!(den ρ a).toBool:=by
 unfold mkNot;split
 ·rfl
 ·simp only[den,D.A1b,Bool.not_not];split<;>simp_all
 ·rfl
theorem D1r(a b:E):(den ρ (mkAnd a b)).toBool=((den ρ a).toBool&&(den ρ b).toBool):=by
 unfold mkAnd;split<;>simp[den]
theorem C5h(a b:E):den ρ (E3d a b)=.bool ((den ρ a).toBool == (den ρ b).toBool):=by unfold E3d;split<;>rfl
theorem C5k(c a b:E):den ρ (mkIte c a b)=if(den ρ c).toBool=true then den ρ a else den ρ b:=by
 unfold mkIte;split
 ·simp[den]
 ·simp[den]
 ·rfl
theorem F9m(c a b:E):(den ρ (E0a c a b)).toBool=(if(den ρ c).toBool=true then(den ρ a).toBool else(den ρ b).toBool):=by
 unfold E0a;split
 ·simp only[den,D.A1b];cases (den ρ c).toBool<;>simp
 ·simp only[den,D.A1b];cases (den ρ c).toBool<;>simp
 ·rw[C5k];split<;>rfl
theorem B9j{P:Program}{w:World}{F:Fr}{t:Ty}{c a b:E}{u v:Value}(h1:(den ρ c).toBool=true→Rd P w F t (den ρ a) u)(h2:(den ρ c).toBool=false→Rd P w F t (den ρ b) v):Rd P w F t (den ρ (E0v t c a b)) (if(den ρ c).toBool=true then u else v):=by
 have hgen:Rd P w F t (den ρ (mkIte c a b)) (if(den ρ c).toBool=true then u else v):=by
  rw[C5k]
  split
  ·rename_i h;exact h1 h
  ·rename_i h;exact h2 (by simpa using h)
 cases t<;>try exact hgen
 refine Rd.bool ?_
 show _=Value.bool (den ρ (E0a c a b)).toBool
 rw[F9m]
 split
 ·rename_i h;exact(h1 h).A5z
 ·rename_i h;exact(h2 (by simpa using h)).A5z
theorem A3m(a:E):den ρ (A8k a)=.bool (den ρ a).isNil:=by unfold A8k;split<;>rfl
theorem A7c(f:Nat)(a:E):den ρ (B1r f a)=.bool ((den ρ a).isIf f):=by unfold B1r;split<;>rfl
theorem B9f(a:E):den ρ (B4p a)=(den ρ a).inner:=by unfold B4p;split<;>rfl
theorem F9p(k:IntKind)(a:E):den ρ (F0w k a)=.int (k.wrap (den ρ a).toInt):=by unfold F0w;split<;>rfl
theorem C9x(a:E)(c:Nat):den ρ (B9e a c)=(den ρ a).toL.getD c .nil:=by
 unfold B9e
 split
 ·simp[den]
 ·split<;>simp[den]
 ·rfl
theorem E7k:∀(a:E) (c:Nat),den ρ (A9d a c)=(den ρ a).toL.getD c .nil:=by
 intro a
 induction a with
 |A2n x y _ ih=>intro c;cases c<;>simp[A9d,den,ih]
 |B5c n a k v iha _=>
  intro c
  simp only[A9d]
  split
  ·rename_i h
   obtain⟨h1,h2⟩:=h
   split
   ·rename_i he
    subst he
    simp[den,h1]
   ·rename_i he
    rw[iha]
    simp only[den,D.A0f,List.getD_eq_getElem?_getD]
    rw[List.getElem?_set_ne (by omega),List.getElem?_map,List.getElem?_range h1]
    rfl
  ·rfl
 |_=>intro c;simp[A9d,den]
theorem F4d:∀{a:E} {c:Nat} {v r:E},B6f a c v=some r→den ρ r=.agg ((den ρ a).toL.set c (den ρ v)):=by
 intro a
 induction a with
 |A2n x y _ ih=>
  intro c v r h
  cases c with
  |zero=>simp[B6f]at h;subst h;rfl
  |succ c=>
   simp only[B6f]at h
   cases hq:B6f y c v with
   |none=>simp[hq]at h
   |some q=>
    simp[hq]at h;subst h
    have:=ih hq
    simp[den,this]
 |_=>intro c v r h;cases c<;>simp[B6f]at h
theorem D8b(n:Nat)(a:E)(c:Nat)(v:E)(hn:(den ρ a).toL.length=n):den ρ (B8b n a c v)=.agg ((den ρ a).toL.set c (den ρ v)):=by
 have hset:∀b:E,(den ρ b).toL.length=n→den ρ (.B5c n b c v)=.agg ((den ρ b).toL.set c (den ρ v)):=by
  intro b hb
  simp only[den]
  congr 2
  apply List.ext_getElem?
  intro j
  rw[List.getElem?_map]
  rcases Nat.lt_or_ge j n with hj|hj
  ·rw[List.getElem?_range hj]
   simp only[Option.map_some,List.getD_eq_getElem?_getD]
   rw[List.getElem?_eq_getElem (by omega)];rfl
  ·rw[List.getElem?_eq_none (by simpa using hj),List.getElem?_eq_none (by omega)];rfl
 unfold B8b
 split
 ·rename_i r hr
  exact F4d hr
 ·split
  ·rename_i m b k u _
   split
   ·rename_i hc
    obtain⟨rfl,rfl⟩:=hc
    simp only[den,D.A0f,List.set_set]
   ·exact hset _ hn
  ·exact hset _ hn
theorem G7l:∀{h:E} {n:Nat} {x:E},D7g h n=some x→(den ρ h).toL[n]?=some (den ρ x):=by
 intro h
 induction h with
 |A2n a b _ ih=>
  intro n x hx
  cases n with
  |zero=>simp[D7g]at hx;subst hx;simp[den]
  |succ n=>simp only[D7g]at hx;simpa[den]using ih hx
 |_=>intro n x hx;cases n<;>simp[D7g]at hx
theorem C5m{a:E}{n:Nat}(h:E4n a=some n):a=.int (n:Nat):=by
 unfold E4n at h;split at h
 ·simp at h;subst h;rfl
 ·cases h
theorem E0g(h a:E):den ρ (getLit h a)=(den ρ h).toL.getD (den ρ a).toInt.toNat .nil:=by
 unfold getLit
 split
 ·rename_i n hn
  have:=C5m hn
  subst this
  cases hg:D7g h n with
  |none=>simp[den]
  |some x=>have:=G7l (ρ:=ρ) hg;simp[den,this]
 ·simp[den]
theorem G5e{g:E}:∀{h:E},F1m g h=true→(den ρ g).toL.length<(den ρ h).toL.length:=by
 intro h
 induction h with
 |app p q ihp _=>
  intro hh
  unfold F1m at hh
  split at hh
  ·rename_i p' x he
   injection he with e1 e2
   subst e1 e2
   simp only[Bool.or_eq_true,decide_eq_true_eq]at hh
   simp only[den,D.A0f,List.length_append,List.length_cons,List.length_nil]
   rcases hh with rfl|hh
   ·omega
   ·have:=ihp hh;omega
  ·cases hh
 |_=>intro hh;simp[F1m]at hh
theorem C5f:∀(h a:E),(den ρ a).toInt.toNat<(den ρ h).toL.length→den ρ (mkGet h a)=(den ρ h).toL.getD (den ρ a).toInt.toNat .nil:=by
 intro h
 induction h with
 |set h b x ihh _ _=>
  intro a hl
  simp only[mkGet]
  have hl':(den ρ a).toInt.toNat<(den ρ h).toL.length:=by simpa[den]using hl
  split
  ·rename_i e
   subst e
   simp[den,hl']
  ·split
   ·rename_i m n hm hn
    split
    ·simp[den]
    ·rename_i hne
     rw[ihh a hl']
     have h1:=C5m hm
     have h2:=C5m hn
     subst h1 h2
     simp only[den,D.A0f,List.getD_eq_getElem?_getD,D.toInt_int,Int.toNat_natCast]
     rw[List.getElem?_set_ne (fun e=>hne e.symm)]
   ·simp[den]
 |app h q ihh _=>
  intro a hl
  have hgen:∀a,den ρ (getLit (.app h q) a)=(den ρ (.app h q)).toL.getD (den ρ a).toInt.toNat .nil:=fun a=>E0g _ _
  cases q with
  |A2n x y=>
   cases y with
   |A4d=>
    simp only[mkGet]
    split
    ·rename_i e
     subst e
     simp[den]
    ·split
     ·rename_i g _
      split
      ·rename_i hp
       have hlt:=G5e (ρ:=ρ) hp
       rw[ihh (.len g) (by simpa[den]using hlt)]
       simp only[den,D.A0f,D.toInt_int,Int.toNat_natCast,List.getD_eq_getElem?_getD]
       rw[List.getElem?_append_left hlt]
      ·simp[den]
     ·simp[den]
   |_=>exact hgen a
  |_=>exact hgen a
 |_=>intro a hl;simp only[mkGet];exact E0g _ _
theorem D3j(h a x:E):den ρ (mkSet h a x)=.agg ((den ρ h).toL.set (den ρ a).toInt.toNat (den ρ x)):=by
 unfold mkSet
 split
 ·rename_i g b y
  split
  ·rename_i e;subst e;simp[den]
  ·rfl
 ·rename_i g y
  split
  ·rename_i e;subst e
   simp[den]
  ·rfl
 ·split
  ·rename_i n hn
   have:=C5m hn
   subst this
   cases hg:B6f h n x with
   |none=>simp[den]
   |some r=>simpa[den]using F4d (ρ:=ρ) hg
  ·rfl
theorem G2t:∀{h x r:E},C4t h x=some r→den ρ r=.agg ((den ρ h).toL++[den ρ x]):=by
 intro h
 induction h with
 |A4d=>intro x r hr;simp[C4t]at hr;subst hr;rfl
 |A2n a b _ ih=>
  intro x r hr
  simp only[C4t]at hr
  cases hq:C4t b x with
  |none=>simp[hq]at hr
  |some q=>simp[hq]at hr;subst hr;simp[den,ih hq]
 |_=>intro x r hr;simp[C4t]at hr
theorem D9w(h x:E):den ρ (B7m h x)=.agg ((den ρ h).toL++[den ρ x]):=by
 unfold B7m
 cases hq:C4t h x with
 |none=>simp[den]
 |some r=>simpa using G2t (ρ:=ρ) hq
theorem F8r:∀{h:E} {n:Nat},C2w h=some n→(den ρ h).toL.length=n:=by
 intro h
 induction h with
 |A4d=>intro n hn;simp[C2w]at hn;subst hn;rfl
 |A2n a b _ ih=>
  intro n hn
  simp only[C2w]at hn
  cases hq:C2w b with
  |none=>simp[hq]at hn
  |some q=>simp[hq]at hn;subst hn;simp[den,ih hq]
 |_=>intro n hn;simp[C2w]at hn
theorem D4b(h:E):den ρ (D5s h)=.int ((den ρ h).toL.length:Nat):=by
 unfold D5s
 split
 ·rename_i n hn;rw[F8r hn];rfl
 ·rfl
theorem C1a(n:Nat)(el:E)(c:Nat):den ρ (B9k n el c)=cellOf n (den ρ el) c:=by
 unfold B9k cellOf;split<;>rfl
end
end Go.Proofs.YtglhnofjggpdjaaGreat.Eng
namespace Go.Proofs.YtglhnofjggpdjaaGreat.Eng
set_option linter.unusedVariables false
set_option linter.unusedSimpArgs false
section
variable{P:Program}{w:World}{F:Fr}{ρ:List D}{β:Nat→Value}
theorem A2r{t:TypeId}{n:Nat}(h:A3e P t=some n):(sizeOf t).run P w=.ok n w:=by
 unfold A3e at h
 cases hi:P.info? t with
 |none=>simp[hi]at h
 |some i=>simp[hi]at h;subst h;simp[sizeOf,typeInfo,program,hi,Sem.run]
theorem A0v{t:TypeId}{d:TypeDesc}(h:P.underlying t=some d):(underlying t).run P w=.ok d w:=by
 simp[underlying,program,Sem.run,h]
theorem B1e{t:TypeId}{b:Bool}(h:A1d P t=some b):(isAgg t).run P w=.ok b w:=by
 unfold A1d at h
 unfold isAgg
 cases hu:P.underlying t with
 |none=>simp[hu]at h
 |some d=>
  simp only[Sem.run_bind,A0v hu,Result.andThen_ok]
  cases d<;>simp[hu]at h<;>subst h<;>rfl
theorem C8y{t:TypeId}{z:Value}(h:(P.info? t).bind (·.zero)=some z):(zeroValue t).run P w=.ok z w:=by
 cases hi:P.info? t with
 |none=>simp[hi]at h
 |some i=>simp[hi]at h;simp[zeroValue,typeInfo,program,hi,h,Sem.run]
theorem B5u{t:TypeId}{cs:List C}{vs:List Value}{off:Nat}{sv:SV}(h:A5m P t cs off=some sv)(hl:RCL P w F ρ β cs vs){b o:Nat}
  (hc:∀j v,vs[j]?=some v→w.cell? ⟨b,o+j,none⟩=some v):∃v,(loadVar t ⟨b,o+off,none⟩).run P w=.ok v w∧RV P w F ρ β sv v:=by
 unfold A5m at h
 split at h
 ·rename_i n ha hn
  split at h
  ·rename_i hle
   simp at h;subst h
   refine⟨.agg ((vs.drop off).take n).toArray,?_,_,rfl,(hl.drop off).take n⟩
   have hlen:((vs.drop off).take n).length=n:=by simp;have:=hl.1;omega
   have:=run_loadCells_list (P:=P) w ⟨b,o+off,none⟩ ((vs.drop off).take n) (fun j v hv=>by
    rw[List.getElem?_take]at hv
    split at hv
    ·rw[List.getElem?_drop]at hv
     rw[A4n,Nat.add_assoc]
     exact hc _ _ hv
    ·cases hv)
   rw[hlen]at this
   simp[loadVar,B1e ha,A2r hn,this]
  ·cases h
 ·rename_i ha hn
  cases hi:cs[off]? with
  |none=>simp[hi]at h
  |some c=>
   simp[hi]at h;subst h
   have hlt:off<vs.length:=by rw[←hl.1];exact(List.getElem?_eq_some_iff.1 hi).1
   have hv:vs[off]?=some vs[off]:=List.getElem?_eq_getElem hlt
   exact⟨vs[off],by simp[loadVar,B1e ha,load,Sem.run,hc off _ hv],hl.2 off c _ hi hv⟩
 ·cases h
theorem G2f{t:TypeId}{cs:List C}{vs:List Value}{off:Nat}{sv:SV}(h:A5m P t cs off=some sv)(hl:RCL P w F ρ β cs vs):
  ∃v,(part t vs.toArray off).run P w=.ok v w∧RV P w F ρ β sv v:=by
 unfold A5m at h
 split at h
 ·rename_i n ha hn
  split at h
  ·rename_i hle
   simp at h;subst h
   refine⟨.agg ((vs.drop off).take n).toArray,?_,_,rfl,(hl.drop off).take n⟩
   simp[part,B1e ha,A2r hn,List.take_drop,List.extract_eq_take_drop]
   try omega
  ·cases h
 ·rename_i ha hn
  cases hi:cs[off]? with
  |none=>simp[hi]at h
  |some c=>
   simp[hi]at h;subst h
   have hlt:off<vs.length:=by rw[←hl.1];exact(List.getElem?_eq_some_iff.1 hi).1
   have hv:vs[off]?=some vs[off]:=List.getElem?_eq_getElem hlt
   exact⟨vs[off],by simp[part,B1e ha,hv],hl.2 off c _ hi hv⟩
 ·cases h
theorem A6u{α:Type}{f:α→R}{x:Option α}{r:R}(h:x.map f=some r):∃y,x=some y∧f y=r:=by simpa[Option.map_eq_some_iff]using h
theorem B0r{t:Ty}{c:C}{e:E}(h:mat t c=some e){v:Value}(hv:RC P w F ρ β c v):Rd P w F t (den ρ e) v:=by
 cases c<;>simp only[mat]at h<;>try(cases h;done)
 ·split at h
  ·rename_i he;simp at h;subst h;rw[he];exact hv
  ·cases h
 ·rename_i e a c
  split at h
  ·rename_i e'
   split at h
   ·rename_i hc
    obtain⟨rfl,rfl⟩:=hc
    simp at h;subst h
    obtain⟨n,b,h1,h2,h3,h4⟩:=hv
    exact Rd.B7r h1 h2 h3 h4
   ·cases h
  ·cases h
 ·split at h
  ·simp at h;subst h;exact Rd.snil rfl hv
  ·cases h
 ·split at h
  ·simp at h;subst h;exact Rd.B8i rfl hv
  ·cases h
 ·split at h
  ·simp at h;subst h;exact Rd.G0h rfl hv
  ·cases h
 ·split at h
  ·simp at h;subst h
   have e:_=_:=hv
   exact Rd.fn (l:=[]) (vs:=[]) rfl e rfl (fun c x u h=>by simp at h)
  ·cases h
theorem F1j(ρ:List D):∀l,(den ρ (F8l l)).toL=l.map D.str
 |[]=>rfl
 |s::l=>congrArg (D.str s::·) (F1j ρ l)
theorem A3b{X:Cx}{st:St}{a:Act}{β:Nat→Value}(hs:Sat X ρ st F β a w){x:Operand}{sv:SV}(h:opV st x=some sv):RV X.P w F ρ β sv (a.eval x):=by
 cases x with
 |tmp t=>
  obtain⟨v,hv,hr⟩:=hs.at h
  simpa[Act.eval,hv]using hr
 |const v=>exact G0v h
 |global g=>
  unfold opV at h
  simp only at h
  split at h
  ·rename_i t s l hl
   ·simp only[Option.some.injEq]at h;subst h
    rw[hs.cf.1]at hl
    have ht:=hs.gx.gt g t (s::l) hl
    obtain⟨q1,q2⟩:=X.G.glo hs.gl g t (s::l) hl
    have hd:(den ρ (F8l (s::l))).toL=(s::l).map D.str:=F1j ρ (s::l)
    refine⟨g,0,(s::l).length,(s::l).length,[.str],?_,ht,by simp[den],by rw[hd];simp[den],by simp[Act.eval,den]⟩
    refine Rd.slice (g:=fun i c=>.string ((s::l).getD i ByteArray.empty)) rfl ht (by rw[hd];simp) (Nat.le_refl _) q1 ?_ ?_
    ·intro i c hi hc
     rw[hd,List.length_map]at hi
     have hc0:c=0:=by simpa using hc
     subst hc0
     have:=q2 i _ (List.getElem?_eq_getElem hi)
     simpa[List.getD,List.getElem?_eq_getElem hi]using this
    ·intro i c x u hx hu
     match c,hu with
     |0,hu=>
      simp at hu;subst hu
      rw[hd,List.getElem?_map]at hx
      cases hli:(s::l)[i]? with
      |none=>rw[hli]at hx;cases hx
      |some y=>
       rw[hli]at hx
       simp at hx;subst hx
       exact Rd.str (by simp[List.getD,hli,cellOf,D.toStr])
  ·cases h
 |func f=>simp[opV]at h;subst h;rfl
theorem A0d{X:Cx}{st:St}{a:Act}{β:Nat→Value}(hs:Sat X ρ st F β a w){x:Operand}{c:C}(h:opC st x=some c):RC X.P w F ρ β c (a.eval x):=by
 unfold opC at h
 split at h
 ·rename_i c' hc
  simp at h;subst h
  exact A3b hs hc
 ·cases h
def A7j(P:Program)(w:World)(F:Fr)(ρ:List D)(β:Nat→Value)(nn:Nat)(sv:SV)(nb:Option Box)(r:Result Next):Prop:=
 match nb with
 |none=>∃v,r=.ok (.value v) w∧RV P w F ρ β sv v
 |some (.box t cs)=>∃vs:List Value,r=.ok (.value (.pointer (some ⟨w.heap.size,0,none⟩))) (w.alloc (.cells vs.toArray t))∧sv=.one (.ptr nn 0)∧RCL P w F ρ β cs vs
 |some (.view t x c)=>∃v,r=.ok (.value v) w∧sv=.one (.vec nn)∧A0y P w F ρ β (.view t x c) v∧v.oneCell'=true
 |some (.vec _ _)=>False
 |some (.map _ _)=>False
variable{X:Cx}{st:St}{a:Act}
theorem C1k{st:St}{e:E}{b:Bool}(h:known st e=some b)(hs:Sat X ρ st F β a w):(den ρ e).toBool=b:=by
 unfold known at h
 split at h
 ·simp at h;subst h;rfl
 ·cases hf:st.fs.find? (fun p=>p.1 == e)with
  |none=>simp[hf]at h
  |some p=>
   simp[hf]at h;subst h
   have hm:=List.mem_of_find?_eq_some hf
   have he:=List.find?_some hf
   simp at he;subst he
   exact hs.fs _ _ hm
theorem C4r(hs:Sat X ρ st F β a w){x:Operand}{es:List E}{sv:SV}{nb:Option Box}(h:(opV st x).map (fun v=>(([]:List E),v,(none:Option Box)))=some (es,sv,nb))(nn:Nat):
  A7j X.P w F ρ β nn sv nb (.ok (.value (a.eval x)) w):=by
 cases hv:opV st x with
 |none=>simp[hv]at h
 |some v=>simp[hv]at h;obtain⟨rfl,rfl,rfl⟩:=h;exact⟨_,rfl,A3b hs hv⟩
theorem G2k(hs:Sat X ρ st F β a w){o:Oper}{c x y:Operand}(ho:o.op=.pick c x y){es:List E}{sv:SV}{nb:Option Box}(h:F3g st c x y=some (es,sv,nb))(nn:Nat):
  A7j X.P w F ρ β nn sv nb ((execOp a.eval o).run X.P w):=by
 unfold F3g at h
 split at h
 ·rename_i e hc
  have hcv:=(A0d hs hc).A5z
  split at h
  ·rename_i hk
   have:=C1k hk hs
   have hm:=C4r hs h nn
   simp only[execOp,ho,hcv,this,asBool,Sem.run_bind,Sem.run_pure,Result.andThen_ok,if_true]at hm⊢
   exact hm
  ·rename_i hk
   have:=C1k hk hs
   have hm:=C4r hs h nn
   simp only[execOp,ho,hcv,this,asBool,Sem.run_bind,Sem.run_pure,Result.andThen_ok,Bool.false_eq_true,if_false]at hm⊢
   exact hm
  ·split at h
   ·rename_i t x' cy hx hy
    obtain⟨y',hm,e'⟩:=A6u h
    simp at e';obtain⟨rfl,rfl,rfl⟩:=e'
    have h1:=A0d hs hx
    have h2:=B0r hm (A0d hs hy)
    refine⟨if(den ρ e).toBool=true then a.eval x else a.eval y,?_,?_⟩
    ·simp only[execOp,ho,hcv,asBool,Sem.run_bind,Sem.run_pure,Result.andThen_ok]
    ·exact B9j (fun _=>h1) (fun _=>h2)
   ·rename_i cx t y' hne hx hy
    obtain⟨x',hm,e'⟩:=A6u h
    simp at e';obtain⟨rfl,rfl,rfl⟩:=e'
    have h1:=B0r hm (A0d hs hx)
    have h2:=A0d hs hy
    refine⟨if(den ρ e).toBool=true then a.eval x else a.eval y,?_,?_⟩
    ·simp only[execOp,ho,hcv,asBool,Sem.run_bind,Sem.run_pure,Result.andThen_ok]
    ·exact B9j (fun _=>h1) (fun _=>h2)
   ·cases h
 ·cases h
theorem D9l(hs:Sat X ρ st F β a w){o:Oper}{t:TypeId}(ho:o.op=.alloc t){es:List E}{sv:SV}{nb:Option Box}(h:(B2o X.P t).map (fun cs=>(([]:List E),SV.one (.ptr st.nn 0),some (Box.box t cs)))=some (es,sv,nb)):
  A7j X.P w F ρ β st.nn sv nb ((execOp a.eval o).run X.P w):=by
 cases hz:B2o X.P t with
 |none=>simp[hz]at h
 |some cs=>
  simp[hz]at h;obtain⟨rfl,rfl,rfl⟩:=h
  obtain⟨z,hz1,hz2⟩:=A6c (w:=w) (F:=F) (ρ:=ρ) (β:=β) hz
  refine⟨z.cells.toList,?_,rfl,hz2⟩
  simp only[execOp,ho,Instr.alloc,Sem.run_bind,C8y hz1,Result.andThen_ok]
  rfl
theorem RV.cells{sv:SV}{v:Value}{cs:List C}(h:RV P w F ρ β sv v)(hc:sv.cells=some cs)(hb:∀n,(β n).oneCell'=true):∃vs:List Value,v.cells=vs.toArray∧RCL P w F ρ β cs vs:=by
 cases sv with
 |one c=>
  simp[SV.cells]at hc;subst hc
  exact⟨[v],by simpa using E9y (RC.one h (fun n _=>hb n)),RCL.cons h RCL.nil⟩
 |agg cs'=>
  simp[SV.cells]at hc;subst hc
  obtain⟨vs,rfl,hl⟩:=h
  exact⟨vs,rfl,hl⟩
 |tup l=>cases hc
theorem D7q(hs:Sat X ρ st F β a w)(hb:∀n,(β n).oneCell'=true){o:Oper}{t:TypeId}{x:Operand}(ho:o.op=.box t x){es:List E}{sv:SV}{nb:Option Box}
  (h:(match opV st x with|some v=>(match v.cells with|some cs=>some (([]:List E),SV.one (.ptr st.nn 0),some (Box.box t cs))|none=>none)|none=>none)=some (es,sv,nb)):
  A7j X.P w F ρ β st.nn sv nb ((execOp a.eval o).run X.P w):=by
 split at h
 ·rename_i v hv
  split at h
  ·rename_i cs hcs
   simp at h;obtain⟨rfl,rfl,rfl⟩:=h
   obtain⟨vs,e,hl⟩:=(A3b hs hv).cells hcs hb
   refine⟨vs,?_,rfl,hl⟩
   simp only[execOp,ho,Instr.box,Sem.run_bind,newVar,newRow,newObj,e]
   rfl
  ·cases h
 ·cases h
theorem F6i{e:TypeId}{d:D}{b o len cap:Nat}{ts:List Ty}(h:Rd P w F (.slice e) d (.slice (some ⟨b,o,none⟩) len cap))(ht:A0n P e=some ts){i:Nat}(hi:i<d.toL.length):
  F b∧∃g:Nat→Value,(∀c,c<ts.length→w.cell? ⟨b,o+i*ts.length+c,none⟩=some (g c))∧∀c t,ts[c]?=some t→Rd P w F t (cellOf ts.length (d.toL.getD i .nil) c) (g c):=by
 cases h with
 |snil e1 e2=>rw[e1]at hi;simp at hi
 |slice e1 e2 e3 e0 e4 e5 e6=>
  rename_i ts' g
  cases e1
  rw[e2]at ht;cases ht
  refine⟨e4,fun c=>g i c,fun c hc=>e5 i c hi hc,fun c t hc=>e6 i c _ t ?_ hc⟩
  rw[List.getElem?_eq_getElem hi,List.getD_eq_getElem?_getD,List.getElem?_eq_getElem hi];rfl
theorem G4w{e:TypeId}{y:E}{b o len cap:Nat}{ts:List Ty}{v:Value}(h:A0y P w F ρ β (.vec e y) v)(hv:v=.slice (some ⟨b,o,none⟩) len cap)(hnz:0<len)(ht:A0n P e=some ts):len=(den ρ y).toL.length∧len≤cap∧
  ∃xs:List Value,(∃cur,w.heap[b]?=some (.cells cur e (0,0))∧(cur.toList.drop o).take (len*ts.length)=xs∧cur.size=o+cap*ts.length)∧xs.length=len*ts.length∧∀i,i<len→(∀c,c<ts.length→w.cell? ⟨b,o+i*ts.length+c,none⟩=some (xs.getD (i*ts.length+c) undef))∧
   ∀c t,ts[c]?=some t→Rd P w F t (cellOf ts.length ((den ρ y).toL.getD i .nil) c) (xs.getD (i*ts.length+c) undef):=by
 subst hv
 obtain⟨ts',xs,hts,⟨hl,hr⟩,hx⟩:=h
 rw[ht]at hts;cases hts
 rcases hr with⟨⟨A,hr⟩,hn⟩|⟨g,o',cap',cur,e1,e0,hg,hle,_,hsz,htk⟩
 ·exact absurd hr (by rintro h;injection h with h1 h2 h3;omega)
 ·injection e1 with e1 e2 e3
  injection e1 with e1
  injection e1 with e4 e5
  subst e2 e3 e4 e5
  refine⟨rfl,hle,xs,⟨cur,hg,htk,hsz⟩,hl,fun i hi=>?_⟩
  have hlt:∀c,c<ts.length→i*ts.length+c<(den ρ y).toL.length*ts.length:=by
   intro c hc
   have:(i+1)*ts.length≤(den ρ y).toL.length*ts.length:=Nat.mul_le_mul_right _ hi
   rw[Nat.add_mul,Nat.one_mul]at this
   omega
  refine⟨fun c hc=>?_,fun c t hc=>?_⟩
  ·have hl1:=hlt c hc
   have hcur:cur.toList[o+i*ts.length+c]?=xs[i*ts.length+c]?:=by
    rw[←htk,List.getElem?_take,if_pos hl1,List.getElem?_drop,Nat.add_assoc]
   have hxs:i*ts.length+c<xs.length:=by omega
   rw[List.getElem?_eq_getElem hxs,Array.getElem?_toList]at hcur
   simp only[World.cell?,hg]
   simp[hcur,List.getD_eq_getElem?_getD,List.getElem?_eq_getElem hxs]
  ·have hl1:=hlt c (List.getElem?_eq_some_iff.1 hc).1
   have hy:(den ρ y).toL[i]?=some ((den ρ y).toL.getD i .nil):=by rw[List.getElem?_eq_getElem hi,List.getD_eq_getElem?_getD,List.getElem?_eq_getElem hi];rfl
   obtain⟨u,hu1,hu2⟩:=hx i c _ t hy hc
   simp only[List.getD_eq_getElem?_getD (l:=xs),hu1,Option.getD_some]
   exact hu2
theorem C4v{c:C}{es:List E}{t:TypeId}{x:E}{k:Nat}{v:Value}(h:asH st c=some (es,t,x,k))(hc:F.hc=st.cf.hc)(hes:∀e ∈ es,(den ρ e).toBool=true)(hr:RC P w F ρ β c v):RC P w F ρ β (.A7d t x k) v:=by
 unfold asH at h
 split at h
 ·cases h;exact hr
 ·rename_i e x'
  split at h
  ·rename_i hh
   cases h
   have hn:=hes _ (List.mem_cons_self ..)
   rw[A5k,A3m]at hn
   cases hr with
   |B8i e1 e2=>rw[e1]at hn;simp at hn
   |B7r e1 e2 e3 e4=>exact⟨_,_,e1,e2,e3,e4⟩
   |ptr e0=>rw[hc]at e0;rw[hh]at e0;cases e0
  ·cases h
 ·cases h
theorem B3t.one{P:Program}{w:World}{F:Fr}{S:List Nat}{t:OTy}{d:D}{v:Value}(h:C0p P w F S t d v):v.oneCell'=true:=by
 cases h with
 |dat h=>exact h.one
 |gone h=>exact h
 |row h1 h2 h3=>
  obtain⟨_,⟨⟨A,h⟩,_⟩|⟨g,o,cap,cur,h,_⟩⟩:=h2<;>rw[h]<;>rfl
theorem D4d{ex:List (Nat × TypeId × E)}{n c:Nat}(h:F1x ex c=false):(exN ρ ex).contains (n,c)=false:=by
 unfold F1x at h
 unfold exN
 cases hq:(ex.map fun x=>((den ρ x.2.2).toInt.toNat,x.1)).contains (n,c)with
 |false=>rfl
 |true=>
  simp only[List.contains_eq_mem,List.mem_map,decide_eq_true_eq]at hq
  obtain⟨x,hx,he⟩:=hq
  have:ex.any (fun x=>x.1 == c)=true:=List.any_eq_true.2 ⟨x,hx,by cases he;simp⟩
  rw[this]at h;cases h
theorem Sat.obj(hs:Sat X ρ st F β a w){m:Bool}{h x:E}(hh:st.hp=some (m,h)){n b:Nat}{t:TypeId}(hx:den ρ x=.int (n:Nat))(hn:F.γ[n]?=some (b,t)){os:List OTy}(hos:D0k X.P st.cf.ob t=some os):
  ∃vs:List Value,w.heap[b]?=some (.cells vs.toArray t (0,0))∧vs.length=os.length∧n<(den ρ h).toL.length∧(den ρ (mkGet h x)).toL.length=os.length∧∀i o u,os[i]?=some o→vs[i]?=some u→u.oneCell'=true∧((∃z e,o=.row z e)∧(exN ρ st.ex).contains (n,i)=true∨∃S,C0p X.P w F S o (den ρ (A9d (mkGet h x) i)) u):=by
 obtain⟨φ,q1,q2⟩:=hs.hg.hp m h hh
 obtain⟨vs,os',g,h1,h2,h3,h4,h5,h6,h7⟩:=q1.obj n b t hn
 rw[hos]at h2;cases h2
 have hlt:n<(den ρ h).toL.length:=by rw[q1.len];exact(List.getElem?_eq_some_iff.1 hn).1
 have hg:den ρ (mkGet h x)=(den ρ h).toL.getD n .nil:=by
  have:=C5f (ρ:=ρ) h x (by rw[hx];simpa using hlt)
  rw[this,hx];simp
 refine⟨vs,h1,h4,hlt,by rw[hg];exact h3,fun i o u a1 a2=>?_⟩
 have hi:i<((den ρ h).toL.getD n .nil).toL.length:=by rw[h3];exact(List.getElem?_eq_some_iff.1 a1).1
 have hc:((den ρ h).toL.getD n .nil).toL[i]?=some (den ρ (A9d (mkGet h x) i)):=by
  rw[E7k,hg,List.getElem?_eq_getElem hi,List.getD_eq_getElem?_getD (l:=((den ρ h).toL.getD n .nil).toL),List.getElem?_eq_getElem hi];rfl
 have:=h5 i o _ u a1 hc a2
 split at this
 ·rename_i he;exact⟨this.1,.inl ⟨this.2.2,he⟩⟩
 ·exact⟨B3t.one this,.inr ⟨_,this⟩⟩
theorem A5v(hs:Sat X ρ st F β a w){m:Nat}{e:TypeId}{y:E}(h:rowOf X.P st m=some (e,y)):A0y X.P w F ρ β (.vec e y) (β m):=by
 unfold rowOf at h
 split at h
 ·rename_i e' y' hb
  cases h
  exact hs.bx _ _ hb
 ·rename_i t x j hb
  split at h
  ·rename_i m' hh os hhp hos
   split at h
   ·rename_i e' hj
    split at h
    ·cases h
    ·rename_i hex
     cases h
     obtain⟨n,b,vs,v1,v2,v3,v4⟩:=hs.bx _ _ hb
     obtain⟨vs',o1,o2,_,_,o3⟩:=hs.obj hhp v1 v2 hos
     rw[v3]at o1
     have:vs=vs':=by simpa using o1
     subst this
     rcases(o3 j _ _ hj v4).2 with⟨_,hc⟩|⟨S,hc⟩
     ·rw[D4d (by simpa using hex)]at hc;cases hc
     ·cases hc with
      |row h1 h2 h3=>exact⟨_,_,h1,h2,h3⟩
   ·cases h
  ·cases h
 ·cases h
theorem F8x(hs:Sat X ρ st F β a w){o:Oper}{t:TypeId}{x:Operand}(ho:o.op=.load t x){es0 es:List E}{tt:TypeId}{y:E}{c:Nat}{sv:SV}{nb:Option Box}(h:D4w X.P st t es0 tt y c=some (es,sv,nb))(hx:RC X.P w F ρ β (.A7d tt y c) (a.eval x)):
  A7j X.P w F ρ β st.nn sv nb ((execOp a.eval o).run X.P w):=by
 unfold D4w at h
 obtain⟨n,b,x1,x2,x3,x4⟩:=hx
 split at h
 ·rename_i m hh os hhp hos
  obtain⟨vs,o1,o2,_,_,o3⟩:=hs.obj hhp x2 x3 hos
  have hcell:∀j v,vs[j]?=some v→w.cell? ⟨b,j,none⟩=some v:=fun j v hj=>by simp[World.cell?,o1,hj]
  split at h
  ·rename_i e e' hj hu hsz
   split at h
   ·rename_i hc
    cases h
    have hlt:c<vs.length:=by rw[o2];exact(List.getElem?_eq_some_iff.1 hj).1
    have hv:vs[c]?=some vs[c]:=List.getElem?_eq_getElem hlt
    refine⟨vs[c],?_,rfl,⟨n,b,vs,x2,x3,o1,hv⟩,(o3 c _ _ hj hv).1⟩
    have ha:A1d X.P t=some false:=by unfold A1d;rw[hu]
    simp[execOp,ho,Instr.loadAt,x4,Instr.sureAddr,loadVar,B1e ha,load,Sem.run,hcell c _ hv]
   ·cases h
  ·cases h
  ·obtain⟨sv',hp,e⟩:=A6u h
   cases e
   have hl:RCL X.P w F ρ β (C9z hh os y) vs:=by
    refine⟨by simp[C9z,o2],fun j c' v hc hv=>?_⟩
    unfold C9z at hc
    rw[List.getElem?_map,List.getElem?_zipIdx]at hc
    cases ht:os[j]? with
    |none=>simp[ht]at hc
    |some oj=>
     simp[ht]at hc
     obtain⟨q1,q2⟩:=o3 j oj v ht hv
     cases oj with
     |row z e=>subst hc;exact q1
     |dat u=>
      subst hc
      rcases q2 with⟨⟨z,e,he⟩,_⟩|⟨S,hc⟩
      ·cases he
      ·cases hc with
       |dat h=>exact h
   obtain⟨v,hv1,hv2⟩:=B5u hp hl (b:=b) (o:=0) (fun j v hj=>by rw[Nat.zero_add];exact hcell j v hj)
   rw[Nat.zero_add]at hv1
   exact⟨v,by simp[execOp,ho,Instr.loadAt,x4,Instr.sureAddr,hv1],hv2⟩
 ·cases h
theorem G1u{e:TypeId}{la:E}{v:Value}(hr:Rd P w F (.ptr e) (den ρ la) v)(hn:(den ρ (mkNot (A8k la))).toBool=true)(hcl:F.hc.contains e=false):∃b o,v=.pointer (some ⟨b,o,none⟩):=by
 rw[A5k,A3m]at hn
 cases hr with
 |B8i e1 e2=>rw[e1]at hn;simp at hn
 |B7r e0 e1 e2 e3=>rw[hcl]at e0;cases e0
 |ptr e0 e1 e2 e3 e4 e5 e6 e7=>exact⟨_,_,e2⟩
theorem E6l(hs:Sat X ρ st F β a w){tt:TypeId}{la:E}{c:Nat}{ts:List Ty}{t:TypeId}{sv':SV}{b o':Nat}(hts:A0n X.P tt=some ts)(hcl:¬st.cf.hc.contains tt=true)(hp:A5m X.P t (ts.zipIdx.map fun(u,j)=>C.dat u (B9e la j)) c=some sv')(h1:Rd X.P w F (.ptr tt) (den ρ la) (.pointer (some ⟨b,o',none⟩))):
  ∃v,(loadVar t ⟨b,o'+c,none⟩).run X.P w=.ok v w∧RV X.P w F ρ β sv' v:=by
 cases h1 with
 |B8i e1 e2=>cases e2
 |B7r e0 e1 e2 e3=>rw[hs.cf.2]at e0;exact absurd e0 hcl
 |ptr e0 e1 e2 e3 e4 e5 e6 e7=>
  rename_i l ts' g
  cases e2
  rw[hts]at e3;cases e3
  obtain⟨v,hv1,hv2⟩:=B5u hp (w:=w) (F:=F) (ρ:=ρ) (β:=β) (vs:=(List.range ts.length).map g) ⟨by simp,fun j c' v hc hv=>by
   rw[List.getElem?_map,List.getElem?_zipIdx]at hc
   rw[List.getElem?_map]at hv
   cases ht:ts[j]? with
   |none=>simp[ht]at hc
   |some tj=>
    have hlt:=(List.getElem?_eq_some_iff.1 ht).1
    simp[ht]at hc
    simp[List.getElem?_range hlt]at hv
    subst hc hv
    show Rd _ _ _ _ (den ρ (B9e la j)) _
    have hlt':j<l.length:=by omega
    have hlj:l[j]?=some l[j]:=List.getElem?_eq_getElem hlt'
    rw[C9x,e1]
    simp only[D.A0f,List.getD_eq_getElem?_getD,hlj,Option.getD_some]
    exact e7 j _ tj hlj ht⟩ (b:=b) (o:=o') (fun j v hj=>by
   rw[List.getElem?_map]at hj
   cases hr:(List.range ts.length)[j]? with
   |none=>simp[hr]at hj
   |some k=>
    have hlt:=(List.getElem?_eq_some_iff.1 hr).1
    simp at hlt
    rw[List.getElem?_range hlt]at hj
    simp at hj;subst hj
    have hlt':j<l.length:=by omega
    exact e6 j _ (List.getElem?_eq_getElem hlt'))
  exact⟨v,hv1,hv2⟩
theorem G4g(hs:Sat X ρ st F β a w){o:Oper}{t:TypeId}{x:Operand}(ho:o.op=.load t x){es:List E}{sv:SV}{nb:Option Box}(h:F4i X.P st t x=some (es,sv,nb))(hes:∀e ∈ es,(den ρ e).toBool=true):
  A7j X.P w F ρ β st.nn sv nb ((execOp a.eval o).run X.P w):=by
 unfold F4i at h
 split at h
 ·rename_i n off hx
  split at h
  ·rename_i t' cs hb
   obtain⟨sv',hp,e⟩:=A6u h
   cases e
   obtain⟨b,hb1,hb2⟩:=A0d hs hx
   obtain⟨b',vs,e1,e2,e3⟩:=hs.bx _ _ hb
   obtain rfl:b'=b:=by rw[e1]at hb1;simpa using hb1
   obtain⟨v,hv1,hv2⟩:=B5u hp e3 (b:=b') (o:=0) (fun j v hj=>by
    rw[Nat.zero_add]
    simp[World.cell?,e2,hj])
   rw[Nat.zero_add]at hv1
   exact⟨v,by simp[execOp,ho,Instr.loadAt,hb2,Instr.sureAddr,hv1],hv2⟩
  ·cases h
 ·rename_i tt la i c hx
  split at h
  ·rename_i ts hts
   obtain⟨sv',hp,e⟩:=A6u h
   cases e
   obtain⟨b,o',len,cap,ts',h1,h2,h3,h4,h5⟩:=A0d hs hx
   rw[hts]at h2;cases h2
   obtain⟨_,g,hg1,hg2⟩:=F6i h1 hts h4
   obtain⟨v,hv1,hv2⟩:=B5u hp (w:=w) (F:=F) (ρ:=ρ) (β:=β) (vs:=(List.range ts.length).map g) ⟨by simp,fun j c' v hc hv=>by
    rw[List.getElem?_map,List.getElem?_zipIdx]at hc
    rw[List.getElem?_map]at hv
    cases ht:ts[j]? with
    |none=>simp[ht]at hc
    |some tj=>
     have hlt:=(List.getElem?_eq_some_iff.1 ht).1
     simp[ht]at hc
     simp[List.getElem?_range hlt]at hv
     subst hc hv
     show Rd _ _ _ _ (den ρ (B9k ts.length (.get la i) j)) _
     rw[C1a]
     exact hg2 j tj ht⟩ (b:=b) (o:=o'+(den ρ i).toInt.toNat*ts.length) (fun j v hj=>by
    rw[List.getElem?_map]at hj
    cases hr:(List.range ts.length)[j]? with
    |none=>simp[hr]at hj
    |some k=>
     have hlt:=(List.getElem?_eq_some_iff.1 hr).1
     simp at hlt
     rw[List.getElem?_range hlt]at hj
     simp at hj;subst hj
     exact hg1 j hlt)
   exact⟨v,by simp[execOp,ho,Instr.loadAt,h5,Instr.sureAddr,hv1],hv2⟩
  ·cases h
 ·rename_i tt la c hx
  split at h
  ·rename_i ts hts
   split at h
   ·cases h
   rename_i hcl
   obtain⟨sv',hp,e⟩:=A6u h
   cases e
   obtain⟨b,o',h1,h5⟩:=A0d hs hx
   obtain⟨v,hv1,hv2⟩:=E6l hs hts hcl hp h1
   exact⟨v,by simp[execOp,ho,Instr.loadAt,h5,Instr.sureAddr,hv1],hv2⟩
  ·cases h
 ·rename_i n tt i c hx
  split at h
  ·rename_i ts e y hts hb
   have hbx:=A5v hs hb
   split at h
   ·rename_i he
    subst he
    obtain⟨sv',hp,e⟩:=A6u h
    cases e
    obtain⟨b,o',len,cap,ts',h1,h2,h3,h4,h5⟩:=A0d hs hx
    rw[hts]at h2;cases h2
    obtain⟨hlen,_,xs,_,_,hat⟩:=G4w hbx h1 (Nat.lt_of_le_of_lt (Nat.zero_le _) h4) hts
    obtain⟨hg1,hg2⟩:=hat _ h4
    obtain⟨v,hv1,hv2⟩:=B5u hp (w:=w) (F:=F) (ρ:=ρ) (β:=β) (vs:=(List.range ts.length).map fun j=>xs.getD ((den ρ i).toInt.toNat*ts.length+j) undef) ⟨by simp,fun j c' v hc hv=>by
     rw[List.getElem?_map,List.getElem?_zipIdx]at hc
     rw[List.getElem?_map]at hv
     cases ht:ts[j]? with
     |none=>simp[ht]at hc
     |some tj=>
      have hlt:=(List.getElem?_eq_some_iff.1 ht).1
      simp[ht]at hc
      simp[List.getElem?_range hlt]at hv
      subst hc hv
      show Rd _ _ _ _ (den ρ (B9k ts.length (.get y i) j)) _
      rw[C1a]
      have:=hg2 j tj ht
      rw[List.getD_eq_getElem?_getD (l:=xs)]at this
      exact this⟩ (b:=b) (o:=o'+(den ρ i).toInt.toNat*ts.length) (fun j v hj=>by
     rw[List.getElem?_map]at hj
     cases hr:(List.range ts.length)[j]? with
     |none=>simp[hr]at hj
     |some k=>
      have hlt:=(List.getElem?_eq_some_iff.1 hr).1
      simp at hlt
      rw[List.getElem?_range hlt]at hj
      simp only[Option.map_some,Option.some.injEq]at hj;subst hj
      exact hg1 j hlt)
    exact⟨v,by simp[execOp,ho,Instr.loadAt,h5,Instr.sureAddr,hv1],hv2⟩
   ·cases h
  ·cases h
 ·rename_i x' hx
  split at h
  ·rename_i es' tt y c has
   have hh:∀e ∈ es',(den ρ e).toBool=true:=by
    have:es'=es:=by
     unfold D4w at h
     split at h
     ·split at h
      ·split at h
       ·cases h;rfl
       ·cases h
      ·cases h
      ·obtain⟨_,_,e⟩:=A6u h;cases e;rfl
     ·cases h
    rw[this];exact hes
   exact F8x hs ho h (C4v has hs.cf.2 hh (A0d hs hx))
  ·split at h
   ·rename_i tt la _ _ _ _
    split at h
    ·rename_i ts hts
     split at h
     ·cases h
     rename_i hcl
     obtain⟨sv',hp,e⟩:=A6u h
     cases e
     have hr:Rd X.P w F (.ptr tt) (den ρ la) (a.eval x):=A0d hs hx
     obtain⟨b,o',hv⟩:=G1u hr (hes _ (List.mem_singleton.2 rfl)) (by rw[hs.cf.2];simpa using hcl)
     obtain⟨v,q1,q2⟩:=E6l hs hts (by simpa using hcl) (c:=0) hp (by rw[←hv];exact hr)
     rw[Nat.add_zero]at q1
     exact⟨v,by simp[execOp,ho,Instr.loadAt,hv,Instr.sureAddr,q1],q2⟩
    ·cases h
   ·cases h
 ·cases h
end
end Go.Proofs.YtglhnofjggpdjaaGreat.Eng
namespace Go.Proofs.YtglhnofjggpdjaaGreat.Eng
set_option linter.unusedVariables false
set_option linter.unusedSimpArgs false
section
variable{P:Program}{w:World}{F:Fr}{ρ:List D}{β:Nat→Value}
variable{X:Cx}{st:St}{a:Act}
theorem C3h{s:TypeId}{f:Nat}{fl:Field}(h:C2i P s f=some fl):∃fs,P.underlying s=some (.struct fs)∧fs[f]?=some fl:=by
 unfold C2i at h
 split at h
 ·rename_i fs hu;exact⟨fs,hu,h⟩
 ·cases h
theorem A9q{s:TypeId}{f:Nat}{fl:Field}(h:C2i P s f=some fl){n:Nat}(hn:A3e P fl.type=some (n+1))(b o:Nat):
  (Instr.fieldAt s (.pointer (some ⟨b,o,none⟩)) f).run P w=.ok (.pointer (some ⟨b,o+fl.offset,none⟩)) w:=by
 obtain⟨fs,hu,hf⟩:=C3h h
 simp[Instr.fieldAt,A0v hu,hf,Instr.sureAddr,fieldPlace,A2r hn,A4n]
theorem E5i(hs:Sat X ρ st F β a w){o:Oper}{s:TypeId}{x:Operand}{f:Nat}(ho:o.op=.fieldAddr s x f){es:List E}{sv:SV}{nb:Option Box}(h:C5q X.P st s x f=some (es,sv,nb))(hes:∀e ∈ es,(den ρ e).toBool=true)(nn:Nat):
  A7j X.P w F ρ β nn sv nb ((execOp a.eval o).run X.P w):=by
 unfold C5q at h
 split at h
 ·rename_i fl hf
  split at h
  ·rename_i n hn
   split at h
   ·rename_i m off hx
    simp[ev1]at h;obtain⟨rfl,rfl,rfl⟩:=h
    obtain⟨b,h1,h2⟩:=A0d hs hx
    exact⟨_,by simp[execOp,ho,h2,A9q hf hn],b,h1,rfl⟩
   ·rename_i t la i c hx
    simp[ev1]at h;obtain⟨rfl,rfl,rfl⟩:=h
    obtain⟨b,o',len,cap,ts,h1,h2,h3,h4,h5⟩:=A0d hs hx
    refine⟨.pointer (some ⟨b,o'+(den ρ i).toInt.toNat*ts.length+c+fl.offset,none⟩),?_,b,o',len,cap,ts,h1,h2,h3,h4,by rw[←Nat.add_assoc]⟩
    simp[execOp,ho,h5,A9q hf hn]
   ·rename_i t la c hx
    simp[ev1]at h;obtain⟨rfl,rfl,rfl⟩:=h
    obtain⟨b,o',h1,h5⟩:=A0d hs hx
    refine⟨.pointer (some ⟨b,o'+c+fl.offset,none⟩),?_,b,o',h1,by rw[←Nat.add_assoc]⟩
    simp[execOp,ho,h5,A9q hf hn]
   ·rename_i m t i c hx
    simp[ev1]at h;obtain⟨rfl,rfl,rfl⟩:=h
    obtain⟨b,o',len,cap,ts,h1,h2,h3,h4,h5⟩:=A0d hs hx
    refine⟨.pointer (some ⟨b,o'+(den ρ i).toInt.toNat*ts.length+c+fl.offset,none⟩),?_,b,o',len,cap,ts,h1,h2,h3,h4,by rw[←Nat.add_assoc]⟩
    simp[execOp,ho,h5,A9q hf hn]
   ·rename_i x' hx
    split at h
    ·rename_i es' t a' c has
     cases h
     obtain⟨n',b,h1,h2,h3,h4⟩:=C4v has hs.cf.2 hes (A0d hs hx)
     refine⟨.pointer (some ⟨b,c+fl.offset,none⟩),?_,n',b,h1,h2,h3,rfl⟩
     simp[execOp,ho,h4,A9q hf hn]
    ·split at h
     ·rename_i e la _ _ _ _
      split at h
      ·cases h
      rename_i hcl
      simp at h;obtain⟨rfl,rfl,rfl⟩:=h
      have hr:Rd X.P w F (.ptr e) (den ρ la) (a.eval x):=A0d hs hx
      obtain⟨b,o',hv⟩:=G1u hr (hes _ (List.mem_singleton.2 rfl)) (by rw[hs.cf.2];simpa using hcl)
      refine⟨.pointer (some ⟨b,o'+fl.offset,none⟩),?_,b,o',by rw[←hv];exact hr,rfl⟩
      simp[execOp,ho,hv,A9q hf hn]
     ·cases h
   ·cases h
  ·cases h
 ·cases h
theorem F9x(hs:Sat X ρ st F β a w){o:Oper}{s:TypeId}{x:Operand}{f:Nat}(ho:o.op=.field s x f){es:List E}{sv:SV}{nb:Option Box}(h:E4j X.P st s x f=some (es,sv,nb))(nn:Nat):
  A7j X.P w F ρ β nn sv nb ((execOp a.eval o).run X.P w):=by
 unfold E4j at h
 split at h
 ·rename_i fl hf
  split at h
  ·rename_i cs hx
   obtain⟨sv',hp,e⟩:=A6u h
   cases e
   obtain⟨vs,e,hl⟩:=A3b hs hx
   obtain⟨fs,hu,hf'⟩:=C3h hf
   obtain⟨v,hv1,hv2⟩:=G2f hp hl
   exact⟨v,by simp[execOp,ho,e,Instr.field,A0v hu,hf',asAgg,hv1],hv2⟩
  ·cases h
 ·cases h
theorem D2t{t:TypeId}(hu:P.underlying t=some .bool)(n:Nat)(a b:Bool):(Op.equalIn (n+1) t (.bool a) (.bool b)).run P w=.ok (a == b) w:=by
 simp[Op.equalIn,A0v hu]
theorem G7u{t:TypeId}{k0:IntKind}(hu:P.underlying t=some (.int k0))(n:Nat)(k:IntKind)(a b:Int):(Op.equalIn (n+1) t (.int k a) (.int k b)).run P w=.ok (a == b) w:=by
 simp[Op.equalIn,A0v hu]
theorem G6b{t:TypeId}(hu:P.underlying t=some .string)(n:Nat)(a b:ByteArray):(Op.equalIn (n+1) t (.string a) (.string b)).run P w=.ok (a == b) w:=by
 simp[Op.equalIn,A0v hu]
theorem F3p{t:TypeId}{ms:Array (String × TypeId)}(hu:P.underlying t=some (.interface ms))(n:Nat):(Op.equalIn (n+1) t .nilIface .nilIface).run P w=.ok true w:=by
 simp[Op.equalIn,A0v hu]
theorem E2c{t u:TypeId}{v:Value}{ms:Array (String × TypeId)}(hu:P.underlying t=some (.interface ms))(n:Nat):(Op.equalIn (n+1) t (.iface u v) .nilIface).run P w=.ok false w:=by
 simp[Op.equalIn,A0v hu]
theorem E6h{t e:TypeId}(hu:P.underlying t=some (.pointer e))(n:Nat):(Op.equalIn (n+1) t (.pointer none) (.pointer none)).run P w=.ok true w:=by
 simp[Op.equalIn,A0v hu]
theorem B3f{t e:TypeId}(hu:P.underlying t=some (.pointer e))(n:Nat)(x:Addr):(Op.equalIn (n+1) t (.pointer (some x)) (.pointer none)).run P w=.ok false w:=by
 simp[Op.equalIn,A0v hu]
theorem run_eq{t:TypeId}{x y:Operand}{u v:Value}{b:Bool}(hb:binOp .eql t u v=(do pure (.bool (←Op.equal t u v))))(hg:(eqGuard .eql t x y u v).run P w=.ok () w)(he:(Op.equalIn (9999+1) t u v).run P w=.ok b w):
  (do eqGuard .eql t x y u v;binOp .eql t u v:Sem Value).run P w=.ok (.bool b) w:=by
 have he':(Op.equal t u v).run P w=.ok b w:=he
 rw[hb]
 simp only[Sem.run_bind,hg,Result.andThen_ok,he',Sem.run_pure]
theorem B7n{t:TypeId}{x y:Operand}{u v:Value}{b:Bool}(hb:binOp .neq t u v=(do pure (.bool (!(←Op.equal t u v)))))(hg:(eqGuard .neq t x y u v).run P w=.ok () w)(he:(Op.equalIn (9999+1) t u v).run P w=.ok b w):
  (do eqGuard .neq t x y u v;binOp .neq t u v:Sem Value).run P w=.ok (.bool !b) w:=by
 have he':(Op.equal t u v).run P w=.ok b w:=he
 rw[hb]
 simp only[Sem.run_bind,hg,Result.andThen_ok,he',Sem.run_pure]
theorem G3q{op:BinOp}{t:TypeId}{k k':IntKind}{a b:E}{es:List E}{c:C}(h:bin P op t (.dat (.int k) a) (.dat (.int k') b)=some (es,c))
  (hes:∀e ∈ es,(den ρ e).toBool=true) {x y:Operand}:
  ∃v,(do eqGuard op t x y (.int k (den ρ a).toInt) (.int k' (den ρ b).toInt);binOp op t (.int k (den ρ a).toInt) (.int k' (den ρ b).toInt):Sem Value).run P w=.ok v w∧RC P w F ρ β c v:=by
 cases op<;>simp only[bin,Option.some.injEq,Prod.mk.injEq]at h
 case shl|shr=>
  obtain⟨rfl,rfl⟩:=h
  have hge:¬(den ρ b).toInt<0:=by
   have:=hes _ (List.mem_singleton.2 rfl)
   simpa[A4o,C2n,den]using this
  refine⟨_,?_,Rd.int rfl⟩
  rw[C3l]
  simp[eqGuard,binOp,Op.shift,hge,arF]
 all_goals
  split at h
  ·rename_i hk
   subst hk
   simp only[Option.some.injEq,Prod.mk.injEq]at h
   obtain⟨rfl,rfl⟩:=h
   first
    |(refine⟨_,?_,Rd.bool rfl⟩;rw[A4o];simp[eqGuard,binOp,Op.intCmp,C2n];done)
    |(refine⟨_,?_,Rd.int rfl⟩;rw[C3l];simp[eqGuard,binOp,Op.intArith,Op.intBits,arF];done)
    |(
     have hne:(den ρ b).toInt≠0:=by
      have:=hes _ (List.mem_singleton.2 rfl)
      simpa[A4o,C2n,den]using this
     refine⟨_,?_,Rd.int rfl⟩
     rw[C3l]
     simp[eqGuard,binOp,Op.intDiv,hne,arF];done)
  ·cases h
theorem E7p{op:BinOp}{t:TypeId}{cx cy c:C}{es:List E}(h:bin P op t cx cy=some (es,c)){vx vy:Value}(hx:RC P w F ρ β cx vx)(hy:RC P w F ρ β cy vy)
  (hes:∀e ∈ es,(den ρ e).toBool=true) {x y:Operand} (hi:∀e,cy=.dat .ifc e→isConst y=true):
  ∃v,(do eqGuard op t x y vx vy;binOp op t vx vy:Sem Value).run P w=.ok v w∧RC P w F ρ β c v:=by
 unfold bin at h
 split at h
 ·
  rename_i k a' k' b'
  have e1:=hx.A3a
  have e2:=hy.A3a
  subst e1 e2
  exact G3q (P:=P) (t:=t) (by simpa only[bin]using h) hes
 ·
  rename_i a' b'
  have e1:=hx.A5z
  have e2:=hy.A5z
  subst e1 e2
  split at h
  ·rename_i hu
   simp only[Option.some.injEq,Prod.mk.injEq]at h;obtain⟨rfl,rfl⟩:=h
   exact⟨_,run_eq (by simp[binOp]) (by simp[eqGuard]) (D2t hu _ _ _),Rd.bool (by rw[C5h];rfl)⟩
  ·rename_i hu
   simp only[Option.some.injEq,Prod.mk.injEq]at h;obtain⟨rfl,rfl⟩:=h
   exact⟨_,B7n (by simp[binOp]) (by simp[eqGuard]) (D2t hu _ _ _),Rd.bool (by rw[A5k,C5h];rfl)⟩
  ·cases h
 ·
  rename_i a' b'
  have e1:=hx.B1y
  have e2:=hy.B1y
  subst e1 e2
  cases op<;>simp only[reduceCtorEq,Option.some.injEq,Prod.mk.injEq]at h
  case add=>
   obtain⟨rfl,rfl⟩:=h
   have h2:((den ρ a').toStr.size:Int)≤4611686018427387903:=by
    have:=hes (.cmp .leq (.B4f a') (.int 4611686018427387903)) (by simp)
    exact of_decide_eq_true this
   have h3:((den ρ b').toStr.size:Int)≤4611686018427387903:=by
    have:=hes (.cmp .leq (.B4f b') (.int 4611686018427387903)) (by simp)
    exact of_decide_eq_true this
   have hn:¬(((den ρ a').toStr.size+(den ρ b').toStr.size:Nat):Int)>IntKind.i64.max:=by
    have hm:IntKind.i64.max=9223372036854775807:=by rfl
    rw[hm];omega
   refine⟨.string ((den ρ a').toStr++(den ρ b').toStr),?_,Rd.str rfl⟩
   simp only[eqGuard,binOp,Op.stringOp,Sem.run_bind]
   rw[if_neg hn]
   rfl
  all_goals
   obtain⟨rfl,rfl⟩:=h
   refine⟨_,?_,Rd.bool rfl⟩
   simp[eqGuard,binOp,Op.stringOp,den,G9n]
 ·
  rename_i a'
  have hy':Rd P w F .ifc .nil vy:=hy
  have e2:vy=.nilIface:=by
   cases hy' with
   |D8m _ e=>exact e
   |iface e=>cases e
  subst e2
  have hc:=hi _ rfl
  have hyc:∃u,y=.const u:=by cases y<;>simp[isConst]at hc;exact⟨_,rfl⟩
  obtain⟨u,rfl⟩:=hyc
  split at h
  ·rename_i ms hu
   simp only[Option.some.injEq,Prod.mk.injEq]at h;obtain⟨rfl,rfl⟩:=h
   cases hx with
   |D8m e1 e2=>subst e2;exact⟨_,run_eq (by simp[binOp]) (by simp[eqGuard]) (F3p hu _),Rd.bool (by rw[A3m,e1];rfl)⟩
   |iface e1 e2 _ _=>subst e2;exact⟨_,run_eq (by simp[binOp]) (by simp[eqGuard]) (E2c hu _),Rd.bool (by rw[A3m,e1];rfl)⟩
  ·rename_i ms hu
   simp only[Option.some.injEq,Prod.mk.injEq]at h;obtain⟨rfl,rfl⟩:=h
   cases hx with
   |D8m e1 e2=>subst e2;exact⟨_,B7n (by simp[binOp]) (by simp[eqGuard]) (F3p hu _),Rd.bool (by rw[A5k,A3m,e1];rfl)⟩
   |iface e1 e2 _ _=>subst e2;exact⟨_,B7n (by simp[binOp]) (by simp[eqGuard]) (E2c hu _),Rd.bool (by rw[A5k,A3m,e1];rfl)⟩
  ·cases h
 ·
  rename_i e' a'
  have e2:vy=.pointer none:=hy
  subst e2
  split at h
  ·rename_i el hu
   simp only[Option.some.injEq,Prod.mk.injEq]at h;obtain⟨rfl,rfl⟩:=h
   cases hx with
   |B8i e1 e2=>subst e2;exact⟨_,run_eq (by simp[binOp]) (by simp[eqGuard]) (E6h hu _),Rd.bool (by rw[A3m,e1];rfl)⟩
   |B7r _ e1 _ e2=>subst e2;exact⟨_,run_eq (by simp[binOp]) (by simp[eqGuard]) (B3f hu _ _),Rd.bool (by rw[A3m,e1];rfl)⟩
   |ptr _ e1 e2 _ _ _ _ _=>subst e2;exact⟨_,run_eq (by simp[binOp]) (by simp[eqGuard]) (B3f hu _ _),Rd.bool (by rw[A3m,e1];rfl)⟩
  ·rename_i el hu
   simp only[Option.some.injEq,Prod.mk.injEq]at h;obtain⟨rfl,rfl⟩:=h
   cases hx with
   |B8i e1 e2=>subst e2;exact⟨_,B7n (by simp[binOp]) (by simp[eqGuard]) (E6h hu _),Rd.bool (by rw[A5k,A3m,e1];rfl)⟩
   |B7r _ e1 _ e2=>subst e2;exact⟨_,B7n (by simp[binOp]) (by simp[eqGuard]) (B3f hu _ _),Rd.bool (by rw[A5k,A3m,e1];rfl)⟩
   |ptr _ e1 e2 _ _ _ _ _=>subst e2;exact⟨_,B7n (by simp[binOp]) (by simp[eqGuard]) (B3f hu _ _),Rd.bool (by rw[A5k,A3m,e1];rfl)⟩
  ·cases h
 ·
  rename_i n off
  have e2:vy=.pointer none:=hy
  obtain⟨b,_,e1⟩:=hx
  subst e1 e2
  split at h
  ·rename_i el hu
   simp only[Option.some.injEq,Prod.mk.injEq]at h;obtain⟨rfl,rfl⟩:=h
   exact⟨_,run_eq (by simp[binOp]) (by simp[eqGuard]) (B3f hu _ _),Rd.bool rfl⟩
  ·rename_i el hu
   simp only[Option.some.injEq,Prod.mk.injEq]at h;obtain⟨rfl,rfl⟩:=h
   exact⟨_,B7n (by simp[binOp]) (by simp[eqGuard]) (B3f hu _ _),Rd.bool rfl⟩
  ·cases h
 ·
  have e2:vy=.pointer none:=hy
  obtain⟨n,b,_,_,_,e1⟩:=hx
  subst e1 e2
  split at h
  ·rename_i el hu
   simp only[Option.some.injEq,Prod.mk.injEq]at h;obtain⟨rfl,rfl⟩:=h
   exact⟨_,run_eq (by simp[binOp]) (by simp[eqGuard]) (B3f hu _ _),Rd.bool rfl⟩
  ·rename_i el hu
   simp only[Option.some.injEq,Prod.mk.injEq]at h;obtain⟨rfl,rfl⟩:=h
   exact⟨_,B7n (by simp[binOp]) (by simp[eqGuard]) (B3f hu _ _),Rd.bool rfl⟩
  ·cases h
 ·cases h
theorem H1n(hs:Sat X ρ st F β a w){o:Oper}{op:UnOp}{t:TypeId}{x:Operand}(ho:o.op=.unOp op t x){es:List E}{sv:SV}{nb:Option Box}(h:G5v st op x=some (es,sv,nb))(nn:Nat):
  A7j X.P w F ρ β nn sv nb ((execOp a.eval o).run X.P w):=by
 unfold G5v at h
 split at h
 ·rename_i e hx
  simp[ev1]at h;obtain⟨rfl,rfl,rfl⟩:=h
  have e1:=(A0d hs hx).A5z
  exact⟨_,by simp[execOp,ho,e1,Op.unary];rfl,Rd.bool (by rw[A5k])⟩
 ·rename_i k e hx
  simp[ev1]at h;obtain⟨rfl,rfl,rfl⟩:=h
  have e1:=(A0d hs hx).A3a
  refine⟨.int k (arF .sub k 0 (den ρ e).toInt),?_,Rd.int (by rw[C3l];rfl)⟩
  simp[execOp,ho,e1,Op.unary,Op.intArith,arF]
 ·rename_i k e hx
  simp[ev1]at h;obtain⟨rfl,rfl,rfl⟩:=h
  have e1:=(A0d hs hx).A3a
  refine⟨.int k (arF .xor k (if k.signed then -1 else k.max) (den ρ e).toInt),?_,Rd.int (by rw[C3l];rfl)⟩
  simp[execOp,ho,e1,Op.unary,Op.intBits,arF]
 ·cases h
theorem G3k(hs:Sat X ρ st F β a w){o:Oper}{s d:TypeId}{x:Operand}(ho:o.op=.convert s d x){es:List E}{sv:SV}{nb:Option Box}(h:F2z X.P st s d x=some (es,sv,nb))(nn:Nat):
  A7j X.P w F ρ β nn sv nb ((execOp a.eval o).run X.P w):=by
 unfold F2z at h
 split at h
 ·rename_i k0 k k1 e h1 h2 hx
  simp[ev1]at h;obtain⟨rfl,rfl,rfl⟩:=h
  have e1:=(A0d hs hx).A3a
  exact⟨_,by simp[execOp,ho,e1,convert,A0v h1,A0v h2,Conv.intToInt];rfl,Rd.int (by rw[F9p];rfl)⟩
 ·rename_i e h1 h2 hx
  simp[ev1]at h;obtain⟨rfl,rfl,rfl⟩:=h
  have e1:=(A0d hs hx).B1y
  exact⟨_,by simp[execOp,ho,e1,convert,A0v h1,A0v h2],Rd.str rfl⟩
 ·cases h
theorem D8q{t:TypeId}{u:Ty}(h:D3r P t=some u):∃d,P.underlying t=some d∧(u≠.ifc→∀ms,d≠.interface ms):=by
 unfold D3r at h
 split at h<;>simp at h<;>subst h<;>exact⟨_,by assumption,by simp⟩
theorem G4t(hs:Sat X ρ st F β a w){o:Oper}{t:TypeId}{x:Operand}(ho:o.op=.makeInterface t x){es:List E}{sv:SV}{nb:Option Box}(h:F1d X.P st t x=some (es,sv,nb))(nn:Nat):
  A7j X.P w F ρ β nn sv nb ((execOp a.eval o).run X.P w):=by
 unfold F1d at h
 split at h
 ·rename_i u u' e ht hx
  split at h
  ·rename_i hu
   obtain⟨rfl,hne⟩:=hu
   simp[ev1]at h;obtain⟨rfl,rfl,rfl⟩:=h
   have hr:=A0d hs hx
   obtain⟨d,hd,hnd⟩:=D8q ht
   refine⟨.iface t (a.eval x),?_,Rd.iface rfl rfl ht hne hr⟩
   simp only[execOp,ho,Instr.makeInterface,Sem.run_bind,A0v hd,Result.andThen_ok]
   split
   ·exact absurd rfl (hnd hne _)
   ·rfl
  ·cases h
 ·cases h
theorem F1n(hs:Sat X ρ st F β a w){o:Oper}{x:Operand}{i:Nat}(ho:o.op=.extract x i){es:List E}{sv:SV}{nb:Option Box}(h:D3d st x i=some (es,sv,nb))(nn:Nat):
  A7j X.P w F ρ β nn sv nb ((execOp a.eval o).run X.P w):=by
 unfold D3d at h
 split at h
 ·rename_i l hx
  obtain⟨v1,hi,e⟩:=A6u h
  cases e
  obtain⟨vs,e,hl,hr⟩:=A3b hs hx
  have hlt:i<vs.length:=by rw[←hl];exact(List.getElem?_eq_some_iff.1 hi).1
  have hv:vs[i]?=some vs[i]:=List.getElem?_eq_getElem hlt
  have h1:=hr i _ _ hi hv
  refine⟨vs[i],by simp[execOp,ho,e,Instr.extract,hv],?_⟩
  cases v1<;>exact h1
 ·cases h
theorem G9f(hs:Sat X ρ st F β a w){o:Oper}{t:TypeId}{x:Operand}(ho:o.op=.call {callee:=.builtin .len,args:=#[x],argTypes:=#[t]}){es:List E}{sv:SV}{nb:Option Box}(h:F8h X.P st t x=some (es,sv,nb))(nn:Nat):
  A7j X.P w F ρ β nn sv nb ((execOp a.eval o).run X.P w):=by
 unfold F8h at h
 split at h
 ·rename_i e' e'' la hu hx
  simp[ev1]at h;obtain⟨rfl,rfl,rfl⟩:=h
  have hr:=A0d hs hx
  have:∃A cap,a.eval x=.slice A (den ρ la).toL.length cap:=by
   cases hr with
   |snil e1 e2=>exact⟨_,_,by rw[e2,e1];rfl⟩
   |slice e1 _ e3 _ _ _ _=>exact⟨_,_,by rw[e1,e3]⟩
  obtain⟨A,cap,e⟩:=this
  exact⟨_,by simp[execOp,ho,resolve,invoke,builtin,Builtin.len_,A0v hu,e];rfl,Rd.int rfl⟩
 ·rename_i e' hu hx
  simp[ev1]at h;obtain⟨rfl,rfl,rfl⟩:=h
  have e:a.eval x=.slice none 0 0:=A0d hs hx
  exact⟨_,by simp[execOp,ho,resolve,invoke,builtin,Builtin.len_,A0v hu,e];rfl,Rd.int rfl⟩
 ·rename_i e' m hu hx
  split at h
  ·rename_i e'' y hb
   simp[ev1]at h;obtain⟨rfl,rfl,rfl⟩:=h
   have hv:a.eval x=β m:=A0d hs hx
   obtain⟨ts,xs,_,⟨_,hr⟩,_⟩:=A5v hs hb
   rcases hr with⟨⟨A,hr⟩,hn⟩|⟨g,o1,cap,cur,hr,_⟩
   ·exact⟨.int .i64 (den ρ y).toL.length,by rw[hn];simp[execOp,ho,resolve,invoke,builtin,Builtin.len_,A0v hu,hv,hr];rfl,Rd.int rfl⟩
   ·exact⟨.int .i64 (den ρ y).toL.length,by simp[execOp,ho,resolve,invoke,builtin,Builtin.len_,A0v hu,hv,hr];rfl,Rd.int rfl⟩
  ·cases h
 ·rename_i e' n len hu hx
  simp[ev1]at h;obtain⟨rfl,rfl,rfl⟩:=h
  obtain⟨b,h1,h2⟩:=A0d hs hx
  exact⟨.int .i64 len,by simp[execOp,ho,resolve,invoke,builtin,Builtin.len_,A0v hu,h2];rfl,Rd.int rfl⟩
 ·rename_i la hu hx
  simp[ev1]at h;obtain⟨rfl,rfl,rfl⟩:=h
  have e:=(A0d hs hx).B1y
  exact⟨_,by simp[execOp,ho,resolve,invoke,builtin,Builtin.len_,A0v hu,e];rfl,Rd.int rfl⟩
 ·rename_i k' e' t' la hu hx
  simp[ev1]at h;obtain⟨rfl,rfl,rfl⟩:=h
  obtain⟨b,_,_,_,_,_,_,es',v1,_,_,_,_,_,v7,v8,_⟩:=F7g (β:=β) (A0d hs hx)
  exact⟨.int .i64 (den ρ la).toL.length,by simp[execOp,ho,resolve,invoke,builtin,Builtin.len_,A0v hu,v1,Go.MapKept.run_getObj_map v7,v8];rfl,Rd.int rfl⟩
 ·rename_i k' e' m hu hx
  split at h
  ·rename_i t' y hb
   simp[ev1]at h;obtain⟨rfl,rfl,rfl⟩:=h
   have hv:a.eval x=β m:=A0d hs hx
   obtain⟨b,_,_,_,_,_,_,es',v1,_,_,_,_,_,v7,v8,_⟩:=hs.bx m _ hb
   exact⟨.int .i64 (den ρ y).toL.length,by simp[execOp,ho,resolve,invoke,builtin,Builtin.len_,A0v hu,hv,v1,Go.MapKept.run_getObj_map v7,v8];rfl,Rd.int rfl⟩
  ·cases h
 ·cases h
end
end Go.Proofs.YtglhnofjggpdjaaGreat.Eng
namespace Go.Proofs.YtglhnofjggpdjaaGreat.Eng
set_option linter.unusedVariables false
set_option linter.unusedSimpArgs false
section
variable{P:Program}{w:World}{F:Fr}{ρ:List D}{β:Nat→Value}
variable{X:Cx}{st:St}{a:Act}
theorem D6z:∀{fs:List Field} {ps:List (Nat × Nat)},C6v P fs=some ps→fs.mapM (fun f=>(P.info? f.type).map fun i=>(f.offset,i.size))=some ps
 |[],ps,h=>by simp[C6v]at h;subst h;rfl
 |f::fs,ps,h=>by
  simp only[C6v]at h
  split at h
  ·rename_i n l h1 h2
   simp at h;subst h
   have h1':(P.info? f.type).map (·.size)=some n:=h1
   have h3:=D6z h2
   cases hi:P.info? f.type with
   |none=>simp[hi]at h1'
   |some i=>
    simp[hi]at h1'
    simp[List.mapM_cons,hi,h3,h1']
  ·cases h
theorem E7j:∀{xs:List C} {ys:List Value} (cs:List C) (vs:List Value) (off k:Nat),RCL P w F ρ β xs ys→RCL P w F ρ β cs vs→
  RCL P w F ρ β (putCells cs (off+k) xs) ((ys.zipIdx k).foldl (fun acc p=>acc.setIfInBounds (off+p.2) p.1) vs.toArray).toList
 |[],ys,cs,vs,off,k,hx,h=>by
  have:ys=[]:=List.eq_nil_of_length_eq_zero hx.1.symm
  subst this
  simpa[putCells]using h
 |x::xs,[],cs,vs,off,k,hx,h=>by have:=hx.1;simp at this
 |x::xs,y::ys,cs,vs,off,k,hx,h=>by
  simp only[putCells,List.zipIdx_cons,List.foldl_cons,List.setIfInBounds_toArray]
  exact E7j (cs.set (off+k) x) (vs.set (off+k) y) off (k+1) ⟨by have:=hx.1;simpa using this,fun i c v h1 h2=>hx.2 (i+1) c v h1 h2⟩ (h.set _ (hx.2 0 x y rfl rfl))
theorem B6o(hb:∀n,(β n).oneCell'=true)(hs:Sat X ρ st F β a w)(place:Nat→Option (Nat × Nat)):∀{parts:List (Nat × Operand)} {svs:List (Nat × SV)} {cs cs':List C} {vs:List Value},D9e st parts=some svs→B7w place cs svs=some cs'→
  RCL X.P w F ρ β cs vs→∃vs':List Value,Instr.fill place vs.toArray (parts.map fun(p:Nat × Operand)=>(p.1,a.eval p.2))=some vs'.toArray∧RCL X.P w F ρ β cs' vs'
 |[],svs,cs,cs',vs,ho,h,hr=>by
  simp[D9e]at ho;subst ho
  simp[B7w]at h;subst h
  exact⟨vs,rfl,hr⟩
 |(i,x)::rest,svs,cs,cs',vs,ho,h,hr=>by
  simp only[D9e]at ho
  split at ho
  ·rename_i v svs' hv hrest
   simp at ho;subst ho
   simp only[B7w]at h
   split at h
   ·rename_i off n xs hp hxs
    split at h
    ·rename_i hle
     obtain⟨hlen,hle⟩:=hle
     obtain⟨ys,hy1,hy2⟩:=(A3b hs hv).cells hxs hb
     have hput:=E7j cs vs off 0 hy2 hr
     rw[Nat.add_zero]at hput
     obtain⟨vs',h1,h2⟩:=B6o hb hs place hrest h hput
     refine⟨vs',?_,h2⟩
     simp only[List.map_cons,Instr.fill,hp,hy1]
     have hsz:ys.length=n:=by rw[←hy2.1];exact hlen
     have hc:¬(ys.toArray.size≠n∨off+ys.toArray.size>vs.toArray.size):=by
      simp only[List.size_toArray,hsz,←hr.1];omega
     rw[if_neg (by simpa using hc)]
     simp only[Array.zipIdx_toArray]at*
     simpa using h1
    ·cases h
   ·cases h
  ·cases ho
theorem F9j(hb:∀n,(β n).oneCell'=true)(hs:Sat X ρ st F β a w){o:Oper}{t:TypeId}{parts:Array (Nat × Operand)}(ho:o.op=.build t parts){es:List E}{sv:SV}{nb:Option Box}(h:E4h X.P st t parts=some (es,sv,nb))(nn:Nat):
  A7j X.P w F ρ β nn sv nb ((execOp a.eval o).run X.P w):=by
 unfold E4h at h
 split at h
 ·rename_i zs vs fs hz hv hu
  split at h
  ·rename_i ps hps
   obtain⟨cs,hf,e⟩:=A6u h
   cases e
   obtain⟨z,hz1,hz2⟩:=A6c (w:=w) (F:=F) (ρ:=ρ) (β:=β) hz
   obtain⟨vs',h1,h2⟩:=B6o hb hs (ps[·]?) hv hf hz2
   cases hi:X.P.info? t with
   |none=>simp[hi]at hz1
   |some it=>
    simp[hi]at hz1
    refine⟨.agg vs'.toArray,?_,vs',rfl,h2⟩
    have hbuilt:X.P.built t (parts.map fun(i,x)=>(i,a.eval x)).toList=some vs'.toArray:=by
     unfold Program.built
     simp only[hi,hu,hz1,D6z hps]
     rw[Array.toList_map]
     simpa using h1
    simp only[execOp,ho,Sem.run_bind,run_build w t _ _ hbuilt,Result.andThen_ok,Sem.run_pure]
  ·cases h
 ·rename_i zs vs me e hz hv hu
  split at h
  ·rename_i n hn
   obtain⟨cs,hf,e⟩:=A6u h
   cases e
   obtain⟨z,hz1,hz2⟩:=A6c (w:=w) (F:=F) (ρ:=ρ) (β:=β) hz
   obtain⟨vs',h1,h2⟩:=B6o hb hs (fun i=>some (i*n,n)) hv hf hz2
   cases hi:X.P.info? t with
   |none=>simp[hi]at hz1
   |some it=>
    simp[hi]at hz1
    unfold A3e at hn
    cases hie:X.P.info? e with
    |none=>simp[hie]at hn
    |some ie=>
     simp[hie]at hn
     refine⟨.agg vs'.toArray,?_,vs',rfl,h2⟩
     have hbuilt:X.P.built t (parts.map fun(i,x)=>(i,a.eval x)).toList=some vs'.toArray:=by
      unfold Program.built
      simp only[hi,hu,hz1,hie,hn]
      rw[Array.toList_map]
      simpa using h1
     simp only[execOp,ho,Sem.run_bind,run_build w t _ _ hbuilt,Result.andThen_ok,Sem.run_pure]
  ·cases h
 ·cases h
theorem G3g{c d:C}{e:E}(h:eqC c d=some e){u v:Value}(hu:RC P w F ρ β c u)(hv:RC P w F ρ β d v){t:TypeId}(n:Nat)
  (ht:scT c (P.underlying t)=true):(Op.equalIn (n+1) t u v).run P w=.ok (den ρ e).toBool w∧A1d P t=some false:=by
 cases c<;>cases d<;>try(simp[eqC]at h;done)
 rename_i t1 x t2 y
 cases t1<;>cases t2<;>try(simp[eqC]at h;done)
 ·rename_i k k'
  simp only[eqC]at h
  split at h
  ·rename_i hk
   subst hk
   simp at h;subst h
   have e1:=hu.A3a;have e2:=hv.A3a
   subst e1 e2
   cases hun:P.underlying t with
   |none=>simp[scT,hun]at ht
   |some td=>
    cases td<;>try(simp[scT,hun]at ht;done)
    exact⟨by rw[G7u hun,A4o];rfl,by simp[A1d,hun]⟩
  ·cases h
 ·simp only[eqC,Option.some.injEq]at h
  subst h
  have e1:=hu.A5z;have e2:=hv.A5z
  subst e1 e2
  cases hun:P.underlying t with
  |none=>simp[scT,hun]at ht
  |some td=>
   cases td<;>try(simp[scT,hun]at ht;done)
   exact⟨by rw[D2t hun,C5h];rfl,by simp[A1d,hun]⟩
 ·simp only[eqC,Option.some.injEq]at h
  subst h
  have e1:=hu.B1y;have e2:=hv.B1y
  subst e1 e2
  cases hun:P.underlying t with
  |none=>simp[scT,hun]at ht
  |some td=>
   cases td<;>try(simp[scT,hun]at ht;done)
   exact⟨by rw[G6b hun,beq_toListBytes];rfl,by simp[A1d,hun]⟩
def VOf(P:Program)(t:TypeId)(us:List Value)(v:Value):Prop:=(A1d P t=some true∧v=.agg us.toArray)∨(A1d P t=some false∧us=[v])
theorem C1w{n:Nat}{t:TypeId}{cs ds:List C}{e:E}(h:eqT P n t cs ds=some e):A1d P t=some true∨(A1d P t=some false∧cs.length=1∧ds.length=1):=by
 cases n with
 |zero=>simp[eqT]at h
 |succ n=>
  simp only[eqT]at h
  split at h
  ·rename_i fs hu;exact .inl (by simp[A1d,hu])
  ·rename_i k e' hu;exact .inl (by simp[A1d,hu])
  ·rename_i h1 h2
   split at h
   ·split at h
    ·rename_i c d hs
     refine .inr ⟨?_,rfl,rfl⟩
     cases hu:P.underlying t with
     |none=>rw[hu]at hs;simp[scT]at hs
     |some td=>
      cases td<;>first
       |(simp[A1d,hu];done)
       |(rename_i fs;exact absurd hu (h1 fs))
       |(rename_i k e';exact absurd hu (h2 k e'))
    ·cases h
   ·cases h
theorem C2a{t:TypeId}{m:Nat}{pre us:List Value}(hm:A3e P t=some m)(hle:m≤us.length)(ha:A1d P t=some true∨(A1d P t=some false∧(us.take m).length=1)):
  ∃v,(part t (pre++us).toArray pre.length).run P w=.ok v w∧VOf P t (us.take m) v:=by
 rcases ha with ha|⟨ha,h1⟩
 ·refine⟨.agg (us.take m).toArray,?_,.inl ⟨ha,rfl⟩⟩
  simp[part,B1e ha,A2r hm,List.extract_eq_take_drop]
 ·have hm1:m=1:=by simp at h1;omega
  subst hm1
  cases us with
  |nil=>simp at hle
  |cons u us=>exact⟨u,by simp[part,B1e ha],.inr ⟨ha,by simp⟩⟩
theorem D9p{g:TypeId→List C→List C→Option E}{k:Nat}(hg:∀{t:TypeId} {cs ds:List C} {e:E} {us vs:List Value} {u v:Value},g t cs ds=some e→RCL P w F ρ β cs us→RCL P w F ρ β ds vs→VOf P t us u→VOf P t vs v→(Op.equalIn k t u v).run P w=.ok (den ρ e).toBool w)
  (ha:∀{t:TypeId} {cs ds:List C} {e:E},g t cs ds=some e→A1d P t=some true∨(A1d P t=some false∧cs.length=1∧ds.length=1)):
  ∀(fs:List Field) {cs ds:List C} {us vs:List Value} {e:E} (pre1 pre2:List Value) (n:Nat),C9g P g fs n cs ds=some e→RCL P w F ρ β cs us→RCL P w F ρ β ds vs→pre1.length=n→pre2.length=n→
  (Op.eqFields k (pre1++us).toArray (pre2++vs).toArray fs).run P w=.ok (den ρ e).toBool w
 |[],cs,ds,us,vs,e,pre1,pre2,n,he,hu,hv,h1,h2=>by
  cases cs with
  |nil=>cases ds with
   |nil=>simp[C9g]at he;subst he;simp[Op.eqFields,den]
   |cons d ds=>simp[C9g]at he
  |cons c cs=>simp[C9g]at he
 |f::fs,cs,ds,us,vs,e,pre1,pre2,n,he,hu,hv,h1,h2=>by
  simp only[C9g]at he
  split at he
  ·rename_i m hm
   split at he
   ·rename_i hc
    simp only[Bool.and_eq_true,decide_eq_true_eq]at hc
    obtain⟨⟨⟨hn,ho⟩,hl1⟩,hl2⟩:=hc
    split at he
    ·rename_i e1 e2 he1 he2
     simp at he;subst he
     have hoff:f.offset=n:=by simpa using ho
     have lu:m≤us.length:=by rw[←hu.1];exact hl1
     have lv:m≤vs.length:=by rw[←hv.1];exact hl2
     have hag:=ha he1
     obtain⟨u,p1,q1⟩:=C2a (P:=P) (w:=w) (pre:=pre1) hm lu (by
      rcases hag with hag|⟨hag,l1,l2⟩
      ·exact .inl hag
      ·exact .inr ⟨hag,by rw[List.length_take]at l1⊢;omega⟩)
     obtain⟨v,p2,q2⟩:=C2a (P:=P) (w:=w) (pre:=pre2) hm lv (by
      rcases hag with hag|⟨hag,l1,l2⟩
      ·exact .inl hag
      ·exact .inr ⟨hag,by rw[List.length_take]at l2⊢;omega⟩)
     have q:=hg he1 (hu.take m) (hv.take m) q1 q2
     have hne:(f.name≠"_"):=by simpa using hn
     have ih:=D9p hg ha fs (pre1++us.take m) (pre2++vs.take m) (n+m) he2 (hu.drop m) (hv.drop m) (by simp[h1];omega) (by simp[h2];omega)
     simp only[List.append_assoc,List.take_append_drop]at ih
     rw[D1r]
     simp only[Op.eqFields]
     rw[if_pos hne]
     rw[hoff]
     rw[h1]at p1
     rw[h2]at p2
     simp only[Sem.run_bind,p1,p2,q,Result.andThen_ok]
     cases hb:(den ρ e1).toBool
     ·simp
     ·simp[ih]
    ·cases he
   ·cases he
  ·cases he
theorem E2e{g:List C→List C→Option E}{k:Nat}{t:TypeId}{m:Nat}(hm:A3e P t=some m)(hg:∀{cs ds:List C} {e:E} {us vs:List Value} {u v:Value},g cs ds=some e→RCL P w F ρ β cs us→RCL P w F ρ β ds vs→VOf P t us u→VOf P t vs v→(Op.equalIn k t u v).run P w=.ok (den ρ e).toBool w)
  (ha:∀{cs ds:List C} {e:E},g cs ds=some e→A1d P t=some true∨(A1d P t=some false∧cs.length=1∧ds.length=1)):
  ∀(c:Nat) {cs ds:List C} {us vs:List Value} {e:E} (pre1 pre2:List Value) (i:Nat),D0o g m c cs ds=some e→RCL P w F ρ β cs us→RCL P w F ρ β ds vs→pre1.length=i*m→pre2.length=i*m→
  (Op.eqItems k t m (pre1++us).toArray (pre2++vs).toArray (List.range' i c)).run P w=.ok (den ρ e).toBool w
 |0,cs,ds,us,vs,e,pre1,pre2,i,he,hu,hv,h1,h2=>by
  cases cs with
  |nil=>cases ds with
   |nil=>simp[D0o]at he;subst he;simp[Op.eqItems,den]
   |cons d ds=>simp[D0o]at he
  |cons c cs=>simp[D0o]at he
 |c+1,cs,ds,us,vs,e,pre1,pre2,i,he,hu,hv,h1,h2=>by
  simp only[D0o]at he
  split at he
  ·rename_i hl
   obtain⟨hl1,hl2⟩:=hl
   split at he
   ·rename_i e1 e2 he1 he2
    simp at he;subst he
    have lu:m≤us.length:=by rw[←hu.1];exact hl1
    have lv:m≤vs.length:=by rw[←hv.1];exact hl2
    have hag:=ha he1
    obtain⟨u,p1,q1⟩:=C2a (P:=P) (w:=w) (pre:=pre1) hm lu (by
     rcases hag with hag|⟨hag,l1,l2⟩
     ·exact .inl hag
     ·exact .inr ⟨hag,by rw[List.length_take]at l1⊢;omega⟩)
    obtain⟨v,p2,q2⟩:=C2a (P:=P) (w:=w) (pre:=pre2) hm lv (by
     rcases hag with hag|⟨hag,l1,l2⟩
     ·exact .inl hag
     ·exact .inr ⟨hag,by rw[List.length_take]at l2⊢;omega⟩)
    have q:=hg he1 (hu.take m) (hv.take m) q1 q2
    have ih:=E2e hm hg ha c (pre1++us.take m) (pre2++vs.take m) (i+1) he2 (hu.drop m) (hv.drop m) (by simp[h1,Nat.succ_mul];omega) (by simp[h2,Nat.succ_mul];omega)
    simp only[List.append_assoc,List.take_append_drop]at ih
    rw[D1r]
    rw[List.range'_succ]
    simp only[Op.eqItems]
    rw[h1]at p1
    rw[h2]at p2
    simp only[Sem.run_bind,p1,p2,q,Result.andThen_ok]
    cases hb:(den ρ e1).toBool
    ·simp
    ·simp[ih]
   ·cases he
  ·cases he
theorem B9o:∀(n k:Nat) {t:TypeId} {cs ds:List C} {e:E} {us vs:List Value} {u v:Value},eqT P n t cs ds=some e→RCL P w F ρ β cs us→RCL P w F ρ β ds vs→VOf P t us u→VOf P t vs v→(Op.equalIn (n+k) t u v).run P w=.ok (den ρ e).toBool w
 |0,k,t,cs,ds,e,us,vs,u,v,h,hu,hv,q1,q2=>by simp[eqT]at h
 |n+1,k,t,cs,ds,e,us,vs,u,v,h,hu,hv,q1,q2=>by
  have hag:=C1w h
  rw[show n+1+k=(n+k)+1 by omega]
  simp only[eqT]at h
  split at h
  ·rename_i fs hun
   split at h
   ·cases h
   rename_i hst
   have ha:A1d P t=some true:=by simp[A1d,hun]
   obtain⟨_,rfl⟩:A1d P t=some true∧u=.agg us.toArray:=by rcases q1 with q|q;exact q;rw[ha]at q;cases q.1
   obtain⟨_,rfl⟩:A1d P t=some true∧v=.agg vs.toArray:=by rcases q2 with q|q;exact q;rw[ha]at q;cases q.1
   have hfo:P.fieldsOf t=fs:=by simp[Program.fieldsOf,hun]
   have hfs:P.underlying t=some (.struct (P.fieldsOf t)):=by rw[hfo];exact hun
   rw[run_equalIn_struct w (n+k) t _ _ hfs (by simpa using hst),hfo]
   exact D9p (fun a b c d e=>B9o n k a b c d e) (fun a=>C1w a) fs.toList [] [] 0 h hu hv rfl rfl
  ·rename_i c e' hun
   split at h
   ·rename_i m hm
    have ha:A1d P t=some true:=by simp[A1d,hun]
    obtain⟨_,rfl⟩:A1d P t=some true∧u=.agg us.toArray:=by rcases q1 with q|q;exact q;rw[ha]at q;cases q.1
    obtain⟨_,rfl⟩:A1d P t=some true∧v=.agg vs.toArray:=by rcases q2 with q|q;exact q;rw[ha]at q;cases q.1
    obtain⟨i,hi,hsz⟩:∃i,P.info? e'=some i∧i.size=m:=by simpa[A3e]using hm
    rw[run_equalIn_array w (n+k) _ _ hun hi,List.range_eq_range']
    have hce:P.cellsOf e'=m:=by simp[Program.cellsOf,hi,hsz]
    rw[hce]
    exact E2e hm (fun a b c d e=>B9o n k a b c d e) (fun a=>C1w a) c [] [] 0 h hu hv (by simp) (by simp)
   ·cases h
  ·rename_i h1 h2
   split at h
   ·rename_i c d
    split at h
    ·rename_i hs
     obtain⟨e1,e2⟩:=G3g h (u:=us.headD undef) (v:=vs.headD undef) (hu.2 0 c _ rfl (by have:=hu.1;cases us with|nil=>simp at this|cons x us=>rfl)) (hv.2 0 d _ rfl (by have:=hv.1;cases vs with|nil=>simp at this|cons x us=>rfl)) (t:=t) (n+k) hs
     obtain⟨_,rfl⟩:A1d P t=some false∧us=[u]:=by rcases q1 with q|q;(rw[e2]at q;cases q.1);exact q
     obtain⟨_,rfl⟩:A1d P t=some false∧vs=[v]:=by rcases q2 with q|q;(rw[e2]at q;cases q.1);exact q
     exact e1
    ·cases h
   ·cases h
theorem G6w(hs:Sat X ρ st F β a w){o:Oper}{op:BinOp}{t yt:TypeId}{x y:Operand}(ho:o.op=.binOp op t x y yt){es:List E}{sv:SV}{nb:Option Box}(h:F8u X.P st op t x y=some (es,sv,nb))
  (hes:∀e ∈ es,(den ρ e).toBool=true) (nn:Nat):A7j X.P w F ρ β nn sv nb ((execOp a.eval o).run X.P w):=by
 unfold F8u at h
 split at h
 ·rename_i ca cb hx hy
  have h1:RC X.P w F ρ β ca (a.eval x):=A3b hs hx
  have h2:RC X.P w F ρ β cb (a.eval y):=A3b hs hy
  split at h
  ·rename_i u v
   split at h
   ·rename_i hc
    obtain⟨⟨es',c⟩,hb,e⟩:=A6u h
    cases e
    obtain⟨r,hr1,hr2⟩:=E7p hb h1 h2 hes (x:=x) (y:=y) (fun _ _=>hc)
    refine⟨r,?_,hr2⟩
    simp only[execOp,ho]
    rw[Sem.run_bind,hr1]
    rfl
   ·cases h
  ·rename_i hne
   obtain⟨⟨es',c⟩,hb,e⟩:=A6u h
   cases e
   obtain⟨r,hr1,hr2⟩:=E7p hb h1 h2 hes (x:=x) (y:=y) (fun e he=>by
    exfalso
    subst he
    unfold bin at hb
    split at hb<;>first|(rename_i heq;cases heq;done)|skip
    all_goals first|(rename_i h1 _ heq;cases heq;done)|skip
    ·rename_i heq;cases heq;exact hne _ _ rfl rfl
    ·cases hb)
   refine⟨r,?_,hr2⟩
   simp only[execOp,ho]
   rw[Sem.run_bind,hr1]
   rfl
 ·rename_i cs ds hx hy
  split at h
  ·rename_i hc
   obtain⟨hag,hg⟩:=hc
   obtain⟨us,e1,hus⟩:=A3b hs hx
   obtain⟨vs,e2,hvs⟩:=A3b hs hy
   split at h
   ·rename_i e he
    simp at h;obtain⟨rfl,rfl,rfl⟩:=h
    have:=B9o 8 9992 he hus hvs (.inl ⟨hag,rfl⟩) (.inl ⟨hag,rfl⟩)
    refine⟨.bool (den ρ e).toBool,?_,Rd.bool rfl⟩
    simp only[execOp,ho,e1,e2,Sem.run_bind,run_eqGuard_agg w _ _ _ _ _ _ hg,Result.andThen_ok,run_eql_struct]
    rw[this]
    rfl
   ·rename_i e he
    simp at h;obtain⟨rfl,rfl,rfl⟩:=h
    have:=B9o 8 9992 he hus hvs (.inl ⟨hag,rfl⟩) (.inl ⟨hag,rfl⟩)
    refine⟨.bool (!(den ρ e).toBool),?_,Rd.bool (by rw[A5k])⟩
    simp only[execOp,ho,e1,e2,Sem.run_bind,run_eqGuard_agg w _ _ _ _ _ _ hg,Result.andThen_ok,run_neq_struct]
    rw[this]
    rfl
   ·cases h
  ·cases h
 ·cases h
theorem G5h(hs:Sat X ρ st F β a w){o:Oper}{x:Operand}(ho:o.op=.nilCheck x){es:List E}{sv:SV}{nb:Option Box}(h:C8a st x=some (es,sv,nb))(hes:∀e ∈ es,(den ρ e).toBool=true)(nn:Nat):
  A7j X.P w F ρ β nn sv nb ((execOp a.eval o).run X.P w):=by
 unfold C8a at h
 split at h
 ·rename_i n off hx
  simp[ev1]at h;obtain⟨rfl,rfl,rfl⟩:=h
  have hr:=A0d hs hx
  obtain⟨b,h1,h2⟩:=hr
  exact⟨_,by simp[execOp,ho,h2],b,h1,rfl⟩
 ·rename_i t a' c hx
  simp[ev1]at h;obtain⟨rfl,rfl,rfl⟩:=h
  have hr:=A0d hs hx
  obtain⟨n,b,h1,h2,h3,h4⟩:=hr
  exact⟨_,by simp[execOp,ho,h4],n,b,h1,h2,h3,rfl⟩
 ·rename_i n t i c hx
  simp[ev1]at h;obtain⟨rfl,rfl,rfl⟩:=h
  have hr:=A0d hs hx
  obtain⟨b,o',len,cap,ts,h1,h2,h3,h4,h5⟩:=hr
  exact⟨_,by simp[execOp,ho,h5],b,o',len,cap,ts,h1,h2,h3,h4,rfl⟩
 ·rename_i t a' i c hx
  simp[ev1]at h;obtain⟨rfl,rfl,rfl⟩:=h
  have hr:=A0d hs hx
  obtain⟨b,o',len,cap,ts,h1,h2,h3,h4,h5⟩:=hr
  exact⟨_,by simp[execOp,ho,h5],b,o',len,cap,ts,h1,h2,h3,h4,rfl⟩
 ·rename_i e la hx
  have hr:=A0d hs hx
  have hr':Rd X.P w F (.ptr e) (den ρ la) (a.eval x):=hr
  split at h
  ·rename_i hcl
   simp at h;obtain⟨rfl,rfl,rfl⟩:=h
   have hn:=hes _ (List.mem_singleton.2 rfl)
   rw[A5k,A3m]at hn
   cases hr' with
   |B8i e1 e2=>rw[e1]at hn;simp at hn
   |B7r e0 e1 e2 e3=>
    rename_i n b
    exact⟨_,by simp[execOp,ho,e3],n,b,e0,e1,e2,rfl⟩
   |ptr e0 e1 e2 e3 e4 e5 e6 e7=>
    rw[hs.cf.2,hcl]at e0;cases e0
  ·rename_i hcl
   simp at h;obtain⟨rfl,rfl,rfl⟩:=h
   have hn:=hes _ (List.mem_singleton.2 rfl)
   rw[A5k,A3m]at hn
   cases hr' with
   |B8i e1 e2=>rw[e1]at hn;simp at hn
   |B7r e0 e1 e2 e3=>rw[hs.cf.2]at e0;exact absurd e0 hcl
   |ptr e0 e1 e2 e3 e4 e5 e6 e7=>
    rename_i b o' l ts g
    exact⟨_,by simp[execOp,ho,e2];rfl,b,o',by rw[←e2];exact hr,by simp[e2]⟩
 ·cases h
theorem E4c(hs:Sat X ρ st F β a w){o:Oper}{t:TypeId}{x i:Operand}(ho:o.op=.indexAddr t x i){es:List E}{sv:SV}{nb:Option Box}(h:C5p X.P st t x i=some (es,sv,nb))(hes:∀e ∈ es,(den ρ e).toBool=true)(nn:Nat):
  A7j X.P w F ρ β nn sv nb ((execOp a.eval o).run X.P w):=by
 unfold C5p at h
 split at h
 ·rename_i e e' la k j hu hx hi
  split at h
  ·rename_i hee
   subst hee
   split at h
   ·rename_i ts n hts hn
    split at h
    ·rename_i hlen
     simp at h;obtain⟨rfl,rfl,rfl⟩:=h
     have hr:Rd X.P w F (.slice e) (den ρ la) (a.eval x):=A0d hs hx
     have hj:=(A0d hs hi).A3a
     have h0:=hes _ (List.mem_cons_self ..)
     have h1:=hes (.cmp .lss j (.len la)) (by simp)
     rw[A4o]at h0
     have h0':(den ρ j).toInt≥0:=of_decide_eq_true h0
     have h1':(den ρ j).toInt<((den ρ la).toL.length:Int):=of_decide_eq_true h1
     have hlt:(den ρ j).toInt.toNat<(den ρ la).toL.length:=by omega
     have hr2:=hr
     cases hr with
     |snil e1 e2=>rw[e1]at hlt;simp at hlt
     |slice e1 e2 e3 e0 e4 e5 e6=>
      rename_i b o' len cap ts' g
      rw[hts]at e2;cases e2
      refine⟨.pointer (some ⟨b,o'+(den ρ j).toInt.toNat*ts.length+0,none⟩),?_,b,o',len,cap,ts,by rw[←e1];exact hr2,hts,h0',hlt,rfl⟩
      have hb:0≤(den ρ j).toInt∧(den ρ j).toInt<(len:Int):=⟨h0',by rw[e3];exact h1'⟩
      simp only[execOp,ho,Instr.indexAt,hj,e1,asIntOf,Sem.run_bind,Sem.run_pure,Result.andThen_ok,A0v hu,hb,and_self,if_true,A2r hn,A4n]
      rw[hlen]
      simp
    ·cases h
   ·cases h
  ·cases h
 ·rename_i e m k j hu hx hi
  split at h
  ·rename_i e' y hb
   split at h
   ·rename_i hee
    subst hee
    split at h
    ·rename_i ts n hts hn
     split at h
     ·rename_i hlen
      simp at h;obtain⟨rfl,rfl,rfl⟩:=h
      have hv:a.eval x=β m:=A0d hs hx
      have hj:=(A0d hs hi).A3a
      have h0:=hes _ (List.mem_cons_self ..)
      have h1:=hes (.cmp .lss j (.len y)) (by simp)
      rw[A4o]at h0
      have h0':(den ρ j).toInt≥0:=of_decide_eq_true h0
      have h1':(den ρ j).toInt<((den ρ y).toL.length:Int):=of_decide_eq_true h1
      obtain⟨ts',xs,hts',⟨_,hr⟩,_⟩:=A5v hs hb
      rcases hr with⟨⟨A,hr⟩,hn'⟩|⟨g,o1,cap,cur,hr,_,_,hcap0,_⟩
      ·rw[hn']at h1';simp at h1';omega
      ·refine⟨.pointer (some ⟨g,o1+(den ρ j).toInt.toNat*ts.length+0,none⟩),?_,g,o1,_,cap,ts,hr,hts,h0',by omega,rfl⟩
       have hb:0≤(den ρ j).toInt∧(den ρ j).toInt<((den ρ y).toL.length:Int):=⟨h0',h1'⟩
       simp only[execOp,ho,Instr.indexAt,hj,hv,hr,asIntOf,Sem.run_bind,Sem.run_pure,Result.andThen_ok,A0v hu,hb,and_self,if_true,A2r hn,A4n]
       rw[hlen]
       simp
     ·cases h
    ·cases h
   ·cases h
  ·cases h
 ·rename_i e n len k j hu hx hi
  split at h
  ·rename_i s hs'
   split at h
   ·rename_i hj
    simp[ev1]at h;obtain⟨rfl,rfl,rfl⟩:=h
    have hji:=(A0d hs hi).A3a
    obtain⟨b,h1,h2⟩:=A0d hs hx
    refine⟨.pointer (some ⟨b,0+j.toNat*s,none⟩),?_,b,h1,by rw[Nat.zero_add]⟩
    simp[execOp,ho,Instr.indexAt,hji,h2,asIntOf,A0v hu,Instr.sureAddr,den,hj,A2r hs',A4n]
   ·cases h
  ·cases h
 ·rename_i m e t' a' off k j hu hx hi
  split at h
  ·rename_i s hs'
   split at h
   ·rename_i hj
    simp[ev1]at h;obtain⟨rfl,rfl,rfl⟩:=h
    have hji:=(A0d hs hi).A3a
    obtain⟨n,b,h1,h2,h3,h4⟩:=A0d hs hx
    refine⟨.pointer (some ⟨b,off+j.toNat*s,none⟩),?_,n,b,h1,h2,h3,rfl⟩
    simp[execOp,ho,Instr.indexAt,hji,h4,asIntOf,A0v hu,Instr.sureAddr,den,hj,A2r hs',A4n]
   ·cases h
  ·cases h
 ·rename_i m e n off k j hu hx hi
  split at h
  ·rename_i s hs'
   split at h
   ·rename_i hj
    simp[ev1]at h;obtain⟨rfl,rfl,rfl⟩:=h
    have hji:=(A0d hs hi).A3a
    obtain⟨b,h1,h2⟩:=A0d hs hx
    refine⟨.pointer (some ⟨b,off+j.toNat*s,none⟩),?_,b,h1,rfl⟩
    simp[execOp,ho,Instr.indexAt,hji,h2,asIntOf,A0v hu,Instr.sureAddr,den,hj,A2r hs',A4n]
   ·cases h
  ·cases h
 ·rename_i m e n t' kk off k j hu hx hi
  split at h
  ·rename_i s hs'
   split at h
   ·rename_i hj
    simp[ev1]at h;obtain⟨rfl,rfl,rfl⟩:=h
    have hji:=(A0d hs hi).A3a
    obtain⟨b,o',len,cap,ts,h1,h2,h3,h4,h5⟩:=A0d hs hx
    refine⟨.pointer (some ⟨b,o'+(den ρ kk).toInt.toNat*ts.length+off+j.toNat*s,none⟩),?_,b,o',len,cap,ts,h1,h2,h3,h4,by rw[←Nat.add_assoc]⟩
    simp[execOp,ho,Instr.indexAt,hji,h5,asIntOf,A0v hu,Instr.sureAddr,den,hj,A2r hs',A4n]
   ·cases h
  ·cases h
 ·rename_i m e t' la kk off k j hu hx hi
  split at h
  ·rename_i hc
   obtain⟨rfl,rfl,rfl⟩:=hc
   split at h
   ·rename_i ts n hts hn
    split at h
    ·rename_i hlen
     simp only[Option.some.injEq,Prod.mk.injEq]at h;obtain⟨rfl,rfl,rfl⟩:=h
     have hj:=(A0d hs hi).A3a
     have h0:=hes _ (List.mem_cons_self ..)
     have h1:=hes (.cmp .lss j (.len la)) (by simp)
     have h2:=hes (.cmp .lss j (.int m)) (by simp)
     rw[A4o]at h0
     have h0':(den ρ j).toInt≥0:=of_decide_eq_true h0
     have h1':(den ρ j).toInt<((den ρ la).toL.length:Int):=of_decide_eq_true h1
     have h2':(den ρ j).toInt<(m:Int):=of_decide_eq_true h2
     obtain⟨b,o',len,cap,ts',g1,g2,g3,g4,g5⟩:=A0d hs hx
     rw[hts]at g2;cases g2
     refine⟨.pointer (some ⟨b,o'+(den ρ j).toInt.toNat*ts.length+0,none⟩),?_,b,o',len,cap,ts,g1,hts,h0',by omega,rfl⟩
     simp[den]at g5
     simp[execOp,ho,Instr.indexAt,hj,g5,asIntOf,A0v hu,Instr.sureAddr,h0',h2',A2r hn,A4n,hlen]
    ·cases h
   ·cases h
  ·split at h
   ·rename_i j s hs'
    split at h
    ·rename_i hj
     simp[ev1]at h;obtain⟨rfl,rfl,rfl⟩:=h
     have hji:=(A0d hs hi).A3a
     obtain⟨b,o',len,cap,ts,h1,h2,h3,h4,h5⟩:=A0d hs hx
     refine⟨.pointer (some ⟨b,o'+(den ρ kk).toInt.toNat*ts.length+off+j.toNat*s,none⟩),?_,b,o',len,cap,ts,h1,h2,h3,h4,by rw[←Nat.add_assoc]⟩
     simp[execOp,ho,Instr.indexAt,hji,h5,asIntOf,A0v hu,Instr.sureAddr,den,hj,A2r hs',A4n]
    ·cases h
   ·cases h
 ·rename_i m e t' la off k j hu hx hi
  split at h
  ·rename_i s hs'
   split at h
   ·rename_i hj
    simp[ev1]at h;obtain⟨rfl,rfl,rfl⟩:=h
    have hji:=(A0d hs hi).A3a
    obtain⟨b,o',h1,h5⟩:=A0d hs hx
    refine⟨.pointer (some ⟨b,o'+off+j.toNat*s,none⟩),?_,b,o',h1,by rw[←Nat.add_assoc]⟩
    simp[execOp,ho,Instr.indexAt,hji,h5,asIntOf,A0v hu,Instr.sureAddr,den,hj,A2r hs',A4n]
   ·cases h
  ·cases h
 ·cases h
theorem E0j:∀(es:List E),den ρ (A3y es)=.agg (es.map (den ρ))
 |[]=>rfl
 |e::es=>by simp[A3y,den,E0j es]
theorem E1k{t:Ty}:∀{cs:List C} {es:List E} {vs:List Value},D8x t cs=some es→RCL P w F ρ β cs vs→vs.length=es.length∧∀(i:Nat) (e:E) (v:Value),es[i]?=some e→vs[i]?=some v→Rd P w F t (den ρ e) v
 |[],es,vs,h,hr=>by
  simp only[D8x,Option.some.injEq]at h
  subst h
  exact⟨hr.1.symm,fun i e v h=>by simp at h⟩
 |c::cs,es,[],h,hr=>by have:=hr.1;simp at this
 |c::cs,es,v::vs,h,hr=>by
  have hr1:RCL P w F ρ β cs vs:=⟨by have:=hr.1;simpa using this,fun i c v h1 h2=>hr.2 (i+1) c v h1 h2⟩
  have hr0:=hr.2 0 c v rfl rfl
  cases c with
  |dat u e=>
   simp only[D8x]at h
   split at h
   ·rename_i hu
    subst hu
    cases hq:D8x u cs with
    |none=>rw[hq]at h;cases h
    |some es'=>
     rw[hq]at h
     simp only[Option.map_some,Option.some.injEq]at h
     subst h
     obtain⟨q1,q2⟩:=E1k hq hr1
     refine⟨by simp[q1],fun i=>?_⟩
     cases i with
     |zero=>intro e' v' h1 h2;simp at h1 h2;subst h1 h2;exact hr0
     |succ i=>intro e' v' h1 h2;exact q2 i e' v' (by simpa using h1) (by simpa using h2)
   ·cases h
  |_=>simp[D8x]at h
theorem G0d(hs:Sat X ρ st F β a w){o:Oper}{t:TypeId}{x i:Operand}(ho:o.op=.index t x i){es:List E}{sv:SV}{nb:Option Box}(h:E4w X.P st t x i=some (es,sv,nb))(hes:∀e ∈ es,(den ρ e).toBool=true)(nn:Nat):
  A7j X.P w F ρ β nn sv nb ((execOp a.eval o).run X.P w):=by
 unfold E4w at h
 split at h
 ·rename_i la k j hu hx hi
  simp at h;obtain⟨rfl,rfl,rfl⟩:=h
  have hxv:=(A0d hs hx).B1y
  have hj:=(A0d hs hi).A3a
  have h0:=hes _ (List.mem_cons_self ..)
  have h1:=hes (.cmp .lss j (.B4f la)) (by simp)
  rw[A4o]at h0
  have h0':(den ρ j).toInt≥0:=of_decide_eq_true h0
  have h1':(den ρ j).toInt<((den ρ la).toStr.size:Int):=of_decide_eq_true h1
  have hlt:(den ρ j).toInt.toNat<(den ρ la).toStr.size:=by omega
  refine⟨.int .u8 ((den ρ la).toStr[(den ρ j).toInt.toNat]).toNat,?_,Rd.int ?_⟩
  ·simp[execOp,ho,Instr.index,hxv,hj,asIntOf,A0v hu,h0',getElem?_pos,hlt]
  ·simp only[den,D.toInt_int,Array.getD_eq_getD_getElem?]
   rw[Array.getElem?_eq_getElem (by simpa using hlt)]
   rfl
 ·rename_i len e k j hu hi
  split at h
  ·rename_i cs t hx hct hsz
   split at h
   ·rename_i es hm
    split at h
    ·rename_i ha
     simp only[Option.some.injEq,Prod.mk.injEq]at h
     obtain⟨rfl,rfl,rfl⟩:=h
     have hj:=(A0d hs hi).A3a
     have h0:=hes _ (List.mem_cons_self ..)
     have h1:=hes (.cmp .lss j (.int len)) (by simp)
     rw[A4o]at h0
     have h0':(den ρ j).toInt≥0:=of_decide_eq_true h0
     have h1':(den ρ j).toInt<(len:Int):=of_decide_eq_true h1
     have hlt:(den ρ j).toInt.toNat<len:=by omega
     obtain⟨vs,e1,hl⟩:∃vs:List Value,a.eval x=.agg vs.toArray∧RCL X.P w F ρ β cs vs:=A3b hs hx
     obtain⟨m1,m3⟩:=E1k hm hl
     have m2:vs.length=len:=by rw[m1,ha.2]
     have hv:vs[(den ρ j).toInt.toNat]?=some vs[(den ρ j).toInt.toNat]:=List.getElem?_eq_getElem (by omega)
     refine⟨vs[(den ρ j).toInt.toNat]'(by omega),?_,?_⟩
     ·have hb:0≤(den ρ j).toInt∧(den ρ j).toInt<(len:Int):=⟨h0',h1'⟩
      simp only[execOp,ho,Instr.index,hj,e1,asIntOf,Sem.run_bind,Sem.run_pure,Result.andThen_ok,A0v hu,hb,and_self,if_true,A2r hsz,part,B1e ha.1,Nat.mul_one,Bool.false_eq_true,if_false]
      simp[hv]
     ·show Rd X.P w F t (den ρ (.get (A3y es) j)) _
      have he:es[(den ρ j).toInt.toNat]?=some es[(den ρ j).toInt.toNat]:=List.getElem?_eq_getElem (by omega)
      have:=m3 (den ρ j).toInt.toNat _ _ he hv
      simp only[den,E0j,D.A0f,List.getD_eq_getElem?_getD,List.getElem?_map,he]
      exact this
    ·cases h
   ·cases h
  ·cases h
 ·cases h
theorem C4i{i:Value}{y:Nat}{code:BoundsCode}{k:IntKind}{n:Int}(hi:i=.int k n)(h0:0≤n)(h1:n≤y):(Instr.sliceBound i y code).run P w=.ok n.toNat w:=by
 subst hi
 simp[Instr.sliceBound,asIntOf,h0,h1]
theorem D2h(hs:Sat X ρ st F β a w){x:Option Operand}{d e:E}(h:A9a st x d=some e):(x=none∧e=d)∨∃y k,x=some y∧a.eval y=.int k (den ρ e).toInt:=by
 unfold A9a at h
 split at h
 ·simp at h;exact .inl ⟨rfl,h.symm⟩
 ·rename_i y
  split at h
  ·rename_i k e' hc
   simp at h;subst h
   exact .inr ⟨y,k,rfl,(A0d hs hc).A3a⟩
  ·cases h
theorem C1q(hs:Sat X ρ st F β a w){lo hi:Option Operand}{l h d:E}(hl:A9a st lo (.int 0)=some l)(hh:A9a st hi d=some h){len cap:Nat}(hd:(den ρ d).toInt=len)(h0:0≤(den ρ l).toInt)(h1:(den ρ l).toInt≤(den ρ h).toInt)(h2:(den ρ h).toInt≤len)(hc:len≤cap)(b:Bool):
  (Instr.sliceBounds b len cap (lo.map a.eval) (hi.map a.eval) none).run P w=.ok ((den ρ l).toInt.toNat,(den ρ h).toInt.toNat,cap) w:=by
 rcases D2h hs hh with⟨rfl,rfl⟩|⟨y,k,rfl,hy⟩<;>rcases D2h hs hl with⟨rfl,rfl⟩|⟨y',k',rfl,hy'⟩
 ·simp[Instr.sliceBounds,den,hd]
 ·simp[Instr.sliceBounds,hd,C4i hy' h0 (show(den ρ l).toInt≤((len:Nat):Int)by omega)]
 ·simp[Instr.sliceBounds,den,C4i hy (show 0≤(den ρ h).toInt by omega) (show(den ρ h).toInt≤((cap:Nat):Int)by omega)]
 ·simp[Instr.sliceBounds,C4i hy (show 0≤(den ρ h).toInt by omega) (show(den ρ h).toInt≤((cap:Nat):Int)by omega),C4i hy' h0 (show(den ρ l).toInt≤(((den ρ h).toInt.toNat:Nat):Int)by omega)]
theorem F8g(hs:Sat X ρ st F β a w){o:Oper}{t:TypeId}{x:Operand}{lo hi mx:Option Operand}(ho:o.op=.slice t x lo hi mx){es:List E}{sv:SV}{nb:Option Box}(h:E3m X.P st t x lo hi mx=some (es,sv,nb))(hes:∀e ∈ es,(den ρ e).toBool=true)(nn:Nat):
  A7j X.P w F ρ β nn sv nb ((execOp a.eval o).run X.P w):=by
 unfold E3m at h
 split at h
 ·rename_i e e' la hu hx
  split at h
  ·rename_i l hh ts n hl hhi hts hn
   split at h
   ·rename_i hc
    obtain⟨rfl,hlen⟩:=hc
    simp at h;obtain⟨rfl,rfl,rfl⟩:=h
    have hr:Rd X.P w F (.slice e) (den ρ la) (a.eval x):=A0d hs hx
    have h0:(0:Int)≤(den ρ l).toInt:=of_decide_eq_true (hes (.cmp .leq (.int 0) l) (by simp))
    have h1:(den ρ l).toInt≤(den ρ hh).toInt:=of_decide_eq_true (hes (.cmp .leq l hh) (by simp))
    have h2:(den ρ hh).toInt≤((den ρ la).toL.length:Int):=of_decide_eq_true (hes (.cmp .leq hh (.len la)) (by simp))
    have hfin:∀A len cap,a.eval x=.slice A len cap→len=(den ρ la).toL.length→len≤cap→(execOp a.eval o).run X.P w=.ok (.value (.slice (if cap=(den ρ l).toInt.toNat then A else A.map (·.add ((den ρ l).toInt.toNat*n))) ((den ρ hh).toInt.toNat-(den ρ l).toInt.toNat) (cap-(den ρ l).toInt.toNat))) w:=by
     intro A len cap e1 e2 e3
     subst e2
     have:=C1q (P:=X.P) hs hl hhi (len:=(den ρ la).toL.length) (cap:=cap) rfl h0 h1 h2 e3 true
     simp only[execOp,ho,Instr.sliceAt,Sem.run_bind,A0v hu,Result.andThen_ok,Instr.slice,e1,this,A2r hn,Sem.run_pure,Option.map_none]
    have hsub:(den ρ (.sub la l hh)).toL=((den ρ la).toL.drop (den ρ l).toInt.toNat).take ((den ρ hh).toInt.toNat-(den ρ l).toInt.toNat):=rfl
    have hsl:(den ρ (.sub la l hh)).toL.length=(den ρ hh).toInt.toNat-(den ρ l).toInt.toNat:=by
     rw[hsub,List.length_take,List.length_drop];omega
    cases hr with
    |snil e1 e2=>
     rw[e1]at h2
     simp at h2
     have hz:(den ρ hh).toInt.toNat-(den ρ l).toInt.toNat=0:=by omega
     refine⟨_,hfin _ _ _ e2 (by rw[e1];rfl) (Nat.zero_le _),?_⟩
     rw[hz]
     exact Rd.snil (List.eq_nil_of_length_eq_zero (by rw[hsl,hz])) rfl
    |slice e1 e2 e3 e0 e4 e5 e6=>
     rename_i b o' len cap ts' g
     rw[hts]at e2;cases e2
     refine⟨_,hfin _ _ _ e1 e3 e0,?_⟩
     by_cases hz:(den ρ hh).toInt.toNat-(den ρ l).toInt.toNat=0
     ·rw[hz]
      exact Rd.snil (List.eq_nil_of_length_eq_zero (by rw[hsl,hz])) rfl
     ·rw[if_neg (by omega)]
      refine Rd.slice (b:=b) (o:=o'+(den ρ l).toInt.toNat*n) (len:=(den ρ hh).toInt.toNat-(den ρ l).toInt.toNat) (cap:=cap-(den ρ l).toInt.toNat) (g:=fun i c=>g ((den ρ l).toInt.toNat+i) c) ?_ hts hsl.symm (by omega) e4 ?_ ?_
      ·simp[A4n]
      ·intro i c hi hc
       rw[hsl]at hi
       have:=e5 ((den ρ l).toInt.toNat+i) c (by omega) hc
       rw[Nat.add_mul,←Nat.add_assoc]at this
       rw[←hlen]
       exact this
      ·intro i c x t hx ht
       rw[hsub,List.getElem?_take]at hx
       split at hx
       ·rw[List.getElem?_drop]at hx
        exact e6 _ c x t hx ht
       ·cases hx
   ·cases h
  ·cases h
 ·rename_i la hu hx
  split at h
  ·rename_i l hh hl hhi
   simp at h;obtain⟨rfl,rfl,rfl⟩:=h
   have hr:=(A0d hs hx).B1y
   have h0:(0:Int)≤(den ρ l).toInt:=of_decide_eq_true (hes (.cmp .leq (.int 0) l) (by simp))
   have h1:(den ρ l).toInt≤(den ρ hh).toInt:=of_decide_eq_true (hes (.cmp .leq l hh) (by simp))
   have h2:(den ρ hh).toInt≤((den ρ la).toStr.size:Int):=of_decide_eq_true (hes (.cmp .leq hh (.B4f la)) (by simp))
   have:=C1q (P:=X.P) hs hl hhi (len:=(den ρ la).toStr.size) (cap:=(den ρ la).toStr.size) rfl h0 h1 h2 (Nat.le_refl _) false
   refine⟨.string ((den ρ la).toStr.extract (den ρ l).toInt.toNat (den ρ hh).toInt.toNat),?_,Rd.str rfl⟩
   simp only[execOp,ho,Instr.sliceAt,Sem.run_bind,A0v hu,Result.andThen_ok,Instr.slice,hr,this,Sem.run_pure,Option.map_none,Option.isSome_none,Bool.false_eq_true,if_false]
  ·cases h
 ·cases h
theorem F7e(hs:Sat X ρ st F β a w){o:Oper}{mx:Bool}{x y:Operand}{c:Call}(ho:o.op=.call c)(h1:c.callee=.builtin (if mx then .max else .min))(h2:c.args=#[x,y]){es:List E}{sv:SV}{nb:Option Box}(h:G0k st mx x y=some (es,sv,nb))(nn:Nat):
  A7j X.P w F ρ β nn sv nb ((execOp a.eval o).run X.P w):=by
 unfold G0k at h
 split at h
 ·rename_i k la k' lb hx hy
  split at h
  ·rename_i hk
   subst hk
   simp[ev1]at h;obtain⟨rfl,rfl,rfl⟩:=h
   have e1:=(A0d hs hx).A3a
   have e2:=(A0d hs hy).A3a
   obtain⟨c1,c2,c3⟩:=c
   simp only at h1 h2
   subst h1 h2
   cases mx
   ·refine⟨.int k (if(den ρ lb).toInt<(den ρ la).toInt then(den ρ lb).toInt else(den ρ la).toInt),?_,Rd.int ?_⟩
    ·simp[execOp,ho,resolve,invoke,builtin,Builtin.min_,Builtin.min2,e1,e2]
    ·rw[C5k,A4o]
     simp only[C2n,D.A1b]
     by_cases hlt:(den ρ lb).toInt<(den ρ la).toInt<;>simp[hlt]
   ·refine⟨.int k (if(den ρ lb).toInt>(den ρ la).toInt then(den ρ lb).toInt else(den ρ la).toInt),?_,Rd.int ?_⟩
    ·simp[execOp,ho,resolve,invoke,builtin,Builtin.max_,Builtin.max2,e1,e2]
    ·rw[C5k,A4o]
     simp only[C2n,D.A1b]
     by_cases hlt:(den ρ lb).toInt>(den ρ la).toInt<;>simp[hlt]
  ·cases h
 ·cases h
theorem D4u{l:List D}{i:Nat}(h:i<l.length):l.getD i .nil=l[i]:=by rw[List.getD_eq_getElem?_getD,List.getElem?_eq_getElem h];rfl
theorem B1w:∀{ts:List Ty} {ks:List Nat},A5j ts=some ks→ks.length=ts.length∧∀t ∈ ts,(B0g t).isSome=true
 |[],ks,h=>by simp[A5j]at h;subst h;exact⟨rfl,fun t h=>by cases h⟩
 |t::ts,ks,h=>by
  simp only[A5j]at h
  split at h
  ·rename_i k ks' h1 h2
   simp at h;subst h
   obtain⟨a,b⟩:=B1w h2
   exact⟨by simp[a],fun u hu=>by rcases List.mem_cons.1 hu with rfl|hu;(rw[h1];rfl);exact b u hu⟩
  ·cases h
theorem D9a{P:Program}{w:World}{F:Fr}{t:Ty}{d:D}{v:Value}(h:(B0g t).isSome=true)(hr:Rd P w F t d v):v=B3v t d:=by
 cases t<;>simp[B0g]at h
 ·exact hr.A3a
 ·exact hr.A5z
 ·exact hr.B1y
theorem F4g{P:Program}{w:World}{F:Fr}{t:Ty}{d:D}(h:(B0g t).isSome=true):Rd P w F t d (B3v t d):=by
 cases t<;>simp[B0g]at h
 ·exact .int rfl
 ·exact .bool rfl
 ·exact .str rfl
theorem B3e(n:Nat):∀(ts:List Ty) (c0:Nat) (d:D) (c:Nat),(A3u n ts c0 d)[c]?=ts[c]?.map fun t=>B3v t (cellOf n d (c0+c))
 |[],_,_,_=>by simp[A3u]
 |t::ts,c0,d,0=>by simp[A3u]
 |t::ts,c0,d,c+1=>by
  simp only[A3u,List.getElem?_cons_succ]
  rw[B3e n ts (c0+1) d c,show c0+1+c=c0+(c+1)by omega]
theorem B2f(n:Nat):∀(ts:List Ty) (c0:Nat) (d:D),(A3u n ts c0 d).length=ts.length
 |[],_,_=>rfl
 |t::ts,c0,d=>by simp[A3u,B2f n ts]
theorem F1r{ρ':List D}(n:Nat)(A B:D):∀(ts:List Ty) (a b c0:Nat) (e:E) (ks:List Nat),D7s ts a b=some e→A5j ts=some ks→
  (∀c,c<ts.length→ρ'.getD (a+c) .nil=cellOf n A (c0+c))→(∀c,c<ts.length→ρ'.getD (b+c) .nil=cellOf n B (c0+c))→(den ρ' e).toBool=B2u n ks c0 A B
 |[],a,b,c0,e,ks,h,hk,h1,h2=>by simp[D7s]at h;simp[A5j]at hk;subst h hk;rfl
 |t::ts,a,b,c0,e,ks,h,hk,h1,h2=>by
  simp only[D7s]at h
  simp only[A5j]at hk
  split at h
  ·rename_i e1 e2 he1 he2
   split at hk
   ·rename_i q ks' hq hks
    simp at h hk;subst h hk
    rw[D1r]
    have ih:=F1r n A B ts (a+1) (b+1) (c0+1) e2 ks' he2 hks (fun c hc=>by rw[show a+1+c=a+(c+1)by omega,h1 (c+1) (by simp;omega),show c0+(c+1)=c0+1+c by omega]) (fun c hc=>by rw[show b+1+c=b+(c+1)by omega,h2 (c+1) (by simp;omega),show c0+(c+1)=c0+1+c by omega])
    rw[ih]
    simp only[B2u]
    congr 1
    have g1:ρ'.getD a .nil=cellOf n A c0:=h1 0 (by simp)
    have g2:ρ'.getD b .nil=cellOf n B c0:=h2 0 (by simp)
    cases t<;>simp[eqC]at he1<;>simp[B0g]at hq<;>subst he1 hq
    ·rw[A4o];simp only[den,g1,g2];rfl
    ·rw[C5h];simp only[den,g1,g2];rfl
    ·simp only[den,g1,g2];rfl
   ·cases hk
  ·cases h
def C2e(n:Nat)(A B:D):List D:=(List.range n).map (cellOf n A)++(List.range n).map (cellOf n B)
theorem E7t(n:Nat)(A B:D)(c:Nat)(h:c<n):(C2e n A B).getD c .nil=cellOf n A c:=by
 simp[C2e,List.getD_eq_getElem?_getD,List.getElem?_append_left,h]
theorem E5y(n:Nat)(A B:D)(c:Nat)(h:c<n):(C2e n A B).getD (n+c) .nil=cellOf n B c:=by
 simp[C2e,List.getD_eq_getElem?_getD,List.getElem?_append_right,h]
theorem E5l:∀(ts:List Ty) (a i:Nat) (c:C),(vrs ts a)[i]?=some c→∃t,ts[i]?=some t∧c=.dat t (.var (a+i))
 |[],a,i,c,h=>by simp[vrs]at h
 |t::ts,a,0,c,h=>by simp[vrs]at h;subst h;exact⟨t,rfl,rfl⟩
 |t::ts,a,i+1,c,h=>by
  simp only[vrs,List.getElem?_cons_succ]at h
  obtain⟨u,h1,rfl⟩:=E5l ts (a+1) i c h
  exact⟨u,by simpa using h1,by rw[show a+1+i=a+(i+1)by omega]⟩
theorem D0v:∀(ts:List Ty) (a:Nat),(vrs ts a).length=ts.length
 |[],a=>rfl
 |t::ts,a=>by simp[vrs,D0v ts]
theorem B8g{P:Program}{k:TypeId}{ks:List Nat}{ts:List Ty}{g:Bool}(h:C0o P k=some ks)(hts:A0n P k=some ts)(hg:A1d P k=some g):
  ∃e,eqT P 8 k (vrs ts 0) (vrs ts ts.length)=some e∧D7s ts 0 ts.length=some e∧A5j ts=some ks∧0<ts.length∧(g=true∨ts.length=1):=by
 unfold C0o at h
 rw[hts,hg]at h
 simp only at h
 split at h
 ·rename_i hc
  obtain⟨h1,h2,h3,h4⟩:=hc
  obtain⟨e,he⟩:=Option.isSome_iff_exists.1 h2
  exact⟨e,by rw[h1,he],he,h,h3,h4⟩
 ·cases h
def A3i(g:Bool)(ts:List Ty)(A:D):Value:=valOf g (A3u ts.length ts 0 A)
theorem F1y{P:Program}{w:World}{F:Fr}{β:Nat→Value}{ts:List Ty}{ks:List Nat}(hk:A5j ts=some ks)(A B:D):
  RCL P w F (C2e ts.length A B) β (vrs ts 0) (A3u ts.length ts 0 A)∧RCL P w F (C2e ts.length A B) β (vrs ts ts.length) (A3u ts.length ts 0 B):=by
 have hf:=(B1w hk).2
 constructor
 ·refine⟨by rw[D0v,B2f],fun i c v hc hv=>?_⟩
  obtain⟨t,ht,rfl⟩:=E5l ts 0 i c hc
  rw[B3e,ht]at hv
  simp at hv;subst hv
  have hi:=(List.getElem?_eq_some_iff.1 ht).1
  show Rd P w F t (den _ (.var (0+i))) _
  simp only[den,Nat.zero_add,E7t ts.length A B i hi]
  exact F4g (hf t (List.mem_of_getElem? ht))
 ·refine⟨by rw[D0v,B2f],fun i c v hc hv=>?_⟩
  obtain⟨t,ht,rfl⟩:=E5l ts ts.length i c hc
  rw[B3e,ht]at hv
  simp at hv;subst hv
  have hi:=(List.getElem?_eq_some_iff.1 ht).1
  show Rd P w F t (den _ (.var (ts.length+i))) _
  simp only[den,E5y ts.length A B i hi]
  exact F4g (hf t (List.mem_of_getElem? ht))
theorem E4x{P:Program}{k:TypeId}{ts:List Ty}{g:Bool}(hg:A1d P k=some g)(h:g=true∨ts.length=1)(A:D):VOf P k (A3u ts.length ts 0 A) (A3i g ts A):=by
 cases g with
 |true=>exact .inl ⟨hg,rfl⟩
 |false=>
  have h1:ts.length=1:=by simpa using h
  refine .inr ⟨hg,?_⟩
  unfold A3i valOf
  match ts,h1 with
  |[t],_=>rfl
theorem E8e{P:Program}{w:World}{k:TypeId}{ks:List Nat}{ts:List Ty}{g:Bool}(h:C0o P k=some ks)(hts:A0n P k=some ts)(hg:A1d P k=some g)(A B:D):
  (Op.equal k (A3i g ts A) (A3i g ts B)).run P w=.ok (keq ks A B) w:=by
 obtain⟨e,h1,h2,h3,h4,h5⟩:=B8g h hts hg
 obtain⟨r1,r2⟩:=F1y (P:=P) (w:=w) (F:=⟨fun _=>False,[],[]⟩) (β:=fun _=>.nilIface) h3 A B
 have:=B9o 8 9992 h1 r1 r2 (E4x hg h5 A) (E4x hg h5 B)
 rw[F1r ts.length A B ts 0 ts.length 0 e ks h2 h3 (fun c hc=>by simp only[Nat.zero_add];exact E7t _ A B c hc) (fun c hc=>by simp only[Nat.zero_add];exact E5y _ A B c hc)]at this
 rw[keq,(B1w h3).1]
 exact this
theorem F7s{P:Program}{w:World}{F:Fr}{ρ:List D}{β:Nat→Value}{g:TypeId→List C→List C→Option E}
  (ha:∀{t:TypeId} {cs ds:List C} {e:E},g t cs ds=some e→A1d P t=some true∨(A1d P t=some false∧cs.length=1∧ds.length=1)):
  ∀(fs:List Field) {cs ds:List C} {us:List Value} {e:E} (pre:List Value) (n:Nat),C9g P g fs n cs ds=some e→RCL P w F ρ β cs us→pre.length=n→
  ∀f ∈ fs,f.name≠"_"∧∃a us' cs' ds' e',(part f.type (pre++us).toArray f.offset).run P w=.ok a w∧VOf P f.type us' a∧g f.type cs' ds'=some e'∧RCL P w F ρ β cs' us'
 |[],cs,ds,us,e,pre,n,he,hu,h1=>fun f hf=>by cases hf
 |f::fs,cs,ds,us,e,pre,n,he,hu,h1=>by
  simp only[C9g]at he
  split at he
  ·rename_i m hm
   split at he
   ·rename_i hc
    simp only[Bool.and_eq_true,decide_eq_true_eq]at hc
    obtain⟨⟨⟨hn,ho⟩,hl1⟩,hl2⟩:=hc
    split at he
    ·rename_i e1 e2 he1 he2
     have hoff:f.offset=n:=by simpa using ho
     have lu:m≤us.length:=by rw[←hu.1];exact hl1
     have hag:=ha he1
     obtain⟨u,p1,q1⟩:=C2a (P:=P) (w:=w) (pre:=pre) hm lu (by
      rcases hag with hag|⟨hag,l1,l2⟩
      ·exact .inl hag
      ·exact .inr ⟨hag,by have:=hu.1;rw[List.length_take]at l1⊢;omega⟩)
     have ih:=F7s ha fs (pre++us.take m) (n+m) he2 (hu.drop m) (by simp[h1];omega)
     simp only[List.append_assoc,List.take_append_drop]at ih
     intro f' hf'
     rcases List.mem_cons.1 hf' with rfl|hf'
     ·rw[h1]at p1
      exact⟨by simpa using hn,u,_,_,_,_,by rw[hoff];exact p1,q1,he1,hu.take m⟩
     ·exact ih f' hf'
    ·cases he
   ·cases he
  ·cases he
theorem F6z{P:Program}{w:World}{F:Fr}{ρ:List D}{β:Nat→Value}{g:List C→List C→Option E}{t:TypeId}{m:Nat}(hm:A3e P t=some m)
  (ha:∀{cs ds:List C} {e:E},g cs ds=some e→A1d P t=some true∨(A1d P t=some false∧cs.length=1∧ds.length=1)):
  ∀(c:Nat) {cs ds:List C} {us:List Value} {e:E} (pre:List Value) (i:Nat),D0o g m c cs ds=some e→RCL P w F ρ β cs us→pre.length=i*m→
  ∀j ∈ List.range' i c,∃a us' cs' ds' e',(part t (pre++us).toArray (j*m)).run P w=.ok a w∧VOf P t us' a∧g cs' ds'=some e'∧RCL P w F ρ β cs' us'
 |0,cs,ds,us,e,pre,i,he,hu,h1=>fun j hj=>by simp at hj
 |c+1,cs,ds,us,e,pre,i,he,hu,h1=>by
  simp only[D0o]at he
  split at he
  ·rename_i hl
   obtain⟨hl1,hl2⟩:=hl
   split at he
   ·rename_i e1 e2 he1 he2
    have lu:m≤us.length:=by rw[←hu.1];exact hl1
    have hag:=ha he1
    obtain⟨u,p1,q1⟩:=C2a (P:=P) (w:=w) (pre:=pre) hm lu (by
     rcases hag with hag|⟨hag,l1,l2⟩
     ·exact .inl hag
     ·exact .inr ⟨hag,by have:=hu.1;rw[List.length_take]at l1⊢;omega⟩)
    have ih:=F6z hm ha c (pre++us.take m) (i+1) he2 (hu.drop m) (by simp[h1,Nat.succ_mul];omega)
    simp only[List.append_assoc,List.take_append_drop]at ih
    intro j hj
    rw[List.range'_succ]at hj
    rcases List.mem_cons.1 hj with rfl|hj
    ·rw[h1]at p1
     exact⟨u,_,_,_,_,p1,q1,he1,hu.take m⟩
    ·exact ih j hj
   ·cases he
  ·cases he
theorem C9o{P:Program}{w:World}{F:Fr}{ρ:List D}{β:Nat→Value}(em:Bool):∀(n k:Nat) {t:TypeId} {cs ds:List C} {e:E} {us:List Value} {u:Value},eqT P n t cs ds=some e→RCL P w F ρ β cs us→VOf P t us u→(Instr.checkKey em (n+k) t u).run P w=.ok () w
 |0,k,t,cs,ds,e,us,u,h,hu,q1=>by simp[eqT]at h
 |n+1,k,t,cs,ds,e,us,u,h,hu,q1=>by
  have hag:=C1w h
  rw[show n+1+k=(n+k)+1 by omega]
  simp only[eqT]at h
  split at h
  ·rename_i fs hun
   split at h
   ·cases h
   have ha:A1d P t=some true:=by simp[A1d,hun]
   obtain⟨_,rfl⟩:A1d P t=some true∧u=.agg us.toArray:=by rcases q1 with q|q;exact q;rw[ha]at q;cases q.1
   have each:=F7s (P:=P) (w:=w) (F:=F) (ρ:=ρ) (β:=β) (fun a=>C1w a) fs.toList [] 0 h hu rfl
   simp only[List.nil_append]at each
   rw[Instr.checkKey]
   simp only[Sem.run_bind,A0v hun,Result.andThen_ok]
   rw[←Array.forIn_toList]
   generalize fs.toList=L at each
   induction L with
   |nil=>simp
   |cons f L ih=>
    obtain⟨hn,a,us',cs',ds',e',p1,p2,p3,p4⟩:=each f (by simp)
    have p5:=C9o em n k p3 p4 p2
    simp only[List.forIn_cons,Sem.run_bind,hn,ne_eq,not_false_eq_true,if_true,Result.andThen_ok,p1,p5,Sem.run_pure]
    exact ih (fun y hy=>each y (by simp[hy]))
  ·rename_i c e' hun
   split at h
   ·rename_i m hm
    have ha:A1d P t=some true:=by simp[A1d,hun]
    obtain⟨_,rfl⟩:A1d P t=some true∧u=.agg us.toArray:=by rcases q1 with q|q;exact q;rw[ha]at q;cases q.1
    have each:=F6z (P:=P) (w:=w) (F:=F) (ρ:=ρ) (β:=β) hm (fun a=>C1w a) c [] 0 h hu (by simp)
    simp only[List.nil_append]at each
    rw[Instr.checkKey]
    simp only[Sem.run_bind,A0v hun,Result.andThen_ok]
    simp only[Std.Legacy.Range.forIn_eq_forIn_range',Std.Legacy.Range.size,Nat.sub_zero,Nat.add_one_sub_one,Nat.div_one]
    generalize List.range' 0 c=is at each
    induction is with
    |nil=>simp
    |cons j is ih=>
     obtain⟨a,us',cs',ds',e'',p1,p2,p3,p4⟩:=each j (by simp)
     have p5:=C9o em n k p3 p4 p2
     simp only[List.forIn_cons,Sem.run_bind,A2r hm,Result.andThen_ok,p1,p5,Sem.run_pure]
     exact ih (fun y hy=>each y (by simp[hy]))
   ·cases h
  ·rename_i h1 h2
   split at h
   ·rename_i c d
    split at h
    ·rename_i hs
     have hu0:RC P w F ρ β c (us.headD undef):=hu.2 0 c _ rfl (by have:=hu.1;cases us with|nil=>simp at this|cons x us=>rfl)
     have e2:A1d P t=some false:=by
      rcases hag with hag|hag
      ·unfold A1d at hag;split at hag
       ·rename_i hx;exact absurd hx (h1 _)
       ·rename_i hx;exact absurd hx (h2 _ _)
       ·cases hag
       ·cases hag
      ·exact hag.1
     obtain⟨_,rfl⟩:A1d P t=some false∧us=[u]:=by rcases q1 with q|q;(rw[e2]at q;cases q.1);exact q
     simp only[List.headD_cons]at hu0
     cases hun:P.underlying t with
     |none=>simp[scT,hun]at hs
     |some td=>
      refine Go.MapKept.run_checkKey hun ?_ em _
      rw[hun]at hs
      cases c<;>try(simp[scT]at hs;done)
      rename_i t1 x
      cases t1<;>cases td<;>try(simp[scT]at hs;done)
      ·rw[hu0.A3a];simp[scT]at hs;simp[Go.MapKept.IsKey,hs]
      ·rw[hu0.A5z];trivial
      ·rw[hu0.B1y];trivial
    ·cases h
   ·cases h
theorem D1f{P:Program}{w:World}{k:TypeId}{ks:List Nat}{ts:List Ty}{g:Bool}(h:C0o P k=some ks)(hts:A0n P k=some ts)(hg:A1d P k=some g)(em:Bool)(A:D):
  (Instr.checkKey em 10000 k (A3i g ts A)).run P w=.ok () w:=by
 obtain⟨e,h1,h2,h3,h4,h5⟩:=B8g h hts hg
 obtain⟨r1,r2⟩:=F1y (P:=P) (w:=w) (F:=⟨fun _=>False,[],[]⟩) (β:=fun _=>.nilIface) h3 A A
 exact C9o em 8 9992 h1 r1 (E4x hg h5 A)
theorem C1o(ks:List Nat)(d:D)(l:List D)(A:D):A1h ks (d::l) A=if keq ks A (d.toL.getD 0 .nil)=true then 0 else A1h ks l A+1:=by
 unfold A1h
 rw[List.findIdx_cons]
 cases keq ks A (d.toL.getD 0 .nil)<;>simp
theorem C6m{P:Program}{w:World}{k:TypeId}{ks:List Nat}{ts:List Ty}{g:Bool}(h:C0o P k=some ks)(hts:A0n P k=some ts)(hg:A1d P k=some g)(A:D):
  ∀(es:List MapEntry) (ds:List D) (i:Nat),es.length=ds.length→(∀(j:Nat) (e:MapEntry) (d:D),es[j]?=some e→ds[j]?=some d→e.key=A3i g ts (d.toL.getD 0 .nil))→
  (Instr.findAsking k (A3i g ts A) es i).run P w=.ok ((es[A1h ks ds A]?).map fun e=>(i+A1h ks ds A,e.val)) w
 |[],ds,i,hl,he=>by
  have:ds=[]:=List.eq_nil_of_length_eq_zero hl.symm
  subst this
  simp[Instr.findAsking]
 |e::es,[],i,hl,he=>by simp at hl
 |e::es,d::ds,i,hl,he=>by
  have h0:=he 0 e d rfl rfl
  simp only[Instr.findAsking,Sem.run_bind,h0,E8e h hts hg,Result.andThen_ok]
  rw[C1o]
  cases hq:keq ks A (d.toL.getD 0 .nil)with
  |true=>simp
  |false=>
   simp only[Bool.false_eq_true,if_false]
   rw[C6m h hts hg A es ds (i+1) (by simpa using hl) (fun j e d a b=>he (j+1) e d (by simpa using a) (by simpa using b))]
   simp only[List.getElem?_cons_succ]
   rw[show i+1+A1h ks ds A=i+(A1h ks ds A+1)by omega]
theorem F4s{P:Program}{k:TypeId}{td:TypeDesc}(hu:P.underlying k=some td){ks:List Nat}{ts:List Ty}(h:C0o P k=some ks)(hts:A0n P k=some ts)(hg:A1d P k=some false)(A:D):
  ∀(es:List MapEntry) (ds:List D) (i:Nat),es.length=ds.length→(∀(j:Nat) (e:MapEntry) (d:D),es[j]?=some e→ds[j]?=some d→e.key=A3i false ts (d.toL.getD 0 .nil))→
  Instr.findNow td (A3i false ts A) es i=some ((es[A1h ks ds A]?).map fun e=>(i+A1h ks ds A,e.val)):=by
 obtain⟨e,h1,h2,h3,h4,h5⟩:=B8g h hts hg
 have hl1:ts.length=1:=by simpa using h5
 have same:∀B:D,Instr.sameNow td (A3i false ts A) (A3i false ts B)=some (keq ks A B):=by
  intro B
  match ts,hl1 with
  |[t],_=>
   have hs:scT (.dat t (.var 0)) (P.underlying k)=true:=by
    simp only[eqT]at h1
    rw[hu]at h1
    cases td<;>first
     |(exfalso;simp[A1d,hu]at hg;done)
     |(simp only[vrs]at h1;split at h1;(rename_i hx;rw[hu];exact hx);cases h1)
   rw[hu]at hs
   simp only[A5j]at h3
   cases t<;>simp[B0g]at h3<;>subst h3<;>cases td<;>try(simp[scT]at hs;done)
   ·simp[A3i,valOf,A3u,B3v,Instr.sameNow,keq,B2u,A8v,cellOf]
   ·simp[A3i,valOf,A3u,B3v,Instr.sameNow,keq,B2u,A8v,cellOf]
   ·simp[A3i,valOf,A3u,B3v,Instr.sameNow,keq,B2u,A8v,cellOf,beq_toListBytes]
 intro es
 induction es with
 |nil=>
  intro ds i hl he
  have:ds=[]:=List.eq_nil_of_length_eq_zero hl.symm
  subst this
  simp[Instr.findNow]
 |cons e es ih=>
  intro ds i hl he
  cases ds with
  |nil=>simp at hl
  |cons d ds=>
   have h0:=he 0 e d rfl rfl
   simp only[Instr.findNow,h0,same]
   rw[C1o]
   cases hq:keq ks A (d.toL.getD 0 .nil)with
   |true=>simp
   |false=>
    simp only[Bool.false_eq_true,if_false]
    rw[ih ds (i+1) (by simpa using hl) (fun j e d a b=>he (j+1) e d (by simpa using a) (by simpa using b))]
    simp only[List.getElem?_cons_succ]
    rw[show i+1+A1h ks ds A=i+(A1h ks ds A+1)by omega]
theorem D4p{P:Program}{w:World}{k:TypeId}{ks:List Nat}{ts:List Ty}{g:Bool}(h:C0o P k=some ks)(hts:A0n P k=some ts)(hg:A1d P k=some g)(A:D)
  (es:List MapEntry) (ds:List D) (hl:es.length=ds.length) (he:∀(j:Nat) (e:MapEntry) (d:D),es[j]?=some e→ds[j]?=some d→e.key=A3i g ts (d.toL.getD 0 .nil)):
  (Instr.findKey k (A3i g ts A) es).run P w=.ok ((es[A1h ks ds A]?).map fun e=>(A1h ks ds A,e.val)) w:=by
 cases g with
 |true=>
  have hw:(match P.underlying k with|some (.array _ _)|some (.struct _)=>true|_=>false)=true:=by
   unfold A1d at hg
   split at hg<;>simp_all
  have:=C6m (w:=w) h hts hg A es ds 0 hl he
  simp only[Nat.zero_add]at this
  rw[run_findKey_eq w hw]
  exact this
 |false=>
  cases hu:P.underlying k with
  |none=>simp[A1d,hu]at hg
  |some td=>
   have:=F4s hu h hts hg A es ds 0 hl he
   simp only[Nat.zero_add]at this
   exact Go.MapKept.run_findKey hu this
theorem C8x{ρ:List D}{us:List Ty}{es:List E}(hl:es.length=us.length){c:Nat}(hc:c<us.length):cellOf us.length (den ρ (C6c us es)) c=den ρ (es.getD c .nil):=by
 have hlist:∀l:List E,den ρ (A3y l)=.agg (l.map (den ρ)):=by
  intro l
  induction l with
  |nil=>rfl
  |cons x l ih=>simp[A3y,den,ih]
 unfold C6c cellOf
 split
 ·rename_i h1
  have:c=0:=by omega
  subst this
  cases es with
  |nil=>simp at hl;omega
  |cons x l=>cases l with
   |nil=>rfl
   |cons y l=>simp at hl;omega
 ·rw[hlist]
  simp only[D.A0f,List.getD_eq_getElem?_getD,List.getElem?_map]
  rw[List.getElem?_eq_getElem (by omega)]
  rfl
theorem C3a{P:Program}{w:World}{F:Fr}{ρ:List D}{β:Nat→Value}:∀{ts:List Ty} {cs:List C} {es:List E} {vs:List Value},A6j ts cs=some es→RCL P w F ρ β cs vs→
  es.length=ts.length∧vs.length=ts.length∧∀(c:Nat) (t:Ty) (u:Value),ts[c]?=some t→vs[c]?=some u→Rd P w F t (den ρ (es.getD c .nil)) u
 |[],[],es,vs,h,hr=>by
  simp[A6j]at h;subst h
  have:vs.length=0:=hr.1.symm
  exact⟨rfl,this,fun c t u ht=>by simp at ht⟩
 |[],c::cs,es,vs,h,hr=>by simp[A6j]at h
 |t::ts,[],es,vs,h,hr=>by simp[A6j]at h
 |t::ts,c::cs,es,[],h,hr=>by have:=hr.1;simp at this
 |t::ts,c::cs,es,v::vs,h,hr=>by
  simp only[A6j]at h
  split at h
  ·rename_i e es' h1 h2
   simp at h;subst h
   obtain⟨a,b,d⟩:=C3a h2 (hr.drop 1)
   refine⟨by simp[a],by simpa using b,fun i u v' hu hv=>?_⟩
   cases i with
   |zero=>simp at hu hv;subst hu hv;exact B0r h1 (hr.2 0 c v rfl rfl)
   |succ i=>exact d i u v' (by simpa using hu) (by simpa using hv)
  ·cases h
theorem B6a{P:Program}{w:World}{F:Fr}{ρ:List D}{β:Nat→Value}{ts:List Ty}{g:Bool}{sv:SV}{q:E}{v:Value}(h:C7u ts g sv=some q)(hv:RV P w F ρ β sv v):
  ∃vs:List Value,v=valOf g vs∧vs.length=ts.length∧(g=false→ts.length=1)∧∀(c:Nat) (t:Ty) (u:Value),ts[c]?=some t→vs[c]?=some u→Rd P w F t (cellOf ts.length (den ρ q) c) u:=by
 unfold C7u at h
 split at h
 ·rename_i cs
  obtain⟨es,h1,rfl⟩:∃es,A6j ts cs=some es∧C6c ts es=q:=by simpa[Option.map_eq_some_iff]using h
  obtain⟨vs,rfl,hr⟩:=hv
  obtain⟨a,b,d⟩:=C3a h1 hr
  exact⟨vs,rfl,b,(fun h=>by cases h),fun c t u ht hu=>by rw[C8x a (List.getElem?_eq_some_iff.1 ht).1];exact d c t u ht hu⟩
 ·rename_i c
  split at h
  ·rename_i hl
   obtain⟨es,h1,rfl⟩:∃es,A6j ts [c]=some es∧C6c ts es=q:=by simpa[Option.map_eq_some_iff]using h
   obtain⟨a,b,d⟩:=C3a h1 (RCL.cons (vs:=[]) hv RCL.nil)
   exact⟨[v],rfl,b,fun _=>hl,fun c t u ht hu=>by rw[C8x a (List.getElem?_eq_some_iff.1 ht).1];exact d c t u ht hu⟩
  ·cases h
 ·cases h
theorem E6c{P:Program}{w:World}{F:Fr}{ρ:List D}{ts:List Ty}{ks:List Nat}{g:Bool}{q:E}{v:Value}(hk:A5j ts=some ks)
  (h:∃vs:List Value,v=valOf g vs∧vs.length=ts.length∧(g=false→ts.length=1)∧∀(c:Nat) (t:Ty) (u:Value),ts[c]?=some t→vs[c]?=some u→Rd P w F t (cellOf ts.length (den ρ q) c) u):v=A3i g ts (den ρ q):=by
 obtain⟨vs,rfl,hl,_,hr⟩:=h
 unfold A3i
 congr 1
 refine List.ext_getElem? fun c=>?_
 rw[B3e]
 cases ht:ts[c]? with
 |none=>simp only[Option.map_none];exact List.getElem?_eq_none (by rw[hl];exact List.getElem?_eq_none_iff.1 ht)
 |some t=>
  have hc:c<vs.length:=by rw[hl];exact(List.getElem?_eq_some_iff.1 ht).1
  rw[List.getElem?_eq_getElem hc]
  simp only[Option.map_some,Nat.zero_add,Option.some.injEq]
  exact D9a ((B1w hk).2 t (List.mem_of_getElem? ht)) (hr c t _ ht (List.getElem?_eq_getElem hc))
theorem D3a{P:Program}{w:World}{F:Fr}{ρ:List D}{e:TypeId}{z:E}{us:List Ty}{g:Bool}(h:E3b P e=some z)(hus:A0n P e=some us)(hg:A1d P e=some g):
  ∃(v:Value) (vs:List Value),(zeroValue e).run P w=.ok v w∧v=valOf g vs∧vs.length=us.length∧∀(c:Nat) (t:Ty) (u:Value),us[c]?=some t→vs[c]?=some u→Rd P w F t (cellOf us.length (den ρ z) c) u:=by
 unfold E3b at h
 rw[hus,hg]at h
 split at h
 ·rename_i zs us' hz hg' hu'
  cases hg';cases hu'
  split at h
  ·rename_i cs hcs
   obtain⟨es,h1,rfl⟩:∃es,A6j us (D7h us cs)=some es∧C6c us es=z:=by simpa[Option.map_eq_some_iff]using h
   obtain⟨a,b,d⟩:=C3a (P:=P) (w:=w) (F:=F) (ρ:=ρ) (β:=fun _=>.nilIface) h1 (C1d (B6i hcs))
   exact⟨_,zs.toList,C8y hz,by simp[valOf],b,fun c t u ht hu=>by rw[C8x a (List.getElem?_eq_some_iff.1 ht).1];exact d c t u ht hu⟩
  ·cases h
 ·rename_i z0 us' hz hg' hu'
  cases hg';cases hu'
  split at h
  ·rename_i c hc
   split at h
   ·obtain⟨es,h1,rfl⟩:∃es,A6j us (D7h us [c])=some es∧C6c us es=z:=by simpa[Option.map_eq_some_iff]using h
    obtain⟨a,b,d⟩:=C3a (P:=P) (w:=w) (F:=F) (ρ:=ρ) (β:=fun _=>.nilIface) h1 (C1d (RCL.cons (vs:=[]) (C4p hc) RCL.nil))
    exact⟨_,[z0],C8y hz,rfl,b,fun c t u ht hu=>by rw[C8x a (List.getElem?_eq_some_iff.1 ht).1];exact d c t u ht hu⟩
   ·cases h
  ·cases h
 ·cases h
theorem E0s{P:Program}{w:World}{F:Fr}{ρ:List D}{β:Nat→Value}{us:List Ty}{g:Bool}{el:E}{v:Value}{vs:List Value}(h1:g=true∨us.length=1)(hv:v=valOf g vs)(hl:vs.length=us.length)
  (hr:∀(c:Nat) (t:Ty) (u:Value),us[c]?=some t→vs[c]?=some u→Rd P w F t (cellOf us.length (den ρ el) c) u):RV P w F ρ β (G8k us g el) v:=by
 subst hv
 cases g with
 |true=>
  refine⟨vs,rfl,by simp[hl],fun i c u hc hu=>?_⟩
  simp only[List.getElem?_map,List.getElem?_zipIdx,Option.map_eq_some_iff,Nat.zero_add]at hc
  obtain⟨p,⟨t,ht,rfl⟩,rfl⟩:=hc
  show Rd P w F t _ u
  rw[C1a]
  exact hr i t u ht hu
 |false=>
  have hl1:us.length=1:=by simpa using h1
  match us,vs,hl1,hl with
  |[t],[u],_,_=>
   show Rd P w F t _ u
   rw[C1a]
   exact hr 0 t u rfl rfl
theorem D0b{ks:List Nat}{l:List D}{A:D}:A1h ks l A≤l.length:=List.findIdx_le_length
theorem D0z{X:Cx}{ρ:List D}{st:St}{F:Fr}{β:Nat→Value}{a:Act}{w:World}(hs:Sat X ρ st F β a w){t:TypeId}{m x:Operand}{n:Nat}{y q:E}{k e:TypeId}{ks:List Nat}(h:mapArgs X.P st t m x=some (n,y,k,e,ks,q)):
  ∃ts g,X.P.underlying t=some (.map k e)∧st.bx.lookup n=some (.map t y)∧C0o X.P k=some ks∧A0n X.P k=some ts∧A1d X.P k=some g∧a.eval m=β n∧a.eval x=A3i g ts (den ρ q):=by
 unfold mapArgs at h
 split at h
 ·rename_i k' e' n' hm hn
  split at h
  ·rename_i t' y' ks' ts g sv hb hk hts hg hx
   split at h
   ·rename_i ht
    subst ht
    split at h
    ·rename_i q' hq
     simp at h;obtain⟨rfl,rfl,rfl,rfl,rfl,rfl⟩:=h
     have hu:X.P.underlying t=some (.map k' e'):=by
      unfold C5j at hm;split at hm
      ·rename_i k'' e'' hx;simp at hm;obtain⟨rfl,rfl⟩:=hm;exact hx
      ·cases hm
     obtain⟨e,h1,h2,h3,h4,h5⟩:=B8g hk hts hg
     exact⟨ts,g,hu,hb,hk,hts,hg,A0d hs hn,E6c h3 (B6a hq (A3b hs hx))⟩
    ·cases h
   ·cases h
  ·cases h
 ·cases h
theorem G0f{k:Nat}{a b:D}(h:A8v k a b=true):A8v k b a=true:=by
 match k with
 |0=>simp only[A8v,beq_iff_eq]at h⊢;exact h.symm
 |1=>simp only[A8v,beq_iff_eq]at h⊢;exact h.symm
 |k+2=>simp only[A8v,beq_iff_eq]at h⊢;exact h.symm
theorem F5p{k:Nat}{a b c:D}(h:A8v k a b=true)(g:A8v k b c=true):A8v k a c=true:=by
 match k with
 |0=>simp only[A8v,beq_iff_eq]at h g⊢;exact h.trans g
 |1=>simp only[A8v,beq_iff_eq]at h g⊢;exact h.trans g
 |k+2=>simp only[A8v,beq_iff_eq]at h g⊢;exact h.trans g
theorem E6u(n:Nat):∀{ks:List Nat} {c:Nat} {a b:D},B2u n ks c a b=true→B2u n ks c b a=true
 |[],_,_,_,_=>rfl
 |k::ks,c,a,b,h=>by
  simp only[B2u,Bool.and_eq_true]at h⊢
  exact⟨G0f h.1,E6u n h.2⟩
theorem E0y(n:Nat):∀{ks:List Nat} {c:Nat} {a b d:D},B2u n ks c a b=true→B2u n ks c b d=true→B2u n ks c a d=true
 |[],_,_,_,_,_,_=>rfl
 |k::ks,c,a,b,d,h,g=>by
  simp only[B2u,Bool.and_eq_true]at h g⊢
  exact⟨F5p h.1 g.1,E0y n h.2 g.2⟩
theorem G8x{ks:List Nat}{a b:D}(h:keq ks a b=true):keq ks b a=true:=E6u _ h
theorem E6i{ks:List Nat}{a b d:D}(h:keq ks a b=true)(g:keq ks b d=true):keq ks a d=true:=E0y _ h g
theorem B5r(ks:List Nat)(d:D)(l:List D)(q z:D):A8d ks (d::l) q z=if keq ks q (d.toL.getD 0 .nil)=true then d.toL.getD 1 .nil else A8d ks l q z:=by
 unfold A8d
 rw[C1o]
 split
 ·simp
 ·simp only[List.length_cons,Nat.add_lt_add_iff_right,List.getD_cons_succ]
theorem E6x(ks:List Nat)(d:D)(l:List D)(q v:D):A8f ks (d::l) q v=if keq ks q (d.toL.getD 0 .nil)=true then .agg [q,v]::l else d::A8f ks l q v:=by
 unfold A8f
 rw[C1o]
 split
 ·simp
 ·simp only[List.length_cons,Nat.add_lt_add_iff_right,List.set_cons_succ]
  split<;>simp
theorem E6d(ks:List Nat)(k q z:D):∀l:List D,A8d ks (A8f ks l k (A8d ks l k z)) q z=A8d ks l q z
 |[]=>by
  show A8d ks [.agg [k,z]] q z=z
  rw[B5r]
  split
  ·rfl
  ·rfl
 |d::l=>by
  rw[E6x,B5r ks d l k z,B5r ks d l q z]
  split
  ·rename_i h1
   rw[B5r]
   simp only[D.A0f,List.getD_cons_zero,List.getD_cons_succ]
   by_cases h2:keq ks q k=true
   ·rw[if_pos h2,if_pos (E6i h2 h1)]
   ·rw[if_neg h2,if_neg (fun h3=>h2 (E6i h3 (G8x h1)))]
  ·rename_i h1
   rw[B5r,E6d ks k q z l]
theorem G1g{ρ:List D}(ks:List Nat)(a q z:E):den ρ (E0r ks a q z)=den ρ (.B2s ks a q z):=by
 unfold E0r
 split
 ·split
  ·rename_i h
   obtain⟨rfl,rfl,rfl,rfl,rfl⟩:=h
   simp only[den,D.A0f,E6d]
  ·rfl
 ·rfl
theorem E0u{X:Cx}{ρ:List D}{F:Fr}{β:Nat→Value}{a:Act}{w:World}{o:Oper}{t:TypeId}{m x:Operand}{ok:Bool}(ho:o.op=.lookup t m x ok){k e:TypeId}{ks:List Nat}{y q:E}{ts:List Ty}{g:Bool}(hu:X.P.underlying t=some (.map k e))(hk:C0o X.P k=some ks)(hts:A0n X.P k=some ts)(hg:A1d X.P k=some g)
  (hbx:A0y X.P w F ρ β (.map t y) (a.eval m)) (e2:a.eval x=A3i g ts (den ρ q)) {es:List E} {sv:SV} {nb:Option Box} (h:E8z X.P y e ks q ok=some (es,sv,nb)) (nn:Nat):
  A7j X.P w F ρ β nn sv nb ((execOp a.eval o).run X.P w):=by
 unfold E8z at h
 split at h
 ·rename_i z us gv hz hus hgv
  split at h
  ·rename_i hgl
   obtain⟨b,k',e',ts',us',g',h',es',v1,v2,v3,v4,v5,v6,v7,v8,v9⟩:=hbx
   rw[hu]at v2;cases v2
   rw[hts]at v3;cases v3
   rw[hus]at v4;cases v4
   rw[hg]at v5;cases v5
   rw[hgv]at v6;cases v6
   have hf:=D4p (w:=w) hk hts hg (den ρ q) es' (den ρ y).toL v8 (fun j e d h1 h2=>(v9 j e d h1 h2).key)
   have hc:=fun em=>D1f (P:=X.P) (w:=w) hk hts hg em (den ρ q)
   obtain⟨zv,zvs,z1,z2,z3,z4⟩:=D3a (w:=w) (F:=F) (ρ:=ρ) hz hus hgv
   have key:∃(v:Value) (vs:List Value),(Instr.lookup t (.map (some b)) (A3i g ts (den ρ q)) ok).run X.P w=.ok (if ok=true then .tuple #[v,.bool (decide (A1h ks (den ρ y).toL (den ρ q)<(den ρ y).toL.length))]else v) w∧
     v=valOf gv vs∧vs.length=us.length∧∀(c:Nat) (t:Ty) (u:Value),us[c]?=some t→vs[c]?=some u→Rd X.P w F t (cellOf us.length (den ρ (E0r ks y q z)) c) u:=by
    rw[G1g]
    simp only[den,A8d]
    by_cases hlt:A1h ks (den ρ y).toL (den ρ q)<(den ρ y).toL.length
    ·have hlt':A1h ks (den ρ y).toL (den ρ q)<es'.length:=by rw[v8];exact hlt
     have ho:=v9 _ _ _ (List.getElem?_eq_getElem hlt') (List.getElem?_eq_getElem hlt)
     obtain⟨vs,w1,w2,w3⟩:=ho.val
     rw[List.getElem?_eq_getElem hlt']at hf
     simp only[Option.map_some]at hf
     refine⟨_,vs,?_,w1,w2,?_⟩
     ·simp only[Instr.lookup,Sem.run_bind,A0v hu,Result.andThen_ok,Go.MapKept.run_getObj_map v7,hc,Sem.run_pure,List.toList_toArray,hf]
      cases ok<;>simp[hlt]
     ·simp only[hlt,if_true]
      rw[D4u hlt]
      exact w3
    ·have hge:es'.length≤A1h ks (den ρ y).toL (den ρ q):=by rw[v8];omega
     rw[List.getElem?_eq_none hge]at hf
     simp only[Option.map_none]at hf
     refine⟨zv,zvs,?_,z2,z3,?_⟩
     ·simp only[Instr.lookup,Sem.run_bind,A0v hu,Result.andThen_ok,Go.MapKept.run_getObj_map v7,hc,Sem.run_pure,List.toList_toArray,hf,z1]
      cases ok<;>simp[hlt]
     ·simp only[hlt,if_false]
      exact z4
   obtain⟨v,vs,r1,r2,r3,r4⟩:=key
   have hrv:=E0s (β:=β) hgl r2 r3 r4
   have hx:(execOp a.eval o).run X.P w=.ok (.value (if ok=true then .tuple #[v,.bool (decide (A1h ks (den ρ y).toL (den ρ q)<(den ρ y).toL.length))]else v)) w:=by
    simp only[execOp,ho,e2,v1,Sem.run_bind,r1,Result.andThen_ok,Sem.run_pure]
   rw[hx]
   simp only at h
   split at h
   ·rename_i hok
    subst hok
    have hbool:R1 X.P w F ρ β (.one (.dat .bool (.cmp .lss (.mix ks y q) (.len y)))) (.bool (decide (A1h ks (den ρ y).toL (den ρ q)<(den ρ y).toL.length))):=by
     refine Rd.bool ?_
     simp[den,C2n]
    split at h
    ·rename_i c hv
     simp at h;obtain⟨rfl,rfl,rfl⟩:=h
     rw[hv]at hrv
     refine⟨_,rfl,[v,_],rfl,rfl,fun i c u hc hu=>?_⟩
     rcases i with _|_|i
     ·simp at hc hu;subst hc hu;exact hrv
     ·simp at hc hu;subst hc hu;exact hbool
     ·simp at hc
    ·rename_i cs hv
     simp at h;obtain⟨rfl,rfl,rfl⟩:=h
     rw[hv]at hrv
     refine⟨_,rfl,[v,_],rfl,rfl,fun i c u hc hu=>?_⟩
     rcases i with _|_|i
     ·simp at hc hu;subst hc hu;exact hrv
     ·simp at hc hu;subst hc hu;exact hbool
     ·simp at hc
    ·cases h
   ·rename_i hok
    simp at h;obtain⟨rfl,rfl,rfl⟩:=h
    exact⟨v,by simp[hok],hrv⟩
  ·cases h
 ·cases h
theorem E4l{X:Cx}{ρ:List D}{st:St}{F:Fr}{β:Nat→Value}{a:Act}{w:World}(hs:Sat X ρ st F β a w){t:TypeId}{m x:Operand}{y q:E}{k e:TypeId}{ks:List Nat}(h:D7l X.P st t m x=some (y,k,e,ks,q)):
  ∃ts g,X.P.underlying t=some (.map k e)∧A0y X.P w F ρ β (.map t y) (a.eval m)∧C0o X.P k=some ks∧A0n X.P k=some ts∧A1d X.P k=some g∧a.eval x=A3i g ts (den ρ q):=by
 unfold D7l at h
 split at h
 ·rename_i k' e' t' y' hm hn
  split at h
  ·rename_i ks' ts g sv hk hts hg hx
   split at h
   ·rename_i ht
    subst ht
    split at h
    ·rename_i q' hq
     simp at h;obtain⟨rfl,rfl,rfl,rfl,rfl⟩:=h
     have hu:X.P.underlying t=some (.map k' e'):=by
      unfold C5j at hm;split at hm
      ·rename_i k'' e'' hx;simp at hm;obtain⟨rfl,rfl⟩:=hm;exact hx
      ·cases hm
     obtain⟨e,h1,h2,h3,h4,h5⟩:=B8g hk hts hg
     exact⟨ts,g,hu,F7g (A0d hs hn),hk,hts,hg,E6c h3 (B6a hq (A3b hs hx))⟩
    ·cases h
   ·cases h
  ·cases h
 ·cases h
theorem F6a{X:Cx}{ρ:List D}{st:St}{F:Fr}{β:Nat→Value}{a:Act}{w:World}(hs:Sat X ρ st F β a w){o:Oper}{t:TypeId}{m x:Operand}{ok:Bool}(ho:o.op=.lookup t m x ok){es:List E}{sv:SV}{nb:Option Box}(h:D9f X.P st t m x ok=some (es,sv,nb))(nn:Nat):
  A7j X.P w F ρ β nn sv nb ((execOp a.eval o).run X.P w):=by
 unfold D9f at h
 split at h
 ·rename_i n y k e ks q hm
  obtain⟨ts,g,hu,hb,hk,hts,hg,e1,e2⟩:=D0z hs hm
  exact E0u ho hu hk hts hg (by rw[e1];exact hs.bx n _ hb) e2 h nn
 ·split at h
  ·rename_i y k e ks q hm
   obtain⟨ts,g,hu,hb,hk,hts,hg,e2⟩:=E4l (β:=β) hs hm
   exact E0u ho hu hk hts hg hb e2 h nn
  ·cases h
theorem F8s{P:Program}{w:World}{t xT:TypeId}{d:TypeDesc}(hd:P.underlying t=some d)(hnd:∀ms,d≠.interface ms)(v:Value)(ok:Bool):(Instr.typeAssert v xT t ok).run P w=
  match v with
  |.nilIface=>if ok=true then(do pure (.tuple #[←zeroValue t,.bool false]):Sem Value).run P w else(runtimePanic (.typeAssertion (some xT) none t ""):Sem Value).run P w
  |.iface t' u=>if t'=t then .ok (if ok=true then .tuple #[u,.bool true]else u) w else if ok=true then(do pure (.tuple #[←zeroValue t,.bool false]):Sem Value).run P w else(runtimePanic (.typeAssertion (some xT) (some t') t ""):Sem Value).run P w
  |_=>(Instr.typeAssert v xT t ok).run P w:=by
 cases v<;>try rfl
 all_goals
  unfold Instr.typeAssert
  simp only[Sem.run_bind,A0v hd,Result.andThen_ok]
  cases d<;>first|exact absurd rfl (hnd _)|skip
 all_goals(split<;>first|rfl|simp_all)
theorem F5m(hs:Sat X ρ st F β a w){o:Oper}{xT t:TypeId}{x:Operand}{ok:Bool}(ho:o.op=.typeAssert x xT t ok){es:List E}{sv:SV}{nb:Option Box}(h:D7m X.P st t x ok=some (es,sv,nb))(hes:∀e ∈ es,(den ρ e).toBool=true)(nn:Nat):
  A7j X.P w F ρ β nn sv nb ((execOp a.eval o).run X.P w):=by
 unfold D7m at h
 split at h
 ·rename_i u z e hu hz hx
  split at h
  ·cases h
  ·rename_i hne
   split at h
   ·rename_i u' z' htc
    split at h
    ·rename_i hu'
     subst hu'
     obtain⟨d,hd,hnd⟩:=D8q hu
     obtain⟨zv,hz1,hz2⟩:=Option.bind_eq_some_iff.1 hz
     have hzr:RC X.P w F ρ β (.dat u' z') zv:=htc▸E7r (C4p hz2)
     have run0:=C8y (w:=w) hz1
     have hr:=A0d hs hx
     have hq:=F8s (w:=w) (xT:=xT) hd (hnd hne) (a.eval x) ok
     have hrun:∀v,(Instr.typeAssert (a.eval x) xT t ok).run X.P w=.ok v w→(execOp a.eval o).run X.P w=.ok (.value v) w:=by
      intro v hv
      simp only[execOp,ho,Sem.run_bind,hv,Result.andThen_ok]
      rfl
     cases hr with
     |D8m e1 e2=>
      have e1':(den ρ e).isIf t=false:=by rw[e1];rfl
      rw[e2]at hq hrun
      cases ok with
      |false=>
       simp at h;obtain⟨rfl,rfl,rfl⟩:=h
       have:=hes (B1r t e) (by simp)
       rw[A7c,e1']at this
       cases this
      |true=>
       simp at h;obtain⟨rfl,rfl,rfl⟩:=h
       refine⟨.tuple #[zv,.bool false],hrun _ (hq.trans (by simp only[if_true,Sem.run_bind,run0,Result.andThen_ok];rfl)),[zv,.bool false],rfl,rfl,fun i c u hc hu=>?_⟩
       rcases i with _|_|i
       ·simp at hc hu;subst hc hu
        have:=B9j (ρ:=ρ) (P:=X.P) (w:=w) (F:=F) (t:=u') (c:=B1r t e) (a:=B4p e) (b:=z') (u:=zv) (v:=zv) (fun hh=>by rw[A7c,e1']at hh;cases hh) (fun _=>hzr)
        rw[ite_self]at this
        exact this
       ·simp at hc hu;subst hc hu
        exact Rd.bool (by rw[A7c,e1'];rfl)
       ·simp at hc
     |iface e1 e2 e3 e4 e5=>
      rename_i t' d' u'' v'
      have e1':(den ρ e).isIf t=(t' == t):=by rw[e1];rfl
      rw[e2]at hq hrun
      by_cases ht:t'=t
      ·subst ht
       have e1'':(den ρ e).isIf t'=true:=by rw[e1'];simp
       rw[hu]at e3;cases e3
       have hin:Rd X.P w F u' (den ρ (B4p e)) v':=by rw[B9f,e1];exact e5
       cases ok with
       |false=>
        simp at h;obtain⟨rfl,rfl,rfl⟩:=h
        exact⟨v',hrun _ (hq.trans (by simp)),hin⟩
       |true=>
        simp at h;obtain⟨rfl,rfl,rfl⟩:=h
        refine⟨.tuple #[v',.bool true],hrun _ (hq.trans (by simp)),[v',.bool true],rfl,rfl,fun i c u hc hu=>?_⟩
        rcases i with _|_|i
        ·simp at hc hu;subst hc hu
         have:=B9j (ρ:=ρ) (P:=X.P) (w:=w) (F:=F) (t:=u') (c:=B1r t' e) (a:=B4p e) (b:=z') (u:=v') (v:=v') (fun _=>hin) (fun hh=>by rw[A7c,e1'']at hh;cases hh)
         rw[ite_self]at this
         exact this
        ·simp at hc hu;subst hc hu
         exact Rd.bool (by rw[A7c,e1''];rfl)
        ·simp at hc
      ·have e1'':(den ρ e).isIf t=false:=by rw[e1'];simpa using ht
       cases ok with
       |false=>
        simp at h;obtain⟨rfl,rfl,rfl⟩:=h
        have:=hes (B1r t e) (by simp)
        rw[A7c,e1'']at this
        cases this
       |true=>
        simp at h;obtain⟨rfl,rfl,rfl⟩:=h
        refine⟨.tuple #[zv,.bool false],hrun _ (hq.trans (by simp only[ht,if_false,if_true,Sem.run_bind,run0,Result.andThen_ok];rfl)),[zv,.bool false],rfl,rfl,fun i c u hc hu=>?_⟩
        rcases i with _|_|i
        ·simp at hc hu;subst hc hu
         have:=B9j (ρ:=ρ) (P:=X.P) (w:=w) (F:=F) (t:=u') (c:=B1r t e) (a:=B4p e) (b:=z') (u:=zv) (v:=zv) (fun hh=>by rw[A7c,e1'']at hh;cases hh) (fun _=>hzr)
         rw[ite_self]at this
         exact this
        ·simp at hc hu;subst hc hu
         exact Rd.bool (by rw[A7c,e1''];rfl)
        ·simp at hc
    ·cases h
   ·cases h
 ·cases h
theorem C5i(hb:∀n,(β n).oneCell'=true)(hs:Sat X ρ st F β a w){o:Oper}{ty:TypeId}{es:List E}{sv:SV}{nb:Option Box}(h:evV X.P st o.op ty=some (es,sv,nb))(hes:∀e ∈ es,(den ρ e).toBool=true):
  A7j X.P w F ρ β st.nn sv nb ((execOp a.eval o).run X.P w):=by
 unfold evV at h
 split at h<;>rename_i ho
 ·have:=C4r hs h st.nn;simpa[execOp,ho]using this
 ·have:=C4r hs h st.nn;simpa[execOp,ho]using this
 ·exact G2k hs ho h _
 ·split at h
  ·cases h
  ·exact D9l hs ho h
 ·split at h
  ·cases h
  ·exact D7q hs hb ho h
 ·exact F9j hb hs ho h _
 ·exact G4g hs ho h hes
 ·exact G5h hs ho h hes _
 ·exact G6w hs ho h hes _
 ·exact H1n hs ho h _
 ·exact G3k hs ho h _
 ·exact G4t hs ho h _
 ·exact F8g hs ho h hes _
 ·exact E5i hs ho h hes _
 ·exact F9x hs ho h _
 ·exact E4c hs ho h hes _
 ·exact G0d hs ho h hes _
 ·exact F6a hs ho h _
 ·exact F1n hs ho h _
 ·exact F5m hs ho h hes _
 ·rename_i fn fs cs
  split at h
  ·rename_i f h1 h2
   simp only[ev1,Option.some.injEq,Prod.mk.injEq]at h
   obtain⟨rfl,rfl,rfl⟩:=h
   have e1:fs=#[]:=by rw[←Array.toList_inj,h1]
   have e2:cs=#[]:=by rw[←Array.toList_inj,h2]
   subst e1 e2
   refine⟨.func (.func f) #[] #[],?_,?_⟩
   ·simp[execOp,ho,Instr.makeFunc]
   ·rfl
  ·cases h
 ·rename_i c
  split at h
  ·rename_i x t h1 h2 h3
   have e2:c.args=#[x]:=by rw[←Array.toList_inj,h2]
   have e3:c.argTypes=#[t]:=by rw[←Array.toList_inj,h3]
   exact G9f hs (by rw[ho];obtain⟨c1,c2,c3⟩:=c;simp only at h1 e2 e3;rw[h1,e2,e3]) h _
  ·rename_i x y h1 h2
   exact F7e (mx:=true) hs ho h1 (by rw[←Array.toList_inj,h2]) h _
  ·rename_i x y h1 h2
   exact F7e (mx:=false) hs ho h1 (by rw[←Array.toList_inj,h2]) h _
  ·cases h
 ·cases h
end
end Go.Proofs.YtglhnofjggpdjaaGreat.Eng
