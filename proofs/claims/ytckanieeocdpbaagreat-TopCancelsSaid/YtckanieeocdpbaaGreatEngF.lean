import Derived.Calls
import Derived.Orders
import Derived.Below
import Derived.KernelRfl
import Derived.Test.YtckanieeocdpbaaGreatMem
import Derived.RowKit
import Derived.Maps.Keyed
import Derived.WideKeyRuns
import Derived.MapKept
import Derived.Laws.CopyRow
import Derived.Laws.Cells
import Derived.WalkKit
import Derived.Laws.Tables
import Derived.Laws.StructEq
import Derived.ChangeKeysEq
open List renaming getElem?_eq_getElem→a0,getElem?_eq_some_iff→a4,getD_eq_getElem?_getD→a5,getElem?_map→a6,getElem?_range→a7,eq_nil_of_length_eq_zero→a8,getElem?_eq_none→a9,mem_singleton→aA,mem_cons_self→aB,length_take→aC,getElem?_append_left→aD,getElem?_zipIdx→aE,range→aF,getElem?_cons_succ→aG,take_append_drop→aH,getElem?_drop→aI,getElem?_take→aJ,append_assoc→aK,mem_of_getElem?→aL,extract_eq_take_drop→aM,ext_getElem?→aN,length_cons→aO,getElem?_set_ne→aP,getD_cons_succ→aQ,toList_toArray→aR,mem_cons→aS,prefix_refl→aT,range'_succ→aU,range'→aV,nil_append→aW,forIn_cons→aX,replicate→aY,getD→aZ
open Go.Result renaming andThen_ok→b0
open Option.some renaming injEq→b1
open Go.Sem renaming run_bind→b2,run_pure→b3,run→b4
open Go.Instr renaming sureAddr→b5,indexAt→b6,sliceBounds→b7,loadAt→b8,typeAssert→b9,checkKey→bA,sameNow→bB,findAsking→bC,findNow→bD,lookup→bE,sliceBound→bF,fieldAt→bG,sliceAt→bH,index→bI,slice→bJ,fill→bK
open Prod.mk renaming injEq→bL
open Go.Op renaming equalIn→bM,bytesLess→bN,equal→bO,eqFields→bP,eqItems→bQ,intArith→bR,stringOp→bS,unary→bT,intBits→bU
open Option renaming map_eq_some_iff→bV,map_some→bW,map_none→bX,getD_some→bY
open Nat renaming zero_add→bZ,add_assoc→c4,add_lt_add_iff_right→c5,succ_mul→c6,add_zero→c7,le_refl→c8,add_mul→c9,zero_le→cA
open Go.MapKept renaming run_getObj_map→cB,run_checkKey→cC,run_findKey→cD,IsKey→cE
open Array renaming toList_inj→cF,toList_map→cG
open BitVec renaming ofInt→cH
open Bool renaming false_eq_true→cI,and_eq_true→cJ
open Go.Builtin renaming len_→cK
open Classical renaming choose→cL,choose_spec→cM
open Go.World renaming cell?→cN
namespace Go.Proofs.YtckanieeocdpbaaGreat.Eng
set_option linter.unusedVariables false
inductive D where
 |int (n:Int)
 |bool (b:Bool)
 |str (s:ByteArray)
 |agg (l:List D)
 |iface (t:Nat) (d:D)
 |nil
 deriving Inhabited
def D.toInt:D→Int|.int n=>n|_=>0
def D.no0:Bool:=false
def D.no1:Bool:=D.no0
def D.no2:Bool:=D.no1
def D.no:Bool:=D.no2
def D.toBool:D→Bool|.bool b=>b|_=>D.no
@[simp] theorem D.no_eq:D.no=false:=rfl
def D.toStr:D→ByteArray|.str s=>s|_=>ByteArray.empty
def D.toL:D→List D|.agg l=>l|_=>[]
def D.isNil:D→Bool|.nil=>true|_=>false
def D.dyn:D→Nat|.iface t _=>t|_=>0
def D.isIf:D→Nat→Bool|.iface t _,u=>t == u|_,_=>false
def D.inner:D→D|.iface _ d=>d|_=>.nil
@[simp] theorem D.toInt_int(n:Int):(D.int n).toInt=n:=rfl
@[simp] theorem D.A1d(b:Bool):(D.bool b).toBool=b:=rfl
@[simp] theorem D.H8r(s:ByteArray):(D.str s).toStr=s:=rfl
@[simp] theorem D.A0j(l:List D):(D.agg l).toL=l:=rfl
@[simp] theorem D.H8u:D.nil.toL=[]:=rfl
@[simp] theorem D.H8p:D.nil.isNil=true:=rfl
@[simp] theorem D.H7s(t:Nat)(d:D):(D.iface t d).isNil=false:=rfl
@[simp] theorem D.H8o(l:List D):(D.agg l).isNil=false:=rfl
@[simp] theorem D.C7g(t:Nat)(d:D):(D.iface t d).inner=d:=rfl
@[simp] theorem D.H8q(t:Nat)(d:D):(D.iface t d).dyn=t:=rfl
@[simp] theorem D.G2b(t u:Nat)(d:D):(D.iface t d).isIf u=(t == u):=rfl
@[simp] theorem D.H8s(u:Nat):D.nil.isIf u=false:=rfl
inductive Ty where
 |int (k:IntKind)|bool|str|ifc|slice (e:TypeId)|ptr (e:TypeId)|fn|map (t:TypeId)
 deriving DecidableEq,Repr,Inhabited
structure Cf where
 hc:List TypeId
 ob:List (Nat × Nat)
 hm:List (Nat × Nat)
 cp:List (Nat × List TypeId)
 rr:List (Nat × Nat)
 rp:List (Nat × Nat)
 gs:List (Nat × TypeId × List ByteArray)
 deriving DecidableEq,Inhabited
structure Fr where
 ok:Nat→Prop
 γ:List (Nat × TypeId)
 hc:List TypeId
instance:CoeFun Fr (fun _=>Nat→Prop):=⟨Fr.ok⟩
@[reducible] def Fr.or(F:Fr)(p:Nat→Prop):Fr:=⟨fun b=>F b∨p b,F.γ,F.hc⟩
def D4t(P:Program)(t:TypeId):Option Ty:=
 match P.underlying t with
 |some (.int k)=>some (.int k)
 |some .bool=>some .bool
 |some .string=>some .str
 |some (.interface _)=>some .ifc
 |some (.slice e)=>some (.slice e)
 |some (.pointer e)=>some (.ptr e)
 |some (.func _ _ _)=>some .fn
 |some (.map _ _)=>some (.map t)
 |_=>none
def E0f(P:Program):Nat→TypeId→Option (List Ty)
 |0,_=>none
 |n+1,t=>match P.underlying t with
  |some (.struct fs)=>fs.toList.foldr (fun f acc=>match E0f P n f.type,acc with|some a,some b=>some (a++b)|_,_=>none) (some [])
  |some (.array m e)=>(E0f P n e).map fun l=>(aY m l).flatten
  |_=>(D4t P t).map ([·])
def A0r(P:Program)(t:TypeId):Option (List Ty):=E0f P 8 t
def cellOf(n:Nat)(el:D)(c:Nat):D:=if n=1 then el else el.toL.getD c .nil
def A1j(P:Program)(t:TypeId):Option Bool:=
 match P.underlying t with
 |some (.struct _)=>some true
 |some (.array _ _)=>some true
 |some _=>some false
 |none=>none
def B4l:Ty→D→Value
 |.int k,d=>.int k d.toInt
 |.bool,d=>.bool d.toBool
 |.str,d=>.string d.toStr
 |_,_=>.nilIface
def A4a(n:Nat):List Ty→Nat→D→List Value
 |[],_,_=>[]
 |t::ts,c,d=>B4l t (cellOf n d c)::A4a n ts (c+1) d
def valOf(agg:Bool)(vs:List Value):Value:=if agg=true then .agg vs.toArray else vs.headD .nilIface
inductive Rd(P:Program)(w:World)(F:Fr):Ty→D→Value→Prop
 |int {k d v}:v=.int k d.toInt→Rd P w F (.int k) d v
 |bool {d v}:v=.bool d.toBool→Rd P w F .bool d v
 |str {d v}:v=.string d.toStr→Rd P w F .str d v
 |D9s {d v}:d=.nil→v=.nilIface→Rd P w F .ifc d v
 |iface {d t d' u v' v}:d=.iface t d'→v=.iface t v'→D4t P t=some u→u≠.ifc→Rd P w F u d' v'→Rd P w F .ifc d v
 |B9u {e d v}:d=.nil→v=.pointer none→Rd P w F (.ptr e) d v
 |B8g {e d v n b}:F.hc.contains e=true→d=.int (n:Nat)→F.γ[n]?=some (b,e)→v=.pointer (some ⟨b,0,none⟩)→Rd P w F (.ptr e) d v
 |G3o {d v}:d=.nil→v=.nilFunc→Rd P w F .fn d v
 |fn {d v f} {l:List D} {vs:List Value}:d=.iface f (.agg l)→v=.func (.func f) #[] vs.toArray→vs.length=l.length→
   (∀(c:Nat) (x:D) (u:Value),l[c]?=some x→vs[c]?=some u→Rd P w F (.ptr x.dyn) x.inner u)→Rd P w F .fn d v
 |ptr {e d v b o} {l:List D} {ts:List Ty} {g:Nat→Value}:F.hc.contains e=false→d=.agg l→v=.pointer (some ⟨b,o,none⟩)→A0r P e=some ts→l.length=ts.length→F b→
   (∀c x,l[c]?=some x→w.cell? ⟨b,o+c,none⟩=some (g c))→(∀c x t,l[c]?=some x→ts[c]?=some t→Rd P w F t x (g c))→Rd P w F (.ptr e) d v
 |snil {e d a cap v}:d.toL=[]→v=.slice a 0 cap→Rd P w F (.slice e) d v
 |slice {e d v b o len cap} {ts:List Ty} {g:Nat→Nat→Value}:v=.slice (some ⟨b,o,none⟩) len cap→A0r P e=some ts→len=d.toL.length→len≤cap→F b→
   (∀i c,i<d.toL.length→c<ts.length→w.cell? ⟨b,o+i*ts.length+c,none⟩=some (g i c))→
   (∀i c x t,d.toL[i]?=some x→ts[c]?=some t→Rd P w F t (cellOf ts.length x c) (g i c))→Rd P w F (.slice e) d v
 |map {t d v b k e} {ts us:List Ty} {g h:Bool} {es:List MapEntry} {gv:Nat→Nat→Value}:v=.map (some b)→P.underlying t=some (.map k e)→A0r P k=some ts→A0r P e=some us→A1j P k=some g→A1j P e=some h→F b→
   w.heap[b]?=some (.map es.toArray es.length)→es.length=d.toL.length→
   (∀(i:Nat) (en:MapEntry) (x:D),es[i]?=some en→d.toL[i]?=some x→en.born=i∧en.key=valOf g (A4a ts.length ts 0 (x.toL.getD 0 .nil))∧en.val=valOf h ((aF us.length).map (gv i)))→
   (∀(i c:Nat) (x:D) (u:Ty),d.toL[i]?=some x→us[c]?=some u→Rd P w F u (cellOf us.length (x.toL.getD 1 .nil) c) (gv i c))→Rd P w F (.map t) d v
theorem cell?_of_heap{w w':World}{b:Nat}(h:w'.heap[b]?=w.heap[b]?)(o:Nat)(s:Option Nat):w'.cell? ⟨b,o,s⟩=w.cell? ⟨b,o,s⟩:=by
 unfold cN
 simp only[h]
structure Le(w:World)(F:Fr)(w':World)(F':Fr):Prop where
 b:∀b,F b→F' b∧w'.heap[b]?=w.heap[b]?
 γ:F.γ <+: F'.γ
 hc:F'.hc=F.hc
theorem Le.get{w w':World}{F F':Fr}(h:Le w F w' F'){n:Nat}{p:Nat × TypeId}(hn:F.γ[n]?=some p):F'.γ[n]?=some p:=by
 obtain⟨l,e⟩:=h.γ
 rw[←e,aD (a4.1 hn).1];exact hn
theorem Le.trans{w w' w'':World}{F F' F'':Fr}(h:Le w F w' F')(h':Le w' F' w'' F''):Le w F w'' F'':=
 ⟨fun b hb=>⟨(h'.b b (h.b b hb).1).1,(h'.b b (h.b b hb).1).2.trans (h.b b hb).2⟩,h.γ.trans h'.γ,h'.hc.trans h.hc⟩
theorem Le.same{w w':World}{F:Fr}(h:∀b,F b→w'.heap[b]?=w.heap[b]?):Le w F w' F:=⟨fun b hb=>⟨hb,h b hb⟩,aT _,rfl⟩
theorem Le.or{w w':World}{F:Fr}{p:Nat→Prop}(h:∀b,F b→w'.heap[b]?=w.heap[b]?):Le w F w' (F.or p):=⟨fun b hb=>⟨.inl hb,h b hb⟩,aT _,rfl⟩
theorem Rd.mono{P:Program}{w w':World}{F F':Fr}(h:Le w F w' F'){t:Ty}{d:D}{v:Value}(hr:Rd P w F t d v):Rd P w' F' t d v:=by
 induction hr with
 |int e=>exact .int e
 |bool e=>exact .bool e
 |str e=>exact .str e
 |D9s e1 e2=>exact .D9s e1 e2
 |iface e1 e2 e3 e4 _ ih=>exact .iface e1 e2 e3 e4 ih
 |B9u e1 e2=>exact .B9u e1 e2
 |B8g e1 e2 e3 e4=>exact .B8g (by rw[h.hc];exact e1) e2 (h.get e3) e4
 |G3o e1 e2=>exact .G3o e1 e2
 |fn e1 e2 e3 _ ih=>exact .fn e1 e2 e3 ih
 |ptr e0 e1 e2 e3 e4 e5 e6 _ ih=>exact .ptr (by rw[h.hc];exact e0) e1 e2 e3 e4 (h.b _ e5).1 (fun c x hx=>by rw[cell?_of_heap (h.b _ e5).2];exact e6 c x hx) ih
 |snil e1 e2=>exact .snil e1 e2
 |slice e1 e2 e3 e0 e4 e5 _ ih=>exact .slice e1 e2 e3 e0 (h.b _ e4).1 (fun i c hi hc=>by rw[cell?_of_heap (h.b _ e4).2];exact e5 i c hi hc) ih
 |map e1 e2 e3 e4 e5 e6 e7 e8 e9 e10 _ ih=>exact .map e1 e2 e3 e4 e5 e6 (h.b _ e7).1 (by rw[(h.b _ e7).2];exact e8) e9 e10 ih
inductive E where
 |var (n:Nat)
 |int (n:Int)|bool (b:Bool)|str (s:ByteArray)|nil
 |ar (op:BinOp) (k:IntKind) (a b:E)
 |cmp (op:BinOp) (a b:E)
 |not (a:E)|beq (a b:E)
 |conv (k:IntKind) (a:E)
 |ite (c a b:E)
 |len (a:E)|get (a i:E)|cell (a:E) (c:Nat)
 |A4p|A3c (a b:E)|app (a b:E)|sub (a lo hi:E)
 |B5o (a:E)|F6a (a b:E)|F2l (a i:E)|F1x (a lo hi:E)|E6y (op:BinOp) (a b:E)
 |E5g (a:E)|B6o (t:Nat) (a:E)|F5t (t:Nat) (a:E)|ifv (a:E)
 |ptr (a:E)
 |and (a b:E)|or (a b:E)
 |set (a i v:E)|B6u (n:Nat) (a:E) (c:Nat) (v:E)|rep (k z:E)
 |C9x (ks:List Nat) (a k z:E)|D5m (ks:List Nat) (a k v:E)|mix (ks:List Nat) (a k:E)
 deriving DecidableEq,Inhabited
def G2t:List ByteArray→E
 |[]=>.A4p
 |s::l=>.A3c (.str s) (G2t l)
def A9j:Nat→D→D→Bool
 |0,a,b=>a.toInt == b.toInt
 |1,a,b=>a.toBool == b.toBool
 |_,a,b=>a.toStr.toList == b.toStr.toList
def B3x(n:Nat):List Nat→Nat→D→D→Bool
 |[],_,_,_=>true
 |q::ks,c,a,b=>A9j q (cellOf n a c) (cellOf n b c)&&B3x n ks (c+1) a b
def keq(ks:List Nat)(a b:D):Bool:=B3x ks.length ks 0 a b
def A2l(ks:List Nat)(l:List D)(k:D):Nat:=l.findIdx fun e=>keq ks k (e.toL.getD 0 .nil)
def B3j(ks:List Nat)(l:List D)(k z:D):D:=if A2l ks l k<l.length then(l.getD (A2l ks l k) .nil).toL.getD 1 .nil else z
def B3o(ks:List Nat)(l:List D)(k v:D):List D:=if A2l ks l k<l.length then l.set (A2l ks l k) (.agg [k,v])else l++[.agg [k,v]]
def arF(op:BinOp)(k:IntKind)(x y:Int):Int:=
 match op with
 |.add=>k.wrap (x+y)|.sub=>k.wrap (x-y)|.mul=>k.wrap (x*y)
 |.quo=>k.wrap (x.tdiv y)|.rem=>x.tmod y
 |.and=>k.wrap ((cH k.bits x &&& cH k.bits y).toNat:Int)
 |.or=>k.wrap ((cH k.bits x ||| cH k.bits y).toNat:Int)
 |.xor=>k.wrap ((cH k.bits x ^^^ cH k.bits y).toNat:Int)
 |.andNot=>k.wrap ((cH k.bits x &&& ~~~ cH k.bits y).toNat:Int)
 |.shl=>k.wrap (x*2 ^ (min y.toNat k.bits))
 |.shr=>x.fdiv (2 ^ (min y.toNat k.bits))
 |_=>0
def C3w(op:BinOp)(x y:Int):Bool:=
 match op with
 |.eql=>x == y|.neq=>x != y|.lss=>x<y|.leq=>x≤y|.gtr=>x>y|.geq=>x≥y|_=>false
def H3e(op:BinOp)(x y:ByteArray):Bool:=
 match op with
 |.eql=>x.toList == y.toList|.neq=>!(x.toList == y.toList)
 |.lss=>bN x.toList y.toList
 |.leq=>bN x.toList y.toList || x.toList == y.toList
 |.gtr=>!(bN x.toList y.toList || x.toList == y.toList)
 |.geq=>!(bN x.toList y.toList)
 |_=>false
def den(ρ:List D):E→D
 |.var n=>ρ.getD n .nil
 |.int n=>.int n
 |.bool b=>.bool b
 |.str s=>.str s
 |.nil=>.nil
 |.ar op k a b=>.int (arF op k (den ρ a).toInt (den ρ b).toInt)
 |.cmp op a b=>.bool (C3w op (den ρ a).toInt (den ρ b).toInt)
 |.not a=>.bool (!(den ρ a).toBool)
 |.beq a b=>.bool ((den ρ a).toBool == (den ρ b).toBool)
 |.conv k a=>.int (k.wrap (den ρ a).toInt)
 |.ite c a b=>if(den ρ c).toBool=true then den ρ a else den ρ b
 |.len a=>.int (den ρ a).toL.length
 |.get a i=>(den ρ a).toL.getD (den ρ i).toInt.toNat .nil
 |.cell a c=>(den ρ a).toL.getD c .nil
 |.A4p=>.agg []
 |.A3c a b=>.agg (den ρ a::(den ρ b).toL)
 |.app a b=>.agg ((den ρ a).toL++(den ρ b).toL)
 |.sub a lo hi=>.agg (((den ρ a).toL.drop (den ρ lo).toInt.toNat).take ((den ρ hi).toInt.toNat-(den ρ lo).toInt.toNat))
 |.B5o a=>.int (den ρ a).toStr.size
 |.F6a a b=>.str ((den ρ a).toStr++(den ρ b).toStr)
 |.F2l a i=>.int (((den ρ a).toStr.data.getD (den ρ i).toInt.toNat 0).toNat)
 |.F1x a lo hi=>.str ((den ρ a).toStr.extract (den ρ lo).toInt.toNat (den ρ hi).toInt.toNat)
 |.E6y op a b=>.bool (H3e op (den ρ a).toStr (den ρ b).toStr)
 |.E5g a=>.bool (den ρ a).isNil
 |.B6o t a=>.iface t (den ρ a)
 |.F5t t a=>.bool ((den ρ a).isIf t)
 |.ifv a=>(den ρ a).inner
 |.ptr a=>.agg (den ρ a).toL
 |.and a b=>.bool ((den ρ a).toBool&&(den ρ b).toBool)
 |.or a b=>.bool ((den ρ a).toBool || (den ρ b).toBool)
 |.set a i v=>.agg ((den ρ a).toL.set (den ρ i).toInt.toNat (den ρ v))
 |.B6u n a c v=>.agg (((aF n).map fun j=>(den ρ a).toL.getD j .nil).set c (den ρ v))
 |.rep k z=>.agg (aY (den ρ k).toInt.toNat (den ρ z))
 |.C9x ks a k z=>B3j ks (den ρ a).toL (den ρ k) (den ρ z)
 |.D5m ks a k v=>.agg (B3o ks (den ρ a).toL (den ρ k) (den ρ v))
 |.mix ks a k=>.int (A2l ks (den ρ a).toL (den ρ k):Nat)
def E.sc(n:Nat):E→Bool
 |.var m=>decide (m<n)
 |.ar _ _ a b|.cmp _ a b|.beq a b|.get a b|.A3c a b|.app a b|.F6a a b|.F2l a b|.E6y _ a b|.B6u _ a _ b|.rep a b|.and a b|.or a b|.mix _ a b=>a.sc n&&b.sc n
 |.not a|.conv _ a|.len a|.cell a _|.B5o a|.E5g a|.B6o _ a|.F5t _ a|.ifv a|.ptr a=>a.sc n
 |.ite a b c|.sub a b c|.F1x a b c|.set a b c|.C9x _ a b c|.D5m _ a b c=>a.sc n&&b.sc n&&c.sc n
 |_=>true
theorem A0y{ρ ext:List D}:∀{e:E},e.sc ρ.length=true→den (ρ++ext) e=den ρ e:=by
 intro e
 induction e with
 |var n=>
  intro h
  simp only[E.sc,Q9]at h
  simp[den,aD h]
 |_=>intro h;simp_all [E.sc,den]
inductive C where
 |dat (t:Ty) (e:E)
 |ptr (n off:Nat)
 |A9m (t:TypeId) (a i:E) (c:Nat)
 |B3e (t:TypeId) (a:E) (c:Nat)
 |vec (n:Nat)
 |A6c (n:Nat) (t:TypeId) (i:E) (c:Nat)
 |win (n:Nat) (t:TypeId) (i j:E)
 |lit (n len:Nat)
 |A8b (t:TypeId) (a:E) (c:Nat)
 |B5m|C4k|E6k
 |fn (f:Nat)
 |clo (f:Nat) (l:List (Nat × Nat))
 |B1g
 deriving DecidableEq,Inhabited
inductive V1 where
 |one (c:C)|agg (cs:List C)
 deriving DecidableEq,Inhabited
inductive SV where
 |one (c:C)|agg (cs:List C)|tup (l:List V1)
 deriving DecidableEq,Inhabited
def V1.sv:V1→SV|.one c=>.one c|.agg cs=>.agg cs
inductive Box where
 |box (t:TypeId) (cs:List C)
 |vec (e:TypeId) (x:E)
 |view (t:TypeId) (a:E) (c:Nat)
 |map (t:TypeId) (x:E)
 deriving DecidableEq,Inhabited
structure St where
 tm:List (Nat × SV)
 bx:List (Nat × Box)
 nn:Nat
 nv:Nat
 fs:List (E × Bool)
 ex:List (Nat × TypeId × E)
 cf:Cf
 hp:Option (Bool × E)
 deriving DecidableEq,Inhabited
def St.key(st:St):List (Nat × TypeId × E) × Option (Bool × E):=(st.ex,st.hp)
def bk:Value→Option Nat
 |.pointer (some a)=>some a.block
 |.slice (some a) _ cap=>if cap=0 then none else some a.block
 |.map (some b)=>some b
 |_=>none
theorem B1v{g o n cap:Nat}(h:0<cap):bk (.slice (some ⟨g,o,none⟩) n cap)=some g:=by
 simp[bk,Nat.ne_of_gt h]
def B3g(w:World)(e:TypeId)(size:Nat)(v:Value)(n:Nat)(xs:List Value):Prop:=
 xs.length=n*size∧(((∃A,v=.slice A 0 0)∧n=0)∨
  ∃g o cap cur,v=.slice (some ⟨g,o,none⟩) n cap∧0<cap∧w.heap[g]?=some (.cells cur e (0,0))∧n≤cap∧cap≤maxLen∧cur.size=o+cap*size∧(cur.toList.drop o).take (n*size)=xs)
theorem B3g.of{w:World}{k:Nat}{e:TypeId}{size:Nat}{v:Value}{n:Nat}{xs:List Value}(h:w.ownsRow k e size v n xs):B3g w e size v n xs:=by
 obtain⟨hl,hr⟩:=h
 refine⟨hl,?_⟩
 rcases hr with⟨h1,h2⟩|⟨g,cap,cur,e1,e2,e3,e4,e5⟩
 ·exact .inl ⟨⟨_,h1⟩,h2⟩
 ·rcases Nat.eq_zero_or_pos cap with h0|h0
  ·subst h0
   have:n=0:=by omega
   subst this
   exact .inl ⟨⟨_,e1⟩,rfl⟩
  ·exact .inr ⟨g,0,cap,cur,e1,h0,e3,e4,e5.1,by simpa using e5.2.1,by simpa using e5.2.2⟩
def Box.bk:Box→Value→Option Nat
 |.view _ _ _,_=>none
 |_,v=>Eng.bk v
@[simp] theorem Box.G6o(t:TypeId)(cs:List C)(v:Value):(Box.box t cs).bk v=Eng.bk v:=rfl
@[simp] theorem Box.D4y(t:TypeId)(y:E)(v:Value):(Box.map t y).bk v=Eng.bk v:=rfl
@[simp] theorem Box.A9s(t:TypeId)(y:E)(v:Value):(Box.vec t y).bk v=Eng.bk v:=rfl
@[simp] theorem Box.H8t(t:TypeId)(a:E)(c:Nat)(v:Value):(Box.view t a c).bk v=none:=rfl
def B2i:Ty→Option Nat
 |.int _=>some 0
 |.bool=>some 1
 |.str=>some 2
 |_=>none
def A6h:List Ty→Option (List Nat)
 |[]=>some []
 |t::ts=>match B2i t,A6h ts with
  |some k,some ks=>some (k::ks)
  |_,_=>none
section
variable(P:Program)(w:World)(F:Fr)(ρ:List D)(β:Nat→Value)
structure D0k(ts us:List Ty)(g h:Bool)(i:Nat)(d:D)(e:MapEntry):Prop where
 born:e.born=i
 key:e.key=valOf g (A4a ts.length ts 0 (d.toL.getD 0 .nil))
 val:∃vs:List Value,e.val=valOf h vs∧vs.length=us.length∧∀(c:Nat) (t:Ty) (u:Value),us[c]?=some t→vs[c]?=some u→Rd P w F t (cellOf us.length (d.toL.getD 1 .nil) c) u
def RC:C→Value→Prop
 |.dat t e,v=>Rd P w F t (den ρ e) v
 |.ptr n off,v=>∃b,β n=.pointer (some ⟨b,0,none⟩)∧v=.pointer (some ⟨b,off,none⟩)
 |.A9m t a i c,v=>∃b o len cap ts,Rd P w F (.slice t) (den ρ a) (.slice (some ⟨b,o,none⟩) len cap)∧A0r P t=some ts∧0≤(den ρ i).toInt∧(den ρ i).toInt.toNat<(den ρ a).toL.length∧
   v=.pointer (some ⟨b,o+(den ρ i).toInt.toNat*ts.length+c,none⟩)
 |.B3e t a c,v=>∃b o,Rd P w F (.ptr t) (den ρ a) (.pointer (some ⟨b,o,none⟩))∧v=.pointer (some ⟨b,o+c,none⟩)
 |.vec n,v=>v=β n
 |.A6c n t i c,v=>∃b o len cap ts,β n=.slice (some ⟨b,o,none⟩) len cap∧A0r P t=some ts∧0≤(den ρ i).toInt∧(den ρ i).toInt.toNat<len∧v=.pointer (some ⟨b,o+(den ρ i).toInt.toNat*ts.length+c,none⟩)
 |.win n t i j,v=>∃A len cap ts,β n=.slice A len cap∧A0r P t=some ts∧0≤(den ρ i).toInt∧(den ρ i).toInt≤(den ρ j).toInt∧(den ρ j).toInt≤(len:Int)∧len≤cap∧
   v=.slice (if cap=(den ρ i).toInt.toNat then A else A.map (·.add ((den ρ i).toInt.toNat*ts.length))) ((den ρ j).toInt.toNat-(den ρ i).toInt.toNat) (cap-(den ρ i).toInt.toNat)
 |.lit n len,v=>∃b,β n=.pointer (some ⟨b,0,none⟩)∧v=.slice (some ⟨b,0,none⟩) len len
 |.A8b t a c,v=>∃n b,F.hc.contains t=true∧den ρ a=.int (n:Nat)∧F.γ[n]?=some (b,t)∧v=.pointer (some ⟨b,c,none⟩)
 |.B5m,v=>v=.slice none 0 0
 |.C4k,v=>v=.pointer none
 |.E6k,v=>v=.nilFunc
 |.fn f,v=>v=.func (.func f) #[] #[]
 |.clo f l,v=>∃us:List Value,v=.func (.func f) #[] us.toArray∧l.length=us.length∧∀(i:Nat) (p:Nat × Nat) (u:Value),l[i]?=some p→us[i]?=some u→∃b,β p.1=.pointer (some ⟨b,0,none⟩)∧u=.pointer (some ⟨b,p.2,none⟩)
 |.B1g,v=>v.oneCell'=true
def RCL(cs:List C)(vs:List Value):Prop:=cs.length=vs.length∧∀(i:Nat) (c:C) (v:Value),cs[i]?=some c→vs[i]?=some v→RC P w F ρ β c v
def R1:V1→Value→Prop
 |.one c,v=>RC P w F ρ β c v
 |.agg cs,v=>∃vs:List Value,v=.agg vs.toArray∧RCL P w F ρ β cs vs
def RV:SV→Value→Prop
 |.one c,v=>RC P w F ρ β c v
 |.agg cs,v=>∃vs:List Value,v=.agg vs.toArray∧RCL P w F ρ β cs vs
 |.tup l,v=>∃vs:List Value,v=.tuple vs.toArray∧l.length=vs.length∧∀(i:Nat) (c:V1) (u:Value),l[i]?=some c→vs[i]?=some u→R1 P w F ρ β c u
def A1b:Box→Value→Prop
 |.box t cs,v=>∃b,∃vs:List Value,v=.pointer (some ⟨b,0,none⟩)∧w.heap[b]?=some (.cells vs.toArray t (0,0))∧RCL P w F ρ β cs vs
 |.vec e x,v=>∃ts,∃xs:List Value,A0r P e=some ts∧B3g w e ts.length v (den ρ x).toL.length xs∧
   ∀i c y t,(den ρ x).toL[i]?=some y→ts[c]?=some t→∃u,xs[i*ts.length+c]?=some u∧Rd P w F t (cellOf ts.length y c) u
 |.view t a c,v=>∃n b,∃vs:List Value,den ρ a=.int (n:Nat)∧F.γ[n]?=some (b,t)∧w.heap[b]?=some (.cells vs.toArray t (0,0))∧vs[c]?=some v
 |.map t x,v=>∃b k e ts us g h,∃es:List MapEntry,v=.map (some b)∧P.underlying t=some (.map k e)∧A0r P k=some ts∧A0r P e=some us∧A1j P k=some g∧A1j P e=some h∧
   w.heap[b]?=some (.map es.toArray es.length)∧es.length=(den ρ x).toL.length∧∀(i:Nat) (e:MapEntry) (d:D),es[i]?=some e→(den ρ x).toL[i]?=some d→D0k P w F ts us g h i d e
end
theorem F9s{P:Program}{w:World}{F:Fr}{ρ:List D}{β:Nat→Value}{t:TypeId}{y:E}{v:Value}(h:Rd P w F (.map t) (den ρ y) v):A1b P w F ρ β (.map t y) v:=by
 cases h with
 |map e1 e2 e3 e4 e5 e6 e7 e8 e9 e10 e11=>
  rename_i b k e ts us g h es gv
  refine⟨b,k,e,ts,us,g,h,es,e1,e2,e3,e4,e5,e6,e8,e9,fun i en d q1 q2=>?_⟩
  obtain⟨z1,z2,z3⟩:=e10 i en d q1 q2
  refine⟨z1,z2,_,z3,by simp,fun c t' u h1 h2=>?_⟩
  have hc:c<us.length:=(a4.1 h1).1
  rw[a6,a7 hc]at h2
  simp only[bW,b1]at h2
  subst h2
  exact e11 i c d t' q2 h1
theorem H3o{P:Program}{w:World}{F:Fr}{ρ:List D}{β:Nat→Value}{t:TypeId}{y:E}{v:Value}(h:A1b P w F ρ β (.map t y) v):Rd P w (F.or fun k=>bk v=some k) (.map t) (den ρ y) v:=by
 obtain⟨b,k,e,ts,us,g,h,es,e1,e2,e3,e4,e5,e6,e8,e9,e10⟩:=h
 have hx:∀i:Nat,∃vs:List Value,∀(en:MapEntry) (x:D),es[i]?=some en→(den ρ y).toL[i]?=some x→en.val=valOf h vs∧vs.length=us.length∧∀(c:Nat) (t:Ty) (u:Value),us[c]?=some t→vs[c]?=some u→Rd P w F t (cellOf us.length (x.toL.getD 1 .nil) c) u:=by
  intro i
  cases h1:es[i]? with
  |none=>exact⟨[],fun en x q=>by cases q⟩
  |some en=>
   cases h2:(den ρ y).toL[i]? with
   |none=>exact⟨[],fun en x _ q=>by cases q⟩
   |some x=>
    obtain⟨vs,v1,v2,v3⟩:=(e10 i en x h1 h2).val
    exact⟨vs,fun en' x' q1 q2=>by cases q1;cases q2;exact⟨v1,v2,v3⟩⟩
 let f:Nat→List Value:=fun i=>cL (hx i)
 have hf:∀i,_:=fun i=>cM (hx i)
 have hle:Le w F w (F.or fun k=>bk v=some k):=Le.or fun k hk=>rfl
 refine Rd.map (gv:=fun i c=>(f i).getD c undef) e1 e2 e3 e4 e5 e6 (.inr (by rw[e1];rfl)) e8 e9 (fun i en x q1 q2=>?_) (fun i c x u q1 q2=>?_)
 ·have ho:=e10 i en x q1 q2
  obtain⟨v1,v2,_⟩:=hf i en x q1 q2
  refine⟨ho.born,ho.key,?_⟩
  rw[v1]
  congr 1
  apply aN
  intro c
  rw[a6]
  by_cases hc:c<us.length
  ·rw[a7 hc]
   have hc':c<(f i).length:=by show c<(cL (hx i)).length;omega
   simp only[bW,a5]
   show(f i)[c]?=some ((f i)[c]?.getD undef)
   rw[a0 hc']
   rfl
  ·rw[a9 (by show(cL (hx i)).length≤c;omega),a9 (by simpa using hc)]
   rfl
 ·have hi:i<es.length:=by rw[e9];exact(a4.1 q1).1
  obtain⟨v1,v2,v3⟩:=hf i es[i] x (a0 hi) q1
  have hc:c<us.length:=(a4.1 q2).1
  have hc':c<(f i).length:=by show c<(cL (hx i)).length;omega
  refine(v3 c u _ q2 (a0 hc')).mono hle |> fun hh=>?_
  have hgd:(f i).getD c undef=(f i)[c]:=by rw[a5,a0 hc'];rfl
  show Rd P w _ u _ ((f i).getD c undef)
  rw[hgd]
  exact hh
end Go.Proofs.YtckanieeocdpbaaGreat.Eng
namespace Go.Proofs.YtckanieeocdpbaaGreat.Eng
set_option linter.unusedVariables false
def E1g(op:BinOp)(k:IntKind)(a b:E):E:=
 match a,b with
 |.int x,.int y=>.int (arF op k x y)
 |_,_=>.ar op k a b
def A8t(op:BinOp)(a b:E):E:=
 match a,b with
 |.int x,.int y=>.bool (C3w op x y)
 |_,_=>.cmp op a b
def mkNot:E→E
 |.bool b=>.bool (!b)
 |.not a=>.ite a (.bool true) (.bool false)
 |a=>.not a
def mkAnd(a b:E):E:=
 match a,b with
 |.bool true,b=>b
 |.bool false,_=>.bool false
 |a,.bool true=>a
 |a,b=>.and a b
def E3a(a b:E):E:=
 match a,b with
 |.bool x,.bool y=>.bool (x == y)
 |a,b=>.beq a b
def mkIte(c a b:E):E:=
 match c with
 |.bool true=>a
 |.bool false=>b
 |c=>.ite c a b
def E4e(c a b:E):E:=
 match a,b with
 |.bool true,b=>.or c b
 |a,.bool false=>.and c a
 |a,b=>mkIte c a b
def E1r(t:Ty)(c a b:E):E:=match t with|.bool=>E4e c a b|_=>mkIte c a b
def A8x:E→E
 |.nil=>.bool true
 |.B6o _ _=>.bool false
 |.ptr _=>.bool false
 |.int _=>.bool false
 |.len _=>.bool false
 |a=>.E5g a
def B2q(f:Nat):E→E
 |.B6o g _=>.bool (g == f)
 |.nil=>.bool false
 |a=>.F5t f a
def B5y:E→E
 |.B6o _ a=>a
 |a=>.ifv a
def F2p(k:IntKind):E→E
 |.int n=>.int (k.wrap n)
 |a=>.conv k a
def C0p(a:E)(c:Nat):E:=
 match a,c with
 |.A3c x _,0=>x
 |.A3c _ y,c+1=>match y,c with
  |.A3c x _,0=>x
  |y,c=>.cell y c
 |a,c=>.cell a c
def B0a:E→Nat→E
 |.A3c x _,0=>x
 |.A3c _ y,c+1=>B0a y c
 |.B6u n a k v,c=>if c<n∧k<n then(if c=k then v else B0a a c)else .cell (.B6u n a k v) c
 |a,c=>.cell a c
def B8l:E→Nat→E→Option E
 |.A3c _ y,0,v=>some (.A3c v y)
 |.A3c x y,c+1,v=>(B8l y c v).map (.A3c x)
 |_,_,_=>none
def B9x(n:Nat)(a:E)(c:Nat)(v:E):E:=
 match B8l a c v with
 |some r=>r
 |none=>match a with
  |.B6u m b k u=>if k=c∧m=n then .B6u n b c v else .B6u n (.B6u m b k u) c v
  |a=>.B6u n a c v
def E1b:E→Nat→Option E
 |.A3c x _,0=>some x
 |.A3c _ y,n+1=>E1b y n
 |_,_=>none
def F2k(g:E):E→Bool
 |.app p (.A3c _ .A4p)=>decide (g=p) || F2k g p
 |_=>false
def E7c:E→Option Nat
 |.int (.ofNat n)=>some n
 |_=>none
def getLit(h a:E):E:=match E7c a with|some n=>(E1b h n).getD (.get h a)|none=>.get h a
def mkGet:E→E→E
 |.set h b x,a=>if b=a then x else match E7c a,E7c b with
  |some m,some n=>if m=n then .get (.set h b x) a else mkGet h a
  |_,_=>.get (.set h b x) a
 |.app h (.A3c x .A4p),a=>if a=.len h then x else match a with
  |.len g=>if F2k g h then mkGet h a else .get (.app h (.A3c x .A4p)) a
  |a=>.get (.app h (.A3c x .A4p)) a
 |h,a=>getLit h a
def mkSet(h a x:E):E:=
 match h with
 |.set g b y=>if b=a then .set g a x else .set (.set g b y) a x
 |.app g (.A3c y .A4p)=>if a=.len g then .app g (.A3c x .A4p)else .set (.app g (.A3c y .A4p)) a x
 |h=>match E7c a with
  |some n=>(B8l h n x).getD (.set h a x)
  |none=>.set h a x
def C6r:E→E→Option E
 |.A4p,x=>some (.A3c x .A4p)
 |.A3c a b,x=>(C6r b x).map (.A3c a)
 |_,_=>none
def B8j(h x:E):E:=(C6r h x).getD (.app h (.A3c x .A4p))
def C4l:E→Option Nat
 |.A4p=>some 0
 |.A3c _ b=>(C4l b).map (·+1)
 |_=>none
def D7l(h:E):E:=match C4l h with|some n=>.int (n:Nat)|none=>.len h
def C0o(n:Nat)(el:E)(c:Nat):E:=if n=1 then el else .cell el c
def cst:Value→Option C
 |.int k n=>some (.dat (.int k) (.int n))
 |.bool b=>some (.dat .bool (.bool b))
 |.string s=>some (.dat .str (.str s))
 |.nilIface=>some (.dat .ifc .nil)
 |.slice none 0 0=>some .B5m
 |.pointer none=>some .C4k
 |.nilFunc=>some .E6k
 |.map none=>some .B1g
 |_=>none
def D5y:List Value→Option (List C)
 |[]=>some []
 |v::l=>match cst v,D5y l with
  |some c,some cs=>some (c::cs)
  |_,_=>none
def H1l(v:Value):Option SV:=
 match v with
 |.agg cs=>(D5y cs.toList).map .agg
 |v=>(cst v).map .one
def tyC:Ty→C→C
 |.ptr e,.C4k=>.dat (.ptr e) .nil
 |_,c=>c
def E0b:List Ty→List C→List C
 |t::ts,c::cs=>tyC t c::E0b ts cs
 |_,cs=>cs
def B3y(P:Program)(t:TypeId):Option (List C):=
 match (P.info? t).bind (·.zero)with
 |some z=>match D5y z.cells.toList with
  |some cs=>some (match A0r P t with|some ts=>E0b ts cs|none=>cs)
  |none=>none
 |none=>none
def A3k(P:Program)(t:TypeId):Option Nat:=(P.info? t).map (·.size)
def SV.cells:SV→Option (List C)
 |.one c=>some [c]
 |.agg cs=>some cs
 |.tup _=>none
def A6f(P:Program)(t:TypeId)(cs:List C)(off:Nat):Option SV:=
 match A1j P t,A3k P t with
 |some true,some n=>if off+n≤cs.length then some (.agg ((cs.drop off).take n))else none
 |some false,some 1=>(cs[off]?).map .one
 |_,_=>none
def mat(t:Ty)(c:C):Option E:=
 match c with
 |.dat u e=>if t=u then some e else none
 |.B5m=>match t with|.slice _=>some .A4p|_=>none
 |.C4k=>match t with|.ptr _=>some .nil|_=>none
 |.E6k=>match t with|.fn=>some .nil|_=>none
 |.fn f=>match t with|.fn=>some (.B6o f .A4p)|_=>none
 |.A8b e a c=>match t with|.ptr e'=>if e=e'∧c=0 then some a else none|_=>none
 |_=>none
inductive OTy where
 |dat (t:Ty)|row (g:Bool) (e:TypeId)
 deriving DecidableEq,Inhabited
def H8m(m:Nat)(c:Nat):Ty→OTy
 |.slice e=>if m.testBit c then .dat (.slice e)else .row (m.testBit (c+64)) e
 |t=>.dat t
def D2o(P:Program)(ob:List (Nat × Nat))(t:TypeId):Option (List OTy):=
 (A0r P t).map fun ts=>ts.zipIdx.map fun(u,c)=>H8m ((ob.lookup t).getD 0) c u
def D2d(h:E)(os:List OTy)(a:E):List C:=os.zipIdx.map fun(o,j)=>match o with
 |.dat u=>.dat u (B0a (mkGet h a) j)
 |.row _ _=>.B1g
def F4m(ex:List (Nat × TypeId × E))(c:Nat):Bool:=ex.any fun x=>x.1 == c
def LIM:Nat:=1000000
def St.at(st:St)(t:Nat):Option SV:=if t<LIM then st.tm.lookup t else none
theorem St.F9k{st:St}{t:Nat}{sv:SV}(h:st.at t=some sv):t<LIM∧st.tm.lookup t=some sv:=by
 unfold St.at at h
 split at h
 ·rename_i hl;exact⟨hl,h⟩
 ·cases h
section
variable(P:Program)(st:St)
def opV:Operand→Option SV
 |.tmp t=>st.at t
 |.const v=>H1l v
 |.func f=>some (.one (.fn f))
 |.global g=>match st.cf.gs.lookup g with
  |some (t,s::l)=>some (.one (.A9m t (G2t (s::l)) (.int 0) 0))
  |_=>none
def opC(x:Operand):Option C:=match opV st x with|some (.one c)=>some c|_=>none
abbrev R:=List E × SV × Option Box
def ev1(c:C):Option R:=some ([],.one c,none)
def known(e:E):Option Bool:=match e with|.bool b=>some b|e=>(st.fs.find? (fun p=>p.1 == e)).map (·.2)
def F3i(c a b:Operand):Option R:=
 match opC st c with
 |some (.dat .bool e)=>match known st e with
  |some true=>(opV st a).map fun v=>([],v,none)
  |some false=>(opV st b).map fun v=>([],v,none)
  |none=>match opC st a,opC st b with
   |some (.dat t x),some c=>(mat t c).map fun y=>([],.one (.dat t (E1r t e x y)),none)
   |some c,some (.dat t y)=>(mat t c).map fun x=>([],.one (.dat t (E1r t e x y)),none)
   |_,_=>none
 |_=>none
def asH(c:C):Option (List E × TypeId × E × Nat):=
 match c with
 |.A8b t a c=>some ([],t,a,c)
 |.dat (.ptr e) a=>if st.cf.hc.contains e then some ([mkNot (A8x a)],e,a,0)else none
 |_=>none
def rowOf(m:Nat):Option (TypeId × E):=
 match st.bx.lookup m with
 |some (.vec e y)=>some (e,y)
 |some (.view t a j)=>match st.hp,D2o P st.cf.ob t with
  |some (_,h),some os=>match os[j]? with
   |some (.row false e)=>if F4m st.ex j then none else some (e,B0a (mkGet h a) j)
   |_=>none
  |_,_=>none
 |_=>none
def D7f(t:TypeId)(es:List E)(tt:TypeId)(a:E)(c:Nat):Option R:=
 match st.hp,D2o P st.cf.ob tt with
 |some (_,h),some os=>match os[c]?,P.underlying t,A3k P t with
  |some (.row false e),some (.slice e'),some 1=>if e=e'∧F4m st.ex c=false then some (es,.one (.vec st.nn),some (.view tt a c))else none
  |some (.row true _),_,_=>none
  |_,_,_=>(A6f P t (D2d h os a) c).map fun v=>(es,v,none)
 |_,_=>none
def F5q(t:TypeId)(x:Operand):Option R:=
 match opC st x with
 |some (.ptr n off)=>match st.bx.lookup n with
  |some (.box _ cs)=>(A6f P t cs off).map fun v=>([],v,none)
  |_=>none
 |some (.A9m tt a i c)=>match A0r P tt with
  |some ts=>(A6f P t (ts.zipIdx.map fun(u,j)=>C.dat u (C0o ts.length (.get a i) j)) c).map fun v=>([],v,none)
  |none=>none
 |some (.B3e tt a c)=>match A0r P tt with
  |some ts=>if st.cf.hc.contains tt then none else(A6f P t (ts.zipIdx.map fun(u,j)=>C.dat u (C0p a j)) c).map fun v=>([],v,none)
  |none=>none
 |some (.A6c n tt i c)=>match A0r P tt,rowOf P st n with
  |some ts,some (e,y)=>if e=tt then(A6f P t (ts.zipIdx.map fun(u,j)=>C.dat u (C0o ts.length (.get y i) j)) c).map fun v=>([],v,none)else none
  |_,_=>none
 |some x=>match asH st x with
  |some (es,tt,a,c)=>D7f P st t es tt a c
  |none=>match x with
   |.dat (.ptr e) a=>match A0r P e with
    |some ts=>if st.cf.hc.contains e then none else(A6f P t (ts.zipIdx.map fun(u,j)=>C.dat u (C0p a j)) 0).map fun v=>([mkNot (A8x a)],v,none)
    |none=>none
   |_=>none
 |_=>none
def C3o(s:TypeId)(f:Nat):Option Field:=
 match P.underlying s with
 |some (.struct fs)=>fs[f]?
 |_=>none
def C7n(s:TypeId)(x:Operand)(f:Nat):Option R:=
 match C3o P s f with
 |some fl=>match A3k P fl.type with
  |some (_+1)=>match opC st x with
   |some (.ptr n off)=>ev1 (.ptr n (off+fl.offset))
   |some (.A9m t a i c)=>ev1 (.A9m t a i (c+fl.offset))
   |some (.B3e t a c)=>ev1 (.B3e t a (c+fl.offset))
   |some (.A6c m t i c)=>ev1 (.A6c m t i (c+fl.offset))
   |some x=>match asH st x with
    |some (es,t,a,c)=>some (es,.one (.A8b t a (c+fl.offset)),none)
    |none=>match x with
     |.dat (.ptr e) a=>if st.cf.hc.contains e then none else some ([mkNot (A8x a)],.one (.B3e e a fl.offset),none)
     |_=>none
   |_=>none
  |_=>none
 |none=>none
def E7a(s:TypeId)(x:Operand)(f:Nat):Option R:=
 match C3o P s f with
 |some fl=>match opV st x with
  |some (.agg cs)=>(A6f P fl.type cs fl.offset).map fun v=>([],v,none)
  |_=>none
 |none=>none
def bin(op:BinOp)(t:TypeId)(x y:C):Option (List E × C):=
 match x,y with
 |.dat (.int k) a,.dat (.int k') b=>
  match op with
  |.shl|.shr=>some ([A8t .geq b (.int 0)],.dat (.int k) (E1g op k a b))
  |.add|.sub|.mul|.and|.or|.xor|.andNot=>if k=k' then some ([],.dat (.int k) (E1g op k a b))else none
  |.quo|.rem=>if k=k' then some ([A8t .neq b (.int 0)],.dat (.int k) (E1g op k a b))else none
  |_=>if k=k' then some ([],.dat .bool (A8t op a b))else none
 |.dat .bool a,.dat .bool b=>
  match op,P.underlying t with
  |.eql,some .bool=>some ([],.dat .bool (E3a a b))
  |.neq,some .bool=>some ([],.dat .bool (mkNot (E3a a b)))
  |_,_=>none
 |.dat .str a,.dat .str b=>
  match op with
  |.add=>some ([.cmp .leq (.ar .add .i64 (.B5o a) (.B5o b)) (.int 4611686018427387903),.cmp .leq (.B5o a) (.int 4611686018427387903),.cmp .leq (.B5o b) (.int 4611686018427387903)],.dat .str (.F6a a b))
  |.eql|.neq|.lss|.leq|.gtr|.geq=>some ([],.dat .bool (.E6y op a b))
  |_=>none
 |.dat .ifc a,.dat .ifc .nil=>
  match op,P.underlying t with
  |.eql,some (.interface _)=>some ([],.dat .bool (A8x a))
  |.neq,some (.interface _)=>some ([],.dat .bool (mkNot (A8x a)))
  |_,_=>none
 |.dat (.ptr _) a,.C4k=>
  match op,P.underlying t with
  |.eql,some (.pointer _)=>some ([],.dat .bool (A8x a))
  |.neq,some (.pointer _)=>some ([],.dat .bool (mkNot (A8x a)))
  |_,_=>none
 |.ptr _ _,.C4k|.A8b _ _ _,.C4k=>
  match op,P.underlying t with
  |.eql,some (.pointer _)=>some ([],.dat .bool (.bool false))
  |.neq,some (.pointer _)=>some ([],.dat .bool (.bool true))
  |_,_=>none
 |_,_=>none
def eqC:C→C→Option E
 |.dat (.int k) a,.dat (.int k') b=>if k=k' then some (A8t .eql a b)else none
 |.dat .bool a,.dat .bool b=>some (E3a a b)
 |.dat .str a,.dat .str b=>some (.E6y .eql a b)
 |_,_=>none
def scT:C→Option TypeDesc→Bool
 |.dat (.int k) _,some (.int k')=>k == k'
 |.dat .bool _,some .bool=>true
 |.dat .str _,some .string=>true
 |_,_=>false
def D1l(g:TypeId→List C→List C→Option E):List Field→Nat→List C→List C→Option E
 |[],_,[],[]=>some (.bool true)
 |f::fs,n,cs,ds=>match A3k P f.type with
  |some m=>if f.name != "_"&&f.offset == n&&decide (m≤cs.length)&&decide (m≤ds.length)then match g f.type (cs.take m) (ds.take m),D1l g fs (n+m) (cs.drop m) (ds.drop m)with
   |some e,some f=>some (mkAnd e f)
   |_,_=>none
   else none
  |none=>none
 |_,_,_,_=>none
def D0c(g:List C→List C→Option E)(m:Nat):Nat→List C→List C→Option E
 |0,[],[]=>some (.bool true)
 |k+1,cs,ds=>if m≤cs.length∧m≤ds.length then match g (cs.take m) (ds.take m),D0c g m k (cs.drop m) (ds.drop m)with
  |some e,some f=>some (mkAnd e f)
  |_,_=>none
  else none
 |_,_,_=>none
def eqT:Nat→TypeId→List C→List C→Option E
 |0,_,_,_=>none
 |n+1,t,cs,ds=>match P.underlying t with
  |some (.struct fs)=>if P.stoodInHeld t then none else D1l P (eqT n) fs.toList 0 cs ds
  |some (.array k e)=>match A3k P e with
   |some m=>D0c (eqT n e) m k cs ds
   |none=>none
  |td=>match cs,ds with
   |[c],[d]=>if scT c td then eqC c d else none
   |_,_=>none
def isConst:Operand→Bool|.const _=>true|_=>false
def G2s(op:BinOp)(t:TypeId)(x y:Operand):Option R:=
 match opV st x,opV st y with
 |some (.one a),some (.one b)=>match a,b with
  |.dat .ifc u,.dat .ifc v=>if isConst y then(bin P op t (.dat .ifc u) (.dat .ifc v)).map fun r=>(r.1,.one r.2,none)else none
  |a,b=>(bin P op t a b).map fun r=>(r.1,.one r.2,none)
 |some (.agg cs),some (.agg ds)=>
   if A1j P t=some true∧P.eqGuardType P.depth t=false then match eqT P 8 t cs ds,op with
    |some e,.eql=>some ([],.one (.dat .bool e),none)
    |some e,.neq=>some ([],.one (.dat .bool (mkNot e)),none)
    |_,_=>none
   else none
 |_,_=>none
def H0q(op:UnOp)(x:Operand):Option R:=
 match op,opC st x with
 |.not,some (.dat .bool e)=>ev1 (.dat .bool (mkNot e))
 |.neg,some (.dat (.int k) e)=>ev1 (.dat (.int k) (E1g .sub k (.int 0) e))
 |.xor,some (.dat (.int k) e)=>ev1 (.dat (.int k) (E1g .xor k (.int (if k.signed then -1 else k.max)) e))
 |_,_=>none
def F3n(src dst:TypeId)(x:Operand):Option R:=
 match P.underlying src,P.underlying dst,opC st x with
 |some (.int _),some (.int k),some (.dat (.int _) e)=>ev1 (.dat (.int k) (F2p k e))
 |some .string,some .string,some (.dat .str e)=>ev1 (.dat .str e)
 |_,_,_=>none
def F4j(t:TypeId)(x:Operand):Option R:=
 match D4t P t,opC st x with
 |some u,some (.dat u' e)=>if u=u'∧u≠.ifc then ev1 (.dat .ifc (.B6o t e))else none
 |_,_=>none
def D9t(t:TypeId)(x:Operand)(ok:Bool):Option R:=
 match D4t P t,((P.info? t).bind (·.zero)).bind cst,opC st x with
 |some u,some z,some (.dat .ifc a)=>if u=.ifc then none else match tyC u z with
  |.dat u' z'=>if u'=u then(if ok then some ([],.tup [.one (.dat u (E1r u (B2q t a) (B5y a) z')),.one (.dat .bool (B2q t a))],none)else some ([B2q t a],.one (.dat u (B5y a)),none))else none
  |_=>none
 |_,_,_=>none
def D5j(x:Operand)(i:Nat):Option R:=
 match opV st x with
 |some (.tup l)=>(l[i]?).map fun v=>([],v.sv,none)
 |_=>none
def putCells(cs:List C)(off:Nat):List C→List C
 |[]=>cs
 |x::xs=>putCells (cs.set off x) (off+1) xs
def B8m(place:Nat→Option (Nat × Nat))(cs:List C):List (Nat × SV)→Option (List C)
 |[]=>some cs
 |(i,v)::rest=>match place i,v.cells with
  |some (off,n),some xs=>if xs.length=n∧off+n≤cs.length then B8m place (putCells cs off xs) rest else none
  |_,_=>none
def E0o:List (Nat × Operand)→Option (List (Nat × SV))
 |[]=>some []
 |(i,x)::l=>match opV st x,E0o l with
  |some v,some vs=>some ((i,v)::vs)
  |_,_=>none
def C9h:List Field→Option (List (Nat × Nat))
 |[]=>some []
 |f::fs=>match A3k P f.type,C9h fs with
  |some n,some l=>some ((f.offset,n)::l)
  |_,_=>none
def E6t(t:TypeId)(parts:Array (Nat × Operand)):Option R:=
 match B3y P t,E0o st parts.toList,P.underlying t with
 |some zs,some vs,some (.struct fs)=>match C9h P fs.toList with
  |some ps=>(B8m (ps[·]?) zs vs).map fun cs=>([],.agg cs,none)
  |none=>none
 |some zs,some vs,some (.array _ e)=>match A3k P e with
  |some n=>(B8m (fun i=>some (i*n,n)) zs vs).map fun cs=>([],.agg cs,none)
  |none=>none
 |_,_,_=>none
def C7d(t:TypeId)(x i:Operand):Option R:=
 match P.underlying t,opC st x,opC st i with
 |some (.slice e),some (.dat (.slice e') a),some (.dat (.int _) j)=>
  if e=e' then match A0r P e,A3k P e with
   |some ts,some n=>if ts.length=n then some ([A8t .geq j (.int 0),.cmp .lss j (.len a)],.one (.A9m e a j 0),none)else none
   |_,_=>none
  else none
 |some (.slice e),some (.vec m),some (.dat (.int _) j)=>
  match rowOf P st m with
  |some (e',y)=>if e=e' then match A0r P e,A3k P e with
   |some ts,some n=>if ts.length=n then some ([A8t .geq j (.int 0),.cmp .lss j (.len y)],.one (.A6c m e j 0),none)else none
   |_,_=>none
  else none
  |_=>none
 |some (.slice e),some (.lit n len),some (.dat (.int _) (.int j))=>
  match A3k P e with
  |some s=>if 0≤j∧j<len then ev1 (.ptr n (j.toNat*s))else none
  |none=>none
 |some (.array m e),some (.A8b t a off),some (.dat (.int _) (.int j))=>
  match A3k P e with
  |some s=>if 0≤j∧j<m then ev1 (.A8b t a (off+j.toNat*s))else none
  |none=>none
 |some (.array m e),some (.ptr n off),some (.dat (.int _) (.int j))=>
  match A3k P e with
  |some s=>if 0≤j∧j<m then ev1 (.ptr n (off+j.toNat*s))else none
  |none=>none
 |some (.array m e),some (.A6c n t k off),some (.dat (.int _) (.int j))=>
  match A3k P e with
  |some s=>if 0≤j∧j<m then ev1 (.A6c n t k (off+j.toNat*s))else none
  |none=>none
 |some (.array m e),some (.A9m t a k off),some (.dat (.int _) j)=>
  if t=e∧k=.int 0∧off=0 then match A0r P e,A3k P e with
   |some ts,some n=>if ts.length=n then some ([A8t .geq j (.int 0),.cmp .lss j (.len a),.cmp .lss j (.int m)],.one (.A9m e a j 0),none)else none
   |_,_=>none
  else match j,A3k P e with
  |.int j,some s=>if 0≤j∧j<m then ev1 (.A9m t a k (off+j.toNat*s))else none
  |_,_=>none
 |some (.array m e),some (.B3e t a off),some (.dat (.int _) (.int j))=>
  match A3k P e with
  |some s=>if 0≤j∧j<m then ev1 (.B3e t a (off+j.toNat*s))else none
  |none=>none
 |_,_,_=>none
def A4e:List E→E
 |[]=>.A4p
 |e::l=>.A3c e (A4e l)
def E1l(t:Ty):List C→Option (List E)
 |[]=>some []
 |.dat u e::cs=>if u=t then(E1l t cs).map (e::·)else none
 |_=>none
def E7d(t:TypeId)(x i:Operand):Option R:=
 match P.underlying t,opC st x,opC st i with
 |some .string,some (.dat .str a),some (.dat (.int _) j)=>some ([A8t .geq j (.int 0),.cmp .lss j (.B5o a)],.one (.dat (.int .u8) (.F2l a j)),none)
 |some (.array len e),_,some (.dat (.int _) j)=>match opV st x,A0r P e,A3k P e with
  |some (.agg cs),some [t],some 1=>match E1l t cs with
   |some es=>if A1j P e=some false∧es.length=len then some ([A8t .geq j (.int 0),.cmp .lss j (.int len)],.one (.dat t (.get (A4e es) j)),none)else none
   |none=>none
  |_,_,_=>none
 |_,_,_=>none
def G2q(t:TypeId)(x:Operand):Option R:=
 match P.underlying t,opC st x with
 |some (.slice _),some (.dat (.slice _) a)=>ev1 (.dat (.int .i64) (.len a))
 |some (.slice _),some .B5m=>ev1 (.dat (.int .i64) (.int 0))
 |some (.slice _),some (.vec m)=>match rowOf P st m with
  |some (_,y)=>ev1 (.dat (.int .i64) (.len y))
  |_=>none
 |some (.slice _),some (.lit n len)=>ev1 (.dat (.int .i64) (.int len))
 |some .string,some (.dat .str a)=>ev1 (.dat (.int .i64) (.B5o a))
 |some (.map _ _),some (.dat (.map _) a)=>ev1 (.dat (.int .i64) (.len a))
 |some (.map _ _),some (.vec m)=>match st.bx.lookup m with
  |some (.map _ y)=>ev1 (.dat (.int .i64) (.len y))
  |_=>none
 |_,_=>none
def A9n(x:Option Operand)(d:E):Option E:=
 match x with
 |none=>some d
 |some x=>match opC st x with
  |some (.dat (.int _) e)=>some e
  |_=>none
def E6h(t:TypeId)(x:Operand)(lo hi mx:Option Operand):Option R:=
 match P.underlying t,opC st x,mx with
 |some (.slice e),some (.dat (.slice e') a),none=>
  match A9n st lo (.int 0),A9n st hi (.len a),A0r P e,A3k P e with
  |some l,some h,some ts,some n=>if e=e'∧ts.length=n then some ([.cmp .leq (.int 0) l,.cmp .leq l h,.cmp .leq h (.len a)],.one (.dat (.slice e) (.sub a l h)),none)else none
  |_,_,_,_=>none
 |some .string,some (.dat .str a),none=>
  match A9n st lo (.int 0),A9n st hi (.B5o a)with
  |some l,some h=>some ([.cmp .leq (.int 0) l,.cmp .leq l h,.cmp .leq h (.B5o a)],.one (.dat .str (.F1x a l h)),none)
  |_,_=>none
 |_,_,_=>none
def C9s(x:Operand):Option R:=
 match opC st x with
 |some (.ptr n off)=>ev1 (.ptr n off)
 |some (.A8b t a c)=>ev1 (.A8b t a c)
 |some (.A6c n t i c)=>ev1 (.A6c n t i c)
 |some (.A9m t a i c)=>ev1 (.A9m t a i c)
 |some (.dat (.ptr e) a)=>if st.cf.hc.contains e then some ([mkNot (A8x a)],.one (.A8b e a 0),none)else some ([mkNot (A8x a)],.one (.B3e e a 0),none)
 |_=>none
def G3u(mx:Bool)(x y:Operand):Option R:=
 match opC st x,opC st y with
 |some (.dat (.int k) a),some (.dat (.int k') b)=>if k=k' then ev1 (.dat (.int k) (mkIte (A8t (if mx then .gtr else .lss) b a) b a))else none
 |_,_=>none
def A7e:List Ty→List C→Option (List E)
 |[],[]=>some []
 |t::ts,c::cs=>match mat t c,A7e ts cs with
  |some e,some es=>some (e::es)
  |_,_=>none
 |_,_=>none
def G2u(ts:List Ty)(n:Nat)(cs:List C)(i:Nat):Option E:=
 match A7e ts ((cs.drop (i*n)).take n)with
 |some es=>some (if n=1 then es.headD .nil else A4e es)
 |none=>none
def C9l(ts:List Ty)(n:Nat)(cs:List C):Nat→Nat→Option (List E)
 |0,_=>some []
 |k+1,i=>match G2u ts n cs i,C9l ts n cs k (i+1)with
  |some e,some es=>some (e::es)
  |_,_=>none
def vrs:List Ty→Nat→List C
 |[],_=>[]
 |t::ts,n=>.dat t (.var n)::vrs ts (n+1)
def E1f:List Ty→Nat→Nat→Option E
 |[],_,_=>some (.bool true)
 |t::ts,a,b=>match eqC (.dat t (.var a)) (.dat t (.var b)),E1f ts (a+1) (b+1)with
  |some e,some f=>some (mkAnd e f)
  |_,_=>none
def C1s(k:TypeId):Option (List Nat):=
 match A0r P k,A1j P k with
 |some ts,some g=>if eqT P 8 k (vrs ts 0) (vrs ts ts.length)=E1f ts 0 ts.length∧(E1f ts 0 ts.length).isSome=true∧0<ts.length∧(g=true∨ts.length=1)then A6h ts else none
 |_,_=>none
def C7m(us:List Ty)(es:List E):E:=if us.length=1 then es.headD .nil else A4e es
def D6o(ts:List Ty)(g:Bool)(sv:SV):Option E:=
 match g,sv with
 |true,.agg cs=>(A7e ts cs).map (C7m ts)
 |false,.one c=>if ts.length=1 then(A7e ts [c]).map (C7m ts)else none
 |_,_=>none
def D7v(t:TypeId):Option (TypeId × TypeId):=match P.underlying t with|some (.map k e)=>some (k,e)|_=>none
def F3f(e:TypeId):Option E:=
 match (P.info? e).bind (·.zero),A1j P e,A0r P e with
 |some (.agg zs),some true,some us=>match D5y zs.toList with
  |some cs=>(A7e us (E0b us cs)).map (C7m us)
  |none=>none
 |some z,some false,some us=>match cst z with
  |some c=>if us.length=1 then(A7e us (E0b us [c])).map (C7m us)else none
  |none=>none
 |_,_,_=>none
def mapArgs(t:TypeId)(m x:Operand):Option (Nat × E × TypeId × TypeId × List Nat × E):=
 match D7v P t,opC st m with
 |some (k,e),some (.vec n)=>match st.bx.lookup n,C1s P k,A0r P k,A1j P k,opV st x with
  |some (.map t' y),some ks,some ts,some g,some sv=>if t=t' then match D6o ts g sv with
   |some q=>some (n,y,k,e,ks,q)
   |none=>none
   else none
  |_,_,_,_,_=>none
 |_,_=>none
def elSV(us:List Ty)(g:Bool)(el:E):SV:=
 if g=true then .agg (us.zipIdx.map fun(u,j)=>C.dat u (C0o us.length el j))else .one (.dat (us.headD .bool) (C0o us.length el 0))
def E4l(ks:List Nat)(a q z:E):E:=
 match a with
 |.D5m ks1 y k (.C9x ks2 y' k' z')=>if ks=ks1∧ks=ks2∧y=y'∧k=k'∧z=z' then .C9x ks y q z else .C9x ks a q z
 |a=>.C9x ks a q z
def D9v(t:TypeId)(m x:Operand):Option (E × TypeId × TypeId × List Nat × E):=
 match D7v P t,opC st m with
 |some (k,e),some (.dat (.map t') y)=>match C1s P k,A0r P k,A1j P k,opV st x with
  |some ks,some ts,some g,some sv=>if t=t' then match D6o ts g sv with
   |some q=>some (y,k,e,ks,q)
   |none=>none
   else none
  |_,_,_,_=>none
 |_,_=>none
def F1g(y:E)(e:TypeId)(ks:List Nat)(q:E)(ok:Bool):Option R:=
 match F3f P e,A0r P e,A1j P e with
 |some z,some us,some g=>if g=true∨us.length=1 then
   let v:=elSV us g (E4l ks y q z)
   if ok=true then match v with
    |.one c=>some ([],.tup [.one c,.one (.dat .bool (.cmp .lss (.mix ks y q) (.len y)))],none)
    |.agg cs=>some ([],.tup [.agg cs,.one (.dat .bool (.cmp .lss (.mix ks y q) (.len y)))],none)
    |.tup _=>none
   else some ([],v,none)
  else none
 |_,_,_=>none
def E0n(t:TypeId)(m x:Operand)(ok:Bool):Option R:=
 match mapArgs P st t m x with
 |some (n,y,k,e,ks,q)=>F1g P y e ks q ok
 |none=>match D9v P st t m x with
  |some (y,k,e,ks,q)=>F1g P y e ks q ok
  |none=>none
def evB(t:TypeId)(len:Nat)(parts:Array (Nat × Operand)):Option SV:=
 match P.underlying t with
 |some (.slice e)=>match A3k P e,A0r P e,B3y P e,E0o st parts.toList with
  |some n,some ts,some zs,some vs=>
   if ts.length=n∧zs.length=n∧0<n∧0<len∧len*n≤2 ^ 24 then
    match B8m (fun i=>some (i*n,n)) ((aF (len*n)).map fun j=>zs.getD (j%n) .B1g) vs with
    |some cs=>(C9l ts n cs len 0).map fun es=>.one (.dat (.slice e) (A4e es))
    |none=>none
   else none
  |_,_,_,_=>none
 |_=>none
def evV(op:Op)(ty:TypeId):Option R:=
 match op with
 |.move x|.assign x=>(opV st x).map fun v=>([],v,none)
 |.pick c a b=>F3i st c a b
 |.alloc t=>if st.cf.hc.contains t then none else(B3y P t).map fun cs=>([],.one (.ptr st.nn 0),some (.box t cs))
 |.box t x=>if st.cf.hc.contains t then none else match opV st x with
  |some v=>match v.cells with|some cs=>some ([],.one (.ptr st.nn 0),some (.box t cs))|none=>none
  |none=>none
 |.build t parts=>E6t P st t parts
 |.load t x=>F5q P st t x
 |.nilCheck x=>C9s st x
 |.binOp op t x y _=>G2s P st op t x y
 |.unOp op _ x=>H0q st op x
 |.convert s d x=>F3n P st s d x
 |.makeInterface t x=>F4j P st t x
 |.slice t x lo hi mx=>E6h P st t x lo hi mx
 |.fieldAddr s x f=>C7n P st s x f
 |.field s x f=>E7a P st s x f
 |.indexAddr t x i=>C7d P st t x i
 |.index t x i=>E7d P st t x i
 |.lookup t m x ok=>E0n P st t m x ok
 |.extract x i=>D5j st x i
 |.typeAssert x _ t ok=>D9t P st t x ok
 |.makeFunc fn fs cs=>match fn,fs.toList,cs.toList with
  |.func f,[],[]=>ev1 (.fn f)
  |_,_,_=>none
 |.call c=>match c.callee,c.args.toList,c.argTypes.toList with
  |.builtin .len,[x],[t]=>G2q P st t x
  |.builtin .max,[x,y],_=>G3u st true x y
  |.builtin .min,[x,y],_=>G3u st false x y
  |_,_,_=>none
 |_=>none
end
end Go.Proofs.YtckanieeocdpbaaGreat.Eng
namespace Go.Proofs.YtckanieeocdpbaaGreat.Eng
set_option linter.unusedVariables false
set_option linter.unusedSimpArgs false
def C7u(gs:List (Nat × TypeId × List ByteArray))(w:World)(F:Fr):Prop:=
 ∀g t l,gs.lookup g=some (t,l)→F g∧∀i s,l[i]?=some s→w.cell? ⟨g,i,none⟩=some (.string s)
theorem C7u.mono{gs:List (Nat × TypeId × List ByteArray)}{w w':World}{F F':Fr}(h:Le w F w' F')(q:C7u gs w F):C7u gs w' F':=
 fun g t l hl=>⟨(h.b g (q g t l hl).1).1,fun i s hi=>by rw[cell?_of_heap (h.b g (q g t l hl).1).2];exact(q g t l hl).2 i s hi⟩
theorem C7u.nil{w:World}{F:Fr}:C7u [] w F:=fun g t l h=>by cases h
structure Gl where
 cf:Cf
 ok:World→Fr→Prop
 mono:∀{w w':World} {F F':Fr},Le w F w' F'→ok w F→ok w' F'
 glo:∀{w:World} {F:Fr},ok w F→C7u cf.gs w F
def Gl.of(cf:Cf):Gl:=⟨cf,C7u cf.gs,C7u.mono,fun h=>h⟩
structure Cx where
 P:Program
 S:List Nat
 w0:World
 nt:Nat
 F0:Fr
 G:Gl
 hv:Nat→Option Value
 dq:List Deferred:=[]
def Cx.val(X:Cx)(a:Act)(t:Nat):Option Value:=if t<LIM then a.tmps[t]? else X.hv t
theorem Cx.E4h{X:Cx}{a:Act}{t:Nat}(h:t<LIM):X.val a t=a.tmps[t]?:=Q3 h
structure CxOk(X:Cx):Prop where
 nl:X.nt≤LIM
 ok:X.G.ok X.w0 X.F0
 f0:∀b,X.F0 b→b<X.w0.heap.size∧b ∉ X.S
 gt:∀g t l,X.G.cf.gs.lookup g=some (t,l)→A0r X.P t=some [.str]
inductive C1x(P:Program)(w:World)(F:Fr):List Nat→OTy→D→Value→Prop
 |dat {t d v}:Rd P w F t d v→C1x P w F [] (.dat t) d v
 |gone {e v}:v.oneCell'=true→C1x P w F [] (.row true e) .nil v
 |row {g e d v} {ts:List Ty} {xs:List Value}:A0r P e=some ts→B3g w e ts.length v d.toL.length xs→
   (∀i c y t,d.toL[i]?=some y→ts[c]?=some t→∃u,xs[i*ts.length+c]?=some u∧Rd P w F t (cellOf ts.length y c) u)→C1x P w F (bk v).toList (.row g e) d v
def B5a(P:Program)(w:World)(F:Fr)(ob:List (Nat × Nat))(ex:Nat→Bool)(t:TypeId)(b:Nat)(d:D)(S:List Nat):Prop:=
 ∃(vs:List Value) (os:List OTy) (g:Nat→List Nat),w.heap[b]?=some (.cells vs.toArray t (0,0))∧D2o P ob t=some os∧d.toL.length=os.length∧vs.length=os.length∧
  (∀(i:Nat) (o:OTy) (x:D) (u:Value),os[i]?=some o→d.toL[i]?=some x→vs[i]?=some u→if ex i=true then u.oneCell'=true∧g i=[]∧∃z e,o=.row z e else C1x P w F (g i) o x u)∧
  (∀k,k ∈ S↔k=b∨∃i,i<os.length∧k ∈ g i)∧(∀i,i<os.length→b ∉ g i)∧∀i j k,i<os.length→j<os.length→k ∈ g i→k ∈ g j→i=j
structure B0j(P:Program)(w:World)(F:Fr)(ob:List (Nat × Nat))(h:D)(ex:List (Nat × Nat))(φ:Nat→List Nat):Prop where
 len:h.toL.length=F.γ.length
 obj:∀(n b:Nat) (t:TypeId),F.γ[n]?=some (b,t)→B5a P w F ob (fun c=>ex.contains (n,c)) t b (h.toL.getD n .nil) (φ n)
 dis:∀n m k,k ∈ φ n→k ∈ φ m→n=m
 far:∀n k,k ∈ φ n→k<w.heap.size∧¬F k
 out:∀n,F.γ.length≤n→φ n=[]
def exN(ρ:List D)(ex:List (Nat × TypeId × E)):List (Nat × Nat):=ex.map fun x=>((den ρ x.2.2).toInt.toNat,x.1)
def Oth(bx:List (Nat × Box))(Ft:Fr)(β:Nat→Value)(w:World)(k:Nat):Prop:=k<w.heap.size∧¬Ft k∧∀j x,bx.lookup j=some x→x.bk (β j)≠some k
structure Hg(X:Cx)(ρ:List D)(st:St)(Ft:Fr)(β:Nat→Value)(w:World):Prop where
 hp:∀m e,st.hp=some (m,e)→∃φ,B0j X.P w Ft st.cf.ob (den ρ e) (exN ρ st.ex) φ∧∀n k,k ∈ φ n→(m=true→k ∈ X.S∨X.w0.heap.size≤k)∧∀j x,st.bx.lookup j=some x→x.bk (β j)≠some k
 gm:∀(n b:Nat) (t:TypeId),Ft.γ[n]?=some (b,t)→Oth st.bx Ft β w b
structure Sat(X:Cx)(ρ:List D)(st:St)(Ft:Fr)(β:Nat→Value)(a:Act)(w:World):Prop where
 df:a.defers=X.dq
 sz:a.tmps.size=X.nt
 ft:∀b,Ft b→b<w.heap.size∧∀n x,st.bx.lookup n=some x→x.bk (β n)≠some b
 tm:∀t sv,st.tm.lookup t=some sv→∃v,X.val a t=some v∧RV X.P w Ft ρ β sv v
 bx:∀n x,st.bx.lookup n=some x→A1b X.P w Ft ρ β x (β n)
 inj:∀n m x y k,st.bx.lookup n=some x→st.bx.lookup m=some y→x.bk (β n)=some k→y.bk (β m)=some k→n=m
 own:∀n x k,st.bx.lookup n=some x→x.bk (β n)=some k→k<w.heap.size∧(k ∈ X.S∨X.w0.heap.size≤k)
 chg:Chg X.S X.w0 w
 fs:∀e b,(e,b) ∈ st.fs→(den ρ e).toBool=b
 on:∀n,(β n).oneCell'=true
 f0:∀b,Ft b→X.F0 b∨X.w0.heap.size≤b∨b ∈ X.S
 gx:CxOk X
 cf:st.cf=X.G.cf∧Ft.hc=st.cf.hc
 hg:Hg X ρ st Ft β w
 fw:(∀b,X.F0 b→Ft b)∧X.F0.γ <+: Ft.γ∧Ft.hc=X.F0.hc∧((∀e,st.hp≠some (true,e))→Ft.γ=X.F0.γ)
theorem Sat.at{X:Cx}{ρ:List D}{st:St}{Ft:Fr}{β:Nat→Value}{a:Act}{w:World}(hs:Sat X ρ st Ft β a w){t:Nat}{sv:SV}(h:st.at t=some sv):∃v,a.tmps[t]?=some v∧RV X.P w Ft ρ β sv v:=by
 obtain⟨h1,h2⟩:=St.F9k h
 obtain⟨v,h3,h4⟩:=hs.tm t sv h2
 exact⟨v,by rw[←Cx.E4h h1 (X:=X)];exact h3,h4⟩
theorem B3g.mono{w w':World}{e:TypeId}{n:Nat}{v:Value}{len:Nat}{xs:List Value}(hk:∀b,bk v=some b→w'.heap[b]?=w.heap[b]?)(h:B3g w e n v len xs):B3g w' e n v len xs:=by
 obtain⟨hl,hr⟩:=h
 refine⟨hl,?_⟩
 rcases hr with hr|⟨g,o,cap,cur,e1,e2,e3,e4⟩
 ·exact .inl hr
 ·exact .inr ⟨g,o,cap,cur,e1,e2,by rw[hk g (by rw[e1];exact B1v e2)];exact e3,e4⟩
theorem C1x.mono{P:Program}{w w':World}{F F':Fr}(hf:Le w F w' F'){S:List Nat}{t:OTy}{d:D}{v:Value}(h:C1x P w F S t d v)(hS:∀b ∈ S,w'.heap[b]?=w.heap[b]?):C1x P w' F' S t d v:=by
 cases h with
 |dat h=>exact .dat (h.mono hf)
 |gone h=>exact .gone h
 |row h1 h2 h3=>exact .row h1 (h2.mono fun b hb=>hS b (by rw[hb];exact aA.2 rfl)) (fun i c y t a b=>by obtain⟨u,q1,q2⟩:=h3 i c y t a b;exact⟨u,q1,q2.mono hf⟩)
theorem B5a.mono{P:Program}{w w':World}{F F':Fr}{ob:List (Nat × Nat)}{ex:Nat→Bool}{t:TypeId}{b:Nat}{d:D}{S:List Nat}(hf:Le w F w' F')(h:B5a P w F ob ex t b d S)(hS:∀b ∈ S,w'.heap[b]?=w.heap[b]?):B5a P w' F' ob ex t b d S:=by
 obtain⟨vs,os,g,h1,h2,h3,h4,h5,h6,h7⟩:=h
 refine⟨vs,os,g,by rw[hS b ((h6 b).2 (.inl rfl))];exact h1,h2,h3,h4,fun i o x u a1 a2 a3=>?_,h6,h7⟩
 have:=h5 i o x u a1 a2 a3
 split
 ·rename_i he;rw[Q3 he]at this;exact this
 ·rename_i he
  rw[Q0 he]at this
  exact this.mono hf fun k hk=>hS k ((h6 k).2 (.inr ⟨i,(a4.1 a1).1,hk⟩))
theorem B0j.mono{P:Program}{w w':World}{F F':Fr}{ob:List (Nat × Nat)}{h:D}{ex:List (Nat × Nat)}{φ:Nat→List Nat}(q:B0j P w F ob h ex φ)(hf:Le w F w' F')(hγ:F'.γ=F.γ)(hk:∀n k,k ∈ φ n→w'.heap[k]?=w.heap[k]?∧k<w'.heap.size∧¬F' k):B0j P w' F' ob h ex φ:=
 ⟨by rw[hγ];exact q.len,fun n b t hn=>(q.obj n b t (by rw[←hγ];exact hn)).mono hf fun k hm=>(hk n k hm).1,q.dis,fun n k hm=>(hk n k hm).2,fun n hn=>q.out n (by rw[←hγ];exact hn)⟩
theorem Hg.move{X:Cx}{ρ:List D}{st st':St}{Ft Ft':Fr}{β β':Nat→Value}{w w':World}(h:Hg X ρ st Ft β w)(hf:Le w Ft w' Ft')(hγ:Ft'.γ=Ft.γ)(ho:∀k,Oth st.bx Ft β w k→w'.heap[k]?=w.heap[k]?∧Oth st'.bx Ft' β' w' k)(h1:st'.hp=st.hp)(h2:st'.ex=st.ex)(h3:st'.cf=st.cf):Hg X ρ st' Ft' β' w':=by
 refine⟨fun m e he=>?_,fun n b t hn=>(ho b (h.gm n b t (by rw[←hγ];exact hn))).2⟩
 obtain⟨φ,q1,q2⟩:=h.hp m e (by rw[←h1];exact he)
 have hk:∀n k,k ∈ φ n→Oth st.bx Ft β w k:=fun n k hm=>⟨(q1.far n k hm).1,(q1.far n k hm).2,(q2 n k hm).2⟩
 refine⟨φ,?_,fun n k hm=>⟨(q2 n k hm).1,(ho k (hk n k hm)).2.2.2⟩⟩
 rw[h2,h3]
 exact q1.mono hf hγ fun n k hm=>⟨(ho k (hk n k hm)).1,(ho k (hk n k hm)).2.1,(ho k (hk n k hm)).2.2.1⟩
theorem Hg.less{X:Cx}{ρ:List D}{st st':St}{Ft:Fr}{β:Nat→Value}{w:World}(h:Hg X ρ st Ft β w)(hb:∀n x,st'.bx.lookup n=some x→∃y,st.bx.lookup n=some y∧(x.bk (β n)=y.bk (β n)∨x.bk (β n)=none))(h1:st'.hp=st.hp)(h2:st'.ex=st.ex)(h3:st'.cf=st.cf):Hg X ρ st' Ft β w:=
 h.move (Le.same fun _ _=>rfl) rfl (fun k hk=>⟨rfl,hk.1,hk.2.1,fun j x hx=>by
  obtain⟨y,hy,hq⟩:=hb j x hx
  rcases hq with hq|hq
  ·rw[hq];exact hk.2.2 j y hy
  ·rw[hq];simp⟩) h1 h2 h3
theorem Sat.gl{X:Cx}{ρ:List D}{st:St}{Ft:Fr}{β:Nat→Value}{a:Act}{w:World}(hs:Sat X ρ st Ft β a w):X.G.ok w Ft:=
 X.G.mono ⟨fun b hb=>⟨hs.fw.1 b hb,hs.chg.block b (hs.gx.f0 b hb).1 (hs.gx.f0 b hb).2⟩,hs.fw.2.1,hs.fw.2.2.1⟩ hs.gx.ok
theorem D0e{α:Type}{n:Nat}{x:α}:∀{l:List (Nat × α)},l.lookup n=some x→(n,x) ∈ l
 |[],h=>by cases h
 |(m,y)::l,h=>by
  rw[List.lookup_cons]at h
  split at h
  ·rename_i he
   simp at he h;subst he h
   exact aB ..
  ·exact List.mem_cons_of_mem _ (D0e h)
section
variable{P:Program}{w w':World}{F F':Fr}{ρ:List D}{β β':Nat→Value}
theorem Rd.A3l{k:IntKind}{d:D}{v:Value}(h:Rd P w F (.int k) d v):v=.int k d.toInt:=by cases h;assumption
theorem Rd.A6x{d:D}{v:Value}(h:Rd P w F .bool d v):v=.bool d.toBool:=by cases h;assumption
theorem Rd.B3a{d:D}{v:Value}(h:Rd P w F .str d v):v=.string d.toStr:=by cases h;assumption
theorem Rd.one{t:Ty}{d:D}{v:Value}(h:Rd P w F t d v):v.oneCell'=true:=by
 cases h<;>subst_vars<;>rfl
theorem RC.one{c:C}{v:Value}(h:RC P w F ρ β c v)(hb:∀n,c=.vec n→(β n).oneCell'=true):v.oneCell'=true:=by
 cases c with
 |dat t e=>exact Rd.one h
 |ptr n off=>obtain⟨b,_,rfl⟩:=h;rfl
 |A9m t a i c=>obtain⟨b,o,len,cap,ts,_,_,_,_,rfl⟩:=h;rfl
 |B3e t a c=>obtain⟨b,o,_,rfl⟩:=h;rfl
 |vec n=>have e:v=β n:=h;rw[e];exact hb n rfl
 |A6c n t i c=>obtain⟨b,o,len,cap,ts,_,_,_,_,rfl⟩:=h;rfl
 |win n t i j=>obtain⟨A,len,cap,ts,_,_,_,_,_,_,rfl⟩:=h;rfl
 |lit n len=>obtain⟨b,_,rfl⟩:=h;rfl
 |A8b t a c=>obtain⟨n,b,_,_,_,rfl⟩:=h;rfl
 |B5m=>have e:v=_:=h;rw[e];rfl
 |C4k=>have e:v=_:=h;rw[e];rfl
 |E6k=>have e:v=_:=h;rw[e];rfl
 |fn f=>have e:v=_:=h;rw[e];rfl
 |clo f l=>obtain⟨us,e,_⟩:=h;rw[e];rfl
 |B1g=>exact h
theorem F4p{v:Value}(h:v.oneCell'=true):v.cells=#[v]:=by
 cases v<;>first|rfl|simp[Value.oneCell']at h
theorem RC.mono{c:C}{v:Value}(hf:Le w F w' F')(h:RC P w F ρ β c v):RC P w' F' ρ β c v:=by
 cases c with
 |dat t e=>exact Rd.mono hf h
 |ptr n off=>exact h
 |A9m t a i c=>obtain⟨b,o,len,cap,ts,h1,h2⟩:=h;exact⟨b,o,len,cap,ts,h1.mono hf,h2⟩
 |B3e t a c=>obtain⟨b,o,h1,h2⟩:=h;exact⟨b,o,h1.mono hf,h2⟩
 |A6c n t i c=>exact h
 |win n t i j=>exact h
 |lit n len=>exact h
 |A8b t a c=>obtain⟨n,b,h1,h2,h3,h4⟩:=h;exact⟨n,b,by rw[hf.hc];exact h1,h2,hf.get h3,h4⟩
 |_=>exact h
theorem RCL.mono{cs:List C}{vs:List Value}(hf:Le w F w' F')(h:RCL P w F ρ β cs vs):RCL P w' F' ρ β cs vs:=
 ⟨h.1,fun i c v hc hv=>(h.2 i c v hc hv).mono hf⟩
theorem R1.mono{c:V1}{v:Value}(hf:Le w F w' F')(h:R1 P w F ρ β c v):R1 P w' F' ρ β c v:=by
 cases c with
 |one c=>exact RC.mono hf h
 |agg cs=>obtain⟨vs,e,h⟩:=h;exact⟨vs,e,h.mono hf⟩
theorem RV.mono{c:SV}{v:Value}(hf:Le w F w' F')(h:RV P w F ρ β c v):RV P w' F' ρ β c v:=by
 cases c with
 |one c=>exact RC.mono hf h
 |agg cs=>obtain⟨vs,e,h⟩:=h;exact⟨vs,e,h.mono hf⟩
 |tup l=>obtain⟨vs,e,hl,h⟩:=h;exact⟨vs,e,hl,fun i c u hc hu=>(h i c u hc hu).mono hf⟩
theorem RCL.nil:RCL P w F ρ β [] []:=⟨rfl,fun i c v h=>by simp at h⟩
theorem RCL.cons{c:C}{cs:List C}{v:Value}{vs:List Value}(h:RC P w F ρ β c v)(hl:RCL P w F ρ β cs vs):RCL P w F ρ β (c::cs) (v::vs):=
 ⟨by simp[hl.1],fun i=>by
  cases i with
  |zero=>intro c' v' h1 h2;simp at h1 h2;subst h1 h2;exact h
  |succ i=>intro c' v' h1 h2;simp at h1 h2;exact hl.2 i c' v' h1 h2⟩
theorem RCL.drop{cs:List C}{vs:List Value}(h:RCL P w F ρ β cs vs)(n:Nat):RCL P w F ρ β (cs.drop n) (vs.drop n):=
 ⟨by simp[h.1],fun i c v h1 h2=>by rw[aI]at h1 h2;exact h.2 _ c v h1 h2⟩
theorem RCL.take{cs:List C}{vs:List Value}(h:RCL P w F ρ β cs vs)(n:Nat):RCL P w F ρ β (cs.take n) (vs.take n):=
 ⟨by simp[h.1],fun i c v h1 h2=>by
  rw[aJ]at h1 h2
  split at h1
  ·rename_i hi;rw[Q3 hi]at h2;exact h.2 _ c v h1 h2
  ·cases h1⟩
theorem RCL.set{cs:List C}{vs:List Value}(h:RCL P w F ρ β cs vs)(n:Nat){c:C}{v:Value}(hc:RC P w F ρ β c v):RCL P w F ρ β (cs.set n c) (vs.set n v):=
 ⟨by simp[h.1],fun i c' v' h1 h2=>by
  rw[List.getElem?_set]at h1 h2
  split at h1
  ·rename_i hi
   split at h1
   ·rename_i hl
    have:n<vs.length:=by rw[←h.1];exact hl
    rw[Q3 hi,Q3 this]at h2
    simp at h1 h2;subst h1 h2;exact hc
   ·cases h1
  ·rename_i hi;rw[Q0 hi]at h2;exact h.2 i c' v' h1 h2⟩
theorem C6u{v:Value}{c:C}(h:cst v=some c):RC P w F ρ β c v:=by
 unfold cst at h
 split at h<;>simp at h<;>subst h
 ·exact Rd.int rfl
 ·exact Rd.bool rfl
 ·exact Rd.str rfl
 ·exact Rd.D9s rfl rfl
 ·rfl
 ·rfl
 ·rfl
 ·rfl
theorem B9b:∀{vs:List Value} {cs:List C},D5y vs=some cs→RCL P w F ρ β cs vs
 |[],cs,h=>by simp[D5y]at h;subst h;exact RCL.nil
 |v::vs,cs,h=>by
  simp only[D5y]at h
  split at h
  ·rename_i c cs' h1 h2
   simp at h;subst h
   exact RCL.cons (C6u h1) (B9b h2)
  ·cases h
theorem G3g{v:Value}{c:SV}(h:H1l v=some c):RV P w F ρ β c v:=by
 unfold H1l at h
 split at h
 ·rename_i cs
  cases h1:D5y cs.toList with
  |none=>simp[h1]at h
  |some l=>simp[h1]at h;subst h;exact⟨cs.toList,by simp,B9b h1⟩
 ·cases h1:cst v with
  |none=>simp[h1]at h
  |some l=>simp[h1]at h;subst h;exact C6u h1
theorem E8k{t:Ty}{c:C}{v:Value}(h:RC P w F ρ β c v):RC P w F ρ β (tyC t c) v:=by
 unfold tyC
 split
 ·have e:v=_:=h;exact Rd.B9u rfl e
 ·exact h
theorem C2d:∀{ts:List Ty} {cs:List C} {vs:List Value},RCL P w F ρ β cs vs→RCL P w F ρ β (E0b ts cs) vs
 |[],cs,vs,h=>by cases cs<;>exact h
 |t::ts,[],vs,h=>h
 |t::ts,c::cs,[],h=>by have:=h.1;simp at this
 |t::ts,c::cs,v::vs,h=>RCL.cons (E8k (h.2 0 c v rfl rfl)) (C2d ⟨by have:=h.1;simpa using this,fun i c' v' h1 h2=>h.2 (i+1) c' v' h1 h2⟩)
theorem A6o{t:TypeId}{cs:List C}(h:B3y P t=some cs):∃z,(P.info? t).bind (·.zero)=some z∧RCL P w F ρ β cs z.cells.toList:=by
 unfold B3y at h
 split at h
 ·rename_i z hz
  refine⟨z,hz,?_⟩
  split at h
  ·rename_i cs' h1
   simp at h;subst h
   split
   ·exact C2d (B9b h1)
   ·exact B9b h1
  ·cases h
 ·cases h
theorem C4m(op:BinOp)(k:IntKind)(a b:E):den ρ (E1g op k a b)=.int (arF op k (den ρ a).toInt (den ρ b).toInt):=by unfold E1g;split<;>rfl
theorem A4z(op:BinOp)(a b:E):den ρ (A8t op a b)=.bool (C3w op (den ρ a).toInt (den ρ b).toInt):=by unfold A8t;split<;>rfl
theorem A6g(a:E):(den ρ (mkNot a)).toBool=!(den ρ a).toBool:=by
 unfold mkNot;split
 ·rfl
 ·simp only[den,D.A1d,Bool.not_not];split<;>simp_all
 ·rfl
theorem D6j(a b:E):(den ρ (mkAnd a b)).toBool=((den ρ a).toBool&&(den ρ b).toBool):=by
 unfold mkAnd;split<;>simp[den]
theorem C6o(a b:E):den ρ (E3a a b)=.bool ((den ρ a).toBool == (den ρ b).toBool):=by unfold E3a;split<;>rfl
theorem C6x(c a b:E):den ρ (mkIte c a b)=if(den ρ c).toBool=true then den ρ a else den ρ b:=by
 unfold mkIte;split
 ·simp[den]
 ·simp[den]
 ·rfl
theorem G1n(c a b:E):(den ρ (E4e c a b)).toBool=(if(den ρ c).toBool=true then(den ρ a).toBool else(den ρ b).toBool):=by
 unfold E4e;split
 ·simp only[den,D.A1d];cases (den ρ c).toBool<;>simp
 ·simp only[den,D.A1d];cases (den ρ c).toBool<;>simp
 ·rw[C6x];split<;>rfl
theorem C0t{P:Program}{w:World}{F:Fr}{t:Ty}{c a b:E}{u v:Value}(h1:(den ρ c).toBool=true→Rd P w F t (den ρ a) u)(h2:(den ρ c).toBool=false→Rd P w F t (den ρ b) v):Rd P w F t (den ρ (E1r t c a b)) (if(den ρ c).toBool=true then u else v):=by
 have hgen:Rd P w F t (den ρ (mkIte c a b)) (if(den ρ c).toBool=true then u else v):=by
  rw[C6x]
  split
  ·rename_i h;exact h1 h
  ·rename_i h;exact h2 (by simpa using h)
 cases t<;>try exact hgen
 refine Rd.bool ?_
 show _=Value.bool (den ρ (E4e c a b)).toBool
 rw[G1n]
 split
 ·rename_i h;exact(h1 h).A6x
 ·rename_i h;exact(h2 (by simpa using h)).A6x
theorem A3p(a:E):den ρ (A8x a)=.bool (den ρ a).isNil:=by unfold A8x;split<;>rfl
theorem A7v(f:Nat)(a:E):den ρ (B2q f a)=.bool ((den ρ a).isIf f):=by unfold B2q;split<;>rfl
theorem C1j(a:E):den ρ (B5y a)=(den ρ a).inner:=by unfold B5y;split<;>rfl
theorem G3q(k:IntKind)(a:E):den ρ (F2p k a)=.int (k.wrap (den ρ a).toInt):=by unfold F2p;split<;>rfl
theorem D2n(a:E)(c:Nat):den ρ (C0p a c)=(den ρ a).toL.getD c .nil:=by
 unfold C0p
 split
 ·simp[den]
 ·split<;>simp[den]
 ·rfl
theorem E8m:∀(a:E) (c:Nat),den ρ (B0a a c)=(den ρ a).toL.getD c .nil:=by
 intro a
 induction a with
 |A3c x y _ ih=>intro c;cases c<;>simp[B0a,den,ih]
 |B6u n a k v iha _=>
  intro c
  simp only[B0a]
  split
  ·rename_i h
   obtain⟨h1,h2⟩:=h
   split
   ·rename_i he
    subst he
    simp[den,h1]
   ·rename_i he
    rw[iha]
    simp only[den,D.A0j,a5]
    rw[aP (by omega),a6,a7 h1]
    rfl
  ·rfl
 |_=>intro c;simp[B0a,den]
theorem F2j:∀{a:E} {c:Nat} {v r:E},B8l a c v=some r→den ρ r=.agg ((den ρ a).toL.set c (den ρ v)):=by
 intro a
 induction a with
 |A3c x y _ ih=>
  intro c v r h
  cases c with
  |zero=>simp[B8l]at h;subst h;rfl
  |succ c=>
   simp only[B8l]at h
   cases hq:B8l y c v with
   |none=>simp[hq]at h
   |some q=>
    simp[hq]at h;subst h
    have:=ih hq
    simp[den,this]
 |_=>intro c v r h;cases c<;>simp[B8l]at h
theorem E1a(n:Nat)(a:E)(c:Nat)(v:E)(hn:(den ρ a).toL.length=n):den ρ (B9x n a c v)=.agg ((den ρ a).toL.set c (den ρ v)):=by
 have hset:∀b:E,(den ρ b).toL.length=n→den ρ (.B6u n b c v)=.agg ((den ρ b).toL.set c (den ρ v)):=by
  intro b hb
  simp only[den]
  congr 2
  apply aN
  intro j
  rw[a6]
  rcases Nat.lt_or_ge j n with hj|hj
  ·rw[a7 hj]
   simp only[bW,a5]
   rw[a0 (by omega)];rfl
  ·rw[a9 (by simpa using hj),a9 (by omega)];rfl
 unfold B9x
 split
 ·rename_i r hr
  exact F2j hr
 ·split
  ·rename_i m b k u _
   split
   ·rename_i hc
    obtain⟨rfl,rfl⟩:=hc
    simp only[den,D.A0j,List.set_set]
   ·exact hset _ hn
  ·exact hset _ hn
theorem G9x:∀{h:E} {n:Nat} {x:E},E1b h n=some x→(den ρ h).toL[n]?=some (den ρ x):=by
 intro h
 induction h with
 |A3c a b _ ih=>
  intro n x hx
  cases n with
  |zero=>simp[E1b]at hx;subst hx;simp[den]
  |succ n=>simp only[E1b]at hx;simpa[den]using ih hx
 |_=>intro n x hx;cases n<;>simp[E1b]at hx
theorem C7c{a:E}{n:Nat}(h:E7c a=some n):a=.int (n:Nat):=by
 unfold E7c at h;split at h
 ·simp at h;subst h;rfl
 ·cases h
theorem E3k(h a:E):den ρ (getLit h a)=(den ρ h).toL.getD (den ρ a).toInt.toNat .nil:=by
 unfold getLit
 split
 ·rename_i n hn
  have:=C7c hn
  subst this
  cases hg:E1b h n with
  |none=>simp[den]
  |some x=>have:=G9x (ρ:=ρ) hg;simp[den,this]
 ·simp[den]
theorem H1b{g:E}:∀{h:E},F2k g h=true→(den ρ g).toL.length<(den ρ h).toL.length:=by
 intro h
 induction h with
 |app p q ihp _=>
  intro hh
  unfold F2k at hh
  split at hh
  ·rename_i p' x he
   injection he with e1 e2
   subst e1 e2
   simp only[Bool.or_eq_true,Q9]at hh
   simp only[den,D.A0j,List.length_append,aO,List.length_nil]
   rcases hh with rfl|hh
   ·omega
   ·have:=ihp hh;omega
  ·cases hh
 |_=>intro hh;simp[F2k]at hh
theorem C6l:∀(h a:E),(den ρ a).toInt.toNat<(den ρ h).toL.length→den ρ (mkGet h a)=(den ρ h).toL.getD (den ρ a).toInt.toNat .nil:=by
 intro h
 induction h with
 |set h b x ihh _ _=>
  intro a hl
  simp only[mkGet]
  have hl':(den ρ a).toInt.toNat<(den ρ h).toL.length:=by simpa[den]using hl
  split
  ·rename_i e
   subst e
   simp[den,hl']
  ·split
   ·rename_i m n hm hn
    split
    ·simp[den]
    ·rename_i hne
     rw[ihh a hl']
     have h1:=C7c hm
     have h2:=C7c hn
     subst h1 h2
     simp only[den,D.A0j,a5,D.toInt_int,Int.toNat_natCast]
     rw[aP (fun e=>hne e.symm)]
   ·simp[den]
 |app h q ihh _=>
  intro a hl
  have hgen:∀a,den ρ (getLit (.app h q) a)=(den ρ (.app h q)).toL.getD (den ρ a).toInt.toNat .nil:=fun a=>E3k _ _
  cases q with
  |A3c x y=>
   cases y with
   |A4p=>
    simp only[mkGet]
    split
    ·rename_i e
     subst e
     simp[den]
    ·split
     ·rename_i g _
      split
      ·rename_i hp
       have hlt:=H1b (ρ:=ρ) hp
       rw[ihh (.len g) (by simpa[den]using hlt)]
       simp only[den,D.A0j,D.toInt_int,Int.toNat_natCast,a5]
       rw[aD hlt]
      ·simp[den]
     ·simp[den]
   |_=>exact hgen a
  |_=>exact hgen a
 |_=>intro a hl;simp only[mkGet];exact E3k _ _
theorem D4m(h a x:E):den ρ (mkSet h a x)=.agg ((den ρ h).toL.set (den ρ a).toInt.toNat (den ρ x)):=by
 unfold mkSet
 split
 ·rename_i g b y
  split
  ·rename_i e;subst e;simp[den]
  ·rfl
 ·rename_i g y
  split
  ·rename_i e;subst e
   simp[den]
  ·rfl
 ·split
  ·rename_i n hn
   have:=C7c hn
   subst this
   cases hg:B8l h n x with
   |none=>simp[den]
   |some r=>simpa[den]using F2j (ρ:=ρ) hg
  ·rfl
theorem G4r:∀{h x r:E},C6r h x=some r→den ρ r=.agg ((den ρ h).toL++[den ρ x]):=by
 intro h
 induction h with
 |A4p=>intro x r hr;simp[C6r]at hr;subst hr;rfl
 |A3c a b _ ih=>
  intro x r hr
  simp only[C6r]at hr
  cases hq:C6r b x with
  |none=>simp[hq]at hr
  |some q=>simp[hq]at hr;subst hr;simp[den,ih hq]
 |_=>intro x r hr;simp[C6r]at hr
theorem E4m(h x:E):den ρ (B8j h x)=.agg ((den ρ h).toL++[den ρ x]):=by
 unfold B8j
 cases hq:C6r h x with
 |none=>simp[den]
 |some r=>simpa using G4r (ρ:=ρ) hq
theorem G0p:∀{h:E} {n:Nat},C4l h=some n→(den ρ h).toL.length=n:=by
 intro h
 induction h with
 |A4p=>intro n hn;simp[C4l]at hn;subst hn;rfl
 |A3c a b _ ih=>
  intro n hn
  simp only[C4l]at hn
  cases hq:C4l b with
  |none=>simp[hq]at hn
  |some q=>simp[hq]at hn;subst hn;simp[den,ih hq]
 |_=>intro n hn;simp[C4l]at hn
theorem D6e(h:E):den ρ (D7l h)=.int ((den ρ h).toL.length:Nat):=by
 unfold D7l
 split
 ·rename_i n hn;rw[G0p hn];rfl
 ·rfl
theorem C2i(n:Nat)(el:E)(c:Nat):den ρ (C0o n el c)=cellOf n (den ρ el) c:=by
 unfold C0o cellOf;split<;>rfl
end
end Go.Proofs.YtckanieeocdpbaaGreat.Eng
namespace Go.Proofs.YtckanieeocdpbaaGreat.Eng
set_option linter.unusedVariables false
set_option linter.unusedSimpArgs false
section
variable{P:Program}{w:World}{F:Fr}{ρ:List D}{β:Nat→Value}
theorem A2y{t:TypeId}{n:Nat}(h:A3k P t=some n):(sizeOf t).run P w=.ok n w:=by
 unfold A3k at h
 cases hi:P.info? t with
 |none=>simp[hi]at h
 |some i=>simp[hi]at h;subst h;simp[sizeOf,typeInfo,program,hi,b4]
theorem A1a{t:TypeId}{d:TypeDesc}(h:P.underlying t=some d):(underlying t).run P w=.ok d w:=by
 simp[underlying,program,b4,h]
theorem B1u{t:TypeId}{b:Bool}(h:A1j P t=some b):(isAgg t).run P w=.ok b w:=by
 unfold A1j at h
 unfold isAgg
 cases hu:P.underlying t with
 |none=>simp[hu]at h
 |some d=>
  simp only[b2,A1a hu,b0]
  cases d<;>simp[hu]at h<;>subst h<;>rfl
theorem D2x{t:TypeId}{z:Value}(h:(P.info? t).bind (·.zero)=some z):(zeroValue t).run P w=.ok z w:=by
 cases hi:P.info? t with
 |none=>simp[hi]at h
 |some i=>simp[hi]at h;simp[zeroValue,typeInfo,program,hi,h,b4]
theorem B7a{t:TypeId}{cs:List C}{vs:List Value}{off:Nat}{sv:SV}(h:A6f P t cs off=some sv)(hl:RCL P w F ρ β cs vs){b o:Nat}
  (hc:∀j v,vs[j]?=some v→w.cell? ⟨b,o+j,none⟩=some v):∃v,(loadVar t ⟨b,o+off,none⟩).run P w=.ok v w∧RV P w F ρ β sv v:=by
 unfold A6f at h
 split at h
 ·rename_i n ha hn
  split at h
  ·rename_i hle
   simp at h;subst h
   refine⟨.agg ((vs.drop off).take n).toArray,?_,_,rfl,(hl.drop off).take n⟩
   have hlen:((vs.drop off).take n).length=n:=by simp;have:=hl.1;omega
   have:=run_loadCells_list (P:=P) w ⟨b,o+off,none⟩ ((vs.drop off).take n) (fun j v hv=>by
    rw[aJ]at hv
    split at hv
    ·rw[aI]at hv
     rw[A4y,c4]
     exact hc _ _ hv
    ·cases hv)
   rw[hlen]at this
   simp[loadVar,B1u ha,A2y hn,this]
  ·cases h
 ·rename_i ha hn
  cases hi:cs[off]? with
  |none=>simp[hi]at h
  |some c=>
   simp[hi]at h;subst h
   have hlt:off<vs.length:=by rw[←hl.1];exact(a4.1 hi).1
   have hv:vs[off]?=some vs[off]:=a0 hlt
   exact⟨vs[off],by simp[loadVar,B1u ha,load,b4,hc off _ hv],hl.2 off c _ hi hv⟩
 ·cases h
theorem G5v{t:TypeId}{cs:List C}{vs:List Value}{off:Nat}{sv:SV}(h:A6f P t cs off=some sv)(hl:RCL P w F ρ β cs vs):
  ∃v,(part t vs.toArray off).run P w=.ok v w∧RV P w F ρ β sv v:=by
 unfold A6f at h
 split at h
 ·rename_i n ha hn
  split at h
  ·rename_i hle
   simp at h;subst h
   refine⟨.agg ((vs.drop off).take n).toArray,?_,_,rfl,(hl.drop off).take n⟩
   simp[part,B1u ha,A2y hn,List.take_drop,aM]
   try omega
  ·cases h
 ·rename_i ha hn
  cases hi:cs[off]? with
  |none=>simp[hi]at h
  |some c=>
   simp[hi]at h;subst h
   have hlt:off<vs.length:=by rw[←hl.1];exact(a4.1 hi).1
   have hv:vs[off]?=some vs[off]:=a0 hlt
   exact⟨vs[off],by simp[part,B1u ha,hv],hl.2 off c _ hi hv⟩
 ·cases h
theorem A7t{α:Type}{f:α→R}{x:Option α}{r:R}(h:x.map f=some r):∃y,x=some y∧f y=r:=by simpa[bV]using h
theorem B1m{t:Ty}{c:C}{e:E}(h:mat t c=some e){v:Value}(hv:RC P w F ρ β c v):Rd P w F t (den ρ e) v:=by
 cases c<;>simp only[mat]at h<;>try(cases h;done)
 ·split at h
  ·rename_i he;simp at h;subst h;rw[he];exact hv
  ·cases h
 ·rename_i e a c
  split at h
  ·rename_i e'
   split at h
   ·rename_i hc
    obtain⟨rfl,rfl⟩:=hc
    simp at h;subst h
    obtain⟨n,b,h1,h2,h3,h4⟩:=hv
    exact Rd.B8g h1 h2 h3 h4
   ·cases h
  ·cases h
 ·split at h
  ·simp at h;subst h;exact Rd.snil rfl hv
  ·cases h
 ·split at h
  ·simp at h;subst h;exact Rd.B9u rfl hv
  ·cases h
 ·split at h
  ·simp at h;subst h;exact Rd.G3o rfl hv
  ·cases h
 ·split at h
  ·simp at h;subst h
   have e:_=_:=hv
   exact Rd.fn (l:=[]) (vs:=[]) rfl e rfl (fun c x u h=>by simp at h)
  ·cases h
theorem F5g(ρ:List D):∀l,(den ρ (G2t l)).toL=l.map D.str
 |[]=>rfl
 |s::l=>congrArg (D.str s::·) (F5g ρ l)
theorem A3o{X:Cx}{st:St}{a:Act}{β:Nat→Value}(hs:Sat X ρ st F β a w){x:Operand}{sv:SV}(h:opV st x=some sv):RV X.P w F ρ β sv (a.eval x):=by
 cases x with
 |tmp t=>
  obtain⟨v,hv,hr⟩:=hs.at h
  simpa[Act.eval,hv]using hr
 |const v=>exact G3g h
 |global g=>
  unfold opV at h
  simp only at h
  split at h
  ·rename_i t s l hl
   ·simp only[b1]at h;subst h
    rw[hs.cf.1]at hl
    have ht:=hs.gx.gt g t (s::l) hl
    obtain⟨q1,q2⟩:=X.G.glo hs.gl g t (s::l) hl
    have hd:(den ρ (G2t (s::l))).toL=(s::l).map D.str:=F5g ρ (s::l)
    refine⟨g,0,(s::l).length,(s::l).length,[.str],?_,ht,by simp[den],by rw[hd];simp[den],by simp[Act.eval,den]⟩
    refine Rd.slice (g:=fun i c=>.string ((s::l).getD i ByteArray.empty)) rfl ht (by rw[hd];simp) (c8 _) q1 ?_ ?_
    ·intro i c hi hc
     rw[hd,List.length_map]at hi
     have hc0:c=0:=by simpa using hc
     subst hc0
     have:=q2 i _ (a0 hi)
     simpa[aZ,a0 hi]using this
    ·intro i c x u hx hu
     match c,hu with
     |0,hu=>
      simp at hu;subst hu
      rw[hd,a6]at hx
      cases hli:(s::l)[i]? with
      |none=>rw[hli]at hx;cases hx
      |some y=>
       rw[hli]at hx
       simp at hx;subst hx
       exact Rd.str (by simp[aZ,hli,cellOf,D.toStr])
  ·cases h
 |func f=>simp[opV]at h;subst h;rfl
theorem A0g{X:Cx}{st:St}{a:Act}{β:Nat→Value}(hs:Sat X ρ st F β a w){x:Operand}{c:C}(h:opC st x=some c):RC X.P w F ρ β c (a.eval x):=by
 unfold opC at h
 split at h
 ·rename_i c' hc
  simp at h;subst h
  exact A3o hs hc
 ·cases h
def A7y(P:Program)(w:World)(F:Fr)(ρ:List D)(β:Nat→Value)(nn:Nat)(sv:SV)(nb:Option Box)(r:Result Next):Prop:=
 match nb with
 |none=>∃v,r=.ok (.value v) w∧RV P w F ρ β sv v
 |some (.box t cs)=>∃vs:List Value,r=.ok (.value (.pointer (some ⟨w.heap.size,0,none⟩))) (w.alloc (.cells vs.toArray t))∧sv=.one (.ptr nn 0)∧RCL P w F ρ β cs vs
 |some (.view t x c)=>∃v,r=.ok (.value v) w∧sv=.one (.vec nn)∧A1b P w F ρ β (.view t x c) v∧v.oneCell'=true
 |some (.vec _ _)=>False
 |some (.map _ _)=>False
variable{X:Cx}{st:St}{a:Act}
theorem C2s{st:St}{e:E}{b:Bool}(h:known st e=some b)(hs:Sat X ρ st F β a w):(den ρ e).toBool=b:=by
 unfold known at h
 split at h
 ·simp at h;subst h;rfl
 ·cases hf:st.fs.find? (fun p=>p.1 == e)with
  |none=>simp[hf]at h
  |some p=>
   simp[hf]at h;subst h
   have hm:=List.mem_of_find?_eq_some hf
   have he:=List.find?_some hf
   simp at he;subst he
   exact hs.fs _ _ hm
theorem C5v(hs:Sat X ρ st F β a w){x:Operand}{es:List E}{sv:SV}{nb:Option Box}(h:(opV st x).map (fun v=>(([]:List E),v,(none:Option Box)))=some (es,sv,nb))(nn:Nat):
  A7y X.P w F ρ β nn sv nb (.ok (.value (a.eval x)) w):=by
 cases hv:opV st x with
 |none=>simp[hv]at h
 |some v=>simp[hv]at h;obtain⟨rfl,rfl,rfl⟩:=h;exact⟨_,rfl,A3o hs hv⟩
theorem G5h(hs:Sat X ρ st F β a w){o:Oper}{c x y:Operand}(ho:o.op=.pick c x y){es:List E}{sv:SV}{nb:Option Box}(h:F3i st c x y=some (es,sv,nb))(nn:Nat):
  A7y X.P w F ρ β nn sv nb ((execOp a.eval o).run X.P w):=by
 unfold F3i at h
 split at h
 ·rename_i e hc
  have hcv:=(A0g hs hc).A6x
  split at h
  ·rename_i hk
   have:=C2s hk hs
   have hm:=C5v hs h nn
   simp only[execOp,ho,hcv,this,asBool,b2,b3,b0,Q5]at hm⊢
   exact hm
  ·rename_i hk
   have:=C2s hk hs
   have hm:=C5v hs h nn
   simp only[execOp,ho,hcv,this,asBool,b2,b3,b0,cI,Q4]at hm⊢
   exact hm
  ·split at h
   ·rename_i t x' cy hx hy
    obtain⟨y',hm,e'⟩:=A7t h
    simp at e';obtain⟨rfl,rfl,rfl⟩:=e'
    have h1:=A0g hs hx
    have h2:=B1m hm (A0g hs hy)
    refine⟨if(den ρ e).toBool=true then a.eval x else a.eval y,?_,?_⟩
    ·simp only[execOp,ho,hcv,asBool,b2,b3,b0]
    ·exact C0t (fun _=>h1) (fun _=>h2)
   ·rename_i cx t y' hne hx hy
    obtain⟨x',hm,e'⟩:=A7t h
    simp at e';obtain⟨rfl,rfl,rfl⟩:=e'
    have h1:=B1m hm (A0g hs hx)
    have h2:=A0g hs hy
    refine⟨if(den ρ e).toBool=true then a.eval x else a.eval y,?_,?_⟩
    ·simp only[execOp,ho,hcv,asBool,b2,b3,b0]
    ·exact C0t (fun _=>h1) (fun _=>h2)
   ·cases h
 ·cases h
theorem E4a(hs:Sat X ρ st F β a w){o:Oper}{t:TypeId}(ho:o.op=.alloc t){es:List E}{sv:SV}{nb:Option Box}(h:(B3y X.P t).map (fun cs=>(([]:List E),SV.one (.ptr st.nn 0),some (Box.box t cs)))=some (es,sv,nb)):
  A7y X.P w F ρ β st.nn sv nb ((execOp a.eval o).run X.P w):=by
 cases hz:B3y X.P t with
 |none=>simp[hz]at h
 |some cs=>
  simp[hz]at h;obtain⟨rfl,rfl,rfl⟩:=h
  obtain⟨z,hz1,hz2⟩:=A6o (w:=w) (F:=F) (ρ:=ρ) (β:=β) hz
  refine⟨z.cells.toList,?_,rfl,hz2⟩
  simp only[execOp,ho,Instr.alloc,b2,D2x hz1,b0]
  rfl
theorem RV.cells{sv:SV}{v:Value}{cs:List C}(h:RV P w F ρ β sv v)(hc:sv.cells=some cs)(hb:∀n,(β n).oneCell'=true):∃vs:List Value,v.cells=vs.toArray∧RCL P w F ρ β cs vs:=by
 cases sv with
 |one c=>
  simp[SV.cells]at hc;subst hc
  exact⟨[v],by simpa using F4p (RC.one h (fun n _=>hb n)),RCL.cons h RCL.nil⟩
 |agg cs'=>
  simp[SV.cells]at hc;subst hc
  obtain⟨vs,rfl,hl⟩:=h
  exact⟨vs,rfl,hl⟩
 |tup l=>cases hc
theorem E0w(hs:Sat X ρ st F β a w)(hb:∀n,(β n).oneCell'=true){o:Oper}{t:TypeId}{x:Operand}(ho:o.op=.box t x){es:List E}{sv:SV}{nb:Option Box}
  (h:(match opV st x with|some v=>(match v.cells with|some cs=>some (([]:List E),SV.one (.ptr st.nn 0),some (Box.box t cs))|none=>none)|none=>none)=some (es,sv,nb)):
  A7y X.P w F ρ β st.nn sv nb ((execOp a.eval o).run X.P w):=by
 split at h
 ·rename_i v hv
  split at h
  ·rename_i cs hcs
   simp at h;obtain⟨rfl,rfl,rfl⟩:=h
   obtain⟨vs,e,hl⟩:=(A3o hs hv).cells hcs hb
   refine⟨vs,?_,rfl,hl⟩
   simp only[execOp,ho,Instr.box,b2,newVar,newRow,newObj,e]
   rfl
  ·cases h
 ·cases h
theorem F7g{e:TypeId}{d:D}{b o len cap:Nat}{ts:List Ty}(h:Rd P w F (.slice e) d (.slice (some ⟨b,o,none⟩) len cap))(ht:A0r P e=some ts){i:Nat}(hi:i<d.toL.length):
  F b∧∃g:Nat→Value,(∀c,c<ts.length→w.cell? ⟨b,o+i*ts.length+c,none⟩=some (g c))∧∀c t,ts[c]?=some t→Rd P w F t (cellOf ts.length (d.toL.getD i .nil) c) (g c):=by
 cases h with
 |snil e1 e2=>rw[e1]at hi;simp at hi
 |slice e1 e2 e3 e0 e4 e5 e6=>
  rename_i ts' g
  cases e1
  rw[e2]at ht;cases ht
  refine⟨e4,fun c=>g i c,fun c hc=>e5 i c hi hc,fun c t hc=>e6 i c _ t ?_ hc⟩
  rw[a0 hi,a5,a0 hi];rfl
theorem G4v{e:TypeId}{y:E}{b o len cap:Nat}{ts:List Ty}{v:Value}(h:A1b P w F ρ β (.vec e y) v)(hv:v=.slice (some ⟨b,o,none⟩) len cap)(hnz:0<len)(ht:A0r P e=some ts):len=(den ρ y).toL.length∧len≤cap∧
  ∃xs:List Value,(∃cur,w.heap[b]?=some (.cells cur e (0,0))∧(cur.toList.drop o).take (len*ts.length)=xs∧cur.size=o+cap*ts.length)∧xs.length=len*ts.length∧∀i,i<len→(∀c,c<ts.length→w.cell? ⟨b,o+i*ts.length+c,none⟩=some (xs.getD (i*ts.length+c) undef))∧
   ∀c t,ts[c]?=some t→Rd P w F t (cellOf ts.length ((den ρ y).toL.getD i .nil) c) (xs.getD (i*ts.length+c) undef):=by
 subst hv
 obtain⟨ts',xs,hts,⟨hl,hr⟩,hx⟩:=h
 rw[ht]at hts;cases hts
 rcases hr with⟨⟨A,hr⟩,hn⟩|⟨g,o',cap',cur,e1,e0,hg,hle,_,hsz,htk⟩
 ·exact absurd hr (by rintro h;injection h with h1 h2 h3;omega)
 ·injection e1 with e1 e2 e3
  injection e1 with e1
  injection e1 with e4 e5
  subst e2 e3 e4 e5
  refine⟨rfl,hle,xs,⟨cur,hg,htk,hsz⟩,hl,fun i hi=>?_⟩
  have hlt:∀c,c<ts.length→i*ts.length+c<(den ρ y).toL.length*ts.length:=by
   intro c hc
   have:(i+1)*ts.length≤(den ρ y).toL.length*ts.length:=Nat.mul_le_mul_right _ hi
   rw[c9,Nat.one_mul]at this
   omega
  refine⟨fun c hc=>?_,fun c t hc=>?_⟩
  ·have hl1:=hlt c hc
   have hcur:cur.toList[o+i*ts.length+c]?=xs[i*ts.length+c]?:=by
    rw[←htk,aJ,Q3 hl1,aI,c4]
   have hxs:i*ts.length+c<xs.length:=by omega
   rw[a0 hxs,Array.getElem?_toList]at hcur
   simp only[cN,hg]
   simp[hcur,a5,a0 hxs]
  ·have hl1:=hlt c (a4.1 hc).1
   have hy:(den ρ y).toL[i]?=some ((den ρ y).toL.getD i .nil):=by rw[a0 hi,a5,a0 hi];rfl
   obtain⟨u,hu1,hu2⟩:=hx i c _ t hy hc
   simp only[a5 (l:=xs),hu1,bY]
   exact hu2
theorem C6a{c:C}{es:List E}{t:TypeId}{x:E}{k:Nat}{v:Value}(h:asH st c=some (es,t,x,k))(hc:F.hc=st.cf.hc)(hes:∀e ∈ es,(den ρ e).toBool=true)(hr:RC P w F ρ β c v):RC P w F ρ β (.A8b t x k) v:=by
 unfold asH at h
 split at h
 ·cases h;exact hr
 ·rename_i e x'
  split at h
  ·rename_i hh
   cases h
   have hn:=hes _ (aB ..)
   rw[A6g,A3p]at hn
   cases hr with
   |B9u e1 e2=>rw[e1]at hn;simp at hn
   |B8g e1 e2 e3 e4=>exact⟨_,_,e1,e2,e3,e4⟩
   |ptr e0=>rw[hc]at e0;rw[hh]at e0;cases e0
  ·cases h
 ·cases h
theorem B5a.one{P:Program}{w:World}{F:Fr}{S:List Nat}{t:OTy}{d:D}{v:Value}(h:C1x P w F S t d v):v.oneCell'=true:=by
 cases h with
 |dat h=>exact h.one
 |gone h=>exact h
 |row h1 h2 h3=>
  obtain⟨_,⟨⟨A,h⟩,_⟩|⟨g,o,cap,cur,h,_⟩⟩:=h2<;>rw[h]<;>rfl
theorem D6u{ex:List (Nat × TypeId × E)}{n c:Nat}(h:F4m ex c=false):(exN ρ ex).contains (n,c)=false:=by
 unfold F4m at h
 unfold exN
 cases hq:(ex.map fun x=>((den ρ x.2.2).toInt.toNat,x.1)).contains (n,c)with
 |false=>rfl
 |true=>
  simp only[List.contains_eq_mem,List.mem_map,Q9]at hq
  obtain⟨x,hx,he⟩:=hq
  have:ex.any (fun x=>x.1 == c)=true:=List.any_eq_true.2 ⟨x,hx,by cases he;simp⟩
  rw[this]at h;cases h
theorem Sat.obj(hs:Sat X ρ st F β a w){m:Bool}{h x:E}(hh:st.hp=some (m,h)){n b:Nat}{t:TypeId}(hx:den ρ x=.int (n:Nat))(hn:F.γ[n]?=some (b,t)){os:List OTy}(hos:D2o X.P st.cf.ob t=some os):
  ∃vs:List Value,w.heap[b]?=some (.cells vs.toArray t (0,0))∧vs.length=os.length∧n<(den ρ h).toL.length∧(den ρ (mkGet h x)).toL.length=os.length∧∀i o u,os[i]?=some o→vs[i]?=some u→u.oneCell'=true∧((∃z e,o=.row z e)∧(exN ρ st.ex).contains (n,i)=true∨∃S,C1x X.P w F S o (den ρ (B0a (mkGet h x) i)) u):=by
 obtain⟨φ,q1,q2⟩:=hs.hg.hp m h hh
 obtain⟨vs,os',g,h1,h2,h3,h4,h5,h6,h7⟩:=q1.obj n b t hn
 rw[hos]at h2;cases h2
 have hlt:n<(den ρ h).toL.length:=by rw[q1.len];exact(a4.1 hn).1
 have hg:den ρ (mkGet h x)=(den ρ h).toL.getD n .nil:=by
  have:=C6l (ρ:=ρ) h x (by rw[hx];simpa using hlt)
  rw[this,hx];simp
 refine⟨vs,h1,h4,hlt,by rw[hg];exact h3,fun i o u a1 a2=>?_⟩
 have hi:i<((den ρ h).toL.getD n .nil).toL.length:=by rw[h3];exact(a4.1 a1).1
 have hc:((den ρ h).toL.getD n .nil).toL[i]?=some (den ρ (B0a (mkGet h x) i)):=by
  rw[E8m,hg,a0 hi,a5 (l:=((den ρ h).toL.getD n .nil).toL),a0 hi];rfl
 have:=h5 i o _ u a1 hc a2
 split at this
 ·rename_i he;exact⟨this.1,.inl ⟨this.2.2,he⟩⟩
 ·exact⟨B5a.one this,.inr ⟨_,this⟩⟩
theorem A6n(hs:Sat X ρ st F β a w){m:Nat}{e:TypeId}{y:E}(h:rowOf X.P st m=some (e,y)):A1b X.P w F ρ β (.vec e y) (β m):=by
 unfold rowOf at h
 split at h
 ·rename_i e' y' hb
  cases h
  exact hs.bx _ _ hb
 ·rename_i t x j hb
  split at h
  ·rename_i m' hh os hhp hos
   split at h
   ·rename_i e' hj
    split at h
    ·cases h
    ·rename_i hex
     cases h
     obtain⟨n,b,vs,v1,v2,v3,v4⟩:=hs.bx _ _ hb
     obtain⟨vs',o1,o2,_,_,o3⟩:=hs.obj hhp v1 v2 hos
     rw[v3]at o1
     have:vs=vs':=by simpa using o1
     subst this
     rcases(o3 j _ _ hj v4).2 with⟨_,hc⟩|⟨S,hc⟩
     ·rw[D6u (by simpa using hex)]at hc;cases hc
     ·cases hc with
      |row h1 h2 h3=>exact⟨_,_,h1,h2,h3⟩
   ·cases h
  ·cases h
 ·cases h
theorem G2v(hs:Sat X ρ st F β a w){o:Oper}{t:TypeId}{x:Operand}(ho:o.op=.load t x){es0 es:List E}{tt:TypeId}{y:E}{c:Nat}{sv:SV}{nb:Option Box}(h:D7f X.P st t es0 tt y c=some (es,sv,nb))(hx:RC X.P w F ρ β (.A8b tt y c) (a.eval x)):
  A7y X.P w F ρ β st.nn sv nb ((execOp a.eval o).run X.P w):=by
 unfold D7f at h
 obtain⟨n,b,x1,x2,x3,x4⟩:=hx
 split at h
 ·rename_i m hh os hhp hos
  obtain⟨vs,o1,o2,_,_,o3⟩:=hs.obj hhp x2 x3 hos
  have hcell:∀j v,vs[j]?=some v→w.cell? ⟨b,j,none⟩=some v:=fun j v hj=>by simp[cN,o1,hj]
  split at h
  ·rename_i e e' hj hu hsz
   split at h
   ·rename_i hc
    cases h
    have hlt:c<vs.length:=by rw[o2];exact(a4.1 hj).1
    have hv:vs[c]?=some vs[c]:=a0 hlt
    refine⟨vs[c],?_,rfl,⟨n,b,vs,x2,x3,o1,hv⟩,(o3 c _ _ hj hv).1⟩
    have ha:A1j X.P t=some false:=by unfold A1j;rw[hu]
    simp[execOp,ho,b8,x4,b5,loadVar,B1u ha,load,b4,hcell c _ hv]
   ·cases h
  ·cases h
  ·obtain⟨sv',hp,e⟩:=A7t h
   cases e
   have hl:RCL X.P w F ρ β (D2d hh os y) vs:=by
    refine⟨by simp[D2d,o2],fun j c' v hc hv=>?_⟩
    unfold D2d at hc
    rw[a6,aE]at hc
    cases ht:os[j]? with
    |none=>simp[ht]at hc
    |some oj=>
     simp[ht]at hc
     obtain⟨q1,q2⟩:=o3 j oj v ht hv
     cases oj with
     |row z e=>subst hc;exact q1
     |dat u=>
      subst hc
      rcases q2 with⟨⟨z,e,he⟩,_⟩|⟨S,hc⟩
      ·cases he
      ·cases hc with
       |dat h=>exact h
   obtain⟨v,hv1,hv2⟩:=B7a hp hl (b:=b) (o:=0) (fun j v hj=>by rw[bZ];exact hcell j v hj)
   rw[bZ]at hv1
   exact⟨v,by simp[execOp,ho,b8,x4,b5,hv1],hv2⟩
 ·cases h
theorem G4f{e:TypeId}{la:E}{v:Value}(hr:Rd P w F (.ptr e) (den ρ la) v)(hn:(den ρ (mkNot (A8x la))).toBool=true)(hcl:F.hc.contains e=false):∃b o,v=.pointer (some ⟨b,o,none⟩):=by
 rw[A6g,A3p]at hn
 cases hr with
 |B9u e1 e2=>rw[e1]at hn;simp at hn
 |B8g e0 e1 e2 e3=>rw[hcl]at e0;cases e0
 |ptr e0 e1 e2 e3 e4 e5 e6 e7=>exact⟨_,_,e2⟩
theorem E8f(hs:Sat X ρ st F β a w){tt:TypeId}{la:E}{c:Nat}{ts:List Ty}{t:TypeId}{sv':SV}{b o':Nat}(hts:A0r X.P tt=some ts)(hcl:¬st.cf.hc.contains tt=true)(hp:A6f X.P t (ts.zipIdx.map fun(u,j)=>C.dat u (C0p la j)) c=some sv')(h1:Rd X.P w F (.ptr tt) (den ρ la) (.pointer (some ⟨b,o',none⟩))):
  ∃v,(loadVar t ⟨b,o'+c,none⟩).run X.P w=.ok v w∧RV X.P w F ρ β sv' v:=by
 cases h1 with
 |B9u e1 e2=>cases e2
 |B8g e0 e1 e2 e3=>rw[hs.cf.2]at e0;exact absurd e0 hcl
 |ptr e0 e1 e2 e3 e4 e5 e6 e7=>
  rename_i l ts' g
  cases e2
  rw[hts]at e3;cases e3
  obtain⟨v,hv1,hv2⟩:=B7a hp (w:=w) (F:=F) (ρ:=ρ) (β:=β) (vs:=(aF ts.length).map g) ⟨by simp,fun j c' v hc hv=>by
   rw[a6,aE]at hc
   rw[a6]at hv
   cases ht:ts[j]? with
   |none=>simp[ht]at hc
   |some tj=>
    have hlt:=(a4.1 ht).1
    simp[ht]at hc
    simp[a7 hlt]at hv
    subst hc hv
    show Rd _ _ _ _ (den ρ (C0p la j)) _
    have hlt':j<l.length:=by omega
    have hlj:l[j]?=some l[j]:=a0 hlt'
    rw[D2n,e1]
    simp only[D.A0j,a5,hlj,bY]
    exact e7 j _ tj hlj ht⟩ (b:=b) (o:=o') (fun j v hj=>by
   rw[a6]at hj
   cases hr:(aF ts.length)[j]? with
   |none=>simp[hr]at hj
   |some k=>
    have hlt:=(a4.1 hr).1
    simp at hlt
    rw[a7 hlt]at hj
    simp at hj;subst hj
    have hlt':j<l.length:=by omega
    exact e6 j _ (a0 hlt'))
  exact⟨v,hv1,hv2⟩
theorem G4o(hs:Sat X ρ st F β a w){o:Oper}{t:TypeId}{x:Operand}(ho:o.op=.load t x){es:List E}{sv:SV}{nb:Option Box}(h:F5q X.P st t x=some (es,sv,nb))(hes:∀e ∈ es,(den ρ e).toBool=true):
  A7y X.P w F ρ β st.nn sv nb ((execOp a.eval o).run X.P w):=by
 unfold F5q at h
 split at h
 ·rename_i n off hx
  split at h
  ·rename_i t' cs hb
   obtain⟨sv',hp,e⟩:=A7t h
   cases e
   obtain⟨b,hb1,hb2⟩:=A0g hs hx
   obtain⟨b',vs,e1,e2,e3⟩:=hs.bx _ _ hb
   obtain rfl:b'=b:=by rw[e1]at hb1;simpa using hb1
   obtain⟨v,hv1,hv2⟩:=B7a hp e3 (b:=b') (o:=0) (fun j v hj=>by
    rw[bZ]
    simp[cN,e2,hj])
   rw[bZ]at hv1
   exact⟨v,by simp[execOp,ho,b8,hb2,b5,hv1],hv2⟩
  ·cases h
 ·rename_i tt la i c hx
  split at h
  ·rename_i ts hts
   obtain⟨sv',hp,e⟩:=A7t h
   cases e
   obtain⟨b,o',len,cap,ts',h1,h2,h3,h4,h5⟩:=A0g hs hx
   rw[hts]at h2;cases h2
   obtain⟨_,g,hg1,hg2⟩:=F7g h1 hts h4
   obtain⟨v,hv1,hv2⟩:=B7a hp (w:=w) (F:=F) (ρ:=ρ) (β:=β) (vs:=(aF ts.length).map g) ⟨by simp,fun j c' v hc hv=>by
    rw[a6,aE]at hc
    rw[a6]at hv
    cases ht:ts[j]? with
    |none=>simp[ht]at hc
    |some tj=>
     have hlt:=(a4.1 ht).1
     simp[ht]at hc
     simp[a7 hlt]at hv
     subst hc hv
     show Rd _ _ _ _ (den ρ (C0o ts.length (.get la i) j)) _
     rw[C2i]
     exact hg2 j tj ht⟩ (b:=b) (o:=o'+(den ρ i).toInt.toNat*ts.length) (fun j v hj=>by
    rw[a6]at hj
    cases hr:(aF ts.length)[j]? with
    |none=>simp[hr]at hj
    |some k=>
     have hlt:=(a4.1 hr).1
     simp at hlt
     rw[a7 hlt]at hj
     simp at hj;subst hj
     exact hg1 j hlt)
   exact⟨v,by simp[execOp,ho,b8,h5,b5,hv1],hv2⟩
  ·cases h
 ·rename_i tt la c hx
  split at h
  ·rename_i ts hts
   split at h
   ·cases h
   rename_i hcl
   obtain⟨sv',hp,e⟩:=A7t h
   cases e
   obtain⟨b,o',h1,h5⟩:=A0g hs hx
   obtain⟨v,hv1,hv2⟩:=E8f hs hts hcl hp h1
   exact⟨v,by simp[execOp,ho,b8,h5,b5,hv1],hv2⟩
  ·cases h
 ·rename_i n tt i c hx
  split at h
  ·rename_i ts e y hts hb
   have hbx:=A6n hs hb
   split at h
   ·rename_i he
    subst he
    obtain⟨sv',hp,e⟩:=A7t h
    cases e
    obtain⟨b,o',len,cap,ts',h1,h2,h3,h4,h5⟩:=A0g hs hx
    rw[hts]at h2;cases h2
    obtain⟨hlen,_,xs,_,_,hat⟩:=G4v hbx h1 (Nat.lt_of_le_of_lt (cA _) h4) hts
    obtain⟨hg1,hg2⟩:=hat _ h4
    obtain⟨v,hv1,hv2⟩:=B7a hp (w:=w) (F:=F) (ρ:=ρ) (β:=β) (vs:=(aF ts.length).map fun j=>xs.getD ((den ρ i).toInt.toNat*ts.length+j) undef) ⟨by simp,fun j c' v hc hv=>by
     rw[a6,aE]at hc
     rw[a6]at hv
     cases ht:ts[j]? with
     |none=>simp[ht]at hc
     |some tj=>
      have hlt:=(a4.1 ht).1
      simp[ht]at hc
      simp[a7 hlt]at hv
      subst hc hv
      show Rd _ _ _ _ (den ρ (C0o ts.length (.get y i) j)) _
      rw[C2i]
      have:=hg2 j tj ht
      rw[a5 (l:=xs)]at this
      exact this⟩ (b:=b) (o:=o'+(den ρ i).toInt.toNat*ts.length) (fun j v hj=>by
     rw[a6]at hj
     cases hr:(aF ts.length)[j]? with
     |none=>simp[hr]at hj
     |some k=>
      have hlt:=(a4.1 hr).1
      simp at hlt
      rw[a7 hlt]at hj
      simp only[bW,b1]at hj;subst hj
      exact hg1 j hlt)
    exact⟨v,by simp[execOp,ho,b8,h5,b5,hv1],hv2⟩
   ·cases h
  ·cases h
 ·rename_i x' hx
  split at h
  ·rename_i es' tt y c has
   have hh:∀e ∈ es',(den ρ e).toBool=true:=by
    have:es'=es:=by
     unfold D7f at h
     split at h
     ·split at h
      ·split at h
       ·cases h;rfl
       ·cases h
      ·cases h
      ·obtain⟨_,_,e⟩:=A7t h;cases e;rfl
     ·cases h
    rw[this];exact hes
   exact G2v hs ho h (C6a has hs.cf.2 hh (A0g hs hx))
  ·split at h
   ·rename_i tt la _ _ _ _
    split at h
    ·rename_i ts hts
     split at h
     ·cases h
     rename_i hcl
     obtain⟨sv',hp,e⟩:=A7t h
     cases e
     have hr:Rd X.P w F (.ptr tt) (den ρ la) (a.eval x):=A0g hs hx
     obtain⟨b,o',hv⟩:=G4f hr (hes _ (aA.2 rfl)) (by rw[hs.cf.2];simpa using hcl)
     obtain⟨v,q1,q2⟩:=E8f hs hts (by simpa using hcl) (c:=0) hp (by rw[←hv];exact hr)
     rw[c7]at q1
     exact⟨v,by simp[execOp,ho,b8,hv,b5,q1],q2⟩
    ·cases h
   ·cases h
 ·cases h
end
end Go.Proofs.YtckanieeocdpbaaGreat.Eng
namespace Go.Proofs.YtckanieeocdpbaaGreat.Eng
set_option linter.unusedVariables false
set_option linter.unusedSimpArgs false
section
variable{P:Program}{w:World}{F:Fr}{ρ:List D}{β:Nat→Value}
variable{X:Cx}{st:St}{a:Act}
theorem C3u{s:TypeId}{f:Nat}{fl:Field}(h:C3o P s f=some fl):∃fs,P.underlying s=some (.struct fs)∧fs[f]?=some fl:=by
 unfold C3o at h
 split at h
 ·rename_i fs hu;exact⟨fs,hu,h⟩
 ·cases h
theorem B0h{s:TypeId}{f:Nat}{fl:Field}(h:C3o P s f=some fl){n:Nat}(hn:A3k P fl.type=some (n+1))(b o:Nat):
  (bG s (.pointer (some ⟨b,o,none⟩)) f).run P w=.ok (.pointer (some ⟨b,o+fl.offset,none⟩)) w:=by
 obtain⟨fs,hu,hf⟩:=C3u h
 simp[bG,A1a hu,hf,b5,fieldPlace,A2y hn,A4y]
theorem E7n(hs:Sat X ρ st F β a w){o:Oper}{s:TypeId}{x:Operand}{f:Nat}(ho:o.op=.fieldAddr s x f){es:List E}{sv:SV}{nb:Option Box}(h:C7n X.P st s x f=some (es,sv,nb))(hes:∀e ∈ es,(den ρ e).toBool=true)(nn:Nat):
  A7y X.P w F ρ β nn sv nb ((execOp a.eval o).run X.P w):=by
 unfold C7n at h
 split at h
 ·rename_i fl hf
  split at h
  ·rename_i n hn
   split at h
   ·rename_i m off hx
    simp[ev1]at h;obtain⟨rfl,rfl,rfl⟩:=h
    obtain⟨b,h1,h2⟩:=A0g hs hx
    exact⟨_,by simp[execOp,ho,h2,B0h hf hn],b,h1,rfl⟩
   ·rename_i t la i c hx
    simp[ev1]at h;obtain⟨rfl,rfl,rfl⟩:=h
    obtain⟨b,o',len,cap,ts,h1,h2,h3,h4,h5⟩:=A0g hs hx
    refine⟨.pointer (some ⟨b,o'+(den ρ i).toInt.toNat*ts.length+c+fl.offset,none⟩),?_,b,o',len,cap,ts,h1,h2,h3,h4,by rw[←c4]⟩
    simp[execOp,ho,h5,B0h hf hn]
   ·rename_i t la c hx
    simp[ev1]at h;obtain⟨rfl,rfl,rfl⟩:=h
    obtain⟨b,o',h1,h5⟩:=A0g hs hx
    refine⟨.pointer (some ⟨b,o'+c+fl.offset,none⟩),?_,b,o',h1,by rw[←c4]⟩
    simp[execOp,ho,h5,B0h hf hn]
   ·rename_i m t i c hx
    simp[ev1]at h;obtain⟨rfl,rfl,rfl⟩:=h
    obtain⟨b,o',len,cap,ts,h1,h2,h3,h4,h5⟩:=A0g hs hx
    refine⟨.pointer (some ⟨b,o'+(den ρ i).toInt.toNat*ts.length+c+fl.offset,none⟩),?_,b,o',len,cap,ts,h1,h2,h3,h4,by rw[←c4]⟩
    simp[execOp,ho,h5,B0h hf hn]
   ·rename_i x' hx
    split at h
    ·rename_i es' t a' c has
     cases h
     obtain⟨n',b,h1,h2,h3,h4⟩:=C6a has hs.cf.2 hes (A0g hs hx)
     refine⟨.pointer (some ⟨b,c+fl.offset,none⟩),?_,n',b,h1,h2,h3,rfl⟩
     simp[execOp,ho,h4,B0h hf hn]
    ·split at h
     ·rename_i e la _ _ _ _
      split at h
      ·cases h
      rename_i hcl
      simp at h;obtain⟨rfl,rfl,rfl⟩:=h
      have hr:Rd X.P w F (.ptr e) (den ρ la) (a.eval x):=A0g hs hx
      obtain⟨b,o',hv⟩:=G4f hr (hes _ (aA.2 rfl)) (by rw[hs.cf.2];simpa using hcl)
      refine⟨.pointer (some ⟨b,o'+fl.offset,none⟩),?_,b,o',by rw[←hv];exact hr,rfl⟩
      simp[execOp,ho,hv,B0h hf hn]
     ·cases h
   ·cases h
  ·cases h
 ·cases h
theorem G1o(hs:Sat X ρ st F β a w){o:Oper}{s:TypeId}{x:Operand}{f:Nat}(ho:o.op=.field s x f){es:List E}{sv:SV}{nb:Option Box}(h:E7a X.P st s x f=some (es,sv,nb))(nn:Nat):
  A7y X.P w F ρ β nn sv nb ((execOp a.eval o).run X.P w):=by
 unfold E7a at h
 split at h
 ·rename_i fl hf
  split at h
  ·rename_i cs hx
   obtain⟨sv',hp,e⟩:=A7t h
   cases e
   obtain⟨vs,e,hl⟩:=A3o hs hx
   obtain⟨fs,hu,hf'⟩:=C3u hf
   obtain⟨v,hv1,hv2⟩:=G5v hp hl
   exact⟨v,by simp[execOp,ho,e,Instr.field,A1a hu,hf',asAgg,hv1],hv2⟩
  ·cases h
 ·cases h
theorem D5v{t:TypeId}(hu:P.underlying t=some .bool)(n:Nat)(a b:Bool):(bM (n+1) t (.bool a) (.bool b)).run P w=.ok (a == b) w:=by
 simp[bM,A1a hu]
theorem H1c{t:TypeId}{k0:IntKind}(hu:P.underlying t=some (.int k0))(n:Nat)(k:IntKind)(a b:Int):(bM (n+1) t (.int k a) (.int k b)).run P w=.ok (a == b) w:=by
 simp[bM,A1a hu]
theorem H0g{t:TypeId}(hu:P.underlying t=some .string)(n:Nat)(a b:ByteArray):(bM (n+1) t (.string a) (.string b)).run P w=.ok (a == b) w:=by
 simp[bM,A1a hu]
theorem F4k{t:TypeId}{ms:Array (String × TypeId)}(hu:P.underlying t=some (.interface ms))(n:Nat):(bM (n+1) t .nilIface .nilIface).run P w=.ok true w:=by
 simp[bM,A1a hu]
theorem E2v{t u:TypeId}{v:Value}{ms:Array (String × TypeId)}(hu:P.underlying t=some (.interface ms))(n:Nat):(bM (n+1) t (.iface u v) .nilIface).run P w=.ok false w:=by
 simp[bM,A1a hu]
theorem E8e{t e:TypeId}(hu:P.underlying t=some (.pointer e))(n:Nat):(bM (n+1) t (.pointer none) (.pointer none)).run P w=.ok true w:=by
 simp[bM,A1a hu]
theorem B3r{t e:TypeId}(hu:P.underlying t=some (.pointer e))(n:Nat)(x:Addr):(bM (n+1) t (.pointer (some x)) (.pointer none)).run P w=.ok false w:=by
 simp[bM,A1a hu]
theorem run_eq{t:TypeId}{x y:Operand}{u v:Value}{b:Bool}(hb:binOp .eql t u v=(do pure (.bool (←bO t u v))))(hg:(eqGuard .eql t x y u v).run P w=.ok () w)(he:(bM (9999+1) t u v).run P w=.ok b w):
  (do eqGuard .eql t x y u v;binOp .eql t u v:Sem Value).run P w=.ok (.bool b) w:=by
 have he':(bO t u v).run P w=.ok b w:=he
 rw[hb]
 simp only[b2,hg,b0,he',b3]
theorem B7r{t:TypeId}{x y:Operand}{u v:Value}{b:Bool}(hb:binOp .neq t u v=(do pure (.bool (!(←bO t u v)))))(hg:(eqGuard .neq t x y u v).run P w=.ok () w)(he:(bM (9999+1) t u v).run P w=.ok b w):
  (do eqGuard .neq t x y u v;binOp .neq t u v:Sem Value).run P w=.ok (.bool !b) w:=by
 have he':(bO t u v).run P w=.ok b w:=he
 rw[hb]
 simp only[b2,hg,b0,he',b3]
theorem G5f{op:BinOp}{t:TypeId}{k k':IntKind}{a b:E}{es:List E}{c:C}(h:bin P op t (.dat (.int k) a) (.dat (.int k') b)=some (es,c))
  (hes:∀e ∈ es,(den ρ e).toBool=true) {x y:Operand}:
  ∃v,(do eqGuard op t x y (.int k (den ρ a).toInt) (.int k' (den ρ b).toInt);binOp op t (.int k (den ρ a).toInt) (.int k' (den ρ b).toInt):Sem Value).run P w=.ok v w∧RC P w F ρ β c v:=by
 cases op<;>simp only[bin,b1,bL]at h
 case shl|shr=>
  obtain⟨rfl,rfl⟩:=h
  have hge:¬(den ρ b).toInt<0:=by
   have:=hes _ (aA.2 rfl)
   simpa[A4z,C3w,den]using this
  refine⟨_,?_,Rd.int rfl⟩
  rw[C4m]
  simp[eqGuard,binOp,Op.shift,hge,arF]
 all_goals
  split at h
  ·rename_i hk
   subst hk
   simp only[b1,bL]at h
   obtain⟨rfl,rfl⟩:=h
   first
    |(refine⟨_,?_,Rd.bool rfl⟩;rw[A4z];simp[eqGuard,binOp,Op.intCmp,C3w];done)
    |(refine⟨_,?_,Rd.int rfl⟩;rw[C4m];simp[eqGuard,binOp,bR,bU,arF];done)
    |(
     have hne:(den ρ b).toInt≠0:=by
      have:=hes _ (aA.2 rfl)
      simpa[A4z,C3w,den]using this
     refine⟨_,?_,Rd.int rfl⟩
     rw[C4m]
     simp[eqGuard,binOp,Op.intDiv,hne,arF];done)
  ·cases h
theorem E8u{op:BinOp}{t:TypeId}{cx cy c:C}{es:List E}(h:bin P op t cx cy=some (es,c)){vx vy:Value}(hx:RC P w F ρ β cx vx)(hy:RC P w F ρ β cy vy)
  (hes:∀e ∈ es,(den ρ e).toBool=true) {x y:Operand} (hi:∀e,cy=.dat .ifc e→isConst y=true):
  ∃v,(do eqGuard op t x y vx vy;binOp op t vx vy:Sem Value).run P w=.ok v w∧RC P w F ρ β c v:=by
 unfold bin at h
 split at h
 ·
  rename_i k a' k' b'
  have e1:=hx.A3l
  have e2:=hy.A3l
  subst e1 e2
  exact G5f (P:=P) (t:=t) (by simpa only[bin]using h) hes
 ·
  rename_i a' b'
  have e1:=hx.A6x
  have e2:=hy.A6x
  subst e1 e2
  split at h
  ·rename_i hu
   simp only[b1,bL]at h;obtain⟨rfl,rfl⟩:=h
   exact⟨_,run_eq (by simp[binOp]) (by simp[eqGuard]) (D5v hu _ _ _),Rd.bool (by rw[C6o];rfl)⟩
  ·rename_i hu
   simp only[b1,bL]at h;obtain⟨rfl,rfl⟩:=h
   exact⟨_,B7r (by simp[binOp]) (by simp[eqGuard]) (D5v hu _ _ _),Rd.bool (by rw[A6g,C6o];rfl)⟩
  ·cases h
 ·
  rename_i a' b'
  have e1:=hx.B3a
  have e2:=hy.B3a
  subst e1 e2
  cases op<;>simp only[reduceCtorEq,b1,bL]at h
  case add=>
   obtain⟨rfl,rfl⟩:=h
   have h2:((den ρ a').toStr.size:Int)≤4611686018427387903:=by
    have:=hes (.cmp .leq (.B5o a') (.int 4611686018427387903)) (by simp)
    exact QA this
   have h3:((den ρ b').toStr.size:Int)≤4611686018427387903:=by
    have:=hes (.cmp .leq (.B5o b') (.int 4611686018427387903)) (by simp)
    exact QA this
   have hn:¬(((den ρ a').toStr.size+(den ρ b').toStr.size:Nat):Int)>IntKind.i64.max:=by
    have hm:IntKind.i64.max=9223372036854775807:=by rfl
    rw[hm];omega
   refine⟨.string ((den ρ a').toStr++(den ρ b').toStr),?_,Rd.str rfl⟩
   simp only[eqGuard,binOp,bS,b2]
   rw[Q0 hn]
   rfl
  all_goals
   obtain⟨rfl,rfl⟩:=h
   refine⟨_,?_,Rd.bool rfl⟩
   simp[eqGuard,binOp,bS,den,H3e]
 ·
  rename_i a'
  have hy':Rd P w F .ifc .nil vy:=hy
  have e2:vy=.nilIface:=by
   cases hy' with
   |D9s _ e=>exact e
   |iface e=>cases e
  subst e2
  have hc:=hi _ rfl
  have hyc:∃u,y=.const u:=by cases y<;>simp[isConst]at hc;exact⟨_,rfl⟩
  obtain⟨u,rfl⟩:=hyc
  split at h
  ·rename_i ms hu
   simp only[b1,bL]at h;obtain⟨rfl,rfl⟩:=h
   cases hx with
   |D9s e1 e2=>subst e2;exact⟨_,run_eq (by simp[binOp]) (by simp[eqGuard]) (F4k hu _),Rd.bool (by rw[A3p,e1];rfl)⟩
   |iface e1 e2 _ _=>subst e2;exact⟨_,run_eq (by simp[binOp]) (by simp[eqGuard]) (E2v hu _),Rd.bool (by rw[A3p,e1];rfl)⟩
  ·rename_i ms hu
   simp only[b1,bL]at h;obtain⟨rfl,rfl⟩:=h
   cases hx with
   |D9s e1 e2=>subst e2;exact⟨_,B7r (by simp[binOp]) (by simp[eqGuard]) (F4k hu _),Rd.bool (by rw[A6g,A3p,e1];rfl)⟩
   |iface e1 e2 _ _=>subst e2;exact⟨_,B7r (by simp[binOp]) (by simp[eqGuard]) (E2v hu _),Rd.bool (by rw[A6g,A3p,e1];rfl)⟩
  ·cases h
 ·
  rename_i e' a'
  have e2:vy=.pointer none:=hy
  subst e2
  split at h
  ·rename_i el hu
   simp only[b1,bL]at h;obtain⟨rfl,rfl⟩:=h
   cases hx with
   |B9u e1 e2=>subst e2;exact⟨_,run_eq (by simp[binOp]) (by simp[eqGuard]) (E8e hu _),Rd.bool (by rw[A3p,e1];rfl)⟩
   |B8g _ e1 _ e2=>subst e2;exact⟨_,run_eq (by simp[binOp]) (by simp[eqGuard]) (B3r hu _ _),Rd.bool (by rw[A3p,e1];rfl)⟩
   |ptr _ e1 e2 _ _ _ _ _=>subst e2;exact⟨_,run_eq (by simp[binOp]) (by simp[eqGuard]) (B3r hu _ _),Rd.bool (by rw[A3p,e1];rfl)⟩
  ·rename_i el hu
   simp only[b1,bL]at h;obtain⟨rfl,rfl⟩:=h
   cases hx with
   |B9u e1 e2=>subst e2;exact⟨_,B7r (by simp[binOp]) (by simp[eqGuard]) (E8e hu _),Rd.bool (by rw[A6g,A3p,e1];rfl)⟩
   |B8g _ e1 _ e2=>subst e2;exact⟨_,B7r (by simp[binOp]) (by simp[eqGuard]) (B3r hu _ _),Rd.bool (by rw[A6g,A3p,e1];rfl)⟩
   |ptr _ e1 e2 _ _ _ _ _=>subst e2;exact⟨_,B7r (by simp[binOp]) (by simp[eqGuard]) (B3r hu _ _),Rd.bool (by rw[A6g,A3p,e1];rfl)⟩
  ·cases h
 ·
  rename_i n off
  have e2:vy=.pointer none:=hy
  obtain⟨b,_,e1⟩:=hx
  subst e1 e2
  split at h
  ·rename_i el hu
   simp only[b1,bL]at h;obtain⟨rfl,rfl⟩:=h
   exact⟨_,run_eq (by simp[binOp]) (by simp[eqGuard]) (B3r hu _ _),Rd.bool rfl⟩
  ·rename_i el hu
   simp only[b1,bL]at h;obtain⟨rfl,rfl⟩:=h
   exact⟨_,B7r (by simp[binOp]) (by simp[eqGuard]) (B3r hu _ _),Rd.bool rfl⟩
  ·cases h
 ·
  have e2:vy=.pointer none:=hy
  obtain⟨n,b,_,_,_,e1⟩:=hx
  subst e1 e2
  split at h
  ·rename_i el hu
   simp only[b1,bL]at h;obtain⟨rfl,rfl⟩:=h
   exact⟨_,run_eq (by simp[binOp]) (by simp[eqGuard]) (B3r hu _ _),Rd.bool rfl⟩
  ·rename_i el hu
   simp only[b1,bL]at h;obtain⟨rfl,rfl⟩:=h
   exact⟨_,B7r (by simp[binOp]) (by simp[eqGuard]) (B3r hu _ _),Rd.bool rfl⟩
  ·cases h
 ·cases h
theorem H6h(hs:Sat X ρ st F β a w){o:Oper}{op:UnOp}{t:TypeId}{x:Operand}(ho:o.op=.unOp op t x){es:List E}{sv:SV}{nb:Option Box}(h:H0q st op x=some (es,sv,nb))(nn:Nat):
  A7y X.P w F ρ β nn sv nb ((execOp a.eval o).run X.P w):=by
 unfold H0q at h
 split at h
 ·rename_i e hx
  simp[ev1]at h;obtain⟨rfl,rfl,rfl⟩:=h
  have e1:=(A0g hs hx).A6x
  exact⟨_,by simp[execOp,ho,e1,bT];rfl,Rd.bool (by rw[A6g])⟩
 ·rename_i k e hx
  simp[ev1]at h;obtain⟨rfl,rfl,rfl⟩:=h
  have e1:=(A0g hs hx).A3l
  refine⟨.int k (arF .sub k 0 (den ρ e).toInt),?_,Rd.int (by rw[C4m];rfl)⟩
  simp[execOp,ho,e1,bT,bR,arF]
 ·rename_i k e hx
  simp[ev1]at h;obtain⟨rfl,rfl,rfl⟩:=h
  have e1:=(A0g hs hx).A3l
  refine⟨.int k (arF .xor k (if k.signed then -1 else k.max) (den ρ e).toInt),?_,Rd.int (by rw[C4m];rfl)⟩
  simp[execOp,ho,e1,bT,bU,arF]
 ·cases h
theorem G4a(hs:Sat X ρ st F β a w){o:Oper}{s d:TypeId}{x:Operand}(ho:o.op=.convert s d x){es:List E}{sv:SV}{nb:Option Box}(h:F3n X.P st s d x=some (es,sv,nb))(nn:Nat):
  A7y X.P w F ρ β nn sv nb ((execOp a.eval o).run X.P w):=by
 unfold F3n at h
 split at h
 ·rename_i k0 k k1 e h1 h2 hx
  simp[ev1]at h;obtain⟨rfl,rfl,rfl⟩:=h
  have e1:=(A0g hs hx).A3l
  exact⟨_,by simp[execOp,ho,e1,convert,A1a h1,A1a h2,Conv.intToInt];rfl,Rd.int (by rw[G3q];rfl)⟩
 ·rename_i e h1 h2 hx
  simp[ev1]at h;obtain⟨rfl,rfl,rfl⟩:=h
  have e1:=(A0g hs hx).B3a
  exact⟨_,by simp[execOp,ho,e1,convert,A1a h1,A1a h2],Rd.str rfl⟩
 ·cases h
theorem E0z{t:TypeId}{u:Ty}(h:D4t P t=some u):∃d,P.underlying t=some d∧(u≠.ifc→∀ms,d≠.interface ms):=by
 unfold D4t at h
 split at h<;>simp at h<;>subst h<;>exact⟨_,by assumption,by simp⟩
theorem G6e(hs:Sat X ρ st F β a w){o:Oper}{t:TypeId}{x:Operand}(ho:o.op=.makeInterface t x){es:List E}{sv:SV}{nb:Option Box}(h:F4j X.P st t x=some (es,sv,nb))(nn:Nat):
  A7y X.P w F ρ β nn sv nb ((execOp a.eval o).run X.P w):=by
 unfold F4j at h
 split at h
 ·rename_i u u' e ht hx
  split at h
  ·rename_i hu
   obtain⟨rfl,hne⟩:=hu
   simp[ev1]at h;obtain⟨rfl,rfl,rfl⟩:=h
   have hr:=A0g hs hx
   obtain⟨d,hd,hnd⟩:=E0z ht
   refine⟨.iface t (a.eval x),?_,Rd.iface rfl rfl ht hne hr⟩
   simp only[execOp,ho,Instr.makeInterface,b2,A1a hd,b0]
   split
   ·exact absurd rfl (hnd hne _)
   ·rfl
  ·cases h
 ·cases h
theorem F5v(hs:Sat X ρ st F β a w){o:Oper}{x:Operand}{i:Nat}(ho:o.op=.extract x i){es:List E}{sv:SV}{nb:Option Box}(h:D5j st x i=some (es,sv,nb))(nn:Nat):
  A7y X.P w F ρ β nn sv nb ((execOp a.eval o).run X.P w):=by
 unfold D5j at h
 split at h
 ·rename_i l hx
  obtain⟨v1,hi,e⟩:=A7t h
  cases e
  obtain⟨vs,e,hl,hr⟩:=A3o hs hx
  have hlt:i<vs.length:=by rw[←hl];exact(a4.1 hi).1
  have hv:vs[i]?=some vs[i]:=a0 hlt
  have h1:=hr i _ _ hi hv
  refine⟨vs[i],by simp[execOp,ho,e,Instr.extract,hv],?_⟩
  cases v1<;>exact h1
 ·cases h
theorem H0h(hs:Sat X ρ st F β a w){o:Oper}{t:TypeId}{x:Operand}(ho:o.op=.call {callee:=.builtin .len,args:=#[x],argTypes:=#[t]}){es:List E}{sv:SV}{nb:Option Box}(h:G2q X.P st t x=some (es,sv,nb))(nn:Nat):
  A7y X.P w F ρ β nn sv nb ((execOp a.eval o).run X.P w):=by
 unfold G2q at h
 split at h
 ·rename_i e' e'' la hu hx
  simp[ev1]at h;obtain⟨rfl,rfl,rfl⟩:=h
  have hr:=A0g hs hx
  have:∃A cap,a.eval x=.slice A (den ρ la).toL.length cap:=by
   cases hr with
   |snil e1 e2=>exact⟨_,_,by rw[e2,e1];rfl⟩
   |slice e1 _ e3 _ _ _ _=>exact⟨_,_,by rw[e1,e3]⟩
  obtain⟨A,cap,e⟩:=this
  exact⟨_,by simp[execOp,ho,resolve,invoke,builtin,cK,A1a hu,e];rfl,Rd.int rfl⟩
 ·rename_i e' hu hx
  simp[ev1]at h;obtain⟨rfl,rfl,rfl⟩:=h
  have e:a.eval x=.slice none 0 0:=A0g hs hx
  exact⟨_,by simp[execOp,ho,resolve,invoke,builtin,cK,A1a hu,e];rfl,Rd.int rfl⟩
 ·rename_i e' m hu hx
  split at h
  ·rename_i e'' y hb
   simp[ev1]at h;obtain⟨rfl,rfl,rfl⟩:=h
   have hv:a.eval x=β m:=A0g hs hx
   obtain⟨ts,xs,_,⟨_,hr⟩,_⟩:=A6n hs hb
   rcases hr with⟨⟨A,hr⟩,hn⟩|⟨g,o1,cap,cur,hr,_⟩
   ·exact⟨.int .i64 (den ρ y).toL.length,by rw[hn];simp[execOp,ho,resolve,invoke,builtin,cK,A1a hu,hv,hr];rfl,Rd.int rfl⟩
   ·exact⟨.int .i64 (den ρ y).toL.length,by simp[execOp,ho,resolve,invoke,builtin,cK,A1a hu,hv,hr];rfl,Rd.int rfl⟩
  ·cases h
 ·rename_i e' n len hu hx
  simp[ev1]at h;obtain⟨rfl,rfl,rfl⟩:=h
  obtain⟨b,h1,h2⟩:=A0g hs hx
  exact⟨.int .i64 len,by simp[execOp,ho,resolve,invoke,builtin,cK,A1a hu,h2];rfl,Rd.int rfl⟩
 ·rename_i la hu hx
  simp[ev1]at h;obtain⟨rfl,rfl,rfl⟩:=h
  have e:=(A0g hs hx).B3a
  exact⟨_,by simp[execOp,ho,resolve,invoke,builtin,cK,A1a hu,e];rfl,Rd.int rfl⟩
 ·rename_i k' e' t' la hu hx
  simp[ev1]at h;obtain⟨rfl,rfl,rfl⟩:=h
  obtain⟨b,_,_,_,_,_,_,es',v1,_,_,_,_,_,v7,v8,_⟩:=F9s (β:=β) (A0g hs hx)
  exact⟨.int .i64 (den ρ la).toL.length,by simp[execOp,ho,resolve,invoke,builtin,cK,A1a hu,v1,cB v7,v8];rfl,Rd.int rfl⟩
 ·rename_i k' e' m hu hx
  split at h
  ·rename_i t' y hb
   simp[ev1]at h;obtain⟨rfl,rfl,rfl⟩:=h
   have hv:a.eval x=β m:=A0g hs hx
   obtain⟨b,_,_,_,_,_,_,es',v1,_,_,_,_,_,v7,v8,_⟩:=hs.bx m _ hb
   exact⟨.int .i64 (den ρ y).toL.length,by simp[execOp,ho,resolve,invoke,builtin,cK,A1a hu,hv,v1,cB v7,v8];rfl,Rd.int rfl⟩
  ·cases h
 ·cases h
end
end Go.Proofs.YtckanieeocdpbaaGreat.Eng
namespace Go.Proofs.YtckanieeocdpbaaGreat.Eng
set_option linter.unusedVariables false
set_option linter.unusedSimpArgs false
section
variable{P:Program}{w:World}{F:Fr}{ρ:List D}{β:Nat→Value}
variable{X:Cx}{st:St}{a:Act}
theorem D8x:∀{fs:List Field} {ps:List (Nat × Nat)},C9h P fs=some ps→fs.mapM (fun f=>(P.info? f.type).map fun i=>(f.offset,i.size))=some ps
 |[],ps,h=>by simp[C9h]at h;subst h;rfl
 |f::fs,ps,h=>by
  simp only[C9h]at h
  split at h
  ·rename_i n l h1 h2
   simp at h;subst h
   have h1':(P.info? f.type).map (·.size)=some n:=h1
   have h3:=D8x h2
   cases hi:P.info? f.type with
   |none=>simp[hi]at h1'
   |some i=>
    simp[hi]at h1'
    simp[List.mapM_cons,hi,h3,h1']
  ·cases h
theorem E8i:∀{xs:List C} {ys:List Value} (cs:List C) (vs:List Value) (off k:Nat),RCL P w F ρ β xs ys→RCL P w F ρ β cs vs→
  RCL P w F ρ β (putCells cs (off+k) xs) ((ys.zipIdx k).foldl (fun acc p=>acc.setIfInBounds (off+p.2) p.1) vs.toArray).toList
 |[],ys,cs,vs,off,k,hx,h=>by
  have:ys=[]:=a8 hx.1.symm
  subst this
  simpa[putCells]using h
 |x::xs,[],cs,vs,off,k,hx,h=>by have:=hx.1;simp at this
 |x::xs,y::ys,cs,vs,off,k,hx,h=>by
  simp only[putCells,List.zipIdx_cons,List.foldl_cons,List.setIfInBounds_toArray]
  exact E8i (cs.set (off+k) x) (vs.set (off+k) y) off (k+1) ⟨by have:=hx.1;simpa using this,fun i c v h1 h2=>hx.2 (i+1) c v h1 h2⟩ (h.set _ (hx.2 0 x y rfl rfl))
theorem B8f(hb:∀n,(β n).oneCell'=true)(hs:Sat X ρ st F β a w)(place:Nat→Option (Nat × Nat)):∀{parts:List (Nat × Operand)} {svs:List (Nat × SV)} {cs cs':List C} {vs:List Value},E0o st parts=some svs→B8m place cs svs=some cs'→
  RCL X.P w F ρ β cs vs→∃vs':List Value,bK place vs.toArray (parts.map fun(p:Nat × Operand)=>(p.1,a.eval p.2))=some vs'.toArray∧RCL X.P w F ρ β cs' vs'
 |[],svs,cs,cs',vs,ho,h,hr=>by
  simp[E0o]at ho;subst ho
  simp[B8m]at h;subst h
  exact⟨vs,rfl,hr⟩
 |(i,x)::rest,svs,cs,cs',vs,ho,h,hr=>by
  simp only[E0o]at ho
  split at ho
  ·rename_i v svs' hv hrest
   simp at ho;subst ho
   simp only[B8m]at h
   split at h
   ·rename_i off n xs hp hxs
    split at h
    ·rename_i hle
     obtain⟨hlen,hle⟩:=hle
     obtain⟨ys,hy1,hy2⟩:=(A3o hs hv).cells hxs hb
     have hput:=E8i cs vs off 0 hy2 hr
     rw[c7]at hput
     obtain⟨vs',h1,h2⟩:=B8f hb hs place hrest h hput
     refine⟨vs',?_,h2⟩
     simp only[List.map_cons,bK,hp,hy1]
     have hsz:ys.length=n:=by rw[←hy2.1];exact hlen
     have hc:¬(ys.toArray.size≠n∨off+ys.toArray.size>vs.toArray.size):=by
      simp only[List.size_toArray,hsz,←hr.1];omega
     rw[Q0 (by simpa using hc)]
     simp only[Array.zipIdx_toArray]at*
     simpa using h1
    ·cases h
   ·cases h
  ·cases ho
theorem G3c(hb:∀n,(β n).oneCell'=true)(hs:Sat X ρ st F β a w){o:Oper}{t:TypeId}{parts:Array (Nat × Operand)}(ho:o.op=.build t parts){es:List E}{sv:SV}{nb:Option Box}(h:E6t X.P st t parts=some (es,sv,nb))(nn:Nat):
  A7y X.P w F ρ β nn sv nb ((execOp a.eval o).run X.P w):=by
 unfold E6t at h
 split at h
 ·rename_i zs vs fs hz hv hu
  split at h
  ·rename_i ps hps
   obtain⟨cs,hf,e⟩:=A7t h
   cases e
   obtain⟨z,hz1,hz2⟩:=A6o (w:=w) (F:=F) (ρ:=ρ) (β:=β) hz
   obtain⟨vs',h1,h2⟩:=B8f hb hs (ps[·]?) hv hf hz2
   cases hi:X.P.info? t with
   |none=>simp[hi]at hz1
   |some it=>
    simp[hi]at hz1
    refine⟨.agg vs'.toArray,?_,vs',rfl,h2⟩
    have hbuilt:X.P.built t (parts.map fun(i,x)=>(i,a.eval x)).toList=some vs'.toArray:=by
     unfold Program.built
     simp only[hi,hu,hz1,D8x hps]
     rw[cG]
     simpa using h1
    simp only[execOp,ho,b2,run_build w t _ _ hbuilt,b0,b3]
  ·cases h
 ·rename_i zs vs me e hz hv hu
  split at h
  ·rename_i n hn
   obtain⟨cs,hf,e⟩:=A7t h
   cases e
   obtain⟨z,hz1,hz2⟩:=A6o (w:=w) (F:=F) (ρ:=ρ) (β:=β) hz
   obtain⟨vs',h1,h2⟩:=B8f hb hs (fun i=>some (i*n,n)) hv hf hz2
   cases hi:X.P.info? t with
   |none=>simp[hi]at hz1
   |some it=>
    simp[hi]at hz1
    unfold A3k at hn
    cases hie:X.P.info? e with
    |none=>simp[hie]at hn
    |some ie=>
     simp[hie]at hn
     refine⟨.agg vs'.toArray,?_,vs',rfl,h2⟩
     have hbuilt:X.P.built t (parts.map fun(i,x)=>(i,a.eval x)).toList=some vs'.toArray:=by
      unfold Program.built
      simp only[hi,hu,hz1,hie,hn]
      rw[cG]
      simpa using h1
     simp only[execOp,ho,b2,run_build w t _ _ hbuilt,b0,b3]
  ·cases h
 ·cases h
theorem G7q{c d:C}{e:E}(h:eqC c d=some e){u v:Value}(hu:RC P w F ρ β c u)(hv:RC P w F ρ β d v){t:TypeId}(n:Nat)
  (ht:scT c (P.underlying t)=true):(bM (n+1) t u v).run P w=.ok (den ρ e).toBool w∧A1j P t=some false:=by
 cases c<;>cases d<;>try(simp[eqC]at h;done)
 rename_i t1 x t2 y
 cases t1<;>cases t2<;>try(simp[eqC]at h;done)
 ·rename_i k k'
  simp only[eqC]at h
  split at h
  ·rename_i hk
   subst hk
   simp at h;subst h
   have e1:=hu.A3l;have e2:=hv.A3l
   subst e1 e2
   cases hun:P.underlying t with
   |none=>simp[scT,hun]at ht
   |some td=>
    cases td<;>try(simp[scT,hun]at ht;done)
    exact⟨by rw[H1c hun,A4z];rfl,by simp[A1j,hun]⟩
  ·cases h
 ·simp only[eqC,b1]at h
  subst h
  have e1:=hu.A6x;have e2:=hv.A6x
  subst e1 e2
  cases hun:P.underlying t with
  |none=>simp[scT,hun]at ht
  |some td=>
   cases td<;>try(simp[scT,hun]at ht;done)
   exact⟨by rw[D5v hun,C6o];rfl,by simp[A1j,hun]⟩
 ·simp only[eqC,b1]at h
  subst h
  have e1:=hu.B3a;have e2:=hv.B3a
  subst e1 e2
  cases hun:P.underlying t with
  |none=>simp[scT,hun]at ht
  |some td=>
   cases td<;>try(simp[scT,hun]at ht;done)
   exact⟨by rw[H0g hun,beq_toListBytes];rfl,by simp[A1j,hun]⟩
def VOf(P:Program)(t:TypeId)(us:List Value)(v:Value):Prop:=(A1j P t=some true∧v=.agg us.toArray)∨(A1j P t=some false∧us=[v])
theorem C3q{n:Nat}{t:TypeId}{cs ds:List C}{e:E}(h:eqT P n t cs ds=some e):A1j P t=some true∨(A1j P t=some false∧cs.length=1∧ds.length=1):=by
 cases n with
 |zero=>simp[eqT]at h
 |succ n=>
  simp only[eqT]at h
  split at h
  ·rename_i fs hu;exact .inl (by simp[A1j,hu])
  ·rename_i k e' hu;exact .inl (by simp[A1j,hu])
  ·rename_i h1 h2
   split at h
   ·split at h
    ·rename_i c d hs
     refine .inr ⟨?_,rfl,rfl⟩
     cases hu:P.underlying t with
     |none=>rw[hu]at hs;simp[scT]at hs
     |some td=>
      cases td<;>first
       |(simp[A1j,hu];done)
       |(rename_i fs;exact absurd hu (h1 fs))
       |(rename_i k e';exact absurd hu (h2 k e'))
    ·cases h
   ·cases h
theorem C3h{t:TypeId}{m:Nat}{pre us:List Value}(hm:A3k P t=some m)(hle:m≤us.length)(ha:A1j P t=some true∨(A1j P t=some false∧(us.take m).length=1)):
  ∃v,(part t (pre++us).toArray pre.length).run P w=.ok v w∧VOf P t (us.take m) v:=by
 rcases ha with ha|⟨ha,h1⟩
 ·refine⟨.agg (us.take m).toArray,?_,.inl ⟨ha,rfl⟩⟩
  simp[part,B1u ha,A2y hm,aM]
 ·have hm1:m=1:=by simp at h1;omega
  subst hm1
  cases us with
  |nil=>simp at hle
  |cons u us=>exact⟨u,by simp[part,B1u ha],.inr ⟨ha,by simp⟩⟩
theorem E4s{g:TypeId→List C→List C→Option E}{k:Nat}(hg:∀{t:TypeId} {cs ds:List C} {e:E} {us vs:List Value} {u v:Value},g t cs ds=some e→RCL P w F ρ β cs us→RCL P w F ρ β ds vs→VOf P t us u→VOf P t vs v→(bM k t u v).run P w=.ok (den ρ e).toBool w)
  (ha:∀{t:TypeId} {cs ds:List C} {e:E},g t cs ds=some e→A1j P t=some true∨(A1j P t=some false∧cs.length=1∧ds.length=1)):
  ∀(fs:List Field) {cs ds:List C} {us vs:List Value} {e:E} (pre1 pre2:List Value) (n:Nat),D1l P g fs n cs ds=some e→RCL P w F ρ β cs us→RCL P w F ρ β ds vs→pre1.length=n→pre2.length=n→
  (bP k (pre1++us).toArray (pre2++vs).toArray fs).run P w=.ok (den ρ e).toBool w
 |[],cs,ds,us,vs,e,pre1,pre2,n,he,hu,hv,h1,h2=>by
  cases cs with
  |nil=>cases ds with
   |nil=>simp[D1l]at he;subst he;simp[bP,den]
   |cons d ds=>simp[D1l]at he
  |cons c cs=>simp[D1l]at he
 |f::fs,cs,ds,us,vs,e,pre1,pre2,n,he,hu,hv,h1,h2=>by
  simp only[D1l]at he
  split at he
  ·rename_i m hm
   split at he
   ·rename_i hc
    simp only[cJ,Q9]at hc
    obtain⟨⟨⟨hn,ho⟩,hl1⟩,hl2⟩:=hc
    split at he
    ·rename_i e1 e2 he1 he2
     simp at he;subst he
     have hoff:f.offset=n:=by simpa using ho
     have lu:m≤us.length:=by rw[←hu.1];exact hl1
     have lv:m≤vs.length:=by rw[←hv.1];exact hl2
     have hag:=ha he1
     obtain⟨u,p1,q1⟩:=C3h (P:=P) (w:=w) (pre:=pre1) hm lu (by
      rcases hag with hag|⟨hag,l1,l2⟩
      ·exact .inl hag
      ·exact .inr ⟨hag,by rw[aC]at l1⊢;omega⟩)
     obtain⟨v,p2,q2⟩:=C3h (P:=P) (w:=w) (pre:=pre2) hm lv (by
      rcases hag with hag|⟨hag,l1,l2⟩
      ·exact .inl hag
      ·exact .inr ⟨hag,by rw[aC]at l2⊢;omega⟩)
     have q:=hg he1 (hu.take m) (hv.take m) q1 q2
     have hne:(f.name≠"_"):=by simpa using hn
     have ih:=E4s hg ha fs (pre1++us.take m) (pre2++vs.take m) (n+m) he2 (hu.drop m) (hv.drop m) (by simp[h1];omega) (by simp[h2];omega)
     simp only[aK,aH]at ih
     rw[D6j]
     simp only[bP]
     rw[Q3 hne]
     rw[hoff]
     rw[h1]at p1
     rw[h2]at p2
     simp only[b2,p1,p2,q,b0]
     cases hb:(den ρ e1).toBool
     ·simp
     ·simp[ih]
    ·cases he
   ·cases he
  ·cases he
theorem E4o{g:List C→List C→Option E}{k:Nat}{t:TypeId}{m:Nat}(hm:A3k P t=some m)(hg:∀{cs ds:List C} {e:E} {us vs:List Value} {u v:Value},g cs ds=some e→RCL P w F ρ β cs us→RCL P w F ρ β ds vs→VOf P t us u→VOf P t vs v→(bM k t u v).run P w=.ok (den ρ e).toBool w)
  (ha:∀{cs ds:List C} {e:E},g cs ds=some e→A1j P t=some true∨(A1j P t=some false∧cs.length=1∧ds.length=1)):
  ∀(c:Nat) {cs ds:List C} {us vs:List Value} {e:E} (pre1 pre2:List Value) (i:Nat),D0c g m c cs ds=some e→RCL P w F ρ β cs us→RCL P w F ρ β ds vs→pre1.length=i*m→pre2.length=i*m→
  (bQ k t m (pre1++us).toArray (pre2++vs).toArray (aV i c)).run P w=.ok (den ρ e).toBool w
 |0,cs,ds,us,vs,e,pre1,pre2,i,he,hu,hv,h1,h2=>by
  cases cs with
  |nil=>cases ds with
   |nil=>simp[D0c]at he;subst he;simp[bQ,den]
   |cons d ds=>simp[D0c]at he
  |cons c cs=>simp[D0c]at he
 |c+1,cs,ds,us,vs,e,pre1,pre2,i,he,hu,hv,h1,h2=>by
  simp only[D0c]at he
  split at he
  ·rename_i hl
   obtain⟨hl1,hl2⟩:=hl
   split at he
   ·rename_i e1 e2 he1 he2
    simp at he;subst he
    have lu:m≤us.length:=by rw[←hu.1];exact hl1
    have lv:m≤vs.length:=by rw[←hv.1];exact hl2
    have hag:=ha he1
    obtain⟨u,p1,q1⟩:=C3h (P:=P) (w:=w) (pre:=pre1) hm lu (by
     rcases hag with hag|⟨hag,l1,l2⟩
     ·exact .inl hag
     ·exact .inr ⟨hag,by rw[aC]at l1⊢;omega⟩)
    obtain⟨v,p2,q2⟩:=C3h (P:=P) (w:=w) (pre:=pre2) hm lv (by
     rcases hag with hag|⟨hag,l1,l2⟩
     ·exact .inl hag
     ·exact .inr ⟨hag,by rw[aC]at l2⊢;omega⟩)
    have q:=hg he1 (hu.take m) (hv.take m) q1 q2
    have ih:=E4o hm hg ha c (pre1++us.take m) (pre2++vs.take m) (i+1) he2 (hu.drop m) (hv.drop m) (by simp[h1,c6];omega) (by simp[h2,c6];omega)
    simp only[aK,aH]at ih
    rw[D6j]
    rw[aU]
    simp only[bQ]
    rw[h1]at p1
    rw[h2]at p2
    simp only[b2,p1,p2,q,b0]
    cases hb:(den ρ e1).toBool
    ·simp
    ·simp[ih]
   ·cases he
  ·cases he
theorem C0z:∀(n k:Nat) {t:TypeId} {cs ds:List C} {e:E} {us vs:List Value} {u v:Value},eqT P n t cs ds=some e→RCL P w F ρ β cs us→RCL P w F ρ β ds vs→VOf P t us u→VOf P t vs v→(bM (n+k) t u v).run P w=.ok (den ρ e).toBool w
 |0,k,t,cs,ds,e,us,vs,u,v,h,hu,hv,q1,q2=>by simp[eqT]at h
 |n+1,k,t,cs,ds,e,us,vs,u,v,h,hu,hv,q1,q2=>by
  have hag:=C3q h
  rw[show n+1+k=(n+k)+1 by omega]
  simp only[eqT]at h
  split at h
  ·rename_i fs hun
   split at h
   ·cases h
   rename_i hst
   have ha:A1j P t=some true:=by simp[A1j,hun]
   obtain⟨_,rfl⟩:A1j P t=some true∧u=.agg us.toArray:=by rcases q1 with q|q;exact q;rw[ha]at q;cases q.1
   obtain⟨_,rfl⟩:A1j P t=some true∧v=.agg vs.toArray:=by rcases q2 with q|q;exact q;rw[ha]at q;cases q.1
   have hfo:P.fieldsOf t=fs:=by simp[Program.fieldsOf,hun]
   have hfs:P.underlying t=some (.struct (P.fieldsOf t)):=by rw[hfo];exact hun
   rw[run_equalIn_struct w (n+k) t _ _ hfs (by simpa using hst),hfo]
   exact E4s (fun a b c d e=>C0z n k a b c d e) (fun a=>C3q a) fs.toList [] [] 0 h hu hv rfl rfl
  ·rename_i c e' hun
   split at h
   ·rename_i m hm
    have ha:A1j P t=some true:=by simp[A1j,hun]
    obtain⟨_,rfl⟩:A1j P t=some true∧u=.agg us.toArray:=by rcases q1 with q|q;exact q;rw[ha]at q;cases q.1
    obtain⟨_,rfl⟩:A1j P t=some true∧v=.agg vs.toArray:=by rcases q2 with q|q;exact q;rw[ha]at q;cases q.1
    obtain⟨i,hi,hsz⟩:∃i,P.info? e'=some i∧i.size=m:=by simpa[A3k]using hm
    rw[run_equalIn_array w (n+k) _ _ hun hi,List.range_eq_range']
    have hce:P.cellsOf e'=m:=by simp[Program.cellsOf,hi,hsz]
    rw[hce]
    exact E4o hm (fun a b c d e=>C0z n k a b c d e) (fun a=>C3q a) c [] [] 0 h hu hv (by simp) (by simp)
   ·cases h
  ·rename_i h1 h2
   split at h
   ·rename_i c d
    split at h
    ·rename_i hs
     obtain⟨e1,e2⟩:=G7q h (u:=us.headD undef) (v:=vs.headD undef) (hu.2 0 c _ rfl (by have:=hu.1;cases us with|nil=>simp at this|cons x us=>rfl)) (hv.2 0 d _ rfl (by have:=hv.1;cases vs with|nil=>simp at this|cons x us=>rfl)) (t:=t) (n+k) hs
     obtain⟨_,rfl⟩:A1j P t=some false∧us=[u]:=by rcases q1 with q|q;(rw[e2]at q;cases q.1);exact q
     obtain⟨_,rfl⟩:A1j P t=some false∧vs=[v]:=by rcases q2 with q|q;(rw[e2]at q;cases q.1);exact q
     exact e1
    ·cases h
   ·cases h
theorem H0a(hs:Sat X ρ st F β a w){o:Oper}{op:BinOp}{t yt:TypeId}{x y:Operand}(ho:o.op=.binOp op t x y yt){es:List E}{sv:SV}{nb:Option Box}(h:G2s X.P st op t x y=some (es,sv,nb))
  (hes:∀e ∈ es,(den ρ e).toBool=true) (nn:Nat):A7y X.P w F ρ β nn sv nb ((execOp a.eval o).run X.P w):=by
 unfold G2s at h
 split at h
 ·rename_i ca cb hx hy
  have h1:RC X.P w F ρ β ca (a.eval x):=A3o hs hx
  have h2:RC X.P w F ρ β cb (a.eval y):=A3o hs hy
  split at h
  ·rename_i u v
   split at h
   ·rename_i hc
    obtain⟨⟨es',c⟩,hb,e⟩:=A7t h
    cases e
    obtain⟨r,hr1,hr2⟩:=E8u hb h1 h2 hes (x:=x) (y:=y) (fun _ _=>hc)
    refine⟨r,?_,hr2⟩
    simp only[execOp,ho]
    rw[b2,hr1]
    rfl
   ·cases h
  ·rename_i hne
   obtain⟨⟨es',c⟩,hb,e⟩:=A7t h
   cases e
   obtain⟨r,hr1,hr2⟩:=E8u hb h1 h2 hes (x:=x) (y:=y) (fun e he=>by
    exfalso
    subst he
    unfold bin at hb
    split at hb<;>first|(rename_i heq;cases heq;done)|skip
    all_goals first|(rename_i h1 _ heq;cases heq;done)|skip
    ·rename_i heq;cases heq;exact hne _ _ rfl rfl
    ·cases hb)
   refine⟨r,?_,hr2⟩
   simp only[execOp,ho]
   rw[b2,hr1]
   rfl
 ·rename_i cs ds hx hy
  split at h
  ·rename_i hc
   obtain⟨hag,hg⟩:=hc
   obtain⟨us,e1,hus⟩:=A3o hs hx
   obtain⟨vs,e2,hvs⟩:=A3o hs hy
   split at h
   ·rename_i e he
    simp at h;obtain⟨rfl,rfl,rfl⟩:=h
    have:=C0z 8 9992 he hus hvs (.inl ⟨hag,rfl⟩) (.inl ⟨hag,rfl⟩)
    refine⟨.bool (den ρ e).toBool,?_,Rd.bool rfl⟩
    simp only[execOp,ho,e1,e2,b2,run_eqGuard_agg w _ _ _ _ _ _ hg,b0,run_eql_struct]
    rw[this]
    rfl
   ·rename_i e he
    simp at h;obtain⟨rfl,rfl,rfl⟩:=h
    have:=C0z 8 9992 he hus hvs (.inl ⟨hag,rfl⟩) (.inl ⟨hag,rfl⟩)
    refine⟨.bool (!(den ρ e).toBool),?_,Rd.bool (by rw[A6g])⟩
    simp only[execOp,ho,e1,e2,b2,run_eqGuard_agg w _ _ _ _ _ _ hg,b0,run_neq_struct]
    rw[this]
    rfl
   ·cases h
  ·cases h
 ·cases h
theorem G9b(hs:Sat X ρ st F β a w){o:Oper}{x:Operand}(ho:o.op=.nilCheck x){es:List E}{sv:SV}{nb:Option Box}(h:C9s st x=some (es,sv,nb))(hes:∀e ∈ es,(den ρ e).toBool=true)(nn:Nat):
  A7y X.P w F ρ β nn sv nb ((execOp a.eval o).run X.P w):=by
 unfold C9s at h
 split at h
 ·rename_i n off hx
  simp[ev1]at h;obtain⟨rfl,rfl,rfl⟩:=h
  have hr:=A0g hs hx
  obtain⟨b,h1,h2⟩:=hr
  exact⟨_,by simp[execOp,ho,h2],b,h1,rfl⟩
 ·rename_i t a' c hx
  simp[ev1]at h;obtain⟨rfl,rfl,rfl⟩:=h
  have hr:=A0g hs hx
  obtain⟨n,b,h1,h2,h3,h4⟩:=hr
  exact⟨_,by simp[execOp,ho,h4],n,b,h1,h2,h3,rfl⟩
 ·rename_i n t i c hx
  simp[ev1]at h;obtain⟨rfl,rfl,rfl⟩:=h
  have hr:=A0g hs hx
  obtain⟨b,o',len,cap,ts,h1,h2,h3,h4,h5⟩:=hr
  exact⟨_,by simp[execOp,ho,h5],b,o',len,cap,ts,h1,h2,h3,h4,rfl⟩
 ·rename_i t a' i c hx
  simp[ev1]at h;obtain⟨rfl,rfl,rfl⟩:=h
  have hr:=A0g hs hx
  obtain⟨b,o',len,cap,ts,h1,h2,h3,h4,h5⟩:=hr
  exact⟨_,by simp[execOp,ho,h5],b,o',len,cap,ts,h1,h2,h3,h4,rfl⟩
 ·rename_i e la hx
  have hr:=A0g hs hx
  have hr':Rd X.P w F (.ptr e) (den ρ la) (a.eval x):=hr
  split at h
  ·rename_i hcl
   simp at h;obtain⟨rfl,rfl,rfl⟩:=h
   have hn:=hes _ (aA.2 rfl)
   rw[A6g,A3p]at hn
   cases hr' with
   |B9u e1 e2=>rw[e1]at hn;simp at hn
   |B8g e0 e1 e2 e3=>
    rename_i n b
    exact⟨_,by simp[execOp,ho,e3],n,b,e0,e1,e2,rfl⟩
   |ptr e0 e1 e2 e3 e4 e5 e6 e7=>
    rw[hs.cf.2,hcl]at e0;cases e0
  ·rename_i hcl
   simp at h;obtain⟨rfl,rfl,rfl⟩:=h
   have hn:=hes _ (aA.2 rfl)
   rw[A6g,A3p]at hn
   cases hr' with
   |B9u e1 e2=>rw[e1]at hn;simp at hn
   |B8g e0 e1 e2 e3=>rw[hs.cf.2]at e0;exact absurd e0 hcl
   |ptr e0 e1 e2 e3 e4 e5 e6 e7=>
    rename_i b o' l ts g
    exact⟨_,by simp[execOp,ho,e2];rfl,b,o',by rw[←e2];exact hr,by simp[e2]⟩
 ·cases h
theorem E6w(hs:Sat X ρ st F β a w){o:Oper}{t:TypeId}{x i:Operand}(ho:o.op=.indexAddr t x i){es:List E}{sv:SV}{nb:Option Box}(h:C7d X.P st t x i=some (es,sv,nb))(hes:∀e ∈ es,(den ρ e).toBool=true)(nn:Nat):
  A7y X.P w F ρ β nn sv nb ((execOp a.eval o).run X.P w):=by
 unfold C7d at h
 split at h
 ·rename_i e e' la k j hu hx hi
  split at h
  ·rename_i hee
   subst hee
   split at h
   ·rename_i ts n hts hn
    split at h
    ·rename_i hlen
     simp at h;obtain⟨rfl,rfl,rfl⟩:=h
     have hr:Rd X.P w F (.slice e) (den ρ la) (a.eval x):=A0g hs hx
     have hj:=(A0g hs hi).A3l
     have h0:=hes _ (aB ..)
     have h1:=hes (.cmp .lss j (.len la)) (by simp)
     rw[A4z]at h0
     have h0':(den ρ j).toInt≥0:=QA h0
     have h1':(den ρ j).toInt<((den ρ la).toL.length:Int):=QA h1
     have hlt:(den ρ j).toInt.toNat<(den ρ la).toL.length:=by omega
     have hr2:=hr
     cases hr with
     |snil e1 e2=>rw[e1]at hlt;simp at hlt
     |slice e1 e2 e3 e0 e4 e5 e6=>
      rename_i b o' len cap ts' g
      rw[hts]at e2;cases e2
      refine⟨.pointer (some ⟨b,o'+(den ρ j).toInt.toNat*ts.length+0,none⟩),?_,b,o',len,cap,ts,by rw[←e1];exact hr2,hts,h0',hlt,rfl⟩
      have hb:0≤(den ρ j).toInt∧(den ρ j).toInt<(len:Int):=⟨h0',by rw[e3];exact h1'⟩
      simp only[execOp,ho,b6,hj,e1,asIntOf,b2,b3,b0,A1a hu,hb,and_self,Q5,A2y hn,A4y]
      rw[hlen]
      simp
    ·cases h
   ·cases h
  ·cases h
 ·rename_i e m k j hu hx hi
  split at h
  ·rename_i e' y hb
   split at h
   ·rename_i hee
    subst hee
    split at h
    ·rename_i ts n hts hn
     split at h
     ·rename_i hlen
      simp at h;obtain⟨rfl,rfl,rfl⟩:=h
      have hv:a.eval x=β m:=A0g hs hx
      have hj:=(A0g hs hi).A3l
      have h0:=hes _ (aB ..)
      have h1:=hes (.cmp .lss j (.len y)) (by simp)
      rw[A4z]at h0
      have h0':(den ρ j).toInt≥0:=QA h0
      have h1':(den ρ j).toInt<((den ρ y).toL.length:Int):=QA h1
      obtain⟨ts',xs,hts',⟨_,hr⟩,_⟩:=A6n hs hb
      rcases hr with⟨⟨A,hr⟩,hn'⟩|⟨g,o1,cap,cur,hr,_,_,hcap0,_⟩
      ·rw[hn']at h1';simp at h1';omega
      ·refine⟨.pointer (some ⟨g,o1+(den ρ j).toInt.toNat*ts.length+0,none⟩),?_,g,o1,_,cap,ts,hr,hts,h0',by omega,rfl⟩
       have hb:0≤(den ρ j).toInt∧(den ρ j).toInt<((den ρ y).toL.length:Int):=⟨h0',h1'⟩
       simp only[execOp,ho,b6,hj,hv,hr,asIntOf,b2,b3,b0,A1a hu,hb,and_self,Q5,A2y hn,A4y]
       rw[hlen]
       simp
     ·cases h
    ·cases h
   ·cases h
  ·cases h
 ·rename_i e n len k j hu hx hi
  split at h
  ·rename_i s hs'
   split at h
   ·rename_i hj
    simp[ev1]at h;obtain⟨rfl,rfl,rfl⟩:=h
    have hji:=(A0g hs hi).A3l
    obtain⟨b,h1,h2⟩:=A0g hs hx
    refine⟨.pointer (some ⟨b,0+j.toNat*s,none⟩),?_,b,h1,by rw[bZ]⟩
    simp[execOp,ho,b6,hji,h2,asIntOf,A1a hu,b5,den,hj,A2y hs',A4y]
   ·cases h
  ·cases h
 ·rename_i m e t' a' off k j hu hx hi
  split at h
  ·rename_i s hs'
   split at h
   ·rename_i hj
    simp[ev1]at h;obtain⟨rfl,rfl,rfl⟩:=h
    have hji:=(A0g hs hi).A3l
    obtain⟨n,b,h1,h2,h3,h4⟩:=A0g hs hx
    refine⟨.pointer (some ⟨b,off+j.toNat*s,none⟩),?_,n,b,h1,h2,h3,rfl⟩
    simp[execOp,ho,b6,hji,h4,asIntOf,A1a hu,b5,den,hj,A2y hs',A4y]
   ·cases h
  ·cases h
 ·rename_i m e n off k j hu hx hi
  split at h
  ·rename_i s hs'
   split at h
   ·rename_i hj
    simp[ev1]at h;obtain⟨rfl,rfl,rfl⟩:=h
    have hji:=(A0g hs hi).A3l
    obtain⟨b,h1,h2⟩:=A0g hs hx
    refine⟨.pointer (some ⟨b,off+j.toNat*s,none⟩),?_,b,h1,rfl⟩
    simp[execOp,ho,b6,hji,h2,asIntOf,A1a hu,b5,den,hj,A2y hs',A4y]
   ·cases h
  ·cases h
 ·rename_i m e n t' kk off k j hu hx hi
  split at h
  ·rename_i s hs'
   split at h
   ·rename_i hj
    simp[ev1]at h;obtain⟨rfl,rfl,rfl⟩:=h
    have hji:=(A0g hs hi).A3l
    obtain⟨b,o',len,cap,ts,h1,h2,h3,h4,h5⟩:=A0g hs hx
    refine⟨.pointer (some ⟨b,o'+(den ρ kk).toInt.toNat*ts.length+off+j.toNat*s,none⟩),?_,b,o',len,cap,ts,h1,h2,h3,h4,by rw[←c4]⟩
    simp[execOp,ho,b6,hji,h5,asIntOf,A1a hu,b5,den,hj,A2y hs',A4y]
   ·cases h
  ·cases h
 ·rename_i m e t' la kk off k j hu hx hi
  split at h
  ·rename_i hc
   obtain⟨rfl,rfl,rfl⟩:=hc
   split at h
   ·rename_i ts n hts hn
    split at h
    ·rename_i hlen
     simp only[b1,bL]at h;obtain⟨rfl,rfl,rfl⟩:=h
     have hj:=(A0g hs hi).A3l
     have h0:=hes _ (aB ..)
     have h1:=hes (.cmp .lss j (.len la)) (by simp)
     have h2:=hes (.cmp .lss j (.int m)) (by simp)
     rw[A4z]at h0
     have h0':(den ρ j).toInt≥0:=QA h0
     have h1':(den ρ j).toInt<((den ρ la).toL.length:Int):=QA h1
     have h2':(den ρ j).toInt<(m:Int):=QA h2
     obtain⟨b,o',len,cap,ts',g1,g2,g3,g4,g5⟩:=A0g hs hx
     rw[hts]at g2;cases g2
     refine⟨.pointer (some ⟨b,o'+(den ρ j).toInt.toNat*ts.length+0,none⟩),?_,b,o',len,cap,ts,g1,hts,h0',by omega,rfl⟩
     simp[den]at g5
     simp[execOp,ho,b6,hj,g5,asIntOf,A1a hu,b5,h0',h2',A2y hn,A4y,hlen]
    ·cases h
   ·cases h
  ·split at h
   ·rename_i j s hs'
    split at h
    ·rename_i hj
     simp[ev1]at h;obtain⟨rfl,rfl,rfl⟩:=h
     have hji:=(A0g hs hi).A3l
     obtain⟨b,o',len,cap,ts,h1,h2,h3,h4,h5⟩:=A0g hs hx
     refine⟨.pointer (some ⟨b,o'+(den ρ kk).toInt.toNat*ts.length+off+j.toNat*s,none⟩),?_,b,o',len,cap,ts,h1,h2,h3,h4,by rw[←c4]⟩
     simp[execOp,ho,b6,hji,h5,asIntOf,A1a hu,b5,den,hj,A2y hs',A4y]
    ·cases h
   ·cases h
 ·rename_i m e t' la off k j hu hx hi
  split at h
  ·rename_i s hs'
   split at h
   ·rename_i hj
    simp[ev1]at h;obtain⟨rfl,rfl,rfl⟩:=h
    have hji:=(A0g hs hi).A3l
    obtain⟨b,o',h1,h5⟩:=A0g hs hx
    refine⟨.pointer (some ⟨b,o'+off+j.toNat*s,none⟩),?_,b,o',h1,by rw[←c4]⟩
    simp[execOp,ho,b6,hji,h5,asIntOf,A1a hu,b5,den,hj,A2y hs',A4y]
   ·cases h
  ·cases h
 ·cases h
theorem E5i:∀(es:List E),den ρ (A4e es)=.agg (es.map (den ρ))
 |[]=>rfl
 |e::es=>by simp[A4e,den,E5i es]
theorem E2k{t:Ty}:∀{cs:List C} {es:List E} {vs:List Value},E1l t cs=some es→RCL P w F ρ β cs vs→vs.length=es.length∧∀(i:Nat) (e:E) (v:Value),es[i]?=some e→vs[i]?=some v→Rd P w F t (den ρ e) v
 |[],es,vs,h,hr=>by
  simp only[E1l,b1]at h
  subst h
  exact⟨hr.1.symm,fun i e v h=>by simp at h⟩
 |c::cs,es,[],h,hr=>by have:=hr.1;simp at this
 |c::cs,es,v::vs,h,hr=>by
  have hr1:RCL P w F ρ β cs vs:=⟨by have:=hr.1;simpa using this,fun i c v h1 h2=>hr.2 (i+1) c v h1 h2⟩
  have hr0:=hr.2 0 c v rfl rfl
  cases c with
  |dat u e=>
   simp only[E1l]at h
   split at h
   ·rename_i hu
    subst hu
    cases hq:E1l u cs with
    |none=>rw[hq]at h;cases h
    |some es'=>
     rw[hq]at h
     simp only[bW,b1]at h
     subst h
     obtain⟨q1,q2⟩:=E2k hq hr1
     refine⟨by simp[q1],fun i=>?_⟩
     cases i with
     |zero=>intro e' v' h1 h2;simp at h1 h2;subst h1 h2;exact hr0
     |succ i=>intro e' v' h1 h2;exact q2 i e' v' (by simpa using h1) (by simpa using h2)
   ·cases h
  |_=>simp[E1l]at h
theorem G3p(hs:Sat X ρ st F β a w){o:Oper}{t:TypeId}{x i:Operand}(ho:o.op=.index t x i){es:List E}{sv:SV}{nb:Option Box}(h:E7d X.P st t x i=some (es,sv,nb))(hes:∀e ∈ es,(den ρ e).toBool=true)(nn:Nat):
  A7y X.P w F ρ β nn sv nb ((execOp a.eval o).run X.P w):=by
 unfold E7d at h
 split at h
 ·rename_i la k j hu hx hi
  simp at h;obtain⟨rfl,rfl,rfl⟩:=h
  have hxv:=(A0g hs hx).B3a
  have hj:=(A0g hs hi).A3l
  have h0:=hes _ (aB ..)
  have h1:=hes (.cmp .lss j (.B5o la)) (by simp)
  rw[A4z]at h0
  have h0':(den ρ j).toInt≥0:=QA h0
  have h1':(den ρ j).toInt<((den ρ la).toStr.size:Int):=QA h1
  have hlt:(den ρ j).toInt.toNat<(den ρ la).toStr.size:=by omega
  refine⟨.int .u8 ((den ρ la).toStr[(den ρ j).toInt.toNat]).toNat,?_,Rd.int ?_⟩
  ·simp[execOp,ho,bI,hxv,hj,asIntOf,A1a hu,h0',getElem?_pos,hlt]
  ·simp only[den,D.toInt_int,Array.getD_eq_getD_getElem?]
   rw[Array.getElem?_eq_getElem (by simpa using hlt)]
   rfl
 ·rename_i len e k j hu hi
  split at h
  ·rename_i cs t hx hct hsz
   split at h
   ·rename_i es hm
    split at h
    ·rename_i ha
     simp only[b1,bL]at h
     obtain⟨rfl,rfl,rfl⟩:=h
     have hj:=(A0g hs hi).A3l
     have h0:=hes _ (aB ..)
     have h1:=hes (.cmp .lss j (.int len)) (by simp)
     rw[A4z]at h0
     have h0':(den ρ j).toInt≥0:=QA h0
     have h1':(den ρ j).toInt<(len:Int):=QA h1
     have hlt:(den ρ j).toInt.toNat<len:=by omega
     obtain⟨vs,e1,hl⟩:∃vs:List Value,a.eval x=.agg vs.toArray∧RCL X.P w F ρ β cs vs:=A3o hs hx
     obtain⟨m1,m3⟩:=E2k hm hl
     have m2:vs.length=len:=by rw[m1,ha.2]
     have hv:vs[(den ρ j).toInt.toNat]?=some vs[(den ρ j).toInt.toNat]:=a0 (by omega)
     refine⟨vs[(den ρ j).toInt.toNat]'(by omega),?_,?_⟩
     ·have hb:0≤(den ρ j).toInt∧(den ρ j).toInt<(len:Int):=⟨h0',h1'⟩
      simp only[execOp,ho,bI,hj,e1,asIntOf,b2,b3,b0,A1a hu,hb,and_self,Q5,A2y hsz,part,B1u ha.1,Nat.mul_one,cI,Q4]
      simp[hv]
     ·show Rd X.P w F t (den ρ (.get (A4e es) j)) _
      have he:es[(den ρ j).toInt.toNat]?=some es[(den ρ j).toInt.toNat]:=a0 (by omega)
      have:=m3 (den ρ j).toInt.toNat _ _ he hv
      simp only[den,E5i,D.A0j,a5,a6,he]
      exact this
    ·cases h
   ·cases h
  ·cases h
 ·cases h
theorem C6b{i:Value}{y:Nat}{code:BoundsCode}{k:IntKind}{n:Int}(hi:i=.int k n)(h0:0≤n)(h1:n≤y):(bF i y code).run P w=.ok n.toNat w:=by
 subst hi
 simp[bF,asIntOf,h0,h1]
theorem D5u(hs:Sat X ρ st F β a w){x:Option Operand}{d e:E}(h:A9n st x d=some e):(x=none∧e=d)∨∃y k,x=some y∧a.eval y=.int k (den ρ e).toInt:=by
 unfold A9n at h
 split at h
 ·simp at h;exact .inl ⟨rfl,h.symm⟩
 ·rename_i y
  split at h
  ·rename_i k e' hc
   simp at h;subst h
   exact .inr ⟨y,k,rfl,(A0g hs hc).A3l⟩
  ·cases h
theorem C3c(hs:Sat X ρ st F β a w){lo hi:Option Operand}{l h d:E}(hl:A9n st lo (.int 0)=some l)(hh:A9n st hi d=some h){len cap:Nat}(hd:(den ρ d).toInt=len)(h0:0≤(den ρ l).toInt)(h1:(den ρ l).toInt≤(den ρ h).toInt)(h2:(den ρ h).toInt≤len)(hc:len≤cap)(b:Bool):
  (b7 b len cap (lo.map a.eval) (hi.map a.eval) none).run P w=.ok ((den ρ l).toInt.toNat,(den ρ h).toInt.toNat,cap) w:=by
 rcases D5u hs hh with⟨rfl,rfl⟩|⟨y,k,rfl,hy⟩<;>rcases D5u hs hl with⟨rfl,rfl⟩|⟨y',k',rfl,hy'⟩
 ·simp[b7,den,hd]
 ·simp[b7,hd,C6b hy' h0 (show(den ρ l).toInt≤((len:Nat):Int)by omega)]
 ·simp[b7,den,C6b hy (show 0≤(den ρ h).toInt by omega) (show(den ρ h).toInt≤((cap:Nat):Int)by omega)]
 ·simp[b7,C6b hy (show 0≤(den ρ h).toInt by omega) (show(den ρ h).toInt≤((cap:Nat):Int)by omega),C6b hy' h0 (show(den ρ l).toInt≤(((den ρ h).toInt.toNat:Nat):Int)by omega)]
theorem G1u(hs:Sat X ρ st F β a w){o:Oper}{t:TypeId}{x:Operand}{lo hi mx:Option Operand}(ho:o.op=.slice t x lo hi mx){es:List E}{sv:SV}{nb:Option Box}(h:E6h X.P st t x lo hi mx=some (es,sv,nb))(hes:∀e ∈ es,(den ρ e).toBool=true)(nn:Nat):
  A7y X.P w F ρ β nn sv nb ((execOp a.eval o).run X.P w):=by
 unfold E6h at h
 split at h
 ·rename_i e e' la hu hx
  split at h
  ·rename_i l hh ts n hl hhi hts hn
   split at h
   ·rename_i hc
    obtain⟨rfl,hlen⟩:=hc
    simp at h;obtain⟨rfl,rfl,rfl⟩:=h
    have hr:Rd X.P w F (.slice e) (den ρ la) (a.eval x):=A0g hs hx
    have h0:(0:Int)≤(den ρ l).toInt:=QA (hes (.cmp .leq (.int 0) l) (by simp))
    have h1:(den ρ l).toInt≤(den ρ hh).toInt:=QA (hes (.cmp .leq l hh) (by simp))
    have h2:(den ρ hh).toInt≤((den ρ la).toL.length:Int):=QA (hes (.cmp .leq hh (.len la)) (by simp))
    have hfin:∀A len cap,a.eval x=.slice A len cap→len=(den ρ la).toL.length→len≤cap→(execOp a.eval o).run X.P w=.ok (.value (.slice (if cap=(den ρ l).toInt.toNat then A else A.map (·.add ((den ρ l).toInt.toNat*n))) ((den ρ hh).toInt.toNat-(den ρ l).toInt.toNat) (cap-(den ρ l).toInt.toNat))) w:=by
     intro A len cap e1 e2 e3
     subst e2
     have:=C3c (P:=X.P) hs hl hhi (len:=(den ρ la).toL.length) (cap:=cap) rfl h0 h1 h2 e3 true
     simp only[execOp,ho,bH,b2,A1a hu,b0,bJ,e1,this,A2y hn,b3,bX]
    have hsub:(den ρ (.sub la l hh)).toL=((den ρ la).toL.drop (den ρ l).toInt.toNat).take ((den ρ hh).toInt.toNat-(den ρ l).toInt.toNat):=rfl
    have hsl:(den ρ (.sub la l hh)).toL.length=(den ρ hh).toInt.toNat-(den ρ l).toInt.toNat:=by
     rw[hsub,aC,List.length_drop];omega
    cases hr with
    |snil e1 e2=>
     rw[e1]at h2
     simp at h2
     have hz:(den ρ hh).toInt.toNat-(den ρ l).toInt.toNat=0:=by omega
     refine⟨_,hfin _ _ _ e2 (by rw[e1];rfl) (cA _),?_⟩
     rw[hz]
     exact Rd.snil (a8 (by rw[hsl,hz])) rfl
    |slice e1 e2 e3 e0 e4 e5 e6=>
     rename_i b o' len cap ts' g
     rw[hts]at e2;cases e2
     refine⟨_,hfin _ _ _ e1 e3 e0,?_⟩
     by_cases hz:(den ρ hh).toInt.toNat-(den ρ l).toInt.toNat=0
     ·rw[hz]
      exact Rd.snil (a8 (by rw[hsl,hz])) rfl
     ·rw[Q0 (by omega)]
      refine Rd.slice (b:=b) (o:=o'+(den ρ l).toInt.toNat*n) (len:=(den ρ hh).toInt.toNat-(den ρ l).toInt.toNat) (cap:=cap-(den ρ l).toInt.toNat) (g:=fun i c=>g ((den ρ l).toInt.toNat+i) c) ?_ hts hsl.symm (by omega) e4 ?_ ?_
      ·simp[A4y]
      ·intro i c hi hc
       rw[hsl]at hi
       have:=e5 ((den ρ l).toInt.toNat+i) c (by omega) hc
       rw[c9,←c4]at this
       rw[←hlen]
       exact this
      ·intro i c x t hx ht
       rw[hsub,aJ]at hx
       split at hx
       ·rw[aI]at hx
        exact e6 _ c x t hx ht
       ·cases hx
   ·cases h
  ·cases h
 ·rename_i la hu hx
  split at h
  ·rename_i l hh hl hhi
   simp at h;obtain⟨rfl,rfl,rfl⟩:=h
   have hr:=(A0g hs hx).B3a
   have h0:(0:Int)≤(den ρ l).toInt:=QA (hes (.cmp .leq (.int 0) l) (by simp))
   have h1:(den ρ l).toInt≤(den ρ hh).toInt:=QA (hes (.cmp .leq l hh) (by simp))
   have h2:(den ρ hh).toInt≤((den ρ la).toStr.size:Int):=QA (hes (.cmp .leq hh (.B5o la)) (by simp))
   have:=C3c (P:=X.P) hs hl hhi (len:=(den ρ la).toStr.size) (cap:=(den ρ la).toStr.size) rfl h0 h1 h2 (c8 _) false
   refine⟨.string ((den ρ la).toStr.extract (den ρ l).toInt.toNat (den ρ hh).toInt.toNat),?_,Rd.str rfl⟩
   simp only[execOp,ho,bH,b2,A1a hu,b0,bJ,hr,this,b3,bX,Option.isSome_none,cI,Q4]
  ·cases h
 ·cases h
theorem F9q(hs:Sat X ρ st F β a w){o:Oper}{mx:Bool}{x y:Operand}{c:Call}(ho:o.op=.call c)(h1:c.callee=.builtin (if mx then .max else .min))(h2:c.args=#[x,y]){es:List E}{sv:SV}{nb:Option Box}(h:G3u st mx x y=some (es,sv,nb))(nn:Nat):
  A7y X.P w F ρ β nn sv nb ((execOp a.eval o).run X.P w):=by
 unfold G3u at h
 split at h
 ·rename_i k la k' lb hx hy
  split at h
  ·rename_i hk
   subst hk
   simp[ev1]at h;obtain⟨rfl,rfl,rfl⟩:=h
   have e1:=(A0g hs hx).A3l
   have e2:=(A0g hs hy).A3l
   obtain⟨c1,c2,c3⟩:=c
   simp only at h1 h2
   subst h1 h2
   cases mx
   ·refine⟨.int k (if(den ρ lb).toInt<(den ρ la).toInt then(den ρ lb).toInt else(den ρ la).toInt),?_,Rd.int ?_⟩
    ·simp[execOp,ho,resolve,invoke,builtin,Builtin.min_,Builtin.min2,e1,e2]
    ·rw[C6x,A4z]
     simp only[C3w,D.A1d]
     by_cases hlt:(den ρ lb).toInt<(den ρ la).toInt<;>simp[hlt]
   ·refine⟨.int k (if(den ρ lb).toInt>(den ρ la).toInt then(den ρ lb).toInt else(den ρ la).toInt),?_,Rd.int ?_⟩
    ·simp[execOp,ho,resolve,invoke,builtin,Builtin.max_,Builtin.max2,e1,e2]
    ·rw[C6x,A4z]
     simp only[C3w,D.A1d]
     by_cases hlt:(den ρ lb).toInt>(den ρ la).toInt<;>simp[hlt]
  ·cases h
 ·cases h
theorem H4z{l:List D}{i:Nat}(h:i<l.length):l.getD i .nil=l[i]:=by rw[a5,a0 h];rfl
theorem B2y:∀{ts:List Ty} {ks:List Nat},A6h ts=some ks→ks.length=ts.length∧∀t ∈ ts,(B2i t).isSome=true
 |[],ks,h=>by simp[A6h]at h;subst h;exact⟨rfl,fun t h=>by cases h⟩
 |t::ts,ks,h=>by
  simp only[A6h]at h
  split at h
  ·rename_i k ks' h1 h2
   simp at h;subst h
   obtain⟨a,b⟩:=B2y h2
   exact⟨by simp[a],fun u hu=>by rcases aS.1 hu with rfl|hu;(rw[h1];rfl);exact b u hu⟩
  ·cases h
theorem H1x{P:Program}{w:World}{F:Fr}{t:Ty}{d:D}{v:Value}(h:(B2i t).isSome=true)(hr:Rd P w F t d v):v=B4l t d:=by
 cases t<;>simp[B2i]at h
 ·exact hr.A3l
 ·exact hr.A6x
 ·exact hr.B3a
theorem F2m{P:Program}{w:World}{F:Fr}{t:Ty}{d:D}(h:(B2i t).isSome=true):Rd P w F t d (B4l t d):=by
 cases t<;>simp[B2i]at h
 ·exact .int rfl
 ·exact .bool rfl
 ·exact .str rfl
theorem B4d(n:Nat):∀(ts:List Ty) (c0:Nat) (d:D) (c:Nat),(A4a n ts c0 d)[c]?=ts[c]?.map fun t=>B4l t (cellOf n d (c0+c))
 |[],_,_,_=>by simp[A4a]
 |t::ts,c0,d,0=>by simp[A4a]
 |t::ts,c0,d,c+1=>by
  simp only[A4a,aG]
  rw[B4d n ts (c0+1) d c,show c0+1+c=c0+(c+1)by omega]
theorem B3n(n:Nat):∀(ts:List Ty) (c0:Nat) (d:D),(A4a n ts c0 d).length=ts.length
 |[],_,_=>rfl
 |t::ts,c0,d=>by simp[A4a,B3n n ts]
theorem F5z{ρ':List D}(n:Nat)(A B:D):∀(ts:List Ty) (a b c0:Nat) (e:E) (ks:List Nat),E1f ts a b=some e→A6h ts=some ks→
  (∀c,c<ts.length→ρ'.getD (a+c) .nil=cellOf n A (c0+c))→(∀c,c<ts.length→ρ'.getD (b+c) .nil=cellOf n B (c0+c))→(den ρ' e).toBool=B3x n ks c0 A B
 |[],a,b,c0,e,ks,h,hk,h1,h2=>by simp[E1f]at h;simp[A6h]at hk;subst h hk;rfl
 |t::ts,a,b,c0,e,ks,h,hk,h1,h2=>by
  simp only[E1f]at h
  simp only[A6h]at hk
  split at h
  ·rename_i e1 e2 he1 he2
   split at hk
   ·rename_i q ks' hq hks
    simp at h hk;subst h hk
    rw[D6j]
    have ih:=F5z n A B ts (a+1) (b+1) (c0+1) e2 ks' he2 hks (fun c hc=>by rw[show a+1+c=a+(c+1)by omega,h1 (c+1) (by simp;omega),show c0+(c+1)=c0+1+c by omega]) (fun c hc=>by rw[show b+1+c=b+(c+1)by omega,h2 (c+1) (by simp;omega),show c0+(c+1)=c0+1+c by omega])
    rw[ih]
    simp only[B3x]
    congr 1
    have g1:ρ'.getD a .nil=cellOf n A c0:=h1 0 (by simp)
    have g2:ρ'.getD b .nil=cellOf n B c0:=h2 0 (by simp)
    cases t<;>simp[eqC]at he1<;>simp[B2i]at hq<;>subst he1 hq
    ·rw[A4z];simp only[den,g1,g2];rfl
    ·rw[C6o];simp only[den,g1,g2];rfl
    ·simp only[den,g1,g2];rfl
   ·cases hk
  ·cases h
def C3p(n:Nat)(A B:D):List D:=(aF n).map (cellOf n A)++(aF n).map (cellOf n B)
theorem E8n(n:Nat)(A B:D)(c:Nat)(h:c<n):(C3p n A B).getD c .nil=cellOf n A c:=by
 simp[C3p,a5,aD,h]
theorem E9n(n:Nat)(A B:D)(c:Nat)(h:c<n):(C3p n A B).getD (n+c) .nil=cellOf n B c:=by
 simp[C3p,a5,List.getElem?_append_right,h]
theorem E7h:∀(ts:List Ty) (a i:Nat) (c:C),(vrs ts a)[i]?=some c→∃t,ts[i]?=some t∧c=.dat t (.var (a+i))
 |[],a,i,c,h=>by simp[vrs]at h
 |t::ts,a,0,c,h=>by simp[vrs]at h;subst h;exact⟨t,rfl,rfl⟩
 |t::ts,a,i+1,c,h=>by
  simp only[vrs,aG]at h
  obtain⟨u,h1,rfl⟩:=E7h ts (a+1) i c h
  exact⟨u,by simpa using h1,by rw[show a+1+i=a+(i+1)by omega]⟩
theorem D1u:∀(ts:List Ty) (a:Nat),(vrs ts a).length=ts.length
 |[],a=>rfl
 |t::ts,a=>by simp[vrs,D1u ts]
theorem B9t{P:Program}{k:TypeId}{ks:List Nat}{ts:List Ty}{g:Bool}(h:C1s P k=some ks)(hts:A0r P k=some ts)(hg:A1j P k=some g):
  ∃e,eqT P 8 k (vrs ts 0) (vrs ts ts.length)=some e∧E1f ts 0 ts.length=some e∧A6h ts=some ks∧0<ts.length∧(g=true∨ts.length=1):=by
 unfold C1s at h
 rw[hts,hg]at h
 simp only at h
 split at h
 ·rename_i hc
  obtain⟨h1,h2,h3,h4⟩:=hc
  obtain⟨e,he⟩:=Option.isSome_iff_exists.1 h2
  exact⟨e,by rw[h1,he],he,h,h3,h4⟩
 ·cases h
def A4g(g:Bool)(ts:List Ty)(A:D):Value:=valOf g (A4a ts.length ts 0 A)
theorem F2g{P:Program}{w:World}{F:Fr}{β:Nat→Value}{ts:List Ty}{ks:List Nat}(hk:A6h ts=some ks)(A B:D):
  RCL P w F (C3p ts.length A B) β (vrs ts 0) (A4a ts.length ts 0 A)∧RCL P w F (C3p ts.length A B) β (vrs ts ts.length) (A4a ts.length ts 0 B):=by
 have hf:=(B2y hk).2
 constructor
 ·refine⟨by rw[D1u,B3n],fun i c v hc hv=>?_⟩
  obtain⟨t,ht,rfl⟩:=E7h ts 0 i c hc
  rw[B4d,ht]at hv
  simp at hv;subst hv
  have hi:=(a4.1 ht).1
  show Rd P w F t (den _ (.var (0+i))) _
  simp only[den,bZ,E8n ts.length A B i hi]
  exact F2m (hf t (aL ht))
 ·refine⟨by rw[D1u,B3n],fun i c v hc hv=>?_⟩
  obtain⟨t,ht,rfl⟩:=E7h ts ts.length i c hc
  rw[B4d,ht]at hv
  simp at hv;subst hv
  have hi:=(a4.1 ht).1
  show Rd P w F t (den _ (.var (ts.length+i))) _
  simp only[den,E9n ts.length A B i hi]
  exact F2m (hf t (aL ht))
theorem E6p{P:Program}{k:TypeId}{ts:List Ty}{g:Bool}(hg:A1j P k=some g)(h:g=true∨ts.length=1)(A:D):VOf P k (A4a ts.length ts 0 A) (A4g g ts A):=by
 cases g with
 |true=>exact .inl ⟨hg,rfl⟩
 |false=>
  have h1:ts.length=1:=by simpa using h
  refine .inr ⟨hg,?_⟩
  unfold A4g valOf
  match ts,h1 with
  |[t],_=>rfl
theorem F0l{P:Program}{w:World}{k:TypeId}{ks:List Nat}{ts:List Ty}{g:Bool}(h:C1s P k=some ks)(hts:A0r P k=some ts)(hg:A1j P k=some g)(A B:D):
  (bO k (A4g g ts A) (A4g g ts B)).run P w=.ok (keq ks A B) w:=by
 obtain⟨e,h1,h2,h3,h4,h5⟩:=B9t h hts hg
 obtain⟨r1,r2⟩:=F2g (P:=P) (w:=w) (F:=⟨fun _=>False,[],[]⟩) (β:=fun _=>.nilIface) h3 A B
 have:=C0z 8 9992 h1 r1 r2 (E6p hg h5 A) (E6p hg h5 B)
 rw[F5z ts.length A B ts 0 ts.length 0 e ks h2 h3 (fun c hc=>by simp only[bZ];exact E8n _ A B c hc) (fun c hc=>by simp only[bZ];exact E9n _ A B c hc)]at this
 rw[keq,(B2y h3).1]
 exact this
theorem F9a{P:Program}{w:World}{F:Fr}{ρ:List D}{β:Nat→Value}{g:TypeId→List C→List C→Option E}
  (ha:∀{t:TypeId} {cs ds:List C} {e:E},g t cs ds=some e→A1j P t=some true∨(A1j P t=some false∧cs.length=1∧ds.length=1)):
  ∀(fs:List Field) {cs ds:List C} {us:List Value} {e:E} (pre:List Value) (n:Nat),D1l P g fs n cs ds=some e→RCL P w F ρ β cs us→pre.length=n→
  ∀f ∈ fs,f.name≠"_"∧∃a us' cs' ds' e',(part f.type (pre++us).toArray f.offset).run P w=.ok a w∧VOf P f.type us' a∧g f.type cs' ds'=some e'∧RCL P w F ρ β cs' us'
 |[],cs,ds,us,e,pre,n,he,hu,h1=>fun f hf=>by cases hf
 |f::fs,cs,ds,us,e,pre,n,he,hu,h1=>by
  simp only[D1l]at he
  split at he
  ·rename_i m hm
   split at he
   ·rename_i hc
    simp only[cJ,Q9]at hc
    obtain⟨⟨⟨hn,ho⟩,hl1⟩,hl2⟩:=hc
    split at he
    ·rename_i e1 e2 he1 he2
     have hoff:f.offset=n:=by simpa using ho
     have lu:m≤us.length:=by rw[←hu.1];exact hl1
     have hag:=ha he1
     obtain⟨u,p1,q1⟩:=C3h (P:=P) (w:=w) (pre:=pre) hm lu (by
      rcases hag with hag|⟨hag,l1,l2⟩
      ·exact .inl hag
      ·exact .inr ⟨hag,by have:=hu.1;rw[aC]at l1⊢;omega⟩)
     have ih:=F9a ha fs (pre++us.take m) (n+m) he2 (hu.drop m) (by simp[h1];omega)
     simp only[aK,aH]at ih
     intro f' hf'
     rcases aS.1 hf' with rfl|hf'
     ·rw[h1]at p1
      exact⟨by simpa using hn,u,_,_,_,_,by rw[hoff];exact p1,q1,he1,hu.take m⟩
     ·exact ih f' hf'
    ·cases he
   ·cases he
  ·cases he
theorem F8x{P:Program}{w:World}{F:Fr}{ρ:List D}{β:Nat→Value}{g:List C→List C→Option E}{t:TypeId}{m:Nat}(hm:A3k P t=some m)
  (ha:∀{cs ds:List C} {e:E},g cs ds=some e→A1j P t=some true∨(A1j P t=some false∧cs.length=1∧ds.length=1)):
  ∀(c:Nat) {cs ds:List C} {us:List Value} {e:E} (pre:List Value) (i:Nat),D0c g m c cs ds=some e→RCL P w F ρ β cs us→pre.length=i*m→
  ∀j ∈ aV i c,∃a us' cs' ds' e',(part t (pre++us).toArray (j*m)).run P w=.ok a w∧VOf P t us' a∧g cs' ds'=some e'∧RCL P w F ρ β cs' us'
 |0,cs,ds,us,e,pre,i,he,hu,h1=>fun j hj=>by simp at hj
 |c+1,cs,ds,us,e,pre,i,he,hu,h1=>by
  simp only[D0c]at he
  split at he
  ·rename_i hl
   obtain⟨hl1,hl2⟩:=hl
   split at he
   ·rename_i e1 e2 he1 he2
    have lu:m≤us.length:=by rw[←hu.1];exact hl1
    have hag:=ha he1
    obtain⟨u,p1,q1⟩:=C3h (P:=P) (w:=w) (pre:=pre) hm lu (by
     rcases hag with hag|⟨hag,l1,l2⟩
     ·exact .inl hag
     ·exact .inr ⟨hag,by have:=hu.1;rw[aC]at l1⊢;omega⟩)
    have ih:=F8x hm ha c (pre++us.take m) (i+1) he2 (hu.drop m) (by simp[h1,c6];omega)
    simp only[aK,aH]at ih
    intro j hj
    rw[aU]at hj
    rcases aS.1 hj with rfl|hj
    ·rw[h1]at p1
     exact⟨u,_,_,_,_,p1,q1,he1,hu.take m⟩
    ·exact ih j hj
   ·cases he
  ·cases he
theorem D1h{P:Program}{w:World}{F:Fr}{ρ:List D}{β:Nat→Value}(em:Bool):∀(n k:Nat) {t:TypeId} {cs ds:List C} {e:E} {us:List Value} {u:Value},eqT P n t cs ds=some e→RCL P w F ρ β cs us→VOf P t us u→(bA em (n+k) t u).run P w=.ok () w
 |0,k,t,cs,ds,e,us,u,h,hu,q1=>by simp[eqT]at h
 |n+1,k,t,cs,ds,e,us,u,h,hu,q1=>by
  have hag:=C3q h
  rw[show n+1+k=(n+k)+1 by omega]
  simp only[eqT]at h
  split at h
  ·rename_i fs hun
   split at h
   ·cases h
   have ha:A1j P t=some true:=by simp[A1j,hun]
   obtain⟨_,rfl⟩:A1j P t=some true∧u=.agg us.toArray:=by rcases q1 with q|q;exact q;rw[ha]at q;cases q.1
   have each:=F9a (P:=P) (w:=w) (F:=F) (ρ:=ρ) (β:=β) (fun a=>C3q a) fs.toList [] 0 h hu rfl
   simp only[aW]at each
   rw[bA]
   simp only[b2,A1a hun,b0]
   rw[←Array.forIn_toList]
   generalize fs.toList=L at each
   induction L with
   |nil=>simp
   |cons f L ih=>
    obtain⟨hn,a,us',cs',ds',e',p1,p2,p3,p4⟩:=each f (by simp)
    have p5:=D1h em n k p3 p4 p2
    simp only[aX,b2,hn,ne_eq,not_false_eq_true,Q5,b0,p1,p5,b3]
    exact ih (fun y hy=>each y (by simp[hy]))
  ·rename_i c e' hun
   split at h
   ·rename_i m hm
    have ha:A1j P t=some true:=by simp[A1j,hun]
    obtain⟨_,rfl⟩:A1j P t=some true∧u=.agg us.toArray:=by rcases q1 with q|q;exact q;rw[ha]at q;cases q.1
    have each:=F8x (P:=P) (w:=w) (F:=F) (ρ:=ρ) (β:=β) hm (fun a=>C3q a) c [] 0 h hu (by simp)
    simp only[aW]at each
    rw[bA]
    simp only[b2,A1a hun,b0]
    simp only[Std.Legacy.Range.forIn_eq_forIn_range',Std.Legacy.Range.size,Nat.sub_zero,Nat.add_one_sub_one,Nat.div_one]
    generalize aV 0 c=is at each
    induction is with
    |nil=>simp
    |cons j is ih=>
     obtain⟨a,us',cs',ds',e'',p1,p2,p3,p4⟩:=each j (by simp)
     have p5:=D1h em n k p3 p4 p2
     simp only[aX,b2,A2y hm,b0,p1,p5,b3]
     exact ih (fun y hy=>each y (by simp[hy]))
   ·cases h
  ·rename_i h1 h2
   split at h
   ·rename_i c d
    split at h
    ·rename_i hs
     have hu0:RC P w F ρ β c (us.headD undef):=hu.2 0 c _ rfl (by have:=hu.1;cases us with|nil=>simp at this|cons x us=>rfl)
     have e2:A1j P t=some false:=by
      rcases hag with hag|hag
      ·unfold A1j at hag;split at hag
       ·rename_i hx;exact absurd hx (h1 _)
       ·rename_i hx;exact absurd hx (h2 _ _)
       ·cases hag
       ·cases hag
      ·exact hag.1
     obtain⟨_,rfl⟩:A1j P t=some false∧us=[u]:=by rcases q1 with q|q;(rw[e2]at q;cases q.1);exact q
     simp only[List.headD_cons]at hu0
     cases hun:P.underlying t with
     |none=>simp[scT,hun]at hs
     |some td=>
      refine cC hun ?_ em _
      rw[hun]at hs
      cases c<;>try(simp[scT]at hs;done)
      rename_i t1 x
      cases t1<;>cases td<;>try(simp[scT]at hs;done)
      ·rw[hu0.A3l];simp[scT]at hs;simp[cE,hs]
      ·rw[hu0.A6x];trivial
      ·rw[hu0.B3a];trivial
    ·cases h
   ·cases h
theorem D3d{P:Program}{w:World}{k:TypeId}{ks:List Nat}{ts:List Ty}{g:Bool}(h:C1s P k=some ks)(hts:A0r P k=some ts)(hg:A1j P k=some g)(em:Bool)(A:D):
  (bA em 10000 k (A4g g ts A)).run P w=.ok () w:=by
 obtain⟨e,h1,h2,h3,h4,h5⟩:=B9t h hts hg
 obtain⟨r1,r2⟩:=F2g (P:=P) (w:=w) (F:=⟨fun _=>False,[],[]⟩) (β:=fun _=>.nilIface) h3 A A
 exact D1h em 8 9992 h1 r1 (E6p hg h5 A)
theorem C2r(ks:List Nat)(d:D)(l:List D)(A:D):A2l ks (d::l) A=if keq ks A (d.toL.getD 0 .nil)=true then 0 else A2l ks l A+1:=by
 unfold A2l
 rw[List.findIdx_cons]
 cases keq ks A (d.toL.getD 0 .nil)<;>simp
theorem C8u{P:Program}{w:World}{k:TypeId}{ks:List Nat}{ts:List Ty}{g:Bool}(h:C1s P k=some ks)(hts:A0r P k=some ts)(hg:A1j P k=some g)(A:D):
  ∀(es:List MapEntry) (ds:List D) (i:Nat),es.length=ds.length→(∀(j:Nat) (e:MapEntry) (d:D),es[j]?=some e→ds[j]?=some d→e.key=A4g g ts (d.toL.getD 0 .nil))→
  (bC k (A4g g ts A) es i).run P w=.ok ((es[A2l ks ds A]?).map fun e=>(i+A2l ks ds A,e.val)) w
 |[],ds,i,hl,he=>by
  have:ds=[]:=a8 hl.symm
  subst this
  simp[bC]
 |e::es,[],i,hl,he=>by simp at hl
 |e::es,d::ds,i,hl,he=>by
  have h0:=he 0 e d rfl rfl
  simp only[bC,b2,h0,F0l h hts hg,b0]
  rw[C2r]
  cases hq:keq ks A (d.toL.getD 0 .nil)with
  |true=>simp
  |false=>
   simp only[cI,Q4]
   rw[C8u h hts hg A es ds (i+1) (by simpa using hl) (fun j e d a b=>he (j+1) e d (by simpa using a) (by simpa using b))]
   simp only[aG]
   rw[show i+1+A2l ks ds A=i+(A2l ks ds A+1)by omega]
theorem F7u{P:Program}{k:TypeId}{td:TypeDesc}(hu:P.underlying k=some td){ks:List Nat}{ts:List Ty}(h:C1s P k=some ks)(hts:A0r P k=some ts)(hg:A1j P k=some false)(A:D):
  ∀(es:List MapEntry) (ds:List D) (i:Nat),es.length=ds.length→(∀(j:Nat) (e:MapEntry) (d:D),es[j]?=some e→ds[j]?=some d→e.key=A4g false ts (d.toL.getD 0 .nil))→
  bD td (A4g false ts A) es i=some ((es[A2l ks ds A]?).map fun e=>(i+A2l ks ds A,e.val)):=by
 obtain⟨e,h1,h2,h3,h4,h5⟩:=B9t h hts hg
 have hl1:ts.length=1:=by simpa using h5
 have same:∀B:D,bB td (A4g false ts A) (A4g false ts B)=some (keq ks A B):=by
  intro B
  match ts,hl1 with
  |[t],_=>
   have hs:scT (.dat t (.var 0)) (P.underlying k)=true:=by
    simp only[eqT]at h1
    rw[hu]at h1
    cases td<;>first
     |(exfalso;simp[A1j,hu]at hg;done)
     |(simp only[vrs]at h1;split at h1;(rename_i hx;rw[hu];exact hx);cases h1)
   rw[hu]at hs
   simp only[A6h]at h3
   cases t<;>simp[B2i]at h3<;>subst h3<;>cases td<;>try(simp[scT]at hs;done)
   ·simp[A4g,valOf,A4a,B4l,bB,keq,B3x,A9j,cellOf]
   ·simp[A4g,valOf,A4a,B4l,bB,keq,B3x,A9j,cellOf]
   ·simp[A4g,valOf,A4a,B4l,bB,keq,B3x,A9j,cellOf,beq_toListBytes]
 intro es
 induction es with
 |nil=>
  intro ds i hl he
  have:ds=[]:=a8 hl.symm
  subst this
  simp[bD]
 |cons e es ih=>
  intro ds i hl he
  cases ds with
  |nil=>simp at hl
  |cons d ds=>
   have h0:=he 0 e d rfl rfl
   simp only[bD,h0,same]
   rw[C2r]
   cases hq:keq ks A (d.toL.getD 0 .nil)with
   |true=>simp
   |false=>
    simp only[cI,Q4]
    rw[ih ds (i+1) (by simpa using hl) (fun j e d a b=>he (j+1) e d (by simpa using a) (by simpa using b))]
    simp only[aG]
    rw[show i+1+A2l ks ds A=i+(A2l ks ds A+1)by omega]
theorem D4j{P:Program}{w:World}{k:TypeId}{ks:List Nat}{ts:List Ty}{g:Bool}(h:C1s P k=some ks)(hts:A0r P k=some ts)(hg:A1j P k=some g)(A:D)
  (es:List MapEntry) (ds:List D) (hl:es.length=ds.length) (he:∀(j:Nat) (e:MapEntry) (d:D),es[j]?=some e→ds[j]?=some d→e.key=A4g g ts (d.toL.getD 0 .nil)):
  (Instr.findKey k (A4g g ts A) es).run P w=.ok ((es[A2l ks ds A]?).map fun e=>(A2l ks ds A,e.val)) w:=by
 cases g with
 |true=>
  have hw:(match P.underlying k with|some (.array _ _)|some (.struct _)=>true|_=>false)=true:=by
   unfold A1j at hg
   split at hg<;>simp_all
  have:=C8u (w:=w) h hts hg A es ds 0 hl he
  simp only[bZ]at this
  rw[run_findKey_eq w hw]
  exact this
 |false=>
  cases hu:P.underlying k with
  |none=>simp[A1j,hu]at hg
  |some td=>
   have:=F7u hu h hts hg A es ds 0 hl he
   simp only[bZ]at this
   exact cD hu this
theorem D0r{ρ:List D}{us:List Ty}{es:List E}(hl:es.length=us.length){c:Nat}(hc:c<us.length):cellOf us.length (den ρ (C7m us es)) c=den ρ (es.getD c .nil):=by
 have hlist:∀l:List E,den ρ (A4e l)=.agg (l.map (den ρ)):=by
  intro l
  induction l with
  |nil=>rfl
  |cons x l ih=>simp[A4e,den,ih]
 unfold C7m cellOf
 split
 ·rename_i h1
  have:c=0:=by omega
  subst this
  cases es with
  |nil=>simp at hl;omega
  |cons x l=>cases l with
   |nil=>rfl
   |cons y l=>simp at hl;omega
 ·rw[hlist]
  simp only[D.A0j,a5,a6]
  rw[a0 (by omega)]
  rfl
theorem C4a{P:Program}{w:World}{F:Fr}{ρ:List D}{β:Nat→Value}:∀{ts:List Ty} {cs:List C} {es:List E} {vs:List Value},A7e ts cs=some es→RCL P w F ρ β cs vs→
  es.length=ts.length∧vs.length=ts.length∧∀(c:Nat) (t:Ty) (u:Value),ts[c]?=some t→vs[c]?=some u→Rd P w F t (den ρ (es.getD c .nil)) u
 |[],[],es,vs,h,hr=>by
  simp[A7e]at h;subst h
  have:vs.length=0:=hr.1.symm
  exact⟨rfl,this,fun c t u ht=>by simp at ht⟩
 |[],c::cs,es,vs,h,hr=>by simp[A7e]at h
 |t::ts,[],es,vs,h,hr=>by simp[A7e]at h
 |t::ts,c::cs,es,[],h,hr=>by have:=hr.1;simp at this
 |t::ts,c::cs,es,v::vs,h,hr=>by
  simp only[A7e]at h
  split at h
  ·rename_i e es' h1 h2
   simp at h;subst h
   obtain⟨a,b,d⟩:=C4a h2 (hr.drop 1)
   refine⟨by simp[a],by simpa using b,fun i u v' hu hv=>?_⟩
   cases i with
   |zero=>simp at hu hv;subst hu hv;exact B1m h1 (hr.2 0 c v rfl rfl)
   |succ i=>exact d i u v' (by simpa using hu) (by simpa using hv)
  ·cases h
theorem C4e{P:Program}{w:World}{F:Fr}{ρ:List D}{β:Nat→Value}{ts:List Ty}{g:Bool}{sv:SV}{q:E}{v:Value}(h:D6o ts g sv=some q)(hv:RV P w F ρ β sv v):
  ∃vs:List Value,v=valOf g vs∧vs.length=ts.length∧(g=false→ts.length=1)∧∀(c:Nat) (t:Ty) (u:Value),ts[c]?=some t→vs[c]?=some u→Rd P w F t (cellOf ts.length (den ρ q) c) u:=by
 unfold D6o at h
 split at h
 ·rename_i cs
  obtain⟨es,h1,rfl⟩:∃es,A7e ts cs=some es∧C7m ts es=q:=by simpa[bV]using h
  obtain⟨vs,rfl,hr⟩:=hv
  obtain⟨a,b,d⟩:=C4a h1 hr
  exact⟨vs,rfl,b,(fun h=>by cases h),fun c t u ht hu=>by rw[D0r a (a4.1 ht).1];exact d c t u ht hu⟩
 ·rename_i c
  split at h
  ·rename_i hl
   obtain⟨es,h1,rfl⟩:∃es,A7e ts [c]=some es∧C7m ts es=q:=by simpa[bV]using h
   obtain⟨a,b,d⟩:=C4a h1 (RCL.cons (vs:=[]) hv RCL.nil)
   exact⟨[v],rfl,b,fun _=>hl,fun c t u ht hu=>by rw[D0r a (a4.1 ht).1];exact d c t u ht hu⟩
  ·cases h
 ·cases h
theorem E9b{P:Program}{w:World}{F:Fr}{ρ:List D}{ts:List Ty}{ks:List Nat}{g:Bool}{q:E}{v:Value}(hk:A6h ts=some ks)
  (h:∃vs:List Value,v=valOf g vs∧vs.length=ts.length∧(g=false→ts.length=1)∧∀(c:Nat) (t:Ty) (u:Value),ts[c]?=some t→vs[c]?=some u→Rd P w F t (cellOf ts.length (den ρ q) c) u):v=A4g g ts (den ρ q):=by
 obtain⟨vs,rfl,hl,_,hr⟩:=h
 unfold A4g
 congr 1
 refine aN fun c=>?_
 rw[B4d]
 cases ht:ts[c]? with
 |none=>simp only[bX];exact a9 (by rw[hl];exact List.getElem?_eq_none_iff.1 ht)
 |some t=>
  have hc:c<vs.length:=by rw[hl];exact(a4.1 ht).1
  rw[a0 hc]
  simp only[bW,bZ,b1]
  exact H1x ((B2y hk).2 t (aL ht)) (hr c t _ ht (a0 hc))
theorem F5p{P:Program}{w:World}{F:Fr}{ρ:List D}{e:TypeId}{z:E}{us:List Ty}{g:Bool}(h:F3f P e=some z)(hus:A0r P e=some us)(hg:A1j P e=some g):
  ∃(v:Value) (vs:List Value),(zeroValue e).run P w=.ok v w∧v=valOf g vs∧vs.length=us.length∧∀(c:Nat) (t:Ty) (u:Value),us[c]?=some t→vs[c]?=some u→Rd P w F t (cellOf us.length (den ρ z) c) u:=by
 unfold F3f at h
 rw[hus,hg]at h
 split at h
 ·rename_i zs us' hz hg' hu'
  cases hg';cases hu'
  split at h
  ·rename_i cs hcs
   obtain⟨es,h1,rfl⟩:∃es,A7e us (E0b us cs)=some es∧C7m us es=z:=by simpa[bV]using h
   obtain⟨a,b,d⟩:=C4a (P:=P) (w:=w) (F:=F) (ρ:=ρ) (β:=fun _=>.nilIface) h1 (C2d (B9b hcs))
   exact⟨_,zs.toList,D2x hz,by simp[valOf],b,fun c t u ht hu=>by rw[D0r a (a4.1 ht).1];exact d c t u ht hu⟩
  ·cases h
 ·rename_i z0 us' hz hg' hu'
  cases hg';cases hu'
  split at h
  ·rename_i c hc
   split at h
   ·obtain⟨es,h1,rfl⟩:∃es,A7e us (E0b us [c])=some es∧C7m us es=z:=by simpa[bV]using h
    obtain⟨a,b,d⟩:=C4a (P:=P) (w:=w) (F:=F) (ρ:=ρ) (β:=fun _=>.nilIface) h1 (C2d (RCL.cons (vs:=[]) (C6u hc) RCL.nil))
    exact⟨_,[z0],D2x hz,rfl,b,fun c t u ht hu=>by rw[D0r a (a4.1 ht).1];exact d c t u ht hu⟩
   ·cases h
  ·cases h
 ·cases h
theorem G1c{P:Program}{w:World}{F:Fr}{ρ:List D}{β:Nat→Value}{us:List Ty}{g:Bool}{el:E}{v:Value}{vs:List Value}(h1:g=true∨us.length=1)(hv:v=valOf g vs)(hl:vs.length=us.length)
  (hr:∀(c:Nat) (t:Ty) (u:Value),us[c]?=some t→vs[c]?=some u→Rd P w F t (cellOf us.length (den ρ el) c) u):RV P w F ρ β (elSV us g el) v:=by
 subst hv
 cases g with
 |true=>
  refine⟨vs,rfl,by simp[hl],fun i c u hc hu=>?_⟩
  simp only[a6,aE,bV,bZ]at hc
  obtain⟨p,⟨t,ht,rfl⟩,rfl⟩:=hc
  show Rd P w F t _ u
  rw[C2i]
  exact hr i t u ht hu
 |false=>
  have hl1:us.length=1:=by simpa using h1
  match us,vs,hl1,hl with
  |[t],[u],_,_=>
   show Rd P w F t _ u
   rw[C2i]
   exact hr 0 t u rfl rfl
theorem H2p{ks:List Nat}{l:List D}{A:D}:A2l ks l A≤l.length:=List.findIdx_le_length
theorem D3a{X:Cx}{ρ:List D}{st:St}{F:Fr}{β:Nat→Value}{a:Act}{w:World}(hs:Sat X ρ st F β a w){t:TypeId}{m x:Operand}{n:Nat}{y q:E}{k e:TypeId}{ks:List Nat}(h:mapArgs X.P st t m x=some (n,y,k,e,ks,q)):
  ∃ts g,X.P.underlying t=some (.map k e)∧st.bx.lookup n=some (.map t y)∧C1s X.P k=some ks∧A0r X.P k=some ts∧A1j X.P k=some g∧a.eval m=β n∧a.eval x=A4g g ts (den ρ q):=by
 unfold mapArgs at h
 split at h
 ·rename_i k' e' n' hm hn
  split at h
  ·rename_i t' y' ks' ts g sv hb hk hts hg hx
   split at h
   ·rename_i ht
    subst ht
    split at h
    ·rename_i q' hq
     simp at h;obtain⟨rfl,rfl,rfl,rfl,rfl,rfl⟩:=h
     have hu:X.P.underlying t=some (.map k' e'):=by
      unfold D7v at hm;split at hm
      ·rename_i k'' e'' hx;simp at hm;obtain⟨rfl,rfl⟩:=hm;exact hx
      ·cases hm
     obtain⟨e,h1,h2,h3,h4,h5⟩:=B9t hk hts hg
     exact⟨ts,g,hu,hb,hk,hts,hg,A0g hs hn,E9b h3 (C4e hq (A3o hs hx))⟩
    ·cases h
   ·cases h
  ·cases h
 ·cases h
theorem G0o{k:Nat}{a b:D}(h:A9j k a b=true):A9j k b a=true:=by
 match k with
 |0=>simp only[A9j,QB]at h⊢;exact h.symm
 |1=>simp only[A9j,QB]at h⊢;exact h.symm
 |k+2=>simp only[A9j,QB]at h⊢;exact h.symm
theorem F7z{k:Nat}{a b c:D}(h:A9j k a b=true)(g:A9j k b c=true):A9j k a c=true:=by
 match k with
 |0=>simp only[A9j,QB]at h g⊢;exact h.trans g
 |1=>simp only[A9j,QB]at h g⊢;exact h.trans g
 |k+2=>simp only[A9j,QB]at h g⊢;exact h.trans g
theorem E8z(n:Nat):∀{ks:List Nat} {c:Nat} {a b:D},B3x n ks c a b=true→B3x n ks c b a=true
 |[],_,_,_,_=>rfl
 |k::ks,c,a,b,h=>by
  simp only[B3x,cJ]at h⊢
  exact⟨G0o h.1,E8z n h.2⟩
theorem E3i(n:Nat):∀{ks:List Nat} {c:Nat} {a b d:D},B3x n ks c a b=true→B3x n ks c b d=true→B3x n ks c a d=true
 |[],_,_,_,_,_,_=>rfl
 |k::ks,c,a,b,d,h,g=>by
  simp only[B3x,cJ]at h g⊢
  exact⟨F7z h.1 g.1,E3i n h.2 g.2⟩
theorem H0p{ks:List Nat}{a b:D}(h:keq ks a b=true):keq ks b a=true:=E8z _ h
theorem E9q{ks:List Nat}{a b d:D}(h:keq ks a b=true)(g:keq ks b d=true):keq ks a d=true:=E3i _ h g
theorem B6v(ks:List Nat)(d:D)(l:List D)(q z:D):B3j ks (d::l) q z=if keq ks q (d.toL.getD 0 .nil)=true then d.toL.getD 1 .nil else B3j ks l q z:=by
 unfold B3j
 rw[C2r]
 split
 ·simp
 ·simp only[aO,c5,aQ]
theorem E9p(ks:List Nat)(d:D)(l:List D)(q v:D):B3o ks (d::l) q v=if keq ks q (d.toL.getD 0 .nil)=true then .agg [q,v]::l else d::B3o ks l q v:=by
 unfold B3o
 rw[C2r]
 split
 ·simp
 ·simp only[aO,c5,List.set_cons_succ]
  split<;>simp
theorem E9r(ks:List Nat)(k q z:D):∀l:List D,B3j ks (B3o ks l k (B3j ks l k z)) q z=B3j ks l q z
 |[]=>by
  show B3j ks [.agg [k,z]] q z=z
  rw[B6v]
  split
  ·rfl
  ·rfl
 |d::l=>by
  rw[E9p,B6v ks d l k z,B6v ks d l q z]
  split
  ·rename_i h1
   rw[B6v]
   simp only[D.A0j,List.getD_cons_zero,aQ]
   by_cases h2:keq ks q k=true
   ·rw[Q3 h2,Q3 (E9q h2 h1)]
   ·rw[Q0 h2,Q0 (fun h3=>h2 (E9q h3 (H0p h1)))]
  ·rename_i h1
   rw[B6v,E9r ks k q z l]
theorem G2c{ρ:List D}(ks:List Nat)(a q z:E):den ρ (E4l ks a q z)=den ρ (.C9x ks a q z):=by
 unfold E4l
 split
 ·split
  ·rename_i h
   obtain⟨rfl,rfl,rfl,rfl,rfl⟩:=h
   simp only[den,D.A0j,E9r]
  ·rfl
 ·rfl
theorem E4b{X:Cx}{ρ:List D}{F:Fr}{β:Nat→Value}{a:Act}{w:World}{o:Oper}{t:TypeId}{m x:Operand}{ok:Bool}(ho:o.op=.lookup t m x ok){k e:TypeId}{ks:List Nat}{y q:E}{ts:List Ty}{g:Bool}(hu:X.P.underlying t=some (.map k e))(hk:C1s X.P k=some ks)(hts:A0r X.P k=some ts)(hg:A1j X.P k=some g)
  (hbx:A1b X.P w F ρ β (.map t y) (a.eval m)) (e2:a.eval x=A4g g ts (den ρ q)) {es:List E} {sv:SV} {nb:Option Box} (h:F1g X.P y e ks q ok=some (es,sv,nb)) (nn:Nat):
  A7y X.P w F ρ β nn sv nb ((execOp a.eval o).run X.P w):=by
 unfold F1g at h
 split at h
 ·rename_i z us gv hz hus hgv
  split at h
  ·rename_i hgl
   obtain⟨b,k',e',ts',us',g',h',es',v1,v2,v3,v4,v5,v6,v7,v8,v9⟩:=hbx
   rw[hu]at v2;cases v2
   rw[hts]at v3;cases v3
   rw[hus]at v4;cases v4
   rw[hg]at v5;cases v5
   rw[hgv]at v6;cases v6
   have hf:=D4j (w:=w) hk hts hg (den ρ q) es' (den ρ y).toL v8 (fun j e d h1 h2=>(v9 j e d h1 h2).key)
   have hc:=fun em=>D3d (P:=X.P) (w:=w) hk hts hg em (den ρ q)
   obtain⟨zv,zvs,z1,z2,z3,z4⟩:=F5p (w:=w) (F:=F) (ρ:=ρ) hz hus hgv
   have key:∃(v:Value) (vs:List Value),(bE t (.map (some b)) (A4g g ts (den ρ q)) ok).run X.P w=.ok (if ok=true then .tuple #[v,.bool (decide (A2l ks (den ρ y).toL (den ρ q)<(den ρ y).toL.length))]else v) w∧
     v=valOf gv vs∧vs.length=us.length∧∀(c:Nat) (t:Ty) (u:Value),us[c]?=some t→vs[c]?=some u→Rd X.P w F t (cellOf us.length (den ρ (E4l ks y q z)) c) u:=by
    rw[G2c]
    simp only[den,B3j]
    by_cases hlt:A2l ks (den ρ y).toL (den ρ q)<(den ρ y).toL.length
    ·have hlt':A2l ks (den ρ y).toL (den ρ q)<es'.length:=by rw[v8];exact hlt
     have ho:=v9 _ _ _ (a0 hlt') (a0 hlt)
     obtain⟨vs,w1,w2,w3⟩:=ho.val
     rw[a0 hlt']at hf
     simp only[bW]at hf
     refine⟨_,vs,?_,w1,w2,?_⟩
     ·simp only[bE,b2,A1a hu,b0,cB v7,hc,b3,aR,hf]
      cases ok<;>simp[hlt]
     ·simp only[hlt,Q5]
      rw[H4z hlt]
      exact w3
    ·have hge:es'.length≤A2l ks (den ρ y).toL (den ρ q):=by rw[v8];omega
     rw[a9 hge]at hf
     simp only[bX]at hf
     refine⟨zv,zvs,?_,z2,z3,?_⟩
     ·simp only[bE,b2,A1a hu,b0,cB v7,hc,b3,aR,hf,z1]
      cases ok<;>simp[hlt]
     ·simp only[hlt,Q4]
      exact z4
   obtain⟨v,vs,r1,r2,r3,r4⟩:=key
   have hrv:=G1c (β:=β) hgl r2 r3 r4
   have hx:(execOp a.eval o).run X.P w=.ok (.value (if ok=true then .tuple #[v,.bool (decide (A2l ks (den ρ y).toL (den ρ q)<(den ρ y).toL.length))]else v)) w:=by
    simp only[execOp,ho,e2,v1,b2,r1,b0,b3]
   rw[hx]
   simp only at h
   split at h
   ·rename_i hok
    subst hok
    have hbool:R1 X.P w F ρ β (.one (.dat .bool (.cmp .lss (.mix ks y q) (.len y)))) (.bool (decide (A2l ks (den ρ y).toL (den ρ q)<(den ρ y).toL.length))):=by
     refine Rd.bool ?_
     simp[den,C3w]
    split at h
    ·rename_i c hv
     simp at h;obtain⟨rfl,rfl,rfl⟩:=h
     rw[hv]at hrv
     refine⟨_,rfl,[v,_],rfl,rfl,fun i c u hc hu=>?_⟩
     rcases i with _|_|i
     ·simp at hc hu;subst hc hu;exact hrv
     ·simp at hc hu;subst hc hu;exact hbool
     ·simp at hc
    ·rename_i cs hv
     simp at h;obtain⟨rfl,rfl,rfl⟩:=h
     rw[hv]at hrv
     refine⟨_,rfl,[v,_],rfl,rfl,fun i c u hc hu=>?_⟩
     rcases i with _|_|i
     ·simp at hc hu;subst hc hu;exact hrv
     ·simp at hc hu;subst hc hu;exact hbool
     ·simp at hc
    ·cases h
   ·rename_i hok
    simp at h;obtain⟨rfl,rfl,rfl⟩:=h
    exact⟨v,by simp[hok],hrv⟩
  ·cases h
 ·cases h
theorem E6n{X:Cx}{ρ:List D}{st:St}{F:Fr}{β:Nat→Value}{a:Act}{w:World}(hs:Sat X ρ st F β a w){t:TypeId}{m x:Operand}{y q:E}{k e:TypeId}{ks:List Nat}(h:D9v X.P st t m x=some (y,k,e,ks,q)):
  ∃ts g,X.P.underlying t=some (.map k e)∧A1b X.P w F ρ β (.map t y) (a.eval m)∧C1s X.P k=some ks∧A0r X.P k=some ts∧A1j X.P k=some g∧a.eval x=A4g g ts (den ρ q):=by
 unfold D9v at h
 split at h
 ·rename_i k' e' t' y' hm hn
  split at h
  ·rename_i ks' ts g sv hk hts hg hx
   split at h
   ·rename_i ht
    subst ht
    split at h
    ·rename_i q' hq
     simp at h;obtain⟨rfl,rfl,rfl,rfl,rfl⟩:=h
     have hu:X.P.underlying t=some (.map k' e'):=by
      unfold D7v at hm;split at hm
      ·rename_i k'' e'' hx;simp at hm;obtain⟨rfl,rfl⟩:=hm;exact hx
      ·cases hm
     obtain⟨e,h1,h2,h3,h4,h5⟩:=B9t hk hts hg
     exact⟨ts,g,hu,F9s (A0g hs hn),hk,hts,hg,E9b h3 (C4e hq (A3o hs hx))⟩
    ·cases h
   ·cases h
  ·cases h
 ·cases h
theorem F7b{X:Cx}{ρ:List D}{st:St}{F:Fr}{β:Nat→Value}{a:Act}{w:World}(hs:Sat X ρ st F β a w){o:Oper}{t:TypeId}{m x:Operand}{ok:Bool}(ho:o.op=.lookup t m x ok){es:List E}{sv:SV}{nb:Option Box}(h:E0n X.P st t m x ok=some (es,sv,nb))(nn:Nat):
  A7y X.P w F ρ β nn sv nb ((execOp a.eval o).run X.P w):=by
 unfold E0n at h
 split at h
 ·rename_i n y k e ks q hm
  obtain⟨ts,g,hu,hb,hk,hts,hg,e1,e2⟩:=D3a hs hm
  exact E4b ho hu hk hts hg (by rw[e1];exact hs.bx n _ hb) e2 h nn
 ·split at h
  ·rename_i y k e ks q hm
   obtain⟨ts,g,hu,hb,hk,hts,hg,e2⟩:=E6n (β:=β) hs hm
   exact E4b ho hu hk hts hg hb e2 h nn
  ·cases h
theorem G1r{P:Program}{w:World}{t xT:TypeId}{d:TypeDesc}(hd:P.underlying t=some d)(hnd:∀ms,d≠.interface ms)(v:Value)(ok:Bool):(b9 v xT t ok).run P w=
  match v with
  |.nilIface=>if ok=true then(do pure (.tuple #[←zeroValue t,.bool false]):Sem Value).run P w else(runtimePanic (.typeAssertion (some xT) none t ""):Sem Value).run P w
  |.iface t' u=>if t'=t then .ok (if ok=true then .tuple #[u,.bool true]else u) w else if ok=true then(do pure (.tuple #[←zeroValue t,.bool false]):Sem Value).run P w else(runtimePanic (.typeAssertion (some xT) (some t') t ""):Sem Value).run P w
  |_=>(b9 v xT t ok).run P w:=by
 cases v<;>try rfl
 all_goals
  unfold b9
  simp only[b2,A1a hd,b0]
  cases d<;>first|exact absurd rfl (hnd _)|skip
 all_goals(split<;>first|rfl|simp_all)
theorem F6z(hs:Sat X ρ st F β a w){o:Oper}{xT t:TypeId}{x:Operand}{ok:Bool}(ho:o.op=.typeAssert x xT t ok){es:List E}{sv:SV}{nb:Option Box}(h:D9t X.P st t x ok=some (es,sv,nb))(hes:∀e ∈ es,(den ρ e).toBool=true)(nn:Nat):
  A7y X.P w F ρ β nn sv nb ((execOp a.eval o).run X.P w):=by
 unfold D9t at h
 split at h
 ·rename_i u z e hu hz hx
  split at h
  ·cases h
  ·rename_i hne
   split at h
   ·rename_i u' z' htc
    split at h
    ·rename_i hu'
     subst hu'
     obtain⟨d,hd,hnd⟩:=E0z hu
     obtain⟨zv,hz1,hz2⟩:=Option.bind_eq_some_iff.1 hz
     have hzr:RC X.P w F ρ β (.dat u' z') zv:=htc▸E8k (C6u hz2)
     have run0:=D2x (w:=w) hz1
     have hr:=A0g hs hx
     have hq:=G1r (w:=w) (xT:=xT) hd (hnd hne) (a.eval x) ok
     have hrun:∀v,(b9 (a.eval x) xT t ok).run X.P w=.ok v w→(execOp a.eval o).run X.P w=.ok (.value v) w:=by
      intro v hv
      simp only[execOp,ho,b2,hv,b0]
      rfl
     cases hr with
     |D9s e1 e2=>
      have e1':(den ρ e).isIf t=false:=by rw[e1];rfl
      rw[e2]at hq hrun
      cases ok with
      |false=>
       simp at h;obtain⟨rfl,rfl,rfl⟩:=h
       have:=hes (B2q t e) (by simp)
       rw[A7v,e1']at this
       cases this
      |true=>
       simp at h;obtain⟨rfl,rfl,rfl⟩:=h
       refine⟨.tuple #[zv,.bool false],hrun _ (hq.trans (by simp only[Q5,b2,run0,b0];rfl)),[zv,.bool false],rfl,rfl,fun i c u hc hu=>?_⟩
       rcases i with _|_|i
       ·simp at hc hu;subst hc hu
        have:=C0t (ρ:=ρ) (P:=X.P) (w:=w) (F:=F) (t:=u') (c:=B2q t e) (a:=B5y e) (b:=z') (u:=zv) (v:=zv) (fun hh=>by rw[A7v,e1']at hh;cases hh) (fun _=>hzr)
        rw[ite_self]at this
        exact this
       ·simp at hc hu;subst hc hu
        exact Rd.bool (by rw[A7v,e1'];rfl)
       ·simp at hc
     |iface e1 e2 e3 e4 e5=>
      rename_i t' d' u'' v'
      have e1':(den ρ e).isIf t=(t' == t):=by rw[e1];rfl
      rw[e2]at hq hrun
      by_cases ht:t'=t
      ·subst ht
       have e1'':(den ρ e).isIf t'=true:=by rw[e1'];simp
       rw[hu]at e3;cases e3
       have hin:Rd X.P w F u' (den ρ (B5y e)) v':=by rw[C1j,e1];exact e5
       cases ok with
       |false=>
        simp at h;obtain⟨rfl,rfl,rfl⟩:=h
        exact⟨v',hrun _ (hq.trans (by simp)),hin⟩
       |true=>
        simp at h;obtain⟨rfl,rfl,rfl⟩:=h
        refine⟨.tuple #[v',.bool true],hrun _ (hq.trans (by simp)),[v',.bool true],rfl,rfl,fun i c u hc hu=>?_⟩
        rcases i with _|_|i
        ·simp at hc hu;subst hc hu
         have:=C0t (ρ:=ρ) (P:=X.P) (w:=w) (F:=F) (t:=u') (c:=B2q t' e) (a:=B5y e) (b:=z') (u:=v') (v:=v') (fun _=>hin) (fun hh=>by rw[A7v,e1'']at hh;cases hh)
         rw[ite_self]at this
         exact this
        ·simp at hc hu;subst hc hu
         exact Rd.bool (by rw[A7v,e1''];rfl)
        ·simp at hc
      ·have e1'':(den ρ e).isIf t=false:=by rw[e1'];simpa using ht
       cases ok with
       |false=>
        simp at h;obtain⟨rfl,rfl,rfl⟩:=h
        have:=hes (B2q t e) (by simp)
        rw[A7v,e1'']at this
        cases this
       |true=>
        simp at h;obtain⟨rfl,rfl,rfl⟩:=h
        refine⟨.tuple #[zv,.bool false],hrun _ (hq.trans (by simp only[ht,Q4,Q5,b2,run0,b0];rfl)),[zv,.bool false],rfl,rfl,fun i c u hc hu=>?_⟩
        rcases i with _|_|i
        ·simp at hc hu;subst hc hu
         have:=C0t (ρ:=ρ) (P:=X.P) (w:=w) (F:=F) (t:=u') (c:=B2q t e) (a:=B5y e) (b:=z') (u:=zv) (v:=zv) (fun hh=>by rw[A7v,e1'']at hh;cases hh) (fun _=>hzr)
         rw[ite_self]at this
         exact this
        ·simp at hc hu;subst hc hu
         exact Rd.bool (by rw[A7v,e1''];rfl)
        ·simp at hc
    ·cases h
   ·cases h
 ·cases h
theorem E9o(hb:∀n,(β n).oneCell'=true)(hs:Sat X ρ st F β a w){o:Oper}{ty:TypeId}{es:List E}{sv:SV}{nb:Option Box}(h:evV X.P st o.op ty=some (es,sv,nb))(hes:∀e ∈ es,(den ρ e).toBool=true):
  A7y X.P w F ρ β st.nn sv nb ((execOp a.eval o).run X.P w):=by
 unfold evV at h
 split at h<;>rename_i ho
 ·have:=C5v hs h st.nn;simpa[execOp,ho]using this
 ·have:=C5v hs h st.nn;simpa[execOp,ho]using this
 ·exact G5h hs ho h _
 ·split at h
  ·cases h
  ·exact E4a hs ho h
 ·split at h
  ·cases h
  ·exact E0w hs hb ho h
 ·exact G3c hb hs ho h _
 ·exact G4o hs ho h hes
 ·exact G9b hs ho h hes _
 ·exact H0a hs ho h hes _
 ·exact H6h hs ho h _
 ·exact G4a hs ho h _
 ·exact G6e hs ho h _
 ·exact G1u hs ho h hes _
 ·exact E7n hs ho h hes _
 ·exact G1o hs ho h _
 ·exact E6w hs ho h hes _
 ·exact G3p hs ho h hes _
 ·exact F7b hs ho h _
 ·exact F5v hs ho h _
 ·exact F6z hs ho h hes _
 ·rename_i fn fs cs
  split at h
  ·rename_i f h1 h2
   simp only[ev1,b1,bL]at h
   obtain⟨rfl,rfl,rfl⟩:=h
   have e1:fs=#[]:=by rw[←cF,h1]
   have e2:cs=#[]:=by rw[←cF,h2]
   subst e1 e2
   refine⟨.func (.func f) #[] #[],?_,?_⟩
   ·simp[execOp,ho,Instr.makeFunc]
   ·rfl
  ·cases h
 ·rename_i c
  split at h
  ·rename_i x t h1 h2 h3
   have e2:c.args=#[x]:=by rw[←cF,h2]
   have e3:c.argTypes=#[t]:=by rw[←cF,h3]
   exact H0h hs (by rw[ho];obtain⟨c1,c2,c3⟩:=c;simp only at h1 e2 e3;rw[h1,e2,e3]) h _
  ·rename_i x y h1 h2
   exact F9q (mx:=true) hs ho h1 (by rw[←cF,h2]) h _
  ·rename_i x y h1 h2
   exact F9q (mx:=false) hs ho h1 (by rw[←cF,h2]) h _
  ·cases h
 ·cases h
end
end Go.Proofs.YtckanieeocdpbaaGreat.Eng
