import Derived.Test.YtckanieeocdpbaaGreatEngF
open Nat renaming lt_of_lt_of_le→a0,add_zero→a4
open List renaming lookup_cons→a5,mem_of_getElem?→a6,all_eq_true→a7,eq_nil_of_length_eq_zero→a8,getElem?_append_right→a9,getElem?_eq_some_iff→aA,getElem?_append_left→aB,length_cons→aC,range→aD
open Bool renaming and_eq_true→aE
namespace Go.Proofs.YtckanieeocdpbaaGreat.Eng
set_option linter.unusedVariables false
inductive T where
 |ret (es:List E)
 |ite (c:E) (a b:T)
 |A9e (c:E) (t:T)
 |call (f:Nat) (args:List E) (k:Nat) (t:T)
 |any (a b:T)
 |loop (inits:List E) (body:T)
 |again (l:Nat) (es:List E)
 |jp (body t:T)
 |fail (why:Nat)
 |stop (st:St)
 deriving DecidableEq,Inhabited
abbrev Fn:=List D→Option (List D)
def A6j(g:Fn→Fn):Nat→Fn
 |0=>fun _=>none
 |n+1=>g (A6j g n)
open Classical in
noncomputable def both(x y:Option (List D)):Option (List D):=if x=y then x else none
theorem A8v{x y:Option (List D)}{r:List D}(h:both x y=some r):x=some r∧y=some r:=by
 unfold both at h
 split at h
 ·rename_i e;exact⟨h,e▸h⟩
 ·cases h
theorem C8q{x y:Option (List D)}{r:List D}(hx:x=some r)(hy:y=some r):both x y=some r:=by unfold both;rw[hx,hy,Q3 rfl]
theorem E8l(x:Option (List D)):both x x=x:=by unfold both;rw[Q3 rfl]
noncomputable def eval(Fs:Nat→Fn)(fuel:Nat):T→List Fn→List D→Option (List D)
 |.ret es,_,ρ=>some (es.map (den ρ))
 |.ite c a b,L,ρ=>if(den ρ c).toBool=true then eval Fs fuel a L ρ else eval Fs fuel b L ρ
 |.A9e c t,L,ρ=>if(den ρ c).toBool=true then eval Fs fuel t L ρ else none
 |.call f args k t,L,ρ=>match Fs f (args.map (den ρ))with
  |some r=>if r.length=k then eval Fs fuel t L (ρ++r)else none
  |none=>none
 |.any a b,L,ρ=>both (eval Fs fuel a L ρ) (eval Fs fuel b L ρ)
 |.loop inits body,L,ρ=>A6j (fun g xs=>eval Fs fuel body (L++[g]) (ρ++xs)) fuel (inits.map (den ρ))
 |.again l es,L,ρ=>match L[l]? with
  |some g=>g (es.map (den ρ))
  |none=>none
 |.jp body t,L,ρ=>eval Fs fuel t (L++[fun xs=>eval Fs fuel body L (ρ++xs)]) ρ
 |.fail _,_,_=>none
 |.stop _,_,_=>none
def C.noN(m:Nat):C→Bool
 |.ptr n _|.vec n|.A6c n _ _ _|.win n _ _ _|.lit n _=>n != m
 |.clo _ l=>!(l.any fun p=>p.1 == m)
 |_=>true
def V1.noN(m:Nat):V1→Bool|.one c=>c.noN m|.agg cs=>cs.all (C.noN m)
def SV.noN(m:Nat):SV→Bool|.one c=>c.noN m|.agg cs=>cs.all (C.noN m)|.tup l=>l.all (V1.noN m)
def Box.noN(m:Nat):Box→Bool|.box _ cs=>cs.all (C.noN m)|.vec _ _=>true|.view _ _ _=>true|.map _ _=>true
def C.sc(n:Nat):C→Bool
 |.dat _ e=>e.sc n
 |.A9m _ a i _=>a.sc n&&i.sc n
 |.B3e _ a _=>a.sc n
 |.A6c _ _ i _=>i.sc n
 |.win _ _ i j=>i.sc n&&j.sc n
 |.A8b _ a _=>a.sc n
 |_=>true
def V1.sc(n:Nat):V1→Bool|.one c=>c.sc n|.agg cs=>cs.all (C.sc n)
def SV.sc(n:Nat):SV→Bool|.one c=>c.sc n|.agg cs=>cs.all (C.sc n)|.tup l=>l.all (V1.sc n)
def Box.sc(n:Nat):Box→Bool|.box _ cs=>cs.all (C.sc n)|.vec _ x=>x.sc n|.view _ a _=>a.sc n|.map _ x=>x.sc n
structure S where
 st:St
 lv:Nat
 deriving DecidableEq,Inhabited
def St.fresh(st:St):Bool:=st.tm.all (fun p=>p.2.noN st.nn)&&st.bx.all (fun p=>p.1 != st.nn&&p.2.noN st.nn)
def St.sc(st:St):Bool:=st.tm.all (fun p=>p.2.sc st.nv)&&st.bx.all (fun p=>p.2.sc st.nv)&&st.fs.all (fun p=>p.1.sc st.nv)&&(st.hp.all (fun p=>p.2.sc st.nv)&&st.ex.all (fun p=>p.2.2.sc st.nv))
def St.upd(st:St)(dst:Option Tmp)(sv:SV)(nb:Option Box):St:=
 {st with
  tm:=match dst with|some d=>(d,sv)::st.tm|none=>st.tm
  bx:=match nb with|some b=>(st.nn,b)::st.bx|none=>st.bx
  nn:=match nb with|some _=>st.nn+1|none=>st.nn}
def frN(n:Nat)(k:Nat→T):T:=match n with|0=>k 0|m+1=>k (m+1)
def frL{α:Type}(f:α→(α→T)→T):List α→(List α→T)→T
 |[],k=>k []
 |x::xs,k=>f x fun x'=>frL f xs fun xs'=>k (x'::xs')
def frI(n:Int)(k:Int→T):T:=match n with|.ofNat m=>frN m fun m=>k (.ofNat m)|.negSucc m=>frN m fun m=>k (.negSucc m)
def frB(b:Bool)(k:Bool→T):T:=match b with|true=>k true|false=>k false
def frK(x:IntKind)(k:IntKind→T):T:=
 match x with|.i8=>k .i8|.i16=>k .i16|.i32=>k .i32|.i64=>k .i64|.u8=>k .u8|.u16=>k .u16|.u32=>k .u32|.u64=>k .u64
def frE:E→(E→T)→T
 |.var n,k=>frN n fun n=>k (.var n)
 |.int n,k=>frI n fun n=>k (.int n)
 |.bool b,k=>frB b fun b=>k (.bool b)
 |.str s,k=>k (.str s)
 |.nil,k=>k .nil
 |.ar op kd a b,k=>frE a fun a=>frE b fun b=>frK kd fun kd=>k (.ar op kd a b)
 |.cmp op a b,k=>frE a fun a=>frE b fun b=>k (.cmp op a b)
 |.not a,k=>frE a fun a=>k (.not a)
 |.beq a b,k=>frE a fun a=>frE b fun b=>k (.beq a b)
 |.conv kd a,k=>frE a fun a=>frK kd fun kd=>k (.conv kd a)
 |.ite c a b,k=>frE c fun c=>frE a fun a=>frE b fun b=>k (.ite c a b)
 |.len a,k=>frE a fun a=>k (.len a)
 |.get a b,k=>frE a fun a=>frE b fun b=>k (.get a b)
 |.cell a n,k=>frE a fun a=>frN n fun n=>k (.cell a n)
 |.A4p,k=>k .A4p
 |.A3c a b,k=>frE a fun a=>frE b fun b=>k (.A3c a b)
 |.app a b,k=>frE a fun a=>frE b fun b=>k (.app a b)
 |.sub c a b,k=>frE c fun c=>frE a fun a=>frE b fun b=>k (.sub c a b)
 |.B5o a,k=>frE a fun a=>k (.B5o a)
 |.F6a a b,k=>frE a fun a=>frE b fun b=>k (.F6a a b)
 |.F2l a b,k=>frE a fun a=>frE b fun b=>k (.F2l a b)
 |.F1x c a b,k=>frE c fun c=>frE a fun a=>frE b fun b=>k (.F1x c a b)
 |.E6y op a b,k=>frE a fun a=>frE b fun b=>k (.E6y op a b)
 |.E5g a,k=>frE a fun a=>k (.E5g a)
 |.B6o n a,k=>frE a fun a=>frN n fun n=>k (.B6o n a)
 |.F5t n a,k=>frE a fun a=>frN n fun n=>k (.F5t n a)
 |.ifv a,k=>frE a fun a=>k (.ifv a)
 |.ptr a,k=>frE a fun a=>k (.ptr a)
 |.and a b,k=>frE a fun a=>frE b fun b=>k (.and a b)
 |.or a b,k=>frE a fun a=>frE b fun b=>k (.or a b)
 |.set c a b,k=>frE c fun c=>frE a fun a=>frE b fun b=>k (.set c a b)
 |.B6u n a c v,k=>frN n fun n=>frE a fun a=>frN c fun c=>frE v fun v=>k (.B6u n a c v)
 |.rep a b,k=>frE a fun a=>frE b fun b=>k (.rep a b)
 |.C9x ks a b c,k=>frL frN ks fun ks=>frE a fun a=>frE b fun b=>frE c fun c=>k (.C9x ks a b c)
 |.D5m ks a b c,k=>frL frN ks fun ks=>frE a fun a=>frE b fun b=>frE c fun c=>k (.D5m ks a b c)
 |.mix ks a b,k=>frL frN ks fun ks=>frE a fun a=>frE b fun b=>k (.mix ks a b)
def G9t:Ty→(Ty→T)→T
 |.int x,k=>frK x fun x=>k (.int x)
 |.bool,k=>k .bool
 |.str,k=>k .str
 |.ifc,k=>k .ifc
 |.slice n,k=>frN n fun n=>k (.slice n)
 |.ptr n,k=>frN n fun n=>k (.ptr n)
 |.fn,k=>k .fn
 |.map n,k=>frN n fun n=>k (.map n)
def frC:C→(C→T)→T
 |.dat t e,k=>G9t t fun t=>frE e fun e=>k (.dat t e)
 |.ptr n off,k=>frN n fun n=>frN off fun off=>k (.ptr n off)
 |.A9m t a i c,k=>frN t fun t=>frE a fun a=>frE i fun i=>frN c fun c=>k (.A9m t a i c)
 |.B3e t a c,k=>frN t fun t=>frE a fun a=>frN c fun c=>k (.B3e t a c)
 |.vec n,k=>frN n fun n=>k (.vec n)
 |.A6c n t i c,k=>frN n fun n=>frN t fun t=>frE i fun i=>frN c fun c=>k (.A6c n t i c)
 |.lit n len,k=>frN n fun n=>frN len fun len=>k (.lit n len)
 |.win n t i j,k=>frN n fun n=>frN t fun t=>frE i fun i=>frE j fun j=>k (.win n t i j)
 |.A8b t a c,k=>frN t fun t=>frE a fun a=>frN c fun c=>k (.A8b t a c)
 |.fn f,k=>frN f fun f=>k (.fn f)
 |.clo f l,k=>frN f fun f=>frL (fun p k=>frN p.1 fun a=>frN p.2 fun b=>k (a,b)) l fun l=>k (.clo f l)
 |.B5m,k=>k .B5m
 |.C4k,k=>k .C4k
 |.E6k,k=>k .E6k
 |.B1g,k=>k .B1g
def H2j:V1→(V1→T)→T
 |.one c,k=>frC c fun c=>k (.one c)
 |.agg cs,k=>frL frC cs fun cs=>k (.agg cs)
def D4c:SV→(SV→T)→T
 |.one c,k=>frC c fun c=>k (.one c)
 |.agg cs,k=>frL frC cs fun cs=>k (.agg cs)
 |.tup l,k=>frL H2j l fun l=>k (.tup l)
def F1i:Box→(Box→T)→T
 |.box t cs,k=>frN t fun t=>frL frC cs fun cs=>k (.box t cs)
 |.vec t e,k=>frN t fun t=>frE e fun e=>k (.vec t e)
 |.view t a c,k=>frN t fun t=>frE a fun a=>frN c fun c=>k (.view t a c)
 |.map t e,k=>frN t fun t=>frE e fun e=>k (.map t e)
def frO(nb:Option Box)(k:Option Box→T):T:=match nb with|none=>k none|some b=>F1i b fun b=>k (some b)
def frP{α:Type}(f:α→(α→T)→T)(p:Nat × α)(k:Nat × α→T):T:=frN p.1 fun n=>f p.2 fun x=>k (n,x)
def frCf(cf:Cf)(k:Cf→T):T:=match cf with|⟨a,b,c,d,e,f,g⟩=>k ⟨a,b,c,d,e,f,g⟩
def G9a(hp:Option (Bool × E))(k:Option (Bool × E)→T):T:=match hp with|none=>k none|some (b,e)=>frB b fun b=>frE e fun e=>k (some (b,e))
def B0k(st:St)(k:St→T):T:=frL (frP D4c) st.tm fun tm=>frL (frP F1i) st.bx fun bx=>frN st.nn fun nn=>frN st.nv fun nv=>frL (fun p k=>frE p.1 fun e=>frB p.2 fun b=>k (e,b)) st.fs fun fs=>frL (fun p k=>frN p.1 fun n=>frN p.2.1 fun t=>frE p.2.2 fun e=>k (n,t,e)) st.ex fun ex=>frCf st.cf fun cf=>G9a st.hp fun hp=>k ⟨tm,bx,nn,nv,fs,ex,cf,hp⟩
theorem A2j(n:Nat)(k:Nat→T):frN n k=k n:=by cases n<;>rfl
theorem F8u:∀(l:List Nat) (k:List Nat→T),frL frN l k=k l
 |[],k=>rfl
 |x::xs,k=>by simp only[frL,A2j,F8u xs]
theorem A3d{α:Type}{f:α→(α→T)→T}(hf:∀x k,f x k=k x):∀(l:List α) (k:List α→T),frL f l k=k l
 |[],k=>rfl
 |x::xs,k=>by simp only[frL,hf,A3d hf xs]
theorem H7h(n:Int)(k:Int→T):frI n k=k n:=by cases n<;>simp only[frI,A2j]
theorem F3r(b:Bool)(k:Bool→T):frB b k=k b:=by cases b<;>rfl
theorem G4t(x:IntKind)(k:IntKind→T):frK x k=k x:=by cases x<;>rfl
theorem A5g:∀(e:E) (k:E→T),frE e k=k e:=by
 intro e
 induction e<;>intro k<;>simp only[frE,A2j,F8u,H7h,F3r,G4t, *]
theorem H4p(t:Ty)(k:Ty→T):G9t t k=k t:=by cases t<;>simp only[G9t,G4t,A2j]
theorem C4z(c:C)(k:C→T):frC c k=k c:=by
 cases c with
 |clo f l=>
  simp only[frC,A2j]
  exact A3d (fun p k=>by obtain⟨a,b⟩:=p;rfl) _ _
 |_=>simp only[frC,H4p,A5g,A2j]
theorem H5h(c:V1)(k:V1→T):H2j c k=k c:=by cases c<;>simp only[H2j,C4z,A3d C4z]
theorem C9n(c:SV)(k:SV→T):D4c c k=k c:=by cases c<;>simp only[D4c,C4z,A3d C4z,A3d H5h]
theorem F3q(c:Box)(k:Box→T):F1i c k=k c:=by cases c<;>simp only[F1i,A2j,A5g,A3d C4z]
theorem G5l{α:Type}{f:α→(α→T)→T}(hf:∀x k,f x k=k x)(p:Nat × α)(k:Nat × α→T):frP f p k=k p:=by obtain⟨n,x⟩:=p;simp only[frP,A2j,hf]
theorem H3q(cf:Cf)(k:Cf→T):frCf cf k=k cf:=by cases cf;rfl
theorem H5a(hp:Option (Bool × E))(k:Option (Bool × E)→T):G9a hp k=k hp:=by
 cases hp with
 |none=>rfl
 |some p=>obtain⟨b,e⟩:=p;simp only[G9a,F3r,A5g]
theorem A5s(st:St)(k:St→T):B0k st k=k st:=by
 obtain⟨tm,bx,nn,nv,fs,ex,cf,hp⟩:=st
 simp only[B0k,A3d (G5l C9n),A3d (G5l F3q),A2j,H3q,H5a]
 rw[A3d (fun p k=>by obtain⟨e,b⟩:=p;simp only[A5g,F3r]),A3d (fun p k=>by obtain⟨n,t,e⟩:=p;simp only[A5g])]
theorem F2q(c:Option Box)(k:Option Box→T):frO c k=k c:=by cases c<;>simp only[frO,F3q]
inductive Sh where
 |one (t:Ty)|agg (ts:List Ty)|row (e:TypeId)
 deriving DecidableEq,Inhabited
def Sh.size:Sh→Nat|.one _=>1|.agg ts=>ts.length|.row _=>1
def shOf(P:Program)(t:TypeId):Option Sh:=
 match D4t P t with
 |some u=>some (.one u)
 |none=>match A1j P t with
  |some true=>(A0r P t).map .agg
  |_=>none
def E2x(P:Program):List TypeId→Option (List Sh)
 |[]=>some []
 |t::ts=>match shOf P t,E2x P ts with
  |some s,some l=>some (s::l)
  |_,_=>none
def D7s(m:Nat):Nat→List Sh→List Sh
 |_,[]=>[]
 |i,.one (.slice e)::l=>(if m.testBit i then .row e else .one (.slice e))::D7s m (i+1) l
 |i,s::l=>s::D7s m (i+1) l
def B6c(P:Program)(cf:Cf)(f:Nat):Option (List Sh × List Sh × Nat):=
 match P.funcs[f]? with
 |some fn=>match E2x P fn.params.toList,E2x P fn.resultTypes.toList with
  |some ps,some rs=>if fn.body.isSome&&fn.name != "runtime.NumGoroutine" then some ((match cf.rp.lookup f with|some m=>D7s m 0 ps|none=>ps)++((cf.cp.lookup f).getD []).map (fun e=>.one (.ptr e)),match cf.rr.lookup f with|some m=>D7s m 0 rs|none=>rs,(cf.hm.lookup f).getD 0)else none
  |_,_=>none
 |none=>none
def C2n:List Ty→Nat→List C
 |[],_=>[]
 |t::ts,n=>.dat t (.var n)::C2n ts (n+1)
def Sh.mk(n nn:Nat):Sh→V1
 |.one t=>.one (.dat t (.var n))
 |.agg ts=>.agg (C2n ts n)
 |.row _=>.one (.vec nn)
def A5x:List Sh→Nat→Nat→List V1
 |[],_,_=>[]
 |s::l,n,nn=>s.mk n nn::A5x l (n+s.size) nn
def A3n(l:List Sh):Nat:=(l.map Sh.size).sum
def C9u(l:List Sh)(n nn:Nat):SV:=match A5x l n nn with|[v]=>v.sv|l=>.tup l
def A7h:List Sh→Nat→List Box
 |[],_=>[]
 |.row e::l,n=>.vec e (.var n)::A7h l (n+1)
 |s::l,n=>A7h l (n+s.size)
def Ty.flat:Ty→Bool|.int _|.bool|.str=>true|_=>false
def Sh.flat(P:Program):Sh→Bool
 |.one t=>t.flat
 |.agg ts=>ts.all Ty.flat
 |.row e=>match A0r P e with|some ts=>ts.all Ty.flat|none=>false
def D1n:Sh→SV→Option (List E)
 |.one t,.one c=>(mat t c).map ([·])
 |.agg ts,.agg cs=>A7e ts cs
 |_,_=>none
def F1j(P:Program)(st:St):C→C
 |.vec m=>match rowOf P st m with
  |some (e,y)=>.dat (.slice e) y
  |none=>.vec m
 |c=>c
def G6n(P:Program)(st:St):SV→SV
 |.one c=>.one (F1j P st c)
 |.agg cs=>.agg (cs.map (F1j P st))
 |s=>s
def G3t(st:St):C→Bool
 |.vec m=>match st.bx.lookup m with|some (.view _ _ _)=>false|_=>true
 |_=>true
def ownN(st:St):SV→Bool
 |.one c=>G3t st c
 |.agg cs=>cs.all (G3t st)
 |_=>true
def B2h:List Sh→List SV→Option (List E)
 |[],[]=>some []
 |s::ss,v::vs=>match D1n s v,B2h ss vs with
  |some a,some b=>some (a++b)
  |_,_=>none
 |_,_=>none
def A2x:List Sh→List SV→List Nat
 |.row _::ss,.one (.vec m)::vs=>m::A2x ss vs
 |_::ss,_::vs=>A2x ss vs
 |_,_=>[]
def G7d(P:Program)(st:St)(e:TypeId):SV→Option E
 |.one (.vec m)=>match st.bx.lookup m with
  |some (.vec e' y)=>if e=e' then some y else none
  |_=>none
 |.one .B5m=>if(A0r P e).isSome=true then some .A4p else none
 |_=>none
def B1a(P:Program)(st:St):List Sh→List SV→Option (List E)
 |[],[]=>some []
 |.row e::ss,v::vs=>match G7d P st e v,B1a P st ss vs with
  |some y,some es=>some (y::es)
  |_,_=>none
 |.one t::ss,v::vs=>match D1n (.one t) v,B1a P st ss vs with
  |some a,some b=>some (a++b)
  |_,_=>none
 |.agg t::ss,v::vs=>match D1n (.agg t) v,B1a P st ss vs with
  |some a,some b=>some (a++b)
  |_,_=>none
 |_,_=>none
def D0g(st:St):List Operand→Option (List SV)
 |[]=>some []
 |x::l=>match opV st x,D0g st l with
  |some v,some vs=>some (v::vs)
  |_,_=>none
def A8j:List E→T→T
 |[],t=>t
 |e::es,t=>if e=.bool true then A8j es t else .A9e e (A8j es t)
def addFact(e:E)(b:Bool)(fs:List (E × Bool)):List (E × Bool):=
 match e with
 |.not a=>(.not a,b)::(a,!b)::fs
 |e=>(e,b)::fs
def C.jk(m:Nat):C→C
 |.ptr n off=>if n=m then .B1g else .ptr n off
 |.vec n=>if n=m then .B1g else .vec n
 |.A6c n t i c=>if n=m then .B1g else .A6c n t i c
 |.win n t i j=>if n=m then .B1g else .win n t i j
 |.lit n len=>if n=m then .B1g else .lit n len
 |.clo f l=>if(l.any fun p=>p.1 == m)=true then .B1g else .clo f l
 |c=>c
def V1.jk(m:Nat):V1→V1|.one c=>.one (c.jk m)|.agg cs=>.agg (cs.map (C.jk m))
def SV.jk(m:Nat):SV→SV|.one c=>.one (c.jk m)|.agg cs=>.agg (cs.map (C.jk m))|.tup l=>.tup (l.map (V1.jk m))
def Box.jk(m:Nat):Box→Box|.box t cs=>.box t (cs.map (C.jk m))|b=>b
def C.fz(m:Nat)(q:Ty)(y:E):C→C
 |.vec n=>if n=m then .dat q y else .vec n
 |.A6c n t i c=>if n=m then(if q=.slice t then .A9m t y i c else .B1g)else .A6c n t i c
 |.win n t i j=>if n=m then .B1g else .win n t i j
 |c=>c
def V1.fz(m:Nat)(q:Ty)(y:E):V1→V1|.one c=>.one (c.fz m q y)|.agg cs=>.agg (cs.map (C.fz m q y))
def SV.fz(m:Nat)(q:Ty)(y:E):SV→SV|.one c=>.one (c.fz m q y)|.agg cs=>.agg (cs.map (C.fz m q y))|.tup l=>.tup (l.map (V1.fz m q y))
def Box.fz(m:Nat)(q:Ty)(y:E):Box→Box|.box t cs=>.box t (cs.map (C.fz m q y))|b=>b
def G8s:Option Box→Option (Ty × E)
 |some (.vec e y)=>some (.slice e,y)
 |some (.map t y)=>some (.map t,y)
 |_=>none
def St.fz(st:St)(m:Nat):St:=
 match G8s (st.bx.lookup m)with
 |some (q,y)=>{st with tm:=st.tm.map fun p=>(p.1,p.2.fz m q y),bx:=(st.bx.filter fun p=>p.1 != m).map fun p=>(p.1,p.2.fz m q y)}
 |none=>st
def St.fzs(st:St)(l:List Nat):St:=l.foldl St.fz st
def St.grow(st:St)(m:Nat)(e:TypeId)(y:E):St:={st with tm:=st.tm.map fun p=>(p.1,p.2.jk m),bx:=(m,.vec e y)::(st.bx.filter fun p=>p.1 != m).map fun p=>(p.1,p.2.jk m)}
def C.rows:C→List Nat
 |.vec n|.A6c n _ _ _|.win n _ _ _=>[n]
 |_=>[]
def V1.rows:V1→List Nat|.one c=>c.rows|.agg cs=>cs.flatMap C.rows
def SV.rows:SV→List Nat|.one c=>c.rows|.agg cs=>cs.flatMap C.rows|.tup l=>l.flatMap V1.rows
def Box.rows:Box→List Nat|.box _ cs=>cs.flatMap C.rows|_=>[]
def St.rowsOf(st:St)(l:List Operand):List Nat:=l.flatMap fun x=>match opV st x with
 |some (.one (.ptr n _))=>match st.bx.lookup n with|some b=>b.rows|none=>[]
 |some v=>v.rows
 |none=>[]
def St.allRows(st:St):List Nat:=st.bx.filterMap fun p=>match p.2 with|.vec _ _=>some p.1|.map _ _=>some p.1|_=>none
def St.D1f(st:St)(m:Nat):St:={st with tm:=st.tm.map fun p=>(p.1,p.2.jk m),bx:=(st.bx.filter fun p=>p.1 != m).map fun p=>(p.1,p.2.jk m)}
def St.A2u(st:St)(l:List Nat):St:=l.foldl St.D1f st
def St.views(st:St):List Nat:=st.bx.filterMap fun p=>match p.2 with|.view _ _ _=>some p.1|_=>none
def St.A5a(st:St)(tt:TypeId)(c len:Nat):List Nat:=st.bx.filterMap fun p=>match p.2 with
 |.view t _ c'=>if t=tt∧c≤c'∧c'<c+len then some p.1 else none
 |_=>none
def St.newRow(st:St)(e:TypeId):St:={st with bx:=(st.nn,.vec e .A4p)::st.bx,nn:=st.nn+1}
section
variable(P:Program)(nt:Nat)
def A3a(dst:Option Tmp):Bool:=match dst with|some d=>decide (d<nt)|none=>true
def E3m(st:St):Option Box→Bool|none=>true|some b=>st.fresh&&b.noN st.nn
def doV(st:St)(o:Oper)(K:St→T):Option T:=
 match evV P st o.op o.type with
 |some (es,sv,nb)=>if A3a nt o.dst&&E3m st nb then some (A8j es (D4c sv fun sv=>frO nb fun nb=>K (st.upd o.dst sv nb)))else none
 |none=>none
def E7l(st:St)(t:TypeId)(x v:Operand)(K:St→T):T:=
 match opC st x,opV st v with
 |some (.ptr n off),some sv=>match st.bx.lookup n,sv.cells with
  |some (.box bt cs),some xs=>if A3k P t=some xs.length∧off+xs.length≤cs.length then K {st with bx:=(n,.box bt (putCells cs off xs))::st.bx} else .fail 1
  |_,_=>.fail 2
 |_,_=>.fail 3
def C4y(st:St)(ps rs:List Sh)(hm:Nat)(vs:List SV):Option (List E):=
 match B1a P st ps vs with
 |some es=>some es
 |none=>if hm≤1∧rs.all (Sh.flat P)=true∧(hm=0∨vs.all (ownN st)=true)then B2h ps (vs.map (G6n P st))else none
def C3l(st:St)(hm:Nat):Option (List E):=
 match hm with
 |0=>some []
 |1=>if st.ex=[]then st.hp.map fun p=>[p.2]else none
 |2=>if st.ex=[]then match st.hp with
  |some (true,h)=>some [h]
  |_=>none
  else none
 |_=>none
def C0u(st:St)(dst:Option Tmp)(rs:List Sh)(hm:Nat):St:=
 let n:=st.nv+A3n rs
 {st.upd dst (C9u rs st.nv st.nn) (A7h rs st.nv).head? with nv:=if hm=2 then n+1 else n,hp:=if hm=2 then some (true,.var n)else st.hp}
def C9i(rs:List Sh)(hm:Nat):Nat:=if hm=2 then A3n rs+1 else A3n rs
def G7t(st:St)(l:List Nat)(k:St→T):T:=match l with|[]=>k st|l=>B0k (st.A2u l) k
def D7g(st:St)(dst:Option Tmp)(f:Nat)(vs:List SV)(K:St→T):T:=
 match B6c P st.cf f with
 |some (ps,rs,hm)=>match C4y P st ps rs hm vs,C3l st hm with
  |some es,some hs=>
   if(A2x ps vs).length≤1 then G7t st (A2x ps vs++if hm=2 then st.views else[]) fun st1=>if st1.sc&&st1.fresh&&A3a nt dst&&decide ((A7h rs st1.nv).length≤1)then .call f (es++hs) (C9i rs hm) (K (C0u st1 dst rs hm))else .fail 4
   else .fail 7
  |_,_=>.fail 5
 |none=>.fail 6
def E2s(st:St)(dst:Option Tmp)(f:Nat)(args:List Operand)(K:St→T):T:=
 match D0g st args with
 |some vs=>D7g P nt st dst f vs K
 |none=>.fail 6
def C2u(e:E):Nat→List TypeId→List SV
 |_,[]=>[]
 |i,t::ts=>.one (.dat (.ptr t) (B5y (C0p (B5y e) i)))::C2u e (i+1) ts
def C3n(e:E):Nat→List TypeId→List E
 |_,[]=>[]
 |i,t::ts=>B2q t (C0p (B5y e) i)::C3n e (i+1) ts
def D3w(st:St)(dst:Option Tmp)(e:E)(vs:List SV)(K:St→T):List (Nat × List TypeId)→T
 |[]=>.fail 112
 |(f,ts)::l=>match B2q f e with
  |.bool false=>D3w st dst e vs K l
  |c=>.ite c (A8j (A8t .eql (D7l (B5y e)) (.int ts.length)::C3n e 0 ts) (D7g P nt st dst f (vs++C2u e 0 ts) K)) (D3w st dst e vs K l)
def H2g(st:St)(ty:TypeId)(e:E)(vs:List SV):List (Nat × List TypeId):=
 st.cf.cp.filter fun p=>match B6c P st.cf p.1 with
  |some (ps,rs,hm)=>(C4y P st ps rs hm (vs++C2u e 0 p.2)).isSome&&(match rs with|[s]=>decide (shOf P ty=some s)|_=>true)
  |none=>false
def F4c(st:St)(e:TypeId)(x:Operand):Option (E × St):=
 match opC st x with
 |some (.ptr n 0)=>match st.bx.lookup n,A0r P e with
  |some (.box bt cs),some ts=>match A7e ts cs with
   |some es=>if st.cf.hc.contains e=false then some (A4e es,{st with bx:=st.bx.filter fun p=>p.1 != n})else none
   |none=>none
  |_,_=>none
 |some c=>(mat (.ptr e) c).map fun x=>(x,st)
 |none=>none
def C3y:St→List TypeId→List Operand→Option (List E × St)
 |st,[],[]=>some ([],st)
 |st,e::es,x::xs=>match F4c P st e x with
  |some (y,st1)=>match C3y st1 es xs with
   |some (ys,st2)=>some (.B6o e y::ys,st2)
   |none=>none
  |none=>none
 |_,_,_=>none
def G9u(st:St)(dst:Option Tmp)(f:Nat)(caps:List Operand)(K:St→T):T:=
 match C3y P st ((st.cf.cp.lookup f).getD []) caps with
 |some (es,st1)=>if A3a nt dst then frE (A4e es) fun d=>B0k st1 fun st1=>K (st1.upd dst (.one (.dat .fn (.B6o f d))) none)else .fail 110
 |none=>.fail 111
def G8b(st:St)(f:Nat)(args:List Operand):List Nat:=match B6c P st.cf f,D0g st args with
 |some (ps,_,_),some vs=>(st.rowsOf args).filter fun m=>!(A2x ps vs).contains m
 |_,_=>st.rowsOf args
def H8a(st:St)(f:Nat):Bool:=match B6c P st.cf f with|some (ps,rs,hm)=>decide (hm≤1)&&rs.all (Sh.flat P)&&(A7h ps 0).isEmpty|none=>false
def D9n(st:St)(dst:Option Tmp)(t:TypeId)(x:Operand)(K:St→T):T:=
 match opC st x,D4t P t with
 |some (.ptr n 0),some (.ptr e)=>match st.bx.lookup n,A0r P e with
  |some (.box _ cs),some ts=>match A7e ts cs with
   |some es=>if A3a nt dst&&!st.cf.hc.contains e then K ({st with bx:=st.bx.filter (fun p=>p.1 != n)}.upd dst (.one (.dat .ifc (.B6o t (A4e es)))) none)else .fail 7
   |none=>.fail 8
  |_,_=>.fail 9
 |_,_=>.fail 10
def D7p(e:TypeId):Option Nat:=
 match P.info? e,A0r P e with
 |some i,some ts=>match i.zero with
  |some z=>if z.cells.size=i.size∧0<i.size∧ts.length=i.size then some i.bytes else none
  |none=>none
 |_,_=>none
def C1d(bytes:Nat):Nat:=140737488355328/max bytes 1
def mkApp:E→E→E
 |.A4p,d=>d
 |.A3c a b,d=>.A3c a (mkApp b d)
 |c,.A4p=>c
 |c,d=>.app c d
def D7h(st:St)(e:TypeId)(m:Nat)(x:Operand):Option E:=
 match opC st x with
 |some (.dat (.slice e') y)=>if e=e' then some y else none
 |some .B5m=>some .A4p
 |some (.vec k)=>if k=m then none else match rowOf P st k with
  |some (e',y)=>if e=e' then some y else none
  |_=>none
 |_=>none
def St.B2u(st:St)(m:Nat)(e:TypeId)(y:E)(t:TypeId)(a:E)(j:Nat):St:=
 let s:=st.A2u ((st.A5a t j 1).filter fun n=>n != m)
 {s with bx:=(m,.vec e y)::s.bx,ex:=(j,t,a)::s.ex}
def B7h(st:St)(dst:Option Tmp)(e:TypeId)(m:Nat)(c:E)(y:Operand)(K:St→T):T:=
 match D7p P e,D7h P st e m y with
 |some bytes,some d=>frE (mkApp c d) fun cd=>.A9e (.cmp .leq (.len cd) (.int (C1d bytes))) (B0k (st.grow m e cd) fun st'=>K (st'.upd dst (.one (.vec m)) none))
 |_,_=>.fail 60
def E0k(st:St)(dst:Option Tmp)(t:TypeId)(x y:Operand)(K:St→T):T:=
 match P.underlying t with
 |some (.slice e)=>if A3a nt dst then match opC st x with
  |some (.vec m)=>match st.bx.lookup m with
   |some (.vec e' c)=>if e'=e then B7h P st dst e m c y K else .fail 61
   |some (.view ot a j)=>match rowOf P st m,st.hp with
    |some (e',c),some (true,_)=>if e'=e∧(P.underlying t).isSome=true then match D7h P st e m y with
     |some d=>B0k (st.B2u m e c ot a j) fun st1=>B7h P st1 dst e m c y K
     |none=>.fail 107
     else .fail 108
    |_,_=>.fail 109
   |_=>.fail 62
  |some .B5m=>if st.fresh&&(D7p P e).isSome then B7h P (st.newRow e) dst e st.nn .A4p y K else .fail 63
  |_=>.fail 64
  else .fail 65
 |_=>.fail 66
def G0z(e:TypeId):Option E:=
 match B3y P e,A0r P e with
 |some zs,some ts=>match A7e ts zs with
  |some es=>some (if ts.length=1 then es.headD .nil else A4e es)
  |none=>none
 |_,_=>none
def F3z(st:St)(dst:Option Tmp)(t:TypeId)(l c:Operand)(K:St→T):T:=
 match P.underlying t with
 |some (.slice e)=>match opC st l,opC st c,D7p P e,G0z P e with
  |some (.dat (.int k) n),some (.dat (.int k') n'),some bytes,some z=>if n=n'∧A3a nt dst=true∧st.fresh=true then
    A8j [A8t .geq n (.int 0),A8t .leq n (.int (C1d bytes))] (K ({st with bx:=(st.nn,.vec e (.rep n z))::st.bx,nn:=st.nn+1}.upd dst (.one (.vec st.nn)) none))else .fail 67
  |_,_,_,_=>.fail 68
 |_=>.fail 69
def C6y(n:Nat):E→Nat→List E→E
 |a,_,[]=>a
 |a,c,e::es=>C6y n (.B6u n a c e) (c+1) es
def D9p(st:St)(t:TypeId)(x v:Operand)(K:St→T):T:=
 match opC st x,opV st v with
 |some (.A6c m tt i c),some sv=>match st.bx.lookup m,sv.cells,A0r P tt with
  |some (.vec e y),some xs,some ts=>if e=tt∧A3k P t=some xs.length∧c+xs.length≤ts.length∧0<xs.length then
    match A7e ((ts.drop c).take xs.length) xs with
    |some es=>
     let el:=if ts.length=1 then es.headD .nil else if c=0∧es.length=ts.length then A4e es else C6y ts.length (.get y i) c es
     frE (.set y i el) fun y'=>K {st with bx:=(m,.vec e y')::st.bx}
    |none=>.fail 70
    else .fail 71
  |_,_,_=>.fail 72
 |_,_=>.fail 73
def F4s(op:BinOp)(z:E)(t f:T):T:=match op with
 |.eql=>.ite (A8t .eql (.len z) (.int 0)) (.any t f) f
 |.neq=>.ite (A8t .eql (.len z) (.int 0)) (.any f t) t
 |_=>.fail 117
def F3t(st:St)(dst:Option Tmp)(op:BinOp)(t:TypeId)(x:Operand)(K:St→T):T:=
 let ans:=fun b=>K (st.upd dst (.one (.dat .bool (.bool b))) none)
 let go:=fun y=>if A3a nt dst=true then F4s op y (ans true) (ans false)else .fail 118
 match P.underlying t,opC st x with
 |some (.slice _),some (.dat (.slice _) y)=>go y
 |some (.slice _),some (.vec m)=>match rowOf P st m with
  |some (_,y)=>go y
  |none=>.fail 119
 |_,_=>.fail 120
def F5y(st:St)(dst:Option Tmp)(t:TypeId)(K:St→T):T:=
 match P.underlying t with
 |some (.slice e)=>if A3a nt dst&&st.fresh&&(A3k P e).isSome&&(A0r P e).isSome&&(B3y P e).isSome then K ((st.newRow e).upd dst (.one (.vec st.nn)) none)else .fail 121
 |_=>.fail 122
def H5i(st:St)(parts:List (Nat × Operand)):Bool:=parts.any fun p=>match opC st p.2 with
 |some (.A6c _ _ _ _)|some (.A9m _ _ _ _)|some (.B3e _ _ _)=>true
 |_=>false
def F6f(st:St)(dst:Option Tmp)(t:TypeId)(len:Nat)(parts:Array (Nat × Operand))(K:St→T):T:=
 match P.underlying t with
 |some (.slice e)=>match A3k P e,B3y P e,E0o st parts.toList with
  |some n,some zs,some vs=>if zs.length=n∧0<n∧0<len∧len*n≤2 ^ 24∧A3a nt dst=true∧st.fresh=true then
    match B8m (fun i=>some (i*n,n)) ((aD (len*n)).map fun j=>zs.getD (j%n) .B1g) vs with
    |some cs=>frL frC cs fun cs=>if cs.all (C.noN st.nn)then K ((st.upd none (.tup []) (some (.box e cs))).upd dst (.one (.lit st.nn len)) none)else .fail 140
    |none=>.fail 141
   else .fail 142
  |_,_,_=>.fail 143
 |_=>.fail 144
def F3d:Operand→Bool|.const (.slice none 0 0)=>true|_=>false
def isZero:Option Operand→Bool
 |none=>true
 |some (.const (.int _ 0))=>true
 |_=>false
def E6m(st:St)(dst:Option Tmp)(t:TypeId)(x:Operand)(K:St→T):T:=
 match P.underlying t,opC st x with
 |some (.slice e),some (.dat (.slice _) _)=>if A3a nt dst&&st.fresh&&(A3k P e).isSome&&(A0r P e).isSome then K ((st.newRow e).upd dst (.one (.vec st.nn)) none)else .fail 115
 |some (.slice e),some (.vec m)=>if A3a nt dst&&st.fresh&&(A3k P e).isSome&&(A0r P e).isSome&&(rowOf P st m).isSome then K ((st.newRow e).upd dst (.one (.vec st.nn)) none)else .fail 115
 |_,_=>.fail 116
def E1j(st:St)(dst:Option Tmp)(e:TypeId)(m:Nat)(c l h:E)(K:St→T):T:=
 A8j [.cmp .leq (.int 0) l,.cmp .leq l h,.cmp .leq h (.len c)] (frE (.sub c l h) fun y=>B0k (st.grow m e y) fun st'=>K (st'.upd dst (.one (.vec m)) none))
def F4b(st:St)(dst:Option Tmp)(t:TypeId)(x:Operand)(lo hi mx:Option Operand)(K:St→T):T:=
 match P.underlying t,opC st x,mx with
 |some (.slice e),some (.vec m),none=>match st.bx.lookup m with
  |some (.view ot a j)=>match rowOf P st m,st.hp with
   |some (e',c),some (true,_)=>match A9n st lo (.int 0),A9n st hi (.len c),A3k P e,A0r P e with
    |some l,some h,some n,some ts=>if e'=e∧0<n∧ts.length=n∧A3a nt dst=true then B0k (st.B2u m e c ot a j) fun st1=>E1j st1 dst e m c l h K else .fail 197
    |_,_,_,_=>.fail 198
   |_,_=>.fail 199
  |_=>.fail 55
 |_,_,_=>.fail 56
def F1h(st:St)(t:TypeId)(x:Operand)(lo hi mx:Option Operand):Option (List E × SV):=
 match P.underlying t,opC st x,mx with
 |some (.slice e),some (.vec m),none=>match st.bx.lookup m with
  |some (.vec e' y)=>match A9n st lo (.int 0),A9n st hi (.len y),A0r P e,A3k P e with
   |some l,some h,some ts,some n=>if e=e'∧ts.length=n then some ([.cmp .leq (.int 0) l,.cmp .leq l h,.cmp .leq h (.len y)],.one (.win m e l h))else none
   |_,_,_,_=>none
  |_=>none
 |_,_,_=>none
def G2f(st:St)(dst:Option Tmp)(t:TypeId)(x:Operand)(lo hi mx:Option Operand)(K:St→T):T:=
 match F1h P st t x lo hi mx with
 |some (es,sv)=>if A3a nt dst=true then A8j es (K (st.upd dst sv none))else .fail 124
 |none=>.fail 125
def E5r(st:St)(dst:Option Tmp)(t:TypeId)(K:St→T):T:=
 match D7v P t with
 |some (k,e)=>if A3a nt dst&&st.fresh&&(A0r P k).isSome&&(A0r P e).isSome&&(A1j P k).isSome&&(A1j P e).isSome then K ({st with bx:=(st.nn,.map t .A4p)::st.bx,nn:=st.nn+1}.upd dst (.one (.vec st.nn)) none)else .fail 150
 |none=>.fail 151
def D0u(st:St)(dst:Option Tmp)(t:TypeId)(m x v:Operand)(K:St→T):T:=
 match mapArgs P st t m x with
 |some (n,y,k,e,ks,q)=>match A0r P e,A1j P e,opV st v with
  |some us,some g,some sv=>match D6o us g sv with
   |some d=>if dst=none then frE (.D5m ks y q d) fun y'=>K {st with bx:=(n,.map t y')::st.bx} else .fail 152
   |none=>.fail 153
  |_,_,_=>.fail 154
 |none=>.fail 155
def B2g(st:St):List OTy→List C→Option (List E × List Nat)
 |[],[]=>some ([],[])
 |o::os,c::cs=>match B2g st os cs with
  |some (es,ms)=>match o with
   |.dat t=>(mat t c).map fun e=>(e::es,ms)
   |.row _ e=>match c with
    |.B5m=>if(A0r P e).isSome=true then some (.A4p::es,ms)else none
    |.vec m=>match st.bx.lookup m with
     |some (.vec e' y)=>if e=e'∧ms.contains m=false then some (y::es,m::ms)else none
     |_=>none
    |_=>none
  |none=>none
 |_,_=>none
def C6n(n:Nat):E→Nat→List E→E
 |a,_,[]=>a
 |a,c,e::es=>C6n n (B9x n a c e) (c+1) es
def F1d(st:St)(dst:Option Tmp)(t:TypeId)(cs:List C)(K:St→T):T:=
 match st.hp,D2o P st.cf.ob t with
 |some (true,h),some os=>match B2g P st os cs with
  |some (es,ms)=>if A3a nt dst=true∧st.ex=[]then
    frE (B8j h (A4e es)) fun h'=>frE (D7l h) fun x=>B0k (st.A2u ms) fun st'=>K ({st' with hp:=some (true,h')}.upd dst (.one (.dat (.ptr t) x)) none)
   else .fail 90
  |none=>.fail 91
 |_,_=>.fail 92
def D9m(st:St)(t:TypeId)(es0:List E)(tt:TypeId)(a:E)(c:Nat)(sv:SV)(K:St→T):T:=
 match st.hp,D2o P st.cf.ob tt,sv.cells with
 |some (true,h),some os,some xs=>match B2g P st ((os.drop c).take xs.length) xs with
  |some (es,ms)=>if A3k P t=some xs.length∧c+xs.length≤os.length∧0<xs.length∧st.ex.all (fun x=>!(decide (c≤x.1)&&decide (x.1<c+xs.length)) || decide (x.2.2=a))=true then
    A8j es0 (frE (mkSet h a (C6n os.length (mkGet h a) c es)) fun h'=>B0k (st.A2u (ms++st.A5a tt c xs.length)) fun st'=>K {st' with hp:=some (true,h'),ex:=st'.ex.filter fun x=>!(decide (c≤x.1)&&decide (x.1<c+xs.length))})
   else .fail 93
  |none=>.fail 94
 |_,_,_=>.fail 95
def E1c(st:St)(t:TypeId)(m:Nat)(tt:TypeId)(i:E)(k:Nat)(sv:SV)(K:St→T):T:=
 match st.bx.lookup m,sv.cells,A0r P tt with
 |some (.view ot a j),some xs,some ts=>match rowOf P st m,st.hp,D2o P st.cf.ob ot with
  |some (e,y),some (true,h),some os=>if e=tt∧A3k P t=some xs.length∧k+xs.length≤ts.length∧0<xs.length then
    match A7e ((ts.drop k).take xs.length) xs with
    |some es=>
     let el:=if ts.length=1 then es.headD .nil else if k=0∧es.length=ts.length then A4e es else C6y ts.length (.get y i) k es
     frE (mkSet h a (B9x os.length (mkGet h a) j (.set y i el))) fun h'=>K {st with hp:=some (true,h')}
    |none=>.fail 96
    else .fail 97
  |_,_,_=>.fail 98
 |_,_,_=>.fail 99
def F4f(st:St)(dst:Option Tmp)(t:TypeId)(es:List E)(tt:TypeId)(a:E)(c:Nat)(K:St→T):T:=
 match st.hp,D2o P st.cf.ob tt with
 |some (true,h),some os=>match os[c]?,P.underlying t,A3k P t with
  |some (.row true e),some (.slice e'),some 1=>
   if e=e'∧F4m st.ex c=false∧A3a nt dst=true∧st.fresh=true then
    A8j (es++[mkNot (A8x (B0a (mkGet h a) c))])
     (frE (B0a (mkGet h a) c) fun y=>frE (mkSet h a (B9x os.length (mkGet h a) c .nil)) fun h'=>K ({st with bx:=(st.nn,.vec e y)::st.bx,nn:=st.nn+1,hp:=some (true,h')}.upd dst (.one (.vec st.nn)) none))
   else .fail 200
  |_,_,_=>.fail 13
 |_,_=>.fail 13
def B8s(st:St)(l:List Nat)(k:St→T):T:=match l with|[]=>k st|l=>B0k (st.fzs l) k
def G1k(st:St)(o:Oper)(K:St→T):T:=
 match o.op with
  |.store t x v=>if o.dst=none then match opC st x with
   |some (.A6c m tt i c)=>match st.bx.lookup m,opV st v with
    |some (.view _ _ _),some sv=>E1c P st t m tt i c sv K
    |_,_=>D9p P st t x v K
   |some (.ptr _ _)=>E7l P st t x v K
   |some cx=>match asH st cx,opV st v with
    |some (es,tt,a,c),some sv=>D9m P st t es tt a c sv K
    |_,_=>.fail 100
   |none=>.fail 101
   else .fail 11
  |.alloc t=>match B3y P t with
   |some cs=>if st.cf.hc.contains t then F1d P nt st o.dst t cs K else .fail 102
   |none=>.fail 103
  |.box t x=>match opV st x with
   |some sv=>match sv.cells with
    |some cs=>if st.cf.hc.contains t then F1d P nt st o.dst t cs K else .fail 104
    |none=>.fail 105
   |none=>.fail 106
  |.call c=>match c.callee with
   |.value x=>match opC st x with
    |some (.fn f)=>if H8a P st f then E2s P nt st o.dst f c.args.toList K else B8s st (G8b P st f c.args.toList) fun st'=>E2s P nt st' o.dst f c.args.toList K
    |some (.dat .fn _)=>B8s st (st.rowsOf c.args.toList) fun st'=>match opC st' x,D0g st' c.args.toList with
     |some (.dat .fn e),some vs=>D3w P nt st' o.dst e vs K (H2g P st' o.type e vs)
     |_,_=>.fail 113
    |_=>.fail 12
   |.builtin .append=>match c.args.toList,c.argTypes.toList with
    |[x,y],[t,t']=>if t=t' then E0k P nt st o.dst t x y K else .fail 53
    |_,_=>.fail 54
   |_=>.fail 12
  |.makeInterface t x=>B8s st (st.rowsOf [x]) fun st'=>match doV P nt st' o K with
   |some t=>t
   |none=>D9n P nt st' o.dst t x K
  |.buildSlice t n parts=>if n=0∧parts.toList=[]then F5y P nt st o.dst t K else if H5i st parts.toList then F6f P nt st o.dst t n parts K else B8s st (st.rowsOf (parts.toList.map (·.2))) fun st'=>match evB P st' t n parts with
   |some sv=>if A3a nt o.dst then D4c sv fun sv=>K (st'.upd o.dst sv none)else .fail 50
   |none=>.fail 51
  |.makeSlice t l c=>F3z P nt st o.dst t l c K
  |.load t x=>(match opC st x with
   |some cx=>(match asH st cx with
    |some (es,tt,a,c)=>F4f P nt st o.dst t es tt a c K
    |none=>.fail 13)
   |none=>.fail 13)
  |.makeMap t none=>E5r P nt st o.dst t K
  |.mapUpdate t m x v=>D0u P st o.dst t m x v K
  |.insert t m x v=>D0u P st o.dst t m x v K
  |.panic _=>.A9e (.bool false) (.ret [])
  |.binOp op t x y _=>if F3d y then F3t P nt st o.dst op t x K else .fail 123
  |.makeFunc fn fs cs=>match fn,fs.toList with
   |.func f,[]=>B8s st (st.rowsOf cs.toList) fun st'=>G9u P nt st' o.dst f cs.toList K
   |_,_=>.fail 114
  |.slice t x lo hi mx=>if isZero lo&&hi.isSome&&isZero hi&&mx.isSome&&isZero mx then E6m P nt st o.dst t x K else B8s st (st.rowsOf [x]) fun st'=>match doV P nt st' o K with
   |some t=>t
   |none=>F4b P nt st' o.dst t x lo hi mx K
  |_=>.fail 13
def E6z(st:St)(o:Oper)(K:St→T):T:=
 match doV P nt st o K with
 |some t=>t
 |none=>G1k P nt st o K
def doG(ops:Array Oper)(st:St)(o:Oper)(K:St→T):T:=
 match o.guard with
 |none=>E6z P nt st o K
 |some (j,want)=>match (ops[j]?).bind (·.dst)with
  |some d=>match st.at d with
   |some (.one (.dat .bool e))=>match known st e with
    |some b=>if b=want then E6z P nt st o K else(if A3a nt o.dst then K (st.upd o.dst (.tup []) none)else .fail 14)
    |none=>if A3a nt o.dst then
      .ite e (if want then E6z P nt {st with fs:=addFact e true st.fs} o K else K ({st with fs:=addFact e true st.fs}.upd o.dst (.tup []) none))
       (if want then K ({st with fs:=addFact e false st.fs}.upd o.dst (.tup []) none)else E6z P nt {st with fs:=addFact e false st.fs} o K)
     else .fail 15
   |some (.tup _)=>if A3a nt o.dst then K (st.upd o.dst (.tup []) none)else .fail 18
   |_=>.fail 16
  |none=>.fail 17
def B7d(o:Oper)(l:List Oper):Bool:=match o.op,o.dst,o.guard with
 |.slice _ _ _ _ _,some d,none=>l.any fun o2=>match o2.op with
  |.call c=>match c.callee,c.args.toList with
   |.builtin .clear,[.tmp d']=>decide (d'=d)
   |.builtin .copy,l=>l.any fun x=>match x with|.tmp d'=>decide (d'=d)|_=>false
   |_,_=>false
  |_=>false
 |_,_,_=>false
def E5m(st:St)(o:Oper)(K:St→T):T:=match o.op with
 |.slice t x lo hi mx=>G2f P nt st o.dst t x lo hi mx K
 |_=>.fail 132
def B7w(ops:Array Oper):List Oper→St→(St→T)→T
 |[],st,K=>K st
 |o::l,st,K=>if B7d o l then E5m P nt st o fun st'=>B7w ops l st' K else doG P nt ops st o fun st'=>B7w ops l st' K
end
end Go.Proofs.YtckanieeocdpbaaGreat.Eng
namespace Go.Proofs.YtckanieeocdpbaaGreat.Eng
open Go.RowKit
set_option linter.unusedVariables false
set_option linter.unusedSimpArgs false
theorem A0z{α:Type}{n:Nat}{x:α}:∀{l:List (Nat × α)},l.lookup n=some x→(n,x) ∈ l
 |[],h=>by cases h
 |(m,y)::l,h=>by
  rw[a5]at h
  split at h
  ·rename_i he
   simp at he h;subst he h
   exact List.mem_cons_self ..
  ·exact List.mem_cons_of_mem _ (A0z h)
theorem A2b{α:Type}{n m:Nat}{x:α}:∀{l:List (Nat × α)},(l.filter (fun p=>p.1 != n)).lookup m=some x→m≠n∧l.lookup m=some x
 |[],h=>by cases h
 |(k,y)::l,h=>by
  rw[List.filter_cons]at h
  split at h
  ·rename_i hk
   rw[a5]at h⊢
   split at h
   ·rename_i he
    simp at he hk;subst he
    exact⟨hk,by simpa using h⟩
   ·rename_i he
    have:=A2b h
    exact this
  ·rename_i hk
   have:=A2b h
   refine⟨this.1,?_⟩
   rw[a5]
   have hkn:k=n:=by simpa using hk
   have hmk:(m == k)=false:=by rw[hkn];simpa using this.1
   rw[hmk]
   simpa using this.2
def A0q(β:Nat→Value)(n:Nat)(v:Value):Nat→Value:=fun m=>if m=n then v else β m
section
variable{P:Program}{w w':World}{F F':Fr}{ρ:List D}{β:Nat→Value}
theorem RC.A0q{c:C}{v u:Value}{m:Nat}(hn:c.noN m=true)(h:RC P w F ρ β c v):RC P w F ρ (A0q β m u) c v:=by
 cases c with
 |ptr n off=>
  obtain⟨b,h1,h2⟩:=h
  have hne:n≠m:=by simpa[C.noN]using hn
  exact⟨b,by simp[Eng.A0q,hne,h1],h2⟩
 |vec n=>
  have hne:n≠m:=by simpa[C.noN]using hn
  have e:v=β n:=h
  show v=_
  simp[Eng.A0q,hne,e]
 |A6c n t i c=>
  obtain⟨b,o,len,cap,ts,h1,h2⟩:=h
  have hne:n≠m:=by simpa[C.noN]using hn
  exact⟨b,o,len,cap,ts,by simp[Eng.A0q,hne,h1],h2⟩
 |lit n len=>
  obtain⟨b,h1,h2⟩:=h
  have hne:n≠m:=by simpa[C.noN]using hn
  exact⟨b,by simp[Eng.A0q,hne,h1],h2⟩
 |win n t i j=>
  obtain⟨A,len,cap,ts,h1,h2⟩:=h
  have hne:n≠m:=by simpa[C.noN]using hn
  exact⟨A,len,cap,ts,by simp[Eng.A0q,hne,h1],h2⟩
 |clo f l=>
  obtain⟨us,h1,h2,h3⟩:=h
  refine⟨us,h1,h2,fun i p u hp hu=>?_⟩
  obtain⟨b,q1,q2⟩:=h3 i p u hp hu
  have hne:p.1≠m:=by
   intro e
   have:(l.any fun p=>p.1 == m)=true:=List.any_eq_true.2 ⟨p,a6 hp,by simpa using e⟩
   simp only[C.noN,this]at hn
   cases hn
  exact⟨b,by simp[Eng.A0q,hne,q1],q2⟩
 |_=>exact h
theorem RCL.A0q{cs:List C}{vs:List Value}{u:Value}{m:Nat}(hn:cs.all (C.noN m)=true)(h:RCL P w F ρ β cs vs):RCL P w F ρ (A0q β m u) cs vs:=
 ⟨h.1,fun i c v hc hv=>(h.2 i c v hc hv).A0q (a7.1 hn c (a6 hc))⟩
theorem R1.A0q{c:V1}{v u:Value}{m:Nat}(hn:c.noN m=true)(h:R1 P w F ρ β c v):R1 P w F ρ (A0q β m u) c v:=by
 cases c with
 |one c=>exact RC.A0q hn h
 |agg cs=>obtain⟨vs,e,h⟩:=h;exact⟨vs,e,h.A0q hn⟩
theorem RV.A0q{c:SV}{v u:Value}{m:Nat}(hn:c.noN m=true)(h:RV P w F ρ β c v):RV P w F ρ (A0q β m u) c v:=by
 cases c with
 |one c=>exact RC.A0q hn h
 |agg cs=>obtain⟨vs,e,h⟩:=h;exact⟨vs,e,h.A0q hn⟩
 |tup l=>obtain⟨vs,e,hl,h⟩:=h;exact⟨vs,e,hl,fun i c u hc hu=>(h i c u hc hu).A0q (a7.1 hn c (a6 hc))⟩
theorem RC.ext{c:C}{v:Value}(r:List D)(hn:c.sc ρ.length=true)(h:RC P w F ρ β c v):RC P w F (ρ++r) β c v:=by
 cases c with
 |dat t e=>show Rd _ _ _ _ (den (ρ++r) e) _;rw[A0y hn];exact h
 |A9m t a i c=>
  simp only[C.sc,aE]at hn
  obtain⟨b,o,len,cap,ts,h1⟩:=h
  refine⟨b,o,len,cap,ts,?_⟩
  rw[A0y hn.1,A0y hn.2];exact h1
 |B3e t a c=>
  obtain⟨b,o,h1⟩:=h
  refine⟨b,o,?_⟩
  rw[A0y hn];exact h1
 |A6c n t i c=>
  have hi:i.sc ρ.length=true:=hn
  obtain⟨b,o,len,cap,ts,h1⟩:=h
  refine⟨b,o,len,cap,ts,?_⟩
  rw[A0y hi];exact h1
 |win n t i j=>
  simp only[C.sc,aE]at hn
  obtain⟨A,len,cap,ts,h1⟩:=h
  refine⟨A,len,cap,ts,?_⟩
  rw[A0y hn.1,A0y hn.2];exact h1
 |A8b t a c=>
  obtain⟨n,b,h1,h2,h3⟩:=h
  exact⟨n,b,h1,by rw[A0y hn];exact h2,h3⟩
 |_=>exact h
theorem RCL.ext{cs:List C}{vs:List Value}(r:List D)(hn:cs.all (C.sc ρ.length)=true)(h:RCL P w F ρ β cs vs):RCL P w F (ρ++r) β cs vs:=
 ⟨h.1,fun i c v hc hv=>(h.2 i c v hc hv).ext r (a7.1 hn c (a6 hc))⟩
theorem R1.ext{c:V1}{v:Value}(r:List D)(hn:c.sc ρ.length=true)(h:R1 P w F ρ β c v):R1 P w F (ρ++r) β c v:=by
 cases c with
 |one c=>exact RC.ext r hn h
 |agg cs=>obtain⟨vs,e,h⟩:=h;exact⟨vs,e,h.ext r hn⟩
theorem RV.ext{c:SV}{v:Value}(r:List D)(hn:c.sc ρ.length=true)(h:RV P w F ρ β c v):RV P w F (ρ++r) β c v:=by
 cases c with
 |one c=>exact RC.ext r hn h
 |agg cs=>obtain⟨vs,e,h⟩:=h;exact⟨vs,e,h.ext r hn⟩
 |tup l=>obtain⟨vs,e,hl,h⟩:=h;exact⟨vs,e,hl,fun i c u hc hu=>(h i c u hc hu).ext r (a7.1 hn c (a6 hc))⟩
theorem A1b.ext{x:Box}{v:Value}(r:List D)(hn:x.sc ρ.length=true)(h:A1b P w F ρ β x v):A1b P w F (ρ++r) β x v:=by
 cases x with
 |box t cs=>obtain⟨b,vs,h1,h2,h3⟩:=h;exact⟨b,vs,h1,h2,h3.ext r hn⟩
 |vec e x=>
  obtain⟨ts,xs,h1⟩:=h
  refine⟨ts,xs,?_⟩
  rw[A0y hn];exact h1
 |view t a c=>
  obtain⟨n,b,vs,h1,h2⟩:=h
  exact⟨n,b,vs,by rw[A0y hn];exact h1,h2⟩
 |map t x=>
  obtain⟨b,k,e,ts,us,g,h,es,h1⟩:=h
  exact⟨b,k,e,ts,us,g,h,es,by rw[A0y hn];exact h1⟩
theorem D0k.mono{F F':Fr}{ts us:List Ty}{g h:Bool}{i:Nat}{d:D}{e:MapEntry}{w w':World}(hf:Le w F w' F')(q:D0k P w F ts us g h i d e):D0k P w' F' ts us g h i d e:=
 ⟨q.born,q.key,by obtain⟨vs,a,b,c⟩:=q.val;exact⟨vs,a,b,fun c' t u ht hu=>(c c' t u ht hu).mono hf⟩⟩
end
section
variable{X:Cx}{ρ:List D}{st:St}{Ft Ft':Fr}{β:Nat→Value}{a:Act}{w w':World}
theorem E0p{n:Nat}{dst:Option Tmp}(hd:A3a n dst=true)(hz:a.tmps.size=n)(v:Value):(a.put dst v).tmps.size=n∧(a.put dst v).defers=a.defers∧(∀d,dst=some d→(a.put dst v).tmps[d]?=some v)∧∀t,dst≠some t→(a.put dst v).tmps[t]?=a.tmps[t]?:=by
 cases dst with
 |none=>exact⟨hz,rfl,(fun d h=>by cases h),fun t _=>rfl⟩
 |some d=>
  have hlt:d<n:=by simpa[A3a]using hd
  refine⟨by simp[Act.put,hz],rfl,fun d' h=>?_,fun t h=>?_⟩
  ·cases h;simp[Act.put,hz,hlt]
  ·have hne:d≠t:=fun e=>h (by rw[e])
   simp[Act.put,Array.getElem?_setIfInBounds_ne hne]
theorem C8f(hs:Sat X ρ st Ft β a w){dst:Option Tmp}(hd:A3a X.nt dst=true)(v:Value):(∀d,dst=some d→X.val (a.put dst v) d=some v)∧∀t,dst≠some t→X.val (a.put dst v) t=X.val a t:=by
 obtain⟨_,_,h3,h4⟩:=E0p hd hs.sz v
 refine⟨fun d h=>?_,fun t h=>?_⟩
 ·have hlt:d<LIM:=by
   subst h
   have:d<X.nt:=by simpa[A3a]using hd
   exact a0 this hs.gx.nl
  rw[Cx.E4h hlt];exact h3 d h
 ·unfold Cx.val
  rw[h4 t h]
theorem Sat.put(hs:Sat X ρ st Ft β a w){dst:Option Tmp}(hd:A3a X.nt dst=true){sv:SV}{v:Value}(hv:RV X.P w Ft ρ β sv v):Sat X ρ (st.upd dst sv none) Ft β (a.put dst v) w:=by
 obtain⟨h1,h2,_,_⟩:=E0p hd hs.sz v
 obtain⟨h3,h4⟩:=C8f hs hd v
 refine⟨by rw[h2];exact hs.df,h1,hs.ft,?_,hs.bx,hs.inj,hs.own,hs.chg,hs.fs,hs.on,hs.f0,hs.gx,hs.cf,⟨hs.hg.hp,hs.hg.gm⟩,hs.fw⟩
 intro t sv' ht
 cases dst with
 |none=>rw[h4 t (by simp)];exact hs.tm t sv' ht
 |some d=>
  have ht':((d,sv)::st.tm).lookup t=some sv':=ht
  rw[a5]at ht'
  split at ht'
  ·rename_i he
   simp at he ht';subst he ht'
   exact⟨v,h3 t rfl,hv⟩
  ·rename_i he
   have hne:(some d:Option Tmp)≠some t:=by intro e;simp at e he;exact he e.symm
   rw[h4 t hne]
   exact hs.tm t sv' ht'
theorem A1b.mono{P:Program}{F F':Fr}{x:Box}{v:Value}(hf:Le w F w' F')(hk:∀k,x.bk v=some k→w'.heap[k]?=w.heap[k]?)(hg:∀(n b:Nat) (t:TypeId),F.γ[n]?=some (b,t)→(∃a c,x=.view t a c)→w'.heap[b]?=w.heap[b]?)(h:A1b P w F ρ β x v):A1b P w' F' ρ β x v:=by
 cases x with
 |box t cs=>
  obtain⟨b,vs,h1,h2,h3⟩:=h
  exact⟨b,vs,h1,by rw[hk b (by rw[h1];rfl)];exact h2,h3.mono hf⟩
 |vec e x=>
  obtain⟨ts,xs,h1,h2,h3⟩:=h
  exact⟨ts,xs,h1,h2.mono hk,fun i c y t hy ht=>by obtain⟨u,hu1,hu2⟩:=h3 i c y t hy ht;exact⟨u,hu1,hu2.mono hf⟩⟩
 |view t a c=>
  obtain⟨n,b,vs,h1,h2,h3,h4⟩:=h
  exact⟨n,b,vs,h1,hf.get h2,by rw[hg n b t h2 ⟨a,c,rfl⟩];exact h3,h4⟩
 |map t x=>
  obtain⟨b,k,e,ts,us,g,h,es,v1,v2,v3,v4,v5,v6,v7,v8,v9⟩:=h
  exact⟨b,k,e,ts,us,g,h,es,v1,v2,v3,v4,v5,v6,by rw[hk b (by rw[v1];rfl)];exact v7,v8,fun i e d a b=>(v9 i e d a b).mono hf⟩
theorem A1b.beta{P:Program}{F:Fr}{β':Nat→Value}{x:Box}{v:Value}(hx:∀t cs,x≠.box t cs)(h:A1b P w F ρ β x v):A1b P w F ρ β' x v:=by
 cases x with
 |box t cs=>exact absurd rfl (hx t cs)
 |vec e x=>exact h
 |view t a c=>exact h
 |map t x=>exact h
@[reducible] def E1n(Ft:Fr)(w w':World):Fr:=Ft.or fun b=>w.heap.size≤b∧b<w'.heap.size
theorem Sat.below(hs:Sat X ρ st Ft β a w)(hb:Below w.heap.size w w'):Sat X ρ st (E1n Ft w w') β a w':=by
 have hf:Le w Ft w' (E1n Ft w w'):=Le.or fun b h=>hb.block b (hs.ft b h).1
 refine⟨hs.df,hs.sz,?_,?_,?_,hs.inj,?_,B9p hs.chg hb,hs.fs,hs.on,fun b h=>h.elim (hs.f0 b) (fun h=>.inr (.inl (Nat.le_trans hs.chg.size h.1))),hs.gx,hs.cf,?_,⟨fun b h=>.inl (hs.fw.1 b h),hs.fw.2⟩⟩
 ·rintro b (h|⟨h1,h2⟩)
  ·exact⟨a0 (hs.ft b h).1 hb.size,(hs.ft b h).2⟩
  ·refine⟨h2,fun n x hx he=>?_⟩
   have:=(hs.own n x b hx he).1
   omega
 ·intro t sv ht
  obtain⟨v,h1,h2⟩:=hs.tm t sv ht
  exact⟨v,h1,h2.mono hf⟩
 ·intro n x hx
  exact(hs.bx n x hx).mono hf (fun k hk=>hb.block k (hs.own n x k hx hk).1) (fun n b t h _=>hb.block b (hs.hg.gm n b t h).1)
 ·intro n x k hx hk
  have:=hs.own n x k hx hk
  exact⟨a0 this.1 hb.size,this.2⟩
 ·exact hs.hg.move hf rfl (fun k hk=>⟨hb.block k hk.1,a0 hk.1 hb.size,(fun h=>h.elim hk.2.1 (fun h=>by have:=hk.1;omega)),hk.2.2⟩) rfl rfl rfl
theorem E7t{ex:List (Nat × TypeId × E)}(r:List D)(h:∀p ∈ ex,p.2.2.sc ρ.length=true):exN (ρ++r) ex=exN ρ ex:=by
 unfold exN
 exact List.map_congr_left fun p hp=>by rw[A0y (h p hp)]
theorem Hg.ext{r:List D}{k:Nat}(h:Hg X ρ st Ft β w)(h1:st.hp.all (fun p=>p.2.sc ρ.length)=true)(h2:∀p ∈ st.ex,p.2.2.sc ρ.length=true):Hg X (ρ++r) {st with nv:=k} Ft β w:=by
 refine⟨fun m e he=>?_,h.gm⟩
 have he':st.hp=some (m,e):=he
 rw[he']at h1
 rw[A0y (by simpa using h1),E7t r h2]
 exact h.hp m e he
theorem Sat.ext(hs:Sat X ρ st Ft β a w)(hn:st.nv=ρ.length)(hc:st.sc=true)(r:List D)(k:Nat):Sat X (ρ++r) {st with nv:=k} Ft β a w:=by
 simp only[St.sc,aE,a7]at hc
 obtain⟨⟨⟨h1,h2⟩,h3⟩,h4,h5⟩:=hc
 rw[hn]at h1 h2 h3 h4 h5
 refine⟨hs.df,hs.sz,hs.ft,?_,?_,hs.inj,hs.own,hs.chg,?_,hs.on,hs.f0,hs.gx,hs.cf,hs.hg.ext h4 h5,hs.fw⟩
 ·intro t sv ht
  obtain⟨v,q1,q2⟩:=hs.tm t sv ht
  exact⟨v,q1,q2.ext r (h1 _ (A0z ht))⟩
 ·intro n x hx
  exact(hs.bx n x hx).ext r (h2 _ (A0z hx))
 ·intro e b he
  rw[A0y (h3 _ he)]
  exact hs.fs e b he
theorem C0l(w:World)(o:Obj):Below w.heap.size w (w.alloc o):=(Below.refl _ _).alloc (Nat.le_refl _) o
theorem B3h(w:World)(o:Obj):(w.alloc o).heap.size=w.heap.size+1:=World.size_alloc ..
theorem Sat.F6g(hs:Sat X ρ st Ft β a w)(hfr:st.fresh=true){t:TypeId}{cs:List C}{vs:List Value}(hcs:cs.all (C.noN st.nn)=true)(hl:RCL X.P w Ft ρ β cs vs){dst:Option Tmp}(hd:A3a X.nt dst=true):
  Sat X ρ (st.upd dst (.one (.ptr st.nn 0)) (some (.box t cs))) Ft (A0q β st.nn (.pointer (some ⟨w.heap.size,0,none⟩))) (a.put dst (.pointer (some ⟨w.heap.size,0,none⟩))) (w.alloc (.cells vs.toArray t)):=by
 simp only[St.fresh,aE,a7]at hfr
 obtain⟨hf1,hf2⟩:=hfr
 have hb:=C0l w (.cells vs.toArray t)
 have hf:Le w Ft (w.alloc (.cells vs.toArray t)) Ft:=Le.same fun b h=>hb.block b (hs.ft b h).1
 have hnone:st.bx.lookup st.nn=none:=by
  cases hx:st.bx.lookup st.nn with
  |none=>rfl
  |some x=>have:=(hf2 _ (A0z hx)).1;simp at this
 have hlk:∀n x,((st.nn,Box.box t cs)::st.bx).lookup n=some x→(n=st.nn∧x=.box t cs)∨(n≠st.nn∧st.bx.lookup n=some x):=by
  intro n x h
  rw[a5]at h
  split at h
  ·rename_i he;simp at he h;exact .inl ⟨he,h.symm⟩
  ·rename_i he;simp at he;exact .inr ⟨he,h⟩
 have base:Sat X ρ {st with bx:=(st.nn,.box t cs)::st.bx,nn:=st.nn+1} Ft (A0q β st.nn (.pointer (some ⟨w.heap.size,0,none⟩))) a (w.alloc (.cells vs.toArray t)):=by
  refine⟨hs.df,hs.sz,?_,?_,?_,?_,?_,B9p hs.chg hb,hs.fs,?_,hs.f0,hs.gx,hs.cf,?_,hs.fw⟩
  rotate_right
  ·refine hs.hg.move hf rfl (fun k hk=>⟨hb.block k hk.1,a0 hk.1 hb.size,hk.2.1,fun n x hx=>?_⟩) rfl rfl rfl
   rcases hlk n x hx with⟨rfl,rfl⟩|⟨hne,hx'⟩
   ·intro he
    simp[A0q,bk]at he
    have:=hk.1
    omega
   ·simp only[A0q,hne,Q4]
    exact hk.2.2 n x hx'
  ·intro b h
   refine⟨a0 (hs.ft b h).1 hb.size,fun n x hx=>?_⟩
   rcases hlk n x hx with⟨rfl,rfl⟩|⟨hne,hx'⟩
   ·intro he
    simp[A0q,bk]at he
    have:=(hs.ft b h).1
    omega
   ·simp only[A0q,hne,Q4]
    exact(hs.ft b h).2 n x hx'
  ·intro t' sv ht
   obtain⟨v,q1,q2⟩:=hs.tm t' sv ht
   exact⟨v,q1,(q2.mono hf).A0q (hf1 _ (A0z ht))⟩
  ·intro n x hx
   rcases hlk n x hx with⟨rfl,rfl⟩|⟨hne,hx'⟩
   ·refine⟨w.heap.size,vs,by simp[A0q],heap_alloc_new w _,?_⟩
    exact(hl.mono hf).A0q hcs
   ·have hbo:=hs.bx n x hx'
    have hno:=(hf2 _ (A0z hx')).2
    have h1:A1b X.P (w.alloc (.cells vs.toArray t)) Ft ρ β x (β n):=hbo.mono hf (fun k hk=>hb.block k (hs.own n x k hx' hk).1) (fun n b t h _=>hb.block b (hs.hg.gm n b t h).1)
    simp only[A0q,hne,Q4]
    cases x with
    |box t' cs'=>obtain⟨b,vs',q1,q2,q3⟩:=h1;exact⟨b,vs',q1,q2,q3.A0q hno⟩
    |vec e x=>exact h1
    |view t' x c=>exact h1
    |map t' x=>exact h1
  ·intro n m x y k hx hy h1 h2
   rcases hlk n x hx with⟨rfl,rfl⟩|⟨hne,hx'⟩<;>rcases hlk m y hy with⟨rfl,rfl⟩|⟨hne',hy'⟩
   ·rfl
   ·simp only[A0q,hne',Q5,Q4]at h1 h2
    simp[bk]at h1
    have:=(hs.own m y k hy' h2).1
    omega
   ·simp only[A0q,hne,Q5,Q4]at h1 h2
    simp[bk]at h2
    have:=(hs.own n x k hx' h1).1
    omega
   ·simp only[A0q,hne,hne',Q4]at h1 h2
    exact hs.inj n m x y k hx' hy' h1 h2
  ·intro n x k hx hk
   rcases hlk n x hx with⟨rfl,rfl⟩|⟨hne,hx'⟩
   ·simp[A0q,bk]at hk
    subst hk
    exact⟨by rw[B3h];omega,.inr hs.chg.size⟩
   ·simp only[A0q,hne,Q4]at hk
    have:=hs.own n x k hx' hk
    exact⟨a0 this.1 hb.size,this.2⟩
  ·intro n
   unfold A0q
   split
   ·rfl
   ·exact hs.on n
 exact base.put hd ⟨w.heap.size,by simp[A0q],rfl⟩
theorem B8v:∀(xs cs:List C) (off:Nat),(putCells cs off xs).length=cs.length
 |[],cs,off=>rfl
 |x::xs,cs,off=>by simp[putCells,B8v xs]
theorem A1m(w:World)(g:Nat)(cs:Array Value){k:Nat}(h:k≠g):(w.setRow g cs).heap[k]?=w.heap[k]?:=by
 unfold World.setRow
 simp[Array.getElem?_modify,Ne.symm h]
theorem C0k(w:World)(g:Nat)(cs cs0:Array Value)(t:TypeId)(h:w.heap[g]?=some (.cells cs0 t (0,0))):(w.setRow g cs).heap[g]?=some (.cells cs t (0,0)):=by
 unfold World.setRow
 simp[Array.getElem?_modify,h]
theorem F9z{P:Program}{F:Fr}:∀{xs:List C} {ys:List Value} (cs:List C) (vs:List Value) (off:Nat),RCL P w F ρ β xs ys→RCL P w F ρ β cs vs→off+xs.length≤cs.length→
  RCL P w F ρ β (putCells cs off xs) (vs.take off++ys++vs.drop (off+ys.length))
 |[],ys,cs,vs,off,hx,h,hle=>by
  have:ys=[]:=a8 hx.1.symm
  subst this
  simpa[putCells]using h
 |x::xs,[],cs,vs,off,hx,h,hle=>by have:=hx.1;simp at this
 |x::xs,y::ys,cs,vs,off,hx,h,hle=>by
  simp only[aC]at hle
  have hlen:=h.1
  have hoff:off<vs.length:=by omega
  have hxy:xs.length=ys.length:=by have:=hx.1;simpa using this
  have ih:=F9z (cs.set off x) (vs.set off y) (off+1) ⟨hxy,fun i c v h1 h2=>hx.2 (i+1) c v h1 h2⟩ (h.set off (hx.2 0 x y rfl rfl)) (by simp;omega)
  have e:(vs.set off y).take (off+1)++ys++(vs.set off y).drop (off+1+ys.length)=vs.take off++(y::ys)++vs.drop (off+(y::ys).length):=by
   have h1:(vs.set off y).take (off+1)=vs.take off++[y]:=by
    rw[List.take_set,List.take_succ_eq_append_getElem hoff,List.set_append_right _ _ (by simp;omega)]
    simp[Nat.min_eq_left (Nat.le_of_lt hoff)]
   have h2:(vs.set off y).drop (off+1+ys.length)=vs.drop (off+(ys.length+1)):=by
    rw[List.drop_set_of_lt (by omega)]
    congr 1
    omega
   rw[h1,h2]
   simp
  rw[←e]
  exact ih
theorem Sat.store(hs:Sat X ρ st Ft β a w){n:Nat}{bt:TypeId}{cs xs:List C}{off b:Nat}(hx:st.bx.lookup n=some (.box bt cs))(hle:off+xs.length≤cs.length)(hb:β n=.pointer (some ⟨b,0,none⟩))
  {vs ys:List Value} (hv:w.heap[b]?=some (.cells vs.toArray bt (0,0))) (hl:RCL X.P w Ft ρ β cs vs) (hy:RCL X.P w Ft ρ β xs ys):
  Sat X ρ {st with bx:=(n,.box bt (putCells cs off xs))::st.bx} Ft β a (w.setRow b (vs.take off++ys++vs.drop (off+ys.length)).toArray):=by
 have hbk:bk (β n)=some b:=by rw[hb];rfl
 have hlt:=(hs.own n _ b hx hbk).1
 have hf:Le w Ft (w.setRow b (vs.take off++ys++vs.drop (off+ys.length)).toArray) Ft:=Le.same fun k h=>A1m w b _ (fun e=>(hs.ft k h).2 n _ hx (by rw[Box.G6o,hbk,e]))
 have hoth:∀k,Oth st.bx Ft β w k→k≠b:=fun k hk e=>hk.2.2 n _ hx (by rw[Box.G6o,hbk,e])
 have hsz:(w.setRow b (vs.take off++ys++vs.drop (off+ys.length)).toArray).heap.size=w.heap.size:=by simp[World.setRow]
 have hlk:∀m y,((n,Box.box bt (putCells cs off xs))::st.bx).lookup m=some y→(m=n∧y=.box bt (putCells cs off xs))∨(m≠n∧st.bx.lookup m=some y):=by
  intro m y h
  rw[a5]at h
  split at h
  ·rename_i he;simp at he h;exact .inl ⟨he,h.symm⟩
  ·rename_i he;simp at he;exact .inr ⟨he,h⟩
 have hsome:∀m y,((n,Box.box bt (putCells cs off xs))::st.bx).lookup m=some y→∃y',st.bx.lookup m=some y'∧y.bk (β m)=y'.bk (β m):=by
  intro m y h
  rcases hlk m y h with⟨rfl,rfl⟩|⟨_,h⟩
  ·exact⟨_,hx,rfl⟩
  ·exact⟨_,h,rfl⟩
 refine⟨hs.df,hs.sz,?_,?_,?_,?_,?_,?_,hs.fs,hs.on,hs.f0,hs.gx,hs.cf,?_,hs.fw⟩
 rotate_right
 ·refine hs.hg.move hf rfl (fun k hk=>⟨A1m w b _ (hoth k hk),by rw[hsz];exact hk.1,hk.2.1,fun m y hm=>?_⟩) rfl rfl rfl
  rcases hlk m y hm with⟨rfl,rfl⟩|⟨hne,hm'⟩
  ·exact hk.2.2 _ (.box bt cs) hx
  ·exact hk.2.2 m y hm'
 ·intro k h
  refine⟨by rw[hsz];exact(hs.ft k h).1,fun m y hm=>?_⟩
  rcases hlk m y hm with⟨rfl,rfl⟩|⟨hne,hm'⟩
  ·exact(hs.ft k h).2 _ (.box bt cs) hx
  ·exact(hs.ft k h).2 m y hm'
 ·intro t sv ht
  obtain⟨v,q1,q2⟩:=hs.tm t sv ht
  exact⟨v,q1,q2.mono hf⟩
 ·intro m y hm
  rcases hlk m y hm with⟨rfl,rfl⟩|⟨hne,hm'⟩
  ·exact⟨b,_,hb,C0k w b _ _ bt hv,(F9z cs vs off hy hl hle).mono hf⟩
  ·refine(hs.bx m y hm').mono hf (fun k hk=>A1m w b _ (fun e=>?_)) (fun n b' t h _=>A1m w b _ (hoth b' (hs.hg.gm n b' t h)))
   subst e
   exact hne (hs.inj m n y _ k hm' hx hk hbk)
 ·intro m m' y y' k hm hm' h1 h2
  obtain⟨z,q1,e1⟩:=hsome m y hm
  obtain⟨z',q2,e2⟩:=hsome m' y' hm'
  exact hs.inj m m' z z' k q1 q2 (by rw[←e1];exact h1) (by rw[←e2];exact h2)
 ·intro m y k hm hk
  obtain⟨z,q1,e1⟩:=hsome m y hm
  rw[hsz]
  exact hs.own m z k q1 (by rw[←e1];exact hk)
 ·refine⟨hs.chg.os,hs.chg.tape,hs.chg.output,by rw[hsz];exact hs.chg.size,fun k hk hn=>?_⟩
  rw[A1m w b _ (fun e=>?_)]
  ·exact hs.chg.block k hk hn
  ·subst e
   rcases(hs.own n _ k hx hbk).2 with h|h
   ·exact hn h
   ·omega
theorem A8z(w:World)(g:Nat)(o:Obj){k:Nat}(h:k≠g):({w with heap:=w.heap.setIfInBounds g o}:World).heap[k]?=w.heap[k]?:=by
 simp[Ne.symm h]
theorem Sat.setObj(hs:Sat X ρ st Ft β a w){n b:Nat}{x x':Box}(hx:st.bx.lookup n=some x)(hb:x.bk (β n)=some b)(hb':x'.bk (β n)=some b){o:Obj}(hx':A1b X.P {w with heap:=w.heap.setIfInBounds b o} Ft ρ β x' (β n)):
  Sat X ρ {st with bx:=(n,x')::st.bx} Ft β a {w with heap:=w.heap.setIfInBounds b o}:=by
 have hlt:=(hs.own n _ b hx hb).1
 have hf:Le w Ft {w with heap:=w.heap.setIfInBounds b o} Ft:=Le.same fun k h=>A8z w b _ (fun e=>(hs.ft k h).2 n _ hx (by rw[hb,e]))
 have hoth:∀k,Oth st.bx Ft β w k→k≠b:=fun k hk e=>hk.2.2 n _ hx (by rw[hb,e])
 have hsz:({w with heap:=w.heap.setIfInBounds b o}:World).heap.size=w.heap.size:=by simp
 have hlk:∀m y,((n,x')::st.bx).lookup m=some y→(m=n∧y=x')∨(m≠n∧st.bx.lookup m=some y):=by
  intro m y h
  rw[a5]at h
  split at h
  ·rename_i he;simp at he h;exact .inl ⟨he,h.symm⟩
  ·rename_i he;simp at he;exact .inr ⟨he,h⟩
 have hsome:∀m y,((n,x')::st.bx).lookup m=some y→∃y',st.bx.lookup m=some y'∧y.bk (β m)=y'.bk (β m):=by
  intro m y h
  rcases hlk m y h with⟨rfl,rfl⟩|⟨_,h⟩
  ·exact⟨_,hx,by rw[hb,hb']⟩
  ·exact⟨_,h,rfl⟩
 refine⟨hs.df,hs.sz,?_,?_,?_,?_,?_,?_,hs.fs,hs.on,hs.f0,hs.gx,hs.cf,?_,hs.fw⟩
 rotate_right
 ·refine hs.hg.move hf rfl (fun k hk=>⟨A8z w b _ (hoth k hk),by rw[hsz];exact hk.1,hk.2.1,fun m y hm=>?_⟩) rfl rfl rfl
  obtain⟨z,q1,e1⟩:=hsome m y hm
  rw[e1];exact hk.2.2 m z q1
 ·intro k h
  refine⟨by rw[hsz];exact(hs.ft k h).1,fun m y hm=>?_⟩
  obtain⟨z,q1,e1⟩:=hsome m y hm
  rw[e1];exact(hs.ft k h).2 m z q1
 ·intro t sv ht
  obtain⟨v,q1,q2⟩:=hs.tm t sv ht
  exact⟨v,q1,q2.mono hf⟩
 ·intro m y hm
  rcases hlk m y hm with⟨rfl,rfl⟩|⟨hne,hm'⟩
  ·exact hx'
  ·refine(hs.bx m y hm').mono hf (fun k hk=>A8z w b _ (fun e=>?_)) (fun n b' t h _=>A8z w b _ (hoth b' (hs.hg.gm n b' t h)))
   subst e
   exact hne (hs.inj m n y _ k hm' hx hk hb)
 ·intro m m' y y' k hm hm' h1 h2
  obtain⟨z,q1,e1⟩:=hsome m y hm
  obtain⟨z',q2,e2⟩:=hsome m' y' hm'
  exact hs.inj m m' z z' k q1 q2 (by rw[←e1];exact h1) (by rw[←e2];exact h2)
 ·intro m y k hm hk
  obtain⟨z,q1,e1⟩:=hsome m y hm
  rw[hsz]
  exact hs.own m z k q1 (by rw[←e1];exact hk)
 ·refine⟨hs.chg.os,hs.chg.tape,hs.chg.output,by rw[hsz];exact hs.chg.size,fun k hk hn=>?_⟩
  rw[A8z w b _ (fun e=>?_)]
  ·exact hs.chg.block k hk hn
  ·subst e
   rcases(hs.own n _ k hx hb).2 with h|h
   ·exact hn h
   ·omega
theorem Sat.drop(hs:Sat X ρ st Ft β a w){n:Nat}{x:Box}(hx:st.bx.lookup n=some x){b:Nat}(hb:x.bk (β n)=some b):
  Sat X ρ {st with bx:=st.bx.filter (fun p=>p.1 != n)} (Ft.or fun k=>k=b) β a w:=by
 have hf:Le w Ft w (Ft.or fun k=>k=b):=Le.or fun k h=>rfl
 refine⟨hs.df,hs.sz,?_,?_,?_,?_,?_,hs.chg,hs.fs,hs.on,fun k h=>h.elim (hs.f0 k) (fun h=>by subst h;exact(hs.own n x k hx hb).2.elim (fun h=>.inr (.inr h)) (fun h=>.inr (.inl h))),hs.gx,hs.cf,?_,⟨fun b h=>.inl (hs.fw.1 b h),hs.fw.2⟩⟩
 ·rintro k (h|rfl)
  ·exact⟨(hs.ft k h).1,fun m y hm=>(hs.ft k h).2 m y (A2b hm).2⟩
  ·exact⟨(hs.own n x k hx hb).1,fun m y hm he=>(A2b hm).1 (hs.inj m n y x k (A2b hm).2 hx he hb)⟩
 ·intro t sv ht
  obtain⟨v,q1,q2⟩:=hs.tm t sv ht
  exact⟨v,q1,q2.mono hf⟩
 ·intro m y hm
  exact(hs.bx m y (A2b hm).2).mono hf (fun k hk=>rfl) (fun n b t h _=>rfl)
 ·intro m m' y y' k hm hm' h1 h2
  exact hs.inj m m' y y' k (A2b hm).2 (A2b hm').2 h1 h2
 ·intro m y k hm hk
  exact hs.own m y k (A2b hm).2 hk
 ·exact hs.hg.move hf rfl (fun k hk=>⟨rfl,hk.1,(fun h=>h.elim hk.2.1 (fun h=>hk.2.2 n x hx (by rw[hb,h]))),fun j y hy=>hk.2.2 j y (A2b hy).2⟩) rfl rfl rfl
end
end Go.Proofs.YtckanieeocdpbaaGreat.Eng
namespace Go.Proofs.YtckanieeocdpbaaGreat.Eng
open Go.RowKit
set_option linter.unusedVariables false
set_option linter.unusedSimpArgs false
section
variable(P:Program)(w:World)(F:Fr)
def F1n(e:TypeId)(d:D)(v:Value):Prop:=∃ts,∃xs:List Value,A0r P e=some ts∧B3g w e ts.length v d.toL.length xs∧
 ∀i c y t,d.toL[i]?=some y→ts[c]?=some t→∃u,xs[i*ts.length+c]?=some u∧Rd P w F t (cellOf ts.length y c) u
def B0g:List Sh→List D→List Value→Prop
 |[],ds,vs=>ds=[]∧vs=[]
 |.one t::ps,ds,vs=>∃d ds' v vs',ds=d::ds'∧vs=v::vs'∧Rd P w F t d v∧B0g ps ds' vs'
 |.agg ts::ps,ds,vs=>∃d1 ds' us vs',ds=d1++ds'∧vs=Value.agg (List.toArray us)::vs'∧d1.length=ts.length∧us.length=ts.length∧
   (∀(i:Nat) (t:Ty) (d:D) (u:Value),ts[i]?=some t→d1[i]?=some d→us[i]?=some u→Rd P w F t d u)∧B0g ps ds' vs'
 |.row e::ps,ds,vs=>∃d ds' v vs',ds=d::ds'∧vs=v::vs'∧F1n P w F e d v∧B0g ps ds' vs'
def A3g:List Sh→List Value→List Nat
 |.row _::ps,v::vs=>(bk v).toList++A3g ps vs
 |_::ps,_::vs=>A3g ps vs
 |_,_=>[]
def Value.parts(rs:List Sh)(v:Value):List Value:=match rs with|[_]=>[v]|_=>match v with|.tuple vs=>vs.toList|_=>[]
def Res(rs:List Sh)(r:List D)(v:Value):Prop:=
 match rs with
 |[s]=>B0g P w F [s] r [v]
 |rs=>∃vs:List Value,v=.tuple vs.toArray∧B0g P w F rs r vs
end
def F1b(F:Fr)(φ:Nat→List Nat):List Nat:=(aD F.γ.length).flatMap φ
def may(F:Fr)(φ:Nat→List Nat)(hm:Nat)(R:List Nat):List Nat:=(if hm=2 then F1b F φ else[])++R
theorem C3s{F:Fr}{φ:Nat→List Nat}{hm:Nat}{R:List Nat}{k:Nat}:k ∈ may F φ hm R↔(hm=2∧k ∈ F1b F φ)∨k ∈ R:=by
 unfold may
 by_cases h:hm=2<;>simp[h]
theorem D7w{F:Fr}{φ:Nat→List Nat}{hm:Nat}(h:hm≠2):may F φ hm []=[]:=by simp[may,h]
structure H7f(G:Gl)(P:Program)(w:World)(F:Fr)(hm:Nat)(hd:List D)(φ:Nat→List Nat)(R:List Nat):Prop where
 ok:G.ok w F
 hc:F.hc=G.cf.hc
 f:∀b,F b→b<w.heap.size
 g:∀(n b:Nat) (t:TypeId),F.γ[n]?=some (b,t)→b<w.heap.size∧¬F b
 h0:hm=0→hd=[]
 h12:hm=1∨hm=2→∃h,hd=[h]∧B0j P w F G.cf.ob h [] φ
 h3:3≤hm→hd=[]∧F.γ=[]
 r:∀b,b ∈ R→b<w.heap.size∧¬F b∧(∀n,b ∉ φ n)∧∀(n b':Nat) (t:TypeId),F.γ[n]?=some (b',t)→b'≠b
structure B4k(G:Gl)(P:Program)(w:World)(F:Fr)(hm:Nat)(φ:Nat→List Nat)(R:List Nat)(rs:List Sh)(r:List D)(v:Value)(w':World)(F':Fr)(φ':Nat→List Nat):Prop where
 chg:Chg (may F φ hm R) w w'
 le:Le w F w' F'
 γ:hm<2→F'.γ=F.γ
 new:∀b,F' b→b<w'.heap.size∧(F b∨w.heap.size≤b∨b ∈ may F φ hm R)
 own:∀b,b ∈ A3g rs (Value.parts rs v)→b<w'.heap.size∧¬F' b∧(w.heap.size≤b∨b ∈ may F φ hm R)∧∀n,hm=2→b ∉ φ' n
 nd:(A3g rs (Value.parts rs v)).Nodup
 res:∃r0 hd,r=r0++hd∧Res P w' F' rs r0 v∧(if hm=2 then ∃h,hd=[h]∧B0j P w' F' G.cf.ob h [] φ'∧∀n k,k ∈ φ' n→w.heap.size≤k∨k ∈ may F φ hm R else hd=[])
def Ok1(G:Gl)(P:Program)(f:Nat)(ps rs:List Sh)(hm:Nat)(ds r:List D):Prop:=
 ∀(w:World) (F:Fr) (vs:List Value) (φ:Nat→List Nat) (d0 hd:List D),ds=d0++hd→H7f G P w F hm hd φ (A3g ps vs)→B0g P w F ps d0 vs→
  Calls P f vs.toArray w fun e w'=>∃v F' φ',e=.returned v∧B4k G P w F hm φ (A3g ps vs) rs r v w' F' φ'
def A5j(G:Gl)(P:Program)(Fs:Nat→Fn):Prop:=∀f ps rs hm ds r,B6c P G.cf f=some (ps,rs,hm)→Fs f ds=some r→Ok1 G P f ps rs hm ds r
section
variable{P:Program}{w:World}{F:Fr}{ρ:List D}{β:Nat→Value}
theorem A7w:∀{ts:List Ty} {cs:List C} {es:List E} {vs:List Value},A7e ts cs=some es→RCL P w F ρ β cs vs→
  es.length=ts.length∧vs.length=ts.length∧∀(i:Nat) (t:Ty) (e:E) (v:Value),ts[i]?=some t→es[i]?=some e→vs[i]?=some v→Rd P w F t (den ρ e) v
 |[],[],es,vs,h,hr=>by
  simp[A7e]at h;subst h
  have:vs=[]:=a8 hr.1.symm
  subst this
  exact⟨rfl,rfl,fun i t e v q=>by simp at q⟩
 |[],c::cs,es,vs,h,hr=>by simp[A7e]at h
 |t::ts,[],es,vs,h,hr=>by simp[A7e]at h
 |t::ts,c::cs,es,[],h,hr=>by have:=hr.1;simp at this
 |t::ts,c::cs,es,v::vs,h,hr=>by
  simp only[A7e]at h
  split at h
  ·rename_i e es' h1 h2
   simp at h;subst h
   have q:=B1m h1 (hr.2 0 c v rfl rfl)
   obtain⟨l1,l2,q2⟩:=A7w h2 (⟨by have:=hr.1;simpa using this,fun i c v h1 h2=>hr.2 (i+1) c v h1 h2⟩:RCL P w F ρ β cs vs)
   refine⟨by simp[l1],by simp[l2],fun i=>?_⟩
   cases i with
   |zero=>intro t' e' v' a1 a2 a3;simp at a1 a2 a3;subst a1 a2 a3;exact q
   |succ i=>intro t' e' v' a1 a2 a3;simp at a1 a2 a3;exact q2 i t' e' v' a1 a2 a3
  ·cases h
theorem B8d:∀{ps:List Sh} {svs:List SV} {es:List E} {vs:List Value},B2h ps svs=some es→svs.length=vs.length→(∀(i:Nat) (s:SV) (v:Value),svs[i]?=some s→vs[i]?=some v→RV P w F ρ β s v)→
  B0g P w F ps (es.map (den ρ)) vs
 |[],[],es,vs,h,hl,hr=>by
  simp[B2h]at h;subst h
  exact⟨rfl,a8 hl.symm⟩
 |[],s::ss,es,vs,h,hl,hr=>by simp[B2h]at h
 |p::ps,[],es,vs,h,hl,hr=>by simp[B2h]at h
 |p::ps,s::ss,es,[],h,hl,hr=>by simp at hl
 |p::ps,s::ss,es,v::vs,h,hl,hr=>by
  simp only[B2h]at h
  split at h
  ·rename_i e1 e2 h1 h2
   simp at h;subst h
   have q:=hr 0 s v rfl rfl
   have rest:=B8d h2 (vs:=vs) (by simpa using hl) (fun i s v a b=>hr (i+1) s v a b)
   cases p with
   |one t=>
    cases s<;>simp only[D1n]at h1<;>try(cases h1;done)
    rename_i c
    cases hm:mat t c with
    |none=>simp[hm]at h1
    |some e=>
     simp[hm]at h1;subst h1
     exact⟨_,_,_,_,rfl,rfl,B1m hm q,rest⟩
   |agg ts=>
    cases s<;>simp only[D1n]at h1<;>try(cases h1;done)
    rename_i cs
    obtain⟨us,rfl,hu⟩:=q
    obtain⟨l1,l2,q2⟩:=A7w h1 hu
    refine⟨e1.map (den ρ),_,us,vs,by simp,rfl,by simpa using l1,l2,fun i t d u a1 a2 a3=>?_,rest⟩
    rw[List.getElem?_map]at a2
    cases he:e1[i]? with
    |none=>simp[he]at a2
    |some e=>simp[he]at a2;subst a2;exact q2 i t e u a1 he a3
   |row e=>simp[D1n]at h1
  ·cases h
theorem E9c:∀(ts:List Ty) (n i:Nat) (c:C),(C2n ts n)[i]?=some c→∃t,ts[i]?=some t∧c=.dat t (.var (n+i))
 |[],n,i,c,h=>by simp[C2n]at h
 |t::ts,n,0,c,h=>by simp[C2n]at h;exact⟨t,rfl,h.symm⟩
 |t::ts,n,i+1,c,h=>by
  simp only[C2n,List.getElem?_cons_succ]at h
  obtain⟨t',h1,h2⟩:=E9c ts (n+1) i c h
  exact⟨t',by simpa using h1,by rw[h2];congr 2;omega⟩
theorem D6t:∀(ts:List Ty) (n:Nat),(C2n ts n).length=ts.length
 |[],n=>rfl
 |t::ts,n=>by simp[C2n,D6t ts]
theorem B2x{nn:Nat}:∀{rs:List Sh} {r:List D} {vs:List Value} {n:Nat},B0g P w F rs r vs→(∀(i:Nat) (d:D),r[i]?=some d→ρ.getD (n+i) .nil=d)→(∀(i:Nat) (e:TypeId) (u:Value),rs[i]?=some (.row e)→vs[i]?=some u→u=β nn)→
  r.length=A3n rs∧(A5x rs n nn).length=vs.length∧∀(i:Nat) (c:V1) (v:Value),(A5x rs n nn)[i]?=some c→vs[i]?=some v→R1 P w F ρ β c v
 |[],r,vs,n,⟨e1,e2⟩,hρ,hb=>by subst e1 e2;exact⟨rfl,rfl,fun i c v h=>by simp[A5x]at h⟩
 |.one t::rs,r,vs,n,⟨d,ds',v,vs',e1,e2,h1,h2⟩,hρ,hb=>by
  subst e1 e2
  obtain⟨l1,l2,q⟩:=B2x (n:=n+1) h2 (fun i d h=>by have:=hρ (i+1) d (by simpa using h);rw[←this];congr 1;omega) (fun i e u a b=>hb (i+1) e u (by simpa using a) (by simpa using b))
  refine⟨by simp[A3n,Sh.size]at l1⊢;omega,by simp[A5x,Sh.size,l2],fun i=>?_⟩
  cases i with
  |zero=>
   intro c v' a1 a2
   simp[A5x,Sh.mk]at a1 a2
   subst a1 a2
   show Rd P w F t (ρ.getD n .nil) v
   have:=hρ 0 d rfl
   rw[a4]at this
   rw[this]
   exact h1
  |succ i=>intro c v' a1 a2;exact q i c v' (by simpa[A5x,Sh.size]using a1) (by simpa using a2)
 |.row e::rs,r,vs,n,⟨d,ds',v,vs',e1,e2,h1,h2⟩,hρ,hb=>by
  subst e1 e2
  obtain⟨l1,l2,q⟩:=B2x (n:=n+1) h2 (fun i d h=>by have:=hρ (i+1) d (by simpa using h);rw[←this];congr 1;omega) (fun i e u a b=>hb (i+1) e u (by simpa using a) (by simpa using b))
  refine⟨by simp[A3n,Sh.size]at l1⊢;omega,by simp[A5x,Sh.size,l2],fun i=>?_⟩
  cases i with
  |zero=>
   intro c v' a1 a2
   simp[A5x,Sh.mk]at a1 a2
   subst a1 a2
   exact hb 0 e v rfl rfl
  |succ i=>intro c v' a1 a2;exact q i c v' (by simpa[A5x,Sh.size]using a1) (by simpa using a2)
 |.agg ts::rs,r,vs,n,⟨d1,ds',us,vs',e1,e2,e3,e4,h1,h2⟩,hρ,hb=>by
  subst e1 e2
  obtain⟨l1,l2,q⟩:=B2x (n:=n+ts.length) h2 (fun i d h=>by
   have:=hρ (ts.length+i) d (by rw[a9 (by omega)];rw[←h];congr 1;omega)
   rw[←this];congr 1;omega) (fun i e u a b=>hb (i+1) e u (by simpa using a) (by simpa using b))
  refine⟨by simp[A3n,Sh.size]at l1⊢;omega,by simp[A5x,Sh.size,l2],fun i=>?_⟩
  cases i with
  |zero=>
   intro c v' a1 a2
   simp[A5x,Sh.mk]at a1 a2
   subst a1 a2
   refine⟨us,rfl,by rw[D6t,e4],fun j c u b1 b2=>?_⟩
   obtain⟨t,ht,rfl⟩:=E9c ts n j c b1
   have hj:j<d1.length:=by rw[e3];exact(aA.1 ht).1
   have hd:d1[j]?=some d1[j]:=List.getElem?_eq_getElem hj
   show Rd P w F t (ρ.getD (n+j) .nil) u
   rw[hρ j d1[j] (by rw[aB hj];exact hd)]
   exact h1 j t _ u ht hd b2
  |succ i=>intro c v' a1 a2;exact q i c v' (by simpa[A5x,Sh.size]using a1) (by simpa using a2)
theorem F1n.one{e:TypeId}{d:D}{v:Value}(h:F1n P w F e d v):v.oneCell'=true:=by
 obtain⟨ts,xs,h1,⟨_,⟨⟨A,h⟩,_⟩|⟨g,o,cap,cur,h,_⟩⟩,h3⟩:=h<;>rw[h]<;>rfl
theorem B3c:∀{rs:List Sh} {r:List D} {vs:List Value} {n:Nat},B0g P w F rs r vs→(∀(i:Nat) (d:D),r[i]?=some d→ρ.getD (n+i) .nil=d)→(A7h rs n).length≤1→
  (A7h rs n=[]∧A3g rs vs=[]∧∀(i:Nat) (e:TypeId),rs[i]?≠some (.row e))∨∃e k v,A7h rs n=[.vec e (.var k)]∧k<n+A3n rs∧A1b P w F ρ β (.vec e (.var k)) v∧A3g rs vs=(bk v).toList∧v.oneCell'=true∧∀(i:Nat) (e':TypeId) (u:Value),rs[i]?=some (.row e')→vs[i]?=some u→u=v
 |[],r,vs,n,⟨e1,e2⟩,hρ,hl=>.inl ⟨rfl,rfl,fun i e h=>by simp at h⟩
 |.one t::rs,r,vs,n,⟨d,ds',v,vs',e1,e2,h1,h2⟩,hρ,hl=>by
  subst e1 e2
  rcases B3c (n:=n+1) h2 (fun i d h=>by have:=hρ (i+1) d (by simpa using h);rw[←this];congr 1;omega) hl with⟨q1,q2,q3⟩|⟨e,k,u,q1,q2,q3,q4,q5,q6⟩
  ·exact .inl ⟨q1,q2,fun i e h=>by cases i with|zero=>simp at h|succ i=>exact q3 i e (by simpa using h)⟩
  ·exact .inr ⟨e,k,u,q1,by simp[A3n,Sh.size]at q2⊢;omega,q3,q4,q5,fun i e' z a b=>by cases i with|zero=>simp at a|succ i=>exact q6 i e' z (by simpa using a) (by simpa using b)⟩
 |.agg ts::rs,r,vs,n,⟨d1,ds',us,vs',e1,e2,e3,e4,h1,h2⟩,hρ,hl=>by
  subst e1 e2
  rcases B3c (n:=n+ts.length) h2 (fun i d h=>by
   have:=hρ (ts.length+i) d (by rw[a9 (by omega)];rw[←h];congr 1;omega)
   rw[←this];congr 1;omega) hl with⟨q1,q2,q3⟩|⟨e,k,u,q1,q2,q3,q4,q5,q6⟩
  ·exact .inl ⟨q1,q2,fun i e h=>by cases i with|zero=>simp at h|succ i=>exact q3 i e (by simpa using h)⟩
  ·exact .inr ⟨e,k,u,q1,by simp[A3n,Sh.size]at q2⊢;omega,q3,q4,q5,fun i e' z a b=>by cases i with|zero=>simp at a|succ i=>exact q6 i e' z (by simpa using a) (by simpa using b)⟩
 |.row e::rs,r,vs,n,⟨d,ds',v,vs',e1,e2,h1,h2⟩,hρ,hl=>by
  subst e1 e2
  simp only[A7h,aC]at hl
  have hd:ρ.getD n .nil=d:=by have:=hρ 0 d rfl;rwa [a4]at this
  rcases B3c (n:=n+1) h2 (fun i d h=>by have:=hρ (i+1) d (by simpa using h);rw[←this];congr 1;omega) (by omega)with⟨q1,q2,q3⟩|⟨e',k,u,q1,_⟩
  ·refine .inr ⟨e,n,v,by simp[A7h,q1],by simp[A3n,Sh.size];omega,?_,by simp[A3g,q2],h1.one,fun i e' z a b=>?_⟩
   ·show F1n P w F e (ρ.getD n .nil) v
    rw[hd];exact h1
   ·cases i with
    |zero=>simp at b;exact b.symm
    |succ i=>exact absurd (by simpa using a) (q3 i e')
  ·rw[q1]at hl;simp at hl
theorem C6q{rs:List Sh}{r:List D}{v:Value}{nn:Nat}{hd:List D}(h:Res P w F rs r v)(hb:∀(i:Nat) (e:TypeId) (u:Value),rs[i]?=some (.row e)→(Value.parts rs v)[i]?=some u→u=β nn):RV P w F (ρ++(r++hd)) β (C9u rs ρ.length nn) v∧r.length=A3n rs:=by
 have hρ:∀(i:Nat) (d:D),r[i]?=some d→(ρ++(r++hd)).getD (ρ.length+i) .nil=d:=fun i d hd=>by
  rw[List.getD_eq_getElem?_getD,a9 (by omega),Nat.add_sub_cancel_left,aB (aA.1 hd).1]
  simp[hd]
 unfold Res at h
 split at h
 ·rename_i s
  obtain⟨l1,l2,q⟩:=B2x (β:=β) (nn:=nn) (n:=ρ.length) h hρ hb
  refine⟨?_,l1⟩
  have:=q 0 (s.mk ρ.length nn) v (by simp[A5x]) rfl
  simp only[C9u,A5x]
  cases hs:s.mk ρ.length nn with
  |one c=>rw[hs]at this;exact this
  |agg cs=>rw[hs]at this;exact this
 ·rename_i hne
  obtain⟨vs,rfl,ha⟩:=h
  have hpart:Value.parts rs (.tuple vs.toArray)=vs:=by
   unfold Value.parts
   split
   ·rename_i s;exact absurd rfl (hne s)
   ·rfl
  obtain⟨l1,l2,q⟩:=B2x (β:=β) (nn:=nn) (n:=ρ.length) ha hρ (by rw[hpart]at hb;exact hb)
  refine⟨?_,l1⟩
  have e:C9u rs ρ.length nn=.tup (A5x rs ρ.length nn):=by
   unfold C9u
   split
   ·rename_i v hv
    exfalso
    cases rs with
    |nil=>simp[A5x]at hv
    |cons a l=>cases l with
     |nil=>exact hne _ rfl
     |cons b l=>simp[A5x]at hv
   ·rfl
  rw[e]
  exact⟨vs,rfl,l2,q⟩
theorem D0s:∀{rs:List Sh} {r:List D} {vs:List Value},B0g P w F rs r vs→r.length=A3n rs
 |[],r,vs,⟨e1,e2⟩=>by subst e1;rfl
 |.one t::rs,r,vs,⟨d,ds',v,vs',e1,e2,h1,h2⟩=>by subst e1;have:=D0s h2;simp[A3n,Sh.size]at this⊢;omega
 |.row t::rs,r,vs,⟨d,ds',v,vs',e1,e2,h1,h2⟩=>by subst e1;have:=D0s h2;simp[A3n,Sh.size]at this⊢;omega
 |.agg ts::rs,r,vs,⟨d1,ds',us,vs',e1,e2,e3,e4,h1,h2⟩=>by subst e1;have:=D0s h2;simp[A3n,Sh.size]at this⊢;omega
theorem Res.args{rs:List Sh}{r:List D}{v:Value}(h:Res P w F rs r v):B0g P w F rs r (Value.parts rs v):=by
 unfold Res at h
 split at h
 ·exact h
 ·rename_i hne
  obtain⟨vs,rfl,ha⟩:=h
  have hpart:Value.parts rs (.tuple vs.toArray)=vs:=by
   unfold Value.parts
   split
   ·rename_i s;exact absurd rfl (hne s)
   ·rfl
  rw[hpart];exact ha
theorem A6e:∀(es:List E),den ρ (A4e es)=.agg (es.map (den ρ))
 |[]=>rfl
 |e::es=>by simp[A4e,den,A6e es]
end
end Go.Proofs.YtckanieeocdpbaaGreat.Eng
