import Derived.Test.YtckanieeocdpbaaGreatEngI
import Derived.Test.YtckanieeocdpbaaGreatEngJ
open Bool renaming and_eq_true→a0,or_eq_true→a1,false_or→a2
open List renaming all_eq_true→a3,mem_cons_of_mem→a4,getElem?_eq_some_iff→a5,append_nil→a6,mem_cons_self→a7,mem_cons→a8,mem_filter→a9,append_assoc→aA,getElem?_eq_getElem→aB,getD_eq_getElem?_getD→aC,mem_append→aD,foldl_cons→aE,lookup_cons→aF,length_filter_lt_length_iff_exists→aG,mem_append_left→aH,filterMap_eq_nil_iff→aI,mem_singleton→aJ,pairwise_cons→aK,mem_range→aL,eq_nil_iff_forall_not_mem→aM,getElem?_of_mem→aN,filterMap_cons→aO,range→aP,mem_filterMap→aQ,getElem?_append_right→aR,getElem?_append_left→aS,drop_eq_getElem_cons→aT,mem_of_getElem?→aU,mem_map→aV,getElem?_map→aW,take→aX
open Go.Region renaming wanted→aY,ready→aZ,noSelect→b0,binds→b1,free→b2
open Option renaming none_or→b3,all_some→b4,map_some→b5
open Array renaming replicate→b6
open Option.some renaming injEq→b7
open Nat renaming lt_of_lt_of_le→b8,le_refl→b9,lt_or_ge→bA,strongRecOn→bB,testBit_or→bC,le_trans→bD
open Prod.mk renaming injEq→bE
open Prod renaming snd→bF,fst→bG
open Go.Oper renaming wp→bH,upon→bI
namespace Go.Proofs.YtckanieeocdpbaaGreat.Eng
set_option linter.unusedVariables false
section
variable{P:Program}{w:World}{F:Fr}{ρ:List D}{β:Nat→Value}
theorem RC.cut{c:C}{v:Value}{r:List D}(hn:c.sc ρ.length=true)(h:RC P w F (ρ++r) β c v):RC P w F ρ β c v:=by
 cases c with
 |dat t e=>have h':Rd P w F t (den (ρ++r) e) v:=h;rw[A0y hn]at h';exact h'
 |A9m t a i c=>
  simp only[C.sc,a0]at hn
  obtain⟨b,o,len,cap,ts,h1⟩:=h
  refine⟨b,o,len,cap,ts,?_⟩
  rw[A0y hn.1,A0y hn.2]at h1;exact h1
 |B3e t a c=>
  obtain⟨b,o,h1⟩:=h
  refine⟨b,o,?_⟩
  rw[A0y hn]at h1;exact h1
 |A6c n t i c=>
  have hi:i.sc ρ.length=true:=hn
  obtain⟨b,o,len,cap,ts,h1⟩:=h
  refine⟨b,o,len,cap,ts,?_⟩
  rw[A0y hi]at h1;exact h1
 |win n t i j=>
  simp only[C.sc,a0]at hn
  obtain⟨A,len,cap,ts,h1⟩:=h
  refine⟨A,len,cap,ts,?_⟩
  rw[A0y hn.1,A0y hn.2]at h1;exact h1
 |A8b t a c=>
  obtain⟨n,b,h1,h2,h3⟩:=h
  exact⟨n,b,h1,by rw[A0y hn]at h2;exact h2,h3⟩
 |_=>exact h
theorem RCL.cut{cs:List C}{vs:List Value}{r:List D}(hn:cs.all (C.sc ρ.length)=true)(h:RCL P w F (ρ++r) β cs vs):RCL P w F ρ β cs vs:=
 ⟨h.1,fun i c v hc hv=>(h.2 i c v hc hv).cut (a3.1 hn c (aU hc))⟩
theorem R1.cut{c:V1}{v:Value}{r:List D}(hn:c.sc ρ.length=true)(h:R1 P w F (ρ++r) β c v):R1 P w F ρ β c v:=by
 cases c with
 |one c=>exact RC.cut hn h
 |agg cs=>obtain⟨vs,e,h⟩:=h;exact⟨vs,e,h.cut hn⟩
theorem RV.cut{c:SV}{v:Value}{r:List D}(hn:c.sc ρ.length=true)(h:RV P w F (ρ++r) β c v):RV P w F ρ β c v:=by
 cases c with
 |one c=>exact RC.cut hn h
 |agg cs=>obtain⟨vs,e,h⟩:=h;exact⟨vs,e,h.cut hn⟩
 |tup l=>obtain⟨vs,e,hl,h⟩:=h;exact⟨vs,e,hl,fun i c u hc hu=>(h i c u hc hu).cut (a3.1 hn c (aU hc))⟩
theorem A1b.cut{x:Box}{v:Value}{r:List D}(hn:x.sc ρ.length=true)(h:A1b P w F (ρ++r) β x v):A1b P w F ρ β x v:=by
 cases x with
 |box t cs=>obtain⟨b,vs,h1,h2,h3⟩:=h;exact⟨b,vs,h1,h2,h3.cut hn⟩
 |vec e x=>
  obtain⟨ts,xs,h1⟩:=h
  refine⟨ts,xs,?_⟩
  rw[A0y hn]at h1;exact h1
 |view t a c=>
  obtain⟨n,b,vs,h1,h2⟩:=h
  exact⟨n,b,vs,by rw[A0y hn]at h1;exact h1,h2⟩
 |map t x=>
  obtain⟨b,k,e,ts,us,g,h,es,h1⟩:=h
  exact⟨b,k,e,ts,us,g,h,es,by rw[A0y hn]at h1;exact h1⟩
end
section
variable{X:Cx}{ρ:List D}{st:St}{Ft:Fr}{β:Nat→Value}{a:Act}{w:World}
theorem Sat.H0o{r:List D}(hs0:Sat X (ρ++r) st Ft β a w)(hsc:st.sc=true)(hnv:st.nv=ρ.length):Sat X ρ st Ft β a w:=by
 simp only[St.sc,a0,a3]at hsc
 obtain⟨⟨⟨s1,s2⟩,s3⟩,s4,s5⟩:=hsc
 rw[hnv]at s1 s2 s3 s4 s5
 refine⟨hs0.df,hs0.sz,hs0.ft,?_,?_,hs0.inj,hs0.own,hs0.chg,?_,hs0.on,hs0.f0,hs0.gx,hs0.cf,⟨fun m e he=>?_,hs0.hg.gm⟩,hs0.fw⟩
 ·intro t sv ht
  obtain⟨v,q1,q2⟩:=hs0.tm t sv ht
  exact⟨v,q1,RV.cut (s1 _ (A0z ht)) q2⟩
 ·intro n x hx
  exact A1b.cut (s2 _ (A0z hx)) (hs0.bx n x hx)
 ·intro e b hm
  have:=hs0.fs e b hm
  rw[A0y (s3 _ hm)]at this
  exact this
 ·have q:=hs0.hg.hp m e he
  rw[he]at s4
  rw[A0y (by simpa using s4),E7t r s5]at q
  exact q
end
end Go.Proofs.YtckanieeocdpbaaGreat.Eng
namespace Go.Proofs.YtckanieeocdpbaaGreat.Eng
open Go.RowKit
set_option linter.unusedVariables false
set_option linter.unusedSimpArgs false
structure Rec where
 i:Nat
 dst:Option Tmp
 sv:SV
 nb:Option (Nat × Box)
 wr:Option (Nat × Nat × List C)
 deriving DecidableEq,Inhabited
def B3i(R:List Rec)(sel:Nat→Bool):List (Nat × SV):=R.filterMap fun r=>if sel r.i then r.dst.map (fun d=>(d,r.sv))else none
def B1r(R:List Rec)(sel:Nat→Bool):List (Nat × Box):=R.filterMap fun r=>if sel r.i then r.nb else none
def vis(sa:List Nat)(r:Rec):Bool:=match r.dst with|some t=>!sa.contains t|none=>true
def A9v(st0:St)(R:List Rec)(sa:List Nat)(sel:Nat→Bool):St:={st0 with tm:=B3i R sel++st0.tm,bx:=B1r (R.filter (vis sa)) sel++st0.bx}
def A4c(R:List Rec)(sel:Nat→Bool)(n:Nat)(cs:List C):List C:=R.foldl (fun cs r=>match r.wr with|some (m,off,xs)=>if m=n∧sel r.i=true then putCells cs off xs else cs|none=>cs) cs
def B6j(bxF:List (Nat × Box))(R:List Rec)(sel:Nat→Bool)(w:Nat × Nat × List C):Option (Nat × Box):=
 match bxF.lookup w.1 with
 |some (.box t cs)=>some (w.1,.box t (A4c R sel w.1 cs))
 |_=>none
def B3q(bxF:List (Nat × Box))(R:List Rec)(sel:Nat→Bool):List (Nat × Box):=R.filterMap fun r=>if sel r.i then r.wr.bind (B6j bxF R sel)else none
def bxA(bxF:List (Nat × Box))(R:List Rec):List (Nat × Box):=R.filterMap (·.nb)++bxF
def A2r(st0:St)(bxF:List (Nat × Box))(R:List Rec)(sel:Nat→Bool):St:={st0 with tm:=B3i R sel++st0.tm,bx:=B3q (bxA bxF R) R sel++(B1r R sel++bxF)}
def direct(o:Oper):List Nat:=(o.after.toList.filter (b1 .any)).map (·.on)
def A9q:List (List Nat)→List Nat→List Nat
 |[],acc=>acc
 |d::l,acc=>A9q l (acc++[d.foldl (fun m j=>m ||| (1 <<< j ||| acc.getD j 0)) 0])
def isFull(preds:List Nat)(t:Nat):Bool:=(aP t).all fun j=>(preds.getD t 0).testBit j
def D8b(n:Nat)(preds:List Nat):Nat:=n-((aP n).reverse.takeWhile (isFull preds)).length
section
variable(P:Program)(nt:Nat)
def E5w(st:St)(o:Oper)(K:SV→Option Box→Nat→T):T:=
 match evV P st o.op o.type with
 |some (es,sv,nb)=>A8j es (K sv nb 0)
 |none=>match o.op with
  |.call c=>match c.callee with
   |.value x=>match opC st x with
    |some (.fn f)=>(match B6c P st.cf f,D0g st c.args.toList with
     |some (ps,rs,hm),some vs=>(match C4y P st ps rs hm vs,C3l st hm with
      |some es,some hs=>if hm≤1∧(A7h rs st.nv).length≤1∧A2x ps vs=[]then .call f (es++hs) (A3n rs) (K (C9u rs st.nv st.nn) (A7h rs st.nv).head? (A3n rs))else .fail 39
      |_,_=>.fail 40)
     |_,_=>.fail 41)
    |_=>.fail 42
   |_=>.fail 42
  |.buildSlice t n parts=>match evB P st t n parts with
   |some sv=>K sv none 0
   |none=>.fail 52
  |_=>.fail 43
def hdG(ops:Array Oper)(st:St)(o:Oper)(K:SV→Option Box→Nat→List (E × Bool)→T):T:=
 match o.guard with
 |none=>if B7d o ops.toList then(match o.op with
   |.slice t x lo hi mx=>match F1h P st t x lo hi mx with
    |some (es,sv)=>A8j es (K sv none 0 st.fs)
    |none=>.fail 138
   |_=>.fail 139)else E5w P st o fun sv nb k=>K sv nb k st.fs
 |some (j,want)=>match (ops[j]?).bind (·.dst)with
  |some d=>match st.at d with
   |some (.one (.dat .bool e))=>match known st e with
    |some b=>if b=want then E5w P st o fun sv nb k=>K sv nb k st.fs else K (.tup []) none 0 st.fs
    |none=>.ite e
      (if want then E5w P {st with fs:=addFact e true st.fs} o fun sv nb k=>K sv nb k (addFact e true st.fs)else K (.tup []) none 0 (addFact e true st.fs))
      (if want then K (.tup []) none 0 (addFact e false st.fs)else E5w P {st with fs:=addFact e false st.fs} o fun sv nb k=>K sv nb k (addFact e false st.fs))
   |some (.tup _)=>K (.tup []) none 0 st.fs
   |_=>.fail 44
  |none=>.fail 45
def E8b(st:St)(o:Oper):Option (Nat × Nat × List C):=
 match o.op with
 |.store t x v=>match opC st x,opV st v with
  |some (.ptr n off),some sv=>match sv.cells with
   |some xs=>if A3k P t=some xs.length∧o.dst=none∧o.guard=none then some (n,off,xs)else none
   |none=>none
  |_,_=>none
 |_=>none
def E6s(ops:Array Oper)(preds sa:List Nat):List (Oper × Nat)→St→List Rec→(St→List Rec→T)→T
 |[],st0,R,K=>K st0 R
 |(o,i)::l,st0,R,K=>
  let sti:=A9v st0 R sa (fun j=>(preds.getD i 0).testBit j)
  match E8b P sti o with
  |some (n,off,xs)=>frN n fun n=>frN off fun off=>frL frC xs fun xs=>
   if xs.all (C.sc st0.nv)then E6s ops preds sa l st0 (R++[⟨i,none,.tup [],none,some (n,off,xs)⟩]) K else .fail 56
  |none=>
  if A3a nt o.dst then
   hdG P ops sti o fun sv nb k fs=>D4c sv fun sv=>frO nb fun nb=>frN (st0.nv+k) fun nv=>frN (st0.nn+1) fun nn=>
    if sv.sc (st0.nv+k)&&nb.all (fun b=>b.sc (st0.nv+k)&&b.noN st0.nn)then
     E6s ops preds sa l {st0 with nv:=nv,nn:=nn,fs:=fs} (R++[⟨i,o.dst,sv,nb.map fun b=>(st0.nn,b),none⟩]) K
    else .fail 46
  else .fail 47
def F5b(preds sa:List Nat)(st0:St)(bxF:List (Nat × Box))(R:List Rec):Bool:=
 R.all fun r=>
  (match r.dst with|some t=>(st0.tm.lookup t).isNone&&R.all (fun q=>q.dst != some t || q.i == r.i)|none=>true)&&
  (match r.nb with
  |some (n,_)=>st0.tm.all (fun p=>p.2.noN n)&&bxF.all (fun p=>p.1 != n&&p.2.noN n)&&
    R.all fun q=>q.i == r.i || ((preds.getD q.i 0).testBit r.i || (q.sv.noN n&&(q.nb.all fun p=>p.2.noN n)&&q.wr.all fun p=>p.2.2.all (C.noN n)))&&q.nb.all fun p=>p.1 != n
  |none=>true)&&
  (match r.wr with
  |some (n,off,xs)=>(st0.bx.lookup n).isNone&&(match (bxA bxF R).lookup n with|some (.box _ cs)=>decide (off+xs.length≤cs.length)|_=>false)&&r.dst.isNone&&r.nb.isNone&&
    (R.all fun q=>q.i == r.i || q.wr.all fun p=>p.1 != n || decide (r.i<q.i) || (preds.getD r.i 0).testBit q.i)&&R.all fun q=>q.nb.all fun p=>p.1 != n || ((preds.getD r.i 0).testBit q.i&&!vis sa q)
  |none=>true)
def E1o(ops:List Oper)(st:St):Nat→Operand→Option Nat
 |0,_=>none
 |k+1,x=>match opC st x with
  |some (.ptr n _)=>some n
  |_=>match x with
   |.tmp t=>match ops.find? (fun o=>o.dst == some t)with
    |some o=>match o.op with
     |.fieldAddr _ y _=>E1o ops st k y
     |.indexAddr _ y _=>E1o ops st k y
     |.nilCheck y=>E1o ops st k y
     |.move y=>E1o ops st k y
     |_=>none
    |none=>none
   |_=>none
def F8y(ops:List Oper)(st:St):List Nat:=ops.filterMap fun o=>match o.op with|.store _ x _=>E1o ops st 6 x|_=>none
def C8c(o:Oper):Bool:=match o.op,o.guard,o.dst with|.move _,none,some _=>true|_,_,_=>false
def E5z(ops:Array Oper):List (Oper × Nat)→Array Bool→List Nat→List Nat
 |[],_,acc=>acc
 |(o,i)::l,listed,acc=>if C8c o&&(direct o).all (acc.contains ·)&&b2 .any ops listed i then E5z ops l (listed.setIfInBounds i true) (acc++[i])else E5z ops l listed acc
def C9d(ops:Array Oper):List Nat→Array Bool→Bool
 |[],_=>true
 |i::l,listed=>(match ops.toList[i]? with|some o=>C8c o|none=>false)&&b2 .any ops listed i&&(aZ .any ops listed).contains i&&C9d ops l (listed.setIfInBounds i true)
def H6w(o:Oper):Bool:=match o.op with
 |.call c=>match c.callee with
  |.builtin .append|.builtin .copy|.builtin .clear=>true
  |_=>false
 |_=>false
def F8v(st:St)(o:Oper):Bool:=match o.op with
 |.call c=>match c.callee with
  |.value (.func f)=>decide (st.cf.hm.lookup f=some 2)
  |_=>false
 |_=>false
def H8i(l:List Oper)(o:Oper):Bool:=match o.op with
 |.store _ (.tmp t) _=>l.any fun q=>decide (q.dst=some t)&&match q.op with
  |.fieldAddr ..|.indexAddr ..|.nilCheck _=>true
  |_=>false
 |_=>false
def E3w(st:St)(ops:Array Oper)(l:List Oper):List Nat:=
 if(l.take (D8b l.length (A9q (l.map direct) []))).any (fun o=>H6w o || F8v st o || H8i l o)then E5z ops l.zipIdx (b6 ops.size false) []else[]
def C0b(fl:List Nat)(p:Oper × Nat):List Nat:=direct p.1++fl.filter (fun k=>decide (k<p.2))
def H5w(o:Oper)(t:Nat):Bool:=match o.op with|.alloc _|.box _ _=>decide (o.dst=some t)|_=>false
def saOf(hd:List Oper):List Nat:=hd.filterMap fun o=>match o.op with
 |.store _ (.tmp t) _=>if hd.any (fun q=>H5w q t)then some t else none
 |_=>none
def F4v(ops:Array Oper)(st:St)(K:St→T):T:=
 let l:=ops.toList
 frL frN (E3w st ops l) fun fl=>
 frL (frL frN) (l.map direct) fun ds=>frL frN (A9q (l.zipIdx.map (C0b fl)) []) fun preds=>frN (fl.foldl (fun m i=>max m (i+1)) (D8b l.length preds)) fun m=>
 let hd:=l.take m
 frL frN (hd.filterMap (·.dst)) fun dsts=>frL (fun p k=>k p) (st.tm.filter fun p=>!dsts.contains p.1) fun tm0=>
 frL frN (F8y hd st) fun bs=>frL frN (saOf hd) fun sa=>
 let st0:={st with tm:=tm0,bx:=st.bx.filter fun p=>!bs.contains p.1}
 if st.sc&&P.follows .mixedOrders&&(aP l.length).all (fun t=>(decide (t<m) || isFull preds t)&&match ds[t]? with|some d=>d.all (fun j=>decide (j<t))|none=>true)&&(fl.isEmpty || (b0 ops&&C9d ops fl (b6 ops.size false)&&fl.all (fun i=>decide (i<m))&&decide (fl.Pairwise (·< ·))))&&decide (m≤l.length)then
  E6s P nt ops preds sa hd.zipIdx st0 [] fun st1 R=>
   if F5b preds sa st0 st.bx R&&decide (R.map (·.i)=aP m)then B7w P nt ops (l.drop m) (A2r st1 st.bx R fun _=>true) K else .fail 48
 else .fail 49
end
theorem lookup_append{α:Type}(t:Nat):∀(l1 l2:List (Nat × α)),(l1++l2).lookup t=(l1.lookup t).or (l2.lookup t)
 |[],l2=>by simp
 |(k,v)::l1,l2=>by
  rw[List.cons_append,aF,aF]
  split
  ·rfl
  ·exact lookup_append t l1 l2
theorem B4u{α:Type}{R:List Rec}{f:Rec→Option (Nat × α)}{t:Nat}{x:α}(h:(R.filterMap f).lookup t=some x):∃r ∈ R,f r=some (t,x):=by
 have:=A0z h
 obtain⟨r,h1,h2⟩:=aQ.1 this
 exact⟨r,h1,h2⟩
theorem F6t{α:Type}{R:List Rec}{f:Rec→Option (Nat × α)}{t:Nat}:(R.filterMap f).lookup t=none↔∀r ∈ R,∀x,f r≠some (t,x):=by
 induction R with
 |nil=>simp
 |cons r R ih=>
  rw[aO]
  cases hf:f r with
  |none=>
   simp only[ih,a8,forall_eq_or_imp,hf]
   simp
  |some p=>
   obtain⟨k,y⟩:=p
   rw[aF]
   by_cases hk:t=k
   ·subst hk
    simp only[beq_self_eq_true,a8,forall_eq_or_imp,hf]
    simp
   ·have:(t == k)=false:=by simpa using hk
    simp only[this,ih,a8,forall_eq_or_imp,hf]
    simp[Ne.symm hk]
theorem D9u{α:Type}{R:List Rec}{f:Rec→Option (Nat × α)}{t:Nat}{x:α}{r:Rec}(hr:r ∈ R)(hf:f r=some (t,x))(hu:∀q ∈ R,∀y,f q=some (t,y)→y=x):(R.filterMap f).lookup t=some x:=by
 cases h:(R.filterMap f).lookup t with
 |none=>exact absurd hf (F6t.1 h r hr x)
 |some y=>
  obtain⟨q,q1,q2⟩:=B4u h
  rw[hu q q1 y q2]
section
variable{X:Cx}{Fs:Nat→Fn}{fuel:Nat}{ρ:List D}{st st':St}{Ft:Fr}{β:Nat→Value}{a:Act}{w:World}
theorem Sat.sub(hs:Sat X ρ st Ft β a w)(h1:∀t sv,st'.tm.lookup t=some sv→st.tm.lookup t=some sv)(h2:∀n x,st'.bx.lookup n=some x→st.bx.lookup n=some x)(h3:∀p ∈ st'.fs,p ∈ st.fs)(h4:st'.key=st.key∧st'.cf=st.cf:=by exact⟨rfl,rfl⟩):Sat X ρ st' Ft β a w:=
 ⟨hs.df,hs.sz,fun b hb=>⟨(hs.ft b hb).1,fun n x hx=>(hs.ft b hb).2 n x (h2 n x hx)⟩,fun t sv ht=>hs.tm t sv (h1 t sv ht),fun n x hx=>hs.bx n x (h2 n x hx),
  fun n m x y k hx hy=>hs.inj n m x y k (h2 n x hx) (h2 m y hy),fun n x k hx=>hs.own n x k (h2 n x hx),hs.chg,fun e b hm=>hs.fs e b (h3 _ hm),hs.on,hs.f0,hs.gx,⟨h4.2.trans hs.cf.1,by rw[h4.2];exact hs.cf.2⟩,hs.hg.less (fun n x hx=>⟨x,h2 n x hx,.inl rfl⟩) (congrArg bF h4.1) (congrArg bG h4.1) h4.2,by rw[show st'.hp=st.hp from congrArg bF h4.1];exact hs.fw⟩
structure E6d(X:Cx)(ρ:List D)(Ft:Fr)(β:Nat→Value)(w:World)(sv:SV)(nb:Option (Nat × Box))(v:Value)(w':World)(Ft':Fr)(β':Nat→Value):Prop where
 bl:Below w.heap.size w w'
 ft:∀b,Ft' b→Ft b∨(w.heap.size≤b∧b<w'.heap.size)
 rv:RV X.P w' Ft' ρ β' sv v
 be:∀n,(∀p,nb=some p→n≠p.1)→β' n=β n
 on:∀n,(β' n).oneCell'=true
 bx:∀n b,nb=some (n,b)→A1b X.P w' Ft' ρ β' b (β' n)∧∀k,b.bk (β' n)=some k→w.heap.size≤k∧k<w'.heap.size∧¬Ft' k
 gh:Ft'.γ=Ft.γ∧Ft'.hc=Ft.hc
theorem G0a(β β':Nat→Value)(m:Nat)(h:∀n,n≠m→β' n=β n):β'=A0q β m (β' m):=by
 funext n
 unfold A0q
 split
 ·rename_i e;rw[e]
 ·rename_i e;exact h n e
theorem Sat.add(hs:Sat X ρ st Ft β a w){dst:Option Tmp}{sv:SV}{nb:Option (Nat × Box)}{v:Value}{w':World}{Ft':Fr}{β':Nat→Value}(ho:E6d X ρ Ft β w sv nb v w' Ft' β')(hd:A3a X.nt dst=true)
  (h1:∀t s,st'.tm.lookup t=some s→(dst=some t∧s=sv)∨(dst≠some t∧st.tm.lookup t=some s))
  (h2:∀n x,st'.bx.lookup n=some x→nb=some (n,x)∨((∀p,nb=some p→n≠p.1)∧st.bx.lookup n=some x)) (h3:∀p ∈ st'.fs,p ∈ st.fs)
  (hn:∀n b,nb=some (n,b)→(∀t s,st.tm.lookup t=some s→s.noN n=true)∧∀m x,st.bx.lookup m=some x→x.noN n=true) (h4:st'.key=st.key∧st'.cf=st.cf):
  Sat X ρ st' (Ft.or fun b=>Ft' b) β' (a.put dst v) w':=by
 obtain⟨p1,p2,_,_⟩:=E0p hd hs.sz v
 obtain⟨p3,p4⟩:=C8f hs hd v
 have hb:=ho.bl
 have hf:Le w Ft w' (Ft.or fun b=>Ft' b):=Le.or fun b h=>hb.block b (hs.ft b h).1
 have hf':Le w' Ft' w' (Ft.or fun b=>Ft' b):=⟨fun b h=>⟨.inr h,rfl⟩,by show Ft'.γ <+: Ft.γ;rw[ho.gh.1];exact List.prefix_refl _,ho.gh.2.symm⟩
 have hmv:∀s u,(∀n b,nb=some (n,b)→s.noN n=true)→RV X.P w Ft ρ β s u→RV X.P w' (Ft.or fun b=>Ft' b) ρ β' s u:=by
  intro s u hno hr
  have q:=hr.mono hf
  cases hnb:nb with
  |none=>
   have:β'=β:=funext fun n=>ho.be n (fun p hp=>by rw[hnb]at hp;cases hp)
   rw[this];exact q
  |some p=>
   obtain⟨n,b⟩:=p
   have:β'=A0q β n (β' n):=G0a β β' n (fun m hm=>ho.be m (fun p hp=>by rw[hnb]at hp;cases hp;exact hm))
   rw[this]
   exact q.A0q (hno n b hnb)
 have hmb:∀x u,(∀n b,nb=some (n,b)→x.noN n=true)→A1b X.P w' (Ft.or fun b=>Ft' b) ρ β x u→A1b X.P w' (Ft.or fun b=>Ft' b) ρ β' x u:=by
  intro x u hno hr
  cases hnb:nb with
  |none=>
   have:β'=β:=funext fun n=>ho.be n (fun p hp=>by rw[hnb]at hp;cases hp)
   rw[this];exact hr
  |some p=>
   obtain⟨n,b⟩:=p
   have:β'=A0q β n (β' n):=G0a β β' n (fun m hm=>ho.be m (fun p hp=>by rw[hnb]at hp;cases hp;exact hm))
   rw[this]
   have hno':=hno n b hnb
   cases x with
   |box t cs=>obtain⟨b,vs,q1,q2,q3⟩:=hr;exact⟨b,vs,q1,q2,q3.A0q hno'⟩
   |vec e x=>exact hr
   |view t x c=>exact hr
   |map t x=>exact hr
 refine⟨by rw[p2];exact hs.df,p1,?_,?_,?_,?_,?_,B9p hs.chg hb,fun e b hm=>hs.fs e b (h3 _ hm),ho.on,?_,hs.gx,⟨h4.2.trans hs.cf.1,by rw[h4.2];exact hs.cf.2⟩,?_,⟨fun b h=>.inl (hs.fw.1 b h),by rw[show st'.hp=st.hp from congrArg bF h4.1];exact hs.fw.2⟩⟩
 rotate_right
 ·refine hs.hg.move hf rfl (fun k hk=>⟨hb.block k hk.1,b8 hk.1 hb.size,(fun h=>h.elim hk.2.1 fun h=>(ho.ft k h).elim hk.2.1 fun h=>by have:=hk.1;omega),fun n x hx he=>?_⟩) (congrArg bF h4.1) (congrArg bG h4.1) h4.2
  rcases h2 n x hx with hnb|⟨hne,hx'⟩
  ·have:=(ho.bx n x hnb).2 k he
   have:=hk.1
   omega
  ·rw[ho.be n hne]at he
   exact hk.2.2 n x hx' he
 ·intro b hbb
  have hlt:b<w'.heap.size:=by
   rcases hbb with h|h
   ·exact b8 (hs.ft b h).1 hb.size
   ·rcases ho.ft b h with h|h
    ·exact b8 (hs.ft b h).1 hb.size
    ·exact h.2
  refine⟨hlt,fun n x hx he=>?_⟩
  rcases h2 n x hx with hnb|⟨hne,hx'⟩
  ·obtain⟨q1,q2,q3⟩:=(ho.bx n x hnb).2 b he
   rcases hbb with h|h
   ·have:=(hs.ft b h).1;omega
   ·exact q3 h
  ·rw[ho.be n hne]at he
   rcases hbb with h|h
   ·exact(hs.ft b h).2 n x hx' he
   ·rcases ho.ft b h with h|h
    ·exact(hs.ft b h).2 n x hx' he
    ·have:=(hs.own n x b hx' he).1;omega
 ·intro t s ht
  rcases h1 t s ht with⟨e1,rfl⟩|⟨e1,ht'⟩
  ·exact⟨v,p3 t e1,ho.rv.mono hf'⟩
  ·obtain⟨u,u1,u2⟩:=hs.tm t s ht'
   exact⟨u,by rw[p4 t e1];exact u1,hmv s u (fun n b hnb=>(hn n b hnb).1 t s ht') u2⟩
 ·intro n x hx
  rcases h2 n x hx with hnb|⟨hne,hx'⟩
  ·exact(ho.bx n x hnb).1.mono hf' (fun k hk=>rfl) (fun n b t h _=>rfl)
  ·rw[ho.be n hne]
   exact hmb x _ (fun m b hnb=>(hn m b hnb).2 n x hx') ((hs.bx n x hx').mono hf (fun k hk=>hb.block k (hs.own n x k hx' hk).1) (fun n b t h _=>hb.block b (hs.hg.gm n b t h).1))
 ·intro n m x y k hx hy e1 e2
  rcases h2 n x hx with hnb|⟨hne,hx'⟩<;>rcases h2 m y hy with hmb'|⟨hme,hy'⟩
  ·rw[hnb]at hmb';cases hmb';rfl
  ·have q:=(ho.bx n x hnb).2 k e1
   rw[ho.be m hme]at e2
   have:=(hs.own m y k hy' e2).1
   omega
  ·have q:=(ho.bx m y hmb').2 k e2
   rw[ho.be n hne]at e1
   have:=(hs.own n x k hx' e1).1
   omega
  ·rw[ho.be n hne]at e1
   rw[ho.be m hme]at e2
   exact hs.inj n m x y k hx' hy' e1 e2
 ·intro n x k hx hk
  rcases h2 n x hx with hnb|⟨hne,hx'⟩
  ·have q:=(ho.bx n x hnb).2 k hk
   exact⟨q.2.1,.inr (bD hs.chg.size q.1)⟩
  ·rw[ho.be n hne]at hk
   have q:=hs.own n x k hx' hk
   exact⟨b8 q.1 hb.size,q.2⟩
 ·rintro b (h|h)
  ·exact hs.f0 b h
  ·rcases ho.ft b h with h|h
   ·exact hs.f0 b h
   ·exact .inr (.inl (bD hs.chg.size h.1))
theorem E6d.ext{sv:SV}{nb:Option (Nat × Box)}{v:Value}{w':World}{Ft':Fr}{β':Nat→Value}(h:E6d X ρ Ft β w sv nb v w' Ft' β')(r:List D)(h1:sv.sc ρ.length=true)(h2:∀p,nb=some p→p.2.sc ρ.length=true):E6d X (ρ++r) Ft β w sv nb v w' Ft' β':=
 ⟨h.bl,h.ft,h.rv.ext r h1,h.be,h.on,fun n b hnb=>⟨(h.bx n b hnb).1.ext r (h2 _ hnb),(h.bx n b hnb).2⟩,h.gh⟩
def A5q(X:Cx)(ρ:List D)(ops:Array Oper)(sti:St)(o:Oper)(sv:SV)(nb:Option (Nat × Box)):Prop:=
 ∀(Ft:Fr) (β:Nat→Value) (a:Act) (w:World),Sat X ρ sti Ft β a w→∀(next:Act→World→Prop) (Q:Exit→Act→World→Prop),(∀v w' Ft' β',E6d X ρ Ft β w sv nb v w' Ft' β'→next (a.put o.dst v) w')→
  if aY o (yielded ops a.tmps)then o.wp X.P a w next Q∨(o.asks X.P a w∧LetsOut Q)else next (a.put o.dst undef) w
def H3h(X:Cx)(ρ:List D)(sti:St)(o:Oper)(sv:SV)(nb:Option (Nat × Box)):Prop:=
 ∀(Ft:Fr) (β:Nat→Value) (a:Act) (w:World),Sat X ρ sti Ft β a w→∀(next:Act→World→Prop) (Q:Exit→Act→World→Prop),(∀v w' Ft' β',E6d X ρ Ft β w sv nb v w' Ft' β'→next (a.put o.dst v) w')→o.wp X.P a w next Q
theorem C2z(hF:A5j X.G X.P Fs){o:Oper}{K:SV→Option Box→Nat→T}{L:List Fn}{r:List D}(he:eval Fs fuel (E5w X.P st o K) L ρ=some r)(hnv:st.nv=ρ.length)(hsc:st.sc=true):
  ∃ext sv nb k,ext.length=k∧eval Fs fuel (K sv nb k) L (ρ++ext)=some r∧((∀b,nb=some b→b.noN st.nn=true)→H3h X (ρ++ext) {st with nv:=st.nv+k} o sv (nb.map fun b=>(st.nn,b))):=by
 unfold E5w at he
 split at he
 ·rename_i es sv nb hev
  obtain⟨hes,he2⟩:=A3b he
  refine⟨[],sv,nb,0,rfl,by rw[a6];exact he2,?_⟩
  intro hno Ft β a w hs next Q HK
  rw[a6]at hs HK
  have hs':Sat X ρ st Ft β a w:=hs.sub (fun _ _ h=>h) (fun _ _ h=>h) (fun _ h=>h)
  have hcame:=E9o hs'.on hs' hev hes
  unfold bH
  unfold A7y at hcame
  split at hcame
  ·obtain⟨v,e1,hv⟩:=hcame
   rw[e1]
   exact HK v w Ft β ⟨Below.refl _ _,fun b hb=>.inl hb,hv,fun n _=>rfl,hs.on,(fun n b hnb=>by cases hnb),⟨rfl,rfl⟩⟩
  ·rename_i t cs
   obtain⟨vs,e1,rfl,hl⟩:=hcame
   rw[e1]
   have hb:=C0l w (.cells vs.toArray t)
   have hf:Le w Ft (w.alloc (.cells vs.toArray t)) Ft:=Le.same fun b h=>hb.block b (hs.ft b h).1
   refine HK _ _ Ft (A0q β st.nn (.pointer (some ⟨w.heap.size,0,none⟩))) ⟨hb,fun b hb=>.inl hb,⟨w.heap.size,by simp[A0q],rfl⟩,?_,?_,?_,⟨rfl,rfl⟩⟩
   ·intro n hn
    have:n≠st.nn:=hn (st.nn,.box t cs) rfl
    simp[A0q,this]
   ·intro n
    unfold A0q
    split
    ·rfl
    ·exact hs.on n
   ·intro n b hnb
    simp only[b5,b7,bE]at hnb
    obtain⟨rfl,rfl⟩:=hnb
    refine⟨⟨w.heap.size,vs,by simp[A0q],heap_alloc_new w _,(hl.mono hf).A0q (hno _ rfl)⟩,?_⟩
    intro k hk
    simp[A0q,bk]at hk
    subst hk
    exact⟨b9 _,by rw[B3h];omega,fun h=>Nat.lt_irrefl _ (hs.ft _ h).1⟩
  ·rename_i t x c
   obtain⟨v,e1,rfl,hv,h1⟩:=hcame
   rw[e1]
   refine HK v w Ft (A0q β st.nn v) ⟨Below.refl _ _,fun b hb=>.inl hb,by show v=_;simp[A0q],fun n hn=>?_,fun n=>?_,fun n b hnb=>?_,⟨rfl,rfl⟩⟩
   ·have:n≠st.nn:=hn (st.nn,.view t x c) rfl
    simp[A0q,this]
   ·unfold A0q
    split
    ·exact h1
    ·exact hs.on n
   ·simp only[b5,b7,bE]at hnb
    obtain⟨rfl,rfl⟩:=hnb
    refine⟨by simp only[A0q,Q5];exact hv,fun k hk=>by cases hk⟩
  ·exact hcame.elim
  ·exact hcame.elim
 ·split at he
  ·rename_i c ho
   split at he
   ·rename_i x hcl
    split at he
    rotate_left
    ·cases he
    rename_i f hx
    split at he
    ·rename_i ps rs hm vs hsig hvs
     split at he
     ·rename_i es hh hes hhs
      split at he
      ·rename_i hc
       obtain⟨hm1,hrow,hcon⟩:=hc
       have hm2:hm≠2:=by omega
       simp only[eval]at he
       split at he
       ·rename_i res hres
        split at he
        ·rename_i hlen
         refine⟨res,C9u rs st.nv st.nn,(A7h rs st.nv).head?,A3n rs,hlen,he,?_⟩
         intro hno Ft β a w hs0 next Q HK
         have hs:Sat X ρ st Ft β a w:=Sat.H0o (st:=st) (hs0.sub (st':=st) (fun _ _ h=>h) (fun _ _ h=>h) (fun _ h=>h)) hsc hnv
         obtain⟨fn,rs',hfn,hbody,hname,_⟩:=D1t hsig
         obtain⟨l1,q1⟩:=B4t hs hvs
         obtain⟨φ,_,hRR,hcall⟩:=F5s hF hs hsig (vals:=c.args.toList.map a.eval) (by simpa using l1) q1 hes hhs hres
         have hrun:(execOp a.eval o).run X.P w=.ok (.enter f (c.args.toList.map a.eval).toArray) w:=by
          simpa using D3v (X:=X) (w:=w) ho hcl (caps:=[]) (A0g hs hx) fn hfn hbody hname
         unfold bH
         rw[hrun]
         simp only[bI]
         refine hcall.mono ?_
         have hR0:A3g ps (c.args.toList.map a.eval)=[]:=aM.2 fun k hk=>by
          obtain⟨m,x,z,_⟩:=hRR k hk
          rw[hcon]at z;cases z
         rw[hR0]
         rintro e w' ⟨v,F',φ',rfl,hout⟩
         have hchg:=hout.chg
         rw[D7w hm2]at hchg
         have hbl:=D5r hchg
         obtain⟨r0,hd0,hr,hr0,hr1⟩:=hout.res
         rw[Q0 hm2]at hr1
         subst hr1
         rw[a6]at hr
         subst hr
         have hft:∀b,F' b→Ft b∨(w.heap.size≤b∧b<w'.heap.size):=fun b hb=>by
          obtain⟨z1,z2⟩:=hout.new b hb
          rcases z2 with z2|z2|z2
          ·exact .inl z2
          ·exact .inr ⟨z2,z1⟩
          ·rw[D7w hm2]at z2;cases z2
         have hgh:F'.γ=Ft.γ∧F'.hc=Ft.hc:=⟨hout.γ (by omega),hout.le.hc⟩
         have hρ:∀(i:Nat) (d:D),res[i]?=some d→(ρ++res).getD (st.nv+i) .nil=d:=fun i d hd=>by
          rw[hnv,aC,aR (by omega),Nat.add_sub_cancel_left]
          simp[hd]
         rcases B3c (β:=β) (ρ:=ρ++res) (n:=st.nv) hr0.args hρ hrow with⟨e1,e2,e3⟩|⟨e,k,u,e1,e2,e3,e4,e5,e6⟩
         ·have hr2:=(C6q (ρ:=ρ) (β:=β) (nn:=st.nn) (hd:=[]) hr0 (fun i e u h=>absurd h (e3 i e))).1
          rw[a6,←hnv]at hr2
          refine HK v w' F' β ⟨hbl,hft,hr2,fun n _=>rfl,hs.on,(fun n b hnb=>?_),hgh⟩
          rw[e1]at hnb;cases hnb
         ·have hr2:=(C6q (ρ:=ρ) (β:=A0q β st.nn u) (nn:=st.nn) (hd:=[]) hr0 (fun i e' u' h h'=>by rw[e6 i e' u' h h'];simp[A0q])).1
          rw[a6,←hnv]at hr2
          refine HK v w' F' (A0q β st.nn u) ⟨hbl,hft,hr2,fun n hn=>?_,fun n=>?_,(fun n b hnb=>?_),hgh⟩
          ·have:n≠st.nn:=hn (st.nn,.vec e (.var k)) (by rw[e1];rfl)
           simp[A0q,this]
          ·unfold A0q
           split
           ·exact e5
           ·exact hs.on n
          ·rw[e1]at hnb
           simp only[List.head?_cons,b5,b7,bE]at hnb
           obtain⟨rfl,rfl⟩:=hnb
           refine⟨by simp only[A0q,Q5];exact e3,fun k' hk'=>?_⟩
           simp only[A0q,Q5,Box.A9s]at hk'
           obtain⟨z1,z2,z3,_⟩:=hout.own k' (by rw[e4,hk'];simp)
           exact⟨z3.elim id (fun h=>by rw[D7w hm2]at h;cases h),z1,z2⟩
        ·cases he
       ·cases he
      ·cases he
     ·cases he
    ·cases he
   ·cases he
  ·rename_i t n parts ho
   split at he
   ·rename_i sv hev
    refine⟨[],sv,none,0,rfl,by rw[a6];exact he,?_⟩
    intro hno Ft β a w hs next Q HK
    rw[a6]at hs HK
    have hs':Sat X ρ st Ft β a w:=hs.sub (fun _ _ h=>h) (fun _ _ h=>h) (fun _ h=>h)
    obtain⟨v,w',e1,hb,hv⟩:=C6m hs'.on hs' ho hev
    unfold bH
    rw[e1]
    exact HK v w' (E1n Ft w w') β ⟨hb,fun b h=>h,hv,fun n _=>rfl,hs.on,(fun n b hnb=>by cases hnb),⟨rfl,rfl⟩⟩
   ·cases he
  ·cases he
theorem G3j{e:E}{b:Bool}(hfs:∀e b,(e,b) ∈ st.fs→(den ρ e).toBool=b)(h:known st e=some b):(den ρ e).toBool=b:=by
 unfold known at h
 split at h
 ·simp at h;subst h;rfl
 ·cases hf:st.fs.find? (fun p=>p.1 == e)with
  |none=>simp[hf]at h
  |some p=>
   simp[hf]at h;subst h
   have hm:=List.mem_of_find?_eq_some hf
   have he:=List.find?_some hf
   simp at he;subst he
   exact hfs _ _ hm
theorem D8n{e:E}{b:Bool}{fs:List (E × Bool)}{p:E × Bool}(h:p ∈ addFact e b fs):p=(e,b)∨(∃x,e=.not x∧p=(x,!b))∨p ∈ fs:=by
 unfold addFact at h
 split at h
 ·rename_i x
  rcases a8.1 h with h|h
  ·exact .inl h
  ·rcases a8.1 h with h|h
   ·exact .inr (.inl ⟨x,rfl,h⟩)
   ·exact .inr (.inr h)
 ·rcases a8.1 h with h|h
  ·exact .inl h
  ·exact .inr (.inr h)
theorem C0j{e:E}{b:Bool}{fs:List (E × Bool)}{p:E × Bool}(h:p ∈ fs):p ∈ addFact e b fs:=by
 unfold addFact
 split
 ·exact a4 _ (a4 _ h)
 ·exact a4 _ h
theorem D5b{e:E}{b:Bool}(hfs:∀e b,(e,b) ∈ st.fs→(den ρ e).toBool=b)(h:(den ρ e).toBool=b):∀e' b',(e',b') ∈ addFact e b st.fs→(den ρ e').toBool=b':=by
 intro e' b' hm
 rcases D8n hm with h'|⟨x,h1,h2⟩|h'
 ·cases h';exact h
 ·cases h2;subst h1
  have:(!(den ρ e').toBool)=b:=h
  rw[←this];simp
 ·exact hfs e' b' h'
theorem C2e{e:E}{b:Bool}(hsc:st.sc=true)(he:e.sc st.nv=true):({st with fs:=addFact e b st.fs}:St).sc=true:=by
 simp only[St.sc,a0,a3]at hsc⊢
 refine⟨⟨hsc.1.1,fun p hp=>?_⟩,hsc.2⟩
 rcases D8n hp with h'|⟨x,h1,h2⟩|h'
 ·subst h';exact he
 ·subst h2 h1;exact he
 ·exact hsc.1.2 p h'
theorem A5q.skip{ops:Array Oper}{sti:St}{o:Oper}(hw:∀Ft β a w,Sat X ρ sti Ft β a w→aY o (yielded ops a.tmps)=false):A5q X ρ ops sti o (.tup []) none:=by
 intro Ft β a w hs next Q HK
 rw[Q0 (by simp[hw Ft β a w hs])]
 exact HK undef w Ft β ⟨Below.refl _ _,fun b hb=>.inl hb,⟨[],rfl,rfl,fun i c u h=>by simp at h⟩,fun n _=>rfl,hs.on,(fun n b hnb=>by cases hnb),⟨rfl,rfl⟩⟩
theorem A5q.run{ops:Array Oper}{sti:St}{o:Oper}{sv:SV}{nb:Option (Nat × Box)}(hw:∀Ft β a w,Sat X ρ sti Ft β a w→aY o (yielded ops a.tmps)=true)(h:H3h X ρ sti o sv nb):A5q X ρ ops sti o sv nb:=by
 intro Ft β a w hs next Q HK
 rw[Q3 (by simp[hw Ft β a w hs])]
 exact .inl (h Ft β a w hs next Q HK)
theorem G3y(hF:A5j X.G X.P Fs){ops:Array Oper}{o:Oper}{K:SV→Option Box→Nat→List (E × Bool)→T}{L:List Fn}{r:List D}(he:eval Fs fuel (hdG X.P ops st o K) L ρ=some r)(hnv:st.nv=ρ.length)(hsc:st.sc=true)
  (hfs:∀e b,(e,b) ∈ st.fs→(den ρ e).toBool=b):
  ∃ext sv nb k fs,ext.length=k∧eval Fs fuel (K sv nb k fs) L (ρ++ext)=some r∧(∀p ∈ st.fs,p ∈ fs)∧(∀p ∈ fs,p.1.sc st.nv=true)∧(∀e b,(e,b) ∈ fs→(den ρ e).toBool=b)∧
   ((∀b,nb=some b→b.noN st.nn=true)→A5q X (ρ++ext) ops {st with nv:=st.nv+k,fs:=fs} o sv (nb.map fun b=>(st.nn,b))):=by
 have hfsc:∀p ∈ st.fs,p.1.sc st.nv=true:=by
  simp only[St.sc,a0,a3]at hsc
  exact hsc.1.2
 unfold hdG at he
 split at he
 ·rename_i hg
  split at he
  ·split at he
   ·rename_i t x lo hi mx ho
    split at he
    ·rename_i es sv hev
     obtain⟨hes,he2⟩:=A3b he
     refine⟨[],sv,none,0,st.fs,rfl,by rw[a6];exact he2,fun p hp=>hp,hfsc,hfs,fun hno=>A5q.run (fun Ft β a w hs=>by unfold aY;rw[hg]) ?_⟩
     intro Ft β a w hs next Q HK
     rw[a6]at hs HK
     have hs':Sat X ρ st Ft β a w:=hs.sub (fun _ _ h=>h) (fun _ _ h=>h) (fun _ h=>h)
     obtain⟨v,e1,hv⟩:=F3y hs' ho hev hes
     unfold bH
     rw[e1]
     exact HK v w Ft β ⟨Below.refl _ _,fun b hb=>.inl hb,hv,fun n _=>rfl,hs.on,(fun n b hnb=>by cases hnb),⟨rfl,rfl⟩⟩
    ·cases he
   ·cases he
  ·obtain⟨ext,sv,nb,k,h1,h2,h3⟩:=C2z (X:=X) hF he hnv hsc
   exact⟨ext,sv,nb,k,st.fs,h1,h2,fun p hp=>hp,hfsc,hfs,fun hno=>A5q.run (fun Ft β a w hs=>by unfold aY;rw[hg]) (h3 hno)⟩
 ·rename_i j want hg
  split at he
  ·rename_i d hd
   split at he
   ·rename_i e hl
    have hesc:e.sc st.nv=true:=by
     simp only[St.sc,a0,a3]at hsc
     exact hsc.1.1.1 _ (A0z (St.F9k hl).2)
    have hwant:∀(ext:List D) (k:Nat) (fs:List (E × Bool)) Ft β a w,Sat X (ρ++ext) {st with nv:=st.nv+k,fs:=fs} Ft β a w→aY o (yielded ops a.tmps)=decide ((den ρ e).toBool=want):=by
     intro ext k fs Ft β a w hs
     obtain⟨v,hv1,hv2⟩:=hs.at hl
     have hv:v=.bool (den (ρ++ext) e).toBool:=Rd.A6x hv2
     rw[A0y (by rw[←hnv];exact hesc)]at hv
     subst hv
     have hy:yielded ops a.tmps j=some (den ρ e).toBool:=by
      unfold yielded
      rw[hd]
      simp[hv1]
     unfold aY
     rw[hg]
     simp only[hy]
     cases (den ρ e).toBool<;>cases want<;>rfl
    split at he
    ·rename_i b hk
     have hb:=G3j hfs hk
     split at he
     ·rename_i hbw
      obtain⟨ext,sv,nb,k,h1,h2,h3⟩:=C2z (X:=X) hF he hnv hsc
      exact⟨ext,sv,nb,k,st.fs,h1,h2,fun p hp=>hp,hfsc,hfs,fun hno=>A5q.run (fun Ft β a w hs=>by rw[hwant ext k st.fs Ft β a w hs,hb];simpa using hbw) (h3 hno)⟩
     ·rename_i hbw
      exact⟨[],.tup [],none,0,st.fs,rfl,by rw[a6];exact he,fun p hp=>hp,hfsc,hfs,fun hno=>A5q.skip (fun Ft β a w hs=>by rw[hwant [] 0 st.fs Ft β a w hs,hb];simpa using hbw)⟩
    ·simp only[eval]at he
     split at he
     ·rename_i ht
      have hf1:=D5b (b:=true) hfs ht
      have hf2:∀p ∈ addFact e true st.fs,p.1.sc st.nv=true:=by
       have:=C2e (b:=true) hsc hesc
       simp only[St.sc,a0,a3]at this
       exact this.1.2
      split at he
      ·rename_i hw
       obtain⟨ext,sv,nb,k,h1,h2,h3⟩:=C2z (X:=X) (st:={st with fs:=addFact e true st.fs}) hF he hnv (C2e hsc hesc)
       exact⟨ext,sv,nb,k,_,h1,h2,fun p hp=>C0j hp,hf2,hf1,fun hno=>A5q.run (fun Ft β a w hs=>by rw[hwant ext k _ Ft β a w hs,ht];simp[hw]) (h3 hno)⟩
      ·rename_i hw
       exact⟨[],.tup [],none,0,_,rfl,by rw[a6];exact he,fun p hp=>C0j hp,hf2,hf1,fun hno=>A5q.skip (fun Ft β a w hs=>by rw[hwant [] 0 _ Ft β a w hs,ht];simpa using hw)⟩
     ·rename_i ht
      have ht':(den ρ e).toBool=false:=by simpa using ht
      have hf1:=D5b (b:=false) hfs ht'
      have hf2:∀p ∈ addFact e false st.fs,p.1.sc st.nv=true:=by
       have:=C2e (b:=false) hsc hesc
       simp only[St.sc,a0,a3]at this
       exact this.1.2
      split at he
      ·rename_i hw
       exact⟨[],.tup [],none,0,_,rfl,by rw[a6];exact he,fun p hp=>C0j hp,hf2,hf1,fun hno=>A5q.skip (fun Ft β a w hs=>by rw[hwant [] 0 _ Ft β a w hs,ht'];simp[hw])⟩
      ·rename_i hw
       obtain⟨ext,sv,nb,k,h1,h2,h3⟩:=C2z (X:=X) (st:={st with fs:=addFact e false st.fs}) hF he hnv (C2e hsc hesc)
       exact⟨ext,sv,nb,k,_,h1,h2,fun p hp=>C0j hp,hf2,hf1,fun hno=>A5q.run (fun Ft β a w hs=>by rw[hwant ext k _ Ft β a w hs,ht'];simpa using hw) (h3 hno)⟩
   ·rename_i l hl
    refine⟨[],.tup [],none,0,st.fs,rfl,by rw[a6];exact he,fun p hp=>hp,hfsc,hfs,fun hno=>A5q.skip (fun Ft β a w hs=>?_)⟩
    obtain⟨v,hv1,hv2⟩:=hs.at hl
    obtain⟨vs,rfl,_⟩:=hv2
    unfold aY yielded
    rw[hg]
    simp only[hd]
    simp[hv1]
   ·cases he
  ·cases he
def D8a(X:Cx)(ρ:List D)(sti:St)(o:Oper)(n off:Nat)(xs:List C):Prop:=
 o.guard=none∧o.dst=none∧∀(Ft:Fr) (β:Nat→Value) (a:Act) (w:World),Sat X ρ sti Ft β a w→∃b,∃ys:List Value,β n=.pointer (some ⟨b,0,none⟩)∧RCL X.P w Ft ρ β xs ys∧
  ∀bt (vs:List Value),w.heap[b]?=some (.cells vs.toArray bt (0,0))→off+ys.length≤vs.length→(execOp a.eval o).run X.P w=.ok .skip (w.setRow b (vs.take off++ys++vs.drop (off+ys.length)).toArray)
def G0k(X:Cx)(ρ:List D)(ops:Array Oper)(sti:St)(o:Oper)(r:Rec):Prop:=
 match r.wr with
 |none=>A5q X ρ ops sti o r.sv r.nb
 |some (n,off,xs)=>D8a X ρ sti o n off xs
theorem F0i{n off:Nat}{xs:List C}{o:Oper}(h:E8b X.P st o=some (n,off,xs)):D8a X ρ st o n off xs:=by
 unfold E8b at h
 split at h
 ·rename_i t x v ho
  split at h
  ·rename_i n' off' sv hx hv
   split at h
   ·rename_i xs' hxs
    split at h
    ·rename_i hc
     obtain⟨hsz,hd,hg⟩:=hc
     simp only[b7,bE]at h
     obtain⟨rfl,rfl,rfl⟩:=h
     refine⟨hg,hd,fun Ft β a w hs=>?_⟩
     obtain⟨b,hb1,hb2⟩:=A0g hs hx
     obtain⟨ys,hy1,hy2⟩:=(A3o hs hv).cells hxs hs.on
     refine⟨b,ys,hb1,hy2,fun bt vs e2 hle=>?_⟩
     have hlen:xs'.length=ys.length:=hy2.1
     have hstore:(storeCells ⟨b,off',none⟩ ys 0).run X.P w=.ok () (w.setRow b (vs.take off'++ys++vs.drop (off'+ys.length)).toArray):=by
      have:=run_storeCells_at (P:=X.P) b off' bt ys 0 vs.toArray w e2 (by simp;omega) (by
       intro y hy
       obtain⟨i,hi⟩:=aN hy
       have hlt:i<xs'.length:=by rw[hlen];exact(a5.1 hi).1
       exact RC.one (hy2.2 i xs'[i] y (aB hlt) hi) (fun n _=>hs.on n))
      simpa using this
     simp only[execOp,ho,Instr.storeAt,hb2,Instr.sureAddr,storeVar,Sem.run_bind,Sem.run_pure,Result.andThen_ok,A2y hsz,hy1,List.size_toArray,hlen,ne_eq,not_true,Q4]
     simp only[ite_false,Sem.run_pure,Result.andThen_ok,hstore]
    ·cases h
   ·cases h
  ·cases h
 ·cases h
theorem D8a.ext{sti:St}{o:Oper}{n off:Nat}{xs:List C}(h:D8a X ρ sti o n off xs)(r:List D)(hsc:sti.sc=true)(hnv:sti.nv=ρ.length)(hx:xs.all (C.sc ρ.length)=true):D8a X (ρ++r) sti o n off xs:=by
 obtain⟨h1,h2,h3⟩:=h
 refine⟨h1,h2,fun Ft β a w hs=>?_⟩
 obtain⟨b,ys,q1,q2,q3⟩:=h3 Ft β a w (hs.H0o hsc hnv)
 exact⟨b,ys,q1,q2.ext r hx,q3⟩
structure F1v(X:Cx)(ρF:List D)(ops:Array Oper)(preds sa:List Nat)(l:List (Oper × Nat))(stF:St)(R:List Rec)(r:Rec):Prop where
 ex:∃(o:Oper) (R1 R1':List Rec) (sti:St),(∀q ∈ R1',q ∈ R∧vis sa q=true)∧(o,r.i) ∈ l∧r.dst=o.dst∧A3a X.nt o.dst=true∧(∀q ∈ R1,q ∈ R)∧sti.tm=B3i R1 (fun j=>(preds.getD r.i 0).testBit j)++stF.tm∧
  sti.bx=B1r R1' (fun j=>(preds.getD r.i 0).testBit j)++stF.bx∧((∀p ∈ sti.fs,p ∈ stF.fs)∧sti.key=stF.key∧sti.cf=stF.cf)∧G0k X ρF ops sti o r
theorem A5q.ext{ops:Array Oper}{sti:St}{o:Oper}{sv:SV}{nb:Option (Nat × Box)}(h:A5q X ρ ops sti o sv nb)(r:List D)(hsc:sti.sc=true)(hnv:sti.nv=ρ.length)(h1:sv.sc ρ.length=true)(h2:∀p,nb=some p→p.2.sc ρ.length=true):A5q X (ρ++r) ops sti o sv nb:=by
 intro Ft β a w hs0 next Q HK
 have hs:Sat X ρ sti Ft β a w:=hs0.H0o hsc hnv
 exact h Ft β a w hs next Q (fun v w' Ft' β' ho=>HK v w' Ft' β' (ho.ext r h1 h2))
theorem E.scm{n m:Nat}(h:n≤m):∀e:E,e.sc n=true→e.sc m=true:=by
 intro e
 induction e with
 |var k=>intro h;simp[E.sc]at h⊢;omega
 |_=>intro h;simp_all [E.sc]
theorem C.scm{n m:Nat}(h:n≤m)(c:C):c.sc n=true→c.sc m=true:=by
 cases c with
 |dat t e=>exact E.scm h e
 |A9m t a i c=>intro q;simp only[C.sc,a0]at q⊢;exact⟨E.scm h _ q.1,E.scm h _ q.2⟩
 |B3e t a c=>exact E.scm h a
 |A6c m t i c=>exact E.scm h i
 |win m t i j=>intro q;simp only[C.sc,a0]at q⊢;exact⟨E.scm h _ q.1,E.scm h _ q.2⟩
 |A8b t a c=>exact E.scm h a
 |_=>exact fun h=>h
theorem Cs.scm{n m:Nat}(h:n≤m)(cs:List C)(q:cs.all (C.sc n)=true):cs.all (C.sc m)=true:=a3.2 fun c hc=>C.scm h c (a3.1 q c hc)
theorem V1.scm{n m:Nat}(h:n≤m)(v:V1):v.sc n=true→v.sc m=true:=by
 cases v with
 |one c=>exact C.scm h c
 |agg cs=>exact Cs.scm h cs
theorem SV.scm{n m:Nat}(h:n≤m)(v:SV):v.sc n=true→v.sc m=true:=by
 cases v with
 |one c=>exact C.scm h c
 |agg cs=>exact Cs.scm h cs
 |tup l=>exact fun q=>a3.2 fun c hc=>V1.scm h c (a3.1 q c hc)
theorem Box.scm{n m:Nat}(h:n≤m)(x:Box):x.sc n=true→x.sc m=true:=by
 cases x with
 |box t cs=>exact Cs.scm h cs
 |vec e x=>exact E.scm h x
 |view t a c=>exact E.scm h a
 |map t x=>exact E.scm h x
structure Hsc(st:St)(R:List Rec):Prop where
 tm:∀p ∈ st.tm,p.2.sc st.nv=true
 bx:∀p ∈ st.bx,p.2.sc st.nv=true
 fs:∀p ∈ st.fs,p.1.sc st.nv=true
 hp:st.hp.all (fun p=>p.2.sc st.nv)=true
 ex:∀p ∈ st.ex,p.2.2.sc st.nv=true
 sv:∀r ∈ R,r.sv.sc st.nv=true
 nb:∀r ∈ R,∀p,r.nb=some p→p.2.sc st.nv=true
theorem Hsc.loc{st:St}{R:List Rec}(h:Hsc st R)(sa:List Nat)(sel:Nat→Bool):(A9v st R sa sel).sc=true:=by
 simp only[St.sc,A9v,a0,a3]
 refine⟨⟨⟨fun p hp=>?_,fun p hp=>?_⟩,h.fs⟩,h.hp,h.ex⟩
 ·rcases aD.1 hp with hp|hp
  ·obtain⟨r,h1,h2⟩:=aQ.1 hp
   split at h2
   ·cases hd:r.dst with
    |none=>simp[hd]at h2
    |some t=>simp[hd]at h2;subst h2;exact h.sv r h1
   ·cases h2
  ·exact h.tm p hp
 ·rcases aD.1 hp with hp|hp
  ·obtain⟨r,h1,h2⟩:=aQ.1 hp
   split at h2
   ·exact h.nb r (a9.1 h1).1 p h2
   ·cases h2
  ·exact h.bx p hp
theorem G4c{n m:Nat}(h:n≤m){hp:Option (Bool × E)}(q:hp.all (fun p=>p.2.sc n)=true):hp.all (fun p=>p.2.sc m)=true:=by
 cases hp with
 |none=>rfl
 |some p=>simp only[b4]at q⊢;exact E.scm h _ q
theorem H4t{st:St}{n:Nat}(h:st.sc=true)(hn:st.nv≤n){fs:List (E × Bool)}(hfs:∀p ∈ fs,p.1.sc n=true):({st with nv:=n,fs:=fs}:St).sc=true:=by
 simp only[St.sc,a0,a3]at h⊢
 exact⟨⟨⟨fun p hp=>SV.scm hn _ (h.1.1.1 p hp),fun p hp=>Box.scm hn _ (h.1.1.2 p hp)⟩,hfs⟩,G4c hn h.2.1,fun p hp=>E.scm hn _ (h.2.2 p hp)⟩
theorem D2a(hF:A5j X.G X.P Fs){ops:Array Oper}{preds sa:List Nat}{K:St→List Rec→T}{L:List Fn}{r:List D}:∀(l:List (Oper × Nat)) {st0:St} {R:List Rec} {ρ:List D},eval Fs fuel (E6s X.P X.nt ops preds sa l st0 R K) L ρ=some r→st0.nv=ρ.length→Hsc st0 R→
  (∀e b,(e,b) ∈ st0.fs→(den ρ e).toBool=b)→
  ∃ext stF R2,eval Fs fuel (K stF (R++R2)) L (ρ++ext)=some r∧stF.nv=(ρ++ext).length∧stF.tm=st0.tm∧(stF.bx=st0.bx∧stF.key=st0.key∧stF.cf=st0.cf)∧(∀p ∈ st0.fs,p ∈ stF.fs)∧(∀e b,(e,b) ∈ stF.fs→(den (ρ++ext) e).toBool=b)∧
   ∀q ∈ R2,∀e2,F1v X (ρ++ext++e2) ops preds sa l stF (R++R2) q
 |[],st0,R,ρ,he,hnv,hH,hfs=>⟨[],st0,[],by simpa[E6s]using he,by simpa using hnv,rfl,⟨rfl,rfl,rfl⟩,fun p hp=>hp,by simpa using hfs,fun q hq=>by cases hq⟩
 |(o,i)::l,st0,R,ρ,he,hnv,hH,hfs=>by
  simp only[E6s]at he
  split at he
  ·rename_i n off xs hst
   rw[A2j,A2j,A3d C4z]at he
   split at he
   ·rename_i hxs
    have hsc:=hH.loc sa (fun j=>(preds.getD i 0).testBit j)
    obtain⟨ext',stF,R2,g1,g2,g3,g4,g5,g6,g7⟩:=D2a hF l he hnv ⟨hH.tm,hH.bx,hH.fs,hH.hp,hH.ex,fun q hq=>by
     rcases aD.1 hq with hq|hq
     ·exact hH.sv q hq
     ·cases aJ.1 hq;rfl,fun q hq p hp=>by
     rcases aD.1 hq with hq|hq
     ·exact hH.nb q hq p hp
     ·cases aJ.1 hq;cases hp⟩ hfs
    refine⟨ext',stF,⟨i,none,.tup [],none,some (n,off,xs)⟩::R2,by simpa using g1,g2,g3,g4,g5,g6,?_⟩
    intro q hq e2
    rcases a8.1 hq with rfl|hq
    ·have hstep:=(F0i (ρ:=ρ) hst).ext (ext'++e2) hsc (by simpa[A9v]using hnv) (by rw[←hnv];exact hxs)
     refine⟨o,R,R.filter (vis sa),A9v st0 R sa (fun j=>(preds.getD i 0).testBit j),fun q hq=>⟨aH _ (a9.1 hq).1,(a9.1 hq).2⟩,a7 ..,hstep.2.1.symm,by rw[hstep.2.1];rfl,fun q hq=>aH _ hq,by simp[A9v,g3],by simp[A9v,g4.1],⟨fun p hp=>g5 p hp,g4.2.1.symm,g4.2.2.symm⟩,?_⟩
     simp only[aA]at hstep⊢
     exact hstep
    ·obtain⟨o',R1,R1',sti,z0,z1,z2,z3,z4,z5,z6,z7,z8⟩:=(g7 q hq e2).ex
     exact⟨o',R1,R1',sti,fun q' hq'=>by have:=z0 q' hq';simpa using this,a4 _ z1,z2,z3,fun q' hq'=>by have:=z4 q' hq';simpa using this,z5,z6,z7,by simpa[aA]using z8⟩
   ·cases he
  split at he
  ·rename_i hd
   have hsc:=hH.loc sa (fun j=>(preds.getD i 0).testBit j)
   obtain⟨ext,sv,nb,k,fs,h1,h2,h3,h4,h5,h6⟩:=G3y (X:=X) hF he (by simpa[A9v]using hnv) hsc (by simpa[A9v]using hfs)
   rw[C9n,F2q,A2j,A2j]at h2
   split at h2
   ·rename_i hc2
    simp only[a0]at hc2
    obtain⟨hsv,hnb⟩:=hc2
    have hnb1:∀b,nb=some b→b.sc (st0.nv+k)=true∧b.noN st0.nn=true:=by
     intro b hb
     subst hb
     simp only[b4,a0]at hnb
     exact hnb
    have hstep:=h6 (fun b hb=>(hnb1 b hb).2)
    have hlen:st0.nv+k=(ρ++ext).length:=by rw[List.length_append,h1,hnv]
    obtain⟨ext',stF,R2,g1,g2,g3,g4,g5,g6,g7⟩:=D2a hF l h2 hlen ⟨fun p hp=>SV.scm (by simp) _ (hH.tm p hp),fun p hp=>Box.scm (by simp) _ (hH.bx p hp),fun p hp=>E.scm (by simp[A9v]) _ (h4 p hp),G4c (by simp) hH.hp,fun p hp=>E.scm (by simp) _ (hH.ex p hp),fun q hq=>by
     rcases aD.1 hq with hq|hq
     ·exact SV.scm (by simp) _ (hH.sv q hq)
     ·cases aJ.1 hq;exact hsv,fun q hq p hp=>by
     rcases aD.1 hq with hq|hq
     ·exact Box.scm (by simp) _ (hH.nb q hq p hp)
     ·cases aJ.1 hq
      cases hnb':nb with
      |none=>rw[hnb']at hp;cases hp
      |some b=>rw[hnb']at hp;simp at hp;subst hp;exact(hnb1 b hnb').1⟩ (by
     intro e b hm
     have hes:=h4 _ hm
     simp only[A9v]at hes
     rw[A0y (by rw[←hnv];exact hes)]
     exact h5 e b hm)
    refine⟨ext++ext',stF,⟨i,o.dst,sv,nb.map fun b=>(st0.nn,b),none⟩::R2,by rw[←aA];simpa using g1,by rw[←aA];exact g2,g3,g4,fun p hp=>g5 p (h3 p hp),by rw[←aA];exact g6,?_⟩
    intro q hq e2
    rcases a8.1 hq with rfl|hq
    ·refine⟨o,R,R.filter (vis sa),{A9v st0 R sa (fun j=>(preds.getD i 0).testBit j)with nv:=st0.nv+k,fs:=fs},fun q hq=>⟨aH _ (a9.1 hq).1,(a9.1 hq).2⟩,a7 ..,rfl,hd,fun q hq=>aH _ hq,by simp[A9v,g3],by simp[A9v,g4.1],⟨fun p hp=>g5 p hp,g4.2.1.symm,g4.2.2.symm⟩,?_⟩
     have hsc2:({A9v st0 R sa (fun j=>(preds.getD i 0).testBit j)with nv:=st0.nv+k,fs:=fs}:St).sc=true:=H4t hsc (by simp[A9v]) (fun p hp=>by
      exact E.scm (by simp[A9v]) _ (h4 p hp))
     have:=hstep.ext (ext'++e2) hsc2 hlen (by rw[←hlen];exact hsv) (by
      intro p hp
      cases hnb':nb with
      |none=>rw[hnb']at hp;cases hp
      |some b=>rw[hnb']at hp;simp at hp;subst hp;rw[←hlen];exact(hnb1 b hnb').1)
     simp only[aA]at this⊢
     exact this
    ·obtain⟨o',R1,R1',sti,z0,z1,z2,z3,z4,z5,z6,z7,z8⟩:=(g7 q hq e2).ex
     exact⟨o',R1,R1',sti,fun q' hq'=>by have:=z0 q' hq';simpa using this,a4 _ z1,z2,z3,fun q' hq'=>by have:=z4 q' hq';simpa using this,z5,z6,z7,by simpa[aA]using z8⟩
   ·cases h2
  ·cases he
end
end Go.Proofs.YtckanieeocdpbaaGreat.Eng
namespace Go.Proofs.YtckanieeocdpbaaGreat.Eng
open Go.RowKit
set_option linter.unusedVariables false
set_option linter.unusedSimpArgs false
theorem C7l:∀(l:List (List Nat)) (acc:List Nat) (j:Nat),j<acc.length→(A9q l acc).getD j 0=acc.getD j 0
 |[],acc,j,h=>rfl
 |o::l,acc,j,h=>by
  simp only[A9q]
  rw[C7l l _ j (by simp;omega)]
  simp[aC,aS h]
theorem E9d(f:Nat→Nat)(p:Nat):∀(d:List Nat) (m:Nat),(d.foldl (fun m j=>m ||| (1 <<< j ||| f j)) m).testBit p=true→m.testBit p=true∨p ∈ d∨∃j ∈ d,(f j).testBit p=true
 |[],m,h=>.inl h
 |j::d,m,h=>by
  rw[aE]at h
  rcases E9d f p d _ h with h|h|⟨k,hk,h⟩
  ·rw[bC,bC,a1,a1]at h
   rcases h with h|h|h
   ·exact .inl h
   ·right;left
    rw[Nat.testBit_shiftLeft,a0,Q9]at h
    have h2:=Nat.testBit_one_eq_true_iff_self_eq_zero.1 h.2
    have:p=j:=by omega
    subst this
    exact a7 ..
   ·exact .inr (.inr ⟨j,a7 ..,h⟩)
  ·exact .inr (.inl (a4 _ h))
  ·exact .inr (.inr ⟨k,a4 _ hk,h⟩)
theorem D8z:∀(l:List (List Nat)) (acc:List Nat) (k:Nat) (o:List Nat) (p:Nat),l[k]?=some o→((A9q l acc).getD (acc.length+k) 0).testBit p=true→p ∈ o∨∃j ∈ o,((A9q l acc).getD j 0).testBit p=true
 |[],acc,k,o,p,h,hp=>by simp at h
 |o'::l,acc,0,o,p,h,hp=>by
  simp at h;subst h
  simp only[A9q]at hp⊢
  rw[Nat.add_zero,C7l l _ acc.length (by simp)]at hp
  simp only[aC,aR (b9 acc.length),Nat.sub_self,List.getElem?_cons_zero,Option.getD_some]at hp
  rcases E9d (fun j=>acc[j]?.getD 0) p o' 0 hp with hp|hp|⟨j,hj,hpj⟩
  ·simp at hp
  ·exact .inl hp
  ·refine .inr ⟨j,hj,?_⟩
   by_cases hlt:j<acc.length
   ·rw[C7l l _ j (by simp;omega)]
    rw[aC,aS hlt]
    exact hpj
   ·exfalso
    have:acc[j]?=none:=List.getElem?_eq_none (by omega)
    simp[this]at hpj
 |o'::l,acc,k+1,o,p,h,hp=>by
  simp only[A9q]at hp⊢
  refine D8z l _ k o p (by simpa using h) ?_
  simpa[Nat.add_assoc,Nat.add_comm 1 k]using hp
theorem E5l{o:Oper}{j:Nat}:j ∈ direct o↔∃e ∈ o.after,b1 .any e=true∧e.on=j:=by
 unfold direct
 simp only[aV,a9,Array.mem_toList_iff]
 constructor
 ·rintro⟨e,⟨h1,h2⟩,h3⟩;exact⟨e,h1,h2,h3⟩
 ·rintro⟨e,h1,h2,h3⟩;exact⟨e,⟨h1,h2⟩,h3⟩
theorem C0e{listed:Array Bool}{i j:Nat}{d:Bool}(hi:i<listed.size):(listed.setIfInBounds i true).getD j d=if j=i then true else listed.getD j d:=by
 by_cases h:j=i
 ·subst h;simp[hi]
 ·have:i≠j:=fun e=>h e.symm
  simp[Array.getElem?_setIfInBounds_ne this,h]
theorem B6z{listed:Array Bool}{j:Nat}(h:j<listed.size)(d d':Bool):listed.getD j d=listed.getD j d':=by
 simp[h]
theorem B1j{ops:Array Oper}{listed:Array Bool}{j:Nat}:j ∈ aZ .any ops listed↔listed.getD j true=false∧∃o,ops.toList[j]?=some o∧∀k ∈ direct o,listed.getD k false=true:=by
 rw[mem_ready]
 constructor
 ·rintro⟨h1,o,h2,h3⟩
  refine⟨h1,o,by simpa using h2,fun k hk=>?_⟩
  obtain⟨e,e1,e2,rfl⟩:=E5l.1 hk
  exact h3 e e1 e2
 ·rintro⟨h1,o,h2,h3⟩
  exact⟨h1,o,by simpa using h2,fun e he hb=>h3 _ (E5l.2 ⟨e,he,hb,rfl⟩)⟩
section
variable{X:Cx}{Fs:Nat→Fn}{fuel:Nat}{L:List Fn}{ops:Array Oper}{Q:Exit→Act→World→Prop}{K:St→T}{r:List D}
theorem C8g{i:Nat}{o:Oper}{a:Act}{w:World}{next:Act→World→Prop}(ho:ops.toList[i]?=some o)(h:if aY o (yielded ops a.tmps)then o.wp X.P a w next Q∨(o.asks X.P a w∧LetsOut Q)else next (a.put o.dst undef) w):wpOp X.P ops Q i next a w:=by
 unfold wpOp
 have:ops[i]?=some o:=by simpa using ho
 rw[this]
 exact h
def D2m(ops:Array Oper)(fl:List Nat)(preds:List Nat):Prop:=∀i o,ops.toList[i]?=some o→∀p,(preds.getD i 0).testBit p=true→(p ∈ direct o∨(p<i∧p ∈ fl))∨∃j,(j ∈ direct o∨(j<i∧j ∈ fl))∧(preds.getD j 0).testBit p=true
theorem G9z{fl preds:List Nat}(hpre:D2m ops fl preds)
  (hback:∀t,t<ops.size→∀o,ops.toList[t]?=some o→∀k ∈ direct o,k<t):∀(j:Nat),j<ops.size→∀p,(preds.getD j 0).testBit p=true→p<j:=by
 intro j
 induction j using bB with
 |_ j ih=>
  intro hj p hp
  have ho:ops.toList[j]?=some ops.toList[j]:=aB (by simpa using hj)
  have hb:∀d,(d ∈ direct ops.toList[j]∨(d<j∧d ∈ fl))→d<j:=fun d hd=>hd.elim (hback j hj _ ho d) And.left
  rcases hpre j _ ho p hp with h|⟨d,hd,hpd⟩
  ·exact hb p h
  ·have h1:=hb d hd
   have:=ih d h1 (by omega) p hpd
   omega
theorem F9p(hF:A5j X.G X.P Fs){fl preds:List Nat}(hpre:D2m ops fl preds)(hfull:∀t,t<ops.size→∀o,ops.toList[t]?=some o→∀k ∈ direct o,k<t):∀(l:List Oper) (t fu:Nat) {listed:Array Bool} {st:St} {ρ:List D} {Ft:Fr} {β:Nat→Value} {a:Act} {w:World},(∀k ∈ fl,k<t)→ops.toList.drop t=l→listed.size=ops.size→
  (∀j,j<t→listed.getD j false=true)→(∀j,t≤j→j<ops.size→listed.getD j true=false)→(∀j,t≤j→j<ops.size→∀k,k<j→(preds.getD j 0).testBit k=true)→l.length≤fu→
  eval Fs fuel (B7w X.P X.nt ops l st K) L ρ=some r→st.nv=ρ.length→Sat X ρ st Ft β a w→A3q X Fs fuel L ρ K r (Q .normal)→wpAny X.P .any ops Q fu listed a w
 |[],t,fu,listed,st,ρ,Ft,β,a,w,hft,hl,hsz,h1,h2,hful,hfu,he,hnv,hs,HK=>by
  have hle:ops.size≤t:=by
   have:=List.drop_eq_nil_iff.1 hl
   simpa using this
  have hnone:aZ .any ops listed=[]:=by
   apply aM.2
   intro j hj
   obtain⟨q1,o,q2,_⟩:=B1j.1 hj
   have hlt:j<ops.size:=by have:=(a5.1 q2).1;simpa using this
   have:=h1 j (by omega)
   rw[B6z (by omega) false true]at this
   rw[this]at q1;cases q1
  have hq:Q .normal a w:=HK.now hs hnv he
  cases fu with
  |zero=>exact⟨hnone,hq⟩
  |succ fu=>exact⟨fun _=>hq,fun i hi=>by rw[hnone]at hi;cases hi⟩
 |o::l,t,fu,listed,st,ρ,Ft,β,a,w,hft,hl,hsz,h1,h2,hful,hfu,he,hnv,hs,HK=>by
  have hlt:t<ops.toList.length:=by
   rcases bA t ops.toList.length with h|h
   ·exact h
   ·rw[List.drop_eq_nil_of_le h]at hl;cases hl
  have hlt':t<ops.size:=by simpa using hlt
  have ho:ops.toList[t]?=some o:=by
   rw[aT hlt]at hl
   injection hl with e1 e2
   rw[aB hlt,e1]
  have hrest:ops.toList.drop (t+1)=l:=by
   rw[aT hlt]at hl
   injection hl
  cases fu with
  |zero=>simp at hfu
  |succ fu=>
   have hin:t ∈ aZ .any ops listed:=B1j.2 ⟨h2 t (b9 _) hlt',o,ho,fun k hk=>h1 k (hfull t hlt' o ho k hk)⟩
   refine⟨(fun hn=>by rw[hn]at hin;cases hin),fun i hi=>?_⟩
   obtain⟨q1,oi,q2,q3⟩:=B1j.1 hi
   have hilt:i<ops.size:=by have:=(a5.1 q2).1;simpa using this
   have hit:i=t:=by
    rcases Nat.lt_trichotomy i t with h|h|h
    ·have:=h1 i h
     rw[B6z (by omega) false true]at this
     rw[this]at q1;cases q1
    ·exact h
    ·exfalso
     have hno:∀d,d ∈ direct oi→d<t:=fun d hd=>by
      have q:=q3 d hd
      have hdi:=hfull i hilt oi q2 d hd
      rcases bA d t with h'|h'
      ·exact h'
      ·rw[B6z (by omega) false true,h2 d h' (by omega)]at q
       cases q
     have hno2:∀d,(d ∈ direct oi∨(d<i∧d ∈ fl))→d<t:=fun d hd=>hd.elim (hno d) (fun h=>hft d h.2)
     rcases hpre i oi q2 t (hful i (by omega) hilt t h)with hd|⟨d,hd,hpd⟩
     ·have:=hno2 t hd
      omega
     ·have z1:=hno2 d hd
      have z2:=G9z hpre hfull d (by omega) t hpd
      omega
   subst hit
   simp only[B7w]at he
   refine C8g ho (C2t hF he hnv hs ?_)
   intro st' ext Ft' β' a' w' hnv' hs' he'
   refine F9p hF hpre hfull l (i+1) fu (fun k hk=>by have:=hft k hk;omega) hrest (by simp[hsz]) ?_ ?_ (fun j hj=>hful j (by omega)) (by simp at hfu;omega) he' hnv' hs' (fun st'' ext' Ft'' β'' a'' w'' z1 z2 z3=>by
    rw[aA]at z1 z2 z3
    exact HK st'' (ext++ext') Ft'' β'' a'' w'' z1 z2 z3)
   ·intro j hj
    rw[C0e (by omega)]
    split
    ·rfl
    ·exact h1 j (by omega)
   ·intro j hj hj2
    rw[C0e (by omega),Q0 (by omega)]
    exact h2 j (by omega) hj2
structure Ap(preds sa:List Nat)(st0:St)(bxF:List (Nat × Box))(R:List Rec)(m:Nat):Prop where
 idx:∀j,j<m→∃r ∈ R,r.i=j
 uni:∀r ∈ R,∀q ∈ R,r.i=q.i→r=q
 d0:∀r ∈ R,∀t,r.dst=some t→st0.tm.lookup t=none
 d1:∀r ∈ R,∀q ∈ R,∀t,r.dst=some t→q.dst=some t→q=r
 n0:∀r ∈ R,∀n b,r.nb=some (n,b)→bxF.lookup n=none∧(∀t s,st0.tm.lookup t=some s→s.noN n=true)∧∀m x,bxF.lookup m=some x→x.noN n=true
 n1:∀r ∈ R,∀q ∈ R,∀n b,r.nb=some (n,b)→q≠r→(∀p,q.nb=some p→p.1≠n)∧((preds.getD q.i 0).testBit r.i=true∨(q.sv.noN n=true∧(∀p,q.nb=some p→p.2.noN n=true)∧∀p,q.wr=some p→p.2.2.all (C.noN n)=true))
 w0:∀r ∈ R,∀n off xs,r.wr=some (n,off,xs)→st0.bx.lookup n=none∧(∃bt cs,(bxA bxF R).lookup n=some (.box bt cs)∧off+xs.length≤cs.length)∧r.dst=none∧r.nb=none
 w1:∀r ∈ R,∀q ∈ R,∀w v,r.wr=some w→q.wr=some v→w.1=v.1→q=r∨r.i<q.i∨(preds.getD r.i 0).testBit q.i=true
 w2:∀r ∈ R,∀q ∈ R,∀w p,r.wr=some w→q.nb=some p→p.1=w.1→(preds.getD r.i 0).testBit q.i=true∧vis sa q=false
 srt:R.Pairwise (fun r q=>r.i<q.i)
theorem H8j{preds sa:List Nat}{st0:St}{bxF:List (Nat × Box)}{R:List Rec}{m:Nat}(h:F5b preds sa st0 bxF R=true)(hi:R.map (·.i)=aP m):Ap preds sa st0 bxF R m:=by
 have huni:∀r ∈ R,∀q ∈ R,r.i=q.i→r=q:=by
  intro r hr q hq he
  obtain⟨j,hj⟩:=aN hr
  obtain⟨k,hk⟩:=aN hq
  have e1:(R.map (·.i))[j]?=some r.i:=by simp[hj]
  have e2:(R.map (·.i))[k]?=some q.i:=by simp[hk]
  rw[hi]at e1 e2
  have f1:r.i=j:=by
   have:=(a5.1 e1).2
   simp at this;exact this.symm
  have f2:q.i=k:=by
   have:=(a5.1 e2).2
   simp at this;exact this.symm
  have:j=k:=by omega
  subst this
  rw[hj]at hk;cases hk;rfl
 simp only[F5b,a3,a0]at h
 have hsrt:R.Pairwise (fun r q=>r.i<q.i):=by
  have:(R.map (·.i)).Pairwise (·< ·):=by rw[hi];exact List.pairwise_lt_range
  exact List.pairwise_map.1 this
 refine⟨?_,huni,?_,?_,?_,?_,?_,?_,?_,hsrt⟩
 ·intro j hj
  have:j ∈ R.map (·.i):=by rw[hi];exact aL.2 hj
  obtain⟨r,h1,h2⟩:=aV.1 this
  exact⟨r,h1,h2⟩
 ·intro r hr t ht
  have:=(h r hr).1.1
  rw[ht]at this
  simp only[a0]at this
  simpa using this.1
 ·intro r hr q hq t ht hqt
  have:=(h r hr).1.1
  rw[ht]at this
  simp only[a0,a3]at this
  have:=this.2 q hq
  simp only[hqt,bne_self_eq_false,a2,QB]at this
  exact huni q hq r hr this
 ·intro r hr n b hb
  have:=(h r hr).1.2
  rw[hb]at this
  simp only[a0,a3]at this
  obtain⟨⟨h1,h2⟩,_⟩:=this
  refine⟨?_,fun t s hs=>h1 _ (A0z hs),fun m x hx=>(h2 _ (A0z hx)).2⟩
  cases hx:bxF.lookup n with
  |none=>rfl
  |some x=>
   have:=(h2 _ (A0z hx)).1
   simp at this
 ·intro r hr q hq n b hb hne
  have:=(h r hr).1.2
  rw[hb]at this
  simp only[a0,a3]at this
  have:=this.2 q hq
  have hqi:(q.i == r.i)=false:=by
   simp only[Q8,ne_eq]
   exact fun e=>hne (huni q hq r hr e)
  simp only[hqi,a2,a1,a0]at this
  refine⟨fun p hp=>?_,?_⟩
  ·have h2:=this.2
   rw[hp]at h2
   simpa using h2
  ·rcases this.1 with h1|⟨⟨h1,h2⟩,h3⟩
   ·exact .inl h1
   ·refine .inr ⟨h1,fun p hp=>?_,fun p hp=>?_⟩
    ·rw[hp]at h2
     simpa using h2
    ·rw[hp]at h3
     simpa using h3
 ·intro r hr n off xs hw
  have:=(h r hr).2
  rw[hw]at this
  simp only[a0]at this
  obtain⟨⟨⟨⟨⟨h1,h2⟩,h3⟩,h4⟩,_⟩,_⟩:=this
  refine⟨by simpa using h1,?_,by simpa using h3,by simpa using h4⟩
  split at h2
  ·rename_i bt cs hb
   exact⟨bt,cs,hb,by simpa using h2⟩
  ·cases h2
 ·intro r hr q hq w v hw hv he
  have:=(h r hr).2
  rw[hw]at this
  simp only[a0,a3]at this
  have:=this.1.2 q hq
  rw[hv]at this
  simp only[b4,a1,QB,bne_iff_ne,ne_eq,Q9]at this
  rcases this with h1|(h1|h1)|h1
  ·exact .inl (huni q hq r hr h1)
  ·exact absurd he.symm h1
  ·exact .inr (.inl h1)
  ·exact .inr (.inr h1)
 ·intro r hr q hq w p hw hp he
  have:=(h r hr).2
  rw[hw]at this
  simp only[a0,a3]at this
  have:=this.2 q hq
  rw[hp]at this
  simp only[b4,a1,a0,bne_iff_ne,ne_eq,Bool.not_eq_true']at this
  rcases this with h1|h1
  ·exact absurd he h1
  ·exact h1
theorem B6m{α:Type}{f g:Rec→Option α}:∀{R:List Rec},(∀r ∈ R,f r=g r)→R.filterMap f=R.filterMap g
 |[],h=>rfl
 |r::R,h=>by
  rw[aO,aO,h r (a7 ..),B6m fun q hq=>h q (a4 _ hq)]
theorem H0l{p:Nat→Prop}:∀n,p n→∃m,p m∧∀k,k<m→¬p k:=by
 intro n
 induction n using bB with
 |_ n ih=>
  intro hn
  by_cases h:∃k,k<n∧p k
  ·obtain⟨k,hk,hp⟩:=h
   exact ih k hk hp
  ·exact⟨n,hn,fun k hk hp=>h ⟨k,hk,hp⟩⟩
theorem E3b{R:List Rec}{sel:Nat→Bool}{r:Rec}{t:Nat}(hr:r ∈ R)(hs:sel r.i=true)(hd:r.dst=some t)(hu:∀q ∈ R,q.dst=some t→q=r):(B3i R sel).lookup t=some r.sv:=by
 refine D9u hr (by simp[hs,hd]) ?_
 intro q hq y hy
 split at hy
 ·cases hqd:q.dst with
  |none=>simp[hqd]at hy
  |some t'=>
   simp[hqd]at hy
   obtain⟨rfl,rfl⟩:=hy
   rw[hu q hq hqd]
 ·cases hy
theorem B8a{R:List Rec}{sel:Nat→Bool}{t:Nat}{s:SV}(h:(B3i R sel).lookup t=some s):∃r ∈ R,sel r.i=true∧r.dst=some t∧r.sv=s:=by
 obtain⟨r,h1,h2⟩:=B4u h
 split at h2
 ·rename_i hs
  cases hd:r.dst with
  |none=>simp[hd]at h2
  |some t'=>
   simp[hd]at h2
   exact⟨r,h1,hs,by rw[hd,h2.1],h2.2⟩
 ·cases h2
theorem E1p{R:List Rec}{sel:Nat→Bool}{t:Nat}(h:∀r ∈ R,r.dst≠some t):(B3i R sel).lookup t=none:=by
 cases hl:(B3i R sel).lookup t with
 |none=>rfl
 |some s=>obtain⟨r,h1,_,h2,_⟩:=B8a hl;exact absurd h2 (h r h1)
theorem D1i{R:List Rec}{sel:Nat→Bool}{r:Rec}{n:Nat}{x:Box}(hr:r ∈ R)(hs:sel r.i=true)(hd:r.nb=some (n,x))(hu:∀q ∈ R,∀y,q.nb=some (n,y)→q=r):(B1r R sel).lookup n=some x:=by
 refine D9u hr (by simp[hs,hd]) ?_
 intro q hq y hy
 split at hy
 ·have:=hu q hq y hy
  subst this
  rw[hd]at hy;cases hy;rfl
 ·cases hy
theorem B7s{R:List Rec}{sel:Nat→Bool}{n:Nat}{x:Box}(h:(B1r R sel).lookup n=some x):∃r ∈ R,sel r.i=true∧r.nb=some (n,x):=by
 obtain⟨r,h1,h2⟩:=B4u h
 split at h2
 ·rename_i hs
  exact⟨r,h1,hs,h2⟩
 ·cases h2
theorem D1c{R:List Rec}{sel:Nat→Bool}{n:Nat}(h:∀r ∈ R,∀x,r.nb≠some (n,x)):(B1r R sel).lookup n=none:=by
 cases hl:(B1r R sel).lookup n with
 |none=>rfl
 |some s=>obtain⟨r,h1,_,h2⟩:=B7s hl;exact absurd h2 (h r h1 s)
variable{preds sa:List Nat}{st0 stF:St}{bxF:List (Nat × Box)}{R:List Rec}{m:Nat}{ρF:List D}{l:List (Oper × Nat)}
theorem B6a{s1 s2:Nat→Bool}{n:Nat}:∀{R:List Rec} {cs:List C},(∀q ∈ R,∀v,q.wr=some v→v.1=n→s1 q.i=s2 q.i)→A4c R s1 n cs=A4c R s2 n cs
 |[],cs,h=>rfl
 |q::R,cs,h=>by
  have ih:=fun cs=>B6a (R:=R) (cs:=cs) fun q' hq'=>h q' (a4 _ hq')
  simp only[A4c,aE]at ih⊢
  cases hw:q.wr with
  |none=>exact ih cs
  |some v=>
   obtain⟨m,off,xs⟩:=v
   simp only
   by_cases hm:m=n
   ·rw[h q (a7 ..) _ hw hm]
    exact ih _
   ·simp only[hm,false_and,Q4]
    exact ih _
theorem B8t{s1:Nat→Bool}{n:Nat}:∀{R:List Rec} {cs:List C},(∀q ∈ R,∀v,q.wr=some v→v.1=n→s1 q.i=false)→A4c R s1 n cs=cs
 |[],cs,h=>rfl
 |q::R,cs,h=>by
  have ih:=fun cs=>B8t (R:=R) (cs:=cs) fun q' hq'=>h q' (a4 _ hq')
  simp only[A4c,aE]at ih⊢
  cases hw:q.wr with
  |none=>exact ih cs
  |some v=>
   obtain⟨m,off,xs⟩:=v
   simp only
   by_cases hm:m=n
   ·rw[h q (a7 ..) _ hw hm]
    simpa using ih _
   ·simp only[hm,false_and,Q4]
    exact ih _
theorem C8r{s1:Nat→Bool}{n:Nat}:∀{R:List Rec} {cs:List C},(A4c R s1 n cs).length=cs.length
 |[],cs=>rfl
 |q::R,cs=>by
  have ih:=fun cs=>C8r (s1:=s1) (n:=n) (R:=R) (cs:=cs)
  simp only[A4c,aE]at ih⊢
  rw[ih]
  split
  ·split
   ·exact B8v _ _ _
   ·rfl
  ·rfl
theorem D6x{s1 s2:Nat→Bool}{r:Rec}{n off:Nat}{xs:List C}(hw:r.wr=some (n,off,xs))(h0:s1 r.i=false)(h1:s2 r.i=true)(h2:∀j,j≠r.i→s2 j=s1 j):
  ∀{R:List Rec} {cs:List C},r ∈ R→R.Pairwise (fun r q=>r.i<q.i)→(∀q ∈ R,∀v,q.wr=some v→v.1=n→s1 q.i=true→q.i<r.i)→A4c R s2 n cs=putCells (A4c R s1 n cs) off xs
 |[],cs,hr,_,_=>by cases hr
 |q::R,cs,hr,hp,hlt=>by
  rw[aK]at hp
  by_cases hq:q=r
  ·subst hq
   have e2:∀cs,A4c R s2 n cs=cs:=fun cs=>B8t fun q' hq' v hv hvn=>by
    have hgt:=hp.1 q' hq'
    rw[h2 _ (by omega)]
    cases hb:s1 q'.i with
    |false=>rfl
    |true=>have:=hlt q' (a4 _ hq') v hv hvn hb;omega
   have e1:∀cs,A4c R s1 n cs=cs:=fun cs=>B8t fun q' hq' v hv hvn=>by
    have hgt:=hp.1 q' hq'
    cases hb:s1 q'.i with
    |false=>rfl
    |true=>have:=hlt q' (a4 _ hq') v hv hvn hb;omega
   simp only[A4c,aE]at e1 e2⊢
   simp only[hw,h0,h1,and_true,Q5,and_false,Q4,Bool.false_eq_true]
   rw[e1,e2]
  ·have hrR:r ∈ R:=by
    rcases a8.1 hr with h|h
    ·exact absurd h.symm hq
    ·exact h
   have hne:q.i≠r.i:=by have:=hp.1 r hrR;omega
   have ih:=fun cs=>D6x hw h0 h1 h2 (R:=R) (cs:=cs) hrR hp.2 fun q' hq'=>hlt q' (a4 _ hq')
   simp only[A4c,aE]at ih⊢
   rw[h2 _ hne]
   exact ih _
theorem D3e{s1 s2:Nat→Bool}(h:∀r ∈ R,s1 r.i=s2 r.i):A2r stF bxF R s1=A2r stF bxF R s2:=by
 unfold A2r B3i B1r B3q
 rw[B6m (f:=fun r=>if s1 r.i=true then r.dst.map (fun d=>(d,r.sv))else none) (g:=fun r=>if s2 r.i=true then r.dst.map (fun d=>(d,r.sv))else none) (fun r hr=>by rw[h r hr]),
  B6m (f:=fun r=>if s1 r.i=true then r.nb else none) (g:=fun r=>if s2 r.i=true then r.nb else none) (fun r hr=>by rw[h r hr]),
  B6m (f:=fun r=>if s1 r.i=true then r.wr.bind (B6j (bxA bxF R) R s1)else none) (g:=fun r=>if s2 r.i=true then r.wr.bind (B6j (bxA bxF R) R s2)else none) (fun r hr=>by
   have:B6j (bxA bxF R) R s1=B6j (bxA bxF R) R s2:=by
    funext w
    unfold B6j
    split
    ·rw[B6a fun q hq _ _ _=>h q hq]
    ·rfl
   rw[h r hr,this])]
theorem E1y{sel:Nat→Bool}{w:Nat × Nat × List C}{n:Nat}{x:Box}(h:B6j bxF R sel w=some (n,x)):n=w.1∧∃t cs,bxF.lookup n=some (.box t cs)∧x=.box t (A4c R sel n cs):=by
 unfold B6j at h
 split at h
 ·rename_i t cs hb
  simp only[b7,bE]at h
  obtain⟨rfl,rfl⟩:=h
  exact⟨rfl,t,cs,hb,rfl⟩
 ·cases h
theorem B3u{sel:Nat→Bool}{n:Nat}{x:Box}(h:(B3q bxF R sel).lookup n=some x):∃r ∈ R,sel r.i=true∧∃w,r.wr=some w∧w.1=n∧∃t cs,bxF.lookup n=some (.box t cs)∧x=.box t (A4c R sel n cs):=by
 obtain⟨r,h1,h2⟩:=B4u h
 split at h2
 ·rename_i hs
  cases hw:r.wr with
  |none=>rw[hw]at h2;cases h2
  |some w=>
   rw[hw]at h2
   obtain⟨e1,t,cs,e2,e3⟩:=E1y h2
   exact⟨r,h1,hs,w,hw,e1.symm,t,cs,e2,e3⟩
 ·cases h2
theorem C3a{bb:List (Nat × Box)}{sel:Nat→Bool}{r:Rec}(hr:r ∈ R)(hs:sel r.i=true){w:Nat × Nat × List C}(hw:r.wr=some w){t:TypeId}{cs:List C}(hb:bb.lookup w.1=some (.box t cs)):(B3q bb R sel).lookup w.1=some (.box t (A4c R sel w.1 cs)):=by
 refine D9u hr (by simp only[hs,Q5,hw,Option.bind_some];unfold B6j;rw[hb]) ?_
 intro q hq y hy
 split at hy
 ·cases hv:q.wr with
  |none=>rw[hv]at hy;cases hy
  |some v=>
   rw[hv]at hy
   obtain⟨e1,t',cs',e2,e3⟩:=E1y hy
   rw[hb]at e2;cases e2
   exact e3
 ·cases hy
theorem D1z{sel:Nat→Bool}{n:Nat}(h:∀r ∈ R,sel r.i=true→∀w,r.wr=some w→w.1≠n):(B3q bxF R sel).lookup n=none:=by
 cases hl:(B3q bxF R sel).lookup n with
 |none=>rfl
 |some s=>obtain⟨r,h1,h2,w,h3,h4,_⟩:=B3u hl;exact absurd h4 (h r h1 h2 w h3)
theorem D6p{n:Nat}:∀(xs cs:List C) (off:Nat),cs.all (C.noN n)=true→xs.all (C.noN n)=true→(putCells cs off xs).all (C.noN n)=true
 |[],cs,off,h1,h2=>h1
 |x::xs,cs,off,h1,h2=>by
  simp only[List.all_cons,a0]at h2
  refine D6p xs _ _ ?_ h2.2
  rw[a3]at h1⊢
  intro c hc
  rcases List.mem_or_eq_of_mem_set hc with h|h
  ·exact h1 c h
  ·subst h;exact h2.1
theorem D8o{s1:Nat→Bool}{k n:Nat}:∀{R:List Rec} {cs:List C},cs.all (C.noN n)=true→(∀q ∈ R,∀v,q.wr=some v→v.1=k→s1 q.i=true→v.2.2.all (C.noN n)=true)→(A4c R s1 k cs).all (C.noN n)=true
 |[],cs,h,_=>h
 |q::R,cs,h,hq=>by
  have ih:=fun cs h=>D8o (s1:=s1) (k:=k) (n:=n) (R:=R) (cs:=cs) h fun q' hq'=>hq q' (a4 _ hq')
  simp only[A4c,aE]at ih⊢
  refine ih _ ?_
  split
  ·rename_i m off xs hw
   split
   ·rename_i hc
    exact D6p _ _ _ h (hq q (a7 ..) _ hw hc.1 hc.2)
   ·exact h
  ·exact h
theorem Ap.nbu(ap:Ap preds sa st0 bxF R m){r q:Rec}(hr:r ∈ R)(hq:q ∈ R){n:Nat}{x y:Box}(h1:r.nb=some (n,x))(h2:q.nb=some (n,y)):q=r:=by
 by_cases h:q=r
 ·exact h
 ·exact absurd rfl ((ap.n1 r hr q hq n x h1 h).1 _ h2)
theorem H5d(ap:Ap preds sa st0 bxF R m){sel:Nat→Bool}{n:Nat}{x:Box}(h:(bxA bxF R).lookup n=some x)(hs:∀q ∈ R,∀p,q.nb=some p→p.1=n→sel q.i=true):(B1r R sel++bxF).lookup n=some x:=by
 unfold bxA at h
 rw[lookup_append]at h⊢
 cases h1:(R.filterMap (·.nb)).lookup n with
 |some y=>
  rw[h1]at h
  simp at h;subst h
  obtain⟨q,hq1,hq2⟩:=B4u h1
  rw[D1i hq1 (hs q hq1 _ hq2 rfl) hq2 (fun q' hq' y hd'=>ap.nbu hq1 hq' hq2 hd')]
  simp
 |none=>
  rw[h1]at h
  rw[D1c (fun q hq y hd=>F6t.1 h1 q hq y hd)]
  exact h
theorem F9b(ap:Ap preds sa st0 bxF R m)(htm:stF.tm=st0.tm)(hbx:stF.bx=st0.bx)(hsub:∀n x,stF.bx.lookup n=some x→bxF.lookup n=some x)(hrec:∀q ∈ R,F1v X ρF ops preds sa l stF R q)(hl:∀o i,(o,i) ∈ l→ops.toList[i]?=some o){fl:List Nat}
  (hpre:D2m ops fl preds) {listed:Array Bool} {a:Act} {w:World} {Ft:Fr} {β:Nat→Value} {i:Nat} (hfl:∀k,k<i→k ∈ fl→listed.getD k false=true) (hsz:listed.size=ops.size) (hcl:∀k,listed.getD k false=true→∀j,(preds.getD k 0).testBit j=true→listed.getD j false=true)
  (hs:Sat X ρF (A2r stF bxF R fun j=>listed.getD j false) Ft β a w) (hi:i ∈ aZ .any ops listed) (him:i<m):
  (∀p,(preds.getD i 0).testBit p=true→listed.getD p false=true)∧∀(Q:Exit→Act→World→Prop) (next:Act→World→Prop),(∀(a':Act) (w':World) (Ft':Fr) (β':Nat→Value),Sat X ρF (A2r stF bxF R fun j=>(listed.setIfInBounds i true).getD j false) Ft' β' a' w'→next a' w')→wpOp X.P ops Q i next a w:=by
 obtain⟨q1,oi,q2,q3⟩:=B1j.1 hi
 have hilt:i<ops.size:=by have:=(a5.1 q2).1;simpa using this
 obtain⟨r,hr,hri⟩:=ap.idx i him
 obtain⟨o,R1,R1',sti,z0,z1,z2,z3,z4,z5,z6,z7,z8⟩:=(hrec r hr).ex
 rw[hri]at z1 z5 z6
 have hoi:o=oi:=by
  have:=hl o i z1
  rw[q2]at this
  simpa using this.symm
 subst hoi
 have hps:∀p,(preds.getD i 0).testBit p=true→listed.getD p false=true:=by
  intro p hp
  rcases hpre i o q2 p hp with(h|h)|⟨j,hj|hj,hpj⟩
  ·exact q3 p h
  ·exact hfl p h.1 h.2
  ·exact hcl j (q3 j hj) p hpj
  ·exact hcl j (hfl j hj.1 hj.2) p hpj
 have hsti:Sat X ρF sti Ft β a w:=by
  refine hs.sub ?_ ?_ (fun p hp=>z7.1 p hp) z7.2
  ·intro t sv ht
   rw[z5,lookup_append]at ht
   simp only[A2r]
   rw[lookup_append]
   cases h1:(B3i R1 fun j=>(preds.getD i 0).testBit j).lookup t with
   |some s=>
    rw[h1]at ht
    simp at ht;subst ht
    obtain⟨q,hq1,hq2,hq3,hq4⟩:=B8a h1
    have hqR:=z4 q hq1
    rw[E3b hqR (hps q.i hq2) hq3 (fun q' hq' hd'=>ap.d1 q hqR q' hq' t hq3 hd')]
    simp[hq4]
   |none=>
    rw[h1]at ht
    simp at ht
    rw[E1p (fun q hq hd=>by have:=ap.d0 q hq t hd;rw[←htm,ht]at this;cases this)]
    simpa using ht
  ·intro n x hx
   rw[z6,lookup_append]at hx
   simp only[A2r]
   rw[lookup_append]
   cases h1:(B1r R1' fun j=>(preds.getD i 0).testBit j).lookup n with
   |some s=>
    rw[h1]at hx
    simp at hx;subst hx
    obtain⟨q,hq1,hq2,hq3⟩:=B7s h1
    obtain⟨hqR,hvis⟩:=z0 q hq1
    rw[D1z (fun q' hq' _ w hw e=>by have:=(ap.w2 q' hq' q hqR w _ hw hq3 e.symm).2;rw[hvis]at this;cases this),b3,lookup_append,
     D1i hqR (hps q.i hq2) hq3 (fun q' hq' y hd'=>ap.nbu hqR hq' hq3 hd')]
    simp
   |none=>
    rw[h1]at hx
    simp at hx
    have hxF:=hsub n x hx
    rw[D1z (fun q hq _ w hw e=>by have:=(ap.w0 q hq w.1 w.2.1 w.2.2 hw).1;rw[e,←hbx,hx]at this;cases this),b3,lookup_append,
     D1c (fun q hq y hd=>by have:=(ap.n0 q hq n y hd).1;rw[hxF]at this;cases this)]
    simpa using hxF
 have hi_un:listed.getD i false=false:=by rw[B6z (by omega) false true];exact q1
 have hset:∀j d,(listed.setIfInBounds i true).getD j d=if j=i then true else listed.getD j d:=fun j d=>C0e (by omega)
 refine⟨hps,fun Q next goOn=>?_⟩
 cases hwr:r.wr with
 |some w3=>
  obtain⟨n,off,xs⟩:=w3
  have z8':D8a X ρF sti o n off xs:=by unfold G0k at z8;rw[hwr]at z8;exact z8
  obtain⟨k1,k2,k3⟩:=z8'
  obtain⟨b,ys,c1,c2,c3⟩:=k3 Ft β a w hsti
  obtain⟨v1,⟨bt,cs,v2,v3⟩,v4,v5⟩:=ap.w0 r hr n off xs hwr
  have hbef:∀q ∈ R,∀v,q.wr=some v→v.1=n→listed.getD q.i false=true→q.i<r.i:=by
   intro q hq v hv hvn hsel
   rcases ap.w1 q hq r hr v _ hv hwr hvn with h|h|h
   ·subst h
    rw[hri,hi_un]at hsel;cases hsel
   ·exact h
   ·have:=hcl q.i hsel r.i h
    rw[hri,hi_un]at this;cases this
  have hold:(A2r stF bxF R fun j=>listed.getD j false).bx.lookup n=some (.box bt (A4c R (fun j=>listed.getD j false) n cs)):=by
   simp only[A2r]
   rw[lookup_append]
   cases hW:(B3q (bxA bxF R) R fun j=>listed.getD j false).lookup n with
   |some y=>
    obtain⟨q,hq1,hq2,w,hq3,hq4,t,cs',hq5,rfl⟩:=B3u hW
    rw[v2]at hq5;cases hq5
    rfl
   |none=>
    rw[b3]
    have hno:∀q ∈ R,∀v,q.wr=some v→v.1=n→(fun j=>listed.getD j false) q.i=false:=by
     intro q hq v hv hvn
     cases hb:(fun j=>listed.getD j false) q.i with
     |false=>rfl
     |true=>
      have:=C3a (sel:=fun j=>listed.getD j false) hq hb hv (t:=bt) (cs:=cs) (by rw[hvn];exact v2)
      rw[hvn,hW]at this;cases this
    rw[B8t hno]
    exact H5d ap v2 (fun q hq p hp e=>hps q.i (by have:=(ap.w2 r hr q hq _ p hwr hp e).1;rw[hri]at this;exact this))
  have v3':off+xs.length≤(A4c R (fun j=>listed.getD j false) n cs).length:=by rw[C8r];exact v3
  obtain⟨b',vs,e1,e2,e3⟩:=hs.bx _ _ hold
  obtain rfl:b'=b:=by rw[e1]at c1;simpa using c1
  have hlen:xs.length=ys.length:=c2.1
  have hrun:=c3 bt vs e2 (by have:=e3.1;have:=v3';omega)
  have hst:=hs.store hold v3' e1 e2 e3 c2
  have hwant:aY o (yielded ops a.tmps)=true:=by unfold aY;rw[k1]
  refine C8g q2 ?_
  rw[Q3 hwant]
  refine .inl ?_
  unfold bH
  rw[hrun]
  simp only[bI,k2,Act.put]
  refine goOn _ _ Ft β (hst.sub ?_ ?_ (fun p hp=>hp))
  ·intro t s ht
   simp only[A2r]at ht⊢
   have he:B3i R (fun j=>(listed.setIfInBounds i true).getD j false)=B3i R (fun j=>listed.getD j false):=B6m fun q hq=>by
    by_cases hqr:q=r
    ·subst hqr;simp[v4]
    ·have hqi:q.i≠i:=fun e=>hqr (ap.uni q hq r hr (by rw[e,hri]))
     simp only[hset,Q0 hqi]
   rw[he]at ht
   exact ht
  ·intro k x hx
   simp only[A2r]at hx⊢
   have he:B1r R (fun j=>(listed.setIfInBounds i true).getD j false)=B1r R (fun j=>listed.getD j false):=B6m fun q hq=>by
    by_cases hqr:q=r
    ·subst hqr;simp[v5]
    ·have hqi:q.i≠i:=fun e=>hqr (ap.uni q hq r hr (by rw[e,hri]))
     simp only[hset,Q0 hqi]
   have hsel:(fun j=>(listed.setIfInBounds i true).getD j false) r.i=true:=by simp only[hri];rw[hset,Q3 rfl]
   have hnew:=C3a (sel:=fun j=>(listed.setIfInBounds i true).getD j false) hr hsel hwr v2
   rw[D6x (s1:=fun j=>listed.getD j false) hwr (by simp only[hri];exact hi_un) hsel (fun j hj=>by simp only[hset,Q0 (show j≠i by rw[←hri];exact hj)]) hr ap.srt hbef]at hnew
   have hoth:∀k cs,k≠n→A4c R (fun j=>(listed.setIfInBounds i true).getD j false) k cs=A4c R (fun j=>listed.getD j false) k cs:=fun k cs hk=>B6a fun q hq v hv hvk=>by
    have hqr:q≠r:=by rintro rfl;rw[hwr]at hv;cases hv;exact hk hvk.symm
    have hqi:q.i≠i:=fun e=>hqr (ap.uni q hq r hr (by rw[e,hri]))
    simp only[hset,Q0 hqi]
   rw[he,lookup_append]at hx
   by_cases hkn:k=n
   ·subst hkn
    rw[hnew]at hx
    simp at hx;subst hx
    simp
   ·have hkn':(k == n)=false:=by simpa using hkn
    rw[aF,hkn']
    simp only
    rw[lookup_append]
    cases h2:(B3q (bxA bxF R) R fun j=>(listed.setIfInBounds i true).getD j false).lookup k with
    |some y=>
     rw[h2]at hx
     simp at hx;subst hx
     obtain⟨q,hq1,hq2,w,hq3,hq4,t,cs',hq5,hq6⟩:=B3u h2
     have hqr:q≠r:=by rintro rfl;rw[hwr]at hq3;cases hq3;exact hkn hq4.symm
     have hqi:q.i≠i:=fun e=>hqr (ap.uni q hq1 r hr (by rw[e,hri]))
     rw[hset,Q0 hqi]at hq2
     subst hq4
     rw[C3a (sel:=fun j=>listed.getD j false) hq1 hq2 hq3 hq5,hq6,hoth _ _ hkn]
     rfl
    |none=>
     rw[h2]at hx
     simp only[b3]at hx
     rw[D1z (sel:=fun j=>listed.getD j false) (fun q hq hsel' w hw e=>by
      have hqr:q≠r:=by rintro rfl;rw[hwr]at hw;cases hw;exact hkn e.symm
      have hqi:q.i≠i:=fun e=>hqr (ap.uni q hq r hr (by rw[e,hri]))
      have hs2:(fun j=>(listed.setIfInBounds i true).getD j false) q.i=true:=by simp only;rw[hset,Q0 hqi];exact hsel'
      obtain⟨_,⟨t,cs',hb,_⟩,_⟩:=ap.w0 q hq w.1 w.2.1 w.2.2 hw
      have:=C3a (sel:=fun j=>(listed.setIfInBounds i true).getD j false) hq hs2 hw hb
      rw[e,h2]at this;cases this),b3]
     exact hx
 |none=>
 have z8':A5q X ρF ops sti o r.sv r.nb:=by unfold G0k at z8;rw[hwr]at z8;exact z8
 have hWsame:B3q (bxA bxF R) R (fun j=>(listed.setIfInBounds i true).getD j false)=B3q (bxA bxF R) R (fun j=>listed.getD j false):=by
  have hsame:∀q ∈ R,q.wr≠none→(listed.setIfInBounds i true).getD q.i false=listed.getD q.i false:=fun q hq hv=>by
   have hqr:q≠r:=by rintro rfl;exact hv hwr
   have hqi:q.i≠i:=fun e=>hqr (ap.uni q hq r hr (by rw[e,hri]))
   simp only[hset,Q0 hqi]
  have hwb:B6j (bxA bxF R) R (fun j=>(listed.setIfInBounds i true).getD j false)=B6j (bxA bxF R) R (fun j=>listed.getD j false):=by
   funext w
   unfold B6j
   split
   ·rw[B6a (s2:=fun j=>listed.getD j false) fun q hq v hv _=>hsame q hq (by rw[hv];simp)]
   ·rfl
  unfold B3q
  refine B6m fun q hq=>?_
  rw[hwb]
  cases hv:q.wr with
  |none=>simp
  |some v=>
   have:=hsame q hq (by rw[hv];simp)
   simp only[this]
 refine C8g q2 (z8' Ft β a w hsti _ Q ?_)
 intro v w' Ft' β' hout
 refine goOn _ _ (Ft.or fun b=>Ft' b) β' ?_
 rw[←z2]
 refine hs.add hout (by rw[z2];exact z3) ?_ ?_ (fun p hp=>hp) ?_ ⟨rfl,rfl⟩
 ·intro t s ht
  simp only[A2r]at ht⊢
  rw[lookup_append]at ht⊢
  cases h1:(B3i R fun j=>(listed.setIfInBounds i true).getD j false).lookup t with
  |some s'=>
   rw[h1]at ht
   simp at ht;subst ht
   obtain⟨q,hq1,hq2,hq3,hq4⟩:=B8a h1
   by_cases hqr:q=r
   ·subst hqr
    exact .inl ⟨hq3,hq4.symm⟩
   ·right
    have hqi:q.i≠i:=fun e=>hqr (ap.uni q hq1 r hr (by rw[e,hri]))
    rw[hset,Q0 hqi]at hq2
    refine⟨fun hd=>hqr (ap.d1 r hr q hq1 t hd hq3),?_⟩
    rw[E3b hq1 hq2 hq3 (fun q' hq' hd'=>ap.d1 q hq1 q' hq' t hq3 hd')]
    simp[hq4]
  |none=>
   rw[h1]at ht
   simp at ht
   right
   have hno:∀q ∈ R,q.dst≠some t:=fun q hq hd=>by have:=ap.d0 q hq t hd;rw[←htm,ht]at this;cases this
   refine⟨hno r hr,?_⟩
   rw[E1p hno]
   simpa using ht
 ·intro n x hx
  simp only[A2r]at hx⊢
  rw[hWsame]at hx
  rw[lookup_append]at hx⊢
  cases hW:(B3q (bxA bxF R) R fun j=>listed.getD j false).lookup n with
  |some y=>
   rw[hW]at hx
   simp at hx;subst hx
   right
   refine⟨fun p hp e=>?_,by simp⟩
   obtain⟨q,hq1,hq2,w,hq3,hq4,_⟩:=B3u hW
   have h9:=(ap.w2 q hq1 r hr w p hq3 hp (by rw[hq4,e])).1
   rw[hri]at h9
   have:=hcl q.i hq2 i h9
   rw[hi_un]at this;cases this
  |none=>
   rw[hW]at hx
   simp only[b3]at hx⊢
   rw[lookup_append]at hx⊢
   cases h1:(B1r R fun j=>(listed.setIfInBounds i true).getD j false).lookup n with
   |some s'=>
    rw[h1]at hx
    simp at hx;subst hx
    obtain⟨q,hq1,hq2,hq3⟩:=B7s h1
    by_cases hqr:q=r
    ·subst hqr
     exact .inl hq3
    ·right
     have hqi:q.i≠i:=fun e=>hqr (ap.uni q hq1 r hr (by rw[e,hri]))
     rw[hset,Q0 hqi]at hq2
     refine⟨fun p hp e=>hqr (ap.nbu hr hq1 (x:=p.2) (by rw[hp];subst e;rfl) hq3),?_⟩
     rw[D1i hq1 hq2 hq3 (fun q' hq' y hd'=>ap.nbu hq1 hq' hq3 hd')]
     simp
   |none=>
    rw[h1]at hx
    simp only[b3]at hx
    right
    have hno:∀q ∈ R,∀y,q.nb≠some (n,y):=fun q hq y hd=>by have:=(ap.n0 q hq n y hd).1;rw[hx]at this;cases this
    refine⟨fun p hp e=>hno r hr p.2 (by rw[hp];subst e;rfl),?_⟩
    rw[D1c hno]
    simpa using hx
 ·intro n b hnb
  have hq_no:∀q ∈ R,listed.getD q.i false=true→(q.sv.noN n=true∧(∀p,q.nb=some p→p.2.noN n=true)∧∀p,q.wr=some p→p.2.2.all (C.noN n)=true):=by
   intro q hq hsel
   have hqr:q≠r:=by
    rintro rfl
    rw[hri,hi_un]at hsel;cases hsel
   rcases(ap.n1 r hr q hq n b hnb hqr).2 with h|h
   ·rw[hri]at h
    have:=hcl q.i hsel i h
    rw[hi_un]at this;cases this
   ·exact h
  refine⟨fun t s ht=>?_,fun k x hx=>?_⟩
  ·simp only[A2r]at ht
   rw[lookup_append]at ht
   cases h1:(B3i R fun j=>listed.getD j false).lookup t with
   |some s'=>
    rw[h1]at ht
    simp at ht;subst ht
    obtain⟨q,hq1,hq2,hq3,hq4⟩:=B8a h1
    rw[←hq4]
    exact(hq_no q hq1 hq2).1
   |none=>
    rw[h1]at ht
    simp at ht
    exact(ap.n0 r hr n b hnb).2.1 t s (by rw[←htm];exact ht)
  ·simp only[A2r]at hx
   rw[lookup_append]at hx
   cases h2:(B3q (bxA bxF R) R fun j=>listed.getD j false).lookup k with
   |some y=>
    rw[h2]at hx
    simp at hx;subst hx
    obtain⟨q,hq1,hq2,w,hq3,hq4,t,cs,hq5,rfl⟩:=B3u h2
    have hbn:(Box.box t cs).noN n=true:=by
     unfold bxA at hq5
     rw[lookup_append]at hq5
     cases h3:(R.filterMap (·.nb)).lookup k with
     |some z=>
      obtain⟨q',hq1',hq2'⟩:=B4u h3
      rw[h3]at hq5
      simp at hq5;subst hq5
      have hl':=hcl q.i hq2 q'.i (ap.w2 q hq1 q' hq1' w _ hq3 hq2' (by simp[hq4])).1
      exact(hq_no q' hq1' hl').2.1 _ hq2'
     |none=>rw[h3]at hq5;exact(ap.n0 r hr n b hnb).2.2 k _ (by simpa using hq5)
    exact D8o hbn fun q' hq' v hv _ hsel=>(hq_no q' hq' hsel).2.2 v hv
   |none=>
    rw[h2]at hx
    simp only[b3]at hx
    rw[lookup_append]at hx
    cases h1:(B1r R fun j=>listed.getD j false).lookup k with
    |some s'=>
     rw[h1]at hx
     simp at hx;subst hx
     obtain⟨q,hq1,hq2,hq3⟩:=B7s h1
     exact(hq_no q hq1 hq2).2.1 _ hq3
    |none=>
     rw[h1]at hx
     exact(ap.n0 r hr n b hnb).2.2 k x (by simpa using hx)
theorem H6d(ap:Ap preds sa st0 bxF R m)(htm:stF.tm=st0.tm)(hbx:stF.bx=st0.bx)(hsub:∀n x,stF.bx.lookup n=some x→bxF.lookup n=some x)(hR:∀r ∈ R,r.i<m)(hrec:∀q ∈ R,F1v X ρF ops preds sa l stF R q)(hl:∀o i,(o,i) ∈ l→ops.toList[i]?=some o)(hm:m≤ops.size){fl:List Nat}
  (hpre:D2m ops fl preds)
  (hback:∀t,t<ops.size→∀o,ops.toList[t]?=some o→∀k ∈ direct o,k<t) (hful:∀j,m≤j→j<ops.size→∀k,k<j→(preds.getD j 0).testBit k=true)
  (hend:∀Ft β a w (listed:Array Bool) fu,Sat X ρF (A2r stF bxF R fun _=>true) Ft β a w→listed.size=ops.size→(∀j,j<m→listed.getD j false=true)→(∀j,m≤j→j<ops.size→listed.getD j true=false)→ops.size-m≤fu→wpAny X.P .any ops Q fu listed a w):
  ∀(fu:Nat) (U:List Nat) (listed:Array Bool) (a:Act) (w:World) (Ft:Fr) (β:Nat→Value),(∀k ∈ fl,listed.getD k false=true)→ops.size-m+U.length≤fu→(∀j,j<m→listed.getD j true=false→j ∈ U)→listed.size=ops.size→
   (∀k,listed.getD k false=true→∀j,(preds.getD k 0).testBit j=true→listed.getD j false=true)→(∀j,m≤j→j<ops.size→listed.getD j true=false)→
   Sat X ρF (A2r stF bxF R fun j=>listed.getD j false) Ft β a w→wpAny X.P .any ops Q fu listed a w:=by
 intro fu
 induction fu with
 |zero=>
  intro U listed a w Ft β hfl hfu hU hsz hcl htl hs
  have hU0:U=[]:=List.eq_nil_of_length_eq_zero (by omega)
  have hall:∀j,j<m→listed.getD j false=true:=by
   intro j hj
   cases hb:listed.getD j false with
   |true=>rfl
   |false=>
    rw[B6z (by omega) false true]at hb
    have:=hU j hj hb
    rw[hU0]at this;cases this
  refine hend Ft β a w listed 0 ?_ hsz hall htl (by omega)
  rw[D3e (s2:=fun _=>true) (fun r hr=>hall r.i (hR r hr))]at hs
  exact hs
 |succ fu ih=>
  intro U listed a w Ft β hfl hfu hU hsz hcl htl hs
  by_cases hall:∀j,j<m→listed.getD j false=true
  ·refine hend Ft β a w listed (fu+1) ?_ hsz hall htl (by omega)
   rw[D3e (s2:=fun _=>true) (fun r hr=>hall r.i (hR r hr))]at hs
   exact hs
  ·have hex:∃j,j<m∧listed.getD j false=false:=by
    false_or_by_contra
    rename_i hc
    exact hall fun j hj=>by
     cases hb:listed.getD j false with
     |true=>rfl
     |false=>exact absurd ⟨j,hj,hb⟩ hc
   obtain⟨j0,hj0⟩:=hex
   obtain⟨i0,⟨hi0,hu0⟩,hmin⟩:=H0l (p:=fun j=>j<m∧listed.getD j false=false) j0 hj0
   have hi0n:i0<ops.toList.length:=by simp;omega
   have hin:i0 ∈ aZ .any ops listed:=by
    refine B1j.2 ⟨by rw[B6z (by omega) true false];exact hu0,_,aB hi0n,fun k hk=>?_⟩
    have hlt:=hback i0 (by omega) _ (aB hi0n) k hk
    cases hb:listed.getD k false with
    |true=>rfl
    |false=>exact absurd ⟨by omega,hb⟩ (hmin k hlt)
   refine⟨(fun hn=>by rw[hn]at hin;cases hin),fun i hi=>?_⟩
   obtain⟨q1,oi,q2,q3⟩:=B1j.1 hi
   have hilt:i<ops.size:=by have:=(a5.1 q2).1;simpa using this
   have him:i<m:=by
    rcases bA i m with h|h
    ·exact h
    ·exfalso
     have hd:listed.getD i0 false=true:=by
      rcases hpre i oi q2 i0 (hful i h hilt i0 (by omega))with(hd|hd)|⟨d,hd|hd,hpd⟩
      ·exact q3 i0 hd
      ·exact hfl i0 hd.2
      ·exact hcl d (q3 d hd) i0 hpd
      ·exact hcl d (hfl d hd.2) i0 hpd
     rw[hu0]at hd
     cases hd
   have hset:∀j d,(listed.setIfInBounds i true).getD j d=if j=i then true else listed.getD j d:=fun j d=>C0e (by omega)
   obtain⟨hps,hstep⟩:=F9b ap htm hbx hsub hrec hl hpre (fun k _ hk=>hfl k hk) hsz hcl hs hi him
   have goOn:∀(a':Act) (w':World) (Ft':Fr) (β':Nat→Value),Sat X ρF (A2r stF bxF R fun j=>(listed.setIfInBounds i true).getD j false) Ft' β' a' w'→wpAny X.P .any ops Q fu (listed.setIfInBounds i true) a' w':=by
    intro a' w' Ft' β' hs'
    refine ih (U.filter (fun j=>j != i)) _ _ _ Ft' β' (fun k hk=>by rw[hset];split<;>first|rfl|exact hfl k hk) ?_ ?_ (by simp[hsz]) ?_ ?_ hs'
    ·have hiU:i ∈ U:=hU i him q1
     have:(U.filter (fun j=>j != i)).length<U.length:=by
      rw[aG]
      exact⟨i,hiU,by simp⟩
     omega
    ·intro j hj hb
     rw[hset]at hb
     split at hb
     ·cases hb
     ·rename_i hne
      exact a9.2 ⟨hU j hj hb,by simpa using hne⟩
    ·intro k hk j hj
     rw[hset]at hk⊢
     split
     ·rfl
     ·split at hk
      ·rename_i hki
       subst hki
       exact hps j hj
      ·exact hcl k hk j hj
    ·intro j hj hj2
     rw[hset,Q0 (by omega)]
     exact htl j hj hj2
   exact hstep Q _ goOn
theorem F3j(ap:Ap preds sa st0 bxF R m)(htm:stF.tm=st0.tm)(hbx:stF.bx=st0.bx)(hsub:∀n x,stF.bx.lookup n=some x→bxF.lookup n=some x)(hR:∀r ∈ R,r.i<m)(hrec:∀q ∈ R,F1v X ρF ops preds sa l stF R q)(hl:∀o i,(o,i) ∈ l→ops.toList[i]?=some o)(hm:m≤ops.size){fl:List Nat}
  (hpre:D2m ops fl preds) (hnoS:b0 ops=true∨fl=[]) (hQ:∀c a w,¬Q (.panic c) a w)
  (hback:∀t,t<ops.size→∀o,ops.toList[t]?=some o→∀k ∈ direct o,k<t) (hful:∀j,m≤j→j<ops.size→∀k,k<j→(preds.getD j 0).testBit k=true)
  (hend:∀Ft β a w (listed:Array Bool) fu,Sat X ρF (A2r stF bxF R fun _=>true) Ft β a w→listed.size=ops.size→(∀j,j<m→listed.getD j false=true)→(∀j,m≤j→j<ops.size→listed.getD j true=false)→ops.size-m≤fu→wpAny X.P .any ops Q fu listed a w):
  ∀(todo:List Nat) (fu:Nat) (U:List Nat) (listed:Array Bool) (a:Act) (w:World) (Ft:Fr) (β:Nat→Value),C9d ops todo listed=true→(∀k ∈ todo,k ∈ fl∧k<m)→(∀k ∈ fl,k ∈ todo∨listed.getD k false=true)→(∀i l',todo=i::l'→∀k,k<i→k ∈ fl→listed.getD k false=true)→(todo.Pairwise (·< ·))→ops.size-m+U.length≤fu→(∀j,j<m→listed.getD j true=false→j ∈ U)→listed.size=ops.size→
   (∀k,listed.getD k false=true→∀j,(preds.getD k 0).testBit j=true→listed.getD j false=true)→(∀j,m≤j→j<ops.size→listed.getD j true=false)→
   Sat X ρF (A2r stF bxF R fun j=>listed.getD j false) Ft β a w→wpAny X.P .any ops Q fu listed a w
 |[],fu,U,listed,a,w,Ft,β,hok,hin,hfl,hlow,hpw,hfu,hU,hsz,hcl,htl,hs=>
  H6d ap htm hbx hsub hR hrec hl hm hpre hback hful hend fu U listed a w Ft β (fun k hk=>(hfl k hk).elim (fun h=>by cases h) id) hfu hU hsz hcl htl hs
 |i::todo,fu,U,listed,a,w,Ft,β,hok,hin,hfl,hlow,hpw,hfu,hU,hsz,hcl,htl,hs=>by
  simp only[C9d,a0]at hok
  obtain⟨⟨⟨hmv,hfree⟩,hrdy⟩,hok'⟩:=hok
  obtain⟨hifl,him⟩:=hin i (a7 ..)
  have hns:b0 ops=true:=hnoS.elim id (fun h=>by rw[h]at hifl;cases hifl)
  have hi:i ∈ aZ .any ops listed:=by simpa using hrdy
  obtain⟨q1,oi,q2,q3⟩:=B1j.1 hi
  have hilt:i<ops.size:=by have:=(a5.1 q2).1;simpa using this
  have hset:∀j d,(listed.setIfInBounds i true).getD j d=if j=i then true else listed.getD j d:=fun j d=>C0e (by omega)
  obtain⟨hps,hstep⟩:=F9b ap htm hbx hsub hrec hl hpre (hlow i todo rfl) hsz hcl hs hi him
  rw[q2]at hmv
  simp only at hmv
  have hiU:i ∈ U:=hU i him q1
  obtain⟨fu,rfl⟩:∃k,fu=k+1:=⟨fu-1,by have:=List.length_pos_of_mem hiU;omega⟩
  have q2':ops[i]?=some oi:=by simpa using q2
  unfold C8c at hmv
  split at hmv
  ·rename_i x d hop hg hd
   have hw:∀a:Act,aY oi (yielded ops a.tmps)=true:=fun a=>by unfold aY;rw[hg]
   have hrun:∀w,(execOp a.eval oi).run X.P w=.ok (.value (a.eval x)) w:=fun w=>by simp[execOp,hop]
   have hy:Yields X.P ops oi (a.eval x) a:=.inl ⟨hw a,hrun⟩
   have hnext:=hstep (fun _ _ _=>False) (fun a' w'=>∃Ft' β',Sat X ρF (A2r stF bxF R fun j=>(listed.setIfInBounds i true).getD j false) Ft' β' a' w') (fun a' w' Ft' β' h=>⟨Ft',β',h⟩)
   have hnext':∃Ft' β',Sat X ρF (A2r stF bxF R fun j=>(listed.setIfInBounds i true).getD j false) Ft' β' (a.put oi.dst (a.eval x)) w:=by
    unfold wpOp at hnext
    rw[q2']at hnext
    simp only[hw a,Q5]at hnext
    rcases hnext with h|⟨_,_,_,h⟩
    ·unfold bH at h
     rw[hrun]at h
     exact h
    ·exact h.elim
   obtain⟨Ft',β',hs'⟩:=hnext'
   refine wpAny_take q2' hns hfree hrdy (fun c a w h=>absurd h (hQ c _ w)) hy ?_
   rw[aK]at hpw
   refine F3j ap htm hbx hsub hR hrec hl hm hpre hnoS hQ hback hful hend todo fu (U.filter (fun j=>j != i)) _ _ w Ft' β' hok' (fun k hk=>hin k (a4 _ hk)) (fun k hk=>?_) ?_ hpw.2 ?_ ?_ (by simp[hsz]) ?_ ?_ hs'
   ·rcases hfl k hk with h|h
    ·rcases a8.1 h with rfl|h
     ·exact .inr (by rw[hset,Q3 rfl])
     ·exact .inl h
    ·exact .inr (by rw[hset];split<;>first|rfl|exact h)
   ·intro i' l' e k hk hkf
    rw[hset]
    split
    ·rfl
    ·rename_i hne
     rcases hfl k hkf with h|h
     ·rcases a8.1 h with rfl|h
      ·exact absurd rfl hne
      ·exfalso
       rw[e]at h hpw
       rcases a8.1 h with rfl|h
       ·omega
       ·have:=(aK.1 hpw.2).1 k h
        omega
     ·exact h
   ·have:(U.filter (fun j=>j != i)).length<U.length:=by
     rw[aG]
     exact⟨i,hiU,by simp⟩
    omega
   ·intro j hj hb
    rw[hset]at hb
    split at hb
    ·cases hb
    ·rename_i hne
     exact a9.2 ⟨hU j hj hb,by simpa using hne⟩
   ·intro k hk j hj
    rw[hset]at hk⊢
    split
    ·rfl
    ·split at hk
     ·rename_i hki
      subst hki
      exact hps j hj
     ·exact hcl k hk j hj
   ·intro j hj hj2
    rw[hset,Q0 (by omega)]
    exact htl j hj hj2
  ·cases hmv
theorem B4n{α:Type}{f:Nat→Bool}{t:Nat}{x:α}:∀{l:List (Nat × α)},(l.filter (fun p=>f p.1)).lookup t=some x→f t=true∧l.lookup t=some x
 |[],h=>by cases h
 |(k,y)::l,h=>by
  rw[List.filter_cons]at h
  split at h
  ·rename_i hk
   rw[aF]at h⊢
   split at h
   ·rename_i he
    simp at he;subst he
    exact⟨hk,h⟩
   ·exact B4n h
  ·rename_i hk
   obtain⟨h1,h2⟩:=B4n h
   refine⟨h1,?_⟩
   rw[aF]
   have:(t == k)=false:=by
    simp only[Q8,ne_eq]
    rintro rfl
    exact hk h1
   rw[this]
   exact h2
theorem Sat.facts{ρ:List D}{st st':St}{Ft:Fr}{β:Nat→Value}{a:Act}{w:World}(hs:Sat X ρ st Ft β a w)(h1:∀t sv,st'.tm.lookup t=some sv→st.tm.lookup t=some sv)(h2:∀n x,st'.bx.lookup n=some x→st.bx.lookup n=some x)
  (h3:∀e b,(e,b) ∈ st'.fs→(den ρ e).toBool=b) (h4:st'.key=st.key∧st'.cf=st.cf:=by exact⟨rfl,rfl⟩):Sat X ρ st' Ft β a w:=
 ⟨hs.df,hs.sz,fun b hb=>⟨(hs.ft b hb).1,fun n x hx=>(hs.ft b hb).2 n x (h2 n x hx)⟩,fun t sv ht=>hs.tm t sv (h1 t sv ht),fun n x hx=>hs.bx n x (h2 n x hx),
  fun n m x y k hx hy=>hs.inj n m x y k (h2 n x hx) (h2 m y hy),fun n x k hx=>hs.own n x k (h2 n x hx),hs.chg,h3,hs.on,hs.f0,hs.gx,⟨h4.2.trans hs.cf.1,by rw[h4.2];exact hs.cf.2⟩,hs.hg.less (fun n x hx=>⟨x,h2 n x hx,.inl rfl⟩) (congrArg bF h4.1) (congrArg bG h4.1) h4.2,by rw[show st'.hp=st.hp from congrArg bF h4.1];exact hs.fw⟩
theorem D0i(w:World):Below w.heap.size w {w with drawn:=w.drawn+1}:=⟨rfl,rfl,rfl,b9 _,fun _ _=>rfl⟩
theorem G9q{ops:Array Oper}{fl:List Nat}:D2m ops fl (A9q (ops.toList.zipIdx.map (C0b fl)) []):=by
 intro i o ho p hp
 have hd:(ops.toList.zipIdx.map (C0b fl))[i]?=some (C0b fl (o,i)):=by
  rw[aW,List.getElem?_zipIdx,ho];simp
 have hm:∀q,q ∈ C0b fl (o,i)→q ∈ direct o∨(q<i∧q ∈ fl):=by
  intro q hq
  rcases aD.1 hq with h|h
  ·exact .inl h
  ·obtain⟨h1,h2⟩:=a9.1 h
   exact .inr ⟨by simpa using h2,h1⟩
 rcases D8z _ [] i _ p hd (by simpa using hp)with h|⟨j,hj,h⟩
 ·exact .inl (hm p h)
 ·exact .inr ⟨j,hm j hj,h⟩
theorem F5i(hF:A5j X.G X.P Fs){id:Nat}{st:St}{ρ:List D}{Ft:Fr}{β:Nat→Value}{a:Act}{w:World}(he:eval Fs fuel (F4v X.P X.nt ops st K) L ρ=some r)(hnv:st.nv=ρ.length)(hs:Sat X ρ st Ft β a w)
  (HK:A3q X Fs fuel L ρ K r (Q .normal)):(Code.region id ops true).wp X.P Q a w:=by
 unfold F4v at he
 simp only at he
 rw[A3d A2j,A3d (A3d A2j),A3d A2j,A2j,A3d A2j,A3d (fun _ _=>rfl),A3d A2j,A3d A2j]at he
 generalize hfl:E3w st ops ops.toList=fl at he
 generalize hpr:A9q (ops.toList.zipIdx.map (C0b fl)) []=preds at he
 generalize hmm:fl.foldl (fun m i=>max m (i+1)) (D8b ops.toList.length preds)=m at he
 split at he
 ·rename_i hc
  simp only[a0,Q9]at hc
  obtain⟨⟨⟨⟨hsc,hmix⟩,hchk⟩,hfc⟩,hmle⟩:=hc
  simp only[a3,aL,a0,a1,Q9]at hchk
  have hds:∀t o,ops.toList[t]?=some o→(ops.toList.map direct)[t]?=some (direct o):=fun t o ho=>by rw[aW,ho];rfl
  have hall:=hsc
  simp only[St.sc,a0,a3]at hall
  obtain⟨ext,stF,R2,g1,g2,g3,g4,g5,g6,g7⟩:=D2a (X:=X) hF _ he hnv ⟨fun p hp=>hall.1.1.1 p (a9.1 hp).1,fun p hp=>hall.1.1.2 p (a9.1 hp).1,fun p hp=>hall.1.2 p hp,hall.2.1,hall.2.2,(fun q hq=>by cases hq),(fun q hq=>by cases hq)⟩ (fun e b hm=>hs.fs e b hm)
  simp only[List.nil_append]at g1 g7
  split at g1
  ·rename_i hap
   simp only[a0,Q9]at hap
   obtain⟨hap,hidx⟩:=hap
   have ap:=H8j hap hidx
   have hmle':m≤ops.size:=by simpa using hmle
   have hback:∀t,t<ops.size→∀o,ops.toList[t]?=some o→∀k ∈ direct o,k<t:=by
    intro t ht o ho k hk
    have:=(hchk t (by simpa using ht)).2
    rw[hds t o ho]at this
    simp only[a3,Q9]at this
    exact this k hk
   have hful:∀j,m≤j→j<ops.size→∀k,k<j→(preds.getD j 0).testBit k=true:=by
    intro j h1 h2
    rcases(hchk j (by simpa using h2)).1 with h|h
    ·omega
    ·intro k hk
     unfold isFull at h
     simp only[a3,aL]at h
     exact h k hk
   have hpre:D2m ops fl preds:=by rw[←hpr];exact G9q
   have hRi:∀q ∈ R2,q.i<m:=by
    intro q hq
    have:q.i ∈ R2.map (·.i):=aV.2 ⟨q,hq,rfl⟩
    rw[hidx]at this
    exact aL.1 this
   have hflc:(b0 ops=true∨fl=[])∧C9d ops fl (b6 ops.size false)=true∧(∀k ∈ fl,k<m)∧fl.Pairwise (·< ·):=by
    simp only[a1,a0,a3,Q9,List.isEmpty_iff]at hfc
    rcases hfc with h|⟨⟨⟨h1,h2⟩,h3⟩,h4⟩
    ·subst h
     exact⟨.inr rfl,rfl,(fun k hk=>by cases hk),List.Pairwise.nil⟩
    ·exact⟨.inl h1,h2,h3,h4⟩
   obtain⟨hnoS,hfok,hflm,hpw⟩:=hflc
   have hs1:=(hs.ext hnv hsc ext st.nv).below (D0i w)
   let Q':Exit→Act→World→Prop:=fun e a w=>match e with|.panic _=>False|e=>Q e a w
   refine Code.wp_mono (Q:=Q') (fun e a w h=>by cases e<;>first|exact h|exact h.elim) ?_
   refine wp_region_any hmix ?_
   refine F3j ap g3 g4.1 (fun n x hx=>by rw[g4.1]at hx;exact(B4n (f:=fun k=>!(F8y (aX m ops.toList) st).contains k) hx).2) hRi (fun q hq=>by have:=g7 q hq [];simpa using this) ?_ hmle' hpre hnoS (fun c a w h=>h) hback hful ?_ fl ops.size (aP m) (b6 ops.size false) a _ (E1n Ft w {w with drawn:=w.drawn+1}) β hfok (fun k hk=>⟨hk,hflm k hk⟩) (fun k hk=>.inl hk) ?_ hpw ?_ ?_ ?_ ?_ ?_ ?_
   ·intro o i hm
    have h1:=List.mem_zipIdx_iff_getElem?.1 hm
    rw[List.getElem?_take]at h1
    split at h1
    ·exact h1
    ·cases h1
   ·intro Ft' β' a' w' listed fu hs' hsz hall htl hfu
    refine F9p hF hpre hback _ m fu hflm rfl hsz hall htl hful (by simpa using hfu) g1 (by simpa[A2r]using g2) hs' ?_
    intro st'' ext' Ft'' β'' a'' w'' q1 q2 q3
    rw[aA]at q1 q2 q3
    exact HK st'' (ext++ext') Ft'' β'' a'' w'' q1 q2 q3
   ·intro i l' e k hk hkf
    exfalso
    rw[e]at hkf hpw
    rcases a8.1 hkf with rfl|h
    ·omega
    ·have:=(aK.1 hpw).1 k h
     omega
   ·simp;omega
   ·intro j hj _
    exact aL.2 hj
   ·simp
   ·intro k hk
    exfalso
    by_cases hlt:k<ops.size
    ·simp[hlt]at hk
    ·simp[hlt]at hk
   ·intro j _ hj
    simp[hj]
   ·have hsel:∀(rr:Rec),(b6 ops.size false).getD rr.i false=false:=by
     intro rr
     by_cases hlt:rr.i<ops.size<;>simp[hlt]
    refine hs1.facts ?_ ?_ (by simpa[A2r]using g6) ⟨g4.2.1,g4.2.2⟩
    ·intro t sv ht
     have:(A2r stF st.bx R2 fun j=>(b6 ops.size false).getD j false).tm=stF.tm:=by
      simp only[A2r,B3i]
      rw[aI.2 (fun rr _=>by simp[hsel rr])]
      rfl
     rw[this,g3]at ht
     exact(B4n (f:=fun k=>!(List.filterMap (fun x=>x.dst) (aX m ops.toList)).contains k) ht).2
    ·intro n x hx
     have:(A2r stF st.bx R2 fun j=>(b6 ops.size false).getD j false).bx=st.bx:=by
      simp only[A2r,B1r,B3q]
      rw[aI.2 (fun rr _=>by simp[hsel rr]),aI.2 (fun rr _=>by simp[hsel rr])]
      rfl
     rw[this]at hx
     exact hx
  ·cases g1
 ·cases he
end
end Go.Proofs.YtckanieeocdpbaaGreat.Eng
