import Derived.Test.YtckanieeocdpbaaGreatEngX
import Derived.ChangeSlices
import Derived.SizedLaws
open List renaming getElem?_eq_getElem→a0,getElem?_eq_none→a1,getElem?_range→a2,getElem?_eq_some_iff→a3,getElem?_map→a4,getElem?_of_mem→a5,mem_append→a6,mem_cons→a7
open Option.some renaming injEq→a8
open Classical renaming choose_spec→a9,choose→aA
open Go.DataW renaming weights→aB,weightsAll→aC,trod→aD,Trod→aE
open Option renaming map_some→aF
namespace Go.Proofs.YtckanieeocdpbaaGreat.Open
open Go.Proofs.YtckanieeocdpbaaGreat.Eng Go.Proofs.YtckanieeocdpbaaGreat Go.RowKit
set_option linter.unusedVariables false
set_option linter.unusedSimpArgs false
inductive Wf(P:Program):Ty→D→Prop
 |int {k d} (n:Int):d=.int n→(Lit.int k n).wf=true→Wf P (.int k) d
 |bool {d} (b:Bool):d=.bool b→Wf P .bool d
 |str {d} (s:ByteArray):d=.str s→s.size≤reachBytes→Wf P .str d
 |slice {e d} (l:List D) (ts:List Ty):d=.agg l→A0r P e=some ts→l.length*P.bytesOf e≤reachBytes→
   (∀(i:Nat) (x:D),l[i]?=some x→ts.length=1∨∃ys:List D,x=D.agg ys∧ys.length=ts.length)→
   (∀(i:Nat) (x:D) (c:Nat) (t:Ty),l[i]?=some x→ts[c]?=some t→Wf P t (cellOf ts.length x c))→Wf P (.slice e) d
def C1p(P:Program):List Ty→List D→Prop
 |[],ds=>ds=[]
 |t::ts,ds=>∃d ds',ds=d::ds'∧Wf P t d∧C1p P ts ds'
def A7x(P:Program)(w:World)(F:Fr):List Ty→List D→List Value→Prop
 |[],ds,cs=>ds=[]∧cs=[]
 |t::ts,ds,cs=>∃d ds' c cs',ds=d::ds'∧cs=c::cs'∧Rd P w F t d c∧Wf P t d∧A7x P w F ts ds' cs'
def E2g(P:Program)(g:TypeId→Option (List Ty)):Nat→List Field→Option (List Ty)
 |_,[]=>some []
 |o,f::fs=>if f.offset=o then match g f.type with
  |some a=>if a.length=P.cellsOf f.type then(E2g P g (o+a.length) fs).map (a++·)else none
  |none=>none else none
def D1d(P:Program):Nat→TypeId→Option (List Ty)
 |0,_=>none
 |n+1,t=>match P.underlying t with
  |some (.int k)=>some [.int k]
  |some .bool=>some [.bool]
  |some .string=>some [.str]
  |some (.slice e)=>match D1d P n e,A0r P e with
   |some ts,some ts'=>if ts=ts'∧ts.length=P.cellsOf e∧0<ts.length then some [.slice e]else none
   |_,_=>none
  |some (.struct fs)=>match E2g P (D1d P n) 0 fs.toList with
   |some ts=>if ts.length=P.cellsOf t then some ts else none
   |none=>none
  |_=>none
section
variable{P:Program}{w:World}{F:Fr}
theorem A7x.len:∀{ts:List Ty} {ds:List D} {cs:List Value},A7x P w F ts ds cs→ds.length=ts.length∧cs.length=ts.length
 |[],_,_,⟨rfl,rfl⟩=>⟨rfl,rfl⟩
 |_::_,_,_,⟨_,_,_,_,rfl,rfl,_,_,h⟩=>by simp[h.len.1,h.len.2]
theorem A7x.app:∀{ts ts':List Ty} {ds ds':List D} {cs cs':List Value},A7x P w F ts ds cs→A7x P w F ts' ds' cs'→A7x P w F (ts++ts') (ds++ds') (cs++cs')
 |[],_,_,_,_,_,⟨rfl,rfl⟩,h=>h
 |_::_,_,_,_,_,_,⟨d,_,c,_,rfl,rfl,h1,h2,h⟩,h'=>⟨d,_,c,_,rfl,rfl,h1,h2,h.app h'⟩
theorem A7x.get:∀{ts:List Ty} {ds:List D} {cs:List Value},A7x P w F ts ds cs→∀(i:Nat) (t:Ty) (d:D) (c:Value),ts[i]?=some t→ds[i]?=some d→cs[i]?=some c→Rd P w F t d c∧Wf P t d
 |[],_,_,_,i,_,_,_,h,_,_=>by simp at h
 |_::_,_,_,⟨_,_,_,_,rfl,rfl,h1,h2,h⟩,0,_,_,_,ht,hd,hc=>by simp at ht hd hc;subst ht hd hc;exact⟨h1,h2⟩
 |_::_,_,_,⟨_,_,_,_,rfl,rfl,h1,h2,h⟩,i+1,_,_,_,ht,hd,hc=>h.get i _ _ _ (by simpa using ht) (by simpa using hd) (by simpa using hc)
theorem A7x.one{t:Ty}{d:D}{c:Value}(h1:Rd P w F t d c)(h2:Wf P t d):A7x P w F [t] [d] [c]:=⟨d,[],c,[],rfl,rfl,h1,h2,rfl,rfl⟩
theorem A7x.rd:∀{ts:List Ty} {ds:List D} {cs:List Value},A7x P w F ts ds cs→E4n P w F ts ds cs
 |[],_,_,⟨rfl,rfl⟩=>trivial
 |_::_,_,_,⟨_,_,_,_,rfl,rfl,h1,_,h⟩=>⟨h1,h.rd⟩
theorem A7x.wf:∀{ts:List Ty} {ds:List D} {cs:List Value},A7x P w F ts ds cs→C1p P ts ds
 |[],_,_,⟨rfl,rfl⟩=>rfl
 |_::_,_,_,⟨_,_,_,_,rfl,rfl,_,h2,h⟩=>⟨_,_,rfl,h2,h.wf⟩
theorem G6i{a:Addr}{v:Value}(h:w.cell? a=some v):a.spot=none:=by
 obtain⟨b,off,s⟩:=a
 cases s with
 |none=>rfl
 |some k=>
  simp only[World.cell?,Option.isSome_some,Q5]at h
  split at h<;>simp at h
variable{H:Type}{enc:TypeId × Value→H}{sp:Nat→Bool}{γ:List (Nat × TypeId)}{hc:List TypeId}
abbrev fr(w:World)(γ:List (Nat × TypeId))(hc:List TypeId):Fr:=⟨fun b=>b<w.heap.size,γ,hc⟩
theorem D9f{g:TypeId→Option (List Ty)}{n:Nat}{cs:List Value}(hg:∀t ts cs x,g t=some ts→aD enc P w 0 sp true n t cs=some x→(∀n ∈ x.1.weights P t,n≤reachBytes)→∃ds,A7x P w (fr w γ hc) ts ds cs):
  ∀(fs:List Field) (o:Nat) (ts:List Ty),E2g P g o fs=some ts→(∀f ∈ fs,∃x,aD enc P w 0 sp true n f.type ((cs.drop f.offset).take (P.cellsOf f.type))=some x∧∀n ∈ x.1.weights P f.type,n≤reachBytes)→
  ∃ds,A7x P w (fr w γ hc) ts ds ((cs.drop o).take ts.length)
 |[],o,ts,h,_=>by simp only[E2g,a8]at h;subst h;exact⟨[],rfl,by simp⟩
 |f::fs,o,ts,h,hx=>by
  simp only[E2g]at h
  split at h
  next ho=>
   split at h
   next a ha=>
    split at h
    next hl=>
     simp only[Option.map_eq_some_iff]at h
     obtain⟨ts',h',rfl⟩:=h
     obtain⟨x,hxx,hxw⟩:=hx f (by simp)
     obtain⟨ds1,h1⟩:=hg _ _ _ _ ha hxx hxw
     obtain⟨ds2,h2⟩:=D9f hg fs _ ts' h' (fun f' hf'=>hx f' (by simp[hf']))
     refine⟨ds1++ds2,?_⟩
     have e:(cs.drop o).take (a++ts').length=(cs.drop f.offset).take (P.cellsOf f.type)++(cs.drop (o+a.length)).take ts'.length:=by
      rw[←hl,ho,List.length_append,List.take_add,List.drop_drop]
     rw[e]
     exact h1.app h2
    next=>simp at h
   next=>simp at h
  next=>simp at h
theorem D8l{P:Program}{e:TypeId}{H:Type}:∀{l:List (DataW H)} {d:DataW H},d ∈ l→∀{n:Nat},n ∈ d.weights P e→n ∈ aC P e l
 |x::l,d,h,n,hn=>by
  simp only[aC,a6]
  rcases a7.1 h with rfl|h
  ·exact .inl hn
  ·exact .inr (D8l h hn)
theorem C0i:∀(n:Nat) (fuel:Nat) (t:TypeId) (ts:List Ty) (cs:List Value) (x:DataW H × List MemPlace),D1d P n t=some ts→aD enc P w 0 sp true fuel t cs=some x→(∀n ∈ x.1.weights P t,n≤reachBytes)→∃ds,A7x P w (fr w γ hc) ts ds cs
 |0,_,_,_,_,_,h,_,_=>by simp[D1d]at h
 |n+1,fuel,t,ts,cs,x,h,hx,hwt=>by
  simp only[D1d]at h
  split at h
  next k hu=>
   simp only[a8]at h;subst h
   obtain⟨m,rfl,_,hw⟩:=DataW.trod_int hu hx
   exact⟨[.int m],A7x.one (.int rfl) (.int m rfl hw)⟩
  next hu=>
   simp only[a8]at h;subst h
   obtain⟨b,rfl,_⟩:=DataW.trod_bool hu hx
   exact⟨[.bool b],A7x.one (.bool rfl) (.bool b rfl)⟩
  next hu=>
   simp only[a8]at h;subst h
   obtain⟨s,rfl,rfl,_⟩:=DataW.trod_string hu hx
   have hs:s.size≤reachBytes:=hwt _ (by simp[aB])
   exact⟨[.str s],A7x.one (.str rfl) (.str s rfl hs)⟩
  next e hu=>
   split at h
   next us us' hus hus'=>
    split at h
    next hc1=>
     obtain⟨rfl,hl,h0⟩:=hc1
     simp only[a8]at h;subst h
     rcases DataW.trod_slice hu hx with⟨rfl,_⟩|⟨a,len,cap,elems,rest,m,_,rfl,rfl,_,hlc,hm,hlen,hel,_⟩
     ·exact⟨[.agg []],A7x.one (.snil rfl rfl) (.slice [] us rfl hus' (by simp) (by simp) (by simp))⟩
     ·have hbl:len*P.bytesOf e≤reachBytes:=by
       have h1:=hwt ((elems.length+rest.length)*P.bytesOf e) (by simp[aB,hu])
       exact Nat.le_trans (Nat.mul_le_mul_right _ (by omega)) h1
      have hwe:∀y ∈ elems,∀n ∈ y.1.weights P e,n≤reachBytes:=by
       intro y hy n hn
       refine hwt n ?_
       simp only[aB,hu,a7,a6]
       exact .inr (.inl (D8l (List.mem_map_of_mem hy) hn))
      by_cases hz:len=0
      ·subst hz
       exact⟨[.agg []],A7x.one (.snil rfl rfl) (.slice [] us rfl hus' (by simp) (by simp) (by simp))⟩
      ·have each:∀i,∃(ds:List D) (cs':List Value),i<len→A7x P w (fr w γ hc) us ds cs'∧∀j,j<P.cellsOf e→w.cell? ((a.add (i*P.cellsOf e)).add j)=cs'[j]?:=by
        intro i
        by_cases hi:i<len
        ·have h1:=hel i hi
         rw[a0 (by omega)]at h1
         rw[Option.bind_eq_some_iff]at h1
         obtain⟨cs',hcs,hy⟩:=h1
         obtain⟨ds,hds⟩:=C0i n _ _ _ _ _ hus hy (hwe _ (List.getElem_mem _))
         exact⟨ds,cs',fun _=>⟨hds,(World.cells?_some hcs).2.2⟩⟩
        ·exact⟨[],[],fun h=>absurd h hi⟩
       have hch:∃(f:Nat→List D) (g:Nat→List Value),∀i,i<len→A7x P w (fr w γ hc) us (f i) (g i)∧∀j,j<P.cellsOf e→w.cell? ((a.add (i*P.cellsOf e)).add j)=(g i)[j]?:=
        ⟨fun i=>aA (each i),fun i=>aA (a9 (each i)),fun i=>a9 (a9 (each i))⟩
       obtain⟨f,g,hfg⟩:=hch
       have cell0:∃v,w.cell? a=some v:=by
        have:=(hfg 0 (by omega)).2 0 (by omega)
        have hg0:0<(g 0).length:=by rw[(hfg 0 (by omega)).1.len.2];exact h0
        rw[a0 hg0]at this
        simp only[Nat.zero_mul,Addr.add,Q5]at this
        exact⟨_,this⟩
       obtain⟨v0,hv0⟩:=cell0
       have hs:=G6i hv0
       obtain⟨b,off,s⟩:=a
       simp only at hs
       subst hs
       have hb:b<w.heap.size:=World.block_lt_of_cell? w _ hv0
       have hadd:∀k:Nat,(⟨b,off,none⟩:Addr).add k=⟨b,off+k,none⟩:=by intro k;unfold Addr.add;split<;>simp_all
       have hadd2:∀k j:Nat,((⟨b,off,none⟩:Addr).add k).add j=⟨b,off+k+j,none⟩:=by intro k j;rw[hadd];unfold Addr.add;split<;>simp_all
       let el:Nat→D:=fun i=>if us.length=1 then(f i).headD .nil else .agg (f i)
       have hcell:∀i,i<len→∀c t,us[c]?=some t→∃d v,(f i)[c]?=some d∧(g i)[c]?=some v∧cellOf us.length (el i) c=d∧Rd P w (fr w γ hc) t d v∧Wf P t d:=by
        intro i hi c t ht
        have hA:=(hfg i hi).1
        have hc':c<us.length:=(a3.1 ht).1
        have hf:c<(f i).length:=by rw[hA.len.1];exact hc'
        have hg:c<(g i).length:=by rw[hA.len.2];exact hc'
        refine⟨(f i)[c],(g i)[c],a0 hf,a0 hg,?_,hA.get c t _ _ ht (a0 hf) (a0 hg)⟩
        simp only[cellOf,el]
        by_cases h1:us.length=1
        ·obtain rfl:c=0:=by omega
         simp only[h1,Q5]
         rw[List.headD_eq_head?_getD,List.head?_eq_getElem?,a0 hf]
         rfl
        ·simp[h1,a0 hf]
       refine⟨[.agg ((List.range len).map el)],A7x.one ?_ ?_⟩
       ·refine Rd.slice (ts:=us) (g:=fun i c=>((g i)[c]?).getD .nilIface) rfl hus' (by simp) hlc hb ?_ ?_
        ·intro i c hi hcc
         simp only[D.A0j,List.length_map,List.length_range]at hi
         obtain⟨d,v,_,hv,_⟩:=hcell i hi c us[c] (a0 hcc)
         have:=(hfg i hi).2 c (by omega)
         rw[hadd2,←hl]at this
         rw[this,hv];rfl
        ·intro i c y t hy ht
         simp only[D.A0j,a4]at hy
         have hi:i<len:=by
          rcases Nat.lt_or_ge i len with h|h
          ·exact h
          ·rw[a1 (by simpa using h)]at hy;simp at hy
         rw[a2 hi]at hy
         simp only[aF,a8]at hy
         subst hy
         obtain⟨d,v,_,hv,he,hr,_⟩:=hcell i hi c t ht
         rw[he,hv];exact hr
       ·refine .slice _ us rfl hus' (by simpa using hbl) ?_ ?_
        ·intro i y hy
         by_cases h1:us.length=1
         ·exact .inl h1
         ·right
          simp only[a4]at hy
          have hi:i<len:=by
           rcases Nat.lt_or_ge i len with h|h
           ·exact h
           ·rw[a1 (by simpa using h)]at hy;simp at hy
          rw[a2 hi]at hy
          simp only[aF,a8,el,h1,Q4]at hy
          exact⟨f i,hy.symm,(hfg i hi).1.len.1⟩
        ·intro i y c t hy ht
         simp only[a4]at hy
         have hi:i<len:=by
          rcases Nat.lt_or_ge i len with h|h
          ·exact h
          ·rw[a1 (by simpa using h)]at hy;simp at hy
         rw[a2 hi]at hy
         simp only[aF,a8]at hy
         subst hy
         obtain⟨d,v,_,hv,he,_,hw⟩:=hcell i hi c t ht
         rw[he];exact hw
    next=>simp at h
   next=>simp at h
  next fs hu=>
   split at h
   next us hus=>
    split at h
    next hl=>
     simp only[a8]at h;subst h
     obtain⟨xs,m,rfl,rfl,hcl,hxl,hf⟩:=DataW.trod_struct hu hx
     obtain⟨ds,hds⟩:=D9f (n:=m) (fun t ts cs x h1 h2 h3=>C0i n m t ts cs x h1 h2 h3) fs.toList 0 us hus (by
      intro f hff
      obtain⟨i,hi⟩:=a5 hff
      have:=hf i f (by simpa using hi)
      have hil:i<xs.length:=by rw[hxl];simpa using(a3.1 hi).1
      refine⟨xs[i],by rw[this,a0 hil],fun n hn=>hwt n ?_⟩
      simp only[aB,hu]
      exact DataW.weights_mem_each (j:=i) (t:=f.type) (d:=xs[i].1) (by simp[hi]) (by simp[a0 hil]) n hn)
     refine⟨ds,?_⟩
     rw[List.drop_zero,hl,←hcl,List.take_length]at hds
     exact hds
    next=>simp at h
   next=>simp at h
  next=>simp at h
theorem G3x{t:TypeId}{ts:List Ty}{v:Value}{d:DataW H}{p:List MemPlace}(ht:D1d P 8 t=some ts)(h:aE enc P w 0 sp true t v d p)(hw:∀n ∈ d.weights P t,n≤reachBytes):∃ds,E4n P w (fr w γ hc) ts ds v.cells.toList∧C1p P ts ds:=by
 obtain⟨fuel,hf⟩:=h
 obtain⟨ds,hd⟩:=C0i (γ:=γ) (hc:=hc) _ _ _ _ _ _ ht hf hw
 exact⟨ds,hd.rd,hd.wf⟩
theorem F1y{t:TypeId}{u:Ty}{v:Value}{d:DataW H}{p:List MemPlace}(ht:D1d P 8 t=some [u])(hv:v.cells.toList=[v])(h:aE enc P w 0 sp true t v d p)(hw:∀n ∈ d.weights P t,n≤reachBytes):∃d,Rd P w (fr w γ hc) u d v∧Wf P u d:=by
 obtain⟨fuel,hf⟩:=h
 obtain⟨ds,hd⟩:=C0i (γ:=γ) (hc:=hc) _ _ _ _ _ _ ht hf hw
 rw[hv]at hd
 obtain⟨d,_,c,_,rfl,hcc,h1,h2,_⟩:=hd
 simp only[List.cons.injEq]at hcc
 exact⟨d,hcc.1▸h1,h2⟩
end
section
variable{P:Program}
theorem Wf.toInt{k:IntKind}{d:D}(h:Wf P (.int k) d):∃n,d=.int n∧(Lit.int k n).wf=true:=by cases h with|int n h1 h2=>exact⟨n,h1,h2⟩
theorem F3v{α:Type}{f:α→D}{Q:α→Prop}:∀{l:List D},(∀x ∈ l,∃a,x=f a∧Q a)→∃l':List α,l=l'.map f∧∀a ∈ l',Q a
 |[],_=>⟨[],rfl,by simp⟩
 |x::xs,h=>by
  obtain⟨a,rfl,ha⟩:=h x (by simp)
  obtain⟨l,rfl,hl⟩:=F3v (l:=xs) (fun y hy=>h y (by simp[hy]))
  exact⟨a::l,rfl,by simpa using⟨ha,hl⟩⟩
theorem C1p.of:∀{ts:List Ty} {ys:List D},ys.length=ts.length→(∀c t,ts[c]?=some t→Wf P t (ys.getD c .nil))→C1p P ts ys
 |[],ys,hl,_=>by simpa[C1p]using hl
 |t::ts,[],hl,_=>by simp at hl
 |t::ts,y::ys,hl,h=>⟨y,ys,rfl,by simpa using h 0 t rfl,C1p.of (by simpa using hl) (fun c t ht=>by simpa using h (c+1) t (by simpa using ht))⟩
theorem Wf.structs{e:TypeId}{ts:List Ty}{d:D}{α:Type}{f:α→D}{Q:α→Prop}(he:A0r P e=some ts)(hn:ts.length≠1)(hf:∀ys,C1p P ts ys→∃a,D.agg ys=f a∧Q a)(h:Wf P (.slice e) d):∃l:List α,d=.agg (l.map f)∧l.length*P.bytesOf e≤reachBytes∧∀a ∈ l,Q a:=by
 cases h with
 |slice l ts' h1 h2 h3 h4 h5=>
  rw[he,a8]at h2;subst h2
  obtain⟨l',rfl,hl⟩:=F3v (f:=f) (Q:=Q) (l:=l) (by
   intro x hx
   obtain⟨i,hi⟩:=a5 hx
   rcases h4 i x hi with h|⟨ys,rfl,hy⟩
   ·exact absurd h hn
   ·exact hf ys (C1p.of hy (fun c t ht=>by simpa[cellOf,hn]using h5 i _ c t hi ht)))
  exact⟨l',h1,by simpa using h3,hl⟩
end
end Go.Proofs.YtckanieeocdpbaaGreat.Open
