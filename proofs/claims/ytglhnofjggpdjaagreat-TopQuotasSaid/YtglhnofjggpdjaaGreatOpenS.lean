import Derived.Test.YtglhnofjggpdjaaGreatEngX
import Derived.ChangeSlices
import Derived.SizedLaws
namespace Go.Proofs.YtglhnofjggpdjaaGreat.Open
open Go.Proofs.YtglhnofjggpdjaaGreat.Eng Go.Proofs.YtglhnofjggpdjaaGreat Go.RowKit
set_option linter.unusedVariables false
set_option linter.unusedSimpArgs false
inductive Wf(P:Program):Ty→D→Prop
 |int {k d} (n:Int):d=.int n→(Lit.int k n).wf=true→Wf P (.int k) d
 |bool {d} (b:Bool):d=.bool b→Wf P .bool d
 |str {d} (s:ByteArray):d=.str s→s.size≤reachBytes→Wf P .str d
 |slice {e d} (l:List D) (ts:List Ty):d=.agg l→A0n P e=some ts→l.length*P.bytesOf e≤reachBytes→
   (∀(i:Nat) (x:D),l[i]?=some x→ts.length=1∨∃ys:List D,x=D.agg ys∧ys.length=ts.length)→
   (∀(i:Nat) (x:D) (c:Nat) (t:Ty),l[i]?=some x→ts[c]?=some t→Wf P t (cellOf ts.length x c))→Wf P (.slice e) d
def C0b(P:Program):List Ty→List D→Prop
 |[],ds=>ds=[]
 |t::ts,ds=>∃d ds',ds=d::ds'∧Wf P t d∧C0b P ts ds'
def A7h(P:Program)(w:World)(F:Fr):List Ty→List D→List Value→Prop
 |[],ds,cs=>ds=[]∧cs=[]
 |t::ts,ds,cs=>∃d ds' c cs',ds=d::ds'∧cs=c::cs'∧Rd P w F t d c∧Wf P t d∧A7h P w F ts ds' cs'
def E0l(P:Program)(g:TypeId→Option (List Ty)):Nat→List Field→Option (List Ty)
 |_,[]=>some []
 |o,f::fs=>if f.offset=o then match g f.type with
  |some a=>if a.length=P.cellsOf f.type then(E0l P g (o+a.length) fs).map (a++·)else none
  |none=>none else none
def D0n(P:Program):Nat→TypeId→Option (List Ty)
 |0,_=>none
 |n+1,t=>match P.underlying t with
  |some (.int k)=>some [.int k]
  |some .bool=>some [.bool]
  |some .string=>some [.str]
  |some (.slice e)=>match D0n P n e,A0n P e with
   |some ts,some ts'=>if ts=ts'∧ts.length=P.cellsOf e∧0<ts.length then some [.slice e]else none
   |_,_=>none
  |some (.struct fs)=>match E0l P (D0n P n) 0 fs.toList with
   |some ts=>if ts.length=P.cellsOf t then some ts else none
   |none=>none
  |_=>none
section
variable{P:Program}{w:World}{F:Fr}
theorem A7h.len:∀{ts:List Ty} {ds:List D} {cs:List Value},A7h P w F ts ds cs→ds.length=ts.length∧cs.length=ts.length
 |[],_,_,⟨rfl,rfl⟩=>⟨rfl,rfl⟩
 |_::_,_,_,⟨_,_,_,_,rfl,rfl,_,_,h⟩=>by simp[h.len.1,h.len.2]
theorem A7h.app:∀{ts ts':List Ty} {ds ds':List D} {cs cs':List Value},A7h P w F ts ds cs→A7h P w F ts' ds' cs'→A7h P w F (ts++ts') (ds++ds') (cs++cs')
 |[],_,_,_,_,_,⟨rfl,rfl⟩,h=>h
 |_::_,_,_,_,_,_,⟨d,_,c,_,rfl,rfl,h1,h2,h⟩,h'=>⟨d,_,c,_,rfl,rfl,h1,h2,h.app h'⟩
theorem A7h.get:∀{ts:List Ty} {ds:List D} {cs:List Value},A7h P w F ts ds cs→∀(i:Nat) (t:Ty) (d:D) (c:Value),ts[i]?=some t→ds[i]?=some d→cs[i]?=some c→Rd P w F t d c∧Wf P t d
 |[],_,_,_,i,_,_,_,h,_,_=>by simp at h
 |_::_,_,_,⟨_,_,_,_,rfl,rfl,h1,h2,h⟩,0,_,_,_,ht,hd,hc=>by simp at ht hd hc;subst ht hd hc;exact⟨h1,h2⟩
 |_::_,_,_,⟨_,_,_,_,rfl,rfl,h1,h2,h⟩,i+1,_,_,_,ht,hd,hc=>h.get i _ _ _ (by simpa using ht) (by simpa using hd) (by simpa using hc)
theorem A7h.one{t:Ty}{d:D}{c:Value}(h1:Rd P w F t d c)(h2:Wf P t d):A7h P w F [t] [d] [c]:=⟨d,[],c,[],rfl,rfl,h1,h2,rfl,rfl⟩
theorem A7h.rd:∀{ts:List Ty} {ds:List D} {cs:List Value},A7h P w F ts ds cs→E1u P w F ts ds cs
 |[],_,_,⟨rfl,rfl⟩=>trivial
 |_::_,_,_,⟨_,_,_,_,rfl,rfl,h1,_,h⟩=>⟨h1,h.rd⟩
theorem A7h.wf:∀{ts:List Ty} {ds:List D} {cs:List Value},A7h P w F ts ds cs→C0b P ts ds
 |[],_,_,⟨rfl,rfl⟩=>rfl
 |_::_,_,_,⟨_,_,_,_,rfl,rfl,_,h2,h⟩=>⟨_,_,rfl,h2,h.wf⟩
theorem G1m{a:Addr}{v:Value}(h:w.cell? a=some v):a.spot=none:=by
 obtain⟨b,off,s⟩:=a
 cases s with
 |none=>rfl
 |some k=>
  simp only[World.cell?,Option.isSome_some,if_true]at h
  split at h<;>simp at h
variable{H:Type}{enc:TypeId × Value→H}{sp:Nat→Bool}{γ:List (Nat × TypeId)}{hc:List TypeId}
abbrev fr(w:World)(γ:List (Nat × TypeId))(hc:List TypeId):Fr:=⟨fun b=>b<w.heap.size,γ,hc⟩
theorem D6m{g:TypeId→Option (List Ty)}{n:Nat}{cs:List Value}(hg:∀t ts cs x,g t=some ts→DataW.trod enc P w 0 sp true n t cs=some x→(∀n ∈ x.1.weights P t,n≤reachBytes)→∃ds,A7h P w (fr w γ hc) ts ds cs):
  ∀(fs:List Field) (o:Nat) (ts:List Ty),E0l P g o fs=some ts→(∀f ∈ fs,∃x,DataW.trod enc P w 0 sp true n f.type ((cs.drop f.offset).take (P.cellsOf f.type))=some x∧∀n ∈ x.1.weights P f.type,n≤reachBytes)→
  ∃ds,A7h P w (fr w γ hc) ts ds ((cs.drop o).take ts.length)
 |[],o,ts,h,_=>by simp only[E0l,Option.some.injEq]at h;subst h;exact⟨[],rfl,by simp⟩
 |f::fs,o,ts,h,hx=>by
  simp only[E0l]at h
  split at h
  next ho=>
   split at h
   next a ha=>
    split at h
    next hl=>
     simp only[Option.map_eq_some_iff]at h
     obtain⟨ts',h',rfl⟩:=h
     obtain⟨x,hxx,hxw⟩:=hx f (by simp)
     obtain⟨ds1,h1⟩:=hg _ _ _ _ ha hxx hxw
     obtain⟨ds2,h2⟩:=D6m hg fs _ ts' h' (fun f' hf'=>hx f' (by simp[hf']))
     refine⟨ds1++ds2,?_⟩
     have e:(cs.drop o).take (a++ts').length=(cs.drop f.offset).take (P.cellsOf f.type)++(cs.drop (o+a.length)).take ts'.length:=by
      rw[←hl,ho,List.length_append,List.take_add,List.drop_drop]
     rw[e]
     exact h1.app h2
    next=>simp at h
   next=>simp at h
  next=>simp at h
theorem D6x{P:Program}{e:TypeId}{H:Type}:∀{l:List (DataW H)} {d:DataW H},d ∈ l→∀{n:Nat},n ∈ d.weights P e→n ∈ DataW.weightsAll P e l
 |x::l,d,h,n,hn=>by
  simp only[DataW.weightsAll,List.mem_append]
  rcases List.mem_cons.1 h with rfl|h
  ·exact .inl hn
  ·exact .inr (D6x h hn)
theorem B8z:∀(n:Nat) (fuel:Nat) (t:TypeId) (ts:List Ty) (cs:List Value) (x:DataW H × List MemPlace),D0n P n t=some ts→DataW.trod enc P w 0 sp true fuel t cs=some x→(∀n ∈ x.1.weights P t,n≤reachBytes)→∃ds,A7h P w (fr w γ hc) ts ds cs
 |0,_,_,_,_,_,h,_,_=>by simp[D0n]at h
 |n+1,fuel,t,ts,cs,x,h,hx,hwt=>by
  simp only[D0n]at h
  split at h
  next k hu=>
   simp only[Option.some.injEq]at h;subst h
   obtain⟨m,rfl,_,hw⟩:=DataW.trod_int hu hx
   exact⟨[.int m],A7h.one (.int rfl) (.int m rfl hw)⟩
  next hu=>
   simp only[Option.some.injEq]at h;subst h
   obtain⟨b,rfl,_⟩:=DataW.trod_bool hu hx
   exact⟨[.bool b],A7h.one (.bool rfl) (.bool b rfl)⟩
  next hu=>
   simp only[Option.some.injEq]at h;subst h
   obtain⟨s,rfl,rfl,_⟩:=DataW.trod_string hu hx
   have hs:s.size≤reachBytes:=hwt _ (by simp[DataW.weights])
   exact⟨[.str s],A7h.one (.str rfl) (.str s rfl hs)⟩
  next e hu=>
   split at h
   next us us' hus hus'=>
    split at h
    next hc1=>
     obtain⟨rfl,hl,h0⟩:=hc1
     simp only[Option.some.injEq]at h;subst h
     rcases DataW.trod_slice hu hx with⟨rfl,_⟩|⟨a,len,cap,elems,rest,m,_,rfl,rfl,_,hlc,hm,hlen,hel,_⟩
     ·exact⟨[.agg []],A7h.one (.snil rfl rfl) (.slice [] us rfl hus' (by simp) (by simp) (by simp))⟩
     ·have hbl:len*P.bytesOf e≤reachBytes:=by
       have h1:=hwt ((elems.length+rest.length)*P.bytesOf e) (by simp[DataW.weights,hu])
       exact Nat.le_trans (Nat.mul_le_mul_right _ (by omega)) h1
      have hwe:∀y ∈ elems,∀n ∈ y.1.weights P e,n≤reachBytes:=by
       intro y hy n hn
       refine hwt n ?_
       simp only[DataW.weights,hu,List.mem_cons,List.mem_append]
       exact .inr (.inl (D6x (List.mem_map_of_mem hy) hn))
      by_cases hz:len=0
      ·subst hz
       exact⟨[.agg []],A7h.one (.snil rfl rfl) (.slice [] us rfl hus' (by simp) (by simp) (by simp))⟩
      ·have each:∀i,∃(ds:List D) (cs':List Value),i<len→A7h P w (fr w γ hc) us ds cs'∧∀j,j<P.cellsOf e→w.cell? ((a.add (i*P.cellsOf e)).add j)=cs'[j]?:=by
        intro i
        by_cases hi:i<len
        ·have h1:=hel i hi
         rw[List.getElem?_eq_getElem (by omega)]at h1
         rw[Option.bind_eq_some_iff]at h1
         obtain⟨cs',hcs,hy⟩:=h1
         obtain⟨ds,hds⟩:=B8z n _ _ _ _ _ hus hy (hwe _ (List.getElem_mem _))
         exact⟨ds,cs',fun _=>⟨hds,(World.cells?_some hcs).2.2⟩⟩
        ·exact⟨[],[],fun h=>absurd h hi⟩
       have hch:∃(f:Nat→List D) (g:Nat→List Value),∀i,i<len→A7h P w (fr w γ hc) us (f i) (g i)∧∀j,j<P.cellsOf e→w.cell? ((a.add (i*P.cellsOf e)).add j)=(g i)[j]?:=
        ⟨fun i=>Classical.choose (each i),fun i=>Classical.choose (Classical.choose_spec (each i)),fun i=>Classical.choose_spec (Classical.choose_spec (each i))⟩
       obtain⟨f,g,hfg⟩:=hch
       have cell0:∃v,w.cell? a=some v:=by
        have:=(hfg 0 (by omega)).2 0 (by omega)
        have hg0:0<(g 0).length:=by rw[(hfg 0 (by omega)).1.len.2];exact h0
        rw[List.getElem?_eq_getElem hg0]at this
        simp only[Nat.zero_mul,Addr.add,if_true]at this
        exact⟨_,this⟩
       obtain⟨v0,hv0⟩:=cell0
       have hs:=G1m hv0
       obtain⟨b,off,s⟩:=a
       simp only at hs
       subst hs
       have hb:b<w.heap.size:=World.block_lt_of_cell? w _ hv0
       have hadd:∀k:Nat,(⟨b,off,none⟩:Addr).add k=⟨b,off+k,none⟩:=by intro k;unfold Addr.add;split<;>simp_all
       have hadd2:∀k j:Nat,((⟨b,off,none⟩:Addr).add k).add j=⟨b,off+k+j,none⟩:=by intro k j;rw[hadd];unfold Addr.add;split<;>simp_all
       let el:Nat→D:=fun i=>if us.length=1 then(f i).headD .nil else .agg (f i)
       have hcell:∀i,i<len→∀c t,us[c]?=some t→∃d v,(f i)[c]?=some d∧(g i)[c]?=some v∧cellOf us.length (el i) c=d∧Rd P w (fr w γ hc) t d v∧Wf P t d:=by
        intro i hi c t ht
        have hA:=(hfg i hi).1
        have hc':c<us.length:=(List.getElem?_eq_some_iff.1 ht).1
        have hf:c<(f i).length:=by rw[hA.len.1];exact hc'
        have hg:c<(g i).length:=by rw[hA.len.2];exact hc'
        refine⟨(f i)[c],(g i)[c],List.getElem?_eq_getElem hf,List.getElem?_eq_getElem hg,?_,hA.get c t _ _ ht (List.getElem?_eq_getElem hf) (List.getElem?_eq_getElem hg)⟩
        simp only[cellOf,el]
        by_cases h1:us.length=1
        ·obtain rfl:c=0:=by omega
         simp only[h1,if_true]
         rw[List.headD_eq_head?_getD,List.head?_eq_getElem?,List.getElem?_eq_getElem hf]
         rfl
        ·simp[h1,List.getElem?_eq_getElem hf]
       refine⟨[.agg ((List.range len).map el)],A7h.one ?_ ?_⟩
       ·refine Rd.slice (ts:=us) (g:=fun i c=>((g i)[c]?).getD .nilIface) rfl hus' (by simp) hlc hb ?_ ?_
        ·intro i c hi hcc
         simp only[D.A0f,List.length_map,List.length_range]at hi
         obtain⟨d,v,_,hv,_⟩:=hcell i hi c us[c] (List.getElem?_eq_getElem hcc)
         have:=(hfg i hi).2 c (by omega)
         rw[hadd2,←hl]at this
         rw[this,hv];rfl
        ·intro i c y t hy ht
         simp only[D.A0f,List.getElem?_map]at hy
         have hi:i<len:=by
          rcases Nat.lt_or_ge i len with h|h
          ·exact h
          ·rw[List.getElem?_eq_none (by simpa using h)]at hy;simp at hy
         rw[List.getElem?_range hi]at hy
         simp only[Option.map_some,Option.some.injEq]at hy
         subst hy
         obtain⟨d,v,_,hv,he,hr,_⟩:=hcell i hi c t ht
         rw[he,hv];exact hr
       ·refine .slice _ us rfl hus' (by simpa using hbl) ?_ ?_
        ·intro i y hy
         by_cases h1:us.length=1
         ·exact .inl h1
         ·right
          simp only[List.getElem?_map]at hy
          have hi:i<len:=by
           rcases Nat.lt_or_ge i len with h|h
           ·exact h
           ·rw[List.getElem?_eq_none (by simpa using h)]at hy;simp at hy
          rw[List.getElem?_range hi]at hy
          simp only[Option.map_some,Option.some.injEq,el,h1,if_false]at hy
          exact⟨f i,hy.symm,(hfg i hi).1.len.1⟩
        ·intro i y c t hy ht
         simp only[List.getElem?_map]at hy
         have hi:i<len:=by
          rcases Nat.lt_or_ge i len with h|h
          ·exact h
          ·rw[List.getElem?_eq_none (by simpa using h)]at hy;simp at hy
         rw[List.getElem?_range hi]at hy
         simp only[Option.map_some,Option.some.injEq]at hy
         subst hy
         obtain⟨d,v,_,hv,he,_,hw⟩:=hcell i hi c t ht
         rw[he];exact hw
    next=>simp at h
   next=>simp at h
  next fs hu=>
   split at h
   next us hus=>
    split at h
    next hl=>
     simp only[Option.some.injEq]at h;subst h
     obtain⟨xs,m,rfl,rfl,hcl,hxl,hf⟩:=DataW.trod_struct hu hx
     obtain⟨ds,hds⟩:=D6m (n:=m) (fun t ts cs x h1 h2 h3=>B8z n m t ts cs x h1 h2 h3) fs.toList 0 us hus (by
      intro f hff
      obtain⟨i,hi⟩:=List.getElem?_of_mem hff
      have:=hf i f (by simpa using hi)
      have hil:i<xs.length:=by rw[hxl];simpa using(List.getElem?_eq_some_iff.1 hi).1
      refine⟨xs[i],by rw[this,List.getElem?_eq_getElem hil],fun n hn=>hwt n ?_⟩
      simp only[DataW.weights,hu]
      exact DataW.weights_mem_each (j:=i) (t:=f.type) (d:=xs[i].1) (by simp[hi]) (by simp[List.getElem?_eq_getElem hil]) n hn)
     refine⟨ds,?_⟩
     rw[List.drop_zero,hl,←hcl,List.take_length]at hds
     exact hds
    next=>simp at h
   next=>simp at h
  next=>simp at h
theorem G4k{t:TypeId}{ts:List Ty}{v:Value}{d:DataW H}{p:List MemPlace}(ht:D0n P 8 t=some ts)(h:DataW.Trod enc P w 0 sp true t v d p)(hw:∀n ∈ d.weights P t,n≤reachBytes):∃ds,E1u P w (fr w γ hc) ts ds v.cells.toList∧C0b P ts ds:=by
 obtain⟨fuel,hf⟩:=h
 obtain⟨ds,hd⟩:=B8z (γ:=γ) (hc:=hc) _ _ _ _ _ _ ht hf hw
 exact⟨ds,hd.rd,hd.wf⟩
theorem G6e{t:TypeId}{u:Ty}{v:Value}{d:DataW H}{p:List MemPlace}(ht:D0n P 8 t=some [u])(hv:v.cells.toList=[v])(h:DataW.Trod enc P w 0 sp true t v d p)(hw:∀n ∈ d.weights P t,n≤reachBytes):∃d,Rd P w (fr w γ hc) u d v∧Wf P u d:=by
 obtain⟨fuel,hf⟩:=h
 obtain⟨ds,hd⟩:=B8z (γ:=γ) (hc:=hc) _ _ _ _ _ _ ht hf hw
 rw[hv]at hd
 obtain⟨d,_,c,_,rfl,hcc,h1,h2,_⟩:=hd
 simp only[List.cons.injEq]at hcc
 exact⟨d,hcc.1▸h1,h2⟩
end
section
variable{P:Program}
theorem Wf.toInt{k:IntKind}{d:D}(h:Wf P (.int k) d):∃n,d=.int n∧(Lit.int k n).wf=true:=by cases h with|int n h1 h2=>exact⟨n,h1,h2⟩
theorem Wf.toBool{d:D}(h:Wf P .bool d):∃b,d=.bool b:=by cases h with|bool b h1=>exact⟨b,h1⟩
theorem Wf.toStr{d:D}(h:Wf P .str d):∃s,d=.str s∧s.size≤reachBytes:=by cases h with|str s h1 h2=>exact⟨s,h1,h2⟩
theorem D8n{α:Type}{f:α→D}{Q:α→Prop}:∀{l:List D},(∀x ∈ l,∃a,x=f a∧Q a)→∃l':List α,l=l'.map f∧∀a ∈ l',Q a
 |[],_=>⟨[],rfl,by simp⟩
 |x::xs,h=>by
  obtain⟨a,rfl,ha⟩:=h x (by simp)
  obtain⟨l,rfl,hl⟩:=D8n (l:=xs) (fun y hy=>h y (by simp[hy]))
  exact⟨a::l,rfl,by simpa using⟨ha,hl⟩⟩
theorem Wf.rows{e:TypeId}{t:Ty}{d:D}{α:Type}{f:α→D}{Q:α→Prop}(he:A0n P e=some [t])(hf:∀x,Wf P t x→∃a,x=f a∧Q a)(h:Wf P (.slice e) d):∃l:List α,d=.agg (l.map f)∧l.length*P.bytesOf e≤reachBytes∧∀a ∈ l,Q a:=by
 cases h with
 |slice l ts h1 h2 h3 h4 h5=>
  rw[he,Option.some.injEq]at h2;subst h2
  obtain⟨l',rfl,hl⟩:=D8n (f:=f) (Q:=Q) (l:=l) (by
   intro x hx
   obtain⟨i,hi⟩:=List.getElem?_of_mem hx
   exact hf x (by simpa[cellOf]using h5 i x 0 t hi rfl))
  exact⟨l',h1,by simpa using h3,hl⟩
theorem C0b.of:∀{ts:List Ty} {ys:List D},ys.length=ts.length→(∀c t,ts[c]?=some t→Wf P t (ys.getD c .nil))→C0b P ts ys
 |[],ys,hl,_=>by simpa[C0b]using hl
 |t::ts,[],hl,_=>by simp at hl
 |t::ts,y::ys,hl,h=>⟨y,ys,rfl,by simpa using h 0 t rfl,C0b.of (by simpa using hl) (fun c t ht=>by simpa using h (c+1) t (by simpa using ht))⟩
theorem Wf.structs{e:TypeId}{ts:List Ty}{d:D}{α:Type}{f:α→D}{Q:α→Prop}(he:A0n P e=some ts)(hn:ts.length≠1)(hf:∀ys,C0b P ts ys→∃a,D.agg ys=f a∧Q a)(h:Wf P (.slice e) d):∃l:List α,d=.agg (l.map f)∧l.length*P.bytesOf e≤reachBytes∧∀a ∈ l,Q a:=by
 cases h with
 |slice l ts' h1 h2 h3 h4 h5=>
  rw[he,Option.some.injEq]at h2;subst h2
  obtain⟨l',rfl,hl⟩:=D8n (f:=f) (Q:=Q) (l:=l) (by
   intro x hx
   obtain⟨i,hi⟩:=List.getElem?_of_mem hx
   rcases h4 i x hi with h|⟨ys,rfl,hy⟩
   ·exact absurd h hn
   ·exact hf ys (C0b.of hy (fun c t ht=>by simpa[cellOf,hn]using h5 i _ c t hi ht)))
  exact⟨l',h1,by simpa using h3,hl⟩
end
end Go.Proofs.YtglhnofjggpdjaaGreat.Open
