import Derived.Test.YtglhnofjggpdjaaGreatOuts
import Derived.Test.YtglhnofjggpdjaaGreatEngX
import Derived.KernelRfl
import Derived.Test.YtglhnofjggpdjaaGreatPoolN
import Derived.Test.YtglhnofjggpdjaaGreatOpenS
import Derived.Test.YtglhnofjggpdjaaGreatProg
namespace Go.Proofs.YtglhnofjggpdjaaGreat.P
open Go.RowKit Go.Proofs.YtglhnofjggpdjaaGreat.Eng Go.Proofs.YtglhnofjggpdjaaGreat Go.Proofs.YtglhnofjggpdjaaGreat.Dat Go.Proofs.YtglhnofjggpdjaaGreat.FDat
set_option linter.unusedVariables false
set_option linter.unusedSimpArgs false
set_option linter.unusedSectionVars false
section
structure SQ(W K:Int→Int)(P:A0o)(i:Nat)(x:A1e):Prop where
 q:∀q ∈ x.queue,(0≤q.ev∧q.ev<P.events)∧W q.ev=i∧K q.ev=1∧(x.now.isSome=true→x.ev<q.ev)
 srt:x.queue.Pairwise (fun a b=>a.ev<b.ev)
 n:x.now.isSome=true→(0≤x.ev∧x.ev<P.events)∧W x.ev=i∧K x.ev=1
 o:∀o ∈ P.outs,o.part=i→(x.now.isSome=true→o.ev<x.ev)∧∀q ∈ x.queue,o.ev<q.ev
 t:∀d ∈ x.tape,K d.ev=4∧0≤d.ev∧d.ev<P.events
structure QI(W K:Int→Int)(P:A0o):Prop where
 s:∀(i:Nat) x,P.A0e[i]?=some x→SQ W K P i x
 o:∀o ∈ P.outs,(0≤o.ev∧o.ev<P.events)∧W o.ev=o.part∧K o.ev=1
variable{W K:Int→Int}
theorem SQ.mono{P P':A0o}{i:Nat}{x:A1e}(h:SQ W K P i x)(ho:P'.outs=P.outs)(he:P.events≤P'.events):SQ W K P' i x:=
 ⟨fun q hq=>by have:=h.q q hq;exact⟨⟨this.1.1,by omega⟩,this.2⟩,h.srt,fun a=>by have:=h.n a;exact⟨⟨this.1.1,by omega⟩,this.2⟩,by rw[ho];exact h.o,fun d hd=>by have:=h.t d hd;exact⟨this.1,this.2.1,by omega⟩⟩
theorem QI.mono{P P':A0o}(h:QI W K P)(hs:P'.A0e=P.A0e)(ho:P'.outs=P.outs)(he:P.events≤P'.events):QI W K P':=
 ⟨fun i x hx=>by rw[hs]at hx;exact(h.s i x hx).mono ho he,fun o hx=>by rw[ho]at hx;have:=h.o o hx;exact⟨⟨this.1.1,by omega⟩,this.2⟩⟩
structure BegQ(W K:Int→Int)(P:A0o)(i:Nat)(x1:A1e):Prop where
 ev:(0≤x1.ev∧x1.ev<P.events)∧W x1.ev=i∧K x1.ev=1
 q:∀q ∈ x1.queue,((0≤q.ev∧q.ev<P.events)∧W q.ev=i∧K q.ev=1)∧x1.ev<q.ev
 srt:x1.queue.Pairwise (fun a b=>a.ev<b.ev)
 o:∀o ∈ P.outs,o.part=i→o.ev<x1.ev∧∀q ∈ x1.queue,o.ev<q.ev
theorem Beg.q{P:A0o}{i:Nat}{x x1:A1e}{pr:PrS}{o:Option A0a}(b:Beg x x1 pr o)(h:SQ W K P i x):BegQ W K P i x1:=by
 rcases b.c with⟨rfl,hn⟩|⟨hn,q,hq,he,_⟩
 ·have sm:x1.now.isSome=true:=by rw[hn];rfl
  exact⟨h.n sm,fun q hq=>by have:=h.q q hq;exact⟨⟨this.1,this.2.1,this.2.2.1⟩,this.2.2.2 sm⟩,h.srt,fun o ho hp=>⟨(h.o o ho hp).1 sm,(h.o o ho hp).2⟩⟩
 ·have s:=h.srt
  rw[hq]at s
  obtain⟨s1,s2⟩:=List.pairwise_cons.1 s
  have m:∀z,z ∈ q::x1.queue→z ∈ x.queue:=fun z hz=>by rw[hq];exact hz
  have hh:=h.q q (m q (List.mem_cons_self ..))
  refine⟨by rw[he];exact⟨hh.1,hh.2.1,hh.2.2.1⟩,fun z hz=>?_,s2,fun o ho hp=>⟨by rw[he];exact(h.o o ho hp).2 q (m q (List.mem_cons_self ..)),fun z hz=>(h.o o ho hp).2 z (m z (List.mem_cons_of_mem _ hz))⟩⟩
  have:=h.q z (m z (List.mem_cons_of_mem _ hz))
  exact⟨⟨this.1,this.2.1,this.2.2.1⟩,by rw[he];exact s1 z hz⟩
section
variable{P P':A0o}{i:Nat}{x x1 x':A1e}{pr:PrS}{o:Option A0a}{R:StA}(hx:P.A0e[i]?=some x)(b:Beg x x1 pr o)(d:A5f P P' i x1 R x')(hp:R.se.part=i)
include hx b d hp
theorem QI.step(Q:QI W K P):QI W K P':=by
 have B:=b.q (Q.s i x hx)
 have hev:=d.ev
 refine⟨fun j y hy=>?_,fun z hz=>?_⟩
 ·rw[d.A0e]at hy
  rcases A4z hy with⟨rfl,rfl⟩|⟨hj,hy⟩
  ·have ht:=(Q.s j x hx).t
   rcases d.c with⟨_,hn,he,ho⟩|⟨r,_,hn,ho⟩
   ·refine⟨fun q hq=>?_,by rw[d.queue];exact B.srt,fun _=>by rw[he,hev];exact B.ev,fun z hz hpz=>?_,by rw[d.tape,b.tape,hev];exact ht⟩
    ·rw[d.queue]at hq
     have:=B.q q hq
     rw[hev,he]
     exact⟨this.1.1,this.1.2.1,this.1.2.2,fun _=>this.2⟩
    ·rw[ho]at hz;rw[he,d.queue]
     exact⟨fun _=>(B.o z hz hpz).1,(B.o z hz hpz).2⟩
   ·have no:¬y.now.isSome=true:=by rw[hn];decide
    refine⟨fun q hq=>?_,by rw[d.queue];exact B.srt,fun a=>absurd a no,fun z hz hpz=>⟨fun a=>absurd a no,?_⟩,by rw[d.tape,b.tape,hev];exact ht⟩
    ·rw[d.queue]at hq
     have:=B.q q hq
     rw[hev]
     exact⟨this.1.1,this.1.2.1,this.1.2.2,fun a=>absurd a no⟩
    ·rw[d.queue]
     rw[ho,List.mem_append]at hz
     rcases hz with hz|hz
     ·exact(B.o z hz hpz).2
     ·rw[List.mem_singleton]at hz
      subst hz
      exact fun q hq=>(B.q q hq).2
  ·have h:=Q.s j y hy
   rcases d.c with⟨_,hn,he,ho⟩|⟨r,_,hn,ho⟩
   ·exact h.mono ho (by omega)
   ·refine⟨by rw[hev];exact h.q,h.srt,by rw[hev];exact h.n,fun z hz hpz=>?_,by rw[hev];exact h.t⟩
    rw[ho,List.mem_append]at hz
    rcases hz with hz|hz
    ·exact h.o z hz hpz
    ·rw[List.mem_singleton]at hz
     subst hz
     have hpz:R.se.part=(j:Int):=hpz
     omega
 ·rcases d.c with⟨_,hn,he,ho⟩|⟨r,_,hn,ho⟩
  ·rw[ho]at hz;rw[hev];exact Q.o z hz
  ·rw[ho,List.mem_append]at hz
   rcases hz with hz|hz
   ·rw[hev];exact Q.o z hz
   ·rw[List.mem_singleton]at hz
    subst hz
    rw[hev,hp];exact B.ev
end
def B8f(o:Out):Prop:=o.r.kind=1∧o.r.code=0
structure LS(P:A0o)(i:Nat)(x:A1e):Prop where
 l0:0≤x.se.last
 l1:∀o ∈ P.outs,o.part=i→B8f o→o.r.id≤x.se.last
 l2:∀pr o,x.now=some (pr,o)→pr.a.kind=1→1≤pr.pc→pr.pc<4→x.se.last<pr.a.id
 l3:∀pr o,x.now=some (pr,o)→pr.a.kind=1→4≤pr.pc→x.se.last=pr.a.id∧0<pr.a.id∧∀o ∈ P.outs,o.part=i→B8f o→o.r.id<pr.a.id
structure LI(P:A0o):Prop where
 s:∀(i:Nat) x,P.A0e[i]?=some x→LS P i x
 pw:P.outs.Pairwise (fun a b=>a.part=b.part→B8f a→B8f b→a.r.id<b.r.id)
 pos:∀o ∈ P.outs,B8f o→0<o.r.id
theorem LI.same{P P':A0o}(h:LI P)(ho:P'.outs=P.outs)(hs:∀(i:Nat) x,P'.A0e[i]?=some x→∃y,P.A0e[i]?=some y∧y.se=x.se∧y.now=x.now):LI P':=by
 refine⟨fun i x hx=>?_,by rw[ho];exact h.pw,by rw[ho];exact h.pos⟩
 obtain⟨y,k1,k2,k3⟩:=hs i x hx
 have:=h.s i y k1
 exact⟨by rw[←k2];exact this.l0,by rw[ho,←k2];exact this.l1,by rw[←k2,←k3];exact this.l2,by rw[ho,←k2,←k3];exact this.l3⟩
section
variable{P P':A0o}{i:Nat}{x x1 x':A1e}{pr:PrS}{o:Option A0a}{R:StA}{ss:A0g}{po:A0c}(hx:P.A0e[i]?=some x)(b:Beg x x1 pr o)(d:A5f P P' i x1 R x')(hp:R.se.part=i)(a:E3y pr x1.se ss po P.S R)(h0:0≤pr.pc)
include hx b d hp a h0
theorem LI.step(h:LI P):LI P':=by
 have L:=h.s i x hx
 have l2:pr.a.kind=1→1≤pr.pc→pr.pc<4→x.se.last<pr.a.id:=by
  rcases b.c with⟨_,hn⟩|⟨_,q,_,_,e,_⟩
  ·exact L.l2 pr o hn
  ·rw[e];intro _ z;exact absurd z (show ¬(1:Int)≤0 by decide)
 have l3:pr.a.kind=1→4≤pr.pc→x.se.last=pr.a.id∧0<pr.a.id∧∀o ∈ P.outs,o.part=i→B8f o→o.r.id<pr.a.id:=by
  rcases b.c with⟨_,hn⟩|⟨_,q,_,_,e,_⟩
  ·exact L.l3 pr o hn
  ·rw[e];intro _ z;exact absurd z (show ¬(4:Int)≤0 by decide)
 have hl:=a.l
 rw[b.se]at hl
 have ge:x.se.last≤R.se.last:=by
  rw[hl];split
  ·rename_i q;have:=l2 q.1 (by omega) (by omega);omega
  ·exact Int.le_refl _
 have l0:=L.l0
 rcases d.c with⟨hr,hn,he,ho⟩|⟨r,hr,hn,ho⟩
 ·refine⟨fun j y hy=>?_,by rw[ho];exact h.pw,by rw[ho];exact h.pos⟩
  rw[d.A0e]at hy
  rcases A4z hy with⟨rfl,rfl⟩|⟨hj,hy⟩
  ·obtain⟨n1,n2⟩:=a.n hr
   rw[b.se]at n2
   refine⟨by rw[d.se];omega,fun z hz hpz gz=>?_,fun pr' o' e k p1 p4=>?_,fun pr' o' e k p4=>?_⟩
   ·rw[ho]at hz;rw[d.se]
    have:=L.l1 z hz hpz gz;omega
   ·rw[hn]at e;cases e
    rw[n1]at k⊢
    obtain⟨m1,m2,m3⟩:=n2 k
    rw[d.se,hl,if_neg (fun q=>by have:=m1 (by omega);omega)]
    by_cases q:pr.pc=0
    ·exact m3 q
    ·by_cases q4:pr.pc<4
     ·exact l2 k (by omega) q4
     ·have:=m2 (by omega);omega
   ·rw[hn]at e;cases e
    rw[n1]at k⊢
    obtain⟨m1,m2,m3⟩:=n2 k
    rw[d.se,ho]
    by_cases q4:pr.pc<4
    ·have h3:pr.pc=3:=by have:=m1 q4;omega
     have hlt:=l2 k (by omega) q4
     rw[hl,if_pos ⟨k,h3⟩]
     exact⟨rfl,by omega,fun z hz hpz gz=>by have:=L.l1 z hz hpz gz;omega⟩
    ·rw[hl,if_neg (by omega)]
     exact l3 k (by omega)
  ·have:=h.s j y hy
   exact⟨this.l0,by rw[ho];exact this.l1,this.l2,by rw[ho];exact this.l3⟩
 ·obtain⟨r1,r2,r3⟩:=a.r r hr
  have gd:B8f ⟨R.se.part,x1.ev,r⟩→pr.a.kind=1∧4≤pr.pc:=fun g=>by
   have g1:r.kind=1:=g.1
   have g2:r.code=0:=g.2
   have k:pr.a.kind=1:=by rw[←r1];exact g1
   rcases r3 k with q|q
   ·exact absurd g2 q.2
   ·exact⟨k,q.1⟩
  refine⟨fun j y hy=>?_,?_,fun z hz gz=>?_⟩
  ·rw[d.A0e]at hy
   rcases A4z hy with⟨rfl,rfl⟩|⟨hj,hy⟩
   ·refine⟨by rw[d.se];omega,fun z hz hpz gz=>?_,fun pr' o' e=>(by rw[hn]at e;cases e),fun pr' o' e=>(by rw[hn]at e;cases e)⟩
    rw[d.se]
    rw[ho,List.mem_append]at hz
    rcases hz with hz|hz
    ·have:=L.l1 z hz hpz gz;omega
    ·rw[List.mem_singleton]at hz
     subst hz
     obtain⟨k,k4⟩:=gd gz
     have:=(l3 k k4).1
     show r.id≤_
     rw[r2];omega
   ·have:=h.s j y hy
    have sub:∀z ∈ P'.outs,z.part=(j:Int)→z ∈ P.outs:=fun z hz hpz=>by
     rw[ho,List.mem_append]at hz
     rcases hz with hz|hz
     ·exact hz
     ·rw[List.mem_singleton]at hz
      subst hz
      have hpz:R.se.part=(j:Int):=hpz
      omega
    exact⟨this.l0,fun z hz hpz=>this.l1 z (sub z hz hpz) hpz,this.l2,fun pr' o' e k p4=>by
     obtain⟨t1,t2,t3⟩:=this.l3 pr' o' e k p4
     exact⟨t1,t2,fun z hz hpz=>t3 z (sub z hz hpz) hpz⟩⟩
  ·rw[ho,List.pairwise_append]
   refine⟨h.pw,List.pairwise_singleton _ _,fun z hz y hy e gz gy=>?_⟩
   rw[List.mem_singleton]at hy
   subst hy
   obtain⟨k,k4⟩:=gd gy
   have e:z.part=R.se.part:=e
   show z.r.id<r.id
   rw[r2]
   exact(l3 k k4).2.2 z hz (by rw[e];exact hp) gz
  ·rw[ho,List.mem_append]at hz
   rcases hz with hz|hz
   ·exact h.pos z hz gz
   ·rw[List.mem_singleton]at hz
    subst hz
    obtain⟨k,k4⟩:=gd gz
    show 0<r.id
    rw[r2];exact(l3 k k4).2.1
end
structure A8c(P:A0o)(v:Int):Prop where
 lt:v<P.events
 o:∀o ∈ P.outs,o.ev=v→¬(o.r.kind=1∧o.r.code≠0)
 q:∀(i:Nat) x,P.A0e[i]?=some x→∀q ∈ x.queue,q.ev≠v
 n:∀(i:Nat) x pr o,P.A0e[i]?=some x→x.now=some (pr,o)→x.ev=v→pr.a.kind≠1∨2≤pr.pc
theorem A8c.mono{P P':A0o}{v:Int}(h:A8c P v)(hs:P'.A0e=P.A0e)(ho:P'.outs=P.outs)(he:P.events≤P'.events):A8c P' v:=
 ⟨by have:=h.lt;omega,by rw[ho];exact h.o,by rw[hs];exact h.q,by rw[hs];exact h.n⟩
section
variable{P P':A0o}{i:Nat}{x x1 x':A1e}{pr:PrS}{o:Option A0a}{R:StA}{ss:A0g}{po:A0c}(hx:P.A0e[i]?=some x)(b:Beg x x1 pr o)(d:A5f P P' i x1 R x')(hp:R.se.part=i)(a:E3y pr x1.se ss po P.S R)(h0:0≤pr.pc)
include hx b d hp a h0
theorem A8c.step{v:Int}(h:A8c P v):A8c P' v:=by
 have hev:=d.ev
 have k:x1.ev=v→pr.a.kind≠1∨2≤pr.pc:=fun e=>by
  rcases b.c with⟨rfl,hn⟩|⟨_,q,hq,he,_⟩
  ·exact h.n i x1 pr o hx hn e
  ·exact absurd (by rw[←he];exact e) (h.q i x hx q (by rw[hq];exact List.mem_cons_self ..))
 have qs:∀q ∈ x1.queue,q ∈ x.queue:=fun q hq=>by
  rcases b.c with⟨rfl,_⟩|⟨_,z,hz,_⟩
  ·exact hq
  ·rw[hz];exact List.mem_cons_of_mem _ hq
 refine⟨by rw[hev];exact h.lt,fun z hz e=>?_,fun j y hy q hq=>?_,fun j y pr' o' hy hn e=>?_⟩
 ·rcases d.c with⟨_,_,_,ho⟩|⟨r,hr,_,ho⟩
  ·rw[ho]at hz;exact h.o z hz e
  ·rw[ho,List.mem_append]at hz
   rcases hz with hz|hz
   ·exact h.o z hz e
   ·rw[List.mem_singleton]at hz
    subst hz
    obtain⟨r1,r2,r3⟩:=a.r r hr
    rintro⟨z1,z2⟩
    have z1:r.kind=1:=z1
    have kk:pr.a.kind=1:=by rw[←r1];exact z1
    rcases k e with q|q
    ·exact q kk
    ·rcases r3 kk with w|w
     ·omega
     ·exact z2 w.2
 ·rw[d.A0e]at hy
  rcases A4z hy with⟨rfl,rfl⟩|⟨hj,hy⟩
  ·rw[d.queue]at hq;exact h.q j x hx q (qs q hq)
  ·exact h.q j y hy q hq
 ·rw[d.A0e]at hy
  rcases A4z hy with⟨rfl,rfl⟩|⟨hj,hy⟩
  ·rcases d.c with⟨hr,hn',he,_⟩|⟨r,_,hn',_⟩
   ·rw[hn']at hn;cases hn
    obtain⟨n1,n2⟩:=a.n hr
    rw[n1]
    rcases k (by rw[←he];exact e)with q|q
    ·exact .inl q
    ·by_cases kk:pr.a.kind=1
     ·obtain⟨m1,m2,_⟩:=n2 kk
      right
      by_cases q4:pr.pc<4
      ·rw[m1 q4];omega
      ·rw[m2 (by omega)];omega
     ·exact .inl kk
   ·rw[hn']at hn;cases hn
  ·exact h.n j y pr' o' hy hn e
theorem A8c.made(Q:QI W K P)(c:(R.r=none→pr.a.kind≠1∨2≤R.pr.pc)∧∀r,R.r=some r→¬(r.kind=1∧r.code≠0)):A8c P' x1.ev:=by
 have B:=b.q (Q.s i x hx)
 have hev:=d.ev
 refine⟨by rw[hev];exact B.ev.1.2,fun z hz e=>?_,fun j y hy q hq e=>?_,fun j y pr' o' hy hn e=>?_⟩
 ·have old:∀z ∈ P.outs,z.ev=x1.ev→False:=fun z hz e=>by
   have w:=(Q.o z hz).2.1
   rw[e,B.ev.2.1]at w
   have:=(B.o z hz w.symm).1
   omega
  rcases d.c with⟨_,_,_,ho⟩|⟨r,hr,_,ho⟩
  ·rw[ho]at hz;exact(old z hz e).elim
  ·rw[ho,List.mem_append]at hz
   rcases hz with hz|hz
   ·exact(old z hz e).elim
   ·rw[List.mem_singleton]at hz
    subst hz
    exact c.2 r hr
 ·rw[d.A0e]at hy
  rcases A4z hy with⟨rfl,rfl⟩|⟨hj,hy⟩
  ·rw[d.queue]at hq
   have:=(B.q q hq).2;omega
  ·have w:=((Q.s j y hy).q q hq).2.1
   rw[e,B.ev.2.1]at w;omega
 ·rw[d.A0e]at hy
  rcases A4z hy with⟨rfl,rfl⟩|⟨hj,hy⟩
  ·rcases d.c with⟨hr,hn',he,_⟩|⟨r,_,hn',_⟩
   ·rw[hn']at hn;cases hn
    rw[(a.n hr).1];exact c.1 hr
   ·rw[hn']at hn;cases hn
  ·have w:=((Q.s j y hy).n (by rw[hn];rfl)).2.1
   rw[e,B.ev.2.1]at w;omega
end
end
section
variable{W K:Int→Int}
structure F9h(P P':A0o)(i:Nat)(x x1:A1e)(pr:PrS)(o:Option A0a)(x':A1e):Prop where
 b:Beg x x1 pr o
 d:A5f P P' i x1 (A2z pr o x1.se x1.nl (P.use x1.ev).nl P.S) x'
 hp:(A2z pr o x1.se x1.nl (P.use x1.ev).nl P.S).se.part=i
 a:E3y pr x1.se x1.nl (P.use x1.ev).nl P.S (A2z pr o x1.se x1.nl (P.use x1.ev).nl P.S)
 h0:0≤pr.pc
theorem E5x{P:A0o}{n i:Nat}{x:A1e}(ok:A4c P n)(I:PI P)(hx:P.A0e[i]?=some x):((A2t P i x).2=P∧x.now=none∧x.queue=[])∨∃x1 pr o x',F9h P (A2t P i x).2 i x x1 pr o x':=by
 rcases F8n P i x with h|⟨x1,pr,o,b,e⟩
 ·exact .inl h
 ·obtain⟨x',d⟩:=E2s P i x1 pr o
  have h0:0≤pr.pc:=by
   rcases b.c with⟨_,hn⟩|⟨_,q,_,_,e,_⟩
   ·exact((ok.A0e x (List.mem_of_getElem? hx)).prog pr o hn).pc.1
   ·rw[e];exact Int.le_refl _
  exact .inr ⟨x1,pr,o,x',b,by rw[e];exact d,by rw[E0h,b.se];exact I.part i x hx,H1p _ _ _ _ _ _ h0,h0⟩
structure UF(K:Int→Int)(P:A0o):Prop where
 f:∀(j:Nat) v,K j=4→P.A0i[j]?=some v→v=-1∨A8c P v
structure DoQ(W K:Int→Int)(P P':A0o):Prop where
 q:QI W K P'
 l:LI P'
 f:∀v,A8c P v→A8c P' v
 u:∀j,j<P.A0i.length→K (j:Nat)≠4→P'.A0i[j]?=P.A0i[j]?
 uf:UF K P'
theorem do_q{P:A0o}{n:Nat}(at_:A4p P n)(I:PI P)(Q:QI W K P)(L:LI P)(U:UF K P)(e:PEv)(hW:W n=e.who)(hK:K n=e.kind):
  DoQ W K P (doP P e).2∧(e.kind≠3→(doP P e).2.A0i[n]?=some (-1)):=by
 have ok:=at_.ok
 have hev:=at_.ev
 have hus:=at_.us
 have un:(P.A0i++[-1])[n]?=some (-1):=by rw[List.getElem?_append_right (by omega),hus];simp
 have uo:∀j,j<P.A0i.length→(P.A0i++[-1])[j]?=P.A0i[j]?:=fun j hj=>List.getElem?_append_left hj
 have plain:∀P':A0o,P'.A0e=P.A0e→P'.outs=P.outs→P'.events=P.events+1→P'.A0i=P.A0i++[-1]→DoQ W K P P':=by
  intro P' h1 h2 h3 h4
  refine⟨Q.mono h1 h2 (by omega),L.same h2 (fun i x hx=>⟨x,by rw[←h1];exact hx,rfl,rfl⟩),fun v hv=>hv.mono h1 h2 (by omega),fun j hj _=>by rw[h4];exact uo j hj,⟨fun j v hk hv=>?_⟩⟩
  rw[h4]at hv
  by_cases hj:j<P.A0i.length
  ·rw[uo j hj]at hv
   exact(U.f j v hk hv).imp id fun q=>q.mono h1 h2 (by omega)
  ·rw[List.getElem?_append_right (by omega)]at hv
   cases hz:j-P.A0i.length with
   |zero=>rw[hz]at hv;simp at hv;exact .inl hv.symm
   |succ z=>rw[hz]at hv;simp at hv
 unfold doP
 split
 ·exact⟨plain _ rfl rfl rfl rfl,fun _=>un⟩
 split
 ·rename_i _ k3
  refine⟨?_,fun q=>absurd k3 q⟩
  have I':PI P.got:=I.same ok.S.c ok.re (A1z.refl _) (fun _=>rfl) rfl rfl
  unfold A3d
  split
  ·exact plain _ rfl rfl rfl rfl
  split
  ·split
   ·rename_i x hx
    rcases E5x (B6s ok) I' hx with⟨h,_,_⟩|⟨x1,pr,o,x',D⟩
    ·rw[h];exact plain _ rfl rfl rfl rfl
    ·generalize (A2t P.got e.who.toNat x).2=P1 at D
     obtain⟨b,d,hp,a,h0⟩:=D
     have Qg:QI W K P.got:=Q.mono rfl rfl (Int.le_refl _)
     have Lg:LI P.got:=L.same rfl fun i x hx=>⟨x,hx,rfl,rfl⟩
     have fg:∀v,A8c P v→A8c P1.on v:=fun v hv=>((hv.mono (P':=P.got) rfl rfl (Int.le_refl _)).step hx b d hp a h0).mono rfl rfl (by show P1.events≤P1.events+1;omega)
     have e1:(P.got.use x1.ev).A0i=(P.A0i++[-1]).set n x1.ev:=by
      show(P.A0i++[-1]).set P.events.toNat x1.ev=_
      rw[hev,Int.toNat_natCast]
     have hu:=a.u
     have ht:=(Qg.s _ x hx).t
     have tk:x1.nl.taken≠(x1.nl.tape.length:Int)→(atT x1.nl.tape x1.nl.taken) ∈ x.tape:=by
      intro q
      have so:=(B6s ok).A0e x (List.mem_of_getElem? hx)
      have t1:=so.taken
      have q:x1.taken≠(x1.tape.length:Int):=q
      rw[b.taken,b.tape]at q
      show x1.tape.getD x1.taken.toNat ⟨0,0⟩ ∈ x.tape
      rw[b.tape,b.taken,List.getD_eq_getElem?_getD,List.getElem?_eq_getElem (by omega)]
      exact List.getElem_mem _
     have old:∀j,j<P.A0i.length→∀z,((P.A0i++[-1]).set n z)[j]?=P.A0i[j]?:=fun j hj z=>by rw[B8l _ _ (by omega)];exact uo j hj
     refine⟨(Qg.step hx b d hp).mono rfl rfl (by show P1.events≤P1.events+1;omega),(Lg.step hx b d hp a h0).same rfl fun i x hx=>⟨x,hx,rfl,rfl⟩,fg,fun j hj hk=>?_,⟨fun j v hk hv=>?_⟩⟩
     ·show P1.A0i[j]?=_
      rw[d.A0i]
      rcases hu with hu|⟨_,_,q,hu⟩
      ·rw[hu]
       show(P.got.use x1.ev).A0i[j]?=_
       rw[e1];exact old j hj _
      ·rw[hu]
       have:=ht _ (tk q)
       rw[B8l _ _ (fun z=>hk (by rw[z,Int.toNat_of_nonneg this.2.1];exact this.1))]
       show(P.got.use x1.ev).A0i[j]?=_
       rw[e1];exact old j hj _
     ·have hv:P1.A0i[j]?=some v:=hv
      rw[d.A0i]at hv
      have base:((P.A0i++[-1]).set n x1.ev)[j]?=some v→v=-1∨A8c P1.on v:=by
       intro hv
       by_cases hj:j<P.A0i.length
       ·rw[old j hj]at hv
        exact(U.f j v hk hv).imp id (fg v)
       ·rcases A4z hv with⟨q,_⟩|⟨q,hv⟩
        ·rw[q,hK,k3]at hk;exact absurd hk (by decide)
        ·rw[List.getElem?_eq_none (by simp;omega)]at hv;cases hv
      rcases hu with hu|⟨kk,k4,q,hu⟩
      ·rw[hu]at hv
       exact base (by rw[←e1];exact hv)
      ·rw[hu]at hv
       rcases A4z hv with⟨_,q⟩|⟨_,hv⟩
       ·right
        rw[q]
        refine((A8c.made hx b d hp a h0 Qg ⟨fun hr=>.inr ?_,fun r hr=>?_⟩).mono rfl rfl (by show P1.events≤P1.events+1;omega):A8c P1.on x1.ev)
        ·rw[((a.n hr).2 kk).2.1 k4];omega
        ·rintro⟨_,z2⟩
         rcases(a.r r hr).2.2 kk with w|w
         ·omega
         ·exact z2 w.2
       ·exact base (by rw[←e1];exact hv)
   ·exact plain _ rfl rfl rfl rfl
  split
  ·split
   ·exact plain _ rfl rfl rfl rfl
   ·exact plain _ rfl rfl rfl rfl
  ·split
   ·exact plain _ rfl rfl rfl rfl
   ·exact plain _ rfl rfl rfl rfl
 have line:∀(i:Nat) (x x':A1e) (P':A0o),(i:Int)=e.who→P.A0e[i]?=some x→P'.A0e=P.A0e.set i x'→P'.outs=P.outs→P'.events=P.events+1→P'.A0i=P.A0i++[-1]→x'.se=x.se→x'.now=x.now→x'.ev=x.ev→
   ((x'.tape=x.tape∧e.kind=1∧∃a,x'.queue=x.queue++[⟨a,P.events⟩])∨(x'.queue=x.queue∧e.kind=4∧∃z,x'.tape=x.tape++[⟨z,P.events⟩]))→DoQ W K P P':=by
  intro i x x' P' hi hx h1 h2 h3 h4 s1 s2 s3 c
  have S:=Q.s i x hx
  have ff:∀v,A8c P v→A8c P' v:=by
   intro v hv
   refine⟨by have:=hv.lt;omega,by rw[h2];exact hv.o,fun j y hy q hq=>?_,fun j y pr o hy hn he=>?_⟩
   ·rw[h1]at hy
    rcases A4z hy with⟨rfl,rfl⟩|⟨_,hy⟩
    ·rcases c with⟨_,_,a,c⟩|⟨c,_⟩
     ·rw[c,List.mem_append]at hq
      rcases hq with hq|hq
      ·exact hv.q j x hx q hq
      ·rw[List.mem_singleton]at hq
       subst hq
       have:=hv.lt
       show P.events≠v
       omega
     ·rw[c]at hq;exact hv.q j x hx q hq
    ·exact hv.q j y hy q hq
   ·rw[h1]at hy
    rcases A4z hy with⟨rfl,rfl⟩|⟨_,hy⟩
    ·rw[s2]at hn;rw[s3]at he;exact hv.n j x pr o hx hn he
    ·exact hv.n j y pr o hy hn he
  refine⟨⟨fun j y hy=>?_,fun z hz=>?_⟩,L.same h2 fun j y hy=>?_,ff,fun j hj _=>by rw[h4];exact uo j hj,⟨fun j v hk hv=>?_⟩⟩
  ·rw[h1]at hy
   rcases A4z hy with⟨rfl,rfl⟩|⟨_,hy⟩
   ·have M:=S.mono (P':=P') h2 (by omega)
    have ho:∀o ∈ P.outs,o.ev<P.events:=fun o h=>(Q.o o h).1.2
    rcases c with⟨c1,c2,a,c3⟩|⟨c1,c2,z,c3⟩
    ·refine⟨fun q hq=>?_,?_,by rw[s2,s3];exact M.n,fun o ho' hpo=>?_,by rw[c1];exact M.t⟩
     ·rw[s2,s3]
      rw[c3,List.mem_append]at hq
      rcases hq with hq|hq
      ·exact M.q q hq
      ·rw[List.mem_singleton]at hq
       subst hq
       refine⟨⟨by show 0≤P.events;omega,by show P.events<P'.events;omega⟩,by show W P.events=_;rw[hev,hW,hi],by show K P.events=1;rw[hev,hK];exact c2,fun sm=>(S.n sm).1.2⟩
     ·rw[c3,List.pairwise_append]
      refine⟨S.srt,List.pairwise_singleton _ _,fun q hq z hz=>?_⟩
      rw[List.mem_singleton]at hz
      subst hz
      exact(S.q q hq).1.2
     ·rw[s2,s3,c3]
      rw[h2]at ho'
      refine⟨(S.o o ho' hpo).1,fun q hq=>?_⟩
      rw[List.mem_append]at hq
      rcases hq with hq|hq
      ·exact(S.o o ho' hpo).2 q hq
      ·rw[List.mem_singleton]at hq
       subst hq
       exact ho o ho'
    ·refine⟨by rw[c1,s2,s3];exact M.q,by rw[c1];exact M.srt,by rw[s2,s3];exact M.n,by rw[c1,s2,s3];exact M.o,fun d hd=>?_⟩
     rw[c3,List.mem_append]at hd
     rcases hd with hd|hd
     ·exact M.t d hd
     ·rw[List.mem_singleton]at hd
      subst hd
      exact⟨by show K P.events=4;rw[hev,hK];exact c2,by show 0≤P.events;omega,by show P.events<P'.events;omega⟩
   ·exact(Q.s j y hy).mono h2 (by omega)
  ·rw[h2]at hz
   have:=Q.o z hz
   exact⟨⟨this.1.1,by omega⟩,this.2⟩
  ·rw[h1]at hy
   rcases A4z hy with⟨rfl,rfl⟩|⟨_,hy⟩
   ·exact⟨x,hx,s1.symm,s2.symm⟩
   ·exact⟨y,hy,rfl,rfl⟩
  ·rw[h4]at hv
   by_cases hj:j<P.A0i.length
   ·rw[uo j hj]at hv
    exact(U.f j v hk hv).imp id (ff v)
   ·rw[List.getElem?_append_right (by omega)]at hv
    cases hz:j-P.A0i.length with
    |zero=>rw[hz]at hv;simp at hv;exact .inl hv.symm
    |succ z=>rw[hz]at hv;simp at hv
 split
 ·rename_i hw
  split
  ·rename_i k1
   split
   ·rename_i x hx
    exact⟨line e.who.toNat x _ _ (by omega) hx rfl rfl rfl rfl rfl rfl rfl (.inl ⟨rfl,k1,e.ask,rfl⟩),fun _=>un⟩
   ·exact⟨plain _ rfl rfl rfl rfl,fun _=>un⟩
  split
  ·rename_i k4
   split
   ·rename_i x hx
    exact⟨line e.who.toNat x _ _ (by omega) hx rfl rfl rfl rfl rfl rfl rfl (.inr ⟨rfl,k4,_,rfl⟩),fun _=>un⟩
   ·exact⟨plain _ rfl rfl rfl rfl,fun _=>un⟩
  ·exact⟨plain _ rfl rfl rfl rfl,fun _=>un⟩
 ·exact⟨plain _ rfl rfl rfl rfl,fun _=>un⟩
structure RunQ(W K:Int→Int)(P F:A0o)(n:Nat):Prop where
 q:QI W K F
 l:LI F
 f:∀v,A8c P v→A8c F v
 u:∀j,j<n→K (j:Nat)≠4→F.A0i[j]?=P.A0i[j]?
 uf:UF K F
theorem G9p(es:List PEv):∀{P:A0o} {n:Nat},A4p P n→PI P→QI W K P→LI P→UF K P→n+es.length≤100000→(∀e ∈ es,e.wf)→(∀j e,es[j]?=some e→W (n+j:Nat)=e.who∧K (n+j:Nat)=e.kind)→RunQ W K P (A5y P es) n:=by
 induction es with
 |nil=>intro P n _ _ Q L U _ _ _;exact⟨Q,L,fun _ h=>h,fun _ _ _=>rfl,U⟩
 |cons e es ih=>
  intro P n at_ I Q L U hn hw hWK
  simp only[List.length_cons]at hn
  obtain⟨w0,k0⟩:=hWK 0 e rfl
  obtain⟨D,_⟩:=do_q at_ I Q L U e w0 k0
  have r:=ih (C8j at_ (by omega) e (hw e (List.mem_cons_self ..))) (F0n at_ (by omega) I e) D.q D.l D.uf (by omega) (fun e' he=>hw e' (List.mem_cons_of_mem _ he)) fun j e' he=>by
   have:=hWK (j+1) e' he
   rw[show n+1+j=n+(j+1)by omega];exact this
  exact⟨r.q,r.l,fun v hv=>r.f v (D.f v hv),fun j hj hk=>(r.u j (by omega) hk).trans (D.u j (by rw[at_.us];exact hj) hk),r.uf⟩
theorem H4a(c:Cf):QI W K (A1q c)∧LI (A1q c)∧UF K (A1q c):=by
 have hs:∀(i:Nat) x,(A1q c).A0e[i]?=some x→x=A4e c i:=fun i x h=>C7h (f:=fun(i:Nat)=>A4e c i) h
 have ho:∀o,o ∈ (A1q c).outs→False:=fun o h=>by cases h
 refine⟨⟨fun i x hx=>?_,fun o h=>(ho o h).elim⟩,⟨fun i x hx=>?_,List.Pairwise.nil,fun o h=>(ho o h).elim⟩,⟨fun j v _ h=>by cases h⟩⟩
 ·rw[hs i x hx]
  exact⟨fun q h=>(by cases h),List.Pairwise.nil,fun h=>(by cases h),fun o h=>(ho o h).elim,fun d h=>(by cases h)⟩
 ·rw[hs i x hx]
  exact⟨Int.le_refl _,fun o h=>(ho o h).elim,fun pr o h=>(by cases h),fun pr o h=>(by cases h)⟩
end
section
variable{W K:Int→Int}
structure H3z(A B:StA):Prop where
 r:B.r=A.r
 pr:B.pr=A.pr
 o:B.o=A.o
 se:B.se=A.se
 S:B.S=A.S
 t:B.ss.taken=A.ss.taken
theorem H3u{t u:List Dr}(h:u.map (·.n)=t.map (·.n))(i:Int):(atT u i).n=(atT t i).n:=by
 have k:∀(l:List Dr),(atT l i).n=(l.map (·.n)).getD i.toNat 0:=by
  intro l
  unfold atT
  rw[List.getD_eq_getElem?_getD,List.getD_eq_getElem?_getD,List.getElem?_map]
  cases l[i.toNat]?<;>rfl
 rw[k,k,h]
theorem F9l{ss su:A0g}(po pu:A0c)(h:su.tape.map (·.n)=ss.tape.map (·.n))(ht:su.taken=ss.taken):(takeN su pu).1=(takeN ss po).1∧(takeN su pu).2.1.taken=(takeN ss po).2.1.taken:=by
 have hl:su.tape.length=ss.tape.length:=by have:=congrArg List.length h;simpa using this
 unfold takeN
 rw[ht,hl]
 split
 ·exact⟨rfl,ht⟩
 ·exact⟨by rw[H3u h],rfl⟩
structure G9k(A B:Tr):Prop where
 b:B.b=A.b
 n:B.n=A.n
 o:B.o=A.o
 S:B.S=A.S
 t:B.ss.taken=A.ss.taken
theorem D1z(n:Int)(o:Option A0a){ss su:A0g}(po pu:A0c)(S:WS)(ht:su.taken=ss.taken):G9k (A2a n o ss po S) (A2a n o su pu S):=by
 unfold A2a
 cases o with
 |none=>exact⟨rfl,rfl,rfl,rfl,ht⟩
 |some P=>dsimp only;split<;>exact⟨rfl,rfl,rfl,rfl,ht⟩
theorem G3e(pr:PrS)(o:Option A0a){ss su:A0g}(po pu:A0c)(S:WS)(h:su.tape.map (·.n)=ss.tape.map (·.n))(ht:su.taken=ss.taken):G9k (A1p pr o ss po S) (A1p pr o su pu S):=by
 unfold A1p
 obtain⟨k1,k2⟩:=F9l po pu h ht
 split
 ·split
  ·rw[k1];exact D1z _ _ _ _ _ k2
  ·exact D1z _ _ _ _ _ ht
 ·exact D1z _ _ _ _ _ ht
theorem F9a(pr:PrS)(o:Option A0a)(se:A0j){ss su:A0g}(po pu:A0c)(S:WS)(h:su.tape.map (·.n)=ss.tape.map (·.n))(ht:su.taken=ss.taken):H3z (A2z pr o se ss po S) (A2z pr o se su pu S):=by
 unfold A2z
 split
 ·unfold A9c
  split
  ·exact⟨rfl,rfl,rfl,rfl,rfl,ht⟩
  ·have k:=G3e pr o po pu S h ht
   generalize A1p pr o ss po S=A at*
   generalize A1p pr o su pu S=B at*
   obtain⟨k1,k2,k3,k4,k5⟩:=k
   unfold B1t
   rw[k1,k2,k3,k4]
   split
   ·exact⟨rfl,rfl,rfl,rfl,rfl,k5⟩
   split
   ·exact⟨rfl,rfl,rfl,rfl,rfl,k5⟩
   ·exact⟨rfl,rfl,rfl,rfl,rfl,k5⟩
 split
 ·exact⟨rfl,rfl,rfl,rfl,rfl,ht⟩
 split
 ·exact⟨rfl,rfl,rfl,rfl,rfl,ht⟩
 split
 ·exact⟨rfl,rfl,rfl,rfl,rfl,ht⟩
 ·exact⟨rfl,rfl,rfl,rfl,rfl,ht⟩
structure SS(R:Int→Bool)(x y:A1e):Prop where
 se:y.se=x.se
 tape:y.tape.map (·.n)=x.tape.map (·.n)
 taken:y.taken=x.taken
 queue:y.queue.map (·.a)=(x.queue.filter fun q=>!R q.ev).map (·.a)
 now:y.now=if x.now.isSome&&R x.ev then none else x.now
structure Sim(R:Int→Bool)(P Q:A0o):Prop where
 S:Q.S=P.S
 sw:Q.sw=P.sw
 re:Q.re=P.re
 len:Q.A0e.length=P.A0e.length
 ss:∀(i:Nat) x,P.A0e[i]?=some x→∃y,Q.A0e[i]?=some y∧SS R x y
variable{R:Int→Bool}
theorem Sim.set{P Q P' Q':A0o}{i:Nat}{x x' y':A1e}(h:Sim R P Q)(hx:P.A0e[i]?=some x)(p1:P'.A0e=P.A0e.set i x')(q1:Q'.A0e=Q.A0e.set i y')(s:SS R x' y')(hS:Q'.S=P'.S)(hw:Q'.sw=P'.sw)(hr:Q'.re=P'.re):Sim R P' Q':=by
 obtain⟨y,hy,_⟩:=h.ss i x hx
 refine⟨hS,hw,hr,by rw[p1,q1,List.length_set,List.length_set];exact h.len,fun j z hz=>?_⟩
 rw[p1]at hz
 rcases A4z hz with⟨rfl,rfl⟩|⟨hj,hz⟩
 ·exact⟨y',by rw[q1,List.getElem?_set,if_pos rfl,if_pos (List.getElem?_eq_some_iff.1 hy).1],s⟩
 ·obtain⟨w,hw,k⟩:=h.ss j z hz
  exact⟨w,by rw[q1,B8l _ _ hj];exact hw,k⟩
theorem Sim.left{P Q P':A0o}{i:Nat}{x x':A1e}(h:Sim R P Q)(hx:P.A0e[i]?=some x)(p1:P'.A0e=P.A0e.set i x')(s:∀y,SS R x y→SS R x' y)(hS:P'.S=P.S)(hw:P'.sw=P.sw)(hr:P'.re=P.re):Sim R P' Q:=by
 refine⟨by rw[hS];exact h.S,by rw[hw];exact h.sw,by rw[hr];exact h.re,by rw[p1,List.length_set];exact h.len,fun j z hz=>?_⟩
 rw[p1]at hz
 rcases A4z hz with⟨rfl,rfl⟩|⟨hj,hz⟩
 ·obtain⟨y,hy,k⟩:=h.ss j x hx
  exact⟨y,hy,s y k⟩
 ·exact h.ss j z hz
theorem G8y{P Q:A0o}{n i:Nat}{x x1 x':A1e}{pr:PrS}{o:Option A0a}(h:Sim R P Q)(hx:P.A0e[i]?=some x)(D:F9h P (A2t P i x).2 i x x1 pr o x')(hR:R x1.ev=false):
  ∃y,Q.A0e[i]?=some y∧Sim R (A2t P i x).2 (A2t Q i y).2:=by
 obtain⟨y,hy,s⟩:=h.ss i x hx
 refine⟨y,hy,?_⟩
 obtain⟨b,d,hp,a,h0⟩:=D
 obtain⟨y1,yb,c1,c2,c3⟩:∃y1,(A2t Q i y).2=A8b Q i y1 pr o∧y1.se=y.se∧(y1.tape=y.tape∧y1.taken=y.taken)∧y1.queue.map (·.a)=(x1.queue.filter fun q=>!R q.ev).map (·.a):=by
  rcases b.c with⟨rfl,hn⟩|⟨hn,q,hq,he,e1,e2⟩
  ·have yn:y.now=some (pr,o):=by rw[s.now,hR,Bool.and_false];exact hn
   exact⟨y,by unfold A2t A1e.begun;rw[yn],rfl,⟨rfl,rfl⟩,s.queue⟩
  ·have yn:y.now=none:=by rw[s.now,hn];rfl
   have hq2:y.queue.map (·.a)=q.a::(x1.queue.filter fun q=>!R q.ev).map (·.a):=by
    rw[s.queue,hq,List.filter_cons,if_pos (by rw[←he,hR];rfl)];rfl
   cases hyq:y.queue with
   |nil=>rw[hyq]at hq2;cases hq2
   |cons z t=>
    rw[hyq,List.map_cons,List.cons.injEq]at hq2
    refine⟨{y with queue:=t,ev:=z.ev,now:=some (PrS.start z.a,none)},?_,rfl,⟨rfl,rfl⟩,hq2.2⟩
    rw[e1,e2,←hq2.1]
    unfold A2t A1e.begun
    rw[yn,hyq]
 rw[yb]
 obtain⟨y',dy⟩:=E2s Q i y1 pr o
 have k:=F9a pr o x1.se (ss:=x1.nl) (su:=y1.nl) (P.use x1.ev).nl (Q.use y1.ev).nl P.S (by show y1.tape.map _=x1.tape.map _;rw[c2.1,b.tape];exact s.tape) (by show y1.taken=x1.taken;rw[c2.2,b.taken];exact s.taken)
 have hse:y1.se=x1.se:=by rw[c1,s.se,b.se]
 rw[hse,h.S]at dy
 refine h.set hx d.A0e dy.A0e ⟨by rw[dy.se,d.se];exact k.se,by rw[dy.tape,d.tape,c2.1,b.tape];exact s.tape,by rw[dy.taken,d.taken];exact k.t,by rw[dy.queue,d.queue];exact c3,?_⟩ (by rw[dy.S,d.S];exact k.S) (by rw[dy.sw,d.sw];exact h.sw) (by rw[dy.re,d.re];exact h.re)
 rcases d.c with⟨r1,r2,r3,_⟩|⟨r,r1,r2,_⟩
 ·rcases dy.c with⟨t1,t2,_⟩|⟨t,t1,_⟩
  ·rw[t2,r2,r3,hR,Bool.and_false,k.pr,k.o];rfl
  ·rw[k.r,r1]at t1;cases t1
 ·rcases dy.c with⟨t1,t2,_⟩|⟨t,t1,t2,_⟩
  ·rw[k.r,r1]at t1;cases t1
  ·rw[t2,r2];rfl
theorem G7r{P Q:A0o}{n i:Nat}{x x1 x':A1e}{pr:PrS}{o:Option A0a}(h:Sim R P Q)(Qi:QI W K P)(hx:P.A0e[i]?=some x)(D:F9h P (A2t P i x).2 i x x1 pr o x')(hR:R x1.ev=true)(hF:¬A8c (A2t P i x).2 x1.ev):
  Sim R (A2t P i x).2 Q:=by
 generalize (A2t P i x).2=P' at*
 obtain⟨b,d,hp,a,h0⟩:=D
 generalize A2z pr o x1.se x1.nl (P.use x1.ev).nl P.S=A at*
 have m:=fun c=>hF (A8c.made hx b d hp a h0 Qi c)
 have kk:pr.a.kind=1∧pr.pc<2:=by
  by_cases k1:pr.a.kind=1
  ·refine⟨k1,?_⟩
   by_cases k2:pr.pc<2
   ·exact k2
   ·refine absurd ⟨fun hr=>.inr ?_,fun r hr=>?_⟩ m
    ·obtain⟨_,n2⟩:=a.n hr
     obtain⟨m1,m2,_⟩:=n2 k1
     by_cases q4:pr.pc<4
     ·rw[m1 q4];omega
     ·rw[m2 (by omega)];omega
    ·rintro⟨_,z2⟩
     rcases(a.r r hr).2.2 k1 with w|w
     ·omega
     ·exact z2 w.2
  ·refine absurd ⟨fun _=>.inl k1,fun r hr=>?_⟩ m
   rintro⟨z1,_⟩
   rw[(a.r r hr).1]at z1
   exact k1 z1
 obtain⟨e1,e2,e3,_⟩:=a.h kk.1 kk.2
 refine h.left hx d.A0e (fun y s=>?_) (by rw[d.S];exact e1) d.sw d.re
 have yn:y.now=none:=by
  rw[s.now]
  rcases b.c with⟨rfl,hn⟩|⟨hn,_⟩
  ·rw[hn,hR];rfl
  ·rw[hn];rfl
 refine⟨by rw[d.se,e2,b.se];exact s.se,by rw[d.tape,b.tape];exact s.tape,?_,?_,?_⟩
 ·rw[d.taken,e3]
  show y.taken=x1.taken
  rw[b.taken];exact s.taken
 ·rw[d.queue,s.queue]
  rcases b.c with⟨rfl,_⟩|⟨_,q,hq,he,_⟩
  ·rfl
  ·rw[hq,List.filter_cons,if_neg (by rw[←he,hR];decide)]
 ·rw[yn]
  rcases d.c with⟨_,r2,r3,_⟩|⟨r,_,r2,_⟩
  ·rw[r2,r3,hR];rfl
  ·rw[r2];rfl
def A7p(R:Int→Bool)(U:List Int)(i:Nat):Bool:=!R i&&!(decide (0≤U.getD i (-1))&&R (U.getD i (-1)))
def A7a(R:Int→Bool)(U:List Int):Nat→List PEv→List PEv
 |_,[]=>[]
 |i,e::l=>if A7p R U i=true then e::A7a R U (i+1) l else A7a R U (i+1) l
theorem D8u{R:Int→Bool}{U:List Int}{n:Nat}(h:R n=false)(u:U.getD n (-1)=-1∨R (U.getD n (-1))=false):A7p R U n=true:=by
 unfold A7p
 rw[h]
 rcases u with u|u
 ·rw[u];rfl
 ·rw[u,Bool.and_false];rfl
theorem Sim.got{P Q:A0o}(h:Sim R P Q):Sim R P.got Q.got:=⟨h.S,h.sw,h.re,h.len,h.ss⟩
theorem Sim.on{P Q:A0o}(h:Sim R P Q):Sim R P.on Q.on:=⟨h.S,h.sw,h.re,h.len,h.ss⟩
theorem H2m{P Q:A0o}{n:Nat}{U:List Int}(at_:A4p P n)(I:PI P)(Qi:QI W K P)(h:Sim R P Q)(e:PEv)(hK:K n=e.kind)
  (hR:∀v,R v=true→¬A8c (doP P e).2 v∧K v=1) (u1:K n≠4→U.getD n (-1)=((doP P e).2.A0i[n]?).getD (-1)) (u2:K n=4→U.getD n (-1)=-1∨R (U.getD n (-1))=false):
  Sim R (doP P e).2 (if A7p R U n=true then(doP Q e).2 else Q):=by
 have ok:=at_.ok
 have hus:=at_.us
 have hev:=at_.ev
 have un:(P.A0i++[-1])[n]?=some (-1):=by rw[List.getElem?_append_right (by omega),hus];simp
 have rn:K n≠1→R n=false:=fun q=>by
  cases z:R n with
  |false=>rfl
  |true=>exact absurd (hR _ z).2 q
 have yes:K n≠1→(K n≠4→(doP P e).2.A0i[n]?=some (-1))→A7p R U n=true:=fun q u=>by
  refine D8u (rn q) ?_
  by_cases k4:K n=4
  ·exact u2 k4
  ·left;rw[u1 k4,u k4];rfl
 by_cases k2:e.kind=2
 ·have e1:∀P:A0o,(doP P e).2=(D0j P.got e.n).on:=fun P=>by unfold doP;rw[if_pos k2]
  rw[if_pos (yes (by rw[hK];omega) fun _=>by rw[e1];exact un),e1,e1]
  exact⟨by show(Q.S.tick e.n)=P.S.tick e.n;rw[h.S],h.sw,h.re,h.len,h.ss⟩
 by_cases k3:e.kind=3
 ·have e1:∀P:A0o,(doP P e).2=(A3d P.got e.who).2.on:=fun P=>by unfold doP;rw[if_neg k2,if_pos k3]
  have nk1:K n≠1:=by rw[hK];omega
  rw[e1]at hR u1
  have same:∀P1 Q1:A0o,(A3d P.got e.who).2=P1→(A3d Q.got e.who).2=Q1→Sim R P1 Q1→P1.A0i=P.A0i++[-1]→Sim R (doP P e).2 (if A7p R U n=true then(doP Q e).2 else Q):=by
   intro P1 Q1 a b s u
   rw[if_pos (yes nk1 fun _=>by rw[e1,a];show P1.A0i[n]?=_;rw[u];exact un),e1,e1,a,b]
   exact s.on
  have pick:∀P:A0o,A3d P.got e.who=(if e.who<0∨e.who-P.A0e.length≥2*P.sw.length then(false,P.got)
    else if e.who-P.A0e.length<0 then(match P.A0e[e.who.toNat]? with|some x=>A2t P.got e.who.toNat x|none=>(false,P.got))
    else if e.who-P.A0e.length<P.sw.length then(match P.sw[(e.who-P.A0e.length).toNat]? with|some y=>(true,B2p P.got (e.who-P.A0e.length).toNat y)|none=>(true,P.got))
    else(match P.re[(e.who-P.A0e.length-P.sw.length).toNat]? with|some y=>(true,B8u P.got (e.who-P.A0e.length-P.sw.length).toNat y)|none=>(true,P.got))):=fun P=>rfl
  have pP:=pick P
  have pQ:=pick Q
  rw[h.len,h.sw,h.re]at pQ
  by_cases c1:e.who<0∨e.who-P.A0e.length≥2*P.sw.length
  ·rw[if_pos c1]at pP pQ
   exact same _ _ (by rw[pP]) (by rw[pQ]) h.got rfl
  rw[if_neg c1]at pP pQ
  by_cases c2:e.who-P.A0e.length<0
  ·rw[if_pos c2]at pP pQ
   have hlt:e.who.toNat<P.A0e.length:=by omega
   have hx:=List.getElem?_eq_getElem hlt
   obtain⟨y,hy,s⟩:=h.ss _ _ hx
   rw[hx]at pP
   rw[hy]at pQ
   generalize P.A0e[e.who.toNat]=x at*
   dsimp only at pP pQ
   have I':PI P.got:=I.same ok.S.c ok.re (A1z.refl _) (fun _=>rfl) rfl rfl
   have Qg:QI W K P.got:=Qi.mono rfl rfl (Int.le_refl _)
   rcases E5x (B6s ok) I' hx with⟨z,z1,z2⟩|⟨x1,pr,o,x',D⟩
   ·have yn:y.now=none:=by rw[s.now,z1];rfl
    have yq:y.queue=[]:=by have:=s.queue;rw[z2]at this;simpa using this
    have q:(A2t Q.got e.who.toNat y).2=Q.got:=by unfold A2t A1e.begun;rw[yn,yq]
    exact same P.got Q.got (by rw[pP];exact z) (by rw[pQ];exact q) h.got rfl
   ·have hun:(A2t P.got e.who.toNat x).2.A0i[n]?=some x1.ev:=by
     obtain⟨b,d,hp,a,h0⟩:=D
     have e2:(P.got.use x1.ev).A0i=(P.A0i++[-1]).set n x1.ev:=by
      show(P.A0i++[-1]).set P.events.toNat x1.ev=_
      rw[hev,Int.toNat_natCast]
     have base:(P.got.use x1.ev).A0i[n]?=some x1.ev:=by
      rw[e2,List.getElem?_set,if_pos rfl,if_pos (by simp;omega)]
     have ht:=(Qg.s _ x hx).t
     rw[d.A0i]
     rcases a.u with hu|⟨_,_,q,hu⟩
     ·rw[hu];exact base
     ·have tk:(atT x1.nl.tape x1.nl.taken) ∈ x.tape:=by
       have t1:=((B6s ok).A0e x (List.mem_of_getElem? hx)).taken
       have q:x1.taken≠(x1.tape.length:Int):=q
       rw[b.taken,b.tape]at q
       show x1.tape.getD x1.taken.toNat ⟨0,0⟩ ∈ x.tape
       rw[b.tape,b.taken,List.getD_eq_getElem?_getD,List.getElem?_eq_getElem (by omega)]
       exact List.getElem_mem _
      have:=ht _ tk
      rw[hu,B8l _ _ (fun z=>by
       have w:=this.1
       rw[←Int.toNat_of_nonneg this.2.1,←z,hK,k3]at w
       exact absurd w (by decide))]
      exact base
    have hU:U.getD n (-1)=x1.ev:=by
     rw[u1 (by rw[hK];omega),pP]
     show((A2t P.got e.who.toNat x).2.A0i[n]?).getD (-1)=_
     rw[hun];rfl
    have hge:0≤x1.ev:=(D.b.q (Qg.s _ x hx)).ev.1.1
    rw[e1,pP]
    cases hr:R x1.ev with
    |true=>
     have kb:A7p R U n=false:=by unfold A7p;rw[hU,hr,decide_eq_true hge,Bool.and_true,Bool.not_true,Bool.and_false]
     rw[kb,if_neg (by decide)]
     rw[pP]at hR
     have nf:=(hR _ hr).1
     have g:Sim R P.got Q:=⟨h.S,h.sw,h.re,h.len,h.ss⟩
     have k:=G7r (n:=n) g Qg hx D hr fun f=>nf (f.mono rfl rfl (by show(A2t P.got e.who.toNat x).2.events≤(A2t P.got e.who.toNat x).2.events+1;omega))
     exact⟨k.S,k.sw,k.re,k.len,k.ss⟩
    |false=>
     rw[if_pos (D8u (rn nk1) (.inr (by rw[hU];exact hr))),e1,pQ]
     obtain⟨y',hy',k⟩:=G8y (n:=n) h.got hx D hr
     have hy':Q.A0e[e.who.toNat]?=some y':=hy'
     rw[hy]at hy';cases hy'
     exact k.on
  rw[if_neg c2]at pP pQ
  by_cases c3:e.who-P.A0e.length<P.sw.length
  ·rw[if_pos c3]at pP pQ
   cases hx:P.sw[(e.who-P.A0e.length).toNat]? with
   |none=>
    rw[hx]at pP pQ
    exact same P.got Q.got (by rw[pP]) (by rw[pQ]) h.got rfl
   |some y=>
    rw[hx]at pP pQ
    refine same (B2p P.got (e.who-P.A0e.length).toNat y) (B2p Q.got (e.who-P.A0e.length).toNat y) (by rw[pP]) (by rw[pQ]) ⟨?_,?_,h.re,h.len,h.ss⟩ rfl
    ·show(A6s y.1 y.2 Q.S).2.2=(A6s y.1 y.2 P.S).2.2
     rw[h.S]
    ·show Q.sw.set _ _=P.sw.set _ _
     rw[h.sw]
     show P.sw.set _ ((A6s y.1 y.2 Q.S).1,some (A6s y.1 y.2 Q.S).2.1)=_
     rw[h.S];rfl
  ·rw[if_neg c3]at pP pQ
   cases hx:P.re[(e.who-P.A0e.length-P.sw.length).toNat]? with
   |none=>
    rw[hx]at pP pQ
    exact same P.got Q.got (by rw[pP]) (by rw[pQ]) h.got rfl
   |some y=>
    rw[hx]at pP pQ
    refine same (B8u P.got (e.who-P.A0e.length-P.sw.length).toNat y) (B8u Q.got (e.who-P.A0e.length-P.sw.length).toNat y) (by rw[pP]) (by rw[pQ]) ⟨?_,h.sw,?_,h.len,h.ss⟩ rfl
    ·show(B2i y Q.S).2=(B2i y P.S).2
     rw[h.S]
    ·show Q.re.set _ _=P.re.set _ _
     rw[h.re]
     show P.re.set _ (B2i y Q.S).1=_
     rw[h.S];rfl
 have e1:∀P:A0o,(doP P e).2=(if 0≤e.who∧e.who<P.A0e.length then
  (if e.kind=1 then(match P.A0e[e.who.toNat]? with
   |some x=>(true,(D4z P.got e.who.toNat x e.ask).on)
   |none=>(false,P.got.on))
  else if e.kind=4 then(match P.A0e[e.who.toNat]? with
   |some x=>(true,(E2l P.got e.who.toNat x e.n).on)
   |none=>(false,P.got.on))
  else(false,P.got.on))
 else(false,P.got.on)).2:=fun P=>by unfold doP;rw[if_neg k2,if_neg k3];rfl
 have eP:=e1 P
 have eQ:=e1 Q
 rw[h.len]at eQ
 have none':(doP P e).2=P.got.on→(doP Q e).2=Q.got.on→Sim R (doP P e).2 (if A7p R U n=true then(doP Q e).2 else Q):=by
  intro a b
  rw[a,b]
  split
  ·exact h.got.on
  ·exact⟨h.S,h.sw,h.re,h.len,h.ss⟩
 by_cases c1:0≤e.who∧e.who<P.A0e.length
 ·rw[if_pos c1]at eP eQ
  have hlt:e.who.toNat<P.A0e.length:=by omega
  have hx:=List.getElem?_eq_getElem hlt
  obtain⟨y,hy,s⟩:=h.ss _ _ hx
  rw[hx]at eP
  rw[hy]at eQ
  generalize P.A0e[e.who.toNat]=x at*
  dsimp only at eP eQ
  by_cases k1:e.kind=1
  ·rw[if_pos k1]at eP eQ
   dsimp only at eP eQ
   have hU:U.getD n (-1)=-1:=by rw[u1 (by rw[hK];omega),eP];show((P.A0i++[-1])[n]?).getD (-1)=_;rw[un];rfl
   cases hr:R n with
   |false=>
    rw[if_pos (D8u hr (.inl hU)),eP,eQ]
    refine h.set hx (x':={x with queue:=x.queue++[⟨e.ask,P.events⟩]}) (y':={y with queue:=y.queue++[⟨e.ask,Q.events⟩]}) rfl rfl ⟨s.se,s.tape,s.taken,?_,s.now⟩ h.S h.sw h.re
    show(y.queue++[(⟨e.ask,Q.events⟩:Qe)]).map (·.a)=((x.queue++[(⟨e.ask,P.events⟩:Qe)]).filter fun q=>!R q.ev).map (·.a)
    rw[List.map_append,List.filter_append,List.map_append,s.queue]
    have:([(⟨e.ask,P.events⟩:Qe)].filter fun q=>!R q.ev)=[⟨e.ask,P.events⟩]:=by
     rw[List.filter_cons,if_pos (by show(!R P.events)=true;rw[hev,hr];rfl)];rfl
    rw[this];rfl
   |true=>
    have kb:A7p R U n=false:=by unfold A7p;rw[hr];rfl
    rw[kb,if_neg (by decide),eP]
    refine h.left hx (x':={x with queue:=x.queue++[⟨e.ask,P.events⟩]}) rfl (fun z t=>⟨t.se,t.tape,t.taken,?_,t.now⟩) rfl rfl rfl
    show z.queue.map (·.a)=((x.queue++[(⟨e.ask,P.events⟩:Qe)]).filter fun q=>!R q.ev).map (·.a)
    have:([(⟨e.ask,P.events⟩:Qe)].filter fun q=>!R q.ev)=[]:=by
     rw[List.filter_cons,if_neg (by show ¬(!R P.events)=true;rw[hev,hr];decide)];rfl
    rw[List.filter_append,this,List.append_nil]
    exact t.queue
  rw[if_neg k1]at eP eQ
  by_cases k4:e.kind=4
  ·rw[if_pos k4]at eP eQ
   dsimp only at eP eQ
   rw[if_pos (yes (by rw[hK];omega) fun q=>absurd (by rw[hK];exact k4) q),eP,eQ]
   refine h.set hx (x':={x with tape:=x.tape++[⟨B3l e.n (A0s P.S.c),P.events⟩]}) (y':={y with tape:=y.tape++[⟨B3l e.n (A0s Q.S.c),Q.events⟩]}) rfl rfl ⟨s.se,?_,s.taken,s.queue,s.now⟩ h.S h.sw h.re
   show(y.tape++[(⟨B3l e.n (A0s Q.S.c),Q.events⟩:Dr)]).map (·.n)=(x.tape++[(⟨B3l e.n (A0s P.S.c),P.events⟩:Dr)]).map (·.n)
   rw[List.map_append,List.map_append,s.tape,h.S];rfl
  ·rw[if_neg k4]at eP eQ
   exact none' eP eQ
 ·rw[if_neg c1]at eP eQ
  exact none' eP eQ
def G6s(o:Out):Prop:=o.r.kind=1∧o.r.code≠0
theorem H0y(U:List Int)(es:List PEv):∀{P Q:A0o} {n:Nat},A4p P n→PI P→QI W K P→LI P→UF K P→Sim R P Q→n+es.length≤100000→(∀e ∈ es,e.wf)→(∀j e,es[j]?=some e→W (n+j:Nat)=e.who∧K (n+j:Nat)=e.kind)→
  (∀v,R v=true→∃o ∈ (A5y P es).outs,o.ev=v∧G6s o)→U=(A5y P es).A0i→Sim R (A5y P es) (A5y Q (A7a R U n es)):=by
 induction es with
 |nil=>intro P Q n _ _ _ _ _ s _ _ _ _ _;exact s
 |cons e es ih=>
  intro P Q n at_ I Qi L uf s hn hw hWK hR hU
  simp only[List.length_cons]at hn
  obtain⟨w0,k0⟩:=hWK 0 e rfl
  obtain⟨D,_⟩:=do_q at_ I Qi L uf e w0 k0
  have at1:=C8j at_ (by omega) e (hw e (List.mem_cons_self ..))
  have I1:=F0n at_ (by omega) I e
  have wk1:∀j e',es[j]?=some e'→W (n+1+j:Nat)=e'.who∧K (n+1+j:Nat)=e'.kind:=fun j e' he=>by
   have:=hWK (j+1) e' he
   rw[show n+1+j=n+(j+1)by omega];exact this
  have r:=G9p es at1 I1 D.q D.l D.uf (by omega) (fun e' he=>hw e' (List.mem_cons_of_mem _ he)) wk1
  have hR:∀v,R v=true→∃o ∈ (A5y (doP P e).2 es).outs,o.ev=v∧G6s o:=hR
  have hU:U=(A5y (doP P e).2 es).A0i:=hU
  have nf:∀v,R v=true→¬A8c (A5y (doP P e).2 es) v:=fun v hv f=>by
   obtain⟨o,ho,e1,e2⟩:=hR v hv
   exact f.o o ho e1 e2
  have k:=H2m (U:=U) at_ I Qi s e k0 (fun v hv=>⟨fun f=>nf v hv (r.f v f),by
   obtain⟨o,ho,e1,_⟩:=hR v hv
   rw[←e1];exact(r.q.o o ho).2.2⟩) (fun k4=>by rw[hU,List.getD_eq_getElem?_getD,r.u n (by omega) k4]) (fun k4=>by
    rw[hU,List.getD_eq_getElem?_getD]
    cases hz:(A5y (doP P e).2 es).A0i[n]? with
    |none=>exact .inl rfl
    |some v=>
     refine(r.uf.f n v k4 hz).imp id fun f=>?_
     show R v=false
     cases hv:R v with
     |false=>rfl
     |true=>exact absurd f (nf v hv))
  have fin:=ih (Q:=if A7p R U n=true then(doP Q e).2 else Q) at1 I1 D.q D.l D.uf k (by omega) (fun e' he=>hw e' (List.mem_cons_of_mem _ he)) wk1 hR hU
  show Sim R (A5y (doP P e).2 es) (A5y Q (if A7p R U n=true then e::A7a R U (n+1) es else A7a R U (n+1) es))
  split
  ·rename_i q
   rw[if_pos q]at fin;exact fin
  ·rename_i q
   rw[if_neg q]at fin;exact fin
theorem Sim.new(c:Cf):Sim R (A1q c) (A1q c):=by
 have hs:∀(i:Nat) x,(A1q c).A0e[i]?=some x→x=A4e c i:=fun i x h=>C7h (f:=fun(i:Nat)=>A4e c i) h
 exact⟨rfl,rfl,rfl,rfl,fun i x hx=>⟨x,hx,by rw[hs i x hx];exact⟨rfl,rfl,rfl,rfl,rfl⟩⟩⟩
end
section
set_option maxRecDepth 10000
theorem F1q{l:List D}(h:((l.length:Int) == 0)=true):l=[]:=by
 have:(l.length:Int)=0:=by simpa using h
 exact List.eq_nil_of_length_eq_zero (by omega)
theorem G4i(l:List D)(h:l.length≤100000000):FX 14 [.agg l]=some [.agg l]:=by
 rw[B2e]
 simp only[D.A0f]
 have h1:(l.length:Int)≤1256584717458:=by omega
 simp only[h1,decide_true,if_true]
 split
 ·rename_i h0
  rw[F1q h0,D3t]
 ·rfl
def C9t(P:A0o)(part:Int):List Rep:=(P.outs.filter fun o=>o.part == part).map Out.r
section
variable{G:Nat→Option D}{L:List D}{lab:Nat→Nat}{pl w m k:Nat}{za swa rea:List Nat}{P:A0o}{n:Nat}(E:Enc G L lab pl w m k za swa rea P)(hP:A4c P n)(hn:n≤100000000)
include E hP hn
theorem F7y:FX 8 [.int (pl:Nat),.agg L]=some [.agg (P.outs.map Out.d)]:=by
 have ho:=hP.outs
 have g5:(P.raw (.int (w:Nat)) (A0p za) (A0p swa) (A0p rea)).outs=P.outs:=rfl
 have h1:((P.outs.map Out.d).length:Int)≤1034834473200:=by simp;omega
 rw[D2j]
 simp only[HH,E.A5r,A0c.A3g,g5,h1,decide_true]
 split
 ·rename_i h0
  rw[F1q h0,D3t]
 ·rfl
theorem F8f(part:Int):FX 31 [.int (pl:Nat),.int part,.agg L]=some [.agg ((C9t P part).map Rep.d)]:=by
 have ho:=hP.outs
 have key:∀(d j:Nat),j+d=P.outs.length→A4w (.int (pl:Nat)) (.int part) (.agg L) (.agg (P.outs.map Out.d)) [.int (j:Nat),.agg ((((P.outs.take j).filter fun o=>o.part == part).map Out.r).map Rep.d)]=some [.agg ((C9t P part).map Rep.d)]:=by
  intro d
  induction d with
  |zero=>
   intro j hj
   have h1:¬(j:Int)<((P.outs.map Out.d).length:Int):=by simp;omega
   rw[B1s,List.take_of_length_le (by omega)]
   simp only[D.toInt_int,D.A0f,h1,decide_false,Bool.false_eq_true,if_false]
   rfl
  |succ d ih=>
   intro j hj
   have hlt:j<P.outs.length:=by omega
   have h1:(j:Int)<((P.outs.map Out.d).length:Int):=by simp;omega
   have h2:(j:Int)≥0:=by omega
   have hg:(P.outs.map Out.d).getD j D.nil=.agg (P.outs[j]).ds:=by
    rw[List.getD_eq_getElem?_getD,List.getElem?_map,List.getElem?_eq_getElem hlt];rfl
   have ih':=ih (j+1) (by omega)
   have htk:P.outs.take (j+1)=P.outs.take j++[P.outs[j]]:=List.take_succ_eq_append_getElem hlt
   rw[htk,List.filter_append]at ih'
   have hlen:((P.outs.take j).filter fun o=>o.part == part).length≤P.outs.length:=Nat.le_trans (List.length_filter_le ..) (by simp;omega)
   generalize P.outs[j]=o at*
   rw[B1s]
   simp only[D.toInt_int,D.A0f,h1,h2,decide_true,if_true,Int.toNat_natCast,hg,Out.len,Out.A1l,Out.A1j,Out.A1v,Out.A2b,Out.A1w,Out.A3g,Out.A4q,Out.A7r,Out.A5t,Out.A5u,Out.B2n,Out.A9i,Out.A8u,Out.A9f,Out.B2g]
   rw[A1a _ (by omega) (by omega)]
   cases hb:(o.part == part)with
   |true=>
    have e1:[o].filter (fun o=>o.part == part)=[o]:=by simp[hb]
    rw[e1]at ih'
    have e2:((((P.outs.take j).filter fun o=>o.part == part).map Out.r).map Rep.d)++[D.agg [.int o.r.kind,.int o.r.code,.int o.r.tick,.int o.r.id,.int o.r.cell,.bool o.r.asked,.int o.r.rc.k,.int o.r.rc.q,.int o.r.rc.p,.int o.r.rc.t,.int o.r.rc.c,.int o.r.rc.g,.agg (o.r.looks.map A5c.d)]]=((((P.outs.take j).filter fun o=>o.part == part)++[o]).map Out.r).map Rep.d:=by
     rw[List.map_append,List.map_append];rfl
    have e3:((((((P.outs.take j).filter fun o=>o.part == part)++[o]).map Out.r).map Rep.d).length:Int)≤1172812402961:=by simp;omega
    simp only[if_true,e2,e3,decide_true]
    exact ih'
   |false=>
    have e1:[o].filter (fun o=>o.part == part)=[]:=by simp[hb]
    rw[e1,List.append_nil]at ih'
    simp only[Bool.false_eq_true,if_false]
    exact ih'
 have:=key P.outs.length 0 (by omega)
 rw[C6w,F7y E hP hn]
 simp only[A0q,List.length_cons,List.length_nil,List.getD_cons_zero]
 exact this
theorem D4r:FX 7 [.int (pl:Nat),.agg L]=some [.agg (P.S.log.map Ev.d)]:=by
 have hl:=hP.log
 have g0:(P.raw (.int (w:Nat)) (A0p za) (A0p swa) (A0p rea)).w=.int (w:Nat):=rfl
 rw[C9a]
 simp only[HH,E.A5r,A0c.A1l,g0,E.W.w,A0h.A5u]
 rw[G4i _ (by simp;omega)]
 simp only[HH]
end
theorem H3k(l:List D)(hl:l.length≤1000000):FX 10 [.agg l,.agg l]=some [.bool true]:=by
 have key:∀(d j:Nat),j+d=l.length→A8q (.agg l) (.agg l) [.int (j:Nat)]=some [.bool true]:=by
  intro d
  induction d with
  |zero=>
   intro j hj
   have h1:¬(j:Int)<(l.length:Int):=by omega
   rw[B4i]
   simp only[D.toInt_int,D.A0f,h1,decide_false,Bool.false_eq_true,if_false]
  |succ d ih=>
   intro j hj
   have h1:(j:Int)<(l.length:Int):=by omega
   have h2:(j:Int)≥0:=by omega
   rw[B4i]
   simp only[D.toInt_int,D.A0f,h1,h2,decide_true,if_true,beq_self_eq_true,Bool.and_self,Bool.not_true,Bool.false_eq_true,if_false]
   rw[A1a _ (by omega) (by omega)]
   exact ih (j+1) (by omega)
 rw[D5y]
 have h0:((l.length:Int) != (l.length:Int))=false:=by simp
 simp only[D.A0f,h0,Bool.false_eq_true,if_false]
 exact key l.length 0 (by omega)
theorem all_eq'(es:List PEv)(hes:es.length≤100000):FX 20 [.agg (es.map PEv.d)]=some [.agg (es.map PEv.d)]:=by
 have key:∀(d j:Nat),j+d=es.length→B4z (.agg (es.map PEv.d)) [.int (j:Nat),.agg ((es.take j).map PEv.d)]=some [.agg (es.map PEv.d)]:=by
  intro d
  induction d with
  |zero=>
   intro j hj
   have h1:¬(j:Int)<((es.map PEv.d).length:Int):=by simp;omega
   rw[C3g,List.take_of_length_le (by omega)]
   simp only[D.toInt_int,D.A0f,h1,decide_false,Bool.false_eq_true,if_false]
  |succ d ih=>
   intro j hj
   have hlt:j<es.length:=by omega
   have h1:(j:Int)<((es.map PEv.d).length:Int):=by simp;omega
   have h2:(j:Int)≥0:=by omega
   have ih':=ih (j+1) (by omega)
   have htk:es.take (j+1)=es.take j++[es[j]]:=List.take_succ_eq_append_getElem hlt
   rw[htk]at ih'
   obtain⟨g0,g1,g2,g3,g4,g5,g6,g7,g8,g9,g10,g11⟩:=PEv.G6z es[j]
   have e2:(es.take j).map PEv.d++[D.agg [.int es[j].kind,.int es[j].who,.int es[j].n,.int es[j].ask.kind,.int es[j].ask.id,.int es[j].ask.cell,.int es[j].ask.tm.name,.int es[j].ask.tm.side,.int es[j].ask.tm.A0k,.int es[j].ask.tm.least,.int es[j].ask.tm.A1o,.int es[j].ask.qty]]=(es.take j++[es[j]]).map PEv.d:=by rw[List.map_append];rfl
   have e3:(((es.take j++[es[j]]).map PEv.d).length:Int)≤1466015503701:=by simp;omega
   rw[C3g]
   simp only[D.toInt_int,D.A0f,h1,h2,decide_true,if_true,Int.toNat_natCast,E5f hlt,g0,g1,g2,g3,g4,g5,g6,g7,g8,g9,g10,g11,F8k,G1a,A0q,List.length_cons,List.length_nil,List.getD_cons_zero,List.getD_cons_succ,e2,e3]
   rw[A1a _ (by omega) (by omega)]
   exact ih'
 rw[F5r]
 exact key es.length 0 (by omega)
theorem Enc.fr{L:List D}{lab:Nat→Nat}{pl w m k:Nat}{za swa rea:List Nat}{P:A0o}{L0:List D}(E:Enc (Gl L0) L lab pl w m k za swa rea P):Fr L0 L (fun _=>False):=by
 have k:∀b,b<L0.length→b<L.length∧L.getD b D.nil=L0.getD b D.nil:=fun b hb=>by
  have:=E.pre b (L0.getD b D.nil) (if_pos hb)
  exact⟨this.1,this.2.2⟩
 refine⟨?_,fun b hb _=>(k b hb).2⟩
 cases h:L0.length with
 |zero=>exact Nat.zero_le _
 |succ n=>have:=(k n (by omega)).1;omega
theorem H1i(c:Cf)(hc:c.ok)(es:List PEv)(hes:es.length≤10000)(hw:∀e ∈ es,e.wf)(mx:Int)(hmx:(es.length:Int)≤mx)(L:List D):
  ∃L' lab pl w m k za swa rea,FX 12 [.int c.c0,.int c.c1,.int c.c2,.int c.c3,.int c.c4,.int c.c5,.int c.c6,.agg (es.map PEv.d),.int mx,.agg L]=some [.int (pl:Nat),.agg L']∧Enc (Gl L) L' lab pl w m k za swa rea (A5y (A1q c) es)∧A4p (A5y (A1q c) es) es.length:=by
 obtain⟨L1,lab1,pl,w,m,k,za,swa,rea,n1,E1⟩:=F6p c hc L
 obtain⟨L2,lab2,n2,E2,P2⟩:=run_eq E1 (C1u c hc) es hw (by omega)
 have h1:¬((es.map PEv.d).length:Int)>mx:=by simp;omega
 refine⟨L2,lab2,pl,w,m,k,za,swa,rea,?_,E2,by rw[Nat.zero_add]at P2;exact P2⟩
 rw[F5q]
 simp only[n1,A0q,List.length_cons,List.length_nil,List.getD_cons_zero,List.getD_cons_succ,A6d,B5i,Bool.not_true,Bool.false_eq_true,if_false,D.toInt_int,D.A0f,h1,decide_false,all_eq' es (by omega),n2]
end
end Go.Proofs.YtglhnofjggpdjaaGreat.P
namespace Go.Proofs.YtglhnofjggpdjaaGreat.Eng
set_option linter.unusedVariables false
set_option linter.unusedSimpArgs false
section
abbrev O:=Option (List D)
abbrev Kn:=List D→(List D→O)→O
def KnOk(g:Kn)(f:Eng.Fn):Prop:=∀xs k r,g xs k=some r→∃q,f xs=some q∧k q=some r
def KnL(L:List Kn)(M:List Eng.Fn):Prop:=L.length=M.length∧∀(i:Nat) (g:Kn) (f:Eng.Fn),L[i]?=some g→M[i]?=some f→KnOk g f
theorem KnL.snoc{L:List Kn}{M:List Eng.Fn}(h:KnL L M){g:Kn}{f:Eng.Fn}(hg:KnOk g f):KnL (L++[g]) (M++[f]):=by
 refine⟨by simp[h.1],fun i a b ha hb=>?_⟩
 rcases Nat.lt_trichotomy i L.length with hi|hi|hi
 ·rw[List.getElem?_append_left hi]at ha
  rw[List.getElem?_append_left (by rw[←h.1];exact hi)]at hb
  exact h.2 i a b ha hb
 ·subst hi
  rw[List.getElem?_append_right (Nat.le_refl _),Nat.sub_self]at ha
  rw[List.getElem?_append_right (by rw[h.1];exact Nat.le_refl _),←h.1,Nat.sub_self]at hb
  cases ha;cases hb;exact hg
 ·rw[List.getElem?_eq_none (by simp;omega)]at ha
  cases ha
section
variable(prog:List (Nat × T))
variable{prog}
end
end
end Go.Proofs.YtglhnofjggpdjaaGreat.Eng
namespace Go.Proofs.YtglhnofjggpdjaaGreat.P
open Go.RowKit Go.Proofs.YtglhnofjggpdjaaGreat.Eng Go.Proofs.YtglhnofjggpdjaaGreat Go.Proofs.YtglhnofjggpdjaaGreat.Dat Go.Proofs.YtglhnofjggpdjaaGreat.FDat
set_option linter.unusedVariables false
set_option linter.unusedSimpArgs false
set_option linter.unusedSectionVars false
set_option maxRecDepth 10000
section
def exC:Cf:=⟨2,1,1,1,0,1,1⟩
theorem D2e:exC.ok:=by unfold RU.Cf.ok exC;decide
def A6r:PEv:=⟨1,0,0,⟨1,1,0,⟨0,0,5,1,9⟩,4⟩⟩
def A7u:PEv:=⟨3,0,0,⟨0,0,0,.zero,0⟩⟩
theorem In.z(z:Int)(h:decide (-1000≤z)&&decide (z≤1000)=true):In z:=by
 simp only[Bool.and_eq_true,decide_eq_true_eq]at h
 exact In.lit (by omega)
theorem E7l:A6r.wf:=⟨.z _ rfl,.z _ rfl,fun z hz=>by
 simp only[Tm.vs,A6r,List.mem_cons,List.not_mem_nil,or_false]at hz
 rcases hz with rfl|rfl|rfl|rfl|rfl<;>exact .z _ rfl⟩
theorem D3x:A7u.wf:=⟨.z _ rfl,.z _ rfl,fun z hz=>by
 simp only[Tm.vs,A7u,Tm.zero,List.mem_cons,List.not_mem_nil,or_false]at hz
 rcases hz with rfl|rfl|rfl|rfl|rfl<;>exact .z _ rfl⟩
def B4s:Nat→Bool × A0o→Bool × A0o
 |0,x=>x
 |n+1,(ok,P)=>B4s n (ok&&(doP P A7u).1,(doP P A7u).2)
def G9w(x:A1e):Bool:=(match x.now with|none=>true|some _=>false)&&x.queue.isEmpty
def E2u(P:A0o)(i:Int):Bool:=if i<0 then true else if i≥P.A0e.length then true else match P.A0e[i.toNat]? with
 |some x=>G9w x
 |none=>true
def E9j:List Rep→Bool
 |[r]=>r.code == 0
 |_=>false
def D9n:Bool:=(B4s 37 (doP (A1q exC) A6r)).1&&E9j (C9t (B4s 37 (doP (A1q exC) A6r)).2 0)&&E2u (B4s 37 (doP (A1q exC) A6r)).2 0&&!(doP (B4s 37 (doP (A1q exC) A6r)).2 A7u).1
section
variable{G:Nat→Option D}{L:List D}{lab:Nat→Nat}{pl w m k:Nat}{za swa rea:List Nat}{P:A0o}{n:Nat}(E:Enc G L lab pl w m k za swa rea P)
include E
theorem G5g(i:Int):FX 32 [.int (pl:Nat),.int i,.agg L]=some [.bool (E2u P i)]:=by
 have e1:(A0p za).length=P.A0e.length:=by rw[←E.zl];simp[A0p]
 have g1:(P.raw (.int (w:Nat)) (A0p za) (A0p swa) (A0p rea)).A0e=A0p za:=rfl
 rw[D2c]
 simp only[HH,E.A5r,A0c.A1j,g1,e1]
 unfold E2u
 by_cases c0:i<0
 ·simp only[c0,decide_true,if_true]
 by_cases c1:i≥P.A0e.length
 ·simp only[c0,c1,decide_true,decide_false,Bool.false_eq_true,if_false,if_true]
 have hlt:i.toNat<P.A0e.length:=by omega
 obtain⟨x,hx⟩:∃x,P.A0e[i.toNat]?=some x:=⟨_,List.getElem?_eq_getElem hlt⟩
 obtain⟨z,hz⟩:∃z,za[i.toNat]?=some z:=⟨_,List.getElem?_eq_getElem (by rw[E.zl];exact hlt)⟩
 obtain⟨s,a,q,now,h1,h2,h3,_⟩:=E.ss _ x z hx hz
 have j1:i≥0:=by omega
 have j2:i<(P.A0e.length:Int):=by omega
 have y1:(x.raw (.int (s:Nat)) now).now=now:=rfl
 have y2:(x.raw (.int (s:Nat)) now).queue=x.queue:=rfl
 have hqlen:(x.queue.map Qe.d).length=x.queue.length:=List.length_map ..
 simp only[c0,c1,decide_false,Bool.false_eq_true,if_false,j1,j2,decide_true,if_true,C7t hz,HH,h1,A0g.A1j,A0g.A1v,y1,y2,hqlen,hx]
 unfold G9w
 cases hn:x.now with
 |some y=>
  obtain⟨pr,o⟩:=y
  rw[hn]at h3
  rw[h3.1]
  simp only[A6d,Bool.false_eq_true,if_false,Bool.false_and]
 |none=>
  rw[hn]at h3
  dsimp only at h3
  rw[h3]
  simp only[B5i,if_true,Bool.true_and]
  cases x.queue with
  |nil=>rfl
  |cons q t=>
   have:(((q::t).length:Int) == 0)=false:=by simp only[List.length_cons];exact beq_eq_false_iff_ne.2 (by omega)
   rw[this];rfl
end
theorem G5o:FX 30 [.int 2,.int 1,.int 1,.int 1,.int 0,.int 1,.int 1,.int 1,.int 1,.int 0,.int 0,.int 0,.int 5,.int 1,.int 9,.int 4]=some [.int 37]:=by
 have ha:FX 44 [.int 2,.int 1,.int 1,.int 1,.int 0,.int 1,.int 1]=some [.int (A0s exC)]:=all_eq exC D2e
 have hb:FX 46 [.int 2,.int 1,.int 1,.int 1,.int 0,.int 1,.int 1,.int 0,.int 5]=some [.agg ((B1l exC 0 5).map D.int)]:=F2m exC D2e 0 5
 have h1:A0s exC=2:=rfl
 have h2:(B1l exC 0 5).map D.int=[.int 0]:=rfl
 rw[F4p,ha,hb,h1,h2]
 simp only[HH,beq_self_eq_true]
 rfl
theorem E1h{G:Nat→Option D}{pl w m k:Nat}{za swa rea:List Nat}(x0 x1 x2 x3 x4 x5 x6 x7 x8 x10 x11 x12 x13:D):∀(d j n:Nat) (ok:Bool) (L:List D) (lab:Nat→Nat) (P:A0o),j+d=37→Enc G L lab pl w m k za swa rea P→A4p P n→n+d≤1000→
  ∃L' lab' n',A4j x0 x1 x2 x3 x4 x5 x6 x7 x8 (.int (pl:Nat)) x10 x11 x12 x13 (.int 37) [.bool ok,.int (j:Nat),.agg L]=A4j x0 x1 x2 x3 x4 x5 x6 x7 x8 (.int (pl:Nat)) x10 x11 x12 x13 (.int 37) [.bool (B4s d (ok,P)).1,.int 37,.agg L']∧
   Enc G L' lab' pl w m k za swa rea (B4s d (ok,P)).2∧A4p (B4s d (ok,P)).2 n'∧n'≤1000
 |0,j,n,ok,L,lab,P,h,E,hP,hn=>by
  have:j=37:=by omega
  subst this
  exact⟨L,lab,n,rfl,E,hP,by omega⟩
 |d+1,j,n,ok,L,lab,P,h,E,hP,hn=>by
  have h1:(j:Int)<37:=by omega
  obtain⟨L1,lab1,n1,E1⟩:=E9t E hP (by omega) A7u D3x
  have P1:=C8j hP (by omega) A7u D3x
  obtain⟨L2,lab2,n2,e2,E2,P2,hn2⟩:=E1h x0 x1 x2 x3 x4 x5 x6 x7 x8 x10 x11 x12 x13 d (j+1) (n+1) (ok&&(doP P A7u).1) L1 lab1 _ (by omega) E1 P1 (by omega)
  refine⟨L2,lab2,n2,?_,E2,P2,hn2⟩
  have n1':FX 28 [.int (pl:Nat),.int 3,.int 0,.int 0,.int 0,.int 0,.int 0,.int 0,.int 0,.int 0,.int 0,.int 0,.int 0,.agg L]=some [.bool (doP P A7u).1,.agg L1]:=n1
  rw[B9n]
  simp only[D.toInt_int,h1,decide_true,if_true,n1',A0q,List.length_cons,List.length_nil,List.getD_cons_zero,List.getD_cons_succ,D.A1b]
  rw[A1a _ (by omega) (by omega)]
  cases hb:(doP P A7u).1 with
  |true=>
   rw[hb,Bool.and_true]at e2
   simp only[if_true]
   show _=A4j x0 x1 x2 x3 x4 x5 x6 x7 x8 (.int (pl:Nat)) x10 x11 x12 x13 (.int 37) [.bool (B4s d (ok&&(doP P A7u).1,(doP P A7u).2)).1,.int 37,.agg L2]
   rw[hb,Bool.and_true]
   exact e2
  |false=>
   rw[hb,Bool.and_false]at e2
   simp only[Bool.false_eq_true,if_false]
   show _=A4j x0 x1 x2 x3 x4 x5 x6 x7 x8 (.int (pl:Nat)) x10 x11 x12 x13 (.int 37) [.bool (B4s d (ok&&(doP P A7u).1,(doP P A7u).2)).1,.int 37,.agg L2]
   rw[hb,Bool.and_false]
   exact e2
theorem G2j(L:List D):∃L',FX 21 [.agg L]=some [.bool D9n,.agg L']∧Fr L L' (fun _=>False):=by
 obtain⟨L1,lab1,pl,w,m,k,za,swa,rea,n1,E1⟩:=F6p exC D2e L
 have P1:=C1u exC D2e
 have n0:=E3w exC D2e
 obtain⟨L2,lab2,n2,E2⟩:=E9t E1 P1 (by omega) A6r E7l
 have P2:=C8j P1 (by omega) A6r E7l
 have n0':FX 22 [.int 2,.int 1,.int 1,.int 1,.int 0,.int 1,.int 1]=some [.int 2,.int 1,.int 1,.int 1,.int 0,.int 1,.int 1,.nil]:=n0
 have n1':FX 18 [.int 2,.int 1,.int 1,.int 1,.int 0,.int 1,.int 1,.agg L]=some [.int (pl:Nat),.nil,.agg L1]:=n1
 have n2':FX 28 [.int (pl:Nat),.int 1,.int 0,.int 0,.int 1,.int 1,.int 0,.int 0,.int 0,.int 5,.int 1,.int 9,.int 4,.agg L1]=some [.bool (doP (A1q exC) A6r).1,.agg L2]:=n2
 have key:=fun x0 x1 x2 x3 x4 x5 x6 x7 x8 x10 x11 x12 x13=>E1h x0 x1 x2 x3 x4 x5 x6 x7 x8 x10 x11 x12 x13 37 0 1 (doP (A1q exC) A6r).1 L2 lab2 (doP (A1q exC) A6r).2 (by omega) E2 P2 (by omega)
 obtain⟨L3,lab3,n3,e3,E3,P3,hn3⟩:=key (.agg L) (.int 2) (.int 1) (.int 1) (.int 1) (.int 0) (.int 1) (.int 1) .nil .nil (.agg L1) (.bool (doP (A1q exC) A6r).1) (.agg L2)
 have hpair:(((doP (A1q exC) A6r).1,(doP (A1q exC) A6r).2):Bool × A0o)=doP (A1q exC) A6r:=rfl
 rw[hpair]at e3 E3 P3
 have hw:∃L',A4j (.agg L) (.int 2) (.int 1) (.int 1) (.int 1) (.int 0) (.int 1) (.int 1) .nil (.int (pl:Nat)) .nil (.agg L1) (.bool (doP (A1q exC) A6r).1) (.agg L2) (.int 37) [.bool (B4s 37 (doP (A1q exC) A6r)).1,.int 37,.agg L3]=some [.bool D9n,.agg L']∧Fr L L' (fun _=>False):=by
  unfold D9n
  generalize B4s 37 (doP (A1q exC) A6r)=R at*
  have r1:=F8f E3 P3.ok (by omega) 0
  have r2:=G5g E3 0
  obtain⟨L4,lab4,n4,E4⟩:=E9t E3 P3 (by omega) A7u D3x
  have n4':FX 28 [.int (pl:Nat),.int 3,.int 0,.int 0,.int 0,.int 0,.int 0,.int 0,.int 0,.int 0,.int 0,.int 0,.int 0,.agg L3]=some [.bool (doP R.2 A7u).1,.agg L4]:=n4
  have hno:¬(37:Int)<37:=by decide
  rw[B9n]
  simp only[D.toInt_int,hno,decide_false,Bool.false_eq_true,if_false,r1,A0q,List.length_cons,List.length_nil,List.getD_cons_zero,D.A1b,D.A0f]
  cases hR:R.1 with
  |false=>exact⟨L3,by simp,E3.fr⟩
  |true=>
   generalize C9t R.2 0=rs at*
   match rs with
   |[]=>exact⟨L3,by simp[E9j],E3.fr⟩
   |[r]=>
    have hc:(([r].map Rep.d).getD (0:Int).toNat D.nil)=.agg r.ds:=rfl
    have hl1:((([r].map Rep.d).length:Int) == 1)=true:=rfl
    have hl2:(0:Int)<(([r].map Rep.d).length:Int):=by simp
    simp only[if_true,hl1,hl2,decide_true,hc,D.A0f,Rep.A1j,D.toInt_int,r2,A0q,List.length_cons,List.length_nil,List.getD_cons_zero,List.getD_cons_succ,D.A1b,E9j]
    cases hcd:(r.code == 0)with
    |false=>exact⟨L3,by simp,E3.fr⟩
    |true=>
     cases hid:E2u R.2 0 with
     |false=>exact⟨L3,by simp,E3.fr⟩
     |true=>
      simp only[if_true,n4',A0q,List.length_cons,List.length_nil,List.getD_cons_zero,List.getD_cons_succ,D.A1b]
      exact⟨L4,by simp,E4.fr⟩
   |r::r'::t=>
    have hl1:((((r::r'::t).map Rep.d).length:Int) == 1)=false:=by simp only[List.map_cons,List.length_cons];exact beq_eq_false_iff_ne.2 (by omega)
    exact⟨L3,by simp only[if_true,hl1,Bool.false_eq_true,if_false];simp[E9j],E3.fr⟩
 obtain⟨L',e4,F4⟩:=hw
 refine⟨L',?_,F4⟩
 rw[E7x,n0',n1']
 simp only[A0q,List.length_cons,List.length_nil,List.getD_cons_zero,List.getD_cons_succ,B5i,A6d,Bool.not_true,Bool.false_eq_true,if_false,n2',G5o]
 exact e3.trans e4
theorem F5f:D9n=true:=by kernel_rfl
theorem G5u(L:List D):∃L',FX 21 [.agg L]=some [.bool true,.agg L']∧Fr L L' (fun _=>False):=by
 obtain⟨L',h,F⟩:=G2j L
 rw[F5f]at h
 exact⟨L',h,F⟩
theorem G7w(L:List D):∃L',FX 13 [.agg L]=some [.bool true,.agg L']∧Fr L L' (fun _=>False):=by
 obtain⟨L',h,F⟩:=G5u L
 refine⟨L',?_,F⟩
 rw[E8c,h]
 simp only[A0q,List.length_cons,List.length_nil,List.getD_cons_zero,List.getD_cons_succ]
end
end Go.Proofs.YtglhnofjggpdjaaGreat.P
namespace Go.Proofs.YtglhnofjggpdjaaGreat.RU
open Go.RowKit Go.Proofs.YtglhnofjggpdjaaGreat.Eng Go.Proofs.YtglhnofjggpdjaaGreat Go.Proofs.YtglhnofjggpdjaaGreat.Dat
set_option linter.unusedVariables false
set_option linter.unusedSimpArgs false
theorem F8v(c:Cf):FX 17 c.ds=some [.int (match A1f c.B3b 0 with|none=>-1|some (j,_)=>j)]:=by
 have s7:A9l (.int c.c0) (.int c.c1) (.int c.c2) (.int c.c3) (.int c.c4) (.int c.c5) (.int c.c6) [.int 7]=some [.int (-1)]:=by rw[A3z];simp
 have w1:IntKind.i64.wrap 1=1:=rfl
 have w2:IntKind.i64.wrap 2=2:=rfl
 have w3:IntKind.i64.wrap 3=3:=rfl
 have w4:IntKind.i64.wrap 4=4:=rfl
 have w5:IntKind.i64.wrap 5=5:=rfl
 have w6:IntKind.i64.wrap 6=6:=rfl
 have w7:IntKind.i64.wrap 7=7:=rfl
 have s6:=A3z (.int c.c0) (.int c.c1) (.int c.c2) (.int c.c3) (.int c.c4) (.int c.c5) (.int c.c6) (.int 6)
 have s5:=A3z (.int c.c0) (.int c.c1) (.int c.c2) (.int c.c3) (.int c.c4) (.int c.c5) (.int c.c6) (.int 5)
 have s4:=A3z (.int c.c0) (.int c.c1) (.int c.c2) (.int c.c3) (.int c.c4) (.int c.c5) (.int c.c6) (.int 4)
 have s3:=A3z (.int c.c0) (.int c.c1) (.int c.c2) (.int c.c3) (.int c.c4) (.int c.c5) (.int c.c6) (.int 3)
 have s2:=A3z (.int c.c0) (.int c.c1) (.int c.c2) (.int c.c3) (.int c.c4) (.int c.c5) (.int c.c6) (.int 2)
 have s1:=A3z (.int c.c0) (.int c.c1) (.int c.c2) (.int c.c3) (.int c.c4) (.int c.c5) (.int c.c6) (.int 1)
 have s0:=A3z (.int c.c0) (.int c.c1) (.int c.c2) (.int c.c3) (.int c.c4) (.int c.c5) (.int c.c6) (.int 0)
 simp[w1,w2,w3,w4,w5,w6,w7]at s0 s1 s2 s3 s4 s5 s6
 have he:FX 17 c.ds=A9l (.int c.c0) (.int c.c1) (.int c.c2) (.int c.c3) (.int c.c4) (.int c.c5) (.int c.c6) [.int 0]:=by
  unfold Cf.ds;rw[E8k]
 rw[he,s0,s1,s2,s3,s4,s5,s6,s7]
 have hgo:∀(n lo hi:Int) (i:Nat) (w:ByteArray) (l:List Lim) (r:Option (List D)),(r=some [.int (match A1f l (i+1)with|none=>-1|some (j,_)=>j)])→
   (if n<lo then some [D.int (i:Int)]else if hi<n then some [D.int (i:Int)]else r)=some [.int (match A1f (⟨w,n,lo,hi⟩::l) i with|none=>-1|some (j,_)=>j)]:=by
  intro n lo hi i w l r hr
  simp only[A1f,Lim.ok]
  by_cases h1:n<lo
  ·have:¬(lo≤n∧n≤hi):=by omega
   simp only[h1,this,if_true,if_false]
  ·rw[if_neg h1]
   by_cases h2:hi<n
   ·have:¬(lo≤n∧n≤hi):=by omega
    simp only[h2,this,if_true,if_false]
   ·have:lo≤n∧n≤hi:=by omega
    simp only[h2,this,if_true,if_false,hr,and_self]
 exact hgo _ _ _ 0 _ _ _ (hgo _ _ _ 1 _ _ _ (hgo _ _ _ 2 _ _ _ (hgo _ _ _ 3 _ _ _ (hgo _ _ _ 4 _ _ _ (hgo _ _ _ 5 _ _ _ (hgo _ _ _ 6 _ _ _ rfl))))))
end Go.Proofs.YtglhnofjggpdjaaGreat.RU
namespace Go.Proofs.YtglhnofjggpdjaaGreat.P
open Go.RowKit Go.Proofs.YtglhnofjggpdjaaGreat.Eng Go.Proofs.YtglhnofjggpdjaaGreat Go.Proofs.YtglhnofjggpdjaaGreat.Dat Go.Proofs.YtglhnofjggpdjaaGreat.FDat
set_option linter.unusedVariables false
set_option linter.unusedSimpArgs false
set_option linter.unusedSectionVars false
set_option maxRecDepth 10000
theorem D7z(c:Cf):FX 11 [.int c.c0,.int c.c1,.int c.c2,.int c.c3,.int c.c4,.int c.c5,.int c.c6]=some [.bool (RU.A1f c.B3b 0).isNone]:=by
 have h:FX 17 [.int c.c0,.int c.c1,.int c.c2,.int c.c3,.int c.c4,.int c.c5,.int c.c6]=some [.int (match RU.A1f c.B3b 0 with|none=>-1|some (j,_)=>j)]:=RU.F8v c
 rw[F5o,h]
 simp only[A0q,List.length_cons,List.length_nil,List.getD_cons_zero,D.toInt_int]
 cases RU.A1f c.B3b 0 with
 |none=>rfl
 |some x=>
  obtain⟨j,e⟩:=x
  have:¬((j:Int)<0):=by omega
  simp[this]
theorem F7d{c:Cf}(hc:c.ok):(RU.A1f c.B3b 0).isNone=true:=by rw[(RU.C0m c).2 hc];rfl
theorem F6m{c:Cf}(hc:¬c.ok):(RU.A1f c.B3b 0).isNone=false:=by
 cases h:RU.A1f c.B3b 0 with
 |none=>exact absurd ((RU.C0m c).1 h) hc
 |some x=>rfl
theorem H2c(c:Cf)(l:List D)(n:Int):FX 6 [.int c.c0,.int c.c1,.int c.c2,.int c.c3,.int c.c4,.int c.c5,.int c.c6,.agg l,.int n]=some [.bool ((RU.A1f c.B3b 0).isNone&&decide ((l.length:Int)≤n))]:=by
 rw[D6b,D7z]
 simp only[A0q,List.length_cons,List.length_nil,List.getD_cons_zero,D.A1b,D.A0f,D.toInt_int]
 cases (RU.A1f c.B3b 0).isNone
 ·rfl
 ·simp only[if_true,Bool.true_and];rfl
theorem E7d(L:List D):∃L',FX 5 [.agg L]=some [.bool true,.agg L']∧Fr L L' (fun _=>False):=by
 obtain⟨L',h,F⟩:=G7w L
 refine⟨L',?_,F⟩
 rw[D1g,h]
 simp only[A0q,List.length_cons,List.length_nil,List.getD_cons_zero,List.getD_cons_succ]
theorem F7t(c:Cf)(hc:c.ok)(es:List PEv)(mx:Int)(hes:(es.length:Int)≤mx)(hmx:mx≤10000)(hw:∀e ∈ es,e.wf)(L:List D):
  ∃L' lab pl w m k za swa rea,FX 4 [.int c.c0,.int c.c1,.int c.c2,.int c.c3,.int c.c4,.int c.c5,.int c.c6,.agg (es.map PEv.d),.int mx,.agg L]=some [.int (pl:Nat),.agg L']∧Enc (Gl L) L' lab pl w m k za swa rea (A5y (A1q c) es)∧A4p (A5y (A1q c) es) es.length:=by
 obtain⟨L',lab,pl,w,m,k,za,swa,rea,h,E,P⟩:=H1i c hc es (by omega) hw mx hes L
 have h1:¬((es.map PEv.d).length:Int)>mx:=by simp;omega
 refine⟨L',lab,pl,w,m,k,za,swa,rea,?_,E,P⟩
 rw[C0q,D7z,F7d hc]
 simp only[A0q,List.length_cons,List.length_nil,List.getD_cons_zero,List.getD_cons_succ,D.A1b,Bool.not_true,Bool.false_eq_true,if_false,D.A0f,D.toInt_int,h1,decide_false,h]
theorem H2u{c:Cf}{es:List PEv}{mx:Int}(hm:¬(c.ok∧(es.length:Int)≤mx)):((RU.A1f c.B3b 0).isNone&&decide ((es.length:Int)≤mx))=false:=by
 by_cases hc:c.ok
 ·have:¬(es.length:Int)≤mx:=fun h=>hm ⟨hc,h⟩
  simp[this]
 ·rw[F6m hc];rfl
theorem H0p(c:Cf)(es:List PEv){mx:Int}(hm:¬(c.ok∧(es.length:Int)≤mx))(L:List D):
  FX 4 [.int c.c0,.int c.c1,.int c.c2,.int c.c3,.int c.c4,.int c.c5,.int c.c6,.agg (es.map PEv.d),.int mx,.agg L]=some [.nil,.agg L]:=by
 rw[C0q,D7z]
 by_cases hc:c.ok
 ·have h1:((es.map PEv.d).length:Int)>mx:=by have:¬(es.length:Int)≤mx:=fun h=>hm ⟨hc,h⟩;simp;omega
  simp only[F7d hc,A0q,List.length_cons,List.length_nil,List.getD_cons_zero,D.A1b,Bool.not_true,Bool.false_eq_true,if_false,D.A0f,D.toInt_int,h1,decide_true,if_true]
 ·simp only[F6m hc,A0q,List.length_cons,List.length_nil,List.getD_cons_zero,D.A1b,Bool.not_false,if_true]
theorem Enc.far{G:Nat→Option D}{L L':List D}{lab:Nat→Nat}{pl w m k:Nat}{za swa rea:List Nat}{P:A0o}(E:Enc G L lab pl w m k za swa rea P)(F:Fr L L' (fun _=>False)):Enc G L' (A4h lab 0 L) pl w m k za swa rea P:=
 E.base F (E.W.fr F not_false not_false not_false) (F.get E.A5r not_false) (fun b _ h=>h.elim) rfl rfl rfl
theorem H3y(c:Cf)(es:List PEv):∀P:A0o,P.S.c=c→(∀n,A4p P n→n+es.length≤100000→(∀e ∈ es,e.wf)→(A5y P es).S.c=c):=by
 induction es with
 |nil=>intro P h n _ _ _;exact h
 |cons e es ih=>
  intro P h n hP hn hw
  have hP1:=C8j hP (by simp at hn;omega) e (hw e (List.mem_cons_self ..))
  refine ih _ ?_ (n+1) hP1 (by simp at hn;omega) (fun e' he=>hw e' (List.mem_cons_of_mem _ he))
  show(doP P e).2.S.c=c
  unfold doP
  split
  ·exact h
  split
  ·have:=(D5b (B6s hP.ok) (by simp at hn;omega) e.who).w.c
   show(A3d P.got e.who).2.S.c=c
   rw[this];exact h
  split
  ·split
   ·split<;>exact h
   split
   ·split<;>exact h
   ·exact h
  ·exact h
theorem In.of{x:Int}(h:(Lit.int .i64 x).wf=true):In x:=by
 unfold In
 simp[Lit.wf,IntKind.min,IntKind.max,IntKind.bits,IntKind.signed]at h
 omega
def i12:List Ty:=[.int .i64,.int .i64,.int .i64,.int .i64,.int .i64,.int .i64,.int .i64,.int .i64,.int .i64,.int .i64,.int .i64,.int .i64]
theorem H3o{ys:List D}(h:Open.C0b Tryz.prog i12 ys):∃e:PEv,D.agg ys=e.d∧e.wf:=by
 obtain⟨_,_,rfl,h0,_,_,rfl,h1,_,_,rfl,h2,_,_,rfl,h3,_,_,rfl,h4,_,_,rfl,h5,_,_,rfl,h6,_,_,rfl,h7,_,_,rfl,h8,_,_,rfl,h9,_,_,rfl,h10,_,_,rfl,h11,h⟩:=h
 obtain⟨a0,rfl,v0⟩:=h0.toInt
 obtain⟨a1,rfl,v1⟩:=h1.toInt
 obtain⟨a2,rfl,v2⟩:=h2.toInt
 obtain⟨a3,rfl,v3⟩:=h3.toInt
 obtain⟨a4,rfl,v4⟩:=h4.toInt
 obtain⟨a5,rfl,v5⟩:=h5.toInt
 obtain⟨a6,rfl,v6⟩:=h6.toInt
 obtain⟨a7,rfl,v7⟩:=h7.toInt
 obtain⟨a8,rfl,v8⟩:=h8.toInt
 obtain⟨a9,rfl,v9⟩:=h9.toInt
 obtain⟨a10,rfl,v10⟩:=h10.toInt
 obtain⟨a11,rfl,v11⟩:=h11.toInt
 have h:_=[]:=h
 subst h
 refine⟨⟨a0,a1,a2,⟨a3,a4,a5,⟨a6,a7,a8,a9,a10⟩,a11⟩⟩,rfl,.of v1,.of v2,fun z hz=>?_⟩
 simp only[Tm.vs,List.mem_cons,List.not_mem_nil,or_false]at hz
 rcases hz with rfl|rfl|rfl|rfl|rfl
 ·exact .of v6
 ·exact .of v7
 ·exact .of v8
 ·exact .of v9
 ·exact .of v10
theorem H4f{x0:List D}(h:Open.C0b Tryz.prog [.int .i64,.int .i64,.int .i64,.int .i64,.int .i64,.int .i64,.int .i64] x0):∃c:Cf,x0=[.int c.c0,.int c.c1,.int c.c2,.int c.c3,.int c.c4,.int c.c5,.int c.c6]:=by
 obtain⟨_,_,rfl,h0,_,_,rfl,h1,_,_,rfl,h2,_,_,rfl,h3,_,_,rfl,h4,_,_,rfl,h5,_,_,rfl,h6,h⟩:=h
 obtain⟨a0,rfl,v0⟩:=h0.toInt
 obtain⟨a1,rfl,v1⟩:=h1.toInt
 obtain⟨a2,rfl,v2⟩:=h2.toInt
 obtain⟨a3,rfl,v3⟩:=h3.toInt
 obtain⟨a4,rfl,v4⟩:=h4.toInt
 obtain⟨a5,rfl,v5⟩:=h5.toInt
 obtain⟨a6,rfl,v6⟩:=h6.toInt
 have h:_=[]:=h
 subst h
 exact⟨⟨a0,a1,a2,a3,a4,a5,a6⟩,rfl⟩
end Go.Proofs.YtglhnofjggpdjaaGreat.P
namespace Go.Proofs.YtglhnofjggpdjaaGreat.MapD
open Go.Proofs.YtglhnofjggpdjaaGreat.Eng Go.Proofs.YtglhnofjggpdjaaGreat
set_option linter.unusedVariables false
set_option linter.unusedSimpArgs false
section
section
variable{α:Type}[DecidableEq α](f:α→D)(ks:List Nat)
def ent(p:α × D):D:=.agg [f p.1,p.2]
def C0j(l:List (α × D)):List D:=l.map (ent f)
def val:List (α × D)→α→Option D
 |[],_=>none
 |p::l,k=>if k=p.1 then some p.2 else val l k
def put:List (α × D)→α→D→List (α × D)
 |[],k,v=>[(k,v)]
 |p::l,k,v=>if k=p.1 then(k,v)::l else p::put l k v
variable{f ks}
theorem E6f(hf:∀a b,keq ks (f a) (f b)=decide (a=b)):∀(l:List (α × D)) (k:α) (z:D),A8d ks (C0j f l) (f k) z=(val l k).getD z
 |[],k,z=>rfl
 |p::l,k,z=>by
  show A8d ks (ent f p::C0j f l) (f k) z=_
  rw[B5r]
  simp only[ent,D.A0f,List.getD_cons_zero,List.getD_cons_succ,hf,decide_eq_true_eq,val]
  split
  ·rfl
  ·exact E6f hf l k z
theorem E6t(hf:∀a b,keq ks (f a) (f b)=decide (a=b)):∀(l:List (α × D)) (k:α) (v:D),A8f ks (C0j f l) (f k) v=C0j f (put l k v)
 |[],k,v=>rfl
 |p::l,k,v=>by
  show A8f ks (ent f p::C0j f l) (f k) v=_
  rw[E6x]
  simp only[ent,D.A0f,List.getD_cons_zero,hf,decide_eq_true_eq,put]
  split
  ·rfl
  ·rw[E6t hf l k v];rfl
theorem C6p:∀(l:List (α × D)) (k k':α) (v:D),val (put l k v) k'=if k'=k then some v else val l k'
 |[],k,k',v=>rfl
 |p::l,k,k',v=>by
  simp only[put]
  by_cases h:k=p.1
  ·rw[if_pos h]
   simp only[val]
   by_cases e:k'=k
   ·rw[if_pos e,if_pos e]
   ·rw[if_neg e,if_neg e,if_neg (by rw[←h];exact e)]
  ·rw[if_neg h]
   simp only[val]
   by_cases e:k'=p.1
   ·rw[if_pos e,if_neg (by rw[e];exact fun q=>h q.symm),if_pos e]
   ·rw[if_neg e,C6p l k k' v,if_neg e]
end
theorem F7r(a b:Int):keq [0] (.int a) (.int b)=decide (a=b):=by
 simp only[keq,B2u,A8v,cellOf,List.length_cons,List.length_nil,if_true,Bool.and_true,D.toInt_int]
 by_cases h:a=b<;>simp[h]
end
end Go.Proofs.YtglhnofjggpdjaaGreat.MapD
namespace Go.Proofs.YtglhnofjggpdjaaGreat.P
open Go.RowKit Go.Proofs.YtglhnofjggpdjaaGreat.Eng Go.Proofs.YtglhnofjggpdjaaGreat Go.Proofs.YtglhnofjggpdjaaGreat.Dat Go.Proofs.YtglhnofjggpdjaaGreat.FDat
set_option linter.unusedVariables false
set_option linter.unusedSimpArgs false
set_option linter.unusedSectionVars false
set_option maxRecDepth 10000
section
theorem G3y(l:List D)(h:l.length≤100000000):FX 16 [.agg l]=some [.agg l]:=by
 rw[C6e]
 simp only[D.A0f]
 have h1:(l.length:Int)≤17592186044416:=by omega
 simp only[h1,decide_true,if_true]
 split
 ·rename_i h0
  rw[F1q h0,D3t]
 ·rfl
abbrev Mi:=List (Int × D)
theorem ig(l:Mi)(x:Int)(z:D):A8d [0] (MapD.C0j D.int l) (.int x) z=(MapD.val l x).getD z:=MapD.E6f (f:=D.int) (fun a b=>MapD.F7r a b) l x z
theorem ip(l:Mi)(x:Int)(v:D):A8f [0] (MapD.C0j D.int l) (.int x) v=MapD.C0j D.int (MapD.put l x v):=MapD.E6t (f:=D.int) (fun a b=>MapD.F7r a b) l x v
theorem F0u(l:Mi)(x y:Int)(v z:D):(MapD.val (MapD.put l x v) y).getD z=if y=x then v else(MapD.val l y).getD z:=by
 rw[MapD.C6p]
 split<;>rfl
def A7e(l:List Out)(v:Int):Bool:=l.any fun o=>o.ev == v&&(o.r.kind == 1&&o.r.code != 0)
theorem D4t(l:List Out)(o:Out)(v:Int):A7e (l++[o]) v=(A7e l v || (o.ev == v&&(o.r.kind == 1&&o.r.code != 0))):=by
 unfold A7e
 rw[List.any_append,List.any_cons,List.any_nil,Bool.or_false]
theorem G2m{l:List Out}{v:Int}(h:A7e l v=true):∃o ∈ l,o.ev=v∧G6s o:=by
 obtain⟨o,ho,k⟩:=List.any_eq_true.1 h
 simp only[Bool.and_eq_true,beq_iff_eq,bne_iff_ne,ne_eq]at k
 exact⟨o,ho,k.1,k.2.1,k.2.2⟩
theorem E7i(R:Int→Bool)(U:List Int):∀(l:List PEv) (i:Nat),(A7a R U i l).length≤l.length∧∀e ∈ A7a R U i l,e ∈ l
 |[],i=>⟨Nat.le_refl _,fun e h=>h⟩
 |a::l,i=>by
  obtain⟨h1,h2⟩:=E7i R U l (i+1)
  unfold A7a
  split
  ·refine⟨by simp only[List.length_cons];omega,fun e h=>?_⟩
   rcases List.mem_cons.1 h with rfl|h
   ·exact List.mem_cons_self ..
   ·exact List.mem_cons_of_mem _ (h2 e h)
  ·exact⟨by simp only[List.length_cons];omega,fun e h=>List.mem_cons_of_mem _ (h2 e h)⟩
section
variable{c:Cf}(hc:c.ok){es:List PEv}(hes:es.length≤900)(hw:∀e ∈ es,e.wf){G:Nat→Option D}{L:List D}{lab:Nat→Nat}{pl w m k:Nat}{za swa rea:List Nat}{P:A0o}(hP:P=A5y (A1q c) es)(E:Enc G L lab pl w m k za swa rea P)(at_:A4p P es.length)
include hc hes hw hP E at_
theorem H2d(sim:(A5y (A1q c) (A7a (A7e P.outs) P.A0i 0 es)).S=P.S)(x10 x11 x12 x13 x14 x15 x16 x17:D)(g0 g1:Eng.Fn):
  A1y (.int c.c0) (.int c.c1) (.int c.c2) (.int c.c3) (.int c.c4) (.int c.c5) (.int c.c6) (.agg (es.map PEv.d)) (.int (pl:Nat)) (.agg L) x10 x11 x12 x13 x14 x15 x16 x17 g0 g1 [.int (es.length:Nat),.agg ((A7a (A7e P.outs) P.A0i 0 es).map PEv.d)]=some [.bool true]:=by
 obtain⟨r1,r2⟩:=E7i (A7e P.outs) P.A0i es 0
 obtain⟨L2,lab2,p2,w2,m2,k2,z2,s2,q2,n2,E2,P2⟩:=F7t c hc (A7a (A7e P.outs) P.A0i 0 es) 900 (by omega) (by decide) (fun e he=>hw e (r2 e he)) L
 obtain⟨L3,n3,F3⟩:=E7d L2
 have E1:=(E.far E2.fr).far F3
 have E3:=E2.far F3
 have e1:=D4r E1 at_.ok (by omega)
 have e2:=D4r E3 P2.ok (by omega)
 rw[sim]at e2
 have e3:=H3k (P.S.log.map Ev.d) (by have:=at_.ok.log;simp;omega)
 have h1:¬((es.length:Nat):Int)<((es.map PEv.d).length:Int):=by simp
 rw[A9y]
 simp only[D.toInt_int,D.A0f,h1,decide_false,Bool.false_eq_true,if_false,n2,n3,e1,e2,e3,A0q,List.length_cons,List.length_nil,List.getD_cons_zero,List.getD_cons_succ,D.A1b,if_true,A6d,Bool.not_false]
theorem quo3(sim:(A5y (A1q c) (A7a (A7e P.outs) P.A0i 0 es)).S=P.S)(x10 x11 x12 x13 x14 x15:D)(mr:Mi)(hr:∀v,(MapD.val mr v).getD (.bool false)=.bool (A7e P.outs v))(g0 g1:Eng.Fn):∀(d j:Nat) (pre:List PEv),j+d=es.length→pre++A7a (A7e P.outs) P.A0i j (es.drop j)=A7a (A7e P.outs) P.A0i 0 es→pre.length≤j→
  A1y (.int c.c0) (.int c.c1) (.int c.c2) (.int c.c3) (.int c.c4) (.int c.c5) (.int c.c6) (.agg (es.map PEv.d)) (.int (pl:Nat)) (.agg L) x10 x11 x12 x13 x14 x15 (.agg (MapD.C0j D.int mr)) (.agg (P.A0i.map D.int)) g0 g1 [.int (j:Nat),.agg (pre.map PEv.d)]=some [.bool true]:=by
 intro d
 induction d with
 |zero=>
  intro j pre hj hpre hpl
  have hj:j=es.length:=by omega
  subst hj
  rw[List.drop_eq_nil_of_le (Nat.le_refl _)]at hpre
  have e:pre=A7a (A7e P.outs) P.A0i 0 es:=by rw[←hpre];exact(List.append_nil _).symm
  rw[e]
  exact H2d hc hes hw hP E at_ sim _ _ _ _ _ _ _ _ _ _
 |succ d ih=>
  intro j pre hj hpre hpl
  have hlt:j<es.length:=by omega
  have h1:(j:Int)<((es.map PEv.d).length:Int):=by simp;omega
  have h2:(j:Int)≥0:=by omega
  have hul:j<P.A0i.length:=by rw[at_.us];exact hlt
  have h3:(j:Int)<((P.A0i.map D.int).length:Int):=by simp;omega
  have gu:(P.A0i.map D.int).getD j D.nil=.int (P.A0i.getD j (-1)):=by
   rw[List.getD_eq_getElem?_getD,List.getElem?_map,List.getD_eq_getElem?_getD,List.getElem?_eq_getElem hul];rfl
  have hwj:IntKind.i64.wrap ((j:Int)+1)=((j+1:Nat):Int):=by rw[A1a _ (by omega) (by omega)];omega
  obtain⟨g0',g1',g2',g3',g4',g5',g6',g7',g8',g9',g10',g11'⟩:=PEv.G6z es[j]
  rw[List.drop_eq_getElem_cons hlt]at hpre
  have hk:A7a (A7e P.outs) P.A0i j (es[j]::es.drop (j+1))=if A7p (A7e P.outs) P.A0i j=true then es[j]::A7a (A7e P.outs) P.A0i (j+1) (es.drop (j+1))else A7a (A7e P.outs) P.A0i (j+1) (es.drop (j+1)):=by
   conv=>lhs;unfold A7a
  rw[hk]at hpre
  have drop:A7p (A7e P.outs) P.A0i j=false→_:=fun q=>ih (j+1) pre (by omega) (by rw[q,if_neg (by decide)]at hpre;exact hpre) (by omega)
  have e2:pre.map PEv.d++[D.agg [.int es[j].kind,.int es[j].who,.int es[j].n,.int es[j].ask.kind,.int es[j].ask.id,.int es[j].ask.cell,.int es[j].ask.tm.name,.int es[j].ask.tm.side,.int es[j].ask.tm.A0k,.int es[j].ask.tm.least,.int es[j].ask.tm.A1o,.int es[j].ask.qty]]=(pre++[es[j]]).map PEv.d:=by rw[List.map_append];rfl
  have e3:(((pre++[es[j]]).map PEv.d).length:Int)≤1466015503701:=by simp;omega
  have F9i:A7p (A7e P.outs) P.A0i j=true→_:=fun q=>ih (j+1) (pre++[es[j]]) (by omega) (by rw[q,if_pos rfl]at hpre;rw[List.append_assoc];exact hpre) (by simp;omega)
  rw[A9y]
  simp only[D.toInt_int,D.A0f,h1,h2,h3,decide_true,if_true,Int.toNat_natCast,E5f hlt,g0',g1',g2',g3',g4',g5',g6',g7',g8',g9',g10',g11',ig,hr,D.A1b,gu,hwj,e2,e3]
  cases ha:A7e P.outs (j:Int)with
  |true=>
   simp only[if_true]
   exact drop (by unfold A7p;rw[ha];rfl)
  |false=>
   simp only[Bool.false_eq_true,if_false]
   by_cases hb:P.A0i.getD j (-1)≥0
   ·simp only[hb,decide_true,if_true]
    cases hd:A7e P.outs (P.A0i.getD j (-1))with
    |true=>
     simp only[if_true]
     exact drop (by unfold A7p;rw[hd,decide_eq_true (show 0≤P.A0i.getD j (-1)from hb)];cases A7e P.outs (j:Int)<;>rfl)
    |false=>
     simp only[Bool.false_eq_true,if_false]
     exact F9i (by unfold A7p;rw[ha,hd,Bool.and_false];rfl)
   ·simp only[hb,decide_false,Bool.false_eq_true,if_false]
    exact F9i (by unfold A7p;rw[ha,decide_eq_false (show ¬0≤P.A0i.getD j (-1)from hb)];rfl)
theorem quo2(sim:(A5y (A1q c) (A7a (A7e P.outs) P.A0i 0 es)).S=P.S)(li:LI P)(x10 x11 x12:D)(g0:Eng.Fn):∀(d j:Nat) (ml mr:Mi),j+d=P.outs.length→
  (∀p,∃z:Int,(MapD.val ml p).getD (.int 0)=.int z∧(z=0∨∃o ∈ P.outs.take j,B8f o∧o.part=p∧o.r.id=z))→(∀v,(MapD.val mr v).getD (.bool false)=.bool (A7e (P.outs.take j) v))→
  A2q (.int c.c0) (.int c.c1) (.int c.c2) (.int c.c3) (.int c.c4) (.int c.c5) (.int c.c6) (.agg (es.map PEv.d)) (.int (pl:Nat)) (.agg L) x10 x11 x12 (.agg (P.outs.map Out.d)) g0 [.int (j:Nat),.agg (MapD.C0j D.int ml),.agg (MapD.C0j D.int mr)]=some [.bool true]:=by
 have ho:=at_.ok.outs
 intro d
 induction d with
 |zero=>
  intro j ml mr hj h1 h2
  have n1:¬(j:Int)<((P.outs.map Out.d).length:Int):=by simp;omega
  rw[List.take_of_length_le (by omega)]at h2
  have g6:(P.raw (.int (w:Nat)) (A0p za) (A0p swa) (A0p rea)).A0i=P.A0i:=rfl
  have hu:=at_.us
  have u:FX 9 [.int (pl:Nat),.agg L]=some [.agg (P.A0i.map D.int)]:=by
   rw[D3n]
   simp only[HH,E.A5r,A0c.A4q,g6,G3y (P.A0i.map D.int) (by simp;omega)]
  rw[B0d]
  simp only[D.toInt_int,D.A0f,n1,decide_false,Bool.false_eq_true,if_false,u,A0q,List.length_cons,List.length_nil,List.getD_cons_zero]
  exact quo3 hc hes hw hP E at_ sim _ _ _ _ _ _ mr h2 _ _ es.length 0 [] (by omega) rfl (Nat.le_refl _)
 |succ d ih=>
  intro j ml mr hj h1 h2
  have hlt:j<P.outs.length:=by omega
  have n1:(j:Int)<((P.outs.map Out.d).length:Int):=by simp;omega
  have n2:(j:Int)≥0:=by omega
  have hg:(P.outs.map Out.d).getD j D.nil=.agg (P.outs[j]).ds:=by
   rw[List.getD_eq_getElem?_getD,List.getElem?_map,List.getElem?_eq_getElem hlt];rfl
  have hwj:IntKind.i64.wrap ((j:Int)+1)=((j+1:Nat):Int):=by rw[A1a _ (by omega) (by omega)];omega
  have htk:P.outs.take (j+1)=P.outs.take j++[P.outs[j]]:=List.take_succ_eq_append_getElem hlt
  have hmem:P.outs[j] ∈ P.outs:=List.getElem_mem hlt
  have before:∀o ∈ P.outs.take j,B8f o→B8f P.outs[j]→o.part=P.outs[j].part→o.r.id<P.outs[j].r.id:=by
   intro o hoj go gj e
   have pw:=li.pw
   have sp:P.outs=P.outs.take j++P.outs[j]::P.outs.drop (j+1):=by rw[←List.drop_eq_getElem_cons hlt,List.take_append_drop]
   rw[sp,List.pairwise_append]at pw
   exact pw.2.2 o hoj _ (List.mem_cons_self ..) e go gj
  have pos:=li.pos _ hmem
  have nx:=fun ml mr a b=>ih (j+1) ml mr (by omega) a b
  rw[htk]at nx
  have grow:∀z p,(z=0∨∃o ∈ P.outs.take j,B8f o∧o.part=p∧o.r.id=z)→(z=0∨∃o ∈ P.outs.take j++[P.outs[j]],B8f o∧o.part=p∧o.r.id=z):=fun z p h=>h.imp id fun⟨o,a,b⟩=>⟨o,List.mem_append_left _ a,b⟩
  generalize P.outs[j]=o at*
  rw[B0d]
  simp only[D.toInt_int,D.A0f,n1,n2,decide_true,if_true,Int.toNat_natCast,hg,Out.len,Out.A1l,Out.A1j,Out.A1v,Out.A2b,Out.A1w,Out.A3g,Out.A4q,Out.A7r,Out.A5t,Out.A5u,Out.B2n,Out.A9i,Out.A8u,Out.A9f,Out.B2g,hwj,ig,ip]
  obtain⟨z,hz,hz2⟩:=h1 o.part
  by_cases k1:o.r.kind=1
  ·have b1:(o.r.kind != 1)=false:=by simp[k1]
   by_cases k2:o.r.code=0
   ·have b2:(o.r.code != 0)=false:=by simp[k2]
    have gd:B8f o:=⟨k1,k2⟩
    have lt:¬o.r.id≤z:=by
     rcases hz2 with hz2|⟨o',a,b,e,f⟩
     ·have:=pos gd;omega
     ·have:=before o' a b gd e;omega
    simp only[b1,b2,Bool.false_eq_true,if_false,hz,D.toInt_int,lt,decide_false]
    refine nx _ _ (fun p=>?_) (fun v=>?_)
    ·by_cases e:p=o.part
     ·exact⟨o.r.id,by rw[F0u,if_pos e],.inr ⟨o,List.mem_append_right _ (List.mem_singleton.2 rfl),gd,e.symm,rfl⟩⟩
     ·obtain⟨z',a,b⟩:=h1 p
      exact⟨z',by rw[F0u,if_neg e];exact a,grow _ _ b⟩
    ·rw[h2,D4t,b2,Bool.and_false,Bool.and_false,Bool.or_false]
   ·have b2:(o.r.code != 0)=true:=by simp[k2]
    simp only[b1,b2,Bool.false_eq_true,if_false,if_true]
    refine nx _ _ (fun p=>?_) (fun v=>?_)
    ·obtain⟨z',a,b⟩:=h1 p
     exact⟨z',a,grow _ _ b⟩
    ·have kk:(o.r.kind == 1)=true:=by simp[k1]
     rw[F0u,D4t,b2,kk,Bool.and_true,Bool.and_true]
     by_cases e:v=o.ev
     ·rw[if_pos e,e,beq_self_eq_true,Bool.or_true]
     ·rw[if_neg e,h2]
      have:(o.ev == v)=false:=by simpa using fun q:o.ev=v=>e q.symm
      rw[this,Bool.or_false]
  ·have b1:(o.r.kind != 1)=true:=by simp[k1]
   have kk:(o.r.kind == 1)=false:=by simp[k1]
   simp only[b1,if_true]
   refine nx _ _ (fun p=>?_) (fun v=>?_)
   ·obtain⟨z',a,b⟩:=h1 p
    exact⟨z',a,grow _ _ b⟩
   ·rw[h2,D4t,kk,Bool.false_and,Bool.and_false,Bool.or_false]
theorem quo1(sim:(A5y (A1q c) (A7a (A7e P.outs) P.A0i 0 es)).S=P.S)(li:LI P)(evs:List Ev)(hl:evs.length≤1000000):∀(d j:Nat) (f:Int→Int) (mg:Mi),j+d=evs.length→D9k c f (evs.drop j)→(∀x,0≤f x∧f x≤j)→(∀x,(MapD.val mg x).getD (.int 0)=.int (f x))→
  A3q (.int c.c0) (.int c.c1) (.int c.c2) (.int c.c3) (.int c.c4) (.int c.c5) (.int c.c6) (.agg (es.map PEv.d)) (.int (pl:Nat)) (.agg L) (.agg (evs.map Ev.d)) [.int (j:Nat),.agg (MapD.C0j D.int mg)]=some [.bool true]:=by
 intro d
 induction d with
 |zero=>
  intro j f mg hj hG hf h1
  have n1:¬(j:Int)<((evs.map Ev.d).length:Int):=by simp;omega
  rw[B0c]
  simp only[D.toInt_int,D.A0f,n1,decide_false,Bool.false_eq_true,if_false,F7y E at_.ok (show es.length≤100000000 by omega),A0q,List.length_cons,List.length_nil,List.getD_cons_zero]
  exact quo2 hc hes hw hP E at_ sim li _ _ _ _ P.outs.length 0 [] [] (by omega) (fun p=>⟨0,rfl,.inl rfl⟩) (fun v=>rfl)
 |succ d ih=>
  intro j f mg hj hG hf h1
  have hlt:j<evs.length:=by omega
  have n1:(j:Int)<((evs.map Ev.d).length:Int):=by simp;omega
  have n2:(j:Int)≥0:=by omega
  have hg:(evs.map Ev.d).getD j D.nil=.agg (evs[j]).ds:=by
   rw[List.getD_eq_getElem?_getD,List.getElem?_map,List.getElem?_eq_getElem hlt];rfl
  have hwj:IntKind.i64.wrap ((j:Int)+1)=((j+1:Nat):Int):=by rw[A1a _ (by omega) (by omega)];omega
  rw[List.drop_eq_getElem_cons hlt]at hG
  obtain⟨g1,g2⟩:=hG
  generalize evs[j]=e at*
  rw[B0c]
  simp only[D.toInt_int,D.A0f,n1,n2,decide_true,if_true,Int.toNat_natCast,hg,Ev.len,Ev.A1l,Ev.A1j,Ev.A1v,Ev.A2b,Ev.A1w,Ev.A3g,Ev.A4q,Ev.A7r,Ev.A5t,Ev.A5u,Ev.B2n,Ev.A9i,Ev.A8u,Ev.A9f,hwj,ig,ip,h1]
  have fe:=hf e.cell
  have we:IntKind.i64.wrap (f e.cell+1)=f e.cell+1:=A1a _ (by omega) (by omega)
  by_cases k1:e.kind=1
  ·obtain⟨a1,a2⟩:=g1 k1
   have b2:(e.gen != f e.cell+1)=false:=by simp[a1]
   have b3:¬e.gen>c.c6:=by omega
   rw[if_pos k1]at g2
   simp only[k1,beq_self_eq_true,if_true,F0u,we,D.toInt_int,b2,Bool.false_eq_true,if_false,b3,decide_false]
   refine ih (j+1) _ _ (by omega) g2 (fun x=>?_) (fun x=>?_)
   ·have:=hf x
    split<;>omega
   ·rw[F0u,h1]
    split
    ·rename_i q;rw[q]
    ·rfl
  ·have b1:(e.kind == 1)=false:=by simpa using k1
   rw[if_neg k1]at g2
   simp only[b1,Bool.false_eq_true,if_false]
   exact ih (j+1) f mg (by omega) g2 (fun x=>by have:=hf x;omega) h1
end
theorem H3l(c:Cf)(es:List PEv)(hw:∀e ∈ es,e.wf):FX 3 [.int c.c0,.int c.c1,.int c.c2,.int c.c3,.int c.c4,.int c.c5,.int c.c6,.agg (es.map PEv.d)]=some [.bool true]:=by
 rw[C3u]
 by_cases hm:c.ok∧(es.length:Int)≤900
 ·obtain⟨hc,hes⟩:=hm
  obtain⟨L1,lab1,p1,w1,m1,k1,z1,s1,r1,n1,E1,P1⟩:=F7t c hc es 900 hes (by decide) hw []
  have hPc:=H3y c es (A1q c) rfl 0 (C1u c hc) (by omega) hw
  have gi:=H2h es (C1u c hc) (E4o c hc) (H2r c) (by omega) hw
  have hWK:∀j e,es[j]?=some e→(fun v:Int=>((es[v.toNat]?).map PEv.who).getD 0) (0+j:Nat)=e.who∧(fun v:Int=>((es[v.toNat]?).map PEv.kind).getD 0) (0+j:Nat)=e.kind:=fun j e he=>by
   dsimp only
   rw[Nat.zero_add,Int.toNat_natCast,he];exact⟨rfl,rfl⟩
  obtain⟨q1,q2,q3⟩:=H4a (W:=fun v:Int=>((es[v.toNat]?).map PEv.who).getD 0) (K:=fun v:Int=>((es[v.toNat]?).map PEv.kind).getD 0) c
  have rq:=G9p es (C1u c hc) (E4o c hc) q1 q2 q3 (by omega) hw hWK
  have sim:=(H0y (R:=A7e (A5y (A1q c) es).outs) (A5y (A1q c) es).A0i es (C1u c hc) (E4o c hc) q1 q2 q3 (Sim.new c) (by omega) hw hWK (fun v hv=>G2m hv) rfl).S
  have hG:=gi.log
  rw[hPc]at hG
  obtain⟨P,hP⟩:∃P,P=A5y (A1q c) es:=⟨_,rfl⟩
  rw[←hP]at E1 P1 hG rq sim
  have v:=D4r E1 P1.ok (by omega)
  have li:=rq.l
  simp only[n1,A0q,List.length_cons,List.length_nil,List.getD_cons_zero,List.getD_cons_succ,A6d,Bool.false_eq_true,if_false,v]
  exact quo1 hc (by omega) hw hP E1 P1 sim li P.S.log (by have:=P1.ok.log;omega) P.S.log.length 0 _ [] (by omega) hG (fun x=>⟨Int.le_refl _,Int.le_refl _⟩) (fun x=>rfl)
 ·obtain⟨L',h,_⟩:=E7d []
  rw[H0p c es hm []]
  simp only[A0q,List.length_cons,List.length_nil,List.getD_cons_zero,List.getD_cons_succ,B5i,if_true,h,D.A1b,H2c,List.length_map,H2u hm,Bool.not_false]
theorem F8d(x0:List D)(x1:D)(w0:Open.C0b Tryz.prog [.int .i64,.int .i64,.int .i64,.int .i64,.int .i64,.int .i64,.int .i64] x0)(w1:Open.Wf Tryz.prog (.slice 52) x1):FX 3 (x0++[x1])=some [.bool true]:=by
 obtain⟨c,rfl⟩:=H4f w0
 obtain⟨es,rfl,_,hw⟩:=w1.structs (f:=PEv.d) (Q:=PEv.wf) (ts:=i12) (by kernel_rfl) (by decide) (fun ys hy=>H3o hy)
 exact H3l c es hw
end
end Go.Proofs.YtglhnofjggpdjaaGreat.P
