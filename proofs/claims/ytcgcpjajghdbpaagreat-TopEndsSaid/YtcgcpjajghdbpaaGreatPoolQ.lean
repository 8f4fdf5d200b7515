import Derived.Test.YtcgcpjajghdbpaaGreatPoolP
namespace Go.Proofs.YtcgcpjajghdbpaaGreat.P
open Go.RowKit Go.Proofs.YtcgcpjajghdbpaaGreat.Eng Go.Proofs.YtcgcpjajghdbpaaGreat Go.Proofs.YtcgcpjajghdbpaaGreat.Dat Go.Proofs.YtcgcpjajghdbpaaGreat.FDat
set_option linter.unusedVariables false
set_option linter.unusedSimpArgs false
set_option linter.unusedSectionVars false
set_option maxRecDepth 10000
structure Sess where
 se:SeatS
 queue:List Qe
 now:Option (PrS × Option PairS)
 ev:Int
 tape:List Dr
 taken:Int
structure Pool where
 S:WS
 sess:List Sess
 sw:List (SwS × Option PairS)
 re:List ReS
 events:Int
 outs:List Out
 uses:List Int
 lines:List Int
def ptrL(l:List Nat):List D:=l.map fun(z:Nat)=>D.int (z:Int)
def Sess.raw(x:Sess)(s now:D):SessS:=⟨s,x.queue,now,x.ev,x.tape,x.taken⟩
def Pool.raw(P:Pool)(w:D)(za swa rea:List D):PoolS:=⟨w,za,swa,rea,P.events,P.outs,P.uses,P.lines⟩
def SessIn(L:List D)(lab:Nat→Nat)(n pl z:Nat)(x:Sess):Prop:=∃(s a q:Nat) (now:D),
 L.getD z D.nil=.agg (x.raw (.int (s:Nat)) now).ds∧L.getD s D.nil=.agg x.se.ds∧
 (match x.now with
  |none=>now=.nil
  |some (pr,o)=>now=.int (a:Nat)∧∃ptr,L.getD a D.nil=.agg (pr.at ptr (drawD z pl)).ds∧PP L q ptr o)∧
 (lab z=n∧lab s=n∧lab a=n∧lab q=n)∧a<L.length∧q<L.length
def SwIn(L:List D)(lab:Nat→Nat)(n b:Nat)(x:SwS × Option PairS):Prop:=∃(q:Nat) (ptr:D),
 L.getD b D.nil=.agg (x.1.at ptr).ds∧PP L q ptr x.2∧(lab b=n∧lab q=n)∧q<L.length
def ReIn(L:List D)(lab:Nat→Nat)(n b:Nat)(x:ReS):Prop:=L.getD b D.nil=.agg x.ds∧lab b=n
structure Enc(G L:List D)(lab:Nat→Nat)(pl w m k:Nat)(za swa rea:List Nat)(P:Pool):Prop where
 W:InW L w m k P.S
 pool:L.getD pl D.nil=.agg (P.raw (.int (w:Nat)) (ptrL za) (ptrL swa) (ptrL rea)).ds
 l0:lab pl=0∧lab w=0∧lab m=0∧lab k=0
 zl:za.length=P.sess.length
 swl:swa.length=P.sw.length
 rel:rea.length=P.re.length
 ss:∀i x z,P.sess[i]?=some x→za[i]?=some z→SessIn L lab (4*i+1) pl z x
 sw:∀i x z,P.sw[i]?=some x→swa[i]?=some z→SwIn L lab (4*i+2) z x
 re:∀i x z,P.re[i]?=some x→rea[i]?=some z→ReIn L lab (4*i+3) z x
 gl:G.length≤L.length
 pre:∀b,b<G.length→lab b=4∧L.getD b D.nil=G.getD b D.nil
def labN(lab:Nat→Nat)(n:Nat)(L:List D)(x:Nat):Nat:=if x<L.length then lab x else n
section
variable{L L':List D}{lab:Nat→Nat}{n n' pl z:Nat}{T:Nat→Prop}(F:Fr L L' T)
include F
theorem A0p{x:Nat}(h:x<L.length):labN lab n' L x=lab x:=if_pos h
theorem SessIn.fr{x:Sess}(h:SessIn L lab n pl z x)(hT:∀b,b<L.length→lab b=n→¬T b):SessIn L' (labN lab n' L) n pl z x:=by
 obtain⟨s,a,q,now,h1,h2,h3,⟨l1,l2,l3,l4⟩,h4,h5⟩:=h
 have hz:=lt_of h1
 have hs:=lt_of h2
 refine⟨s,a,q,now,F.get h1 (hT _ hz l1),F.get h2 (hT _ hs l2),?_,⟨by rw[A0p F hz];exact l1,by rw[A0p F hs];exact l2,by rw[A0p F h4];exact l3,by rw[A0p F h5];exact l4⟩,Nat.lt_of_lt_of_le h4 F.1,Nat.lt_of_lt_of_le h5 F.1⟩
 cases hn:x.now with
 |none=>rw[hn]at h3;exact h3
 |some y=>
  obtain⟨pr,o⟩:=y
  rw[hn]at h3
  obtain⟨g1,ptr,g2,g3⟩:=h3
  exact⟨g1,ptr,F.get g2 (hT _ h4 l3),g3.ext fun P _=>F.2 q h5 (hT _ h5 l4)⟩
theorem SwIn.fr{x:SwS × Option PairS}{b:Nat}(h:SwIn L lab n b x)(hT:∀b,b<L.length→lab b=n→¬T b):SwIn L' (labN lab n' L) n b x:=by
 obtain⟨q,ptr,h1,h2,⟨l1,l2⟩,h5⟩:=h
 have hz:=lt_of h1
 exact⟨q,ptr,F.get h1 (hT _ hz l1),h2.ext fun P _=>F.2 q h5 (hT _ h5 l2),⟨by rw[A0p F hz];exact l1,by rw[A0p F h5];exact l2⟩,Nat.lt_of_lt_of_le h5 F.1⟩
theorem ReIn.fr{x:ReS}{b:Nat}(h:ReIn L lab n b x)(hT:∀b,b<L.length→lab b=n→¬T b):ReIn L' (labN lab n' L) n b x:=by
 obtain⟨h1,l1⟩:=h
 have hz:=lt_of h1
 exact⟨F.get h1 (hT _ hz l1),by rw[A0p F hz];exact l1⟩
end
theorem InW.lt{L:List D}{w m k:Nat}{S:WS}(W:InW L w m k S):w<L.length∧m<L.length∧k<L.length:=by
 obtain⟨M,hM,_⟩:=W.m
 exact⟨lt_of W.w,lt_of hM,lt_of W.k⟩
section
variable{G L L':List D}{lab:Nat→Nat}{pl w m k:Nat}{za swa rea:List Nat}{P P':Pool}{T:Nat→Prop}(E:Enc G L lab pl w m k za swa rea P)(F:Fr L L' T)
 (W':InW L' w m k P'.S) (hp:L'.getD pl D.nil=.agg (P'.raw (.int (w:Nat)) (ptrL za) (ptrL swa) (ptrL rea)).ds)
include E F W' hp
theorem lab0(n:Nat):labN lab n L pl=0∧labN lab n L w=0∧labN lab n L m=0∧labN lab n L k=0:=by
 obtain⟨h1,h2,h3⟩:=E.W.lt
 obtain⟨l1,l2,l3,l4⟩:=E.l0
 rw[A0p F (lt_of E.pool),A0p F h1,A0p F h2,A0p F h3]
 exact⟨l1,l2,l3,l4⟩
omit W' hp in
theorem Enc.pre'(n:Nat)(hT:∀b,b<L.length→T b→lab b≠4):G.length≤L'.length∧∀b,b<G.length→labN lab n L b=4∧L'.getD b D.nil=G.getD b D.nil:=by
 refine⟨Nat.le_trans E.gl F.1,fun b hb=>?_⟩
 obtain⟨p1,p2⟩:=E.pre b hb
 have hbl:=Nat.lt_of_lt_of_le hb E.gl
 exact⟨by rw[A0p F hbl];exact p1,(F.2 b hbl fun ht=>hT b hbl ht p1).trans p2⟩
theorem Enc.sess{i z:Nat}{x':Sess}(hT:∀b,b<L.length→T b→lab b=4*i+1∨lab b=0)(hz:za[i]?=some z)(hx:SessIn L' (labN lab (4*i+1) L) (4*i+1) pl z x')
  (h1:P'.sess=P.sess.set i x') (h2:P'.sw=P.sw) (h3:P'.re=P.re):Enc G L' (labN lab (4*i+1) L) pl w m k za swa rea P':=by
 have hno:∀n,n≠4*i+1→n≠0→∀b,b<L.length→lab b=n→¬T b:=fun n n1 n2 b hb hl ht=>by
  rcases hT b hb ht with h|h<;>omega
 refine⟨W',hp,lab0 E F W' hp _,by rw[h1];simpa using E.zl,by rw[h2];exact E.swl,by rw[h3];exact E.rel,fun j y zj hy hzj=>?_,fun j y zj hy hzj=>?_,fun j y zj hy hzj=>?_,(E.pre' F (4*i+1) fun b hb ht=>by have:=hT b hb ht;omega).1,(E.pre' F (4*i+1) fun b hb ht=>by have:=hT b hb ht;omega).2⟩
 ·rw[h1,List.getElem?_set]at hy
  by_cases hj:i=j
  ·subst hj
   rw[if_pos rfl]at hy
   split at hy
   ·cases hy
    rw[hz]at hzj;cases hzj
    exact hx
   ·cases hy
  ·rw[if_neg hj]at hy
   exact(E.ss j y zj hy hzj).fr F (hno _ (by omega) (by omega))
 ·rw[h2]at hy
  exact(E.sw j y zj hy hzj).fr F (hno _ (by omega) (by omega))
 ·rw[h3]at hy
  exact(E.re j y zj hy hzj).fr F (hno _ (by omega) (by omega))
theorem Enc.swp{i z:Nat}{x':SwS × Option PairS}(hT:∀b,b<L.length→T b→lab b=4*i+2∨lab b=0)(hz:swa[i]?=some z)(hx:SwIn L' (labN lab (4*i+2) L) (4*i+2) z x')
  (h1:P'.sess=P.sess) (h2:P'.sw=P.sw.set i x') (h3:P'.re=P.re):Enc G L' (labN lab (4*i+2) L) pl w m k za swa rea P':=by
 have hno:∀n,n≠4*i+2→n≠0→∀b,b<L.length→lab b=n→¬T b:=fun n n1 n2 b hb hl ht=>by
  rcases hT b hb ht with h|h<;>omega
 refine⟨W',hp,lab0 E F W' hp _,by rw[h1];exact E.zl,by rw[h2];simpa using E.swl,by rw[h3];exact E.rel,fun j y zj hy hzj=>?_,fun j y zj hy hzj=>?_,fun j y zj hy hzj=>?_,(E.pre' F (4*i+2) fun b hb ht=>by have:=hT b hb ht;omega).1,(E.pre' F (4*i+2) fun b hb ht=>by have:=hT b hb ht;omega).2⟩
 ·rw[h1]at hy
  exact(E.ss j y zj hy hzj).fr F (hno _ (by omega) (by omega))
 ·rw[h2,List.getElem?_set]at hy
  by_cases hj:i=j
  ·subst hj
   rw[if_pos rfl]at hy
   split at hy
   ·cases hy
    rw[hz]at hzj;cases hzj
    exact hx
   ·cases hy
  ·rw[if_neg hj]at hy
   exact(E.sw j y zj hy hzj).fr F (hno _ (by omega) (by omega))
 ·rw[h3]at hy
  exact(E.re j y zj hy hzj).fr F (hno _ (by omega) (by omega))
theorem Enc.rep{i z:Nat}{x':ReS}(hT:∀b,b<L.length→T b→lab b=4*i+3∨lab b=0)(hz:rea[i]?=some z)(hx:ReIn L' (labN lab (4*i+3) L) (4*i+3) z x')
  (h1:P'.sess=P.sess) (h2:P'.sw=P.sw) (h3:P'.re=P.re.set i x'):Enc G L' (labN lab (4*i+3) L) pl w m k za swa rea P':=by
 have hno:∀n,n≠4*i+3→n≠0→∀b,b<L.length→lab b=n→¬T b:=fun n n1 n2 b hb hl ht=>by
  rcases hT b hb ht with h|h<;>omega
 refine⟨W',hp,lab0 E F W' hp _,by rw[h1];exact E.zl,by rw[h2];exact E.swl,by rw[h3];simpa using E.rel,fun j y zj hy hzj=>?_,fun j y zj hy hzj=>?_,fun j y zj hy hzj=>?_,(E.pre' F (4*i+3) fun b hb ht=>by have:=hT b hb ht;omega).1,(E.pre' F (4*i+3) fun b hb ht=>by have:=hT b hb ht;omega).2⟩
 ·rw[h1]at hy
  exact(E.ss j y zj hy hzj).fr F (hno _ (by omega) (by omega))
 ·rw[h2]at hy
  exact(E.sw j y zj hy hzj).fr F (hno _ (by omega) (by omega))
 ·rw[h3,List.getElem?_set]at hy
  by_cases hj:i=j
  ·subst hj
   rw[if_pos rfl]at hy
   split at hy
   ·cases hy
    rw[hz]at hzj;cases hzj
    exact hx
   ·cases hy
  ·rw[if_neg hj]at hy
   exact(E.re j y zj hy hzj).fr F (hno _ (by omega) (by omega))
end
theorem D8j(x:Sess)(P:Pool)(s now w:D)(za swa rea:List D)(s' now' w':D)(za' swa' rea':List D):
  takeN (x.raw s now) (P.raw w za swa rea)=((takeN (x.raw s' now') (P.raw w' za' swa' rea')).1,{(takeN (x.raw s' now') (P.raw w' za' swa' rea')).2.1 with s:=s,now:=now},{(takeN (x.raw s' now') (P.raw w' za' swa' rea')).2.2 with w:=w,sess:=za,sweeps:=swa,reaps:=rea}):=by
 unfold takeN
 by_cases h:x.taken=(x.tape.length:Int)
 ·have h1:(x.raw s now).taken=((x.raw s now).tape.length:Int):=h
  have h2:(x.raw s' now').taken=((x.raw s' now').tape.length:Int):=h
  rw[if_pos h1,if_pos h2];rfl
 ·have h1:¬(x.raw s now).taken=((x.raw s now).tape.length:Int):=h
  have h2:¬(x.raw s' now').taken=((x.raw s' now').tape.length:Int):=h
  rw[if_neg h1,if_neg h2];rfl
def Sess.nl(x:Sess):SessS:=x.raw .nil .nil
def Pool.nl(P:Pool):PoolS:=P.raw .nil [] [] []
def SessS.at(x:SessS)(s now:D):SessS:={x with s:=s,now:=now}
def PoolS.at(x:PoolS)(w:D)(za swa rea:List D):PoolS:={x with w:=w,sess:=za,sweeps:=swa,reaps:=rea}
theorem C4c(n:Int)(o:Option PairS)(ss:SessS)(po:PoolS)(S:WS)(f:SessS→SessS)(g:PoolS→PoolS):runO n o (f ss) (g po) S={runO n o ss po S with ss:=f (runO n o ss po S).ss,po:=g (runO n o ss po S).po}:=by
 unfold runO
 cases o with
 |none=>rfl
 |some P=>
  dsimp only
  split<;>rfl
theorem D7y(pr:PrS)(o:Option PairS)(se:SeatS)(x:Sess)(P:Pool)(S:WS)(s now w:D)(za swa rea:List D):
  stepA pr o se (x.raw s now) (P.raw w za swa rea) S={stepA pr o se x.nl P.nl S with ss:=(stepA pr o se x.nl P.nl S).ss.at s now,po:=(stepA pr o se x.nl P.nl S).po.at w za swa rea}:=by
 have e1:x.raw s now=x.nl.at s now:=rfl
 have e2:P.raw w za swa rea=P.nl.at w za swa rea:=rfl
 have ht:tryP pr o (x.raw s now) (P.raw w za swa rea) S={tryP pr o x.nl P.nl S with ss:=(tryP pr o x.nl P.nl S).ss.at s now,po:=(tryP pr o x.nl P.nl S).po.at w za swa rea}:=by
  unfold tryP
  have hk:=D8j x P s now w za swa rea .nil .nil .nil [] [] []
  rw[hk]
  by_cases c0:doneO o=true∧pr.n<(pr.aims.length:Int)
  ·rw[if_pos c0,if_pos c0]
   by_cases c1:(atA pr.aims pr.n).way=1
   ·rw[if_pos c1,if_pos c1]
    exact C4c _ _ (takeN x.nl P.nl).2.1 (takeN x.nl P.nl).2.2 S (fun y=>y.at s now) (fun y=>y.at w za swa rea)
   ·rw[if_neg c1,if_neg c1]
    exact C4c _ _ x.nl P.nl S (fun y=>y.at s now) (fun y=>y.at w za swa rea)
  ·rw[if_neg c0,if_neg c0]
   exact C4c _ _ x.nl P.nl S (fun y=>y.at s now) (fun y=>y.at w za swa rea)
 unfold stepA
 split
 ·unfold submitA
  split
  ·rfl
  ·rw[ht]
   unfold submitR
   dsimp only
   split
   ·rfl
   ·split<;>rfl
 split
 ·rfl
 split
 ·rfl
 split<;>rfl
end Go.Proofs.YtcgcpjajghdbpaaGreat.P
