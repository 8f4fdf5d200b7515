import Derived.Test.YtcgcpjajghdbpaaGreatPoolX
namespace Go.Proofs.YtcgcpjajghdbpaaGreat.P
open Go.RowKit Go.Proofs.YtcgcpjajghdbpaaGreat.Eng Go.Proofs.YtcgcpjajghdbpaaGreat Go.Proofs.YtcgcpjajghdbpaaGreat.Dat Go.Proofs.YtcgcpjajghdbpaaGreat.FDat
set_option linter.unusedVariables false
set_option linter.unusedSimpArgs false
set_option linter.unusedSectionVars false
set_option maxRecDepth 10000
structure Part(G L:List D)(lab:Nat→Nat)(w m k:Nat)(S:WS)(za swa rea:List Nat)(ss:List Sess)(sw:List (SwS × Option PairS))(re:List ReS):Prop where
 W:InW L w m k S
 l0:lab w=0∧lab m=0∧lab k=0
 zl:za.length=ss.length
 swl:swa.length=sw.length
 rel:rea.length=re.length
 ss:∀i x z,ss[i]?=some x→za[i]?=some z→∀pl,SessIn L lab (4*i+1) pl z x
 sw:∀i x z,sw[i]?=some x→swa[i]?=some z→SwIn L lab (4*i+2) z x
 re:∀i x z,re[i]?=some x→rea[i]?=some z→ReIn L lab (4*i+3) z x
 gl:G.length≤L.length
 pre:∀b,b<G.length→lab b=4∧L.getD b D.nil=G.getD b D.nil
section
variable{G L L':List D}{lab:Nat→Nat}{w m k:Nat}{S:WS}{za swa rea:List Nat}{ss:List Sess}{sw:List (SwS × Option PairS)}{re:List ReS}(Q:Part G L lab w m k S za swa rea ss sw re)
include Q
theorem Part.fr(n:Nat)(F:Fr L L' (fun _=>False)):Part G L' (labN lab n L) w m k S za swa rea ss sw re:=by
 obtain⟨h1,h2,h3⟩:=Q.W.lt
 obtain⟨l1,l2,l3⟩:=Q.l0
 exact⟨Q.W.fr F not_false not_false not_false,by rw[A0p F h1,A0p F h2,A0p F h3];exact⟨l1,l2,l3⟩,Q.zl,Q.swl,Q.rel,fun i x z hx hz pl=>(Q.ss i x z hx hz pl).fr F (fun _ _ _=>not_false),fun i x z hx hz=>(Q.sw i x z hx hz).fr F (fun _ _ _=>not_false),fun i x z hx hz=>(Q.re i x z hx hz).fr F (fun _ _ _=>not_false),Nat.le_trans Q.gl F.1,fun b hb=>⟨by rw[A0p F (Nat.lt_of_lt_of_le hb Q.gl)];exact(Q.pre b hb).1,(F.2 b (Nat.lt_of_lt_of_le hb Q.gl) not_false).trans (Q.pre b hb).2⟩⟩
theorem C0j{α:Type}{l:List α}{x y:α}{i:Nat}(h:(l++[x])[i]?=some y):l[i]?=some y∨(i=l.length∧x=y):=by
 rcases Nat.lt_or_ge i l.length with hi|hi
 ·rw[List.getElem?_append_left hi]at h;exact .inl h
 ·rw[List.getElem?_append_right hi]at h
  rcases Nat.eq_or_lt_of_le hi with he|he
  ·subst he
   simp at h
   exact .inr ⟨rfl,h⟩
  ·rw[List.getElem?_eq_none (by simp;omega)]at h;cases h
theorem C4a{α:Type}{l:List α}{y:α}{i:Nat}(h:l[i]?=some y):i<l.length:=by
 rcases Nat.lt_or_ge i l.length with hi|hi
 ·exact hi
 ·rw[List.getElem?_eq_none hi]at h;cases h
theorem Part.addS(x:Sess)(hx:x.now=none):Part G ((L++[D.agg x.se.ds])++[D.agg (x.raw (.int (L.length:Nat)) .nil).ds]) (labN lab (4*za.length+1) L) w m k S (za++[L.length+1]) swa rea (ss++[x]) sw re:=by
 have F:Fr L ((L++[D.agg x.se.ds])++[D.agg (x.raw (.int (L.length:Nat)) .nil).ds]) (fun _=>False):=(Fr.snoc L _ _).trans (Fr.snoc _ _ _)
 have Q1:=Q.fr (4*za.length+1) F
 refine⟨Q1.W,Q1.l0,by simp[Q.zl],Q1.swl,Q1.rel,fun i y z hy hz pl=>?_,Q1.sw,Q1.re,Q1.gl,Q1.pre⟩
 rcases C0j Q hy with hy|⟨hi,hy⟩
 ·have hz':za[i]?=some z:=by
   have:=C4a Q hy
   rw[List.getElem?_append_left (by rw[Q.zl];exact this)]at hz;exact hz
  exact Q1.ss i y z hy hz' pl
 ·subst hy
  have hi':i=za.length:=by rw[Q.zl];exact hi
  subst hi'
  simp at hz
  subst hz
  have e1:(L++[D.agg x.se.ds]).length=L.length+1:=by simp
  have g1:((L++[D.agg x.se.ds])++[D.agg (x.raw (.int (L.length:Nat)) .nil).ds]).getD (L.length+1) D.nil=.agg (x.raw (.int (L.length:Nat)) .nil).ds:=by
   have:=A1u (L++[D.agg x.se.ds]) (D.agg (x.raw (.int (L.length:Nat)) .nil).ds)
   rw[e1]at this;exact this
  have g2:((L++[D.agg x.se.ds])++[D.agg (x.raw (.int (L.length:Nat)) .nil).ds]).getD L.length D.nil=.agg x.se.ds:=by
   rw[B2x (by simp)];exact A1u L _
  have hl:∀b,L.length≤b→labN lab (4*za.length+1) L b=4*za.length+1:=fun b hb=>if_neg (by omega)
  refine⟨L.length,L.length+1,L.length+1,.nil,g1,g2,?_,⟨hl _ (by omega),hl _ (by omega),hl _ (by omega),hl _ (by omega)⟩,by simp,by simp⟩
  rw[hx]
theorem Part.addW(x:SwS × Option PairS)(y:ReS)(hx:x.2=none)(he:swa.length=rea.length):
  Part G ((L++[D.agg (x.1.at .nil).ds])++[D.agg y.ds]) (fun b=>if b<L.length then lab b else if b=L.length then 4*swa.length+2 else 4*swa.length+3) w m k S za (swa++[L.length]) (rea++[L.length+1]) ss (sw++[x]) (re++[y]):=by
 have F1:Fr L (L++[D.agg (x.1.at .nil).ds]) (fun _=>False):=Fr.snoc L _ _
 have F2:Fr (L++[D.agg (x.1.at .nil).ds]) ((L++[D.agg (x.1.at .nil).ds])++[D.agg y.ds]) (fun _=>False):=Fr.snoc _ _ _
 have Q2:=(Q.fr (4*swa.length+2) F1).fr (4*swa.length+3) F2
 have e1:(L++[D.agg (x.1.at .nil).ds]).length=L.length+1:=by simp
 have hlab:labN (labN lab (4*swa.length+2) L) (4*swa.length+3) (L++[D.agg (x.1.at .nil).ds])=(fun b=>if b<L.length then lab b else if b=L.length then 4*swa.length+2 else 4*swa.length+3):=by
  funext b
  unfold labN
  rw[e1]
  by_cases h1:b<L.length
  ·have h2:b<L.length+1:=by omega
   simp only[h1,h2,if_true]
  ·by_cases h2:b=L.length
   ·have h3:b<L.length+1:=by omega
    simp only[h1,h2,h3,if_true,if_false,Nat.lt_irrefl,Nat.lt_succ_self]
   ·have h3:¬b<L.length+1:=by omega
    simp only[h1,h2,h3,if_false]
 rw[hlab]at Q2
 have g1:((L++[D.agg (x.1.at .nil).ds])++[D.agg y.ds]).getD (L.length+1) D.nil=.agg y.ds:=by
  have:=A1u (L++[D.agg (x.1.at .nil).ds]) (D.agg y.ds)
  rw[e1]at this;exact this
 have g2:((L++[D.agg (x.1.at .nil).ds])++[D.agg y.ds]).getD L.length D.nil=.agg (x.1.at .nil).ds:=by
  rw[B2x (by simp)];exact A1u L _
 refine⟨Q2.W,Q2.l0,Q2.zl,by simp[Q.swl],by simp[Q.rel],Q2.ss,fun i z a hz ha=>?_,fun i z a hz ha=>?_,Q2.gl,Q2.pre⟩
 ·rcases C0j Q hz with hz|⟨hi,hz⟩
  ·have ha':swa[i]?=some a:=by
    have:=C4a Q hz
    rw[List.getElem?_append_left (by rw[Q.swl];exact this)]at ha;exact ha
   exact Q2.sw i z a hz ha'
  ·subst hz
   have hi':i=swa.length:=by rw[Q.swl];exact hi
   subst hi'
   simp at ha
   subst ha
   refine⟨L.length,.nil,g2,?_,⟨?_,?_⟩,by simp⟩
   ·rw[hx];rfl
   ·show(if L.length<L.length then lab L.length else if L.length=L.length then 4*swa.length+2 else 4*swa.length+3)=_
    rw[if_neg (Nat.lt_irrefl _),if_pos rfl]
   ·show(if L.length<L.length then lab L.length else if L.length=L.length then 4*swa.length+2 else 4*swa.length+3)=_
    rw[if_neg (Nat.lt_irrefl _),if_pos rfl]
 ·rcases C0j Q hz with hz|⟨hi,hz⟩
  ·have ha':rea[i]?=some a:=by
    have:=C4a Q hz
    rw[List.getElem?_append_left (by rw[Q.rel];exact this)]at ha;exact ha
   exact Q2.re i z a hz ha'
  ·subst hz
   have hi':i=rea.length:=by rw[Q.rel];exact hi
   subst hi'
   simp at ha
   subst ha
   refine⟨g1,?_⟩
   show(if L.length+1<L.length then lab (L.length+1)else if L.length+1=L.length then 4*swa.length+2 else 4*swa.length+3)=_
   rw[if_neg (by omega),if_neg (by omega),he]
theorem Part.done(P:Pool)(hS:P.S=S)(h1:P.sess=ss)(h2:P.sw=sw)(h3:P.re=re):
  Enc G (L++[D.agg (P.raw (.int (w:Nat)) (ptrL za) (ptrL swa) (ptrL rea)).ds]) (labN lab 0 L) L.length w m k za swa rea P:=by
 have F:Fr L (L++[D.agg (P.raw (.int (w:Nat)) (ptrL za) (ptrL swa) (ptrL rea)).ds]) (fun _=>False):=Fr.snoc L _ _
 have Q1:=Q.fr 0 F
 obtain⟨l1,l2,l3⟩:=Q1.l0
 subst h1 h2 h3
 exact⟨by rw[hS];exact Q1.W,A1u L _,⟨if_neg (Nat.lt_irrefl _),l1,l2,l3⟩,Q1.zl,Q1.swl,Q1.rel,fun i x z hx hz=>Q1.ss i x z hx hz _,Q1.sw,Q1.re,Q1.gl,Q1.pre⟩
end
theorem C5r(l:List Nat)(x:Nat):ptrL l++[.int (x:Int)]=ptrL (l++[x]):=by simp[ptrL]
theorem C0n(l:List Nat):(ptrL l).length=l.length:=by simp[ptrL]
section
variable(c:Cf)(hc:c.ok)
include hc
theorem C5m{G:List D}{w m k:Nat}{za:List Nat}{ss:List Sess}(x0 x1 x2 x3 x4 x5 x6 x7 x8 x9 x10 x11 x12 x13 x14 x15 x16 x17 x18 x19 x20 x21 x22 x23:D)(g0:Eng.Fn):∀(d j:Nat) (L:List D) (lab:Nat→Nat) (swa rea:List Nat),(j+d:Int)=shardsF c→
  Part G L lab w m k (newS c) za swa rea ss ((List.range j).map fun(i:Nat)=>newSw i) ((List.range j).map fun(i:Nat)=>newRe i)→
  ∃L' lab' pl swa' rea',A6z x0 x1 x2 x3 x4 x5 x6 x7 x8 x9 x10 x11 x12 x13 x14 x15 x16 x17 x18 x19 x20 x21 x22 x23 (.int (shardsF c)) g0 [.int (j:Nat),.int (w:Nat),.int 0,.agg (ptrL za),.agg (ptrL swa),.agg (ptrL rea),.agg L]=some [.int (pl:Nat),.nil,.agg L']∧
   Enc G L' lab' pl w m k za swa' rea' {newP c with sess:=ss}
 |0,j,L,lab,swa,rea,h,Q=>by
  have h1:¬(j:Int)<shardsF c:=by omega
  have h2:(shardsF c).toNat=j:=by omega
  rw[B1q]
  simp only[D.toInt_int,D.toL_agg,h1,decide_false,Bool.false_eq_true,if_false]
  have E:=Q.done {newP c with sess:=ss} rfl rfl (by show(newP c).sw=_;unfold newP;rw[h2]) (by show(newP c).re=_;unfold newP;rw[h2])
  exact⟨_,_,L.length,swa,rea,rfl,E⟩
 |d+1,j,L,lab,swa,rea,h,Q=>by
  have hs:=B0u c hc
  have h1:(j:Int)<shardsF c:=by omega
  have ls:swa.length=j:=by rw[Q.swl];simp
  have lr:rea.length=j:=by rw[Q.rel];simp
  have Q1:=Q.addW (newSw (j:Nat)) (newRe (j:Nat)) rfl (by rw[ls,lr])
  have e1:((List.range j).map fun(i:Nat)=>newSw i)++[newSw (j:Nat)]=(List.range (j+1)).map fun(i:Nat)=>newSw i:=by simp[List.range_succ]
  have e2:((List.range j).map fun(i:Nat)=>newRe i)++[newRe (j:Nat)]=(List.range (j+1)).map fun(i:Nat)=>newRe i:=by simp[List.range_succ]
  rw[e1,e2]at Q1
  obtain⟨L',lab',pl,swa',rea',n1,E⟩:=C5m x0 x1 x2 x3 x4 x5 x6 x7 x8 x9 x10 x11 x12 x13 x14 x15 x16 x17 x18 x19 x20 x21 x22 x23 g0 d (j+1) _ _ _ _ (by omega) Q1
  have ns:FX 21 [.int (j:Nat),.agg L]=some [.int (L.length:Nat),.agg (L++[D.agg ((newSw (j:Nat)).1.at .nil).ds])]:=by
   rw[B7j]
   simp only[D.toL_agg];rfl
  have nr:FX 22 [.int (j:Nat),.agg (L++[D.agg ((newSw (j:Nat)).1.at .nil).ds])]=some [.int (L.length+1:Nat),.agg ((L++[D.agg ((newSw (j:Nat)).1.at .nil).ds])++[D.agg (newRe (j:Nat)).ds])]:=by
   rw[B8w]
   simp only[D.toL_agg,List.length_append,List.length_cons,List.length_nil];rfl
  have b1:((ptrL (swa++[L.length])).length:Int)≤17592186044416:=by rw[C0n];simp;omega
  have b2:((ptrL (rea++[L.length+1])).length:Int)≤17592186044416:=by rw[C0n];simp;omega
  rw[B1q]
  simp only[D.toInt_int,D.toL_agg,h1,decide_true,if_true,ns,A0b,List.length_cons,List.length_nil,List.getD_cons_zero,List.getD_cons_succ,C5r,b1,C2r,nr,b2,C1f]
  rw[i64w _ (by omega) (by omega)]
  exact⟨L',lab',pl,swa',rea',n1,E⟩
theorem C5i{G:List D}{w m k:Nat}(x0 x1 x2 x3 x4 x5 x6 x7 x15 x16 x17 x18:D):∀(d j:Nat) (L:List D) (lab:Nat→Nat) (za:List Nat),(j+d:Int)=c.c0→
  Part G L lab w m k (newS c) za [] [] ((List.range j).map fun(i:Nat)=>newSess c i) [] []→
  ∃L' lab' pl za' swa' rea',A2x x0 x1 x2 x3 x4 x5 x6 x7 (.int c.c0) (.int c.c1) (.int c.c2) (.int c.c3) (.int c.c4) (.int c.c5) (.int c.c6) x15 x16 x17 x18 [.int (j:Nat),.int (w:Nat),.int 0,.agg (ptrL za),.agg L]=some [.int (pl:Nat),.nil,.agg L']∧
   Enc G L' lab' pl w m k za' swa' rea' (newP c)
 |0,j,L,lab,za,h,Q=>by
  have hs:=B0u c hc
  have h1:¬(j:Int)<c.c0:=by omega
  have h2:c.c0.toNat=j:=by omega
  have hsh:FX 20 [.int c.c0,.int c.c1,.int c.c2,.int c.c3,.int c.c4,.int c.c5,.int c.c6]=some [.int (shardsF c)]:=D7l c hc
  have key:=fun x16 x17 x18 x19 x20 x21 x22 x23 g0=>C5m c hc (w:=w) (m:=m) (k:=k) (za:=za) (ss:=(List.range j).map fun(i:Nat)=>newSess c i) x0 x1 x2 x3 x4 x5 x6 x7 (.int c.c0) (.int c.c1) (.int c.c2) (.int c.c3) (.int c.c4) (.int c.c5) (.int c.c6) x15 x16 x17 x18 x19 x20 x21 x22 x23 g0 (shardsF c).toNat 0 L lab [] [] (by omega) Q
  rw[B2a]
  simp only[D.toInt_int,D.toL_agg,h1,decide_false,Bool.false_eq_true,if_false,hsh,A0b,List.length_cons,List.length_nil,List.getD_cons_zero]
  obtain⟨L',lab',pl,swa',rea',n1,E⟩:=key x16 x17 x18 (.int (j:Nat)) (.int (w:Nat)) (.int 0) (.agg (ptrL za)) (.agg L) (A2x x0 x1 x2 x3 x4 x5 x6 x7 (.int c.c0) (.int c.c1) (.int c.c2) (.int c.c3) (.int c.c4) (.int c.c5) (.int c.c6) x15 x16 x17 x18)
  refine⟨L',lab',pl,za,swa',rea',n1,?_⟩
  have e:({newP c with sess:=(List.range j).map fun(i:Nat)=>newSess c i}:Pool)=newP c:=by unfold newP;rw[h2]
  rw[e]at E
  exact E
 |d+1,j,L,lab,za,h,Q=>by
  have hc0:=hc.1
  have h1:(j:Int)<c.c0:=by omega
  have lz:za.length=j:=by rw[Q.zl];simp
  have Q1:=Q.addS (newSess c (j:Nat)) rfl
  have e1:((List.range j).map fun(i:Nat)=>newSess c i)++[newSess c (j:Nat)]=(List.range (j+1)).map fun(i:Nat)=>newSess c i:=by simp[List.range_succ]
  rw[e1]at Q1
  obtain⟨L',lab',pl,za',swa',rea',n1,E⟩:=C5i x0 x1 x2 x3 x4 x5 x6 x7 x15 x16 x17 x18 d (j+1) _ _ _ (by omega) Q1
  have ns:=D8o c hc (j:Nat) L
  have b1:((ptrL (za++[L.length+1])).length:Int)≤17592186044416:=by rw[C0n];simp;omega
  have eobj:D.agg [.int (L.length:Nat),.agg [],.nil,.int (-1),.agg [],.int 0]=.agg ((newSess c (j:Nat)).raw (.int (L.length:Nat)) .nil).ds:=rfl
  have es:newSeatN (j:Nat) c.c1.toNat=(newSess c (j:Nat)).se:=rfl
  have el:(L++[D.agg (newSess c (j:Nat)).se.ds]).length=L.length+1:=by simp
  rw[B2a]
  simp only[D.toInt_int,D.toL_agg,h1,decide_true,if_true,ns,es,A0b,List.length_cons,List.length_nil,List.getD_cons_zero,List.getD_cons_succ,el,C5r,b1,C1n,eobj]
  rw[i64w _ (by omega) (by omega)]
  exact⟨L',lab',pl,za',swa',rea',n1,E⟩
theorem D2n(L:List D):∃L' lab pl w m k za swa rea,FX 13 [.int c.c0,.int c.c1,.int c.c2,.int c.c3,.int c.c4,.int c.c5,.int c.c6,.agg L]=some [.int (pl:Nat),.nil,.agg L']∧Enc L L' lab pl w m k za swa rea (newP c):=by
 have hc0:=hc.1
 have n1:=C4j c hc
 obtain⟨L1,n2,hl,W1,F1⟩:=E2g c hc L
 have hl1:∀b,L.length≤b→(if b<L.length then 4 else 0)=0:=fun b hb=>if_neg (by omega)
 have Q:Part L L1 (fun b=>if b<L.length then 4 else 0) (L.length+2) L.length (L.length+1) (newS c) [] [] [] ((List.range 0).map fun(i:Nat)=>newSess c i) [] []:=
  ⟨W1,⟨hl1 _ (by omega),hl1 _ (by omega),hl1 _ (by omega)⟩,rfl,rfl,rfl,(fun i x z hx=>by cases hx),(fun i x z hx=>by cases hx),(fun i x z hx=>by cases hx),by omega,fun b hb=>⟨if_pos hb,F1.2 b hb not_false⟩⟩
 obtain⟨L',lab',pl,za',swa',rea',n3,E⟩:=C5i c hc (.int c.c0) (.int c.c1) (.int c.c2) (.int c.c3) (.int c.c4) (.int c.c5) (.int c.c6) (.agg L) .nil (.int (L.length+2:Nat)) .nil (.agg L1) c.c0.toNat 0 L1 _ [] (by omega) Q
 refine⟨L',lab',pl,L.length+2,L.length,L.length+1,za',swa',rea',?_,E⟩
 rw[D3e,n1]
 simp only[A0b,List.length_cons,List.length_nil,List.getD_cons_zero,List.getD_cons_succ,nilN,Bool.not_true,Bool.false_eq_true,if_false,n2]
 exact n3
theorem B8p:PoolAt (newP c) 0:=by
 have hal:=all_b c hc
 have hs:=B0u c hc
 have hpos:0<allF c*allF c:=Int.mul_pos (by omega) (by omega)
 have z:In 0:=In.lit (by decide)
 have hc0:=hc.1
 have hc1:=hc.2.1
 have hf:=A2k hc
 have hg:=A9z hc
 refine⟨⟨⟨hc,fun x hx=>?_,Nat.zero_le _,by have:=C4l c hc;simp[newP,newS];omega⟩,fun x hx=>?_,fun x hx=>?_,fun x hx=>?_,Nat.le_refl _,Nat.le_refl _,Nat.le_refl _,fun o ho=>(by cases ho)⟩,rfl,rfl,by simp[newP],by simp[newP];omega,by simp[newP];omega⟩
 ·have:=List.eq_of_mem_replicate hx
  omega
 ·obtain⟨i,hi,rfl⟩:=List.mem_map.1 hx
  refine⟨⟨by simp[newSess,newSeatN];show max c.c1 0=c.c1;omega,by simp[newSess,newSeatN];show max c.c1 0=c.c1;omega,by simp[newSess,newSeatN];show max c.c1 0=c.c1;omega,fun y hy=>?_⟩,⟨Int.le_refl 0,Int.le_refl 0⟩,fun d hd=>(by cases hd),Nat.le_refl _,fun q hq=>(by cases hq),Nat.le_refl _,fun pr o hh=>(by cases hh)⟩
  have:=List.eq_of_mem_replicate hy
  subst this
  show(0≤(1:Int)∧(1:Int)≤c.c6+1)∧0≤(0:Int)∧(0:Int)≤c.c5
  omega
 ·obtain⟨i,hi,rfl⟩:=List.mem_map.1 hx
  exact⟨⟨Int.le_refl 0,hpos⟩,fun P' hP'=>by cases hP'⟩
 ·obtain⟨i,hi,rfl⟩:=List.mem_map.1 hx
  have t:Tm.zero.sm:=by unfold Tm.sm Tm.zero;decide
  have h4:(0:Int)≤0∧(0:Int)<4*allF c:=by omega
  exact⟨h4,by show 0<_;decide,St.zero_wf,t,z⟩
end
end Go.Proofs.YtcgcpjajghdbpaaGreat.P
