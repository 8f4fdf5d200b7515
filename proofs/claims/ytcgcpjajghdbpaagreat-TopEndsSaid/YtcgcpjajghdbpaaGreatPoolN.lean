import Derived.Test.YtcgcpjajghdbpaaGreatPoolM
namespace Go.Proofs.YtcgcpjajghdbpaaGreat.P
open Go.RowKit Go.Proofs.YtcgcpjajghdbpaaGreat.Eng Go.Proofs.YtcgcpjajghdbpaaGreat Go.Proofs.YtcgcpjajghdbpaaGreat.Dat Go.Proofs.YtcgcpjajghdbpaaGreat.FDat
set_option linter.unusedVariables false
set_option linter.unusedSimpArgs false
set_option linter.unusedSectionVars false
set_option maxRecDepth 10000
theorem A2w{α:Type}{x:α}{p:Prop}(h:some x=none):p:=by cases h
def PrS.at(pr:PrS)(p d:D):PrS:={pr with p:=p,draw:=d}
def Stp.at(x:Stp)(p d:D):Stp:={x with pr:=x.pr.at p d}
theorem D7r(x:Int)(pr:PrS)(se:SeatS)(S:WS)(p d:D):beginP x (pr.at p d) se S=(beginP x pr se S).at p d:=by
 unfold beginP
 simp only[apply_ite (fun z=>Stp.at z p d)]
 rfl
theorem D9u(x:Int)(pr:PrS)(S:WS)(p d:D):restP x (pr.at p d) S=((restP x pr S).1,(restP x pr S).2.1.at p d,(restP x pr S).2.2):=by
 unfold restP
 simp only[apply_ite (fun z:Bool × PrS × WS=>(z.1,z.2.1.at p d,z.2.2))]
 rfl
theorem E0n(x:Int)(pr:PrS)(se:SeatS)(S:WS)(p d:D):turnP x (pr.at p d) se S=((turnP x pr se S).1.at p d,(turnP x pr se S).2):=by
 unfold turnP
 simp only[apply_ite (fun z:PrS × WS=>(z.1.at p d,z.2))]
 rfl
theorem D4q(x:Int)(pr:PrS)(se:SeatS)(S:WS)(p d:D):cancelP x (pr.at p d) se S=(cancelP x pr se S).at p d:=by
 unfold cancelP
 rw[E0n]
 simp only[apply_ite (fun z=>Stp.at z p d)]
 have e:(if(pr.at p d).done=0 then {pr.at p d with word:=S.word x,st:=stOf (S.word x)} else pr.at p d)=(if pr.done=0 then {pr with word:=S.word x,st:=stOf (S.word x)} else pr).at p d:=by
  rw[apply_ite (fun z=>PrS.at z p d)];rfl
 rw[e]
 rfl
theorem D9c(x:Int)(pr:PrS)(se:SeatS)(S:WS)(p d:D):pollP x (pr.at p d) se S=(pollP x pr se S).at p d:=by
 unfold pollP
 simp only[apply_ite (fun z=>Stp.at z p d)]
 rfl
theorem D9l(pr:PrS)(se:SeatS)(S:WS)(p d:D):viewP (pr.at p d) se S=(viewP pr se S).at p d:=by
 unfold viewP
 simp only[apply_ite (fun z=>Stp.at z p d)]
 rfl
theorem E2m(pr:PrS)(o:Option PairS)(ss:SessS)(po:PoolS)(S:WS)(p d:D):tryP (pr.at p d) o ss po S=tryP pr o ss po S:=rfl
theorem C9o(pr:PrS)(S:WS)(c:Int)(p d:D):codeF (pr.at p d) S c=codeF pr S c:=rfl
structure StA where
 r:Option Rep
 pr:PrS
 o:Option PairS
 se:SeatS
 ss:SessS
 po:PoolS
 S:WS
def Stp.on(x:Stp)(o:Option PairS)(ss:SessS)(po:PoolS):StA:=⟨x.r,x.pr,o,x.se,ss,po,x.S⟩
def submitR(x:Int)(pr:PrS)(se:SeatS)(T:Tr):StA:=
 if T.b then⟨none,{pr with n:=T.n},T.o,se,T.ss,T.po,T.S⟩
 else if(restP x {pr with n:=T.n} T.S).1 then⟨none,(restP x {pr with n:=T.n} T.S).2.1,T.o,se,T.ss,T.po,(restP x {pr with n:=T.n} T.S).2.2⟩
 else⟨some (codeF pr (restP x {pr with n:=T.n} T.S).2.2 0),(restP x {pr with n:=T.n} T.S).2.1,T.o,se,T.ss,T.po,(restP x {pr with n:=T.n} T.S).2.2⟩
def submitA(x:Int)(pr:PrS)(o:Option PairS)(se:SeatS)(ss:SessS)(po:PoolS)(S:WS):StA:=
 if pr.pc<4 then(beginP x pr se S).on o ss po else submitR x pr se (tryP pr o ss po S)
def stepA(pr:PrS)(o:Option PairS)(se:SeatS)(ss:SessS)(po:PoolS)(S:WS):StA:=
 if pr.a.kind=1 then submitA (cellF S.c se.part pr.a.cell) pr o se ss po S
 else if pr.a.kind=2 then(cancelP (cellF S.c se.part pr.a.cell) pr se S).on o ss po
 else if pr.a.kind=3 then(pollP (cellF S.c se.part pr.a.cell) pr se S).on o ss po
 else if pr.a.kind=4 then(viewP pr se S).on o ss po
 else⟨some (codeF pr S 6),pr,o,se,ss,po,S⟩
structure ProgOk(pr:PrS)(o:Option PairS)(se:SeatS)(S:WS):Prop where
 word:pr.word<18446744073709551616
 st:pr.st.wf
 tm:pr.a.tm.wf
 at_:In pr.at_
 done:0≤pr.done∧pr.done≤3
 tries:0≤pr.tries∧pr.tries≤1000
 pc:0≤pr.pc∧pr.pc≤8
 n:0≤pr.n∧pr.n≤100
 aims:pr.aims.length≤100
 looks:(pr.looks.length:Int)≤pr.pc
 cell:pr.pc≠0→pr.a.kind=1∨pr.a.kind=2→0≤cellF S.c se.part pr.a.cell
 r0:pr.r0.k=1→(curAt se pr.a.cell).n<S.c.c5
 r1:pr.r1.isEnd=true→(curAt se pr.a.cell).gen≤S.c.c6
 o:∀P,o=some P→P.ok
structure SeatOk(se:SeatS)(c:Cf):Prop where
 ids:(se.ids.length:Int)=c.c1
 gens:(se.gens.length:Int)=c.c1
 curs:(se.curs.length:Int)=c.c1
 cur:∀x ∈ se.curs,(0≤x.gen∧x.gen≤c.c6+1)∧0≤x.n∧x.n≤c.c5
theorem SeatOk.at_{se:SeatS}{c:Cf}(h:SeatOk se c)(i:Int)(hc:c.ok):(0≤(curAt se i).gen∧(curAt se i).gen≤c.c6+1)∧0≤(curAt se i).n∧(curAt se i).n≤c.c5:=by
 have h1:=A2k hc
 have h2:=A9z hc
 unfold curAt
 rw[List.getD_eq_getElem?_getD]
 rcases Nat.lt_or_ge i.toNat se.curs.length with hi|hi
 ·rw[List.getElem?_eq_getElem hi];exact h.cur _ (List.getElem_mem hi)
 ·rw[List.getElem?_eq_none hi];dsimp only[Option.getD_none];omega
structure InB(L:List D)(s z l w m k:Nat)(se:SeatS)(ss:SessS)(po:PoolS)(S:WS):Prop where
 W:InW L w m k S
 s:L.getD s D.nil=.agg se.ds
 z:L.getD z D.nil=.agg ss.ds
 l:L.getD l D.nil=.agg po.ds
theorem InA.B{L:List D}{a s z l w m k:Nat}{pr:PrS}{se:SeatS}{ss:SessS}{po:PoolS}{S:WS}(A:InA L a s z l w m k pr se ss po S):InB L s z l w m k se ss po S:=⟨A.H.W,A.H.s,A.z,A.l⟩
theorem A8h(r:Option Rep)(L:List D):(bindC (some (outS r L)) 15 fun r4=>some [(r4.getD 0 D.nil),(r4.getD 1 D.nil),(r4.getD 2 D.nil),(r4.getD 3 D.nil),(r4.getD 4 D.nil),(r4.getD 5 D.nil),(r4.getD 6 D.nil),(r4.getD 7 D.nil),(r4.getD 8 D.nil),(r4.getD 9 D.nil),(r4.getD 10 D.nil),(r4.getD 11 D.nil),(r4.getD 12 D.nil),(r4.getD 13 D.nil),(r4.getD 14 D.nil)])=some (outS r L):=by
 cases r<;>rfl
theorem D7p{pr:PrS}{o:Option PairS}{ss:SessS}{po:PoolS}{S:WS}(h:S.ok)(ho:∀P,o=some P→P.ok):(tryP pr o ss po S).S.ok∧(tryP pr o ss po S).S.c=S.c∧((tryP pr o ss po S).b=false→(tryP pr o ss po S).S=S):=by
 have key:∀(n:Int) (o:Option PairS) (ss:SessS) (po:PoolS),(∀P,o=some P→P.ok)→(runO n o ss po S).S.ok∧(runO n o ss po S).S.c=S.c∧((runO n o ss po S).b=false→(runO n o ss po S).S=S):=by
  intro n o ss po ho
  unfold runO
  cases o with
  |none=>exact⟨h,rfl,fun _=>rfl⟩
  |some P=>
   dsimp only
   split
   ·exact⟨h,rfl,fun _=>rfl⟩
   ·have kk:=B5a h (ho P rfl)
    exact⟨kk.s,kk.c,fun hh=>nomatch hh⟩
 unfold tryP
 split
 ·split
  ·exact key _ _ _ _ fun P e=>by cases e;exact PairS.new_ok _
  ·exact key _ _ _ _ fun P e=>by cases e;exact PairS.new_ok _
 ·exact key _ _ _ _ ho
theorem E0x{S:WS}(h:S.ok)(x:Int)(pr:PrS):(restP x pr S).2.2.ok:=by
 obtain⟨o1,_⟩:=S.turn_ok h x pr.word (promoteF pr.st).2
 unfold restP
 split
 ·exact h
 split
 ·exact h
 split
 ·exact h
 split
 ·exact h
 split
 ·exact h
 split
 ·exact WS.tell_ok o1 _
 ·exact h
theorem E1s(x:Int)(pr:PrS)(S:WS):(restP x pr S).2.1.a=pr.a:=by
 unfold restP
 split
 ·rfl
 split
 ·rfl
 split
 ·rfl
 split
 ·rfl
 split
 ·rfl
 split<;>rfl
section
variable{L:List D}{a s z l w m k q:Nat}{ptr:D}{pr:PrS}{se:SeatS}{ss:SessS}{po:PoolS}{S:WS}{o:Option PairS}
 (A:InA L a s z l w m k (pr.at ptr (drawD z l)) se ss po S) (hp:PP L q ptr o) (h:S.ok) (hk:ProgOk pr o se S) (hse:SeatOk se S.c) (hl:S.log.length≤1000000000) (ht:TapeOk ss po)
def Done(L L':List D)(a q s z l w m k:Nat)(q':Nat)(ptr':D)(R:StA):Prop:=
 InB L' s z l w m k R.se R.ss R.po R.S∧(R.r=none→L'.getD a D.nil=.agg (R.pr.at ptr' (drawD z l)).ds∧PP L' q' ptr' R.o)∧FrA L L' a q s z l w m∧(q'=q∨L.length≤q')
include A hp
theorem C2l{L1:List D}{X:Stp}(H1:Hs L1 a s w m k (X.at ptr (drawD z l)).pr (X.at ptr (drawD z l)).se (X.at ptr (drawD z l)).S)(G:FrS L L1 a s w m):Done L L1 a q s z l w m k q ptr (X.on o ss po):=by
 have A1:=A.step H1 G
 refine⟨A1.B,fun _=>⟨H1.a,hp.ext fun P hP=>?_⟩,.ofS G,.inl rfl⟩
 subst hP
 obtain⟨_,e2⟩:=hp
 obtain⟨d1,d2,d3⟩:=A.H.W.far e2 (by rw[PairS.len];decide) (by rw[PairS.len];decide) (by rw[PairS.len];decide)
 have d4:=ne_of e2 A.H.a (by rw[PairS.len,PrS.len];decide)
 have d5:=ne_of e2 A.H.s (by rw[PairS.len,SeatS.len];decide)
 exact G.2 q (lt_of e2) (by simp only[d1,d2,d4,d5,or_self,not_false_iff])
include h hk hse hl ht
theorem D4o(hkd:pr.a.kind=1):∃L' q' ptr',FX 62 [.int (a:Nat),.int (w:Nat),.int (s:Nat),.agg L]=some (outS (submitA (cellF S.c se.part pr.a.cell) pr o se ss po S).r L')∧Done L L' a q s z l w m k q' ptr' (submitA (cellF S.c se.part pr.a.cell) pr o se ss po S):=by
 have n0:=C2n h se.part pr.a.cell
 have hx:=C3z h.c se.part pr.a.cell
 have hcb:0≤cellF S.c se.part pr.a.cell→0≤pr.a.cell∧pr.a.cell<S.c.c1:=fun hh=>(B7f S.c hh).2.1
 have hcell:=hk.cell
 have i1:=hse.ids
 have i2:=hse.gens
 rw[B1d]
 simp only[HH,A.H.a,A.H.s,A.H.W.w,WorldS.all,PrS.get2,PrS.get9,SeatS.get0]
 have e0:(pr.at ptr (drawD z l)).a.cell=pr.a.cell:=rfl
 have e1:(pr.at ptr (drawD z l)).pc=pr.pc:=rfl
 rw[e0,e1,n0]
 simp only[HH]
 generalize hxx:cellF S.c se.part pr.a.cell=x at*
 unfold submitA
 by_cases c0:pr.pc<4
 ·rw[if_pos c0]
  simp only[c0,decide_true,if_true]
  have hb:=D5c A.H h (In.lit (by have:=hk.pc;rw[e1];omega)) hl x hx hk.st hk.tm (fun e3=>by
   rw[e1]at e3
   have h1:=hcell (by omega) (.inl hkd)
   have h2:=hcb (by omega)
   rw[e0]
   omega)
  rw[D7r]at hb
  obtain⟨L1,n1,H1,G1⟩:=hb
  have hr:((beginP x pr se S).at ptr (drawD z l)).r=(beginP x pr se S).r:=rfl
  rw[hr]at n1
  rw[n1,A8h]
  exact⟨L1,q,ptr,rfl,C2l A hp H1 G1⟩
 ·rw[if_neg c0]
  simp only[c0,decide_false,Bool.false_eq_true,if_false]
  have htr:=E1z (pr:=pr.at ptr (drawD z l)) A h hp rfl hk.o hl (by have:=hk.n;exact⟨this.1,Int.le_trans this.2 (by decide)⟩) ht
  rw[E2m]at htr
  obtain⟨L1,q1,p1,n1,A1,P1,F1,hq1⟩:=htr
  have hT:(tryP pr o ss po S).S.ok∧(tryP pr o ss po S).S.c=S.c∧((tryP pr o ss po S).b=false→(tryP pr o ss po S).S=S):=D7p h hk.o
  generalize tryP pr o ss po S=T at*
  obtain⟨t1,t2,t3⟩:=hT
  rw[n1]
  simp only[HH]
  unfold submitR
  by_cases c1:T.b=true
  ·rw[if_pos c1]
   simp only[c1,if_true]
   exact⟨L1,q1,p1,rfl,A1.B,fun _=>⟨A1.H.a,P1⟩,F1,hq1⟩
  ·rw[if_neg c1]
   have c1':T.b=false:=by simpa using c1
   have t4:=t3 c1'
   have hre:=D9z (pr:=PrS.at {pr with n:=T.n} p1 (drawD z l)) A1.H t1 (by rw[t4];exact hl) x hx hk.st hk.word hk.tries
   rw[D9u]at hre
   obtain⟨L2,n2,H2,G2⟩:=hre
   have hq2:PP L2 q1 p1 T.o:=by
    refine P1.ext fun P hP=>?_
    rw[hP]at P1
    obtain⟨_,e2⟩:=P1
    obtain⟨d1,d2,d3⟩:=A1.H.W.far e2 (by rw[PairS.len];decide) (by rw[PairS.len];decide) (by rw[PairS.len];decide)
    have d4:=ne_of e2 A1.H.a (by rw[PairS.len,PrS.len];decide)
    have d5:=ne_of e2 A1.H.s (by rw[PairS.len,SeatS.len];decide)
    exact G2.2 q1 (lt_of e2) (by simp only[d1,d2,d4,d5,or_self,not_false_iff])
   have A2:=A1.step H2 G2
   have F2:FrA L L2 a q s z l w m:=F1.trans (FrA.ofS G2)
   have cR:=C9o (restP x {pr with n:=T.n} T.S).2.1 (restP x {pr with n:=T.n} T.S).2.2 0 p1 (drawD z l)
   have okR:(restP x {pr with n:=T.n} T.S).2.2.ok:=E0x t1 _ _
   have aR:(restP x {pr with n:=T.n} T.S).2.1.a=pr.a:=E1s _ _ _
   simp only[c1',Bool.false_eq_true,if_false,n2,HH]
   generalize restP x {pr with n:=T.n} T.S=R at*
   by_cases c2:R.1=true
   ·rw[if_pos c2]
    simp only[c2,if_true]
    exact⟨L2,q1,p1,rfl,A2.B,fun _=>⟨H2.a,hq2⟩,F2,hq1⟩
   ·rw[if_neg c2]
    have c2':R.1=false:=by simpa using c2
    have hcd:=A4r H2 okR 0
    have eC:codeF pr R.2.2 0=codeF R.2.1 R.2.2 0:=by unfold codeF;rw[aR]
    simp only[c2',Bool.false_eq_true,if_false,hcd,codeout,cR,eC]
    exact⟨L2,q1,p1,rfl,A2.B,fun hh=>A2w hh,F2,hq1⟩
theorem D7s:∃L' q' ptr',FX 52 [.int (a:Nat),.int (w:Nat),.int (s:Nat),.agg L]=some (outS (stepA pr o se ss po S).r L')∧Done L L' a q s z l w m k q' ptr' (stepA pr o se ss po S):=by
 have hcb:0≤cellF S.c se.part pr.a.cell→0≤pr.a.cell∧pr.a.cell<S.c.c1:=fun hh=>(B7f S.c hh).2.1
 have hcell:=hk.cell
 have i1:=hse.ids
 have i2:=hse.gens
 have i3:=hse.curs
 have e0:(pr.at ptr (drawD z l)).a=pr.a:=rfl
 have e1:(pr.at ptr (drawD z l)).pc=pr.pc:=rfl
 have hpc:In ((pr.at ptr (drawD z l)).pc+1):=In.lit (by have:=hk.pc;rw[e1];omega)
 rw[B2u]
 simp only[HH,A.H.a,PrS.get0]
 rw[e0]
 unfold stepA
 by_cases c1:pr.a.kind=1
 ·have j1:(pr.a.kind == 1)=true:=beq_iff_eq.2 c1
  rw[if_pos c1]
  obtain⟨L1,q1,p1,n1,d1⟩:=D4o A hp h hk hse hl ht c1
  simp only[j1,if_true,n1,A8h]
  exact⟨L1,q1,p1,rfl,d1⟩
 have j1:(pr.a.kind == 1)=false:=beq_eq_false_iff_ne.2 c1
 rw[if_neg c1]
 simp only[j1,Bool.false_eq_true,if_false]
 by_cases c2:pr.a.kind=2
 ·have j2:(pr.a.kind == 2)=true:=beq_iff_eq.2 c2
  rw[if_pos c2]
  have hb:=D4i A.H h hpc hl hk.st hk.word hk.at_ hk.done (fun e3=>by
   have h1:=hcell e3 (.inr c2)
   have h2:=hcb h1
   rw[e0]
   omega)
  rw[e0,D4q]at hb
  obtain⟨L1,n1,H1,G1⟩:=hb
  have hr:((cancelP (cellF S.c se.part pr.a.cell) pr se S).at ptr (drawD z l)).r=(cancelP (cellF S.c se.part pr.a.cell) pr se S).r:=rfl
  rw[hr]at n1
  simp only[j2,if_true,n1,A8h]
  exact⟨L1,q,ptr,rfl,C2l A hp H1 G1⟩
 have j2:(pr.a.kind == 2)=false:=beq_eq_false_iff_ne.2 c2
 rw[if_neg c2]
 simp only[j2,Bool.false_eq_true,if_false]
 by_cases c3:pr.a.kind=3
 ·have j3:(pr.a.kind == 3)=true:=beq_iff_eq.2 c3
  rw[if_pos c3]
  have hcu:=hse.at_ pr.a.cell h.c
  have hf:=A2k h.c
  have hg:=A9z h.c
  have hb:=E1g A.H h hpc (fun e3=>by rw[e0];rw[e0]at e3;have:=hcb e3;omega) (In.lit (by rw[e0];omega)) (In.lit (by rw[e0];omega))
  rw[e0,D9c]at hb
  obtain⟨L1,n1,H1,G1⟩:=hb
  have hr:((pollP (cellF S.c se.part pr.a.cell) pr se S).at ptr (drawD z l)).r=(pollP (cellF S.c se.part pr.a.cell) pr se S).r:=rfl
  rw[hr]at n1
  simp only[j3,if_true,n1,A8h]
  exact⟨L1,q,ptr,rfl,C2l A hp H1 G1⟩
 have j3:(pr.a.kind == 3)=false:=beq_eq_false_iff_ne.2 c3
 rw[if_neg c3]
 simp only[j3,Bool.false_eq_true,if_false]
 by_cases c4:pr.a.kind=4
 ·have j4:(pr.a.kind == 4)=true:=beq_iff_eq.2 c4
  rw[if_pos c4]
  have hlk:=hk.looks
  have hpc0:=hk.pc
  have hb:=E1a A.H h hpc (by show pr.looks.length≤1000;omega) hpc0.1
  rw[D9l]at hb
  obtain⟨L1,n1,H1,W1,s1,G1⟩:=hb
  have hr:((viewP pr se S).at ptr (drawD z l)).r=(viewP pr se S).r:=rfl
  rw[hr]at n1 H1
  simp only[j4,if_true,n1,A8h]
  have vS:(viewP pr se S).S=S∧(viewP pr se S).se=se:=by
   unfold viewP
   split
   ·exact⟨rfl,rfl⟩
   ·split<;>exact⟨rfl,rfl⟩
  obtain⟨h1,h2,h3,h4,h5,h6⟩:=A.fz
  obtain⟨g1,g2,g3,g4,g5⟩:=A.fl
  refine⟨L1,q,ptr,rfl,?_,fun hh=>?_,.ofS G1,.inl rfl⟩
  ·show InB L1 s z l w m k (viewP pr se S).se ss po (viewP pr se S).S
   rw[vS.1,vS.2]
   exact⟨W1,s1,G1.get A.z (by simp only[h1,h2,h3,h4,or_self,not_false_iff]),G1.get A.l (by simp only[g1,g2,g3,g4,or_self,not_false_iff])⟩
  ·exact(C2l A hp (X:=viewP pr se S) (H1 hh) G1).2.1 hh
 ·have j4:(pr.a.kind == 4)=false:=beq_eq_false_iff_ne.2 c4
  rw[if_neg c4]
  have hcd:=A4r A.H h 6
  rw[C9o]at hcd
  simp only[j4,Bool.false_eq_true,if_false,hcd,codeout]
  exact⟨L,q,ptr,rfl,A.B,fun hh=>A2w hh,Fr.refl _ _,.inl rfl⟩
end
end Go.Proofs.YtcgcpjajghdbpaaGreat.P
