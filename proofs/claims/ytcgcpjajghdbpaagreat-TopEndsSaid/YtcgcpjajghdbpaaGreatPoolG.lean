import Derived.Test.YtcgcpjajghdbpaaGreatPoolF
namespace Go.Proofs.YtcgcpjajghdbpaaGreat.P
open Go.RowKit Go.Proofs.YtcgcpjajghdbpaaGreat.Eng Go.Proofs.YtcgcpjajghdbpaaGreat Go.Proofs.YtcgcpjajghdbpaaGreat.Dat Go.Proofs.YtcgcpjajghdbpaaGreat.FDat
set_option linter.unusedVariables false
set_option linter.unusedSimpArgs false
set_option linter.unusedSectionVars false
set_option maxRecDepth 10000
def Rep.zero:Rep:=⟨0,0,0,0,0,false,.zero,[]⟩
def codeF(pr:PrS)(S:WS)(c:Int):Rep:=⟨pr.a.kind,c,S.now,pr.a.id,pr.a.cell,false,.zero,[]⟩
def pcheckF(pr:PrS)(se:SeatS)(S:WS):Int:=
 if pr.a.id≤se.last∨pr.a.id>1000000 then 20 else if cellF S.c se.part pr.a.cell<0 then 21 else checkF S.c pr.a.tm pr.a.qty S.now
def WS.put(S:WS)(i:Int)(v:Nat):WS:={S with words:=stw S.words i v}
structure Stp where
 r:Option Rep
 pr:PrS
 se:SeatS
 S:WS
def beginP(x:Int)(pr:PrS)(se:SeatS)(S:WS):Stp:=
 if pr.pc=0 then(if pcheckF pr se S≠0 then⟨some (codeF pr S (pcheckF pr se S)),pr,se,S⟩else⟨none,{pr with pc:=pr.pc+1},se,S⟩)
 else if pr.pc=1 then
  (if(beginF (stOf (S.word x)) pr.a.qty S.c.c6).1≠0 then⟨some (codeF pr S (beginF (stOf (S.word x)) pr.a.qty S.c.c6).1),pr,se,S⟩
  else⟨none,{pr with st:=(beginF (stOf (S.word x)) pr.a.qty S.c.c6).2,pc:=pr.pc+1},se,S⟩)
 else if pr.pc=2 then⟨none,{pr with pc:=pr.pc+1},se,S.put (2*x+1) ((tmW pr.a.tm).getD 0)⟩
 else if pr.pc=3 then
  ⟨none,{pr with aims:=aimsF S.c x pr.st.g pr.a.tm,pc:=pr.pc+1},{se with last:=pr.a.id,ids:=se.ids.set pr.a.cell.toNat pr.a.id,gens:=se.gens.set pr.a.cell.toNat pr.st.g},
   (S.put (2*x) ((stW pr.st).getD 0)).tell {Ev.zero with kind:=1,cell:=x,gen:=pr.st.g,tm:=pr.a.tm,qty:=pr.a.qty}⟩
 else⟨none,{pr with pc:=pr.pc+1},se,S⟩
def restP(x:Int)(pr:PrS)(S:WS):Bool × PrS × WS:=
 if pr.tries≥2*(S.c.c5+1)then(false,pr,S)
 else if pr.done>0 then(true,{pr with tries:=pr.tries+1},S)
 else if(pr.tries+1)%2=1 then(true,{pr with tries:=pr.tries+1,word:=S.word x,st:=stOf (S.word x)},S)
 else if pr.st.over then(true,{pr with tries:=pr.tries+1,done:=1},S)
 else if(promoteF pr.st).1≠0 then(true,{pr with tries:=pr.tries+1},S)
 else if(S.turn x pr.word (promoteF pr.st).2).1 then(true,{pr with tries:=pr.tries+1,done:=1},(S.turn x pr.word (promoteF pr.st).2).2.tell {Ev.zero with kind:=6,cell:=x,gen:=(promoteF pr.st).2.g})
 else(true,{pr with tries:=pr.tries+1},S)
def atL(l:List Int)(i:Int):Int:=l.getD i.toNat 0
def genF(pr:PrS)(se:SeatS):Int:=if atL se.ids pr.a.cell=pr.a.id∧pr.a.id>0 then atL se.gens pr.a.cell else 0
def turnP(x:Int)(pr:PrS)(se:SeatS)(S:WS):PrS × WS:=
 if pr.done>0 then(pr,S)
 else if genF pr se=0∨pr.st.g≠genF pr se∨(cancelF pr.st).1≠0 then({pr with done:=3},S)
 else if pr.st.f then({pr with done:=2},S)
 else if(S.turn x pr.word (cancelF pr.st).2).1=false then(pr,S)
 else if(cancelF pr.st).2.f then({pr with at_:=S.now,done:=2},(S.turn x pr.word (cancelF pr.st).2).2.tell {Ev.zero with kind:=4,cell:=x,gen:=genF pr se})
 else({pr with at_:=S.now,done:=1,st:=(cancelF pr.st).2},(S.turn x pr.word (cancelF pr.st).2).2.tell {Ev.zero with kind:=3,cell:=x,gen:=genF pr se})
def doneC(d:Int):Int:=if d=0 then 27 else if d=3 then 29 else 0
def nextP(R:PrS × WS)(se:SeatS)(pc:Int):Stp:=⟨none,{R.1 with pc:=pc},se,R.2⟩
def cancelP(x:Int)(pr:PrS)(se:SeatS)(S:WS):Stp:=
 if pr.pc=0 then(if x<0 then⟨some (codeF pr S 21),pr,se,S⟩else nextP (pr,S) se (pr.pc+1))
 else if pr.pc=1∨pr.pc=3∨pr.pc=5 then nextP (if pr.done=0 then {pr with word:=S.word x,st:=stOf (S.word x)} else pr,S) se (pr.pc+1)
 else if pr.pc=2∨pr.pc=4∨pr.pc=6 then nextP (turnP x pr se S) se (pr.pc+1)
 else if pr.pc=7 then nextP (pr,if pr.done=1 then noteE S x pr.st.g S.c.c5 (endF pr.st pr.at_)else S) se (pr.pc+1)
 else⟨some {codeF pr S (doneC pr.done)with asked:=pr.done == 2},pr,se,S⟩
def slotP(S:WS)(i:Int):Rc:=if i<0 then .zero else rcOf (wd S.words i)
def curAt(se:SeatS)(i:Int):Cur:=se.curs.getD i.toNat ⟨0,0⟩
def pollP(x:Int)(pr:PrS)(se:SeatS)(S:WS):Stp:=
 if x<0 then⟨some (codeF pr S 21),pr,se,S⟩
 else if pr.pc=0 then⟨none,{pr with pc:=pr.pc+1},se,S⟩
 else if pr.pc=1 then(if(curAt se pr.a.cell).n<S.c.c5 then⟨none,{pr with r0:=slotP S (slotF S.c x (curAt se pr.a.cell).gen (curAt se pr.a.cell).n),pc:=pr.pc+1},se,S⟩else⟨none,{pr with pc:=pr.pc+1},se,S⟩)
 else if pr.pc=2 then⟨none,{pr with r1:=slotP S (slotF S.c x (curAt se pr.a.cell).gen S.c.c5),pc:=pr.pc+1},se,S⟩
 else⟨some {codeF pr S 0 with rc:=(nextF (curAt se pr.a.cell).gen (curAt se pr.a.cell).n pr.r0 pr.r1).1},pr,{se with curs:=se.curs.set pr.a.cell.toNat ⟨(nextF (curAt se pr.a.cell).gen (curAt se pr.a.cell).n pr.r0 pr.r1).2.1,(nextF (curAt se pr.a.cell).gen (curAt se pr.a.cell).n pr.r0 pr.r1).2.2⟩},S⟩
def lookS(s:St):Look:=⟨if s.live then 1 else s.k,s.l,s.n⟩
def viewP(pr:PrS)(se:SeatS)(S:WS):Stp:=
 if pr.pc>S.c.c1 then⟨some {codeF pr S 0 with looks:=pr.looks},pr,se,S⟩
 else if pr.pc>0 then⟨none,{pr with looks:=pr.looks++[lookS (stOf (S.word (cellF S.c se.part (pr.pc-1))))],pc:=pr.pc+1},se,S⟩
 else⟨none,{pr with pc:=pr.pc+1},se,S⟩
structure Hs(L:List D)(a s w m k:Nat)(pr:PrS)(se:SeatS)(S:WS):Prop where
 W:InW L w m k S
 a:L.getD a D.nil=.agg pr.ds
 s:L.getD s D.nil=.agg se.ds
def FrS(L L':List D)(a s w m:Nat):Prop:=Fr L L' (fun b=>b=a∨b=s∨b=w∨b=m)
section
variable{L:List D}{a s w m k:Nat}{pr:PrS}{se:SeatS}{S:WS}(H:Hs L a s w m k pr se S)
include H
theorem Hs.far:a≠w∧a≠m∧a≠k∧s≠w∧s≠m∧s≠k∧a≠s:=by
 obtain⟨h1,h2,h3⟩:=H.W.far H.a (by rw[PrS.len];decide) (by rw[PrS.len];decide) (by rw[PrS.len];decide)
 obtain⟨h4,h5,h6⟩:=H.W.far H.s (by rw[SeatS.len];decide) (by rw[SeatS.len];decide) (by rw[SeatS.len];decide)
 exact⟨h1,h2,h3,h4,h5,h6,ne_of H.a H.s (by rw[PrS.len,SeatS.len];decide)⟩
theorem Hs.setA(pr':PrS):Hs (L.set a (.agg pr'.ds)) a s w m k pr' se S:=by
 obtain⟨h1,h2,h3,h4,h5,h6,h7⟩:=H.far
 exact⟨H.W.fr (Fr.set L a _ (T:=(·=a)) rfl) (Ne.symm h1) (Ne.symm h2) (Ne.symm h3),A0w (lt_of H.a) _,by rw[A0s h7];exact H.s⟩
theorem Hs.setS(se':SeatS):Hs (L.set s (.agg se'.ds)) a s w m k pr se' S:=by
 obtain⟨h1,h2,h3,h4,h5,h6,h7⟩:=H.far
 exact⟨H.W.fr (Fr.set L s _ (T:=(·=s)) rfl) (Ne.symm h4) (Ne.symm h5) (Ne.symm h6),by rw[A0s (Ne.symm h7)];exact H.a,A0w (lt_of H.s) _⟩
theorem Hs.setW{L1:List D}{S1:WS}(W1:InW L1 w m k S1)(F:Fr L L1 (fun b=>b=w∨b=m)):Hs L1 a s w m k pr se S1∧FrS L L1 a s w m:=by
 obtain⟨h1,h2,h3,h4,h5,h6,h7⟩:=H.far
 exact⟨⟨W1,F.get H.a (by simp only[h1,h2,or_self,not_false_iff]),F.get H.s (by simp only[h4,h5,or_self,not_false_iff])⟩,F.mono fun b hb=>.inr (.inr hb)⟩
omit H
theorem frs_a(x:D):FrS L (L.set a x) a s w m:=Fr.set L a x (.inl rfl)
theorem frs_s(x:D):FrS L (L.set s x) a s w m:=Fr.set L s x (.inr (.inl rfl))
theorem A2s:FrS L L a s w m:=Fr.refl _ _
include H
theorem A4r(h:S.ok)(c:Int):FX 66 [.int (a:Nat),.int (w:Nat),.int c,.agg L]=some ((codeF pr S c).ds++[.bool true]):=by
 have h1:=A7a H.W h
 rw[B2w]
 simp only[HH,H.a,H.W.w,WorldS.get8,h1,PrS.get0,PrS.get1,PrS.get2]
 rfl
theorem D8c(h:S.ok):FX 107 [.int (a:Nat),.int (w:Nat),.int (s:Nat),.agg L]=some [.int (pcheckF pr se S)]:=by
 have h1:=A7a H.W h
 have h2:FX 82 [.int S.c.c0,.int S.c.c1,.int S.c.c2,.int S.c.c3,.int S.c.c4,.int S.c.c5,.int S.c.c6,.int se.part,.int pr.a.cell]=some [.int (cellF S.c se.part pr.a.cell)]:=D2k S.c h.c _ _
 have h3:FX 127 [.int S.c.c0,.int S.c.c1,.int S.c.c2,.int S.c.c3,.int S.c.c4,.int S.c.c5,.int S.c.c6,.int pr.a.tm.name,.int pr.a.tm.side,.int pr.a.tm.price,.int pr.a.tm.least,.int pr.a.tm.till,.int pr.a.qty,wN S.now]=some [er (checkF S.c pr.a.tm pr.a.qty S.now)]:=E1f S.c pr.a.tm pr.a.qty S.now
 rw[B2i]
 simp only[HH,H.a,H.s,H.W.w,WorldS.all,h1,PrS.get1,PrS.get2,PrS.get3,PrS.get4,PrS.get5,PrS.get6,PrS.get7,PrS.get8,SeatS.get0,SeatS.get1,h2,h3]
 unfold pcheckF
 by_cases a1:pr.a.id≤se.last
 ·simp only[a1,decide_true,if_true,true_or]
 by_cases a2:pr.a.id>1000000
 ·simp only[a1,a2,decide_true,decide_false,Bool.false_eq_true,if_false,if_true,or_true]
 by_cases a3:cellF S.c se.part pr.a.cell<0
 ·simp only[a1,a2,a3,decide_true,decide_false,Bool.false_eq_true,if_false,if_true,or_self]
 simp only[a1,a2,a3,decide_false,Bool.false_eq_true,if_false,or_self]
 generalize checkF S.c pr.a.tm pr.a.qty S.now=e
 by_cases a4:e=0
 ·subst a4;simp[C3i,D.isIf]
 ·unfold er code;simp[a4,D.isIf,D.inner]
end
def outS(r:Option Rep)(L:List D):List D:=match r with
 |some r=>r.ds++[.bool true,.agg L]
 |none=>Rep.zero.ds++[.bool false,.agg L]
end Go.Proofs.YtcgcpjajghdbpaaGreat.P
