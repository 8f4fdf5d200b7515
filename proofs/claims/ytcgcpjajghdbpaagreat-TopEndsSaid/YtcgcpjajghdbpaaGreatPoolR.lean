import Derived.Test.YtcgcpjajghdbpaaGreatPoolQ
namespace Go.Proofs.YtcgcpjajghdbpaaGreat.P
open Go.RowKit Go.Proofs.YtcgcpjajghdbpaaGreat.Eng Go.Proofs.YtcgcpjajghdbpaaGreat Go.Proofs.YtcgcpjajghdbpaaGreat.Dat Go.Proofs.YtcgcpjajghdbpaaGreat.FDat
set_option linter.unusedVariables false
set_option linter.unusedSimpArgs false
set_option linter.unusedSectionVars false
set_option maxRecDepth 10000
def PrS.start(a:Ask):PrS:=⟨a,0,0,.zero,0,0,0,.nil,0,[],.zero,.zero,[],.nil⟩
def Sess.begun(x:Sess):Option (Sess × PrS × Option PairS):=match x.now with
 |some (pr,o)=>some (x,pr,o)
 |none=>match x.queue with
  |[]=>none
  |q::t=>some ({x with queue:=t,ev:=q.ev,now:=some (PrS.start q.a,none)},PrS.start q.a,none)
def Pool.use(P:Pool)(ev:Int):Pool:={P with uses:=P.uses.set P.events.toNat ev}
def stepR(P:Pool)(i:Nat)(x:Sess)(R:StA):Pool:=match R.r with
 |none=>{P with S:=R.S,uses:=R.po.uses,sess:=P.sess.set i {x with se:=R.se,now:=some (R.pr,R.o),taken:=R.ss.taken}}
 |some r=>{P with S:=R.S,uses:=R.po.uses,outs:=P.outs++[⟨R.se.part,x.ev,r⟩],sess:=P.sess.set i {x with se:=R.se,now:=none,ev:=-1,taken:=R.ss.taken}}
def stepQ(P:Pool)(i:Nat)(x:Sess)(pr:PrS)(o:Option PairS):Pool:=stepR (P.use x.ev) i x (stepA pr o x.se x.nl (P.use x.ev).nl P.S)
def stepP(P:Pool)(i:Nat)(x:Sess):Bool × Pool:=match x.begun with
 |none=>(false,P)
 |some (x1,pr,o)=>(true,stepQ P i x1 pr o)
theorem D8v(r:Option Rep)(L:List D):(outS r L).length=15:=by cases r<;>rfl
section
variable{L:List D}{s z l w m k:Nat}{se:SeatS}{ss:SessS}{po:PoolS}{S:WS}(B:InB L s z l w m k se ss po S)
include B
theorem InB.far:(z≠s∧z≠w∧z≠m∧z≠k∧z≠l)∧(l≠s∧l≠w∧l≠m∧l≠k):=by
 obtain⟨h1,h2,h3⟩:=B.W.far B.z (by rw[SessS.len];decide) (by rw[SessS.len];decide) (by rw[SessS.len];decide)
 obtain⟨g1,g2,g3⟩:=B.W.far B.l (by rw[PoolS.len];decide) (by rw[PoolS.len];decide) (by rw[PoolS.len];decide)
 exact⟨⟨ne_of B.z B.s (by rw[SeatS.len,SessS.len];decide),h1,h2,h3,ne_of B.z B.l (by rw[SessS.len,PoolS.len];decide)⟩,ne_of B.l B.s (by rw[SeatS.len,PoolS.len];decide),g1,g2,g3⟩
theorem InB.setZ(ss':SessS):InB (L.set z (.agg ss'.ds)) s z l w m k se ss' po S:=by
 obtain⟨⟨h1,h2,h3,h4,h5⟩,_⟩:=B.far
 exact⟨B.W.fr (Fr.set L z _ (T:=(·=z)) rfl) (Ne.symm h2) (Ne.symm h3) (Ne.symm h4),by rw[A0s h1];exact B.s,A0w (lt_of B.z) _,by rw[A0s h5];exact B.l⟩
theorem InB.setL(po':PoolS):InB (L.set l (.agg po'.ds)) s z l w m k se ss po' S:=by
 obtain⟨⟨h1,h2,h3,h4,h5⟩,g1,g2,g3,g4⟩:=B.far
 exact⟨B.W.fr (Fr.set L l _ (T:=(·=l)) rfl) (Ne.symm g2) (Ne.symm g3) (Ne.symm g4),by rw[A0s g1];exact B.s,by rw[A0s (Ne.symm h5)];exact B.z,A0w (lt_of B.l) _⟩
end
theorem C7x{L:List D}{a s z pl w m k q n:Nat}{ptr:D}{pr:PrS}{o:Option PairS}{x:Sess}{P:Pool}{za swa rea:List D}{lab:Nat→Nat}{i:Nat}
  (A:InA L a s z pl w m k (pr.at ptr (drawD z pl)) x.se (x.raw (.int (s:Nat)) (.int (a:Nat))) (P.raw (.int (w:Nat)) za swa rea) P.S) (hp:PP L q ptr o) (h:P.S.ok) (hk:ProgOk pr o x.se P.S) (hse:SeatOk x.se P.S.c)
  (hl:P.S.log.length≤1000000000) (ht:TapeOk x.nl P.nl) (he:0≤P.events∧P.events<P.uses.length) (ho:P.outs.length≤1000000000)
  (hlab:∀b,L.length≤b→lab b=n) (hl4:lab z=n∧lab s=n∧lab a=n∧lab q=n) (hql:q<L.length) (x2:D):
  ∃L',A2c (.int (pl:Nat)) (.int (z:Nat)) x2 [.agg L]=some [.bool true,.agg L']∧InW L' w m k (stepQ P i x pr o).S∧
   L'.getD pl D.nil=.agg ((stepQ P i x pr o).raw (.int (w:Nat)) za swa rea).ds∧Fr L L' (Own a q s z pl w m)∧
   ∃x',(stepQ P i x pr o).sess=P.sess.set i x'∧SessIn L' lab n pl z x'∧(stepQ P i x pr o).sw=P.sw∧(stepQ P i x pr o).re=P.re:=by
 have A1:=A.setL ((P.use x.ev).raw (.int (w:Nat)) za swa rea)
 have hpl:=A.fl
 have hq1:PP (L.set pl (.agg ((P.use x.ev).raw (.int (w:Nat)) za swa rea).ds)) q ptr o:=hp.ext fun P' hP=>by
  subst hP
  exact A0s (Ne.symm (ne_of hp.2 A.l (by rw[PairS.len,PoolS.len];decide))) _
 have ht0:TapeOk x.nl (P.use x.ev).nl:=⟨ht.t,fun d hd=>by have:=ht.e d hd;simpa[Pool.use,Pool.nl,Pool.raw]using this⟩
 have ht1:TapeOk (x.raw (.int (s:Nat)) (.int (a:Nat))) ((P.use x.ev).raw (.int (w:Nat)) za swa rea):=⟨ht0.t,ht0.e⟩
 obtain⟨L1,q1,p1,n1,B1,D1,F1,hq⟩:=D7s A1 hq1 h hk hse hl ht1
 rw[D7y]at n1 B1 D1
 have kk:=C0z (pr:=pr) (o:=o) h hk hse ht0
 have hQ:stepQ P i x pr o=stepR (P.use x.ev) i x (stepA pr o x.se x.nl (P.use x.ev).nl P.S):=rfl
 rw[hQ]
 generalize stepA pr o x.se x.nl (P.use x.ev).nl P.S=R at*
 have ess:R.ss.at (.int (s:Nat)) (.int (a:Nat))=({x with se:=R.se,taken:=R.ss.taken}:Sess).raw (.int (s:Nat)) (.int (a:Nat)):=by rw[kk.t.e1];rfl
 have epo:∀P':Pool,P'.events=P.events→P'.outs=P.outs→P'.uses=R.po.uses→P'.lines=P.lines→R.po.at (.int (w:Nat)) za swa rea=P'.raw (.int (w:Nat)) za swa rea:=by
  intro P' e1 e2 e3 e4
  rw[kk.t.e2]
  unfold Pool.raw PoolS.at
  rw[e1,e2,e3,e4];rfl
 have hus:((P.raw (.int (w:Nat)) za swa rea).uses.map D.int).set (P.raw (.int (w:Nat)) za swa rea).events.toNat (.int (x.raw (.int (s:Nat)) (.int (a:Nat))).ev)=(P.use x.ev).uses.map D.int:=C0m _ _ _
 have j1:(P.raw (.int (w:Nat)) za swa rea).events≥0:=he.1
 have j2:(P.raw (.int (w:Nat)) za swa rea).events<((P.raw (.int (w:Nat)) za swa rea).uses.length:Int):=he.2
 have g0:(x.raw (.int (s:Nat)) (.int (a:Nat))).s=.int (s:Nat):=rfl
 have g1:(x.raw (.int (s:Nat)) (.int (a:Nat))).now=.int (a:Nat):=rfl
 have g3:(P.raw (.int (w:Nat)) za swa rea).w=.int (w:Nat):=rfl
 have g6:({P.raw (.int (w:Nat)) za swa rea with uses:=(P.use x.ev).uses}:PoolS)=(P.use x.ev).raw (.int (w:Nat)) za swa rea:=rfl
 have FA:Fr L (L.set pl (.agg ((P.use x.ev).raw (.int (w:Nat)) za swa rea).ds)) (Own a q s z pl w m):=Fr.set L pl _ (.inr (.inr (.inr (.inr (.inl rfl)))))
 have F2:Fr L L1 (Own a q s z pl w m):=FA.trans F1
 have hlen0:(L.set pl (.agg ((P.use x.ev).raw (.int (w:Nat)) za swa rea).ds)).length=L.length:=by simp
 rw[hlen0]at hq
 have hlq:lab q1=n:=by
  rcases hq with hq|hq
  ·rw[hq];exact hl4.2.2.2
  ·exact hlab _ hq
 have hal:a<L.length:=lt_of A.H.a
 rw[B0w]
 simp only[HH,A.l,A.z,PoolS.get0,PoolS.get4,PoolS.get6,SessS.get3,j1,j2,decide_true,B4f,hus,PoolS.rng,PoolS.set6,g6,A1.z,SessS.get0,SessS.get2]
 simp only[g0,g1,g3,n1,HH,D8v,B1c]
 cases hr:R.r with
 |none=>
  have hst:stepR (P.use x.ev) i x R={P.use x.ev with S:=R.S,uses:=R.po.uses,sess:=P.sess.set i {x with se:=R.se,now:=some (R.pr,R.o),taken:=R.ss.taken}}:=by unfold stepR;rw[hr];rfl
  rw[hst]
  obtain⟨d1,d2⟩:=D1 hr
  have e13:(outS none L1).getD 13 D.nil=.bool false:=rfl
  have e14:(outS none L1).getD 14 D.nil=.agg L1:=rfl
  simp only[e13,e14,HH]
  have hB:=B1.z
  have hL:=B1.l
  dsimp only at hB hL d1 d2
  rw[ess]at hB
  rw[epo {P.use x.ev with S:=R.S,uses:=R.po.uses,sess:=P.sess.set i {x with se:=R.se,now:=some (R.pr,R.o),taken:=R.ss.taken}} rfl rfl rfl rfl]at hL
  have hql1:q1<L1.length∨R.o=none:=by
   cases hoo:R.o with
   |none=>exact .inr rfl
   |some P'=>rw[hoo]at d2;exact .inl (lt_of d2.2)
  refine⟨L1,rfl,B1.W,hL,F2,{x with se:=R.se,now:=some (R.pr,R.o),taken:=R.ss.taken},rfl,?_,rfl,rfl⟩
  rcases hql1 with hh|hh
  ·exact⟨s,a,q1,.int (a:Nat),hB,B1.s,⟨rfl,p1,d1,d2⟩,⟨hl4.1,hl4.2.1,hl4.2.2.1,hlq⟩,Nat.lt_of_lt_of_le hal F2.1,hh⟩
  ·refine⟨s,a,q,.int (a:Nat),hB,B1.s,⟨rfl,p1,d1,?_⟩,hl4,Nat.lt_of_lt_of_le hal F2.1,Nat.lt_of_lt_of_le hql F2.1⟩
   rw[hh]at d2⊢
   exact d2
 |some r=>
  have hst:stepR (P.use x.ev) i x R={P.use x.ev with S:=R.S,uses:=R.po.uses,outs:=P.outs++[⟨R.se.part,x.ev,r⟩],sess:=P.sess.set i {x with se:=R.se,now:=none,ev:=-1,taken:=R.ss.taken}}:=by unfold stepR;rw[hr];rfl
  rw[hst]
  have hB:=B1.z
  have hL:=B1.l
  dsimp only at hB hL
  rw[ess]at hB
  rw[epo {P.use x.ev with S:=R.S,uses:=R.po.uses} rfl rfl rfl rfl]at hL
  have B2:InB L1 s z pl w m k R.se (({x with se:=R.se,taken:=R.ss.taken}:Sess).raw (.int (s:Nat)) (.int (a:Nat))) (({P.use x.ev with S:=R.S,uses:=R.po.uses}:Pool).raw (.int (w:Nat)) za swa rea) R.S:=⟨B1.W,B1.s,hB,hL⟩
  have B3:=B2.setL (({P.use x.ev with S:=R.S,uses:=R.po.uses,outs:=P.outs++[⟨R.se.part,x.ev,r⟩]}:Pool).raw (.int (w:Nat)) za swa rea)
  have B4:=B3.setZ (({x with se:=R.se,now:=none,ev:=-1,taken:=R.ss.taken}:Sess).raw (.int (s:Nat)) .nil)
  have o0:(outS (some r) L1).getD 0 D.nil=.int r.kind:=rfl
  have o1:(outS (some r) L1).getD 1 D.nil=.int r.code:=rfl
  have o2:(outS (some r) L1).getD 2 D.nil=.int r.tick:=rfl
  have o3:(outS (some r) L1).getD 3 D.nil=.int r.id:=rfl
  have o4:(outS (some r) L1).getD 4 D.nil=.int r.cell:=rfl
  have o5:(outS (some r) L1).getD 5 D.nil=.bool r.asked:=rfl
  have o6:(outS (some r) L1).getD 6 D.nil=.int r.rc.k:=rfl
  have o7:(outS (some r) L1).getD 7 D.nil=.int r.rc.q:=rfl
  have o8:(outS (some r) L1).getD 8 D.nil=.int r.rc.p:=rfl
  have o9:(outS (some r) L1).getD 9 D.nil=.int r.rc.t:=rfl
  have o10:(outS (some r) L1).getD 10 D.nil=.int r.rc.c:=rfl
  have o11:(outS (some r) L1).getD 11 D.nil=.int r.rc.g:=rfl
  have o12:(outS (some r) L1).getD 12 D.nil=.agg (r.looks.map Look.d):=rfl
  have o13:(outS (some r) L1).getD 13 D.nil=.bool true:=rfl
  have o14:(outS (some r) L1).getD 14 D.nil=.agg L1:=rfl
  have y0:(({x with se:=R.se,taken:=R.ss.taken}:Sess).raw (.int (s:Nat)) (.int (a:Nat))).s=.int (s:Nat):=rfl
  have y3:(({P.use x.ev with S:=R.S,uses:=R.po.uses}:Pool).raw (.int (w:Nat)) za swa rea).outs.map Out.d++[D.agg [.int R.se.part,.int (({x with se:=R.se,taken:=R.ss.taken}:Sess).raw (.int (s:Nat)) (.int (a:Nat))).ev,.int r.kind,.int r.code,.int r.tick,.int r.id,.int r.cell,.bool r.asked,.int r.rc.k,.int r.rc.q,.int r.rc.p,.int r.rc.t,.int r.rc.c,.int r.rc.g,.agg (r.looks.map Look.d)]]=(P.outs++[(⟨R.se.part,x.ev,r⟩:Out)]).map Out.d:=by rw[List.map_append];rfl
  have y4:(((P.outs++[(⟨R.se.part,x.ev,r⟩:Out)]).map Out.d).length:Int)≤1034834473200:=by simp;omega
  have y5:({(({P.use x.ev with S:=R.S,uses:=R.po.uses}:Pool).raw (.int (w:Nat)) za swa rea)with outs:=P.outs++[⟨R.se.part,x.ev,r⟩]}:PoolS)=(({P.use x.ev with S:=R.S,uses:=R.po.uses,outs:=P.outs++[⟨R.se.part,x.ev,r⟩]}:Pool).raw (.int (w:Nat)) za swa rea):=rfl
  simp only[o0,o1,o2,o3,o4,o5,o6,o7,o8,o9,o10,o11,o12,o13,o14,HH,B2.z,B2.l,B2.s,SeatS.get0,SessS.get0,SessS.get3,PoolS.get5,y0,y3,y4,decide_true,B1f,B0z,PoolS.rng,PoolS.set5,y5,B3.z,SessS.rng,SessS.set2,SessS.set3]
  have F3:Fr L ((L1.set pl (.agg (({P.use x.ev with S:=R.S,uses:=R.po.uses,outs:=P.outs++[⟨R.se.part,x.ev,r⟩]}:Pool).raw (.int (w:Nat)) za swa rea).ds)).set z (.agg (({x with se:=R.se,now:=none,ev:=-1,taken:=R.ss.taken}:Sess).raw (.int (s:Nat)) .nil).ds)) (Own a q s z pl w m):=
   (F2.trans (Fr.set L1 pl _ (.inr (.inr (.inr (.inr (.inl rfl))))))).trans (Fr.set _ z _ (.inr (.inr (.inr (.inl rfl)))))
  refine⟨_,rfl,B4.W,B4.l,F3,{x with se:=R.se,now:=none,ev:=-1,taken:=R.ss.taken},rfl,?_,rfl,rfl⟩
  exact⟨s,a,q,.nil,B4.z,B4.s,rfl,hl4,Nat.lt_of_lt_of_le hal F3.1,Nat.lt_of_lt_of_le hql F3.1⟩
end Go.Proofs.YtcgcpjajghdbpaaGreat.P
