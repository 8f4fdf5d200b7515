import Derived.Test.YtcgcpjajghdbpaaGreatPoolN
namespace Go.Proofs.YtcgcpjajghdbpaaGreat.P
open Go.RowKit Go.Proofs.YtcgcpjajghdbpaaGreat.Eng Go.Proofs.YtcgcpjajghdbpaaGreat Go.Proofs.YtcgcpjajghdbpaaGreat.Dat Go.Proofs.YtcgcpjajghdbpaaGreat.FDat
set_option linter.unusedVariables false
set_option linter.unusedSimpArgs false
set_option linter.unusedSectionVars false
set_option maxRecDepth 10000
def w64(z:Int):Int:=IntKind.i64.wrap z
theorem all_x{S:WS}(h:S.ok):FX 39 [.int S.c.c0,.int S.c.c1,.int S.c.c2,.int S.c.c3,.int S.c.c4,.int S.c.c5,.int S.c.c6]=some [.int (allF S.c)]:=B2v S.c h.c
def sweepO(sw:SwS)(c:Cf):Option PairS→PairS
 |none=>PairS.new ⟨3,sw.at_/allF c,0,sw.at_%allF c,sw.shard⟩
 |some P=>if P.pc≥14 then PairS.new ⟨3,sw.at_/allF c,0,sw.at_%allF c,sw.shard⟩else P
def sweepN(sw:SwS)(c:Cf)(P:PairS):SwS:=
 if P.pc<14 then sw else if sw.at_+1=allF c*allF c then {sw with at_:=0,passes:=w64 (sw.passes+1)} else {sw with at_:=sw.at_+1}
def sweepF(sw:SwS)(o:Option PairS)(S:WS):SwS × PairS × WS:=(sweepN sw S.c (pStepF (sweepO sw S.c o) S).1,(pStepF (sweepO sw S.c o) S).1,(pStepF (sweepO sw S.c o) S).2)
def SwS.at(sw:SwS)(p:D):SwS:={sw with p:=p}
def SwOk(sw:SwS)(c:Cf):Prop:=0≤sw.at_∧sw.at_<allF c*allF c
def OwnB(b q w m:Nat)(x:Nat):Prop:=x=b∨x=q∨x=w∨x=m
section
variable{L:List D}{b q w m k:Nat}{ptr:D}{sw:SwS}{S:WS}{o:Option PairS}(W:InW L w m k S)(hb:L.getD b D.nil=.agg (sw.at ptr).ds)(h:S.ok)(hsw:SwOk sw S.c)(hl:S.log.length≤1000000000)
include W hb h hsw hl
theorem C5v{P:PairS}(hq:L.getD q D.nil=.agg P.ds)(hptr:ptr=.int (q:Nat))(hP:P.ok)(x2:D):
  ∃L',A1t (.int (b:Nat)) (.int (w:Nat)) x2 (.int (allF S.c)) [.agg L]=some [.agg L']∧InW L' w m k (pStepF P S).2∧L'.getD b D.nil=.agg ((sweepN sw S.c (pStepF P S).1).at ptr).ds∧L'.getD q D.nil=.agg (pStepF P S).1.ds∧Fr L L' (OwnB b q w m):=by
 obtain⟨L1,n1,d1,d2,d3⟩:=C8h W hq h hP hl
 have hal:=all_b S.c h.c
 have hbq:b≠q:=ne_of hb hq (by rw[SwS.len,PairS.len];decide)
 obtain⟨b1,b2,b3⟩:=W.far hb (by rw[SwS.len];decide) (by rw[SwS.len];decide) (by rw[SwS.len];decide)
 have hb1:L1.getD b D.nil=.agg (sw.at ptr).ds:=d3.get hb (by simp only[hbq,b1,b2,or_self,not_false_iff])
 have n2:=B8m d1 d2
 have hat:(sw.at ptr).at_=sw.at_:=rfl
 have hps:(sw.at ptr).passes=sw.passes:=rfl
 have hpp:(sw.at ptr).p=.int (q:Nat):=hptr
 obtain⟨s1,s2⟩:=hsw
 have hsq:allF S.c*allF S.c≤24*24:=Int.mul_le_mul hal.2 hal.2 (by omega) (by omega)
 have d3':Fr L L1 (OwnB b q w m):=d3.mono fun x hx=>by
  unfold OwnB
  rcases hx with hx|hx|hx
  ·exact .inr (.inl hx)
  ·exact .inr (.inr (.inl hx))
  ·exact .inr (.inr (.inr hx))
 rw[A7u]
 simp only[HH,hb,hb1,SwS.get1,SwS.get2,SwS.get3,hpp,n1,n2,hat,hps]
 rw[i64w (sw.at_+1) (by omega) (by omega),i64w (allF S.c*allF S.c) (by omega) (by omega)]
 unfold sweepN
 by_cases c0:(pStepF P S).1.pc≥14
 ·rw[if_neg (by omega:¬(pStepF P S).1.pc<14)]
  simp only[c0,decide_true,Bool.not_true,Bool.false_eq_true,if_false]
  have fin:∀z:SwS,∃L',some [D.agg (L1.set b (.agg (z.at ptr).ds))]=some [.agg L']∧InW L' w m k (pStepF P S).2∧L'.getD b D.nil=.agg (z.at ptr).ds∧L'.getD q D.nil=.agg (pStepF P S).1.ds∧Fr L L' (OwnB b q w m):=fun z=>
   ⟨_,rfl,d1.fr (Fr.set L1 b _ (T:=(·=b)) rfl) (Ne.symm b1) (Ne.symm b2) (Ne.symm b3),A0w (lt_of hb1) _,by rw[A0s hbq];exact d2,d3'.trans (Fr.set L1 b _ (.inl rfl))⟩
  by_cases c1:sw.at_+1=allF S.c*allF S.c
  ·have i1:(sw.at_+1 == allF S.c*allF S.c)=true:=beq_iff_eq.2 c1
   rw[if_pos c1]
   simp only[i1,if_true,SwS.rng,SwS.set1,SwS.set2]
   exact fin {sw with at_:=0,passes:=w64 (sw.passes+1)}
  ·have i1:(sw.at_+1 == allF S.c*allF S.c)=false:=beq_eq_false_iff_ne.2 c1
   rw[if_neg c1]
   simp only[i1,Bool.false_eq_true,if_false,SwS.rng,SwS.set1]
   exact fin {sw with at_:=sw.at_+1}
 ·rw[if_pos (by omega:(pStepF P S).1.pc<14)]
  simp only[c0,decide_false,Bool.not_false,if_true]
  exact⟨L1,rfl,d1,hb1,d2,d3'⟩
theorem D9d(hp:PP L q ptr o)(ho:∀P,o=some P→P.ok):
  ∃L' q',FX 45 [.int (b:Nat),.int (w:Nat),.agg L]=some [.agg L']∧InW L' w m k (sweepF sw o S).2.2∧L'.getD b D.nil=.agg ((sweepF sw o S).1.at (.int (q':Nat))).ds∧L'.getD q' D.nil=.agg (sweepF sw o S).2.1.ds∧Fr L L' (OwnB b q w m)∧(q'=q∨L.length≤q'):=by
 have n1:=all_x h
 have hal:=all_b S.c h.c
 obtain⟨s1,s2⟩:=hsw
 have hsq:allF S.c*allF S.c≤24*24:=Int.mul_le_mul hal.2 hal.2 (by omega) (by omega)
 have hdone:FX 53 [ptr,.agg L]=some [.bool (doneO o)]:=by
  cases o with
  |none=>
   dsimp only[PP]at hp
   rw[hp,A4f]
   simp only[HH];rfl
  |some P=>
   obtain⟨e1,e2⟩:=hp
   rw[e1,B8m W e2];rfl
 obtain⟨b1,b2,b3⟩:=W.far hb (by rw[SwS.len];decide) (by rw[SwS.len];decide) (by rw[SwS.len];decide)
 have hpp:(sw.at ptr).p=ptr:=rfl
 have hat:(sw.at ptr).at_=sw.at_:=rfl
 have hsh:(sw.at ptr).shard=sw.shard:=rfl
 rw[B2n]
 simp only[HH,W.w,hb,WorldS.all,n1,SwS.get0,SwS.get1,SwS.get3,hpp,hdone,hat,hsh]
 by_cases c0:doneO o=true
 ·have j0:(allF S.c != 0)=true:=by simp;omega
  have hdiv:sw.at_.tdiv (allF S.c)=sw.at_/allF S.c:=Int.tdiv_eq_ediv_of_nonneg s1
  have hmod:sw.at_.tmod (allF S.c)=sw.at_%allF S.c:=Int.tmod_eq_emod_of_nonneg s1
  have hd0:0≤sw.at_/allF S.c:=Int.ediv_nonneg s1 (by omega)
  have hd1:sw.at_/allF S.c≤sw.at_:=Int.ediv_le_self _ s1
  have nb:FX 54 [.int 3,.int (sw.at_/allF S.c),.int 0,.int (sw.at_%allF S.c),.int sw.shard,.agg L]=some [.int (L.length:Nat),.agg (L++[.agg (PairS.new ⟨3,sw.at_/allF S.c,0,sw.at_%allF S.c,sw.shard⟩).ds])]:=C8g ⟨3,sw.at_/allF S.c,0,sw.at_%allF S.c,sw.shard⟩ L
  have hO:sweepO sw S.c o=PairS.new ⟨3,sw.at_/allF S.c,0,sw.at_%allF S.c,sw.shard⟩:=by
   cases o with
   |none=>rfl
   |some P=>exact if_pos (by simpa[doneO]using c0)
  rw[hdiv,hmod,i64w _ (by omega) (by omega)]
  unfold sweepF
  rw[hO]
  generalize (⟨3,sw.at_/allF S.c,0,sw.at_%allF S.c,sw.shard⟩:Aim)=ai at*
  have hf:Fr L (L++[D.agg (PairS.new ai).ds]) (fun _=>False):=Fr.snoc L _ _
  have hb1:=hf.get hb not_false
  have hset:∀x:SwS,x.ds.set 3 (.int (L.length:Nat))=(x.at (.int (L.length:Nat))).ds:=fun _=>rfl
  simp only[c0,if_true,j0,nb,HH,hb1,SwS.rng,hset]
  have W2:InW ((L++[D.agg (PairS.new ai).ds]).set b (.agg (sw.at (.int (L.length:Nat))).ds)) w m k S:=(W.fr hf not_false not_false not_false).fr (Fr.set _ b _ (T:=(·=b)) rfl) (Ne.symm b1) (Ne.symm b2) (Ne.symm b3)
  have hbl:=lt_of hb
  have hb2:((L++[D.agg (PairS.new ai).ds]).set b (.agg (sw.at (.int (L.length:Nat))).ds)).getD b D.nil=.agg (sw.at (.int (L.length:Nat))).ds:=A0w (by simp;omega) _
  have hq2:((L++[D.agg (PairS.new ai).ds]).set b (.agg (sw.at (.int (L.length:Nat))).ds)).getD L.length D.nil=.agg (PairS.new ai).ds:=by rw[A0s (by omega)];exact A1u L _
  obtain⟨L',n2,W3,b5,q5,F5⟩:=C5v W2 hb2 h ⟨s1,s2⟩ hl hq2 rfl (PairS.new_ok ai) (.agg L)
  refine⟨L',L.length,n2,W3,b5,q5,?_,.inr (Nat.le_refl _)⟩
  have F1:Fr L ((L++[D.agg (PairS.new ai).ds]).set b (.agg (sw.at (.int (L.length:Nat))).ds)) (OwnB b L.length w m):=(Fr.snoc L _ _).trans (Fr.set _ b _ (.inl rfl))
  have F2:=F1.trans F5
  refine⟨F2.1,fun x hx hn=>F2.2 x hx fun ho=>hn ?_⟩
  unfold OwnB at ho⊢
  rcases ho with ho|ho|ho
  ·exact .inl ho
  ·omega
  ·exact .inr (.inr ho)
 ·have c0':doneO o=false:=by simpa using c0
  cases o with
  |none=>cases c0'
  |some P=>
   obtain⟨e1,e2⟩:=hp
   have hO:sweepO sw S.c (some P)=P:=if_neg (by simpa[doneO]using c0')
   simp only[c0',Bool.false_eq_true,if_false]
   unfold sweepF
   rw[hO]
   subst e1
   obtain⟨L',n2,W3,b5,q5,F5⟩:=C5v W hb h ⟨s1,s2⟩ hl e2 rfl (ho P rfl) (.agg L)
   exact⟨L',q,n2,W3,b5,q5,F5,.inl rfl⟩
end
def reapEnd(re:ReS)(S:WS)(x:Int):ReS × WS:=
 if(expireF re.st).1≠0 then(re,S)else if tshardF S.c re.tm≠re.shard then(re,S)else if ¬re.tm.till≤S.now then(re,S)
 else if(S.turn x re.word (expireF re.st).2).1 then({re with done:=true,st:=(expireF re.st).2,at_:=S.now},(S.turn x re.word (expireF re.st).2).2.tell {Ev.zero with kind:=5,cell:=x,gen:=(expireF re.st).2.g})
 else({re with done:=false},S)
def reapN(re:ReS)(c:Cf):ReS:=if re.pc+1=4*allF c then {re with pc:=0,passes:=w64 (re.passes+1)} else {re with pc:=re.pc+1}
def reapS(re:ReS)(S:WS):ReS × WS:=
 if re.pc%4=0 then({re with done:=false,word:=S.word (re.pc/4),st:=stOf (S.word (re.pc/4))},S)
 else if re.pc%4=1 then({re with tm:=tmOf (S.tword (re.pc/4))},S)
 else if re.pc%4=2 then reapEnd re S (re.pc/4)
 else(re,if re.done then noteE S (re.pc/4) re.st.g S.c.c5 (endF re.st re.at_)else S)
def reapF(re:ReS)(S:WS):ReS × WS:=(reapN (reapS re S).1 S.c,(reapS re S).2)
structure ReOk(re:ReS)(c:Cf):Prop where
 pc:0≤re.pc∧re.pc<4*allF c
 word:re.word<18446744073709551616
 st:re.st.wf
 tm:re.tm.sm
 at_:In re.at_
theorem D8m(s:St):FX 74 [.int s.k,.bool s.f,.int s.g,.int s.l,.int s.n]=some (outD (expireF s)):=D7o s
theorem C1e{s:St}(h:s.wf):(expireF s).2.wf:=by
 unfold expireF
 split
 ·exact St.zero_wf
 ·exact h.wf_k 7 _ (In.lit (by decide))
structure Hr(L:List D)(b w m k:Nat)(re:ReS)(S:WS):Prop where
 W:InW L w m k S
 b:L.getD b D.nil=.agg re.ds
def FrR(L L':List D)(b w m:Nat):Prop:=Fr L L' (fun x=>x=b∨x=w∨x=m)
section
variable{L:List D}{b w m k:Nat}{re:ReS}{S:WS}(H:Hr L b w m k re S)
include H
theorem Hr.far:b≠w∧b≠m∧b≠k:=H.W.far H.b (by rw[ReS.len];decide) (by rw[ReS.len];decide) (by rw[ReS.len];decide)
theorem Hr.setB(re':ReS):Hr (L.set b (.agg re'.ds)) b w m k re' S:=by
 obtain⟨h1,h2,h3⟩:=H.far
 exact⟨H.W.fr (Fr.set L b _ (T:=(·=b)) rfl) (Ne.symm h1) (Ne.symm h2) (Ne.symm h3),A0w (lt_of H.b) _⟩
theorem Hr.setW{L1:List D}{S1:WS}(W1:InW L1 w m k S1)(F:Fr L L1 (fun x=>x=w∨x=m)):Hr L1 b w m k re S1∧FrR L L1 b w m:=by
 obtain⟨h1,h2,h3⟩:=H.far
 exact⟨⟨W1,F.get H.b (by simp only[h1,h2,or_self,not_false_iff])⟩,F.mono fun x hx=>.inr hx⟩
omit H in
theorem frr_b(x:D):FrR L (L.set b x) b w m:=Fr.set L b x (.inl rfl)
variable(h:S.ok)(hk:ReOk re S.c)(hl:S.log.length≤1000000000)
include h hk hl
theorem E4j:FX 76 [.int (k:Nat),.int re.tm.till,.agg L]=some [.bool (decide (re.tm.till≤S.now))]:=by
 have h1:=A7a H.W h
 rw[B6i,h1]
 simp only[HH]
theorem E1v(x:Int)(hx:-1000≤x∧x≤1000):∃L',FX 58 [.int (b:Nat),.int (w:Nat),.int x,.agg L]=some [.agg L']∧Hr L' b w m k (reapEnd re S x).1 (reapEnd re S x).2∧FrR L L' b w m:=by
 have n1:=D8m re.st
 have n2:=C0l h re.tm
 have n3:=E4j H h hk hl
 rw[B4u]
 simp only[HH,H.b,H.W.w,WorldS.all,ReS.get0,ReS.get3,ReS.get4,ReS.get5,ReS.get6,ReS.get7,ReS.get8,ReS.get9,ReS.get10,ReS.get11,ReS.get12,ReS.get13,n1,n2,n3,outD.len,outD.all]
 by_cases c0:(expireF re.st).1=0
 ·have d0:¬(expireF re.st).1≠0:=by simpa using c0
  simp only[C1u c0,Bool.not_true,Bool.false_eq_true,if_false]
  by_cases c1:tshardF S.c re.tm=re.shard
  ·have i1:(tshardF S.c re.tm != re.shard)=false:=by simp[c1]
   have d1:¬tshardF S.c re.tm≠re.shard:=by simpa using c1
   simp only[i1,Bool.false_eq_true,if_false]
   by_cases c2:re.tm.till≤S.now
   ·have d2:¬¬re.tm.till≤S.now:=by simpa using c2
    simp only[c2,decide_true,Bool.not_true,Bool.false_eq_true,if_false]
    obtain⟨L1,n4,W1,F1⟩:=A7i H.W h x hx re.word (expireF re.st).2 (C1e hk.st)
    obtain⟨H2,G2⟩:=H.setW W1 (F1.mono fun _ hb=>.inr hb)
    obtain⟨o1,o2,o3,o4,o5⟩:=S.turn_ok h x re.word (expireF re.st).2
    simp only[n4,HH,H2.b,ReS.rng,ReS.set14]
    by_cases c3:(S.turn x re.word (expireF re.st).2).1=true
    ·have H3:=H2.setB {re with done:=true}
     have n5:=A7a H3.W o1
     rw[o3]at n5
     have e:reapEnd re S x=({re with done:=true,st:=(expireF re.st).2,at_:=S.now},(S.turn x re.word (expireF re.st).2).2.tell {Ev.zero with kind:=5,cell:=x,gen:=(expireF re.st).2.g}):=by
      unfold reapEnd;rw[if_neg d0,if_neg d1,if_neg d2,if_pos c3]
     rw[e]
     have H4:=H2.setB {re with done:=true,st:=(expireF re.st).2,at_:=S.now}
     obtain⟨L5,n6,W5,F5⟩:=B3o H4.W o1 (by rw[o4];exact hl) 5 x (expireF re.st).2.g 0 0 0 0 0
     obtain⟨H6,G6⟩:=H4.setW W5 (F5.mono fun _ hb=>.inl hb)
     have hset:∀z:ReS,z.ds.set 15 (wN S.now)=ReS.ds {z with at_:=S.now}:=fun _=>rfl
     have e10:({k:=(expireF re.st).2.k,f:=(expireF re.st).2.f,g:=(expireF re.st).2.g,l:=(expireF re.st).2.l,n:=(expireF re.st).2.n}:St)=(expireF re.st).2:=rfl
     simp only[c3,if_true,H3.W.w,WorldS.get8,n5,HH,ReS.rng,ReS.set4,ReS.set5,ReS.set6,ReS.set7,ReS.set8,hset,e10,n6]
     exact⟨L5,rfl,H6,(G2.trans (frr_b _)).trans G6⟩
    ·have c3':(S.turn x re.word (expireF re.st).2).1=false:=by simpa using c3
     have e:reapEnd re S x=({re with done:=false},S):=by
      unfold reapEnd;rw[if_neg d0,if_neg d1,if_neg d2,if_neg c3]
     rw[e]
     simp only[c3',Bool.false_eq_true,if_false]
     rw[o5 c3']at H2
     exact⟨_,rfl,H2.setB {re with done:=false},G2.trans (frr_b _)⟩
   ·have e:reapEnd re S x=(re,S):=by
     unfold reapEnd;rw[if_neg d0,if_neg d1,if_pos c2]
    rw[e]
    simp only[c2,decide_false,Bool.not_false,if_true]
    exact⟨L,rfl,H,Fr.refl _ _⟩
  ·have i1:(tshardF S.c re.tm != re.shard)=true:=by simp[c1]
   have e:reapEnd re S x=(re,S):=by
    unfold reapEnd;rw[if_neg d0,if_pos c1]
   rw[e]
   simp only[i1,if_true]
   exact⟨L,rfl,H,Fr.refl _ _⟩
 ·have e:reapEnd re S x=(re,S):=by unfold reapEnd;rw[if_pos c0]
  rw[e]
  simp only[C1o c0,Bool.not_false,if_true]
  exact⟨L,rfl,H,Fr.refl _ _⟩
end
theorem B0a{L:List D}{b w m k:Nat}{re:ReS}{S:WS}(H:Hr L b w m k re S)(h:S.ok)(hpc:0≤re.pc∧re.pc<4*allF S.c)(x2:D):
  ∃L',A0m (.int (b:Nat)) (.int (w:Nat)) x2 [.agg L]=some [.agg L']∧Hr L' b w m k (reapN re S.c) S∧FrR L L' b w m:=by
 have n1:=all_x h
 have hal:=all_b S.c h.c
 obtain⟨p1,hp1⟩:∃p1:ReS,p1={re with pc:=re.pc+1}:=⟨_,rfl⟩
 have H1:=H.setB p1
 rw[A8u]
 simp only[HH,H.b,ReS.get1,ReS.get2,ReS.rng]
 rw[i64w (re.pc+1) (by omega) (by omega)]
 simp only[ReS.set1,←hp1,H1.W.w,WorldS.all,B8z,n1,HH]
 rw[i64w (4*allF S.c) (by omega) (by omega)]
 unfold reapN
 by_cases c0:re.pc+1=4*allF S.c
 ·have i0:(re.pc+1 == 4*allF S.c)=true:=beq_iff_eq.2 c0
  rw[if_pos c0]
  simp only[i0,if_true,ReS.rng,ReS.set2]
  exact⟨_,rfl,H.setB {re with pc:=0,passes:=w64 (re.passes+1)},frr_b _⟩
 ·have i0:(re.pc+1 == 4*allF S.c)=false:=beq_eq_false_iff_ne.2 c0
  rw[if_neg c0]
  simp only[i0,Bool.false_eq_true,if_false]
  rw[hp1]at H1⊢
  exact⟨_,rfl,H1,frr_b _⟩
theorem E3n{L:List D}{b w m k:Nat}{re:ReS}{S:WS}(H:Hr L b w m k re S)(h:S.ok)(hk:ReOk re S.c)(hl:S.log.length≤1000000000):
  ∃L',FX 46 [.int (b:Nat),.int (w:Nat),.agg L]=some [.agg L']∧Hr L' b w m k (reapF re S).1 (reapF re S).2∧FrR L L' b w m:=by
 have hal:=all_b S.c h.c
 have hpc:=hk.pc
 have hx:-1000≤re.pc/4∧re.pc/4≤1000:=by omega
 have hdiv:re.pc.tdiv 4=re.pc/4:=Int.tdiv_eq_ediv_of_nonneg hpc.1
 have hmod:re.pc.tmod 4=re.pc%4:=Int.tmod_eq_emod_of_nonneg hpc.1
 rw[B2z]
 simp only[HH,H.b,H.W.w,WorldS.get5,ReS.get1,ReS.get4,ReS.get5,ReS.get6,ReS.get7,ReS.get8,ReS.get14,ReS.get15,hdiv,hmod,ReS.rng,ReS.set14]
 rw[i64w (re.pc/4) (by omega) (by omega)]
 have hF:∀R,reapS re S=R→reapF re S=(reapN R.1 S.c,R.2):=fun R e=>by unfold reapF;rw[e]
 by_cases c0:re.pc%4=0
 ·have i0:(re.pc%4 == 0)=true:=beq_iff_eq.2 c0
  rw[hF _ (if_pos c0)]
  have H1:=H.setB {re with done:=false}
  obtain⟨L1,n1,W1,F1⟩:=A3a H1.W h (re.pc/4) hx
  obtain⟨H2,G2⟩:=H1.setW W1 (F1.mono fun _ hb=>.inr hb)
  rw[sapp]at n1
  simp only[i0,if_true,n1,HH,H2.b,ReS.rng,ReS.set3,ReS.set4,ReS.set5,ReS.set6,ReS.set7,ReS.set8]
  have H3:=H2.setB {re with done:=false,word:=S.word (re.pc/4),st:=stOf (S.word (re.pc/4))}
  obtain⟨L4,n4,H4,G4⟩:=B0a H3 h hpc (.agg L)
  exact⟨L4,n4,H4,(((frr_b _).trans G2).trans (frr_b _)).trans G4⟩
 have i0:(re.pc%4 == 0)=false:=beq_eq_false_iff_ne.2 c0
 simp only[i0,Bool.false_eq_true,if_false]
 by_cases c1:re.pc%4=1
 ·have i1:(re.pc%4 == 1)=true:=beq_iff_eq.2 c1
  rw[hF ({re with tm:=tmOf (S.tword (re.pc/4))},S) (by unfold reapS;rw[if_neg c0,if_pos c1])]
  obtain⟨L1,n1,W1,F1⟩:=B6h H.W h (re.pc/4) hx
  obtain⟨H2,G2⟩:=H.setW W1 (F1.mono fun _ hb=>.inr hb)
  rw[tapp]at n1
  simp only[i1,if_true,n1,HH,H2.b,ReS.rng,ReS.set9,ReS.set10,ReS.set11,ReS.set12,ReS.set13]
  have H3:=H2.setB {re with tm:=tmOf (S.tword (re.pc/4))}
  obtain⟨L4,n4,H4,G4⟩:=B0a H3 h hpc (.agg L)
  exact⟨L4,n4,H4,(G2.trans (frr_b _)).trans G4⟩
 have i1:(re.pc%4 == 1)=false:=beq_eq_false_iff_ne.2 c1
 simp only[i1,Bool.false_eq_true,if_false]
 by_cases c2:re.pc%4=2
 ·have i2:(re.pc%4 == 2)=true:=beq_iff_eq.2 c2
  rw[hF (reapEnd re S (re.pc/4)) (by unfold reapS;rw[if_neg c0,if_neg c1,if_pos c2])]
  obtain⟨L1,n1,H2,G2⟩:=E1v H h hk hl (re.pc/4) hx
  obtain⟨o1,o2⟩:=S.turn_ok h (re.pc/4) re.word (expireF re.st).2
  have hE:(reapEnd re S (re.pc/4)).2.ok∧(reapEnd re S (re.pc/4)).2.c=S.c∧(reapEnd re S (re.pc/4)).1.pc=re.pc:=by
   unfold reapEnd
   split
   ·exact⟨h,rfl,rfl⟩
   split
   ·exact⟨h,rfl,rfl⟩
   split
   ·exact⟨h,rfl,rfl⟩
   split
   ·exact⟨WS.tell_ok o1 _,o2.1,rfl⟩
   ·exact⟨h,rfl,rfl⟩
  obtain⟨e1,e2,e3⟩:=hE
  simp only[i2,if_true,n1,HH]
  obtain⟨L4,n4,H4,G4⟩:=B0a H2 e1 (by rw[e3,e2];exact hpc) (.agg L)
  rw[e2]at H4
  exact⟨L4,n4,H4,G2.trans G4⟩
 have i2:(re.pc%4 == 2)=false:=beq_eq_false_iff_ne.2 c2
 rw[hF (re,if re.done then noteE S (re.pc/4) re.st.g S.c.c5 (endF re.st re.at_)else S) (by unfold reapS;rw[if_neg c0,if_neg c1,if_neg c2])]
 simp only[i2,Bool.false_eq_true,if_false,end_x,A0b,endD.len]
 obtain⟨L5,n5,H5,G5⟩:=B0a H h hpc (.agg L)
 by_cases c3:re.done=true
 ·have hS:(if re.done=true then noteE S (re.pc/4) re.st.g S.c.c5 (endF re.st re.at_)else S)=noteE S (re.pc/4) re.st.g S.c.c5 (endF re.st re.at_):=if_pos c3
  rw[hS]
  cases ho:endF re.st re.at_ with
  |none=>
   have e1:((endD none).getD 6 D.nil).toBool=false:=rfl
   simp only[e1,Bool.false_eq_true,if_false]
   exact⟨L5,n5,H5,G5⟩
  |some r=>
   have e1:((endD (some r)).getD 6 D.nil).toBool=true:=rfl
   obtain⟨L1,n1,W1,F1⟩:=B0m H.W h (re.pc/4) re.st.g S.c.c5 r (B8s hk.st hk.at_ ho)
   obtain⟨H2,G2⟩:=H.setW W1 (F1.mono fun _ hb=>.inr hb)
   obtain⟨o1,o2,o3,o4⟩:=WS.note_ok h (re.pc/4) re.st.g S.c.c5 r
   have n1':FX 60 [.int (w:Nat),.int (re.pc/4),.int re.st.g,.int S.c.c5,(endD (some r)).getD 0 D.nil,(endD (some r)).getD 1 D.nil,(endD (some r)).getD 2 D.nil,(endD (some r)).getD 3 D.nil,(endD (some r)).getD 4 D.nil,(endD (some r)).getD 5 D.nil,.agg L]=some [.agg L1]:=n1
   simp only[e1,if_true,c3,n1',HH]
   obtain⟨L4,n4,H4,G4⟩:=B0a H2 o1 (by rw[o2];exact hpc) (.agg L)
   rw[o2]at H4
   exact⟨L4,n4,H4,G2.trans G4⟩
 ·have c3':re.done=false:=by simpa using c3
  have hS:(if re.done=true then noteE S (re.pc/4) re.st.g S.c.c5 (endF re.st re.at_)else S)=S:=if_neg c3
  rw[hS]
  simp only[c3',Bool.false_eq_true,if_false]
  rw[B5g]
  exact⟨L5,n5,H5,G5⟩
end Go.Proofs.YtcgcpjajghdbpaaGreat.P
