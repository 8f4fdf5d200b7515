import Derived.Test.YtckanieeocdpbaaGreatPoolN
open Bool renaming false_eq_true→a5,not_false→a6,and_eq_true→a7,not_true→a8,or_eq_true→a9,or_eq_false_iff→aA
open List renaming length_cons→aB,length_nil→aD,getD_cons_zero→aE,replicate→aF,getElem?_eq_getElem→aG,getD_cons_succ→aH,range→aI,mem_of_getElem?→aJ,getD_eq_getElem?_getD→aK,mem_or_eq_of_mem_set→aL,getElem?_set→aM,mem_singleton→aN,getElem?_append_left→aO,mem_append→aP,getElem?_eq_some_iff→aQ,length_append→aR,getElem?_eq_none→aS,mem_cons_self→aT,getElem?_map→aU,eq_of_mem_replicate→aV,map_append→aW,range_succ→aX,mem_cons_of_mem→aY,replicate_succ'→aZ,mem_map→b0,getElem_mem→b7,map→b8,take→b9,drop→bA
open Nat renaming le_succ_of_le→bB,lt_of_lt_of_le→bC,le_refl→bD,le_trans→bE,le_succ→bF,lt_irrefl→bG,zero_le→bH,two_pow_pos→bI,lt_or_ge→bJ
open Int renaming le_refl→bK,toNat_natCast→bL,mul_nonneg→bM,mul_le_mul→bN,tdiv_eq_ediv_of_nonneg→bO,tmod_eq_emod_of_nonneg→bP,le_trans→bQ,toNat_zero→bR,toNat→bS,mul_pos→bT
open Ne renaming symm→bU
open Go.IntKind renaming i64→bV
open Option renaming getD_some→bW,map_some→bX
namespace Go.Proofs.YtckanieeocdpbaaGreat.P
open Go.RowKit Go.Proofs.YtckanieeocdpbaaGreat.Eng Go.Proofs.YtckanieeocdpbaaGreat Go.Proofs.YtckanieeocdpbaaGreat.Dat Go.Proofs.YtckanieeocdpbaaGreat.FDat
set_option linter.unusedVariables false
set_option linter.unusedSimpArgs false
set_option linter.unusedSectionVars false
set_option maxRecDepth 10000
section
def w64(z:Int):Int:=bV.wrap z
theorem F0x{S:WS}(h:S.ok):FX 23 [.int S.c.c0,.int S.c.c1,.int S.c.c2,.int S.c.c3,.int S.c.c4,.int S.c.c5,.int S.c.c6]=some [.int (A0o S.c)]:=all_eq S.c h.c
def A3v(sw:SwS)(c:Cf):Option A0a→A0a
 |none=>A0a.new ⟨3,sw.at_/A0o c,0,sw.at_%A0o c,sw.A3y⟩
 |some P=>if P.pc≥14 then A0a.new ⟨3,sw.at_/A0o c,0,sw.at_%A0o c,sw.A3y⟩else P
def C5a(sw:SwS)(c:Cf)(P:A0a):SwS:=
 if P.pc<14 then sw else if sw.at_+1=A0o c*A0o c then {sw with at_:=0,A8c:=w64 (sw.A8c+1)} else {sw with at_:=sw.at_+1}
def A9x(sw:SwS)(o:Option A0a)(S:WS):SwS × A0a × WS:=(C5a sw S.c (A1h (A3v sw S.c o) S).1,(A1h (A3v sw S.c o) S).1,(A1h (A3v sw S.c o) S).2)
def SwS.at(sw:SwS)(p:D):SwS:={sw with p:=p}
def E0y(sw:SwS)(c:Cf):Prop:=0≤sw.at_∧sw.at_<A0o c*A0o c
def D2y(b q w m:Nat)(x:Nat):Prop:=x=b∨x=q∨x=w∨x=m
section
variable{L:List D}{b q w m k:Nat}{ptr:D}{sw:SwS}{S:WS}{o:Option A0a}(W:InW L w m k S)(hb:L.getD b D.nil=.agg (sw.at ptr).ds)(h:S.ok)(hsw:E0y sw S.c)(hl:S.log.length≤1000000000)
include W hb h hsw hl
theorem E9h{P:A0a}(hq:L.getD q D.nil=.agg P.ds)(A8b:ptr=.int (q:Nat))(hP:P.ok)(x2:D):
  ∃L',A7a (.int (b:Nat)) (.int (w:Nat)) x2 (.int (A0o S.c)) [.agg L]=some [.agg L']∧InW L' w m k (A1h P S).2∧L'.getD b D.nil=.agg ((C5a sw S.c (A1h P S).1).at ptr).ds∧L'.getD q D.nil=.agg (A1h P S).1.ds∧Fr L L' (D2y b q w m):=by
 obtain⟨L1,n1,d1,d2,d3⟩:=F4r W hq h hP hl
 have hal:=A4q S.c h.c
 have hbq:b≠q:=A3m hb hq (by rw[SwS.len,A0a.len];decide)
 obtain⟨b1,b2,b3⟩:=W.far hb (by rw[SwS.len];decide) (by rw[SwS.len];decide) (by rw[SwS.len];decide)
 have hb1:L1.getD b D.nil=.agg (sw.at ptr).ds:=d3.get hb (by simp only[hbq,b1,b2,QC,not_false_iff])
 have n2:=D7y d1 d2
 have hat:(sw.at ptr).at_=sw.at_:=rfl
 have hps:(sw.at ptr).A8c=sw.A8c:=rfl
 have hpp:(sw.at ptr).p=.int (q:Nat):=A8b
 obtain⟨s1,s2⟩:=hsw
 have hsq:A0o S.c*A0o S.c≤24*24:=bN hal.2 hal.2 (by omega) (by omega)
 have d3':Fr L L1 (D2y b q w m):=d3.mono fun x hx=>by
  unfold D2y
  rcases hx with hx|hx|hx
  ·exact .inr (.inl hx)
  ·exact .inr (.inr (.inl hx))
  ·exact .inr (.inr (.inr hx))
 rw[C0n]
 simp only[HH,hb,hb1,SwS.A1i,SwS.A1p,SwS.A1w,hpp,n1,n2,hat,hps]
 rw[A0v (sw.at_+1) (by omega) (by omega),A0v (A0o S.c*A0o S.c) (by omega) (by omega)]
 unfold C5a
 by_cases c0:(A1h P S).1.pc≥14
 ·rw[Q0 (by omega:¬(A1h P S).1.pc<14)]
  simp only[c0,Q6,a8,a5,Q4]
  have fin:∀z:SwS,∃L',some [D.agg (L1.set b (.agg (z.at ptr).ds))]=some [.agg L']∧InW L' w m k (A1h P S).2∧L'.getD b D.nil=.agg (z.at ptr).ds∧L'.getD q D.nil=.agg (A1h P S).1.ds∧Fr L L' (D2y b q w m):=fun z=>
   ⟨_,rfl,d1.fr (Fr.set L1 b _ (T:=(·=b)) rfl) (bU b1) (bU b2) (bU b3),A3r (A2p hb1) _,by rw[A3i hbq];exact d2,d3'.trans (Fr.set L1 b _ (.inl rfl))⟩
  by_cases c1:sw.at_+1=A0o S.c*A0o S.c
  ·have i1:(sw.at_+1 == A0o S.c*A0o S.c)=true:=QB.2 c1
   rw[Q3 c1]
   simp only[i1,Q5,SwS.rng,SwS.B3v,SwS.B6r]
   exact fin {sw with at_:=0,A8c:=w64 (sw.A8c+1)}
  ·have i1:(sw.at_+1 == A0o S.c*A0o S.c)=false:=Q8.2 c1
   rw[Q0 c1]
   simp only[i1,a5,Q4,SwS.rng,SwS.B3v]
   exact fin {sw with at_:=sw.at_+1}
 ·rw[Q3 (by omega:(A1h P S).1.pc<14)]
  simp only[c0,Q7,a6,Q5]
  exact⟨L1,rfl,d1,hb1,d2,d3'⟩
theorem H0t(hp:PP L q ptr o)(ho:∀P,o=some P→P.ok):
  ∃L' q',FX 62 [.int (b:Nat),.int (w:Nat),.agg L]=some [.agg L']∧InW L' w m k (A9x sw o S).2.2∧L'.getD b D.nil=.agg ((A9x sw o S).1.at (.int (q':Nat))).ds∧L'.getD q' D.nil=.agg (A9x sw o S).2.1.ds∧Fr L L' (D2y b q w m)∧(q'=q∨L.length≤q'):=by
 have n1:=F0x h
 have hal:=A4q S.c h.c
 obtain⟨s1,s2⟩:=hsw
 have hsq:A0o S.c*A0o S.c≤24*24:=bN hal.2 hal.2 (by omega) (by omega)
 have hdone:FX 78 [ptr,.agg L]=some [.bool (A5y o)]:=by
  cases o with
  |none=>
   dsimp only[PP]at hp
   rw[hp,A8d]
   simp only[HH];rfl
  |some P=>
   obtain⟨e1,e2⟩:=hp
   rw[e1,D7y W e2];rfl
 obtain⟨b1,b2,b3⟩:=W.far hb (by rw[SwS.len];decide) (by rw[SwS.len];decide) (by rw[SwS.len];decide)
 have hpp:(sw.at ptr).p=ptr:=rfl
 have hat:(sw.at ptr).at_=sw.at_:=rfl
 have hsh:(sw.at ptr).A3y=sw.A3y:=rfl
 rw[C7p]
 simp only[HH,W.w,hb,A0d.all,n1,SwS.A1f,SwS.A1i,SwS.A1w,hpp,hdone,hat,hsh]
 by_cases c0:A5y o=true
 ·have j0:(A0o S.c != 0)=true:=by simp;omega
  have hdiv:sw.at_.tdiv (A0o S.c)=sw.at_/A0o S.c:=bO s1
  have hmod:sw.at_.tmod (A0o S.c)=sw.at_%A0o S.c:=bP s1
  have hd0:0≤sw.at_/A0o S.c:=Int.ediv_nonneg s1 (by omega)
  have hd1:sw.at_/A0o S.c≤sw.at_:=Int.ediv_le_self _ s1
  have nb:FX 79 [.int 3,.int (sw.at_/A0o S.c),.int 0,.int (sw.at_%A0o S.c),.int sw.A3y,.agg L]=some [.int (L.length:Nat),.agg (L++[.agg (A0a.new ⟨3,sw.at_/A0o S.c,0,sw.at_%A0o S.c,sw.A3y⟩).ds])]:=F6v ⟨3,sw.at_/A0o S.c,0,sw.at_%A0o S.c,sw.A3y⟩ L
  have hO:A3v sw S.c o=A0a.new ⟨3,sw.at_/A0o S.c,0,sw.at_%A0o S.c,sw.A3y⟩:=by
   cases o with
   |none=>rfl
   |some P=>exact Q3 (by simpa[A5y]using c0)
  rw[hdiv,hmod,A0v _ (by omega) (by omega)]
  unfold A9x
  rw[hO]
  generalize (⟨3,sw.at_/A0o S.c,0,sw.at_%A0o S.c,sw.A3y⟩:Aim)=ai at*
  have hf:Fr L (L++[D.agg (A0a.new ai).ds]) (fun _=>False):=Fr.snoc L _ _
  have hb1:=hf.get hb not_false
  have hset:∀x:SwS,x.ds.set 3 (.int (L.length:Nat))=(x.at (.int (L.length:Nat))).ds:=fun _=>rfl
  simp only[c0,Q5,j0,nb,HH,hb1,SwS.rng,hset]
  have W2:InW ((L++[D.agg (A0a.new ai).ds]).set b (.agg (sw.at (.int (L.length:Nat))).ds)) w m k S:=(W.fr hf not_false not_false not_false).fr (Fr.set _ b _ (T:=(·=b)) rfl) (bU b1) (bU b2) (bU b3)
  have hbl:=A2p hb
  have hb2:((L++[D.agg (A0a.new ai).ds]).set b (.agg (sw.at (.int (L.length:Nat))).ds)).getD b D.nil=.agg (sw.at (.int (L.length:Nat))).ds:=A3r (by simp;omega) _
  have hq2:((L++[D.agg (A0a.new ai).ds]).set b (.agg (sw.at (.int (L.length:Nat))).ds)).getD L.length D.nil=.agg (A0a.new ai).ds:=by rw[A3i (by omega)];exact A5o L _
  obtain⟨L',n2,W3,b5,q5,F5⟩:=E9h W2 hb2 h ⟨s1,s2⟩ hl hq2 rfl (A0a.C1c ai) (.agg L)
  refine⟨L',L.length,n2,W3,b5,q5,?_,.inr (bD _)⟩
  have F1:Fr L ((L++[D.agg (A0a.new ai).ds]).set b (.agg (sw.at (.int (L.length:Nat))).ds)) (D2y b L.length w m):=(Fr.snoc L _ _).trans (Fr.set _ b _ (.inl rfl))
  have F2:=F1.trans F5
  refine⟨F2.1,fun x hx hn=>F2.2 x hx fun ho=>hn ?_⟩
  unfold D2y at ho⊢
  rcases ho with ho|ho|ho
  ·exact .inl ho
  ·omega
  ·exact .inr (.inr ho)
 ·have c0':A5y o=false:=by simpa using c0
  cases o with
  |none=>cases c0'
  |some P=>
   obtain⟨e1,e2⟩:=hp
   have hO:A3v sw S.c (some P)=P:=Q0 (by simpa[A5y]using c0')
   simp only[c0',a5,Q4]
   unfold A9x
   rw[hO]
   subst e1
   obtain⟨L',n2,W3,b5,q5,F5⟩:=E9h W hb h ⟨s1,s2⟩ hl e2 rfl (ho P rfl) (.agg L)
   exact⟨L',q,n2,W3,b5,q5,F5,.inl rfl⟩
end
def A3h(re:ReS)(S:WS)(x:Int):ReS × WS:=
 if(A1y re.st).1≠0 then(re,S)else if B2v S.c re.tm≠re.A3y then(re,S)else if ¬re.tm.A1n≤S.now then(re,S)
 else if(S.turn x re.word (A1y re.st).2).1 then({re with done:=true,st:=(A1y re.st).2,at_:=S.now},(S.turn x re.word (A1y re.st).2).2.tell {Ev.zero with kind:=5,cell:=x,gen:=(A1y re.st).2.g})
 else({re with done:=false},S)
def B6f(re:ReS)(c:Cf):ReS:=if re.pc+1=4*A0o c then {re with pc:=0,A8c:=w64 (re.A8c+1)} else {re with pc:=re.pc+1}
def A6a(re:ReS)(S:WS):ReS × WS:=
 if re.pc%4=0 then({re with done:=false,word:=S.word (re.pc/4),st:=A0i (S.word (re.pc/4))},S)
 else if re.pc%4=1 then({re with tm:=B5p (S.A8i (re.pc/4))},S)
 else if re.pc%4=2 then A3h re S (re.pc/4)
 else(re,if re.done then A4r S (re.pc/4) re.st.g S.c.c5 (A5k re.st re.at_)else S)
def B6i(re:ReS)(S:WS):ReS × WS:=(B6f (A6a re S).1 S.c,(A6a re S).2)
structure B6l(re:ReS)(c:Cf):Prop where
 pc:0≤re.pc∧re.pc<4*A0o c
 word:re.word<18446744073709551616
 st:re.st.wf
 tm:re.tm.sm
 at_:In re.at_
theorem G9c(s:St):FX 94 [.int s.k,.bool s.f,.int s.g,.int s.l,.int s.n]=some (A2f (A1y s)):=G6m s
theorem E4c{s:St}(h:s.wf):(A1y s).2.wf:=by
 unfold A1y
 split
 ·exact St.A9r
 ·exact h.C4h 7 _ (In.lit (by decide))
structure Hr(L:List D)(b w m k:Nat)(re:ReS)(S:WS):Prop where
 W:InW L w m k S
 b:L.getD b D.nil=.agg re.ds
def FrR(L L':List D)(b w m:Nat):Prop:=Fr L L' (fun x=>x=b∨x=w∨x=m)
section
variable{L:List D}{b w m k:Nat}{re:ReS}{S:WS}(H:Hr L b w m k re S)
include H
theorem Hr.far:b≠w∧b≠m∧b≠k:=H.W.far H.b (by rw[ReS.len];decide) (by rw[ReS.len];decide) (by rw[ReS.len];decide)
theorem Hr.D4q(re':ReS):Hr (L.set b (.agg re'.ds)) b w m k re' S:=by
 obtain⟨h1,h2,h3⟩:=H.far
 exact⟨H.W.fr (Fr.set L b _ (T:=(·=b)) rfl) (bU h1) (bU h2) (bU h3),A3r (A2p H.b) _⟩
theorem Hr.B0b{L1:List D}{S1:WS}(W1:InW L1 w m k S1)(F:Fr L L1 (fun x=>x=w∨x=m)):Hr L1 b w m k re S1∧FrR L L1 b w m:=by
 obtain⟨h1,h2,h3⟩:=H.far
 exact⟨⟨W1,F.get H.b (by simp only[h1,h2,QC,not_false_iff])⟩,F.mono fun x hx=>.inr hx⟩
omit H in
theorem D2c(x:D):FrR L (L.set b x) b w m:=Fr.set L b x (.inl rfl)
variable(h:S.ok)(hk:B6l re S.c)(hl:S.log.length≤1000000000)
include h hk hl
theorem H6l:FX 96 [.int (k:Nat),.int re.tm.A1n,.agg L]=some [.bool (decide (re.tm.A1n≤S.now))]:=by
 have h1:=B8b H.W h
 rw[D4v,h1]
 simp only[HH]
theorem H3n(x:Int)(hx:-1000≤x∧x≤1000):∃L',FX 83 [.int (b:Nat),.int (w:Nat),.int x,.agg L]=some [.agg L']∧Hr L' b w m k (A3h re S x).1 (A3h re S x).2∧FrR L L' b w m:=by
 have n1:=G9c re.st
 have n2:=E0r h re.tm
 have n3:=H6l H h hk hl
 rw[D2i]
 simp only[HH,H.b,H.W.w,A0d.all,ReS.A1f,ReS.A1w,ReS.A1u,ReS.A2m,ReS.A3z,ReS.A8l,ReS.A6y,ReS.A7f,ReS.B4m,ReS.B0v,ReS.A9w,ReS.B0q,n1,n2,n3,A2f.len,A2f.all]
 by_cases c0:(A1y re.st).1=0
 ·have d0:¬(A1y re.st).1≠0:=by simpa using c0
  simp only[E5e c0,a8,a5,Q4]
  by_cases c1:B2v S.c re.tm=re.A3y
  ·have i1:(B2v S.c re.tm != re.A3y)=false:=by simp[c1]
   have d1:¬B2v S.c re.tm≠re.A3y:=by simpa using c1
   simp only[i1,a5,Q4]
   by_cases c2:re.tm.A1n≤S.now
   ·have d2:¬¬re.tm.A1n≤S.now:=by simpa using c2
    simp only[c2,Q6,a8,a5,Q4]
    obtain⟨L1,n4,W1,F1⟩:=B9m H.W h x hx re.word (A1y re.st).2 (E4c hk.st)
    obtain⟨H2,G2⟩:=H.B0b W1 (F1.mono fun _ hb=>.inr hb)
    obtain⟨o1,o2,o3,o4,o5⟩:=S.B1h h x re.word (A1y re.st).2
    simp only[n4,HH,H2.b,ReS.rng,ReS.C2m]
    by_cases c3:(S.turn x re.word (A1y re.st).2).1=true
    ·have H3:=H2.D4q {re with done:=true}
     have n5:=B8b H3.W o1
     rw[o3]at n5
     have e:A3h re S x=({re with done:=true,st:=(A1y re.st).2,at_:=S.now},(S.turn x re.word (A1y re.st).2).2.tell {Ev.zero with kind:=5,cell:=x,gen:=(A1y re.st).2.g}):=by
      unfold A3h;rw[Q0 d0,Q0 d1,Q0 d2,Q3 c3]
     rw[e]
     have H4:=H2.D4q {re with done:=true,st:=(A1y re.st).2,at_:=S.now}
     obtain⟨L5,n6,W5,F5⟩:=C9e H4.W o1 (by rw[o4];exact hl) 5 x (A1y re.st).2.g 0 0 0 0 0
     obtain⟨H6,G6⟩:=H4.B0b W5 (F5.mono fun _ hb=>.inl hb)
     have hset:∀z:ReS,z.ds.set 15 (wN S.now)=ReS.ds {z with at_:=S.now}:=fun _=>rfl
     have e10:({k:=(A1y re.st).2.k,f:=(A1y re.st).2.f,g:=(A1y re.st).2.g,l:=(A1y re.st).2.l,n:=(A1y re.st).2.n}:St)=(A1y re.st).2:=rfl
     simp only[c3,Q5,H3.W.w,A0d.A6y,n5,HH,ReS.rng,ReS.B0e,ReS.B6n,ReS.B7u,ReS.D1k,ReS.E1h,hset,e10,n6]
     exact⟨L5,rfl,H6,(G2.trans (D2c _)).trans G6⟩
    ·have c3':(S.turn x re.word (A1y re.st).2).1=false:=by simpa using c3
     have e:A3h re S x=({re with done:=false},S):=by
      unfold A3h;rw[Q0 d0,Q0 d1,Q0 d2,Q0 c3]
     rw[e]
     simp only[c3',a5,Q4]
     rw[o5 c3']at H2
     exact⟨_,rfl,H2.D4q {re with done:=false},G2.trans (D2c _)⟩
   ·have e:A3h re S x=(re,S):=by
     unfold A3h;rw[Q0 d0,Q0 d1,Q3 c2]
    rw[e]
    simp only[c2,Q7,a6,Q5]
    exact⟨L,rfl,H,Fr.refl _ _⟩
  ·have i1:(B2v S.c re.tm != re.A3y)=true:=by simp[c1]
   have e:A3h re S x=(re,S):=by
    unfold A3h;rw[Q0 d0,Q3 c1]
   rw[e]
   simp only[i1,Q5]
   exact⟨L,rfl,H,Fr.refl _ _⟩
 ·have e:A3h re S x=(re,S):=by unfold A3h;rw[Q3 c0]
  rw[e]
  simp only[E4r c0,a6,Q5]
  exact⟨L,rfl,H,Fr.refl _ _⟩
end
theorem C4x{L:List D}{b w m k:Nat}{re:ReS}{S:WS}(H:Hr L b w m k re S)(h:S.ok)(hpc:0≤re.pc∧re.pc<4*A0o S.c)(x2:D):
  ∃L',A2v (.int (b:Nat)) (.int (w:Nat)) x2 [.agg L]=some [.agg L']∧Hr L' b w m k (B6f re S.c) S∧FrR L L' b w m:=by
 have n1:=F0x h
 have hal:=A4q S.c h.c
 obtain⟨p1,hp1⟩:∃p1:ReS,p1={re with pc:=re.pc+1}:=⟨_,rfl⟩
 have H1:=H.D4q p1
 rw[C1u]
 simp only[HH,H.b,ReS.A1i,ReS.A1p,ReS.rng]
 rw[A0v (re.pc+1) (by omega) (by omega)]
 simp only[ReS.B3v,←hp1,H1.W.w,A0d.all,C2c,n1,HH]
 rw[A0v (4*A0o S.c) (by omega) (by omega)]
 unfold B6f
 by_cases c0:re.pc+1=4*A0o S.c
 ·have i0:(re.pc+1 == 4*A0o S.c)=true:=QB.2 c0
  rw[Q3 c0]
  simp only[i0,Q5,ReS.rng,ReS.B6r]
  exact⟨_,rfl,H.D4q {re with pc:=0,A8c:=w64 (re.A8c+1)},D2c _⟩
 ·have i0:(re.pc+1 == 4*A0o S.c)=false:=Q8.2 c0
  rw[Q0 c0]
  simp only[i0,a5,Q4]
  rw[hp1]at H1⊢
  exact⟨_,rfl,H1,D2c _⟩
theorem H4d{L:List D}{b w m k:Nat}{re:ReS}{S:WS}(H:Hr L b w m k re S)(h:S.ok)(hk:B6l re S.c)(hl:S.log.length≤1000000000):
  ∃L',FX 63 [.int (b:Nat),.int (w:Nat),.agg L]=some [.agg L']∧Hr L' b w m k (B6i re S).1 (B6i re S).2∧FrR L L' b w m:=by
 have hal:=A4q S.c h.c
 have hpc:=hk.pc
 have hx:-1000≤re.pc/4∧re.pc/4≤1000:=by omega
 have hdiv:re.pc.tdiv 4=re.pc/4:=bO hpc.1
 have hmod:re.pc.tmod 4=re.pc%4:=bP hpc.1
 rw[C8w]
 simp only[HH,H.b,H.W.w,A0d.A2m,ReS.A1i,ReS.A1u,ReS.A2m,ReS.A3z,ReS.A8l,ReS.A6y,ReS.B3m,ReS.B8h,hdiv,hmod,ReS.rng,ReS.C2m]
 rw[A0v (re.pc/4) (by omega) (by omega)]
 have hF:∀R,A6a re S=R→B6i re S=(B6f R.1 S.c,R.2):=fun R e=>by unfold B6i;rw[e]
 by_cases c0:re.pc%4=0
 ·have i0:(re.pc%4 == 0)=true:=QB.2 c0
  rw[hF _ (Q3 c0)]
  have H1:=H.D4q {re with done:=false}
  obtain⟨L1,n1,W1,F1⟩:=B1l H1.W h (re.pc/4) hx
  obtain⟨H2,G2⟩:=H1.B0b W1 (F1.mono fun _ hb=>.inr hb)
  rw[F3w]at n1
  simp only[i0,Q5,n1,HH,H2.b,ReS.rng,ReS.B6t,ReS.B0e,ReS.B6n,ReS.B7u,ReS.D1k,ReS.E1h]
  have H3:=H2.D4q {re with done:=false,word:=S.word (re.pc/4),st:=A0i (S.word (re.pc/4))}
  obtain⟨L4,n4,H4,G4⟩:=C4x H3 h hpc (.agg L)
  exact⟨L4,n4,H4,(((D2c _).trans G2).trans (D2c _)).trans G4⟩
 have i0:(re.pc%4 == 0)=false:=Q8.2 c0
 simp only[i0,a5,Q4]
 by_cases c1:re.pc%4=1
 ·have i1:(re.pc%4 == 1)=true:=QB.2 c1
  rw[hF ({re with tm:=B5p (S.A8i (re.pc/4))},S) (by unfold A6a;rw[Q0 c0,Q3 c1])]
  obtain⟨L1,n1,W1,F1⟩:=D6a H.W h (re.pc/4) hx
  obtain⟨H2,G2⟩:=H.B0b W1 (F1.mono fun _ hb=>.inr hb)
  rw[G8z]at n1
  simp only[i1,Q5,n1,HH,H2.b,ReS.rng,ReS.B8c,ReS.D7r,ReS.C5w,ReS.C6p,ReS.C7a]
  have H3:=H2.D4q {re with tm:=B5p (S.A8i (re.pc/4))}
  obtain⟨L4,n4,H4,G4⟩:=C4x H3 h hpc (.agg L)
  exact⟨L4,n4,H4,(G2.trans (D2c _)).trans G4⟩
 have i1:(re.pc%4 == 1)=false:=Q8.2 c1
 simp only[i1,a5,Q4]
 by_cases c2:re.pc%4=2
 ·have i2:(re.pc%4 == 2)=true:=QB.2 c2
  rw[hF (A3h re S (re.pc/4)) (by unfold A6a;rw[Q0 c0,Q0 c1,Q3 c2])]
  obtain⟨L1,n1,H2,G2⟩:=H3n H h hk hl (re.pc/4) hx
  obtain⟨o1,o2⟩:=S.B1h h (re.pc/4) re.word (A1y re.st).2
  have hE:(A3h re S (re.pc/4)).2.ok∧(A3h re S (re.pc/4)).2.c=S.c∧(A3h re S (re.pc/4)).1.pc=re.pc:=by
   unfold A3h
   split
   ·exact⟨h,rfl,rfl⟩
   split
   ·exact⟨h,rfl,rfl⟩
   split
   ·exact⟨h,rfl,rfl⟩
   split
   ·exact⟨WS.C3m o1 _,o2.1,rfl⟩
   ·exact⟨h,rfl,rfl⟩
  obtain⟨e1,e2,e3⟩:=hE
  simp only[i2,Q5,n1,HH]
  obtain⟨L4,n4,H4,G4⟩:=C4x H2 e1 (by rw[e3,e2];exact hpc) (.agg L)
  rw[e2]at H4
  exact⟨L4,n4,H4,G2.trans G4⟩
 have i2:(re.pc%4 == 2)=false:=Q8.2 c2
 rw[hF (re,if re.done then A4r S (re.pc/4) re.st.g S.c.c5 (A5k re.st re.at_)else S) (by unfold A6a;rw[Q0 c0,Q0 c1,Q0 c2])]
 simp only[i2,a5,Q4,F0z,A0n,A4u.len]
 obtain⟨L5,n5,H5,G5⟩:=C4x H h hpc (.agg L)
 by_cases c3:re.done=true
 ·have hS:(if re.done=true then A4r S (re.pc/4) re.st.g S.c.c5 (A5k re.st re.at_)else S)=A4r S (re.pc/4) re.st.g S.c.c5 (A5k re.st re.at_):=Q3 c3
  rw[hS]
  cases ho:A5k re.st re.at_ with
  |none=>
   have e1:((A4u none).getD 6 D.nil).toBool=false:=rfl
   simp only[e1,a5,Q4]
   exact⟨L5,n5,H5,G5⟩
  |some r=>
   have e1:((A4u (some r)).getD 6 D.nil).toBool=true:=rfl
   obtain⟨L1,n1,W1,F1⟩:=C4f H.W h (re.pc/4) re.st.g S.c.c5 r (D7n hk.st hk.at_ ho)
   obtain⟨H2,G2⟩:=H.B0b W1 (F1.mono fun _ hb=>.inr hb)
   obtain⟨o1,o2,o3,o4⟩:=WS.E5t h (re.pc/4) re.st.g S.c.c5 r
   have n1':FX 85 [.int (w:Nat),.int (re.pc/4),.int re.st.g,.int S.c.c5,(A4u (some r)).getD 0 D.nil,(A4u (some r)).getD 1 D.nil,(A4u (some r)).getD 2 D.nil,(A4u (some r)).getD 3 D.nil,(A4u (some r)).getD 4 D.nil,(A4u (some r)).getD 5 D.nil,.agg L]=some [.agg L1]:=n1
   simp only[e1,Q5,c3,n1',HH]
   obtain⟨L4,n4,H4,G4⟩:=C4x H2 o1 (by rw[o2];exact hpc) (.agg L)
   rw[o2]at H4
   exact⟨L4,n4,H4,G2.trans G4⟩
 ·have c3':re.done=false:=by simpa using c3
  have hS:(if re.done=true then A4r S (re.pc/4) re.st.g S.c.c5 (A5k re.st re.at_)else S)=S:=Q0 c3
  rw[hS]
  simp only[c3',a5,Q4]
  rw[D1r]
  exact⟨L5,n5,H5,G5⟩
end
section
structure A9i(S S':WS):Prop where
 ok:S'.ok
 c:S'.c=S.c
 now:S'.now=S.now
 log:S'.log.length≤S.log.length+1
 len:S'.words.length=S.words.length
theorem A9i.A2n{S:WS}(h:S.ok):A9i S S:=⟨h,rfl,rfl,bF _,rfl⟩
theorem C6w{S:WS}(h:S.ok)(x:Int)(old:Nat)(s:St)(e:Ev):A9i S ((S.turn x old s).2.tell e):=by
 obtain⟨o1,o2,o3,o4,_⟩:=S.B1h h x old s
 exact⟨WS.C3m o1 _,o2,o3,by simp only[WS.tell,aR,o4,aB,aD];omega,S.C4c _ _ _⟩
theorem E4y{S:WS}(h:S.ok)(x g n:Int)(o:Option Rc):A9i S (A4r S x g n o):=by
 cases o with
 |none=>exact .A2n h
 |some r=>
  obtain⟨o1,o2,o3,o4⟩:=WS.E5t h x g n r
  exact⟨o1,o2,o3,by show(S.note x g n r).log.length≤_;rw[o4];omega,S.F3h _ _ _ _⟩
structure D0h(pr:PrS)(o:Option A0a)(se:A0l)(S:WS)(X:Stp):Prop where
 w:A9i S X.S
 C4v:B8r X.se S.c
 part:X.se.part=se.part
 prog:X.r=none→A4s X.pr o X.se X.S∧X.pr.a=pr.a
section
variable{pr:PrS}{o:Option A0a}{se:A0l}{S:WS}(h:S.ok)(hk:A4s pr o se S)(hse:B8r se S.c)
include h hk hse
theorem F7j(h0:A7s pr se S=0):0≤A0f S.c se.part pr.a.cell:=by
 unfold A7s at h0
 split at h0
 ·cases h0
 ·split at h0
  ·cases h0
  ·omega
theorem B6x(hp:pr.pc≤7):0≤pr.pc+1∧pr.pc+1≤8:=by have:=hk.pc;omega
theorem C9v:(pr.looks.length:Int)≤pr.pc+1:=by have:=hk.looks;omega
theorem G1x(hk1:pr.a.kind=1)(hp:pr.pc≤7):D0h pr o se S (A1r (A0f S.c se.part pr.a.cell) pr se S):=by
 obtain⟨k1,k2,k3,k4,k5,k6,k7,k8,k9,k10,k11,k12,k13,k14⟩:=hk
 have hk':A4s pr o se S:=⟨k1,k2,k3,k4,k5,k6,k7,k8,k9,k10,k11,k12,k13,k14⟩
 have hpn:=B6x h hk' hse hp
 have hln:=C9v h hk' hse
 have hg:=C3z h.c
 have hcell:pr.pc≠0→0≤A0f S.c se.part pr.a.cell:=fun hh=>k11 hh (.inl hk1)
 unfold A1r
 split
 ·split
  ·exact⟨.A2n h,hse,rfl,fun hh=>B1b hh⟩
  ·rename_i h0
   have hcc:=F7j h hk' hse (by simpa using h0)
   exact⟨.A2n h,hse,rfl,fun _=>⟨⟨k1,k2,k3,k4,k5,k6,hpn,k8,k9,hln,fun _ _=>hcc,k12,k13,k14⟩,rfl⟩⟩
 rename_i hn0
 have hc0:=hcell hn0
 split
 ·split
  ·exact⟨.A2n h,hse,rfl,fun hh=>B1b hh⟩
  ·rename_i h0
   have hb:(A8e (A0i (S.word (A0f S.c se.part pr.a.cell))) pr.a.qty S.c.c6).2.wf:=by
    have hs:=A9o (S.word (A0f S.c se.part pr.a.cell))
    unfold A8e
    split
    ·exact St.A9r
    split
    ·exact St.A9r
    split
    ·exact St.A9r
    ·have g1:In ((A0i (S.word (A0f S.c se.part pr.a.cell))).g+1):=In.lit (by omega)
     have g2:In pr.a.qty:=In.lit (by omega)
     exact⟨In.lit (z:=1) (by decide),g1,g2,In.lit (z:=0) (by decide)⟩
   exact⟨.A2n h,hse,rfl,fun _=>⟨⟨k1,hb,k3,k4,k5,k6,hpn,k8,k9,hln,fun _ _=>hc0,k12,k13,k14⟩,rfl⟩⟩
 split
 ·exact⟨⟨WS.F6p h _ H6q,rfl,rfl,bF _,B3b _ _ _⟩,hse,rfl,fun _=>⟨⟨k1,k2,k3,k4,k5,k6,hpn,k8,k9,hln,fun _ _=>hc0,k12,k13,k14⟩,rfl⟩⟩
 split
 ·refine⟨⟨WS.C3m (WS.F6p h _ G5z) _,rfl,rfl,by simp[WS.tell,WS.put],B3b _ _ _⟩,⟨by simpa using hse.ids,by simpa using hse.A4h,hse.A8f,hse.cur⟩,rfl,fun _=>⟨⟨k1,k2,k3,k4,k5,k6,hpn,k8,F6r S.c h.c _ _ _,hln,fun _ _=>hc0,k12,k13,k14⟩,rfl⟩⟩
 ·exact⟨.A2n h,hse,rfl,fun _=>⟨⟨k1,k2,k3,k4,k5,k6,hpn,k8,k9,hln,fun _ _=>hc0,k12,k13,k14⟩,rfl⟩⟩
theorem G6v(x:Int):A9i S (A2d x pr se S).2∧(A2d x pr se S).1.pc=pr.pc∧(A2d x pr se S).1.a=pr.a∧A4s (A2d x pr se S).1 o se S:=by
 obtain⟨k1,k2,k3,k4,k5,k6,k7,k8,k9,k10,k11,k12,k13,k14⟩:=hk
 have hk':A4s pr o se S:=⟨k1,k2,k3,k4,k5,k6,k7,k8,k9,k10,k11,k12,k13,k14⟩
 have hnow:In (S.now:Int):=In.lit (by have:=h.now;omega)
 have d1:(0:Int)≤1∧(1:Int)≤3:=by decide
 have d2:(0:Int)≤2∧(2:Int)≤3:=by decide
 have d3:(0:Int)≤3∧(3:Int)≤3:=by decide
 unfold A2d
 split
 ·exact⟨.A2n h,rfl,rfl,hk'⟩
 split
 ·exact⟨.A2n h,rfl,rfl,⟨k1,k2,k3,k4,d3,k6,k7,k8,k9,k10,k11,k12,k13,k14⟩⟩
 split
 ·exact⟨.A2n h,rfl,rfl,⟨k1,k2,k3,k4,d2,k6,k7,k8,k9,k10,k11,k12,k13,k14⟩⟩
 split
 ·exact⟨.A2n h,rfl,rfl,hk'⟩
 split
 ·exact⟨C6w h _ _ _ _,rfl,rfl,⟨k1,k2,k3,hnow,d2,k6,k7,k8,k9,k10,k11,k12,k13,k14⟩⟩
 ·exact⟨C6w h _ _ _ _,rfl,rfl,⟨k1,E4z k2,k3,hnow,d1,k6,k7,k8,k9,k10,k11,k12,k13,k14⟩⟩
theorem C6e{R:PrS × WS}(hR:A9i S R.2)(hpc:R.1.pc=pr.pc)(ha:R.1.a=pr.a)(hP:A4s R.1 o se S)(hp:pr.pc≤7)(hc:pr.a.kind=1∨pr.a.kind=2→0≤A0f S.c se.part pr.a.cell):D0h pr o se S (A5p R se (pr.pc+1)):=by
 obtain⟨k1,k2,k3,k4,k5,k6,k7,k8,k9,k10,k11,k12,k13,k14⟩:=hP
 refine⟨hR,hse,rfl,fun _=>⟨?_,ha⟩⟩
 show A4s {R.1 with pc:=pr.pc+1} o se R.2
 rw[hpc]at k10
 refine⟨k1,k2,k3,k4,k5,k6,B6x h hk hse hp,k8,k9,by show(R.1.looks.length:Int)≤pr.pc+1;omega,fun _ hh=>?_,by rw[hR.c];exact k12,by rw[hR.c];exact k13,k14⟩
 show 0≤A0f R.2.c se.part R.1.a.cell
 rw[hR.c,ha]
 exact hc (by rw[←ha];exact hh)
theorem F8b(hk2:pr.a.kind=2):D0h pr o se S (A0s (A0f S.c se.part pr.a.cell) pr se S):=by
 have hpc:=hk.pc
 have hcell:pr.pc≠0→0≤A0f S.c se.part pr.a.cell:=fun hh=>hk.cell hh (.inr hk2)
 unfold A0s
 split
 ·split
  ·exact⟨.A2n h,hse,rfl,fun hh=>B1b hh⟩
  ·exact C6e h hk hse (R:=(pr,S)) (.A2n h) rfl rfl hk (by omega) fun _=>by omega
 rename_i hn0
 have hc0:=hcell hn0
 split
 ·have hR:A4s (if pr.done=0 then {pr with word:=S.word (A0f S.c se.part pr.a.cell),st:=A0i (S.word (A0f S.c se.part pr.a.cell))} else pr) o se S∧(if pr.done=0 then {pr with word:=S.word (A0f S.c se.part pr.a.cell),st:=A0i (S.word (A0f S.c se.part pr.a.cell))} else pr).pc=pr.pc∧(if pr.done=0 then {pr with word:=S.word (A0f S.c se.part pr.a.cell),st:=A0i (S.word (A0f S.c se.part pr.a.cell))} else pr).a=pr.a:=by
   obtain⟨k1,k2,k3,k4,k5,k6,k7,k8,k9,k10,k11,k12,k13,k14⟩:=hk
   split
   ·exact⟨⟨WS.word_lt h _,B2w _,k3,k4,k5,k6,k7,k8,k9,k10,k11,k12,k13,k14⟩,rfl,rfl⟩
   ·exact⟨⟨k1,k2,k3,k4,k5,k6,k7,k8,k9,k10,k11,k12,k13,k14⟩,rfl,rfl⟩
  exact C6e h hk hse (.A2n h) hR.2.1 hR.2.2 hR.1 (by omega) fun _=>hc0
 split
 ·obtain⟨t1,t2,t3,t4⟩:=G6v h hk hse (A0f S.c se.part pr.a.cell)
  exact C6e h hk hse t1 t2 t3 t4 (by omega) fun _=>hc0
 split
 ·have hR:A9i S (if pr.done=1 then A4r S (A0f S.c se.part pr.a.cell) pr.st.g S.c.c5 (A5k pr.st pr.at_)else S):=by
   split
   ·exact E4y h _ _ _ _
   ·exact .A2n h
  exact C6e h hk hse hR rfl rfl hk (by omega) fun _=>hc0
 ·exact⟨.A2n h,hse,rfl,fun hh=>B1b hh⟩
theorem H5t{i:Int}(hi:(B8p S i).k=1∨(B8p S i).D7m=true):0≤i:=by
 rcases Decidable.em (i<0)with h0|h0
 ·have e:B8p S i=.zero:=Q3 h0
  rw[e]at hi
  rcases hi with hi|hi<;>cases hi
 ·omega
theorem G4b{c:Cf}{x g n:Int}(h0:0≤A7g c x g n):g≤c.c6:=by
 rcases Decidable.em (x<0∨x≥A0o c∨g<1∨g>c.c6∨n<0∨n>c.c5)with h1|h1
 ·have e:A7g c x g n=-1:=Q3 h1
  omega
 ·omega
theorem G5c(hk3:pr.a.kind=3):D0h pr o se S (A1t (A0f S.c se.part pr.a.cell) pr se S):=by
 obtain⟨k1,k2,k3,k4,k5,k6,k7,k8,k9,k10,k11,k12,k13,k14⟩:=hk
 have hk':A4s pr o se S:=⟨k1,k2,k3,k4,k5,k6,k7,k8,k9,k10,k11,k12,k13,k14⟩
 have hln:=C9v h hk' hse
 have hno:¬(pr.a.kind=1∨pr.a.kind=2):=by omega
 have cu:=hse.at_ pr.a.cell h.c
 unfold A1t
 split
 ·exact⟨.A2n h,hse,rfl,fun hh=>B1b hh⟩
 split
 ·exact⟨.A2n h,hse,rfl,fun _=>⟨⟨k1,k2,k3,k4,k5,k6,B6x h hk' hse (by omega),k8,k9,hln,fun _ hh=>absurd hh hno,k12,k13,k14⟩,rfl⟩⟩
 split
 ·split
  ·rename_i hlt
   exact⟨.A2n h,hse,rfl,fun _=>⟨⟨k1,k2,k3,k4,k5,k6,B6x h hk' hse (by omega),k8,k9,hln,fun _ hh=>absurd hh hno,fun _=>hlt,k13,k14⟩,rfl⟩⟩
  ·exact⟨.A2n h,hse,rfl,fun _=>⟨⟨k1,k2,k3,k4,k5,k6,B6x h hk' hse (by omega),k8,k9,hln,fun _ hh=>absurd hh hno,k12,k13,k14⟩,rfl⟩⟩
 split
 ·exact⟨.A2n h,hse,rfl,fun _=>⟨⟨k1,k2,k3,k4,k5,k6,B6x h hk' hse (by omega),k8,k9,hln,fun _ hh=>absurd hh hno,k12,fun he=>G4b h hk' hse (H5t h hk' hse (.inr he)),k14⟩,rfl⟩⟩
 ·refine⟨.A2n h,⟨hse.ids,hse.A4h,by simpa using hse.A8f,fun z hz=>?_⟩,rfl,fun hh=>B1b hh⟩
  rcases aL hz with hz|hz
  ·exact hse.cur z hz
  ·subst hz
   have hf:=A9p h.c
   have hg:=C3z h.c
   unfold B1z
   split
   ·rename_i h1
    have:=k12 h1
    dsimp only;omega
   ·split
    ·rename_i h1 h2
     have:=k13 h2.1
     dsimp only;omega
    ·dsimp only;omega
theorem G4y(hk4:pr.a.kind=4):D0h pr o se S (A1q pr se S):=by
 obtain⟨k1,k2,k3,k4,k5,k6,k7,k8,k9,k10,k11,k12,k13,k14⟩:=hk
 have hk':A4s pr o se S:=⟨k1,k2,k3,k4,k5,k6,k7,k8,k9,k10,k11,k12,k13,k14⟩
 have hno:¬(pr.a.kind=1∨pr.a.kind=2):=by omega
 have hc1:=h.c.2.1
 unfold A1q
 split
 ·exact⟨.A2n h,hse,rfl,fun hh=>B1b hh⟩
 split
 ·exact⟨.A2n h,hse,rfl,fun _=>⟨⟨k1,k2,k3,k4,k5,k6,B6x h hk' hse (by omega),k8,k9,by simp only[aR,aB,aD];omega,fun _ hh=>absurd hh hno,k12,k13,k14⟩,rfl⟩⟩
 ·exact⟨.A2n h,hse,rfl,fun _=>⟨⟨k1,k2,k3,k4,k5,k6,B6x h hk' hse (by omega),k8,k9,C9v h hk' hse,fun _ hh=>absurd hh hno,k12,k13,k14⟩,rfl⟩⟩
theorem G7u(x:Int):A9i S (A1e x pr S).2.2∧((A1e x pr S).1=true→A4s (A1e x pr S).2.1 o se S∧(A1e x pr S).2.1.a=pr.a):=by
 obtain⟨k1,k2,k3,k4,k5,k6,k7,k8,k9,k10,k11,k12,k13,k14⟩:=hk
 have hf:=A9p h.c
 unfold A1e
 split
 ·exact⟨.A2n h,fun hh=>by cases hh⟩
 have ht:0≤pr.tries+1∧pr.tries+1≤1000:=by omega
 have d1:(0:Int)≤1∧(1:Int)≤3:=by decide
 split
 ·exact⟨.A2n h,fun _=>⟨⟨k1,k2,k3,k4,k5,ht,k7,k8,k9,k10,k11,k12,k13,k14⟩,rfl⟩⟩
 split
 ·exact⟨.A2n h,fun _=>⟨⟨WS.word_lt h _,B2w _,k3,k4,k5,ht,k7,k8,k9,k10,k11,k12,k13,k14⟩,rfl⟩⟩
 split
 ·exact⟨.A2n h,fun _=>⟨⟨k1,k2,k3,k4,d1,ht,k7,k8,k9,k10,k11,k12,k13,k14⟩,rfl⟩⟩
 split
 ·exact⟨.A2n h,fun _=>⟨⟨k1,k2,k3,k4,k5,ht,k7,k8,k9,k10,k11,k12,k13,k14⟩,rfl⟩⟩
 split
 ·exact⟨C6w h _ _ _ _,fun _=>⟨⟨k1,k2,k3,k4,d1,ht,k7,k8,k9,k10,k11,k12,k13,k14⟩,rfl⟩⟩
 ·exact⟨.A2n h,fun _=>⟨⟨k1,k2,k3,k4,k5,ht,k7,k8,k9,k10,k11,k12,k13,k14⟩,rfl⟩⟩
end
structure D1b(ss:A0k)(po:A0e)(ss':A0k)(po':A0e):Prop where
 tape:B0z ss' po'
 e1:ss'={ss with taken:=ss'.taken}
 e2:po'={po with A0u:=po'.A0u}
 len:po'.A0u.length=po.A0u.length
theorem D1b.A2n{ss:A0k}{po:A0e}(h:B0z ss po):D1b ss po ss po:=⟨h,rfl,rfl,rfl⟩
theorem G1w{ss:A0k}{po:A0e}(h:B0z ss po):D1b ss po (takeN ss po).2.1 (takeN ss po).2.2:=by
 unfold takeN
 split
 ·exact .A2n h
 ·rename_i hn
  obtain⟨⟨t1,t2,t3⟩,te⟩:=h
  exact⟨⟨⟨by dsimp only;omega,by dsimp only;omega,t3⟩,fun d hd=>by have:=te d hd;simpa using this⟩,rfl,rfl,by simp⟩
structure H7t(n0:Int)(S:WS)(T:Tr):Prop where
 w:A9i S T.S
 o:∀P,T.o=some P→P.ok
 n:T.n=n0
theorem G7v{n:Int}{o:Option A0a}{ss:A0k}{po:A0e}{S:WS}(h:S.ok)(ho:∀P,o=some P→P.ok):H7t n S (A2e n o ss po S)∧(A2e n o ss po S).ss=ss∧(A2e n o ss po S).po=po:=by
 unfold A2e
 cases o with
 |none=>exact⟨⟨.A2n h,fun P hP=>(by cases hP),rfl⟩,rfl,rfl⟩
 |some P=>
  dsimp only
  split
  ·exact⟨⟨.A2n h,ho,rfl⟩,rfl,rfl⟩
  ·obtain⟨q1,q2,q3,q4,q5,q6,q7⟩:=D1w h (ho P rfl)
   exact⟨⟨⟨q2,q3,q4,q5,q7⟩,fun P' hP=>(by cases hP;exact q1),rfl⟩,rfl,rfl⟩
theorem H1d{pr:PrS}{o:Option A0a}{se:A0l}{ss:A0k}{po:A0e}{S:WS}(h:S.ok)(hk:A4s pr o se S)(ht:B0z ss po):
  A9i S (A1v pr o ss po S).S∧(∀P,(A1v pr o ss po S).o=some P→P.ok)∧(0≤(A1v pr o ss po S).n∧(A1v pr o ss po S).n≤100)∧D1b ss po (A1v pr o ss po S).ss (A1v pr o ss po S).po∧((A1v pr o ss po S).b=false→(A1v pr o ss po S).S=S):=by
 have hb:=G5o (pr:=pr) (ss:=ss) (po:=po) h hk.o
 have hn:=hk.n
 have ha:=hk.A3x
 have key:∀(n':Int) (o':Option A0a) (ss':A0k) (po':A0e),(∀P,o'=some P→P.ok)→(0≤n'∧n'≤100)→D1b ss po ss' po'→A1v pr o ss po S=A2e n' o' ss' po' S→
   A9i S (A1v pr o ss po S).S∧(∀P,(A1v pr o ss po S).o=some P→P.ok)∧(0≤(A1v pr o ss po S).n∧(A1v pr o ss po S).n≤100)∧D1b ss po (A1v pr o ss po S).ss (A1v pr o ss po S).po∧((A1v pr o ss po S).b=false→(A1v pr o ss po S).S=S):=by
  intro n' o' ss' po' h1 h2 h3 e
  rw[e]at hb⊢
  obtain⟨⟨r1,r2,r3⟩,r4,r5⟩:=G7v (n:=n') (ss:=ss') (po:=po') h h1
  exact⟨r1,r2,by rw[r3];exact h2,by rw[r4,r5];exact h3,hb.2.2⟩
 by_cases c0:A5y o=true∧pr.n<pr.A3x.length
 ·by_cases c1:(atA pr.A3x pr.n).way=1
  ·exact key (pr.n+1) (some (A0a.new (E2d (atA pr.A3x pr.n) (takeN ss po).1))) _ _ (fun P e=>by cases e;exact A0a.C1c _) (by omega) (G1w ht) (by unfold A1v;rw[Q3 c0,Q3 c1])
  ·exact key (pr.n+1) (some (A0a.new (atA pr.A3x pr.n))) _ _ (fun P e=>by cases e;exact A0a.C1c _) (by omega) (.A2n ht) (by unfold A1v;rw[Q3 c0,Q0 c1])
 ·exact key _ _ _ _ hk.o hn (.A2n ht) (by unfold A1v;rw[Q0 c0])
theorem G4l{pr:PrS}{o:Option A0a}{se:A0l}{ss:A0k}{po:A0e}{S:WS}(hk:A4s pr o se S){r:Rep}(h:(A2k pr o se ss po S).r=some r):r.looks.length≤8:=by
 have hc:∀c,some (codeF pr S c)=some r→r.looks.length≤8:=fun c e=>by cases e;exact bH _
 unfold A2k at h
 split at h
 ·unfold A9a at h
  split at h
  ·have h':(A1r (A0f S.c se.part pr.a.cell) pr se S).r=some r:=h
   unfold A1r at h'
   split at h'
   ·split at h'
    ·exact hc _ h'
    ·cases h'
   split at h'
   ·split at h'
    ·exact hc _ h'
    ·cases h'
   split at h'
   ·cases h'
   split at h'<;>cases h'
  ·unfold B1d at h
   split at h
   ·cases h
   split at h
   ·cases h
   ·cases h;exact bH _
 split at h
 ·have h':(A0s (A0f S.c se.part pr.a.cell) pr se S).r=some r:=h
  unfold A0s at h'
  split at h'
  ·split at h'
   ·exact hc _ h'
   ·cases h'
  split at h'
  ·cases h'
  split at h'
  ·cases h'
  split at h'
  ·cases h'
  ·cases h';exact bH _
 split at h
 ·have h':(A1t (A0f S.c se.part pr.a.cell) pr se S).r=some r:=h
  unfold A1t at h'
  split at h'
  ·exact hc _ h'
  split at h'
  ·cases h'
  split at h'
  ·split at h'<;>cases h'
  split at h'
  ·cases h'
  ·cases h';exact bH _
 split at h
 ·have h':(A1q pr se S).r=some r:=h
  unfold A1q at h'
  split at h'
  ·cases h'
   have h1:=hk.looks
   have h2:=hk.pc
   show pr.looks.length≤8
   omega
  split at h'<;>cases h'
 ·exact hc _ h
structure H3b(pr:PrS)(se:A0l)(ss:A0k)(po:A0e)(S:WS)(R:StA):Prop where
 w:A9i S R.S
 C4v:B8r R.se S.c
 part:R.se.part=se.part
 t:D1b ss po R.ss R.po
 prog:R.r=none→A4s R.pr R.o R.se R.S∧R.pr.a=pr.a
theorem D0h.A{pr:PrS}{o:Option A0a}{se:A0l}{ss:A0k}{po:A0e}{S:WS}{X:Stp}(h:D0h pr o se S X)(ht:B0z ss po):H3b pr se ss po S (X.on o ss po):=⟨h.w,h.C4v,h.part,.A2n ht,h.prog⟩
theorem E5o{pr:PrS}{o:Option A0a}{se:A0l}{ss:A0k}{po:A0e}{S:WS}(h:S.ok)(hk:A4s pr o se S)(hse:B8r se S.c)(ht:B0z ss po):H3b pr se ss po S (A2k pr o se ss po S):=by
 unfold A2k
 split
 ·rename_i c1
  unfold A9a
  split
  ·exact(G1x h hk hse c1 (by omega)).A ht
  ·rename_i c4
   obtain⟨t1,t2,t3,t4,t5⟩:=H1d (ss:=ss) (po:=po) h hk ht
   generalize A1v pr o ss po S=T at*
   unfold B1d
   have hk':∀S',S'.c=S.c→A4s {pr with n:=T.n} T.o se S':=by
    intro S' hS
    obtain⟨k1,k2,k3,k4,k5,k6,k7,k8,k9,k10,k11,k12,k13,k14⟩:=hk
    exact⟨k1,k2,k3,k4,k5,k6,k7,t3,k9,k10,by rw[hS];exact k11,by rw[hS];exact k12,by rw[hS];exact k13,t2⟩
   split
   ·exact⟨t1,hse,rfl,t4,fun _=>⟨hk' _ t1.c,rfl⟩⟩
   ·rename_i hb
    have e:=t5 (by simpa using hb)
    rw[e]
    obtain⟨r1,r2⟩:=G7u (o:=T.o) h (hk' S rfl) hse (A0f S.c se.part pr.a.cell)
    split
    ·rename_i hr
     refine⟨r1,hse,rfl,t4,fun _=>?_⟩
     obtain⟨⟨k1,k2,k3,k4,k5,k6,k7,k8,k9,k10,k11,k12,k13,k14⟩,r4⟩:=r2 hr
     exact⟨⟨k1,k2,k3,k4,k5,k6,k7,k8,k9,k10,by rw[r1.c];exact k11,by rw[r1.c];exact k12,by rw[r1.c];exact k13,k14⟩,r4⟩
    ·exact⟨r1,hse,rfl,t4,fun hh=>B1b hh⟩
 split
 ·rename_i c2
  exact(F8b h hk hse c2).A ht
 split
 ·rename_i c3
  exact(G5c h hk hse c3).A ht
 split
 ·rename_i c4
  exact(G4y h hk hse c4).A ht
 ·exact⟨.A2n h,hse,rfl,.A2n ht,fun hh=>B1b hh⟩
end
section
structure A0w where
 se:A0l
 queue:List Qe
 now:Option (PrS × Option A0a)
 ev:Int
 tape:List Dr
 taken:Int
structure A0h where
 S:WS
 A0c:List A0w
 sw:List (SwS × Option A0a)
 re:List ReS
 events:Int
 outs:List Out
 A0u:List Int
 lines:List Int
def A0p(l:List Nat):List D:=l.map fun(z:Nat)=>D.int (z:Int)
def A0w.raw(x:A0w)(s now:D):A0k:=⟨s,x.queue,now,x.ev,x.tape,x.taken⟩
def A0h.raw(P:A0h)(w:D)(za swa rea:List D):A0e:=⟨w,za,swa,rea,P.events,P.outs,P.A0u,P.lines⟩
def B5t(L:List D)(lab:Nat→Nat)(n pl z:Nat)(x:A0w):Prop:=∃(s a q:Nat) (now:D),
 L.getD z D.nil=.agg (x.raw (.int (s:Nat)) now).ds∧L.getD s D.nil=.agg x.se.ds∧
 (match x.now with
  |none=>now=.nil
  |some (pr,o)=>now=.int (a:Nat)∧∃ptr,L.getD a D.nil=.agg (pr.at ptr (A4x z pl)).ds∧PP L q ptr o)∧
 (lab z=n∧lab s=n∧lab a=n∧lab q=n)∧a<L.length∧q<L.length
def E6c(L:List D)(lab:Nat→Nat)(n b:Nat)(x:SwS × Option A0a):Prop:=∃(q:Nat) (ptr:D),
 L.getD b D.nil=.agg (x.1.at ptr).ds∧PP L q ptr x.2∧(lab b=n∧lab q=n)∧q<L.length
def E7x(L:List D)(lab:Nat→Nat)(n b:Nat)(x:ReS):Prop:=L.getD b D.nil=.agg x.ds∧lab b=n
def Gl(L:List D)(b:Nat):Option D:=if b<L.length then some (L.getD b D.nil)else none
structure Enc(G:Nat→Option D)(L:List D)(lab:Nat→Nat)(pl w m k:Nat)(za swa rea:List Nat)(P:A0h):Prop where
 W:InW L w m k P.S
 A4i:L.getD pl D.nil=.agg (P.raw (.int (w:Nat)) (A0p za) (A0p swa) (A0p rea)).ds
 l0:lab pl=0∧lab w=0∧lab m=0∧lab k=0
 zl:za.length=P.A0c.length
 swl:swa.length=P.sw.length
 rel:rea.length=P.re.length
 ss:∀i x z,P.A0c[i]?=some x→za[i]?=some z→B5t L lab (4*i+1) pl z x
 sw:∀i x z,P.sw[i]?=some x→swa[i]?=some z→E6c L lab (4*i+2) z x
 re:∀i x z,P.re[i]?=some x→rea[i]?=some z→E7x L lab (4*i+3) z x
 pre:∀b x,G b=some x→b<L.length∧lab b=4∧L.getD b D.nil=x
def A4d(lab:Nat→Nat)(n:Nat)(L:List D)(x:Nat):Nat:=if x<L.length then lab x else n
section
variable{L L':List D}{lab:Nat→Nat}{n n' pl z:Nat}{T:Nat→Prop}(F:Fr L L' T)
include F
theorem A2t{x:Nat}(h:x<L.length):A4d lab n' L x=lab x:=Q3 h
theorem B5t.fr{x:A0w}(h:B5t L lab n pl z x)(hT:∀b,b<L.length→lab b=n→¬T b):B5t L' (A4d lab n' L) n pl z x:=by
 obtain⟨s,a,q,now,h1,h2,h3,⟨l1,l2,l3,l4⟩,h4,h5⟩:=h
 have hz:=A2p h1
 have hs:=A2p h2
 refine⟨s,a,q,now,F.get h1 (hT _ hz l1),F.get h2 (hT _ hs l2),?_,⟨by rw[A2t F hz];exact l1,by rw[A2t F hs];exact l2,by rw[A2t F h4];exact l3,by rw[A2t F h5];exact l4⟩,bC h4 F.1,bC h5 F.1⟩
 cases hn:x.now with
 |none=>rw[hn]at h3;exact h3
 |some y=>
  obtain⟨pr,o⟩:=y
  rw[hn]at h3
  obtain⟨g1,ptr,g2,g3⟩:=h3
  exact⟨g1,ptr,F.get g2 (hT _ h4 l3),g3.ext fun P _=>F.2 q h5 (hT _ h5 l4)⟩
theorem E6c.fr{x:SwS × Option A0a}{b:Nat}(h:E6c L lab n b x)(hT:∀b,b<L.length→lab b=n→¬T b):E6c L' (A4d lab n' L) n b x:=by
 obtain⟨q,ptr,h1,h2,⟨l1,l2⟩,h5⟩:=h
 have hz:=A2p h1
 exact⟨q,ptr,F.get h1 (hT _ hz l1),h2.ext fun P _=>F.2 q h5 (hT _ h5 l2),⟨by rw[A2t F hz];exact l1,by rw[A2t F h5];exact l2⟩,bC h5 F.1⟩
theorem E7x.fr{x:ReS}{b:Nat}(h:E7x L lab n b x)(hT:∀b,b<L.length→lab b=n→¬T b):E7x L' (A4d lab n' L) n b x:=by
 obtain⟨h1,l1⟩:=h
 have hz:=A2p h1
 exact⟨F.get h1 (hT _ hz l1),by rw[A2t F hz];exact l1⟩
end
theorem InW.lt{L:List D}{w m k:Nat}{S:WS}(W:InW L w m k S):w<L.length∧m<L.length∧k<L.length:=by
 obtain⟨M,hM,_⟩:=W.m
 exact⟨A2p W.w,A2p hM,A2p W.k⟩
section
variable{G:Nat→Option D}{L L':List D}{lab:Nat→Nat}{pl w m k:Nat}{za swa rea:List Nat}{P P':A0h}{T:Nat→Prop}(E:Enc G L lab pl w m k za swa rea P)(F:Fr L L' T)
 (W':InW L' w m k P'.S) (hp:L'.getD pl D.nil=.agg (P'.raw (.int (w:Nat)) (A0p za) (A0p swa) (A0p rea)).ds)
include E F W' hp
theorem D9z(n:Nat):A4d lab n L pl=0∧A4d lab n L w=0∧A4d lab n L m=0∧A4d lab n L k=0:=by
 obtain⟨h1,h2,h3⟩:=E.W.lt
 obtain⟨l1,l2,l3,l4⟩:=E.l0
 rw[A2t F (A2p E.A4i),A2t F h1,A2t F h2,A2t F h3]
 exact⟨l1,l2,l3,l4⟩
omit W' hp in
theorem Enc.E8a(n:Nat)(hT:∀b,b<L.length→T b→lab b≠4):∀b x,G b=some x→b<L'.length∧A4d lab n L b=4∧L'.getD b D.nil=x:=by
 intro b x hb
 obtain⟨hbl,p1,p2⟩:=E.pre b x hb
 exact⟨bC hbl F.1,by rw[A2t F hbl];exact p1,(F.2 b hbl fun ht=>hT b hbl ht p1).trans p2⟩
theorem Enc.A0c{i z:Nat}{x':A0w}(hT:∀b,b<L.length→T b→lab b=4*i+1∨lab b=0)(hz:za[i]?=some z)(hx:B5t L' (A4d lab (4*i+1) L) (4*i+1) pl z x')
  (h1:P'.A0c=P.A0c.set i x') (h2:P'.sw=P.sw) (h3:P'.re=P.re):Enc G L' (A4d lab (4*i+1) L) pl w m k za swa rea P':=by
 have hno:∀n,n≠4*i+1→n≠0→∀b,b<L.length→lab b=n→¬T b:=fun n n1 n2 b hb hl ht=>by
  rcases hT b hb ht with h|h<;>omega
 refine⟨W',hp,D9z E F W' hp _,by rw[h1];simpa using E.zl,by rw[h2];exact E.swl,by rw[h3];exact E.rel,fun j y zj hy hzj=>?_,fun j y zj hy hzj=>?_,fun j y zj hy hzj=>?_,E.E8a F (4*i+1) (fun b hb ht=>by have:=hT b hb ht;omega)⟩
 ·rw[h1,aM]at hy
  by_cases hj:i=j
  ·subst hj
   rw[Q3 rfl]at hy
   split at hy
   ·cases hy
    rw[hz]at hzj;cases hzj
    exact hx
   ·cases hy
  ·rw[Q0 hj]at hy
   exact(E.ss j y zj hy hzj).fr F (hno _ (by omega) (by omega))
 ·rw[h2]at hy
  exact(E.sw j y zj hy hzj).fr F (hno _ (by omega) (by omega))
 ·rw[h3]at hy
  exact(E.re j y zj hy hzj).fr F (hno _ (by omega) (by omega))
theorem Enc.swp{i z:Nat}{x':SwS × Option A0a}(hT:∀b,b<L.length→T b→lab b=4*i+2∨lab b=0)(hz:swa[i]?=some z)(hx:E6c L' (A4d lab (4*i+2) L) (4*i+2) z x')
  (h1:P'.A0c=P.A0c) (h2:P'.sw=P.sw.set i x') (h3:P'.re=P.re):Enc G L' (A4d lab (4*i+2) L) pl w m k za swa rea P':=by
 have hno:∀n,n≠4*i+2→n≠0→∀b,b<L.length→lab b=n→¬T b:=fun n n1 n2 b hb hl ht=>by
  rcases hT b hb ht with h|h<;>omega
 refine⟨W',hp,D9z E F W' hp _,by rw[h1];exact E.zl,by rw[h2];simpa using E.swl,by rw[h3];exact E.rel,fun j y zj hy hzj=>?_,fun j y zj hy hzj=>?_,fun j y zj hy hzj=>?_,E.E8a F (4*i+2) (fun b hb ht=>by have:=hT b hb ht;omega)⟩
 ·rw[h1]at hy
  exact(E.ss j y zj hy hzj).fr F (hno _ (by omega) (by omega))
 ·rw[h2,aM]at hy
  by_cases hj:i=j
  ·subst hj
   rw[Q3 rfl]at hy
   split at hy
   ·cases hy
    rw[hz]at hzj;cases hzj
    exact hx
   ·cases hy
  ·rw[Q0 hj]at hy
   exact(E.sw j y zj hy hzj).fr F (hno _ (by omega) (by omega))
 ·rw[h3]at hy
  exact(E.re j y zj hy hzj).fr F (hno _ (by omega) (by omega))
theorem Enc.rep{i z:Nat}{x':ReS}(hT:∀b,b<L.length→T b→lab b=4*i+3∨lab b=0)(hz:rea[i]?=some z)(hx:E7x L' (A4d lab (4*i+3) L) (4*i+3) z x')
  (h1:P'.A0c=P.A0c) (h2:P'.sw=P.sw) (h3:P'.re=P.re.set i x'):Enc G L' (A4d lab (4*i+3) L) pl w m k za swa rea P':=by
 have hno:∀n,n≠4*i+3→n≠0→∀b,b<L.length→lab b=n→¬T b:=fun n n1 n2 b hb hl ht=>by
  rcases hT b hb ht with h|h<;>omega
 refine⟨W',hp,D9z E F W' hp _,by rw[h1];exact E.zl,by rw[h2];exact E.swl,by rw[h3];simpa using E.rel,fun j y zj hy hzj=>?_,fun j y zj hy hzj=>?_,fun j y zj hy hzj=>?_,E.E8a F (4*i+3) (fun b hb ht=>by have:=hT b hb ht;omega)⟩
 ·rw[h1]at hy
  exact(E.ss j y zj hy hzj).fr F (hno _ (by omega) (by omega))
 ·rw[h2]at hy
  exact(E.sw j y zj hy hzj).fr F (hno _ (by omega) (by omega))
 ·rw[h3,aM]at hy
  by_cases hj:i=j
  ·subst hj
   rw[Q3 rfl]at hy
   split at hy
   ·cases hy
    rw[hz]at hzj;cases hzj
    exact hx
   ·cases hy
  ·rw[Q0 hj]at hy
   exact(E.re j y zj hy hzj).fr F (hno _ (by omega) (by omega))
end
theorem G5x(x:A0w)(P:A0h)(s now w:D)(za swa rea:List D)(s' now' w':D)(za' swa' rea':List D):
  takeN (x.raw s now) (P.raw w za swa rea)=((takeN (x.raw s' now') (P.raw w' za' swa' rea')).1,{(takeN (x.raw s' now') (P.raw w' za' swa' rea')).2.1 with s:=s,now:=now},{(takeN (x.raw s' now') (P.raw w' za' swa' rea')).2.2 with w:=w,A0c:=za,C4w:=swa,D0j:=rea}):=by
 unfold takeN
 by_cases h:x.taken=(x.tape.length:Int)
 ·have h1:(x.raw s now).taken=((x.raw s now).tape.length:Int):=h
  have h2:(x.raw s' now').taken=((x.raw s' now').tape.length:Int):=h
  rw[Q3 h1,Q3 h2];rfl
 ·have h1:¬(x.raw s now).taken=((x.raw s now).tape.length:Int):=h
  have h2:¬(x.raw s' now').taken=((x.raw s' now').tape.length:Int):=h
  rw[Q0 h1,Q0 h2];rfl
def A0w.nl(x:A0w):A0k:=x.raw .nil .nil
def A0h.nl(P:A0h):A0e:=P.raw .nil [] [] []
def A0k.at(x:A0k)(s now:D):A0k:={x with s:=s,now:=now}
def A0e.at(x:A0e)(w:D)(za swa rea:List D):A0e:={x with w:=w,A0c:=za,C4w:=swa,D0j:=rea}
theorem E6l(n:Int)(o:Option A0a)(ss:A0k)(po:A0e)(S:WS)(f:A0k→A0k)(g:A0e→A0e):A2e n o (f ss) (g po) S={A2e n o ss po S with ss:=f (A2e n o ss po S).ss,po:=g (A2e n o ss po S).po}:=by
 unfold A2e
 cases o with
 |none=>rfl
 |some P=>
  dsimp only
  split<;>rfl
theorem G4z(pr:PrS)(o:Option A0a)(se:A0l)(x:A0w)(P:A0h)(S:WS)(s now w:D)(za swa rea:List D):
  A2k pr o se (x.raw s now) (P.raw w za swa rea) S={A2k pr o se x.nl P.nl S with ss:=(A2k pr o se x.nl P.nl S).ss.at s now,po:=(A2k pr o se x.nl P.nl S).po.at w za swa rea}:=by
 have e1:x.raw s now=x.nl.at s now:=rfl
 have e2:P.raw w za swa rea=P.nl.at w za swa rea:=rfl
 have ht:A1v pr o (x.raw s now) (P.raw w za swa rea) S={A1v pr o x.nl P.nl S with ss:=(A1v pr o x.nl P.nl S).ss.at s now,po:=(A1v pr o x.nl P.nl S).po.at w za swa rea}:=by
  unfold A1v
  have hk:=G5x x P s now w za swa rea .nil .nil .nil [] [] []
  rw[hk]
  by_cases c0:A5y o=true∧pr.n<(pr.A3x.length:Int)
  ·rw[Q3 c0,Q3 c0]
   by_cases c1:(atA pr.A3x pr.n).way=1
   ·rw[Q3 c1,Q3 c1]
    exact E6l _ _ (takeN x.nl P.nl).2.1 (takeN x.nl P.nl).2.2 S (fun y=>y.at s now) (fun y=>y.at w za swa rea)
   ·rw[Q0 c1,Q0 c1]
    exact E6l _ _ x.nl P.nl S (fun y=>y.at s now) (fun y=>y.at w za swa rea)
  ·rw[Q0 c0,Q0 c0]
   exact E6l _ _ x.nl P.nl S (fun y=>y.at s now) (fun y=>y.at w za swa rea)
 unfold A2k
 split
 ·unfold A9a
  split
  ·rfl
  ·rw[ht]
   unfold B1d
   dsimp only
   split
   ·rfl
   ·split<;>rfl
 split
 ·rfl
 split
 ·rfl
 split<;>rfl
end
section
def PrS.start(a:Ask):PrS:=⟨a,0,0,.zero,0,0,0,.nil,0,[],.zero,.zero,[],.nil⟩
def A0w.begun(x:A0w):Option (A0w × PrS × Option A0a):=match x.now with
 |some (pr,o)=>some (x,pr,o)
 |none=>match x.queue with
  |[]=>none
  |q::t=>some ({x with queue:=t,ev:=q.ev,now:=some (PrS.start q.a,none)},PrS.start q.a,none)
def A0h.use(P:A0h)(ev:Int):A0h:={P with A0u:=P.A0u.set P.events.toNat ev}
def B4q(P:A0h)(i:Nat)(x:A0w)(R:StA):A0h:=match R.r with
 |none=>{P with S:=R.S,A0u:=R.po.A0u,A0c:=P.A0c.set i {x with se:=R.se,now:=some (R.pr,R.o),taken:=R.ss.taken}}
 |some r=>{P with S:=R.S,A0u:=R.po.A0u,outs:=P.outs++[⟨R.se.part,x.ev,r⟩],A0c:=P.A0c.set i {x with se:=R.se,now:=none,ev:=-1,taken:=R.ss.taken}}
def A5u(P:A0h)(i:Nat)(x:A0w)(pr:PrS)(o:Option A0a):A0h:=B4q (P.use x.ev) i x (A2k pr o x.se x.nl (P.use x.ev).nl P.S)
def A3u(P:A0h)(i:Nat)(x:A0w):Bool × A0h:=match x.begun with
 |none=>(false,P)
 |some (x1,pr,o)=>(true,A5u P i x1 pr o)
theorem G9y(r:Option Rep)(L:List D):(A6m r L).length=15:=by cases r<;>rfl
section
variable{L:List D}{s z l w m k:Nat}{se:A0l}{ss:A0k}{po:A0e}{S:WS}(B:InB L s z l w m k se ss po S)
include B
theorem InB.far:(z≠s∧z≠w∧z≠m∧z≠k∧z≠l)∧(l≠s∧l≠w∧l≠m∧l≠k):=by
 obtain⟨h1,h2,h3⟩:=B.W.far B.z (by rw[A0k.len];decide) (by rw[A0k.len];decide) (by rw[A0k.len];decide)
 obtain⟨g1,g2,g3⟩:=B.W.far B.l (by rw[A0e.len];decide) (by rw[A0e.len];decide) (by rw[A0e.len];decide)
 exact⟨⟨A3m B.z B.s (by rw[A0l.len,A0k.len];decide),h1,h2,h3,A3m B.z B.l (by rw[A0k.len,A0e.len];decide)⟩,A3m B.l B.s (by rw[A0l.len,A0e.len];decide),g1,g2,g3⟩
theorem InB.G8v(ss':A0k):InB (L.set z (.agg ss'.ds)) s z l w m k se ss' po S:=by
 obtain⟨⟨h1,h2,h3,h4,h5⟩,_⟩:=B.far
 exact⟨B.W.fr (Fr.set L z _ (T:=(·=z)) rfl) (bU h2) (bU h3) (bU h4),by rw[A3i h1];exact B.s,A3r (A2p B.z) _,by rw[A3i h5];exact B.l⟩
theorem InB.B8l(po':A0e):InB (L.set l (.agg po'.ds)) s z l w m k se ss po' S:=by
 obtain⟨⟨h1,h2,h3,h4,h5⟩,g1,g2,g3,g4⟩:=B.far
 exact⟨B.W.fr (Fr.set L l _ (T:=(·=l)) rfl) (bU g2) (bU g3) (bU g4),by rw[A3i g1];exact B.s,by rw[A3i (bU h5)];exact B.z,A3r (A2p B.l) _⟩
end
theorem F6e{L:List D}{a s z pl w m k q n:Nat}{ptr:D}{pr:PrS}{o:Option A0a}{x:A0w}{P:A0h}{za swa rea:List D}{lab:Nat→Nat}{i:Nat}
  (A:InA L a s z pl w m k (pr.at ptr (A4x z pl)) x.se (x.raw (.int (s:Nat)) (.int (a:Nat))) (P.raw (.int (w:Nat)) za swa rea) P.S) (hp:PP L q ptr o) (h:P.S.ok) (hk:A4s pr o x.se P.S) (hse:B8r x.se P.S.c)
  (hl:P.S.log.length≤1000000000) (ht:B0z x.nl P.nl) (he:0≤P.events∧P.events<P.A0u.length) (ho:P.outs.length≤1000000000)
  (hlab:∀b,L.length≤b→lab b=n) (hl4:lab z=n∧lab s=n∧lab a=n∧lab q=n) (hql:q<L.length) (x2:D):
  ∃L',A8p (.int (pl:Nat)) (.int (z:Nat)) x2 [.agg L]=some [.bool true,.agg L']∧InW L' w m k (A5u P i x pr o).S∧
   L'.getD pl D.nil=.agg ((A5u P i x pr o).raw (.int (w:Nat)) za swa rea).ds∧Fr L L' (Own a q s z pl w m)∧
   ∃x',(A5u P i x pr o).A0c=P.A0c.set i x'∧B5t L' lab n pl z x'∧(A5u P i x pr o).sw=P.sw∧(A5u P i x pr o).re=P.re:=by
 have A1:=A.B8l ((P.use x.ev).raw (.int (w:Nat)) za swa rea)
 have hpl:=A.fl
 have hq1:PP (L.set pl (.agg ((P.use x.ev).raw (.int (w:Nat)) za swa rea).ds)) q ptr o:=hp.ext fun P' hP=>by
  subst hP
  exact A3i (bU (A3m hp.2 A.l (by rw[A0a.len,A0e.len];decide))) _
 have ht0:B0z x.nl (P.use x.ev).nl:=⟨ht.t,fun d hd=>by have:=ht.e d hd;simpa[A0h.use,A0h.nl,A0h.raw]using this⟩
 have ht1:B0z (x.raw (.int (s:Nat)) (.int (a:Nat))) ((P.use x.ev).raw (.int (w:Nat)) za swa rea):=⟨ht0.t,ht0.e⟩
 obtain⟨L1,q1,p1,n1,B1,D1,F1,hq⟩:=G6s A1 hq1 h hk hse hl ht1
 rw[G4z]at n1 B1 D1
 have kk:=E5o (pr:=pr) (o:=o) h hk hse ht0
 have hQ:A5u P i x pr o=B4q (P.use x.ev) i x (A2k pr o x.se x.nl (P.use x.ev).nl P.S):=rfl
 rw[hQ]
 generalize A2k pr o x.se x.nl (P.use x.ev).nl P.S=R at*
 have ess:R.ss.at (.int (s:Nat)) (.int (a:Nat))=({x with se:=R.se,taken:=R.ss.taken}:A0w).raw (.int (s:Nat)) (.int (a:Nat)):=by rw[kk.t.e1];rfl
 have epo:∀P':A0h,P'.events=P.events→P'.outs=P.outs→P'.A0u=R.po.A0u→P'.lines=P.lines→R.po.at (.int (w:Nat)) za swa rea=P'.raw (.int (w:Nat)) za swa rea:=by
  intro P' e1 e2 e3 e4
  rw[kk.t.e2]
  unfold A0h.raw A0e.at
  rw[e1,e2,e3,e4];rfl
 have hus:((P.raw (.int (w:Nat)) za swa rea).A0u.map D.int).set (P.raw (.int (w:Nat)) za swa rea).events.toNat (.int (x.raw (.int (s:Nat)) (.int (a:Nat))).ev)=(P.use x.ev).A0u.map D.int:=E0l _ _ _
 have j1:(P.raw (.int (w:Nat)) za swa rea).events≥0:=he.1
 have j2:(P.raw (.int (w:Nat)) za swa rea).events<((P.raw (.int (w:Nat)) za swa rea).A0u.length:Int):=he.2
 have g0:(x.raw (.int (s:Nat)) (.int (a:Nat))).s=.int (s:Nat):=rfl
 have g1:(x.raw (.int (s:Nat)) (.int (a:Nat))).now=.int (a:Nat):=rfl
 have g3:(P.raw (.int (w:Nat)) za swa rea).w=.int (w:Nat):=rfl
 have g6:({P.raw (.int (w:Nat)) za swa rea with A0u:=(P.use x.ev).A0u}:A0e)=(P.use x.ev).raw (.int (w:Nat)) za swa rea:=rfl
 have FA:Fr L (L.set pl (.agg ((P.use x.ev).raw (.int (w:Nat)) za swa rea).ds)) (Own a q s z pl w m):=Fr.set L pl _ (.inr (.inr (.inr (.inr (.inl rfl)))))
 have F2:Fr L L1 (Own a q s z pl w m):=FA.trans F1
 have hlen0:(L.set pl (.agg ((P.use x.ev).raw (.int (w:Nat)) za swa rea).ds)).length=L.length:=by simp
 rw[hlen0]at hq
 have hlq:lab q1=n:=by
  rcases hq with hq|hq
  ·rw[hq];exact hl4.2.2.2
  ·exact hlab _ hq
 have hal:a<L.length:=A2p A.H.a
 rw[C5o]
 simp only[HH,A.l,A.z,A0e.A1f,A0e.A1u,A0e.A3z,A0k.A1w,j1,j2,Q6,D0z,hus,A0e.rng,A0e.B7u,g6,A1.z,A0k.A1f,A0k.A1p]
 simp only[g0,g1,g3,n1,HH,G9y,C5g]
 cases hr:R.r with
 |none=>
  have hst:B4q (P.use x.ev) i x R={P.use x.ev with S:=R.S,A0u:=R.po.A0u,A0c:=P.A0c.set i {x with se:=R.se,now:=some (R.pr,R.o),taken:=R.ss.taken}}:=by unfold B4q;rw[hr];rfl
  rw[hst]
  obtain⟨d1,d2⟩:=D1 hr
  have e13:(A6m none L1).getD 13 D.nil=.bool false:=rfl
  have e14:(A6m none L1).getD 14 D.nil=.agg L1:=rfl
  simp only[e13,e14,HH]
  have hB:=B1.z
  have hL:=B1.l
  dsimp only at hB hL d1 d2
  rw[ess]at hB
  rw[epo {P.use x.ev with S:=R.S,A0u:=R.po.A0u,A0c:=P.A0c.set i {x with se:=R.se,now:=some (R.pr,R.o),taken:=R.ss.taken}} rfl rfl rfl rfl]at hL
  have hql1:q1<L1.length∨R.o=none:=by
   cases hoo:R.o with
   |none=>exact .inr rfl
   |some P'=>rw[hoo]at d2;exact .inl (A2p d2.2)
  refine⟨L1,rfl,B1.W,hL,F2,{x with se:=R.se,now:=some (R.pr,R.o),taken:=R.ss.taken},rfl,?_,rfl,rfl⟩
  rcases hql1 with hh|hh
  ·exact⟨s,a,q1,.int (a:Nat),hB,B1.s,⟨rfl,p1,d1,d2⟩,⟨hl4.1,hl4.2.1,hl4.2.2.1,hlq⟩,bC hal F2.1,hh⟩
  ·refine⟨s,a,q,.int (a:Nat),hB,B1.s,⟨rfl,p1,d1,?_⟩,hl4,bC hal F2.1,bC hql F2.1⟩
   rw[hh]at d2⊢
   exact d2
 |some r=>
  have hst:B4q (P.use x.ev) i x R={P.use x.ev with S:=R.S,A0u:=R.po.A0u,outs:=P.outs++[⟨R.se.part,x.ev,r⟩],A0c:=P.A0c.set i {x with se:=R.se,now:=none,ev:=-1,taken:=R.ss.taken}}:=by unfold B4q;rw[hr];rfl
  rw[hst]
  have hB:=B1.z
  have hL:=B1.l
  dsimp only at hB hL
  rw[ess]at hB
  rw[epo {P.use x.ev with S:=R.S,A0u:=R.po.A0u} rfl rfl rfl rfl]at hL
  have B2:InB L1 s z pl w m k R.se (({x with se:=R.se,taken:=R.ss.taken}:A0w).raw (.int (s:Nat)) (.int (a:Nat))) (({P.use x.ev with S:=R.S,A0u:=R.po.A0u}:A0h).raw (.int (w:Nat)) za swa rea) R.S:=⟨B1.W,B1.s,hB,hL⟩
  have B3:=B2.B8l (({P.use x.ev with S:=R.S,A0u:=R.po.A0u,outs:=P.outs++[⟨R.se.part,x.ev,r⟩]}:A0h).raw (.int (w:Nat)) za swa rea)
  have B4:=B3.G8v (({x with se:=R.se,now:=none,ev:=-1,taken:=R.ss.taken}:A0w).raw (.int (s:Nat)) .nil)
  have o0:(A6m (some r) L1).getD 0 D.nil=.int r.kind:=rfl
  have o1:(A6m (some r) L1).getD 1 D.nil=.int r.code:=rfl
  have o2:(A6m (some r) L1).getD 2 D.nil=.int r.tick:=rfl
  have o3:(A6m (some r) L1).getD 3 D.nil=.int r.id:=rfl
  have o4:(A6m (some r) L1).getD 4 D.nil=.int r.cell:=rfl
  have o5:(A6m (some r) L1).getD 5 D.nil=.bool r.asked:=rfl
  have o6:(A6m (some r) L1).getD 6 D.nil=.int r.rc.k:=rfl
  have o7:(A6m (some r) L1).getD 7 D.nil=.int r.rc.q:=rfl
  have o8:(A6m (some r) L1).getD 8 D.nil=.int r.rc.p:=rfl
  have o9:(A6m (some r) L1).getD 9 D.nil=.int r.rc.t:=rfl
  have o10:(A6m (some r) L1).getD 10 D.nil=.int r.rc.c:=rfl
  have o11:(A6m (some r) L1).getD 11 D.nil=.int r.rc.g:=rfl
  have o12:(A6m (some r) L1).getD 12 D.nil=.agg (r.looks.map A5t.d):=rfl
  have o13:(A6m (some r) L1).getD 13 D.nil=.bool true:=rfl
  have o14:(A6m (some r) L1).getD 14 D.nil=.agg L1:=rfl
  have y0:(({x with se:=R.se,taken:=R.ss.taken}:A0w).raw (.int (s:Nat)) (.int (a:Nat))).s=.int (s:Nat):=rfl
  have y3:(({P.use x.ev with S:=R.S,A0u:=R.po.A0u}:A0h).raw (.int (w:Nat)) za swa rea).outs.map Out.d++[D.agg [.int R.se.part,.int (({x with se:=R.se,taken:=R.ss.taken}:A0w).raw (.int (s:Nat)) (.int (a:Nat))).ev,.int r.kind,.int r.code,.int r.tick,.int r.id,.int r.cell,.bool r.asked,.int r.rc.k,.int r.rc.q,.int r.rc.p,.int r.rc.t,.int r.rc.c,.int r.rc.g,.agg (r.looks.map A5t.d)]]=(P.outs++[(⟨R.se.part,x.ev,r⟩:Out)]).map Out.d:=by rw[aW];rfl
  have y4:(((P.outs++[(⟨R.se.part,x.ev,r⟩:Out)]).map Out.d).length:Int)≤1034834473200:=by simp;omega
  have y5:({(({P.use x.ev with S:=R.S,A0u:=R.po.A0u}:A0h).raw (.int (w:Nat)) za swa rea)with outs:=P.outs++[⟨R.se.part,x.ev,r⟩]}:A0e)=(({P.use x.ev with S:=R.S,A0u:=R.po.A0u,outs:=P.outs++[⟨R.se.part,x.ev,r⟩]}:A0h).raw (.int (w:Nat)) za swa rea):=rfl
  simp only[o0,o1,o2,o3,o4,o5,o6,o7,o8,o9,o10,o11,o12,o13,o14,HH,B2.z,B2.l,B2.s,A0l.A1f,A0k.A1f,A0k.A1w,A0e.A2m,y0,y3,y4,Q6,C5m,C5j,A0e.rng,A0e.B6n,y5,B3.z,A0k.rng,A0k.B6r,A0k.B6t]
  have F3:Fr L ((L1.set pl (.agg (({P.use x.ev with S:=R.S,A0u:=R.po.A0u,outs:=P.outs++[⟨R.se.part,x.ev,r⟩]}:A0h).raw (.int (w:Nat)) za swa rea).ds)).set z (.agg (({x with se:=R.se,now:=none,ev:=-1,taken:=R.ss.taken}:A0w).raw (.int (s:Nat)) .nil).ds)) (Own a q s z pl w m):=
   (F2.trans (Fr.set L1 pl _ (.inr (.inr (.inr (.inr (.inl rfl))))))).trans (Fr.set _ z _ (.inr (.inr (.inr (.inl rfl)))))
  refine⟨_,rfl,B4.W,B4.l,F3,{x with se:=R.se,now:=none,ev:=-1,taken:=R.ss.taken},rfl,?_,rfl,rfl⟩
  exact⟨s,a,q,.nil,B4.z,B4.s,rfl,hl4,bC hal F3.1,bC hql F3.1⟩
end
section
structure B2r(x:A0w)(S:WS)(A0u n:Nat):Prop where
 C4v:B8r x.se S.c
 taken:0≤x.taken∧x.taken≤x.tape.length
 tape:∀d ∈ x.tape,0≤d.ev∧d.ev<A0u
 C7x:x.tape.length≤n
 queue:∀q ∈ x.queue,q.a.tm.wf
 D6w:x.queue.length≤n
 prog:∀pr o,x.now=some (pr,o)→A4s pr o x.se S
structure A2q(P:A0h)(n:Nat):Prop where
 S:P.S.ok
 A0c:∀x ∈ P.A0c,B2r x P.S P.A0u.length n
 sw:∀x ∈ P.sw,E0y x.1 P.S.c∧∀P',x.2=some P'→P'.ok
 re:∀x ∈ P.re,B6l x P.S.c
 log:P.S.log.length≤n
 outs:P.outs.length≤n
 lines:P.lines.length≤n
 D1j:∀o ∈ P.outs,o.r.looks.length≤8
theorem A4s.c{pr:PrS}{o:Option A0a}{se:A0l}{S S':WS}(h:A4s pr o se S)(e:S'.c=S.c):A4s pr o se S':=by
 obtain⟨k1,k2,k3,k4,k5,k6,k7,k8,k9,k10,k11,k12,k13,k14⟩:=h
 exact⟨k1,k2,k3,k4,k5,k6,k7,k8,k9,k10,by rw[e];exact k11,by rw[e];exact k12,by rw[e];exact k13,k14⟩
theorem B2r.mono{x:A0w}{S S':WS}{u u' n n':Nat}(h:B2r x S u n)(e:S'.c=S.c)(hu:u≤u')(hn:n≤n'):B2r x S' u' n':=
 ⟨by rw[e];exact h.C4v,h.taken,fun d hd=>by have:=h.tape d hd;omega,bE h.C7x hn,h.queue,bE h.D6w hn,fun pr o hh=>(h.prog pr o hh).c e⟩
theorem E1k(a:Ask)(ha:a.tm.wf)(se:A0l)(S:WS):A4s (PrS.start a) none se S:=by
 have hz:(0:Int)≤0∧(0:Int)≤3:=by decide
 have hz2:(0:Int)≤0∧(0:Int)≤1000:=by decide
 have hz3:(0:Int)≤0∧(0:Int)≤8:=by decide
 have hz4:(0:Int)≤0∧(0:Int)≤100:=by decide
 exact⟨by show 0<_;decide,St.A9r,ha,In.lit (z:=0) (by decide),hz,hz2,hz3,hz4,bH _,bK 0,fun hh=>absurd rfl hh,fun hh=>(by cases hh),fun hh=>(by cases hh),fun P hP=>(by cases hP)⟩
theorem mem_of{α:Type}{l:List α}{i:Nat}{x:α}(h:l[i]?=some x):x ∈ l:=aJ h
theorem F9u{L:List D}{lab:Nat→Nat}{a q s z l w m n:Nat}(h0:lab l=0∧lab w=0∧lab m=0)(hz:lab z=n∧lab s=n)(ha:a<L.length→lab a=n)(hq:q<L.length→lab q=n):
  ∀b,b<L.length→Own a q s z l w m b→lab b=n∨lab b=0:=by
 intro b hb ho
 unfold Own at ho
 rcases ho with h|h|h|h|h|h|h
 ·subst h;exact .inl (ha hb)
 ·subst h;exact .inl (hq hb)
 ·subst h;exact .inl hz.2
 ·subst h;exact .inl hz.1
 ·subst h;exact .inr h0.1
 ·subst h;exact .inr h0.2.1
 ·subst h;exact .inr h0.2.2
theorem C8s{l:List Nat}{i:Nat}{z:Nat}(h:l[i]?=some z):(A0p l).getD i D.nil=.int (z:Nat):=by
 unfold A0p
 rw[aK,aU,h];rfl
theorem H5n(a:Ask)(d:D)(L:List D):FX 74 [.int a.kind,.int a.id,.int a.cell,.int a.tm.name,.int a.tm.side,.int a.tm.A0m,.int a.tm.least,.int a.tm.A1n,.int a.qty,d,.agg L]=some [.int (L.length:Nat),.agg (L++[.agg ((PrS.start a).at .nil d).ds])]:=by
 rw[F3b]
 simp only[D.A0j]
 rfl
section
variable{G:Nat→Option D}{L:List D}{lab:Nat→Nat}{pl w m k:Nat}{za swa rea:List Nat}{P:A0h}{i z n:Nat}{x:A0w}(E:Enc G L lab pl w m k za swa rea P)(hP:A2q P n)(hn:n≤100000000)(hx:P.A0c[i]?=some x)(hz:za[i]?=some z)(he:0≤P.events∧P.events<P.A0u.length)
include E hP hn hx hz he
theorem F4a:∃L' lab',FX 61 [.int (pl:Nat),.int (z:Nat),.agg L]=some [.bool (A3u P i x).1,.agg L']∧Enc G L' lab' pl w m k za swa rea (A3u P i x).2:=by
 obtain⟨s,a,q,now,h1,h2,h3,hl4,ha,hq⟩:=E.ss i x z hx hz
 obtain⟨l1,l2,l3,l4⟩:=E.l0
 have ok:=hP.A0c x (mem_of hx)
 have g1:(x.raw (.int (s:Nat)) now).queue=x.queue:=rfl
 have g2:(x.raw (.int (s:Nat)) now).now=now:=rfl
 have hqlen:(x.queue.map Qe.d).length=x.queue.length:=List.length_map ..
 rw[D4w]
 simp only[HH,h1,A0k.A1i,A0k.A1p,g1,g2,hqlen]
 cases hnow:x.now with
 |some y=>
  obtain⟨pr,o⟩:=y
  rw[hnow]at h3
  obtain⟨rfl,ptr,g3,g4⟩:=h3
  have hb:x.begun=some (x,pr,o):=by unfold A0w.begun;rw[hnow]
  have hst:A3u P i x=(true,A5u P i x pr o):=by unfold A3u;rw[hb]
  rw[hst]
  have A:InA L a s z pl w m k (pr.at ptr (A4x z pl)) x.se (x.raw (.int (s:Nat)) (.int (a:Nat))) (P.raw (.int (w:Nat)) (A0p za) (A0p swa) (A0p rea)) P.S:=⟨⟨E.W,g3,h2⟩,h1,E.A4i⟩
  obtain⟨L',n1,W',hp',F,x',e1,e2,e3,e4⟩:=F6e (lab:=A4d lab (4*i+1) L) (i:=i) A g4 hP.S (ok.prog pr o hnow) ok.C4v (by have:=hP.log;omega) ⟨⟨ok.taken.1,ok.taken.2,bE ok.C7x hn⟩,ok.tape⟩ he (by have:=hP.outs;omega)
   (fun b hb=>by unfold A4d;rw[Q0 (by omega)])
   (by
    have hzl:=A2p h1
    have hsl:=A2p h2
    unfold A4d
    rw[Q3 hzl,Q3 hsl,Q3 ha,Q3 hq]
    exact hl4) hq (.agg L)
  simp only[A6v,a5,Q4,n1]
  exact⟨L',_,rfl,E.A0c F W' hp' (F9u ⟨l1,l2,l3⟩ ⟨hl4.1,hl4.2.1⟩ (fun _=>hl4.2.2.1) (fun _=>hl4.2.2.2)) hz e2 e1 e3 e4⟩
 |none=>
  rw[hnow]at h3
  dsimp only at h3
  subst h3
  cases hqu:x.queue with
  |nil=>
   have hb:x.begun=none:=by unfold A0w.begun;rw[hnow,hqu]
   have hst:A3u P i x=(false,P):=by unfold A3u;rw[hb]
   rw[hst]
   simp only[B5l,Q5,aD]
   exact⟨L,lab,rfl,E⟩
  |cons qe t=>
   obtain⟨x1,hx1⟩:∃x1:A0w,x1={x with queue:=t,ev:=qe.ev,now:=some (PrS.start qe.a,none)}:=⟨_,rfl⟩
   have hb:x.begun=some (x1,PrS.start qe.a,none):=by unfold A0w.begun;rw[hnow,hqu,hx1]
   have hst:A3u P i x=(true,A5u P i x1 (PrS.start qe.a) none):=by unfold A3u;rw[hb]
   rw[hst]
   have hzl:=A2p h1
   have hsl:=A2p h2
   have hpl:=A2p E.A4i
   have hzs:z≠s:=A3m h1 h2 (by rw[A0l.len,A0k.len];decide)
   have hzp:z≠pl:=A3m h1 E.A4i (by rw[A0k.len,A0e.len];decide)
   obtain⟨d1,d2,d3⟩:=E.W.far h1 (by rw[A0k.len];decide) (by rw[A0k.len];decide) (by rw[A0k.len];decide)
   have hset:∀(y:A0k),y.ds.set 1 (.agg (t.map Qe.d))=A0k.ds {y with queue:=t}:=fun _=>rfl
   have hset2:∀(y:A0k),y.ds.set 2 (.int (L.length:Nat))=A0k.ds {y with now:=.int (L.length:Nat)}:=fun _=>rfl
   have htl:b9 ((b8 Qe.d (qe::t)).length-bS 1) (bA (bS 1) (b8 Qe.d (qe::t)))=t.map Qe.d:=by
    show b9 _ (bA 1 (b8 Qe.d (qe::t)))=_
    rw[List.map_cons,List.drop_succ_cons,List.drop_zero,List.take_of_length_le]
    simp
   obtain⟨La,hLa⟩:∃La,La=L.set z (.agg (A0k.ds ⟨.int (s:Nat),t,.nil,qe.ev,x.tape,x.taken⟩)):=⟨_,rfl⟩
   obtain⟨Lb,hLb⟩:∃Lb,Lb=La++[D.agg ((PrS.start qe.a).at .nil (A4x z pl)).ds]:=⟨_,rfl⟩
   obtain⟨Lc,hLc⟩:∃Lc,Lc=Lb.set z (.agg (x1.raw (.int (s:Nat)) (.int (L.length:Nat))).ds):=⟨_,rfl⟩
   have lA:La.length=L.length:=by rw[hLa];simp
   have lB:Lb.length=L.length+1:=by rw[hLb];simp[lA]
   have lC:Lc.length=L.length+1:=by rw[hLc];simp[lB]
   have FA:Fr L La (·=z):=by rw[hLa];exact Fr.set L z _ rfl
   have FB:Fr L Lb (·=z):=FA.trans (by rw[hLb];exact Fr.snoc La _ _)
   have FC:Fr L Lc (·=z):=FB.trans (by rw[hLc];exact Fr.set Lb z _ rfl)
   have zA:La.getD z D.nil=.agg (A0k.ds ⟨.int (s:Nat),t,.nil,qe.ev,x.tape,x.taken⟩):=by rw[hLa];exact A3r hzl _
   have zB:Lb.getD z D.nil=.agg (A0k.ds ⟨.int (s:Nat),t,.nil,qe.ev,x.tape,x.taken⟩):=by rw[hLb,C8z (by rw[lA];exact hzl)];exact zA
   have zC:Lc.getD z D.nil=.agg (x1.raw (.int (s:Nat)) (.int (L.length:Nat))).ds:=by rw[hLc];exact A3r (by rw[lB];omega) _
   have aC:Lc.getD L.length D.nil=.agg ((PrS.start qe.a).at .nil (A4x z pl)).ds:=by
    rw[hLc,A3i (by omega),hLb,←lA]
    exact A5o La _
   have hx1se:x1.se=x.se:=by rw[hx1]
   have A:InA Lc L.length s z pl w m k ((PrS.start qe.a).at .nil (A4x z pl)) x1.se (x1.raw (.int (s:Nat)) (.int (L.length:Nat))) (P.raw (.int (w:Nat)) (A0p za) (A0p swa) (A0p rea)) P.S:=
    ⟨⟨E.W.fr FC (bU d1) (bU d2) (bU d3),aC,by rw[hx1se];exact FC.get h2 (bU hzs)⟩,zC,FC.get E.A4i (bU hzp)⟩
   have hqw:qe.a.tm.wf:=ok.queue qe (by rw[hqu];exact aT ..)
   have hlz:A4d lab (4*i+1) L z=4*i+1:=by unfold A4d;rw[Q3 hzl];exact hl4.1
   obtain⟨L',n1,W',hp',F,x',e1,e2,e3,e4⟩:=F6e (q:=z) (o:=none) (lab:=A4d lab (4*i+1) L) (n:=4*i+1) (i:=i) A (show PP Lc z .nil none from rfl) hP.S (by rw[hx1se];exact E1k _ hqw _ _) (by rw[hx1se];exact ok.C4v) (by have:=hP.log;omega)
    (by rw[hx1];exact⟨⟨ok.taken.1,ok.taken.2,bE ok.C7x hn⟩,ok.tape⟩) he (by have:=hP.outs;omega)
    (fun b hb=>by unfold A4d;rw[Q0 (by omega)])
    ⟨hlz,by unfold A4d;rw[Q3 hsl];exact hl4.2.1,by unfold A4d;rw[Q0 (by omega)],hlz⟩ (by rw[lC];omega) (.agg L)
   have i1:(((t.length+1:Nat):Int) == 0)=false:=Q8.2 (by omega)
   have i2:(0:Int)<((t.length+1:Nat):Int):=by omega
   have i3:(1:Int)≤((t.length+1:Nat):Int):=by omega
   have i4:(0:Int)≤1:=by decide
   have g5:(x.raw (.int (s:Nat)) .nil).queue=qe::t:=hqu
   have hg0:((qe::t).map Qe.d).getD ((0:Int)).toNat D.nil=.agg qe.ds:=rfl
   have sx:=H5n qe.a (A4x z pl) La
   unfold A4x at sx
   have hm0:({x.raw (.int (s:Nat)) .nil with queue:=t,ev:=qe.ev}:A0k)=⟨.int (s:Nat),t,.nil,qe.ev,x.tape,x.taken⟩:=rfl
   simp only[B5l,Q5,i1,i2,i3,i4,bK,Q6,a5,Q4,C5s,C5q,HH,h1,A0k.A1i,g5,hg0,Qe.A1f,Qe.A1i,Qe.A1p,Qe.A1w,Qe.A1u,Qe.A2m,Qe.A3z,Qe.A8l,Qe.A6y,Qe.A7f,htl,A0k.rng,hset,A0k.B6t,hm0]
   rw[←hLa,sx]
   have hm1:({(⟨.int (s:Nat),t,.nil,qe.ev,x.tape,x.taken⟩:A0k)with now:=.int (L.length:Nat)}:A0k)=x1.raw (.int (s:Nat)) (.int (L.length:Nat)):=by rw[hx1];rfl
   have hLb':La++[D.agg ((PrS.start qe.a).at .nil (.iface 75 (.agg [.iface 104 (.agg [.int (z:Nat)]),.iface 25 (.agg [.int (pl:Nat)])]))).ds]=Lb:=hLb.symm
   have hraw:x1.raw (.int (s:Nat)) (.int (L.length:Nat))=⟨.int (s:Nat),t,.int (L.length:Nat),qe.ev,x.tape,x.taken⟩:=by rw[hx1];rfl
   rw[hraw]at hLc
   simp only[HH,hLb',zB,A0k.rng,lA,hset2,←hLc]
   rw[n1]
   refine⟨L',_,rfl,E.A0c (L':=L') (T:=Own L.length z s z pl w m) ((FC.mono fun b hb=>.inr (.inl hb)).trans F) W' hp' (F9u ⟨l1,l2,l3⟩ ⟨hl4.1,hl4.2.1⟩ (fun hh=>absurd hh (bG _)) (fun _=>hl4.1)) hz e2 e1 e3 e4⟩
end
end
section
structure D2q(P P':A0h)(n:Nat):Prop where
 ok:A2q P' (n+1)
 w:A9i P.S P'.S
 A0u:P'.A0u.length=P.A0u.length
 events:P'.events=P.events
 sl:P'.A0c.length=P.A0c.length
 swl:P'.sw.length=P.sw.length
 rel:P'.re.length=P.re.length
 lines:P'.lines=P.lines
theorem A2q.mono{P:A0h}{n n':Nat}(h:A2q P n)(hn:n≤n'):A2q P n':=
 ⟨h.S,fun x hx=>(h.A0c x hx).mono rfl (bD _) hn,h.sw,h.re,bE h.log hn,bE h.outs hn,bE h.lines hn,h.D1j⟩
theorem D2q.A2n{P:A0h}{n:Nat}(h:A2q P n):D2q P P n:=⟨h.mono (bF n),.A2n h.S,rfl,rfl,rfl,rfl,rfl,rfl⟩
theorem others{P:A0h}{n:Nat}(h:A2q P n){S':WS}(kw:A9i P.S S'):(∀x ∈ P.A0c,B2r x S' P.A0u.length (n+1))∧(∀x ∈ P.sw,E0y x.1 S'.c∧∀P',x.2=some P'→P'.ok)∧(∀x ∈ P.re,B6l x S'.c):=by
 refine⟨fun x hx=>(h.A0c x hx).mono kw.c (bD _) (bF n),?_,?_⟩
 ·rw[kw.c];exact h.sw
 ·rw[kw.c];exact h.re
theorem F2n{P:A0h}{n i:Nat}{x:A0w}{pr:PrS}{o:Option A0a}(h:A2q P n)(hn:n≤100000000)(hx:B2r x P.S P.A0u.length n)(hk:A4s pr o x.se P.S):D2q P (A5u P i x pr o) n:=by
 have hul:(P.use x.ev).A0u.length=P.A0u.length:=by simp[A0h.use]
 have ht0:B0z x.nl (P.use x.ev).nl:=⟨⟨hx.taken.1,hx.taken.2,bE hx.C7x hn⟩,fun d hd=>by
  have:=hx.tape d hd
  show 0≤d.ev∧d.ev<((P.use x.ev).A0u.length:Int)
  rw[hul];exact this⟩
 have kk:=E5o (pr:=pr) (o:=o) h.S hk hx.C4v ht0
 have hrep:=fun r (h:(A2k pr o x.se x.nl (P.use x.ev).nl P.S).r=some r)=>G4l hk h
 have hQ:A5u P i x pr o=B4q (P.use x.ev) i x (A2k pr o x.se x.nl (P.use x.ev).nl P.S):=rfl
 rw[hQ]
 generalize A2k pr o x.se x.nl (P.use x.ev).nl P.S=R at*
 obtain⟨kw,ks,kp,kt,kg⟩:=kk
 have hrl:R.po.A0u.length=P.A0u.length:=by rw[kt.len];exact hul
 obtain⟨o1,o2,o3⟩:=others h kw
 have ets:R.ss.tape=x.tape:=by rw[kt.e1];rfl
 have tk:0≤R.ss.taken∧R.ss.taken≤(x.tape.length:Int):=by have:=kt.tape.t;rw[ets]at this;exact⟨this.1,this.2.1⟩
 have hlog:=kw.log
 have h1:=h.log
 have h2:=h.outs
 unfold B4q
 cases hr:R.r with
 |none=>
  obtain⟨p1,_⟩:=kg hr
  refine⟨⟨kw.ok,fun y hy=>?_,o2,o3,by show R.S.log.length≤_;omega,by show P.outs.length≤_;omega,bB h.lines,h.D1j⟩,kw,hrl,rfl,by simp[A0h.use],rfl,rfl,rfl⟩
  show B2r y R.S R.po.A0u.length (n+1)
  rw[hrl]
  rcases aL hy with hy|hy
  ·exact o1 y hy
  ·subst hy
   exact⟨by rw[kw.c];exact ks,tk,hx.tape,bB hx.C7x,hx.queue,bB hx.D6w,fun pr o hh=>by cases hh;exact p1⟩
 |some r=>
  refine⟨⟨kw.ok,fun y hy=>?_,o2,o3,by show R.S.log.length≤_;omega,by simp[A0h.use];omega,bB h.lines,fun o ho=>(aP.1 ho).elim (h.D1j o) fun ho=>by rw[aN]at ho;subst ho;exact hrep r hr⟩,kw,hrl,rfl,by simp[A0h.use],rfl,rfl,rfl⟩
  show B2r y R.S R.po.A0u.length (n+1)
  rw[hrl]
  rcases aL hy with hy|hy
  ·exact o1 y hy
  ·subst hy
   exact⟨by rw[kw.c];exact ks,tk,hx.tape,bB hx.C7x,hx.queue,bB hx.D6w,fun pr o hh=>by cases hh⟩
theorem G8m{P:A0h}{n i:Nat}{x:A0w}(h:A2q P n)(hn:n≤100000000)(hx:B2r x P.S P.A0u.length n):D2q P (A3u P i x).2 n:=by
 unfold A3u A0w.begun
 cases hnow:x.now with
 |some y=>
  obtain⟨pr,o⟩:=y
  exact F2n h hn hx (hx.prog pr o hnow)
 |none=>
  cases hq:x.queue with
  |nil=>exact .A2n h
  |cons q t=>
   have hqw:q.a.tm.wf:=hx.queue q (by rw[hq];exact aT ..)
   have htq:∀y ∈ t,y.a.tm.wf:=fun y hy=>hx.queue y (by rw[hq];exact aY _ hy)
   have hlq:t.length≤n:=by have:=hx.D6w;rw[hq,aB]at this;omega
   exact F2n (x:={x with queue:=t,ev:=q.ev,now:=some (PrS.start q.a,none)}) h hn ⟨hx.C4v,hx.taken,hx.tape,hx.C7x,htq,hlq,fun pr o hh=>by cases hh;exact E1k _ hqw _ _⟩ (E1k _ hqw _ _)
def A6z(P:A0h)(j:Nat)(y:SwS × Option A0a):A0h:={P with S:=(A9x y.1 y.2 P.S).2.2,sw:=P.sw.set j ((A9x y.1 y.2 P.S).1,some (A9x y.1 y.2 P.S).2.1)}
def B0t(P:A0h)(j:Nat)(y:ReS):A0h:={P with S:=(B6i y P.S).2,re:=P.re.set j (B6i y P.S).1}
def A2w(P:A0h)(ag:Int):Bool × A0h:=
 if ag<0∨ag-P.A0c.length≥2*P.sw.length then(false,P)
 else if ag-P.A0c.length<0 then(match P.A0c[ag.toNat]? with
  |some x=>A3u P ag.toNat x
  |none=>(false,P))
 else if ag-P.A0c.length<P.sw.length then(match P.sw[(ag-P.A0c.length).toNat]? with
  |some y=>(true,A6z P (ag-P.A0c.length).toNat y)
  |none=>(true,P))
 else(match P.re[(ag-P.A0c.length-P.sw.length).toNat]? with
  |some y=>(true,B0t P (ag-P.A0c.length-P.sw.length).toNat y)
  |none=>(true,P))
theorem G4k(sw:SwS)(c:Cf){o:Option A0a}(ho:∀P,o=some P→P.ok):(A3v sw c o).ok:=by
 cases o with
 |none=>exact A0a.C1c _
 |some P=>
  unfold A3v
  dsimp only
  split
  ·exact A0a.C1c _
  ·exact ho P rfl
theorem G4h{sw:SwS}{c:Cf}(hc:c.ok)(h:E0y sw c)(P:A0a):E0y (C5a sw c P) c:=by
 have hal:=A4q c hc
 have hpos:0<A0o c*A0o c:=bT (by omega) (by omega)
 obtain⟨h1,h2⟩:=h
 unfold C5a
 split
 ·exact⟨h1,h2⟩
 ·split
  ·exact⟨bK 0,hpos⟩
  ·constructor
   ·dsimp only;omega
   ·dsimp only;omega
theorem G8x{P:A0h}{n j:Nat}{y:SwS × Option A0a}(h:A2q P n)(hy:y ∈ P.sw):D2q P (A6z P j y) n:=by
 obtain⟨s1,s2⟩:=h.sw y hy
 have kk:=D1w h.S (G4k y.1 P.S.c s2)
 have kw:A9i P.S (A9x y.1 y.2 P.S).2.2:=⟨kk.s,kk.c,kk.now,kk.log,kk.len⟩
 obtain⟨o1,o2,o3⟩:=others h kw
 have h1:=h.log
 have h2:=kw.log
 refine⟨⟨kw.ok,o1,fun z hz=>?_,o3,by show(A9x y.1 y.2 P.S).2.2.log.length≤_;omega,bB h.outs,bB h.lines,h.D1j⟩,kw,rfl,rfl,rfl,by simp[A6z],rfl,rfl⟩
 rcases aL hz with hz|hz
 ·exact o2 z hz
 ·subst hz
  refine⟨?_,fun P' hP'=>by cases hP';exact kk.p⟩
  show E0y _ (A9x y.1 y.2 P.S).2.2.c
  rw[kw.c]
  exact G4h h.S.c s1 _
theorem G2o{re:ReS}{S:WS}(h:S.ok)(hk:B6l re S.c)(x:Int):A9i S (A3h re S x).2∧(A3h re S x).1.pc=re.pc∧B6l (A3h re S x).1 S.c:=by
 obtain⟨k1,k2,k3,k4,k5⟩:=hk
 have hnow:In (S.now:Int):=In.lit (by have:=h.now;omega)
 unfold A3h
 split
 ·exact⟨.A2n h,rfl,⟨k1,k2,k3,k4,k5⟩⟩
 split
 ·exact⟨.A2n h,rfl,⟨k1,k2,k3,k4,k5⟩⟩
 split
 ·exact⟨.A2n h,rfl,⟨k1,k2,k3,k4,k5⟩⟩
 split
 ·exact⟨C6w h _ _ _ _,rfl,⟨k1,k2,E4c k3,k4,hnow⟩⟩
 ·exact⟨.A2n h,rfl,⟨k1,k2,k3,k4,k5⟩⟩
theorem G9h{re:ReS}{S:WS}(h:S.ok)(hk:B6l re S.c):A9i S (A6a re S).2∧(A6a re S).1.pc=re.pc∧B6l (A6a re S).1 S.c:=by
 have hk':=hk
 obtain⟨k1,k2,k3,k4,k5⟩:=hk
 unfold A6a
 split
 ·exact⟨.A2n h,rfl,⟨k1,WS.word_lt h _,B2w _,k4,k5⟩⟩
 split
 ·exact⟨.A2n h,rfl,⟨k1,k2,k3,C8o _,k5⟩⟩
 split
 ·exact G2o h hk' _
 ·refine⟨?_,rfl,hk'⟩
  dsimp only
  split
  ·exact E4y h _ _ _ _
  ·exact .A2n h
theorem H5y{P:A0h}{n j:Nat}{y:ReS}(h:A2q P n)(hy:y ∈ P.re):D2q P (B0t P j y) n:=by
 have s1:=h.re y hy
 obtain⟨kw,e1,r1⟩:=G9h h.S s1
 have hal:=A4q P.S.c h.S.c
 obtain⟨o1,o2,o3⟩:=others h kw
 have h1:=h.log
 have h2:=kw.log
 refine⟨⟨kw.ok,o1,o2,fun z hz=>?_,by show(A6a y P.S).2.log.length≤_;omega,bB h.outs,bB h.lines,h.D1j⟩,kw,rfl,rfl,rfl,rfl,by simp[B0t],rfl⟩
 rcases aL hz with hz|hz
 ·exact o3 z hz
 ·subst hz
  show B6l (B6f (A6a y P.S).1 P.S.c) (A6a y P.S).2.c
  rw[kw.c]
  obtain⟨k1,k2,k3,k4,k5⟩:=r1
  have hz1:(0:Int)≤0∧(0:Int)<4*A0o P.S.c:=by omega
  unfold B6f
  split
  ·exact⟨hz1,k2,k3,k4,k5⟩
  ·exact⟨by dsimp only;omega,k2,k3,k4,k5⟩
theorem C3r{P:A0h}{n:Nat}(h:A2q P n)(hn:n≤100000000)(ag:Int):D2q P (A2w P ag).2 n:=by
 unfold A2w
 split
 ·exact .A2n h
 split
 ·split
  ·rename_i x hx
   exact G8m h hn (h.A0c x (mem_of hx))
  ·exact .A2n h
 split
 ·split
  ·rename_i y hy
   exact G8x h (mem_of hy)
  ·exact .A2n h
 ·split
  ·rename_i y hy
   exact H5y h (mem_of hy)
  ·exact .A2n h
section
variable{G:Nat→Option D}{L:List D}{lab:Nat→Nat}{pl w m k:Nat}{za swa rea:List Nat}{P:A0h}{n:Nat}(E:Enc G L lab pl w m k za swa rea P)(hP:A2q P n)(hn:n≤100000000)
include E hP hn
theorem G4q{j b:Nat}{y:SwS × Option A0a}(hy:P.sw[j]?=some y)(hb:swa[j]?=some b):∃L' lab',FX 62 [.int (b:Nat),.int (w:Nat),.agg L]=some [.agg L']∧Enc G L' lab' pl w m k za swa rea (A6z P j y):=by
 obtain⟨q,ptr,h1,h2,⟨l1,l2⟩,h5⟩:=E.sw j y b hy hb
 obtain⟨s1,s2⟩:=hP.sw y (mem_of hy)
 obtain⟨z1,z2,z3,z4⟩:=E.l0
 have hbl:=A2p h1
 obtain⟨L',q',n1,W',b',qq,F,hq⟩:=H0t E.W h1 hP.S s1 (by have:=hP.log;omega) h2 s2
 have hpl:pl≠b∧pl≠q:=⟨fun e=>by rw[e]at z1;omega,fun e=>by rw[e]at z1;omega⟩
 have hpw:=E.W.far E.A4i (by rw[A0e.len];decide) (by rw[A0e.len];decide) (by rw[A0e.len];decide)
 have hp':L'.getD pl D.nil=.agg ((A6z P j y).raw (.int (w:Nat)) (A0p za) (A0p swa) (A0p rea)).ds:=F.get E.A4i (by unfold D2y;simp only[hpl.1,hpl.2,hpw.1,hpw.2.1,QC,not_false_iff])
 refine⟨L',_,n1,E.swp F W' hp' (i:=j) (x':=((A9x y.1 y.2 P.S).1,some (A9x y.1 y.2 P.S).2.1)) (fun x hx ho=>?_) hb ⟨q',.int (q':Nat),b',(show PP L' q' (.int (q':Nat)) (some (A9x y.1 y.2 P.S).2.1)from⟨rfl,qq⟩),⟨by rw[A2t F hbl];exact l1,?_⟩,A2p qq⟩ rfl rfl rfl⟩
 ·unfold D2y at ho
  rcases ho with ho|ho|ho|ho
  ·subst ho;exact .inl l1
  ·subst ho;exact .inl l2
  ·subst ho;exact .inr z2
  ·subst ho;exact .inr z3
 ·rcases hq with hq|hq
  ·rw[hq,A2t F h5];exact l2
  ·unfold A4d;rw[Q0 (by omega)]
theorem G8a{j b:Nat}{y:ReS}(hy:P.re[j]?=some y)(hb:rea[j]?=some b):∃L' lab',FX 63 [.int (b:Nat),.int (w:Nat),.agg L]=some [.agg L']∧Enc G L' lab' pl w m k za swa rea (B0t P j y):=by
 obtain⟨h1,l1⟩:=E.re j y b hy hb
 have s1:=hP.re y (mem_of hy)
 obtain⟨z1,z2,z3,z4⟩:=E.l0
 have hbl:=A2p h1
 obtain⟨L',n1,H',F⟩:=H4d ⟨E.W,h1⟩ hP.S s1 (by have:=hP.log;omega)
 have hpl:pl≠b:=fun e=>by rw[e]at z1;omega
 have hpw:=E.W.far E.A4i (by rw[A0e.len];decide) (by rw[A0e.len];decide) (by rw[A0e.len];decide)
 have hp':L'.getD pl D.nil=.agg ((B0t P j y).raw (.int (w:Nat)) (A0p za) (A0p swa) (A0p rea)).ds:=F.get E.A4i (by simp only[hpl,hpw.1,hpw.2.1,QC,not_false_iff])
 refine⟨L',_,n1,E.rep F H'.W hp' (i:=j) (fun x hx ho=>?_) hb ⟨H'.b,by rw[A2t F hbl];exact l1⟩ rfl rfl rfl⟩
 rcases ho with ho|ho|ho
 ·subst ho;exact .inl l1
 ·subst ho;exact .inr z2
 ·subst ho;exact .inr z3
theorem G8t(he:0≤P.events∧P.events<P.A0u.length)(hsr:P.sw.length=P.re.length)(hlen:P.A0c.length≤1000∧P.sw.length≤1000)(ag:Int)(hag:In ag):
  ∃L' lab',FX 45 [.int (pl:Nat),.int ag,.agg L]=some [.bool (A2w P ag).1,.agg L']∧Enc G L' lab' pl w m k za swa rea (A2w P ag).2:=by
 have e1:(A0p za).length=P.A0c.length:=by rw[←E.zl];simp[A0p]
 have e2:(A0p swa).length=P.sw.length:=by rw[←E.swl];simp[A0p]
 have e3:(A0p rea).length=P.re.length:=by rw[←E.rel];simp[A0p]
 have g0:(P.raw (.int (w:Nat)) (A0p za) (A0p swa) (A0p rea)).w=.int (w:Nat):=rfl
 have g1:(P.raw (.int (w:Nat)) (A0p za) (A0p swa) (A0p rea)).A0c=A0p za:=rfl
 have g2:(P.raw (.int (w:Nat)) (A0p za) (A0p swa) (A0p rea)).C4w=A0p swa:=rfl
 have g3:(P.raw (.int (w:Nat)) (A0p za) (A0p swa) (A0p rea)).D0j=A0p rea:=rfl
 have hJ:FX 45 [.int (pl:Nat),.int ag,.agg L]=A8r (.int (pl:Nat)) (.int ag) (.agg L) [.agg L,.bool (decide (ag<0∨ag-P.A0c.length≥2*P.sw.length))]:=by
  rw[D5x]
  simp only[HH,E.A4i,A0e.A1i,A0e.A1p,g1,g2,e1,e2]
  by_cases a0:ag<0
  ·simp only[a0,Q6,Q5,true_or]
  ·have h1:In (ag-(P.A0c.length:Int)):=by unfold In at *;omega
   simp only[a0,Q7,a5,Q4,false_or]
   rw[h1.w,A0v (2*(P.sw.length:Int)) (by omega) (by omega)]
 rw[hJ,C5l]
 simp only[HH,E.A4i,A0e.A1f,A0e.A1i,A0e.A1p,A0e.A1w,g0,g1,g2,g3,e1,e2,e3]
 by_cases c0:ag<0∨ag-P.A0c.length≥2*P.sw.length
 ·have e:A2w P ag=(false,P):=Q3 c0
  rw[e]
  simp only[c0,Q6,Q5]
  exact⟨L,lab,rfl,E⟩
 have h1:In (ag-(P.A0c.length:Int)):=by unfold In at *;omega
 have h2:In (ag-(P.A0c.length:Int)-(P.sw.length:Int)):=by unfold In at *;omega
 rw[h1.w,h2.w]
 simp only[c0,Q7,a5,Q4]
 by_cases c1:ag-P.A0c.length<0
 ·have hlt:ag.toNat<P.A0c.length:=by omega
  obtain⟨x,hx⟩:∃x,P.A0c[ag.toNat]?=some x:=⟨_,aG hlt⟩
  obtain⟨z,hz⟩:∃z,za[ag.toNat]?=some z:=⟨_,aG (by rw[E.zl];exact hlt)⟩
  have e:A2w P ag=A3u P ag.toNat x:=by unfold A2w;rw[Q0 c0,Q3 c1,hx]
  rw[e]
  obtain⟨L',lab',n1,E'⟩:=F4a E hP hn hx hz he
  have j1:ag≥0:=by omega
  have j2:ag<(P.A0c.length:Int):=by omega
  simp only[c1,Q6,Q5,j1,j2,C8s hz,n1,HH]
  exact⟨L',lab',rfl,E'⟩
 simp only[c1,Q7,a5,Q4]
 by_cases c2:ag-P.A0c.length<P.sw.length
 ·have hlt:(ag-P.A0c.length).toNat<P.sw.length:=by omega
  obtain⟨y,hy⟩:∃y,P.sw[(ag-P.A0c.length).toNat]?=some y:=⟨_,aG hlt⟩
  obtain⟨b,hb⟩:∃b,swa[(ag-P.A0c.length).toNat]?=some b:=⟨_,aG (by rw[E.swl];exact hlt)⟩
  have e:A2w P ag=(true,A6z P (ag-P.A0c.length).toNat y):=by unfold A2w;rw[Q0 c0,Q0 c1,Q3 c2,hy]
  rw[e]
  obtain⟨L',lab',n1,E'⟩:=G4q E hP hn hy hb
  have j1:ag-P.A0c.length≥0:=by omega
  simp only[c2,Q6,Q5,j1,C8s hb,n1,HH]
  exact⟨L',lab',rfl,E'⟩
 ·have hlt:(ag-P.A0c.length-P.sw.length).toNat<P.re.length:=by omega
  obtain⟨y,hy⟩:∃y,P.re[(ag-P.A0c.length-P.sw.length).toNat]?=some y:=⟨_,aG hlt⟩
  obtain⟨b,hb⟩:∃b,rea[(ag-P.A0c.length-P.sw.length).toNat]?=some b:=⟨_,aG (by rw[E.rel];exact hlt)⟩
  have e:A2w P ag=(true,B0t P (ag-P.A0c.length-P.sw.length).toNat y):=by unfold A2w;rw[Q0 c0,Q0 c1,Q0 c2,hy]
  rw[e]
  obtain⟨L',lab',n1,E'⟩:=G8a E hP hn hy hb
  have j1:ag-P.A0c.length-P.sw.length≥0:=by omega
  have j2:ag-P.A0c.length-P.sw.length<(P.re.length:Int):=by omega
  simp only[c2,Q7,a5,Q4,Q6,Q5,j1,j2,C8s hb,n1,HH]
  exact⟨L',lab',rfl,E'⟩
end
end
section
def WS.tick(S:WS)(n:Int):WS:={S with now:=(B7l S.now n).toNat}
theorem G5u{now n:Int}(h:0≤now∧now≤1000000):0≤B7l now n∧B7l now n≤1000000:=by
 unfold B7l
 split
 ·exact h
 ·split<;>omega
theorem F6i{x:Int}(h0:0≤x)(h1:x≤9223372036854775807):IntKind.u64.wrap x=x:=u64_in h0 (by omega)
theorem add_eq(now n:Int)(h:0≤now∧now≤1000000)(hn:0<n∧n≤9223372036854775807):FX 60 [.int 1000000,.agg [.int now,.int n]]=some [.int (B7l now n)]:=by
 have a1:¬now>1000000:=by omega
 have a2:¬(0:Int)>1000000-now:=by omega
 have e0:((0:Int)<2)=True:=by simp
 rw[F7t,B6s]
 simp only[D.toInt_int,D.A0j,aB,aD,bR,aE]
 have i1:(0:Int)<((0+1+1:Nat):Int):=by decide
 have i2:(0:Int)≥0:=by decide
 simp only[i1,i2,a1,Q6,Q7,Q5,a5,Q4]
 rw[F6i (x:=1000000-now) (by omega) (by omega),F6i (x:=0+now) (by omega) (by omega),A0v (0+1) (by decide) (by decide)]
 simp only[a2,Q7,a5,Q4]
 rw[B6s]
 simp only[D.toInt_int,D.A0j,aB,aD]
 have i3:(0+1:Int)<((0+1+1:Nat):Int):=by decide
 have i4:(0+1:Int)≥0:=by decide
 have i5:[D.int now,D.int n].getD (0+1:Int).toNat D.nil=.int n:=rfl
 simp only[i3,i4,i5,Q6,Q5,D.toInt_int]
 have eA:B7l now n=if n>1000000∨now>1000000-n then 1000000 else now+n:=Q0 (by omega)
 rw[eA]
 by_cases c1:n>1000000
 ·simp only[c1,Q6,Q5,true_or]
 rw[F6i (x:=1000000-n) (by omega) (by omega)]
 by_cases c2:now>1000000-n
 ·have c2':0+now>1000000-n:=by omega
  simp only[c1,c2,c2',Q6,Q7,a5,Q4,Q5,or_true]
 have c2':¬0+now>1000000-n:=by omega
 simp only[c1,c2,c2',Q7,a5,Q4,QC]
 rw[F6i (x:=0+now+n) (by omega) (by omega),A0v (0+1+1) (by decide) (by decide),B6s]
 simp only[D.toInt_int,D.A0j,aB,aD]
 have i6:¬(1+1:Int)<((0+1+1:Nat):Int):=by decide
 have i7:¬(1000000:Int)<now+n:=by omega
 simp only[Int.zero_add]
 simp only[i6,i7,Q7,a5,Q4]
section
variable{L:List D}{w m k:Nat}{S:WS}(W:InW L w m k S)(h:S.ok)
include W h
theorem InW.setK(v:Nat):InW (L.set k (.agg (A8m.ds ⟨v⟩))) w m k {S with now:=v}:=by
 obtain⟨M,hM,e⟩:=W.m
 exact⟨by rw[A3i (bU W.nwk)];exact W.w,⟨M,by rw[A3i (bU W.nmk)];exact hM,e⟩,A3r (A2p W.k) _⟩
theorem go_eq(n:Int)(hn:In n):∃L',FX 44 [.int (k:Nat),.agg [.int n],.agg L]=some [wN (S.tick n).now,.agg L']∧InW L' w m k (S.tick n)∧Fr L L' (·=k):=by
 have hb:=G5u (now:=S.now) (n:=n) (by have:=h.now;omega)
 have hnow:=h.now
 have i1:(0:Int)<((0+1:Nat):Int):=by decide
 have i2:(0:Int)≥0:=by decide
 have i3:¬(0+1:Int)<((0+1:Nat):Int):=by decide
 rw[D8h]
 simp only[A6v,a5,Q4]
 rw[B0i]
 simp only[D.toInt_int,D.A0j,aB,aD,bR,aE,i1,i2,Q6,Q5,bL,W.k,A6v,a6,A8m.A1f]
 rw[A0v (0+1) (by decide) (by decide)]
 by_cases c0:n>0
 ·unfold In at hn
  rw[F6i (x:=n) (by omega) (by omega)]
  have ha:=add_eq S.now n (by omega) ⟨by omega,hn.2⟩
  have hs:(A8m.mk S.now).ds.set 0 (.int (B7l S.now n))=(A8m.mk (B7l S.now n).toNat).ds:=by
   have e:(((B7l S.now n).toNat:Nat):Int)=B7l S.now n:=Int.toNat_of_nonneg hb.1
   unfold A8m.ds wN
   dsimp only[List.set]
   rw[e]
  have W1:=InW.setK W h (B7l S.now n).toNat
  unfold wN at ha⊢
  simp only[c0,Q6,Q5,ha,A0n,aB,aD,aE,A8m.rng,hs]
  rw[B0i]
  simp only[D.toInt_int,D.A0j,aB,aD,i3,Q7,a5,Q4,bL,W1.k,A6v,a6,Q5,A8m.A1f,D1y]
  rw[A0v _ (by omega) (by omega)]
  exact⟨_,rfl,W1,Fr.set L k _ rfl⟩
 ·have e:B7l S.now n=S.now:=Q3 (by omega)
  have et:S.tick n=S:=by unfold WS.tick;rw[e];rfl
  simp only[c0,Q7,a5,Q4]
  rw[B0i,et]
  simp only[D.toInt_int,D.A0j,aB,aD,i3,Q7,a5,Q4,bL,W.k,A6v,a6,Q5,A8m.A1f,D1y]
  rw[A0v _ (by omega) (by omega)]
  exact⟨L,rfl,W,Fr.refl _ _⟩
end
structure PEv where
 kind:Int
 who:Int
 n:Int
 ask:Ask
def PEv.ds(e:PEv):List D:=[.int e.kind,.int e.who,.int e.n]++e.ask.ds
def PEv.d(e:PEv):D:=.agg e.ds
def PEv.wf(e:PEv):Prop:=In e.who∧In e.n∧e.ask.tm.wf
def A0h.got(P:A0h):A0h:={P with A0u:=P.A0u++[-1]}
def A0h.on(P:A0h):A0h:={P with events:=P.events+1}
def D0w(P:A0h)(i:Nat)(x:A0w)(a:Ask):A0h:={P with A0c:=P.A0c.set i {x with queue:=x.queue++[⟨a,P.events⟩]},lines:=P.lines++[P.events]}
def F1o(P:A0h)(i:Nat)(x:A0w)(n:Int):A0h:={P with A0c:=P.A0c.set i {x with tape:=x.tape++[⟨C3e n (A0o P.S.c),P.events⟩]}}
def D7j(P:A0h)(n:Int):A0h:={P with S:=P.S.tick n}
def doP(P:A0h)(e:PEv):Bool × A0h:=
 if e.kind=2 then(decide (((P.S.tick e.n).now:Int)>(P.S.now:Int)),(D7j P.got e.n).on)
 else if e.kind=3 then((A2w P.got e.who).1,(A2w P.got e.who).2.on)
 else if 0≤e.who∧e.who<P.A0c.length then
  (if e.kind=1 then(match P.A0c[e.who.toNat]? with
   |some x=>(true,(D0w P.got e.who.toNat x e.ask).on)
   |none=>(false,P.got.on))
  else if e.kind=4 then(match P.A0c[e.who.toNat]? with
   |some x=>(true,(F1o P.got e.who.toNat x e.n).on)
   |none=>(false,P.got.on))
  else(false,P.got.on))
 else(false,P.got.on)
theorem Enc.base{G:Nat→Option D}{L L':List D}{lab:Nat→Nat}{pl w m k:Nat}{za swa rea:List Nat}{P P':A0h}{T:Nat→Prop}(E:Enc G L lab pl w m k za swa rea P)(F:Fr L L' T)
  (W':InW L' w m k P'.S) (hp:L'.getD pl D.nil=.agg (P'.raw (.int (w:Nat)) (A0p za) (A0p swa) (A0p rea)).ds) (hT:∀b,b<L.length→T b→lab b=0)
  (h1:P'.A0c=P.A0c) (h2:P'.sw=P.sw) (h3:P'.re=P.re):Enc G L' (A4d lab 0 L) pl w m k za swa rea P':=by
 have hno:∀n,n≠0→∀b,b<L.length→lab b=n→¬T b:=fun n n2 b hb hl ht=>by
  have:=hT b hb ht;omega
 refine⟨W',hp,D9z E F W' hp _,by rw[h1];exact E.zl,by rw[h2];exact E.swl,by rw[h3];exact E.rel,fun j y zj hy hzj=>?_,fun j y zj hy hzj=>?_,fun j y zj hy hzj=>?_,E.E8a F 0 (fun b hb ht=>by have:=hT b hb ht;omega)⟩
 ·rw[h1]at hy;exact(E.ss j y zj hy hzj).fr F (hno _ (by omega))
 ·rw[h2]at hy;exact(E.sw j y zj hy hzj).fr F (hno _ (by omega))
 ·rw[h3]at hy;exact(E.re j y zj hy hzj).fr F (hno _ (by omega))
theorem Enc.G1p{G:Nat→Option D}{L:List D}{lab:Nat→Nat}{pl w m k:Nat}{za swa rea:List Nat}{P:A0h}(E:Enc G L lab pl w m k za swa rea P)(P':A0h)(hS:P'.S=P.S)(h1:P'.A0c=P.A0c)(h2:P'.sw=P.sw)(h3:P'.re=P.re):
  Enc G (L.set pl (.agg (P'.raw (.int (w:Nat)) (A0p za) (A0p swa) (A0p rea)).ds)) (A4d lab 0 L) pl w m k za swa rea P':=by
 obtain⟨f1,f2,f3⟩:=E.W.far E.A4i (by rw[A0e.len];decide) (by rw[A0e.len];decide) (by rw[A0e.len];decide)
 have F:Fr L (L.set pl (.agg (P'.raw (.int (w:Nat)) (A0p za) (A0p swa) (A0p rea)).ds)) (·=pl):=Fr.set L pl _ rfl
 refine E.base F ?_ (A3r (A2p E.A4i) _) (fun b _ hb=>by subst hb;exact E.l0.1) h1 h2 h3
 rw[hS]
 exact E.W.fr F (bU f1) (bU f2) (bU f3)
theorem C6k(l:List Int)(x:Int):l.map D.int++[.int x]=(l++[x]).map D.int:=by simp
end
section
structure A2i(P:A0h)(n:Nat):Prop where
 ok:A2q P n
 ev:P.events=n
 us:P.A0u.length=n
 sr:P.sw.length=P.re.length
 sl:P.A0c.length≤1000
 wl:P.sw.length≤1000
theorem B5t.put{L:List D}{lab:Nat→Nat}{n n' pl z:Nat}{x:A0w}(h:B5t L lab n pl z x){po:A0e}(hpl:L.getD pl D.nil=.agg po.ds)(x':A0w)(hse:x'.se=x.se)(hnow:x'.now=x.now):
  ∃(s:Nat) (now:D),L.getD z D.nil=.agg (x.raw (.int (s:Nat)) now).ds∧∀(po':A0e),B5t ((L.set z (.agg (x'.raw (.int (s:Nat)) now).ds)).set pl (.agg po'.ds)) (A4d lab n' L) n pl z x':=by
 obtain⟨s,a,q,now,h1,h2,h3,⟨l1,l2,l3,l4⟩,h4,h5⟩:=h
 refine⟨s,now,h1,fun po'=>?_⟩
 have hz:=A2p h1
 have hs:=A2p h2
 have zs:z≠s:=A3m h1 h2 (by rw[A0l.len,A0k.len];decide)
 have ps:pl≠s:=A3m hpl h2 (by rw[A0l.len,A0e.len];decide)
 have pz:pl≠z:=A3m hpl h1 (by rw[A0k.len,A0e.len];decide)
 have F:Fr L ((L.set z (.agg (x'.raw (.int (s:Nat)) now).ds)).set pl (.agg po'.ds)) (fun b=>b=z∨b=pl):=(Fr.set L z _ (.inl rfl)).trans (Fr.set _ pl _ (.inr rfl))
 refine⟨s,a,q,now,?_,?_,?_,⟨by rw[A2t F hz];exact l1,by rw[A2t F hs];exact l2,by rw[A2t F h4];exact l3,by rw[A2t F h5];exact l4⟩,bC h4 F.1,bC h5 F.1⟩
 ·rw[A3i pz];exact A3r hz _
 ·rw[A3i ps,A3i zs,hse];exact h2
 ·rw[hnow]
  cases hn:x.now with
  |none=>rw[hn]at h3;exact h3
  |some y=>
   obtain⟨pr,o⟩:=y
   rw[hn]at h3
   obtain⟨g1,ptr,g2,g3⟩:=h3
   have za:a≠z:=A3m g2 h1 (by rw[PrS.len,A0k.len];decide)
   have pa:a≠pl:=A3m g2 hpl (by rw[PrS.len,A0e.len];decide)
   refine⟨g1,ptr,F.get g2 (by simp only[za,pa,QC,not_false_iff]),g3.ext fun P' hP'=>?_⟩
   subst hP'
   have qz:q≠z:=A3m g3.2 h1 (by rw[A0a.len,A0k.len];decide)
   have qp:q≠pl:=A3m g3.2 hpl (by rw[A0a.len,A0e.len];decide)
   exact F.2 q h5 (by simp only[qz,qp,QC,not_false_iff])
theorem H1j{S:WS}(h:S.ok)(n:Int):(S.tick n).ok:=by
 have:=G5u (now:=S.now) (n:=n) (by have:=h.now;omega)
 exact⟨h.c,h.w,by show(B7l S.now n).toNat≤_;omega,h.len⟩
theorem B1i{P:A0h}{n:Nat}(h:A2q P n):A2q P.got n:=
 ⟨h.S,fun x hx=>(h.A0c x hx).mono rfl (by simp[A0h.got]) (bD _),h.sw,h.re,h.log,h.outs,h.lines,h.D1j⟩
theorem A2q.on{P:A0h}{n:Nat}(h:A2q P n):A2q P.on n:=⟨h.S,h.A0c,h.sw,h.re,h.log,h.outs,h.lines,h.D1j⟩
theorem C2k{P:A0h}{n:Nat}(h:A2i P n)(hn:n<100000000)(e:PEv)(hw:e.wf):A2i (doP P e).2 (n+1):=by
 obtain⟨ok,ev,us,sr,sl,wl⟩:=h
 have gu:P.got.A0u.length=n+1:=by simp[A0h.got,us]
 have gok:=B1i ok
 have fin0:A2i P.got.on (n+1):=⟨(gok.mono (bF n)).on,by show P.events+1=_;rw[ev];rfl,gu,sr,sl,wl⟩
 have hall:=A4q P.S.c ok.S.c
 have ses:∀(i:Nat) (x x':A0w) (P':A0h),P.A0c[i]?=some x→P'.S=P.S→P'.A0c=P.A0c.set i x'→P'.sw=P.sw→P'.re=P.re→P'.A0u=P.got.A0u→P'.outs=P.outs→P'.lines.length≤n+1→P'.events=P.events→
   B2r x' P.S (n+1) (n+1)→A2i P'.on (n+1):=by
  intro i x x' P' hx e1 e2 e3 e4 e5 e6 e7 e8 hx'
  refine⟨⟨by show P'.S.ok;rw[e1];exact ok.S,fun y hy=>?_,by show ∀x ∈ P'.sw,E0y x.1 P'.S.c∧_;rw[e1,e3];exact ok.sw,by show ∀x ∈ P'.re,B6l x P'.S.c;rw[e1,e4];exact ok.re,by show P'.S.log.length≤_;rw[e1];exact bB ok.log,by show P'.outs.length≤_;rw[e6];exact bB ok.outs,e7,by show ∀o ∈ P'.outs,_;rw[e6];exact ok.D1j⟩,by show P'.events+1=_;rw[e8,ev];rfl,by show P'.A0u.length=_;rw[e5];exact gu,by show P'.sw.length=P'.re.length;rw[e3,e4];exact sr,by show P'.A0c.length≤_;rw[e2];simpa using sl,by show P'.sw.length≤_;rw[e3];exact wl⟩
  show B2r y P'.S P'.A0u.length (n+1)
  rw[e1,e5,gu]
  have hy':y ∈ P.A0c.set i x':=by rw[←e2];exact hy
  rcases aL hy' with hy'|hy'
  ·exact(ok.A0c y hy').mono rfl (by omega) (bF n)
  ·subst hy';exact hx'
 unfold doP
 split
 ·refine⟨⟨H1j ok.S e.n,fun x hx=>?_,ok.sw,ok.re,bB ok.log,bB ok.outs,bB ok.lines,ok.D1j⟩,by show P.events+1=_;rw[ev];rfl,gu,sr,sl,wl⟩
  show B2r x _ P.got.A0u.length (n+1)
  rw[gu]
  exact(ok.A0c x hx).mono rfl (by omega) (bF n)
 split
 ·have kq:=C3r gok (by omega) e.who
  exact⟨kq.ok.on,by show(A2w P.got e.who).2.events+1=_;rw[kq.events];show P.events+1=_;rw[ev];rfl,by show(A2w P.got e.who).2.A0u.length=_;rw[kq.A0u];exact gu,by show(A2w P.got e.who).2.sw.length=(A2w P.got e.who).2.re.length;rw[kq.swl,kq.rel];exact sr,by show(A2w P.got e.who).2.A0c.length≤_;rw[kq.sl];exact sl,by show(A2w P.got e.who).2.sw.length≤_;rw[kq.swl];exact wl⟩
 split
 ·split
  ·split
   ·rename_i x hx
    have hs:=ok.A0c x (mem_of hx)
    refine ses _ x _ (D0w P.got e.who.toNat x e.ask) hx rfl rfl rfl rfl rfl rfl (by simp[D0w,A0h.got];exact ok.lines) rfl ⟨hs.C4v,hs.taken,fun d hd=>by have:=hs.tape d hd;omega,bB hs.C7x,fun q hq=>?_,by have:=hs.D6w;simp;exact this,hs.prog⟩
    rcases aP.1 hq with hq|hq
    ·exact hs.queue q hq
    ·rw[aN]at hq;subst hq;exact hw.2.2
   ·exact fin0
  ·split
   ·split
    ·rename_i x hx
     have hs:=ok.A0c x (mem_of hx)
     refine ses _ x _ (F1o P.got e.who.toNat x e.n) hx rfl rfl rfl rfl rfl rfl (bB ok.lines) rfl ⟨hs.C4v,⟨hs.taken.1,by have:=hs.taken.2;simp;omega⟩,fun d hd=>?_,by have:=hs.C7x;simp;exact this,hs.queue,bB hs.D6w,hs.prog⟩
     rcases aP.1 hd with hd|hd
     ·have:=hs.tape d hd;omega
     ·rw[aN]at hd;subst hd
      show 0≤P.events∧P.events<_
      omega
    ·exact fin0
   ·exact fin0
 ·exact fin0
section
variable{G:Nat→Option D}{L:List D}{lab:Nat→Nat}{pl w m k:Nat}{za swa rea:List Nat}{P:A0h}{n:Nat}(E:Enc G L lab pl w m k za swa rea P)(hP:A2i P n)(hn:n<100000000)
include E hP hn
theorem D0v(e:PEv)(hw:e.wf):∃L' lab',FX 29 [.int (pl:Nat),.int e.kind,.int e.who,.int e.n,.int e.ask.kind,.int e.ask.id,.int e.ask.cell,.int e.ask.tm.name,.int e.ask.tm.side,.int e.ask.tm.A0m,.int e.ask.tm.least,.int e.ask.tm.A1n,.int e.ask.qty,.agg L]=some [.bool (doP P e).1,.agg L']∧Enc G L' lab' pl w m k za swa rea (doP P e).2:=by
 obtain⟨ok,ev,us,sr,sl,wl⟩:=hP
 have hall:=A4q P.S.c ok.S.c
 have E0:=E.G1p P.got rfl rfl rfl rfl
 have gok:=B1i ok
 have gev:0≤P.got.events∧P.got.events<P.got.A0u.length:=by
  show 0≤P.events∧P.events<(P.got.A0u.length:Int)
  simp[A0h.got];omega
 obtain⟨po,hpo⟩:∃po,po=P.raw (.int (w:Nat)) (A0p za) (A0p swa) (A0p rea):=⟨_,rfl⟩
 have E_pool:=E.A4i
 rw[←hpo]at E_pool
 have g0:po.w=.int (w:Nat):=by rw[hpo];rfl
 have g1:po.A0c=A0p za:=by rw[hpo];rfl
 have g4:po.events=P.events:=by rw[hpo];rfl
 have g6:po.A0u=P.A0u:=by rw[hpo];rfl
 have gF:({po with A0u:=po.A0u++[-1]}:A0e)=P.got.raw (.int (w:Nat)) (A0p za) (A0p swa) (A0p rea):=by rw[hpo];rfl
 have el:(A0p za).length=P.A0c.length:=by rw[←E.zl];simp[A0p]
 have hu1:(((po.A0u++[-1]).map D.int).length:Int)≤17592186044416:=by rw[g6];simp;omega
 have hwr:bV.wrap (po.events+1)=po.events+1:=by rw[g4];exact A0v _ (by omega) (by omega)
 have fin0:∃L' lab',some [D.bool false,D.agg (L.set pl (.agg (A0e.ds {P.got.raw (.int (w:Nat)) (A0p za) (A0p swa) (A0p rea)with events:=po.events+1})))]=some [.bool false,.agg L']∧Enc G L' lab' pl w m k za swa rea P.got.on:=by
  rw[g4]
  exact⟨_,_,rfl,E.G1p P.got.on rfl rfl rfl rfl⟩
 have dn:¬e.kind=2→¬e.kind=3→(¬(0≤e.who∧e.who<P.A0c.length)∨(¬e.kind=1∧¬e.kind=4))→doP P e=(false,P.got.on):=by
  intro h2 h3 h
  unfold doP
  rw[Q0 h2,Q0 h3]
  rcases h with h|h
  ·rw[Q0 h]
  ·split
   ·rw[Q0 h.1,Q0 h.2]
   ·rfl
 rw[D9o]
 simp only[HH,E_pool,A0e.A3z,C6k,hu1,Q6]
 rw[C8e]
 simp only[HH,E_pool,A0e.A1f,A0e.A1i,A0e.A1u,A0e.A3z,C6k,A0e.rng,A0e.B7u,gF,A0e.B0e,hwr]
 simp only[g0,g1,el]
 by_cases k2:e.kind=2
 ·have j1:(e.kind == 1)=false:=Q8.2 (by omega)
  have j2:(e.kind == 2)=true:=QB.2 k2
  have hd:doP P e=(decide (((P.S.tick e.n).now:Int)>(P.S.now:Int)),(D7j P.got e.n).on):=Q3 k2
  rw[hd]
  obtain⟨L1,n1,W1,F1⟩:=go_eq E0.W ok.S e.n hw.2.1
  have n0:=B8b E0.W ok.S
  obtain⟨f1,f2,f3⟩:=E0.W.far E0.A4i (by rw[A0e.len];decide) (by rw[A0e.len];decide) (by rw[A0e.len];decide)
  have E1:Enc G L1 _ pl w m k za swa rea (D7j P.got e.n):=E0.base F1 W1 (F1.get E0.A4i f3) (fun b _ hb=>by subst hb;exact E0.l0.2.2.2) rfl rfl rfl
  have E2:=E1.G1p (D7j P.got e.n).on rfl rfl rfl rfl
  have hsnow:P.got.S.now=P.S.now:=rfl
  have hb:(decide ((wN (P.got.S.tick e.n).now).toInt>(wN P.got.S.now).toInt))=decide (((P.S.tick e.n).now:Int)>(P.S.now:Int)):=rfl
  have hw1:bV.wrap (((D7j P.got e.n).raw (.int (w:Nat)) (A0p za) (A0p swa) (A0p rea)).events+1)=(D7j P.got e.n).events+1:=by
   show bV.wrap (P.events+1)=P.events+1
   exact A0v _ (by omega) (by omega)
  by_cases cw:e.who≥0
  ·simp only[cw,Q6,Q5,j1,j2,a5,Q4,E0.W.w,D.A0j,A0d.A6y,n0,A0n,aB,aD,n1,aE,aH,C9q,HH,E1.A4i,A0e.A1u,A0e.rng,A0e.B0e,hw1,hsnow]
   exact⟨_,_,rfl,E2⟩
  ·simp only[cw,Q7,j1,j2,a5,Q4,Q5,E0.W.w,D.A0j,A0d.A6y,n0,A0n,aB,aD,n1,aE,aH,C8x,HH,E1.A4i,A0e.A1u,A0e.rng,A0e.B0e,hw1,hsnow]
   exact⟨_,_,rfl,E2⟩
 have j2:(e.kind == 2)=false:=Q8.2 k2
 by_cases k3:e.kind=3
 ·have j1:(e.kind == 1)=false:=Q8.2 (by omega)
  have j3:(e.kind == 3)=true:=QB.2 k3
  have hd:doP P e=((A2w P.got e.who).1,(A2w P.got e.who).2.on):=by unfold doP;rw[Q0 k2,Q3 k3]
  rw[hd]
  obtain⟨L1,lab1,n1,E1⟩:=G8t E0 gok (by omega) gev sr ⟨sl,wl⟩ e.who hw.1
  have kq:=C3r gok (by omega) e.who
  have hev:(A2w P.got e.who).2.events=P.events:=kq.events
  have E2:=E1.G1p (A2w P.got e.who).2.on rfl rfl rfl rfl
  have hw1:bV.wrap (((A2w P.got e.who).2.raw (.int (w:Nat)) (A0p za) (A0p swa) (A0p rea)).events+1)=(A2w P.got e.who).2.events+1:=by
   show bV.wrap ((A2w P.got e.who).2.events+1)=_
   rw[hev]
   exact A0v _ (by omega) (by omega)
  by_cases cw:e.who≥0
  ·simp only[cw,Q6,Q5,j1,j2,j3,a5,Q4,n1,A0n,aB,aD,aE,aH,HH,E1.A4i,A0e.A1u,A0e.rng,A0e.B0e,hw1]
   exact⟨_,_,rfl,E2⟩
  ·simp only[cw,Q7,Q5,j1,j2,j3,a5,Q4,n1,A0n,aB,aD,aE,aH,HH,E1.A4i,A0e.A1u,A0e.rng,A0e.B0e,hw1]
   exact⟨_,_,rfl,E2⟩
 have j3:(e.kind == 3)=false:=Q8.2 k3
 by_cases cw:e.who≥0
 ·simp only[cw,Q6,Q5,j2,j3,a5,Q4]
  by_cases ci:e.who<P.A0c.length
  ·have hin:0≤e.who∧e.who<P.A0c.length:=⟨cw,ci⟩
   have hlt:e.who.toNat<P.A0c.length:=by omega
   obtain⟨x,hx⟩:∃x,P.A0c[e.who.toNat]?=some x:=⟨_,aG hlt⟩
   obtain⟨z,hz⟩:∃z,za[e.who.toNat]?=some z:=⟨_,aG (by rw[E.zl];exact hlt)⟩
   have hsx:=ok.A0c x (mem_of hx)
   have zg:=C8s hz
   have zgp:po.A0c.getD e.who.toNat D.nil=.int (z:Nat):=by rw[g1];exact zg
   have si:=E0.ss e.who.toNat x z hx hz
   obtain⟨z1,z2,z3,z4⟩:=E0.l0
   obtain⟨f1,f2,f3⟩:=E0.W.far E0.A4i (by rw[A0e.len];decide) (by rw[A0e.len];decide) (by rw[A0e.len];decide)
   have hlz:A4d lab 0 L z=4*e.who.toNat+1:=by obtain⟨_,_,_,_,_,_,_,hl,_⟩:=si;exact hl.1
   have fin:∀(x':A0w) (P':A0h),x'.se=x.se→x'.now=x.now→P'.S=P.S→P'.A0c=P.A0c.set e.who.toNat x'→P'.sw=P.sw→P'.re=P.re→
     ∃(s:Nat) (now:D),(L.set pl (.agg (P.got.raw (.int (w:Nat)) (A0p za) (A0p swa) (A0p rea)).ds)).getD z D.nil=.agg (x.raw (.int (s:Nat)) now).ds∧
     (((L.set pl (.agg (P.got.raw (.int (w:Nat)) (A0p za) (A0p swa) (A0p rea)).ds)).set z (.agg (x'.raw (.int (s:Nat)) now).ds)).getD pl D.nil=.agg (P.got.raw (.int (w:Nat)) (A0p za) (A0p swa) (A0p rea)).ds)∧
     ∃lab',Enc G (((L.set pl (.agg (P.got.raw (.int (w:Nat)) (A0p za) (A0p swa) (A0p rea)).ds)).set z (.agg (x'.raw (.int (s:Nat)) now).ds)).set pl (.agg (P'.raw (.int (w:Nat)) (A0p za) (A0p swa) (A0p rea)).ds)) lab' pl w m k za swa rea P':=by
    intro x' P' hse hnow hS h1 h2 h3
    obtain⟨s,now,q1,q2⟩:=si.put (n':=4*e.who.toNat+1) E0.A4i x' hse hnow
    have pz:pl≠z:=A3m E0.A4i q1 (by rw[A0k.len,A0e.len];decide)
    obtain⟨d1,d2,d3⟩:=E0.W.far q1 (by rw[A0k.len];decide) (by rw[A0k.len];decide) (by rw[A0k.len];decide)
    refine⟨s,now,q1,by rw[A3i (bU pz)];exact E0.A4i,?_⟩
    have F:Fr (L.set pl (.agg (P.got.raw (.int (w:Nat)) (A0p za) (A0p swa) (A0p rea)).ds)) (((L.set pl (.agg (P.got.raw (.int (w:Nat)) (A0p za) (A0p swa) (A0p rea)).ds)).set z (.agg (x'.raw (.int (s:Nat)) now).ds)).set pl (.agg (P'.raw (.int (w:Nat)) (A0p za) (A0p swa) (A0p rea)).ds)) (fun b=>b=z∨b=pl):=(Fr.set _ z _ (.inl rfl)).trans (Fr.set _ pl _ (.inr rfl))
    refine⟨_,E0.A0c F ?_ (A3r (by simp;exact A2p E.A4i) _) (fun b _ hb=>?_) hz (q2 _) h1 h2 h3⟩
    ·rw[hS]
     exact E0.W.fr F (by simp only[bU d1,bU f1,QC,not_false_iff]) (by simp only[bU d2,bU f2,QC,not_false_iff]) (by simp only[bU d3,bU f3,QC,not_false_iff])
    ·rcases hb with hb|hb
     ·subst hb;exact .inl hlz
     ·subst hb;exact .inr z1
   by_cases k1:e.kind=1
   ·have j1:(e.kind == 1)=true:=QB.2 k1
    have hd:doP P e=(true,(D0w P.got e.who.toNat x e.ask).on):=by unfold doP;rw[Q0 k2,Q0 k3,Q3 hin,Q3 k1,hx]
    rw[hd]
    obtain⟨s,now,q1,q2,lab',E1⟩:=fin {x with queue:=x.queue++[⟨e.ask,P.events⟩]} (D0w P.got e.who.toNat x e.ask).on rfl rfl rfl rfl rfl rfl
    have y1:(x.raw (.int (s:Nat)) now).queue=x.queue:=rfl
    have y2:(x.raw (.int (s:Nat)) now).queue.map Qe.d++[D.agg [.int e.ask.kind,.int e.ask.id,.int e.ask.cell,.int e.ask.tm.name,.int e.ask.tm.side,.int e.ask.tm.A0m,.int e.ask.tm.least,.int e.ask.tm.A1n,.int e.ask.qty,.int po.events]]=(x.queue++[(⟨e.ask,P.events⟩:Qe)]).map Qe.d:=by rw[aW,g4];rfl
    have y3:(((x.queue++[(⟨e.ask,P.events⟩:Qe)]).map Qe.d).length:Int)≤1759218604441:=by have:=hsx.D6w;simp;omega
    have y4:({x.raw (.int (s:Nat)) now with queue:=x.queue++[⟨e.ask,P.events⟩]}:A0k)=({x with queue:=x.queue++[⟨e.ask,P.events⟩]}:A0w).raw (.int (s:Nat)) now:=rfl
    have y5:(((P.got.raw (.int (w:Nat)) (A0p za) (A0p swa) (A0p rea)).lines++[(P.got.raw (.int (w:Nat)) (A0p za) (A0p swa) (A0p rea)).events]).map D.int).length≤1000000000:=by
     have:=ok.lines
     show((P.lines++[P.events]).map D.int).length≤_
     simp;omega
    have y6:((((P.got.raw (.int (w:Nat)) (A0p za) (A0p swa) (A0p rea)).lines++[(P.got.raw (.int (w:Nat)) (A0p za) (A0p swa) (A0p rea)).events]).map D.int).length:Int)≤17592186044416:=by omega
    have hwg:bV.wrap ((P.got.raw (.int (w:Nat)) (A0p za) (A0p swa) (A0p rea)).events+1)=P.events+1:=A0v _ (by show _≤P.events+1;omega) (by show P.events+1≤_;omega)
    have hn1:((1:Int) == 1)=true:=rfl
    simp only[j1,Q5,cw,ci,Q6,a8,a5,Q4,zg,A6v,a6,D.toInt_int,bL,q1,D.A0j,A0k.A1i,y2,y3,A0k.rng,A0k.B3v,y4,q2,A0e.A1u,A0e.A8l,C6k,y6]
    rw[C9p]
    simp only[HH,E_pool,A0e.A1i,A0e.A1u,A0e.A3z,A0e.A8l,C6k,A0e.rng,A0e.B7u,gF,zgp,q1,A0k.A1i,y2,A0k.rng,A0k.B3v,y4,q2,A0e.D1k,hwg,A0e.B0e]
    exact⟨_,_,rfl,E1⟩
   have j1:(e.kind == 1)=false:=Q8.2 k1
   by_cases k4:e.kind=4
   ·have j4:(e.kind == 4)=true:=QB.2 k4
    have hd:doP P e=(true,(F1o P.got e.who.toNat x e.n).on):=by unfold doP;rw[Q0 k2,Q0 k3,Q3 hin,Q0 k1,Q3 k4,hx]
    rw[hd]
    obtain⟨s,now,q1,q2,lab',E1⟩:=fin {x with tape:=x.tape++[⟨C3e e.n (A0o P.S.c),P.events⟩]} (F1o P.got e.who.toNat x e.n).on rfl rfl rfl rfl rfl rfl
    have nA:=F0x ok.S
    have nP:=H3x e.n (A0o P.S.c) hw.2.1 (by omega)
    have y2:(x.raw (.int (s:Nat)) now).tape.map Dr.d++[D.agg [.int (C3e e.n (A0o P.S.c)),.int po.events]]=(x.tape++[(⟨C3e e.n (A0o P.S.c),P.events⟩:Dr)]).map Dr.d:=by rw[aW,g4];rfl
    have y3:(((x.tape++[(⟨C3e e.n (A0o P.S.c),P.events⟩:Dr)]).map Dr.d).length:Int)≤8796093022208:=by have:=hsx.C7x;simp;omega
    have y4:({x.raw (.int (s:Nat)) now with tape:=x.tape++[⟨C3e e.n (A0o P.S.c),P.events⟩]}:A0k)=({x with tape:=x.tape++[⟨C3e e.n (A0o P.S.c),P.events⟩]}:A0w).raw (.int (s:Nat)) now:=rfl
    have hwg:bV.wrap ((P.got.raw (.int (w:Nat)) (A0p za) (A0p swa) (A0p rea)).events+1)=P.events+1:=A0v _ (by show _≤P.events+1;omega) (by show P.events+1≤_;omega)
    have gc:P.got.S.c=P.S.c:=rfl
    simp only[j1,j4,Q5,cw,ci,Q6,a8,a5,Q4,zg,A6v,a6,D.toInt_int,bL,E0.W.w,D.A0j,A0d.all,gc,nA,A0n,aB,aD,aE,nP,q1,A0k.A1u,y2,y3,A0k.rng,A0k.B0e,y4,q2,A0e.A1u,A0e.rng,hwg,A0e.B0e]
    exact⟨_,_,rfl,E1⟩
   ·have j4:(e.kind == 4)=false:=Q8.2 k4
    rw[dn k2 k3 (.inr ⟨k1,k4⟩)]
    simp only[j1,j4,A6v,a6,Q5,a5,Q4]
    exact fin0
  ·rw[dn k2 k3 (.inl (by omega))]
   simp only[ci,Q7,a6,Q5,A6v,D1r]
   exact fin0
 ·rw[dn k2 k3 (.inl (by omega))]
  simp only[cw,Q7,a5,Q4,j2,j3,A6v,a6,Q5,D1r]
  exact fin0
end
end
section
def B8o(P:A0h)(es:List PEv):A0h:=es.foldl (fun P e=>(doP P e).2) P
theorem F9n{es:List PEv}{j:Nat}(h:j<es.length):(es.map PEv.d).getD j D.nil=.agg (es[j]).ds:=by
 rw[aK,aU,aG h];rfl
theorem PEv.gets(e:PEv):e.ds.getD 0 D.nil=.int e.kind∧e.ds.getD 1 D.nil=.int e.who∧e.ds.getD 2 D.nil=.int e.n∧e.ds.getD 3 D.nil=.int e.ask.kind∧e.ds.getD 4 D.nil=.int e.ask.id∧e.ds.getD 5 D.nil=.int e.ask.cell∧e.ds.getD 6 D.nil=.int e.ask.tm.name∧e.ds.getD 7 D.nil=.int e.ask.tm.side∧e.ds.getD 8 D.nil=.int e.ask.tm.A0m∧e.ds.getD 9 D.nil=.int e.ask.tm.least∧e.ds.getD 10 D.nil=.int e.ask.tm.A1n∧e.ds.getD 11 D.nil=.int e.ask.qty:=
 ⟨rfl,rfl,rfl,rfl,rfl,rfl,rfl,rfl,rfl,rfl,rfl,rfl⟩
theorem F2s{G:Nat→Option D}{pl w m k:Nat}{za swa rea:List Nat}(es:List PEv)(hes:es.length≤100000)(hw:∀e ∈ es,e.wf)(x2:D):∀(d j n:Nat) (L:List D) (lab:Nat→Nat) (P:A0h),j+d=es.length→Enc G L lab pl w m k za swa rea P→A2i P n→n+d≤1000000→
  ∃L' lab',A9k (.int (pl:Nat)) (.agg (es.map PEv.d)) x2 [.int (j:Nat),.agg L]=some [.agg L']∧Enc G L' lab' pl w m k za swa rea (B8o P (es.drop j))∧A2i (B8o P (es.drop j)) (n+d)
 |0,j,n,L,lab,P,h,E,hP,hn=>by
  have h1:¬(j:Int)<((es.map PEv.d).length:Int):=by simp;omega
  rw[B5r,List.drop_eq_nil_of_le (by omega)]
  simp only[D.toInt_int,D.A0j,h1,Q7,a5,Q4]
  exact⟨L,lab,rfl,E,hP⟩
 |d+1,j,n,L,lab,P,h,E,hP,hn=>by
  have hj:j<es.length:=by omega
  have h1:(j:Int)<((es.map PEv.d).length:Int):=by simp;omega
  have h2:(j:Int)≥0:=by omega
  have hwj:=hw es[j] (b7 hj)
  obtain⟨L1,lab1,n1,E1⟩:=D0v E hP (by omega) es[j] hwj
  have P1:=C2k hP (by omega) es[j] hwj
  obtain⟨L2,lab2,n2,E2,P2⟩:=F2s es hes hw x2 d (j+1) (n+1) L1 lab1 _ (by omega) E1 P1 (by omega)
  obtain⟨g0,g1,g2,g3,g4,g5,g6,g7,g8,g9,g10,g11⟩:=PEv.gets es[j]
  have e1:n+1+d=n+(d+1):=by omega
  rw[B5r,List.drop_eq_getElem_cons hj]
  simp only[D.toInt_int,D.A0j,h1,h2,Q6,Q5,bL,F9n hj,g0,g1,g2,g3,g4,g5,g6,g7,g8,g9,g10,g11,n1,A0n,aB,aD,aE,aH]
  rw[A0v _ (by omega) (by omega)]
  rw[e1]at P2
  exact⟨L2,lab2,n2,E2,P2⟩
theorem run_eq{G:Nat→Option D}{L:List D}{lab:Nat→Nat}{pl w m k:Nat}{za swa rea:List Nat}{P:A0h}{n:Nat}(E:Enc G L lab pl w m k za swa rea P)(hP:A2i P n)(es:List PEv)(hw:∀e ∈ es,e.wf)(hn:n+es.length≤100000):
  ∃L' lab',FX 33 [.int (pl:Nat),.agg (es.map PEv.d),.agg L]=some [.agg L']∧Enc G L' lab' pl w m k za swa rea (B8o P es)∧A2i (B8o P es) (n+es.length):=by
 rw[D8d]
 exact F2s es (by omega) hw _ es.length 0 n L lab P (by omega) E hP (by omega)
def A7r(i:Int)(j:Nat):A0l:=⟨i,0,aF j 0,aF j 0,aF j ⟨1,0⟩⟩
def A3s(c:Cf)(i:Int):A0w:=⟨A7r i c.c1.toNat,[],none,-1,[],0⟩
def A9f(c:Cf):Int:=A0o c*2+A0o c*c.c6*(c.c5+1)
def B0l(c:Cf):WS:=⟨c,aF (A9f c).toNat 0,0,[]⟩
def B3k(i:Int):SwS × Option A0a:=(⟨i,0,0,.nil⟩,none)
def C2w(i:Int):ReS:=⟨i,0,0,0,.zero,.zero,false,0⟩
def A1x(c:Cf):A0h:=⟨B0l c,(aI c.c0.toNat).map fun(i:Nat)=>A3s c i,(aI (A2a c).toNat).map fun(i:Nat)=>B3k i,(aI (A2a c).toNat).map fun(i:Nat)=>C2w i,0,[],[],[]⟩
theorem H1s(L:List D)(x y:D):(L++[x]).set L.length y=L++[y]:=by simp
section
variable(c:Cf)(hc:c.ok)
include hc
theorem E3q(i:Int)(L:List D):∀(d j:Nat),(j+d:Int)=c.c1→
  B8w (.int c.c0) (.int c.c1) (.int c.c2) (.int c.c3) (.int c.c4) (.int c.c5) (.int c.c6) (.int i) (.agg L) [.int (j:Nat),.agg (L++[.agg (A7r i j).ds])]=some [.int (L.length:Nat),.agg (L++[.agg (A7r i c.c1.toNat).ds])]
 |0,j,h=>by
  have h1:¬(j:Int)<c.c1:=by omega
  have h2:c.c1.toNat=j:=by omega
  rw[C5z,h2]
  simp only[D.toInt_int,D.A0j,h1,Q7,a5,Q4]
 |d+1,j,h=>by
  have hc1:=hc.2.1
  have h1:(j:Int)<c.c1:=by omega
  have ih:=E3q i L d (j+1) (by omega)
  have e1:(aF j (0:Int)).map D.int++[D.int 0]=(aF (j+1) (0:Int)).map D.int:=by simp[aZ]
  have e2:(aF j (⟨1,0⟩:Cur)).map Cur.d++[D.agg [.int 1,.int 0]]=(aF (j+1) (⟨1,0⟩:Cur)).map Cur.d:=by simp[aZ,Cur.d,Cur.ds]
  have l1:(((aF (j+1) (0:Int)).map D.int).length:Int)≤17592186044416:=by simp;omega
  have l2:(((aF (j+1) (⟨1,0⟩:Cur)).map Cur.d).length:Int)≤8796093022208:=by simp;omega
  have g2:(A7r i j).ids=aF j 0:=rfl
  have g3:(A7r i j).A4h=aF j 0:=rfl
  have g4:(A7r i j).A8f=aF j ⟨1,0⟩:=rfl
  rw[C5z]
  simp only[D.toInt_int,D.A0j,h1,Q6,Q5,bL,A5o,A0l.A1p,A0l.A1w,A0l.A1u,g2,g3,g4,e1,l1,E7z,A0n,aB,aD,aE,aH,e2,l2,E4j]
  rw[A0v _ (by omega) (by omega)]
  have hs:(((aI 5).map fun j'=>(((aI 5).map fun j'=>(((aI 5).map fun j'=>(A7r i j).ds.getD j' D.nil).set 2 (.agg ((aF (j+1) (0:Int)).map D.int))).getD j' D.nil).set 3 (.agg ((aF (j+1) (0:Int)).map D.int))).getD j' D.nil).set 4 (.agg ((aF (j+1) (⟨1,0⟩:Cur)).map Cur.d)))=(A7r i (j+1)).ds:=rfl
  rw[hs,H1s]
  exact ih
theorem H1m(i:Int)(L:List D):FX 50 [.int c.c0,.int c.c1,.int c.c2,.int c.c3,.int c.c4,.int c.c5,.int c.c6,.int i,.agg L]=some [.int (L.length:Nat),.agg (L++[.agg (A7r i c.c1.toNat).ds])]:=by
 have hc1:=hc.2.1
 rw[G2r]
 exact E3q c hc i L c.c1.toNat 0 (by omega)
theorem E6b:0≤A9f c∧A9f c≤8192∧0≤A0o c*c.c6∧A0o c*c.c6≤360∧0≤A0o c*c.c6*(c.c5+1)∧A0o c*c.c6*(c.c5+1)≤1800:=by
 have hal:=A4q c hc
 have hf:=A9p hc
 have hg:=C3z hc
 have b1:0≤A0o c*c.c6:=bM (by omega) (by omega)
 have b2:A0o c*c.c6≤24*15:=bN (by omega) (by omega) (by omega) (by omega)
 have b3:0≤A0o c*c.c6*(c.c5+1):=bM b1 (by omega)
 have b4:A0o c*c.c6*(c.c5+1)≤360*5:=bN b2 (by omega) (by omega) (by omega)
 unfold A9f
 omega
theorem H0k:FX 69 [.int c.c0,.int c.c1,.int c.c2,.int c.c3,.int c.c4,.int c.c5,.int c.c6]=some [.int (A9f c)]:=by
 have hal:=A4q c hc
 have hf:=A9p hc
 obtain⟨w1,w2,w3,w4,w5,w6⟩:=E6b c hc
 have ha:FX 23 [.int c.c0,.int c.c1,.int c.c2,.int c.c3,.int c.c4,.int c.c5,.int c.c6]=some [.int (A0o c)]:=all_eq c hc
 rw[D3p]
 simp only[ha,A0n,aB,aD,aE,D.toInt_int]
 rw[A0v (A0o c*2) (by omega) (by omega),A0v (A0o c*c.c6) (by omega) (by omega),A0v (c.c5+1) (by omega) (by omega),A0v (A0o c*c.c6*(c.c5+1)) (by omega) (by omega),A0v _ (by unfold A9f at w1;omega) (by unfold A9f at w2;omega)]
 rfl
theorem E6i:FX 48 [.int c.c0,.int c.c1,.int c.c2,.int c.c3,.int c.c4,.int c.c5,.int c.c6]=some [.int c.c0,.int c.c1,.int c.c2,.int c.c3,.int c.c4,.int c.c5,.int c.c6,.nil]:=by
 have h:=RU.D6y c
 rw[(RU.C1o c).2 hc]at h
 exact h
theorem H5l(L:List D):∃L',FX 49 [.int c.c0,.int c.c1,.int c.c2,.int c.c3,.int c.c4,.int c.c5,.int c.c6,.agg L]=some [.int (L.length+2:Nat),.nil,.agg L']∧L'.length=L.length+3∧InW L' (L.length+2) L.length (L.length+1) (B0l c)∧Fr L L' (fun _=>False):=by
 obtain⟨w1,w2,_⟩:=E6b c hc
 have h1:=E6i c hc
 have h2:=H0k c hc
 have c1:¬A9f c<0:=by omega
 have c2:¬A9f c>8192:=by omega
 have c3:A9f c≥0:=w1
 have c4:A9f c≤17592186044416:=by omega
 obtain⟨M,hM⟩:∃M:A1g,M=⟨aF (A9f c).toNat 0,.int 0,.int 0,.int 0,.int 0,.int 0,.bool false⟩:=⟨_,rfl⟩
 have hmd:D.agg [D.agg (aF (A9f c).toNat (D.int 0)),.int 0,.int 0,.int 0,.int 0,.int 0,.bool false]=D.agg M.ds:=by
  rw[hM]
  unfold A1g.ds
  rw[List.map_replicate];rfl
 refine⟨((L++[.agg M.ds])++[.agg [.int 0]])++[.agg (A0d.ds ⟨c,.int (L.length:Nat),.int (L.length+1:Nat),[]⟩)],?_,by simp,?_,((Fr.snoc L _ _).trans (Fr.snoc _ _ _)).trans (Fr.snoc _ _ _)⟩
 ·rw[G0u,h1]
  simp only[A0n,aB,aD,aE,aH,B5l,a8,a5,Q4,h2,G5p,D.toInt_int,D.A0j,c1,c2,c3,c4,Q7,Q6,Q5,hmd,aR]
  rfl
 ·have hcl:∀{x y:D} {a:Nat},a<L.length+2→((L++[x])++[y]++[D.agg (A0d.ds ⟨c,.int (L.length:Nat),.int (L.length+1:Nat),[]⟩)]).getD a D.nil=((L++[x])++[y]).getD a D.nil:=fun h=>C8z (by simp;omega) _
  refine⟨?_,⟨M,?_,by rw[hM];rfl⟩,?_⟩
  ·have:=A5o ((L++[D.agg M.ds])++[D.agg [.int 0]]) (.agg (A0d.ds ⟨c,.int (L.length:Nat),.int (L.length+1:Nat),[]⟩))
   have e:((L++[D.agg M.ds])++[D.agg [.int 0]]).length=L.length+2:=by simp
   rw[e]at this
   exact this
  ·rw[hcl (a:=L.length) (by omega),C8z (by simp)]
   exact A5o L _
  ·rw[hcl (a:=L.length+1) (by omega)]
   have:=A5o (L++[D.agg M.ds]) (D.agg [.int 0])
   have e:(L++[D.agg M.ds]).length=L.length+1:=by simp
   rw[e]at this
   exact this
end
end
theorem F9i:∀{ws:List Nat} {vs:List Int} {k:Nat},vs.length=ws.length→Go.Proofs.YtckanieeocdpbaaGreat.A1l ws vs k=none→Fits ws (vs.map bS)∧∀v ∈ vs,0≤v
 |[],[],_,_,_=>⟨trivial,fun v hv=>by cases hv⟩
 |w::ws,v::vs,k,hl,h=>by
  unfold Go.Proofs.YtckanieeocdpbaaGreat.A1l at h
  split at h
  ·cases h
  ·rename_i hc
   obtain⟨h1,h2⟩:=F9i (by simpa using hl) h
   have h4:0<2 ^ w:=bI w
   have h3:0≤v∧v≤((2 ^ w-1:Nat):Int):=by omega
   refine⟨⟨?_,h1⟩,fun u hu=>?_⟩
   ·omega
   ·rcases List.mem_cons.1 hu with rfl|hu
    ·exact h3.1
    ·exact h2 u hu
theorem F9v:∀{ws:List Nat} {vs:List Int} {k:Nat},(∀i (h:i<vs.length),0≤vs[i]∧vs[i]<((2 ^ ws.getD i 0:Nat):Int))→Go.Proofs.YtckanieeocdpbaaGreat.A1l ws vs k=none
 |[],_,_,_=>by unfold Go.Proofs.YtckanieeocdpbaaGreat.A1l;rfl
 |w::ws,[],_,_=>rfl
 |w::ws,v::vs,k,h=>by
  unfold Go.Proofs.YtckanieeocdpbaaGreat.A1l
  have h0:=h 0 (by simp)
  have h4:0<2 ^ w:=bI w
  simp only[List.getElem_cons_zero,aE]at h0
  rw[Q0 (by omega)]
  exact F9v fun i hi=>by have:=h (i+1) (by simpa using hi);simpa using this
theorem E2o{ws:List Nat}{vs:List Int}{x:Nat}(h:B6d ws vs=some x)(hl:vs.length=ws.length)(i:Nat)(hi:i<vs.length):A5i ws x (i:Int)=vs[i]:=by
 unfold B6d A7i at h
 rw[Q0 (by omega)]at h
 cases hb:Go.Proofs.YtckanieeocdpbaaGreat.A1l ws vs 0 with
 |some k=>rw[hb]at h;simp at h
 |none=>
  rw[hb]at h
  simp only[Q5,Option.some.injEq,bL]at h
  obtain⟨h1,h2⟩:=F9i hl hb
  subst h
  unfold A5i
  rw[Q0 (by omega),bL,D8s _ _ _ (by omega)]
  simp only[D8v h1,List.getElem_map]
  have:=h2 _ (b7 hi)
  omega
theorem A7m{s:St}{x:Nat}(h:stW s=some x):A0i x=s:=by
 unfold stW at h
 split at h
 ·cases h
 ·have k:=E2o h rfl
  obtain⟨a,f,g,l,n⟩:=s
  have e:(St.vs ⟨a,f,g,l,n⟩).length=5:=rfl
  have h0:A5i cws x 0=a:=k 0 (by rw[e];decide)
  have h1:A5i cws x 1=fl f:=k 1 (by rw[e];decide)
  have h2:A5i cws x 2=g:=k 2 (by rw[e];decide)
  have h3:A5i cws x 3=l:=k 3 (by rw[e];decide)
  have h4:A5i cws x 4=n:=k 4 (by rw[e];decide)
  unfold A0i
  rw[h0,h1,h2,h3,h4]
  cases f<;>rfl
theorem H7j{t:Tm}{x:Nat}(h:tmW t=some x):B5p x=t:=by
 have k:=E2o h rfl
 obtain⟨a,f,g,l,n⟩:=t
 have e:(Tm.vs ⟨a,f,g,l,n⟩).length=5:=rfl
 have h0:A5i tws x 0=a:=k 0 (by rw[e];decide)
 have h1:A5i tws x 1=f:=k 1 (by rw[e];decide)
 have h2:A5i tws x 2=g:=k 2 (by rw[e];decide)
 have h3:A5i tws x 3=l:=k 3 (by rw[e];decide)
 have h4:A5i tws x 4=n:=k 4 (by rw[e];decide)
 unfold B5p
 rw[h0,h1,h2,h3,h4]
theorem C2x{ws:List Nat}{vs:List Int}(hl:vs.length=ws.length)(h:∀i (h:i<vs.length),0≤vs[i]∧vs[i]<((2 ^ ws.getD i 0:Nat):Int)):∃x,B6d ws vs=some x:=by
 unfold B6d A7i
 rw[Q0 (by omega),F9v h]
 exact⟨_,rfl⟩
theorem E5p{g q:Int}(hg:0≤g∧g<256)(hq:0≤q∧q<65536):∃x,stW ⟨1,false,g,q,0⟩=some x:=by
 unfold stW
 rw[Q0 (show ¬(1:Int)>8 by decide)]
 refine C2x rfl fun i hi=>?_
 match i,hi with
 |0,_=>exact⟨show(0:Int)≤1 by decide,show(1:Int)<16 by decide⟩
 |1,_=>exact⟨show(0:Int)≤0 by decide,show(0:Int)<2 by decide⟩
 |2,_=>exact⟨hg.1,hg.2⟩
 |3,_=>exact⟨hq.1,hq.2⟩
 |4,_=>exact⟨show(0:Int)≤0 by decide,show(0:Int)<256 by decide⟩
theorem H2o{t:Tm}(h:(0≤t.name∧t.name<16)∧(0≤t.side∧t.side<2)∧(0≤t.A0m∧t.A0m<65536)∧(0≤t.least∧t.least<65536)∧0≤t.A1n∧t.A1n<16777216):∃x,tmW t=some x:=by
 obtain⟨h0,h1,h2,h3,h4⟩:=h
 refine C2x rfl fun i hi=>?_
 match i,hi with
 |0,_=>exact⟨h0.1,h0.2⟩
 |1,_=>exact⟨h1.1,h1.2⟩
 |2,_=>exact⟨h2.1,h2.2⟩
 |3,_=>exact⟨h3.1,h3.2⟩
 |4,_=>exact⟨h4.1,h4.2⟩
structure LG where
 tm:Int→Int→Tm
 lf:Int→Int→Int
 ov:Int→Int→Bool
def LG.zero:LG:=⟨fun _ _=>.zero,fun _ _=>0,fun _ _=>false⟩
def up2{α:Type}(f:Int→Int→α)(x g:Int)(v:α)(a b:Int):α:=if a=x∧b=g then v else f a b
theorem E0u{α:Type}(f:Int→Int→α)(x g:Int)(v:α):up2 f x g v x g=v:=by simp[up2]
theorem D1v{α:Type}(f:Int→Int→α)(x g:Int)(v:α){a:Int}(h:a≠x)(b:Int):up2 f x g v a b=f a b:=by simp[up2,h]
theorem H3r{α:Type}(f:Int→Int→α)(x g:Int)(v:α)(a:Int){b:Int}(h:b≠g):up2 f x g v a b=f a b:=by simp[up2,h]
def D4f(f:Int→Int→Int)(x g q:Int):Int→Int→Int:=up2 f x g (f x g-q)
def D7u(G:LG)(e:Ev):LG:=
 if e.kind=1 then {G with tm:=up2 G.tm e.cell e.gen e.tm,lf:=up2 G.lf e.cell e.gen e.qty}
 else if e.kind=2 then {G with lf:=D4f (D4f G.lf e.cell e.gen e.qty) e.other e.wth e.qty}
 else if e.kind=5∨e.kind=3∨e.kind=7 then {G with ov:=up2 G.ov e.cell e.gen true}
 else G
def G3v(a b:Tm)(e:Ev):Prop:=a.side=0∧b.side=1∧a.name=b.name∧e.A0m≤a.A0m∧b.A0m≤e.A0m∧e.A0m=(a.A0m+b.A0m)/2
structure H6r(c:Cf)(G:LG)(e:Ev):Prop where
 ov1:G.ov e.cell e.gen=false
 ov2:G.ov e.other e.wth=false
 own:e.cell/c.c1≠e.other/c.c1
 pos:(0≤e.cell∧e.cell<A0o c)∧0≤e.other∧e.other<A0o c
 nn:(0≤(G.tm e.cell e.gen).A0m∧(G.tm e.cell e.gen).A0m<65536)∧0≤(G.tm e.other e.wth).A0m∧(G.tm e.other e.wth).A0m<65536
 fair:G3v (if(G.tm e.cell e.gen).side=1 then G.tm e.other e.wth else G.tm e.cell e.gen) (if(G.tm e.cell e.gen).side=1 then G.tm e.cell e.gen else G.tm e.other e.wth) e
 least:(G.tm e.cell e.gen).least≤e.qty∧(G.tm e.other e.wth).least≤e.qty∧1≤e.qty
 left:e.qty≤G.lf e.cell e.gen∧e.qty≤G.lf e.other e.wth
 lb:G.lf e.cell e.gen<65536∧G.lf e.other e.wth<65536
structure E0s(c:Cf)(G:LG)(e:Ev):Prop where
 fill:e.kind=2→H6r c G e
 exp:e.kind=5→G.ov e.cell e.gen=false∧(G.tm e.cell e.gen).A1n≤e.tick
 fin:e.kind=3∨e.kind=7→G.ov e.cell e.gen=false
def A1c(l:List Ev):LG:=l.foldl D7u LG.zero
theorem B7f(l:List Ev)(e:Ev):A1c (l++[e])=D7u (A1c l) e:=by simp[A1c]
def D0n(c:Cf):LG→List Ev→Prop
 |_,[]=>True
 |G,e::l=>E0s c G e∧D0n c (D7u G e) l
theorem B2a(c:Cf)(e:Ev):∀(l:List Ev) (G:LG),D0n c G l→E0s c (l.foldl D7u G) e→D0n c G (l++[e])
 |[],G,_,h=>⟨h,trivial⟩
 |_::l,G,h,he=>⟨h.1,B2a c e l _ h.2 he⟩
def stx(S:WS)(x:Int):St:=A0i (S.word x)
def tmx(S:WS)(x:Int):Tm:=B5p (S.A8i x)
def InC(c:Cf)(x:Int):Prop:=0≤x∧x<A0o c
structure WI(S:WS):Prop where
 log:D0n S.c LG.zero S.log
 w1:∀x,InC S.c x→(stx S x).live=true→(A1c S.log).ov x (stx S x).g=false
 w0:∀x,InC S.c x→∀g,(stx S x).g<g→(A1c S.log).ov x g=false
 w2:∀x,InC S.c x→(stx S x).live=true→(A1c S.log).tm x (stx S x).g=tmx S x
 w3:∀x,InC S.c x→(stx S x).loose=true→(A1c S.log).lf x (stx S x).g=(stx S x).l
 len:2*A0o S.c≤S.words.length
structure Adv(S S':WS)(own rel:Int→Prop):Prop where
 c:S'.c=S.c
 mono:∀x,InC S.c x→(stx S x).g≤(stx S' x).g
 tms:∀x,InC S.c x→(stx S' x).live=true→(stx S' x).g≤(stx S x).g→(stx S x).live=true∧(stx S' x).g=(stx S x).g∧tmx S' x=tmx S x
 held:∀x,InC S.c x→(stx S x).held=true→¬rel x→(stx S' x).held=true∧(stx S' x).g=(stx S x).g∧(stx S' x).l=(stx S x).l∧(A1c S'.log).lf x (stx S x).g=(A1c S.log).lf x (stx S x).g
 dead:∀x,InC S.c x→(stx S x).live=false→¬own x→stx S' x=stx S x∧tmx S' x=tmx S x
theorem St.A8s{s:St}(h:s.loose=true):s.live=true:=by
 simp only[St.loose,St.live,a9,QB,a7,Q9]at h⊢;omega
theorem St.B4h{s:St}(h:s.held=true):s.live=true:=by
 simp only[St.held,St.live,a9,QB,a7,Q9]at h⊢;omega
theorem St.A5c{s:St}(h:s.loose=true):s.held=false:=by
 simp only[St.loose,St.held,a9,QB,aA,Q8]at h⊢;omega
structure A1s(S S':WS):Prop where
 c:S'.c=S.c
 st:∀x,InC S.c x→stx S' x=stx S x
 tm:∀x,InC S.c x→tmx S' x=tmx S x
 log:S'.log=S.log
 len:S'.words.length=S.words.length
theorem A1s.adv{S S':WS}(h:A1s S S')(own rel:Int→Prop):Adv S S' own rel:=
 ⟨h.c,fun x hx=>by rw[h.st x hx];exact bK _,fun x hx hl _=>by rw[h.st x hx]at hl⊢;exact⟨hl,rfl,h.tm x hx⟩,
  fun x hx hl _=>by rw[h.st x hx,h.log];exact⟨hl,rfl,rfl,rfl⟩,fun x hx _ _=>⟨h.st x hx,h.tm x hx⟩⟩
theorem A1s.wi{S S':WS}(h:A1s S S')(w:WI S):WI S':=by
 refine⟨by rw[h.c,h.log];exact w.log,fun x hx=>?_,fun x hx=>?_,fun x hx=>?_,fun x hx=>?_,by rw[h.c,h.len];exact w.len⟩<;>rw[h.c]at hx
 ·rw[h.st x hx,h.log];exact w.w1 x hx
 ·rw[h.st x hx,h.log];exact w.w0 x hx
 ·rw[h.st x hx,h.log,h.tm x hx];exact w.w2 x hx
 ·rw[h.st x hx,h.log];exact w.w3 x hx
theorem A1s.refl(S:WS):A1s S S:=⟨rfl,fun _ _=>rfl,fun _ _=>rfl,rfl,rfl⟩
structure C2o(S S':WS)(x:Int):Prop where
 c:S'.c=S.c
 st:∀y,InC S.c y→y≠x→stx S' y=stx S y
 tm:∀y,InC S.c y→tmx S' y=tmx S y
 len:S'.words.length=S.words.length
theorem C2o.adv{S S':WS}{x:Int}{own rel:Int→Prop}(h:C2o S S' x)(hx:InC S.c x)(a:(stx S x).g≤(stx S' x).g)
  (b:(stx S' x).live=true→(stx S' x).g≤(stx S x).g→(stx S x).live=true∧(stx S' x).g=(stx S x).g)
  (c:(stx S x).held=true→¬rel x→(stx S' x).held=true∧(stx S' x).g=(stx S x).g∧(stx S' x).l=(stx S x).l)
  (d:(stx S x).live=false→¬own x→stx S' x=stx S x)
  (e:∀y,InC S.c y→(stx S y).held=true→¬rel y→(A1c S'.log).lf y (stx S y).g=(A1c S.log).lf y (stx S y).g):Adv S S' own rel:=by
 refine⟨h.c,fun y hy=>?_,fun y hy h1 h2=>?_,fun y hy h1 h2=>?_,fun y hy h1 h2=>?_⟩<;>by_cases q:y=x
 ·subst q;exact a
 ·rw[h.st y hy q];exact bK _
 ·subst q;obtain⟨k1,k2⟩:=b h1 h2;exact⟨k1,k2,h.tm y hy⟩
 ·rw[h.st y hy q]at h1⊢;exact⟨h1,rfl,h.tm y hy⟩
 ·subst q;obtain⟨k1,k2,k3⟩:=c h1 h2;exact⟨k1,k2,k3,e y hy h1 h2⟩
 ·rw[h.st y hy q];exact⟨h1,rfl,rfl,e y hy h1 h2⟩
 ·subst q;exact⟨d h1 h2,h.tm y hy⟩
 ·exact⟨h.st y hy q,h.tm y hy⟩
theorem C2o.wi{S S':WS}{x:Int}(h:C2o S S' x)(w:WI S)(log:D0n S.c LG.zero S'.log)
  (ov:∀y,y≠x→∀g,(A1c S'.log).ov y g=(A1c S.log).ov y g) (tm:∀y,y≠x→∀g,(A1c S'.log).tm y g=(A1c S.log).tm y g)
  (lf:∀y,y≠x→InC S.c y→(stx S y).loose=true→(A1c S'.log).lf y (stx S y).g=(A1c S.log).lf y (stx S y).g)
  (x1:(stx S' x).live=true→(A1c S'.log).ov x (stx S' x).g=false) (x0:∀g,(stx S' x).g<g→(A1c S'.log).ov x g=false)
  (x2:(stx S' x).live=true→(A1c S'.log).tm x (stx S' x).g=tmx S x) (x3:(stx S' x).loose=true→(A1c S'.log).lf x (stx S' x).g=(stx S' x).l):WI S':=by
 refine⟨by rw[h.c];exact log,fun y hy=>?_,fun y hy=>?_,fun y hy=>?_,fun y hy=>?_,by rw[h.c,h.len];exact w.len⟩<;>rw[h.c]at hy<;>by_cases q:y=x
 ·subst q;exact x1
 ·rw[h.st y hy q,ov y q];exact w.w1 y hy
 ·subst q;exact x0
 ·rw[h.st y hy q];intro g hg;rw[ov y q];exact w.w0 y hy g hg
 ·subst q;intro hl;rw[h.tm y hy];exact x2 hl
 ·rw[h.st y hy q,h.tm y hy,tm y q];exact w.w2 y hy
 ·subst q;exact x3
 ·rw[h.st y hy q];intro hl;rw[lf y q hy hl];exact w.w3 y hy hl
theorem F4w{ws:List Nat}{i:Int}(h0:0≤i)(h1:i<ws.length)(v:Nat):wd (stw ws i v) i=v:=by
 unfold wd stw
 rw[Q0 (by omega),Q0 (by omega),aK,List.getElem?_set_self (by omega)];rfl
theorem A7z{ws:List Nat}{i j:Int}(h:i≠j)(v:Nat):wd (stw ws i v) j=wd ws j:=by
 unfold wd stw
 by_cases hj:j<0
 ·rw[Q3 hj,Q3 hj]
 ·rw[Q0 hj,Q0 hj]
  by_cases hi:i<0
  ·rw[Q3 hi]
  ·rw[Q0 hi,aK,aK,List.getElem?_set_ne (by omega)]
theorem B7e{S:WS}{x:Int}(hx:InC S.c x)(v:Nat)(S':WS)(hc:S'.c=S.c)(hw:S'.words=stw S.words (2*x) v):C2o S S' x:=by
 refine⟨hc,fun y _ hy=>?_,fun y _=>?_,by rw[hw,B3b]⟩
 ·unfold stx WS.word;rw[hw,A7z (by omega)]
 ·unfold tmx WS.A8i;rw[hw,A7z (by omega)]
theorem A9b{S:WS}(w:WI S){x:Int}(hx:InC S.c x){v:Nat}{s:St}(hs:A0i v=s)(S':WS)(hw:S'.words=stw S.words (2*x) v):stx S' x=s:=by
 unfold stx WS.word
 have:=w.len
 obtain⟨h0,h1⟩:=hx
 rw[hw,F4w (by omega) (by omega),hs]
theorem A5m{S:WS}{x:Int}{old:Nat}{s:St}(h:(S.turn x old s).1=true):∃v,stW s=some v∧S.word x=old∧(S.turn x old s).2={S with words:=stw S.words (2*x) v}:=by
 unfold WS.turn at h⊢
 cases hv:stW s with
 |none=>rw[hv]at h;cases h
 |some v=>
  rw[hv]at h
  dsimp only at h⊢
  rw[Q3 h]
  refine⟨v,rfl,?_,rfl⟩
  unfold swB at h
  rw[a7,QB]at h
  exact h.2
theorem D6r{S:WS}{x:Int}{old:Nat}{s:St}(h:(S.turn x old s).1=false):(S.turn x old s).2=S:=by
 unfold WS.turn at h⊢
 cases hv:stW s with
 |none=>rfl
 |some v=>
  rw[hv]at h
  dsimp only at h⊢
  rw[h];rfl
theorem B4a{S:WS}(hc:S.c.ok)(x gen n:Int)(r:Rc):A1s S (S.note x gen n r):=by
 unfold WS.note
 cases rcW r with
 |none=>exact A1s.refl S
 |some v=>
  have hb:A7g S.c x gen n<0∨2*A0o S.c≤A7g S.c x gen n:=by
   unfold A7g
   split
   ·exact .inl (by decide)
   ·rename_i q
    have h1:0≤x*S.c.c6:=bM (by omega) (by have:=hc;unfold RU.Cf.ok at this;omega)
    have h2:0≤(x*S.c.c6+gen-1)*(S.c.c5+1):=bM (by omega) (by have:=hc;unfold RU.Cf.ok at this;omega)
    right;omega
  refine⟨rfl,fun y hy=>?_,fun y hy=>?_,rfl,B3b _ _ _⟩<;>obtain⟨h0,h1⟩:=hy
  ·unfold stx WS.word;dsimp only;rw[A7z (by omega)]
  ·unfold tmx WS.A8i;dsimp only;rw[A7z (by omega)]
theorem A6b{S:WS}(hc:S.c.ok)(x gen n:Int)(o:Option Rc):A1s S (A4r S x gen n o):=by
 cases o with
 |none=>exact A1s.refl S
 |some r=>exact B4a hc x gen n r
def act(c:Cf)(P:A0a):Prop:=B0s c P=false∧P.held=true∧P.free=false
structure D9k(S:WS)(P:A0a):Prop where
 wx:1≤P.pc→(A0i P.wx).g≤(stx S P.a.x).g
 tx:2≤P.pc→(stx S P.a.x).live=true→(stx S P.a.x).g=(A0i P.wx).g→P.tx=tmx S P.a.x
 wy:4≤P.pc→(A0i P.wy).g≤(stx S P.a.y).g
 ty:5≤P.pc→(stx S P.a.y).live=true→(stx S P.a.y).g=(A0i P.wy).g→P.ty=tmx S P.a.y
 free:P.pc≤7→P.free=false
 made:P.pc≤5→P.made=false
 held:P.pc≤2→P.held=false
 act:P.held=true→P.free=false→(stx S P.a.x).held=true∧(stx S P.a.x).g=(A0i P.wx).g∧(stx S P.a.x).l=(A0i P.wx).l∧(A1c S.log).lf P.a.x (stx S P.a.x).g=(stx S P.a.x).l-(if P.made then P.q else 0)
theorem A8w{c:Cf}{P:A0a}(h:B0s c P=false):InC c P.a.x∧InC c P.a.y∧P.a.x/c.c1≠P.a.y/c.c1:=by
 simp only[B0s,aA,decide_eq_false_iff_not,Q8]at h
 obtain⟨⟨h1,h2⟩,h3⟩:=h
 have k:∀z,¬A5f c z<0→InC c z∧A5f c z=z/c.c1:=by
  intro z hz
  unfold A5f at hz⊢
  split at hz
  ·omega
  ·rename_i q
   rw[Q0 q]
   exact⟨⟨by omega,by omega⟩,rfl⟩
 obtain⟨a1,a2⟩:=k _ h1
 obtain⟨b1,b2⟩:=k _ h2
 exact⟨a1,b1,by rw[←a2,←b2];exact h3⟩
theorem D9k.adv{S S':WS}{P:A0a}{own rel:Int→Prop}(h:D9k S P)(A:Adv S S' own rel)(hx:InC S.c P.a.x)(hy:InC S.c P.a.y)
  (hr:P.held=true→P.free=false→¬rel P.a.x):D9k S' P:=by
 refine⟨fun q=>bQ (h.wx q) (A.mono _ hx),fun q hl hg=>?_,fun q=>bQ (h.wy q) (A.mono _ hy),fun q hl hg=>?_,h.free,h.made,h.held,fun h1 h2=>?_⟩
 ·obtain⟨k1,k2,k3⟩:=A.tms _ hx hl (by rw[hg];exact h.wx (by omega))
  rw[k3];exact h.tx q k1 (by rw[←k2];exact hg)
 ·obtain⟨k1,k2,k3⟩:=A.tms _ hy hl (by rw[hg];exact h.wy (by omega))
  rw[k3];exact h.ty q k1 (by rw[←k2];exact hg)
 ·obtain⟨a1,a2,a3,a4⟩:=h.act h1 h2
  obtain⟨k1,k2,k3,k4⟩:=A.held _ hx a1 (hr h1 h2)
  exact⟨k1,k2.trans a2,k3.trans a3,by rw[k2,k4,k3];exact a4⟩
structure B7q(S:WS)(P:A0a)(R:A0a × WS):Prop where
 wi:WI R.2
 adv:Adv S R.2 (fun _=>False) (fun y=>act S.c P∧y=P.a.x)
 i:D9k R.2 R.1
 new:act S.c R.1→act S.c P∨(stx S P.a.x).loose=true
 a:R.1.a=P.a
theorem E3p{a b:Tm}{l o:Int}(h:1≤(A8a a b l o).1)(e:Ev)(hp:e.A0m=(A8a a b l o).2):
  G3v (if a.side=1 then b else a) (if a.side=1 then a else b) e∧a.least≤(A8a a b l o).1∧b.least≤(A8a a b l o).1∧(A8a a b l o).1≤l∧(A8a a b l o).1≤o:=by
 have key:∀p q:Tm,1≤(A9g a b p q l o).1→e.A0m=(A9g a b p q l o).2→(a.name=b.name→p.name=q.name)→
   G3v p q e∧a.least≤(A9g a b p q l o).1∧b.least≤(A9g a b p q l o).1∧(A9g a b p q l o).1≤l∧(A9g a b p q l o).1≤o:=by
  intro p q h1 h2 hn
  unfold A9g at h1 h2⊢
  have hm:(if o<l then o else l)≤l∧(if o<l then o else l)≤o:=by split<;>omega
  have hb:b.least≤(if b.least>a.least then b.least else a.least)∧a.least≤(if b.least>a.least then b.least else a.least):=by split<;>omega
  generalize (if o<l then o else l)=m at*
  generalize (if b.least>a.least then b.least else a.least)=z at*
  by_cases c1:p.side≠0∨q.side≠1∨a.name≠b.name
  ·rw[Q3 c1]at h1;exact absurd h1 (by decide)
  rw[Q0 c1]at h1 h2⊢
  by_cases c2:p.A0m<q.A0m∨m<1∨m<z
  ·rw[Q3 c2]at h1;exact absurd h1 (by decide)
  rw[Q0 c2]at h1 h2⊢
  unfold F6j at h2
  dsimp only at h1 h2⊢
  have n1:a.name=b.name:=by omega
  exact⟨⟨by omega,by omega,hn n1,by omega,by omega,by omega⟩,by omega,by omega,by omega,by omega⟩
 unfold A8a at h hp⊢
 by_cases hs:a.side=1
 ·rw[Q3 hs]at h hp
  rw[Q3 hs,Q3 hs,Q3 hs]
  exact key b a h hp fun e=>e.symm
 ·rw[Q0 hs]at h hp
  rw[Q0 hs,Q0 hs,Q0 hs]
  exact key a b h hp id
theorem D6k{s:St}(h:s.loose=true):s.hold.held=true∧s.hold.loose=false∧s.hold.g=s.g∧s.hold.l=s.l:=by
 simp only[St.loose,a9,QB]at h
 unfold St.hold
 rcases h with h|h
 ·rw[Q3 h];exact⟨rfl,rfl,rfl,rfl⟩
 ·rw[Q0 (by omega),Q3 h];exact⟨rfl,rfl,rfl,rfl⟩
theorem E5j(s:St)(m:Int):s.ended m=s∨((s.ended m).live=false∧(s.ended m).over=true):=by
 unfold St.ended
 split
 ·exact .inr ⟨rfl,rfl⟩
 ·split
  ·exact .inr ⟨rfl,rfl⟩
  ·exact .inl rfl
theorem G5d{s:St}(h:s.over=true):s.live=false:=by
 simp only[St.over,St.live,a7,Q9,Bool.and_eq_false_iff,decide_eq_false_iff_not]at h⊢;omega
theorem B9i{s:St}(h:s.live=false):s.loose=false∧s.held=false:=by
 constructor
 ·cases e:s.loose with
  |false=>rfl
  |true=>rw[St.A8s e]at h;cases h
 ·cases e:s.held with
  |false=>rfl
  |true=>rw[St.B4h e]at h;cases h
theorem D2l{s:St}(h:s.held=true)(m:Int):((A6t s m).loose=true∧(A6t s m).over=false)∨((A6t s m).live=false∧(A6t s m).over=true):=by
 have hl:s.A7l.loose=true∧s.A7l.over=false:=by
  simp only[St.held,a9,QB]at h
  unfold St.A7l
  rcases h with h|h
  ·rw[Q3 h];exact⟨rfl,rfl⟩
  ·rw[Q0 (by omega),Q3 h];exact⟨rfl,rfl⟩
 unfold A6t
 split
 ·exact .inr ⟨rfl,rfl⟩
 ·rcases E5j s.A7l m with e|e
  ·rw[e];exact .inl hl
  ·exact .inr e
theorem C4p{s:St}{q m:Int}(h:(A1z s q m).1=0):s.held=true∧0≤q∧q≤s.l∧(A1z s q m).2.g=s.g∧(A1z s q m).2.l=s.l-q∧
  (((A1z s q m).2.loose=true∧(A1z s q m).2.over=false)∨((A1z s q m).2.live=false∧(A1z s q m).2.over=true)):=by
 unfold A1z at h⊢
 split at h
 ·exact absurd h (by decide)
 rename_i c1
 rw[Q0 c1]
 split at h
 ·exact absurd h (by decide)
 rename_i c2
 rw[Q0 c2]
 have hh:s.held=true:=by simpa using c1
 split at h
 ·rename_i c3
  rw[Q3 c3]
  split at h
  ·exact absurd h (by decide)
  ·rename_i c4
   rw[Q0 c4]
   dsimp only
   have k:=C9m {s with l:=s.l-q,n:=s.n+1} m
   exact⟨hh,by omega,by omega,k.2.1,k.2.2,D2l (s:={s with l:=s.l-q,n:=s.n+1}) hh m⟩
 ·rename_i c3
  rw[Q0 c3]
  dsimp only
  have k:=C9m s m
  exact⟨hh,by omega,by omega,k.2.1,by rw[k.2.2];omega,D2l hh m⟩
theorem C6j{s:St}{q m:Int}(h:(A7c s q m).1=0):s.loose=true∧1≤q∧q≤s.l∧(A7c s q m).2.g=s.g∧(A7c s q m).2.l=s.l-q∧
  ((A7c s q m).2.loose=true∨(A7c s q m).2.live=false):=by
 unfold A7c at h⊢
 split at h
 ·exact absurd h (by decide)
 rename_i c1
 rw[Q0 c1]
 split at h
 ·exact absurd h (by decide)
 rename_i c2
 rw[Q0 c2]
 split at h
 ·exact absurd h (by decide)
 rename_i c3
 rw[Q0 c3]
 dsimp only
 have hh:s.loose=true:=by simpa using c1
 have k:=St.E6o {s with l:=s.l-q,n:=s.n+1} m
 refine⟨hh,by omega,by omega,k.2.1,k.2.2,?_⟩
 rcases E5j {s with l:=s.l-q,n:=s.n+1} m with e|e
 ·rw[e];exact .inl hh
 ·exact .inr e.1
theorem C7j{c:Cf}{P:A0a}{s:St}(h:C9a c P s=true):s.loose=true:=by
 unfold C9a at h
 unfold St.loose
 split at h
 ·rw[a7]at h;rw[h.1];rfl
 ·split at h
  ·rw[a7,a7]at h;rw[h.1.1];simp
  ·cases h
section
theorem D6z{f:Int→Int→Int}{x g q a b:Int}(h:a≠x):D4f f x g q a b=f a b:=D1v _ _ _ _ h _
theorem F9e{f:Int→Int→Int}{x g q:Int}:D4f f x g q x g=f x g-q:=E0u _ _ _ _
def next(P:A0a)(R:A0a × WS):A0a × WS:=({R.1 with pc:=P.pc+1},R.2)
section
variable{S:WS}{P:A0a}(hc:S.c.ok)(w:WI S)(I:D9k S P)(hi:B0s S.c P=false)(h0:0≤P.pc)
include w I hi h0
omit hi in
theorem B9j(h3:P.pc=2∨5≤P.pc)(q p:Int)(hq:q=P.q∨P.pc≤5):B7q S P (next P ({P with q:=q,p:=p},S)):=by
 refine⟨w,(A1s.refl S).adv _ _,⟨fun _=>?_,fun _=>?_,fun k=>?_,fun k=>?_,fun k=>I.free ?_,fun k=>I.made ?_,fun k=>I.held ?_,fun a b=>?_⟩,fun a=>.inl a,rfl⟩
 ·exact I.wx (by omega)
 ·exact I.tx (by omega)
 ·exact I.wy (by dsimp only[next]at k;omega)
 ·exact I.ty (by dsimp only[next]at k;omega)
 ·dsimp only[next]at k;omega
 ·dsimp only[next]at k;omega
 ·dsimp only[next]at k;omega
 ·obtain⟨a1,a2,a3,a4⟩:=I.act a b
  refine⟨a1,a2,a3,?_⟩
  rcases hq with rfl|hq
  ·exact a4
  ·have:P.made=false:=I.made hq
   rw[this]at a4
   dsimp only[next]
   rw[this];exact a4
omit hi in
theorem try0(h:P.pc=0):B7q S P (next P ({P with wx:=S.word P.a.x},S)):=by
 have hh:=I.held (by omega)
 refine⟨w,(A1s.refl S).adv _ _,⟨fun _=>bK _,fun k=>?_,fun k=>?_,fun k=>?_,fun _=>I.free (by omega),fun _=>I.made (by omega),fun _=>hh,fun a b=>?_⟩,fun a=>.inl a,rfl⟩
 ·dsimp only[next]at k;omega
 ·dsimp only[next]at k;omega
 ·dsimp only[next]at k;omega
 ·exact absurd (hh.symm.trans a) (by decide)
omit hi in
theorem try1(h:P.pc=1):B7q S P (next P ({P with tx:=B5p (S.A8i P.a.x)},S)):=by
 have hh:=I.held (by omega)
 refine⟨w,(A1s.refl S).adv _ _,⟨fun _=>I.wx (by omega),fun _ _ _=>rfl,fun k=>?_,fun k=>?_,fun _=>I.free (by omega),fun _=>I.made (by omega),fun _=>hh,fun a b=>?_⟩,fun a=>.inl a,rfl⟩
 ·dsimp only[next]at k;omega
 ·dsimp only[next]at k;omega
 ·exact absurd (hh.symm.trans a) (by decide)
omit hi in
theorem try3(h:P.pc=3):B7q S P (next P ({P with wy:=S.word P.a.y},S)):=by
 refine⟨w,(A1s.refl S).adv _ _,⟨fun _=>I.wx (by omega),fun _=>I.tx (by omega),fun _=>bK _,fun k=>?_,fun _=>I.free (by omega),fun _=>I.made (by omega),fun k=>?_,I.act⟩,fun a=>.inl a,rfl⟩
 ·dsimp only[next]at k;omega
 ·dsimp only[next]at k;omega
omit hi in
theorem try4(h:P.pc=4):B7q S P (next P ({P with ty:=B5p (S.A8i P.a.y)},S)):=by
 refine⟨w,(A1s.refl S).adv _ _,⟨fun _=>I.wx (by omega),fun _=>I.tx (by omega),fun _=>I.wy (by omega),fun _ _ _=>rfl,fun _=>I.free (by omega),fun _=>I.made (by omega),fun k=>?_,I.act⟩,fun a=>.inl a,rfl⟩
 dsimp only[next]at k;omega
theorem try2(h:P.pc=2):B7q S P (next P (B8x P S)):=by
 have hh:=I.held (by omega)
 have hp:P={P with q:=P.q,p:=P.p}:=rfl
 obtain⟨hx,hy,hn⟩:=A8w hi
 unfold B8x
 split
 ·rename_i hw
  have hl:=C7j hw
  cases ht:(S.turn P.a.x P.wx (A0i P.wx).hold).1 with
  |false=>
   rw[D6r ht]
   have e:({P with held:=false}:A0a)={P with q:=P.q,p:=P.p}:=by rw[←hh]
   rw[e]
   exact B9j w I h0 (.inl h) _ _ (.inl rfl)
  |true=>
   obtain⟨v,h1,h2,h3⟩:=A5m ht
   rw[h3]
   have hs:stx S P.a.x=A0i P.wx:=by unfold stx;rw[h2]
   obtain⟨k1,k2,k3,k4⟩:=D6k hl
   have o:=B7e hx v {S with words:=stw S.words (2*P.a.x) v} rfl rfl
   have es:=A9b w hx (A7m h1) {S with words:=stw S.words (2*P.a.x) v} rfl
   generalize hS:({S with words:=stw S.words (2*P.a.x) v}:WS)=S' at o es⊢
   have lg:S'.log=S.log:=by rw[←hS]
   have lv:=St.A8s hl
   refine⟨o.wi w (by rw[lg];exact w.log) (fun _ _ _=>by rw[lg]) (fun _ _ _=>by rw[lg]) (fun _ _ _ _=>by rw[lg]) ?_ ?_ ?_ ?_,o.adv hx ?_ ?_ ?_ ?_ (fun _ _ _ _=>by rw[lg]),⟨?_,?_,?_,?_,?_,?_,?_,?_⟩,fun _=>.inr (by rw[hs];exact hl),rfl⟩
   ·intro _;rw[es,lg,k3,←hs];exact w.w1 _ hx (by rw[hs];exact lv)
   ·rw[es,lg,k3,←hs];exact w.w0 _ hx
   ·intro _;rw[es,lg,k3,←hs];exact w.w2 _ hx (by rw[hs];exact lv)
   ·intro q;rw[es,k2]at q;cases q
   ·rw[es,hs,k3];exact bK _
   ·intro _ _;rw[es,hs,k3];exact⟨lv,rfl⟩
   ·intro q;rw[hs,St.A5c hl]at q;cases q
   ·intro q;rw[hs,lv]at q;cases q
   ·intro _
    show(A0i P.wx).g≤(stx S' P.a.x).g
    rw[es,k3];exact bK _
   ·intro _ _ _
    show P.tx=tmx S' P.a.x
    rw[o.tm _ hx];exact I.tx (by omega) (by rw[hs];exact lv) (by rw[hs])
   ·intro k;dsimp only[next]at k;omega
   ·intro k;dsimp only[next]at k;omega
   ·exact fun _=>I.free (by omega)
   ·exact fun _=>I.made (by omega)
   ·intro k;dsimp only[next]at k;omega
   ·intro _ _
    show(stx S' P.a.x).held=true∧(stx S' P.a.x).g=(A0i P.wx).g∧(stx S' P.a.x).l=(A0i P.wx).l∧(A1c S'.log).lf P.a.x (stx S' P.a.x).g=(stx S' P.a.x).l-(if P.made then P.q else 0)
    have hm:=I.made (by omega)
    rw[es,lg,k3,k4,hm]
    refine⟨k1,rfl,rfl,?_⟩
    have:=w.w3 _ hx (by rw[hs];exact hl)
    rw[hs]at this
    rw[this];simp
 ·exact B9j w I h0 (.inl h) P.q P.p (.inl rfl)
omit hi in
theorem try6(h:P.pc=6∨P.pc=8):B7q S P (next P (B4z P S)):=by
 unfold B4z
 split
 ·rename_i ha
  obtain⟨a1,a2,a3,a4⟩:=I.act ha.1 ha.2
  refine⟨w,(A1s.refl S).adv _ _,⟨fun _=>bK _,fun _ _ _=>?_,fun _=>I.wy (by omega),fun _=>I.ty (by omega),fun k=>I.free ?_,fun k=>?_,fun k=>?_,fun _ _=>⟨a1,rfl,rfl,a4⟩⟩,fun a=>.inl a,rfl⟩
  ·exact I.tx (by omega) (St.B4h a1) a2
  ·dsimp only[next]at k;omega
  ·dsimp only[next]at k;omega
  ·dsimp only[next]at k;omega
 ·exact B9j w I h0 (.inr (by omega)) P.q P.p (.inl rfl)
include hc in
theorem H8k(h:10≤P.pc):B7q S P (next P (P,A4k P S)):=by
 have hs:A1s S (A4k P S):=by
  unfold A4k
  split
  ·exact B4a hc _ _ _ _
  split
  ·exact B4a hc _ _ _ _
  split
  ·exact A6b hc _ _ _ _
  split
  ·exact A6b hc _ _ _ _
  ·exact A1s.refl S
 have k:=B9j w I h0 (.inr (by omega)) P.q P.p (.inl rfl)
 obtain⟨hx,hy,_⟩:=A8w hi
 exact⟨hs.wi w,hs.adv _ _,k.i.adv (hs.adv (fun _=>False) (fun _=>False)) hx hy fun _ _ q=>q,fun a=>.inl a,rfl⟩
theorem try5(h:P.pc=5):B7q S P (next P (B6h P S)):=by
 obtain⟨hx,hy,hn⟩:=A8w hi
 have nothing:∀q p,B7q S P (next P ({P with q:=q,p:=p},S)):=fun q p=>B9j w I h0 (.inr (by omega)) q p (.inr (by omega))
 unfold B6h
 split
 ·exact nothing P.q P.p
 rename_i hb
 have hh:P.held=true:=by cases e:P.held with
  |true=>rfl
  |false=>exact absurd (.inl e) hb
 have hf:=I.free (by omega)
 have hm:=I.made (by omega)
 obtain⟨a1,a2,a3,a4⟩:=I.act hh hf
 unfold B7z
 dsimp only
 split
 ·exact nothing _ _
 rename_i ht
 have ht:(A7c (A0i P.wy) (A2h P).1 S.c.c5).1=0:=by simpa using ht
 cases hu:(S.turn P.a.y P.wy (A7c (A0i P.wy) (A2h P).1 S.c.c5).2).1 with
 |false=>exact nothing _ _
 |true=>
  obtain⟨v,h1,h2,h3⟩:=A5m hu
  obtain⟨k1,k2,k3,k4,k5,k6⟩:=C6j ht
  rw[Q0 (by decide),h3]
  have hs:stx S P.a.y=A0i P.wy:=by unfold stx;rw[h2]
  have hxy:P.a.y≠P.a.x:=fun e=>by rw[e]at hn;exact hn rfl
  have hyx:P.a.x≠P.a.y:=fun e=>hxy e.symm
  have lvy:(stx S P.a.y).live=true:=by rw[hs];exact St.A8s k1
  have lvx:=St.B4h a1
  have ty:P.ty=tmx S P.a.y:=I.ty (by omega) lvy (by rw[hs])
  have tx:P.tx=tmx S P.a.x:=I.tx (by omega) lvx a2
  obtain⟨m1,m2,m3,m4,m5⟩:=E3p (a:=P.tx) (b:=P.ty) (l:=(A0i P.wx).l) (o:=(A0i P.wy).l) k2 {Ev.zero with kind:=2,cell:=P.a.x,gen:=(A0i P.wx).g,other:=P.a.y,wth:=(A0i P.wy).g,qty:=(A2h P).1,A0m:=(A2h P).2,tick:=S.now} rfl
  have gx:(A1c S.log).tm P.a.x (A0i P.wx).g=P.tx:=by rw[←a2,w.w2 _ hx lvx,tx]
  have gy:(A1c S.log).tm P.a.y (A0i P.wy).g=P.ty:=by rw[←hs,w.w2 _ hy lvy,ty]
  have ly:(A1c S.log).lf P.a.y (A0i P.wy).g=(A0i P.wy).l:=by have:=w.w3 _ hy (by rw[hs];exact k1);rw[hs]at this;exact this
  have lx:(A1c S.log).lf P.a.x (A0i P.wx).g=(A0i P.wx).l:=by rw[hm,a2,a3]at a4;simpa using a4
  have ovx:(A1c S.log).ov P.a.x (A0i P.wx).g=false:=by rw[←a2];exact w.w1 _ hx lvx
  have ovy:(A1c S.log).ov P.a.y (A0i P.wy).g=false:=by rw[←hs];exact w.w1 _ hy lvy
  have o:=B7e hy v (({S with words:=stw S.words (2*P.a.y) v}:WS).tell {Ev.zero with kind:=2,cell:=P.a.x,gen:=(A0i P.wx).g,other:=P.a.y,wth:=(A0i P.wy).g,qty:=(A2h P).1,A0m:=(A2h P).2}) rfl rfl
  have es:=A9b w hy (A7m h1) (({S with words:=stw S.words (2*P.a.y) v}:WS).tell {Ev.zero with kind:=2,cell:=P.a.x,gen:=(A0i P.wx).g,other:=P.a.y,wth:=(A0i P.wy).g,qty:=(A2h P).1,A0m:=(A2h P).2}) rfl
  have lg:(({S with words:=stw S.words (2*P.a.y) v}:WS).tell {Ev.zero with kind:=2,cell:=P.a.x,gen:=(A0i P.wx).g,other:=P.a.y,wth:=(A0i P.wy).g,qty:=(A2h P).1,A0m:=(A2h P).2}).log=S.log++[{Ev.zero with kind:=2,cell:=P.a.x,gen:=(A0i P.wx).g,other:=P.a.y,wth:=(A0i P.wy).g,qty:=(A2h P).1,A0m:=(A2h P).2,tick:=S.now}]:=rfl
  generalize (({S with words:=stw S.words (2*P.a.y) v}:WS).tell {Ev.zero with kind:=2,cell:=P.a.x,gen:=(A0i P.wx).g,other:=P.a.y,wth:=(A0i P.wy).g,qty:=(A2h P).1,A0m:=(A2h P).2})=S' at o es lg⊢
  generalize he:({Ev.zero with kind:=2,cell:=P.a.x,gen:=(A0i P.wx).g,other:=P.a.y,wth:=(A0i P.wy).g,qty:=(A2h P).1,A0m:=(A2h P).2,tick:=S.now}:Ev)=e at m1 lg
  have g0:A1c S'.log={A1c S.log with lf:=D4f (D4f (A1c S.log).lf P.a.x (A0i P.wx).g (A2h P).1) P.a.y (A0i P.wy).g (A2h P).1}:=by
   rw[lg,B7f,←he];rfl
  have gov:∀a b,(A1c S'.log).ov a b=(A1c S.log).ov a b:=by rw[g0];exact fun _ _=>rfl
  have gtm:∀a b,(A1c S'.log).tm a b=(A1c S.log).tm a b:=by rw[g0];exact fun _ _=>rfl
  have glf:∀a b,(A1c S'.log).lf a b=D4f (D4f (A1c S.log).lf P.a.x (A0i P.wx).g (A2h P).1) P.a.y (A0i P.wy).g (A2h P).1 a b:=by rw[g0];exact fun _ _=>rfl
  have lfy:(A1c S'.log).lf P.a.y (A0i P.wy).g=(A0i P.wy).l-(A2h P).1:=by rw[glf,F9e,D6z hxy,ly]
  have lfx:(A1c S'.log).lf P.a.x (A0i P.wx).g=(A0i P.wx).l-(A2h P).1:=by rw[glf,D6z hyx,F9e,lx]
  have lfz:∀z g,z≠P.a.x→z≠P.a.y→(A1c S'.log).lf z g=(A1c S.log).lf z g:=fun z g z1 z2=>by rw[glf,D6z z2,D6z z1]
  have ok:E0s S.c (A1c S.log) e:=by
   subst he
   refine⟨fun _=>⟨ovx,ovy,hn,⟨hx,hy⟩,?_,?_,?_,?_,?_⟩,fun q=>?_,fun q=>?_⟩
   ·dsimp only;rw[gx,gy,tx,ty];exact⟨(C8o _).2.2.1,(C8o _).2.2.1⟩
   ·dsimp only;rw[gx,gy];exact m1
   ·dsimp only;rw[gx,gy];exact⟨m2,m3,k2⟩
   ·dsimp only;rw[lx,ly];exact⟨m4,m5⟩
   ·dsimp only;rw[lx,ly];exact⟨(A9o _).2.2.1.2,(A9o _).2.2.1.2⟩
   ·exact absurd q (by dsimp only;decide)
   ·exact absurd q (by dsimp only;decide)
  have el:(stx S' P.a.y).live=true→(stx S P.a.y).live=true:=fun _=>lvy
  refine⟨o.wi w (by rw[lg];exact B2a _ _ _ _ w.log ok) (fun _ _ _=>gov _ _) (fun _ _ _=>gtm _ _) (fun z z1 _ zl=>lfz _ _ (fun q=>by have:=St.A5c (q▸zl:(stx S P.a.x).loose=true);rw[this]at a1;cases a1) z1) ?_ ?_ ?_ ?_,o.adv hy ?_ ?_ ?_ ?_ ?_,⟨?_,?_,?_,?_,?_,?_,?_,?_⟩,fun _=>.inl ⟨hi,hh,hf⟩,rfl⟩
  ·intro _;rw[es,k4,gov];exact ovy
  ·intro g hg;rw[gov];rw[es,k4,←hs]at hg;exact w.w0 _ hy g hg
  ·intro _;rw[es,k4,gtm,gy,ty]
  ·intro _;rw[es,k4,lfy,k5]
  ·rw[es,hs,k4];exact bK _
  ·intro _ _;rw[es,hs,k4];exact⟨St.A8s k1,rfl⟩
  ·intro q;rw[hs,St.A5c k1]at q;cases q
  ·intro q;rw[lvy]at q;cases q
  ·intro z _ z1 z2
   refine lfz _ _ (fun q=>z2 ⟨⟨hi,hh,hf⟩,q⟩) (fun q=>?_)
   rw[q,hs,St.A5c k1]at z1;cases z1
  ·intro _;show(A0i P.wx).g≤(stx S' P.a.x).g;rw[o.st _ hx hyx,a2];exact bK _
  ·intro _ _ _;show P.tx=tmx S' P.a.x;rw[o.tm _ hx];exact tx
  ·intro _;show(A0i P.wy).g≤(stx S' P.a.y).g;rw[es,k4];exact bK _
  ·intro _ _ _;show P.ty=tmx S' P.a.y;rw[o.tm _ hy];exact ty
  ·exact fun _=>hf
  ·intro k;dsimp only[next]at k;omega
  ·intro k;dsimp only[next]at k;omega
  ·intro _ _
   show(stx S' P.a.x).held=true∧(stx S' P.a.x).g=(A0i P.wx).g∧(stx S' P.a.x).l=(A0i P.wx).l∧(A1c S'.log).lf P.a.x (stx S' P.a.x).g=(stx S' P.a.x).l-(A2h P).1
   rw[o.st _ hx hyx]
   exact⟨a1,a2,a3,by rw[a2,a3];exact lfx⟩
theorem try7(h:P.pc=7∨P.pc=9):B7q S P (next P (B5j P S)):=by
 obtain⟨hx,hy,hn⟩:=A8w hi
 have nothing:B7q S P (next P (P,S)):=B9j w I h0 (.inr (by omega)) P.q P.p (.inl rfl)
 unfold B5j
 split
 ·exact nothing
 rename_i hb
 have hh:P.held=true:=by cases e:P.held with
  |true=>rfl
  |false=>exact absurd (.inl e) hb
 have hf:P.free=false:=by cases e:P.free with
  |false=>rfl
  |true=>exact absurd (.inr e) hb
 obtain⟨a1,a2,a3,a4⟩:=I.act hh hf
 have ac:act S.c P:=⟨hi,hh,hf⟩
 generalize hq:(if P.made then P.q else 0)=q at a4⊢
 unfold B9q
 split
 ·exact nothing
 rename_i ht
 have ht:(A1z (A0i P.wx) q S.c.c5).1=0:=by simpa using ht
 cases hu:(S.turn P.a.x P.wx (A1z (A0i P.wx) q S.c.c5).2).1 with
 |false=>exact nothing
 |true=>
  obtain⟨v,h1,h2,h3⟩:=A5m hu
  obtain⟨k1,k2,k3,k4,k5,k6⟩:=C4p ht
  rw[Q0 (by decide),h3]
  generalize (A1z (A0i P.wx) q S.c.c5).2=t at*
  have hs:stx S P.a.x=A0i P.wx:=by unfold stx;rw[h2]
  have lvx:=St.B4h a1
  have ovx:(A1c S.log).ov P.a.x (A0i P.wx).g=false:=by rw[←a2];exact w.w1 _ hx lvx
  have tx:P.tx=tmx S P.a.x:=I.tx (by omega) lvx a2
  have gx:(A1c S.log).tm P.a.x (A0i P.wx).g=tmx S P.a.x:=by rw[←a2,w.w2 _ hx lvx]
  have lx:(A1c S.log).lf P.a.x (A0i P.wx).g=(A0i P.wx).l-q:=by rw[a2,a3]at a4;exact a4
  have key:∀S':WS,C2o S S' P.a.x→stx S' P.a.x=t→D0n S.c LG.zero S'.log→(∀a b,(A1c S'.log).tm a b=(A1c S.log).tm a b)→(∀a b,(A1c S'.log).lf a b=(A1c S.log).lf a b)→
    (∀a b,¬(a=P.a.x∧b=t.g)→(A1c S'.log).ov a b=(A1c S.log).ov a b)→(t.live=true→(A1c S'.log).ov P.a.x t.g=false)→
    B7q S P (next P ({P with free:=true,nx:=t,fin:=S.now},S')):=by
   intro S' o es al gtm glf gov gv
   refine⟨o.wi w al (fun z z1 g=>gov _ _ fun q=>z1 q.1) (fun _ _ _=>gtm _ _) (fun _ _ _ _=>glf _ _) ?_ ?_ ?_ ?_,o.adv hx ?_ ?_ ?_ ?_ ?_,⟨?_,?_,?_,?_,?_,?_,?_,?_⟩,fun _=>.inl ac,rfl⟩
   ·intro z;rw[es]at z⊢;exact gv z
   ·intro g hg;rw[es,k4]at hg;rw[gov _ _ (fun q=>by omega)];exact w.w0 _ hx g (by rw[hs];exact hg)
   ·intro _;rw[es,k4,gtm,gx]
   ·intro _;rw[es,k4,glf,k5];exact lx
   ·rw[es,hs,k4];exact bK _
   ·intro _ _;rw[es,hs,k4];exact⟨by rw[←hs];exact lvx,rfl⟩
   ·intro _ z;exact absurd ⟨ac,rfl⟩ z
   ·intro z;rw[lvx]at z;cases z
   ·exact fun _ _ _ _=>glf _ _
   ·intro _;show(A0i P.wx).g≤(stx S' P.a.x).g;rw[es,k4];exact bK _
   ·intro _ _ _;show P.tx=tmx S' P.a.x;rw[o.tm _ hx];exact tx
   ·intro _;show(A0i P.wy).g≤(stx S' P.a.y).g;exact bQ (I.wy (by omega)) ((o.adv (own:=fun _=>True) (rel:=fun _=>True) hx (by rw[es,hs,k4];exact bK _) (fun _ _=>by rw[es,hs,k4];exact⟨by rw[←hs];exact lvx,rfl⟩) (fun _ z=>absurd trivial z) (fun _ z=>absurd trivial z) (fun _ _ _ _=>glf _ _)).mono _ hy)
   ·intro _ z1 z2
    show P.ty=tmx S' P.a.y
    rw[o.tm _ hy]
    by_cases e:P.a.y=P.a.x
    ·rw[e]at hn;exact absurd rfl hn
    ·change (stx S' P.a.y).live=true at z1
     change (stx S' P.a.y).g=(A0i P.wy).g at z2
     rw[o.st _ hy e]at z1 z2
     exact I.ty (by omega) z1 z2
   ·intro k;dsimp only[next]at k;omega
   ·intro k;dsimp only[next]at k;omega
   ·intro k;dsimp only[next]at k;omega
   ·intro _ z;cases z
  cases hov:t.over with
  |false=>
   rw[Q0 (by decide)]
   refine key _ (B7e hx v _ rfl rfl) (A9b w hx (A7m h1) _ rfl) w.log (fun _ _=>rfl) (fun _ _=>rfl) (fun _ _ _=>rfl) fun _=>?_
   rw[k4];exact ovx
  |true=>
   rw[Q3 rfl]
   have g0:∀e:Ev,e.kind=7→e.cell=P.a.x→e.gen=t.g→A1c (S.log++[e])={A1c S.log with ov:=up2 (A1c S.log).ov P.a.x t.g true}:=by
    intro e e1 e2 e3
    rw[B7f];unfold D7u;rw[e1,e2,e3];rfl
   refine key _ (B7e hx v _ rfl rfl) (A9b w hx (A7m h1) _ rfl) (B2a _ _ _ _ w.log ⟨fun q=>absurd q (by dsimp only;decide),fun q=>absurd q (by dsimp only;decide),fun _=>?_⟩) (fun _ _=>?_) (fun _ _=>?_) (fun a b z=>?_) fun z=>?_
   ·show(A1c S.log).ov P.a.x t.g=false
    rw[k4];exact ovx
   ·show(A1c (S.log++_)).tm _ _=_
    rw[g0 _ rfl rfl rfl]
   ·show(A1c (S.log++_)).lf _ _=_
    rw[g0 _ rfl rfl rfl]
   ·show(A1c (S.log++_)).ov _ _=_
    rw[g0 _ rfl rfl rfl]
    show(if a=P.a.x∧b=t.g then true else(A1c S.log).ov a b)=_
    rw[Q0 z]
   ·rw[G5d hov]at z;cases z
end
def A4o(S:WS)(P:A0a):Prop:=0≤P.pc∧(B0s S.c P=false→D9k S P)
structure TryL(S:WS)(P:A0a)(R:A0a × WS):Prop where
 wi:WI R.2
 adv:Adv S R.2 (fun _=>False) (fun y=>act S.c P∧y=P.a.x)
 i:A4o R.2 R.1
 new:act S.c R.1→act S.c P∨(InC S.c P.a.x∧(stx S P.a.x).loose=true)
 a:R.1.a=P.a
theorem B4j{S:WS}{P:A0a}(hc:S.c.ok)(w:WI S)(I:A4o S P):TryL S P (A1h P S):=by
 unfold A1h
 split
 ·exact⟨w,(A1s.refl S).adv _ _,I,fun a=>.inl a,rfl⟩
 rename_i hpc
 cases hi:B0s S.c P with
 |true=>
  rw[Q3 rfl]
  exact⟨w,(A1s.refl S).adv _ _,⟨by have:=I.1;show 0≤P.pc+1;omega,fun q=>by have:B0s S.c P=false:=q;rw[hi]at this;cases this⟩,fun a=>.inl a,rfl⟩
 |false=>
  rw[Q0 (by decide)]
  have J:=I.2 hi
  have k:B7q S P (next P (A3f P S)):=by
   unfold A3f
   split
   ·exact try0 w J I.1 (by assumption)
   split
   ·exact try1 w J I.1 (by assumption)
   split
   ·exact try2 w J hi I.1 (by assumption)
   split
   ·exact try3 w J I.1 (by assumption)
   split
   ·exact try4 w J I.1 (by assumption)
   split
   ·exact try5 w J hi I.1 (by assumption)
   split
   ·exact try6 w J I.1 (by assumption)
   split
   ·exact try7 w J hi I.1 (by assumption)
   ·exact H8k hc w J hi I.1 (by have:=I.1;omega)
  exact⟨k.wi,k.adv,⟨by have:=I.1;show 0≤P.pc+1;omega,fun _=>k.i⟩,fun a=>(k.new a).imp id fun q=>⟨(A8w hi).1,q⟩,k.a⟩
theorem A4o.adv{S S':WS}{P:A0a}{own rel:Int→Prop}(h:A4o S P)(A:Adv S S' own rel)(hr:act S.c P→¬rel P.a.x):A4o S' P:=
 ⟨h.1,fun hi=>by
  rw[A.c]at hi
  exact(h.2 hi).adv A (A8w hi).1 (A8w hi).2.1 fun a b=>hr ⟨hi,a,b⟩⟩
theorem A4o.new(S:WS)(a:Aim):A4o S (A0a.new a):=
 ⟨bK _,fun _=>⟨fun k=>absurd k (show ¬(1:Int)≤0 by decide),fun k=>absurd k (show ¬(2:Int)≤0 by decide),fun k=>absurd k (show ¬(4:Int)≤0 by decide),fun k=>absurd k (show ¬(5:Int)≤0 by decide),fun _=>rfl,fun _=>rfl,fun _=>rfl,fun k=>absurd k (show ¬false=true by decide)⟩⟩
theorem B2z(c:Cf)(a:Aim):¬act c (A0a.new a):=fun h=>by have:=h.2.1;cases this
end
theorem A5h{c:Cf}(hc:c.ok){part i:Int}(h:0≤A0f c part i):InC c (A0f c part i)∧A5f c (A0f c part i)=part:=by
 obtain⟨h1,h2,h3,h4⟩:=B1c c h
 refine⟨⟨h,h4⟩,?_⟩
 unfold A5f
 rw[Q0 (by omega),h3,Int.add_comm,Int.add_mul_ediv_right _ _ (by have:=hc.2.1;omega),Int.ediv_eq_zero_of_lt h2.1 h2.2]
 simp
def G8j(c:Cf)(t:Tm):Prop:=(0≤t.name∧t.name<c.c2)∧(t.side=0∨t.side=1)∧(1≤t.A0m∧t.A0m≤9999)∧(1≤t.least∧t.least≤9999)∧0≤t.A1n∧t.A1n≤1000000
structure A3j(S:WS)(part:Int)(pr:PrS):Prop where
 b1:pr.a.kind=1→1≤pr.pc→0≤A0f S.c part pr.a.cell∧G8j S.c pr.a.tm∧1≤pr.a.qty∧pr.a.qty≤9999
 b2:pr.a.kind=1→pr.pc=2∨pr.pc=3→(stx S (A0f S.c part pr.a.cell)).live=false∧pr.st=⟨1,false,(stx S (A0f S.c part pr.a.cell)).g+1,pr.a.qty,0⟩∧(stx S (A0f S.c part pr.a.cell)).g<S.c.c6
 b3:pr.a.kind=1→pr.pc=3→tmx S (A0f S.c part pr.a.cell)=pr.a.tm
 b4:pr.a.kind=1→4≤pr.pc→pr.done=0→pr.tries%2=1→pr.st=A0i pr.word
 b5:pr.a.kind=1→pr.pc<4→pr.tries=0
 k1:pr.a.kind=2→1≤pr.pc→0≤A0f S.c part pr.a.cell
 k2:pr.a.kind=2→pr.pc=2∨pr.pc=4∨pr.pc=6→pr.done=0→pr.st=A0i pr.word
theorem A3j.adv{S S':WS}{part:Int}{pr:PrS}{own rel:Int→Prop}(hc:S.c.ok)(I:A3j S part pr)(A:Adv S S' own rel)
  (ho:∀y,A5f S.c y=part→¬own y):A3j S' part pr:=by
 refine⟨fun a b=>?_,fun a b=>?_,fun a b=>?_,I.b4,I.b5,fun a b=>?_,I.k2⟩<;>rw[A.c]
 ·exact I.b1 a b
 ·obtain⟨k1,k2⟩:=A5h hc (I.b1 a (by omega)).1
  have k:=I.b2 a b
  rw[(A.dead _ k1 k.1 (ho _ k2)).1];exact k
 ·obtain⟨k1,k2⟩:=A5h hc (I.b1 a (by omega)).1
  rw[(A.dead _ k1 (I.b2 a (.inr b)).1 (ho _ k2)).2];exact I.b3 a b
 ·exact I.k1 a b
theorem A3j.n{S:WS}{part:Int}{pr:PrS}(I:A3j S part pr)(n:Int):A3j S part {pr with n:=n}:=⟨I.b1,I.b2,I.b3,I.b4,I.b5,I.k1,I.k2⟩
theorem G4j{pr:PrS}{se:A0l}{S:WS}(h:A7s pr se S=0):0≤A0f S.c se.part pr.a.cell∧G8j S.c pr.a.tm∧1≤pr.a.qty∧pr.a.qty≤9999:=by
 unfold A7s at h
 split at h
 ·exact absurd h (by decide)
 split at h
 ·exact absurd h (by decide)
 rename_i h1
 unfold C9g at h
 split at h
 ·exact absurd h (by decide)
 split at h
 ·exact absurd h (by decide)
 split at h
 ·exact absurd h (by decide)
 split at h
 ·exact absurd h (by decide)
 split at h
 ·exact absurd h (by decide)
 split at h
 ·exact absurd h (by decide)
 unfold G8j
 omega
theorem G9w{s:St}{q m:Int}(h:(A8e s q m).1=0):s.live=false∧s.g<m∧(A8e s q m).2=⟨1,false,s.g+1,q,0⟩:=by
 unfold A8e at h⊢
 split at h
 ·exact absurd h (by decide)
 rename_i c1
 rw[Q0 c1]
 split at h
 ·exact absurd h (by decide)
 rename_i c2
 rw[Q0 c2]
 split at h
 ·exact absurd h (by decide)
 rename_i c3
 rw[Q0 c3]
 exact⟨by simpa using c1,by omega,rfl⟩
def Left(S S':WS)(part:Int):Prop:=WI S'∧Adv S S' (fun y=>A5f S.c y=part) (fun _=>False)
theorem A1s.left{S S':WS}(h:A1s S S')(w:WI S)(part:Int):Left S S' part:=⟨h.wi w,h.adv _ _⟩
theorem G6l{S:WS}{pr:PrS}{se:A0l}(hc:S.c.ok)(w:WI S)(I:A3j S se.part pr)(hk:pr.a.kind=1)(hp:0≤pr.pc∧pr.pc<4):
  Left S (A1r (A0f S.c se.part pr.a.cell) pr se S).S se.part∧((A1r (A0f S.c se.part pr.a.cell) pr se S).r=none→A3j (A1r (A0f S.c se.part pr.a.cell) pr se S).S se.part (A1r (A0f S.c se.part pr.a.cell) pr se S).pr):=by
 have h0:=(A1s.refl S).left w se.part
 have hk2:pr.a.kind=2→False:=fun q=>by rw[hk]at q;cases q
 generalize hx:A0f S.c se.part pr.a.cell=x
 unfold A1r
 split
 ·rename_i hpc
  split
  ·exact⟨h0,fun q=>by cases q⟩
  ·rename_i hq
   have hq:A7s pr se S=0:=by simpa using hq
   have:=G4j hq
   refine⟨h0,fun _=>⟨fun _ _=>this,fun _ q=>?_,fun _ q=>?_,fun _ q=>?_,fun _ q=>I.b5 hk (by omega),fun q=>(hk2 q).elim,fun q=>(hk2 q).elim⟩⟩<;>(dsimp only at q;omega)
 split
 ·rename_i _ hpc
  have b:=I.b1 hk (by omega)
  split
  ·exact⟨h0,fun q=>by cases q⟩
  ·rename_i hq
   have hq:(A8e (A0i (S.word x)) pr.a.qty S.c.c6).1=0:=by simpa using hq
   obtain⟨k1,k2,k3⟩:=G9w hq
   refine⟨h0,fun _=>⟨fun _ _=>b,fun _ q=>?_,fun _ q=>?_,fun _ q=>?_,fun _ q=>I.b5 hk (by omega),fun q=>(hk2 q).elim,fun q=>(hk2 q).elim⟩⟩
   ·dsimp only;rw[k3,hx];exact⟨k1,rfl,k2⟩
   ·dsimp only at q;omega
   ·dsimp only at q;omega
 split
 ·rename_i _ _ hpc
  have b:=I.b1 hk (by omega)
  have d:=I.b2 hk (.inl hpc)
  obtain⟨hin,how⟩:=A5h hc b.1
  rw[hx]at d hin how
  obtain⟨b1,b2,b3,b4,b5,b6⟩:=b.2.1
  have hc2:=hc.2.2.1
  obtain⟨v,hv⟩:=H2o (t:=pr.a.tm) ⟨by omega,by omega,by omega,by omega,by omega⟩
  dsimp only
  simp only[hv,bW]
  have hl:=w.len
  have e1:∀y,stx (S.put (2*x+1) v) y=stx S y:=fun y=>by unfold stx WS.word WS.put;dsimp only;rw[A7z (by omega)]
  have e2:∀y,y≠x→tmx (S.put (2*x+1) v) y=tmx S y:=fun y hy=>by unfold tmx WS.A8i WS.put;dsimp only;rw[A7z (by omega)]
  have e3:tmx (S.put (2*x+1) v) x=pr.a.tm:=by
   unfold tmx WS.A8i WS.put;dsimp only
   obtain⟨i1,i2⟩:=hin
   rw[F4w (by omega) (by omega)];exact H7j hv
  have ne:∀y,(stx S y).live=true→y≠x:=fun y hy e=>by rw[e,d.1]at hy;cases hy
  refine⟨⟨⟨w.log,fun y hy=>?_,fun y hy=>?_,fun y hy=>?_,fun y hy=>?_,?_⟩,⟨rfl,fun y hy=>?_,fun y hy q1 q2=>?_,fun y hy q1 _=>?_,fun y hy q1 q2=>?_⟩⟩,fun _=>⟨fun _ _=>b,fun _ q=>?_,fun _ q=>?_,fun _ q=>?_,fun _ q=>I.b5 hk (by omega),fun q=>(hk2 q).elim,fun q=>(hk2 q).elim⟩⟩
  ·show(stx (S.put (2*x+1) v) y).live=true→(A1c S.log).ov y (stx (S.put (2*x+1) v) y).g=false
   rw[e1];exact w.w1 y hy
  ·show ∀g,(stx (S.put (2*x+1) v) y).g<g→(A1c S.log).ov y g=false
   rw[e1];exact w.w0 y hy
  ·show(stx (S.put (2*x+1) v) y).live=true→(A1c S.log).tm y (stx (S.put (2*x+1) v) y).g=tmx (S.put (2*x+1) v) y
   rw[e1];intro q;rw[e2 y (ne y q)];exact w.w2 y hy q
  ·show(stx (S.put (2*x+1) v) y).loose=true→(A1c S.log).lf y (stx (S.put (2*x+1) v) y).g=(stx (S.put (2*x+1) v) y).l
   rw[e1];exact w.w3 y hy
  ·show 2*A0o S.c≤(stw S.words (2*x+1) v).length
   rw[B3b];exact hl
  ·rw[e1];exact bK _
  ·rw[e1]at q1⊢;exact⟨q1,rfl,e2 y (ne y q1)⟩
  ·rw[e1];exact⟨q1,rfl,rfl,rfl⟩
  ·exact⟨e1 y,e2 y fun e=>q2 (by rw[e];exact how)⟩
  ·show(stx (S.put (2*x+1) v) (A0f S.c se.part pr.a.cell)).live=false∧pr.st=⟨1,false,(stx (S.put (2*x+1) v) (A0f S.c se.part pr.a.cell)).g+1,pr.a.qty,0⟩∧(stx (S.put (2*x+1) v) (A0f S.c se.part pr.a.cell)).g<S.c.c6
   rw[e1,hx];exact d
  ·show tmx (S.put (2*x+1) v) (A0f S.c se.part pr.a.cell)=pr.a.tm
   rw[hx];exact e3
  ·dsimp only at q;omega
 split
 ·rename_i _ _ _ hpc
  have b:=I.b1 hk (by omega)
  have d:=I.b2 hk (.inr hpc)
  have t:=I.b3 hk hpc
  obtain⟨hin,how⟩:=A5h hc b.1
  rw[hx]at d t hin how
  have hc6:=hc.2.2.2.2.2.2
  have hg:0≤(stx S x).g:=(A9o _).2.1.1
  have hst:=d.2.1
  obtain⟨v,hv⟩:=E5p (g:=(stx S x).g+1) (q:=pr.a.qty) (by omega) (by omega)
  rw[←hst]at hv
  dsimp only
  simp only[hv,bW]
  generalize he:({Ev.zero with kind:=1,cell:=x,gen:=pr.st.g,tm:=pr.a.tm,qty:=pr.a.qty}:Ev)=e
  have o:=B7e hin v ((S.put (2*x) v).tell e) rfl rfl
  have es:=A9b w hin (A7m hv) ((S.put (2*x) v).tell e) rfl
  have lg:((S.put (2*x) v).tell e).log=S.log++[{e with tick:=S.now}]:=rfl
  have hg2:pr.st.g=(stx S x).g+1:=by rw[hst]
  have g0:A1c ((S.put (2*x) v).tell e).log={A1c S.log with tm:=up2 (A1c S.log).tm x pr.st.g pr.a.tm,lf:=up2 (A1c S.log).lf x pr.st.g pr.a.qty}:=by
   rw[lg,B7f,←he];rfl
  have hok:E0s S.c (A1c S.log) {e with tick:=S.now}:=by
   subst he
   exact⟨fun q=>absurd q (by dsimp only;decide),fun q=>absurd q (by dsimp only;decide),fun q=>absurd q (by dsimp only;decide)⟩
  generalize (S.put (2*x) v).tell e=S' at o es lg g0⊢
  have lfz:∀y,y≠x→∀g,(A1c S'.log).lf y g=(A1c S.log).lf y g:=fun y hy g=>by rw[g0];exact D1v _ _ _ _ hy _
  refine⟨⟨o.wi w (by rw[lg];exact B2a _ _ _ _ w.log hok) (fun y hy g=>by rw[g0]) (fun y hy g=>by rw[g0];exact D1v _ _ _ _ hy _) (fun y hy _ _=>lfz y hy _) ?_ ?_ ?_ ?_,o.adv hin ?_ ?_ ?_ ?_ ?_⟩,fun _=>⟨fun _ _=>?_,fun _ q=>?_,fun _ q=>?_,fun _ q=>?_,fun _ q=>I.b5 hk (by omega),fun q=>(hk2 q).elim,fun q=>(hk2 q).elim⟩⟩
  ·intro _;rw[es,g0];exact w.w0 _ hin _ (by omega)
  ·intro g hg;rw[es]at hg;rw[g0];exact w.w0 _ hin _ (by omega)
  ·intro _;rw[es,g0,t];exact E0u _ _ _ _
  ·intro _;rw[es,g0];show up2 _ _ _ _ _ _=_;rw[E0u,hst]
  ·rw[es,hg2];omega
  ·intro _ q;rw[es,hg2]at q;omega
  ·intro q;rw[(B9i d.1).2]at q;cases q
  ·intro _ q;exact absurd how q
  ·intro y hy q _
   exact lfz y (fun e=>by rw[e,(B9i d.1).2]at q;cases q) _
  ·rw[o.c];exact b
  ·dsimp only at q;omega
  ·dsimp only at q;omega
  ·intro _ q;have:=I.b5 hk (by omega);dsimp only at q;omega
 ·omega
theorem H2s{S S':WS}{x:Int}(w:WI S)(hx:InC S.c x)(o:C2o S S' x)(s0:(stx S x).live=true)(t1:(stx S' x).g=(stx S x).g)(t2:(stx S' x).l=(stx S x).l)
  (t3:(stx S' x).loose=(stx S x).loose) (t4:(stx S' x).held=(stx S x).held) (lg:A1c S'.log=A1c S.log) (al:D0n S.c LG.zero S'.log):WI S'∧∀own rel,Adv S S' own rel:=by
 refine⟨o.wi w al (fun _ _ _=>by rw[lg]) (fun _ _ _=>by rw[lg]) (fun _ _ _ _=>by rw[lg]) ?_ ?_ ?_ ?_,fun own rel=>o.adv hx ?_ ?_ ?_ ?_ (fun _ _ _ _=>by rw[lg])⟩
 ·intro _;rw[lg,t1];exact w.w1 _ hx s0
 ·rw[lg,t1];exact w.w0 _ hx
 ·intro _;rw[lg,t1];exact w.w2 _ hx s0
 ·intro q;rw[lg,t1,t2];exact w.w3 _ hx (by rw[←t3];exact q)
 ·rw[t1];exact bK _
 ·intro _ _;exact⟨s0,t1⟩
 ·intro q _;exact⟨by rw[t4];exact q,t1,t2⟩
 ·intro q;rw[s0]at q;cases q
theorem endL{S S':WS}{x:Int}{e:Ev}(w:WI S)(hx:InC S.c x)(o:C2o S S' x)(s0:(stx S x).loose=true)(t1:(stx S' x).g=(stx S x).g)(t2:(stx S' x).live=false)
  (lg:S'.log=S.log++[e]) (ek:e.kind=5∨e.kind=3∨e.kind=7) (ec:e.cell=x) (eg:e.gen=(stx S x).g) (ex:e.kind=5→(tmx S x).A1n≤e.tick):WI S'∧∀own rel,Adv S S' own rel:=by
 have s1:=St.A8s s0
 have g0:A1c S'.log={A1c S.log with ov:=up2 (A1c S.log).ov x (stx S x).g true}:=by
  rw[lg,B7f];unfold D7u;rw[Q0 (by omega),Q0 (by omega),Q3 ek,ec,eg]
 have ov:(A1c S.log).ov e.cell e.gen=false:=by rw[ec,eg];exact w.w1 _ hx s1
 have okE:E0s S.c (A1c S.log) e:=⟨fun q=>by omega,fun q=>⟨ov,by rw[ec,eg,w.w2 _ hx s1];exact ex q⟩,fun _=>ov⟩
 refine⟨o.wi w (by rw[lg];exact B2a _ _ _ _ w.log okE) (fun y hy g=>by rw[g0];exact D1v _ _ _ _ hy _) (fun _ _ _=>by rw[g0]) (fun _ _ _ _=>by rw[g0]) ?_ ?_ ?_ ?_,
  fun own rel=>o.adv hx ?_ ?_ ?_ ?_ (fun _ _ _ _=>by rw[g0])⟩
 ·intro q;rw[t2]at q;cases q
 ·intro g hg;rw[t1]at hg;rw[g0];show up2 _ _ _ _ _ _=_;rw[H3r _ _ _ _ _ (by omega)];exact w.w0 _ hx _ hg
 ·intro q;rw[t2]at q;cases q
 ·intro q;rw[(B9i t2).1]at q;cases q
 ·rw[t1];exact bK _
 ·intro q;rw[t2]at q;cases q
 ·intro q;rw[St.A5c s0]at q;cases q
 ·intro q;rw[s1]at q;cases q
theorem D0t{s:St}(h:(A2z s).1=0):s.k=1∧(A2z s).2={s with k:=2}:=by
 unfold A2z at h⊢
 split at h
 ·rename_i q;rw[Q3 q];exact⟨q,rfl⟩
 ·exact absurd h (by decide)
theorem F5l{S:WS}{pr:PrS}{part:Int}(hc:S.c.ok)(w:WI S)(I:A3j S part pr)(hk:pr.a.kind=1)(hp:4≤pr.pc)(hd:0≤pr.done):
  Left S (A1e (A0f S.c part pr.a.cell) pr S).2.2 part∧A3j (A1e (A0f S.c part pr.a.cell) pr S).2.2 part (A1e (A0f S.c part pr.a.cell) pr S).2.1:=by
 have h0:=(A1s.refl S).left w part
 have hk2:pr.a.kind=2→False:=fun q=>by rw[hk]at q;cases q
 have b:=I.b1 hk (by omega)
 obtain⟨hin,how⟩:=A5h hc b.1
 generalize hx:A0f S.c part pr.a.cell=x at*
 have mk:∀(S':WS) (t d:Int) (u:Nat) (st:St),S'.c=S.c→(d=0→t%2=1→st=A0i u)→A3j S' part {pr with tries:=t,done:=d,word:=u,st:=st}:=fun S' t d u st e h=>
  ⟨fun _ _=>by rw[e,hx];exact b,fun _ q=>by dsimp only at q;omega,fun _ q=>by dsimp only at q;omega,fun _ _=>h,fun _ q=>by dsimp only at q;omega,fun q=>(hk2 q).elim,fun q=>(hk2 q).elim⟩
 unfold A1e
 split
 ·exact⟨h0,I⟩
 split
 ·rename_i q;exact⟨h0,mk S _ _ _ _ rfl fun z=>by omega⟩
 split
 ·exact⟨h0,mk S _ pr.done _ _ rfl fun _ _=>rfl⟩
 rename_i q1 q2
 split
 ·exact⟨h0,mk S _ 1 _ _ rfl fun z=>by omega⟩
 split
 ·exact⟨h0,mk S _ _ _ _ rfl fun _ z=>by omega⟩
 rename_i q3 q4
 have q4:(A2z pr.st).1=0:=by simpa using q4
 obtain⟨p1,p2⟩:=D0t q4
 have p3:=I.b4 hk hp (by omega) (by omega)
 split
 ·rename_i ht
  obtain⟨v,h1,h2,h3⟩:=A5m ht
  rw[h3]
  have hs:stx S x=pr.st:=by unfold stx;rw[h2,p3]
  have hv:=A7m h1
  rw[p2]at hv
  generalize he:({Ev.zero with kind:=6,cell:=x,gen:=(A2z pr.st).2.g}:Ev)=e
  have o:=B7e hin v (({S with words:=stw S.words (2*x) v}:WS).tell e) rfl rfl
  have es:=A9b w hin hv (({S with words:=stw S.words (2*x) v}:WS).tell e) rfl
  have lg:(({S with words:=stw S.words (2*x) v}:WS).tell e).log=S.log++[{e with tick:=S.now}]:=rfl
  have g0:A1c (({S with words:=stw S.words (2*x) v}:WS).tell e).log=A1c S.log:=by rw[lg,B7f,←he];rfl
  have hok:E0s S.c (A1c S.log) {e with tick:=S.now}:=by
   subst he
   exact⟨fun q=>absurd q (by dsimp only;decide),fun q=>absurd q (by dsimp only;decide),fun q=>absurd q (by dsimp only;decide)⟩
  have k:=H2s w hin o (by rw[hs];unfold St.live;rw[p1];rfl) (by rw[es,hs]) (by rw[es,hs]) (by rw[es,hs];unfold St.loose;rw[p1];rfl) (by rw[es,hs];unfold St.held;rw[p1];rfl) g0 (by rw[lg];exact B2a _ _ _ _ w.log hok)
  exact⟨⟨k.1,k.2 _ _⟩,mk _ _ 1 _ _ rfl fun z=>by omega⟩
 ·exact⟨h0,mk S _ _ _ _ rfl fun _ z=>by omega⟩
theorem C6t{s:St}(h:(A1k s).1=0):(s.loose=true∧(A1k s).2={s with k:=6})∨(s.held=true∧(A1k s).2={s with f:=true}):=by
 unfold A1k at h⊢
 split at h
 ·rename_i q;rw[Q3 q];exact .inl ⟨by unfold St.loose;simpa using q,rfl⟩
 ·rename_i q
  rw[Q0 q]
  split at h
  ·rename_i r;rw[Q3 r];exact .inr ⟨by unfold St.held;simpa using r,rfl⟩
  ·exact absurd h (by decide)
theorem G7r{S:WS}{pr:PrS}{se:A0l}(w:WI S){x:Int}(hin:InC S.c x)(hd:0≤pr.done)(h:pr.done=0→pr.st=A0i pr.word)(part:Int):
  Left S (A2d x pr se S).2 part∧(A2d x pr se S).2.c=S.c∧(A2d x pr se S).1.a=pr.a:=by
 have h0:=(A1s.refl S).left w part
 unfold A2d
 split
 ·exact⟨h0,rfl,rfl⟩
 split
 ·exact⟨h0,rfl,rfl⟩
 split
 ·exact⟨h0,rfl,rfl⟩
 split
 ·exact⟨h0,rfl,rfl⟩
 rename_i q1 q2 q3 q4
 have h:=h (by omega)
 have q4:(S.turn x pr.word (A1k pr.st).2).1=true:=by simpa using q4
 have q2:B3d pr se≠0∧pr.st.g=B3d pr se∧(A1k pr.st).1=0:=by omega
 obtain⟨v,h1,h2,h3⟩:=A5m q4
 rw[h3]
 have hs:stx S x=pr.st:=by unfold stx;rw[h2,h]
 have hv:=A7m h1
 have ho:∀e,C2o S (({S with words:=stw S.words (2*x) v}:WS).tell e) x:=fun e=>B7e hin v _ rfl rfl
 have hes:∀e,stx (({S with words:=stw S.words (2*x) v}:WS).tell e) x=(A1k pr.st).2:=fun e=>A9b w hin hv _ rfl
 rcases C6t q2.2.2 with⟨c1,c2⟩|⟨c1,c2⟩
 ·have cf:(A1k pr.st).2.f=false:=by rw[c2];simpa using q3
  rw[cf,Q0 (by decide)]
  refine⟨?_,rfl,rfl⟩
  have k:=endL w hin (ho {Ev.zero with kind:=3,cell:=x,gen:=B3d pr se}) (by rw[hs];exact c1) (by rw[hes,hs,c2]) (by rw[hes,c2];rfl) rfl (.inr (.inl rfl)) rfl (by rw[hs];exact q2.2.1.symm) (fun q=>absurd q (by dsimp only;decide))
  exact⟨k.1,k.2 _ _⟩
 ·have cf:(A1k pr.st).2.f=true:=by rw[c2]
  rw[cf,Q3 rfl]
  refine⟨?_,rfl,rfl⟩
  have hok:E0s S.c (A1c S.log) {({Ev.zero with kind:=4,cell:=x,gen:=B3d pr se}:Ev)with tick:=S.now}:=
   ⟨fun q=>absurd q (by dsimp only;decide),fun q=>absurd q (by dsimp only;decide),fun q=>absurd q (by dsimp only;decide)⟩
  have lo:pr.st.loose=false:=by cases e:pr.st.loose with
   |false=>rfl
   |true=>rw[St.A5c e]at c1;cases c1
  have k:=H2s w hin (ho {Ev.zero with kind:=4,cell:=x,gen:=B3d pr se}) (by rw[hs];exact St.B4h c1) (by rw[hes,hs,c2]) (by rw[hes,hs,c2]) (by rw[hes,hs,c2];rfl) (by rw[hes,hs,c2];rfl) (by show A1c (S.log++_)=_;rw[B7f];rfl) (B2a _ _ _ _ w.log hok)
  exact⟨k.1,k.2 _ _⟩
theorem A3j.kind{S:WS}{part:Int}{pr:PrS}(h1:pr.a.kind≠1)(h2:pr.a.kind≠2):A3j S part pr:=
 ⟨fun q=>absurd q h1,fun q=>absurd q h1,fun q=>absurd q h1,fun q=>absurd q h1,fun q=>absurd q h1,fun q=>absurd q h2,fun q=>absurd q h2⟩
theorem G1a{S:WS}{pr:PrS}{se:A0l}(hc:S.c.ok)(w:WI S)(I:A3j S se.part pr)(hk:pr.a.kind=2)(hp:0≤pr.pc)(hd:0≤pr.done):
  Left S (A0s (A0f S.c se.part pr.a.cell) pr se S).S se.part∧((A0s (A0f S.c se.part pr.a.cell) pr se S).r=none→A3j (A0s (A0f S.c se.part pr.a.cell) pr se S).S se.part (A0s (A0f S.c se.part pr.a.cell) pr se S).pr):=by
 have h0:=(A1s.refl S).left w se.part
 have hk1:∀k,k=pr.a.kind→k=1→False:=fun k q r=>by omega
 generalize hx:A0f S.c se.part pr.a.cell=x
 have mk:∀(S':WS) (p:PrS),S'.c=S.c→p.a=pr.a→0≤x→(p.pc=2∨p.pc=4∨p.pc=6→p.done=0→p.st=A0i p.word)→A3j S' se.part p:=by
  intro S' p e1 e2 e3 e4
  have n1:p.a.kind=1→False:=fun q=>by rw[e2]at q;omega
  exact⟨fun q=>(n1 q).elim,fun q=>(n1 q).elim,fun q=>(n1 q).elim,fun q=>(n1 q).elim,fun q=>(n1 q).elim,fun _ _=>by rw[e1,e2,hx];exact e3,fun _=>e4⟩
 unfold A0s
 split
 ·rename_i hpc
  split
  ·exact⟨h0,fun q=>by cases q⟩
  ·exact⟨h0,fun _=>mk S _ rfl rfl (by omega) fun q=>by dsimp only[A5p]at q;omega⟩
 rename_i p0
 have hx0:0≤x:=by rw[←hx];exact I.k1 hk (by omega)
 split
 ·refine⟨h0,fun _=>mk S _ rfl ?_ hx0 fun _ q=>?_⟩
  ·dsimp only[A5p];split<;>rfl
  ·dsimp only[A5p]at q⊢
   split at q
   ·rename_i q1;rw[Q3 q1]
   ·rename_i q1;exact absurd q q1
 split
 ·rename_i p1 p2
  have hin:=(A5h hc (by rw[hx];exact hx0:0≤A0f S.c se.part pr.a.cell)).1
  rw[hx]at hin
  obtain⟨k1,k2,k3⟩:=G7r (se:=se) w hin hd (I.k2 hk p2) se.part
  exact⟨k1,fun _=>mk _ _ k2 k3 hx0 fun q=>by dsimp only[A5p]at q;omega⟩
 split
 ·have hs:A1s S (if pr.done=1 then A4r S x pr.st.g S.c.c5 (A5k pr.st pr.at_)else S):=by
   split
   ·exact A6b hc _ _ _ _
   ·exact A1s.refl S
  exact⟨hs.left w _,fun _=>mk _ _ hs.c rfl hx0 fun q=>by dsimp only[A5p]at q;omega⟩
 ·exact⟨h0,fun q=>by cases q⟩
def A8u(c:Cf)(o:Option A0a)(y:Int):Prop:=∃P,o=some P∧act c P∧y=P.a.x
structure B5k(S:WS)(o:Option A0a)(T:WS)(o':Option A0a):Prop where
 wi:WI T
 adv:Adv S T (fun _=>False) (A8u S.c o)
 i:∀P,o'=some P→A4o T P
 new:∀P,o'=some P→act S.c P→A8u S.c o P.a.x∨(InC S.c P.a.x∧(stx S P.a.x).loose=true)
theorem Adv.F1p{S S':WS}{own rel own' rel':Int→Prop}(A:Adv S S' own rel)(h1:∀y,own y→own' y)(h2:∀y,rel y→rel' y):Adv S S' own' rel':=
 ⟨A.c,A.mono,A.tms,fun x hx a b=>A.held x hx a fun q=>b (h2 _ q),fun x hx a b=>A.dead x hx a fun q=>b (h1 _ q)⟩
theorem B5k.same{S:WS}{o:Option A0a}(w:WI S)(J:∀P,o=some P→A4o S P):B5k S o S o:=
 ⟨w,(A1s.refl S).adv _ _,J,fun P h a=>.inl ⟨P,h,a,rfl⟩⟩
theorem B5k.step{S:WS}{o:Option A0a}{P:A0a}(hc:S.c.ok)(w:WI S)(J:A4o S P)(hr:act S.c P→A8u S.c o P.a.x):B5k S o (A1h P S).2 (some (A1h P S).1):=by
 have k:=B4j hc w J
 refine⟨k.wi,k.adv.F1p (fun _ q=>q) fun y q=>by rw[q.2];exact hr q.1,fun Q e=>by cases e;exact k.i,fun Q e a=>?_⟩
 cases e
 rw[k.a]
 exact(k.new a).imp hr id
theorem E1i{S:WS}{pr:PrS}{o:Option A0a}{ss:A0k}{po:A0e}(hc:S.c.ok)(w:WI S)(J:∀P,o=some P→A4o S P):
  B5k S o (A1v pr o ss po S).S (A1v pr o ss po S).o∧((A1v pr o ss po S).b=false→(A1v pr o ss po S).S=S):=by
 have hnew:∀(n:Int) (a:Aim) (ss:A0k) (po:A0e),B5k S o (A2e n (some (A0a.new a)) ss po S).S (A2e n (some (A0a.new a)) ss po S).o∧((A2e n (some (A0a.new a)) ss po S).b=false→(A2e n (some (A0a.new a)) ss po S).S=S):=by
  intro n a ss po
  unfold A2e
  dsimp only
  rw[Q0 (show ¬(A0a.new a).pc≥14 by show ¬(0:Int)≥14;decide)]
  exact⟨B5k.step hc w (A4o.new S a) fun q=>(B2z _ _ q).elim,fun q=>by cases q⟩
 unfold A1v
 split
 ·split
  ·exact hnew _ _ _ _
  ·exact hnew _ _ _ _
 ·unfold A2e
  cases o with
  |none=>exact⟨.same w J,fun _=>rfl⟩
  |some P=>
   dsimp only
   split
   ·exact⟨.same w J,fun _=>rfl⟩
   ·exact⟨B5k.step hc w (J P rfl) fun q=>⟨P,rfl,q,rfl⟩,fun q=>by cases q⟩
structure G2n(S:WS)(part:Int)(o:Option A0a)(R:StA):Prop where
 wi:WI R.S
 adv:Adv S R.S (fun y=>A5f S.c y=part) (A8u S.c o)
 i:R.r=none→∀P,R.o=some P→A4o R.S P
 new:R.r=none→∀P,R.o=some P→act S.c P→A8u S.c o P.a.x∨(InC S.c P.a.x∧(stx S P.a.x).loose=true)
 prog:R.r=none→A3j R.S part R.pr
theorem Left.k{S:WS}{part:Int}{o:Option A0a}{R:StA}(h:Left S R.S part)(J:∀P,o=some P→A4o S P)(ho:R.o=o)(hp:R.r=none→A3j R.S part R.pr):G2n S part o R:=
 ⟨h.1,h.2.F1p (fun _ q=>q) fun _ q=>q.elim,fun _ P e=>(J P (by rw[←ho];exact e)).adv h.2 fun _ q=>q,fun _ P e a=>.inl ⟨P,by rw[←ho];exact e,a,rfl⟩,hp⟩
theorem C0v{S:WS}{pr:PrS}{o:Option A0a}{se:A0l}{ss:A0k}{po:A0e}(hc:S.c.ok)(w:WI S)(I:A3j S se.part pr)(J:∀P,o=some P→A4o S P)(hp:0≤pr.pc)(hd:0≤pr.done):
  G2n S se.part o (A2k pr o se ss po S):=by
 have h0:=(A1s.refl S).left w se.part
 unfold A2k
 split
 ·rename_i hk
  unfold A9a
  split
  ·rename_i hpc
   have k:=G6l hc w I hk ⟨hp,hpc⟩
   exact k.1.k J rfl k.2
  ·rename_i hpc
   obtain⟨k,kb⟩:=E1i (pr:=pr) (ss:=ss) (po:=po) hc w J
   generalize A1v pr o ss po S=T at*
   have cS:A0f T.S.c se.part pr.a.cell=A0f S.c se.part pr.a.cell:=by rw[k.adv.c]
   unfold B1d
   split
   ·exact⟨k.wi,k.adv.F1p (fun _ q=>q.elim) fun _ q=>q,fun _=>k.i,fun _=>k.new,fun _=>(I.adv hc k.adv fun _ _ q=>q).n T.n⟩
   ·rename_i hb
    have hb:T.b=false:=by simpa using hb
    have eS:=kb hb
    have r:=F5l (pr:={pr with n:=T.n}) hc w (I.n T.n) hk (by show 4≤pr.pc;omega) hd
    have kj:=k.i
    rw[eS]at kj⊢
    have f:∀R:StA,R.S=(A1e (A0f S.c se.part pr.a.cell) {pr with n:=T.n} S).2.2→R.pr=(A1e (A0f S.c se.part pr.a.cell) {pr with n:=T.n} S).2.1→R.o=T.o→G2n S se.part o R:=by
     intro R e1 e2 e3
     have r2:Adv S R.S (fun y=>A5f S.c y=se.part) (fun _=>False):=by rw[e1];exact r.1.2
     exact⟨by rw[e1];exact r.1.1,r2.F1p (fun _ q=>q) fun _ q=>q.elim,fun _ P e=>(kj P (by rw[←e3];exact e)).adv r2 fun _ q=>q,fun _ P e a=>k.new P (by rw[←e3];exact e) a,fun _=>by rw[e1,e2];exact r.2⟩
    split
    ·exact f _ rfl rfl rfl
    ·exact f _ rfl rfl rfl
 split
 ·rename_i hk
  have k:=G1a hc w I hk hp hd
  exact k.1.k J rfl k.2
 split
 ·rename_i n1 n2 hk
  have k:(A1t (A0f S.c se.part pr.a.cell) pr se S).S=S∧(A1t (A0f S.c se.part pr.a.cell) pr se S).pr.a=pr.a:=by
   unfold A1t
   split
   ·exact⟨rfl,rfl⟩
   split
   ·exact⟨rfl,rfl⟩
   split
   ·split
    ·exact⟨rfl,rfl⟩
    ·exact⟨rfl,rfl⟩
   split
   ·exact⟨rfl,rfl⟩
   ·exact⟨rfl,rfl⟩
  refine Left.k ?_ J rfl fun _=>A3j.kind ?_ ?_
  ·show Left S (A1t _ pr se S).S se.part
   rw[k.1];exact h0
  ·show(A1t _ pr se S).pr.a.kind≠1
   rw[k.2];exact n1
  ·show(A1t _ pr se S).pr.a.kind≠2
   rw[k.2];exact n2
 split
 ·rename_i n1 n2 _ hk
  have k:(A1q pr se S).S=S∧(A1q pr se S).pr.a=pr.a:=by
   unfold A1q
   split
   ·exact⟨rfl,rfl⟩
   split
   ·exact⟨rfl,rfl⟩
   ·exact⟨rfl,rfl⟩
  refine Left.k ?_ J rfl fun _=>A3j.kind ?_ ?_
  ·show Left S (A1q pr se S).S se.part
   rw[k.1];exact h0
  ·show(A1q pr se S).pr.a.kind≠1
   rw[k.2];exact n1
  ·show(A1q pr se S).pr.a.kind≠2
   rw[k.2];exact n2
 ·exact Left.k h0 J rfl fun q=>by cases q
section
structure Part(G:Nat→Option D)(L:List D)(lab:Nat→Nat)(w m k:Nat)(S:WS)(za swa rea:List Nat)(ss:List A0w)(sw:List (SwS × Option A0a))(re:List ReS):Prop where
 W:InW L w m k S
 l0:lab w=0∧lab m=0∧lab k=0
 zl:za.length=ss.length
 swl:swa.length=sw.length
 rel:rea.length=re.length
 ss:∀i x z,ss[i]?=some x→za[i]?=some z→∀pl,B5t L lab (4*i+1) pl z x
 sw:∀i x z,sw[i]?=some x→swa[i]?=some z→E6c L lab (4*i+2) z x
 re:∀i x z,re[i]?=some x→rea[i]?=some z→E7x L lab (4*i+3) z x
 pre:∀b x,G b=some x→b<L.length∧lab b=4∧L.getD b D.nil=x
section
variable{G:Nat→Option D}{L L':List D}{lab:Nat→Nat}{w m k:Nat}{S:WS}{za swa rea:List Nat}{ss:List A0w}{sw:List (SwS × Option A0a)}{re:List ReS}(Q:Part G L lab w m k S za swa rea ss sw re)
include Q
theorem Part.fr(n:Nat)(F:Fr L L' (fun _=>False)):Part G L' (A4d lab n L) w m k S za swa rea ss sw re:=by
 obtain⟨h1,h2,h3⟩:=Q.W.lt
 obtain⟨l1,l2,l3⟩:=Q.l0
 exact⟨Q.W.fr F not_false not_false not_false,by rw[A2t F h1,A2t F h2,A2t F h3];exact⟨l1,l2,l3⟩,Q.zl,Q.swl,Q.rel,fun i x z hx hz pl=>(Q.ss i x z hx hz pl).fr F (fun _ _ _=>not_false),fun i x z hx hz=>(Q.sw i x z hx hz).fr F (fun _ _ _=>not_false),fun i x z hx hz=>(Q.re i x z hx hz).fr F (fun _ _ _=>not_false),fun b x hb=>⟨bC (Q.pre b x hb).1 F.1,by rw[A2t F (Q.pre b x hb).1];exact(Q.pre b x hb).2.1,(F.2 b (Q.pre b x hb).1 not_false).trans (Q.pre b x hb).2.2⟩⟩
theorem D9l{α:Type}{l:List α}{x y:α}{i:Nat}(h:(l++[x])[i]?=some y):l[i]?=some y∨(i=l.length∧x=y):=by
 rcases bJ i l.length with hi|hi
 ·rw[aO hi]at h;exact .inl h
 ·rw[List.getElem?_append_right hi]at h
  rcases Nat.eq_or_lt_of_le hi with he|he
  ·subst he
   simp at h
   exact .inr ⟨rfl,h⟩
  ·rw[aS (by simp;omega)]at h;cases h
theorem E7u{α:Type}{l:List α}{y:α}{i:Nat}(h:l[i]?=some y):i<l.length:=by
 rcases bJ i l.length with hi|hi
 ·exact hi
 ·rw[aS hi]at h;cases h
theorem Part.addS(x:A0w)(hx:x.now=none):Part G ((L++[D.agg x.se.ds])++[D.agg (x.raw (.int (L.length:Nat)) .nil).ds]) (A4d lab (4*za.length+1) L) w m k S (za++[L.length+1]) swa rea (ss++[x]) sw re:=by
 have F:Fr L ((L++[D.agg x.se.ds])++[D.agg (x.raw (.int (L.length:Nat)) .nil).ds]) (fun _=>False):=(Fr.snoc L _ _).trans (Fr.snoc _ _ _)
 have Q1:=Q.fr (4*za.length+1) F
 refine⟨Q1.W,Q1.l0,by simp[Q.zl],Q1.swl,Q1.rel,fun i y z hy hz pl=>?_,Q1.sw,Q1.re,Q1.pre⟩
 rcases D9l Q hy with hy|⟨hi,hy⟩
 ·have hz':za[i]?=some z:=by
   have:=E7u Q hy
   rw[aO (by rw[Q.zl];exact this)]at hz;exact hz
  exact Q1.ss i y z hy hz' pl
 ·subst hy
  have hi':i=za.length:=by rw[Q.zl];exact hi
  subst hi'
  simp at hz
  subst hz
  have e1:(L++[D.agg x.se.ds]).length=L.length+1:=by simp
  have g1:((L++[D.agg x.se.ds])++[D.agg (x.raw (.int (L.length:Nat)) .nil).ds]).getD (L.length+1) D.nil=.agg (x.raw (.int (L.length:Nat)) .nil).ds:=by
   have:=A5o (L++[D.agg x.se.ds]) (D.agg (x.raw (.int (L.length:Nat)) .nil).ds)
   rw[e1]at this;exact this
  have g2:((L++[D.agg x.se.ds])++[D.agg (x.raw (.int (L.length:Nat)) .nil).ds]).getD L.length D.nil=.agg x.se.ds:=by
   rw[C8z (by simp)];exact A5o L _
  have hl:∀b,L.length≤b→A4d lab (4*za.length+1) L b=4*za.length+1:=fun b hb=>Q0 (by omega)
  refine⟨L.length,L.length+1,L.length+1,.nil,g1,g2,?_,⟨hl _ (by omega),hl _ (by omega),hl _ (by omega),hl _ (by omega)⟩,by simp,by simp⟩
  rw[hx]
theorem Part.addW(x:SwS × Option A0a)(y:ReS)(hx:x.2=none)(he:swa.length=rea.length):
  Part G ((L++[D.agg (x.1.at .nil).ds])++[D.agg y.ds]) (fun b=>if b<L.length then lab b else if b=L.length then 4*swa.length+2 else 4*swa.length+3) w m k S za (swa++[L.length]) (rea++[L.length+1]) ss (sw++[x]) (re++[y]):=by
 have F1:Fr L (L++[D.agg (x.1.at .nil).ds]) (fun _=>False):=Fr.snoc L _ _
 have F2:Fr (L++[D.agg (x.1.at .nil).ds]) ((L++[D.agg (x.1.at .nil).ds])++[D.agg y.ds]) (fun _=>False):=Fr.snoc _ _ _
 have Q2:=(Q.fr (4*swa.length+2) F1).fr (4*swa.length+3) F2
 have e1:(L++[D.agg (x.1.at .nil).ds]).length=L.length+1:=by simp
 have hlab:A4d (A4d lab (4*swa.length+2) L) (4*swa.length+3) (L++[D.agg (x.1.at .nil).ds])=(fun b=>if b<L.length then lab b else if b=L.length then 4*swa.length+2 else 4*swa.length+3):=by
  funext b
  unfold A4d
  rw[e1]
  by_cases h1:b<L.length
  ·have h2:b<L.length+1:=by omega
   simp only[h1,h2,Q5]
  ·by_cases h2:b=L.length
   ·have h3:b<L.length+1:=by omega
    simp only[h1,h2,h3,Q5,Q4,bG,Nat.lt_succ_self]
   ·have h3:¬b<L.length+1:=by omega
    simp only[h1,h2,h3,Q4]
 rw[hlab]at Q2
 have g1:((L++[D.agg (x.1.at .nil).ds])++[D.agg y.ds]).getD (L.length+1) D.nil=.agg y.ds:=by
  have:=A5o (L++[D.agg (x.1.at .nil).ds]) (D.agg y.ds)
  rw[e1]at this;exact this
 have g2:((L++[D.agg (x.1.at .nil).ds])++[D.agg y.ds]).getD L.length D.nil=.agg (x.1.at .nil).ds:=by
  rw[C8z (by simp)];exact A5o L _
 refine⟨Q2.W,Q2.l0,Q2.zl,by simp[Q.swl],by simp[Q.rel],Q2.ss,fun i z a hz ha=>?_,fun i z a hz ha=>?_,Q2.pre⟩
 ·rcases D9l Q hz with hz|⟨hi,hz⟩
  ·have ha':swa[i]?=some a:=by
    have:=E7u Q hz
    rw[aO (by rw[Q.swl];exact this)]at ha;exact ha
   exact Q2.sw i z a hz ha'
  ·subst hz
   have hi':i=swa.length:=by rw[Q.swl];exact hi
   subst hi'
   simp at ha
   subst ha
   refine⟨L.length,.nil,g2,?_,⟨?_,?_⟩,by simp⟩
   ·rw[hx];rfl
   ·show(if L.length<L.length then lab L.length else if L.length=L.length then 4*swa.length+2 else 4*swa.length+3)=_
    rw[Q0 (bG _),Q3 rfl]
   ·show(if L.length<L.length then lab L.length else if L.length=L.length then 4*swa.length+2 else 4*swa.length+3)=_
    rw[Q0 (bG _),Q3 rfl]
 ·rcases D9l Q hz with hz|⟨hi,hz⟩
  ·have ha':rea[i]?=some a:=by
    have:=E7u Q hz
    rw[aO (by rw[Q.rel];exact this)]at ha;exact ha
   exact Q2.re i z a hz ha'
  ·subst hz
   have hi':i=rea.length:=by rw[Q.rel];exact hi
   subst hi'
   simp at ha
   subst ha
   refine⟨g1,?_⟩
   show(if L.length+1<L.length then lab (L.length+1)else if L.length+1=L.length then 4*swa.length+2 else 4*swa.length+3)=_
   rw[Q0 (by omega),Q0 (by omega),he]
theorem Part.done(P:A0h)(hS:P.S=S)(h1:P.A0c=ss)(h2:P.sw=sw)(h3:P.re=re):
  Enc G (L++[D.agg (P.raw (.int (w:Nat)) (A0p za) (A0p swa) (A0p rea)).ds]) (A4d lab 0 L) L.length w m k za swa rea P:=by
 have F:Fr L (L++[D.agg (P.raw (.int (w:Nat)) (A0p za) (A0p swa) (A0p rea)).ds]) (fun _=>False):=Fr.snoc L _ _
 have Q1:=Q.fr 0 F
 obtain⟨l1,l2,l3⟩:=Q1.l0
 subst h1 h2 h3
 exact⟨by rw[hS];exact Q1.W,A5o L _,⟨Q0 (bG _),l1,l2,l3⟩,Q1.zl,Q1.swl,Q1.rel,fun i x z hx hz=>Q1.ss i x z hx hz _,Q1.sw,Q1.re,Q1.pre⟩
end
theorem E8h(l:List Nat)(x:Nat):A0p l++[.int (x:Int)]=A0p (l++[x]):=by simp[A0p]
theorem B9v(l:List Nat):(A0p l).length=l.length:=by simp[A0p]
section
variable(c:Cf)(hc:c.ok)
include hc
theorem E9g{G:Nat→Option D}{w m k:Nat}{za:List Nat}{ss:List A0w}(x0 x1 x2 x3 x4 x5 x6 x7 x8 x9 x10 x11 x12 x13 x14 x15 x16 x17 x18 x19 x20 x21 x22 x23:D)(g0:Eng.Fn):∀(d j:Nat) (L:List D) (lab:Nat→Nat) (swa rea:List Nat),(j+d:Int)=A2a c→
  Part G L lab w m k (B0l c) za swa rea ss ((aI j).map fun(i:Nat)=>B3k i) ((aI j).map fun(i:Nat)=>C2w i)→
  ∃L' lab' pl swa' rea',B8e x0 x1 x2 x3 x4 x5 x6 x7 x8 x9 x10 x11 x12 x13 x14 x15 x16 x17 x18 x19 x20 x21 x22 x23 (.int (A2a c)) g0 [.int (j:Nat),.int (w:Nat),.int 0,.agg (A0p za),.agg (A0p swa),.agg (A0p rea),.agg L]=some [.int (pl:Nat),.nil,.agg L']∧
   Enc G L' lab' pl w m k za swa' rea' {A1x c with A0c:=ss}
 |0,j,L,lab,swa,rea,h,Q=>by
  have h1:¬(j:Int)<A2a c:=by omega
  have h2:(A2a c).toNat=j:=by omega
  rw[C6z]
  simp only[D.toInt_int,D.A0j,h1,Q7,a5,Q4]
  have E:=Q.done {A1x c with A0c:=ss} rfl rfl (by show(A1x c).sw=_;unfold A1x;rw[h2]) (by show(A1x c).re=_;unfold A1x;rw[h2])
  exact⟨_,_,L.length,swa,rea,rfl,E⟩
 |d+1,j,L,lab,swa,rea,h,Q=>by
  have hs:=A6d c hc
  have h1:(j:Int)<A2a c:=by omega
  have ls:swa.length=j:=by rw[Q.swl];simp
  have lr:rea.length=j:=by rw[Q.rel];simp
  have Q1:=Q.addW (B3k (j:Nat)) (C2w (j:Nat)) rfl (by rw[ls,lr])
  have e1:((aI j).map fun(i:Nat)=>B3k i)++[B3k (j:Nat)]=(aI (j+1)).map fun(i:Nat)=>B3k i:=by simp[aX]
  have e2:((aI j).map fun(i:Nat)=>C2w i)++[C2w (j:Nat)]=(aI (j+1)).map fun(i:Nat)=>C2w i:=by simp[aX]
  rw[e1,e2]at Q1
  obtain⟨L',lab',pl,swa',rea',n1,E⟩:=E9g x0 x1 x2 x3 x4 x5 x6 x7 x8 x9 x10 x11 x12 x13 x14 x15 x16 x17 x18 x19 x20 x21 x22 x23 g0 d (j+1) _ _ _ _ (by omega) Q1
  have ns:FX 51 [.int (j:Nat),.agg L]=some [.int (L.length:Nat),.agg (L++[D.agg ((B3k (j:Nat)).1.at .nil).ds])]:=by
   rw[D5o]
   simp only[D.A0j];rfl
  have nr:FX 52 [.int (j:Nat),.agg (L++[D.agg ((B3k (j:Nat)).1.at .nil).ds])]=some [.int (L.length+1:Nat),.agg ((L++[D.agg ((B3k (j:Nat)).1.at .nil).ds])++[D.agg (C2w (j:Nat)).ds])]:=by
   rw[D8c]
   simp only[D.A0j,aR,aB,aD];rfl
  have b1:((A0p (swa++[L.length])).length:Int)≤17592186044416:=by rw[B9v];simp;omega
  have b2:((A0p (rea++[L.length+1])).length:Int)≤17592186044416:=by rw[B9v];simp;omega
  rw[C6z]
  simp only[D.toInt_int,D.A0j,h1,Q6,Q5,ns,A0n,aB,aD,aE,aH,E8h,b1,E5k,nr,b2,E4w]
  rw[A0v _ (by omega) (by omega)]
  exact⟨L',lab',pl,swa',rea',n1,E⟩
theorem E8s{G:Nat→Option D}{w m k:Nat}(x0 x1 x2 x3 x4 x5 x6 x7 x15 x16 x17 x18:D):∀(d j:Nat) (L:List D) (lab:Nat→Nat) (za:List Nat),(j+d:Int)=c.c0→
  Part G L lab w m k (B0l c) za [] [] ((aI j).map fun(i:Nat)=>A3s c i) [] []→
  ∃L' lab' pl za' swa' rea',B0y x0 x1 x2 x3 x4 x5 x6 x7 (.int c.c0) (.int c.c1) (.int c.c2) (.int c.c3) (.int c.c4) (.int c.c5) (.int c.c6) x15 x16 x17 x18 [.int (j:Nat),.int (w:Nat),.int 0,.agg (A0p za),.agg L]=some [.int (pl:Nat),.nil,.agg L']∧
   Enc G L' lab' pl w m k za' swa' rea' (A1x c)
 |0,j,L,lab,za,h,Q=>by
  have hs:=A6d c hc
  have h1:¬(j:Int)<c.c0:=by omega
  have h2:c.c0.toNat=j:=by omega
  have hsh:FX 15 [.int c.c0,.int c.c1,.int c.c2,.int c.c3,.int c.c4,.int c.c5,.int c.c6]=some [.int (A2a c)]:=D4x c hc
  have key:=fun x16 x17 x18 x19 x20 x21 x22 x23 g0=>E9g c hc (w:=w) (m:=m) (k:=k) (za:=za) (ss:=(aI j).map fun(i:Nat)=>A3s c i) x0 x1 x2 x3 x4 x5 x6 x7 (.int c.c0) (.int c.c1) (.int c.c2) (.int c.c3) (.int c.c4) (.int c.c5) (.int c.c6) x15 x16 x17 x18 x19 x20 x21 x22 x23 g0 (A2a c).toNat 0 L lab [] [] (by omega) Q
  rw[C6v]
  simp only[D.toInt_int,D.A0j,h1,Q7,a5,Q4,hsh,A0n,aB,aD,aE]
  obtain⟨L',lab',pl,swa',rea',n1,E⟩:=key x16 x17 x18 (.int (j:Nat)) (.int (w:Nat)) (.int 0) (.agg (A0p za)) (.agg L) (B0y x0 x1 x2 x3 x4 x5 x6 x7 (.int c.c0) (.int c.c1) (.int c.c2) (.int c.c3) (.int c.c4) (.int c.c5) (.int c.c6) x15 x16 x17 x18)
  refine⟨L',lab',pl,za,swa',rea',n1,?_⟩
  have e:({A1x c with A0c:=(aI j).map fun(i:Nat)=>A3s c i}:A0h)=A1x c:=by unfold A1x;rw[h2]
  rw[e]at E
  exact E
 |d+1,j,L,lab,za,h,Q=>by
  have hc0:=hc.1
  have h1:(j:Int)<c.c0:=by omega
  have lz:za.length=j:=by rw[Q.zl];simp
  have Q1:=Q.addS (A3s c (j:Nat)) rfl
  have e1:((aI j).map fun(i:Nat)=>A3s c i)++[A3s c (j:Nat)]=(aI (j+1)).map fun(i:Nat)=>A3s c i:=by simp[aX]
  rw[e1]at Q1
  obtain⟨L',lab',pl,za',swa',rea',n1,E⟩:=E8s x0 x1 x2 x3 x4 x5 x6 x7 x15 x16 x17 x18 d (j+1) _ _ _ (by omega) Q1
  have ns:=H1m c hc (j:Nat) L
  have b1:((A0p (za++[L.length+1])).length:Int)≤17592186044416:=by rw[B9v];simp;omega
  have eobj:D.agg [.int (L.length:Nat),.agg [],.nil,.int (-1),.agg [],.int 0]=.agg ((A3s c (j:Nat)).raw (.int (L.length:Nat)) .nil).ds:=rfl
  have es:A7r (j:Nat) c.c1.toNat=(A3s c (j:Nat)).se:=rfl
  have el:(L++[D.agg (A3s c (j:Nat)).se.ds]).length=L.length+1:=by simp
  rw[C6v]
  simp only[D.toInt_int,D.A0j,h1,Q6,Q5,ns,es,A0n,aB,aD,aE,aH,el,E8h,b1,E3u,eobj]
  rw[A0v _ (by omega) (by omega)]
  exact⟨L',lab',pl,za',swa',rea',n1,E⟩
theorem F9m(L:List D):∃L' lab pl w m k za swa rea,FX 32 [.int c.c0,.int c.c1,.int c.c2,.int c.c3,.int c.c4,.int c.c5,.int c.c6,.agg L]=some [.int (pl:Nat),.nil,.agg L']∧Enc (Gl L) L' lab pl w m k za swa rea (A1x c):=by
 have hc0:=hc.1
 have n1:=E6i c hc
 obtain⟨L1,n2,hl,W1,F1⟩:=H5l c hc L
 have hl1:∀b,L.length≤b→(if b<L.length then 4 else 0)=0:=fun b hb=>Q0 (by omega)
 have Q:Part (Gl L) L1 (fun b=>if b<L.length then 4 else 0) (L.length+2) L.length (L.length+1) (B0l c) [] [] [] ((aI 0).map fun(i:Nat)=>A3s c i) [] []:=
  ⟨W1,⟨hl1 _ (by omega),hl1 _ (by omega),hl1 _ (by omega)⟩,rfl,rfl,rfl,(fun i x z hx=>by cases hx),(fun i x z hx=>by cases hx),(fun i x z hx=>by cases hx),fun b x hb=>by
   unfold Gl at hb
   split at hb
   ·rename_i h;cases hb;exact⟨bC h F1.1,Q3 h,F1.2 b h not_false⟩
   ·cases hb⟩
 obtain⟨L',lab',pl,za',swa',rea',n3,E⟩:=E8s c hc (.int c.c0) (.int c.c1) (.int c.c2) (.int c.c3) (.int c.c4) (.int c.c5) (.int c.c6) (.agg L) .nil (.int (L.length+2:Nat)) .nil (.agg L1) c.c0.toNat 0 L1 _ [] (by omega) Q
 refine⟨L',lab',pl,L.length+2,L.length,L.length+1,za',swa',rea',?_,E⟩
 rw[G3l,n1]
 simp only[A0n,aB,aD,aE,aH,B5l,a8,a5,Q4,n2]
 exact n3
theorem C3i:A2i (A1x c) 0:=by
 have hal:=A4q c hc
 have hs:=A6d c hc
 have hpos:0<A0o c*A0o c:=bT (by omega) (by omega)
 have z:In 0:=In.lit (by decide)
 have hc0:=hc.1
 have hc1:=hc.2.1
 have hf:=A9p hc
 have hg:=C3z hc
 refine⟨⟨⟨hc,fun x hx=>?_,bH _,by have:=E6b c hc;simp[A1x,B0l];omega⟩,fun x hx=>?_,fun x hx=>?_,fun x hx=>?_,bD _,bD _,bD _,fun o ho=>(by cases ho)⟩,rfl,rfl,by simp[A1x],by simp[A1x];omega,by simp[A1x];omega⟩
 ·have:=aV hx
  omega
 ·obtain⟨i,hi,rfl⟩:=b0.1 hx
  refine⟨⟨by simp[A3s,A7r];show max c.c1 0=c.c1;omega,by simp[A3s,A7r];show max c.c1 0=c.c1;omega,by simp[A3s,A7r];show max c.c1 0=c.c1;omega,fun y hy=>?_⟩,⟨bK 0,bK 0⟩,fun d hd=>(by cases hd),bD _,fun q hq=>(by cases hq),bD _,fun pr o hh=>(by cases hh)⟩
  have:=aV hy
  subst this
  show(0≤(1:Int)∧(1:Int)≤c.c6+1)∧0≤(0:Int)∧(0:Int)≤c.c5
  omega
 ·obtain⟨i,hi,rfl⟩:=b0.1 hx
  exact⟨⟨bK 0,hpos⟩,fun P' hP'=>by cases hP'⟩
 ·obtain⟨i,hi,rfl⟩:=b0.1 hx
  have t:Tm.zero.sm:=by unfold Tm.sm Tm.zero;decide
  have h4:(0:Int)≤0∧(0:Int)<4*A0o c:=by omega
  exact⟨h4,by show 0<_;decide,St.A9r,t,z⟩
end
end
structure ReI(S:WS)(re:ReS):Prop where
 st:re.pc%4=1∨re.pc%4=2→re.st=A0i re.word∧re.st.g≤(stx S (re.pc/4)).g
 tm:re.pc%4=2→(stx S (re.pc/4)).live=true→(stx S (re.pc/4)).g=re.st.g→re.tm=tmx S (re.pc/4)
theorem G0m{re:ReS}{c:Cf}(h:B6l re c):InC c (re.pc/4):=by
 have:=h.pc
 unfold InC;omega
theorem ReI.adv{S S':WS}{re:ReS}{own rel:Int→Prop}(h:ReI S re)(hr:B6l re S.c)(A:Adv S S' own rel):ReI S' re:=by
 have hx:=G0m hr
 refine⟨fun q=>⟨(h.st q).1,bQ (h.st q).2 (A.mono _ hx)⟩,fun q a b=>?_⟩
 obtain⟨k1,k2,k3⟩:=A.tms _ hx a (by rw[b];exact(h.st (.inr q)).2)
 rw[k3];exact h.tm q k1 (by rw[←k2];exact b)
theorem reN{S:WS}{r:ReS}{c:Cf}(h0:0≤r.pc)(h1:r.pc%4=0∨r.pc%4=1→r.st=A0i r.word∧r.st.g≤(stx S (r.pc/4)).g)
  (h2:r.pc%4=1→(stx S (r.pc/4)).live=true→(stx S (r.pc/4)).g=r.st.g→r.tm=tmx S (r.pc/4)):ReI S (B6f r c):=by
 unfold B6f
 split
 ·exact⟨fun q=>by dsimp only at q;omega,fun q=>by dsimp only at q;omega⟩
 ·have e:∀k,r.pc%4=k→k<3→(r.pc+1)/4=r.pc/4:=fun k a b=>by omega
  refine⟨fun q=>?_,fun q=>?_⟩<;>dsimp only at q⊢
  ·rw[e (r.pc%4) rfl (by omega)];exact h1 (by omega)
  ·rw[e (r.pc%4) rfl (by omega)];exact h2 (by omega)
theorem D4u{s:St}(h:(A1y s).1=0):s.loose=true∧(A1y s).2={s with k:=7}:=by
 unfold A1y at h⊢
 split at h
 ·exact absurd h (by decide)
 ·rename_i q;rw[Q0 q];exact⟨by simpa using q,rfl⟩
theorem D0o{S:WS}{re:ReS}(hc:S.c.ok)(w:WI S)(h:B6l re S.c)(I:ReI S re):
  WI (B6i re S).2∧(∀own rel,Adv S (B6i re S).2 own rel)∧ReI (B6i re S).2 (B6i re S).1:=by
 have hx:=G0m h
 have hp:=h.pc.1
 have s0:=A1s.refl S
 show WI (A6a re S).2∧(∀own rel,Adv S (A6a re S).2 own rel)∧ReI (A6a re S).2 (B6f (A6a re S).1 S.c)
 unfold A6a
 split
 ·rename_i q
  exact⟨w,fun _ _=>s0.adv _ _,reN hp (fun _=>⟨rfl,bK _⟩) fun z=>by dsimp only at z;omega⟩
 split
 ·rename_i q
  exact⟨w,fun _ _=>s0.adv _ _,reN hp (fun _=>I.st (.inl q)) fun _ _ _=>rfl⟩
 split
 ·rename_i p0 p1 q
  have no:∀r:ReS,r.pc=re.pc→∀S',ReI S' (B6f r S.c):=fun r e S'=>reN (by omega) (fun z=>by omega) fun z=>by omega
  unfold A3h
  split
  ·exact⟨w,fun _ _=>s0.adv _ _,no _ (by rfl) _⟩
  rename_i e1
  split
  ·exact⟨w,fun _ _=>s0.adv _ _,no _ (by rfl) _⟩
  split
  ·exact⟨w,fun _ _=>s0.adv _ _,no _ (by rfl) _⟩
  rename_i e2 e3
  split
  ·rename_i ht
   have e1:(A1y re.st).1=0:=by simpa using e1
   obtain⟨x1,x2⟩:=D4u e1
   obtain⟨v,h1,h2,h3⟩:=A5m ht
   rw[h3]
   have hs:stx S (re.pc/4)=re.st:=by unfold stx;rw[h2];exact((I.st (.inr q)).1).symm
   have hv:=A7m h1
   have lv:=St.A8s x1
   have k:=endL (x:=re.pc/4) (S':=({S with words:=stw S.words (2*(re.pc/4)) v}:WS).tell {Ev.zero with kind:=5,cell:=re.pc/4,gen:=(A1y re.st).2.g}) w hx (B7e hx v _ rfl rfl) (by rw[hs];exact x1) (by rw[A9b w hx hv _ rfl,hs,x2]) (by rw[A9b w hx hv _ rfl,x2];rfl) rfl (.inl rfl) rfl (by rw[hs,x2]) (fun _=>by
    rw[←I.tm q (by rw[hs];exact lv) (by rw[hs])]
    show re.tm.A1n≤(S.now:Int)
    omega)
   exact⟨k.1,k.2,no _ (by rfl) _⟩
  ·exact⟨w,fun _ _=>s0.adv _ _,no _ (by rfl) _⟩
 ·have hs:A1s S (if re.done then A4r S (re.pc/4) re.st.g S.c.c5 (A5k re.st re.at_)else S):=by
   split
   ·exact A6b hc _ _ _ _
   ·exact s0
  exact⟨hs.wi w,hs.adv,reN hp (fun z=>by dsimp only at z;omega) fun z=>by dsimp only at z;omega⟩
def tr(P:A0h)(n:Nat):Option A0a:=if n%2=0 then(P.A0c[n/2]?).bind fun x=>x.now.bind (·.2)else(P.sw[n/2]?).bind (·.2)
structure PI(P:A0h):Prop where
 wi:WI P.S
 part:∀(i:Nat) x,P.A0c[i]?=some x→x.se.part=i
 prog:∀(i:Nat) x pr o,P.A0c[i]?=some x→x.now=some (pr,o)→A3j P.S i pr
 tri:∀n p,tr P n=some p→A4o P.S p
 re:∀(j:Nat) y,P.re[j]?=some y→ReI P.S y
 ex:∀n m p q,n≠m→tr P n=some p→tr P m=some q→act P.S.c p→act P.S.c q→p.a.x≠q.a.x
theorem PI.step{P P':A0h}(I:PI P)(n0:Nat){own:Int→Prop}(wi:WI P'.S)(A:Adv P.S P'.S own (A8u P.S.c (tr P n0)))
  (part:∀(i:Nat) x,P'.A0c[i]?=some x→x.se.part=i) (prog:∀(i:Nat) x pr o,P'.A0c[i]?=some x→x.now=some (pr,o)→A3j P'.S i pr)
  (re:∀(j:Nat) y,P'.re[j]?=some y→ReI P'.S y) (ht:∀n,n≠n0→tr P' n=tr P n) (hi:∀p,tr P' n0=some p→A4o P'.S p)
  (new:∀p,tr P' n0=some p→act P.S.c p→A8u P.S.c (tr P n0) p.a.x∨(InC P.S.c p.a.x∧(stx P.S p.a.x).loose=true)):PI P':=by
 have one:∀m p q,m≠n0→tr P' n0=some p→tr P' m=some q→act P.S.c p→act P.S.c q→p.a.x≠q.a.x:=by
  intro m p q hm hp hq ap aq e
  rw[ht m hm]at hq
  rcases new p hp ap with⟨p0,k1,k2,k3⟩|⟨k1,k2⟩
  ·exact I.ex n0 m p0 q (fun z=>hm z.symm) k1 hq k2 aq (by rw[←k3];exact e)
  ·have:=((I.tri m q hq).2 aq.1).act aq.2.1 aq.2.2
   rw[←e,St.A5c k2]at this
   exact absurd this.1 (by decide)
 refine⟨wi,part,prog,fun n p hp=>?_,re,fun n m p q hn hp hq ap aq=>?_⟩
 ·by_cases h:n=n0
  ·subst h;exact hi p hp
  ·rw[ht n h]at hp
   exact(I.tri n p hp).adv A fun a ⟨p0,k1,k2,k3⟩=>I.ex n n0 p p0 h hp k1 a k2 k3
 ·rw[A.c]at ap aq
  by_cases h:n=n0
  ·subst h;exact one m p q (fun z=>hn z.symm) hp hq ap aq
  ·by_cases h':m=n0
   ·subst h';exact fun e=>one n q p h hq hp aq ap e.symm
   ·rw[ht n h]at hp;rw[ht m h']at hq
    exact I.ex n m p q hn hp hq ap aq
theorem PI.same{P P':A0h}(I:PI P)(hc:P.S.c.ok)(hr:∀y ∈ P.re,B6l y P.S.c)(hS:A1s P.S P'.S)(hs:∀i:Nat,(P'.A0c[i]?).map (fun x=>(x.se,x.now))=(P.A0c[i]?).map (fun x=>(x.se,x.now)))(hw:P'.sw=P.sw)(hre:P'.re=P.re):PI P':=by
 have A:=fun own rel=>hS.adv own rel
 have key:∀(i:Nat) x,P'.A0c[i]?=some x→∃y,P.A0c[i]?=some y∧y.se=x.se∧y.now=x.now:=by
  intro i x h
  have:=hs i
  rw[h]at this
  cases h':P.A0c[i]? with
  |none=>rw[h']at this;cases this
  |some y=>
   rw[h']at this
   simp only[bX,Option.some.injEq,Prod.mk.injEq]at this
   exact⟨y,rfl,this.1.symm,this.2.symm⟩
 have ht:∀n,tr P' n=tr P n:=by
  intro n
  unfold tr
  rw[hw]
  split
  ·have:=hs (n/2)
   cases h:P'.A0c[n/2]? with
   |none=>
    rw[h]at this
    cases h':P.A0c[n/2]? with
    |none=>rfl
    |some y=>rw[h']at this;cases this
   |some x=>
    obtain⟨y,k1,k2,k3⟩:=key _ x h
    rw[k1]
    show x.now.bind _=y.now.bind _
    rw[k3]
  ·rfl
 refine⟨hS.wi I.wi,fun i x h=>?_,fun i x pr o h hn=>?_,fun n p hp=>?_,fun j y h=>?_,fun n m p q hn hp hq ap aq=>?_⟩
 ·obtain⟨y,k1,k2,k3⟩:=key i x h
  rw[←k2];exact I.part i y k1
 ·obtain⟨y,k1,k2,k3⟩:=key i x h
  exact(I.prog i y pr o k1 (by rw[k3];exact hn)).adv hc (A (fun _=>False) (fun _=>False)) fun _ _ z=>z
 ·rw[ht]at hp;exact(I.tri n p hp).adv (A (fun _=>False) (fun _=>False)) fun _ z=>z
 ·rw[hre]at h
  exact(I.re j y h).adv (hr y (aJ h)) (A (fun _=>False) (fun _=>False))
 ·rw[hS.c]at ap aq;rw[ht]at hp hq
  exact I.ex n m p q hn hp hq ap aq
theorem B4p{α:Type}{l:List α}{i:Nat}{v:α}{j:Nat}{x:α}(h:(l.set i v)[j]?=some x):(j=i∧x=v)∨(j≠i∧l[j]?=some x):=by
 rw[aM]at h
 split at h
 ·rename_i e
  split at h
  ·cases h;exact .inl ⟨e.symm,rfl⟩
  ·cases h
 ·rename_i e;exact .inr ⟨fun z=>e z.symm,h⟩
theorem B4y{α:Type}(l:List α){i j:Nat}(v:α)(h:j≠i):(l.set i v)[j]?=l[j]?:=by
 rw[aM,Q0 (fun e=>h e.symm)]
theorem PrS.C0w(S:WS)(part:Int)(a:Ask):A3j S part (PrS.start a):=
 ⟨fun _ q=>absurd q (show ¬(1:Int)≤0 by decide),fun _ q=>absurd q (show ¬((0:Int)=2∨(0:Int)=3)by decide),fun _ q=>absurd q (show ¬(0:Int)=3 by decide),fun _ q=>absurd q (show ¬(4:Int)≤0 by decide),fun _ _=>rfl,
  fun _ q=>absurd q (show ¬(1:Int)≤0 by decide),fun _ q=>absurd q (show ¬((0:Int)=2∨(0:Int)=4∨(0:Int)=6)by decide)⟩
theorem E4u(pr:PrS)(o:Option A0a)(se:A0l)(ss:A0k)(po:A0e)(S:WS):(A2k pr o se ss po S).se.part=se.part:=by
 unfold A2k
 split
 ·unfold A9a
  split
  ·show(A1r _ pr se S).se.part=_
   unfold A1r
   repeat' (first|rfl|split)
  ·unfold B1d
   repeat' (first|rfl|split)
 split
 ·show(A0s _ pr se S).se.part=_
  unfold A0s
  repeat' (first|rfl|split)
 split
 ·show(A1t _ pr se S).se.part=_
  unfold A1t
  repeat' (first|rfl|split)
 split
 ·show(A1q pr se S).se.part=_
  unfold A1q
  repeat' (first|rfl|split)
 ·rfl
theorem G8e{P:A0h}{n:Nat}(ok:A2q P n)(I:PI P)(i:Nat)(x:A0w)(hx:P.A0c[i]?=some x):PI (A3u P i x).2:=by
 have hc:=ok.S.c
 have htr:tr P (2*i)=x.now.bind (·.2):=by
  unfold tr
  rw[Q3 (by omega),show 2*i/2=i by omega,hx];rfl
 unfold A3u
 have key:∀(x1:A0w) (pr:PrS) (o:Option A0a),x1.se=x.se→tr P (2*i)=o→A3j P.S i pr→0≤pr.pc→0≤pr.done→PI (A5u P i x1 pr o):=by
  intro x1 pr o e1 e2 Ip hp hd
  have hpart:x1.se.part=i:=by rw[e1];exact I.part i x hx
  have k:=C0v (ss:=x1.nl) (po:=(P.use x1.ev).nl) (se:=x1.se) hc I.wi (by rw[hpart];exact Ip) (fun p hp=>I.tri (2*i) p (by rw[e2];exact hp)) hp hd
  have kp:(A2k pr o x1.se x1.nl (P.use x1.ev).nl P.S).se.part=x1.se.part:=E4u ..
  unfold A5u
  generalize A2k pr o x1.se x1.nl (P.use x1.ev).nl P.S=R at*
  rw[hpart]at k
  have main:∀(P':A0h) (x':A0w),P'.S=R.S→P'.A0c=P.A0c.set i x'→P'.sw=P.sw→P'.re=P.re→x'.se=R.se→(x'.now=none∨(R.r=none∧x'.now=some (R.pr,R.o)))→PI P':=by
   intro P' x' f1 f2 f3 f4 f5 f6
   have hlt:i<P.A0c.length:=(aQ.1 hx).1
   have own:∀(j:Nat),j≠i→∀y,A5f P.S.c y=(j:Int)→¬A5f P.S.c y=(i:Int):=fun j hj y a b=>by omega
   have tn:tr P' (2*i)=x'.now.bind (·.2):=by
    unfold tr
    rw[Q3 (by omega),show 2*i/2=i by omega,f2,aM,Q3 rfl,Q3 hlt];rfl
   refine I.step (2*i) (by rw[f1];exact k.wi) (by rw[f1,e2];exact k.adv) (fun j y h=>?_) (fun j y pr' o' h hn=>?_) (fun j y h=>?_) (fun m hm=>?_) (fun p hp=>?_) (fun p hp a=>?_)
   ·rw[f2]at h
    rcases B4p h with⟨a,b⟩|⟨a,b⟩
    ·rw[a,b,f5,kp];exact hpart
    ·exact I.part j y b
   ·rw[f2]at h;rw[f1]
    rcases B4p h with⟨a,b⟩|⟨a,b⟩
    ·subst a;subst b
     rcases f6 with f6|⟨f6,f7⟩
     ·rw[f6]at hn;cases hn
     ·rw[f7]at hn;cases hn;exact k.prog f6
    ·exact(I.prog j y pr' o' b hn).adv hc k.adv (own j a)
   ·rw[f4]at h;rw[f1]
    exact(I.re j y h).adv (ok.re y (aJ h)) k.adv
   ·unfold tr
    rw[f3]
    split
    ·rw[f2,B4y _ _ (by omega)]
    ·rfl
   ·rw[tn]at hp;rw[f1]
    rcases f6 with f6|⟨f6,f7⟩
    ·rw[f6]at hp;cases hp
    ·rw[f7]at hp;exact k.i f6 p hp
   ·rw[tn]at hp;rw[e2]
    rcases f6 with f6|⟨f6,f7⟩
    ·rw[f6]at hp;cases hp
    ·rw[f7]at hp;exact k.new f6 p hp a
  unfold B4q
  split
  ·rename_i hr;exact main _ _ rfl rfl rfl rfl rfl (.inr ⟨hr,rfl⟩)
  ·exact main _ _ rfl rfl rfl rfl rfl (.inl rfl)
 unfold A0w.begun
 cases hn:x.now with
 |some v=>
  obtain⟨pr,o⟩:=v
  rw[hn]at htr
  have po:=(ok.A0c x (aJ hx)).prog pr o hn
  exact key x pr o rfl htr (I.prog i x pr o hx hn) po.pc.1 po.done.1
 |none=>
  rw[hn]at htr
  cases x.queue with
  |nil=>exact I
  |cons q t=>exact key _ _ _ rfl htr (PrS.C0w _ _ _) (bK _) (bK _)
theorem G5q{P:A0h}{n:Nat}(ok:A2q P n)(I:PI P)(j:Nat)(y:SwS × Option A0a)(hy:P.sw[j]?=some y):PI (A6z P j y):=by
 have hc:=ok.S.c
 have hlt:j<P.sw.length:=(aQ.1 hy).1
 have htr:tr P (2*j+1)=y.2:=by
  unfold tr
  rw[Q0 (by omega),show(2*j+1)/2=j by omega,hy];rfl
 have k:B5k P.S y.2 (A1h (A3v y.1 P.S.c y.2) P.S).2 (some (A1h (A3v y.1 P.S.c y.2) P.S).1):=by
  have nw:∀o a,B5k P.S o (A1h (A0a.new a) P.S).2 (some (A1h (A0a.new a) P.S).1):=fun o a=>B5k.step hc I.wi (A4o.new _ _) fun q=>(B2z _ _ q).elim
  unfold A3v
  cases h:y.2 with
  |none=>exact nw _ _
  |some p=>
   dsimp only
   split
   ·exact nw _ _
   ·exact B5k.step hc I.wi (I.tri _ p (by rw[htr];exact h)) fun q=>⟨p,rfl,q,rfl⟩
 have tn:tr (A6z P j y) (2*j+1)=some (A1h (A3v y.1 P.S.c y.2) P.S).1:=by
  unfold tr
  rw[Q0 (by omega),show(2*j+1)/2=j by omega]
  show((P.sw.set j _)[j]?).bind _=_
  rw[aM,Q3 rfl,Q3 hlt];rfl
 refine I.step (2*j+1) k.wi (by rw[htr];exact k.adv) (fun i x h=>I.part i x h) (fun i x pr o h hn=>(I.prog i x pr o h hn).adv hc k.adv fun _ _ q=>q) (fun i z h=>(I.re i z h).adv (ok.re z (aJ h)) k.adv) (fun m hm=>?_) (fun p hp=>?_) (fun p hp a=>?_)
 ·unfold tr
  split
  ·rfl
  ·show((P.sw.set j _)[m/2]?).bind _=_
   rw[B4y _ _ (by omega)]
 ·rw[tn]at hp;exact k.i p hp
 ·rw[tn]at hp;rw[htr];exact k.new p hp a
theorem G4n{P:A0h}{n:Nat}(ok:A2q P n)(I:PI P)(j:Nat)(y:ReS)(hy:P.re[j]?=some y):PI (B0t P j y):=by
 have hc:=ok.S.c
 obtain⟨k1,k2,k3⟩:=D0o hc I.wi (ok.re y (aJ hy)) (I.re j y hy)
 have A:=k2 (fun _=>False) (fun _=>False)
 refine⟨k1,fun i x h=>I.part i x h,fun i x pr o h hn=>(I.prog i x pr o h hn).adv hc A fun _ _ q=>q,fun n p hp=>(I.tri n p hp).adv A fun _ q=>q,fun i z h=>?_,fun n m p q hn hp hq ap aq=>I.ex n m p q hn hp hq (by have:=A.c;rw[←this];exact ap) (by have:=A.c;rw[←this];exact aq)⟩
 rcases B4p h with⟨a,b⟩|⟨a,b⟩
 ·rw[b];exact k3
 ·exact(I.re i z b).adv (ok.re z (aJ b)) A
theorem F5n{P:A0h}{n:Nat}(ok:A2q P n)(I:PI P)(ag:Int):PI (A2w P ag).2:=by
 unfold A2w
 split
 ·exact I
 split
 ·split
  ·rename_i h;exact G8e ok I _ _ h
  ·exact I
 split
 ·split
  ·rename_i h;exact G5q ok I _ _ h
  ·exact I
 ·split
  ·rename_i h;exact G4n ok I _ _ h
  ·exact I
theorem D4b{P:A0h}{n:Nat}(at_:A2i P n)(hn:n≤100000000)(I:PI P)(e:PEv):PI (doP P e).2:=by
 have ok:=at_.ok
 have hc:=ok.S.c
 have sm:∀P':A0h,A1s P.S P'.S→(∀i:Nat,(P'.A0c[i]?).map (fun x=>(x.se,x.now))=(P.A0c[i]?).map (fun x=>(x.se,x.now)))→P'.sw=P.sw→P'.re=P.re→PI P':=fun P' a b c d=>I.same hc ok.re a b c d
 have hg:PI P.got:=sm _ (A1s.refl _) (fun _=>rfl) rfl rfl
 have no:PI P.got.on:=sm _ (A1s.refl _) (fun _=>rfl) rfl rfl
 have st:∀(P':A0h) (i:Nat) (x x':A0w),P.A0c[i]?=some x→P'.A0c=P.A0c.set i x'→x'.se=x.se→x'.now=x.now→P'.S=P.S→P'.sw=P.sw→P'.re=P.re→PI P':=by
  intro P' i x x' h1 h2 h3 h4 h5 h6 h7
  refine sm P' (by rw[h5];exact A1s.refl _) (fun j=>?_) h6 h7
  rw[h2]
  by_cases hj:j=i
  ·subst hj
   rw[aM,Q3 rfl,Q3 (aQ.1 h1).1,h1]
   simp only[bX,h3,h4]
  ·rw[B4y _ _ hj]
 unfold doP
 split
 ·exact sm _ ⟨rfl,fun _ _=>rfl,fun _ _=>rfl,rfl,rfl⟩ (fun _=>rfl) rfl rfl
 split
 ·have k:=F5n (B1i ok) hg e.who
  have ko:=(C3r (B1i ok) hn e.who).ok
  exact k.same ko.S.c ko.re (A1s.refl _) (fun _=>rfl) rfl rfl
 split
 ·split
  ·split
   ·rename_i h;exact st _ _ _ _ h rfl rfl rfl rfl rfl rfl
   ·exact no
  split
  ·split
   ·rename_i h;exact st _ _ _ _ h rfl rfl rfl rfl rfl rfl
   ·exact no
  ·exact no
 ·exact no
theorem H3j(es:List PEv):∀{P:A0h} {n:Nat},A2i P n→PI P→n+es.length≤100000→(∀e ∈ es,e.wf)→PI (B8o P es):=by
 induction es with
 |nil=>intro P n _ I _ _;exact I
 |cons e es ih=>
  intro P n at_ I hn hw
  simp only[aB]at hn
  exact ih (C2k at_ (by omega) e (hw e (aT ..))) (D4b at_ (by omega) I e) (by omega) (fun e' he=>hw e' (aY _ he))
theorem D7z(n:Nat)(i:Int):wd (aF n 0) i=0:=by
 unfold wd
 split
 ·rfl
 ·rw[aK,List.getElem?_replicate];split<;>rfl
theorem B9w{α:Type}{f:Nat→α}{n i:Nat}{x:α}(h:((aI n).map f)[i]?=some x):x=f i:=by
 rw[aU]at h
 by_cases hi:i<n
 ·rw[List.getElem?_range hi]at h;cases h;rfl
 ·rw[aS (by simp;omega)]at h;cases h
theorem E5q(c:Cf)(hc:c.ok):PI (A1x c):=by
 have hst:∀x,stx (B0l c) x=St.zero:=fun x=>by unfold stx WS.word B0l;dsimp only;rw[D7z];rfl
 have hs:∀(i:Nat) x,(A1x c).A0c[i]?=some x→x=A3s c i:=fun i x h=>B9w (f:=fun(i:Nat)=>A3s c i) h
 have hw:∀(i:Nat) x,(A1x c).sw[i]?=some x→x=B3k i:=fun i x h=>B9w (f:=fun(i:Nat)=>B3k i) h
 have ht:∀n p,tr (A1x c) n=some p→False:=by
  intro n p h
  unfold tr at h
  split at h
  ·cases e:(A1x c).A0c[n/2]? with
   |none=>rw[e]at h;cases h
   |some x=>rw[e,hs _ _ e]at h;cases h
  ·cases e:(A1x c).sw[n/2]? with
   |none=>rw[e]at h;cases h
   |some x=>rw[e,hw _ _ e]at h;cases h
 refine⟨⟨trivial,fun x _ h=>?_,fun _ _ _ _=>rfl,fun x _ h=>?_,fun x _ h=>?_,?_⟩,fun i x h=>?_,fun i x pr o h hn=>?_,fun n p h=>(ht n p h).elim,fun j y h=>?_,fun n m p q hn h=>(ht n p h).elim⟩
 ·rw[show(A1x c).S=B0l c from rfl,hst]at h;cases h
 ·rw[show(A1x c).S=B0l c from rfl,hst]at h;cases h
 ·rw[show(A1x c).S=B0l c from rfl,hst]at h;cases h
 ·show 2*A0o c≤((aF (A9f c).toNat 0).length:Int)
  rw[List.length_replicate]
  unfold A9f
  have ha:=A4q c hc
  have h1:0≤A0o c*c.c6*(c.c5+1):=bM (bM (by omega) (by have:=hc.2.2.2.2.2.2;omega)) (by have:=hc.2.2.2.2.2.1;omega)
  omega
 ·rw[hs i x h];rfl
 ·rw[hs i x h]at hn;cases hn
 ·have:y=C2w j:=B9w (f:=fun(i:Nat)=>C2w i) h
  rw[this]
  exact⟨fun q=>absurd q (show ¬((0:Int)%4=1∨(0:Int)%4=2)by decide),fun q=>absurd q (show ¬(0:Int)%4=2 by decide)⟩
def H3a(c:Cf):(Int→Int)→List Ev→Prop
 |_,[]=>True
 |f,e::l=>(e.kind=1→e.gen=f e.cell+1∧e.gen≤c.c6)∧H3a c (if e.kind=1 then fun x=>if x=e.cell then f x+1 else f x else f) l
def H5o(f:Int→Int)(e:Ev):Int→Int:=if e.kind=1 then fun x=>if x=e.cell then f x+1 else f x else f
def A4h(l:List Ev):Int→Int:=l.foldl H5o fun _=>0
structure GI(S:WS):Prop where
 log:H3a S.c (fun _=>0) S.log
 g:∀x,InC S.c x→(stx S x).g=A4h S.log x
structure GS(S S':WS):Prop where
 c:S'.c=S.c
 g:∀x,InC S.c x→(stx S' x).g=(stx S x).g
 log:S'.log=S.log∨∃e,S'.log=S.log++[e]∧e.kind≠1
theorem GS.refl(S:WS):GS S S:=⟨rfl,fun _ _=>rfl,.inl rfl⟩
theorem A1s.gs{S S':WS}(h:A1s S S'):GS S S':=⟨h.c,fun x hx=>by rw[h.st x hx],.inl h.log⟩
theorem E7y{S:WS}{x y:Int}(v:Nat)(hy:InC S.c y)(hl:2*A0o S.c≤S.words.length):stx {S with words:=stw S.words (2*x) v} y=if y=x then A0i v else stx S y:=by
 obtain⟨h0,h1⟩:=hy
 unfold stx WS.word
 dsimp only
 by_cases e:y=x
 ·rw[Q3 e,e,F4w (by omega) (by omega)]
 ·rw[Q0 e,A7z (by omega)]
theorem C3g{S:WS}(hl:2*A0o S.c≤S.words.length)(x:Int)(old:Nat)(s:St)(hg:s.g=(A0i old).g):GS S (S.turn x old s).2:=by
 cases h:(S.turn x old s).1 with
 |false=>rw[D6r h];exact GS.refl S
 |true=>
  obtain⟨v,h1,h2,h3⟩:=A5m h
  rw[h3]
  refine⟨rfl,fun y hy=>?_,.inl rfl⟩
  rw[E7y v hy hl]
  split
  ·rename_i e
   rw[A7m h1,hg,←h2,←e];rfl
  ·rfl
theorem GS.tell{S S':WS}(h:GS S S')(hl:S'.log=S.log)(e:Ev)(he:e.kind≠1):GS S (S'.tell e):=by
 refine⟨h.c,h.g,.inr ⟨{e with tick:=S'.now},?_,he⟩⟩
 show S'.log++_=_
 rw[hl]
theorem B9n(S:WS)(x:Int)(old:Nat)(s:St):(S.turn x old s).2.log=S.log:=by
 unfold WS.turn
 split
 ·rfl
 ·dsimp only;split<;>rfl
theorem F3u{P:A0a}{S:WS}(hc:S.c.ok)(hl:2*A0o S.c≤S.words.length):GS S (A1h P S).2:=by
 unfold A1h
 split
 ·exact GS.refl S
 split
 ·exact GS.refl S
 show GS S (A3f P S).2
 unfold A3f
 split
 ·exact GS.refl S
 split
 ·exact GS.refl S
 split
 ·unfold B8x
  split
  ·rename_i hw
   exact C3g hl _ _ _ (D6k (C7j hw)).2.2.1
  ·exact GS.refl S
 split
 ·exact GS.refl S
 split
 ·exact GS.refl S
 split
 ·unfold B6h
  split
  ·exact GS.refl S
  unfold B7z
  dsimp only
  split
  ·exact GS.refl S
  rename_i ht
  have ht:(A7c (A0i P.wy) (A2h P).1 S.c.c5).1=0:=by simpa using ht
  split
  ·exact GS.refl S
  ·exact(C3g hl _ _ _ (C6j ht).2.2.2.1).tell (B9n _ _ _ _) _ (by dsimp only;decide)
 split
 ·unfold B4z
  split<;>exact GS.refl S
 split
 ·unfold B5j
  split
  ·exact GS.refl S
  generalize (if P.made then P.q else 0)=z
  unfold B9q
  split
  ·exact GS.refl S
  rename_i ht
  have ht:(A1z (A0i P.wx) z S.c.c5).1=0:=by simpa using ht
  have k:=C3g hl P.a.x P.wx _ (C4p ht).2.2.2.1
  split
  ·exact GS.refl S
  dsimp only
  split
  ·exact k.tell (B9n _ _ _ _) _ (by dsimp only;decide)
  ·exact k
 ·have hs:A1s S (A4k P S):=by
   unfold A4k
   split
   ·exact B4a hc _ _ _ _
   split
   ·exact B4a hc _ _ _ _
   split
   ·exact A6b hc _ _ _ _
   split
   ·exact A6b hc _ _ _ _
   ·exact A1s.refl S
  exact hs.gs
theorem H3m{S:WS}{pr:PrS}{part:Int}(w:WI S)(I:A3j S part pr)(hk:pr.a.kind=1)(hp:4≤pr.pc)(hd:0≤pr.done):GS S (A1e (A0f S.c part pr.a.cell) pr S).2.2:=by
 unfold A1e
 split
 ·exact GS.refl S
 split
 ·exact GS.refl S
 split
 ·exact GS.refl S
 rename_i q1 q2
 split
 ·exact GS.refl S
 split
 ·exact GS.refl S
 rename_i q3 q4
 have q4:(A2z pr.st).1=0:=by simpa using q4
 obtain⟨p1,p2⟩:=D0t q4
 have p3:=I.b4 hk hp (by omega) (by omega)
 split
 ·exact(C3g w.len _ _ _ (by rw[p2,p3])).tell (B9n _ _ _ _) _ (by dsimp only;decide)
 ·exact GS.refl S
theorem H0e{S:WS}{pr:PrS}{se:A0l}(w:WI S)(x:Int)(hd:0≤pr.done)(h:pr.done=0→pr.st=A0i pr.word):GS S (A2d x pr se S).2:=by
 unfold A2d
 split
 ·exact GS.refl S
 split
 ·exact GS.refl S
 split
 ·exact GS.refl S
 split
 ·exact GS.refl S
 rename_i q1 q2 q3 q4
 have h:=h (by omega)
 have q2:B3d pr se≠0∧pr.st.g=B3d pr se∧(A1k pr.st).1=0:=by omega
 have k:GS S (S.turn x pr.word (A1k pr.st).2).2:=C3g w.len _ _ _ (by
  rcases C6t q2.2.2 with⟨_,c2⟩|⟨_,c2⟩<;>rw[c2,h])
 split
 ·exact k.tell (B9n _ _ _ _) _ (by dsimp only;decide)
 ·exact k.tell (B9n _ _ _ _) _ (by dsimp only;decide)
theorem H5m{S:WS}{pr:PrS}{o:Option A0a}{ss:A0k}{po:A0e}(hc:S.c.ok)(hl:2*A0o S.c≤S.words.length):GS S (A1v pr o ss po S).S:=by
 unfold A1v A2e
 repeat' (first|exact GS.refl S|exact F3u hc hl|split)
structure E1d(pr:PrS)(se:A0l)(ss:A0k)(po:A0e)(S:WS)(R:StA):Prop where
 r:∀r,R.r=some r→r.kind=pr.a.kind∧r.id=pr.a.id∧(pr.a.kind=1→(pr.pc<2∧r.code≠0)∨(4≤pr.pc∧r.code=0))
 n:R.r=none→R.pr.a=pr.a∧(pr.a.kind=1→(pr.pc<4→R.pr.pc=pr.pc+1)∧(4≤pr.pc→R.pr.pc=pr.pc)∧(pr.pc=0→se.last<pr.a.id))
 l:R.se.last=if pr.a.kind=1∧pr.pc=3 then pr.a.id else se.last
 h:pr.a.kind=1→pr.pc<2→R.S=S∧R.se=se∧R.ss=ss∧R.po=po
 u:R.po.A0u=po.A0u∨(pr.a.kind=1∧4≤pr.pc∧ss.taken≠ss.tape.length∧R.po.A0u=po.A0u.set (atT ss.tape ss.taken).ev.toNat ss.ev)
theorem H1q(x:Int)(pr:PrS)(S:WS):(A1e x pr S).2.1.a=pr.a∧(A1e x pr S).2.1.pc=pr.pc:=by
 unfold A1e
 repeat' (first|exact⟨rfl,rfl⟩|split)
theorem H7m(pr:PrS)(o:Option A0a)(ss:A0k)(po:A0e)(S:WS):(A1v pr o ss po S).po.A0u=po.A0u∨(ss.taken≠ss.tape.length∧(A1v pr o ss po S).po.A0u=po.A0u.set (atT ss.tape ss.taken).ev.toNat ss.ev):=by
 have t:(takeN ss po).2.2.A0u=po.A0u∨(ss.taken≠ss.tape.length∧(takeN ss po).2.2.A0u=po.A0u.set (atT ss.tape ss.taken).ev.toNat ss.ev):=by
  unfold takeN
  split
  ·exact .inl rfl
  ·exact .inr ⟨by assumption,rfl⟩
 have ru:∀n o ss po,(A2e n o ss po S).po.A0u=po.A0u:=by
  intro n o ss po
  unfold A2e
  repeat' (first|rfl|split)
 unfold A1v
 split
 ·split
  ·rw[ru];exact t
  ·rw[ru];exact .inl rfl
 ·rw[ru];exact .inl rfl
theorem H6a(pr:PrS)(o:Option A0a)(se:A0l)(ss:A0k)(po:A0e)(S:WS)(hp:0≤pr.pc):E1d pr se ss po S (A2k pr o se ss po S):=by
 unfold A2k
 split
 ·rename_i hk
  unfold A9a
  split
  ·rename_i hpc
   show E1d pr se ss po S ((A1r (A0f S.c se.part pr.a.cell) pr se S).on o ss po)
   generalize A0f S.c se.part pr.a.cell=x
   unfold A1r
   split
   ·rename_i h0
    have l0:∀z:A0l,se.last=if pr.a.kind=1∧pr.pc=3 then pr.a.id else se.last:=fun _=>by rw[Q0 (by omega)]
    split
    ·rename_i hq
     exact⟨fun r e=>by cases e;exact⟨rfl,rfl,fun _=>.inl ⟨by omega,hq⟩⟩,fun e=>(by cases e),l0 se,fun _ _=>⟨rfl,rfl,rfl,rfl⟩,.inl rfl⟩
    ·rename_i hq
     refine⟨fun r e=>(by cases e),fun _=>⟨rfl,fun _=>⟨fun _=>rfl,fun q=>by omega,fun _=>?_⟩⟩,l0 se,fun _ _=>⟨rfl,rfl,rfl,rfl⟩,.inl rfl⟩
     have hq:A7s pr se S=0:=by simpa using hq
     unfold A7s at hq
     split at hq
     ·exact absurd hq (by decide)
     ·omega
   split
   ·rename_i n0 h0
    have l0:∀z:A0l,se.last=if pr.a.kind=1∧pr.pc=3 then pr.a.id else se.last:=fun _=>by rw[Q0 (by omega)]
    split
    ·rename_i hq
     exact⟨fun r e=>by cases e;exact⟨rfl,rfl,fun _=>.inl ⟨by omega,hq⟩⟩,fun e=>(by cases e),l0 se,fun _ _=>⟨rfl,rfl,rfl,rfl⟩,.inl rfl⟩
    ·exact⟨fun r e=>(by cases e),fun _=>⟨rfl,fun _=>⟨fun _=>rfl,fun q=>by omega,fun q=>by omega⟩⟩,l0 se,fun _ _=>⟨rfl,rfl,rfl,rfl⟩,.inl rfl⟩
   split
   ·rename_i n0 n1 h0
    exact⟨fun r e=>(by cases e),fun _=>⟨rfl,fun _=>⟨fun _=>rfl,fun q=>by omega,fun q=>by omega⟩⟩,by rw[Q0 (by omega)];rfl,fun _ q=>by omega,.inl rfl⟩
   split
   ·rename_i n0 n1 n2 h0
    exact⟨fun r e=>(by cases e),fun _=>⟨rfl,fun _=>⟨fun _=>rfl,fun q=>by omega,fun q=>by omega⟩⟩,by rw[Q3 ⟨hk,h0⟩];rfl,fun _ q=>by omega,.inl rfl⟩
   ·omega
  ·rename_i hpc
   have ku:=H7m pr o ss po S
   generalize A1v pr o ss po S=T at*
   have ku:T.po.A0u=po.A0u∨(pr.a.kind=1∧4≤pr.pc∧ss.taken≠ss.tape.length∧T.po.A0u=po.A0u.set (atT ss.tape ss.taken).ev.toNat ss.ev):=ku.imp id fun q=>⟨hk,by omega,q⟩
   have l0:se.last=if pr.a.kind=1∧pr.pc=3 then pr.a.id else se.last:=by rw[Q0 (by omega)]
   have ra:=H1q (A0f S.c se.part pr.a.cell) {pr with n:=T.n} T.S
   unfold B1d
   split
   ·exact⟨fun r e=>(by cases e),fun _=>⟨rfl,fun _=>⟨fun q=>by omega,fun _=>rfl,fun q=>by omega⟩⟩,l0,fun _ q=>by omega,ku⟩
   split
   ·exact⟨fun r e=>(by cases e),fun _=>⟨ra.1,fun _=>⟨fun q=>by omega,fun _=>ra.2,fun q=>by omega⟩⟩,l0,fun _ q=>by omega,ku⟩
   ·exact⟨fun r e=>by cases e;exact⟨rfl,rfl,fun _=>.inr ⟨by omega,rfl⟩⟩,fun e=>(by cases e),l0,fun _ q=>by omega,ku⟩
 rename_i hk
 have no:∀X:Stp,(∀r,X.r=some r→r.kind=pr.a.kind∧r.id=pr.a.id)→(X.r=none→X.pr.a=pr.a)→X.se.last=se.last→E1d pr se ss po S (X.on o ss po):=fun X h1 h2 h3=>
  ⟨fun r e=>⟨(h1 r e).1,(h1 r e).2,fun q=>absurd q hk⟩,fun e=>⟨h2 e,fun q=>absurd q hk⟩,by rw[Q0 (fun q=>hk q.1)];exact h3,fun q=>absurd q hk,.inl rfl⟩
 have ta:∀x,(A2d x pr se S).1.a=pr.a:=fun x=>by
  unfold A2d
  repeat' (first|rfl|split)
 split
 ·refine no _ (fun r e=>?_) (fun e=>?_) ?_
  ·unfold A0s at e
   repeat' (first|(cases e<;>exact⟨rfl,rfl⟩)|split at e)
  ·unfold A0s
   repeat' (first|rfl|exact ta _|split|(dsimp only[A5p];split))
  ·unfold A0s
   repeat' (first|rfl|split)
 split
 ·refine no _ (fun r e=>?_) (fun e=>?_) ?_
  ·unfold A1t at e
   repeat' (first|(cases e<;>exact⟨rfl,rfl⟩)|split at e)
  ·unfold A1t
   repeat' (first|rfl|split)
  ·unfold A1t
   repeat' (first|rfl|split)
 split
 ·refine no _ (fun r e=>?_) (fun e=>?_) ?_
  ·unfold A1q at e
   repeat' (first|(cases e<;>exact⟨rfl,rfl⟩)|split at e)
  ·unfold A1q
   repeat' (first|rfl|split)
  ·unfold A1q
   repeat' (first|rfl|split)
 ·exact no ⟨some (codeF pr S 6),pr,se,S⟩ (fun r e=>by cases e;exact⟨rfl,rfl⟩) (fun e=>by cases e) rfl
structure Beg(x x1:A0w)(pr:PrS)(o:Option A0a):Prop where
 se:x1.se=x.se
 tape:x1.tape=x.tape
 taken:x1.taken=x.taken
 c:(x1=x∧x.now=some (pr,o))∨(x.now=none∧∃q,x.queue=q::x1.queue∧x1.ev=q.ev∧pr=PrS.start q.a∧o=none)
theorem G2i(P:A0h)(i:Nat)(x:A0w):((A3u P i x).2=P∧x.now=none∧x.queue=[])∨∃x1 pr o,Beg x x1 pr o∧(A3u P i x).2=A5u P i x1 pr o:=by
 unfold A3u A0w.begun
 cases hn:x.now with
 |some v=>obtain⟨pr,o⟩:=v;exact .inr ⟨x,pr,o,⟨rfl,rfl,rfl,.inl ⟨rfl,hn⟩⟩,rfl⟩
 |none=>
  cases hq:x.queue with
  |nil=>exact .inl ⟨rfl,rfl,rfl⟩
  |cons q t=>exact .inr ⟨{x with queue:=t,ev:=q.ev,now:=some (PrS.start q.a,none)},PrS.start q.a,none,⟨rfl,rfl,rfl,.inr ⟨hn,q,hq,rfl,rfl,rfl⟩⟩,rfl⟩
structure A5q(P P':A0h)(i:Nat)(x1:A0w)(R:StA)(x':A0w):Prop where
 A0c:P'.A0c=P.A0c.set i x'
 S:P'.S=R.S
 sw:P'.sw=P.sw
 re:P'.re=P.re
 ev:P'.events=P.events
 A0u:P'.A0u=R.po.A0u
 se:x'.se=R.se
 queue:x'.queue=x1.queue
 tape:x'.tape=x1.tape
 taken:x'.taken=R.ss.taken
 c:(R.r=none∧x'.now=some (R.pr,R.o)∧x'.ev=x1.ev∧P'.outs=P.outs)∨∃r,R.r=some r∧x'.now=none∧P'.outs=P.outs++[⟨R.se.part,x1.ev,r⟩]
theorem E1q(P:A0h)(i:Nat)(x1:A0w)(pr:PrS)(o:Option A0a):∃x',A5q P (A5u P i x1 pr o) i x1 (A2k pr o x1.se x1.nl (P.use x1.ev).nl P.S) x':=by
 unfold A5u
 generalize A2k pr o x1.se x1.nl (P.use x1.ev).nl P.S=R
 unfold B4q
 split
 ·rename_i h;exact⟨_,rfl,rfl,rfl,rfl,rfl,rfl,rfl,rfl,rfl,rfl,.inl ⟨h,rfl,rfl,rfl⟩⟩
 ·rename_i r h;exact⟨_,rfl,rfl,rfl,rfl,rfl,rfl,rfl,rfl,rfl,rfl,.inr ⟨r,h,rfl,rfl⟩⟩
section
structure SQ(W K:Int→Int)(P:A0h)(i:Nat)(x:A0w):Prop where
 q:∀q ∈ x.queue,(0≤q.ev∧q.ev<P.events)∧W q.ev=i∧K q.ev=1∧(x.now.isSome=true→x.ev<q.ev)
 srt:x.queue.Pairwise (fun a b=>a.ev<b.ev)
 n:x.now.isSome=true→(0≤x.ev∧x.ev<P.events)∧W x.ev=i∧K x.ev=1
 o:∀o ∈ P.outs,o.part=i→(x.now.isSome=true→o.ev<x.ev)∧∀q ∈ x.queue,o.ev<q.ev
 t:∀d ∈ x.tape,K d.ev=4∧0≤d.ev∧d.ev<P.events
structure QI(W K:Int→Int)(P:A0h):Prop where
 s:∀(i:Nat) x,P.A0c[i]?=some x→SQ W K P i x
 o:∀o ∈ P.outs,(0≤o.ev∧o.ev<P.events)∧W o.ev=o.part∧K o.ev=1
variable{W K:Int→Int}
structure BegQ(W K:Int→Int)(P:A0h)(i:Nat)(x1:A0w):Prop where
 ev:(0≤x1.ev∧x1.ev<P.events)∧W x1.ev=i∧K x1.ev=1
 q:∀q ∈ x1.queue,((0≤q.ev∧q.ev<P.events)∧W q.ev=i∧K q.ev=1)∧x1.ev<q.ev
 srt:x1.queue.Pairwise (fun a b=>a.ev<b.ev)
 o:∀o ∈ P.outs,o.part=i→o.ev<x1.ev∧∀q ∈ x1.queue,o.ev<q.ev
section
variable{P P':A0h}{i:Nat}{x x1 x':A0w}{pr:PrS}{o:Option A0a}{R:StA}(hx:P.A0c[i]?=some x)(b:Beg x x1 pr o)(d:A5q P P' i x1 R x')(hp:R.se.part=i)
include hx b d hp
end
def E0q(o:Out):Prop:=o.r.kind=1∧o.r.code=0
structure LS(P:A0h)(i:Nat)(x:A0w):Prop where
 l0:0≤x.se.last
 l1:∀o ∈ P.outs,o.part=i→E0q o→o.r.id≤x.se.last
 l2:∀pr o,x.now=some (pr,o)→pr.a.kind=1→1≤pr.pc→pr.pc<4→x.se.last<pr.a.id
 l3:∀pr o,x.now=some (pr,o)→pr.a.kind=1→4≤pr.pc→x.se.last=pr.a.id∧0<pr.a.id∧∀o ∈ P.outs,o.part=i→E0q o→o.r.id<pr.a.id
structure LI(P:A0h):Prop where
 s:∀(i:Nat) x,P.A0c[i]?=some x→LS P i x
 pw:P.outs.Pairwise (fun a b=>a.part=b.part→E0q a→E0q b→a.r.id<b.r.id)
 pos:∀o ∈ P.outs,E0q o→0<o.r.id
theorem LI.same{P P':A0h}(h:LI P)(ho:P'.outs=P.outs)(hs:∀(i:Nat) x,P'.A0c[i]?=some x→∃y,P.A0c[i]?=some y∧y.se=x.se∧y.now=x.now):LI P':=by
 refine⟨fun i x hx=>?_,by rw[ho];exact h.pw,by rw[ho];exact h.pos⟩
 obtain⟨y,k1,k2,k3⟩:=hs i x hx
 have:=h.s i y k1
 exact⟨by rw[←k2];exact this.l0,by rw[ho,←k2];exact this.l1,by rw[←k2,←k3];exact this.l2,by rw[ho,←k2,←k3];exact this.l3⟩
section
variable{P P':A0h}{i:Nat}{x x1 x':A0w}{pr:PrS}{o:Option A0a}{R:StA}{ss:A0k}{po:A0e}(hx:P.A0c[i]?=some x)(b:Beg x x1 pr o)(d:A5q P P' i x1 R x')(hp:R.se.part=i)(a:E1d pr x1.se ss po P.S R)(h0:0≤pr.pc)
include hx b d hp a h0
theorem LI.step(h:LI P):LI P':=by
 have L:=h.s i x hx
 have l2:pr.a.kind=1→1≤pr.pc→pr.pc<4→x.se.last<pr.a.id:=by
  rcases b.c with⟨_,hn⟩|⟨_,q,_,_,e,_⟩
  ·exact L.l2 pr o hn
  ·rw[e];intro _ z;exact absurd z (show ¬(1:Int)≤0 by decide)
 have l3:pr.a.kind=1→4≤pr.pc→x.se.last=pr.a.id∧0<pr.a.id∧∀o ∈ P.outs,o.part=i→E0q o→o.r.id<pr.a.id:=by
  rcases b.c with⟨_,hn⟩|⟨_,q,_,_,e,_⟩
  ·exact L.l3 pr o hn
  ·rw[e];intro _ z;exact absurd z (show ¬(4:Int)≤0 by decide)
 have hl:=a.l
 rw[b.se]at hl
 have ge:x.se.last≤R.se.last:=by
  rw[hl];split
  ·rename_i q;have:=l2 q.1 (by omega) (by omega);omega
  ·exact bK _
 have l0:=L.l0
 rcases d.c with⟨hr,hn,he,ho⟩|⟨r,hr,hn,ho⟩
 ·refine⟨fun j y hy=>?_,by rw[ho];exact h.pw,by rw[ho];exact h.pos⟩
  rw[d.A0c]at hy
  rcases B4p hy with⟨rfl,rfl⟩|⟨hj,hy⟩
  ·obtain⟨n1,n2⟩:=a.n hr
   rw[b.se]at n2
   refine⟨by rw[d.se];omega,fun z hz hpz gz=>?_,fun pr' o' e k p1 p4=>?_,fun pr' o' e k p4=>?_⟩
   ·rw[ho]at hz;rw[d.se]
    have:=L.l1 z hz hpz gz;omega
   ·rw[hn]at e;cases e
    rw[n1]at k⊢
    obtain⟨m1,m2,m3⟩:=n2 k
    rw[d.se,hl,Q0 (fun q=>by have:=m1 (by omega);omega)]
    by_cases q:pr.pc=0
    ·exact m3 q
    ·by_cases q4:pr.pc<4
     ·exact l2 k (by omega) q4
     ·have:=m2 (by omega);omega
   ·rw[hn]at e;cases e
    rw[n1]at k⊢
    obtain⟨m1,m2,m3⟩:=n2 k
    rw[d.se,ho]
    by_cases q4:pr.pc<4
    ·have h3:pr.pc=3:=by have:=m1 q4;omega
     have hlt:=l2 k (by omega) q4
     rw[hl,Q3 ⟨k,h3⟩]
     exact⟨rfl,by omega,fun z hz hpz gz=>by have:=L.l1 z hz hpz gz;omega⟩
    ·rw[hl,Q0 (by omega)]
     exact l3 k (by omega)
  ·have:=h.s j y hy
   exact⟨this.l0,by rw[ho];exact this.l1,this.l2,by rw[ho];exact this.l3⟩
 ·obtain⟨r1,r2,r3⟩:=a.r r hr
  have gd:E0q ⟨R.se.part,x1.ev,r⟩→pr.a.kind=1∧4≤pr.pc:=fun g=>by
   have g1:r.kind=1:=g.1
   have g2:r.code=0:=g.2
   have k:pr.a.kind=1:=by rw[←r1];exact g1
   rcases r3 k with q|q
   ·exact absurd g2 q.2
   ·exact⟨k,q.1⟩
  refine⟨fun j y hy=>?_,?_,fun z hz gz=>?_⟩
  ·rw[d.A0c]at hy
   rcases B4p hy with⟨rfl,rfl⟩|⟨hj,hy⟩
   ·refine⟨by rw[d.se];omega,fun z hz hpz gz=>?_,fun pr' o' e=>(by rw[hn]at e;cases e),fun pr' o' e=>(by rw[hn]at e;cases e)⟩
    rw[d.se]
    rw[ho,aP]at hz
    rcases hz with hz|hz
    ·have:=L.l1 z hz hpz gz;omega
    ·rw[aN]at hz
     subst hz
     obtain⟨k,k4⟩:=gd gz
     have:=(l3 k k4).1
     show r.id≤_
     rw[r2];omega
   ·have:=h.s j y hy
    have sub:∀z ∈ P'.outs,z.part=(j:Int)→z ∈ P.outs:=fun z hz hpz=>by
     rw[ho,aP]at hz
     rcases hz with hz|hz
     ·exact hz
     ·rw[aN]at hz
      subst hz
      have hpz:R.se.part=(j:Int):=hpz
      omega
    exact⟨this.l0,fun z hz hpz=>this.l1 z (sub z hz hpz) hpz,this.l2,fun pr' o' e k p4=>by
     obtain⟨t1,t2,t3⟩:=this.l3 pr' o' e k p4
     exact⟨t1,t2,fun z hz hpz=>t3 z (sub z hz hpz) hpz⟩⟩
  ·rw[ho,List.pairwise_append]
   refine⟨h.pw,List.pairwise_singleton _ _,fun z hz y hy e gz gy=>?_⟩
   rw[aN]at hy
   subst hy
   obtain⟨k,k4⟩:=gd gy
   have e:z.part=R.se.part:=e
   show z.r.id<r.id
   rw[r2]
   exact(l3 k k4).2.2 z hz (by rw[e];exact hp) gz
  ·rw[ho,aP]at hz
   rcases hz with hz|hz
   ·exact h.pos z hz gz
   ·rw[aN]at hz
    subst hz
    obtain⟨k,k4⟩:=gd gz
    show 0<r.id
    rw[r2];exact(l3 k k4).2.1
end
structure F2t(P:A0h)(v:Int):Prop where
 lt:v<P.events
 o:∀o ∈ P.outs,o.ev=v→¬(o.r.kind=1∧o.r.code≠0)
 q:∀(i:Nat) x,P.A0c[i]?=some x→∀q ∈ x.queue,q.ev≠v
 n:∀(i:Nat) x pr o,P.A0c[i]?=some x→x.now=some (pr,o)→x.ev=v→pr.a.kind≠1∨2≤pr.pc
section
variable{P P':A0h}{i:Nat}{x x1 x':A0w}{pr:PrS}{o:Option A0a}{R:StA}{ss:A0k}{po:A0e}(hx:P.A0c[i]?=some x)(b:Beg x x1 pr o)(d:A5q P P' i x1 R x')(hp:R.se.part=i)(a:E1d pr x1.se ss po P.S R)(h0:0≤pr.pc)
include hx b d hp a h0
end
end
section
variable{W K:Int→Int}
structure H8d(P P':A0h)(i:Nat)(x x1:A0w)(pr:PrS)(o:Option A0a)(x':A0w):Prop where
 b:Beg x x1 pr o
 d:A5q P P' i x1 (A2k pr o x1.se x1.nl (P.use x1.ev).nl P.S) x'
 hp:(A2k pr o x1.se x1.nl (P.use x1.ev).nl P.S).se.part=i
 a:E1d pr x1.se x1.nl (P.use x1.ev).nl P.S (A2k pr o x1.se x1.nl (P.use x1.ev).nl P.S)
 h0:0≤pr.pc
theorem E8d{P:A0h}{n i:Nat}{x:A0w}(ok:A2q P n)(I:PI P)(hx:P.A0c[i]?=some x):((A3u P i x).2=P∧x.now=none∧x.queue=[])∨∃x1 pr o x',H8d P (A3u P i x).2 i x x1 pr o x':=by
 rcases G2i P i x with h|⟨x1,pr,o,b,e⟩
 ·exact .inl h
 ·obtain⟨x',d⟩:=E1q P i x1 pr o
  have h0:0≤pr.pc:=by
   rcases b.c with⟨_,hn⟩|⟨_,q,_,_,e,_⟩
   ·exact((ok.A0c x (aJ hx)).prog pr o hn).pc.1
   ·rw[e];exact bK _
  exact .inr ⟨x1,pr,o,x',b,by rw[e];exact d,by rw[E4u,b.se];exact I.part i x hx,H6a _ _ _ _ _ _ h0,h0⟩
structure UF(K:Int→Int)(P:A0h):Prop where
 f:∀(j:Nat) v,K j=4→P.A0u[j]?=some v→v=-1∨F2t P v
structure DoQ(W K:Int→Int)(P P':A0h):Prop where
 q:QI W K P'
 l:LI P'
 f:∀v,F2t P v→F2t P' v
 u:∀j,j<P.A0u.length→K (j:Nat)≠4→P'.A0u[j]?=P.A0u[j]?
 uf:UF K P'
structure RunQ(W K:Int→Int)(P F:A0h)(n:Nat):Prop where
 q:QI W K F
 l:LI F
 f:∀v,F2t P v→F2t F v
 u:∀j,j<n→K (j:Nat)≠4→F.A0u[j]?=P.A0u[j]?
 uf:UF K F
theorem H7u(c:Cf):QI W K (A1x c)∧LI (A1x c)∧UF K (A1x c):=by
 have hs:∀(i:Nat) x,(A1x c).A0c[i]?=some x→x=A3s c i:=fun i x h=>B9w (f:=fun(i:Nat)=>A3s c i) h
 have ho:∀o,o ∈ (A1x c).outs→False:=fun o h=>by cases h
 refine⟨⟨fun i x hx=>?_,fun o h=>(ho o h).elim⟩,⟨fun i x hx=>?_,List.Pairwise.nil,fun o h=>(ho o h).elim⟩,⟨fun j v _ h=>by cases h⟩⟩
 ·rw[hs i x hx]
  exact⟨fun q h=>(by cases h),List.Pairwise.nil,fun h=>(by cases h),fun o h=>(ho o h).elim,fun d h=>(by cases h)⟩
 ·rw[hs i x hx]
  exact⟨bK _,fun o h=>(ho o h).elim,fun pr o h=>(by cases h),fun pr o h=>(by cases h)⟩
end
end Go.Proofs.YtckanieeocdpbaaGreat.P
