import Derived.Test.YtglhnofjggpdjaaGreatPoolN
namespace Go.Proofs.YtglhnofjggpdjaaGreat.P
open Go.RowKit Go.Proofs.YtglhnofjggpdjaaGreat.Eng Go.Proofs.YtglhnofjggpdjaaGreat Go.Proofs.YtglhnofjggpdjaaGreat.Dat Go.Proofs.YtglhnofjggpdjaaGreat.FDat
set_option linter.unusedVariables false
set_option linter.unusedSimpArgs false
set_option linter.unusedSectionVars false
set_option maxRecDepth 10000
section
def w64(z:Int):Int:=IntKind.i64.wrap z
theorem F8e{S:WS}(h:S.ok):FX 44 [.int S.c.c0,.int S.c.c1,.int S.c.c2,.int S.c.c3,.int S.c.c4,.int S.c.c5,.int S.c.c6]=some [.int (A0s S.c)]:=all_eq S.c h.c
def B3c(sw:SwS)(c:Cf):Option A0a→A0a
 |none=>A0a.new ⟨3,sw.at_/A0s c,0,sw.at_%A0s c,sw.A3s⟩
 |some P=>if P.pc≥14 then A0a.new ⟨3,sw.at_/A0s c,0,sw.at_%A0s c,sw.A3s⟩else P
def D3m(sw:SwS)(c:Cf)(P:A0a):SwS:=
 if P.pc<14 then sw else if sw.at_+1=A0s c*A0s c then {sw with at_:=0,A7g:=w64 (sw.A7g+1)} else {sw with at_:=sw.at_+1}
def A6s(sw:SwS)(o:Option A0a)(S:WS):SwS × A0a × WS:=(D3m sw S.c (A2s (B3c sw S.c o) S).1,(A2s (B3c sw S.c o) S).1,(A2s (B3c sw S.c o) S).2)
def SwS.at(sw:SwS)(p:D):SwS:={sw with p:=p}
def D8o(sw:SwS)(c:Cf):Prop:=0≤sw.at_∧sw.at_<A0s c*A0s c
def D0a(b q w m:Nat)(x:Nat):Prop:=x=b∨x=q∨x=w∨x=m
section
variable{L:List D}{b q w m k:Nat}{ptr:D}{sw:SwS}{S:WS}{o:Option A0a}(W:InW L w m k S)(hb:L.getD b D.nil=.agg (sw.at ptr).ds)(h:S.ok)(hsw:D8o sw S.c)(hl:S.log.length≤1000000000)
include W hb h hsw hl
theorem E7c{P:A0a}(hq:L.getD q D.nil=.agg P.ds)(A7d:ptr=.int (q:Nat))(hP:P.ok)(x2:D):
  ∃L',A6f (.int (b:Nat)) (.int (w:Nat)) x2 (.int (A0s S.c)) [.agg L]=some [.agg L']∧InW L' w m k (A2s P S).2∧L'.getD b D.nil=.agg ((D3m sw S.c (A2s P S).1).at ptr).ds∧L'.getD q D.nil=.agg (A2s P S).1.ds∧Fr L L' (D0a b q w m):=by
 obtain⟨L1,n1,d1,d2,d3⟩:=F2p W hq h hP hl
 have hal:=A6z S.c h.c
 have hbq:b≠q:=A3f hb hq (by rw[SwS.len,A0a.len];decide)
 obtain⟨b1,b2,b3⟩:=W.far hb (by rw[SwS.len];decide) (by rw[SwS.len];decide) (by rw[SwS.len];decide)
 have hb1:L1.getD b D.nil=.agg (sw.at ptr).ds:=d3.get hb (by simp only[hbq,b1,b2,or_self,not_false_iff])
 have n2:=D5v d1 d2
 have hat:(sw.at ptr).at_=sw.at_:=rfl
 have hps:(sw.at ptr).A7g=sw.A7g:=rfl
 have hpp:(sw.at ptr).p=.int (q:Nat):=A7d
 obtain⟨s1,s2⟩:=hsw
 have hsq:A0s S.c*A0s S.c≤24*24:=Int.mul_le_mul hal.2 hal.2 (by omega) (by omega)
 have d3':Fr L L1 (D0a b q w m):=d3.mono fun x hx=>by
  unfold D0a
  rcases hx with hx|hx|hx
  ·exact .inr (.inl hx)
  ·exact .inr (.inr (.inl hx))
  ·exact .inr (.inr (.inr hx))
 rw[B9r]
 simp only[HH,hb,hb1,SwS.A1j,SwS.A1v,SwS.A2b,hpp,n1,n2,hat,hps]
 rw[A1a (sw.at_+1) (by omega) (by omega),A1a (A0s S.c*A0s S.c) (by omega) (by omega)]
 unfold D3m
 by_cases c0:(A2s P S).1.pc≥14
 ·rw[if_neg (by omega:¬(A2s P S).1.pc<14)]
  simp only[c0,decide_true,Bool.not_true,Bool.false_eq_true,if_false]
  have fin:∀z:SwS,∃L',some [D.agg (L1.set b (.agg (z.at ptr).ds))]=some [.agg L']∧InW L' w m k (A2s P S).2∧L'.getD b D.nil=.agg (z.at ptr).ds∧L'.getD q D.nil=.agg (A2s P S).1.ds∧Fr L L' (D0a b q w m):=fun z=>
   ⟨_,rfl,d1.fr (Fr.set L1 b _ (T:=(·=b)) rfl) (Ne.symm b1) (Ne.symm b2) (Ne.symm b3),A3v (A2h hb1) _,by rw[A3j hbq];exact d2,d3'.trans (Fr.set L1 b _ (.inl rfl))⟩
  by_cases c1:sw.at_+1=A0s S.c*A0s S.c
  ·have i1:(sw.at_+1 == A0s S.c*A0s S.c)=true:=beq_iff_eq.2 c1
   rw[if_pos c1]
   simp only[i1,if_true,SwS.rng,SwS.B2t,SwS.B5j]
   exact fin {sw with at_:=0,A7g:=w64 (sw.A7g+1)}
  ·have i1:(sw.at_+1 == A0s S.c*A0s S.c)=false:=beq_eq_false_iff_ne.2 c1
   rw[if_neg c1]
   simp only[i1,Bool.false_eq_true,if_false,SwS.rng,SwS.B2t]
   exact fin {sw with at_:=sw.at_+1}
 ·rw[if_pos (by omega:(A2s P S).1.pc<14)]
  simp only[c0,decide_false,Bool.not_false,if_true]
  exact⟨L1,rfl,d1,hb1,d2,d3'⟩
theorem G7a(hp:PP L q ptr o)(ho:∀P,o=some P→P.ok):
  ∃L' q',FX 49 [.int (b:Nat),.int (w:Nat),.agg L]=some [.agg L']∧InW L' w m k (A6s sw o S).2.2∧L'.getD b D.nil=.agg ((A6s sw o S).1.at (.int (q':Nat))).ds∧L'.getD q' D.nil=.agg (A6s sw o S).2.1.ds∧Fr L L' (D0a b q w m)∧(q'=q∨L.length≤q'):=by
 have n1:=F8e h
 have hal:=A6z S.c h.c
 obtain⟨s1,s2⟩:=hsw
 have hsq:A0s S.c*A0s S.c≤24*24:=Int.mul_le_mul hal.2 hal.2 (by omega) (by omega)
 have hdone:FX 56 [ptr,.agg L]=some [.bool (A7z o)]:=by
  cases o with
  |none=>
   dsimp only[PP]at hp
   rw[hp,B2z]
   simp only[HH];rfl
  |some P=>
   obtain⟨e1,e2⟩:=hp
   rw[e1,D5v W e2];rfl
 obtain⟨b1,b2,b3⟩:=W.far hb (by rw[SwS.len];decide) (by rw[SwS.len];decide) (by rw[SwS.len];decide)
 have hpp:(sw.at ptr).p=ptr:=rfl
 have hat:(sw.at ptr).at_=sw.at_:=rfl
 have hsh:(sw.at ptr).A3s=sw.A3s:=rfl
 rw[C5s]
 simp only[HH,W.w,hb,A0h.all,n1,SwS.A1l,SwS.A1j,SwS.A2b,hpp,hdone,hat,hsh]
 by_cases c0:A7z o=true
 ·have j0:(A0s S.c != 0)=true:=by simp;omega
  have hdiv:sw.at_.tdiv (A0s S.c)=sw.at_/A0s S.c:=Int.tdiv_eq_ediv_of_nonneg s1
  have hmod:sw.at_.tmod (A0s S.c)=sw.at_%A0s S.c:=Int.tmod_eq_emod_of_nonneg s1
  have hd0:0≤sw.at_/A0s S.c:=Int.ediv_nonneg s1 (by omega)
  have hd1:sw.at_/A0s S.c≤sw.at_:=Int.ediv_le_self _ s1
  have nb:FX 57 [.int 3,.int (sw.at_/A0s S.c),.int 0,.int (sw.at_%A0s S.c),.int sw.A3s,.agg L]=some [.int (L.length:Nat),.agg (L++[.agg (A0a.new ⟨3,sw.at_/A0s S.c,0,sw.at_%A0s S.c,sw.A3s⟩).ds])]:=F2o ⟨3,sw.at_/A0s S.c,0,sw.at_%A0s S.c,sw.A3s⟩ L
  have hO:B3c sw S.c o=A0a.new ⟨3,sw.at_/A0s S.c,0,sw.at_%A0s S.c,sw.A3s⟩:=by
   cases o with
   |none=>rfl
   |some P=>exact if_pos (by simpa[A7z]using c0)
  rw[hdiv,hmod,A1a _ (by omega) (by omega)]
  unfold A6s
  rw[hO]
  generalize (⟨3,sw.at_/A0s S.c,0,sw.at_%A0s S.c,sw.A3s⟩:Aim)=ai at*
  have hf:Fr L (L++[D.agg (A0a.new ai).ds]) (fun _=>False):=Fr.snoc L _ _
  have hb1:=hf.get hb not_false
  have hset:∀x:SwS,x.ds.set 3 (.int (L.length:Nat))=(x.at (.int (L.length:Nat))).ds:=fun _=>rfl
  simp only[c0,if_true,j0,nb,HH,hb1,SwS.rng,hset]
  have W2:InW ((L++[D.agg (A0a.new ai).ds]).set b (.agg (sw.at (.int (L.length:Nat))).ds)) w m k S:=(W.fr hf not_false not_false not_false).fr (Fr.set _ b _ (T:=(·=b)) rfl) (Ne.symm b1) (Ne.symm b2) (Ne.symm b3)
  have hbl:=A2h hb
  have hb2:((L++[D.agg (A0a.new ai).ds]).set b (.agg (sw.at (.int (L.length:Nat))).ds)).getD b D.nil=.agg (sw.at (.int (L.length:Nat))).ds:=A3v (by simp;omega) _
  have hq2:((L++[D.agg (A0a.new ai).ds]).set b (.agg (sw.at (.int (L.length:Nat))).ds)).getD L.length D.nil=.agg (A0a.new ai).ds:=by rw[A3j (by omega)];exact A6i L _
  obtain⟨L',n2,W3,b5,q5,F5⟩:=E7c W2 hb2 h ⟨s1,s2⟩ hl hq2 rfl (A0a.B9l ai) (.agg L)
  refine⟨L',L.length,n2,W3,b5,q5,?_,.inr (Nat.le_refl _)⟩
  have F1:Fr L ((L++[D.agg (A0a.new ai).ds]).set b (.agg (sw.at (.int (L.length:Nat))).ds)) (D0a b L.length w m):=(Fr.snoc L _ _).trans (Fr.set _ b _ (.inl rfl))
  have F2:=F1.trans F5
  refine⟨F2.1,fun x hx hn=>F2.2 x hx fun ho=>hn ?_⟩
  unfold D0a at ho⊢
  rcases ho with ho|ho|ho
  ·exact .inl ho
  ·omega
  ·exact .inr (.inr ho)
 ·have c0':A7z o=false:=by simpa using c0
  cases o with
  |none=>cases c0'
  |some P=>
   obtain⟨e1,e2⟩:=hp
   have hO:B3c sw S.c (some P)=P:=if_neg (by simpa[A7z]using c0')
   simp only[c0',Bool.false_eq_true,if_false]
   unfold A6s
   rw[hO]
   subst e1
   obtain⟨L',n2,W3,b5,q5,F5⟩:=E7c W hb h ⟨s1,s2⟩ hl e2 rfl (ho P rfl) (.agg L)
   exact⟨L',q,n2,W3,b5,q5,F5,.inl rfl⟩
end
def A3p(re:ReS)(S:WS)(x:Int):ReS × WS:=
 if(A1r re.st).1≠0 then(re,S)else if B1u S.c re.tm≠re.A3s then(re,S)else if ¬re.tm.A1o≤S.now then(re,S)
 else if(S.turn x re.word (A1r re.st).2).1 then({re with done:=true,st:=(A1r re.st).2,at_:=S.now},(S.turn x re.word (A1r re.st).2).2.tell {Ev.zero with kind:=5,cell:=x,gen:=(A1r re.st).2.g})
 else({re with done:=false},S)
def B8q(re:ReS)(c:Cf):ReS:=if re.pc+1=4*A0s c then {re with pc:=0,A7g:=w64 (re.A7g+1)} else {re with pc:=re.pc+1}
def A7l(re:ReS)(S:WS):ReS × WS:=
 if re.pc%4=0 then({re with done:=false,word:=S.word (re.pc/4),st:=A0l (S.word (re.pc/4))},S)
 else if re.pc%4=1 then({re with tm:=B5e (S.B1g (re.pc/4))},S)
 else if re.pc%4=2 then A3p re S (re.pc/4)
 else(re,if re.done then A7o S (re.pc/4) re.st.g S.c.c5 (A7s re.st re.at_)else S)
def B2i(re:ReS)(S:WS):ReS × WS:=(B8q (A7l re S).1 S.c,(A7l re S).2)
structure B6v(re:ReS)(c:Cf):Prop where
 pc:0≤re.pc∧re.pc<4*A0s c
 word:re.word<18446744073709551616
 st:re.st.wf
 tm:re.tm.sm
 at_:In re.at_
theorem G9h(s:St):FX 77 [.int s.k,.bool s.f,.int s.g,.int s.l,.int s.n]=some (A1x (A1r s)):=G4s s
theorem E3g{s:St}(h:s.wf):(A1r s).2.wf:=by
 unfold A1r
 split
 ·exact St.A9b
 ·exact h.C2s 7 _ (In.lit (by decide))
structure Hr(L:List D)(b w m k:Nat)(re:ReS)(S:WS):Prop where
 W:InW L w m k S
 b:L.getD b D.nil=.agg re.ds
def FrR(L L':List D)(b w m:Nat):Prop:=Fr L L' (fun x=>x=b∨x=w∨x=m)
section
variable{L:List D}{b w m k:Nat}{re:ReS}{S:WS}(H:Hr L b w m k re S)
include H
theorem Hr.far:b≠w∧b≠m∧b≠k:=H.W.far H.b (by rw[ReS.len];decide) (by rw[ReS.len];decide) (by rw[ReS.len];decide)
theorem Hr.D2b(re':ReS):Hr (L.set b (.agg re'.ds)) b w m k re' S:=by
 obtain⟨h1,h2,h3⟩:=H.far
 exact⟨H.W.fr (Fr.set L b _ (T:=(·=b)) rfl) (Ne.symm h1) (Ne.symm h2) (Ne.symm h3),A3v (A2h H.b) _⟩
theorem Hr.A9r{L1:List D}{S1:WS}(W1:InW L1 w m k S1)(F:Fr L L1 (fun x=>x=w∨x=m)):Hr L1 b w m k re S1∧FrR L L1 b w m:=by
 obtain⟨h1,h2,h3⟩:=H.far
 exact⟨⟨W1,F.get H.b (by simp only[h1,h2,or_self,not_false_iff])⟩,F.mono fun x hx=>.inr hx⟩
omit H in
theorem C9c(x:D):FrR L (L.set b x) b w m:=Fr.set L b x (.inl rfl)
variable(h:S.ok)(hk:B6v re S.c)(hl:S.log.length≤1000000000)
include h hk hl
theorem H3h:FX 79 [.int (k:Nat),.int re.tm.A1o,.agg L]=some [.bool (decide (re.tm.A1o≤S.now))]:=by
 have h1:=B6x H.W h
 rw[D4i,h1]
 simp only[HH]
theorem H0n(x:Int)(hx:-1000≤x∧x≤1000):∃L',FX 61 [.int (b:Nat),.int (w:Nat),.int x,.agg L]=some [.agg L']∧Hr L' b w m k (A3p re S x).1 (A3p re S x).2∧FrR L L' b w m:=by
 have n1:=G9h re.st
 have n2:=D8a h re.tm
 have n3:=H3h H h hk hl
 rw[D0w]
 simp only[HH,H.b,H.W.w,A0h.all,ReS.A1l,ReS.A2b,ReS.A1w,ReS.A3g,ReS.A4q,ReS.A7r,ReS.A5t,ReS.A5u,ReS.B2n,ReS.A9i,ReS.A8u,ReS.A9f,n1,n2,n3,A1x.len,A1x.all]
 by_cases c0:(A1r re.st).1=0
 ·have d0:¬(A1r re.st).1≠0:=by simpa using c0
  simp only[E2n c0,Bool.not_true,Bool.false_eq_true,if_false]
  by_cases c1:B1u S.c re.tm=re.A3s
  ·have i1:(B1u S.c re.tm != re.A3s)=false:=by simp[c1]
   have d1:¬B1u S.c re.tm≠re.A3s:=by simpa using c1
   simp only[i1,Bool.false_eq_true,if_false]
   by_cases c2:re.tm.A1o≤S.now
   ·have d2:¬¬re.tm.A1o≤S.now:=by simpa using c2
    simp only[c2,decide_true,Bool.not_true,Bool.false_eq_true,if_false]
    obtain⟨L1,n4,W1,F1⟩:=B7y H.W h x hx re.word (A1r re.st).2 (E3g hk.st)
    obtain⟨H2,G2⟩:=H.A9r W1 (F1.mono fun _ hb=>.inr hb)
    obtain⟨o1,o2,o3,o4,o5⟩:=S.B0a h x re.word (A1r re.st).2
    simp only[n4,HH,H2.b,ReS.rng,ReS.C1b]
    by_cases c3:(S.turn x re.word (A1r re.st).2).1=true
    ·have H3:=H2.D2b {re with done:=true}
     have n5:=B6x H3.W o1
     rw[o3]at n5
     have e:A3p re S x=({re with done:=true,st:=(A1r re.st).2,at_:=S.now},(S.turn x re.word (A1r re.st).2).2.tell {Ev.zero with kind:=5,cell:=x,gen:=(A1r re.st).2.g}):=by
      unfold A3p;rw[if_neg d0,if_neg d1,if_neg d2,if_pos c3]
     rw[e]
     have H4:=H2.D2b {re with done:=true,st:=(A1r re.st).2,at_:=S.now}
     obtain⟨L5,n6,W5,F5⟩:=C7w H4.W o1 (by rw[o4];exact hl) 5 x (A1r re.st).2.g 0 0 0 0 0
     obtain⟨H6,G6⟩:=H4.A9r W5 (F5.mono fun _ hb=>.inl hb)
     have hset:∀z:ReS,z.ds.set 15 (wN S.now)=ReS.ds {z with at_:=S.now}:=fun _=>rfl
     have e10:({k:=(A1r re.st).2.k,f:=(A1r re.st).2.f,g:=(A1r re.st).2.g,l:=(A1r re.st).2.l,n:=(A1r re.st).2.n}:St)=(A1r re.st).2:=rfl
     simp only[c3,if_true,H3.W.w,A0h.A5t,n5,HH,ReS.rng,ReS.A9t,ReS.B5h,ReS.B7f,ReS.C8p,ReS.D9g,hset,e10,n6]
     exact⟨L5,rfl,H6,(G2.trans (C9c _)).trans G6⟩
    ·have c3':(S.turn x re.word (A1r re.st).2).1=false:=by simpa using c3
     have e:A3p re S x=({re with done:=false},S):=by
      unfold A3p;rw[if_neg d0,if_neg d1,if_neg d2,if_neg c3]
     rw[e]
     simp only[c3',Bool.false_eq_true,if_false]
     rw[o5 c3']at H2
     exact⟨_,rfl,H2.D2b {re with done:=false},G2.trans (C9c _)⟩
   ·have e:A3p re S x=(re,S):=by
     unfold A3p;rw[if_neg d0,if_neg d1,if_pos c2]
    rw[e]
    simp only[c2,decide_false,Bool.not_false,if_true]
    exact⟨L,rfl,H,Fr.refl _ _⟩
  ·have i1:(B1u S.c re.tm != re.A3s)=true:=by simp[c1]
   have e:A3p re S x=(re,S):=by
    unfold A3p;rw[if_neg d0,if_pos c1]
   rw[e]
   simp only[i1,if_true]
   exact⟨L,rfl,H,Fr.refl _ _⟩
 ·have e:A3p re S x=(re,S):=by unfold A3p;rw[if_pos c0]
  rw[e]
  simp only[E0c c0,Bool.not_false,if_true]
  exact⟨L,rfl,H,Fr.refl _ _⟩
end
theorem C3q{L:List D}{b w m k:Nat}{re:ReS}{S:WS}(H:Hr L b w m k re S)(h:S.ok)(hpc:0≤re.pc∧re.pc<4*A0s S.c)(x2:D):
  ∃L',A2l (.int (b:Nat)) (.int (w:Nat)) x2 [.agg L]=some [.agg L']∧Hr L' b w m k (B8q re S.c) S∧FrR L L' b w m:=by
 have n1:=F8e h
 have hal:=A6z S.c h.c
 obtain⟨p1,hp1⟩:∃p1:ReS,p1={re with pc:=re.pc+1}:=⟨_,rfl⟩
 have H1:=H.D2b p1
 rw[C0l]
 simp only[HH,H.b,ReS.A1j,ReS.A1v,ReS.rng]
 rw[A1a (re.pc+1) (by omega) (by omega)]
 simp only[ReS.B2t,←hp1,H1.W.w,A0h.all,D6e,n1,HH]
 rw[A1a (4*A0s S.c) (by omega) (by omega)]
 unfold B8q
 by_cases c0:re.pc+1=4*A0s S.c
 ·have i0:(re.pc+1 == 4*A0s S.c)=true:=beq_iff_eq.2 c0
  rw[if_pos c0]
  simp only[i0,if_true,ReS.rng,ReS.B5j]
  exact⟨_,rfl,H.D2b {re with pc:=0,A7g:=w64 (re.A7g+1)},C9c _⟩
 ·have i0:(re.pc+1 == 4*A0s S.c)=false:=beq_eq_false_iff_ne.2 c0
  rw[if_neg c0]
  simp only[i0,Bool.false_eq_true,if_false]
  rw[hp1]at H1⊢
  exact⟨_,rfl,H1,C9c _⟩
theorem H2b{L:List D}{b w m k:Nat}{re:ReS}{S:WS}(H:Hr L b w m k re S)(h:S.ok)(hk:B6v re S.c)(hl:S.log.length≤1000000000):
  ∃L',FX 50 [.int (b:Nat),.int (w:Nat),.agg L]=some [.agg L']∧Hr L' b w m k (B2i re S).1 (B2i re S).2∧FrR L L' b w m:=by
 have hal:=A6z S.c h.c
 have hpc:=hk.pc
 have hx:-1000≤re.pc/4∧re.pc/4≤1000:=by omega
 have hdiv:re.pc.tdiv 4=re.pc/4:=Int.tdiv_eq_ediv_of_nonneg hpc.1
 have hmod:re.pc.tmod 4=re.pc%4:=Int.tmod_eq_emod_of_nonneg hpc.1
 rw[C6q]
 simp only[HH,H.b,H.W.w,A0h.A3g,ReS.A1j,ReS.A1w,ReS.A3g,ReS.A4q,ReS.A7r,ReS.A5t,ReS.B2g,ReS.B6b,hdiv,hmod,ReS.rng,ReS.C1b]
 rw[A1a (re.pc/4) (by omega) (by omega)]
 have hF:∀R,A7l re S=R→B2i re S=(B8q R.1 S.c,R.2):=fun R e=>by unfold B2i;rw[e]
 by_cases c0:re.pc%4=0
 ·have i0:(re.pc%4 == 0)=true:=beq_iff_eq.2 c0
  rw[hF _ (if_pos c0)]
  have H1:=H.D2b {re with done:=false}
  obtain⟨L1,n1,W1,F1⟩:=B0m H1.W h (re.pc/4) hx
  obtain⟨H2,G2⟩:=H1.A9r W1 (F1.mono fun _ hb=>.inr hb)
  rw[F1h]at n1
  simp only[i0,if_true,n1,HH,H2.b,ReS.rng,ReS.B5m,ReS.A9t,ReS.B5h,ReS.B7f,ReS.C8p,ReS.D9g]
  have H3:=H2.D2b {re with done:=false,word:=S.word (re.pc/4),st:=A0l (S.word (re.pc/4))}
  obtain⟨L4,n4,H4,G4⟩:=C3q H3 h hpc (.agg L)
  exact⟨L4,n4,H4,(((C9c _).trans G2).trans (C9c _)).trans G4⟩
 have i0:(re.pc%4 == 0)=false:=beq_eq_false_iff_ne.2 c0
 simp only[i0,Bool.false_eq_true,if_false]
 by_cases c1:re.pc%4=1
 ·have i1:(re.pc%4 == 1)=true:=beq_iff_eq.2 c1
  rw[hF ({re with tm:=B5e (S.B1g (re.pc/4))},S) (by unfold A7l;rw[if_neg c0,if_pos c1])]
  obtain⟨L1,n1,W1,F1⟩:=D3g H.W h (re.pc/4) hx
  obtain⟨H2,G2⟩:=H.A9r W1 (F1.mono fun _ hb=>.inr hb)
  rw[G6x]at n1
  simp only[i1,if_true,n1,HH,H2.b,ReS.rng,ReS.B6j,ReS.D5n,ReS.C5d,ReS.C5o,ReS.C4o]
  have H3:=H2.D2b {re with tm:=B5e (S.B1g (re.pc/4))}
  obtain⟨L4,n4,H4,G4⟩:=C3q H3 h hpc (.agg L)
  exact⟨L4,n4,H4,(G2.trans (C9c _)).trans G4⟩
 have i1:(re.pc%4 == 1)=false:=beq_eq_false_iff_ne.2 c1
 simp only[i1,Bool.false_eq_true,if_false]
 by_cases c2:re.pc%4=2
 ·have i2:(re.pc%4 == 2)=true:=beq_iff_eq.2 c2
  rw[hF (A3p re S (re.pc/4)) (by unfold A7l;rw[if_neg c0,if_neg c1,if_pos c2])]
  obtain⟨L1,n1,H2,G2⟩:=H0n H h hk hl (re.pc/4) hx
  obtain⟨o1,o2⟩:=S.B0a h (re.pc/4) re.word (A1r re.st).2
  have hE:(A3p re S (re.pc/4)).2.ok∧(A3p re S (re.pc/4)).2.c=S.c∧(A3p re S (re.pc/4)).1.pc=re.pc:=by
   unfold A3p
   split
   ·exact⟨h,rfl,rfl⟩
   split
   ·exact⟨h,rfl,rfl⟩
   split
   ·exact⟨h,rfl,rfl⟩
   split
   ·exact⟨WS.C1y o1 _,o2.1,rfl⟩
   ·exact⟨h,rfl,rfl⟩
  obtain⟨e1,e2,e3⟩:=hE
  simp only[i2,if_true,n1,HH]
  obtain⟨L4,n4,H4,G4⟩:=C3q H2 e1 (by rw[e3,e2];exact hpc) (.agg L)
  rw[e2]at H4
  exact⟨L4,n4,H4,G2.trans G4⟩
 have i2:(re.pc%4 == 2)=false:=beq_eq_false_iff_ne.2 c2
 rw[hF (re,if re.done then A7o S (re.pc/4) re.st.g S.c.c5 (A7s re.st re.at_)else S) (by unfold A7l;rw[if_neg c0,if_neg c1,if_neg c2])]
 simp only[i2,Bool.false_eq_true,if_false,E9l,A0q,A4l.len]
 obtain⟨L5,n5,H5,G5⟩:=C3q H h hpc (.agg L)
 by_cases c3:re.done=true
 ·have hS:(if re.done=true then A7o S (re.pc/4) re.st.g S.c.c5 (A7s re.st re.at_)else S)=A7o S (re.pc/4) re.st.g S.c.c5 (A7s re.st re.at_):=if_pos c3
  rw[hS]
  cases ho:A7s re.st re.at_ with
  |none=>
   have e1:((A4l none).getD 6 D.nil).toBool=false:=rfl
   simp only[e1,Bool.false_eq_true,if_false]
   exact⟨L5,n5,H5,G5⟩
  |some r=>
   have e1:((A4l (some r)).getD 6 D.nil).toBool=true:=rfl
   obtain⟨L1,n1,W1,F1⟩:=C2l H.W h (re.pc/4) re.st.g S.c.c5 r (D4x hk.st hk.at_ ho)
   obtain⟨H2,G2⟩:=H.A9r W1 (F1.mono fun _ hb=>.inr hb)
   obtain⟨o1,o2,o3,o4⟩:=WS.E5k h (re.pc/4) re.st.g S.c.c5 r
   have n1':FX 63 [.int (w:Nat),.int (re.pc/4),.int re.st.g,.int S.c.c5,(A4l (some r)).getD 0 D.nil,(A4l (some r)).getD 1 D.nil,(A4l (some r)).getD 2 D.nil,(A4l (some r)).getD 3 D.nil,(A4l (some r)).getD 4 D.nil,(A4l (some r)).getD 5 D.nil,.agg L]=some [.agg L1]:=n1
   simp only[e1,if_true,c3,n1',HH]
   obtain⟨L4,n4,H4,G4⟩:=C3q H2 o1 (by rw[o2];exact hpc) (.agg L)
   rw[o2]at H4
   exact⟨L4,n4,H4,G2.trans G4⟩
 ·have c3':re.done=false:=by simpa using c3
  have hS:(if re.done=true then A7o S (re.pc/4) re.st.g S.c.c5 (A7s re.st re.at_)else S)=S:=if_neg c3
  rw[hS]
  simp only[c3',Bool.false_eq_true,if_false]
  rw[D0h]
  exact⟨L5,n5,H5,G5⟩
end
section
structure A8s(S S':WS):Prop where
 ok:S'.ok
 c:S'.c=S.c
 now:S'.now=S.now
 log:S'.log.length≤S.log.length+1
 len:S'.words.length=S.words.length
theorem A8s.A2f{S:WS}(h:S.ok):A8s S S:=⟨h,rfl,rfl,Nat.le_succ _,rfl⟩
theorem C4j{S:WS}(h:S.ok)(x:Int)(old:Nat)(s:St)(e:Ev):A8s S ((S.turn x old s).2.tell e):=by
 obtain⟨o1,o2,o3,o4,_⟩:=S.B0a h x old s
 exact⟨WS.C1y o1 _,o2,o3,by simp only[WS.tell,List.length_append,o4,List.length_cons,List.length_nil];omega,S.C3o _ _ _⟩
theorem E2t{S:WS}(h:S.ok)(x g n:Int)(o:Option Rc):A8s S (A7o S x g n o):=by
 cases o with
 |none=>exact .A2f h
 |some r=>
  obtain⟨o1,o2,o3,o4⟩:=WS.E5k h x g n r
  exact⟨o1,o2,o3,by show(S.note x g n r).log.length≤_;rw[o4];omega,S.F3c _ _ _ _⟩
structure C9b(pr:PrS)(o:Option A0a)(se:A0j)(S:WS)(X:Stp):Prop where
 w:A8s S X.S
 C5w:B6e X.se S.c
 part:X.se.part=se.part
 prog:X.r=none→A4k X.pr o X.se X.S∧X.pr.a=pr.a
section
variable{pr:PrS}{o:Option A0a}{se:A0j}{S:WS}(h:S.ok)(hk:A4k pr o se S)(hse:B6e se S.c)
include h hk hse
theorem F6e(h0:A6x pr se S=0):0≤A0r S.c se.part pr.a.cell:=by
 unfold A6x at h0
 split at h0
 ·cases h0
 ·split at h0
  ·cases h0
  ·omega
theorem B5w(hp:pr.pc≤7):0≤pr.pc+1∧pr.pc+1≤8:=by have:=hk.pc;omega
theorem D0d:(pr.looks.length:Int)≤pr.pc+1:=by have:=hk.looks;omega
theorem F8c(hk1:pr.a.kind=1)(hp:pr.pc≤7):C9b pr o se S (A1u (A0r S.c se.part pr.a.cell) pr se S):=by
 obtain⟨k1,k2,k3,k4,k5,k6,k7,k8,k9,k10,k11,k12,k13,k14⟩:=hk
 have hk':A4k pr o se S:=⟨k1,k2,k3,k4,k5,k6,k7,k8,k9,k10,k11,k12,k13,k14⟩
 have hpn:=B5w h hk' hse hp
 have hln:=D0d h hk' hse
 have hg:=C3p h.c
 have hcell:pr.pc≠0→0≤A0r S.c se.part pr.a.cell:=fun hh=>k11 hh (.inl hk1)
 unfold A1u
 split
 ·split
  ·exact⟨.A2f h,hse,rfl,fun hh=>B0b hh⟩
  ·rename_i h0
   have hcc:=F6e h hk' hse (by simpa using h0)
   exact⟨.A2f h,hse,rfl,fun _=>⟨⟨k1,k2,k3,k4,k5,k6,hpn,k8,k9,hln,fun _ _=>hcc,k12,k13,k14⟩,rfl⟩⟩
 rename_i hn0
 have hc0:=hcell hn0
 split
 ·split
  ·exact⟨.A2f h,hse,rfl,fun hh=>B0b hh⟩
  ·rename_i h0
   have hb:(A7k (A0l (S.word (A0r S.c se.part pr.a.cell))) pr.a.qty S.c.c6).2.wf:=by
    have hs:=B8p (S.word (A0r S.c se.part pr.a.cell))
    unfold A7k
    split
    ·exact St.A9b
    split
    ·exact St.A9b
    split
    ·exact St.A9b
    ·have g1:In ((A0l (S.word (A0r S.c se.part pr.a.cell))).g+1):=In.lit (by omega)
     have g2:In pr.a.qty:=In.lit (by omega)
     exact⟨In.lit (z:=1) (by decide),g1,g2,In.lit (z:=0) (by decide)⟩
   exact⟨.A2f h,hse,rfl,fun _=>⟨⟨k1,hb,k3,k4,k5,k6,hpn,k8,k9,hln,fun _ _=>hc0,k12,k13,k14⟩,rfl⟩⟩
 split
 ·exact⟨⟨WS.F2c h _ H2z,rfl,rfl,Nat.le_succ _,B1x _ _ _⟩,hse,rfl,fun _=>⟨⟨k1,k2,k3,k4,k5,k6,hpn,k8,k9,hln,fun _ _=>hc0,k12,k13,k14⟩,rfl⟩⟩
 split
 ·refine⟨⟨WS.C1y (WS.F2c h _ G3z) _,rfl,rfl,by simp[WS.tell,WS.put],B1x _ _ _⟩,⟨by simpa using hse.ids,by simpa using hse.A6k,hse.A7i,hse.cur⟩,rfl,fun _=>⟨⟨k1,k2,k3,k4,k5,k6,hpn,k8,G6k S.c h.c _ _ _,hln,fun _ _=>hc0,k12,k13,k14⟩,rfl⟩⟩
 ·exact⟨.A2f h,hse,rfl,fun _=>⟨⟨k1,k2,k3,k4,k5,k6,hpn,k8,k9,hln,fun _ _=>hc0,k12,k13,k14⟩,rfl⟩⟩
theorem G2g(x:Int):A8s S (A3h x pr se S).2∧(A3h x pr se S).1.pc=pr.pc∧(A3h x pr se S).1.a=pr.a∧A4k (A3h x pr se S).1 o se S:=by
 obtain⟨k1,k2,k3,k4,k5,k6,k7,k8,k9,k10,k11,k12,k13,k14⟩:=hk
 have hk':A4k pr o se S:=⟨k1,k2,k3,k4,k5,k6,k7,k8,k9,k10,k11,k12,k13,k14⟩
 have hnow:In (S.now:Int):=In.lit (by have:=h.now;omega)
 have d1:(0:Int)≤1∧(1:Int)≤3:=by decide
 have d2:(0:Int)≤2∧(2:Int)≤3:=by decide
 have d3:(0:Int)≤3∧(3:Int)≤3:=by decide
 unfold A3h
 split
 ·exact⟨.A2f h,rfl,rfl,hk'⟩
 split
 ·exact⟨.A2f h,rfl,rfl,⟨k1,k2,k3,k4,d3,k6,k7,k8,k9,k10,k11,k12,k13,k14⟩⟩
 split
 ·exact⟨.A2f h,rfl,rfl,⟨k1,k2,k3,k4,d2,k6,k7,k8,k9,k10,k11,k12,k13,k14⟩⟩
 split
 ·exact⟨.A2f h,rfl,rfl,hk'⟩
 split
 ·exact⟨C4j h _ _ _ _,rfl,rfl,⟨k1,k2,k3,hnow,d2,k6,k7,k8,k9,k10,k11,k12,k13,k14⟩⟩
 ·exact⟨C4j h _ _ _ _,rfl,rfl,⟨k1,D9q k2,k3,hnow,d1,k6,k7,k8,k9,k10,k11,k12,k13,k14⟩⟩
theorem C5b{R:PrS × WS}(hR:A8s S R.2)(hpc:R.1.pc=pr.pc)(ha:R.1.a=pr.a)(hP:A4k R.1 o se S)(hp:pr.pc≤7)(hc:pr.a.kind=1∨pr.a.kind=2→0≤A0r S.c se.part pr.a.cell):C9b pr o se S (A8g R se (pr.pc+1)):=by
 obtain⟨k1,k2,k3,k4,k5,k6,k7,k8,k9,k10,k11,k12,k13,k14⟩:=hP
 refine⟨hR,hse,rfl,fun _=>⟨?_,ha⟩⟩
 show A4k {R.1 with pc:=pr.pc+1} o se R.2
 rw[hpc]at k10
 refine⟨k1,k2,k3,k4,k5,k6,B5w h hk hse hp,k8,k9,by show(R.1.looks.length:Int)≤pr.pc+1;omega,fun _ hh=>?_,by rw[hR.c];exact k12,by rw[hR.c];exact k13,k14⟩
 show 0≤A0r R.2.c se.part R.1.a.cell
 rw[hR.c,ha]
 exact hc (by rw[←ha];exact hh)
theorem F5s(hk2:pr.a.kind=2):C9b pr o se S (A1m (A0r S.c se.part pr.a.cell) pr se S):=by
 have hpc:=hk.pc
 have hcell:pr.pc≠0→0≤A0r S.c se.part pr.a.cell:=fun hh=>hk.cell hh (.inr hk2)
 unfold A1m
 split
 ·split
  ·exact⟨.A2f h,hse,rfl,fun hh=>B0b hh⟩
  ·exact C5b h hk hse (R:=(pr,S)) (.A2f h) rfl rfl hk (by omega) fun _=>by omega
 rename_i hn0
 have hc0:=hcell hn0
 split
 ·have hR:A4k (if pr.done=0 then {pr with word:=S.word (A0r S.c se.part pr.a.cell),st:=A0l (S.word (A0r S.c se.part pr.a.cell))} else pr) o se S∧(if pr.done=0 then {pr with word:=S.word (A0r S.c se.part pr.a.cell),st:=A0l (S.word (A0r S.c se.part pr.a.cell))} else pr).pc=pr.pc∧(if pr.done=0 then {pr with word:=S.word (A0r S.c se.part pr.a.cell),st:=A0l (S.word (A0r S.c se.part pr.a.cell))} else pr).a=pr.a:=by
   obtain⟨k1,k2,k3,k4,k5,k6,k7,k8,k9,k10,k11,k12,k13,k14⟩:=hk
   split
   ·exact⟨⟨WS.C2h h _,B2a _,k3,k4,k5,k6,k7,k8,k9,k10,k11,k12,k13,k14⟩,rfl,rfl⟩
   ·exact⟨⟨k1,k2,k3,k4,k5,k6,k7,k8,k9,k10,k11,k12,k13,k14⟩,rfl,rfl⟩
  exact C5b h hk hse (.A2f h) hR.2.1 hR.2.2 hR.1 (by omega) fun _=>hc0
 split
 ·obtain⟨t1,t2,t3,t4⟩:=G2g h hk hse (A0r S.c se.part pr.a.cell)
  exact C5b h hk hse t1 t2 t3 t4 (by omega) fun _=>hc0
 split
 ·have hR:A8s S (if pr.done=1 then A7o S (A0r S.c se.part pr.a.cell) pr.st.g S.c.c5 (A7s pr.st pr.at_)else S):=by
   split
   ·exact E2t h _ _ _ _
   ·exact .A2f h
  exact C5b h hk hse hR rfl rfl hk (by omega) fun _=>hc0
 ·exact⟨.A2f h,hse,rfl,fun hh=>B0b hh⟩
theorem H0h{i:Int}(hi:(B6g S i).k=1∨(B6g S i).D5o=true):0≤i:=by
 rcases Decidable.em (i<0)with h0|h0
 ·have e:B6g S i=.zero:=if_pos h0
  rw[e]at hi
  rcases hi with hi|hi<;>cases hi
 ·omega
theorem G4e{c:Cf}{x g n:Int}(h0:0≤A7y c x g n):g≤c.c6:=by
 rcases Decidable.em (x<0∨x≥A0s c∨g<1∨g>c.c6∨n<0∨n>c.c5)with h1|h1
 ·have e:A7y c x g n=-1:=if_pos h1
  omega
 ·omega
theorem G2z(hk3:pr.a.kind=3):C9b pr o se S (A2m (A0r S.c se.part pr.a.cell) pr se S):=by
 obtain⟨k1,k2,k3,k4,k5,k6,k7,k8,k9,k10,k11,k12,k13,k14⟩:=hk
 have hk':A4k pr o se S:=⟨k1,k2,k3,k4,k5,k6,k7,k8,k9,k10,k11,k12,k13,k14⟩
 have hln:=D0d h hk' hse
 have hno:¬(pr.a.kind=1∨pr.a.kind=2):=by omega
 have cu:=hse.at_ pr.a.cell h.c
 unfold A2m
 split
 ·exact⟨.A2f h,hse,rfl,fun hh=>B0b hh⟩
 split
 ·exact⟨.A2f h,hse,rfl,fun _=>⟨⟨k1,k2,k3,k4,k5,k6,B5w h hk' hse (by omega),k8,k9,hln,fun _ hh=>absurd hh hno,k12,k13,k14⟩,rfl⟩⟩
 split
 ·split
  ·rename_i hlt
   exact⟨.A2f h,hse,rfl,fun _=>⟨⟨k1,k2,k3,k4,k5,k6,B5w h hk' hse (by omega),k8,k9,hln,fun _ hh=>absurd hh hno,fun _=>hlt,k13,k14⟩,rfl⟩⟩
  ·exact⟨.A2f h,hse,rfl,fun _=>⟨⟨k1,k2,k3,k4,k5,k6,B5w h hk' hse (by omega),k8,k9,hln,fun _ hh=>absurd hh hno,k12,k13,k14⟩,rfl⟩⟩
 split
 ·exact⟨.A2f h,hse,rfl,fun _=>⟨⟨k1,k2,k3,k4,k5,k6,B5w h hk' hse (by omega),k8,k9,hln,fun _ hh=>absurd hh hno,k12,fun he=>G4e h hk' hse (H0h h hk' hse (.inr he)),k14⟩,rfl⟩⟩
 ·refine⟨.A2f h,⟨hse.ids,hse.A6k,by simpa using hse.A7i,fun z hz=>?_⟩,rfl,fun hh=>B0b hh⟩
  rcases List.mem_or_eq_of_mem_set hz with hz|hz
  ·exact hse.cur z hz
  ·subst hz
   have hf:=A8z h.c
   have hg:=C3p h.c
   unfold B1b
   split
   ·rename_i h1
    have:=k12 h1
    dsimp only;omega
   ·split
    ·rename_i h1 h2
     have:=k13 h2.1
     dsimp only;omega
    ·dsimp only;omega
theorem G3m(hk4:pr.a.kind=4):C9b pr o se S (A2j pr se S):=by
 obtain⟨k1,k2,k3,k4,k5,k6,k7,k8,k9,k10,k11,k12,k13,k14⟩:=hk
 have hk':A4k pr o se S:=⟨k1,k2,k3,k4,k5,k6,k7,k8,k9,k10,k11,k12,k13,k14⟩
 have hno:¬(pr.a.kind=1∨pr.a.kind=2):=by omega
 have hc1:=h.c.2.1
 unfold A2j
 split
 ·exact⟨.A2f h,hse,rfl,fun hh=>B0b hh⟩
 split
 ·exact⟨.A2f h,hse,rfl,fun _=>⟨⟨k1,k2,k3,k4,k5,k6,B5w h hk' hse (by omega),k8,k9,by simp only[List.length_append,List.length_cons,List.length_nil];omega,fun _ hh=>absurd hh hno,k12,k13,k14⟩,rfl⟩⟩
 ·exact⟨.A2f h,hse,rfl,fun _=>⟨⟨k1,k2,k3,k4,k5,k6,B5w h hk' hse (by omega),k8,k9,D0d h hk' hse,fun _ hh=>absurd hh hno,k12,k13,k14⟩,rfl⟩⟩
theorem G2o(x:Int):A8s S (A1n x pr S).2.2∧((A1n x pr S).1=true→A4k (A1n x pr S).2.1 o se S∧(A1n x pr S).2.1.a=pr.a):=by
 obtain⟨k1,k2,k3,k4,k5,k6,k7,k8,k9,k10,k11,k12,k13,k14⟩:=hk
 have hf:=A8z h.c
 unfold A1n
 split
 ·exact⟨.A2f h,fun hh=>by cases hh⟩
 have ht:0≤pr.tries+1∧pr.tries+1≤1000:=by omega
 have d1:(0:Int)≤1∧(1:Int)≤3:=by decide
 split
 ·exact⟨.A2f h,fun _=>⟨⟨k1,k2,k3,k4,k5,ht,k7,k8,k9,k10,k11,k12,k13,k14⟩,rfl⟩⟩
 split
 ·exact⟨.A2f h,fun _=>⟨⟨WS.C2h h _,B2a _,k3,k4,k5,ht,k7,k8,k9,k10,k11,k12,k13,k14⟩,rfl⟩⟩
 split
 ·exact⟨.A2f h,fun _=>⟨⟨k1,k2,k3,k4,d1,ht,k7,k8,k9,k10,k11,k12,k13,k14⟩,rfl⟩⟩
 split
 ·exact⟨.A2f h,fun _=>⟨⟨k1,k2,k3,k4,k5,ht,k7,k8,k9,k10,k11,k12,k13,k14⟩,rfl⟩⟩
 split
 ·exact⟨C4j h _ _ _ _,fun _=>⟨⟨k1,k2,k3,k4,d1,ht,k7,k8,k9,k10,k11,k12,k13,k14⟩,rfl⟩⟩
 ·exact⟨.A2f h,fun _=>⟨⟨k1,k2,k3,k4,k5,ht,k7,k8,k9,k10,k11,k12,k13,k14⟩,rfl⟩⟩
end
structure C8m(ss:A0g)(po:A0c)(ss':A0g)(po':A0c):Prop where
 tape:B0h ss' po'
 e1:ss'={ss with taken:=ss'.taken}
 e2:po'={po with A0i:=po'.A0i}
 len:po'.A0i.length=po.A0i.length
theorem C8m.A2f{ss:A0g}{po:A0c}(h:B0h ss po):C8m ss po ss po:=⟨h,rfl,rfl,rfl⟩
theorem F9u{ss:A0g}{po:A0c}(h:B0h ss po):C8m ss po (takeN ss po).2.1 (takeN ss po).2.2:=by
 unfold takeN
 split
 ·exact .A2f h
 ·rename_i hn
  obtain⟨⟨t1,t2,t3⟩,te⟩:=h
  exact⟨⟨⟨by dsimp only;omega,by dsimp only;omega,t3⟩,fun d hd=>by have:=te d hd;simpa using this⟩,rfl,rfl,by simp⟩
structure H4e(n0:Int)(S:WS)(T:Tr):Prop where
 w:A8s S T.S
 o:∀P,T.o=some P→P.ok
 n:T.n=n0
theorem G9a{n:Int}{o:Option A0a}{ss:A0g}{po:A0c}{S:WS}(h:S.ok)(ho:∀P,o=some P→P.ok):H4e n S (A2a n o ss po S)∧(A2a n o ss po S).ss=ss∧(A2a n o ss po S).po=po:=by
 unfold A2a
 cases o with
 |none=>exact⟨⟨.A2f h,fun P hP=>(by cases hP),rfl⟩,rfl,rfl⟩
 |some P=>
  dsimp only
  split
  ·exact⟨⟨.A2f h,ho,rfl⟩,rfl,rfl⟩
  ·obtain⟨q1,q2,q3,q4,q5,q6,q7⟩:=C7z h (ho P rfl)
   exact⟨⟨⟨q2,q3,q4,q5,q7⟩,fun P' hP=>(by cases hP;exact q1),rfl⟩,rfl,rfl⟩
theorem G6g{pr:PrS}{o:Option A0a}{se:A0j}{ss:A0g}{po:A0c}{S:WS}(h:S.ok)(hk:A4k pr o se S)(ht:B0h ss po):
  A8s S (A1p pr o ss po S).S∧(∀P,(A1p pr o ss po S).o=some P→P.ok)∧(0≤(A1p pr o ss po S).n∧(A1p pr o ss po S).n≤100)∧C8m ss po (A1p pr o ss po S).ss (A1p pr o ss po S).po∧((A1p pr o ss po S).b=false→(A1p pr o ss po S).S=S):=by
 have hb:=G3l (pr:=pr) (ss:=ss) (po:=po) h hk.o
 have hn:=hk.n
 have ha:=hk.A5i
 have key:∀(n':Int) (o':Option A0a) (ss':A0g) (po':A0c),(∀P,o'=some P→P.ok)→(0≤n'∧n'≤100)→C8m ss po ss' po'→A1p pr o ss po S=A2a n' o' ss' po' S→
   A8s S (A1p pr o ss po S).S∧(∀P,(A1p pr o ss po S).o=some P→P.ok)∧(0≤(A1p pr o ss po S).n∧(A1p pr o ss po S).n≤100)∧C8m ss po (A1p pr o ss po S).ss (A1p pr o ss po S).po∧((A1p pr o ss po S).b=false→(A1p pr o ss po S).S=S):=by
  intro n' o' ss' po' h1 h2 h3 e
  rw[e]at hb⊢
  obtain⟨⟨r1,r2,r3⟩,r4,r5⟩:=G9a (n:=n') (ss:=ss') (po:=po') h h1
  exact⟨r1,r2,by rw[r3];exact h2,by rw[r4,r5];exact h3,hb.2.2⟩
 by_cases c0:A7z o=true∧pr.n<pr.A5i.length
 ·by_cases c1:(atA pr.A5i pr.n).way=1
  ·exact key (pr.n+1) (some (A0a.new (E1j (atA pr.A5i pr.n) (takeN ss po).1))) _ _ (fun P e=>by cases e;exact A0a.B9l _) (by omega) (F9u ht) (by unfold A1p;rw[if_pos c0,if_pos c1])
  ·exact key (pr.n+1) (some (A0a.new (atA pr.A5i pr.n))) _ _ (fun P e=>by cases e;exact A0a.B9l _) (by omega) (.A2f ht) (by unfold A1p;rw[if_pos c0,if_neg c1])
 ·exact key _ _ _ _ hk.o hn (.A2f ht) (by unfold A1p;rw[if_neg c0])
theorem G1z{pr:PrS}{o:Option A0a}{se:A0j}{ss:A0g}{po:A0c}{S:WS}(hk:A4k pr o se S){r:Rep}(h:(A2z pr o se ss po S).r=some r):r.looks.length≤8:=by
 have hc:∀c,some (codeF pr S c)=some r→r.looks.length≤8:=fun c e=>by cases e;exact Nat.zero_le _
 unfold A2z at h
 split at h
 ·unfold A9c at h
  split at h
  ·have h':(A1u (A0r S.c se.part pr.a.cell) pr se S).r=some r:=h
   unfold A1u at h'
   split at h'
   ·split at h'
    ·exact hc _ h'
    ·cases h'
   split at h'
   ·split at h'
    ·exact hc _ h'
    ·cases h'
   split at h'
   ·cases h'
   split at h'<;>cases h'
  ·unfold B1t at h
   split at h
   ·cases h
   split at h
   ·cases h
   ·cases h;exact Nat.zero_le _
 split at h
 ·have h':(A1m (A0r S.c se.part pr.a.cell) pr se S).r=some r:=h
  unfold A1m at h'
  split at h'
  ·split at h'
   ·exact hc _ h'
   ·cases h'
  split at h'
  ·cases h'
  split at h'
  ·cases h'
  split at h'
  ·cases h'
  ·cases h';exact Nat.zero_le _
 split at h
 ·have h':(A2m (A0r S.c se.part pr.a.cell) pr se S).r=some r:=h
  unfold A2m at h'
  split at h'
  ·exact hc _ h'
  split at h'
  ·cases h'
  split at h'
  ·split at h'<;>cases h'
  split at h'
  ·cases h'
  ·cases h';exact Nat.zero_le _
 split at h
 ·have h':(A2j pr se S).r=some r:=h
  unfold A2j at h'
  split at h'
  ·cases h'
   have h1:=hk.looks
   have h2:=hk.pc
   show pr.looks.length≤8
   omega
  split at h'<;>cases h'
 ·exact hc _ h
structure G9s(pr:PrS)(se:A0j)(ss:A0g)(po:A0c)(S:WS)(R:StA):Prop where
 w:A8s S R.S
 C5w:B6e R.se S.c
 part:R.se.part=se.part
 t:C8m ss po R.ss R.po
 prog:R.r=none→A4k R.pr R.o R.se R.S∧R.pr.a=pr.a
theorem C9b.A{pr:PrS}{o:Option A0a}{se:A0j}{ss:A0g}{po:A0c}{S:WS}{X:Stp}(h:C9b pr o se S X)(ht:B0h ss po):G9s pr se ss po S (X.on o ss po):=⟨h.w,h.C5w,h.part,.A2f ht,h.prog⟩
theorem E0n{pr:PrS}{o:Option A0a}{se:A0j}{ss:A0g}{po:A0c}{S:WS}(h:S.ok)(hk:A4k pr o se S)(hse:B6e se S.c)(ht:B0h ss po):G9s pr se ss po S (A2z pr o se ss po S):=by
 unfold A2z
 split
 ·rename_i c1
  unfold A9c
  split
  ·exact(F8c h hk hse c1 (by omega)).A ht
  ·rename_i c4
   obtain⟨t1,t2,t3,t4,t5⟩:=G6g (ss:=ss) (po:=po) h hk ht
   generalize A1p pr o ss po S=T at*
   unfold B1t
   have hk':∀S',S'.c=S.c→A4k {pr with n:=T.n} T.o se S':=by
    intro S' hS
    obtain⟨k1,k2,k3,k4,k5,k6,k7,k8,k9,k10,k11,k12,k13,k14⟩:=hk
    exact⟨k1,k2,k3,k4,k5,k6,k7,t3,k9,k10,by rw[hS];exact k11,by rw[hS];exact k12,by rw[hS];exact k13,t2⟩
   split
   ·exact⟨t1,hse,rfl,t4,fun _=>⟨hk' _ t1.c,rfl⟩⟩
   ·rename_i hb
    have e:=t5 (by simpa using hb)
    rw[e]
    obtain⟨r1,r2⟩:=G2o (o:=T.o) h (hk' S rfl) hse (A0r S.c se.part pr.a.cell)
    split
    ·rename_i hr
     refine⟨r1,hse,rfl,t4,fun _=>?_⟩
     obtain⟨⟨k1,k2,k3,k4,k5,k6,k7,k8,k9,k10,k11,k12,k13,k14⟩,r4⟩:=r2 hr
     exact⟨⟨k1,k2,k3,k4,k5,k6,k7,k8,k9,k10,by rw[r1.c];exact k11,by rw[r1.c];exact k12,by rw[r1.c];exact k13,k14⟩,r4⟩
    ·exact⟨r1,hse,rfl,t4,fun hh=>B0b hh⟩
 split
 ·rename_i c2
  exact(F5s h hk hse c2).A ht
 split
 ·rename_i c3
  exact(G2z h hk hse c3).A ht
 split
 ·rename_i c4
  exact(G3m h hk hse c4).A ht
 ·exact⟨.A2f h,hse,rfl,.A2f ht,fun hh=>B0b hh⟩
end
section
structure A1e where
 se:A0j
 queue:List Qe
 now:Option (PrS × Option A0a)
 ev:Int
 tape:List Dr
 taken:Int
structure A0o where
 S:WS
 A0e:List A1e
 sw:List (SwS × Option A0a)
 re:List ReS
 events:Int
 outs:List Out
 A0i:List Int
 lines:List Int
def A0p(l:List Nat):List D:=l.map fun(z:Nat)=>D.int (z:Int)
def A1e.raw(x:A1e)(s now:D):A0g:=⟨s,x.queue,now,x.ev,x.tape,x.taken⟩
def A0o.raw(P:A0o)(w:D)(za swa rea:List D):A0c:=⟨w,za,swa,rea,P.events,P.outs,P.A0i,P.lines⟩
def B4l(L:List D)(lab:Nat→Nat)(n pl z:Nat)(x:A1e):Prop:=∃(s a q:Nat) (now:D),
 L.getD z D.nil=.agg (x.raw (.int (s:Nat)) now).ds∧L.getD s D.nil=.agg x.se.ds∧
 (match x.now with
  |none=>now=.nil
  |some (pr,o)=>now=.int (a:Nat)∧∃ptr,L.getD a D.nil=.agg (pr.at ptr (A4m z pl)).ds∧PP L q ptr o)∧
 (lab z=n∧lab s=n∧lab a=n∧lab q=n)∧a<L.length∧q<L.length
def E4s(L:List D)(lab:Nat→Nat)(n b:Nat)(x:SwS × Option A0a):Prop:=∃(q:Nat) (ptr:D),
 L.getD b D.nil=.agg (x.1.at ptr).ds∧PP L q ptr x.2∧(lab b=n∧lab q=n)∧q<L.length
def E5a(L:List D)(lab:Nat→Nat)(n b:Nat)(x:ReS):Prop:=L.getD b D.nil=.agg x.ds∧lab b=n
def Gl(L:List D)(b:Nat):Option D:=if b<L.length then some (L.getD b D.nil)else none
structure Enc(G:Nat→Option D)(L:List D)(lab:Nat→Nat)(pl w m k:Nat)(za swa rea:List Nat)(P:A0o):Prop where
 W:InW L w m k P.S
 A5r:L.getD pl D.nil=.agg (P.raw (.int (w:Nat)) (A0p za) (A0p swa) (A0p rea)).ds
 l0:lab pl=0∧lab w=0∧lab m=0∧lab k=0
 zl:za.length=P.A0e.length
 swl:swa.length=P.sw.length
 rel:rea.length=P.re.length
 ss:∀i x z,P.A0e[i]?=some x→za[i]?=some z→B4l L lab (4*i+1) pl z x
 sw:∀i x z,P.sw[i]?=some x→swa[i]?=some z→E4s L lab (4*i+2) z x
 re:∀i x z,P.re[i]?=some x→rea[i]?=some z→E5a L lab (4*i+3) z x
 pre:∀b x,G b=some x→b<L.length∧lab b=4∧L.getD b D.nil=x
def A4h(lab:Nat→Nat)(n:Nat)(L:List D)(x:Nat):Nat:=if x<L.length then lab x else n
section
variable{L L':List D}{lab:Nat→Nat}{n n' pl z:Nat}{T:Nat→Prop}(F:Fr L L' T)
include F
theorem A2y{x:Nat}(h:x<L.length):A4h lab n' L x=lab x:=if_pos h
theorem B4l.fr{x:A1e}(h:B4l L lab n pl z x)(hT:∀b,b<L.length→lab b=n→¬T b):B4l L' (A4h lab n' L) n pl z x:=by
 obtain⟨s,a,q,now,h1,h2,h3,⟨l1,l2,l3,l4⟩,h4,h5⟩:=h
 have hz:=A2h h1
 have hs:=A2h h2
 refine⟨s,a,q,now,F.get h1 (hT _ hz l1),F.get h2 (hT _ hs l2),?_,⟨by rw[A2y F hz];exact l1,by rw[A2y F hs];exact l2,by rw[A2y F h4];exact l3,by rw[A2y F h5];exact l4⟩,Nat.lt_of_lt_of_le h4 F.1,Nat.lt_of_lt_of_le h5 F.1⟩
 cases hn:x.now with
 |none=>rw[hn]at h3;exact h3
 |some y=>
  obtain⟨pr,o⟩:=y
  rw[hn]at h3
  obtain⟨g1,ptr,g2,g3⟩:=h3
  exact⟨g1,ptr,F.get g2 (hT _ h4 l3),g3.ext fun P _=>F.2 q h5 (hT _ h5 l4)⟩
theorem E4s.fr{x:SwS × Option A0a}{b:Nat}(h:E4s L lab n b x)(hT:∀b,b<L.length→lab b=n→¬T b):E4s L' (A4h lab n' L) n b x:=by
 obtain⟨q,ptr,h1,h2,⟨l1,l2⟩,h5⟩:=h
 have hz:=A2h h1
 exact⟨q,ptr,F.get h1 (hT _ hz l1),h2.ext fun P _=>F.2 q h5 (hT _ h5 l2),⟨by rw[A2y F hz];exact l1,by rw[A2y F h5];exact l2⟩,Nat.lt_of_lt_of_le h5 F.1⟩
theorem E5a.fr{x:ReS}{b:Nat}(h:E5a L lab n b x)(hT:∀b,b<L.length→lab b=n→¬T b):E5a L' (A4h lab n' L) n b x:=by
 obtain⟨h1,l1⟩:=h
 have hz:=A2h h1
 exact⟨F.get h1 (hT _ hz l1),by rw[A2y F hz];exact l1⟩
end
theorem InW.lt{L:List D}{w m k:Nat}{S:WS}(W:InW L w m k S):w<L.length∧m<L.length∧k<L.length:=by
 obtain⟨M,hM,_⟩:=W.m
 exact⟨A2h W.w,A2h hM,A2h W.k⟩
section
variable{G:Nat→Option D}{L L':List D}{lab:Nat→Nat}{pl w m k:Nat}{za swa rea:List Nat}{P P':A0o}{T:Nat→Prop}(E:Enc G L lab pl w m k za swa rea P)(F:Fr L L' T)
 (W':InW L' w m k P'.S) (hp:L'.getD pl D.nil=.agg (P'.raw (.int (w:Nat)) (A0p za) (A0p swa) (A0p rea)).ds)
include E F W' hp
theorem F7z(n:Nat):A4h lab n L pl=0∧A4h lab n L w=0∧A4h lab n L m=0∧A4h lab n L k=0:=by
 obtain⟨h1,h2,h3⟩:=E.W.lt
 obtain⟨l1,l2,l3,l4⟩:=E.l0
 rw[A2y F (A2h E.A5r),A2y F h1,A2y F h2,A2y F h3]
 exact⟨l1,l2,l3,l4⟩
omit W' hp in
theorem Enc.F9f(n:Nat)(hT:∀b,b<L.length→T b→lab b≠4):∀b x,G b=some x→b<L'.length∧A4h lab n L b=4∧L'.getD b D.nil=x:=by
 intro b x hb
 obtain⟨hbl,p1,p2⟩:=E.pre b x hb
 exact⟨Nat.lt_of_lt_of_le hbl F.1,by rw[A2y F hbl];exact p1,(F.2 b hbl fun ht=>hT b hbl ht p1).trans p2⟩
theorem Enc.A0e{i z:Nat}{x':A1e}(hT:∀b,b<L.length→T b→lab b=4*i+1∨lab b=0)(hz:za[i]?=some z)(hx:B4l L' (A4h lab (4*i+1) L) (4*i+1) pl z x')
  (h1:P'.A0e=P.A0e.set i x') (h2:P'.sw=P.sw) (h3:P'.re=P.re):Enc G L' (A4h lab (4*i+1) L) pl w m k za swa rea P':=by
 have hno:∀n,n≠4*i+1→n≠0→∀b,b<L.length→lab b=n→¬T b:=fun n n1 n2 b hb hl ht=>by
  rcases hT b hb ht with h|h<;>omega
 refine⟨W',hp,F7z E F W' hp _,by rw[h1];simpa using E.zl,by rw[h2];exact E.swl,by rw[h3];exact E.rel,fun j y zj hy hzj=>?_,fun j y zj hy hzj=>?_,fun j y zj hy hzj=>?_,E.F9f F (4*i+1) (fun b hb ht=>by have:=hT b hb ht;omega)⟩
 ·rw[h1,List.getElem?_set]at hy
  by_cases hj:i=j
  ·subst hj
   rw[if_pos rfl]at hy
   split at hy
   ·cases hy
    rw[hz]at hzj;cases hzj
    exact hx
   ·cases hy
  ·rw[if_neg hj]at hy
   exact(E.ss j y zj hy hzj).fr F (hno _ (by omega) (by omega))
 ·rw[h2]at hy
  exact(E.sw j y zj hy hzj).fr F (hno _ (by omega) (by omega))
 ·rw[h3]at hy
  exact(E.re j y zj hy hzj).fr F (hno _ (by omega) (by omega))
theorem Enc.swp{i z:Nat}{x':SwS × Option A0a}(hT:∀b,b<L.length→T b→lab b=4*i+2∨lab b=0)(hz:swa[i]?=some z)(hx:E4s L' (A4h lab (4*i+2) L) (4*i+2) z x')
  (h1:P'.A0e=P.A0e) (h2:P'.sw=P.sw.set i x') (h3:P'.re=P.re):Enc G L' (A4h lab (4*i+2) L) pl w m k za swa rea P':=by
 have hno:∀n,n≠4*i+2→n≠0→∀b,b<L.length→lab b=n→¬T b:=fun n n1 n2 b hb hl ht=>by
  rcases hT b hb ht with h|h<;>omega
 refine⟨W',hp,F7z E F W' hp _,by rw[h1];exact E.zl,by rw[h2];simpa using E.swl,by rw[h3];exact E.rel,fun j y zj hy hzj=>?_,fun j y zj hy hzj=>?_,fun j y zj hy hzj=>?_,E.F9f F (4*i+2) (fun b hb ht=>by have:=hT b hb ht;omega)⟩
 ·rw[h1]at hy
  exact(E.ss j y zj hy hzj).fr F (hno _ (by omega) (by omega))
 ·rw[h2,List.getElem?_set]at hy
  by_cases hj:i=j
  ·subst hj
   rw[if_pos rfl]at hy
   split at hy
   ·cases hy
    rw[hz]at hzj;cases hzj
    exact hx
   ·cases hy
  ·rw[if_neg hj]at hy
   exact(E.sw j y zj hy hzj).fr F (hno _ (by omega) (by omega))
 ·rw[h3]at hy
  exact(E.re j y zj hy hzj).fr F (hno _ (by omega) (by omega))
theorem Enc.rep{i z:Nat}{x':ReS}(hT:∀b,b<L.length→T b→lab b=4*i+3∨lab b=0)(hz:rea[i]?=some z)(hx:E5a L' (A4h lab (4*i+3) L) (4*i+3) z x')
  (h1:P'.A0e=P.A0e) (h2:P'.sw=P.sw) (h3:P'.re=P.re.set i x'):Enc G L' (A4h lab (4*i+3) L) pl w m k za swa rea P':=by
 have hno:∀n,n≠4*i+3→n≠0→∀b,b<L.length→lab b=n→¬T b:=fun n n1 n2 b hb hl ht=>by
  rcases hT b hb ht with h|h<;>omega
 refine⟨W',hp,F7z E F W' hp _,by rw[h1];exact E.zl,by rw[h2];exact E.swl,by rw[h3];simpa using E.rel,fun j y zj hy hzj=>?_,fun j y zj hy hzj=>?_,fun j y zj hy hzj=>?_,E.F9f F (4*i+3) (fun b hb ht=>by have:=hT b hb ht;omega)⟩
 ·rw[h1]at hy
  exact(E.ss j y zj hy hzj).fr F (hno _ (by omega) (by omega))
 ·rw[h2]at hy
  exact(E.sw j y zj hy hzj).fr F (hno _ (by omega) (by omega))
 ·rw[h3,List.getElem?_set]at hy
  by_cases hj:i=j
  ·subst hj
   rw[if_pos rfl]at hy
   split at hy
   ·cases hy
    rw[hz]at hzj;cases hzj
    exact hx
   ·cases hy
  ·rw[if_neg hj]at hy
   exact(E.re j y zj hy hzj).fr F (hno _ (by omega) (by omega))
end
theorem G2v(x:A1e)(P:A0o)(s now w:D)(za swa rea:List D)(s' now' w':D)(za' swa' rea':List D):
  takeN (x.raw s now) (P.raw w za swa rea)=((takeN (x.raw s' now') (P.raw w' za' swa' rea')).1,{(takeN (x.raw s' now') (P.raw w' za' swa' rea')).2.1 with s:=s,now:=now},{(takeN (x.raw s' now') (P.raw w' za' swa' rea')).2.2 with w:=w,A0e:=za,C7b:=swa,D5p:=rea}):=by
 unfold takeN
 by_cases h:x.taken=(x.tape.length:Int)
 ·have h1:(x.raw s now).taken=((x.raw s now).tape.length:Int):=h
  have h2:(x.raw s' now').taken=((x.raw s' now').tape.length:Int):=h
  rw[if_pos h1,if_pos h2];rfl
 ·have h1:¬(x.raw s now).taken=((x.raw s now).tape.length:Int):=h
  have h2:¬(x.raw s' now').taken=((x.raw s' now').tape.length:Int):=h
  rw[if_neg h1,if_neg h2];rfl
def A1e.nl(x:A1e):A0g:=x.raw .nil .nil
def A0o.nl(P:A0o):A0c:=P.raw .nil [] [] []
def A0g.at(x:A0g)(s now:D):A0g:={x with s:=s,now:=now}
def A0c.at(x:A0c)(w:D)(za swa rea:List D):A0c:={x with w:=w,A0e:=za,C7b:=swa,D5p:=rea}
theorem E4q(n:Int)(o:Option A0a)(ss:A0g)(po:A0c)(S:WS)(f:A0g→A0g)(g:A0c→A0c):A2a n o (f ss) (g po) S={A2a n o ss po S with ss:=f (A2a n o ss po S).ss,po:=g (A2a n o ss po S).po}:=by
 unfold A2a
 cases o with
 |none=>rfl
 |some P=>
  dsimp only
  split<;>rfl
theorem G3w(pr:PrS)(o:Option A0a)(se:A0j)(x:A1e)(P:A0o)(S:WS)(s now w:D)(za swa rea:List D):
  A2z pr o se (x.raw s now) (P.raw w za swa rea) S={A2z pr o se x.nl P.nl S with ss:=(A2z pr o se x.nl P.nl S).ss.at s now,po:=(A2z pr o se x.nl P.nl S).po.at w za swa rea}:=by
 have e1:x.raw s now=x.nl.at s now:=rfl
 have e2:P.raw w za swa rea=P.nl.at w za swa rea:=rfl
 have ht:A1p pr o (x.raw s now) (P.raw w za swa rea) S={A1p pr o x.nl P.nl S with ss:=(A1p pr o x.nl P.nl S).ss.at s now,po:=(A1p pr o x.nl P.nl S).po.at w za swa rea}:=by
  unfold A1p
  have hk:=G2v x P s now w za swa rea .nil .nil .nil [] [] []
  rw[hk]
  by_cases c0:A7z o=true∧pr.n<(pr.A5i.length:Int)
  ·rw[if_pos c0,if_pos c0]
   by_cases c1:(atA pr.A5i pr.n).way=1
   ·rw[if_pos c1,if_pos c1]
    exact E4q _ _ (takeN x.nl P.nl).2.1 (takeN x.nl P.nl).2.2 S (fun y=>y.at s now) (fun y=>y.at w za swa rea)
   ·rw[if_neg c1,if_neg c1]
    exact E4q _ _ x.nl P.nl S (fun y=>y.at s now) (fun y=>y.at w za swa rea)
  ·rw[if_neg c0,if_neg c0]
   exact E4q _ _ x.nl P.nl S (fun y=>y.at s now) (fun y=>y.at w za swa rea)
 unfold A2z
 split
 ·unfold A9c
  split
  ·rfl
  ·rw[ht]
   unfold B1t
   dsimp only
   split
   ·rfl
   ·split<;>rfl
 split
 ·rfl
 split
 ·rfl
 split<;>rfl
end
section
def PrS.start(a:Ask):PrS:=⟨a,0,0,.zero,0,0,0,.nil,0,[],.zero,.zero,[],.nil⟩
def A1e.begun(x:A1e):Option (A1e × PrS × Option A0a):=match x.now with
 |some (pr,o)=>some (x,pr,o)
 |none=>match x.queue with
  |[]=>none
  |q::t=>some ({x with queue:=t,ev:=q.ev,now:=some (PrS.start q.a,none)},PrS.start q.a,none)
def A0o.use(P:A0o)(ev:Int):A0o:={P with A0i:=P.A0i.set P.events.toNat ev}
def B6m(P:A0o)(i:Nat)(x:A1e)(R:StA):A0o:=match R.r with
 |none=>{P with S:=R.S,A0i:=R.po.A0i,A0e:=P.A0e.set i {x with se:=R.se,now:=some (R.pr,R.o),taken:=R.ss.taken}}
 |some r=>{P with S:=R.S,A0i:=R.po.A0i,outs:=P.outs++[⟨R.se.part,x.ev,r⟩],A0e:=P.A0e.set i {x with se:=R.se,now:=none,ev:=-1,taken:=R.ss.taken}}
def A8b(P:A0o)(i:Nat)(x:A1e)(pr:PrS)(o:Option A0a):A0o:=B6m (P.use x.ev) i x (A2z pr o x.se x.nl (P.use x.ev).nl P.S)
def A2t(P:A0o)(i:Nat)(x:A1e):Bool × A0o:=match x.begun with
 |none=>(false,P)
 |some (x1,pr,o)=>(true,A8b P i x1 pr o)
theorem G7t(r:Option Rep)(L:List D):(A5s r L).length=15:=by cases r<;>rfl
section
variable{L:List D}{s z l w m k:Nat}{se:A0j}{ss:A0g}{po:A0c}{S:WS}(B:InB L s z l w m k se ss po S)
include B
theorem InB.far:(z≠s∧z≠w∧z≠m∧z≠k∧z≠l)∧(l≠s∧l≠w∧l≠m∧l≠k):=by
 obtain⟨h1,h2,h3⟩:=B.W.far B.z (by rw[A0g.len];decide) (by rw[A0g.len];decide) (by rw[A0g.len];decide)
 obtain⟨g1,g2,g3⟩:=B.W.far B.l (by rw[A0c.len];decide) (by rw[A0c.len];decide) (by rw[A0c.len];decide)
 exact⟨⟨A3f B.z B.s (by rw[A0j.len,A0g.len];decide),h1,h2,h3,A3f B.z B.l (by rw[A0g.len,A0c.len];decide)⟩,A3f B.l B.s (by rw[A0j.len,A0c.len];decide),g1,g2,g3⟩
theorem InB.G8c(ss':A0g):InB (L.set z (.agg ss'.ds)) s z l w m k se ss' po S:=by
 obtain⟨⟨h1,h2,h3,h4,h5⟩,_⟩:=B.far
 exact⟨B.W.fr (Fr.set L z _ (T:=(·=z)) rfl) (Ne.symm h2) (Ne.symm h3) (Ne.symm h4),by rw[A3j h1];exact B.s,A3v (A2h B.z) _,by rw[A3j h5];exact B.l⟩
theorem InB.B6f(po':A0c):InB (L.set l (.agg po'.ds)) s z l w m k se ss po' S:=by
 obtain⟨⟨h1,h2,h3,h4,h5⟩,g1,g2,g3,g4⟩:=B.far
 exact⟨B.W.fr (Fr.set L l _ (T:=(·=l)) rfl) (Ne.symm g2) (Ne.symm g3) (Ne.symm g4),by rw[A3j g1];exact B.s,by rw[A3j (Ne.symm h5)];exact B.z,A3v (A2h B.l) _⟩
end
theorem F3x{L:List D}{a s z pl w m k q n:Nat}{ptr:D}{pr:PrS}{o:Option A0a}{x:A1e}{P:A0o}{za swa rea:List D}{lab:Nat→Nat}{i:Nat}
  (A:InA L a s z pl w m k (pr.at ptr (A4m z pl)) x.se (x.raw (.int (s:Nat)) (.int (a:Nat))) (P.raw (.int (w:Nat)) za swa rea) P.S) (hp:PP L q ptr o) (h:P.S.ok) (hk:A4k pr o x.se P.S) (hse:B6e x.se P.S.c)
  (hl:P.S.log.length≤1000000000) (ht:B0h x.nl P.nl) (he:0≤P.events∧P.events<P.A0i.length) (ho:P.outs.length≤1000000000)
  (hlab:∀b,L.length≤b→lab b=n) (hl4:lab z=n∧lab s=n∧lab a=n∧lab q=n) (hql:q<L.length) (x2:D):
  ∃L',A8a (.int (pl:Nat)) (.int (z:Nat)) x2 [.agg L]=some [.bool true,.agg L']∧InW L' w m k (A8b P i x pr o).S∧
   L'.getD pl D.nil=.agg ((A8b P i x pr o).raw (.int (w:Nat)) za swa rea).ds∧Fr L L' (Own a q s z pl w m)∧
   ∃x',(A8b P i x pr o).A0e=P.A0e.set i x'∧B4l L' lab n pl z x'∧(A8b P i x pr o).sw=P.sw∧(A8b P i x pr o).re=P.re:=by
 have A1:=A.B6f ((P.use x.ev).raw (.int (w:Nat)) za swa rea)
 have hpl:=A.fl
 have hq1:PP (L.set pl (.agg ((P.use x.ev).raw (.int (w:Nat)) za swa rea).ds)) q ptr o:=hp.ext fun P' hP=>by
  subst hP
  exact A3j (Ne.symm (A3f hp.2 A.l (by rw[A0a.len,A0c.len];decide))) _
 have ht0:B0h x.nl (P.use x.ev).nl:=⟨ht.t,fun d hd=>by have:=ht.e d hd;simpa[A0o.use,A0o.nl,A0o.raw]using this⟩
 have ht1:B0h (x.raw (.int (s:Nat)) (.int (a:Nat))) ((P.use x.ev).raw (.int (w:Nat)) za swa rea):=⟨ht0.t,ht0.e⟩
 obtain⟨L1,q1,p1,n1,B1,D1,F1,hq⟩:=G3a A1 hq1 h hk hse hl ht1
 rw[G3w]at n1 B1 D1
 have kk:=E0n (pr:=pr) (o:=o) h hk hse ht0
 have hQ:A8b P i x pr o=B6m (P.use x.ev) i x (A2z pr o x.se x.nl (P.use x.ev).nl P.S):=rfl
 rw[hQ]
 generalize A2z pr o x.se x.nl (P.use x.ev).nl P.S=R at*
 have ess:R.ss.at (.int (s:Nat)) (.int (a:Nat))=({x with se:=R.se,taken:=R.ss.taken}:A1e).raw (.int (s:Nat)) (.int (a:Nat)):=by rw[kk.t.e1];rfl
 have epo:∀P':A0o,P'.events=P.events→P'.outs=P.outs→P'.A0i=R.po.A0i→P'.lines=P.lines→R.po.at (.int (w:Nat)) za swa rea=P'.raw (.int (w:Nat)) za swa rea:=by
  intro P' e1 e2 e3 e4
  rw[kk.t.e2]
  unfold A0o.raw A0c.at
  rw[e1,e2,e3,e4];rfl
 have hus:((P.raw (.int (w:Nat)) za swa rea).A0i.map D.int).set (P.raw (.int (w:Nat)) za swa rea).events.toNat (.int (x.raw (.int (s:Nat)) (.int (a:Nat))).ev)=(P.use x.ev).A0i.map D.int:=D8p _ _ _
 have j1:(P.raw (.int (w:Nat)) za swa rea).events≥0:=he.1
 have j2:(P.raw (.int (w:Nat)) za swa rea).events<((P.raw (.int (w:Nat)) za swa rea).A0i.length:Int):=he.2
 have g0:(x.raw (.int (s:Nat)) (.int (a:Nat))).s=.int (s:Nat):=rfl
 have g1:(x.raw (.int (s:Nat)) (.int (a:Nat))).now=.int (a:Nat):=rfl
 have g3:(P.raw (.int (w:Nat)) za swa rea).w=.int (w:Nat):=rfl
 have g6:({P.raw (.int (w:Nat)) za swa rea with A0i:=(P.use x.ev).A0i}:A0c)=(P.use x.ev).raw (.int (w:Nat)) za swa rea:=rfl
 have FA:Fr L (L.set pl (.agg ((P.use x.ev).raw (.int (w:Nat)) za swa rea).ds)) (Own a q s z pl w m):=Fr.set L pl _ (.inr (.inr (.inr (.inr (.inl rfl)))))
 have F2:Fr L L1 (Own a q s z pl w m):=FA.trans F1
 have hlen0:(L.set pl (.agg ((P.use x.ev).raw (.int (w:Nat)) za swa rea).ds)).length=L.length:=by simp
 rw[hlen0]at hq
 have hlq:lab q1=n:=by
  rcases hq with hq|hq
  ·rw[hq];exact hl4.2.2.2
  ·exact hlab _ hq
 have hal:a<L.length:=A2h A.H.a
 rw[C4d]
 simp only[HH,A.l,A.z,A0c.A1l,A0c.A1w,A0c.A4q,A0g.A2b,j1,j2,decide_true,C8c,hus,A0c.rng,A0c.B7f,g6,A1.z,A0g.A1l,A0g.A1v]
 simp only[g0,g1,g3,n1,HH,G7t,C3t]
 cases hr:R.r with
 |none=>
  have hst:B6m (P.use x.ev) i x R={P.use x.ev with S:=R.S,A0i:=R.po.A0i,A0e:=P.A0e.set i {x with se:=R.se,now:=some (R.pr,R.o),taken:=R.ss.taken}}:=by unfold B6m;rw[hr];rfl
  rw[hst]
  obtain⟨d1,d2⟩:=D1 hr
  have e13:(A5s none L1).getD 13 D.nil=.bool false:=rfl
  have e14:(A5s none L1).getD 14 D.nil=.agg L1:=rfl
  simp only[e13,e14,HH]
  have hB:=B1.z
  have hL:=B1.l
  dsimp only at hB hL d1 d2
  rw[ess]at hB
  rw[epo {P.use x.ev with S:=R.S,A0i:=R.po.A0i,A0e:=P.A0e.set i {x with se:=R.se,now:=some (R.pr,R.o),taken:=R.ss.taken}} rfl rfl rfl rfl]at hL
  have hql1:q1<L1.length∨R.o=none:=by
   cases hoo:R.o with
   |none=>exact .inr rfl
   |some P'=>rw[hoo]at d2;exact .inl (A2h d2.2)
  refine⟨L1,rfl,B1.W,hL,F2,{x with se:=R.se,now:=some (R.pr,R.o),taken:=R.ss.taken},rfl,?_,rfl,rfl⟩
  rcases hql1 with hh|hh
  ·exact⟨s,a,q1,.int (a:Nat),hB,B1.s,⟨rfl,p1,d1,d2⟩,⟨hl4.1,hl4.2.1,hl4.2.2.1,hlq⟩,Nat.lt_of_lt_of_le hal F2.1,hh⟩
  ·refine⟨s,a,q,.int (a:Nat),hB,B1.s,⟨rfl,p1,d1,?_⟩,hl4,Nat.lt_of_lt_of_le hal F2.1,Nat.lt_of_lt_of_le hql F2.1⟩
   rw[hh]at d2⊢
   exact d2
 |some r=>
  have hst:B6m (P.use x.ev) i x R={P.use x.ev with S:=R.S,A0i:=R.po.A0i,outs:=P.outs++[⟨R.se.part,x.ev,r⟩],A0e:=P.A0e.set i {x with se:=R.se,now:=none,ev:=-1,taken:=R.ss.taken}}:=by unfold B6m;rw[hr];rfl
  rw[hst]
  have hB:=B1.z
  have hL:=B1.l
  dsimp only at hB hL
  rw[ess]at hB
  rw[epo {P.use x.ev with S:=R.S,A0i:=R.po.A0i} rfl rfl rfl rfl]at hL
  have B2:InB L1 s z pl w m k R.se (({x with se:=R.se,taken:=R.ss.taken}:A1e).raw (.int (s:Nat)) (.int (a:Nat))) (({P.use x.ev with S:=R.S,A0i:=R.po.A0i}:A0o).raw (.int (w:Nat)) za swa rea) R.S:=⟨B1.W,B1.s,hB,hL⟩
  have B3:=B2.B6f (({P.use x.ev with S:=R.S,A0i:=R.po.A0i,outs:=P.outs++[⟨R.se.part,x.ev,r⟩]}:A0o).raw (.int (w:Nat)) za swa rea)
  have B4:=B3.G8c (({x with se:=R.se,now:=none,ev:=-1,taken:=R.ss.taken}:A1e).raw (.int (s:Nat)) .nil)
  have o0:(A5s (some r) L1).getD 0 D.nil=.int r.kind:=rfl
  have o1:(A5s (some r) L1).getD 1 D.nil=.int r.code:=rfl
  have o2:(A5s (some r) L1).getD 2 D.nil=.int r.tick:=rfl
  have o3:(A5s (some r) L1).getD 3 D.nil=.int r.id:=rfl
  have o4:(A5s (some r) L1).getD 4 D.nil=.int r.cell:=rfl
  have o5:(A5s (some r) L1).getD 5 D.nil=.bool r.asked:=rfl
  have o6:(A5s (some r) L1).getD 6 D.nil=.int r.rc.k:=rfl
  have o7:(A5s (some r) L1).getD 7 D.nil=.int r.rc.q:=rfl
  have o8:(A5s (some r) L1).getD 8 D.nil=.int r.rc.p:=rfl
  have o9:(A5s (some r) L1).getD 9 D.nil=.int r.rc.t:=rfl
  have o10:(A5s (some r) L1).getD 10 D.nil=.int r.rc.c:=rfl
  have o11:(A5s (some r) L1).getD 11 D.nil=.int r.rc.g:=rfl
  have o12:(A5s (some r) L1).getD 12 D.nil=.agg (r.looks.map A5c.d):=rfl
  have o13:(A5s (some r) L1).getD 13 D.nil=.bool true:=rfl
  have o14:(A5s (some r) L1).getD 14 D.nil=.agg L1:=rfl
  have y0:(({x with se:=R.se,taken:=R.ss.taken}:A1e).raw (.int (s:Nat)) (.int (a:Nat))).s=.int (s:Nat):=rfl
  have y3:(({P.use x.ev with S:=R.S,A0i:=R.po.A0i}:A0o).raw (.int (w:Nat)) za swa rea).outs.map Out.d++[D.agg [.int R.se.part,.int (({x with se:=R.se,taken:=R.ss.taken}:A1e).raw (.int (s:Nat)) (.int (a:Nat))).ev,.int r.kind,.int r.code,.int r.tick,.int r.id,.int r.cell,.bool r.asked,.int r.rc.k,.int r.rc.q,.int r.rc.p,.int r.rc.t,.int r.rc.c,.int r.rc.g,.agg (r.looks.map A5c.d)]]=(P.outs++[(⟨R.se.part,x.ev,r⟩:Out)]).map Out.d:=by rw[List.map_append];rfl
  have y4:(((P.outs++[(⟨R.se.part,x.ev,r⟩:Out)]).map Out.d).length:Int)≤1034834473200:=by simp;omega
  have y5:({(({P.use x.ev with S:=R.S,A0i:=R.po.A0i}:A0o).raw (.int (w:Nat)) za swa rea)with outs:=P.outs++[⟨R.se.part,x.ev,r⟩]}:A0c)=(({P.use x.ev with S:=R.S,A0i:=R.po.A0i,outs:=P.outs++[⟨R.se.part,x.ev,r⟩]}:A0o).raw (.int (w:Nat)) za swa rea):=rfl
  simp only[o0,o1,o2,o3,o4,o5,o6,o7,o8,o9,o10,o11,o12,o13,o14,HH,B2.z,B2.l,B2.s,A0j.A1l,A0g.A1l,A0g.A2b,A0c.A3g,y0,y3,y4,decide_true,C4e,C3v,A0c.rng,A0c.B5h,y5,B3.z,A0g.rng,A0g.B5j,A0g.B5m]
  have F3:Fr L ((L1.set pl (.agg (({P.use x.ev with S:=R.S,A0i:=R.po.A0i,outs:=P.outs++[⟨R.se.part,x.ev,r⟩]}:A0o).raw (.int (w:Nat)) za swa rea).ds)).set z (.agg (({x with se:=R.se,now:=none,ev:=-1,taken:=R.ss.taken}:A1e).raw (.int (s:Nat)) .nil).ds)) (Own a q s z pl w m):=
   (F2.trans (Fr.set L1 pl _ (.inr (.inr (.inr (.inr (.inl rfl))))))).trans (Fr.set _ z _ (.inr (.inr (.inr (.inl rfl)))))
  refine⟨_,rfl,B4.W,B4.l,F3,{x with se:=R.se,now:=none,ev:=-1,taken:=R.ss.taken},rfl,?_,rfl,rfl⟩
  exact⟨s,a,q,.nil,B4.z,B4.s,rfl,hl4,Nat.lt_of_lt_of_le hal F3.1,Nat.lt_of_lt_of_le hql F3.1⟩
end
section
structure B1p(x:A1e)(S:WS)(A0i n:Nat):Prop where
 C5w:B6e x.se S.c
 taken:0≤x.taken∧x.taken≤x.tape.length
 tape:∀d ∈ x.tape,0≤d.ev∧d.ev<A0i
 C6j:x.tape.length≤n
 queue:∀q ∈ x.queue,q.a.tm.wf
 D9c:x.queue.length≤n
 prog:∀pr o,x.now=some (pr,o)→A4k pr o x.se S
structure A4c(P:A0o)(n:Nat):Prop where
 S:P.S.ok
 A0e:∀x ∈ P.A0e,B1p x P.S P.A0i.length n
 sw:∀x ∈ P.sw,D8o x.1 P.S.c∧∀P',x.2=some P'→P'.ok
 re:∀x ∈ P.re,B6v x P.S.c
 log:P.S.log.length≤n
 outs:P.outs.length≤n
 lines:P.lines.length≤n
 C9m:∀o ∈ P.outs,o.r.looks.length≤8
theorem A4k.c{pr:PrS}{o:Option A0a}{se:A0j}{S S':WS}(h:A4k pr o se S)(e:S'.c=S.c):A4k pr o se S':=by
 obtain⟨k1,k2,k3,k4,k5,k6,k7,k8,k9,k10,k11,k12,k13,k14⟩:=h
 exact⟨k1,k2,k3,k4,k5,k6,k7,k8,k9,k10,by rw[e];exact k11,by rw[e];exact k12,by rw[e];exact k13,k14⟩
theorem B1p.mono{x:A1e}{S S':WS}{u u' n n':Nat}(h:B1p x S u n)(e:S'.c=S.c)(hu:u≤u')(hn:n≤n'):B1p x S' u' n':=
 ⟨by rw[e];exact h.C5w,h.taken,fun d hd=>by have:=h.tape d hd;omega,Nat.le_trans h.C6j hn,h.queue,Nat.le_trans h.D9c hn,fun pr o hh=>(h.prog pr o hh).c e⟩
theorem D7t(a:Ask)(ha:a.tm.wf)(se:A0j)(S:WS):A4k (PrS.start a) none se S:=by
 have hz:(0:Int)≤0∧(0:Int)≤3:=by decide
 have hz2:(0:Int)≤0∧(0:Int)≤1000:=by decide
 have hz3:(0:Int)≤0∧(0:Int)≤8:=by decide
 have hz4:(0:Int)≤0∧(0:Int)≤100:=by decide
 exact⟨by show 0<_;decide,St.A9b,ha,In.lit (z:=0) (by decide),hz,hz2,hz3,hz4,Nat.zero_le _,Int.le_refl 0,fun hh=>absurd rfl hh,fun hh=>(by cases hh),fun hh=>(by cases hh),fun P hP=>(by cases hP)⟩
theorem mem_of{α:Type}{l:List α}{i:Nat}{x:α}(h:l[i]?=some x):x ∈ l:=List.mem_of_getElem? h
theorem F7m{L:List D}{lab:Nat→Nat}{a q s z l w m n:Nat}(h0:lab l=0∧lab w=0∧lab m=0)(hz:lab z=n∧lab s=n)(ha:a<L.length→lab a=n)(hq:q<L.length→lab q=n):
  ∀b,b<L.length→Own a q s z l w m b→lab b=n∨lab b=0:=by
 intro b hb ho
 unfold Own at ho
 rcases ho with h|h|h|h|h|h|h
 ·subst h;exact .inl (ha hb)
 ·subst h;exact .inl (hq hb)
 ·subst h;exact .inl hz.2
 ·subst h;exact .inl hz.1
 ·subst h;exact .inr h0.1
 ·subst h;exact .inr h0.2.1
 ·subst h;exact .inr h0.2.2
theorem C7t{l:List Nat}{i:Nat}{z:Nat}(h:l[i]?=some z):(A0p l).getD i D.nil=.int (z:Nat):=by
 unfold A0p
 rw[List.getD_eq_getElem?_getD,List.getElem?_map,h];rfl
theorem H0q(a:Ask)(d:D)(L:List D):FX 52 [.int a.kind,.int a.id,.int a.cell,.int a.tm.name,.int a.tm.side,.int a.tm.A0k,.int a.tm.least,.int a.tm.A1o,.int a.qty,d,.agg L]=some [.int (L.length:Nat),.agg (L++[.agg ((PrS.start a).at .nil d).ds])]:=by
 rw[F1v]
 simp only[D.A0f]
 rfl
section
variable{G:Nat→Option D}{L:List D}{lab:Nat→Nat}{pl w m k:Nat}{za swa rea:List Nat}{P:A0o}{i z n:Nat}{x:A1e}(E:Enc G L lab pl w m k za swa rea P)(hP:A4c P n)(hn:n≤100000000)(hx:P.A0e[i]?=some x)(hz:za[i]?=some z)(he:0≤P.events∧P.events<P.A0i.length)
include E hP hn hx hz he
theorem F4f:∃L' lab',FX 48 [.int (pl:Nat),.int (z:Nat),.agg L]=some [.bool (A2t P i x).1,.agg L']∧Enc G L' lab' pl w m k za swa rea (A2t P i x).2:=by
 obtain⟨s,a,q,now,h1,h2,h3,hl4,ha,hq⟩:=E.ss i x z hx hz
 obtain⟨l1,l2,l3,l4⟩:=E.l0
 have ok:=hP.A0e x (mem_of hx)
 have g1:(x.raw (.int (s:Nat)) now).queue=x.queue:=rfl
 have g2:(x.raw (.int (s:Nat)) now).now=now:=rfl
 have hqlen:(x.queue.map Qe.d).length=x.queue.length:=List.length_map ..
 rw[D1v]
 simp only[HH,h1,A0g.A1j,A0g.A1v,g1,g2,hqlen]
 cases hnow:x.now with
 |some y=>
  obtain⟨pr,o⟩:=y
  rw[hnow]at h3
  obtain⟨rfl,ptr,g3,g4⟩:=h3
  have hb:x.begun=some (x,pr,o):=by unfold A1e.begun;rw[hnow]
  have hst:A2t P i x=(true,A8b P i x pr o):=by unfold A2t;rw[hb]
  rw[hst]
  have A:InA L a s z pl w m k (pr.at ptr (A4m z pl)) x.se (x.raw (.int (s:Nat)) (.int (a:Nat))) (P.raw (.int (w:Nat)) (A0p za) (A0p swa) (A0p rea)) P.S:=⟨⟨E.W,g3,h2⟩,h1,E.A5r⟩
  obtain⟨L',n1,W',hp',F,x',e1,e2,e3,e4⟩:=F3x (lab:=A4h lab (4*i+1) L) (i:=i) A g4 hP.S (ok.prog pr o hnow) ok.C5w (by have:=hP.log;omega) ⟨⟨ok.taken.1,ok.taken.2,Nat.le_trans ok.C6j hn⟩,ok.tape⟩ he (by have:=hP.outs;omega)
   (fun b hb=>by unfold A4h;rw[if_neg (by omega)])
   (by
    have hzl:=A2h h1
    have hsl:=A2h h2
    unfold A4h
    rw[if_pos hzl,if_pos hsl,if_pos ha,if_pos hq]
    exact hl4) hq (.agg L)
  simp only[A6d,Bool.false_eq_true,if_false,n1]
  exact⟨L',_,rfl,E.A0e F W' hp' (F7m ⟨l1,l2,l3⟩ ⟨hl4.1,hl4.2.1⟩ (fun _=>hl4.2.2.1) (fun _=>hl4.2.2.2)) hz e2 e1 e3 e4⟩
 |none=>
  rw[hnow]at h3
  dsimp only at h3
  subst h3
  cases hqu:x.queue with
  |nil=>
   have hb:x.begun=none:=by unfold A1e.begun;rw[hnow,hqu]
   have hst:A2t P i x=(false,P):=by unfold A2t;rw[hb]
   rw[hst]
   simp only[B5i,if_true,List.length_nil]
   exact⟨L,lab,rfl,E⟩
  |cons qe t=>
   obtain⟨x1,hx1⟩:∃x1:A1e,x1={x with queue:=t,ev:=qe.ev,now:=some (PrS.start qe.a,none)}:=⟨_,rfl⟩
   have hb:x.begun=some (x1,PrS.start qe.a,none):=by unfold A1e.begun;rw[hnow,hqu,hx1]
   have hst:A2t P i x=(true,A8b P i x1 (PrS.start qe.a) none):=by unfold A2t;rw[hb]
   rw[hst]
   have hzl:=A2h h1
   have hsl:=A2h h2
   have hpl:=A2h E.A5r
   have hzs:z≠s:=A3f h1 h2 (by rw[A0j.len,A0g.len];decide)
   have hzp:z≠pl:=A3f h1 E.A5r (by rw[A0g.len,A0c.len];decide)
   obtain⟨d1,d2,d3⟩:=E.W.far h1 (by rw[A0g.len];decide) (by rw[A0g.len];decide) (by rw[A0g.len];decide)
   have hset:∀(y:A0g),y.ds.set 1 (.agg (t.map Qe.d))=A0g.ds {y with queue:=t}:=fun _=>rfl
   have hset2:∀(y:A0g),y.ds.set 2 (.int (L.length:Nat))=A0g.ds {y with now:=.int (L.length:Nat)}:=fun _=>rfl
   have htl:List.take ((List.map Qe.d (qe::t)).length-Int.toNat 1) (List.drop (Int.toNat 1) (List.map Qe.d (qe::t)))=t.map Qe.d:=by
    show List.take _ (List.drop 1 (List.map Qe.d (qe::t)))=_
    rw[List.map_cons,List.drop_succ_cons,List.drop_zero,List.take_of_length_le]
    simp
   obtain⟨La,hLa⟩:∃La,La=L.set z (.agg (A0g.ds ⟨.int (s:Nat),t,.nil,qe.ev,x.tape,x.taken⟩)):=⟨_,rfl⟩
   obtain⟨Lb,hLb⟩:∃Lb,Lb=La++[D.agg ((PrS.start qe.a).at .nil (A4m z pl)).ds]:=⟨_,rfl⟩
   obtain⟨Lc,hLc⟩:∃Lc,Lc=Lb.set z (.agg (x1.raw (.int (s:Nat)) (.int (L.length:Nat))).ds):=⟨_,rfl⟩
   have lA:La.length=L.length:=by rw[hLa];simp
   have lB:Lb.length=L.length+1:=by rw[hLb];simp[lA]
   have lC:Lc.length=L.length+1:=by rw[hLc];simp[lB]
   have FA:Fr L La (·=z):=by rw[hLa];exact Fr.set L z _ rfl
   have FB:Fr L Lb (·=z):=FA.trans (by rw[hLb];exact Fr.snoc La _ _)
   have FC:Fr L Lc (·=z):=FB.trans (by rw[hLc];exact Fr.set Lb z _ rfl)
   have zA:La.getD z D.nil=.agg (A0g.ds ⟨.int (s:Nat),t,.nil,qe.ev,x.tape,x.taken⟩):=by rw[hLa];exact A3v hzl _
   have zB:Lb.getD z D.nil=.agg (A0g.ds ⟨.int (s:Nat),t,.nil,qe.ev,x.tape,x.taken⟩):=by rw[hLb,C7s (by rw[lA];exact hzl)];exact zA
   have zC:Lc.getD z D.nil=.agg (x1.raw (.int (s:Nat)) (.int (L.length:Nat))).ds:=by rw[hLc];exact A3v (by rw[lB];omega) _
   have aC:Lc.getD L.length D.nil=.agg ((PrS.start qe.a).at .nil (A4m z pl)).ds:=by
    rw[hLc,A3j (by omega),hLb,←lA]
    exact A6i La _
   have hx1se:x1.se=x.se:=by rw[hx1]
   have A:InA Lc L.length s z pl w m k ((PrS.start qe.a).at .nil (A4m z pl)) x1.se (x1.raw (.int (s:Nat)) (.int (L.length:Nat))) (P.raw (.int (w:Nat)) (A0p za) (A0p swa) (A0p rea)) P.S:=
    ⟨⟨E.W.fr FC (Ne.symm d1) (Ne.symm d2) (Ne.symm d3),aC,by rw[hx1se];exact FC.get h2 (Ne.symm hzs)⟩,zC,FC.get E.A5r (Ne.symm hzp)⟩
   have hqw:qe.a.tm.wf:=ok.queue qe (by rw[hqu];exact List.mem_cons_self ..)
   have hlz:A4h lab (4*i+1) L z=4*i+1:=by unfold A4h;rw[if_pos hzl];exact hl4.1
   obtain⟨L',n1,W',hp',F,x',e1,e2,e3,e4⟩:=F3x (q:=z) (o:=none) (lab:=A4h lab (4*i+1) L) (n:=4*i+1) (i:=i) A (show PP Lc z .nil none from rfl) hP.S (by rw[hx1se];exact D7t _ hqw _ _) (by rw[hx1se];exact ok.C5w) (by have:=hP.log;omega)
    (by rw[hx1];exact⟨⟨ok.taken.1,ok.taken.2,Nat.le_trans ok.C6j hn⟩,ok.tape⟩) he (by have:=hP.outs;omega)
    (fun b hb=>by unfold A4h;rw[if_neg (by omega)])
    ⟨hlz,by unfold A4h;rw[if_pos hsl];exact hl4.2.1,by unfold A4h;rw[if_neg (by omega)],hlz⟩ (by rw[lC];omega) (.agg L)
   have i1:(((t.length+1:Nat):Int) == 0)=false:=beq_eq_false_iff_ne.2 (by omega)
   have i2:(0:Int)<((t.length+1:Nat):Int):=by omega
   have i3:(1:Int)≤((t.length+1:Nat):Int):=by omega
   have i4:(0:Int)≤1:=by decide
   have g5:(x.raw (.int (s:Nat)) .nil).queue=qe::t:=hqu
   have hg0:((qe::t).map Qe.d).getD ((0:Int)).toNat D.nil=.agg qe.ds:=rfl
   have sx:=H0q qe.a (A4m z pl) La
   unfold A4m at sx
   have hm0:({x.raw (.int (s:Nat)) .nil with queue:=t,ev:=qe.ev}:A0g)=⟨.int (s:Nat),t,.nil,qe.ev,x.tape,x.taken⟩:=rfl
   simp only[B5i,if_true,i1,i2,i3,i4,Int.le_refl,decide_true,Bool.false_eq_true,if_false,C3x,C4c,HH,h1,A0g.A1j,g5,hg0,Qe.len,Qe.A1l,Qe.A1j,Qe.A1v,Qe.A2b,Qe.A1w,Qe.A3g,Qe.A4q,Qe.A7r,Qe.A5t,Qe.A5u,htl,A0g.rng,hset,A0g.B5m,hm0]
   rw[←hLa,sx]
   have hm1:({(⟨.int (s:Nat),t,.nil,qe.ev,x.tape,x.taken⟩:A0g)with now:=.int (L.length:Nat)}:A0g)=x1.raw (.int (s:Nat)) (.int (L.length:Nat)):=by rw[hx1];rfl
   have hLb':La++[D.agg ((PrS.start qe.a).at .nil (.iface 53 (.agg [.iface 83 (.agg [.int (z:Nat)]),.iface 25 (.agg [.int (pl:Nat)])]))).ds]=Lb:=hLb.symm
   have hraw:x1.raw (.int (s:Nat)) (.int (L.length:Nat))=⟨.int (s:Nat),t,.int (L.length:Nat),qe.ev,x.tape,x.taken⟩:=by rw[hx1];rfl
   rw[hraw]at hLc
   simp only[HH,hLb',zB,A0g.rng,lA,hset2,←hLc]
   rw[n1]
   refine⟨L',_,rfl,E.A0e (L':=L') (T:=Own L.length z s z pl w m) ((FC.mono fun b hb=>.inr (.inl hb)).trans F) W' hp' (F7m ⟨l1,l2,l3⟩ ⟨hl4.1,hl4.2.1⟩ (fun hh=>absurd hh (Nat.lt_irrefl _)) (fun _=>hl4.1)) hz e2 e1 e3 e4⟩
end
end
section
structure D0i(P P':A0o)(n:Nat):Prop where
 ok:A4c P' (n+1)
 w:A8s P.S P'.S
 A0i:P'.A0i.length=P.A0i.length
 events:P'.events=P.events
 sl:P'.A0e.length=P.A0e.length
 swl:P'.sw.length=P.sw.length
 rel:P'.re.length=P.re.length
 lines:P'.lines=P.lines
theorem A4c.mono{P:A0o}{n n':Nat}(h:A4c P n)(hn:n≤n'):A4c P n':=
 ⟨h.S,fun x hx=>(h.A0e x hx).mono rfl (Nat.le_refl _) hn,h.sw,h.re,Nat.le_trans h.log hn,Nat.le_trans h.outs hn,Nat.le_trans h.lines hn,h.C9m⟩
theorem D0i.A2f{P:A0o}{n:Nat}(h:A4c P n):D0i P P n:=⟨h.mono (Nat.le_succ n),.A2f h.S,rfl,rfl,rfl,rfl,rfl,rfl⟩
theorem others{P:A0o}{n:Nat}(h:A4c P n){S':WS}(kw:A8s P.S S'):(∀x ∈ P.A0e,B1p x S' P.A0i.length (n+1))∧(∀x ∈ P.sw,D8o x.1 S'.c∧∀P',x.2=some P'→P'.ok)∧(∀x ∈ P.re,B6v x S'.c):=by
 refine⟨fun x hx=>(h.A0e x hx).mono kw.c (Nat.le_refl _) (Nat.le_succ n),?_,?_⟩
 ·rw[kw.c];exact h.sw
 ·rw[kw.c];exact h.re
theorem F3m{P:A0o}{n i:Nat}{x:A1e}{pr:PrS}{o:Option A0a}(h:A4c P n)(hn:n≤100000000)(hx:B1p x P.S P.A0i.length n)(hk:A4k pr o x.se P.S):D0i P (A8b P i x pr o) n:=by
 have hul:(P.use x.ev).A0i.length=P.A0i.length:=by simp[A0o.use]
 have ht0:B0h x.nl (P.use x.ev).nl:=⟨⟨hx.taken.1,hx.taken.2,Nat.le_trans hx.C6j hn⟩,fun d hd=>by
  have:=hx.tape d hd
  show 0≤d.ev∧d.ev<((P.use x.ev).A0i.length:Int)
  rw[hul];exact this⟩
 have kk:=E0n (pr:=pr) (o:=o) h.S hk hx.C5w ht0
 have hrep:=fun r (h:(A2z pr o x.se x.nl (P.use x.ev).nl P.S).r=some r)=>G1z hk h
 have hQ:A8b P i x pr o=B6m (P.use x.ev) i x (A2z pr o x.se x.nl (P.use x.ev).nl P.S):=rfl
 rw[hQ]
 generalize A2z pr o x.se x.nl (P.use x.ev).nl P.S=R at*
 obtain⟨kw,ks,kp,kt,kg⟩:=kk
 have hrl:R.po.A0i.length=P.A0i.length:=by rw[kt.len];exact hul
 obtain⟨o1,o2,o3⟩:=others h kw
 have ets:R.ss.tape=x.tape:=by rw[kt.e1];rfl
 have tk:0≤R.ss.taken∧R.ss.taken≤(x.tape.length:Int):=by have:=kt.tape.t;rw[ets]at this;exact⟨this.1,this.2.1⟩
 have hlog:=kw.log
 have h1:=h.log
 have h2:=h.outs
 unfold B6m
 cases hr:R.r with
 |none=>
  obtain⟨p1,_⟩:=kg hr
  refine⟨⟨kw.ok,fun y hy=>?_,o2,o3,by show R.S.log.length≤_;omega,by show P.outs.length≤_;omega,Nat.le_succ_of_le h.lines,h.C9m⟩,kw,hrl,rfl,by simp[A0o.use],rfl,rfl,rfl⟩
  show B1p y R.S R.po.A0i.length (n+1)
  rw[hrl]
  rcases List.mem_or_eq_of_mem_set hy with hy|hy
  ·exact o1 y hy
  ·subst hy
   exact⟨by rw[kw.c];exact ks,tk,hx.tape,Nat.le_succ_of_le hx.C6j,hx.queue,Nat.le_succ_of_le hx.D9c,fun pr o hh=>by cases hh;exact p1⟩
 |some r=>
  refine⟨⟨kw.ok,fun y hy=>?_,o2,o3,by show R.S.log.length≤_;omega,by simp[A0o.use];omega,Nat.le_succ_of_le h.lines,fun o ho=>(List.mem_append.1 ho).elim (h.C9m o) fun ho=>by rw[List.mem_singleton]at ho;subst ho;exact hrep r hr⟩,kw,hrl,rfl,by simp[A0o.use],rfl,rfl,rfl⟩
  show B1p y R.S R.po.A0i.length (n+1)
  rw[hrl]
  rcases List.mem_or_eq_of_mem_set hy with hy|hy
  ·exact o1 y hy
  ·subst hy
   exact⟨by rw[kw.c];exact ks,tk,hx.tape,Nat.le_succ_of_le hx.C6j,hx.queue,Nat.le_succ_of_le hx.D9c,fun pr o hh=>by cases hh⟩
theorem G8m{P:A0o}{n i:Nat}{x:A1e}(h:A4c P n)(hn:n≤100000000)(hx:B1p x P.S P.A0i.length n):D0i P (A2t P i x).2 n:=by
 unfold A2t A1e.begun
 cases hnow:x.now with
 |some y=>
  obtain⟨pr,o⟩:=y
  exact F3m h hn hx (hx.prog pr o hnow)
 |none=>
  cases hq:x.queue with
  |nil=>exact .A2f h
  |cons q t=>
   have hqw:q.a.tm.wf:=hx.queue q (by rw[hq];exact List.mem_cons_self ..)
   have htq:∀y ∈ t,y.a.tm.wf:=fun y hy=>hx.queue y (by rw[hq];exact List.mem_cons_of_mem _ hy)
   have hlq:t.length≤n:=by have:=hx.D9c;rw[hq,List.length_cons]at this;omega
   exact F3m (x:={x with queue:=t,ev:=q.ev,now:=some (PrS.start q.a,none)}) h hn ⟨hx.C5w,hx.taken,hx.tape,hx.C6j,htq,hlq,fun pr o hh=>by cases hh;exact D7t _ hqw _ _⟩ (D7t _ hqw _ _)
def B2p(P:A0o)(j:Nat)(y:SwS × Option A0a):A0o:={P with S:=(A6s y.1 y.2 P.S).2.2,sw:=P.sw.set j ((A6s y.1 y.2 P.S).1,some (A6s y.1 y.2 P.S).2.1)}
def B8u(P:A0o)(j:Nat)(y:ReS):A0o:={P with S:=(B2i y P.S).2,re:=P.re.set j (B2i y P.S).1}
def A3d(P:A0o)(ag:Int):Bool × A0o:=
 if ag<0∨ag-P.A0e.length≥2*P.sw.length then(false,P)
 else if ag-P.A0e.length<0 then(match P.A0e[ag.toNat]? with
  |some x=>A2t P ag.toNat x
  |none=>(false,P))
 else if ag-P.A0e.length<P.sw.length then(match P.sw[(ag-P.A0e.length).toNat]? with
  |some y=>(true,B2p P (ag-P.A0e.length).toNat y)
  |none=>(true,P))
 else(match P.re[(ag-P.A0e.length-P.sw.length).toNat]? with
  |some y=>(true,B8u P (ag-P.A0e.length-P.sw.length).toNat y)
  |none=>(true,P))
theorem G3n(sw:SwS)(c:Cf){o:Option A0a}(ho:∀P,o=some P→P.ok):(B3c sw c o).ok:=by
 cases o with
 |none=>exact A0a.B9l _
 |some P=>
  unfold B3c
  dsimp only
  split
  ·exact A0a.B9l _
  ·exact ho P rfl
theorem G3x{sw:SwS}{c:Cf}(hc:c.ok)(h:D8o sw c)(P:A0a):D8o (D3m sw c P) c:=by
 have hal:=A6z c hc
 have hpos:0<A0s c*A0s c:=Int.mul_pos (by omega) (by omega)
 obtain⟨h1,h2⟩:=h
 unfold D3m
 split
 ·exact⟨h1,h2⟩
 ·split
  ·exact⟨Int.le_refl 0,hpos⟩
  ·constructor
   ·dsimp only;omega
   ·dsimp only;omega
theorem G5y{P:A0o}{n j:Nat}{y:SwS × Option A0a}(h:A4c P n)(hy:y ∈ P.sw):D0i P (B2p P j y) n:=by
 obtain⟨s1,s2⟩:=h.sw y hy
 have kk:=C7z h.S (G3n y.1 P.S.c s2)
 have kw:A8s P.S (A6s y.1 y.2 P.S).2.2:=⟨kk.s,kk.c,kk.now,kk.log,kk.len⟩
 obtain⟨o1,o2,o3⟩:=others h kw
 have h1:=h.log
 have h2:=kw.log
 refine⟨⟨kw.ok,o1,fun z hz=>?_,o3,by show(A6s y.1 y.2 P.S).2.2.log.length≤_;omega,Nat.le_succ_of_le h.outs,Nat.le_succ_of_le h.lines,h.C9m⟩,kw,rfl,rfl,rfl,by simp[B2p],rfl,rfl⟩
 rcases List.mem_or_eq_of_mem_set hz with hz|hz
 ·exact o2 z hz
 ·subst hz
  refine⟨?_,fun P' hP'=>by cases hP';exact kk.p⟩
  show D8o _ (A6s y.1 y.2 P.S).2.2.c
  rw[kw.c]
  exact G3x h.S.c s1 _
theorem F8w{re:ReS}{S:WS}(h:S.ok)(hk:B6v re S.c)(x:Int):A8s S (A3p re S x).2∧(A3p re S x).1.pc=re.pc∧B6v (A3p re S x).1 S.c:=by
 obtain⟨k1,k2,k3,k4,k5⟩:=hk
 have hnow:In (S.now:Int):=In.lit (by have:=h.now;omega)
 unfold A3p
 split
 ·exact⟨.A2f h,rfl,⟨k1,k2,k3,k4,k5⟩⟩
 split
 ·exact⟨.A2f h,rfl,⟨k1,k2,k3,k4,k5⟩⟩
 split
 ·exact⟨.A2f h,rfl,⟨k1,k2,k3,k4,k5⟩⟩
 split
 ·exact⟨C4j h _ _ _ _,rfl,⟨k1,k2,E3g k3,k4,hnow⟩⟩
 ·exact⟨.A2f h,rfl,⟨k1,k2,k3,k4,k5⟩⟩
theorem G7m{re:ReS}{S:WS}(h:S.ok)(hk:B6v re S.c):A8s S (A7l re S).2∧(A7l re S).1.pc=re.pc∧B6v (A7l re S).1 S.c:=by
 have hk':=hk
 obtain⟨k1,k2,k3,k4,k5⟩:=hk
 unfold A7l
 split
 ·exact⟨.A2f h,rfl,⟨k1,WS.C2h h _,B2a _,k4,k5⟩⟩
 split
 ·exact⟨.A2f h,rfl,⟨k1,k2,k3,C6x _,k5⟩⟩
 split
 ·exact F8w h hk' _
 ·refine⟨?_,rfl,hk'⟩
  dsimp only
  split
  ·exact E2t h _ _ _ _
  ·exact .A2f h
theorem H2a{P:A0o}{n j:Nat}{y:ReS}(h:A4c P n)(hy:y ∈ P.re):D0i P (B8u P j y) n:=by
 have s1:=h.re y hy
 obtain⟨kw,e1,r1⟩:=G7m h.S s1
 have hal:=A6z P.S.c h.S.c
 obtain⟨o1,o2,o3⟩:=others h kw
 have h1:=h.log
 have h2:=kw.log
 refine⟨⟨kw.ok,o1,o2,fun z hz=>?_,by show(A7l y P.S).2.log.length≤_;omega,Nat.le_succ_of_le h.outs,Nat.le_succ_of_le h.lines,h.C9m⟩,kw,rfl,rfl,rfl,rfl,by simp[B8u],rfl⟩
 rcases List.mem_or_eq_of_mem_set hz with hz|hz
 ·exact o3 z hz
 ·subst hz
  show B6v (B8q (A7l y P.S).1 P.S.c) (A7l y P.S).2.c
  rw[kw.c]
  obtain⟨k1,k2,k3,k4,k5⟩:=r1
  have hz1:(0:Int)≤0∧(0:Int)<4*A0s P.S.c:=by omega
  unfold B8q
  split
  ·exact⟨hz1,k2,k3,k4,k5⟩
  ·exact⟨by dsimp only;omega,k2,k3,k4,k5⟩
theorem D5b{P:A0o}{n:Nat}(h:A4c P n)(hn:n≤100000000)(ag:Int):D0i P (A3d P ag).2 n:=by
 unfold A3d
 split
 ·exact .A2f h
 split
 ·split
  ·rename_i x hx
   exact G8m h hn (h.A0e x (mem_of hx))
  ·exact .A2f h
 split
 ·split
  ·rename_i y hy
   exact G5y h (mem_of hy)
  ·exact .A2f h
 ·split
  ·rename_i y hy
   exact H2a h (mem_of hy)
  ·exact .A2f h
section
variable{G:Nat→Option D}{L:List D}{lab:Nat→Nat}{pl w m k:Nat}{za swa rea:List Nat}{P:A0o}{n:Nat}(E:Enc G L lab pl w m k za swa rea P)(hP:A4c P n)(hn:n≤100000000)
include E hP hn
theorem G4h{j b:Nat}{y:SwS × Option A0a}(hy:P.sw[j]?=some y)(hb:swa[j]?=some b):∃L' lab',FX 49 [.int (b:Nat),.int (w:Nat),.agg L]=some [.agg L']∧Enc G L' lab' pl w m k za swa rea (B2p P j y):=by
 obtain⟨q,ptr,h1,h2,⟨l1,l2⟩,h5⟩:=E.sw j y b hy hb
 obtain⟨s1,s2⟩:=hP.sw y (mem_of hy)
 obtain⟨z1,z2,z3,z4⟩:=E.l0
 have hbl:=A2h h1
 obtain⟨L',q',n1,W',b',qq,F,hq⟩:=G7a E.W h1 hP.S s1 (by have:=hP.log;omega) h2 s2
 have hpl:pl≠b∧pl≠q:=⟨fun e=>by rw[e]at z1;omega,fun e=>by rw[e]at z1;omega⟩
 have hpw:=E.W.far E.A5r (by rw[A0c.len];decide) (by rw[A0c.len];decide) (by rw[A0c.len];decide)
 have hp':L'.getD pl D.nil=.agg ((B2p P j y).raw (.int (w:Nat)) (A0p za) (A0p swa) (A0p rea)).ds:=F.get E.A5r (by unfold D0a;simp only[hpl.1,hpl.2,hpw.1,hpw.2.1,or_self,not_false_iff])
 refine⟨L',_,n1,E.swp F W' hp' (i:=j) (x':=((A6s y.1 y.2 P.S).1,some (A6s y.1 y.2 P.S).2.1)) (fun x hx ho=>?_) hb ⟨q',.int (q':Nat),b',(show PP L' q' (.int (q':Nat)) (some (A6s y.1 y.2 P.S).2.1)from⟨rfl,qq⟩),⟨by rw[A2y F hbl];exact l1,?_⟩,A2h qq⟩ rfl rfl rfl⟩
 ·unfold D0a at ho
  rcases ho with ho|ho|ho|ho
  ·subst ho;exact .inl l1
  ·subst ho;exact .inl l2
  ·subst ho;exact .inr z2
  ·subst ho;exact .inr z3
 ·rcases hq with hq|hq
  ·rw[hq,A2y F h5];exact l2
  ·unfold A4h;rw[if_neg (by omega)]
theorem G7i{j b:Nat}{y:ReS}(hy:P.re[j]?=some y)(hb:rea[j]?=some b):∃L' lab',FX 50 [.int (b:Nat),.int (w:Nat),.agg L]=some [.agg L']∧Enc G L' lab' pl w m k za swa rea (B8u P j y):=by
 obtain⟨h1,l1⟩:=E.re j y b hy hb
 have s1:=hP.re y (mem_of hy)
 obtain⟨z1,z2,z3,z4⟩:=E.l0
 have hbl:=A2h h1
 obtain⟨L',n1,H',F⟩:=H2b ⟨E.W,h1⟩ hP.S s1 (by have:=hP.log;omega)
 have hpl:pl≠b:=fun e=>by rw[e]at z1;omega
 have hpw:=E.W.far E.A5r (by rw[A0c.len];decide) (by rw[A0c.len];decide) (by rw[A0c.len];decide)
 have hp':L'.getD pl D.nil=.agg ((B8u P j y).raw (.int (w:Nat)) (A0p za) (A0p swa) (A0p rea)).ds:=F.get E.A5r (by simp only[hpl,hpw.1,hpw.2.1,or_self,not_false_iff])
 refine⟨L',_,n1,E.rep F H'.W hp' (i:=j) (fun x hx ho=>?_) hb ⟨H'.b,by rw[A2y F hbl];exact l1⟩ rfl rfl rfl⟩
 rcases ho with ho|ho|ho
 ·subst ho;exact .inl l1
 ·subst ho;exact .inr z2
 ·subst ho;exact .inr z3
theorem G7x(he:0≤P.events∧P.events<P.A0i.length)(hsr:P.sw.length=P.re.length)(hlen:P.A0e.length≤1000∧P.sw.length≤1000)(ag:Int)(hag:In ag):
  ∃L' lab',FX 42 [.int (pl:Nat),.int ag,.agg L]=some [.bool (A3d P ag).1,.agg L']∧Enc G L' lab' pl w m k za swa rea (A3d P ag).2:=by
 have e1:(A0p za).length=P.A0e.length:=by rw[←E.zl];simp[A0p]
 have e2:(A0p swa).length=P.sw.length:=by rw[←E.swl];simp[A0p]
 have e3:(A0p rea).length=P.re.length:=by rw[←E.rel];simp[A0p]
 have g0:(P.raw (.int (w:Nat)) (A0p za) (A0p swa) (A0p rea)).w=.int (w:Nat):=rfl
 have g1:(P.raw (.int (w:Nat)) (A0p za) (A0p swa) (A0p rea)).A0e=A0p za:=rfl
 have g2:(P.raw (.int (w:Nat)) (A0p za) (A0p swa) (A0p rea)).C7b=A0p swa:=rfl
 have g3:(P.raw (.int (w:Nat)) (A0p za) (A0p swa) (A0p rea)).D5p=A0p rea:=rfl
 have hJ:FX 42 [.int (pl:Nat),.int ag,.agg L]=A7w (.int (pl:Nat)) (.int ag) (.agg L) [.agg L,.bool (decide (ag<0∨ag-P.A0e.length≥2*P.sw.length))]:=by
  rw[D3l]
  simp only[HH,E.A5r,A0c.A1j,A0c.A1v,g1,g2,e1,e2]
  by_cases a0:ag<0
  ·simp only[a0,decide_true,if_true,true_or]
  ·have h1:In (ag-(P.A0e.length:Int)):=by unfold In at *;omega
   simp only[a0,decide_false,Bool.false_eq_true,if_false,false_or]
   rw[h1.w,A1a (2*(P.sw.length:Int)) (by omega) (by omega)]
 rw[hJ,C3z]
 simp only[HH,E.A5r,A0c.A1l,A0c.A1j,A0c.A1v,A0c.A2b,g0,g1,g2,g3,e1,e2,e3]
 by_cases c0:ag<0∨ag-P.A0e.length≥2*P.sw.length
 ·have e:A3d P ag=(false,P):=if_pos c0
  rw[e]
  simp only[c0,decide_true,if_true]
  exact⟨L,lab,rfl,E⟩
 have h1:In (ag-(P.A0e.length:Int)):=by unfold In at *;omega
 have h2:In (ag-(P.A0e.length:Int)-(P.sw.length:Int)):=by unfold In at *;omega
 rw[h1.w,h2.w]
 simp only[c0,decide_false,Bool.false_eq_true,if_false]
 by_cases c1:ag-P.A0e.length<0
 ·have hlt:ag.toNat<P.A0e.length:=by omega
  obtain⟨x,hx⟩:∃x,P.A0e[ag.toNat]?=some x:=⟨_,List.getElem?_eq_getElem hlt⟩
  obtain⟨z,hz⟩:∃z,za[ag.toNat]?=some z:=⟨_,List.getElem?_eq_getElem (by rw[E.zl];exact hlt)⟩
  have e:A3d P ag=A2t P ag.toNat x:=by unfold A3d;rw[if_neg c0,if_pos c1,hx]
  rw[e]
  obtain⟨L',lab',n1,E'⟩:=F4f E hP hn hx hz he
  have j1:ag≥0:=by omega
  have j2:ag<(P.A0e.length:Int):=by omega
  simp only[c1,decide_true,if_true,j1,j2,C7t hz,n1,HH]
  exact⟨L',lab',rfl,E'⟩
 simp only[c1,decide_false,Bool.false_eq_true,if_false]
 by_cases c2:ag-P.A0e.length<P.sw.length
 ·have hlt:(ag-P.A0e.length).toNat<P.sw.length:=by omega
  obtain⟨y,hy⟩:∃y,P.sw[(ag-P.A0e.length).toNat]?=some y:=⟨_,List.getElem?_eq_getElem hlt⟩
  obtain⟨b,hb⟩:∃b,swa[(ag-P.A0e.length).toNat]?=some b:=⟨_,List.getElem?_eq_getElem (by rw[E.swl];exact hlt)⟩
  have e:A3d P ag=(true,B2p P (ag-P.A0e.length).toNat y):=by unfold A3d;rw[if_neg c0,if_neg c1,if_pos c2,hy]
  rw[e]
  obtain⟨L',lab',n1,E'⟩:=G4h E hP hn hy hb
  have j1:ag-P.A0e.length≥0:=by omega
  simp only[c2,decide_true,if_true,j1,C7t hb,n1,HH]
  exact⟨L',lab',rfl,E'⟩
 ·have hlt:(ag-P.A0e.length-P.sw.length).toNat<P.re.length:=by omega
  obtain⟨y,hy⟩:∃y,P.re[(ag-P.A0e.length-P.sw.length).toNat]?=some y:=⟨_,List.getElem?_eq_getElem hlt⟩
  obtain⟨b,hb⟩:∃b,rea[(ag-P.A0e.length-P.sw.length).toNat]?=some b:=⟨_,List.getElem?_eq_getElem (by rw[E.rel];exact hlt)⟩
  have e:A3d P ag=(true,B8u P (ag-P.A0e.length-P.sw.length).toNat y):=by unfold A3d;rw[if_neg c0,if_neg c1,if_neg c2,hy]
  rw[e]
  obtain⟨L',lab',n1,E'⟩:=G7i E hP hn hy hb
  have j1:ag-P.A0e.length-P.sw.length≥0:=by omega
  have j2:ag-P.A0e.length-P.sw.length<(P.re.length:Int):=by omega
  simp only[c2,decide_false,Bool.false_eq_true,if_false,decide_true,if_true,j1,j2,C7t hb,n1,HH]
  exact⟨L',lab',rfl,E'⟩
end
end
section
def WS.tick(S:WS)(n:Int):WS:={S with now:=(B7b S.now n).toNat}
theorem G4d{now n:Int}(h:0≤now∧now≤1000000):0≤B7b now n∧B7b now n≤1000000:=by
 unfold B7b
 split
 ·exact h
 ·split<;>omega
theorem F1p{x:Int}(h0:0≤x)(h1:x≤9223372036854775807):IntKind.u64.wrap x=x:=u64_in h0 (by omega)
theorem add_eq(now n:Int)(h:0≤now∧now≤1000000)(hn:0<n∧n≤9223372036854775807):FX 47 [.int 1000000,.agg [.int now,.int n]]=some [.int (B7b now n)]:=by
 have a1:¬now>1000000:=by omega
 have a2:¬(0:Int)>1000000-now:=by omega
 have e0:((0:Int)<2)=True:=by simp
 rw[F5h,B5g]
 simp only[D.toInt_int,D.A0f,List.length_cons,List.length_nil,Int.toNat_zero,List.getD_cons_zero]
 have i1:(0:Int)<((0+1+1:Nat):Int):=by decide
 have i2:(0:Int)≥0:=by decide
 simp only[i1,i2,a1,decide_true,decide_false,if_true,Bool.false_eq_true,if_false]
 rw[F1p (x:=1000000-now) (by omega) (by omega),F1p (x:=0+now) (by omega) (by omega),A1a (0+1) (by decide) (by decide)]
 simp only[a2,decide_false,Bool.false_eq_true,if_false]
 rw[B5g]
 simp only[D.toInt_int,D.A0f,List.length_cons,List.length_nil]
 have i3:(0+1:Int)<((0+1+1:Nat):Int):=by decide
 have i4:(0+1:Int)≥0:=by decide
 have i5:[D.int now,D.int n].getD (0+1:Int).toNat D.nil=.int n:=rfl
 simp only[i3,i4,i5,decide_true,if_true,D.toInt_int]
 have eA:B7b now n=if n>1000000∨now>1000000-n then 1000000 else now+n:=if_neg (by omega)
 rw[eA]
 by_cases c1:n>1000000
 ·simp only[c1,decide_true,if_true,true_or]
 rw[F1p (x:=1000000-n) (by omega) (by omega)]
 by_cases c2:now>1000000-n
 ·have c2':0+now>1000000-n:=by omega
  simp only[c1,c2,c2',decide_true,decide_false,Bool.false_eq_true,if_false,if_true,or_true]
 have c2':¬0+now>1000000-n:=by omega
 simp only[c1,c2,c2',decide_false,Bool.false_eq_true,if_false,or_self]
 rw[F1p (x:=0+now+n) (by omega) (by omega),A1a (0+1+1) (by decide) (by decide),B5g]
 simp only[D.toInt_int,D.A0f,List.length_cons,List.length_nil]
 have i6:¬(1+1:Int)<((0+1+1:Nat):Int):=by decide
 have i7:¬(1000000:Int)<now+n:=by omega
 simp only[Int.zero_add]
 simp only[i6,i7,decide_false,Bool.false_eq_true,if_false]
section
variable{L:List D}{w m k:Nat}{S:WS}(W:InW L w m k S)(h:S.ok)
include W h
theorem InW.setK(v:Nat):InW (L.set k (.agg (A7q.ds ⟨v⟩))) w m k {S with now:=v}:=by
 obtain⟨M,hM,e⟩:=W.m
 exact⟨by rw[A3j (Ne.symm W.nwk)];exact W.w,⟨M,by rw[A3j (Ne.symm W.nmk)];exact hM,e⟩,A3v (A2h W.k) _⟩
theorem go_eq(n:Int)(hn:In n):∃L',FX 41 [.int (k:Nat),.agg [.int n],.agg L]=some [wN (S.tick n).now,.agg L']∧InW L' w m k (S.tick n)∧Fr L L' (·=k):=by
 have hb:=G4d (now:=S.now) (n:=n) (by have:=h.now;omega)
 have hnow:=h.now
 have i1:(0:Int)<((0+1:Nat):Int):=by decide
 have i2:(0:Int)≥0:=by decide
 have i3:¬(0+1:Int)<((0+1:Nat):Int):=by decide
 rw[D6d]
 simp only[A6d,Bool.false_eq_true,if_false]
 rw[A9u]
 simp only[D.toInt_int,D.A0f,List.length_cons,List.length_nil,Int.toNat_zero,List.getD_cons_zero,i1,i2,decide_true,if_true,Int.toNat_natCast,W.k,A6d,Bool.not_false,A7q.A1l]
 rw[A1a (0+1) (by decide) (by decide)]
 by_cases c0:n>0
 ·unfold In at hn
  rw[F1p (x:=n) (by omega) (by omega)]
  have ha:=add_eq S.now n (by omega) ⟨by omega,hn.2⟩
  have hs:(A7q.mk S.now).ds.set 0 (.int (B7b S.now n))=(A7q.mk (B7b S.now n).toNat).ds:=by
   have e:(((B7b S.now n).toNat:Nat):Int)=B7b S.now n:=Int.toNat_of_nonneg hb.1
   unfold A7q.ds wN
   dsimp only[List.set]
   rw[e]
  have W1:=InW.setK W h (B7b S.now n).toNat
  unfold wN at ha⊢
  simp only[c0,decide_true,if_true,ha,A0q,List.length_cons,List.length_nil,List.getD_cons_zero,A7q.rng,hs]
  rw[A9u]
  simp only[D.toInt_int,D.A0f,List.length_cons,List.length_nil,i3,decide_false,Bool.false_eq_true,if_false,Int.toNat_natCast,W1.k,A6d,Bool.not_false,if_true,A7q.A1l,C8r]
  rw[A1a _ (by omega) (by omega)]
  exact⟨_,rfl,W1,Fr.set L k _ rfl⟩
 ·have e:B7b S.now n=S.now:=if_pos (by omega)
  have et:S.tick n=S:=by unfold WS.tick;rw[e];rfl
  simp only[c0,decide_false,Bool.false_eq_true,if_false]
  rw[A9u,et]
  simp only[D.toInt_int,D.A0f,List.length_cons,List.length_nil,i3,decide_false,Bool.false_eq_true,if_false,Int.toNat_natCast,W.k,A6d,Bool.not_false,if_true,A7q.A1l,C8r]
  rw[A1a _ (by omega) (by omega)]
  exact⟨L,rfl,W,Fr.refl _ _⟩
end
structure PEv where
 kind:Int
 who:Int
 n:Int
 ask:Ask
def PEv.ds(e:PEv):List D:=[.int e.kind,.int e.who,.int e.n]++e.ask.ds
def PEv.d(e:PEv):D:=.agg e.ds
def PEv.wf(e:PEv):Prop:=In e.who∧In e.n∧e.ask.tm.wf
def A0o.got(P:A0o):A0o:={P with A0i:=P.A0i++[-1]}
def A0o.on(P:A0o):A0o:={P with events:=P.events+1}
def D4z(P:A0o)(i:Nat)(x:A1e)(a:Ask):A0o:={P with A0e:=P.A0e.set i {x with queue:=x.queue++[⟨a,P.events⟩]},lines:=P.lines++[P.events]}
def E2l(P:A0o)(i:Nat)(x:A1e)(n:Int):A0o:={P with A0e:=P.A0e.set i {x with tape:=x.tape++[⟨B3l n (A0s P.S.c),P.events⟩]}}
def D0j(P:A0o)(n:Int):A0o:={P with S:=P.S.tick n}
def doP(P:A0o)(e:PEv):Bool × A0o:=
 if e.kind=2 then(decide (((P.S.tick e.n).now:Int)>(P.S.now:Int)),(D0j P.got e.n).on)
 else if e.kind=3 then((A3d P.got e.who).1,(A3d P.got e.who).2.on)
 else if 0≤e.who∧e.who<P.A0e.length then
  (if e.kind=1 then(match P.A0e[e.who.toNat]? with
   |some x=>(true,(D4z P.got e.who.toNat x e.ask).on)
   |none=>(false,P.got.on))
  else if e.kind=4 then(match P.A0e[e.who.toNat]? with
   |some x=>(true,(E2l P.got e.who.toNat x e.n).on)
   |none=>(false,P.got.on))
  else(false,P.got.on))
 else(false,P.got.on)
theorem Enc.base{G:Nat→Option D}{L L':List D}{lab:Nat→Nat}{pl w m k:Nat}{za swa rea:List Nat}{P P':A0o}{T:Nat→Prop}(E:Enc G L lab pl w m k za swa rea P)(F:Fr L L' T)
  (W':InW L' w m k P'.S) (hp:L'.getD pl D.nil=.agg (P'.raw (.int (w:Nat)) (A0p za) (A0p swa) (A0p rea)).ds) (hT:∀b,b<L.length→T b→lab b=0)
  (h1:P'.A0e=P.A0e) (h2:P'.sw=P.sw) (h3:P'.re=P.re):Enc G L' (A4h lab 0 L) pl w m k za swa rea P':=by
 have hno:∀n,n≠0→∀b,b<L.length→lab b=n→¬T b:=fun n n2 b hb hl ht=>by
  have:=hT b hb ht;omega
 refine⟨W',hp,F7z E F W' hp _,by rw[h1];exact E.zl,by rw[h2];exact E.swl,by rw[h3];exact E.rel,fun j y zj hy hzj=>?_,fun j y zj hy hzj=>?_,fun j y zj hy hzj=>?_,E.F9f F 0 (fun b hb ht=>by have:=hT b hb ht;omega)⟩
 ·rw[h1]at hy;exact(E.ss j y zj hy hzj).fr F (hno _ (by omega))
 ·rw[h2]at hy;exact(E.sw j y zj hy hzj).fr F (hno _ (by omega))
 ·rw[h3]at hy;exact(E.re j y zj hy hzj).fr F (hno _ (by omega))
theorem Enc.G0q{G:Nat→Option D}{L:List D}{lab:Nat→Nat}{pl w m k:Nat}{za swa rea:List Nat}{P:A0o}(E:Enc G L lab pl w m k za swa rea P)(P':A0o)(hS:P'.S=P.S)(h1:P'.A0e=P.A0e)(h2:P'.sw=P.sw)(h3:P'.re=P.re):
  Enc G (L.set pl (.agg (P'.raw (.int (w:Nat)) (A0p za) (A0p swa) (A0p rea)).ds)) (A4h lab 0 L) pl w m k za swa rea P':=by
 obtain⟨f1,f2,f3⟩:=E.W.far E.A5r (by rw[A0c.len];decide) (by rw[A0c.len];decide) (by rw[A0c.len];decide)
 have F:Fr L (L.set pl (.agg (P'.raw (.int (w:Nat)) (A0p za) (A0p swa) (A0p rea)).ds)) (·=pl):=Fr.set L pl _ rfl
 refine E.base F ?_ (A3v (A2h E.A5r) _) (fun b _ hb=>by subst hb;exact E.l0.1) h1 h2 h3
 rw[hS]
 exact E.W.fr F (Ne.symm f1) (Ne.symm f2) (Ne.symm f3)
theorem C4n(l:List Int)(x:Int):l.map D.int++[.int x]=(l++[x]).map D.int:=by simp
end
section
structure A4p(P:A0o)(n:Nat):Prop where
 ok:A4c P n
 ev:P.events=n
 us:P.A0i.length=n
 sr:P.sw.length=P.re.length
 sl:P.A0e.length≤1000
 wl:P.sw.length≤1000
theorem B4l.put{L:List D}{lab:Nat→Nat}{n n' pl z:Nat}{x:A1e}(h:B4l L lab n pl z x){po:A0c}(hpl:L.getD pl D.nil=.agg po.ds)(x':A1e)(hse:x'.se=x.se)(hnow:x'.now=x.now):
  ∃(s:Nat) (now:D),L.getD z D.nil=.agg (x.raw (.int (s:Nat)) now).ds∧∀(po':A0c),B4l ((L.set z (.agg (x'.raw (.int (s:Nat)) now).ds)).set pl (.agg po'.ds)) (A4h lab n' L) n pl z x':=by
 obtain⟨s,a,q,now,h1,h2,h3,⟨l1,l2,l3,l4⟩,h4,h5⟩:=h
 refine⟨s,now,h1,fun po'=>?_⟩
 have hz:=A2h h1
 have hs:=A2h h2
 have zs:z≠s:=A3f h1 h2 (by rw[A0j.len,A0g.len];decide)
 have ps:pl≠s:=A3f hpl h2 (by rw[A0j.len,A0c.len];decide)
 have pz:pl≠z:=A3f hpl h1 (by rw[A0g.len,A0c.len];decide)
 have F:Fr L ((L.set z (.agg (x'.raw (.int (s:Nat)) now).ds)).set pl (.agg po'.ds)) (fun b=>b=z∨b=pl):=(Fr.set L z _ (.inl rfl)).trans (Fr.set _ pl _ (.inr rfl))
 refine⟨s,a,q,now,?_,?_,?_,⟨by rw[A2y F hz];exact l1,by rw[A2y F hs];exact l2,by rw[A2y F h4];exact l3,by rw[A2y F h5];exact l4⟩,Nat.lt_of_lt_of_le h4 F.1,Nat.lt_of_lt_of_le h5 F.1⟩
 ·rw[A3j pz];exact A3v hz _
 ·rw[A3j ps,A3j zs,hse];exact h2
 ·rw[hnow]
  cases hn:x.now with
  |none=>rw[hn]at h3;exact h3
  |some y=>
   obtain⟨pr,o⟩:=y
   rw[hn]at h3
   obtain⟨g1,ptr,g2,g3⟩:=h3
   have za:a≠z:=A3f g2 h1 (by rw[PrS.len,A0g.len];decide)
   have pa:a≠pl:=A3f g2 hpl (by rw[PrS.len,A0c.len];decide)
   refine⟨g1,ptr,F.get g2 (by simp only[za,pa,or_self,not_false_iff]),g3.ext fun P' hP'=>?_⟩
   subst hP'
   have qz:q≠z:=A3f g3.2 h1 (by rw[A0a.len,A0g.len];decide)
   have qp:q≠pl:=A3f g3.2 hpl (by rw[A0a.len,A0c.len];decide)
   exact F.2 q h5 (by simp only[qz,qp,or_self,not_false_iff])
theorem G6o{S:WS}(h:S.ok)(n:Int):(S.tick n).ok:=by
 have:=G4d (now:=S.now) (n:=n) (by have:=h.now;omega)
 exact⟨h.c,h.w,by show(B7b S.now n).toNat≤_;omega,h.len⟩
theorem B6s{P:A0o}{n:Nat}(h:A4c P n):A4c P.got n:=
 ⟨h.S,fun x hx=>(h.A0e x hx).mono rfl (by simp[A0o.got]) (Nat.le_refl _),h.sw,h.re,h.log,h.outs,h.lines,h.C9m⟩
theorem A4c.on{P:A0o}{n:Nat}(h:A4c P n):A4c P.on n:=⟨h.S,h.A0e,h.sw,h.re,h.log,h.outs,h.lines,h.C9m⟩
theorem C8j{P:A0o}{n:Nat}(h:A4p P n)(hn:n<100000000)(e:PEv)(hw:e.wf):A4p (doP P e).2 (n+1):=by
 obtain⟨ok,ev,us,sr,sl,wl⟩:=h
 have gu:P.got.A0i.length=n+1:=by simp[A0o.got,us]
 have gok:=B6s ok
 have fin0:A4p P.got.on (n+1):=⟨(gok.mono (Nat.le_succ n)).on,by show P.events+1=_;rw[ev];rfl,gu,sr,sl,wl⟩
 have hall:=A6z P.S.c ok.S.c
 have ses:∀(i:Nat) (x x':A1e) (P':A0o),P.A0e[i]?=some x→P'.S=P.S→P'.A0e=P.A0e.set i x'→P'.sw=P.sw→P'.re=P.re→P'.A0i=P.got.A0i→P'.outs=P.outs→P'.lines.length≤n+1→P'.events=P.events→
   B1p x' P.S (n+1) (n+1)→A4p P'.on (n+1):=by
  intro i x x' P' hx e1 e2 e3 e4 e5 e6 e7 e8 hx'
  refine⟨⟨by show P'.S.ok;rw[e1];exact ok.S,fun y hy=>?_,by show ∀x ∈ P'.sw,D8o x.1 P'.S.c∧_;rw[e1,e3];exact ok.sw,by show ∀x ∈ P'.re,B6v x P'.S.c;rw[e1,e4];exact ok.re,by show P'.S.log.length≤_;rw[e1];exact Nat.le_succ_of_le ok.log,by show P'.outs.length≤_;rw[e6];exact Nat.le_succ_of_le ok.outs,e7,by show ∀o ∈ P'.outs,_;rw[e6];exact ok.C9m⟩,by show P'.events+1=_;rw[e8,ev];rfl,by show P'.A0i.length=_;rw[e5];exact gu,by show P'.sw.length=P'.re.length;rw[e3,e4];exact sr,by show P'.A0e.length≤_;rw[e2];simpa using sl,by show P'.sw.length≤_;rw[e3];exact wl⟩
  show B1p y P'.S P'.A0i.length (n+1)
  rw[e1,e5,gu]
  have hy':y ∈ P.A0e.set i x':=by rw[←e2];exact hy
  rcases List.mem_or_eq_of_mem_set hy' with hy'|hy'
  ·exact(ok.A0e y hy').mono rfl (by omega) (Nat.le_succ n)
  ·subst hy';exact hx'
 unfold doP
 split
 ·refine⟨⟨G6o ok.S e.n,fun x hx=>?_,ok.sw,ok.re,Nat.le_succ_of_le ok.log,Nat.le_succ_of_le ok.outs,Nat.le_succ_of_le ok.lines,ok.C9m⟩,by show P.events+1=_;rw[ev];rfl,gu,sr,sl,wl⟩
  show B1p x _ P.got.A0i.length (n+1)
  rw[gu]
  exact(ok.A0e x hx).mono rfl (by omega) (Nat.le_succ n)
 split
 ·have kq:=D5b gok (by omega) e.who
  exact⟨kq.ok.on,by show(A3d P.got e.who).2.events+1=_;rw[kq.events];show P.events+1=_;rw[ev];rfl,by show(A3d P.got e.who).2.A0i.length=_;rw[kq.A0i];exact gu,by show(A3d P.got e.who).2.sw.length=(A3d P.got e.who).2.re.length;rw[kq.swl,kq.rel];exact sr,by show(A3d P.got e.who).2.A0e.length≤_;rw[kq.sl];exact sl,by show(A3d P.got e.who).2.sw.length≤_;rw[kq.swl];exact wl⟩
 split
 ·split
  ·split
   ·rename_i x hx
    have hs:=ok.A0e x (mem_of hx)
    refine ses _ x _ (D4z P.got e.who.toNat x e.ask) hx rfl rfl rfl rfl rfl rfl (by simp[D4z,A0o.got];exact ok.lines) rfl ⟨hs.C5w,hs.taken,fun d hd=>by have:=hs.tape d hd;omega,Nat.le_succ_of_le hs.C6j,fun q hq=>?_,by have:=hs.D9c;simp;exact this,hs.prog⟩
    rcases List.mem_append.1 hq with hq|hq
    ·exact hs.queue q hq
    ·rw[List.mem_singleton]at hq;subst hq;exact hw.2.2
   ·exact fin0
  ·split
   ·split
    ·rename_i x hx
     have hs:=ok.A0e x (mem_of hx)
     refine ses _ x _ (E2l P.got e.who.toNat x e.n) hx rfl rfl rfl rfl rfl rfl (Nat.le_succ_of_le ok.lines) rfl ⟨hs.C5w,⟨hs.taken.1,by have:=hs.taken.2;simp;omega⟩,fun d hd=>?_,by have:=hs.C6j;simp;exact this,hs.queue,Nat.le_succ_of_le hs.D9c,hs.prog⟩
     rcases List.mem_append.1 hd with hd|hd
     ·have:=hs.tape d hd;omega
     ·rw[List.mem_singleton]at hd;subst hd
      show 0≤P.events∧P.events<_
      omega
    ·exact fin0
   ·exact fin0
 ·exact fin0
section
variable{G:Nat→Option D}{L:List D}{lab:Nat→Nat}{pl w m k:Nat}{za swa rea:List Nat}{P:A0o}{n:Nat}(E:Enc G L lab pl w m k za swa rea P)(hP:A4p P n)(hn:n<100000000)
include E hP hn
theorem E9t(e:PEv)(hw:e.wf):∃L' lab',FX 28 [.int (pl:Nat),.int e.kind,.int e.who,.int e.n,.int e.ask.kind,.int e.ask.id,.int e.ask.cell,.int e.ask.tm.name,.int e.ask.tm.side,.int e.ask.tm.A0k,.int e.ask.tm.least,.int e.ask.tm.A1o,.int e.ask.qty,.agg L]=some [.bool (doP P e).1,.agg L']∧Enc G L' lab' pl w m k za swa rea (doP P e).2:=by
 obtain⟨ok,ev,us,sr,sl,wl⟩:=hP
 have hall:=A6z P.S.c ok.S.c
 have E0:=E.G0q P.got rfl rfl rfl rfl
 have gok:=B6s ok
 have gev:0≤P.got.events∧P.got.events<P.got.A0i.length:=by
  show 0≤P.events∧P.events<(P.got.A0i.length:Int)
  simp[A0o.got];omega
 obtain⟨po,hpo⟩:∃po,po=P.raw (.int (w:Nat)) (A0p za) (A0p swa) (A0p rea):=⟨_,rfl⟩
 have E_pool:=E.A5r
 rw[←hpo]at E_pool
 have g0:po.w=.int (w:Nat):=by rw[hpo];rfl
 have g1:po.A0e=A0p za:=by rw[hpo];rfl
 have g4:po.events=P.events:=by rw[hpo];rfl
 have g6:po.A0i=P.A0i:=by rw[hpo];rfl
 have gF:({po with A0i:=po.A0i++[-1]}:A0c)=P.got.raw (.int (w:Nat)) (A0p za) (A0p swa) (A0p rea):=by rw[hpo];rfl
 have el:(A0p za).length=P.A0e.length:=by rw[←E.zl];simp[A0p]
 have hu1:(((po.A0i++[-1]).map D.int).length:Int)≤17592186044416:=by rw[g6];simp;omega
 have hwr:IntKind.i64.wrap (po.events+1)=po.events+1:=by rw[g4];exact A1a _ (by omega) (by omega)
 have fin0:∃L' lab',some [D.bool false,D.agg (L.set pl (.agg (A0c.ds {P.got.raw (.int (w:Nat)) (A0p za) (A0p swa) (A0p rea)with events:=po.events+1})))]=some [.bool false,.agg L']∧Enc G L' lab' pl w m k za swa rea P.got.on:=by
  rw[g4]
  exact⟨_,_,rfl,E.G0q P.got.on rfl rfl rfl rfl⟩
 have dn:¬e.kind=2→¬e.kind=3→(¬(0≤e.who∧e.who<P.A0e.length)∨(¬e.kind=1∧¬e.kind=4))→doP P e=(false,P.got.on):=by
  intro h2 h3 h
  unfold doP
  rw[if_neg h2,if_neg h3]
  rcases h with h|h
  ·rw[if_neg h]
  ·split
   ·rw[if_neg h.1,if_neg h.2]
   ·rfl
 rw[D9i]
 simp only[HH,E_pool,A0c.A4q,C4n,hu1,decide_true]
 rw[C6k]
 simp only[HH,E_pool,A0c.A1l,A0c.A1j,A0c.A1w,A0c.A4q,C4n,A0c.rng,A0c.B7f,gF,A0c.A9t,hwr]
 simp only[g0,g1,el]
 by_cases k2:e.kind=2
 ·have j1:(e.kind == 1)=false:=beq_eq_false_iff_ne.2 (by omega)
  have j2:(e.kind == 2)=true:=beq_iff_eq.2 k2
  have hd:doP P e=(decide (((P.S.tick e.n).now:Int)>(P.S.now:Int)),(D0j P.got e.n).on):=if_pos k2
  rw[hd]
  obtain⟨L1,n1,W1,F1⟩:=go_eq E0.W ok.S e.n hw.2.1
  have n0:=B6x E0.W ok.S
  obtain⟨f1,f2,f3⟩:=E0.W.far E0.A5r (by rw[A0c.len];decide) (by rw[A0c.len];decide) (by rw[A0c.len];decide)
  have E1:Enc G L1 _ pl w m k za swa rea (D0j P.got e.n):=E0.base F1 W1 (F1.get E0.A5r f3) (fun b _ hb=>by subst hb;exact E0.l0.2.2.2) rfl rfl rfl
  have E2:=E1.G0q (D0j P.got e.n).on rfl rfl rfl rfl
  have hsnow:P.got.S.now=P.S.now:=rfl
  have hb:(decide ((wN (P.got.S.tick e.n).now).toInt>(wN P.got.S.now).toInt))=decide (((P.S.tick e.n).now:Int)>(P.S.now:Int)):=rfl
  have hw1:IntKind.i64.wrap (((D0j P.got e.n).raw (.int (w:Nat)) (A0p za) (A0p swa) (A0p rea)).events+1)=(D0j P.got e.n).events+1:=by
   show IntKind.i64.wrap (P.events+1)=P.events+1
   exact A1a _ (by omega) (by omega)
  by_cases cw:e.who≥0
  ·simp only[cw,decide_true,if_true,j1,j2,Bool.false_eq_true,if_false,E0.W.w,D.A0f,A0h.A5t,n0,A0q,List.length_cons,List.length_nil,n1,List.getD_cons_zero,List.getD_cons_succ,C7k,HH,E1.A5r,A0c.A1w,A0c.rng,A0c.A9t,hw1,hsnow]
   exact⟨_,_,rfl,E2⟩
  ·simp only[cw,decide_false,j1,j2,Bool.false_eq_true,if_false,if_true,E0.W.w,D.A0f,A0h.A5t,n0,A0q,List.length_cons,List.length_nil,n1,List.getD_cons_zero,List.getD_cons_succ,C7x,HH,E1.A5r,A0c.A1w,A0c.rng,A0c.A9t,hw1,hsnow]
   exact⟨_,_,rfl,E2⟩
 have j2:(e.kind == 2)=false:=beq_eq_false_iff_ne.2 k2
 by_cases k3:e.kind=3
 ·have j1:(e.kind == 1)=false:=beq_eq_false_iff_ne.2 (by omega)
  have j3:(e.kind == 3)=true:=beq_iff_eq.2 k3
  have hd:doP P e=((A3d P.got e.who).1,(A3d P.got e.who).2.on):=by unfold doP;rw[if_neg k2,if_pos k3]
  rw[hd]
  obtain⟨L1,lab1,n1,E1⟩:=G7x E0 gok (by omega) gev sr ⟨sl,wl⟩ e.who hw.1
  have kq:=D5b gok (by omega) e.who
  have hev:(A3d P.got e.who).2.events=P.events:=kq.events
  have E2:=E1.G0q (A3d P.got e.who).2.on rfl rfl rfl rfl
  have hw1:IntKind.i64.wrap (((A3d P.got e.who).2.raw (.int (w:Nat)) (A0p za) (A0p swa) (A0p rea)).events+1)=(A3d P.got e.who).2.events+1:=by
   show IntKind.i64.wrap ((A3d P.got e.who).2.events+1)=_
   rw[hev]
   exact A1a _ (by omega) (by omega)
  by_cases cw:e.who≥0
  ·simp only[cw,decide_true,if_true,j1,j2,j3,Bool.false_eq_true,if_false,n1,A0q,List.length_cons,List.length_nil,List.getD_cons_zero,List.getD_cons_succ,HH,E1.A5r,A0c.A1w,A0c.rng,A0c.A9t,hw1]
   exact⟨_,_,rfl,E2⟩
  ·simp only[cw,decide_false,if_true,j1,j2,j3,Bool.false_eq_true,if_false,n1,A0q,List.length_cons,List.length_nil,List.getD_cons_zero,List.getD_cons_succ,HH,E1.A5r,A0c.A1w,A0c.rng,A0c.A9t,hw1]
   exact⟨_,_,rfl,E2⟩
 have j3:(e.kind == 3)=false:=beq_eq_false_iff_ne.2 k3
 by_cases cw:e.who≥0
 ·simp only[cw,decide_true,if_true,j2,j3,Bool.false_eq_true,if_false]
  by_cases ci:e.who<P.A0e.length
  ·have hin:0≤e.who∧e.who<P.A0e.length:=⟨cw,ci⟩
   have hlt:e.who.toNat<P.A0e.length:=by omega
   obtain⟨x,hx⟩:∃x,P.A0e[e.who.toNat]?=some x:=⟨_,List.getElem?_eq_getElem hlt⟩
   obtain⟨z,hz⟩:∃z,za[e.who.toNat]?=some z:=⟨_,List.getElem?_eq_getElem (by rw[E.zl];exact hlt)⟩
   have hsx:=ok.A0e x (mem_of hx)
   have zg:=C7t hz
   have zgp:po.A0e.getD e.who.toNat D.nil=.int (z:Nat):=by rw[g1];exact zg
   have si:=E0.ss e.who.toNat x z hx hz
   obtain⟨z1,z2,z3,z4⟩:=E0.l0
   obtain⟨f1,f2,f3⟩:=E0.W.far E0.A5r (by rw[A0c.len];decide) (by rw[A0c.len];decide) (by rw[A0c.len];decide)
   have hlz:A4h lab 0 L z=4*e.who.toNat+1:=by obtain⟨_,_,_,_,_,_,_,hl,_⟩:=si;exact hl.1
   have fin:∀(x':A1e) (P':A0o),x'.se=x.se→x'.now=x.now→P'.S=P.S→P'.A0e=P.A0e.set e.who.toNat x'→P'.sw=P.sw→P'.re=P.re→
     ∃(s:Nat) (now:D),(L.set pl (.agg (P.got.raw (.int (w:Nat)) (A0p za) (A0p swa) (A0p rea)).ds)).getD z D.nil=.agg (x.raw (.int (s:Nat)) now).ds∧
     (((L.set pl (.agg (P.got.raw (.int (w:Nat)) (A0p za) (A0p swa) (A0p rea)).ds)).set z (.agg (x'.raw (.int (s:Nat)) now).ds)).getD pl D.nil=.agg (P.got.raw (.int (w:Nat)) (A0p za) (A0p swa) (A0p rea)).ds)∧
     ∃lab',Enc G (((L.set pl (.agg (P.got.raw (.int (w:Nat)) (A0p za) (A0p swa) (A0p rea)).ds)).set z (.agg (x'.raw (.int (s:Nat)) now).ds)).set pl (.agg (P'.raw (.int (w:Nat)) (A0p za) (A0p swa) (A0p rea)).ds)) lab' pl w m k za swa rea P':=by
    intro x' P' hse hnow hS h1 h2 h3
    obtain⟨s,now,q1,q2⟩:=si.put (n':=4*e.who.toNat+1) E0.A5r x' hse hnow
    have pz:pl≠z:=A3f E0.A5r q1 (by rw[A0g.len,A0c.len];decide)
    obtain⟨d1,d2,d3⟩:=E0.W.far q1 (by rw[A0g.len];decide) (by rw[A0g.len];decide) (by rw[A0g.len];decide)
    refine⟨s,now,q1,by rw[A3j (Ne.symm pz)];exact E0.A5r,?_⟩
    have F:Fr (L.set pl (.agg (P.got.raw (.int (w:Nat)) (A0p za) (A0p swa) (A0p rea)).ds)) (((L.set pl (.agg (P.got.raw (.int (w:Nat)) (A0p za) (A0p swa) (A0p rea)).ds)).set z (.agg (x'.raw (.int (s:Nat)) now).ds)).set pl (.agg (P'.raw (.int (w:Nat)) (A0p za) (A0p swa) (A0p rea)).ds)) (fun b=>b=z∨b=pl):=(Fr.set _ z _ (.inl rfl)).trans (Fr.set _ pl _ (.inr rfl))
    refine⟨_,E0.A0e F ?_ (A3v (by simp;exact A2h E.A5r) _) (fun b _ hb=>?_) hz (q2 _) h1 h2 h3⟩
    ·rw[hS]
     exact E0.W.fr F (by simp only[Ne.symm d1,Ne.symm f1,or_self,not_false_iff]) (by simp only[Ne.symm d2,Ne.symm f2,or_self,not_false_iff]) (by simp only[Ne.symm d3,Ne.symm f3,or_self,not_false_iff])
    ·rcases hb with hb|hb
     ·subst hb;exact .inl hlz
     ·subst hb;exact .inr z1
   by_cases k1:e.kind=1
   ·have j1:(e.kind == 1)=true:=beq_iff_eq.2 k1
    have hd:doP P e=(true,(D4z P.got e.who.toNat x e.ask).on):=by unfold doP;rw[if_neg k2,if_neg k3,if_pos hin,if_pos k1,hx]
    rw[hd]
    obtain⟨s,now,q1,q2,lab',E1⟩:=fin {x with queue:=x.queue++[⟨e.ask,P.events⟩]} (D4z P.got e.who.toNat x e.ask).on rfl rfl rfl rfl rfl rfl
    have y1:(x.raw (.int (s:Nat)) now).queue=x.queue:=rfl
    have y2:(x.raw (.int (s:Nat)) now).queue.map Qe.d++[D.agg [.int e.ask.kind,.int e.ask.id,.int e.ask.cell,.int e.ask.tm.name,.int e.ask.tm.side,.int e.ask.tm.A0k,.int e.ask.tm.least,.int e.ask.tm.A1o,.int e.ask.qty,.int po.events]]=(x.queue++[(⟨e.ask,P.events⟩:Qe)]).map Qe.d:=by rw[List.map_append,g4];rfl
    have y3:(((x.queue++[(⟨e.ask,P.events⟩:Qe)]).map Qe.d).length:Int)≤1759218604441:=by have:=hsx.D9c;simp;omega
    have y4:({x.raw (.int (s:Nat)) now with queue:=x.queue++[⟨e.ask,P.events⟩]}:A0g)=({x with queue:=x.queue++[⟨e.ask,P.events⟩]}:A1e).raw (.int (s:Nat)) now:=rfl
    have y5:(((P.got.raw (.int (w:Nat)) (A0p za) (A0p swa) (A0p rea)).lines++[(P.got.raw (.int (w:Nat)) (A0p za) (A0p swa) (A0p rea)).events]).map D.int).length≤1000000000:=by
     have:=ok.lines
     show((P.lines++[P.events]).map D.int).length≤_
     simp;omega
    have y6:((((P.got.raw (.int (w:Nat)) (A0p za) (A0p swa) (A0p rea)).lines++[(P.got.raw (.int (w:Nat)) (A0p za) (A0p swa) (A0p rea)).events]).map D.int).length:Int)≤17592186044416:=by omega
    have hwg:IntKind.i64.wrap ((P.got.raw (.int (w:Nat)) (A0p za) (A0p swa) (A0p rea)).events+1)=P.events+1:=A1a _ (by show _≤P.events+1;omega) (by show P.events+1≤_;omega)
    have hn1:((1:Int) == 1)=true:=rfl
    simp only[j1,if_true,cw,ci,decide_true,Bool.not_true,Bool.false_eq_true,if_false,zg,A6d,Bool.not_false,D.toInt_int,Int.toNat_natCast,q1,D.A0f,A0g.A1j,y2,y3,A0g.rng,A0g.B2t,y4,q2,A0c.A1w,A0c.A7r,C4n,y6]
    rw[C7i]
    simp only[HH,E_pool,A0c.A1j,A0c.A1w,A0c.A4q,A0c.A7r,C4n,A0c.rng,A0c.B7f,gF,zgp,q1,A0g.A1j,y2,A0g.rng,A0g.B2t,y4,q2,A0c.C8p,hwg,A0c.A9t]
    exact⟨_,_,rfl,E1⟩
   have j1:(e.kind == 1)=false:=beq_eq_false_iff_ne.2 k1
   by_cases k4:e.kind=4
   ·have j4:(e.kind == 4)=true:=beq_iff_eq.2 k4
    have hd:doP P e=(true,(E2l P.got e.who.toNat x e.n).on):=by unfold doP;rw[if_neg k2,if_neg k3,if_pos hin,if_neg k1,if_pos k4,hx]
    rw[hd]
    obtain⟨s,now,q1,q2,lab',E1⟩:=fin {x with tape:=x.tape++[⟨B3l e.n (A0s P.S.c),P.events⟩]} (E2l P.got e.who.toNat x e.n).on rfl rfl rfl rfl rfl rfl
    have nA:=F8e ok.S
    have nP:=H1v e.n (A0s P.S.c) hw.2.1 (by omega)
    have y2:(x.raw (.int (s:Nat)) now).tape.map Dr.d++[D.agg [.int (B3l e.n (A0s P.S.c)),.int po.events]]=(x.tape++[(⟨B3l e.n (A0s P.S.c),P.events⟩:Dr)]).map Dr.d:=by rw[List.map_append,g4];rfl
    have y3:(((x.tape++[(⟨B3l e.n (A0s P.S.c),P.events⟩:Dr)]).map Dr.d).length:Int)≤8796093022208:=by have:=hsx.C6j;simp;omega
    have y4:({x.raw (.int (s:Nat)) now with tape:=x.tape++[⟨B3l e.n (A0s P.S.c),P.events⟩]}:A0g)=({x with tape:=x.tape++[⟨B3l e.n (A0s P.S.c),P.events⟩]}:A1e).raw (.int (s:Nat)) now:=rfl
    have hwg:IntKind.i64.wrap ((P.got.raw (.int (w:Nat)) (A0p za) (A0p swa) (A0p rea)).events+1)=P.events+1:=A1a _ (by show _≤P.events+1;omega) (by show P.events+1≤_;omega)
    have gc:P.got.S.c=P.S.c:=rfl
    simp only[j1,j4,if_true,cw,ci,decide_true,Bool.not_true,Bool.false_eq_true,if_false,zg,A6d,Bool.not_false,D.toInt_int,Int.toNat_natCast,E0.W.w,D.A0f,A0h.all,gc,nA,A0q,List.length_cons,List.length_nil,List.getD_cons_zero,nP,q1,A0g.A1w,y2,y3,A0g.rng,A0g.A9t,y4,q2,A0c.A1w,A0c.rng,hwg,A0c.A9t]
    exact⟨_,_,rfl,E1⟩
   ·have j4:(e.kind == 4)=false:=beq_eq_false_iff_ne.2 k4
    rw[dn k2 k3 (.inr ⟨k1,k4⟩)]
    simp only[j1,j4,A6d,Bool.not_false,if_true,Bool.false_eq_true,if_false]
    exact fin0
  ·rw[dn k2 k3 (.inl (by omega))]
   simp only[ci,decide_false,Bool.not_false,if_true,A6d,D0h]
   exact fin0
 ·rw[dn k2 k3 (.inl (by omega))]
  simp only[cw,decide_false,Bool.false_eq_true,if_false,j2,j3,A6d,Bool.not_false,if_true,D0h]
  exact fin0
end
end
section
def A5y(P:A0o)(es:List PEv):A0o:=es.foldl (fun P e=>(doP P e).2) P
theorem E5f{es:List PEv}{j:Nat}(h:j<es.length):(es.map PEv.d).getD j D.nil=.agg (es[j]).ds:=by
 rw[List.getD_eq_getElem?_getD,List.getElem?_map,List.getElem?_eq_getElem h];rfl
theorem PEv.G6z(e:PEv):e.ds.getD 0 D.nil=.int e.kind∧e.ds.getD 1 D.nil=.int e.who∧e.ds.getD 2 D.nil=.int e.n∧e.ds.getD 3 D.nil=.int e.ask.kind∧e.ds.getD 4 D.nil=.int e.ask.id∧e.ds.getD 5 D.nil=.int e.ask.cell∧e.ds.getD 6 D.nil=.int e.ask.tm.name∧e.ds.getD 7 D.nil=.int e.ask.tm.side∧e.ds.getD 8 D.nil=.int e.ask.tm.A0k∧e.ds.getD 9 D.nil=.int e.ask.tm.least∧e.ds.getD 10 D.nil=.int e.ask.tm.A1o∧e.ds.getD 11 D.nil=.int e.ask.qty:=
 ⟨rfl,rfl,rfl,rfl,rfl,rfl,rfl,rfl,rfl,rfl,rfl,rfl⟩
theorem F3u{G:Nat→Option D}{pl w m k:Nat}{za swa rea:List Nat}(es:List PEv)(hes:es.length≤100000)(hw:∀e ∈ es,e.wf)(x2:D):∀(d j n:Nat) (L:List D) (lab:Nat→Nat) (P:A0o),j+d=es.length→Enc G L lab pl w m k za swa rea P→A4p P n→n+d≤1000000→
  ∃L' lab',A8r (.int (pl:Nat)) (.agg (es.map PEv.d)) x2 [.int (j:Nat),.agg L]=some [.agg L']∧Enc G L' lab' pl w m k za swa rea (A5y P (es.drop j))∧A4p (A5y P (es.drop j)) (n+d)
 |0,j,n,L,lab,P,h,E,hP,hn=>by
  have h1:¬(j:Int)<((es.map PEv.d).length:Int):=by simp;omega
  rw[B4o,List.drop_eq_nil_of_le (by omega)]
  simp only[D.toInt_int,D.A0f,h1,decide_false,Bool.false_eq_true,if_false]
  exact⟨L,lab,rfl,E,hP⟩
 |d+1,j,n,L,lab,P,h,E,hP,hn=>by
  have hj:j<es.length:=by omega
  have h1:(j:Int)<((es.map PEv.d).length:Int):=by simp;omega
  have h2:(j:Int)≥0:=by omega
  have hwj:=hw es[j] (List.getElem_mem hj)
  obtain⟨L1,lab1,n1,E1⟩:=E9t E hP (by omega) es[j] hwj
  have P1:=C8j hP (by omega) es[j] hwj
  obtain⟨L2,lab2,n2,E2,P2⟩:=F3u es hes hw x2 d (j+1) (n+1) L1 lab1 _ (by omega) E1 P1 (by omega)
  obtain⟨g0,g1,g2,g3,g4,g5,g6,g7,g8,g9,g10,g11⟩:=PEv.G6z es[j]
  have e1:n+1+d=n+(d+1):=by omega
  rw[B4o,List.drop_eq_getElem_cons hj]
  simp only[D.toInt_int,D.A0f,h1,h2,decide_true,if_true,Int.toNat_natCast,E5f hj,g0,g1,g2,g3,g4,g5,g6,g7,g8,g9,g10,g11,n1,A0q,List.length_cons,List.length_nil,List.getD_cons_zero,List.getD_cons_succ]
  rw[A1a _ (by omega) (by omega)]
  rw[e1]at P2
  exact⟨L2,lab2,n2,E2,P2⟩
theorem run_eq{G:Nat→Option D}{L:List D}{lab:Nat→Nat}{pl w m k:Nat}{za swa rea:List Nat}{P:A0o}{n:Nat}(E:Enc G L lab pl w m k za swa rea P)(hP:A4p P n)(es:List PEv)(hw:∀e ∈ es,e.wf)(hn:n+es.length≤100000):
  ∃L' lab',FX 19 [.int (pl:Nat),.agg (es.map PEv.d),.agg L]=some [.agg L']∧Enc G L' lab' pl w m k za swa rea (A5y P es)∧A4p (A5y P es) (n+es.length):=by
 rw[D6a]
 exact F3u es (by omega) hw _ es.length 0 n L lab P (by omega) E hP (by omega)
def A6t(i:Int)(j:Nat):A0j:=⟨i,0,List.replicate j 0,List.replicate j 0,List.replicate j ⟨1,0⟩⟩
def A4e(c:Cf)(i:Int):A1e:=⟨A6t i c.c1.toNat,[],none,-1,[],0⟩
def A8p(c:Cf):Int:=A0s c*2+A0s c*c.c6*(c.c5+1)
def B6u(c:Cf):WS:=⟨c,List.replicate (A8p c).toNat 0,0,[]⟩
def B7l(i:Int):SwS × Option A0a:=(⟨i,0,0,.nil⟩,none)
def C1m(i:Int):ReS:=⟨i,0,0,0,.zero,.zero,false,0⟩
def A1q(c:Cf):A0o:=⟨B6u c,(List.range c.c0.toNat).map fun(i:Nat)=>A4e c i,(List.range (A6h c).toNat).map fun(i:Nat)=>B7l i,(List.range (A6h c).toNat).map fun(i:Nat)=>C1m i,0,[],[],[]⟩
theorem G8g(L:List D)(x y:D):(L++[x]).set L.length y=L++[y]:=by simp
section
variable(c:Cf)(hc:c.ok)
include hc
theorem E1r(i:Int)(L:List D):∀(d j:Nat),(j+d:Int)=c.c1→
  B6q (.int c.c0) (.int c.c1) (.int c.c2) (.int c.c3) (.int c.c4) (.int c.c5) (.int c.c6) (.int i) (.agg L) [.int (j:Nat),.agg (L++[.agg (A6t i j).ds])]=some [.int (L.length:Nat),.agg (L++[.agg (A6t i c.c1.toNat).ds])]
 |0,j,h=>by
  have h1:¬(j:Int)<c.c1:=by omega
  have h2:c.c1.toNat=j:=by omega
  rw[C4w,h2]
  simp only[D.toInt_int,D.A0f,h1,decide_false,Bool.false_eq_true,if_false]
 |d+1,j,h=>by
  have hc1:=hc.2.1
  have h1:(j:Int)<c.c1:=by omega
  have ih:=E1r i L d (j+1) (by omega)
  have e1:(List.replicate j (0:Int)).map D.int++[D.int 0]=(List.replicate (j+1) (0:Int)).map D.int:=by simp[List.replicate_succ']
  have e2:(List.replicate j (⟨1,0⟩:Cur)).map Cur.d++[D.agg [.int 1,.int 0]]=(List.replicate (j+1) (⟨1,0⟩:Cur)).map Cur.d:=by simp[List.replicate_succ',Cur.d,Cur.ds]
  have l1:(((List.replicate (j+1) (0:Int)).map D.int).length:Int)≤17592186044416:=by simp;omega
  have l2:(((List.replicate (j+1) (⟨1,0⟩:Cur)).map Cur.d).length:Int)≤8796093022208:=by simp;omega
  have g2:(A6t i j).ids=List.replicate j 0:=rfl
  have g3:(A6t i j).A6k=List.replicate j 0:=rfl
  have g4:(A6t i j).A7i=List.replicate j ⟨1,0⟩:=rfl
  rw[C4w]
  simp only[D.toInt_int,D.A0f,h1,decide_true,if_true,Int.toNat_natCast,A6i,A0j.A1v,A0j.A2b,A0j.A1w,g2,g3,g4,e1,l1,E4e,A0q,List.length_cons,List.length_nil,List.getD_cons_zero,List.getD_cons_succ,e2,l2,E2p]
  rw[A1a _ (by omega) (by omega)]
  have hs:(((List.range 5).map fun j'=>(((List.range 5).map fun j'=>(((List.range 5).map fun j'=>(A6t i j).ds.getD j' D.nil).set 2 (.agg ((List.replicate (j+1) (0:Int)).map D.int))).getD j' D.nil).set 3 (.agg ((List.replicate (j+1) (0:Int)).map D.int))).getD j' D.nil).set 4 (.agg ((List.replicate (j+1) (⟨1,0⟩:Cur)).map Cur.d)))=(A6t i (j+1)).ds:=rfl
  rw[hs,G8g]
  exact ih
theorem G6l(i:Int)(L:List D):FX 24 [.int c.c0,.int c.c1,.int c.c2,.int c.c3,.int c.c4,.int c.c5,.int c.c6,.int i,.agg L]=some [.int (L.length:Nat),.agg (L++[.agg (A6t i c.c1.toNat).ds])]:=by
 have hc1:=hc.2.1
 rw[F9c]
 exact E1r c hc i L c.c1.toNat 0 (by omega)
theorem E5d:0≤A8p c∧A8p c≤8192∧0≤A0s c*c.c6∧A0s c*c.c6≤360∧0≤A0s c*c.c6*(c.c5+1)∧A0s c*c.c6*(c.c5+1)≤1800:=by
 have hal:=A6z c hc
 have hf:=A8z hc
 have hg:=C3p hc
 have b1:0≤A0s c*c.c6:=Int.mul_nonneg (by omega) (by omega)
 have b2:A0s c*c.c6≤24*15:=Int.mul_le_mul (by omega) (by omega) (by omega) (by omega)
 have b3:0≤A0s c*c.c6*(c.c5+1):=Int.mul_nonneg b1 (by omega)
 have b4:A0s c*c.c6*(c.c5+1)≤360*5:=Int.mul_le_mul b2 (by omega) (by omega) (by omega)
 unfold A8p
 omega
theorem G6v:FX 37 [.int c.c0,.int c.c1,.int c.c2,.int c.c3,.int c.c4,.int c.c5,.int c.c6]=some [.int (A8p c)]:=by
 have hal:=A6z c hc
 have hf:=A8z hc
 obtain⟨w1,w2,w3,w4,w5,w6⟩:=E5d c hc
 have ha:FX 44 [.int c.c0,.int c.c1,.int c.c2,.int c.c3,.int c.c4,.int c.c5,.int c.c6]=some [.int (A0s c)]:=all_eq c hc
 rw[D1l]
 simp only[ha,A0q,List.length_cons,List.length_nil,List.getD_cons_zero,D.toInt_int]
 rw[A1a (A0s c*2) (by omega) (by omega),A1a (A0s c*c.c6) (by omega) (by omega),A1a (c.c5+1) (by omega) (by omega),A1a (A0s c*c.c6*(c.c5+1)) (by omega) (by omega),A1a _ (by unfold A8p at w1;omega) (by unfold A8p at w2;omega)]
 rfl
theorem E3w:FX 22 [.int c.c0,.int c.c1,.int c.c2,.int c.c3,.int c.c4,.int c.c5,.int c.c6]=some [.int c.c0,.int c.c1,.int c.c2,.int c.c3,.int c.c4,.int c.c5,.int c.c6,.nil]:=by
 have h:=RU.D2s c
 rw[(RU.C0m c).2 hc]at h
 exact h
theorem H1w(L:List D):∃L',FX 23 [.int c.c0,.int c.c1,.int c.c2,.int c.c3,.int c.c4,.int c.c5,.int c.c6,.agg L]=some [.int (L.length+2:Nat),.nil,.agg L']∧L'.length=L.length+3∧InW L' (L.length+2) L.length (L.length+1) (B6u c)∧Fr L L' (fun _=>False):=by
 obtain⟨w1,w2,_⟩:=E5d c hc
 have h1:=E3w c hc
 have h2:=G6v c hc
 have c1:¬A8p c<0:=by omega
 have c2:¬A8p c>8192:=by omega
 have c3:A8p c≥0:=w1
 have c4:A8p c≤17592186044416:=by omega
 obtain⟨M,hM⟩:∃M:A1c,M=⟨List.replicate (A8p c).toNat 0,.int 0,.int 0,.int 0,.int 0,.int 0,.bool false⟩:=⟨_,rfl⟩
 have hmd:D.agg [D.agg (List.replicate (A8p c).toNat (D.int 0)),.int 0,.int 0,.int 0,.int 0,.int 0,.bool false]=D.agg M.ds:=by
  rw[hM]
  unfold A1c.ds
  rw[List.map_replicate];rfl
 refine⟨((L++[.agg M.ds])++[.agg [.int 0]])++[.agg (A0h.ds ⟨c,.int (L.length:Nat),.int (L.length+1:Nat),[]⟩)],?_,by simp,?_,((Fr.snoc L _ _).trans (Fr.snoc _ _ _)).trans (Fr.snoc _ _ _)⟩
 ·rw[F9n,h1]
  simp only[A0q,List.length_cons,List.length_nil,List.getD_cons_zero,List.getD_cons_succ,B5i,Bool.not_true,Bool.false_eq_true,if_false,h2,G3j,D.toInt_int,D.A0f,c1,c2,c3,c4,decide_false,decide_true,if_true,hmd,List.length_append]
  rfl
 ·have hcl:∀{x y:D} {a:Nat},a<L.length+2→((L++[x])++[y]++[D.agg (A0h.ds ⟨c,.int (L.length:Nat),.int (L.length+1:Nat),[]⟩)]).getD a D.nil=((L++[x])++[y]).getD a D.nil:=fun h=>C7s (by simp;omega) _
  refine⟨?_,⟨M,?_,by rw[hM];rfl⟩,?_⟩
  ·have:=A6i ((L++[D.agg M.ds])++[D.agg [.int 0]]) (.agg (A0h.ds ⟨c,.int (L.length:Nat),.int (L.length+1:Nat),[]⟩))
   have e:((L++[D.agg M.ds])++[D.agg [.int 0]]).length=L.length+2:=by simp
   rw[e]at this
   exact this
  ·rw[hcl (a:=L.length) (by omega),C7s (by simp)]
   exact A6i L _
  ·rw[hcl (a:=L.length+1) (by omega)]
   have:=A6i (L++[D.agg M.ds]) (D.agg [.int 0])
   have e:(L++[D.agg M.ds]).length=L.length+1:=by simp
   rw[e]at this
   exact this
end
end
theorem F7x:∀{ws:List Nat} {vs:List Int} {k:Nat},vs.length=ws.length→Go.Proofs.YtglhnofjggpdjaaGreat.A1f ws vs k=none→Fits ws (vs.map Int.toNat)∧∀v ∈ vs,0≤v
 |[],[],_,_,_=>⟨trivial,fun v hv=>by cases hv⟩
 |w::ws,v::vs,k,hl,h=>by
  unfold Go.Proofs.YtglhnofjggpdjaaGreat.A1f at h
  split at h
  ·cases h
  ·rename_i hc
   obtain⟨h1,h2⟩:=F7x (by simpa using hl) h
   have h4:0<2 ^ w:=Nat.two_pow_pos w
   have h3:0≤v∧v≤((2 ^ w-1:Nat):Int):=by omega
   refine⟨⟨?_,h1⟩,fun u hu=>?_⟩
   ·omega
   ·rcases List.mem_cons.1 hu with rfl|hu
    ·exact h3.1
    ·exact h2 u hu
theorem F7j:∀{ws:List Nat} {vs:List Int} {k:Nat},(∀i (h:i<vs.length),0≤vs[i]∧vs[i]<((2 ^ ws.getD i 0:Nat):Int))→Go.Proofs.YtglhnofjggpdjaaGreat.A1f ws vs k=none
 |[],_,_,_=>by unfold Go.Proofs.YtglhnofjggpdjaaGreat.A1f;rfl
 |w::ws,[],_,_=>rfl
 |w::ws,v::vs,k,h=>by
  unfold Go.Proofs.YtglhnofjggpdjaaGreat.A1f
  have h0:=h 0 (by simp)
  have h4:0<2 ^ w:=Nat.two_pow_pos w
  simp only[List.getElem_cons_zero,List.getD_cons_zero]at h0
  rw[if_neg (by omega)]
  exact F7j fun i hi=>by have:=h (i+1) (by simpa using hi);simpa using this
theorem E3a{ws:List Nat}{vs:List Int}{x:Nat}(h:B4w ws vs=some x)(hl:vs.length=ws.length)(i:Nat)(hi:i<vs.length):A4x ws x (i:Int)=vs[i]:=by
 unfold B4w A6m at h
 rw[if_neg (by omega)]at h
 cases hb:Go.Proofs.YtglhnofjggpdjaaGreat.A1f ws vs 0 with
 |some k=>rw[hb]at h;simp at h
 |none=>
  rw[hb]at h
  simp only[if_true,Option.some.injEq,Int.toNat_natCast]at h
  obtain⟨h1,h2⟩:=F7x hl hb
  subst h
  unfold A4x
  rw[if_neg (by omega),Int.toNat_natCast,D6y _ _ _ (by omega)]
  simp only[D6h h1,List.getElem_map]
  have:=h2 _ (List.getElem_mem hi)
  omega
theorem B4h{s:St}{x:Nat}(h:stW s=some x):A0l x=s:=by
 unfold stW at h
 split at h
 ·cases h
 ·have k:=E3a h rfl
  obtain⟨a,f,g,l,n⟩:=s
  have e:(St.vs ⟨a,f,g,l,n⟩).length=5:=rfl
  have h0:A4x cws x 0=a:=k 0 (by rw[e];decide)
  have h1:A4x cws x 1=fl f:=k 1 (by rw[e];decide)
  have h2:A4x cws x 2=g:=k 2 (by rw[e];decide)
  have h3:A4x cws x 3=l:=k 3 (by rw[e];decide)
  have h4:A4x cws x 4=n:=k 4 (by rw[e];decide)
  unfold A0l
  rw[h0,h1,h2,h3,h4]
  cases f<;>rfl
theorem H3b{t:Tm}{x:Nat}(h:tmW t=some x):B5e x=t:=by
 have k:=E3a h rfl
 obtain⟨a,f,g,l,n⟩:=t
 have e:(Tm.vs ⟨a,f,g,l,n⟩).length=5:=rfl
 have h0:A4x tws x 0=a:=k 0 (by rw[e];decide)
 have h1:A4x tws x 1=f:=k 1 (by rw[e];decide)
 have h2:A4x tws x 2=g:=k 2 (by rw[e];decide)
 have h3:A4x tws x 3=l:=k 3 (by rw[e];decide)
 have h4:A4x tws x 4=n:=k 4 (by rw[e];decide)
 unfold B5e
 rw[h0,h1,h2,h3,h4]
theorem E0w{ws:List Nat}{vs:List Int}(hl:vs.length=ws.length)(h:∀i (h:i<vs.length),0≤vs[i]∧vs[i]<((2 ^ ws.getD i 0:Nat):Int)):∃x,B4w ws vs=some x:=by
 unfold B4w A6m
 rw[if_neg (by omega),F7j h]
 exact⟨_,rfl⟩
theorem F6j{g q:Int}(hg:0≤g∧g<256)(hq:0≤q∧q<65536):∃x,stW ⟨1,false,g,q,0⟩=some x:=by
 unfold stW
 rw[if_neg (show ¬(1:Int)>8 by decide)]
 refine E0w rfl fun i hi=>?_
 match i,hi with
 |0,_=>exact⟨show(0:Int)≤1 by decide,show(1:Int)<16 by decide⟩
 |1,_=>exact⟨show(0:Int)≤0 by decide,show(0:Int)<2 by decide⟩
 |2,_=>exact⟨hg.1,hg.2⟩
 |3,_=>exact⟨hq.1,hq.2⟩
 |4,_=>exact⟨show(0:Int)≤0 by decide,show(0:Int)<256 by decide⟩
theorem G8s{t:Tm}(h:(0≤t.name∧t.name<16)∧(0≤t.side∧t.side<2)∧(0≤t.A0k∧t.A0k<65536)∧(0≤t.least∧t.least<65536)∧0≤t.A1o∧t.A1o<16777216):∃x,tmW t=some x:=by
 obtain⟨h0,h1,h2,h3,h4⟩:=h
 refine E0w rfl fun i hi=>?_
 match i,hi with
 |0,_=>exact⟨h0.1,h0.2⟩
 |1,_=>exact⟨h1.1,h1.2⟩
 |2,_=>exact⟨h2.1,h2.2⟩
 |3,_=>exact⟨h3.1,h3.2⟩
 |4,_=>exact⟨h4.1,h4.2⟩
structure LG where
 tm:Int→Int→Tm
 lf:Int→Int→Int
 ov:Int→Int→Bool
def LG.zero:LG:=⟨fun _ _=>.zero,fun _ _=>0,fun _ _=>false⟩
def up2{α:Type}(f:Int→Int→α)(x g:Int)(v:α)(a b:Int):α:=if a=x∧b=g then v else f a b
theorem D8i{α:Type}(f:Int→Int→α)(x g:Int)(v:α):up2 f x g v x g=v:=by simp[up2]
theorem D0s{α:Type}(f:Int→Int→α)(x g:Int)(v:α){a:Int}(h:a≠x)(b:Int):up2 f x g v a b=f a b:=by simp[up2,h]
theorem H0m{α:Type}(f:Int→Int→α)(x g:Int)(v:α)(a:Int){b:Int}(h:b≠g):up2 f x g v a b=f a b:=by simp[up2,h]
def D2y(f:Int→Int→Int)(x g q:Int):Int→Int→Int:=up2 f x g (f x g-q)
def D5f(G:LG)(e:Ev):LG:=
 if e.kind=1 then {G with tm:=up2 G.tm e.cell e.gen e.tm,lf:=up2 G.lf e.cell e.gen e.qty}
 else if e.kind=2 then {G with lf:=D2y (D2y G.lf e.cell e.gen e.qty) e.other e.wth e.qty}
 else if e.kind=5∨e.kind=3∨e.kind=7 then {G with ov:=up2 G.ov e.cell e.gen true}
 else G
def G1f(a b:Tm)(e:Ev):Prop:=a.side=0∧b.side=1∧a.name=b.name∧e.A0k≤a.A0k∧b.A0k≤e.A0k∧e.A0k=(a.A0k+b.A0k)/2
structure H2v(c:Cf)(G:LG)(e:Ev):Prop where
 ov1:G.ov e.cell e.gen=false
 ov2:G.ov e.other e.wth=false
 own:e.cell/c.c1≠e.other/c.c1
 pos:(0≤e.cell∧e.cell<A0s c)∧0≤e.other∧e.other<A0s c
 nn:(0≤(G.tm e.cell e.gen).A0k∧(G.tm e.cell e.gen).A0k<65536)∧0≤(G.tm e.other e.wth).A0k∧(G.tm e.other e.wth).A0k<65536
 fair:G1f (if(G.tm e.cell e.gen).side=1 then G.tm e.other e.wth else G.tm e.cell e.gen) (if(G.tm e.cell e.gen).side=1 then G.tm e.cell e.gen else G.tm e.other e.wth) e
 least:(G.tm e.cell e.gen).least≤e.qty∧(G.tm e.other e.wth).least≤e.qty∧1≤e.qty
 left:e.qty≤G.lf e.cell e.gen∧e.qty≤G.lf e.other e.wth
 lb:G.lf e.cell e.gen<65536∧G.lf e.other e.wth<65536
structure D7v(c:Cf)(G:LG)(e:Ev):Prop where
 fill:e.kind=2→H2v c G e
 exp:e.kind=5→G.ov e.cell e.gen=false∧(G.tm e.cell e.gen).A1o≤e.tick
 fin:e.kind=3∨e.kind=7→G.ov e.cell e.gen=false
def A0z(l:List Ev):LG:=l.foldl D5f LG.zero
theorem B5x(l:List Ev)(e:Ev):A0z (l++[e])=D5f (A0z l) e:=by simp[A0z]
def C9e(c:Cf):LG→List Ev→Prop
 |_,[]=>True
 |G,e::l=>D7v c G e∧C9e c (D5f G e) l
theorem B1i(c:Cf)(e:Ev):∀(l:List Ev) (G:LG),C9e c G l→D7v c (l.foldl D5f G) e→C9e c G (l++[e])
 |[],G,_,h=>⟨h,trivial⟩
 |_::l,G,h,he=>⟨h.1,B1i c e l _ h.2 he⟩
def stx(S:WS)(x:Int):St:=A0l (S.word x)
def tmx(S:WS)(x:Int):Tm:=B5e (S.B1g x)
def InC(c:Cf)(x:Int):Prop:=0≤x∧x<A0s c
structure WI(S:WS):Prop where
 log:C9e S.c LG.zero S.log
 w1:∀x,InC S.c x→(stx S x).live=true→(A0z S.log).ov x (stx S x).g=false
 w0:∀x,InC S.c x→∀g,(stx S x).g<g→(A0z S.log).ov x g=false
 w2:∀x,InC S.c x→(stx S x).live=true→(A0z S.log).tm x (stx S x).g=tmx S x
 w3:∀x,InC S.c x→(stx S x).loose=true→(A0z S.log).lf x (stx S x).g=(stx S x).l
 len:2*A0s S.c≤S.words.length
structure Adv(S S':WS)(own rel:Int→Prop):Prop where
 c:S'.c=S.c
 mono:∀x,InC S.c x→(stx S x).g≤(stx S' x).g
 tms:∀x,InC S.c x→(stx S' x).live=true→(stx S' x).g≤(stx S x).g→(stx S x).live=true∧(stx S' x).g=(stx S x).g∧tmx S' x=tmx S x
 held:∀x,InC S.c x→(stx S x).held=true→¬rel x→(stx S' x).held=true∧(stx S' x).g=(stx S x).g∧(stx S' x).l=(stx S x).l∧(A0z S'.log).lf x (stx S x).g=(A0z S.log).lf x (stx S x).g
 dead:∀x,InC S.c x→(stx S x).live=false→¬own x→stx S' x=stx S x∧tmx S' x=tmx S x
theorem St.B3m{s:St}(h:s.loose=true):s.live=true:=by
 simp only[St.loose,St.live,Bool.or_eq_true,beq_iff_eq,Bool.and_eq_true,decide_eq_true_eq]at h⊢;omega
theorem St.B9h{s:St}(h:s.held=true):s.live=true:=by
 simp only[St.held,St.live,Bool.or_eq_true,beq_iff_eq,Bool.and_eq_true,decide_eq_true_eq]at h⊢;omega
theorem St.B0u{s:St}(h:s.loose=true):s.held=false:=by
 simp only[St.loose,St.held,Bool.or_eq_true,beq_iff_eq,Bool.or_eq_false_iff,beq_eq_false_iff_ne]at h⊢;omega
structure A1z(S S':WS):Prop where
 c:S'.c=S.c
 st:∀x,InC S.c x→stx S' x=stx S x
 tm:∀x,InC S.c x→tmx S' x=tmx S x
 log:S'.log=S.log
 len:S'.words.length=S.words.length
theorem A1z.adv{S S':WS}(h:A1z S S')(own rel:Int→Prop):Adv S S' own rel:=
 ⟨h.c,fun x hx=>by rw[h.st x hx];exact Int.le_refl _,fun x hx hl _=>by rw[h.st x hx]at hl⊢;exact⟨hl,rfl,h.tm x hx⟩,
  fun x hx hl _=>by rw[h.st x hx,h.log];exact⟨hl,rfl,rfl,rfl⟩,fun x hx _ _=>⟨h.st x hx,h.tm x hx⟩⟩
theorem A1z.wi{S S':WS}(h:A1z S S')(w:WI S):WI S':=by
 refine⟨by rw[h.c,h.log];exact w.log,fun x hx=>?_,fun x hx=>?_,fun x hx=>?_,fun x hx=>?_,by rw[h.c,h.len];exact w.len⟩<;>rw[h.c]at hx
 ·rw[h.st x hx,h.log];exact w.w1 x hx
 ·rw[h.st x hx,h.log];exact w.w0 x hx
 ·rw[h.st x hx,h.log,h.tm x hx];exact w.w2 x hx
 ·rw[h.st x hx,h.log];exact w.w3 x hx
theorem A1z.refl(S:WS):A1z S S:=⟨rfl,fun _ _=>rfl,fun _ _=>rfl,rfl,rfl⟩
structure C1t(S S':WS)(x:Int):Prop where
 c:S'.c=S.c
 st:∀y,InC S.c y→y≠x→stx S' y=stx S y
 tm:∀y,InC S.c y→tmx S' y=tmx S y
 len:S'.words.length=S.words.length
theorem C1t.adv{S S':WS}{x:Int}{own rel:Int→Prop}(h:C1t S S' x)(hx:InC S.c x)(a:(stx S x).g≤(stx S' x).g)
  (b:(stx S' x).live=true→(stx S' x).g≤(stx S x).g→(stx S x).live=true∧(stx S' x).g=(stx S x).g)
  (c:(stx S x).held=true→¬rel x→(stx S' x).held=true∧(stx S' x).g=(stx S x).g∧(stx S' x).l=(stx S x).l)
  (d:(stx S x).live=false→¬own x→stx S' x=stx S x)
  (e:∀y,InC S.c y→(stx S y).held=true→¬rel y→(A0z S'.log).lf y (stx S y).g=(A0z S.log).lf y (stx S y).g):Adv S S' own rel:=by
 refine⟨h.c,fun y hy=>?_,fun y hy h1 h2=>?_,fun y hy h1 h2=>?_,fun y hy h1 h2=>?_⟩<;>by_cases q:y=x
 ·subst q;exact a
 ·rw[h.st y hy q];exact Int.le_refl _
 ·subst q;obtain⟨k1,k2⟩:=b h1 h2;exact⟨k1,k2,h.tm y hy⟩
 ·rw[h.st y hy q]at h1⊢;exact⟨h1,rfl,h.tm y hy⟩
 ·subst q;obtain⟨k1,k2,k3⟩:=c h1 h2;exact⟨k1,k2,k3,e y hy h1 h2⟩
 ·rw[h.st y hy q];exact⟨h1,rfl,rfl,e y hy h1 h2⟩
 ·subst q;exact⟨d h1 h2,h.tm y hy⟩
 ·exact⟨h.st y hy q,h.tm y hy⟩
theorem C1t.wi{S S':WS}{x:Int}(h:C1t S S' x)(w:WI S)(log:C9e S.c LG.zero S'.log)
  (ov:∀y,y≠x→∀g,(A0z S'.log).ov y g=(A0z S.log).ov y g) (tm:∀y,y≠x→∀g,(A0z S'.log).tm y g=(A0z S.log).tm y g)
  (lf:∀y,y≠x→InC S.c y→(stx S y).loose=true→(A0z S'.log).lf y (stx S y).g=(A0z S.log).lf y (stx S y).g)
  (x1:(stx S' x).live=true→(A0z S'.log).ov x (stx S' x).g=false) (x0:∀g,(stx S' x).g<g→(A0z S'.log).ov x g=false)
  (x2:(stx S' x).live=true→(A0z S'.log).tm x (stx S' x).g=tmx S x) (x3:(stx S' x).loose=true→(A0z S'.log).lf x (stx S' x).g=(stx S' x).l):WI S':=by
 refine⟨by rw[h.c];exact log,fun y hy=>?_,fun y hy=>?_,fun y hy=>?_,fun y hy=>?_,by rw[h.c,h.len];exact w.len⟩<;>rw[h.c]at hy<;>by_cases q:y=x
 ·subst q;exact x1
 ·rw[h.st y hy q,ov y q];exact w.w1 y hy
 ·subst q;exact x0
 ·rw[h.st y hy q];intro g hg;rw[ov y q];exact w.w0 y hy g hg
 ·subst q;intro hl;rw[h.tm y hy];exact x2 hl
 ·rw[h.st y hy q,h.tm y hy,tm y q];exact w.w2 y hy
 ·subst q;exact x3
 ·rw[h.st y hy q];intro hl;rw[lf y q hy hl];exact w.w3 y hy hl
theorem F1l{ws:List Nat}{i:Int}(h0:0≤i)(h1:i<ws.length)(v:Nat):wd (stw ws i v) i=v:=by
 unfold wd stw
 rw[if_neg (by omega),if_neg (by omega),List.getD_eq_getElem?_getD,List.getElem?_set_self (by omega)];rfl
theorem B0s{ws:List Nat}{i j:Int}(h:i≠j)(v:Nat):wd (stw ws i v) j=wd ws j:=by
 unfold wd stw
 by_cases hj:j<0
 ·rw[if_pos hj,if_pos hj]
 ·rw[if_neg hj,if_neg hj]
  by_cases hi:i<0
  ·rw[if_pos hi]
  ·rw[if_neg hi,List.getD_eq_getElem?_getD,List.getD_eq_getElem?_getD,List.getElem?_set_ne (by omega)]
theorem B5o{S:WS}{x:Int}(hx:InC S.c x)(v:Nat)(S':WS)(hc:S'.c=S.c)(hw:S'.words=stw S.words (2*x) v):C1t S S' x:=by
 refine⟨hc,fun y _ hy=>?_,fun y _=>?_,by rw[hw,B1x]⟩
 ·unfold stx WS.word;rw[hw,B0s (by omega)]
 ·unfold tmx WS.B1g;rw[hw,B0s (by omega)]
theorem B0l{S:WS}(w:WI S){x:Int}(hx:InC S.c x){v:Nat}{s:St}(hs:A0l v=s)(S':WS)(hw:S'.words=stw S.words (2*x) v):stx S' x=s:=by
 unfold stx WS.word
 have:=w.len
 obtain⟨h0,h1⟩:=hx
 rw[hw,F1l (by omega) (by omega),hs]
theorem B2y{S:WS}{x:Int}{old:Nat}{s:St}(h:(S.turn x old s).1=true):∃v,stW s=some v∧S.word x=old∧(S.turn x old s).2={S with words:=stw S.words (2*x) v}:=by
 unfold WS.turn at h⊢
 cases hv:stW s with
 |none=>rw[hv]at h;cases h
 |some v=>
  rw[hv]at h
  dsimp only at h⊢
  rw[if_pos h]
  refine⟨v,rfl,?_,rfl⟩
  unfold swB at h
  rw[Bool.and_eq_true,beq_iff_eq]at h
  exact h.2
theorem E5z{S:WS}{x:Int}{old:Nat}{s:St}(h:(S.turn x old s).1=false):(S.turn x old s).2=S:=by
 unfold WS.turn at h⊢
 cases hv:stW s with
 |none=>rfl
 |some v=>
  rw[hv]at h
  dsimp only at h⊢
  rw[h];rfl
theorem B9q{S:WS}(hc:S.c.ok)(x gen n:Int)(r:Rc):A1z S (S.note x gen n r):=by
 unfold WS.note
 cases rcW r with
 |none=>exact A1z.refl S
 |some v=>
  have hb:A7y S.c x gen n<0∨2*A0s S.c≤A7y S.c x gen n:=by
   unfold A7y
   split
   ·exact .inl (by decide)
   ·rename_i q
    have h1:0≤x*S.c.c6:=Int.mul_nonneg (by omega) (by have:=hc;unfold RU.Cf.ok at this;omega)
    have h2:0≤(x*S.c.c6+gen-1)*(S.c.c5+1):=Int.mul_nonneg (by omega) (by have:=hc;unfold RU.Cf.ok at this;omega)
    right;omega
  refine⟨rfl,fun y hy=>?_,fun y hy=>?_,rfl,B1x _ _ _⟩<;>obtain⟨h0,h1⟩:=hy
  ·unfold stx WS.word;dsimp only;rw[B0s (by omega)]
  ·unfold tmx WS.B1g;dsimp only;rw[B0s (by omega)]
theorem A9p{S:WS}(hc:S.c.ok)(x gen n:Int)(o:Option Rc):A1z S (A7o S x gen n o):=by
 cases o with
 |none=>exact A1z.refl S
 |some r=>exact B9q hc x gen n r
def act(c:Cf)(P:A0a):Prop:=B3j c P=false∧P.held=true∧P.free=false
structure E3o(S:WS)(P:A0a):Prop where
 wx:1≤P.pc→(A0l P.wx).g≤(stx S P.a.x).g
 tx:2≤P.pc→(stx S P.a.x).live=true→(stx S P.a.x).g=(A0l P.wx).g→P.tx=tmx S P.a.x
 wy:4≤P.pc→(A0l P.wy).g≤(stx S P.a.y).g
 ty:5≤P.pc→(stx S P.a.y).live=true→(stx S P.a.y).g=(A0l P.wy).g→P.ty=tmx S P.a.y
 free:P.pc≤7→P.free=false
 made:P.pc≤5→P.made=false
 held:P.pc≤2→P.held=false
 act:P.held=true→P.free=false→(stx S P.a.x).held=true∧(stx S P.a.x).g=(A0l P.wx).g∧(stx S P.a.x).l=(A0l P.wx).l∧(A0z S.log).lf P.a.x (stx S P.a.x).g=(stx S P.a.x).l-(if P.made then P.q else 0)
theorem B8e{c:Cf}{P:A0a}(h:B3j c P=false):InC c P.a.x∧InC c P.a.y∧P.a.x/c.c1≠P.a.y/c.c1:=by
 simp only[B3j,Bool.or_eq_false_iff,decide_eq_false_iff_not,beq_eq_false_iff_ne]at h
 obtain⟨⟨h1,h2⟩,h3⟩:=h
 have k:∀z,¬A5b c z<0→InC c z∧A5b c z=z/c.c1:=by
  intro z hz
  unfold A5b at hz⊢
  split at hz
  ·omega
  ·rename_i q
   rw[if_neg q]
   exact⟨⟨by omega,by omega⟩,rfl⟩
 obtain⟨a1,a2⟩:=k _ h1
 obtain⟨b1,b2⟩:=k _ h2
 exact⟨a1,b1,by rw[←a2,←b2];exact h3⟩
theorem E3o.adv{S S':WS}{P:A0a}{own rel:Int→Prop}(h:E3o S P)(A:Adv S S' own rel)(hx:InC S.c P.a.x)(hy:InC S.c P.a.y)
  (hr:P.held=true→P.free=false→¬rel P.a.x):E3o S' P:=by
 refine⟨fun q=>Int.le_trans (h.wx q) (A.mono _ hx),fun q hl hg=>?_,fun q=>Int.le_trans (h.wy q) (A.mono _ hy),fun q hl hg=>?_,h.free,h.made,h.held,fun h1 h2=>?_⟩
 ·obtain⟨k1,k2,k3⟩:=A.tms _ hx hl (by rw[hg];exact h.wx (by omega))
  rw[k3];exact h.tx q k1 (by rw[←k2];exact hg)
 ·obtain⟨k1,k2,k3⟩:=A.tms _ hy hl (by rw[hg];exact h.wy (by omega))
  rw[k3];exact h.ty q k1 (by rw[←k2];exact hg)
 ·obtain⟨a1,a2,a3,a4⟩:=h.act h1 h2
  obtain⟨k1,k2,k3,k4⟩:=A.held _ hx a1 (hr h1 h2)
  exact⟨k1,k2.trans a2,k3.trans a3,by rw[k2,k4,k3];exact a4⟩
structure B7t(S:WS)(P:A0a)(R:A0a × WS):Prop where
 wi:WI R.2
 adv:Adv S R.2 (fun _=>False) (fun y=>act S.c P∧y=P.a.x)
 i:E3o R.2 R.1
 new:act S.c R.1→act S.c P∨(stx S P.a.x).loose=true
 a:R.1.a=P.a
theorem G0n{a b:Tm}{l o:Int}(h:1≤(A7f a b l o).1)(e:Ev)(hp:e.A0k=(A7f a b l o).2):
  G1f (if a.side=1 then b else a) (if a.side=1 then a else b) e∧a.least≤(A7f a b l o).1∧b.least≤(A7f a b l o).1∧(A7f a b l o).1≤l∧(A7f a b l o).1≤o:=by
 have key:∀p q:Tm,1≤(A8m a b p q l o).1→e.A0k=(A8m a b p q l o).2→(a.name=b.name→p.name=q.name)→
   G1f p q e∧a.least≤(A8m a b p q l o).1∧b.least≤(A8m a b p q l o).1∧(A8m a b p q l o).1≤l∧(A8m a b p q l o).1≤o:=by
  intro p q h1 h2 hn
  unfold A8m at h1 h2⊢
  have hm:(if o<l then o else l)≤l∧(if o<l then o else l)≤o:=by split<;>omega
  have hb:b.least≤(if b.least>a.least then b.least else a.least)∧a.least≤(if b.least>a.least then b.least else a.least):=by split<;>omega
  generalize (if o<l then o else l)=m at*
  generalize (if b.least>a.least then b.least else a.least)=z at*
  by_cases c1:p.side≠0∨q.side≠1∨a.name≠b.name
  ·rw[if_pos c1]at h1;exact absurd h1 (by decide)
  rw[if_neg c1]at h1 h2⊢
  by_cases c2:p.A0k<q.A0k∨m<1∨m<z
  ·rw[if_pos c2]at h1;exact absurd h1 (by decide)
  rw[if_neg c2]at h1 h2⊢
  unfold F3a at h2
  dsimp only at h1 h2⊢
  have n1:a.name=b.name:=by omega
  exact⟨⟨by omega,by omega,hn n1,by omega,by omega,by omega⟩,by omega,by omega,by omega,by omega⟩
 unfold A7f at h hp⊢
 by_cases hs:a.side=1
 ·rw[if_pos hs]at h hp
  rw[if_pos hs,if_pos hs,if_pos hs]
  exact key b a h hp fun e=>e.symm
 ·rw[if_neg hs]at h hp
  rw[if_neg hs,if_neg hs,if_neg hs]
  exact key a b h hp id
theorem E7n{s:St}(h:s.loose=true):s.hold.held=true∧s.hold.loose=false∧s.hold.g=s.g∧s.hold.l=s.l:=by
 simp only[St.loose,Bool.or_eq_true,beq_iff_eq]at h
 unfold St.hold
 rcases h with h|h
 ·rw[if_pos h];exact⟨rfl,rfl,rfl,rfl⟩
 ·rw[if_neg (by omega),if_pos h];exact⟨rfl,rfl,rfl,rfl⟩
theorem E1x(s:St)(m:Int):s.ended m=s∨((s.ended m).live=false∧(s.ended m).over=true):=by
 unfold St.ended
 split
 ·exact .inr ⟨rfl,rfl⟩
 ·split
  ·exact .inr ⟨rfl,rfl⟩
  ·exact .inl rfl
theorem G3r{s:St}(h:s.over=true):s.live=false:=by
 simp only[St.over,St.live,Bool.and_eq_true,decide_eq_true_eq,Bool.and_eq_false_iff,decide_eq_false_iff_not]at h⊢;omega
theorem D8e{s:St}(h:s.live=false):s.loose=false∧s.held=false:=by
 constructor
 ·cases e:s.loose with
  |false=>rfl
  |true=>rw[St.B3m e]at h;cases h
 ·cases e:s.held with
  |false=>rfl
  |true=>rw[St.B9h e]at h;cases h
theorem E2x{s:St}(h:s.held=true)(m:Int):((A9g s m).loose=true∧(A9g s m).over=false)∨((A9g s m).live=false∧(A9g s m).over=true):=by
 have hl:s.A7t.loose=true∧s.A7t.over=false:=by
  simp only[St.held,Bool.or_eq_true,beq_iff_eq]at h
  unfold St.A7t
  rcases h with h|h
  ·rw[if_pos h];exact⟨rfl,rfl⟩
  ·rw[if_neg (by omega),if_pos h];exact⟨rfl,rfl⟩
 unfold A9g
 split
 ·exact .inr ⟨rfl,rfl⟩
 ·rcases E1x s.A7t m with e|e
  ·rw[e];exact .inl hl
  ·exact .inr e
theorem D4g{s:St}{q m:Int}(h:(A3n s q m).1=0):s.held=true∧0≤q∧q≤s.l∧(A3n s q m).2.g=s.g∧(A3n s q m).2.l=s.l-q∧
  (((A3n s q m).2.loose=true∧(A3n s q m).2.over=false)∨((A3n s q m).2.live=false∧(A3n s q m).2.over=true)):=by
 unfold A3n at h⊢
 split at h
 ·exact absurd h (by decide)
 rename_i c1
 rw[if_neg c1]
 split at h
 ·exact absurd h (by decide)
 rename_i c2
 rw[if_neg c2]
 have hh:s.held=true:=by simpa using c1
 split at h
 ·rename_i c3
  rw[if_pos c3]
  split at h
  ·exact absurd h (by decide)
  ·rename_i c4
   rw[if_neg c4]
   dsimp only
   have k:=D5g {s with l:=s.l-q,n:=s.n+1} m
   exact⟨hh,by omega,by omega,k.2.1,k.2.2,E2x (s:={s with l:=s.l-q,n:=s.n+1}) hh m⟩
 ·rename_i c3
  rw[if_neg c3]
  dsimp only
  have k:=D5g s m
  exact⟨hh,by omega,by omega,k.2.1,by rw[k.2.2];omega,E2x hh m⟩
theorem E7a{s:St}{q m:Int}(h:(A8w s q m).1=0):s.loose=true∧1≤q∧q≤s.l∧(A8w s q m).2.g=s.g∧(A8w s q m).2.l=s.l-q∧
  ((A8w s q m).2.loose=true∨(A8w s q m).2.live=false):=by
 unfold A8w at h⊢
 split at h
 ·exact absurd h (by decide)
 rename_i c1
 rw[if_neg c1]
 split at h
 ·exact absurd h (by decide)
 rename_i c2
 rw[if_neg c2]
 split at h
 ·exact absurd h (by decide)
 rename_i c3
 rw[if_neg c3]
 dsimp only
 have hh:s.loose=true:=by simpa using c1
 have k:=St.E5g {s with l:=s.l-q,n:=s.n+1} m
 refine⟨hh,by omega,by omega,k.2.1,k.2.2,?_⟩
 rcases E1x {s with l:=s.l-q,n:=s.n+1} m with e|e
 ·rw[e];exact .inl hh
 ·exact .inr e.1
theorem D6o{c:Cf}{P:A0a}{s:St}(h:C7g c P s=true):s.loose=true:=by
 unfold C7g at h
 unfold St.loose
 split at h
 ·rw[Bool.and_eq_true]at h;rw[h.1];rfl
 ·split at h
  ·rw[Bool.and_eq_true,Bool.and_eq_true]at h;rw[h.1.1];simp
  ·cases h
section
theorem D5q{f:Int→Int→Int}{x g q a b:Int}(h:a≠x):D2y f x g q a b=f a b:=D0s _ _ _ _ h _
theorem F7h{f:Int→Int→Int}{x g q:Int}:D2y f x g q x g=f x g-q:=D8i _ _ _ _
def next(P:A0a)(R:A0a × WS):A0a × WS:=({R.1 with pc:=P.pc+1},R.2)
section
variable{S:WS}{P:A0a}(hc:S.c.ok)(w:WI S)(I:E3o S P)(hi:B3j S.c P=false)(h0:0≤P.pc)
include w I hi h0
omit hi in
theorem B8h(h3:P.pc=2∨5≤P.pc)(q p:Int)(hq:q=P.q∨P.pc≤5):B7t S P (next P ({P with q:=q,p:=p},S)):=by
 refine⟨w,(A1z.refl S).adv _ _,⟨fun _=>?_,fun _=>?_,fun k=>?_,fun k=>?_,fun k=>I.free ?_,fun k=>I.made ?_,fun k=>I.held ?_,fun a b=>?_⟩,fun a=>.inl a,rfl⟩
 ·exact I.wx (by omega)
 ·exact I.tx (by omega)
 ·exact I.wy (by dsimp only[next]at k;omega)
 ·exact I.ty (by dsimp only[next]at k;omega)
 ·dsimp only[next]at k;omega
 ·dsimp only[next]at k;omega
 ·dsimp only[next]at k;omega
 ·obtain⟨a1,a2,a3,a4⟩:=I.act a b
  refine⟨a1,a2,a3,?_⟩
  rcases hq with rfl|hq
  ·exact a4
  ·have:P.made=false:=I.made hq
   rw[this]at a4
   dsimp only[next]
   rw[this];exact a4
omit hi in
theorem try0(h:P.pc=0):B7t S P (next P ({P with wx:=S.word P.a.x},S)):=by
 have hh:=I.held (by omega)
 refine⟨w,(A1z.refl S).adv _ _,⟨fun _=>Int.le_refl _,fun k=>?_,fun k=>?_,fun k=>?_,fun _=>I.free (by omega),fun _=>I.made (by omega),fun _=>hh,fun a b=>?_⟩,fun a=>.inl a,rfl⟩
 ·dsimp only[next]at k;omega
 ·dsimp only[next]at k;omega
 ·dsimp only[next]at k;omega
 ·exact absurd (hh.symm.trans a) (by decide)
omit hi in
theorem try1(h:P.pc=1):B7t S P (next P ({P with tx:=B5e (S.B1g P.a.x)},S)):=by
 have hh:=I.held (by omega)
 refine⟨w,(A1z.refl S).adv _ _,⟨fun _=>I.wx (by omega),fun _ _ _=>rfl,fun k=>?_,fun k=>?_,fun _=>I.free (by omega),fun _=>I.made (by omega),fun _=>hh,fun a b=>?_⟩,fun a=>.inl a,rfl⟩
 ·dsimp only[next]at k;omega
 ·dsimp only[next]at k;omega
 ·exact absurd (hh.symm.trans a) (by decide)
omit hi in
theorem try3(h:P.pc=3):B7t S P (next P ({P with wy:=S.word P.a.y},S)):=by
 refine⟨w,(A1z.refl S).adv _ _,⟨fun _=>I.wx (by omega),fun _=>I.tx (by omega),fun _=>Int.le_refl _,fun k=>?_,fun _=>I.free (by omega),fun _=>I.made (by omega),fun k=>?_,I.act⟩,fun a=>.inl a,rfl⟩
 ·dsimp only[next]at k;omega
 ·dsimp only[next]at k;omega
omit hi in
theorem try4(h:P.pc=4):B7t S P (next P ({P with ty:=B5e (S.B1g P.a.y)},S)):=by
 refine⟨w,(A1z.refl S).adv _ _,⟨fun _=>I.wx (by omega),fun _=>I.tx (by omega),fun _=>I.wy (by omega),fun _ _ _=>rfl,fun _=>I.free (by omega),fun _=>I.made (by omega),fun k=>?_,I.act⟩,fun a=>.inl a,rfl⟩
 dsimp only[next]at k;omega
theorem try2(h:P.pc=2):B7t S P (next P (C1l P S)):=by
 have hh:=I.held (by omega)
 have hp:P={P with q:=P.q,p:=P.p}:=rfl
 obtain⟨hx,hy,hn⟩:=B8e hi
 unfold C1l
 split
 ·rename_i hw
  have hl:=D6o hw
  cases ht:(S.turn P.a.x P.wx (A0l P.wx).hold).1 with
  |false=>
   rw[E5z ht]
   have e:({P with held:=false}:A0a)={P with q:=P.q,p:=P.p}:=by rw[←hh]
   rw[e]
   exact B8h w I h0 (.inl h) _ _ (.inl rfl)
  |true=>
   obtain⟨v,h1,h2,h3⟩:=B2y ht
   rw[h3]
   have hs:stx S P.a.x=A0l P.wx:=by unfold stx;rw[h2]
   obtain⟨k1,k2,k3,k4⟩:=E7n hl
   have o:=B5o hx v {S with words:=stw S.words (2*P.a.x) v} rfl rfl
   have es:=B0l w hx (B4h h1) {S with words:=stw S.words (2*P.a.x) v} rfl
   generalize hS:({S with words:=stw S.words (2*P.a.x) v}:WS)=S' at o es⊢
   have lg:S'.log=S.log:=by rw[←hS]
   have lv:=St.B3m hl
   refine⟨o.wi w (by rw[lg];exact w.log) (fun _ _ _=>by rw[lg]) (fun _ _ _=>by rw[lg]) (fun _ _ _ _=>by rw[lg]) ?_ ?_ ?_ ?_,o.adv hx ?_ ?_ ?_ ?_ (fun _ _ _ _=>by rw[lg]),⟨?_,?_,?_,?_,?_,?_,?_,?_⟩,fun _=>.inr (by rw[hs];exact hl),rfl⟩
   ·intro _;rw[es,lg,k3,←hs];exact w.w1 _ hx (by rw[hs];exact lv)
   ·rw[es,lg,k3,←hs];exact w.w0 _ hx
   ·intro _;rw[es,lg,k3,←hs];exact w.w2 _ hx (by rw[hs];exact lv)
   ·intro q;rw[es,k2]at q;cases q
   ·rw[es,hs,k3];exact Int.le_refl _
   ·intro _ _;rw[es,hs,k3];exact⟨lv,rfl⟩
   ·intro q;rw[hs,St.B0u hl]at q;cases q
   ·intro q;rw[hs,lv]at q;cases q
   ·intro _
    show(A0l P.wx).g≤(stx S' P.a.x).g
    rw[es,k3];exact Int.le_refl _
   ·intro _ _ _
    show P.tx=tmx S' P.a.x
    rw[o.tm _ hx];exact I.tx (by omega) (by rw[hs];exact lv) (by rw[hs])
   ·intro k;dsimp only[next]at k;omega
   ·intro k;dsimp only[next]at k;omega
   ·exact fun _=>I.free (by omega)
   ·exact fun _=>I.made (by omega)
   ·intro k;dsimp only[next]at k;omega
   ·intro _ _
    show(stx S' P.a.x).held=true∧(stx S' P.a.x).g=(A0l P.wx).g∧(stx S' P.a.x).l=(A0l P.wx).l∧(A0z S'.log).lf P.a.x (stx S' P.a.x).g=(stx S' P.a.x).l-(if P.made then P.q else 0)
    have hm:=I.made (by omega)
    rw[es,lg,k3,k4,hm]
    refine⟨k1,rfl,rfl,?_⟩
    have:=w.w3 _ hx (by rw[hs];exact hl)
    rw[hs]at this
    rw[this];simp
 ·exact B8h w I h0 (.inl h) P.q P.p (.inl rfl)
omit hi in
theorem try6(h:P.pc=6∨P.pc=8):B7t S P (next P (B7j P S)):=by
 unfold B7j
 split
 ·rename_i ha
  obtain⟨a1,a2,a3,a4⟩:=I.act ha.1 ha.2
  refine⟨w,(A1z.refl S).adv _ _,⟨fun _=>Int.le_refl _,fun _ _ _=>?_,fun _=>I.wy (by omega),fun _=>I.ty (by omega),fun k=>I.free ?_,fun k=>?_,fun k=>?_,fun _ _=>⟨a1,rfl,rfl,a4⟩⟩,fun a=>.inl a,rfl⟩
  ·exact I.tx (by omega) (St.B9h a1) a2
  ·dsimp only[next]at k;omega
  ·dsimp only[next]at k;omega
  ·dsimp only[next]at k;omega
 ·exact B8h w I h0 (.inr (by omega)) P.q P.p (.inl rfl)
include hc in
theorem H4b(h:10≤P.pc):B7t S P (next P (P,A4u P S)):=by
 have hs:A1z S (A4u P S):=by
  unfold A4u
  split
  ·exact B9q hc _ _ _ _
  split
  ·exact B9q hc _ _ _ _
  split
  ·exact A9p hc _ _ _ _
  split
  ·exact A9p hc _ _ _ _
  ·exact A1z.refl S
 have k:=B8h w I h0 (.inr (by omega)) P.q P.p (.inl rfl)
 obtain⟨hx,hy,_⟩:=B8e hi
 exact⟨hs.wi w,hs.adv _ _,k.i.adv (hs.adv (fun _=>False) (fun _=>False)) hx hy fun _ _ q=>q,fun a=>.inl a,rfl⟩
theorem try5(h:P.pc=5):B7t S P (next P (B8s P S)):=by
 obtain⟨hx,hy,hn⟩:=B8e hi
 have nothing:∀q p,B7t S P (next P ({P with q:=q,p:=p},S)):=fun q p=>B8h w I h0 (.inr (by omega)) q p (.inr (by omega))
 unfold B8s
 split
 ·exact nothing P.q P.p
 rename_i hb
 have hh:P.held=true:=by cases e:P.held with
  |true=>rfl
  |false=>exact absurd (.inl e) hb
 have hf:=I.free (by omega)
 have hm:=I.made (by omega)
 obtain⟨a1,a2,a3,a4⟩:=I.act hh hf
 unfold B8v
 dsimp only
 split
 ·exact nothing _ _
 rename_i ht
 have ht:(A8w (A0l P.wy) (A3x P).1 S.c.c5).1=0:=by simpa using ht
 cases hu:(S.turn P.a.y P.wy (A8w (A0l P.wy) (A3x P).1 S.c.c5).2).1 with
 |false=>exact nothing _ _
 |true=>
  obtain⟨v,h1,h2,h3⟩:=B2y hu
  obtain⟨k1,k2,k3,k4,k5,k6⟩:=E7a ht
  rw[if_neg (by decide),h3]
  have hs:stx S P.a.y=A0l P.wy:=by unfold stx;rw[h2]
  have hxy:P.a.y≠P.a.x:=fun e=>by rw[e]at hn;exact hn rfl
  have hyx:P.a.x≠P.a.y:=fun e=>hxy e.symm
  have lvy:(stx S P.a.y).live=true:=by rw[hs];exact St.B3m k1
  have lvx:=St.B9h a1
  have ty:P.ty=tmx S P.a.y:=I.ty (by omega) lvy (by rw[hs])
  have tx:P.tx=tmx S P.a.x:=I.tx (by omega) lvx a2
  obtain⟨m1,m2,m3,m4,m5⟩:=G0n (a:=P.tx) (b:=P.ty) (l:=(A0l P.wx).l) (o:=(A0l P.wy).l) k2 {Ev.zero with kind:=2,cell:=P.a.x,gen:=(A0l P.wx).g,other:=P.a.y,wth:=(A0l P.wy).g,qty:=(A3x P).1,A0k:=(A3x P).2,tick:=S.now} rfl
  have gx:(A0z S.log).tm P.a.x (A0l P.wx).g=P.tx:=by rw[←a2,w.w2 _ hx lvx,tx]
  have gy:(A0z S.log).tm P.a.y (A0l P.wy).g=P.ty:=by rw[←hs,w.w2 _ hy lvy,ty]
  have ly:(A0z S.log).lf P.a.y (A0l P.wy).g=(A0l P.wy).l:=by have:=w.w3 _ hy (by rw[hs];exact k1);rw[hs]at this;exact this
  have lx:(A0z S.log).lf P.a.x (A0l P.wx).g=(A0l P.wx).l:=by rw[hm,a2,a3]at a4;simpa using a4
  have ovx:(A0z S.log).ov P.a.x (A0l P.wx).g=false:=by rw[←a2];exact w.w1 _ hx lvx
  have ovy:(A0z S.log).ov P.a.y (A0l P.wy).g=false:=by rw[←hs];exact w.w1 _ hy lvy
  have o:=B5o hy v (({S with words:=stw S.words (2*P.a.y) v}:WS).tell {Ev.zero with kind:=2,cell:=P.a.x,gen:=(A0l P.wx).g,other:=P.a.y,wth:=(A0l P.wy).g,qty:=(A3x P).1,A0k:=(A3x P).2}) rfl rfl
  have es:=B0l w hy (B4h h1) (({S with words:=stw S.words (2*P.a.y) v}:WS).tell {Ev.zero with kind:=2,cell:=P.a.x,gen:=(A0l P.wx).g,other:=P.a.y,wth:=(A0l P.wy).g,qty:=(A3x P).1,A0k:=(A3x P).2}) rfl
  have lg:(({S with words:=stw S.words (2*P.a.y) v}:WS).tell {Ev.zero with kind:=2,cell:=P.a.x,gen:=(A0l P.wx).g,other:=P.a.y,wth:=(A0l P.wy).g,qty:=(A3x P).1,A0k:=(A3x P).2}).log=S.log++[{Ev.zero with kind:=2,cell:=P.a.x,gen:=(A0l P.wx).g,other:=P.a.y,wth:=(A0l P.wy).g,qty:=(A3x P).1,A0k:=(A3x P).2,tick:=S.now}]:=rfl
  generalize (({S with words:=stw S.words (2*P.a.y) v}:WS).tell {Ev.zero with kind:=2,cell:=P.a.x,gen:=(A0l P.wx).g,other:=P.a.y,wth:=(A0l P.wy).g,qty:=(A3x P).1,A0k:=(A3x P).2})=S' at o es lg⊢
  generalize he:({Ev.zero with kind:=2,cell:=P.a.x,gen:=(A0l P.wx).g,other:=P.a.y,wth:=(A0l P.wy).g,qty:=(A3x P).1,A0k:=(A3x P).2,tick:=S.now}:Ev)=e at m1 lg
  have g0:A0z S'.log={A0z S.log with lf:=D2y (D2y (A0z S.log).lf P.a.x (A0l P.wx).g (A3x P).1) P.a.y (A0l P.wy).g (A3x P).1}:=by
   rw[lg,B5x,←he];rfl
  have gov:∀a b,(A0z S'.log).ov a b=(A0z S.log).ov a b:=by rw[g0];exact fun _ _=>rfl
  have gtm:∀a b,(A0z S'.log).tm a b=(A0z S.log).tm a b:=by rw[g0];exact fun _ _=>rfl
  have glf:∀a b,(A0z S'.log).lf a b=D2y (D2y (A0z S.log).lf P.a.x (A0l P.wx).g (A3x P).1) P.a.y (A0l P.wy).g (A3x P).1 a b:=by rw[g0];exact fun _ _=>rfl
  have lfy:(A0z S'.log).lf P.a.y (A0l P.wy).g=(A0l P.wy).l-(A3x P).1:=by rw[glf,F7h,D5q hxy,ly]
  have lfx:(A0z S'.log).lf P.a.x (A0l P.wx).g=(A0l P.wx).l-(A3x P).1:=by rw[glf,D5q hyx,F7h,lx]
  have lfz:∀z g,z≠P.a.x→z≠P.a.y→(A0z S'.log).lf z g=(A0z S.log).lf z g:=fun z g z1 z2=>by rw[glf,D5q z2,D5q z1]
  have ok:D7v S.c (A0z S.log) e:=by
   subst he
   refine⟨fun _=>⟨ovx,ovy,hn,⟨hx,hy⟩,?_,?_,?_,?_,?_⟩,fun q=>?_,fun q=>?_⟩
   ·dsimp only;rw[gx,gy,tx,ty];exact⟨(C6x _).2.2.1,(C6x _).2.2.1⟩
   ·dsimp only;rw[gx,gy];exact m1
   ·dsimp only;rw[gx,gy];exact⟨m2,m3,k2⟩
   ·dsimp only;rw[lx,ly];exact⟨m4,m5⟩
   ·dsimp only;rw[lx,ly];exact⟨(B8p _).2.2.1.2,(B8p _).2.2.1.2⟩
   ·exact absurd q (by dsimp only;decide)
   ·exact absurd q (by dsimp only;decide)
  have el:(stx S' P.a.y).live=true→(stx S P.a.y).live=true:=fun _=>lvy
  refine⟨o.wi w (by rw[lg];exact B1i _ _ _ _ w.log ok) (fun _ _ _=>gov _ _) (fun _ _ _=>gtm _ _) (fun z z1 _ zl=>lfz _ _ (fun q=>by have:=St.B0u (q▸zl:(stx S P.a.x).loose=true);rw[this]at a1;cases a1) z1) ?_ ?_ ?_ ?_,o.adv hy ?_ ?_ ?_ ?_ ?_,⟨?_,?_,?_,?_,?_,?_,?_,?_⟩,fun _=>.inl ⟨hi,hh,hf⟩,rfl⟩
  ·intro _;rw[es,k4,gov];exact ovy
  ·intro g hg;rw[gov];rw[es,k4,←hs]at hg;exact w.w0 _ hy g hg
  ·intro _;rw[es,k4,gtm,gy,ty]
  ·intro _;rw[es,k4,lfy,k5]
  ·rw[es,hs,k4];exact Int.le_refl _
  ·intro _ _;rw[es,hs,k4];exact⟨St.B3m k1,rfl⟩
  ·intro q;rw[hs,St.B0u k1]at q;cases q
  ·intro q;rw[lvy]at q;cases q
  ·intro z _ z1 z2
   refine lfz _ _ (fun q=>z2 ⟨⟨hi,hh,hf⟩,q⟩) (fun q=>?_)
   rw[q,hs,St.B0u k1]at z1;cases z1
  ·intro _;show(A0l P.wx).g≤(stx S' P.a.x).g;rw[o.st _ hx hyx,a2];exact Int.le_refl _
  ·intro _ _ _;show P.tx=tmx S' P.a.x;rw[o.tm _ hx];exact tx
  ·intro _;show(A0l P.wy).g≤(stx S' P.a.y).g;rw[es,k4];exact Int.le_refl _
  ·intro _ _ _;show P.ty=tmx S' P.a.y;rw[o.tm _ hy];exact ty
  ·exact fun _=>hf
  ·intro k;dsimp only[next]at k;omega
  ·intro k;dsimp only[next]at k;omega
  ·intro _ _
   show(stx S' P.a.x).held=true∧(stx S' P.a.x).g=(A0l P.wx).g∧(stx S' P.a.x).l=(A0l P.wx).l∧(A0z S'.log).lf P.a.x (stx S' P.a.x).g=(stx S' P.a.x).l-(A3x P).1
   rw[o.st _ hx hyx]
   exact⟨a1,a2,a3,by rw[a2,a3];exact lfx⟩
theorem try7(h:P.pc=7∨P.pc=9):B7t S P (next P (C5t P S)):=by
 obtain⟨hx,hy,hn⟩:=B8e hi
 have nothing:B7t S P (next P (P,S)):=B8h w I h0 (.inr (by omega)) P.q P.p (.inl rfl)
 unfold C5t
 split
 ·exact nothing
 rename_i hb
 have hh:P.held=true:=by cases e:P.held with
  |true=>rfl
  |false=>exact absurd (.inl e) hb
 have hf:P.free=false:=by cases e:P.free with
  |false=>rfl
  |true=>exact absurd (.inr e) hb
 obtain⟨a1,a2,a3,a4⟩:=I.act hh hf
 have ac:act S.c P:=⟨hi,hh,hf⟩
 generalize hq:(if P.made then P.q else 0)=q at a4⊢
 unfold C0c
 split
 ·exact nothing
 rename_i ht
 have ht:(A3n (A0l P.wx) q S.c.c5).1=0:=by simpa using ht
 cases hu:(S.turn P.a.x P.wx (A3n (A0l P.wx) q S.c.c5).2).1 with
 |false=>exact nothing
 |true=>
  obtain⟨v,h1,h2,h3⟩:=B2y hu
  obtain⟨k1,k2,k3,k4,k5,k6⟩:=D4g ht
  rw[if_neg (by decide),h3]
  generalize (A3n (A0l P.wx) q S.c.c5).2=t at*
  have hs:stx S P.a.x=A0l P.wx:=by unfold stx;rw[h2]
  have lvx:=St.B9h a1
  have ovx:(A0z S.log).ov P.a.x (A0l P.wx).g=false:=by rw[←a2];exact w.w1 _ hx lvx
  have tx:P.tx=tmx S P.a.x:=I.tx (by omega) lvx a2
  have gx:(A0z S.log).tm P.a.x (A0l P.wx).g=tmx S P.a.x:=by rw[←a2,w.w2 _ hx lvx]
  have lx:(A0z S.log).lf P.a.x (A0l P.wx).g=(A0l P.wx).l-q:=by rw[a2,a3]at a4;exact a4
  have key:∀S':WS,C1t S S' P.a.x→stx S' P.a.x=t→C9e S.c LG.zero S'.log→(∀a b,(A0z S'.log).tm a b=(A0z S.log).tm a b)→(∀a b,(A0z S'.log).lf a b=(A0z S.log).lf a b)→
    (∀a b,¬(a=P.a.x∧b=t.g)→(A0z S'.log).ov a b=(A0z S.log).ov a b)→(t.live=true→(A0z S'.log).ov P.a.x t.g=false)→
    B7t S P (next P ({P with free:=true,nx:=t,fin:=S.now},S')):=by
   intro S' o es al gtm glf gov gv
   refine⟨o.wi w al (fun z z1 g=>gov _ _ fun q=>z1 q.1) (fun _ _ _=>gtm _ _) (fun _ _ _ _=>glf _ _) ?_ ?_ ?_ ?_,o.adv hx ?_ ?_ ?_ ?_ ?_,⟨?_,?_,?_,?_,?_,?_,?_,?_⟩,fun _=>.inl ac,rfl⟩
   ·intro z;rw[es]at z⊢;exact gv z
   ·intro g hg;rw[es,k4]at hg;rw[gov _ _ (fun q=>by omega)];exact w.w0 _ hx g (by rw[hs];exact hg)
   ·intro _;rw[es,k4,gtm,gx]
   ·intro _;rw[es,k4,glf,k5];exact lx
   ·rw[es,hs,k4];exact Int.le_refl _
   ·intro _ _;rw[es,hs,k4];exact⟨by rw[←hs];exact lvx,rfl⟩
   ·intro _ z;exact absurd ⟨ac,rfl⟩ z
   ·intro z;rw[lvx]at z;cases z
   ·exact fun _ _ _ _=>glf _ _
   ·intro _;show(A0l P.wx).g≤(stx S' P.a.x).g;rw[es,k4];exact Int.le_refl _
   ·intro _ _ _;show P.tx=tmx S' P.a.x;rw[o.tm _ hx];exact tx
   ·intro _;show(A0l P.wy).g≤(stx S' P.a.y).g;exact Int.le_trans (I.wy (by omega)) ((o.adv (own:=fun _=>True) (rel:=fun _=>True) hx (by rw[es,hs,k4];exact Int.le_refl _) (fun _ _=>by rw[es,hs,k4];exact⟨by rw[←hs];exact lvx,rfl⟩) (fun _ z=>absurd trivial z) (fun _ z=>absurd trivial z) (fun _ _ _ _=>glf _ _)).mono _ hy)
   ·intro _ z1 z2
    show P.ty=tmx S' P.a.y
    rw[o.tm _ hy]
    by_cases e:P.a.y=P.a.x
    ·rw[e]at hn;exact absurd rfl hn
    ·change (stx S' P.a.y).live=true at z1
     change (stx S' P.a.y).g=(A0l P.wy).g at z2
     rw[o.st _ hy e]at z1 z2
     exact I.ty (by omega) z1 z2
   ·intro k;dsimp only[next]at k;omega
   ·intro k;dsimp only[next]at k;omega
   ·intro k;dsimp only[next]at k;omega
   ·intro _ z;cases z
  cases hov:t.over with
  |false=>
   rw[if_neg (by decide)]
   refine key _ (B5o hx v _ rfl rfl) (B0l w hx (B4h h1) _ rfl) w.log (fun _ _=>rfl) (fun _ _=>rfl) (fun _ _ _=>rfl) fun _=>?_
   rw[k4];exact ovx
  |true=>
   rw[if_pos rfl]
   have g0:∀e:Ev,e.kind=7→e.cell=P.a.x→e.gen=t.g→A0z (S.log++[e])={A0z S.log with ov:=up2 (A0z S.log).ov P.a.x t.g true}:=by
    intro e e1 e2 e3
    rw[B5x];unfold D5f;rw[e1,e2,e3];rfl
   refine key _ (B5o hx v _ rfl rfl) (B0l w hx (B4h h1) _ rfl) (B1i _ _ _ _ w.log ⟨fun q=>absurd q (by dsimp only;decide),fun q=>absurd q (by dsimp only;decide),fun _=>?_⟩) (fun _ _=>?_) (fun _ _=>?_) (fun a b z=>?_) fun z=>?_
   ·show(A0z S.log).ov P.a.x t.g=false
    rw[k4];exact ovx
   ·show(A0z (S.log++_)).tm _ _=_
    rw[g0 _ rfl rfl rfl]
   ·show(A0z (S.log++_)).lf _ _=_
    rw[g0 _ rfl rfl rfl]
   ·show(A0z (S.log++_)).ov _ _=_
    rw[g0 _ rfl rfl rfl]
    show(if a=P.a.x∧b=t.g then true else(A0z S.log).ov a b)=_
    rw[if_neg z]
   ·rw[G3r hov]at z;cases z
end
def B0z(S:WS)(P:A0a):Prop:=0≤P.pc∧(B3j S.c P=false→E3o S P)
structure TryL(S:WS)(P:A0a)(R:A0a × WS):Prop where
 wi:WI R.2
 adv:Adv S R.2 (fun _=>False) (fun y=>act S.c P∧y=P.a.x)
 i:B0z R.2 R.1
 new:act S.c R.1→act S.c P∨(InC S.c P.a.x∧(stx S P.a.x).loose=true)
 a:R.1.a=P.a
theorem G1p{S:WS}{P:A0a}(hc:S.c.ok)(w:WI S)(I:B0z S P):TryL S P (A2s P S):=by
 unfold A2s
 split
 ·exact⟨w,(A1z.refl S).adv _ _,I,fun a=>.inl a,rfl⟩
 rename_i hpc
 cases hi:B3j S.c P with
 |true=>
  rw[if_pos rfl]
  exact⟨w,(A1z.refl S).adv _ _,⟨by have:=I.1;show 0≤P.pc+1;omega,fun q=>by have:B3j S.c P=false:=q;rw[hi]at this;cases this⟩,fun a=>.inl a,rfl⟩
 |false=>
  rw[if_neg (by decide)]
  have J:=I.2 hi
  have k:B7t S P (next P (A3l P S)):=by
   unfold A3l
   split
   ·exact try0 w J I.1 (by assumption)
   split
   ·exact try1 w J I.1 (by assumption)
   split
   ·exact try2 w J hi I.1 (by assumption)
   split
   ·exact try3 w J I.1 (by assumption)
   split
   ·exact try4 w J I.1 (by assumption)
   split
   ·exact try5 w J hi I.1 (by assumption)
   split
   ·exact try6 w J I.1 (by assumption)
   split
   ·exact try7 w J hi I.1 (by assumption)
   ·exact H4b hc w J hi I.1 (by have:=I.1;omega)
  exact⟨k.wi,k.adv,⟨by have:=I.1;show 0≤P.pc+1;omega,fun _=>k.i⟩,fun a=>(k.new a).imp id fun q=>⟨(B8e hi).1,q⟩,k.a⟩
theorem B0z.adv{S S':WS}{P:A0a}{own rel:Int→Prop}(h:B0z S P)(A:Adv S S' own rel)(hr:act S.c P→¬rel P.a.x):B0z S' P:=
 ⟨h.1,fun hi=>by
  rw[A.c]at hi
  exact(h.2 hi).adv A (B8e hi).1 (B8e hi).2.1 fun a b=>hr ⟨hi,a,b⟩⟩
theorem B0z.new(S:WS)(a:Aim):B0z S (A0a.new a):=
 ⟨Int.le_refl _,fun _=>⟨fun k=>absurd k (show ¬(1:Int)≤0 by decide),fun k=>absurd k (show ¬(2:Int)≤0 by decide),fun k=>absurd k (show ¬(4:Int)≤0 by decide),fun k=>absurd k (show ¬(5:Int)≤0 by decide),fun _=>rfl,fun _=>rfl,fun _=>rfl,fun k=>absurd k (show ¬false=true by decide)⟩⟩
theorem F7a(c:Cf)(a:Aim):¬act c (A0a.new a):=fun h=>by have:=h.2.1;cases this
end
theorem B5f{c:Cf}(hc:c.ok){part i:Int}(h:0≤A0r c part i):InC c (A0r c part i)∧A5b c (A0r c part i)=part:=by
 obtain⟨h1,h2,h3,h4⟩:=D1w c h
 refine⟨⟨h,h4⟩,?_⟩
 unfold A5b
 rw[if_neg (by omega),h3,Int.add_comm,Int.add_mul_ediv_right _ _ (by have:=hc.2.1;omega),Int.ediv_eq_zero_of_lt h2.1 h2.2]
 simp
def G8f(c:Cf)(t:Tm):Prop:=(0≤t.name∧t.name<c.c2)∧(t.side=0∨t.side=1)∧(1≤t.A0k∧t.A0k≤9999)∧(1≤t.least∧t.least≤9999)∧0≤t.A1o∧t.A1o≤1000000
structure A4i(S:WS)(part:Int)(pr:PrS):Prop where
 b1:pr.a.kind=1→1≤pr.pc→0≤A0r S.c part pr.a.cell∧G8f S.c pr.a.tm∧1≤pr.a.qty∧pr.a.qty≤9999
 b2:pr.a.kind=1→pr.pc=2∨pr.pc=3→(stx S (A0r S.c part pr.a.cell)).live=false∧pr.st=⟨1,false,(stx S (A0r S.c part pr.a.cell)).g+1,pr.a.qty,0⟩∧(stx S (A0r S.c part pr.a.cell)).g<S.c.c6
 b3:pr.a.kind=1→pr.pc=3→tmx S (A0r S.c part pr.a.cell)=pr.a.tm
 b4:pr.a.kind=1→4≤pr.pc→pr.done=0→pr.tries%2=1→pr.st=A0l pr.word
 b5:pr.a.kind=1→pr.pc<4→pr.tries=0
 k1:pr.a.kind=2→1≤pr.pc→0≤A0r S.c part pr.a.cell
 k2:pr.a.kind=2→pr.pc=2∨pr.pc=4∨pr.pc=6→pr.done=0→pr.st=A0l pr.word
theorem A4i.adv{S S':WS}{part:Int}{pr:PrS}{own rel:Int→Prop}(hc:S.c.ok)(I:A4i S part pr)(A:Adv S S' own rel)
  (ho:∀y,A5b S.c y=part→¬own y):A4i S' part pr:=by
 refine⟨fun a b=>?_,fun a b=>?_,fun a b=>?_,I.b4,I.b5,fun a b=>?_,I.k2⟩<;>rw[A.c]
 ·exact I.b1 a b
 ·obtain⟨k1,k2⟩:=B5f hc (I.b1 a (by omega)).1
  have k:=I.b2 a b
  rw[(A.dead _ k1 k.1 (ho _ k2)).1];exact k
 ·obtain⟨k1,k2⟩:=B5f hc (I.b1 a (by omega)).1
  rw[(A.dead _ k1 (I.b2 a (.inr b)).1 (ho _ k2)).2];exact I.b3 a b
 ·exact I.k1 a b
theorem A4i.n{S:WS}{part:Int}{pr:PrS}(I:A4i S part pr)(n:Int):A4i S part {pr with n:=n}:=⟨I.b1,I.b2,I.b3,I.b4,I.b5,I.k1,I.k2⟩
theorem G3o{pr:PrS}{se:A0j}{S:WS}(h:A6x pr se S=0):0≤A0r S.c se.part pr.a.cell∧G8f S.c pr.a.tm∧1≤pr.a.qty∧pr.a.qty≤9999:=by
 unfold A6x at h
 split at h
 ·exact absurd h (by decide)
 split at h
 ·exact absurd h (by decide)
 rename_i h1
 unfold C7m at h
 split at h
 ·exact absurd h (by decide)
 split at h
 ·exact absurd h (by decide)
 split at h
 ·exact absurd h (by decide)
 split at h
 ·exact absurd h (by decide)
 split at h
 ·exact absurd h (by decide)
 split at h
 ·exact absurd h (by decide)
 unfold G8f
 omega
theorem G5l{s:St}{q m:Int}(h:(A7k s q m).1=0):s.live=false∧s.g<m∧(A7k s q m).2=⟨1,false,s.g+1,q,0⟩:=by
 unfold A7k at h⊢
 split at h
 ·exact absurd h (by decide)
 rename_i c1
 rw[if_neg c1]
 split at h
 ·exact absurd h (by decide)
 rename_i c2
 rw[if_neg c2]
 split at h
 ·exact absurd h (by decide)
 rename_i c3
 rw[if_neg c3]
 exact⟨by simpa using c1,by omega,rfl⟩
def Left(S S':WS)(part:Int):Prop:=WI S'∧Adv S S' (fun y=>A5b S.c y=part) (fun _=>False)
theorem A1z.left{S S':WS}(h:A1z S S')(w:WI S)(part:Int):Left S S' part:=⟨h.wi w,h.adv _ _⟩
theorem G3h{S:WS}{pr:PrS}{se:A0j}(hc:S.c.ok)(w:WI S)(I:A4i S se.part pr)(hk:pr.a.kind=1)(hp:0≤pr.pc∧pr.pc<4):
  Left S (A1u (A0r S.c se.part pr.a.cell) pr se S).S se.part∧((A1u (A0r S.c se.part pr.a.cell) pr se S).r=none→A4i (A1u (A0r S.c se.part pr.a.cell) pr se S).S se.part (A1u (A0r S.c se.part pr.a.cell) pr se S).pr):=by
 have h0:=(A1z.refl S).left w se.part
 have hk2:pr.a.kind=2→False:=fun q=>by rw[hk]at q;cases q
 generalize hx:A0r S.c se.part pr.a.cell=x
 unfold A1u
 split
 ·rename_i hpc
  split
  ·exact⟨h0,fun q=>by cases q⟩
  ·rename_i hq
   have hq:A6x pr se S=0:=by simpa using hq
   have:=G3o hq
   refine⟨h0,fun _=>⟨fun _ _=>this,fun _ q=>?_,fun _ q=>?_,fun _ q=>?_,fun _ q=>I.b5 hk (by omega),fun q=>(hk2 q).elim,fun q=>(hk2 q).elim⟩⟩<;>(dsimp only at q;omega)
 split
 ·rename_i _ hpc
  have b:=I.b1 hk (by omega)
  split
  ·exact⟨h0,fun q=>by cases q⟩
  ·rename_i hq
   have hq:(A7k (A0l (S.word x)) pr.a.qty S.c.c6).1=0:=by simpa using hq
   obtain⟨k1,k2,k3⟩:=G5l hq
   refine⟨h0,fun _=>⟨fun _ _=>b,fun _ q=>?_,fun _ q=>?_,fun _ q=>?_,fun _ q=>I.b5 hk (by omega),fun q=>(hk2 q).elim,fun q=>(hk2 q).elim⟩⟩
   ·dsimp only;rw[k3,hx];exact⟨k1,rfl,k2⟩
   ·dsimp only at q;omega
   ·dsimp only at q;omega
 split
 ·rename_i _ _ hpc
  have b:=I.b1 hk (by omega)
  have d:=I.b2 hk (.inl hpc)
  obtain⟨hin,how⟩:=B5f hc b.1
  rw[hx]at d hin how
  obtain⟨b1,b2,b3,b4,b5,b6⟩:=b.2.1
  have hc2:=hc.2.2.1
  obtain⟨v,hv⟩:=G8s (t:=pr.a.tm) ⟨by omega,by omega,by omega,by omega,by omega⟩
  dsimp only
  simp only[hv,Option.getD_some]
  have hl:=w.len
  have e1:∀y,stx (S.put (2*x+1) v) y=stx S y:=fun y=>by unfold stx WS.word WS.put;dsimp only;rw[B0s (by omega)]
  have e2:∀y,y≠x→tmx (S.put (2*x+1) v) y=tmx S y:=fun y hy=>by unfold tmx WS.B1g WS.put;dsimp only;rw[B0s (by omega)]
  have e3:tmx (S.put (2*x+1) v) x=pr.a.tm:=by
   unfold tmx WS.B1g WS.put;dsimp only
   obtain⟨i1,i2⟩:=hin
   rw[F1l (by omega) (by omega)];exact H3b hv
  have ne:∀y,(stx S y).live=true→y≠x:=fun y hy e=>by rw[e,d.1]at hy;cases hy
  refine⟨⟨⟨w.log,fun y hy=>?_,fun y hy=>?_,fun y hy=>?_,fun y hy=>?_,?_⟩,⟨rfl,fun y hy=>?_,fun y hy q1 q2=>?_,fun y hy q1 _=>?_,fun y hy q1 q2=>?_⟩⟩,fun _=>⟨fun _ _=>b,fun _ q=>?_,fun _ q=>?_,fun _ q=>?_,fun _ q=>I.b5 hk (by omega),fun q=>(hk2 q).elim,fun q=>(hk2 q).elim⟩⟩
  ·show(stx (S.put (2*x+1) v) y).live=true→(A0z S.log).ov y (stx (S.put (2*x+1) v) y).g=false
   rw[e1];exact w.w1 y hy
  ·show ∀g,(stx (S.put (2*x+1) v) y).g<g→(A0z S.log).ov y g=false
   rw[e1];exact w.w0 y hy
  ·show(stx (S.put (2*x+1) v) y).live=true→(A0z S.log).tm y (stx (S.put (2*x+1) v) y).g=tmx (S.put (2*x+1) v) y
   rw[e1];intro q;rw[e2 y (ne y q)];exact w.w2 y hy q
  ·show(stx (S.put (2*x+1) v) y).loose=true→(A0z S.log).lf y (stx (S.put (2*x+1) v) y).g=(stx (S.put (2*x+1) v) y).l
   rw[e1];exact w.w3 y hy
  ·show 2*A0s S.c≤(stw S.words (2*x+1) v).length
   rw[B1x];exact hl
  ·rw[e1];exact Int.le_refl _
  ·rw[e1]at q1⊢;exact⟨q1,rfl,e2 y (ne y q1)⟩
  ·rw[e1];exact⟨q1,rfl,rfl,rfl⟩
  ·exact⟨e1 y,e2 y fun e=>q2 (by rw[e];exact how)⟩
  ·show(stx (S.put (2*x+1) v) (A0r S.c se.part pr.a.cell)).live=false∧pr.st=⟨1,false,(stx (S.put (2*x+1) v) (A0r S.c se.part pr.a.cell)).g+1,pr.a.qty,0⟩∧(stx (S.put (2*x+1) v) (A0r S.c se.part pr.a.cell)).g<S.c.c6
   rw[e1,hx];exact d
  ·show tmx (S.put (2*x+1) v) (A0r S.c se.part pr.a.cell)=pr.a.tm
   rw[hx];exact e3
  ·dsimp only at q;omega
 split
 ·rename_i _ _ _ hpc
  have b:=I.b1 hk (by omega)
  have d:=I.b2 hk (.inr hpc)
  have t:=I.b3 hk hpc
  obtain⟨hin,how⟩:=B5f hc b.1
  rw[hx]at d t hin how
  have hc6:=hc.2.2.2.2.2.2
  have hg:0≤(stx S x).g:=(B8p _).2.1.1
  have hst:=d.2.1
  obtain⟨v,hv⟩:=F6j (g:=(stx S x).g+1) (q:=pr.a.qty) (by omega) (by omega)
  rw[←hst]at hv
  dsimp only
  simp only[hv,Option.getD_some]
  generalize he:({Ev.zero with kind:=1,cell:=x,gen:=pr.st.g,tm:=pr.a.tm,qty:=pr.a.qty}:Ev)=e
  have o:=B5o hin v ((S.put (2*x) v).tell e) rfl rfl
  have es:=B0l w hin (B4h hv) ((S.put (2*x) v).tell e) rfl
  have lg:((S.put (2*x) v).tell e).log=S.log++[{e with tick:=S.now}]:=rfl
  have hg2:pr.st.g=(stx S x).g+1:=by rw[hst]
  have g0:A0z ((S.put (2*x) v).tell e).log={A0z S.log with tm:=up2 (A0z S.log).tm x pr.st.g pr.a.tm,lf:=up2 (A0z S.log).lf x pr.st.g pr.a.qty}:=by
   rw[lg,B5x,←he];rfl
  have hok:D7v S.c (A0z S.log) {e with tick:=S.now}:=by
   subst he
   exact⟨fun q=>absurd q (by dsimp only;decide),fun q=>absurd q (by dsimp only;decide),fun q=>absurd q (by dsimp only;decide)⟩
  generalize (S.put (2*x) v).tell e=S' at o es lg g0⊢
  have lfz:∀y,y≠x→∀g,(A0z S'.log).lf y g=(A0z S.log).lf y g:=fun y hy g=>by rw[g0];exact D0s _ _ _ _ hy _
  refine⟨⟨o.wi w (by rw[lg];exact B1i _ _ _ _ w.log hok) (fun y hy g=>by rw[g0]) (fun y hy g=>by rw[g0];exact D0s _ _ _ _ hy _) (fun y hy _ _=>lfz y hy _) ?_ ?_ ?_ ?_,o.adv hin ?_ ?_ ?_ ?_ ?_⟩,fun _=>⟨fun _ _=>?_,fun _ q=>?_,fun _ q=>?_,fun _ q=>?_,fun _ q=>I.b5 hk (by omega),fun q=>(hk2 q).elim,fun q=>(hk2 q).elim⟩⟩
  ·intro _;rw[es,g0];exact w.w0 _ hin _ (by omega)
  ·intro g hg;rw[es]at hg;rw[g0];exact w.w0 _ hin _ (by omega)
  ·intro _;rw[es,g0,t];exact D8i _ _ _ _
  ·intro _;rw[es,g0];show up2 _ _ _ _ _ _=_;rw[D8i,hst]
  ·rw[es,hg2];omega
  ·intro _ q;rw[es,hg2]at q;omega
  ·intro q;rw[(D8e d.1).2]at q;cases q
  ·intro _ q;exact absurd how q
  ·intro y hy q _
   exact lfz y (fun e=>by rw[e,(D8e d.1).2]at q;cases q) _
  ·rw[o.c];exact b
  ·dsimp only at q;omega
  ·dsimp only at q;omega
  ·intro _ q;have:=I.b5 hk (by omega);dsimp only at q;omega
 ·omega
theorem G9m{S S':WS}{x:Int}(w:WI S)(hx:InC S.c x)(o:C1t S S' x)(s0:(stx S x).live=true)(t1:(stx S' x).g=(stx S x).g)(t2:(stx S' x).l=(stx S x).l)
  (t3:(stx S' x).loose=(stx S x).loose) (t4:(stx S' x).held=(stx S x).held) (lg:A0z S'.log=A0z S.log) (al:C9e S.c LG.zero S'.log):WI S'∧∀own rel,Adv S S' own rel:=by
 refine⟨o.wi w al (fun _ _ _=>by rw[lg]) (fun _ _ _=>by rw[lg]) (fun _ _ _ _=>by rw[lg]) ?_ ?_ ?_ ?_,fun own rel=>o.adv hx ?_ ?_ ?_ ?_ (fun _ _ _ _=>by rw[lg])⟩
 ·intro _;rw[lg,t1];exact w.w1 _ hx s0
 ·rw[lg,t1];exact w.w0 _ hx
 ·intro _;rw[lg,t1];exact w.w2 _ hx s0
 ·intro q;rw[lg,t1,t2];exact w.w3 _ hx (by rw[←t3];exact q)
 ·rw[t1];exact Int.le_refl _
 ·intro _ _;exact⟨s0,t1⟩
 ·intro q _;exact⟨by rw[t4];exact q,t1,t2⟩
 ·intro q;rw[s0]at q;cases q
theorem endL{S S':WS}{x:Int}{e:Ev}(w:WI S)(hx:InC S.c x)(o:C1t S S' x)(s0:(stx S x).loose=true)(t1:(stx S' x).g=(stx S x).g)(t2:(stx S' x).live=false)
  (lg:S'.log=S.log++[e]) (ek:e.kind=5∨e.kind=3∨e.kind=7) (ec:e.cell=x) (eg:e.gen=(stx S x).g) (ex:e.kind=5→(tmx S x).A1o≤e.tick):WI S'∧∀own rel,Adv S S' own rel:=by
 have s1:=St.B3m s0
 have g0:A0z S'.log={A0z S.log with ov:=up2 (A0z S.log).ov x (stx S x).g true}:=by
  rw[lg,B5x];unfold D5f;rw[if_neg (by omega),if_neg (by omega),if_pos ek,ec,eg]
 have ov:(A0z S.log).ov e.cell e.gen=false:=by rw[ec,eg];exact w.w1 _ hx s1
 have okE:D7v S.c (A0z S.log) e:=⟨fun q=>by omega,fun q=>⟨ov,by rw[ec,eg,w.w2 _ hx s1];exact ex q⟩,fun _=>ov⟩
 refine⟨o.wi w (by rw[lg];exact B1i _ _ _ _ w.log okE) (fun y hy g=>by rw[g0];exact D0s _ _ _ _ hy _) (fun _ _ _=>by rw[g0]) (fun _ _ _ _=>by rw[g0]) ?_ ?_ ?_ ?_,
  fun own rel=>o.adv hx ?_ ?_ ?_ ?_ (fun _ _ _ _=>by rw[g0])⟩
 ·intro q;rw[t2]at q;cases q
 ·intro g hg;rw[t1]at hg;rw[g0];show up2 _ _ _ _ _ _=_;rw[H0m _ _ _ _ _ (by omega)];exact w.w0 _ hx _ hg
 ·intro q;rw[t2]at q;cases q
 ·intro q;rw[(D8e t2).1]at q;cases q
 ·rw[t1];exact Int.le_refl _
 ·intro q;rw[t2]at q;cases q
 ·intro q;rw[St.B0u s0]at q;cases q
 ·intro q;rw[s1]at q;cases q
theorem E1f{s:St}(h:(A2v s).1=0):s.k=1∧(A2v s).2={s with k:=2}:=by
 unfold A2v at h⊢
 split at h
 ·rename_i q;rw[if_pos q];exact⟨q,rfl⟩
 ·exact absurd h (by decide)
theorem G7q{S:WS}{pr:PrS}{part:Int}(hc:S.c.ok)(w:WI S)(I:A4i S part pr)(hk:pr.a.kind=1)(hp:4≤pr.pc)(hd:0≤pr.done):
  Left S (A1n (A0r S.c part pr.a.cell) pr S).2.2 part∧A4i (A1n (A0r S.c part pr.a.cell) pr S).2.2 part (A1n (A0r S.c part pr.a.cell) pr S).2.1:=by
 have h0:=(A1z.refl S).left w part
 have hk2:pr.a.kind=2→False:=fun q=>by rw[hk]at q;cases q
 have b:=I.b1 hk (by omega)
 obtain⟨hin,how⟩:=B5f hc b.1
 generalize hx:A0r S.c part pr.a.cell=x at*
 have mk:∀(S':WS) (t d:Int) (u:Nat) (st:St),S'.c=S.c→(d=0→t%2=1→st=A0l u)→A4i S' part {pr with tries:=t,done:=d,word:=u,st:=st}:=fun S' t d u st e h=>
  ⟨fun _ _=>by rw[e,hx];exact b,fun _ q=>by dsimp only at q;omega,fun _ q=>by dsimp only at q;omega,fun _ _=>h,fun _ q=>by dsimp only at q;omega,fun q=>(hk2 q).elim,fun q=>(hk2 q).elim⟩
 unfold A1n
 split
 ·exact⟨h0,I⟩
 split
 ·rename_i q;exact⟨h0,mk S _ _ _ _ rfl fun z=>by omega⟩
 split
 ·exact⟨h0,mk S _ pr.done _ _ rfl fun _ _=>rfl⟩
 rename_i q1 q2
 split
 ·exact⟨h0,mk S _ 1 _ _ rfl fun z=>by omega⟩
 split
 ·exact⟨h0,mk S _ _ _ _ rfl fun _ z=>by omega⟩
 rename_i q3 q4
 have q4:(A2v pr.st).1=0:=by simpa using q4
 obtain⟨p1,p2⟩:=E1f q4
 have p3:=I.b4 hk hp (by omega) (by omega)
 split
 ·rename_i ht
  obtain⟨v,h1,h2,h3⟩:=B2y ht
  rw[h3]
  have hs:stx S x=pr.st:=by unfold stx;rw[h2,p3]
  have hv:=B4h h1
  rw[p2]at hv
  generalize he:({Ev.zero with kind:=6,cell:=x,gen:=(A2v pr.st).2.g}:Ev)=e
  have o:=B5o hin v (({S with words:=stw S.words (2*x) v}:WS).tell e) rfl rfl
  have es:=B0l w hin hv (({S with words:=stw S.words (2*x) v}:WS).tell e) rfl
  have lg:(({S with words:=stw S.words (2*x) v}:WS).tell e).log=S.log++[{e with tick:=S.now}]:=rfl
  have g0:A0z (({S with words:=stw S.words (2*x) v}:WS).tell e).log=A0z S.log:=by rw[lg,B5x,←he];rfl
  have hok:D7v S.c (A0z S.log) {e with tick:=S.now}:=by
   subst he
   exact⟨fun q=>absurd q (by dsimp only;decide),fun q=>absurd q (by dsimp only;decide),fun q=>absurd q (by dsimp only;decide)⟩
  have k:=G9m w hin o (by rw[hs];unfold St.live;rw[p1];rfl) (by rw[es,hs]) (by rw[es,hs]) (by rw[es,hs];unfold St.loose;rw[p1];rfl) (by rw[es,hs];unfold St.held;rw[p1];rfl) g0 (by rw[lg];exact B1i _ _ _ _ w.log hok)
  exact⟨⟨k.1,k.2 _ _⟩,mk _ _ 1 _ _ rfl fun z=>by omega⟩
 ·exact⟨h0,mk S _ _ _ _ rfl fun _ z=>by omega⟩
theorem E6y{s:St}(h:(A1i s).1=0):(s.loose=true∧(A1i s).2={s with k:=6})∨(s.held=true∧(A1i s).2={s with f:=true}):=by
 unfold A1i at h⊢
 split at h
 ·rename_i q;rw[if_pos q];exact .inl ⟨by unfold St.loose;simpa using q,rfl⟩
 ·rename_i q
  rw[if_neg q]
  split at h
  ·rename_i r;rw[if_pos r];exact .inr ⟨by unfold St.held;simpa using r,rfl⟩
  ·exact absurd h (by decide)
theorem G1t{S:WS}{pr:PrS}{se:A0j}(w:WI S){x:Int}(hin:InC S.c x)(hd:0≤pr.done)(h:pr.done=0→pr.st=A0l pr.word)(part:Int):
  Left S (A3h x pr se S).2 part∧(A3h x pr se S).2.c=S.c∧(A3h x pr se S).1.a=pr.a:=by
 have h0:=(A1z.refl S).left w part
 unfold A3h
 split
 ·exact⟨h0,rfl,rfl⟩
 split
 ·exact⟨h0,rfl,rfl⟩
 split
 ·exact⟨h0,rfl,rfl⟩
 split
 ·exact⟨h0,rfl,rfl⟩
 rename_i q1 q2 q3 q4
 have h:=h (by omega)
 have q4:(S.turn x pr.word (A1i pr.st).2).1=true:=by simpa using q4
 have q2:B6n pr se≠0∧pr.st.g=B6n pr se∧(A1i pr.st).1=0:=by omega
 obtain⟨v,h1,h2,h3⟩:=B2y q4
 rw[h3]
 have hs:stx S x=pr.st:=by unfold stx;rw[h2,h]
 have hv:=B4h h1
 have ho:∀e,C1t S (({S with words:=stw S.words (2*x) v}:WS).tell e) x:=fun e=>B5o hin v _ rfl rfl
 have hes:∀e,stx (({S with words:=stw S.words (2*x) v}:WS).tell e) x=(A1i pr.st).2:=fun e=>B0l w hin hv _ rfl
 rcases E6y q2.2.2 with⟨c1,c2⟩|⟨c1,c2⟩
 ·have cf:(A1i pr.st).2.f=false:=by rw[c2];simpa using q3
  rw[cf,if_neg (by decide)]
  refine⟨?_,rfl,rfl⟩
  have k:=endL w hin (ho {Ev.zero with kind:=3,cell:=x,gen:=B6n pr se}) (by rw[hs];exact c1) (by rw[hes,hs,c2]) (by rw[hes,c2];rfl) rfl (.inr (.inl rfl)) rfl (by rw[hs];exact q2.2.1.symm) (fun q=>absurd q (by dsimp only;decide))
  exact⟨k.1,k.2 _ _⟩
 ·have cf:(A1i pr.st).2.f=true:=by rw[c2]
  rw[cf,if_pos rfl]
  refine⟨?_,rfl,rfl⟩
  have hok:D7v S.c (A0z S.log) {({Ev.zero with kind:=4,cell:=x,gen:=B6n pr se}:Ev)with tick:=S.now}:=
   ⟨fun q=>absurd q (by dsimp only;decide),fun q=>absurd q (by dsimp only;decide),fun q=>absurd q (by dsimp only;decide)⟩
  have lo:pr.st.loose=false:=by cases e:pr.st.loose with
   |false=>rfl
   |true=>rw[St.B0u e]at c1;cases c1
  have k:=G9m w hin (ho {Ev.zero with kind:=4,cell:=x,gen:=B6n pr se}) (by rw[hs];exact St.B9h c1) (by rw[hes,hs,c2]) (by rw[hes,hs,c2]) (by rw[hes,hs,c2];rfl) (by rw[hes,hs,c2];rfl) (by show A0z (S.log++_)=_;rw[B5x];rfl) (B1i _ _ _ _ w.log hok)
  exact⟨k.1,k.2 _ _⟩
theorem A4i.kind{S:WS}{part:Int}{pr:PrS}(h1:pr.a.kind≠1)(h2:pr.a.kind≠2):A4i S part pr:=
 ⟨fun q=>absurd q h1,fun q=>absurd q h1,fun q=>absurd q h1,fun q=>absurd q h1,fun q=>absurd q h1,fun q=>absurd q h2,fun q=>absurd q h2⟩
theorem G0c{S:WS}{pr:PrS}{se:A0j}(hc:S.c.ok)(w:WI S)(I:A4i S se.part pr)(hk:pr.a.kind=2)(hp:0≤pr.pc)(hd:0≤pr.done):
  Left S (A1m (A0r S.c se.part pr.a.cell) pr se S).S se.part∧((A1m (A0r S.c se.part pr.a.cell) pr se S).r=none→A4i (A1m (A0r S.c se.part pr.a.cell) pr se S).S se.part (A1m (A0r S.c se.part pr.a.cell) pr se S).pr):=by
 have h0:=(A1z.refl S).left w se.part
 have hk1:∀k,k=pr.a.kind→k=1→False:=fun k q r=>by omega
 generalize hx:A0r S.c se.part pr.a.cell=x
 have mk:∀(S':WS) (p:PrS),S'.c=S.c→p.a=pr.a→0≤x→(p.pc=2∨p.pc=4∨p.pc=6→p.done=0→p.st=A0l p.word)→A4i S' se.part p:=by
  intro S' p e1 e2 e3 e4
  have n1:p.a.kind=1→False:=fun q=>by rw[e2]at q;omega
  exact⟨fun q=>(n1 q).elim,fun q=>(n1 q).elim,fun q=>(n1 q).elim,fun q=>(n1 q).elim,fun q=>(n1 q).elim,fun _ _=>by rw[e1,e2,hx];exact e3,fun _=>e4⟩
 unfold A1m
 split
 ·rename_i hpc
  split
  ·exact⟨h0,fun q=>by cases q⟩
  ·exact⟨h0,fun _=>mk S _ rfl rfl (by omega) fun q=>by dsimp only[A8g]at q;omega⟩
 rename_i p0
 have hx0:0≤x:=by rw[←hx];exact I.k1 hk (by omega)
 split
 ·refine⟨h0,fun _=>mk S _ rfl ?_ hx0 fun _ q=>?_⟩
  ·dsimp only[A8g];split<;>rfl
  ·dsimp only[A8g]at q⊢
   split at q
   ·rename_i q1;rw[if_pos q1]
   ·rename_i q1;exact absurd q q1
 split
 ·rename_i p1 p2
  have hin:=(B5f hc (by rw[hx];exact hx0:0≤A0r S.c se.part pr.a.cell)).1
  rw[hx]at hin
  obtain⟨k1,k2,k3⟩:=G1t (se:=se) w hin hd (I.k2 hk p2) se.part
  exact⟨k1,fun _=>mk _ _ k2 k3 hx0 fun q=>by dsimp only[A8g]at q;omega⟩
 split
 ·have hs:A1z S (if pr.done=1 then A7o S x pr.st.g S.c.c5 (A7s pr.st pr.at_)else S):=by
   split
   ·exact A9p hc _ _ _ _
   ·exact A1z.refl S
  exact⟨hs.left w _,fun _=>mk _ _ hs.c rfl hx0 fun q=>by dsimp only[A8g]at q;omega⟩
 ·exact⟨h0,fun q=>by cases q⟩
def D8r(c:Cf)(o:Option A0a)(y:Int):Prop:=∃P,o=some P∧act c P∧y=P.a.x
structure C0f(S:WS)(o:Option A0a)(T:WS)(o':Option A0a):Prop where
 wi:WI T
 adv:Adv S T (fun _=>False) (D8r S.c o)
 i:∀P,o'=some P→B0z T P
 new:∀P,o'=some P→act S.c P→D8r S.c o P.a.x∨(InC S.c P.a.x∧(stx S P.a.x).loose=true)
theorem Adv.E9s{S S':WS}{own rel own' rel':Int→Prop}(A:Adv S S' own rel)(h1:∀y,own y→own' y)(h2:∀y,rel y→rel' y):Adv S S' own' rel':=
 ⟨A.c,A.mono,A.tms,fun x hx a b=>A.held x hx a fun q=>b (h2 _ q),fun x hx a b=>A.dead x hx a fun q=>b (h1 _ q)⟩
theorem C0f.same{S:WS}{o:Option A0a}(w:WI S)(J:∀P,o=some P→B0z S P):C0f S o S o:=
 ⟨w,(A1z.refl S).adv _ _,J,fun P h a=>.inl ⟨P,h,a,rfl⟩⟩
theorem C0f.step{S:WS}{o:Option A0a}{P:A0a}(hc:S.c.ok)(w:WI S)(J:B0z S P)(hr:act S.c P→D8r S.c o P.a.x):C0f S o (A2s P S).2 (some (A2s P S).1):=by
 have k:=G1p hc w J
 refine⟨k.wi,k.adv.E9s (fun _ q=>q) fun y q=>by rw[q.2];exact hr q.1,fun Q e=>by cases e;exact k.i,fun Q e a=>?_⟩
 cases e
 rw[k.a]
 exact(k.new a).imp hr id
theorem F0v{S:WS}{pr:PrS}{o:Option A0a}{ss:A0g}{po:A0c}(hc:S.c.ok)(w:WI S)(J:∀P,o=some P→B0z S P):
  C0f S o (A1p pr o ss po S).S (A1p pr o ss po S).o∧((A1p pr o ss po S).b=false→(A1p pr o ss po S).S=S):=by
 have hnew:∀(n:Int) (a:Aim) (ss:A0g) (po:A0c),C0f S o (A2a n (some (A0a.new a)) ss po S).S (A2a n (some (A0a.new a)) ss po S).o∧((A2a n (some (A0a.new a)) ss po S).b=false→(A2a n (some (A0a.new a)) ss po S).S=S):=by
  intro n a ss po
  unfold A2a
  dsimp only
  rw[if_neg (show ¬(A0a.new a).pc≥14 by show ¬(0:Int)≥14;decide)]
  exact⟨C0f.step hc w (B0z.new S a) fun q=>(F7a _ _ q).elim,fun q=>by cases q⟩
 unfold A1p
 split
 ·split
  ·exact hnew _ _ _ _
  ·exact hnew _ _ _ _
 ·unfold A2a
  cases o with
  |none=>exact⟨.same w J,fun _=>rfl⟩
  |some P=>
   dsimp only
   split
   ·exact⟨.same w J,fun _=>rfl⟩
   ·exact⟨C0f.step hc w (J P rfl) fun q=>⟨P,rfl,q,rfl⟩,fun q=>by cases q⟩
structure G1d(S:WS)(part:Int)(o:Option A0a)(R:StA):Prop where
 wi:WI R.S
 adv:Adv S R.S (fun y=>A5b S.c y=part) (D8r S.c o)
 i:R.r=none→∀P,R.o=some P→B0z R.S P
 new:R.r=none→∀P,R.o=some P→act S.c P→D8r S.c o P.a.x∨(InC S.c P.a.x∧(stx S P.a.x).loose=true)
 prog:R.r=none→A4i R.S part R.pr
theorem Left.k{S:WS}{part:Int}{o:Option A0a}{R:StA}(h:Left S R.S part)(J:∀P,o=some P→B0z S P)(ho:R.o=o)(hp:R.r=none→A4i R.S part R.pr):G1d S part o R:=
 ⟨h.1,h.2.E9s (fun _ q=>q) fun _ q=>q.elim,fun _ P e=>(J P (by rw[←ho];exact e)).adv h.2 fun _ q=>q,fun _ P e a=>.inl ⟨P,by rw[←ho];exact e,a,rfl⟩,hp⟩
theorem G4o{S:WS}{pr:PrS}{o:Option A0a}{se:A0j}{ss:A0g}{po:A0c}(hc:S.c.ok)(w:WI S)(I:A4i S se.part pr)(J:∀P,o=some P→B0z S P)(hp:0≤pr.pc)(hd:0≤pr.done):
  G1d S se.part o (A2z pr o se ss po S):=by
 have h0:=(A1z.refl S).left w se.part
 unfold A2z
 split
 ·rename_i hk
  unfold A9c
  split
  ·rename_i hpc
   have k:=G3h hc w I hk ⟨hp,hpc⟩
   exact k.1.k J rfl k.2
  ·rename_i hpc
   obtain⟨k,kb⟩:=F0v (pr:=pr) (ss:=ss) (po:=po) hc w J
   generalize A1p pr o ss po S=T at*
   have cS:A0r T.S.c se.part pr.a.cell=A0r S.c se.part pr.a.cell:=by rw[k.adv.c]
   unfold B1t
   split
   ·exact⟨k.wi,k.adv.E9s (fun _ q=>q.elim) fun _ q=>q,fun _=>k.i,fun _=>k.new,fun _=>(I.adv hc k.adv fun _ _ q=>q).n T.n⟩
   ·rename_i hb
    have hb:T.b=false:=by simpa using hb
    have eS:=kb hb
    have r:=G7q (pr:={pr with n:=T.n}) hc w (I.n T.n) hk (by show 4≤pr.pc;omega) hd
    have kj:=k.i
    rw[eS]at kj⊢
    have f:∀R:StA,R.S=(A1n (A0r S.c se.part pr.a.cell) {pr with n:=T.n} S).2.2→R.pr=(A1n (A0r S.c se.part pr.a.cell) {pr with n:=T.n} S).2.1→R.o=T.o→G1d S se.part o R:=by
     intro R e1 e2 e3
     have r2:Adv S R.S (fun y=>A5b S.c y=se.part) (fun _=>False):=by rw[e1];exact r.1.2
     exact⟨by rw[e1];exact r.1.1,r2.E9s (fun _ q=>q) fun _ q=>q.elim,fun _ P e=>(kj P (by rw[←e3];exact e)).adv r2 fun _ q=>q,fun _ P e a=>k.new P (by rw[←e3];exact e) a,fun _=>by rw[e1,e2];exact r.2⟩
    split
    ·exact f _ rfl rfl rfl
    ·exact f _ rfl rfl rfl
 split
 ·rename_i hk
  have k:=G0c hc w I hk hp hd
  exact k.1.k J rfl k.2
 split
 ·rename_i n1 n2 hk
  have k:(A2m (A0r S.c se.part pr.a.cell) pr se S).S=S∧(A2m (A0r S.c se.part pr.a.cell) pr se S).pr.a=pr.a:=by
   unfold A2m
   split
   ·exact⟨rfl,rfl⟩
   split
   ·exact⟨rfl,rfl⟩
   split
   ·split
    ·exact⟨rfl,rfl⟩
    ·exact⟨rfl,rfl⟩
   split
   ·exact⟨rfl,rfl⟩
   ·exact⟨rfl,rfl⟩
  refine Left.k ?_ J rfl fun _=>A4i.kind ?_ ?_
  ·show Left S (A2m _ pr se S).S se.part
   rw[k.1];exact h0
  ·show(A2m _ pr se S).pr.a.kind≠1
   rw[k.2];exact n1
  ·show(A2m _ pr se S).pr.a.kind≠2
   rw[k.2];exact n2
 split
 ·rename_i n1 n2 _ hk
  have k:(A2j pr se S).S=S∧(A2j pr se S).pr.a=pr.a:=by
   unfold A2j
   split
   ·exact⟨rfl,rfl⟩
   split
   ·exact⟨rfl,rfl⟩
   ·exact⟨rfl,rfl⟩
  refine Left.k ?_ J rfl fun _=>A4i.kind ?_ ?_
  ·show Left S (A2j pr se S).S se.part
   rw[k.1];exact h0
  ·show(A2j pr se S).pr.a.kind≠1
   rw[k.2];exact n1
  ·show(A2j pr se S).pr.a.kind≠2
   rw[k.2];exact n2
 ·exact Left.k h0 J rfl fun q=>by cases q
section
structure Part(G:Nat→Option D)(L:List D)(lab:Nat→Nat)(w m k:Nat)(S:WS)(za swa rea:List Nat)(ss:List A1e)(sw:List (SwS × Option A0a))(re:List ReS):Prop where
 W:InW L w m k S
 l0:lab w=0∧lab m=0∧lab k=0
 zl:za.length=ss.length
 swl:swa.length=sw.length
 rel:rea.length=re.length
 ss:∀i x z,ss[i]?=some x→za[i]?=some z→∀pl,B4l L lab (4*i+1) pl z x
 sw:∀i x z,sw[i]?=some x→swa[i]?=some z→E4s L lab (4*i+2) z x
 re:∀i x z,re[i]?=some x→rea[i]?=some z→E5a L lab (4*i+3) z x
 pre:∀b x,G b=some x→b<L.length∧lab b=4∧L.getD b D.nil=x
section
variable{G:Nat→Option D}{L L':List D}{lab:Nat→Nat}{w m k:Nat}{S:WS}{za swa rea:List Nat}{ss:List A1e}{sw:List (SwS × Option A0a)}{re:List ReS}(Q:Part G L lab w m k S za swa rea ss sw re)
include Q
theorem Part.fr(n:Nat)(F:Fr L L' (fun _=>False)):Part G L' (A4h lab n L) w m k S za swa rea ss sw re:=by
 obtain⟨h1,h2,h3⟩:=Q.W.lt
 obtain⟨l1,l2,l3⟩:=Q.l0
 exact⟨Q.W.fr F not_false not_false not_false,by rw[A2y F h1,A2y F h2,A2y F h3];exact⟨l1,l2,l3⟩,Q.zl,Q.swl,Q.rel,fun i x z hx hz pl=>(Q.ss i x z hx hz pl).fr F (fun _ _ _=>not_false),fun i x z hx hz=>(Q.sw i x z hx hz).fr F (fun _ _ _=>not_false),fun i x z hx hz=>(Q.re i x z hx hz).fr F (fun _ _ _=>not_false),fun b x hb=>⟨Nat.lt_of_lt_of_le (Q.pre b x hb).1 F.1,by rw[A2y F (Q.pre b x hb).1];exact(Q.pre b x hb).2.1,(F.2 b (Q.pre b x hb).1 not_false).trans (Q.pre b x hb).2.2⟩⟩
theorem D8j{α:Type}{l:List α}{x y:α}{i:Nat}(h:(l++[x])[i]?=some y):l[i]?=some y∨(i=l.length∧x=y):=by
 rcases Nat.lt_or_ge i l.length with hi|hi
 ·rw[List.getElem?_append_left hi]at h;exact .inl h
 ·rw[List.getElem?_append_right hi]at h
  rcases Nat.eq_or_lt_of_le hi with he|he
  ·subst he
   simp at h
   exact .inr ⟨rfl,h⟩
  ·rw[List.getElem?_eq_none (by simp;omega)]at h;cases h
theorem E3u{α:Type}{l:List α}{y:α}{i:Nat}(h:l[i]?=some y):i<l.length:=by
 rcases Nat.lt_or_ge i l.length with hi|hi
 ·exact hi
 ·rw[List.getElem?_eq_none hi]at h;cases h
theorem Part.addS(x:A1e)(hx:x.now=none):Part G ((L++[D.agg x.se.ds])++[D.agg (x.raw (.int (L.length:Nat)) .nil).ds]) (A4h lab (4*za.length+1) L) w m k S (za++[L.length+1]) swa rea (ss++[x]) sw re:=by
 have F:Fr L ((L++[D.agg x.se.ds])++[D.agg (x.raw (.int (L.length:Nat)) .nil).ds]) (fun _=>False):=(Fr.snoc L _ _).trans (Fr.snoc _ _ _)
 have Q1:=Q.fr (4*za.length+1) F
 refine⟨Q1.W,Q1.l0,by simp[Q.zl],Q1.swl,Q1.rel,fun i y z hy hz pl=>?_,Q1.sw,Q1.re,Q1.pre⟩
 rcases D8j Q hy with hy|⟨hi,hy⟩
 ·have hz':za[i]?=some z:=by
   have:=E3u Q hy
   rw[List.getElem?_append_left (by rw[Q.zl];exact this)]at hz;exact hz
  exact Q1.ss i y z hy hz' pl
 ·subst hy
  have hi':i=za.length:=by rw[Q.zl];exact hi
  subst hi'
  simp at hz
  subst hz
  have e1:(L++[D.agg x.se.ds]).length=L.length+1:=by simp
  have g1:((L++[D.agg x.se.ds])++[D.agg (x.raw (.int (L.length:Nat)) .nil).ds]).getD (L.length+1) D.nil=.agg (x.raw (.int (L.length:Nat)) .nil).ds:=by
   have:=A6i (L++[D.agg x.se.ds]) (D.agg (x.raw (.int (L.length:Nat)) .nil).ds)
   rw[e1]at this;exact this
  have g2:((L++[D.agg x.se.ds])++[D.agg (x.raw (.int (L.length:Nat)) .nil).ds]).getD L.length D.nil=.agg x.se.ds:=by
   rw[C7s (by simp)];exact A6i L _
  have hl:∀b,L.length≤b→A4h lab (4*za.length+1) L b=4*za.length+1:=fun b hb=>if_neg (by omega)
  refine⟨L.length,L.length+1,L.length+1,.nil,g1,g2,?_,⟨hl _ (by omega),hl _ (by omega),hl _ (by omega),hl _ (by omega)⟩,by simp,by simp⟩
  rw[hx]
theorem Part.addW(x:SwS × Option A0a)(y:ReS)(hx:x.2=none)(he:swa.length=rea.length):
  Part G ((L++[D.agg (x.1.at .nil).ds])++[D.agg y.ds]) (fun b=>if b<L.length then lab b else if b=L.length then 4*swa.length+2 else 4*swa.length+3) w m k S za (swa++[L.length]) (rea++[L.length+1]) ss (sw++[x]) (re++[y]):=by
 have F1:Fr L (L++[D.agg (x.1.at .nil).ds]) (fun _=>False):=Fr.snoc L _ _
 have F2:Fr (L++[D.agg (x.1.at .nil).ds]) ((L++[D.agg (x.1.at .nil).ds])++[D.agg y.ds]) (fun _=>False):=Fr.snoc _ _ _
 have Q2:=(Q.fr (4*swa.length+2) F1).fr (4*swa.length+3) F2
 have e1:(L++[D.agg (x.1.at .nil).ds]).length=L.length+1:=by simp
 have hlab:A4h (A4h lab (4*swa.length+2) L) (4*swa.length+3) (L++[D.agg (x.1.at .nil).ds])=(fun b=>if b<L.length then lab b else if b=L.length then 4*swa.length+2 else 4*swa.length+3):=by
  funext b
  unfold A4h
  rw[e1]
  by_cases h1:b<L.length
  ·have h2:b<L.length+1:=by omega
   simp only[h1,h2,if_true]
  ·by_cases h2:b=L.length
   ·have h3:b<L.length+1:=by omega
    simp only[h1,h2,h3,if_true,if_false,Nat.lt_irrefl,Nat.lt_succ_self]
   ·have h3:¬b<L.length+1:=by omega
    simp only[h1,h2,h3,if_false]
 rw[hlab]at Q2
 have g1:((L++[D.agg (x.1.at .nil).ds])++[D.agg y.ds]).getD (L.length+1) D.nil=.agg y.ds:=by
  have:=A6i (L++[D.agg (x.1.at .nil).ds]) (D.agg y.ds)
  rw[e1]at this;exact this
 have g2:((L++[D.agg (x.1.at .nil).ds])++[D.agg y.ds]).getD L.length D.nil=.agg (x.1.at .nil).ds:=by
  rw[C7s (by simp)];exact A6i L _
 refine⟨Q2.W,Q2.l0,Q2.zl,by simp[Q.swl],by simp[Q.rel],Q2.ss,fun i z a hz ha=>?_,fun i z a hz ha=>?_,Q2.pre⟩
 ·rcases D8j Q hz with hz|⟨hi,hz⟩
  ·have ha':swa[i]?=some a:=by
    have:=E3u Q hz
    rw[List.getElem?_append_left (by rw[Q.swl];exact this)]at ha;exact ha
   exact Q2.sw i z a hz ha'
  ·subst hz
   have hi':i=swa.length:=by rw[Q.swl];exact hi
   subst hi'
   simp at ha
   subst ha
   refine⟨L.length,.nil,g2,?_,⟨?_,?_⟩,by simp⟩
   ·rw[hx];rfl
   ·show(if L.length<L.length then lab L.length else if L.length=L.length then 4*swa.length+2 else 4*swa.length+3)=_
    rw[if_neg (Nat.lt_irrefl _),if_pos rfl]
   ·show(if L.length<L.length then lab L.length else if L.length=L.length then 4*swa.length+2 else 4*swa.length+3)=_
    rw[if_neg (Nat.lt_irrefl _),if_pos rfl]
 ·rcases D8j Q hz with hz|⟨hi,hz⟩
  ·have ha':rea[i]?=some a:=by
    have:=E3u Q hz
    rw[List.getElem?_append_left (by rw[Q.rel];exact this)]at ha;exact ha
   exact Q2.re i z a hz ha'
  ·subst hz
   have hi':i=rea.length:=by rw[Q.rel];exact hi
   subst hi'
   simp at ha
   subst ha
   refine⟨g1,?_⟩
   show(if L.length+1<L.length then lab (L.length+1)else if L.length+1=L.length then 4*swa.length+2 else 4*swa.length+3)=_
   rw[if_neg (by omega),if_neg (by omega),he]
theorem Part.done(P:A0o)(hS:P.S=S)(h1:P.A0e=ss)(h2:P.sw=sw)(h3:P.re=re):
  Enc G (L++[D.agg (P.raw (.int (w:Nat)) (A0p za) (A0p swa) (A0p rea)).ds]) (A4h lab 0 L) L.length w m k za swa rea P:=by
 have F:Fr L (L++[D.agg (P.raw (.int (w:Nat)) (A0p za) (A0p swa) (A0p rea)).ds]) (fun _=>False):=Fr.snoc L _ _
 have Q1:=Q.fr 0 F
 obtain⟨l1,l2,l3⟩:=Q1.l0
 subst h1 h2 h3
 exact⟨by rw[hS];exact Q1.W,A6i L _,⟨if_neg (Nat.lt_irrefl _),l1,l2,l3⟩,Q1.zl,Q1.swl,Q1.rel,fun i x z hx hz=>Q1.ss i x z hx hz _,Q1.sw,Q1.re,Q1.pre⟩
end
theorem E6o(l:List Nat)(x:Nat):A0p l++[.int (x:Int)]=A0p (l++[x]):=by simp[A0p]
theorem D7y(l:List Nat):(A0p l).length=l.length:=by simp[A0p]
section
variable(c:Cf)(hc:c.ok)
include hc
theorem E6v{G:Nat→Option D}{w m k:Nat}{za:List Nat}{ss:List A1e}(x0 x1 x2 x3 x4 x5 x6 x7 x8 x9 x10 x11 x12 x13 x14 x15 x16 x17 x18 x19 x20 x21 x22 x23:D)(g0:Eng.Fn):∀(d j:Nat) (L:List D) (lab:Nat→Nat) (swa rea:List Nat),(j+d:Int)=A6h c→
  Part G L lab w m k (B6u c) za swa rea ss ((List.range j).map fun(i:Nat)=>B7l i) ((List.range j).map fun(i:Nat)=>C1m i)→
  ∃L' lab' pl swa' rea',B6d x0 x1 x2 x3 x4 x5 x6 x7 x8 x9 x10 x11 x12 x13 x14 x15 x16 x17 x18 x19 x20 x21 x22 x23 (.int (A6h c)) g0 [.int (j:Nat),.int (w:Nat),.int 0,.agg (A0p za),.agg (A0p swa),.agg (A0p rea),.agg L]=some [.int (pl:Nat),.nil,.agg L']∧
   Enc G L' lab' pl w m k za swa' rea' {A1q c with A0e:=ss}
 |0,j,L,lab,swa,rea,h,Q=>by
  have h1:¬(j:Int)<A6h c:=by omega
  have h2:(A6h c).toNat=j:=by omega
  rw[C5c]
  simp only[D.toInt_int,D.A0f,h1,decide_false,Bool.false_eq_true,if_false]
  have E:=Q.done {A1q c with A0e:=ss} rfl rfl (by show(A1q c).sw=_;unfold A1q;rw[h2]) (by show(A1q c).re=_;unfold A1q;rw[h2])
  exact⟨_,_,L.length,swa,rea,rfl,E⟩
 |d+1,j,L,lab,swa,rea,h,Q=>by
  have hs:=C2z c hc
  have h1:(j:Int)<A6h c:=by omega
  have ls:swa.length=j:=by rw[Q.swl];simp
  have lr:rea.length=j:=by rw[Q.rel];simp
  have Q1:=Q.addW (B7l (j:Nat)) (C1m (j:Nat)) rfl (by rw[ls,lr])
  have e1:((List.range j).map fun(i:Nat)=>B7l i)++[B7l (j:Nat)]=(List.range (j+1)).map fun(i:Nat)=>B7l i:=by simp[List.range_succ]
  have e2:((List.range j).map fun(i:Nat)=>C1m i)++[C1m (j:Nat)]=(List.range (j+1)).map fun(i:Nat)=>C1m i:=by simp[List.range_succ]
  rw[e1,e2]at Q1
  obtain⟨L',lab',pl,swa',rea',n1,E⟩:=E6v x0 x1 x2 x3 x4 x5 x6 x7 x8 x9 x10 x11 x12 x13 x14 x15 x16 x17 x18 x19 x20 x21 x22 x23 g0 d (j+1) _ _ _ _ (by omega) Q1
  have ns:FX 26 [.int (j:Nat),.agg L]=some [.int (L.length:Nat),.agg (L++[D.agg ((B7l (j:Nat)).1.at .nil).ds])]:=by
   rw[D1y]
   simp only[D.A0f];rfl
  have nr:FX 27 [.int (j:Nat),.agg (L++[D.agg ((B7l (j:Nat)).1.at .nil).ds])]=some [.int (L.length+1:Nat),.agg ((L++[D.agg ((B7l (j:Nat)).1.at .nil).ds])++[D.agg (C1m (j:Nat)).ds])]:=by
   rw[D5x]
   simp only[D.A0f,List.length_append,List.length_cons,List.length_nil];rfl
  have b1:((A0p (swa++[L.length])).length:Int)≤17592186044416:=by rw[D7y];simp;omega
  have b2:((A0p (rea++[L.length+1])).length:Int)≤17592186044416:=by rw[D7y];simp;omega
  rw[C5c]
  simp only[D.toInt_int,D.A0f,h1,decide_true,if_true,ns,A0q,List.length_cons,List.length_nil,List.getD_cons_zero,List.getD_cons_succ,E6o,b1,E0i,nr,b2,E1i]
  rw[A1a _ (by omega) (by omega)]
  exact⟨L',lab',pl,swa',rea',n1,E⟩
theorem E6a{G:Nat→Option D}{w m k:Nat}(x0 x1 x2 x3 x4 x5 x6 x7 x15 x16 x17 x18:D):∀(d j:Nat) (L:List D) (lab:Nat→Nat) (za:List Nat),(j+d:Int)=c.c0→
  Part G L lab w m k (B6u c) za [] [] ((List.range j).map fun(i:Nat)=>A4e c i) [] []→
  ∃L' lab' pl za' swa' rea',B0i x0 x1 x2 x3 x4 x5 x6 x7 (.int c.c0) (.int c.c1) (.int c.c2) (.int c.c3) (.int c.c4) (.int c.c5) (.int c.c6) x15 x16 x17 x18 [.int (j:Nat),.int (w:Nat),.int 0,.agg (A0p za),.agg L]=some [.int (pl:Nat),.nil,.agg L']∧
   Enc G L' lab' pl w m k za' swa' rea' (A1q c)
 |0,j,L,lab,za,h,Q=>by
  have hs:=C2z c hc
  have h1:¬(j:Int)<c.c0:=by omega
  have h2:c.c0.toNat=j:=by omega
  have hsh:FX 25 [.int c.c0,.int c.c1,.int c.c2,.int c.c3,.int c.c4,.int c.c5,.int c.c6]=some [.int (A6h c)]:=G4n c hc
  have key:=fun x16 x17 x18 x19 x20 x21 x22 x23 g0=>E6v c hc (w:=w) (m:=m) (k:=k) (za:=za) (ss:=(List.range j).map fun(i:Nat)=>A4e c i) x0 x1 x2 x3 x4 x5 x6 x7 (.int c.c0) (.int c.c1) (.int c.c2) (.int c.c3) (.int c.c4) (.int c.c5) (.int c.c6) x15 x16 x17 x18 x19 x20 x21 x22 x23 g0 (A6h c).toNat 0 L lab [] [] (by omega) Q
  rw[C5a]
  simp only[D.toInt_int,D.A0f,h1,decide_false,Bool.false_eq_true,if_false,hsh,A0q,List.length_cons,List.length_nil,List.getD_cons_zero]
  obtain⟨L',lab',pl,swa',rea',n1,E⟩:=key x16 x17 x18 (.int (j:Nat)) (.int (w:Nat)) (.int 0) (.agg (A0p za)) (.agg L) (B0i x0 x1 x2 x3 x4 x5 x6 x7 (.int c.c0) (.int c.c1) (.int c.c2) (.int c.c3) (.int c.c4) (.int c.c5) (.int c.c6) x15 x16 x17 x18)
  refine⟨L',lab',pl,za,swa',rea',n1,?_⟩
  have e:({A1q c with A0e:=(List.range j).map fun(i:Nat)=>A4e c i}:A0o)=A1q c:=by unfold A1q;rw[h2]
  rw[e]at E
  exact E
 |d+1,j,L,lab,za,h,Q=>by
  have hc0:=hc.1
  have h1:(j:Int)<c.c0:=by omega
  have lz:za.length=j:=by rw[Q.zl];simp
  have Q1:=Q.addS (A4e c (j:Nat)) rfl
  have e1:((List.range j).map fun(i:Nat)=>A4e c i)++[A4e c (j:Nat)]=(List.range (j+1)).map fun(i:Nat)=>A4e c i:=by simp[List.range_succ]
  rw[e1]at Q1
  obtain⟨L',lab',pl,za',swa',rea',n1,E⟩:=E6a x0 x1 x2 x3 x4 x5 x6 x7 x15 x16 x17 x18 d (j+1) _ _ _ (by omega) Q1
  have ns:=G6l c hc (j:Nat) L
  have b1:((A0p (za++[L.length+1])).length:Int)≤17592186044416:=by rw[D7y];simp;omega
  have eobj:D.agg [.int (L.length:Nat),.agg [],.nil,.int (-1),.agg [],.int 0]=.agg ((A4e c (j:Nat)).raw (.int (L.length:Nat)) .nil).ds:=rfl
  have es:A6t (j:Nat) c.c1.toNat=(A4e c (j:Nat)).se:=rfl
  have el:(L++[D.agg (A4e c (j:Nat)).se.ds]).length=L.length+1:=by simp
  rw[C5a]
  simp only[D.toInt_int,D.A0f,h1,decide_true,if_true,ns,es,A0q,List.length_cons,List.length_nil,List.getD_cons_zero,List.getD_cons_succ,el,E6o,b1,E2o,eobj]
  rw[A1a _ (by omega) (by omega)]
  exact⟨L',lab',pl,za',swa',rea',n1,E⟩
theorem F6p(L:List D):∃L' lab pl w m k za swa rea,FX 18 [.int c.c0,.int c.c1,.int c.c2,.int c.c3,.int c.c4,.int c.c5,.int c.c6,.agg L]=some [.int (pl:Nat),.nil,.agg L']∧Enc (Gl L) L' lab pl w m k za swa rea (A1q c):=by
 have hc0:=hc.1
 have n1:=E3w c hc
 obtain⟨L1,n2,hl,W1,F1⟩:=H1w c hc L
 have hl1:∀b,L.length≤b→(if b<L.length then 4 else 0)=0:=fun b hb=>if_neg (by omega)
 have Q:Part (Gl L) L1 (fun b=>if b<L.length then 4 else 0) (L.length+2) L.length (L.length+1) (B6u c) [] [] [] ((List.range 0).map fun(i:Nat)=>A4e c i) [] []:=
  ⟨W1,⟨hl1 _ (by omega),hl1 _ (by omega),hl1 _ (by omega)⟩,rfl,rfl,rfl,(fun i x z hx=>by cases hx),(fun i x z hx=>by cases hx),(fun i x z hx=>by cases hx),fun b x hb=>by
   unfold Gl at hb
   split at hb
   ·rename_i h;cases hb;exact⟨Nat.lt_of_lt_of_le h F1.1,if_pos h,F1.2 b h not_false⟩
   ·cases hb⟩
 obtain⟨L',lab',pl,za',swa',rea',n3,E⟩:=E6a c hc (.int c.c0) (.int c.c1) (.int c.c2) (.int c.c3) (.int c.c4) (.int c.c5) (.int c.c6) (.agg L) .nil (.int (L.length+2:Nat)) .nil (.agg L1) c.c0.toNat 0 L1 _ [] (by omega) Q
 refine⟨L',lab',pl,L.length+2,L.length,L.length+1,za',swa',rea',?_,E⟩
 rw[G0z,n1]
 simp only[A0q,List.length_cons,List.length_nil,List.getD_cons_zero,List.getD_cons_succ,B5i,Bool.not_true,Bool.false_eq_true,if_false,n2]
 exact n3
theorem C1u:A4p (A1q c) 0:=by
 have hal:=A6z c hc
 have hs:=C2z c hc
 have hpos:0<A0s c*A0s c:=Int.mul_pos (by omega) (by omega)
 have z:In 0:=In.lit (by decide)
 have hc0:=hc.1
 have hc1:=hc.2.1
 have hf:=A8z hc
 have hg:=C3p hc
 refine⟨⟨⟨hc,fun x hx=>?_,Nat.zero_le _,by have:=E5d c hc;simp[A1q,B6u];omega⟩,fun x hx=>?_,fun x hx=>?_,fun x hx=>?_,Nat.le_refl _,Nat.le_refl _,Nat.le_refl _,fun o ho=>(by cases ho)⟩,rfl,rfl,by simp[A1q],by simp[A1q];omega,by simp[A1q];omega⟩
 ·have:=List.eq_of_mem_replicate hx
  omega
 ·obtain⟨i,hi,rfl⟩:=List.mem_map.1 hx
  refine⟨⟨by simp[A4e,A6t];show max c.c1 0=c.c1;omega,by simp[A4e,A6t];show max c.c1 0=c.c1;omega,by simp[A4e,A6t];show max c.c1 0=c.c1;omega,fun y hy=>?_⟩,⟨Int.le_refl 0,Int.le_refl 0⟩,fun d hd=>(by cases hd),Nat.le_refl _,fun q hq=>(by cases hq),Nat.le_refl _,fun pr o hh=>(by cases hh)⟩
  have:=List.eq_of_mem_replicate hy
  subst this
  show(0≤(1:Int)∧(1:Int)≤c.c6+1)∧0≤(0:Int)∧(0:Int)≤c.c5
  omega
 ·obtain⟨i,hi,rfl⟩:=List.mem_map.1 hx
  exact⟨⟨Int.le_refl 0,hpos⟩,fun P' hP'=>by cases hP'⟩
 ·obtain⟨i,hi,rfl⟩:=List.mem_map.1 hx
  have t:Tm.zero.sm:=by unfold Tm.sm Tm.zero;decide
  have h4:(0:Int)≤0∧(0:Int)<4*A0s c:=by omega
  exact⟨h4,by show 0<_;decide,St.A9b,t,z⟩
end
end
structure ReI(S:WS)(re:ReS):Prop where
 st:re.pc%4=1∨re.pc%4=2→re.st=A0l re.word∧re.st.g≤(stx S (re.pc/4)).g
 tm:re.pc%4=2→(stx S (re.pc/4)).live=true→(stx S (re.pc/4)).g=re.st.g→re.tm=tmx S (re.pc/4)
theorem G9r{re:ReS}{c:Cf}(h:B6v re c):InC c (re.pc/4):=by
 have:=h.pc
 unfold InC;omega
theorem ReI.adv{S S':WS}{re:ReS}{own rel:Int→Prop}(h:ReI S re)(hr:B6v re S.c)(A:Adv S S' own rel):ReI S' re:=by
 have hx:=G9r hr
 refine⟨fun q=>⟨(h.st q).1,Int.le_trans (h.st q).2 (A.mono _ hx)⟩,fun q a b=>?_⟩
 obtain⟨k1,k2,k3⟩:=A.tms _ hx a (by rw[b];exact(h.st (.inr q)).2)
 rw[k3];exact h.tm q k1 (by rw[←k2];exact b)
theorem reN{S:WS}{r:ReS}{c:Cf}(h0:0≤r.pc)(h1:r.pc%4=0∨r.pc%4=1→r.st=A0l r.word∧r.st.g≤(stx S (r.pc/4)).g)
  (h2:r.pc%4=1→(stx S (r.pc/4)).live=true→(stx S (r.pc/4)).g=r.st.g→r.tm=tmx S (r.pc/4)):ReI S (B8q r c):=by
 unfold B8q
 split
 ·exact⟨fun q=>by dsimp only at q;omega,fun q=>by dsimp only at q;omega⟩
 ·have e:∀k,r.pc%4=k→k<3→(r.pc+1)/4=r.pc/4:=fun k a b=>by omega
  refine⟨fun q=>?_,fun q=>?_⟩<;>dsimp only at q⊢
  ·rw[e (r.pc%4) rfl (by omega)];exact h1 (by omega)
  ·rw[e (r.pc%4) rfl (by omega)];exact h2 (by omega)
theorem E7h{s:St}(h:(A1r s).1=0):s.loose=true∧(A1r s).2={s with k:=7}:=by
 unfold A1r at h⊢
 split at h
 ·exact absurd h (by decide)
 ·rename_i q;rw[if_neg q];exact⟨by simpa using q,rfl⟩
theorem G6f{S:WS}{re:ReS}(hc:S.c.ok)(w:WI S)(h:B6v re S.c)(I:ReI S re):
  WI (B2i re S).2∧(∀own rel,Adv S (B2i re S).2 own rel)∧ReI (B2i re S).2 (B2i re S).1:=by
 have hx:=G9r h
 have hp:=h.pc.1
 have s0:=A1z.refl S
 show WI (A7l re S).2∧(∀own rel,Adv S (A7l re S).2 own rel)∧ReI (A7l re S).2 (B8q (A7l re S).1 S.c)
 unfold A7l
 split
 ·rename_i q
  exact⟨w,fun _ _=>s0.adv _ _,reN hp (fun _=>⟨rfl,Int.le_refl _⟩) fun z=>by dsimp only at z;omega⟩
 split
 ·rename_i q
  exact⟨w,fun _ _=>s0.adv _ _,reN hp (fun _=>I.st (.inl q)) fun _ _ _=>rfl⟩
 split
 ·rename_i p0 p1 q
  have no:∀r:ReS,r.pc=re.pc→∀S',ReI S' (B8q r S.c):=fun r e S'=>reN (by omega) (fun z=>by omega) fun z=>by omega
  unfold A3p
  split
  ·exact⟨w,fun _ _=>s0.adv _ _,no _ (by rfl) _⟩
  rename_i e1
  split
  ·exact⟨w,fun _ _=>s0.adv _ _,no _ (by rfl) _⟩
  split
  ·exact⟨w,fun _ _=>s0.adv _ _,no _ (by rfl) _⟩
  rename_i e2 e3
  split
  ·rename_i ht
   have e1:(A1r re.st).1=0:=by simpa using e1
   obtain⟨x1,x2⟩:=E7h e1
   obtain⟨v,h1,h2,h3⟩:=B2y ht
   rw[h3]
   have hs:stx S (re.pc/4)=re.st:=by unfold stx;rw[h2];exact((I.st (.inr q)).1).symm
   have hv:=B4h h1
   have lv:=St.B3m x1
   have k:=endL (x:=re.pc/4) (S':=({S with words:=stw S.words (2*(re.pc/4)) v}:WS).tell {Ev.zero with kind:=5,cell:=re.pc/4,gen:=(A1r re.st).2.g}) w hx (B5o hx v _ rfl rfl) (by rw[hs];exact x1) (by rw[B0l w hx hv _ rfl,hs,x2]) (by rw[B0l w hx hv _ rfl,x2];rfl) rfl (.inl rfl) rfl (by rw[hs,x2]) (fun _=>by
    rw[←I.tm q (by rw[hs];exact lv) (by rw[hs])]
    show re.tm.A1o≤(S.now:Int)
    omega)
   exact⟨k.1,k.2,no _ (by rfl) _⟩
  ·exact⟨w,fun _ _=>s0.adv _ _,no _ (by rfl) _⟩
 ·have hs:A1z S (if re.done then A7o S (re.pc/4) re.st.g S.c.c5 (A7s re.st re.at_)else S):=by
   split
   ·exact A9p hc _ _ _ _
   ·exact s0
  exact⟨hs.wi w,hs.adv,reN hp (fun z=>by dsimp only at z;omega) fun z=>by dsimp only at z;omega⟩
def tr(P:A0o)(n:Nat):Option A0a:=if n%2=0 then(P.A0e[n/2]?).bind fun x=>x.now.bind (·.2)else(P.sw[n/2]?).bind (·.2)
structure PI(P:A0o):Prop where
 wi:WI P.S
 part:∀(i:Nat) x,P.A0e[i]?=some x→x.se.part=i
 prog:∀(i:Nat) x pr o,P.A0e[i]?=some x→x.now=some (pr,o)→A4i P.S i pr
 tri:∀n p,tr P n=some p→B0z P.S p
 re:∀(j:Nat) y,P.re[j]?=some y→ReI P.S y
 ex:∀n m p q,n≠m→tr P n=some p→tr P m=some q→act P.S.c p→act P.S.c q→p.a.x≠q.a.x
theorem PI.step{P P':A0o}(I:PI P)(n0:Nat){own:Int→Prop}(wi:WI P'.S)(A:Adv P.S P'.S own (D8r P.S.c (tr P n0)))
  (part:∀(i:Nat) x,P'.A0e[i]?=some x→x.se.part=i) (prog:∀(i:Nat) x pr o,P'.A0e[i]?=some x→x.now=some (pr,o)→A4i P'.S i pr)
  (re:∀(j:Nat) y,P'.re[j]?=some y→ReI P'.S y) (ht:∀n,n≠n0→tr P' n=tr P n) (hi:∀p,tr P' n0=some p→B0z P'.S p)
  (new:∀p,tr P' n0=some p→act P.S.c p→D8r P.S.c (tr P n0) p.a.x∨(InC P.S.c p.a.x∧(stx P.S p.a.x).loose=true)):PI P':=by
 have one:∀m p q,m≠n0→tr P' n0=some p→tr P' m=some q→act P.S.c p→act P.S.c q→p.a.x≠q.a.x:=by
  intro m p q hm hp hq ap aq e
  rw[ht m hm]at hq
  rcases new p hp ap with⟨p0,k1,k2,k3⟩|⟨k1,k2⟩
  ·exact I.ex n0 m p0 q (fun z=>hm z.symm) k1 hq k2 aq (by rw[←k3];exact e)
  ·have:=((I.tri m q hq).2 aq.1).act aq.2.1 aq.2.2
   rw[←e,St.B0u k2]at this
   exact absurd this.1 (by decide)
 refine⟨wi,part,prog,fun n p hp=>?_,re,fun n m p q hn hp hq ap aq=>?_⟩
 ·by_cases h:n=n0
  ·subst h;exact hi p hp
  ·rw[ht n h]at hp
   exact(I.tri n p hp).adv A fun a ⟨p0,k1,k2,k3⟩=>I.ex n n0 p p0 h hp k1 a k2 k3
 ·rw[A.c]at ap aq
  by_cases h:n=n0
  ·subst h;exact one m p q (fun z=>hn z.symm) hp hq ap aq
  ·by_cases h':m=n0
   ·subst h';exact fun e=>one n q p h hq hp aq ap e.symm
   ·rw[ht n h]at hp;rw[ht m h']at hq
    exact I.ex n m p q hn hp hq ap aq
theorem PI.same{P P':A0o}(I:PI P)(hc:P.S.c.ok)(hr:∀y ∈ P.re,B6v y P.S.c)(hS:A1z P.S P'.S)(hs:∀i:Nat,(P'.A0e[i]?).map (fun x=>(x.se,x.now))=(P.A0e[i]?).map (fun x=>(x.se,x.now)))(hw:P'.sw=P.sw)(hre:P'.re=P.re):PI P':=by
 have A:=fun own rel=>hS.adv own rel
 have key:∀(i:Nat) x,P'.A0e[i]?=some x→∃y,P.A0e[i]?=some y∧y.se=x.se∧y.now=x.now:=by
  intro i x h
  have:=hs i
  rw[h]at this
  cases h':P.A0e[i]? with
  |none=>rw[h']at this;cases this
  |some y=>
   rw[h']at this
   simp only[Option.map_some,Option.some.injEq,Prod.mk.injEq]at this
   exact⟨y,rfl,this.1.symm,this.2.symm⟩
 have ht:∀n,tr P' n=tr P n:=by
  intro n
  unfold tr
  rw[hw]
  split
  ·have:=hs (n/2)
   cases h:P'.A0e[n/2]? with
   |none=>
    rw[h]at this
    cases h':P.A0e[n/2]? with
    |none=>rfl
    |some y=>rw[h']at this;cases this
   |some x=>
    obtain⟨y,k1,k2,k3⟩:=key _ x h
    rw[k1]
    show x.now.bind _=y.now.bind _
    rw[k3]
  ·rfl
 refine⟨hS.wi I.wi,fun i x h=>?_,fun i x pr o h hn=>?_,fun n p hp=>?_,fun j y h=>?_,fun n m p q hn hp hq ap aq=>?_⟩
 ·obtain⟨y,k1,k2,k3⟩:=key i x h
  rw[←k2];exact I.part i y k1
 ·obtain⟨y,k1,k2,k3⟩:=key i x h
  exact(I.prog i y pr o k1 (by rw[k3];exact hn)).adv hc (A (fun _=>False) (fun _=>False)) fun _ _ z=>z
 ·rw[ht]at hp;exact(I.tri n p hp).adv (A (fun _=>False) (fun _=>False)) fun _ z=>z
 ·rw[hre]at h
  exact(I.re j y h).adv (hr y (List.mem_of_getElem? h)) (A (fun _=>False) (fun _=>False))
 ·rw[hS.c]at ap aq;rw[ht]at hp hq
  exact I.ex n m p q hn hp hq ap aq
theorem A4z{α:Type}{l:List α}{i:Nat}{v:α}{j:Nat}{x:α}(h:(l.set i v)[j]?=some x):(j=i∧x=v)∨(j≠i∧l[j]?=some x):=by
 rw[List.getElem?_set]at h
 split at h
 ·rename_i e
  split at h
  ·cases h;exact .inl ⟨e.symm,rfl⟩
  ·cases h
 ·rename_i e;exact .inr ⟨fun z=>e z.symm,h⟩
theorem B8l{α:Type}(l:List α){i j:Nat}(v:α)(h:j≠i):(l.set i v)[j]?=l[j]?:=by
 rw[List.getElem?_set,if_neg (fun e=>h e.symm)]
theorem PrS.E7o(S:WS)(part:Int)(a:Ask):A4i S part (PrS.start a):=
 ⟨fun _ q=>absurd q (show ¬(1:Int)≤0 by decide),fun _ q=>absurd q (show ¬((0:Int)=2∨(0:Int)=3)by decide),fun _ q=>absurd q (show ¬(0:Int)=3 by decide),fun _ q=>absurd q (show ¬(4:Int)≤0 by decide),fun _ _=>rfl,
  fun _ q=>absurd q (show ¬(1:Int)≤0 by decide),fun _ q=>absurd q (show ¬((0:Int)=2∨(0:Int)=4∨(0:Int)=6)by decide)⟩
theorem E0h(pr:PrS)(o:Option A0a)(se:A0j)(ss:A0g)(po:A0c)(S:WS):(A2z pr o se ss po S).se.part=se.part:=by
 unfold A2z
 split
 ·unfold A9c
  split
  ·show(A1u _ pr se S).se.part=_
   unfold A1u
   repeat' (first|rfl|split)
  ·unfold B1t
   repeat' (first|rfl|split)
 split
 ·show(A1m _ pr se S).se.part=_
  unfold A1m
  repeat' (first|rfl|split)
 split
 ·show(A2m _ pr se S).se.part=_
  unfold A2m
  repeat' (first|rfl|split)
 split
 ·show(A2j pr se S).se.part=_
  unfold A2j
  repeat' (first|rfl|split)
 ·rfl
theorem G5s{P:A0o}{n:Nat}(ok:A4c P n)(I:PI P)(i:Nat)(x:A1e)(hx:P.A0e[i]?=some x):PI (A2t P i x).2:=by
 have hc:=ok.S.c
 have htr:tr P (2*i)=x.now.bind (·.2):=by
  unfold tr
  rw[if_pos (by omega),show 2*i/2=i by omega,hx];rfl
 unfold A2t
 have key:∀(x1:A1e) (pr:PrS) (o:Option A0a),x1.se=x.se→tr P (2*i)=o→A4i P.S i pr→0≤pr.pc→0≤pr.done→PI (A8b P i x1 pr o):=by
  intro x1 pr o e1 e2 Ip hp hd
  have hpart:x1.se.part=i:=by rw[e1];exact I.part i x hx
  have k:=G4o (ss:=x1.nl) (po:=(P.use x1.ev).nl) (se:=x1.se) hc I.wi (by rw[hpart];exact Ip) (fun p hp=>I.tri (2*i) p (by rw[e2];exact hp)) hp hd
  have kp:(A2z pr o x1.se x1.nl (P.use x1.ev).nl P.S).se.part=x1.se.part:=E0h ..
  unfold A8b
  generalize A2z pr o x1.se x1.nl (P.use x1.ev).nl P.S=R at*
  rw[hpart]at k
  have main:∀(P':A0o) (x':A1e),P'.S=R.S→P'.A0e=P.A0e.set i x'→P'.sw=P.sw→P'.re=P.re→x'.se=R.se→(x'.now=none∨(R.r=none∧x'.now=some (R.pr,R.o)))→PI P':=by
   intro P' x' f1 f2 f3 f4 f5 f6
   have hlt:i<P.A0e.length:=(List.getElem?_eq_some_iff.1 hx).1
   have own:∀(j:Nat),j≠i→∀y,A5b P.S.c y=(j:Int)→¬A5b P.S.c y=(i:Int):=fun j hj y a b=>by omega
   have tn:tr P' (2*i)=x'.now.bind (·.2):=by
    unfold tr
    rw[if_pos (by omega),show 2*i/2=i by omega,f2,List.getElem?_set,if_pos rfl,if_pos hlt];rfl
   refine I.step (2*i) (by rw[f1];exact k.wi) (by rw[f1,e2];exact k.adv) (fun j y h=>?_) (fun j y pr' o' h hn=>?_) (fun j y h=>?_) (fun m hm=>?_) (fun p hp=>?_) (fun p hp a=>?_)
   ·rw[f2]at h
    rcases A4z h with⟨a,b⟩|⟨a,b⟩
    ·rw[a,b,f5,kp];exact hpart
    ·exact I.part j y b
   ·rw[f2]at h;rw[f1]
    rcases A4z h with⟨a,b⟩|⟨a,b⟩
    ·subst a;subst b
     rcases f6 with f6|⟨f6,f7⟩
     ·rw[f6]at hn;cases hn
     ·rw[f7]at hn;cases hn;exact k.prog f6
    ·exact(I.prog j y pr' o' b hn).adv hc k.adv (own j a)
   ·rw[f4]at h;rw[f1]
    exact(I.re j y h).adv (ok.re y (List.mem_of_getElem? h)) k.adv
   ·unfold tr
    rw[f3]
    split
    ·rw[f2,B8l _ _ (by omega)]
    ·rfl
   ·rw[tn]at hp;rw[f1]
    rcases f6 with f6|⟨f6,f7⟩
    ·rw[f6]at hp;cases hp
    ·rw[f7]at hp;exact k.i f6 p hp
   ·rw[tn]at hp;rw[e2]
    rcases f6 with f6|⟨f6,f7⟩
    ·rw[f6]at hp;cases hp
    ·rw[f7]at hp;exact k.new f6 p hp a
  unfold B6m
  split
  ·rename_i hr;exact main _ _ rfl rfl rfl rfl rfl (.inr ⟨hr,rfl⟩)
  ·exact main _ _ rfl rfl rfl rfl rfl (.inl rfl)
 unfold A1e.begun
 cases hn:x.now with
 |some v=>
  obtain⟨pr,o⟩:=v
  rw[hn]at htr
  have po:=(ok.A0e x (List.mem_of_getElem? hx)).prog pr o hn
  exact key x pr o rfl htr (I.prog i x pr o hx hn) po.pc.1 po.done.1
 |none=>
  rw[hn]at htr
  cases x.queue with
  |nil=>exact I
  |cons q t=>exact key _ _ _ rfl htr (PrS.E7o _ _ _) (Int.le_refl _) (Int.le_refl _)
theorem G4v{P:A0o}{n:Nat}(ok:A4c P n)(I:PI P)(j:Nat)(y:SwS × Option A0a)(hy:P.sw[j]?=some y):PI (B2p P j y):=by
 have hc:=ok.S.c
 have hlt:j<P.sw.length:=(List.getElem?_eq_some_iff.1 hy).1
 have htr:tr P (2*j+1)=y.2:=by
  unfold tr
  rw[if_neg (by omega),show(2*j+1)/2=j by omega,hy];rfl
 have k:C0f P.S y.2 (A2s (B3c y.1 P.S.c y.2) P.S).2 (some (A2s (B3c y.1 P.S.c y.2) P.S).1):=by
  have nw:∀o a,C0f P.S o (A2s (A0a.new a) P.S).2 (some (A2s (A0a.new a) P.S).1):=fun o a=>C0f.step hc I.wi (B0z.new _ _) fun q=>(F7a _ _ q).elim
  unfold B3c
  cases h:y.2 with
  |none=>exact nw _ _
  |some p=>
   dsimp only
   split
   ·exact nw _ _
   ·exact C0f.step hc I.wi (I.tri _ p (by rw[htr];exact h)) fun q=>⟨p,rfl,q,rfl⟩
 have tn:tr (B2p P j y) (2*j+1)=some (A2s (B3c y.1 P.S.c y.2) P.S).1:=by
  unfold tr
  rw[if_neg (by omega),show(2*j+1)/2=j by omega]
  show((P.sw.set j _)[j]?).bind _=_
  rw[List.getElem?_set,if_pos rfl,if_pos hlt];rfl
 refine I.step (2*j+1) k.wi (by rw[htr];exact k.adv) (fun i x h=>I.part i x h) (fun i x pr o h hn=>(I.prog i x pr o h hn).adv hc k.adv fun _ _ q=>q) (fun i z h=>(I.re i z h).adv (ok.re z (List.mem_of_getElem? h)) k.adv) (fun m hm=>?_) (fun p hp=>?_) (fun p hp a=>?_)
 ·unfold tr
  split
  ·rfl
  ·show((P.sw.set j _)[m/2]?).bind _=_
   rw[B8l _ _ (by omega)]
 ·rw[tn]at hp;exact k.i p hp
 ·rw[tn]at hp;rw[htr];exact k.new p hp a
theorem G4l{P:A0o}{n:Nat}(ok:A4c P n)(I:PI P)(j:Nat)(y:ReS)(hy:P.re[j]?=some y):PI (B8u P j y):=by
 have hc:=ok.S.c
 obtain⟨k1,k2,k3⟩:=G6f hc I.wi (ok.re y (List.mem_of_getElem? hy)) (I.re j y hy)
 have A:=k2 (fun _=>False) (fun _=>False)
 refine⟨k1,fun i x h=>I.part i x h,fun i x pr o h hn=>(I.prog i x pr o h hn).adv hc A fun _ _ q=>q,fun n p hp=>(I.tri n p hp).adv A fun _ q=>q,fun i z h=>?_,fun n m p q hn hp hq ap aq=>I.ex n m p q hn hp hq (by have:=A.c;rw[←this];exact ap) (by have:=A.c;rw[←this];exact aq)⟩
 rcases A4z h with⟨a,b⟩|⟨a,b⟩
 ·rw[b];exact k3
 ·exact(I.re i z b).adv (ok.re z (List.mem_of_getElem? b)) A
theorem G6a{P:A0o}{n:Nat}(ok:A4c P n)(I:PI P)(ag:Int):PI (A3d P ag).2:=by
 unfold A3d
 split
 ·exact I
 split
 ·split
  ·rename_i h;exact G5s ok I _ _ h
  ·exact I
 split
 ·split
  ·rename_i h;exact G4v ok I _ _ h
  ·exact I
 ·split
  ·rename_i h;exact G4l ok I _ _ h
  ·exact I
theorem F0n{P:A0o}{n:Nat}(at_:A4p P n)(hn:n≤100000000)(I:PI P)(e:PEv):PI (doP P e).2:=by
 have ok:=at_.ok
 have hc:=ok.S.c
 have sm:∀P':A0o,A1z P.S P'.S→(∀i:Nat,(P'.A0e[i]?).map (fun x=>(x.se,x.now))=(P.A0e[i]?).map (fun x=>(x.se,x.now)))→P'.sw=P.sw→P'.re=P.re→PI P':=fun P' a b c d=>I.same hc ok.re a b c d
 have hg:PI P.got:=sm _ (A1z.refl _) (fun _=>rfl) rfl rfl
 have no:PI P.got.on:=sm _ (A1z.refl _) (fun _=>rfl) rfl rfl
 have st:∀(P':A0o) (i:Nat) (x x':A1e),P.A0e[i]?=some x→P'.A0e=P.A0e.set i x'→x'.se=x.se→x'.now=x.now→P'.S=P.S→P'.sw=P.sw→P'.re=P.re→PI P':=by
  intro P' i x x' h1 h2 h3 h4 h5 h6 h7
  refine sm P' (by rw[h5];exact A1z.refl _) (fun j=>?_) h6 h7
  rw[h2]
  by_cases hj:j=i
  ·subst hj
   rw[List.getElem?_set,if_pos rfl,if_pos (List.getElem?_eq_some_iff.1 h1).1,h1]
   simp only[Option.map_some,h3,h4]
  ·rw[B8l _ _ hj]
 unfold doP
 split
 ·exact sm _ ⟨rfl,fun _ _=>rfl,fun _ _=>rfl,rfl,rfl⟩ (fun _=>rfl) rfl rfl
 split
 ·have k:=G6a (B6s ok) hg e.who
  have ko:=(D5b (B6s ok) hn e.who).ok
  exact k.same ko.S.c ko.re (A1z.refl _) (fun _=>rfl) rfl rfl
 split
 ·split
  ·split
   ·rename_i h;exact st _ _ _ _ h rfl rfl rfl rfl rfl rfl
   ·exact no
  split
  ·split
   ·rename_i h;exact st _ _ _ _ h rfl rfl rfl rfl rfl rfl
   ·exact no
  ·exact no
 ·exact no
theorem F7n(n:Nat)(i:Int):wd (List.replicate n 0) i=0:=by
 unfold wd
 split
 ·rfl
 ·rw[List.getD_eq_getElem?_getD,List.getElem?_replicate];split<;>rfl
theorem C7h{α:Type}{f:Nat→α}{n i:Nat}{x:α}(h:((List.range n).map f)[i]?=some x):x=f i:=by
 rw[List.getElem?_map]at h
 by_cases hi:i<n
 ·rw[List.getElem?_range hi]at h;cases h;rfl
 ·rw[List.getElem?_eq_none (by simp;omega)]at h;cases h
theorem E4o(c:Cf)(hc:c.ok):PI (A1q c):=by
 have hst:∀x,stx (B6u c) x=St.zero:=fun x=>by unfold stx WS.word B6u;dsimp only;rw[F7n];rfl
 have hs:∀(i:Nat) x,(A1q c).A0e[i]?=some x→x=A4e c i:=fun i x h=>C7h (f:=fun(i:Nat)=>A4e c i) h
 have hw:∀(i:Nat) x,(A1q c).sw[i]?=some x→x=B7l i:=fun i x h=>C7h (f:=fun(i:Nat)=>B7l i) h
 have ht:∀n p,tr (A1q c) n=some p→False:=by
  intro n p h
  unfold tr at h
  split at h
  ·cases e:(A1q c).A0e[n/2]? with
   |none=>rw[e]at h;cases h
   |some x=>rw[e,hs _ _ e]at h;cases h
  ·cases e:(A1q c).sw[n/2]? with
   |none=>rw[e]at h;cases h
   |some x=>rw[e,hw _ _ e]at h;cases h
 refine⟨⟨trivial,fun x _ h=>?_,fun _ _ _ _=>rfl,fun x _ h=>?_,fun x _ h=>?_,?_⟩,fun i x h=>?_,fun i x pr o h hn=>?_,fun n p h=>(ht n p h).elim,fun j y h=>?_,fun n m p q hn h=>(ht n p h).elim⟩
 ·rw[show(A1q c).S=B6u c from rfl,hst]at h;cases h
 ·rw[show(A1q c).S=B6u c from rfl,hst]at h;cases h
 ·rw[show(A1q c).S=B6u c from rfl,hst]at h;cases h
 ·show 2*A0s c≤((List.replicate (A8p c).toNat 0).length:Int)
  rw[List.length_replicate]
  unfold A8p
  have ha:=A6z c hc
  have h1:0≤A0s c*c.c6*(c.c5+1):=Int.mul_nonneg (Int.mul_nonneg (by omega) (by have:=hc.2.2.2.2.2.2;omega)) (by have:=hc.2.2.2.2.2.1;omega)
  omega
 ·rw[hs i x h];rfl
 ·rw[hs i x h]at hn;cases hn
 ·have:y=C1m j:=C7h (f:=fun(i:Nat)=>C1m i) h
  rw[this]
  exact⟨fun q=>absurd q (show ¬((0:Int)%4=1∨(0:Int)%4=2)by decide),fun q=>absurd q (show ¬(0:Int)%4=2 by decide)⟩
def D9k(c:Cf):(Int→Int)→List Ev→Prop
 |_,[]=>True
 |f,e::l=>(e.kind=1→e.gen=f e.cell+1∧e.gen≤c.c6)∧D9k c (if e.kind=1 then fun x=>if x=e.cell then f x+1 else f x else f) l
def D5j(f:Int→Int)(e:Ev):Int→Int:=if e.kind=1 then fun x=>if x=e.cell then f x+1 else f x else f
def A6k(l:List Ev):Int→Int:=l.foldl D5j fun _=>0
theorem C9w(c:Cf)(e:Ev):∀(l:List Ev) (f:Int→Int),D9k c f l→(e.kind=1→e.gen=l.foldl D5j f e.cell+1∧e.gen≤c.c6)→D9k c f (l++[e])
 |[],f,_,h=>⟨h,trivial⟩
 |a::l,f,h,he=>⟨h.1,C9w c e l _ h.2 he⟩
structure GI(S:WS):Prop where
 log:D9k S.c (fun _=>0) S.log
 g:∀x,InC S.c x→(stx S x).g=A6k S.log x
structure GS(S S':WS):Prop where
 c:S'.c=S.c
 g:∀x,InC S.c x→(stx S' x).g=(stx S x).g
 log:S'.log=S.log∨∃e,S'.log=S.log++[e]∧e.kind≠1
theorem GS.refl(S:WS):GS S S:=⟨rfl,fun _ _=>rfl,.inl rfl⟩
theorem GS.gi{S S':WS}(h:GS S S')(I:GI S):GI S':=by
 rcases h.log with e|⟨v,e,k⟩
 ·exact⟨by rw[h.c,e];exact I.log,fun x hx=>by rw[h.c]at hx;rw[h.g x hx,e];exact I.g x hx⟩
 ·refine⟨by rw[h.c,e];exact C9w _ _ _ _ I.log fun q=>absurd q k,fun x hx=>?_⟩
  rw[h.c]at hx
  rw[h.g x hx,I.g x hx,e]
  unfold A6k
  rw[List.foldl_append]
  show _=D5j _ v x
  unfold D5j;rw[if_neg k]
theorem A1z.gs{S S':WS}(h:A1z S S'):GS S S':=⟨h.c,fun x hx=>by rw[h.st x hx],.inl h.log⟩
theorem F7l{S:WS}{x y:Int}(v:Nat)(hy:InC S.c y)(hl:2*A0s S.c≤S.words.length):stx {S with words:=stw S.words (2*x) v} y=if y=x then A0l v else stx S y:=by
 obtain⟨h0,h1⟩:=hy
 unfold stx WS.word
 dsimp only
 by_cases e:y=x
 ·rw[if_pos e,e,F1l (by omega) (by omega)]
 ·rw[if_neg e,B0s (by omega)]
theorem C2d{S:WS}(hl:2*A0s S.c≤S.words.length)(x:Int)(old:Nat)(s:St)(hg:s.g=(A0l old).g):GS S (S.turn x old s).2:=by
 cases h:(S.turn x old s).1 with
 |false=>rw[E5z h];exact GS.refl S
 |true=>
  obtain⟨v,h1,h2,h3⟩:=B2y h
  rw[h3]
  refine⟨rfl,fun y hy=>?_,.inl rfl⟩
  rw[F7l v hy hl]
  split
  ·rename_i e
   rw[B4h h1,hg,←h2,←e];rfl
  ·rfl
theorem GS.tell{S S':WS}(h:GS S S')(hl:S'.log=S.log)(e:Ev)(he:e.kind≠1):GS S (S'.tell e):=by
 refine⟨h.c,h.g,.inr ⟨{e with tick:=S'.now},?_,he⟩⟩
 show S'.log++_=_
 rw[hl]
theorem B8j(S:WS)(x:Int)(old:Nat)(s:St):(S.turn x old s).2.log=S.log:=by
 unfold WS.turn
 split
 ·rfl
 ·dsimp only;split<;>rfl
theorem E9v{P:A0a}{S:WS}(hc:S.c.ok)(hl:2*A0s S.c≤S.words.length):GS S (A2s P S).2:=by
 unfold A2s
 split
 ·exact GS.refl S
 split
 ·exact GS.refl S
 show GS S (A3l P S).2
 unfold A3l
 split
 ·exact GS.refl S
 split
 ·exact GS.refl S
 split
 ·unfold C1l
  split
  ·rename_i hw
   exact C2d hl _ _ _ (E7n (D6o hw)).2.2.1
  ·exact GS.refl S
 split
 ·exact GS.refl S
 split
 ·exact GS.refl S
 split
 ·unfold B8s
  split
  ·exact GS.refl S
  unfold B8v
  dsimp only
  split
  ·exact GS.refl S
  rename_i ht
  have ht:(A8w (A0l P.wy) (A3x P).1 S.c.c5).1=0:=by simpa using ht
  split
  ·exact GS.refl S
  ·exact(C2d hl _ _ _ (E7a ht).2.2.2.1).tell (B8j _ _ _ _) _ (by dsimp only;decide)
 split
 ·unfold B7j
  split<;>exact GS.refl S
 split
 ·unfold C5t
  split
  ·exact GS.refl S
  generalize (if P.made then P.q else 0)=z
  unfold C0c
  split
  ·exact GS.refl S
  rename_i ht
  have ht:(A3n (A0l P.wx) z S.c.c5).1=0:=by simpa using ht
  have k:=C2d hl P.a.x P.wx _ (D4g ht).2.2.2.1
  split
  ·exact GS.refl S
  dsimp only
  split
  ·exact k.tell (B8j _ _ _ _) _ (by dsimp only;decide)
  ·exact k
 ·have hs:A1z S (A4u P S):=by
   unfold A4u
   split
   ·exact B9q hc _ _ _ _
   split
   ·exact B9q hc _ _ _ _
   split
   ·exact A9p hc _ _ _ _
   split
   ·exact A9p hc _ _ _ _
   ·exact A1z.refl S
  exact hs.gs
theorem H0u{S:WS}{pr:PrS}{part:Int}(w:WI S)(I:A4i S part pr)(hk:pr.a.kind=1)(hp:4≤pr.pc)(hd:0≤pr.done):GS S (A1n (A0r S.c part pr.a.cell) pr S).2.2:=by
 unfold A1n
 split
 ·exact GS.refl S
 split
 ·exact GS.refl S
 split
 ·exact GS.refl S
 rename_i q1 q2
 split
 ·exact GS.refl S
 split
 ·exact GS.refl S
 rename_i q3 q4
 have q4:(A2v pr.st).1=0:=by simpa using q4
 obtain⟨p1,p2⟩:=E1f q4
 have p3:=I.b4 hk hp (by omega) (by omega)
 split
 ·exact(C2d w.len _ _ _ (by rw[p2,p3])).tell (B8j _ _ _ _) _ (by dsimp only;decide)
 ·exact GS.refl S
theorem G7h{S:WS}{pr:PrS}{se:A0j}(w:WI S)(x:Int)(hd:0≤pr.done)(h:pr.done=0→pr.st=A0l pr.word):GS S (A3h x pr se S).2:=by
 unfold A3h
 split
 ·exact GS.refl S
 split
 ·exact GS.refl S
 split
 ·exact GS.refl S
 split
 ·exact GS.refl S
 rename_i q1 q2 q3 q4
 have h:=h (by omega)
 have q2:B6n pr se≠0∧pr.st.g=B6n pr se∧(A1i pr.st).1=0:=by omega
 have k:GS S (S.turn x pr.word (A1i pr.st).2).2:=C2d w.len _ _ _ (by
  rcases E6y q2.2.2 with⟨_,c2⟩|⟨_,c2⟩<;>rw[c2,h])
 split
 ·exact k.tell (B8j _ _ _ _) _ (by dsimp only;decide)
 ·exact k.tell (B8j _ _ _ _) _ (by dsimp only;decide)
theorem G6y{S:WS}{pr:PrS}{se:A0j}(hc:S.c.ok)(w:WI S)(I:A4i S se.part pr)(hk:pr.a.kind=1)(hp:0≤pr.pc∧pr.pc<4)(gi:GI S):GI (A1u (A0r S.c se.part pr.a.cell) pr se S).S:=by
 generalize hx:A0r S.c se.part pr.a.cell=x
 unfold A1u
 split
 ·split<;>exact gi
 split
 ·split<;>exact gi
 split
 ·refine GS.gi (S:=S) ⟨rfl,fun y hy=>?_,.inl rfl⟩ gi
  unfold stx WS.word WS.put;dsimp only;rw[B0s (by omega)]
 split
 ·rename_i _ _ _ hpc
  have b:=I.b1 hk (by omega)
  have d:=I.b2 hk (.inr hpc)
  obtain⟨hin,how⟩:=B5f hc b.1
  rw[hx]at d hin how
  have hc6:=hc.2.2.2.2.2.2
  have hg:0≤(stx S x).g:=(B8p _).2.1.1
  have hst:=d.2.1
  obtain⟨v,hv⟩:=F6j (g:=(stx S x).g+1) (q:=pr.a.qty) (by omega) (by omega)
  rw[←hst]at hv
  dsimp only
  simp only[hv,Option.getD_some]
  have e:=B4h hv
  have hg2:pr.st.g=(stx S x).g+1:=by rw[hst]
  have lg:((S.put (2*x) v).tell {Ev.zero with kind:=1,cell:=x,gen:=pr.st.g,tm:=pr.a.tm,qty:=pr.a.qty}).log=S.log++[{Ev.zero with kind:=1,cell:=x,gen:=pr.st.g,tm:=pr.a.tm,qty:=pr.a.qty,tick:=S.now}]:=rfl
  refine⟨?_,fun y hy=>?_⟩
  ·rw[lg]
   exact C9w _ _ _ _ gi.log fun _=>⟨by show pr.st.g=A6k S.log x+1;rw[hg2,gi.g x hin],by show pr.st.g≤S.c.c6;rw[hg2];omega⟩
  ·have ey:stx ((S.put (2*x) v).tell {Ev.zero with kind:=1,cell:=x,gen:=pr.st.g,tm:=pr.a.tm,qty:=pr.a.qty}) y=if y=x then A0l v else stx S y:=F7l v hy w.len
   rw[ey,lg]
   unfold A6k
   rw[List.foldl_append]
   show _=(if y=x then A6k S.log y+1 else A6k S.log y)
   split
   ·rename_i q;rw[e,hg2,q,gi.g x hin]
   ·exact gi.g y hy
 ·exact gi
theorem H0j{S:WS}{pr:PrS}{o:Option A0a}{ss:A0g}{po:A0c}(hc:S.c.ok)(hl:2*A0s S.c≤S.words.length):GS S (A1p pr o ss po S).S:=by
 unfold A1p A2a
 repeat' (first|exact GS.refl S|exact E9v hc hl|split)
theorem G5x{S:WS}{pr:PrS}{o:Option A0a}{se:A0j}{ss:A0g}{po:A0c}(hc:S.c.ok)(w:WI S)(I:A4i S se.part pr)(J:∀P,o=some P→B0z S P)(hp:0≤pr.pc)(hd:0≤pr.done)(gi:GI S):GI (A2z pr o se ss po S).S:=by
 unfold A2z
 split
 ·rename_i hk
  unfold A9c
  split
  ·rename_i hpc
   exact G6y hc w I hk ⟨hp,hpc⟩ gi
  ·rename_i hpc
   have k:=F0v (pr:=pr) (ss:=ss) (po:=po) hc w J
   have g:=H0j (pr:=pr) (o:=o) (ss:=ss) (po:=po) hc w.len
   generalize A1p pr o ss po S=T at*
   unfold B1t
   split
   ·exact g.gi gi
   ·rename_i hb
    have eS:=k.2 (by simpa using hb)
    have r:=H0u (pr:={pr with n:=T.n}) w (I.n T.n) hk (by show 4≤pr.pc;omega) hd
    rw[eS]
    split
    ·exact r.gi gi
    ·exact r.gi gi
 split
 ·rename_i hk
  show GI (A1m (A0r S.c se.part pr.a.cell) pr se S).S
  unfold A1m
  split
  ·split<;>exact gi
  split
  ·exact gi
  split
  ·rename_i p2
   exact(G7h w _ hd (I.k2 hk p2)).gi gi
  split
  ·show GI (if pr.done=1 then A7o S _ pr.st.g S.c.c5 (A7s pr.st pr.at_)else S)
   split
   ·exact(A9p hc _ _ _ _).gs.gi gi
   ·exact gi
  ·exact gi
 split
 ·have e:(A2m (A0r S.c se.part pr.a.cell) pr se S).S=S:=by
   unfold A2m
   repeat' (first|rfl|split)
  show GI (A2m _ pr se S).S
  rw[e];exact gi
 split
 ·have e:(A2j pr se S).S=S:=by
   unfold A2j
   repeat' (first|rfl|split)
  show GI (A2j pr se S).S
  rw[e];exact gi
 ·exact gi
theorem H1a{S:WS}{re:ReS}(hc:S.c.ok)(w:WI S)(I:ReI S re)(gi:GI S):GI (B2i re S).2:=by
 show GI (A7l re S).2
 unfold A7l
 split
 ·exact gi
 split
 ·exact gi
 split
 ·rename_i q
  unfold A3p
  split
  ·exact gi
  rename_i e1
  have e1:(A1r re.st).1=0:=by simpa using e1
  split
  ·exact gi
  split
  ·exact gi
  split
  ·exact((C2d w.len (re.pc/4) re.word (A1r re.st).2 (by rw[(E7h e1).2,(I.st (.inr q)).1])).tell (B8j _ _ _ _) _ (by dsimp only;decide)).gi gi
  ·exact gi
 ·show GI (if re.done then A7o S (re.pc/4) re.st.g S.c.c5 (A7s re.st re.at_)else S)
  split
  ·exact(A9p hc _ _ _ _).gs.gi gi
  ·exact gi
theorem H3v{P:A0o}{n:Nat}(at_:A4p P n)(I:PI P)(gi:GI P.S)(e:PEv):GI (doP P e).2.S:=by
 have ok:=at_.ok
 have hc:=ok.S.c
 unfold doP
 split
 ·exact GS.gi (S:=P.S) ⟨rfl,fun _ _=>rfl,.inl rfl⟩ gi
 split
 ·show GI (A3d P.got e.who).2.S
  unfold A3d
  split
  ·exact gi
  split
  ·split
   ·rename_i x hx
    have hx:P.A0e[e.who.toNat]?=some x:=hx
    unfold A2t
    have key:∀(x1:A1e) (pr:PrS) (o:Option A0a),x1.se=x.se→tr P (2*e.who.toNat)=o→A4i P.S e.who.toNat pr→0≤pr.pc→0≤pr.done→GI (A8b P.got e.who.toNat x1 pr o).S:=by
     intro x1 pr o e1 e2 Ip hp hd
     have hpart:x1.se.part=e.who.toNat:=by rw[e1];exact I.part _ x hx
     have k:=G5x (ss:=x1.nl) (po:=(P.got.use x1.ev).nl) (se:=x1.se) (pr:=pr) (o:=o) hc I.wi (by rw[hpart];exact Ip) (fun p hp=>I.tri _ p (by rw[e2];exact hp)) hp hd gi
     unfold A8b B6m
     split
     ·exact k
     ·exact k
    have htr:tr P (2*e.who.toNat)=x.now.bind (·.2):=by
     unfold tr
     rw[if_pos (by omega),show 2*e.who.toNat/2=e.who.toNat by omega,hx];rfl
    unfold A1e.begun
    cases hn:x.now with
    |some v=>
     obtain⟨pr,o⟩:=v
     rw[hn]at htr
     have po:=(ok.A0e x (List.mem_of_getElem? hx)).prog pr o hn
     exact key x pr o rfl htr (I.prog _ x pr o hx hn) po.pc.1 po.done.1
    |none=>
     rw[hn]at htr
     cases x.queue with
     |nil=>exact gi
     |cons q t=>exact key _ _ _ rfl htr (PrS.E7o _ _ _) (Int.le_refl _) (Int.le_refl _)
   ·exact gi
  split
  ·split
   ·exact(E9v hc I.wi.len).gi gi
   ·exact gi
  ·split
   ·rename_i y hy
    exact H1a hc I.wi (I.re _ y hy) gi
   ·exact gi
 split
 ·split
  ·split
   ·exact gi
   ·exact gi
  split
  ·split
   ·exact gi
   ·exact gi
  ·exact gi
 ·exact gi
theorem H2h(es:List PEv):∀{P:A0o} {n:Nat},A4p P n→PI P→GI P.S→n+es.length≤100000→(∀e ∈ es,e.wf)→GI (A5y P es).S:=by
 induction es with
 |nil=>intro P n _ _ h _ _;exact h
 |cons e es ih=>
  intro P n at_ I h hn hw
  simp only[List.length_cons]at hn
  exact ih (C8j at_ (by omega) e (hw e (List.mem_cons_self ..))) (F0n at_ (by omega) I e) (H3v at_ I h e) (by omega) (fun e' he=>hw e' (List.mem_cons_of_mem _ he))
theorem H2r(c:Cf):GI (A1q c).S:=by
 have hst:∀x,stx (B6u c) x=St.zero:=fun x=>by unfold stx WS.word B6u;dsimp only;rw[F7n];rfl
 exact⟨trivial,fun x _=>by rw[show(A1q c).S=B6u c from rfl,hst];rfl⟩
structure E3y(pr:PrS)(se:A0j)(ss:A0g)(po:A0c)(S:WS)(R:StA):Prop where
 r:∀r,R.r=some r→r.kind=pr.a.kind∧r.id=pr.a.id∧(pr.a.kind=1→(pr.pc<2∧r.code≠0)∨(4≤pr.pc∧r.code=0))
 n:R.r=none→R.pr.a=pr.a∧(pr.a.kind=1→(pr.pc<4→R.pr.pc=pr.pc+1)∧(4≤pr.pc→R.pr.pc=pr.pc)∧(pr.pc=0→se.last<pr.a.id))
 l:R.se.last=if pr.a.kind=1∧pr.pc=3 then pr.a.id else se.last
 h:pr.a.kind=1→pr.pc<2→R.S=S∧R.se=se∧R.ss=ss∧R.po=po
 u:R.po.A0i=po.A0i∨(pr.a.kind=1∧4≤pr.pc∧ss.taken≠ss.tape.length∧R.po.A0i=po.A0i.set (atT ss.tape ss.taken).ev.toNat ss.ev)
theorem G5n(x:Int)(pr:PrS)(S:WS):(A1n x pr S).2.1.a=pr.a∧(A1n x pr S).2.1.pc=pr.pc:=by
 unfold A1n
 repeat' (first|exact⟨rfl,rfl⟩|split)
theorem H2p(pr:PrS)(o:Option A0a)(ss:A0g)(po:A0c)(S:WS):(A1p pr o ss po S).po.A0i=po.A0i∨(ss.taken≠ss.tape.length∧(A1p pr o ss po S).po.A0i=po.A0i.set (atT ss.tape ss.taken).ev.toNat ss.ev):=by
 have t:(takeN ss po).2.2.A0i=po.A0i∨(ss.taken≠ss.tape.length∧(takeN ss po).2.2.A0i=po.A0i.set (atT ss.tape ss.taken).ev.toNat ss.ev):=by
  unfold takeN
  split
  ·exact .inl rfl
  ·exact .inr ⟨by assumption,rfl⟩
 have ru:∀n o ss po,(A2a n o ss po S).po.A0i=po.A0i:=by
  intro n o ss po
  unfold A2a
  repeat' (first|rfl|split)
 unfold A1p
 split
 ·split
  ·rw[ru];exact t
  ·rw[ru];exact .inl rfl
 ·rw[ru];exact .inl rfl
theorem H1p(pr:PrS)(o:Option A0a)(se:A0j)(ss:A0g)(po:A0c)(S:WS)(hp:0≤pr.pc):E3y pr se ss po S (A2z pr o se ss po S):=by
 unfold A2z
 split
 ·rename_i hk
  unfold A9c
  split
  ·rename_i hpc
   show E3y pr se ss po S ((A1u (A0r S.c se.part pr.a.cell) pr se S).on o ss po)
   generalize A0r S.c se.part pr.a.cell=x
   unfold A1u
   split
   ·rename_i h0
    have l0:∀z:A0j,se.last=if pr.a.kind=1∧pr.pc=3 then pr.a.id else se.last:=fun _=>by rw[if_neg (by omega)]
    split
    ·rename_i hq
     exact⟨fun r e=>by cases e;exact⟨rfl,rfl,fun _=>.inl ⟨by omega,hq⟩⟩,fun e=>(by cases e),l0 se,fun _ _=>⟨rfl,rfl,rfl,rfl⟩,.inl rfl⟩
    ·rename_i hq
     refine⟨fun r e=>(by cases e),fun _=>⟨rfl,fun _=>⟨fun _=>rfl,fun q=>by omega,fun _=>?_⟩⟩,l0 se,fun _ _=>⟨rfl,rfl,rfl,rfl⟩,.inl rfl⟩
     have hq:A6x pr se S=0:=by simpa using hq
     unfold A6x at hq
     split at hq
     ·exact absurd hq (by decide)
     ·omega
   split
   ·rename_i n0 h0
    have l0:∀z:A0j,se.last=if pr.a.kind=1∧pr.pc=3 then pr.a.id else se.last:=fun _=>by rw[if_neg (by omega)]
    split
    ·rename_i hq
     exact⟨fun r e=>by cases e;exact⟨rfl,rfl,fun _=>.inl ⟨by omega,hq⟩⟩,fun e=>(by cases e),l0 se,fun _ _=>⟨rfl,rfl,rfl,rfl⟩,.inl rfl⟩
    ·exact⟨fun r e=>(by cases e),fun _=>⟨rfl,fun _=>⟨fun _=>rfl,fun q=>by omega,fun q=>by omega⟩⟩,l0 se,fun _ _=>⟨rfl,rfl,rfl,rfl⟩,.inl rfl⟩
   split
   ·rename_i n0 n1 h0
    exact⟨fun r e=>(by cases e),fun _=>⟨rfl,fun _=>⟨fun _=>rfl,fun q=>by omega,fun q=>by omega⟩⟩,by rw[if_neg (by omega)];rfl,fun _ q=>by omega,.inl rfl⟩
   split
   ·rename_i n0 n1 n2 h0
    exact⟨fun r e=>(by cases e),fun _=>⟨rfl,fun _=>⟨fun _=>rfl,fun q=>by omega,fun q=>by omega⟩⟩,by rw[if_pos ⟨hk,h0⟩];rfl,fun _ q=>by omega,.inl rfl⟩
   ·omega
  ·rename_i hpc
   have ku:=H2p pr o ss po S
   generalize A1p pr o ss po S=T at*
   have ku:T.po.A0i=po.A0i∨(pr.a.kind=1∧4≤pr.pc∧ss.taken≠ss.tape.length∧T.po.A0i=po.A0i.set (atT ss.tape ss.taken).ev.toNat ss.ev):=ku.imp id fun q=>⟨hk,by omega,q⟩
   have l0:se.last=if pr.a.kind=1∧pr.pc=3 then pr.a.id else se.last:=by rw[if_neg (by omega)]
   have ra:=G5n (A0r S.c se.part pr.a.cell) {pr with n:=T.n} T.S
   unfold B1t
   split
   ·exact⟨fun r e=>(by cases e),fun _=>⟨rfl,fun _=>⟨fun q=>by omega,fun _=>rfl,fun q=>by omega⟩⟩,l0,fun _ q=>by omega,ku⟩
   split
   ·exact⟨fun r e=>(by cases e),fun _=>⟨ra.1,fun _=>⟨fun q=>by omega,fun _=>ra.2,fun q=>by omega⟩⟩,l0,fun _ q=>by omega,ku⟩
   ·exact⟨fun r e=>by cases e;exact⟨rfl,rfl,fun _=>.inr ⟨by omega,rfl⟩⟩,fun e=>(by cases e),l0,fun _ q=>by omega,ku⟩
 rename_i hk
 have no:∀X:Stp,(∀r,X.r=some r→r.kind=pr.a.kind∧r.id=pr.a.id)→(X.r=none→X.pr.a=pr.a)→X.se.last=se.last→E3y pr se ss po S (X.on o ss po):=fun X h1 h2 h3=>
  ⟨fun r e=>⟨(h1 r e).1,(h1 r e).2,fun q=>absurd q hk⟩,fun e=>⟨h2 e,fun q=>absurd q hk⟩,by rw[if_neg (fun q=>hk q.1)];exact h3,fun q=>absurd q hk,.inl rfl⟩
 have ta:∀x,(A3h x pr se S).1.a=pr.a:=fun x=>by
  unfold A3h
  repeat' (first|rfl|split)
 split
 ·refine no _ (fun r e=>?_) (fun e=>?_) ?_
  ·unfold A1m at e
   repeat' (first|(cases e<;>exact⟨rfl,rfl⟩)|split at e)
  ·unfold A1m
   repeat' (first|rfl|exact ta _|split|(dsimp only[A8g];split))
  ·unfold A1m
   repeat' (first|rfl|split)
 split
 ·refine no _ (fun r e=>?_) (fun e=>?_) ?_
  ·unfold A2m at e
   repeat' (first|(cases e<;>exact⟨rfl,rfl⟩)|split at e)
  ·unfold A2m
   repeat' (first|rfl|split)
  ·unfold A2m
   repeat' (first|rfl|split)
 split
 ·refine no _ (fun r e=>?_) (fun e=>?_) ?_
  ·unfold A2j at e
   repeat' (first|(cases e<;>exact⟨rfl,rfl⟩)|split at e)
  ·unfold A2j
   repeat' (first|rfl|split)
  ·unfold A2j
   repeat' (first|rfl|split)
 ·exact no ⟨some (codeF pr S 6),pr,se,S⟩ (fun r e=>by cases e;exact⟨rfl,rfl⟩) (fun e=>by cases e) rfl
structure Beg(x x1:A1e)(pr:PrS)(o:Option A0a):Prop where
 se:x1.se=x.se
 tape:x1.tape=x.tape
 taken:x1.taken=x.taken
 c:(x1=x∧x.now=some (pr,o))∨(x.now=none∧∃q,x.queue=q::x1.queue∧x1.ev=q.ev∧pr=PrS.start q.a∧o=none)
theorem F8n(P:A0o)(i:Nat)(x:A1e):((A2t P i x).2=P∧x.now=none∧x.queue=[])∨∃x1 pr o,Beg x x1 pr o∧(A2t P i x).2=A8b P i x1 pr o:=by
 unfold A2t A1e.begun
 cases hn:x.now with
 |some v=>obtain⟨pr,o⟩:=v;exact .inr ⟨x,pr,o,⟨rfl,rfl,rfl,.inl ⟨rfl,hn⟩⟩,rfl⟩
 |none=>
  cases hq:x.queue with
  |nil=>exact .inl ⟨rfl,rfl,rfl⟩
  |cons q t=>exact .inr ⟨{x with queue:=t,ev:=q.ev,now:=some (PrS.start q.a,none)},PrS.start q.a,none,⟨rfl,rfl,rfl,.inr ⟨hn,q,hq,rfl,rfl,rfl⟩⟩,rfl⟩
structure A5f(P P':A0o)(i:Nat)(x1:A1e)(R:StA)(x':A1e):Prop where
 A0e:P'.A0e=P.A0e.set i x'
 S:P'.S=R.S
 sw:P'.sw=P.sw
 re:P'.re=P.re
 ev:P'.events=P.events
 A0i:P'.A0i=R.po.A0i
 se:x'.se=R.se
 queue:x'.queue=x1.queue
 tape:x'.tape=x1.tape
 taken:x'.taken=R.ss.taken
 c:(R.r=none∧x'.now=some (R.pr,R.o)∧x'.ev=x1.ev∧P'.outs=P.outs)∨∃r,R.r=some r∧x'.now=none∧P'.outs=P.outs++[⟨R.se.part,x1.ev,r⟩]
theorem E2s(P:A0o)(i:Nat)(x1:A1e)(pr:PrS)(o:Option A0a):∃x',A5f P (A8b P i x1 pr o) i x1 (A2z pr o x1.se x1.nl (P.use x1.ev).nl P.S) x':=by
 unfold A8b
 generalize A2z pr o x1.se x1.nl (P.use x1.ev).nl P.S=R
 unfold B6m
 split
 ·rename_i h;exact⟨_,rfl,rfl,rfl,rfl,rfl,rfl,rfl,rfl,rfl,rfl,.inl ⟨h,rfl,rfl,rfl⟩⟩
 ·rename_i r h;exact⟨_,rfl,rfl,rfl,rfl,rfl,rfl,rfl,rfl,rfl,rfl,.inr ⟨r,h,rfl,rfl⟩⟩
end Go.Proofs.YtglhnofjggpdjaaGreat.P
