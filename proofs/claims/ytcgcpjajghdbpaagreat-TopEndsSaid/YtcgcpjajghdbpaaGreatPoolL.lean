import Derived.Test.YtcgcpjajghdbpaaGreatPoolK
namespace Go.Proofs.YtcgcpjajghdbpaaGreat.P
open Go.RowKit Go.Proofs.YtcgcpjajghdbpaaGreat.Eng Go.Proofs.YtcgcpjajghdbpaaGreat Go.Proofs.YtcgcpjajghdbpaaGreat.Dat Go.Proofs.YtcgcpjajghdbpaaGreat.FDat
set_option linter.unusedVariables false
set_option linter.unusedSimpArgs false
set_option linter.unusedSectionVars false
set_option maxRecDepth 10000
structure InA(L:List D)(a s z l w m k:Nat)(pr:PrS)(se:SeatS)(ss:SessS)(po:PoolS)(S:WS):Prop where
 H:Hs L a s w m k pr se S
 z:L.getD z D.nil=.agg ss.ds
 l:L.getD l D.nil=.agg po.ds
def Own(a q s z l w m:Nat)(b:Nat):Prop:=b=a∨b=q∨b=s∨b=z∨b=l∨b=w∨b=m
def FrA(L L':List D)(a q s z l w m:Nat):Prop:=Fr L L' (Own a q s z l w m)
section
variable{L:List D}{a s z l w m k:Nat}{pr:PrS}{se:SeatS}{ss:SessS}{po:PoolS}{S:WS}(A:InA L a s z l w m k pr se ss po S)
include A
theorem InA.fz:z≠a∧z≠s∧z≠w∧z≠m∧z≠k∧z≠l:=by
 obtain⟨h1,h2,h3⟩:=A.H.W.far A.z (by rw[SessS.len];decide) (by rw[SessS.len];decide) (by rw[SessS.len];decide)
 exact⟨ne_of A.z A.H.a (by rw[PrS.len,SessS.len];decide),ne_of A.z A.H.s (by rw[SeatS.len,SessS.len];decide),h1,h2,h3,ne_of A.z A.l (by rw[SessS.len,PoolS.len];decide)⟩
theorem InA.fl:l≠a∧l≠s∧l≠w∧l≠m∧l≠k:=by
 obtain⟨h1,h2,h3⟩:=A.H.W.far A.l (by rw[PoolS.len];decide) (by rw[PoolS.len];decide) (by rw[PoolS.len];decide)
 exact⟨ne_of A.l A.H.a (by rw[PrS.len,PoolS.len];decide),ne_of A.l A.H.s (by rw[SeatS.len,PoolS.len];decide),h1,h2,h3⟩
theorem InA.step{L1:List D}{pr1:PrS}{se1:SeatS}{S1:WS}(H1:Hs L1 a s w m k pr1 se1 S1)(G:FrS L L1 a s w m):InA L1 a s z l w m k pr1 se1 ss po S1:=by
 obtain⟨h1,h2,h3,h4,h5,h6⟩:=A.fz
 obtain⟨g1,g2,g3,g4,g5⟩:=A.fl
 exact⟨H1,G.get A.z (by simp only[h1,h2,h3,h4,or_self,not_false_iff]),G.get A.l (by simp only[g1,g2,g3,g4,or_self,not_false_iff])⟩
theorem InA.setZ(ss':SessS):InA (L.set z (.agg ss'.ds)) a s z l w m k pr se ss' po S:=by
 obtain⟨h1,h2,h3,h4,h5,h6⟩:=A.fz
 exact⟨⟨A.H.W.fr (Fr.set L z _ (T:=(·=z)) rfl) (Ne.symm h3) (Ne.symm h4) (Ne.symm h5),by rw[A0s h1];exact A.H.a,by rw[A0s h2];exact A.H.s⟩,A0w (lt_of A.z) _,by rw[A0s h6];exact A.l⟩
theorem InA.setL(po':PoolS):InA (L.set l (.agg po'.ds)) a s z l w m k pr se ss po' S:=by
 obtain⟨h1,h2,h3,h4,h5,h6⟩:=A.fz
 obtain⟨g1,g2,g3,g4,g5⟩:=A.fl
 exact⟨⟨A.H.W.fr (Fr.set L l _ (T:=(·=l)) rfl) (Ne.symm g3) (Ne.symm g4) (Ne.symm g5),by rw[A0s g1];exact A.H.a,by rw[A0s g2];exact A.H.s⟩,by rw[A0s (Ne.symm h6)];exact A.z,A0w (lt_of A.l) _⟩
theorem InA.snoc(x:D):InA (L++[x]) a s z l w m k pr se ss po S:=by
 have hf:Fr L (L++[x]) (fun _=>False):=Fr.snoc L x _
 exact⟨⟨A.H.W.fr hf not_false not_false not_false,hf.get A.H.a not_false,hf.get A.H.s not_false⟩,hf.get A.z not_false,hf.get A.l not_false⟩
omit A
theorem FrA.ofS{L L':List D}{a q s z l w m:Nat}(G:FrS L L' a s w m):FrA L L' a q s z l w m:=G.mono fun b hb=>by
 unfold Own
 rcases hb with h|h|h|h
 ·exact .inl h
 ·exact .inr (.inr (.inl h))
 ·exact .inr (.inr (.inr (.inr (.inr (.inl h)))))
 ·exact .inr (.inr (.inr (.inr (.inr (.inr h)))))
end
def PP(L:List D)(q:Nat)(ptr:D)(o:Option PairS):Prop:=match o with
 |none=>ptr=.nil
 |some P=>ptr=.int (q:Nat)∧L.getD q D.nil=.agg P.ds
def doneO:Option PairS→Bool
 |none=>true
 |some P=>decide (P.pc≥14)
def drawD(z l:Nat):D:=.iface 50 (.agg [.iface 69 (.agg [.int (z:Nat)]),.iface 25 (.agg [.int (l:Nat)])])
def atT(t:List Dr)(i:Int):Dr:=t.getD i.toNat ⟨0,0⟩
def takeN(ss:SessS)(po:PoolS):Option Int × SessS × PoolS:=
 if ss.taken=ss.tape.length then(none,ss,po)else(some (atT ss.tape ss.taken).n,{ss with taken:=ss.taken+1},{po with uses:=po.uses.set (atT ss.tape ss.taken).ev.toNat ss.ev})
structure TapeOk(ss:SessS)(po:PoolS):Prop where
 t:0≤ss.taken∧ss.taken≤ss.tape.length∧ss.tape.length≤1000000
 e:∀d ∈ ss.tape,0≤d.ev∧d.ev<po.uses.length
theorem D9r{L:List D}{a s z l w m k:Nat}{pr:PrS}{se:SeatS}{ss:SessS}{po:PoolS}{S:WS}(A:InA L a s z l w m k pr se ss po S)(ht:TapeOk ss po):
  ∃L',FX 51 [.int (z:Nat),.int (l:Nat),.agg L]=some [.int ((takeN ss po).1.getD 0),.bool (takeN ss po).1.isSome,.agg L']∧InA L' a s z l w m k pr se (takeN ss po).2.1 (takeN ss po).2.2 S∧Fr L L' (fun b=>b=z∨b=l):=by
 obtain⟨⟨t1,t2,t3⟩,te⟩:=ht
 have hlen:(ss.tape.map Dr.d).length=ss.tape.length:=List.length_map ..
 rw[B3c]
 simp only[HH,A.z,SessS.get3,SessS.get4,SessS.get5,hlen]
 unfold takeN
 by_cases c0:ss.taken=ss.tape.length
 ·have i0:(ss.taken == (ss.tape.length:Int))=true:=beq_iff_eq.2 c0
  rw[if_pos c0]
  simp only[i0,if_true]
  exact⟨L,rfl,A,Fr.refl _ _⟩
 ·have i0:(ss.taken == (ss.tape.length:Int))=false:=beq_eq_false_iff_ne.2 c0
  rw[if_neg c0]
  have hlt:ss.taken.toNat<ss.tape.length:=by omega
  have hmem:atT ss.tape ss.taken ∈ ss.tape:=by
   unfold atT
   rw[List.getD_eq_getElem?_getD,List.getElem?_eq_getElem hlt]
   exact List.getElem_mem hlt
  obtain⟨e1,e2⟩:=te _ hmem
  have hg:(ss.tape.map Dr.d).getD ss.taken.toNat D.nil=.agg [.int (atT ss.tape ss.taken).n,.int (atT ss.tape ss.taken).ev]:=by
   unfold atT
   rw[List.getD_eq_getElem?_getD,List.getElem?_map,List.getElem?_eq_getElem hlt,List.getD_eq_getElem?_getD,List.getElem?_eq_getElem hlt];rfl
  generalize atT ss.tape ss.taken=d at*
  have j1:ss.taken≥0:=t1
  have j2:ss.taken<(ss.tape.length:Int):=by omega
  have j3:d.ev≥0:=e1
  have A1:=A.setZ {ss with taken:=ss.taken+1}
  have A2:=A1.setL {po with uses:=po.uses.set d.ev.toNat ss.ev}
  refine⟨_,?_,A2,(Fr.set L z _ (.inl rfl)).trans (Fr.set _ l _ (.inr rfl))⟩
  simp only[i0,Bool.false_eq_true,if_false,j1,j2,decide_true,if_true,hg,HH,SessS.rng]
  rw[i64w _ (by omega) (by omega)]
  simp only[SessS.set5,A1.l,HH,PoolS.get6,B4f,j3,e2,decide_true,PoolS.rng,C0m,PoolS.set6]
  rfl
structure Tr where
 b:Bool
 n:Int
 o:Option PairS
 ss:SessS
 po:PoolS
 S:WS
def atA(t:List Aim)(i:Int):Aim:=t.getD i.toNat ⟨0,0,0,0,0⟩
def runO(n:Int)(o:Option PairS)(ss:SessS)(po:PoolS)(S:WS):Tr:=match o with
 |none=>⟨false,n,none,ss,po,S⟩
 |some P=>if P.pc≥14 then⟨false,n,some P,ss,po,S⟩else⟨true,n,some (pStepF P S).1,ss,po,(pStepF P S).2⟩
def newAim(ai:Aim):Option Int→Aim
 |none=>ai
 |some v=>{ai with y:=v}
def tryP(pr:PrS)(o:Option PairS)(ss:SessS)(po:PoolS)(S:WS):Tr:=
 if doneO o=true∧pr.n<pr.aims.length then
  (if(atA pr.aims pr.n).way=1 then runO (pr.n+1) (some (PairS.new (newAim (atA pr.aims pr.n) (takeN ss po).1))) (takeN ss po).2.1 (takeN ss po).2.2 S
  else runO (pr.n+1) (some (PairS.new (atA pr.aims pr.n))) ss po S)
 else runO pr.n o ss po S
section
variable{L:List D}{a s z l w m k q:Nat}{pr:PrS}{se:SeatS}{ss:SessS}{po:PoolS}{S:WS}{o:Option PairS}(A:InA L a s z l w m k pr se ss po S)(h:S.ok)(hp:PP L q pr.p o)
include A h hp
theorem C8o:FX 53 [pr.p,.agg L]=some [.bool (doneO o)]:=by
 cases o with
 |none=>
  dsimp only[PP]at hp
  rw[hp,A4f]
  simp only[HH];rfl
 |some P=>
  obtain⟨e1,e2⟩:=hp
  rw[e1,B8m A.H.W e2];rfl
theorem D2c(ho:∀P,o=some P→P.ok)(hl:S.log.length≤1000000000)(x2:D):
  ∃L',A1a (.int (a:Nat)) (.int (w:Nat)) x2 [.agg L]=some [.bool (runO pr.n o ss po S).b,.agg L']∧
   InA L' a s z l w m k pr se ss po (runO pr.n o ss po S).S∧PP L' q pr.p (runO pr.n o ss po S).o∧FrA L L' a q s z l w m:=by
 have n1:=C8o A h hp
 rw[A9l]
 simp only[HH,A.H.a,PrS.get19,n1]
 cases o with
 |none=>
  simp only[doneO,if_true]
  exact⟨L,rfl,A,hp,Fr.refl _ _⟩
 |some P=>
  obtain⟨e1,e2⟩:=hp
  unfold runO
  by_cases c0:P.pc≥14
  ·have i0:doneO (some P)=true:=by simp only[doneO,c0,decide_true]
   simp only[i0,if_true,if_pos c0]
   exact⟨L,rfl,A,⟨e1,e2⟩,Fr.refl _ _⟩
  ·have i0:doneO (some P)=false:=by simp only[doneO,c0,decide_false]
   obtain⟨L1,n2,d1,d2,d3⟩:=C8h A.H.W e2 h (ho P rfl) hl
   simp only[i0,Bool.false_eq_true,if_false,if_neg c0,e1,n2,HH]
   have hq:q≠a∧q≠s∧q≠z∧q≠l:=⟨ne_of e2 A.H.a (by rw[PairS.len,PrS.len];decide),ne_of e2 A.H.s (by rw[PairS.len,SeatS.len];decide),ne_of e2 A.z (by rw[PairS.len,SessS.len];decide),ne_of e2 A.l (by rw[PairS.len,PoolS.len];decide)⟩
   obtain⟨q1,q2,q3,q4⟩:=hq
   obtain⟨f1,f2,f3,f4,f5,f6,f7⟩:=A.H.far
   obtain⟨g1,g2,g3,g4,g5,g6⟩:=A.fz
   obtain⟨k1,k2,k3,k4,k5⟩:=A.fl
   refine⟨L1,rfl,⟨⟨d1,d3.get A.H.a ?_,d3.get A.H.s ?_⟩,d3.get A.z ?_,d3.get A.l ?_⟩,⟨rfl,d2⟩,d3.mono fun b hb=>?_⟩
   ·simp only[Ne.symm q1,f1,f2,or_self,not_false_iff]
   ·simp only[Ne.symm q2,f4,f5,or_self,not_false_iff]
   ·simp only[Ne.symm q3,g3,g4,or_self,not_false_iff]
   ·simp only[Ne.symm q4,k3,k4,or_self,not_false_iff]
   ·unfold Own
    rcases hb with hb|hb|hb
    ·exact .inr (.inl hb)
    ·exact .inr (.inr (.inr (.inr (.inr (.inl hb)))))
    ·exact .inr (.inr (.inr (.inr (.inr (.inr hb)))))
end
end Go.Proofs.YtcgcpjajghdbpaaGreat.P
