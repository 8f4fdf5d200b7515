import Derived.Test.YtcgcpjajghdbpaaGreatPoolT
namespace Go.Proofs.YtcgcpjajghdbpaaGreat.P
open Go.RowKit Go.Proofs.YtcgcpjajghdbpaaGreat.Eng Go.Proofs.YtcgcpjajghdbpaaGreat Go.Proofs.YtcgcpjajghdbpaaGreat.Dat Go.Proofs.YtcgcpjajghdbpaaGreat.FDat
set_option linter.unusedVariables false
set_option linter.unusedSimpArgs false
set_option linter.unusedSectionVars false
set_option maxRecDepth 10000
structure KeepQ(P P':Pool)(n:Nat):Prop where
 ok:PoolOk P' (n+1)
 w:KeepW P.S P'.S
 uses:P'.uses.length=P.uses.length
 events:P'.events=P.events
 sl:P'.sess.length=P.sess.length
 swl:P'.sw.length=P.sw.length
 rel:P'.re.length=P.re.length
 lines:P'.lines=P.lines
theorem PoolOk.mono{P:Pool}{n n':Nat}(h:PoolOk P n)(hn:n≤n'):PoolOk P n':=
 ⟨h.S,fun x hx=>(h.sess x hx).mono rfl (Nat.le_refl _) hn,h.sw,h.re,Nat.le_trans h.log hn,Nat.le_trans h.outs hn,Nat.le_trans h.lines hn,h.reps⟩
theorem KeepQ.rfl'{P:Pool}{n:Nat}(h:PoolOk P n):KeepQ P P n:=⟨h.mono (Nat.le_succ n),.rfl' h.S,rfl,rfl,rfl,rfl,rfl,rfl⟩
theorem others{P:Pool}{n:Nat}(h:PoolOk P n){S':WS}(kw:KeepW P.S S'):(∀x ∈ P.sess,SessOk x S' P.uses.length (n+1))∧(∀x ∈ P.sw,SwOk x.1 S'.c∧∀P',x.2=some P'→P'.ok)∧(∀x ∈ P.re,ReOk x S'.c):=by
 refine⟨fun x hx=>(h.sess x hx).mono kw.c (Nat.le_refl _) (Nat.le_succ n),?_,?_⟩
 ·rw[kw.c];exact h.sw
 ·rw[kw.c];exact h.re
theorem C7e{P:Pool}{n i:Nat}{x:Sess}{pr:PrS}{o:Option PairS}(h:PoolOk P n)(hn:n≤1000000)(hx:SessOk x P.S P.uses.length n)(hk:ProgOk pr o x.se P.S):KeepQ P (stepQ P i x pr o) n:=by
 have hul:(P.use x.ev).uses.length=P.uses.length:=by simp[Pool.use]
 have ht0:TapeOk x.nl (P.use x.ev).nl:=⟨⟨hx.taken.1,hx.taken.2,Nat.le_trans hx.tlen hn⟩,fun d hd=>by
  have:=hx.tape d hd
  show 0≤d.ev∧d.ev<((P.use x.ev).uses.length:Int)
  rw[hul];exact this⟩
 have kk:=C0z (pr:=pr) (o:=o) h.S hk hx.seat ht0
 have hrep:=fun r (h:(stepA pr o x.se x.nl (P.use x.ev).nl P.S).r=some r)=>D5s hk h
 have hQ:stepQ P i x pr o=stepR (P.use x.ev) i x (stepA pr o x.se x.nl (P.use x.ev).nl P.S):=rfl
 rw[hQ]
 generalize stepA pr o x.se x.nl (P.use x.ev).nl P.S=R at*
 obtain⟨kw,ks,kp,kt,kg⟩:=kk
 have hrl:R.po.uses.length=P.uses.length:=by rw[kt.len];exact hul
 obtain⟨o1,o2,o3⟩:=others h kw
 have ets:R.ss.tape=x.tape:=by rw[kt.e1];rfl
 have tk:0≤R.ss.taken∧R.ss.taken≤(x.tape.length:Int):=by have:=kt.tape.t;rw[ets]at this;exact⟨this.1,this.2.1⟩
 have hlog:=kw.log
 have h1:=h.log
 have h2:=h.outs
 unfold stepR
 cases hr:R.r with
 |none=>
  obtain⟨p1,_⟩:=kg hr
  refine⟨⟨kw.ok,fun y hy=>?_,o2,o3,by show R.S.log.length≤_;omega,by show P.outs.length≤_;omega,Nat.le_succ_of_le h.lines,h.reps⟩,kw,hrl,rfl,by simp[Pool.use],rfl,rfl,rfl⟩
  show SessOk y R.S R.po.uses.length (n+1)
  rw[hrl]
  rcases List.mem_or_eq_of_mem_set hy with hy|hy
  ·exact o1 y hy
  ·subst hy
   exact⟨by rw[kw.c];exact ks,tk,hx.tape,Nat.le_succ_of_le hx.tlen,hx.queue,Nat.le_succ_of_le hx.qlen,fun pr o hh=>by cases hh;exact p1⟩
 |some r=>
  refine⟨⟨kw.ok,fun y hy=>?_,o2,o3,by show R.S.log.length≤_;omega,by simp[Pool.use];omega,Nat.le_succ_of_le h.lines,fun o ho=>(List.mem_append.1 ho).elim (h.reps o) fun ho=>by rw[List.mem_singleton]at ho;subst ho;exact hrep r hr⟩,kw,hrl,rfl,by simp[Pool.use],rfl,rfl,rfl⟩
  show SessOk y R.S R.po.uses.length (n+1)
  rw[hrl]
  rcases List.mem_or_eq_of_mem_set hy with hy|hy
  ·exact o1 y hy
  ·subst hy
   exact⟨by rw[kw.c];exact ks,tk,hx.tape,Nat.le_succ_of_le hx.tlen,hx.queue,Nat.le_succ_of_le hx.qlen,fun pr o hh=>by cases hh⟩
theorem D9p{P:Pool}{n i:Nat}{x:Sess}(h:PoolOk P n)(hn:n≤1000000)(hx:SessOk x P.S P.uses.length n):KeepQ P (stepP P i x).2 n:=by
 unfold stepP Sess.begun
 cases hnow:x.now with
 |some y=>
  obtain⟨pr,o⟩:=y
  exact C7e h hn hx (hx.prog pr o hnow)
 |none=>
  cases hq:x.queue with
  |nil=>exact .rfl' h
  |cons q t=>
   have hqw:q.a.tm.wf:=hx.queue q (by rw[hq];exact List.mem_cons_self ..)
   have htq:∀y ∈ t,y.a.tm.wf:=fun y hy=>hx.queue y (by rw[hq];exact List.mem_cons_of_mem _ hy)
   have hlq:t.length≤n:=by have:=hx.qlen;rw[hq,List.length_cons]at this;omega
   exact C7e (x:={x with queue:=t,ev:=q.ev,now:=some (PrS.start q.a,none)}) h hn ⟨hx.seat,hx.taken,hx.tape,hx.tlen,htq,hlq,fun pr o hh=>by cases hh;exact C0d _ hqw _ _⟩ (C0d _ hqw _ _)
def sweepP(P:Pool)(j:Nat)(y:SwS × Option PairS):Pool:={P with S:=(sweepF y.1 y.2 P.S).2.2,sw:=P.sw.set j ((sweepF y.1 y.2 P.S).1,some (sweepF y.1 y.2 P.S).2.1)}
def reapP(P:Pool)(j:Nat)(y:ReS):Pool:={P with S:=(reapF y P.S).2,re:=P.re.set j (reapF y P.S).1}
def pickP(P:Pool)(ag:Int):Bool × Pool:=
 if ag<0∨ag-P.sess.length≥2*P.sw.length then(false,P)
 else if ag-P.sess.length<0 then(match P.sess[ag.toNat]? with
  |some x=>stepP P ag.toNat x
  |none=>(false,P))
 else if ag-P.sess.length<P.sw.length then(match P.sw[(ag-P.sess.length).toNat]? with
  |some y=>(true,sweepP P (ag-P.sess.length).toNat y)
  |none=>(true,P))
 else(match P.re[(ag-P.sess.length-P.sw.length).toNat]? with
  |some y=>(true,reapP P (ag-P.sess.length-P.sw.length).toNat y)
  |none=>(true,P))
theorem D6x(sw:SwS)(c:Cf){o:Option PairS}(ho:∀P,o=some P→P.ok):(sweepO sw c o).ok:=by
 cases o with
 |none=>exact PairS.new_ok _
 |some P=>
  unfold sweepO
  dsimp only
  split
  ·exact PairS.new_ok _
  ·exact ho P rfl
theorem D6z{sw:SwS}{c:Cf}(hc:c.ok)(h:SwOk sw c)(P:PairS):SwOk (sweepN sw c P) c:=by
 have hal:=all_b c hc
 have hpos:0<allF c*allF c:=Int.mul_pos (by omega) (by omega)
 obtain⟨h1,h2⟩:=h
 unfold sweepN
 split
 ·exact⟨h1,h2⟩
 ·split
  ·exact⟨Int.le_refl 0,hpos⟩
  ·constructor
   ·dsimp only;omega
   ·dsimp only;omega
theorem D9k{P:Pool}{n j:Nat}{y:SwS × Option PairS}(h:PoolOk P n)(hy:y ∈ P.sw):KeepQ P (sweepP P j y) n:=by
 obtain⟨s1,s2⟩:=h.sw y hy
 have kk:=B5a h.S (D6x y.1 P.S.c s2)
 have kw:KeepW P.S (sweepF y.1 y.2 P.S).2.2:=⟨kk.s,kk.c,kk.now,kk.log,kk.len⟩
 obtain⟨o1,o2,o3⟩:=others h kw
 have h1:=h.log
 have h2:=kw.log
 refine⟨⟨kw.ok,o1,fun z hz=>?_,o3,by show(sweepF y.1 y.2 P.S).2.2.log.length≤_;omega,Nat.le_succ_of_le h.outs,Nat.le_succ_of_le h.lines,h.reps⟩,kw,rfl,rfl,rfl,by simp[sweepP],rfl,rfl⟩
 rcases List.mem_or_eq_of_mem_set hz with hz|hz
 ·exact o2 z hz
 ·subst hz
  refine⟨?_,fun P' hP'=>by cases hP';exact kk.p⟩
  show SwOk _ (sweepF y.1 y.2 P.S).2.2.c
  rw[kw.c]
  exact D6z h.S.c s1 _
theorem D4u{re:ReS}{S:WS}(h:S.ok)(hk:ReOk re S.c)(x:Int):KeepW S (reapEnd re S x).2∧(reapEnd re S x).1.pc=re.pc∧ReOk (reapEnd re S x).1 S.c:=by
 obtain⟨k1,k2,k3,k4,k5⟩:=hk
 have hnow:In (S.now:Int):=In.lit (by have:=h.now;omega)
 unfold reapEnd
 split
 ·exact⟨.rfl' h,rfl,⟨k1,k2,k3,k4,k5⟩⟩
 split
 ·exact⟨.rfl' h,rfl,⟨k1,k2,k3,k4,k5⟩⟩
 split
 ·exact⟨.rfl' h,rfl,⟨k1,k2,k3,k4,k5⟩⟩
 split
 ·exact⟨B2e h _ _ _ _,rfl,⟨k1,k2,C1e k3,k4,hnow⟩⟩
 ·exact⟨.rfl' h,rfl,⟨k1,k2,k3,k4,k5⟩⟩
theorem D9x{re:ReS}{S:WS}(h:S.ok)(hk:ReOk re S.c):KeepW S (reapS re S).2∧(reapS re S).1.pc=re.pc∧ReOk (reapS re S).1 S.c:=by
 have hk':=hk
 obtain⟨k1,k2,k3,k4,k5⟩:=hk
 unfold reapS
 split
 ·exact⟨.rfl' h,rfl,⟨k1,WS.word_lt h _,A3w _,k4,k5⟩⟩
 split
 ·exact⟨.rfl' h,rfl,⟨k1,k2,k3,B3j _,k5⟩⟩
 split
 ·exact D4u h hk' _
 ·refine⟨?_,rfl,hk'⟩
  dsimp only
  split
  ·exact C1l h _ _ _ _
  ·exact .rfl' h
theorem E2c{P:Pool}{n j:Nat}{y:ReS}(h:PoolOk P n)(hy:y ∈ P.re):KeepQ P (reapP P j y) n:=by
 have s1:=h.re y hy
 obtain⟨kw,e1,r1⟩:=D9x h.S s1
 have hal:=all_b P.S.c h.S.c
 obtain⟨o1,o2,o3⟩:=others h kw
 have h1:=h.log
 have h2:=kw.log
 refine⟨⟨kw.ok,o1,o2,fun z hz=>?_,by show(reapS y P.S).2.log.length≤_;omega,Nat.le_succ_of_le h.outs,Nat.le_succ_of_le h.lines,h.reps⟩,kw,rfl,rfl,rfl,rfl,by simp[reapP],rfl⟩
 rcases List.mem_or_eq_of_mem_set hz with hz|hz
 ·exact o3 z hz
 ·subst hz
  show ReOk (reapN (reapS y P.S).1 P.S.c) (reapS y P.S).2.c
  rw[kw.c]
  obtain⟨k1,k2,k3,k4,k5⟩:=r1
  have hz1:(0:Int)≤0∧(0:Int)<4*allF P.S.c:=by omega
  unfold reapN
  split
  ·exact⟨hz1,k2,k3,k4,k5⟩
  ·exact⟨by dsimp only;omega,k2,k3,k4,k5⟩
theorem B8n{P:Pool}{n:Nat}(h:PoolOk P n)(hn:n≤1000000)(ag:Int):KeepQ P (pickP P ag).2 n:=by
 unfold pickP
 split
 ·exact .rfl' h
 split
 ·split
  ·rename_i x hx
   exact D9p h hn (h.sess x (A6c hx))
  ·exact .rfl' h
 split
 ·split
  ·rename_i y hy
   exact D9k h (A6c hy)
  ·exact .rfl' h
 ·split
  ·rename_i y hy
   exact E2c h (A6c hy)
  ·exact .rfl' h
section
variable{G L:List D}{lab:Nat→Nat}{pl w m k:Nat}{za swa rea:List Nat}{P:Pool}{n:Nat}(E:Enc G L lab pl w m k za swa rea P)(hP:PoolOk P n)(hn:n≤1000000)
include E hP hn
theorem D5p{j b:Nat}{y:SwS × Option PairS}(hy:P.sw[j]?=some y)(hb:swa[j]?=some b):∃L' lab',FX 45 [.int (b:Nat),.int (w:Nat),.agg L]=some [.agg L']∧Enc G L' lab' pl w m k za swa rea (sweepP P j y):=by
 obtain⟨q,ptr,h1,h2,⟨l1,l2⟩,h5⟩:=E.sw j y b hy hb
 obtain⟨s1,s2⟩:=hP.sw y (A6c hy)
 obtain⟨z1,z2,z3,z4⟩:=E.l0
 have hbl:=lt_of h1
 obtain⟨L',q',n1,W',b',qq,F,hq⟩:=D9d E.W h1 hP.S s1 (by have:=hP.log;omega) h2 s2
 have hpl:pl≠b∧pl≠q:=⟨fun e=>by rw[e]at z1;omega,fun e=>by rw[e]at z1;omega⟩
 have hpw:=E.W.far E.pool (by rw[PoolS.len];decide) (by rw[PoolS.len];decide) (by rw[PoolS.len];decide)
 have hp':L'.getD pl D.nil=.agg ((sweepP P j y).raw (.int (w:Nat)) (ptrL za) (ptrL swa) (ptrL rea)).ds:=F.get E.pool (by unfold OwnB;simp only[hpl.1,hpl.2,hpw.1,hpw.2.1,or_self,not_false_iff])
 refine⟨L',_,n1,E.swp F W' hp' (i:=j) (x':=((sweepF y.1 y.2 P.S).1,some (sweepF y.1 y.2 P.S).2.1)) (fun x hx ho=>?_) hb ⟨q',.int (q':Nat),b',(show PP L' q' (.int (q':Nat)) (some (sweepF y.1 y.2 P.S).2.1)from⟨rfl,qq⟩),⟨by rw[A0p F hbl];exact l1,?_⟩,lt_of qq⟩ rfl rfl rfl⟩
 ·unfold OwnB at ho
  rcases ho with ho|ho|ho|ho
  ·subst ho;exact .inl l1
  ·subst ho;exact .inl l2
  ·subst ho;exact .inr z2
  ·subst ho;exact .inr z3
 ·rcases hq with hq|hq
  ·rw[hq,A0p F h5];exact l2
  ·unfold labN;rw[if_neg (by omega)]
theorem D9q{j b:Nat}{y:ReS}(hy:P.re[j]?=some y)(hb:rea[j]?=some b):∃L' lab',FX 46 [.int (b:Nat),.int (w:Nat),.agg L]=some [.agg L']∧Enc G L' lab' pl w m k za swa rea (reapP P j y):=by
 obtain⟨h1,l1⟩:=E.re j y b hy hb
 have s1:=hP.re y (A6c hy)
 obtain⟨z1,z2,z3,z4⟩:=E.l0
 have hbl:=lt_of h1
 obtain⟨L',n1,H',F⟩:=E3n ⟨E.W,h1⟩ hP.S s1 (by have:=hP.log;omega)
 have hpl:pl≠b:=fun e=>by rw[e]at z1;omega
 have hpw:=E.W.far E.pool (by rw[PoolS.len];decide) (by rw[PoolS.len];decide) (by rw[PoolS.len];decide)
 have hp':L'.getD pl D.nil=.agg ((reapP P j y).raw (.int (w:Nat)) (ptrL za) (ptrL swa) (ptrL rea)).ds:=F.get E.pool (by simp only[hpl,hpw.1,hpw.2.1,or_self,not_false_iff])
 refine⟨L',_,n1,E.rep F H'.W hp' (i:=j) (fun x hx ho=>?_) hb ⟨H'.b,by rw[A0p F hbl];exact l1⟩ rfl rfl rfl⟩
 rcases ho with ho|ho|ho
 ·subst ho;exact .inl l1
 ·subst ho;exact .inr z2
 ·subst ho;exact .inr z3
theorem D9w(he:0≤P.events∧P.events<P.uses.length)(hsr:P.sw.length=P.re.length)(hlen:P.sess.length≤1000∧P.sw.length≤1000)(ag:Int)(hag:In ag):
  ∃L' lab',FX 37 [.int (pl:Nat),.int ag,.agg L]=some [.bool (pickP P ag).1,.agg L']∧Enc G L' lab' pl w m k za swa rea (pickP P ag).2:=by
 have e1:(ptrL za).length=P.sess.length:=by rw[←E.zl];simp[ptrL]
 have e2:(ptrL swa).length=P.sw.length:=by rw[←E.swl];simp[ptrL]
 have e3:(ptrL rea).length=P.re.length:=by rw[←E.rel];simp[ptrL]
 have g0:(P.raw (.int (w:Nat)) (ptrL za) (ptrL swa) (ptrL rea)).w=.int (w:Nat):=rfl
 have g1:(P.raw (.int (w:Nat)) (ptrL za) (ptrL swa) (ptrL rea)).sess=ptrL za:=rfl
 have g2:(P.raw (.int (w:Nat)) (ptrL za) (ptrL swa) (ptrL rea)).sweeps=ptrL swa:=rfl
 have g3:(P.raw (.int (w:Nat)) (ptrL za) (ptrL swa) (ptrL rea)).reaps=ptrL rea:=rfl
 have hJ:FX 37 [.int (pl:Nat),.int ag,.agg L]=A2e (.int (pl:Nat)) (.int ag) (.agg L) [.agg L,.bool (decide (ag<0∨ag-P.sess.length≥2*P.sw.length))]:=by
  rw[B7z]
  simp only[HH,E.pool,PoolS.get1,PoolS.get2,g1,g2,e1,e2]
  by_cases a0:ag<0
  ·simp only[a0,decide_true,if_true,true_or]
  ·have h1:In (ag-(P.sess.length:Int)):=by unfold In at *;omega
   simp only[a0,decide_false,Bool.false_eq_true,if_false,false_or]
   rw[h1.w,i64w (2*(P.sw.length:Int)) (by omega) (by omega)]
 rw[hJ,B1b]
 simp only[HH,E.pool,PoolS.get0,PoolS.get1,PoolS.get2,PoolS.get3,g0,g1,g2,g3,e1,e2,e3]
 by_cases c0:ag<0∨ag-P.sess.length≥2*P.sw.length
 ·have e:pickP P ag=(false,P):=if_pos c0
  rw[e]
  simp only[c0,decide_true,if_true]
  exact⟨L,lab,rfl,E⟩
 have h1:In (ag-(P.sess.length:Int)):=by unfold In at *;omega
 have h2:In (ag-(P.sess.length:Int)-(P.sw.length:Int)):=by unfold In at *;omega
 rw[h1.w,h2.w]
 simp only[c0,decide_false,Bool.false_eq_true,if_false]
 by_cases c1:ag-P.sess.length<0
 ·have hlt:ag.toNat<P.sess.length:=by omega
  obtain⟨x,hx⟩:∃x,P.sess[ag.toNat]?=some x:=⟨_,List.getElem?_eq_getElem hlt⟩
  obtain⟨z,hz⟩:∃z,za[ag.toNat]?=some z:=⟨_,List.getElem?_eq_getElem (by rw[E.zl];exact hlt)⟩
  have e:pickP P ag=stepP P ag.toNat x:=by unfold pickP;rw[if_neg c0,if_pos c1,hx]
  rw[e]
  obtain⟨L',lab',n1,E'⟩:=C9x E hP hn hx hz he
  have j1:ag≥0:=by omega
  have j2:ag<(P.sess.length:Int):=by omega
  simp only[c1,decide_true,if_true,j1,j2,B3n hz,n1,HH]
  exact⟨L',lab',rfl,E'⟩
 simp only[c1,decide_false,Bool.false_eq_true,if_false]
 by_cases c2:ag-P.sess.length<P.sw.length
 ·have hlt:(ag-P.sess.length).toNat<P.sw.length:=by omega
  obtain⟨y,hy⟩:∃y,P.sw[(ag-P.sess.length).toNat]?=some y:=⟨_,List.getElem?_eq_getElem hlt⟩
  obtain⟨b,hb⟩:∃b,swa[(ag-P.sess.length).toNat]?=some b:=⟨_,List.getElem?_eq_getElem (by rw[E.swl];exact hlt)⟩
  have e:pickP P ag=(true,sweepP P (ag-P.sess.length).toNat y):=by unfold pickP;rw[if_neg c0,if_neg c1,if_pos c2,hy]
  rw[e]
  obtain⟨L',lab',n1,E'⟩:=D5p E hP hn hy hb
  have j1:ag-P.sess.length≥0:=by omega
  simp only[c2,decide_true,if_true,j1,B3n hb,n1,HH]
  exact⟨L',lab',rfl,E'⟩
 ·have hlt:(ag-P.sess.length-P.sw.length).toNat<P.re.length:=by omega
  obtain⟨y,hy⟩:∃y,P.re[(ag-P.sess.length-P.sw.length).toNat]?=some y:=⟨_,List.getElem?_eq_getElem hlt⟩
  obtain⟨b,hb⟩:∃b,rea[(ag-P.sess.length-P.sw.length).toNat]?=some b:=⟨_,List.getElem?_eq_getElem (by rw[E.rel];exact hlt)⟩
  have e:pickP P ag=(true,reapP P (ag-P.sess.length-P.sw.length).toNat y):=by unfold pickP;rw[if_neg c0,if_neg c1,if_neg c2,hy]
  rw[e]
  obtain⟨L',lab',n1,E'⟩:=D9q E hP hn hy hb
  have j1:ag-P.sess.length-P.sw.length≥0:=by omega
  have j2:ag-P.sess.length-P.sw.length<(P.re.length:Int):=by omega
  simp only[c2,decide_false,Bool.false_eq_true,if_false,decide_true,if_true,j1,j2,B3n hb,n1,HH]
  exact⟨L',lab',rfl,E'⟩
end
end Go.Proofs.YtcgcpjajghdbpaaGreat.P
