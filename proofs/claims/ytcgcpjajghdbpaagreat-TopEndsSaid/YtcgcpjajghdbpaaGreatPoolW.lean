import Derived.Test.YtcgcpjajghdbpaaGreatPoolV
namespace Go.Proofs.YtcgcpjajghdbpaaGreat.P
open Go.RowKit Go.Proofs.YtcgcpjajghdbpaaGreat.Eng Go.Proofs.YtcgcpjajghdbpaaGreat Go.Proofs.YtcgcpjajghdbpaaGreat.Dat Go.Proofs.YtcgcpjajghdbpaaGreat.FDat
set_option linter.unusedVariables false
set_option linter.unusedSimpArgs false
set_option linter.unusedSectionVars false
set_option maxRecDepth 10000
structure PoolAt(P:Pool)(n:Nat):Prop where
 ok:PoolOk P n
 ev:P.events=n
 us:P.uses.length=n
 sr:P.sw.length=P.re.length
 sl:P.sess.length≤1000
 wl:P.sw.length≤1000
theorem SessIn.put{L:List D}{lab:Nat→Nat}{n n' pl z:Nat}{x:Sess}(h:SessIn L lab n pl z x){po:PoolS}(hpl:L.getD pl D.nil=.agg po.ds)(x':Sess)(hse:x'.se=x.se)(hnow:x'.now=x.now):
  ∃(s:Nat) (now:D),L.getD z D.nil=.agg (x.raw (.int (s:Nat)) now).ds∧∀(po':PoolS),SessIn ((L.set z (.agg (x'.raw (.int (s:Nat)) now).ds)).set pl (.agg po'.ds)) (labN lab n' L) n pl z x':=by
 obtain⟨s,a,q,now,h1,h2,h3,⟨l1,l2,l3,l4⟩,h4,h5⟩:=h
 refine⟨s,now,h1,fun po'=>?_⟩
 have hz:=lt_of h1
 have hs:=lt_of h2
 have zs:z≠s:=ne_of h1 h2 (by rw[SeatS.len,SessS.len];decide)
 have ps:pl≠s:=ne_of hpl h2 (by rw[SeatS.len,PoolS.len];decide)
 have pz:pl≠z:=ne_of hpl h1 (by rw[SessS.len,PoolS.len];decide)
 have F:Fr L ((L.set z (.agg (x'.raw (.int (s:Nat)) now).ds)).set pl (.agg po'.ds)) (fun b=>b=z∨b=pl):=(Fr.set L z _ (.inl rfl)).trans (Fr.set _ pl _ (.inr rfl))
 refine⟨s,a,q,now,?_,?_,?_,⟨by rw[A0p F hz];exact l1,by rw[A0p F hs];exact l2,by rw[A0p F h4];exact l3,by rw[A0p F h5];exact l4⟩,Nat.lt_of_lt_of_le h4 F.1,Nat.lt_of_lt_of_le h5 F.1⟩
 ·rw[A0s pz];exact A0w hz _
 ·rw[A0s ps,A0s zs,hse];exact h2
 ·rw[hnow]
  cases hn:x.now with
  |none=>rw[hn]at h3;exact h3
  |some y=>
   obtain⟨pr,o⟩:=y
   rw[hn]at h3
   obtain⟨g1,ptr,g2,g3⟩:=h3
   have za:a≠z:=ne_of g2 h1 (by rw[PrS.len,SessS.len];decide)
   have pa:a≠pl:=ne_of g2 hpl (by rw[PrS.len,PoolS.len];decide)
   refine⟨g1,ptr,F.get g2 (by simp only[za,pa,or_self,not_false_iff]),g3.ext fun P' hP'=>?_⟩
   subst hP'
   have qz:q≠z:=ne_of g3.2 h1 (by rw[PairS.len,SessS.len];decide)
   have qp:q≠pl:=ne_of g3.2 hpl (by rw[PairS.len,PoolS.len];decide)
   exact F.2 q h5 (by simp only[qz,qp,or_self,not_false_iff])
theorem D8u{S:WS}(h:S.ok)(n:Int):(S.tick n).ok:=by
 have:=D6p (now:=S.now) (n:=n) (by have:=h.now;omega)
 exact⟨h.c,h.w,by show(addF S.now n).toNat≤_;omega,h.len⟩
theorem B7x{P:Pool}{n:Nat}(h:PoolOk P n):PoolOk P.got n:=
 ⟨h.S,fun x hx=>(h.sess x hx).mono rfl (by simp[Pool.got]) (Nat.le_refl _),h.sw,h.re,h.log,h.outs,h.lines,h.reps⟩
theorem PoolOk.on{P:Pool}{n:Nat}(h:PoolOk P n):PoolOk P.on n:=⟨h.S,h.sess,h.sw,h.re,h.log,h.outs,h.lines,h.reps⟩
theorem do_ok{P:Pool}{n:Nat}(h:PoolAt P n)(hn:n<1000000)(e:PEv)(hw:e.wf):PoolAt (doP P e).2 (n+1):=by
 obtain⟨ok,ev,us,sr,sl,wl⟩:=h
 have gu:P.got.uses.length=n+1:=by simp[Pool.got,us]
 have gok:=B7x ok
 have fin0:PoolAt P.got.on (n+1):=⟨(gok.mono (Nat.le_succ n)).on,by show P.events+1=_;rw[ev];rfl,gu,sr,sl,wl⟩
 have hall:=all_b P.S.c ok.S.c
 have ses:∀(i:Nat) (x x':Sess) (P':Pool),P.sess[i]?=some x→P'.S=P.S→P'.sess=P.sess.set i x'→P'.sw=P.sw→P'.re=P.re→P'.uses=P.got.uses→P'.outs=P.outs→P'.lines.length≤n+1→P'.events=P.events→
   SessOk x' P.S (n+1) (n+1)→PoolAt P'.on (n+1):=by
  intro i x x' P' hx e1 e2 e3 e4 e5 e6 e7 e8 hx'
  refine⟨⟨by show P'.S.ok;rw[e1];exact ok.S,fun y hy=>?_,by show ∀x ∈ P'.sw,SwOk x.1 P'.S.c∧_;rw[e1,e3];exact ok.sw,by show ∀x ∈ P'.re,ReOk x P'.S.c;rw[e1,e4];exact ok.re,by show P'.S.log.length≤_;rw[e1];exact Nat.le_succ_of_le ok.log,by show P'.outs.length≤_;rw[e6];exact Nat.le_succ_of_le ok.outs,e7,by show ∀o ∈ P'.outs,_;rw[e6];exact ok.reps⟩,by show P'.events+1=_;rw[e8,ev];rfl,by show P'.uses.length=_;rw[e5];exact gu,by show P'.sw.length=P'.re.length;rw[e3,e4];exact sr,by show P'.sess.length≤_;rw[e2];simpa using sl,by show P'.sw.length≤_;rw[e3];exact wl⟩
  show SessOk y P'.S P'.uses.length (n+1)
  rw[e1,e5,gu]
  have hy':y ∈ P.sess.set i x':=by rw[←e2];exact hy
  rcases List.mem_or_eq_of_mem_set hy' with hy'|hy'
  ·exact(ok.sess y hy').mono rfl (by omega) (Nat.le_succ n)
  ·subst hy';exact hx'
 unfold doP
 split
 ·refine⟨⟨D8u ok.S e.n,fun x hx=>?_,ok.sw,ok.re,Nat.le_succ_of_le ok.log,Nat.le_succ_of_le ok.outs,Nat.le_succ_of_le ok.lines,ok.reps⟩,by show P.events+1=_;rw[ev];rfl,gu,sr,sl,wl⟩
  show SessOk x _ P.got.uses.length (n+1)
  rw[gu]
  exact(ok.sess x hx).mono rfl (by omega) (Nat.le_succ n)
 split
 ·have kq:=B8n gok (by omega) e.who
  exact⟨kq.ok.on,by show(pickP P.got e.who).2.events+1=_;rw[kq.events];show P.events+1=_;rw[ev];rfl,by show(pickP P.got e.who).2.uses.length=_;rw[kq.uses];exact gu,by show(pickP P.got e.who).2.sw.length=(pickP P.got e.who).2.re.length;rw[kq.swl,kq.rel];exact sr,by show(pickP P.got e.who).2.sess.length≤_;rw[kq.sl];exact sl,by show(pickP P.got e.who).2.sw.length≤_;rw[kq.swl];exact wl⟩
 split
 ·split
  ·split
   ·rename_i x hx
    have hs:=ok.sess x (A6c hx)
    refine ses _ x _ (lineP P.got e.who.toNat x e.ask) hx rfl rfl rfl rfl rfl rfl (by simp[lineP,Pool.got];exact ok.lines) rfl ⟨hs.seat,hs.taken,fun d hd=>by have:=hs.tape d hd;omega,Nat.le_succ_of_le hs.tlen,fun q hq=>?_,by have:=hs.qlen;simp;exact this,hs.prog⟩
    rcases List.mem_append.1 hq with hq|hq
    ·exact hs.queue q hq
    ·rw[List.mem_singleton]at hq;subst hq;exact hw.2.2
   ·exact fin0
  ·split
   ·split
    ·rename_i x hx
     have hs:=ok.sess x (A6c hx)
     refine ses _ x _ (drawP P.got e.who.toNat x e.n) hx rfl rfl rfl rfl rfl rfl (Nat.le_succ_of_le ok.lines) rfl ⟨hs.seat,⟨hs.taken.1,by have:=hs.taken.2;simp;omega⟩,fun d hd=>?_,by have:=hs.tlen;simp;exact this,hs.queue,Nat.le_succ_of_le hs.qlen,hs.prog⟩
     rcases List.mem_append.1 hd with hd|hd
     ·have:=hs.tape d hd;omega
     ·rw[List.mem_singleton]at hd;subst hd
      show 0≤P.events∧P.events<_
      omega
    ·exact fin0
   ·exact fin0
 ·exact fin0
section
variable{G L:List D}{lab:Nat→Nat}{pl w m k:Nat}{za swa rea:List Nat}{P:Pool}{n:Nat}(E:Enc G L lab pl w m k za swa rea P)(hP:PoolAt P n)(hn:n<1000000)
include E hP hn
theorem do_eq(e:PEv)(hw:e.wf):∃L' lab',FX 23 [.int (pl:Nat),.int e.kind,.int e.who,.int e.n,.int e.ask.kind,.int e.ask.id,.int e.ask.cell,.int e.ask.tm.name,.int e.ask.tm.side,.int e.ask.tm.price,.int e.ask.tm.least,.int e.ask.tm.till,.int e.ask.qty,.agg L]=some [.bool (doP P e).1,.agg L']∧Enc G L' lab' pl w m k za swa rea (doP P e).2:=by
 obtain⟨ok,ev,us,sr,sl,wl⟩:=hP
 have hall:=all_b P.S.c ok.S.c
 have E0:=E.setP P.got rfl rfl rfl rfl
 have gok:=B7x ok
 have gev:0≤P.got.events∧P.got.events<P.got.uses.length:=by
  show 0≤P.events∧P.events<(P.got.uses.length:Int)
  simp[Pool.got];omega
 obtain⟨po,hpo⟩:∃po,po=P.raw (.int (w:Nat)) (ptrL za) (ptrL swa) (ptrL rea):=⟨_,rfl⟩
 have E_pool:=E.pool
 rw[←hpo]at E_pool
 have g0:po.w=.int (w:Nat):=by rw[hpo];rfl
 have g1:po.sess=ptrL za:=by rw[hpo];rfl
 have g4:po.events=P.events:=by rw[hpo];rfl
 have g6:po.uses=P.uses:=by rw[hpo];rfl
 have gF:({po with uses:=po.uses++[-1]}:PoolS)=P.got.raw (.int (w:Nat)) (ptrL za) (ptrL swa) (ptrL rea):=by rw[hpo];rfl
 have el:(ptrL za).length=P.sess.length:=by rw[←E.zl];simp[ptrL]
 have hu1:(((po.uses++[-1]).map D.int).length:Int)≤17592186044416:=by rw[g6];simp;omega
 have hwr:IntKind.i64.wrap (po.events+1)=po.events+1:=by rw[g4];exact i64w _ (by omega) (by omega)
 have fin0:∃L' lab',some [D.bool false,D.agg (L.set pl (.agg (PoolS.ds {P.got.raw (.int (w:Nat)) (ptrL za) (ptrL swa) (ptrL rea)with events:=po.events+1})))]=some [.bool false,.agg L']∧Enc G L' lab' pl w m k za swa rea P.got.on:=by
  rw[g4]
  exact⟨_,_,rfl,E.setP P.got.on rfl rfl rfl rfl⟩
 have dn:¬e.kind=2→¬e.kind=3→(¬(0≤e.who∧e.who<P.sess.length)∨(¬e.kind=1∧¬e.kind=4))→doP P e=(false,P.got.on):=by
  intro h2 h3 h
  unfold doP
  rw[if_neg h2,if_neg h3]
  rcases h with h|h
  ·rw[if_neg h]
  ·split
   ·rw[if_neg h.1,if_neg h.2]
   ·rfl
 rw[C0x]
 simp only[HH,E_pool,PoolS.get6,B1t,hu1,decide_true]
 rw[B3h]
 simp only[HH,E_pool,PoolS.get0,PoolS.get1,PoolS.get4,PoolS.get6,B1t,PoolS.rng,PoolS.set6,gF,PoolS.set4,hwr]
 simp only[g0,g1,el]
 by_cases k2:e.kind=2
 ·have j1:(e.kind == 1)=false:=beq_eq_false_iff_ne.2 (by omega)
  have j2:(e.kind == 2)=true:=beq_iff_eq.2 k2
  have hd:doP P e=(decide (((P.S.tick e.n).now:Int)>(P.S.now:Int)),(tickP P.got e.n).on):=if_pos k2
  rw[hd]
  obtain⟨L1,n1,W1,F1⟩:=go_eq E0.W ok.S e.n hw.2.1
  have n0:=A7a E0.W ok.S
  obtain⟨f1,f2,f3⟩:=E0.W.far E0.pool (by rw[PoolS.len];decide) (by rw[PoolS.len];decide) (by rw[PoolS.len];decide)
  have E1:Enc G L1 _ pl w m k za swa rea (tickP P.got e.n):=E0.base F1 W1 (F1.get E0.pool f3) (fun b _ hb=>by subst hb;exact E0.l0.2.2.2) rfl rfl rfl
  have E2:=E1.setP (tickP P.got e.n).on rfl rfl rfl rfl
  have hsnow:P.got.S.now=P.S.now:=rfl
  have hb:(decide ((wN (P.got.S.tick e.n).now).toInt>(wN P.got.S.now).toInt))=decide (((P.S.tick e.n).now:Int)>(P.S.now:Int)):=rfl
  have hw1:IntKind.i64.wrap (((tickP P.got e.n).raw (.int (w:Nat)) (ptrL za) (ptrL swa) (ptrL rea)).events+1)=(tickP P.got e.n).events+1:=by
   show IntKind.i64.wrap (P.events+1)=P.events+1
   exact i64w _ (by omega) (by omega)
  by_cases cw:e.who≥0
  ·simp only[cw,decide_true,if_true,j1,j2,Bool.false_eq_true,if_false,E0.W.w,D.toL_agg,WorldS.get8,n0,A0b,List.length_cons,List.length_nil,n1,List.getD_cons_zero,List.getD_cons_succ,B3r,HH,E1.pool,PoolS.get4,PoolS.rng,PoolS.set4,hw1,hsnow]
   exact⟨_,_,rfl,E2⟩
  ·simp only[cw,decide_false,j1,j2,Bool.false_eq_true,if_false,if_true,E0.W.w,D.toL_agg,WorldS.get8,n0,A0b,List.length_cons,List.length_nil,n1,List.getD_cons_zero,List.getD_cons_succ,B3b,HH,E1.pool,PoolS.get4,PoolS.rng,PoolS.set4,hw1,hsnow]
   exact⟨_,_,rfl,E2⟩
 have j2:(e.kind == 2)=false:=beq_eq_false_iff_ne.2 k2
 by_cases k3:e.kind=3
 ·have j1:(e.kind == 1)=false:=beq_eq_false_iff_ne.2 (by omega)
  have j3:(e.kind == 3)=true:=beq_iff_eq.2 k3
  have hd:doP P e=((pickP P.got e.who).1,(pickP P.got e.who).2.on):=by unfold doP;rw[if_neg k2,if_pos k3]
  rw[hd]
  obtain⟨L1,lab1,n1,E1⟩:=D9w E0 gok (by omega) gev sr ⟨sl,wl⟩ e.who hw.1
  have kq:=B8n gok (by omega) e.who
  have hev:(pickP P.got e.who).2.events=P.events:=kq.events
  have E2:=E1.setP (pickP P.got e.who).2.on rfl rfl rfl rfl
  have hw1:IntKind.i64.wrap (((pickP P.got e.who).2.raw (.int (w:Nat)) (ptrL za) (ptrL swa) (ptrL rea)).events+1)=(pickP P.got e.who).2.events+1:=by
   show IntKind.i64.wrap ((pickP P.got e.who).2.events+1)=_
   rw[hev]
   exact i64w _ (by omega) (by omega)
  by_cases cw:e.who≥0
  ·simp only[cw,decide_true,if_true,j1,j2,j3,Bool.false_eq_true,if_false,n1,A0b,List.length_cons,List.length_nil,List.getD_cons_zero,List.getD_cons_succ,HH,E1.pool,PoolS.get4,PoolS.rng,PoolS.set4,hw1]
   exact⟨_,_,rfl,E2⟩
  ·simp only[cw,decide_false,if_true,j1,j2,j3,Bool.false_eq_true,if_false,n1,A0b,List.length_cons,List.length_nil,List.getD_cons_zero,List.getD_cons_succ,HH,E1.pool,PoolS.get4,PoolS.rng,PoolS.set4,hw1]
   exact⟨_,_,rfl,E2⟩
 have j3:(e.kind == 3)=false:=beq_eq_false_iff_ne.2 k3
 by_cases cw:e.who≥0
 ·simp only[cw,decide_true,if_true,j2,j3,Bool.false_eq_true,if_false]
  by_cases ci:e.who<P.sess.length
  ·have hin:0≤e.who∧e.who<P.sess.length:=⟨cw,ci⟩
   have hlt:e.who.toNat<P.sess.length:=by omega
   obtain⟨x,hx⟩:∃x,P.sess[e.who.toNat]?=some x:=⟨_,List.getElem?_eq_getElem hlt⟩
   obtain⟨z,hz⟩:∃z,za[e.who.toNat]?=some z:=⟨_,List.getElem?_eq_getElem (by rw[E.zl];exact hlt)⟩
   have hsx:=ok.sess x (A6c hx)
   have zg:=B3n hz
   have zgp:po.sess.getD e.who.toNat D.nil=.int (z:Nat):=by rw[g1];exact zg
   have si:=E0.ss e.who.toNat x z hx hz
   obtain⟨z1,z2,z3,z4⟩:=E0.l0
   obtain⟨f1,f2,f3⟩:=E0.W.far E0.pool (by rw[PoolS.len];decide) (by rw[PoolS.len];decide) (by rw[PoolS.len];decide)
   have hlz:labN lab 0 L z=4*e.who.toNat+1:=by obtain⟨_,_,_,_,_,_,_,hl,_⟩:=si;exact hl.1
   have fin:∀(x':Sess) (P':Pool),x'.se=x.se→x'.now=x.now→P'.S=P.S→P'.sess=P.sess.set e.who.toNat x'→P'.sw=P.sw→P'.re=P.re→
     ∃(s:Nat) (now:D),(L.set pl (.agg (P.got.raw (.int (w:Nat)) (ptrL za) (ptrL swa) (ptrL rea)).ds)).getD z D.nil=.agg (x.raw (.int (s:Nat)) now).ds∧
     (((L.set pl (.agg (P.got.raw (.int (w:Nat)) (ptrL za) (ptrL swa) (ptrL rea)).ds)).set z (.agg (x'.raw (.int (s:Nat)) now).ds)).getD pl D.nil=.agg (P.got.raw (.int (w:Nat)) (ptrL za) (ptrL swa) (ptrL rea)).ds)∧
     ∃lab',Enc G (((L.set pl (.agg (P.got.raw (.int (w:Nat)) (ptrL za) (ptrL swa) (ptrL rea)).ds)).set z (.agg (x'.raw (.int (s:Nat)) now).ds)).set pl (.agg (P'.raw (.int (w:Nat)) (ptrL za) (ptrL swa) (ptrL rea)).ds)) lab' pl w m k za swa rea P':=by
    intro x' P' hse hnow hS h1 h2 h3
    obtain⟨s,now,q1,q2⟩:=si.put (n':=4*e.who.toNat+1) E0.pool x' hse hnow
    have pz:pl≠z:=ne_of E0.pool q1 (by rw[SessS.len,PoolS.len];decide)
    obtain⟨d1,d2,d3⟩:=E0.W.far q1 (by rw[SessS.len];decide) (by rw[SessS.len];decide) (by rw[SessS.len];decide)
    refine⟨s,now,q1,by rw[A0s (Ne.symm pz)];exact E0.pool,?_⟩
    have F:Fr (L.set pl (.agg (P.got.raw (.int (w:Nat)) (ptrL za) (ptrL swa) (ptrL rea)).ds)) (((L.set pl (.agg (P.got.raw (.int (w:Nat)) (ptrL za) (ptrL swa) (ptrL rea)).ds)).set z (.agg (x'.raw (.int (s:Nat)) now).ds)).set pl (.agg (P'.raw (.int (w:Nat)) (ptrL za) (ptrL swa) (ptrL rea)).ds)) (fun b=>b=z∨b=pl):=(Fr.set _ z _ (.inl rfl)).trans (Fr.set _ pl _ (.inr rfl))
    refine⟨_,E0.sess F ?_ (A0w (by simp;exact lt_of E.pool) _) (fun b _ hb=>?_) hz (q2 _) h1 h2 h3⟩
    ·rw[hS]
     exact E0.W.fr F (by simp only[Ne.symm d1,Ne.symm f1,or_self,not_false_iff]) (by simp only[Ne.symm d2,Ne.symm f2,or_self,not_false_iff]) (by simp only[Ne.symm d3,Ne.symm f3,or_self,not_false_iff])
    ·rcases hb with hb|hb
     ·subst hb;exact .inl hlz
     ·subst hb;exact .inr z1
   by_cases k1:e.kind=1
   ·have j1:(e.kind == 1)=true:=beq_iff_eq.2 k1
    have hd:doP P e=(true,(lineP P.got e.who.toNat x e.ask).on):=by unfold doP;rw[if_neg k2,if_neg k3,if_pos hin,if_pos k1,hx]
    rw[hd]
    obtain⟨s,now,q1,q2,lab',E1⟩:=fin {x with queue:=x.queue++[⟨e.ask,P.events⟩]} (lineP P.got e.who.toNat x e.ask).on rfl rfl rfl rfl rfl rfl
    have y1:(x.raw (.int (s:Nat)) now).queue=x.queue:=rfl
    have y2:(x.raw (.int (s:Nat)) now).queue.map Qe.d++[D.agg [.int e.ask.kind,.int e.ask.id,.int e.ask.cell,.int e.ask.tm.name,.int e.ask.tm.side,.int e.ask.tm.price,.int e.ask.tm.least,.int e.ask.tm.till,.int e.ask.qty,.int po.events]]=(x.queue++[(⟨e.ask,P.events⟩:Qe)]).map Qe.d:=by rw[List.map_append,g4];rfl
    have y3:(((x.queue++[(⟨e.ask,P.events⟩:Qe)]).map Qe.d).length:Int)≤1759218604441:=by have:=hsx.qlen;simp;omega
    have y4:({x.raw (.int (s:Nat)) now with queue:=x.queue++[⟨e.ask,P.events⟩]}:SessS)=({x with queue:=x.queue++[⟨e.ask,P.events⟩]}:Sess).raw (.int (s:Nat)) now:=rfl
    have y5:(((P.got.raw (.int (w:Nat)) (ptrL za) (ptrL swa) (ptrL rea)).lines++[(P.got.raw (.int (w:Nat)) (ptrL za) (ptrL swa) (ptrL rea)).events]).map D.int).length≤1000000000:=by
     have:=ok.lines
     show((P.lines++[P.events]).map D.int).length≤_
     simp;omega
    have y6:((((P.got.raw (.int (w:Nat)) (ptrL za) (ptrL swa) (ptrL rea)).lines++[(P.got.raw (.int (w:Nat)) (ptrL za) (ptrL swa) (ptrL rea)).events]).map D.int).length:Int)≤17592186044416:=by omega
    have hwg:IntKind.i64.wrap ((P.got.raw (.int (w:Nat)) (ptrL za) (ptrL swa) (ptrL rea)).events+1)=P.events+1:=i64w _ (by show _≤P.events+1;omega) (by show P.events+1≤_;omega)
    have hn1:((1:Int) == 1)=true:=rfl
    simp only[j1,if_true,cw,ci,decide_true,Bool.not_true,Bool.false_eq_true,if_false,zg,nilI,Bool.not_false,D.toInt_int,Int.toNat_natCast,q1,D.toL_agg,SessS.get1,y2,y3,SessS.rng,SessS.set1,y4,q2,PoolS.get4,PoolS.get7,B1t,y6]
    rw[B3p]
    simp only[HH,E_pool,PoolS.get1,PoolS.get4,PoolS.get6,PoolS.get7,B1t,PoolS.rng,PoolS.set6,gF,zgp,q1,SessS.get1,y2,SessS.rng,SessS.set1,y4,q2,PoolS.set7,hwg,PoolS.set4]
    exact⟨_,_,rfl,E1⟩
   have j1:(e.kind == 1)=false:=beq_eq_false_iff_ne.2 k1
   by_cases k4:e.kind=4
   ·have j4:(e.kind == 4)=true:=beq_iff_eq.2 k4
    have hd:doP P e=(true,(drawP P.got e.who.toNat x e.n).on):=by unfold doP;rw[if_neg k2,if_neg k3,if_pos hin,if_neg k1,if_pos k4,hx]
    rw[hd]
    obtain⟨s,now,q1,q2,lab',E1⟩:=fin {x with tape:=x.tape++[⟨pickF e.n (allF P.S.c),P.events⟩]} (drawP P.got e.who.toNat x e.n).on rfl rfl rfl rfl rfl rfl
    have nA:=all_x ok.S
    have nP:=E3k e.n (allF P.S.c) hw.2.1 (by omega)
    have y2:(x.raw (.int (s:Nat)) now).tape.map Dr.d++[D.agg [.int (pickF e.n (allF P.S.c)),.int po.events]]=(x.tape++[(⟨pickF e.n (allF P.S.c),P.events⟩:Dr)]).map Dr.d:=by rw[List.map_append,g4];rfl
    have y3:(((x.tape++[(⟨pickF e.n (allF P.S.c),P.events⟩:Dr)]).map Dr.d).length:Int)≤8796093022208:=by have:=hsx.tlen;simp;omega
    have y4:({x.raw (.int (s:Nat)) now with tape:=x.tape++[⟨pickF e.n (allF P.S.c),P.events⟩]}:SessS)=({x with tape:=x.tape++[⟨pickF e.n (allF P.S.c),P.events⟩]}:Sess).raw (.int (s:Nat)) now:=rfl
    have hwg:IntKind.i64.wrap ((P.got.raw (.int (w:Nat)) (ptrL za) (ptrL swa) (ptrL rea)).events+1)=P.events+1:=i64w _ (by show _≤P.events+1;omega) (by show P.events+1≤_;omega)
    have gc:P.got.S.c=P.S.c:=rfl
    simp only[j1,j4,if_true,cw,ci,decide_true,Bool.not_true,Bool.false_eq_true,if_false,zg,nilI,Bool.not_false,D.toInt_int,Int.toNat_natCast,E0.W.w,D.toL_agg,WorldS.all,gc,nA,A0b,List.length_cons,List.length_nil,List.getD_cons_zero,nP,q1,SessS.get4,y2,y3,SessS.rng,SessS.set4,y4,q2,PoolS.get4,PoolS.rng,hwg,PoolS.set4]
    exact⟨_,_,rfl,E1⟩
   ·have j4:(e.kind == 4)=false:=beq_eq_false_iff_ne.2 k4
    rw[dn k2 k3 (.inr ⟨k1,k4⟩)]
    simp only[j1,j4,nilI,Bool.not_false,if_true,Bool.false_eq_true,if_false]
    exact fin0
  ·rw[dn k2 k3 (.inl (by omega))]
   simp only[ci,decide_false,Bool.not_false,if_true,nilI,B5g]
   exact fin0
 ·rw[dn k2 k3 (.inl (by omega))]
  simp only[cw,decide_false,Bool.false_eq_true,if_false,j2,j3,nilI,Bool.not_false,if_true,B5g]
  exact fin0
end
end Go.Proofs.YtcgcpjajghdbpaaGreat.P
