import Derived.Test.YtcgcpjajghdbpaaGreatPoolR
namespace Go.Proofs.YtcgcpjajghdbpaaGreat.P
open Go.RowKit Go.Proofs.YtcgcpjajghdbpaaGreat.Eng Go.Proofs.YtcgcpjajghdbpaaGreat Go.Proofs.YtcgcpjajghdbpaaGreat.Dat Go.Proofs.YtcgcpjajghdbpaaGreat.FDat
set_option linter.unusedVariables false
set_option linter.unusedSimpArgs false
set_option linter.unusedSectionVars false
set_option maxRecDepth 10000
structure SessOk(x:Sess)(S:WS)(uses n:Nat):Prop where
 seat:SeatOk x.se S.c
 taken:0≤x.taken∧x.taken≤x.tape.length
 tape:∀d ∈ x.tape,0≤d.ev∧d.ev<uses
 tlen:x.tape.length≤n
 queue:∀q ∈ x.queue,q.a.tm.wf
 qlen:x.queue.length≤n
 prog:∀pr o,x.now=some (pr,o)→ProgOk pr o x.se S
structure PoolOk(P:Pool)(n:Nat):Prop where
 S:P.S.ok
 sess:∀x ∈ P.sess,SessOk x P.S P.uses.length n
 sw:∀x ∈ P.sw,SwOk x.1 P.S.c∧∀P',x.2=some P'→P'.ok
 re:∀x ∈ P.re,ReOk x P.S.c
 log:P.S.log.length≤n
 outs:P.outs.length≤n
 lines:P.lines.length≤n
 reps:∀o ∈ P.outs,o.r.looks.length≤8
theorem ProgOk.c{pr:PrS}{o:Option PairS}{se:SeatS}{S S':WS}(h:ProgOk pr o se S)(e:S'.c=S.c):ProgOk pr o se S':=by
 obtain⟨k1,k2,k3,k4,k5,k6,k7,k8,k9,k10,k11,k12,k13,k14⟩:=h
 exact⟨k1,k2,k3,k4,k5,k6,k7,k8,k9,k10,by rw[e];exact k11,by rw[e];exact k12,by rw[e];exact k13,k14⟩
theorem SessOk.mono{x:Sess}{S S':WS}{u u' n n':Nat}(h:SessOk x S u n)(e:S'.c=S.c)(hu:u≤u')(hn:n≤n'):SessOk x S' u' n':=
 ⟨by rw[e];exact h.seat,h.taken,fun d hd=>by have:=h.tape d hd;omega,Nat.le_trans h.tlen hn,h.queue,Nat.le_trans h.qlen hn,fun pr o hh=>(h.prog pr o hh).c e⟩
theorem C0d(a:Ask)(ha:a.tm.wf)(se:SeatS)(S:WS):ProgOk (PrS.start a) none se S:=by
 have hz:(0:Int)≤0∧(0:Int)≤3:=by decide
 have hz2:(0:Int)≤0∧(0:Int)≤1000:=by decide
 have hz3:(0:Int)≤0∧(0:Int)≤8:=by decide
 have hz4:(0:Int)≤0∧(0:Int)≤100:=by decide
 exact⟨by show 0<_;decide,St.zero_wf,ha,In.lit (z:=0) (by decide),hz,hz2,hz3,hz4,Nat.zero_le _,Int.le_refl 0,fun hh=>absurd rfl hh,fun hh=>(by cases hh),fun hh=>(by cases hh),fun P hP=>(by cases hP)⟩
theorem A6c{α:Type}{l:List α}{i:Nat}{x:α}(h:l[i]?=some x):x ∈ l:=List.mem_of_getElem? h
theorem D2u{L:List D}{lab:Nat→Nat}{a q s z l w m n:Nat}(h0:lab l=0∧lab w=0∧lab m=0)(hz:lab z=n∧lab s=n)(ha:a<L.length→lab a=n)(hq:q<L.length→lab q=n):
  ∀b,b<L.length→Own a q s z l w m b→lab b=n∨lab b=0:=by
 intro b hb ho
 unfold Own at ho
 rcases ho with h|h|h|h|h|h|h
 ·subst h;exact .inl (ha hb)
 ·subst h;exact .inl (hq hb)
 ·subst h;exact .inl hz.2
 ·subst h;exact .inl hz.1
 ·subst h;exact .inr h0.1
 ·subst h;exact .inr h0.2.1
 ·subst h;exact .inr h0.2.2
theorem B3n{l:List Nat}{i:Nat}{z:Nat}(h:l[i]?=some z):(ptrL l).getD i D.nil=.int (z:Nat):=by
 unfold ptrL
 rw[List.getD_eq_getElem?_getD,List.getElem?_map,h];rfl
theorem E2w(a:Ask)(d:D)(L:List D):FX 49 [.int a.kind,.int a.id,.int a.cell,.int a.tm.name,.int a.tm.side,.int a.tm.price,.int a.tm.least,.int a.tm.till,.int a.qty,d,.agg L]=some [.int (L.length:Nat),.agg (L++[.agg ((PrS.start a).at .nil d).ds])]:=by
 rw[C7p]
 simp only[D.toL_agg]
 rfl
section
variable{G L:List D}{lab:Nat→Nat}{pl w m k:Nat}{za swa rea:List Nat}{P:Pool}{i z n:Nat}{x:Sess}(E:Enc G L lab pl w m k za swa rea P)(hP:PoolOk P n)(hn:n≤1000000)(hx:P.sess[i]?=some x)(hz:za[i]?=some z)(he:0≤P.events∧P.events<P.uses.length)
include E hP hn hx hz he
theorem C9x:∃L' lab',FX 44 [.int (pl:Nat),.int (z:Nat),.agg L]=some [.bool (stepP P i x).1,.agg L']∧Enc G L' lab' pl w m k za swa rea (stepP P i x).2:=by
 obtain⟨s,a,q,now,h1,h2,h3,hl4,ha,hq⟩:=E.ss i x z hx hz
 obtain⟨l1,l2,l3,l4⟩:=E.l0
 have ok:=hP.sess x (A6c hx)
 have g1:(x.raw (.int (s:Nat)) now).queue=x.queue:=rfl
 have g2:(x.raw (.int (s:Nat)) now).now=now:=rfl
 have hqlen:(x.queue.map Qe.d).length=x.queue.length:=List.length_map ..
 rw[B7p]
 simp only[HH,h1,SessS.get1,SessS.get2,g1,g2,hqlen]
 cases hnow:x.now with
 |some y=>
  obtain⟨pr,o⟩:=y
  rw[hnow]at h3
  obtain⟨rfl,ptr,g3,g4⟩:=h3
  have hb:x.begun=some (x,pr,o):=by unfold Sess.begun;rw[hnow]
  have hst:stepP P i x=(true,stepQ P i x pr o):=by unfold stepP;rw[hb]
  rw[hst]
  have A:InA L a s z pl w m k (pr.at ptr (drawD z pl)) x.se (x.raw (.int (s:Nat)) (.int (a:Nat))) (P.raw (.int (w:Nat)) (ptrL za) (ptrL swa) (ptrL rea)) P.S:=⟨⟨E.W,g3,h2⟩,h1,E.pool⟩
  obtain⟨L',n1,W',hp',F,x',e1,e2,e3,e4⟩:=C7x (lab:=labN lab (4*i+1) L) (i:=i) A g4 hP.S (ok.prog pr o hnow) ok.seat (by have:=hP.log;omega) ⟨⟨ok.taken.1,ok.taken.2,Nat.le_trans ok.tlen hn⟩,ok.tape⟩ he (by have:=hP.outs;omega)
   (fun b hb=>by unfold labN;rw[if_neg (by omega)])
   (by
    have hzl:=lt_of h1
    have hsl:=lt_of h2
    unfold labN
    rw[if_pos hzl,if_pos hsl,if_pos ha,if_pos hq]
    exact hl4) hq (.agg L)
  simp only[nilI,Bool.false_eq_true,if_false,n1]
  exact⟨L',_,rfl,E.sess F W' hp' (D2u ⟨l1,l2,l3⟩ ⟨hl4.1,hl4.2.1⟩ (fun _=>hl4.2.2.1) (fun _=>hl4.2.2.2)) hz e2 e1 e3 e4⟩
 |none=>
  rw[hnow]at h3
  dsimp only at h3
  subst h3
  cases hqu:x.queue with
  |nil=>
   have hb:x.begun=none:=by unfold Sess.begun;rw[hnow,hqu]
   have hst:stepP P i x=(false,P):=by unfold stepP;rw[hb]
   rw[hst]
   simp only[nilN,if_true,List.length_nil]
   exact⟨L,lab,rfl,E⟩
  |cons qe t=>
   obtain⟨x1,hx1⟩:∃x1:Sess,x1={x with queue:=t,ev:=qe.ev,now:=some (PrS.start qe.a,none)}:=⟨_,rfl⟩
   have hb:x.begun=some (x1,PrS.start qe.a,none):=by unfold Sess.begun;rw[hnow,hqu,hx1]
   have hst:stepP P i x=(true,stepQ P i x1 (PrS.start qe.a) none):=by unfold stepP;rw[hb]
   rw[hst]
   have hzl:=lt_of h1
   have hsl:=lt_of h2
   have hpl:=lt_of E.pool
   have hzs:z≠s:=ne_of h1 h2 (by rw[SeatS.len,SessS.len];decide)
   have hzp:z≠pl:=ne_of h1 E.pool (by rw[SessS.len,PoolS.len];decide)
   obtain⟨d1,d2,d3⟩:=E.W.far h1 (by rw[SessS.len];decide) (by rw[SessS.len];decide) (by rw[SessS.len];decide)
   have hset:∀(y:SessS),y.ds.set 1 (.agg (t.map Qe.d))=SessS.ds {y with queue:=t}:=fun _=>rfl
   have hset2:∀(y:SessS),y.ds.set 2 (.int (L.length:Nat))=SessS.ds {y with now:=.int (L.length:Nat)}:=fun _=>rfl
   have htl:List.take ((List.map Qe.d (qe::t)).length-Int.toNat 1) (List.drop (Int.toNat 1) (List.map Qe.d (qe::t)))=t.map Qe.d:=by
    show List.take _ (List.drop 1 (List.map Qe.d (qe::t)))=_
    rw[List.map_cons,List.drop_succ_cons,List.drop_zero,List.take_of_length_le]
    simp
   obtain⟨La,hLa⟩:∃La,La=L.set z (.agg (SessS.ds ⟨.int (s:Nat),t,.nil,qe.ev,x.tape,x.taken⟩)):=⟨_,rfl⟩
   obtain⟨Lb,hLb⟩:∃Lb,Lb=La++[D.agg ((PrS.start qe.a).at .nil (drawD z pl)).ds]:=⟨_,rfl⟩
   obtain⟨Lc,hLc⟩:∃Lc,Lc=Lb.set z (.agg (x1.raw (.int (s:Nat)) (.int (L.length:Nat))).ds):=⟨_,rfl⟩
   have lA:La.length=L.length:=by rw[hLa];simp
   have lB:Lb.length=L.length+1:=by rw[hLb];simp[lA]
   have lC:Lc.length=L.length+1:=by rw[hLc];simp[lB]
   have FA:Fr L La (·=z):=by rw[hLa];exact Fr.set L z _ rfl
   have FB:Fr L Lb (·=z):=FA.trans (by rw[hLb];exact Fr.snoc La _ _)
   have FC:Fr L Lc (·=z):=FB.trans (by rw[hLc];exact Fr.set Lb z _ rfl)
   have zA:La.getD z D.nil=.agg (SessS.ds ⟨.int (s:Nat),t,.nil,qe.ev,x.tape,x.taken⟩):=by rw[hLa];exact A0w hzl _
   have zB:Lb.getD z D.nil=.agg (SessS.ds ⟨.int (s:Nat),t,.nil,qe.ev,x.tape,x.taken⟩):=by rw[hLb,B2x (by rw[lA];exact hzl)];exact zA
   have zC:Lc.getD z D.nil=.agg (x1.raw (.int (s:Nat)) (.int (L.length:Nat))).ds:=by rw[hLc];exact A0w (by rw[lB];omega) _
   have aC:Lc.getD L.length D.nil=.agg ((PrS.start qe.a).at .nil (drawD z pl)).ds:=by
    rw[hLc,A0s (by omega),hLb,←lA]
    exact A1u La _
   have hx1se:x1.se=x.se:=by rw[hx1]
   have A:InA Lc L.length s z pl w m k ((PrS.start qe.a).at .nil (drawD z pl)) x1.se (x1.raw (.int (s:Nat)) (.int (L.length:Nat))) (P.raw (.int (w:Nat)) (ptrL za) (ptrL swa) (ptrL rea)) P.S:=
    ⟨⟨E.W.fr FC (Ne.symm d1) (Ne.symm d2) (Ne.symm d3),aC,by rw[hx1se];exact FC.get h2 (Ne.symm hzs)⟩,zC,FC.get E.pool (Ne.symm hzp)⟩
   have hqw:qe.a.tm.wf:=ok.queue qe (by rw[hqu];exact List.mem_cons_self ..)
   have hlz:labN lab (4*i+1) L z=4*i+1:=by unfold labN;rw[if_pos hzl];exact hl4.1
   obtain⟨L',n1,W',hp',F,x',e1,e2,e3,e4⟩:=C7x (q:=z) (o:=none) (lab:=labN lab (4*i+1) L) (n:=4*i+1) (i:=i) A (show PP Lc z .nil none from rfl) hP.S (by rw[hx1se];exact C0d _ hqw _ _) (by rw[hx1se];exact ok.seat) (by have:=hP.log;omega)
    (by rw[hx1];exact⟨⟨ok.taken.1,ok.taken.2,Nat.le_trans ok.tlen hn⟩,ok.tape⟩) he (by have:=hP.outs;omega)
    (fun b hb=>by unfold labN;rw[if_neg (by omega)])
    ⟨hlz,by unfold labN;rw[if_pos hsl];exact hl4.2.1,by unfold labN;rw[if_neg (by omega)],hlz⟩ (by rw[lC];omega) (.agg L)
   have i1:(((t.length+1:Nat):Int) == 0)=false:=beq_eq_false_iff_ne.2 (by omega)
   have i2:(0:Int)<((t.length+1:Nat):Int):=by omega
   have i3:(1:Int)≤((t.length+1:Nat):Int):=by omega
   have i4:(0:Int)≤1:=by decide
   have g5:(x.raw (.int (s:Nat)) .nil).queue=qe::t:=hqu
   have hg0:((qe::t).map Qe.d).getD ((0:Int)).toNat D.nil=.agg qe.ds:=rfl
   have sx:=E2w qe.a (drawD z pl) La
   unfold drawD at sx
   have hm0:({x.raw (.int (s:Nat)) .nil with queue:=t,ev:=qe.ev}:SessS)=⟨.int (s:Nat),t,.nil,qe.ev,x.tape,x.taken⟩:=rfl
   simp only[nilN,if_true,i1,i2,i3,i4,Int.le_refl,decide_true,Bool.false_eq_true,if_false,B1a,B1j,HH,h1,SessS.get1,g5,hg0,Qe.len,Qe.get0,Qe.get1,Qe.get2,Qe.get3,Qe.get4,Qe.get5,Qe.get6,Qe.get7,Qe.get8,Qe.get9,htl,SessS.rng,hset,SessS.set3,hm0]
   rw[←hLa,sx]
   have hm1:({(⟨.int (s:Nat),t,.nil,qe.ev,x.tape,x.taken⟩:SessS)with now:=.int (L.length:Nat)}:SessS)=x1.raw (.int (s:Nat)) (.int (L.length:Nat)):=by rw[hx1];rfl
   have hLb':La++[D.agg ((PrS.start qe.a).at .nil (.iface 50 (.agg [.iface 69 (.agg [.int (z:Nat)]),.iface 25 (.agg [.int (pl:Nat)])]))).ds]=Lb:=hLb.symm
   have hraw:x1.raw (.int (s:Nat)) (.int (L.length:Nat))=⟨.int (s:Nat),t,.int (L.length:Nat),qe.ev,x.tape,x.taken⟩:=by rw[hx1];rfl
   rw[hraw]at hLc
   simp only[HH,hLb',zB,SessS.rng,lA,hset2,←hLc]
   rw[n1]
   refine⟨L',_,rfl,E.sess (L':=L') (T:=Own L.length z s z pl w m) ((FC.mono fun b hb=>.inr (.inl hb)).trans F) W' hp' (D2u ⟨l1,l2,l3⟩ ⟨hl4.1,hl4.2.1⟩ (fun hh=>absurd hh (Nat.lt_irrefl _)) (fun _=>hl4.1)) hz e2 e1 e3 e4⟩
end
end Go.Proofs.YtcgcpjajghdbpaaGreat.P
