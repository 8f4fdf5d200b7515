import Derived.Test.YtcgcpjajghdbpaaGreatPoolG
namespace Go.Proofs.YtcgcpjajghdbpaaGreat.P
open Go.RowKit Go.Proofs.YtcgcpjajghdbpaaGreat.Eng Go.Proofs.YtcgcpjajghdbpaaGreat Go.Proofs.YtcgcpjajghdbpaaGreat.Dat Go.Proofs.YtcgcpjajghdbpaaGreat.FDat
set_option linter.unusedVariables false
set_option linter.unusedSimpArgs false
set_option linter.unusedSectionVars false
set_option maxRecDepth 10000
theorem Told.fst{o:Option Nat}{r:List D}(h:Told o r):r.getD 0 D.nil=wN (o.getD 0)∧r.length=2:=by
 cases o with
 |none=>obtain⟨e,_,rfl⟩:=h;exact⟨rfl,rfl⟩
 |some w=>dsimp only[Told]at h;subst h;exact⟨rfl,rfl⟩
theorem D6t{s:St}:(stW s).getD 0<18446744073709551616:=by
 cases h:stW s with
 |none=>decide
 |some v=>
  unfold stW at h
  split at h
  ·cases h
  ·exact B5e cgood h
theorem E4g{t:Tm}:(tmW t).getD 0<18446744073709551616:=by
 cases h:tmW t with
 |none=>decide
 |some v=>exact B5e tgood h
theorem WS.put_ok{S:WS}(h:S.ok)(i:Int){v:Nat}(hv:v<18446744073709551616):(S.put i v).ok:=⟨h.c,C8z h.w i hv,h.now,by show(stw S.words i v).length≤_;rw[A3t];exact h.len⟩
theorem D3a{L:List D}{w m k:Nat}{S:WS}(W:InW L w m k S)(i:Int)(v:Nat):∃(e:D) (L':List D),FX 80 [.int (m:Nat),.int i,wN v,.agg L]=some [e,.agg L']∧InW L' w m k (S.put i v)∧Fr L L' (fun b=>b=w∨b=m):=by
 obtain⟨M,hM,hw⟩:=W.m
 obtain⟨e,M',h1,h2⟩:=C9n hM i v
 refine⟨e,_,h1,?_,Fr.set _ _ _ (.inr rfl)⟩
 have:=W.setM M'
 rw[h2,hw]at this
 exact this
theorem E2x(s:St)(hs:s.wf)(q m:Int)(hm:m≤100):FX 108 [.int s.k,.bool s.f,.int s.g,.int s.l,.int s.n,.int q,.int m]=some (outD (beginF s q m)):=E1c s hs q m hm
theorem D5m(s:St):FX 111 [.int s.k,.bool s.f,.int s.g,.int s.l,.int s.n]=some (outD (promoteF s)):=D3k s
theorem E4o(s:St):FX 112 [.int s.k,.bool s.f,.int s.g,.int s.l,.int s.n]=some [.bool s.over]:=D1v s.k _ _ _ _
theorem D2y(c:Int):(er c).isIf 94=decide (c≠0):=by
 unfold er
 by_cases h:c=0
 ·simp[h,D.isIf]
 ·simp[h,code,D.isIf]
theorem D8t{c:Int}(h:c≠0):(er c).inner=.int c:=by
 unfold er;rw[if_neg h];rfl
theorem A9z{c:Cf}(h:c.ok):1≤c.c6∧c.c6≤15:=h.2.2.2.2.2.2
theorem B4f(l:List Int):(l.map D.int).length=l.length:=List.length_map ..
theorem C0m(l:List Int)(i:Nat)(x:Int):(l.map D.int).set i (.int x)=(l.set i x).map D.int:=(List.map_set ..).symm
theorem C9z{l:List Int}{i:Int}(h0:0≤i)(h1:i<l.length):(l.map D.int).getD i.toNat D.nil=.int (atL l i):=by
 have h:i.toNat<l.length:=by omega
 unfold atL
 rw[List.getD_eq_getElem?_getD,List.getElem?_map,List.getElem?_eq_getElem h,List.getD_eq_getElem?_getD,List.getElem?_eq_getElem h];rfl
theorem Rep.app(r:Rep)(d L:D):some [r.ds.getD 0 D.nil,r.ds.getD 1 D.nil,r.ds.getD 2 D.nil,r.ds.getD 3 D.nil,r.ds.getD 4 D.nil,r.ds.getD 5 D.nil,r.ds.getD 6 D.nil,r.ds.getD 7 D.nil,r.ds.getD 8 D.nil,r.ds.getD 9 D.nil,r.ds.getD 10 D.nil,r.ds.getD 11 D.nil,r.ds.getD 12 D.nil,d,L]=some (r.ds++[d,L]):=rfl
theorem Rep.get13(r:Rep)(d:D):(r.ds++[d]).getD 13 D.nil=d:=rfl
theorem Rep.len14(r:Rep)(d:D):(r.ds++[d]).length=14:=rfl
theorem codeout(r:Rep)(L:D):(bindC (some (r.ds++[.bool true])) 14 fun r6=>some [(r6.getD 0 D.nil),(r6.getD 1 D.nil),(r6.getD 2 D.nil),(r6.getD 3 D.nil),(r6.getD 4 D.nil),(r6.getD 5 D.nil),(r6.getD 6 D.nil),(r6.getD 7 D.nil),(r6.getD 8 D.nil),(r6.getD 9 D.nil),(r6.getD 10 D.nil),(r6.getD 11 D.nil),(r6.getD 12 D.nil),(r6.getD 13 D.nil),L])=some (r.ds++[.bool true,L]):=rfl
section
variable{L:List D}{a s w m k:Nat}{pr:PrS}{se:SeatS}{S:WS}(H:Hs L a s w m k pr se S)(h:S.ok)(hpc:In (pr.pc+1))
include H h hpc
theorem begin1{L1:List D}{pr1:PrS}{se1:SeatS}{S1:WS}(H1:Hs L1 a s w m k pr1 se1 S1)(hp:pr1.pc=pr.pc)(x0 x1 x2 x3:D):A0q (.int (a:Nat)) x0 x1 x2 x3 [.agg L1]=some (outS none (L1.set a (.agg (PrS.ds {pr1 with pc:=pr.pc+1})))):=by
 rw[A8a]
 simp only[HH,H1.a,PrS.get9,hp,hpc.w,PrS.rng,PrS.set9]
 rfl
theorem D5c(hl:S.log.length≤1000000000)(x:Int)(hx:-1000≤x∧x≤1000)(hst:pr.st.wf)(htm:pr.a.tm.wf)
  (hc:pr.pc=3→0≤pr.a.cell∧pr.a.cell<se.ids.length∧pr.a.cell<se.gens.length):
  ∃L',FX 83 [.int (a:Nat),.int (w:Nat),.int (s:Nat),.int x,.agg L]=some (outS (beginP x pr se S).r L')∧
   Hs L' a s w m k (beginP x pr se S).pr (beginP x pr se S).se (beginP x pr se S).S∧FrS L L' a s w m:=by
 have h1:=D8c H h
 have hg:=A9z h.c
 rw[B2p]
 simp only[HH,H.a,H.s,H.W.w,WorldS.all,PrS.get9,h1]
 by_cases c0:pr.pc=0
 ·have i0:(pr.pc == 0)=true:=beq_iff_eq.2 c0
  simp only[i0,if_true]
  by_cases c1:pcheckF pr se S=0
  ·have e:beginP x pr se S=⟨none,{pr with pc:=pr.pc+1},se,S⟩:=by unfold beginP;rw[if_pos c0,if_neg (by simpa using c1)]
   rw[e]
   have i1:(pcheckF pr se S != 0)=false:=by simp[c1]
   simp only[i1,Bool.false_eq_true,if_false]
   exact⟨_,begin1 H h hpc H rfl _ _ _ _,H.setA _,frs_a _⟩
  ·have e:beginP x pr se S=⟨some (codeF pr S (pcheckF pr se S)),pr,se,S⟩:=by unfold beginP;rw[if_pos c0,if_pos c1]
   rw[e]
   have i1:(pcheckF pr se S != 0)=true:=by simp[c1]
   simp only[i1,if_true,A4r H h,codeout]
   exact⟨L,rfl,H,A2s⟩
 have i0:(pr.pc == 0)=false:=beq_eq_false_iff_ne.2 c0
 simp only[i0,Bool.false_eq_true,if_false]
 by_cases c1:pr.pc=1
 ·have i1:(pr.pc == 1)=true:=beq_iff_eq.2 c1
  simp only[i1,if_true]
  obtain⟨L1,n1,W1,F1⟩:=A3a H.W h x hx
  obtain⟨H1,G1⟩:=H.setW W1 (F1.mono fun b hb=>.inr hb)
  have h2:=E2x (stOf (S.word x)) (A3w _) pr.a.qty S.c.c6 (by omega)
  rw[sapp]at n1
  simp only[n1,HH,H1.a,H1.W.w,PrS.get8,WorldS.get6,h2,outD.len,outD.all]
  by_cases c2:(beginF (stOf (S.word x)) pr.a.qty S.c.c6).1=0
  ·have e:beginP x pr se S=⟨none,{pr with st:=(beginF (stOf (S.word x)) pr.a.qty S.c.c6).2,pc:=pr.pc+1},se,S⟩:=by
    unfold beginP;rw[if_neg c0,if_pos c1,if_neg (by simpa using c2)]
   rw[e]
   generalize beginF (stOf (S.word x)) pr.a.qty S.c.c6=t at*
   have i2:(er t.1).isIf 94=false:=by rw[D2y];simp[c2]
   simp only[i2,Bool.false_eq_true,if_false,PrS.rng,PrS.set11,PrS.set12,PrS.set13,PrS.set14,PrS.set15]
   have H2:=H1.setA {pr with st:=t.2}
   refine⟨_,begin1 H h hpc H2 rfl _ _ _ _,H2.setA {pr with st:=t.2,pc:=pr.pc+1},(G1.trans (frs_a _)).trans (frs_a _)⟩
  ·have e:beginP x pr se S=⟨some (codeF pr S (beginF (stOf (S.word x)) pr.a.qty S.c.c6).1),pr,se,S⟩:=by
    unfold beginP;rw[if_neg c0,if_pos c1,if_pos c2]
   rw[e]
   generalize beginF (stOf (S.word x)) pr.a.qty S.c.c6=t at*
   have i2:(er t.1).isIf 94=true:=by rw[D2y];simp[c2]
   simp only[i2,if_true,D8t c2,A4r H1 h,codeout]
   exact⟨L1,rfl,H1,G1⟩
 have i1:(pr.pc == 1)=false:=beq_eq_false_iff_ne.2 c1
 simp only[i1,Bool.false_eq_true,if_false]
 by_cases c2:pr.pc=2
 ·have i2:(pr.pc == 2)=true:=beq_iff_eq.2 c2
  have e:beginP x pr se S=⟨none,{pr with pc:=pr.pc+1},se,S.put (2*x+1) ((tmW pr.a.tm).getD 0)⟩:=by unfold beginP;rw[if_neg c0,if_neg c1,if_pos c2]
  rw[e]
  obtain⟨r,n1,ht⟩:=D8q pr.a.tm htm
  obtain⟨ht1,ht2⟩:=ht.fst
  unfold Tm.ds at n1
  obtain⟨e2,L1,n2,W1,F1⟩:=D3a H.W (2*x+1) ((tmW pr.a.tm).getD 0)
  obtain⟨H1,G1⟩:=H.setW W1 F1
  simp only[i2,HH,PrS.get3,PrS.get4,PrS.get5,PrS.get6,PrS.get7,n1,ht2,ht1,A5u]
  rw[i64w (2*x) (by omega) (by omega),i64w (2*x+1) (by omega) (by omega),n2]
  simp only[HH]
  exact⟨_,begin1 H h hpc H1 rfl _ _ _ _,H1.setA {pr with pc:=pr.pc+1},G1.trans (frs_a _)⟩
 have i2:(pr.pc == 2)=false:=beq_eq_false_iff_ne.2 c2
 simp only[i2,Bool.false_eq_true,if_false]
 by_cases c3:pr.pc=3
 ·have i3:(pr.pc == 3)=true:=beq_iff_eq.2 c3
  obtain⟨b1,b2,b3⟩:=hc c3
  have e:beginP x pr se S=⟨none,{pr with aims:=aimsF S.c x pr.st.g pr.a.tm,pc:=pr.pc+1},{se with last:=pr.a.id,ids:=se.ids.set pr.a.cell.toNat pr.a.id,gens:=se.gens.set pr.a.cell.toNat pr.st.g},
   (S.put (2*x) ((stW pr.st).getD 0)).tell {Ev.zero with kind:=1,cell:=x,gen:=pr.st.g,tm:=pr.a.tm,qty:=pr.a.qty}⟩:=by unfold beginP;rw[if_neg c0,if_neg c1,if_neg c2,if_pos c3]
  rw[e]
  obtain⟨r,n1,ht⟩:=D1z pr.st hst
  obtain⟨ht1,ht2⟩:=ht.fst
  unfold St.ds at n1
  obtain⟨e2,L1,n2,W1,F1⟩:=D3a H.W (2*x) ((stW pr.st).getD 0)
  obtain⟨H1,G1⟩:=H.setW W1 F1
  have ok1:(S.put (2*x) ((stW pr.st).getD 0)).ok:=WS.put_ok h _ D6t
  obtain⟨L2,n3,W2,F2⟩:∃L',FX 78 [.int (w:Nat),.int 1,.int x,.int pr.st.g,.int 0,.int 0,.int pr.a.tm.name,.int pr.a.tm.side,.int pr.a.tm.price,.int pr.a.tm.least,.int pr.a.tm.till,.int pr.a.qty,.int 0,.int 0,.int 0,.agg L1]=some [.agg L']∧
    InW L' w m k ((S.put (2*x) ((stW pr.st).getD 0)).tell {Ev.zero with kind:=1,cell:=x,gen:=pr.st.g,tm:=pr.a.tm,qty:=pr.a.qty})∧Fr L1 L' (·=w):=
   C9r H1.W ok1 hl {Ev.zero with kind:=1,cell:=x,gen:=pr.st.g,tm:=pr.a.tm,qty:=pr.a.qty}
  obtain⟨H2,G2⟩:=H1.setW W2 (F2.mono fun b hb=>.inl hb)
  obtain⟨se',hse⟩:∃se':SeatS,se'={se with last:=pr.a.id,ids:=se.ids.set pr.a.cell.toNat pr.a.id,gens:=se.gens.set pr.a.cell.toNat pr.st.g}:=⟨_,rfl⟩
  have H3:=H2.setS se'
  have n4:=E1t S.c h.c x pr.st.g pr.a.tm
  simp only[i3,HH,PrS.get1,PrS.get2,PrS.get3,PrS.get4,PrS.get5,PrS.get6,PrS.get7,PrS.get8,PrS.get11,PrS.get12,PrS.get13,PrS.get14,PrS.get15,n1,ht2,ht1,A2v]
  rw[i64w (2*x) (by omega) (by omega),n2]
  simp only[HH,H1.a,PrS.get1,PrS.get2,PrS.get3,PrS.get4,PrS.get5,PrS.get6,PrS.get7,PrS.get8,PrS.get11,PrS.get12,PrS.get13,PrS.get14,PrS.get15,n3,H2.a,H2.s,SeatS.rng,SeatS.get2,SeatS.get3,SeatS.set1,C0m,SeatS.set2,SeatS.set3,B4f,←hse,H3.W.w,H3.a,WorldS.all,WS.tell,WS.put,n4,PrS.rng,PrS.set21]
  have j1:pr.a.cell≥0:=b1
  simp only[j1,b2,b3,decide_true,if_true]
  have H4:=H3.setA {pr with aims:=aimsF S.c x pr.st.g pr.a.tm}
  exact⟨_,begin1 H h hpc H4 rfl _ _ _ _,H4.setA {pr with aims:=aimsF S.c x pr.st.g pr.a.tm,pc:=pr.pc+1},((((G1.trans G2).trans (frs_s _)).trans (frs_a _)).trans (frs_a _))⟩
 ·have i3:(pr.pc == 3)=false:=beq_eq_false_iff_ne.2 c3
  have e:beginP x pr se S=⟨none,{pr with pc:=pr.pc+1},se,S⟩:=by unfold beginP;rw[if_neg c0,if_neg c1,if_neg c2,if_neg c3]
  rw[e]
  simp only[i3,Bool.false_eq_true,if_false]
  exact⟨_,begin1 H h hpc H rfl _ _ _ _,H.setA _,frs_a _⟩
end
end Go.Proofs.YtcgcpjajghdbpaaGreat.P
