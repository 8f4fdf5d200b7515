import Derived.Test.YtcgcpjajghdbpaaGreatPoolJ
namespace Go.Proofs.YtcgcpjajghdbpaaGreat.P
open Go.RowKit Go.Proofs.YtcgcpjajghdbpaaGreat.Eng Go.Proofs.YtcgcpjajghdbpaaGreat Go.Proofs.YtcgcpjajghdbpaaGreat.Dat Go.Proofs.YtcgcpjajghdbpaaGreat.FDat
set_option linter.unusedVariables false
set_option linter.unusedSimpArgs false
set_option linter.unusedSectionVars false
set_option maxRecDepth 10000
theorem wrecord(x:Nat)(hx:x<18446744073709551616):FX 114 [wN x]=some (rcOf x).ds:=D7k x hx
theorem rapp(r:Rc)(x:D):r.ds++[x]=[.int r.k,.int r.q,.int r.p,.int r.t,.int r.c,.int r.g,x]:=rfl
theorem C9t{S:WS}(h:S.ok)(x gen n:Int):FX 81 [.int S.c.c0,.int S.c.c1,.int S.c.c2,.int S.c.c3,.int S.c.c4,.int S.c.c5,.int S.c.c6,.int x,.int gen,.int n]=some [.int (slotF S.c x gen n)]:=D2h S.c h.c x gen n
theorem D5i{L:List D}{w m k:Nat}{S:WS}(W:InW L w m k S)(h:S.ok)(i:Int):∃L',FX 87 [.int (w:Nat),.int i,.agg L]=some ((slotP S i).ds++[.agg L'])∧InW L' w m k S∧Fr L L' (fun b=>b=w∨b=m):=by
 rw[D0f]
 unfold slotP
 by_cases c0:i<0
 ·refine⟨L,?_,W,Fr.refl _ _⟩
  rw[if_pos c0]
  simp only[D.toInt_int,c0,decide_true,if_true]
  rfl
 ·obtain⟨M,hM,hw⟩:=W.m
  obtain⟨e,M',h1,h2⟩:=C3g hM i
  refine⟨L.set m (.agg M'.ds),?_,?_,Fr.set _ _ _ (.inr rfl)⟩
  ·rw[if_neg c0]
   have hr:=wrecord (wd M.words i) (wd_lt (by rw[hw];exact h.w) _)
   rw[hw]at h1 hr
   simp only[c0,decide_false,HH,W.w,WorldS.get7,h1,hr,Rc.len,Rc.get0,Rc.get1,Rc.get2,Rc.get3,Rc.get4,Rc.get5]
   rfl
  ·have:=W.setM M'
   rw[h2,hw]at this
   exact this
theorem E3e{se:SeatS}{i:Int}(h0:0≤i)(h1:i<se.curs.length):(se.curs.map Cur.d).getD i.toNat D.nil=.agg [.int (curAt se i).gen,.int (curAt se i).n]:=by
 have h:i.toNat<se.curs.length:=by omega
 unfold curAt
 rw[List.getD_eq_getElem?_getD,List.getElem?_map,List.getElem?_eq_getElem h,List.getD_eq_getElem?_getD,List.getElem?_eq_getElem h];rfl
section
variable{L:List D}{a s w m k:Nat}{pr:PrS}{se:SeatS}{S:WS}(H:Hs L a s w m k pr se S)(h:S.ok)(hpc:In (pr.pc+1))
include H h hpc
theorem E1g(hc:0≤cellF S.c se.part pr.a.cell→0≤pr.a.cell∧pr.a.cell<se.curs.length)(hg:In ((curAt se pr.a.cell).gen+1))(hn:In ((curAt se pr.a.cell).n+1)):
  ∃L',FX 64 [.int (a:Nat),.int (w:Nat),.int (s:Nat),.agg L]=some (outS (pollP (cellF S.c se.part pr.a.cell) pr se S).r L')∧
   Hs L' a s w m k (pollP (cellF S.c se.part pr.a.cell) pr se S).pr (pollP (cellF S.c se.part pr.a.cell) pr se S).se (pollP (cellF S.c se.part pr.a.cell) pr se S).S∧FrS L L' a s w m:=by
 have n0:=C2n h se.part pr.a.cell
 rw[B3k]
 simp only[HH,H.a,H.s,H.W.w,WorldS.all,PrS.get2,PrS.get9,SeatS.get0,SeatS.get4,n0]
 generalize hxx:cellF S.c se.part pr.a.cell=x at*
 by_cases cx:x<0
 ·have e:pollP x pr se S=⟨some (codeF pr S 21),pr,se,S⟩:=by unfold pollP;rw[if_pos cx]
  rw[e]
  simp only[cx,decide_true,if_true,A4r H h,codeout]
  exact⟨L,rfl,H,A2s⟩
 obtain⟨b1,b2⟩:=hc (by omega)
 have b1':pr.a.cell≥0:=b1
 have g1:=E3e (se:=se) b1 b2
 have hlen:(se.curs.map Cur.d).length=se.curs.length:=List.length_map ..
 simp only[cx,decide_false,Bool.false_eq_true,if_false,hlen,b1',b2,decide_true,if_true,g1,HH]
 generalize hcur:curAt se pr.a.cell=cur at*
 by_cases c0:pr.pc=0
 ·have i0:(pr.pc == 0)=true:=beq_iff_eq.2 c0
  have e:pollP x pr se S=⟨none,{pr with pc:=pr.pc+1},se,S⟩:=by unfold pollP;rw[if_neg cx,if_pos c0]
  rw[e]
  simp only[i0,if_true,hpc.w,PrS.rng,PrS.set9]
  exact⟨_,rfl,H.setA _,frs_a _⟩
 have i0:(pr.pc == 0)=false:=beq_eq_false_iff_ne.2 c0
 simp only[i0,Bool.false_eq_true,if_false]
 by_cases c1:pr.pc=1
 ·have i1:(pr.pc == 1)=true:=beq_iff_eq.2 c1
  simp only[i1,if_true,A8l,HH,H.a,H.s,H.W.w,WorldS.all,PrS.get2,PrS.get9,SeatS.get4,g1]
  by_cases c2:cur.n<S.c.c5
  ·have e:pollP x pr se S=⟨none,{pr with r0:=slotP S (slotF S.c x cur.gen cur.n),pc:=pr.pc+1},se,S⟩:=by unfold pollP;rw[if_neg cx,if_neg c0,if_pos c1,hcur,if_pos c2]
   rw[e]
   obtain⟨L1,n1,W1,F1⟩:=D5i H.W h (slotF S.c x cur.gen cur.n)
   obtain⟨H1,G1⟩:=H.setW W1 F1
   rw[rapp]at n1
   have n2:=C9t h x cur.gen cur.n
   simp only[c2,decide_true,if_true,n2,n1,HH,A8v,H1.a,PrS.rng,PrS.set22,PrS.set23,PrS.set24,PrS.set25,PrS.set26,PrS.set27,PrS.get9,hpc.w,PrS.set9]
   exact⟨_,rfl,H1.setA {pr with r0:=slotP S (slotF S.c x cur.gen cur.n),pc:=pr.pc+1},G1.trans (frs_a _)⟩
  ·have e:pollP x pr se S=⟨none,{pr with pc:=pr.pc+1},se,S⟩:=by unfold pollP;rw[if_neg cx,if_neg c0,if_pos c1,hcur,if_neg c2]
   rw[e]
   simp only[c2,decide_false,Bool.false_eq_true,if_false,hpc.w,PrS.rng,PrS.set9]
   exact⟨_,rfl,H.setA _,frs_a _⟩
 have i1:(pr.pc == 1)=false:=beq_eq_false_iff_ne.2 c1
 simp only[i1,Bool.false_eq_true,if_false]
 by_cases c2:pr.pc=2
 ·have i2:(pr.pc == 2)=true:=beq_iff_eq.2 c2
  have e:pollP x pr se S=⟨none,{pr with r1:=slotP S (slotF S.c x cur.gen S.c.c5),pc:=pr.pc+1},se,S⟩:=by unfold pollP;rw[if_neg cx,if_neg c0,if_neg c1,if_pos c2,hcur]
  rw[e]
  obtain⟨L1,n1,W1,F1⟩:=D5i H.W h (slotF S.c x cur.gen S.c.c5)
  obtain⟨H1,G1⟩:=H.setW W1 F1
  rw[rapp]at n1
  have n2:=C9t h x cur.gen S.c.c5
  simp only[i2,if_true,n2,n1,HH,A8n,H1.a,PrS.rng,PrS.set28,PrS.set29,PrS.set30,PrS.set31,PrS.set32,PrS.set33,PrS.get9,hpc.w,PrS.set9]
  exact⟨_,rfl,H1.setA {pr with r1:=slotP S (slotF S.c x cur.gen S.c.c5),pc:=pr.pc+1},G1.trans (frs_a _)⟩
 ·have i2:(pr.pc == 2)=false:=beq_eq_false_iff_ne.2 c2
  have e:pollP x pr se S=⟨some {codeF pr S 0 with rc:=(nextF cur.gen cur.n pr.r0 pr.r1).1},pr,{se with curs:=se.curs.set pr.a.cell.toNat ⟨(nextF cur.gen cur.n pr.r0 pr.r1).2.1,(nextF cur.gen cur.n pr.r0 pr.r1).2.2⟩},S⟩:=by unfold pollP;rw[if_neg cx,if_neg c0,if_neg c1,if_neg c2,hcur]
  rw[e]
  have n3:FX 88 [.int cur.gen,.int cur.n,.int pr.r0.k,.int pr.r0.q,.int pr.r0.p,.int pr.r0.t,.int pr.r0.c,.int pr.r0.g,.int pr.r1.k,.int pr.r1.q,.int pr.r1.p,.int pr.r1.t,.int pr.r1.c,.int pr.r1.g]=some ((nextF cur.gen cur.n pr.r0 pr.r1).1.ds++[.int (nextF cur.gen cur.n pr.r0 pr.r1).2.1,.int (nextF cur.gen cur.n pr.r0 pr.r1).2.2]):=E2k cur.gen cur.n hg hn pr.r0 pr.r1
  generalize nextF cur.gen cur.n pr.r0 pr.r1=nx at*
  have r2:∀(r:Rc) (x y:D),r.ds++[x,y]=[.int r.k,.int r.q,.int r.p,.int r.t,.int r.c,.int r.g,x,y]:=fun _ _ _=>rfl
  rw[r2]at n3
  have hset:(se.curs.map Cur.d).set pr.a.cell.toNat (.agg [.int nx.2.1,.int nx.2.2])=(se.curs.set pr.a.cell.toNat ⟨nx.2.1,nx.2.2⟩).map Cur.d:=by rw[List.map_set];rfl
  simp only[i2,Bool.false_eq_true,if_false,A4r H h,A0b,Rep.len14,if_true,PrS.get22,PrS.get23,PrS.get24,PrS.get25,PrS.get26,PrS.get27,PrS.get28,PrS.get29,PrS.get30,PrS.get31,PrS.get32,PrS.get33,n3,HH,A8o,H.s,H.a,PrS.get2,SeatS.get4,SeatS.rng,hset,SeatS.set4]
  exact⟨_,rfl,H.setS {se with curs:=se.curs.set pr.a.cell.toNat ⟨nx.2.1,nx.2.2⟩},frs_s _⟩
theorem E2h(s:St):FX 89 [.int s.k,.bool s.f,.int s.g,.int s.l,.int s.n]=some (lookS s).ds:=by
 have h1:=D2m s.k (.bool s.f) (.int s.g) (.int s.l) (.int s.n)
 rw[D0o,h1]
 simp only[HH]
 unfold lookS
 have e:s.live=(decide (1≤s.k)&&decide (s.k≤4)):=rfl
 rw[←e]
 cases s.live<;>rfl
theorem E1a(hlk:pr.looks.length≤1000)(hpc0:0≤pr.pc):
  ∃L',FX 65 [.int (a:Nat),.int (w:Nat),.int (s:Nat),.agg L]=some (outS (viewP pr se S).r L')∧
   ((viewP pr se S).r=none→Hs L' a s w m k (viewP pr se S).pr (viewP pr se S).se (viewP pr se S).S)∧InW L' w m k S∧L'.getD s D.nil=.agg se.ds∧FrS L L' a s w m:=by
 obtain⟨f1,f2,f3,f4,f5,f6,f7⟩:=H.far
 rw[B3t]
 simp only[HH,H.a,H.s,H.W.w,WorldS.all,PrS.get9,PrS.get34,SeatS.get0]
 by_cases c0:pr.pc>S.c.c1
 ·have e:viewP pr se S=⟨some {codeF pr S 0 with looks:=pr.looks},pr,se,S⟩:=by unfold viewP;rw[if_pos c0]
  rw[e]
  have hnil:∀l:List D,(D.agg l).isNil=false:=fun _=>rfl
  simp only[c0,decide_true,if_true,A4r H h,A0b,Rep.len14,hnil,Bool.not_false]
  refine⟨_,rfl,(fun hh=>nomatch hh),?_,?_,frs_a _⟩
  ·exact H.W.fr (Fr.set L a _ (T:=(·=a)) rfl) (Ne.symm f1) (Ne.symm f2) (Ne.symm f3)
  ·rw[A0s f7];exact H.s
 simp only[c0,decide_false,Bool.false_eq_true,if_false]
 by_cases c1:pr.pc>0
 ·have e:viewP pr se S=⟨none,{pr with looks:=pr.looks++[lookS (stOf (S.word (cellF S.c se.part (pr.pc-1))))],pc:=pr.pc+1},se,S⟩:=by unfold viewP;rw[if_neg c0,if_pos c1]
  rw[e]
  have hc1:=h.c.2.1
  rw[i64w (pr.pc-1) (by omega) (by omega)]
  have n0:=C2n h se.part (pr.pc-1)
  have hx:=C3z h.c se.part (pr.pc-1)
  obtain⟨L1,n1,W1,F1⟩:=A3a H.W h (cellF S.c se.part (pr.pc-1)) hx
  obtain⟨H1,G1⟩:=H.setW W1 (F1.mono fun b hb=>.inr hb)
  rw[sapp]at n1
  have n2:=E2h H h hpc (stOf (S.word (cellF S.c se.part (pr.pc-1))))
  generalize lookS (stOf (S.word (cellF S.c se.part (pr.pc-1))))=lk at*
  have n2':lk.ds=[.int lk.kind,.int lk.left,.int lk.fills]:=rfl
  rw[n2']at n2
  have hap:pr.looks.map Look.d++[D.agg [.int lk.kind,.int lk.left,.int lk.fills]]=(pr.looks++[lk]).map Look.d:=by simp[Look.d,Look.ds]
  have hle:(((pr.looks++[lk]).map Look.d).length:Int)≤5864062014805:=by simp;omega
  have hnil:∀l:List D,(D.agg l).isNil=false:=fun _=>rfl
  simp only[c1,decide_true,if_true,n0,n1,HH,A8s,A8r,H1.a,PrS.get34,hnil,n2,hap,hle,PrS.rng,PrS.set34,PrS.get9,hpc.w,PrS.set9]
  have H2:=H1.setA {pr with looks:=pr.looks++[lk],pc:=pr.pc+1}
  exact⟨_,rfl,fun _=>H2,H2.W,H2.s,G1.trans (frs_a _)⟩
 ·have e:viewP pr se S=⟨none,{pr with pc:=pr.pc+1},se,S⟩:=by unfold viewP;rw[if_neg c0,if_neg c1]
  rw[e]
  simp only[c1,decide_false,Bool.false_eq_true,if_false,hpc.w,PrS.rng,PrS.set9]
  have H2:=H.setA {pr with pc:=pr.pc+1}
  exact⟨_,rfl,fun _=>H2,H2.W,H2.s,frs_a _⟩
end
end Go.Proofs.YtcgcpjajghdbpaaGreat.P
