import Derived.Test.YtcgcpjajghdbpaaGreatPoolC
namespace Go.Proofs.YtcgcpjajghdbpaaGreat.P
open Go.RowKit Go.Proofs.YtcgcpjajghdbpaaGreat.Eng Go.Proofs.YtcgcpjajghdbpaaGreat Go.Proofs.YtcgcpjajghdbpaaGreat.Dat Go.Proofs.YtcgcpjajghdbpaaGreat.FDat
set_option linter.unusedVariables false
set_option linter.unusedSimpArgs false
set_option linter.unusedSectionVars false
set_option maxRecDepth 10000
theorem E2q(a b:Tm)(ha:a.sm)(hb:b.sm)(l o:Int):FX 120 [.int a.name,.int a.side,.int a.price,.int a.least,.int a.till,.int b.name,.int b.side,.int b.price,.int b.least,.int b.till,.int l,.int o]=some [.int (matchF a b l o).1,.int (matchF a b l o).2]:=E0s a b ha hb l o
theorem E4d(s:St)(hs:s.wf)(q m:Int)(hm:m≤100):FX 121 [.int s.k,.bool s.f,.int s.g,.int s.l,.int s.n,.int q,.int m]=some (outD (takeF s q m)):=E3d s hs q m hm
theorem D6s(s:St)(hs:s.wf)(q m:Int)(hm:m≤100):FX 122 [.int s.k,.bool s.f,.int s.g,.int s.l,.int s.n,.int q,.int m]=some (outD (releaseF s q m)):=D4x s hs q m hm
theorem end_x(s:St)(t:Int):FX 59 [.int s.k,.bool s.f,.int s.g,.int s.l,.int s.n,.int t]=some (endD (endF s t)):=E4h s t
theorem B3o{L:List D}{w m k:Nat}{S:WS}(W:InW L w m k S)(h:S.ok)(hl:S.log.length≤1000000000)(kind cell gen other wth qty price fin:Int):
  ∃L',FX 78 [.int (w:Nat),.int kind,.int cell,.int gen,.int other,.int wth,.int 0,.int 0,.int 0,.int 0,.int 0,.int qty,.int price,.int 0,.int fin,.agg L]=some [.agg L']∧
   InW L' w m k (S.tell {Ev.zero with kind:=kind,cell:=cell,gen:=gen,other:=other,wth:=wth,qty:=qty,price:=price,fin:=fin})∧Fr L L' (·=w):=
 C9r W h hl {Ev.zero with kind:=kind,cell:=cell,gen:=gen,other:=other,wth:=wth,qty:=qty,price:=price,fin:=fin}
theorem C0w{L L1 L2:List D}{a w m k:Nat}{P:PairS}{S1 S2:WS}(d:Did L L1 a w m k (P,S1))(W2:InW L2 w m k S2)(F:Fr L1 L2 (fun b=>b=w∨b=m)):Did L L2 a w m k (P,S2):=by
 have:=did_w d.1 d.2.1 W2 F
 exact⟨this.1,this.2.1,d.2.2.trans this.2.2⟩
theorem wstate(x:Nat)(hx:x<18446744073709551616):FX 71 [wN x]=some (stOf x).ds:=C0i x hx
theorem C1u{c:Int}(h:c=0):(er c).isNil=true:=by rw[C0v];simp[h]
theorem C1o{c:Int}(h:c≠0):(er c).isNil=false:=by rw[C0v];simp[h]
theorem A2k{c:Cf}(h:c.ok):1≤c.c5∧c.c5≤4:=h.2.2.2.2.2.1
section
variable{L:List D}{a w m k:Nat}{P:PairS}{S:WS}(W:InW L w m k S)(ha:L.getD a D.nil=.agg P.ds)(h:S.ok)(hp:P.ok)(hl:S.log.length≤1000000000)
include W ha h hp
theorem D9t(hx:-1000≤P.a.x∧P.a.x≤1000):∃L',FX 93 [.int (a:Nat),.int (w:Nat),.agg L]=some [.agg L']∧Did L L' a w m k (lookF P S):=by
 obtain⟨L1,h4,W1,F1⟩:=A3a W h P.a.x hx
 have d1:=did_w W ha W1 (F1.mono fun b hb=>.inr hb)
 rw[B6g]
 simp only[HH,ha,PairS.get1,PairS.get18,PairS.get20]
 by_cases b1:P.held=true
 ·by_cases b2:P.free=true
  ·have e:lookF P S=(P,S):=if_neg (by simp[b2])
   rw[e]
   exact⟨L,by simp only[HH,b1,b2],A0y W ha⟩
  ·have e:lookF P S=({P with wx:=S.word P.a.x},S):=if_pos ⟨b1,by simpa using b2⟩
   rw[e]
   refine⟨_,?_,A2u d1 _⟩
   have b2':P.free=false:=by simpa using b2
   have e:(List.getD ((stOf (S.word P.a.x)).ds++[D.agg L1]) 5 D.nil)=D.agg L1:=rfl
   simp only[HH,h4,List.cons_append,List.length_append,St.len,b1,b2',e,d1.2.1,PairS.all]
 ·have e:lookF P S=(P,S):=if_neg (by simp[b1])
  have b1':P.held=false:=by simpa using b1
  rw[e]
  exact⟨L,by simp only[HH,b1'],A0y W ha⟩
include hl
theorem E0z(hx:-1000≤P.a.y∧P.a.y≤1000):∃L',FX 92 [.int (a:Nat),.int (w:Nat),.agg L]=some [.agg L']∧Did L L' a w m k (tookF P S):=by
 have h1:=wstate P.wx hp.wx
 have h2:=wstate P.wy hp.wy
 have h3:=E0e W ha h (stOf P.wy)
 have h4:=E2q P.tx P.ty hp.tx hp.ty (stOf P.wx).l (stOf P.wy).l
 obtain⟨f,hfF⟩:∃f,f=fillF P:=⟨_,rfl⟩
 have hfM:matchF P.tx P.ty (stOf P.wx).l (stOf P.wy).l=f:=hfF.symm
 rw[hfM]at h4
 have hf:=A2k h.c
 rw[B6x]
 simp only[HH,ha,PairS.get1,PairS.get3,PairS.get6,PairS.get7,PairS.get8,PairS.get9,PairS.get10,PairS.get11,PairS.get12,PairS.get13,PairS.get14,PairS.get15,PairS.get16,PairS.get17,PairS.get18,h1,St.len,St.get0,St.get1,St.get2,St.get3,St.get4,h2,h3,h4]
 by_cases b0:P.held=false∨findsF S.c P (stOf P.wy)=false
 ·have e:tookF P S=(P,S):=if_pos b0
  rw[e]
  rcases b0 with b1|b1
  ·exact⟨L,by simp only[HH,b1],A0y W ha⟩
  ·by_cases b2:P.held=true
   ·exact⟨L,by simp only[HH,b1,b2],A0y W ha⟩
   ·have b2':P.held=false:=by simpa using b2
    exact⟨L,by simp only[HH,b2'],A0y W ha⟩
 have b1:P.held=true:=by simp only[not_or]at b0;simpa using b0.1
 have b2:findsF S.c P (stOf P.wy)=true:=by simp only[not_or]at b0;simpa using b0.2
 obtain⟨P2,hP2⟩:∃P2:PairS,P2={P with q:=f.1,p:=f.2}:=⟨_,rfl⟩
 have e:tookF P S=takeG P2 S (takeF (stOf P.wy) f.1 S.c.c5):=by rw[hP2,hfF];exact if_neg b0
 rw[e]
 have d2:=A2u (A0y W ha) P2
 have h5:=E4d (stOf P.wy) (A3w _) f.1 S.c.c5 (by omega)
 simp only[HH,b2,PairS.rng,PairS.set21,PairS.set22,←hP2]
 rw[if_neg (show ¬(!P.held)=true by rw[b1];decide)]
 simp only[d2.1.w,D.toL_agg,WorldS.get5,h5,A0b,outD.len]
 have ht:=C8p (B4c P.wy) f.1 S.c.c5 (by omega)
 generalize takeF (stOf P.wy) f.1 S.c.c5=t at*
 by_cases b3:t.1=0
 ·simp only[HH,outD.all,C1u b3]
  have b3':¬t.1≠0:=by simpa using b3
  have hw2:P2.wy=P.wy:=by rw[hP2]
  have hy2:P2.a.y=P.a.y:=by rw[hP2]
  obtain⟨L3,h6,W3,F3⟩:=A7i d2.1 h P.a.y hx P.wy t.2 ht.1
  have d3:Did L L3 a w m k (P2,(S.turn P.a.y P.wy t.2).2):=C0w d2 W3 (F3.mono fun b hb=>.inr hb)
  obtain⟨o1,o2,o3,o4,o5⟩:=S.turn_ok h P.a.y P.wy t.2
  simp only[h6,HH]
  by_cases b4:(S.turn P.a.y P.wy t.2).1=false
  ·have e:takeG P2 S t=(P2,S):=by
    unfold takeG
    rw[if_neg b3',hw2,hy2,if_pos b4]
   rw[e]
   rw[o5 b4]at d3
   exact⟨L3,by simp only[HH,b4],d3⟩
  ·have b4':(S.turn P.a.y P.wy t.2).1=true:=by simpa using b4
   have e:takeG P2 S t=({P2 with made:=true,ny:=t.2,at_:=S.now},(S.turn P.a.y P.wy t.2).2.tell {Ev.zero with kind:=2,cell:=P2.a.x,gen:=(stOf P2.wx).g,other:=P2.a.y,wth:=(stOf P2.wy).g,qty:=P2.q,price:=P2.p}):=by
    unfold takeG
    rw[if_neg b3',hw2,hy2,if_neg b4]
   rw[e]
   have d4:=A2u d3 {P2 with made:=true,ny:=t.2,at_:=S.now}
   obtain⟨L5,h7,W5,F5⟩:=B3o d4.1 o1 (by rw[o4];exact hl) 2 P2.a.x (stOf P2.wx).g P2.a.y (stOf P2.wy).g P2.q P2.p 0
   have hw1:(stOf P2.wx).g=(stOf P.wx).g:=by rw[hP2]
   have hw3:(stOf P2.wy).g=(stOf P.wy).g:=by rw[hP2]
   rw[hw1,hw3]at h7
   have h8:=A7a W3 o1
   rw[o3]at h8
   refine⟨L5,?_,C0w d4 W5 (F5.mono fun b hb=>.inl hb)⟩
   simp only[HH,b4',W3.w,WorldS.get8,h8,B0x,d3.2.1,PairS.get1,PairS.get3,PairS.get21,PairS.get22,PairS.rng,PairS.set19,PairS.set30,PairS.set31,PairS.set32,PairS.set33,PairS.set34]
   have e9:(PairS.ds {P2 with made:=true,ny:=t.2}).set 23 (wN S.now)=PairS.ds {P2 with made:=true,ny:=t.2,at_:=S.now}:=rfl
   have e10:({k:=t.2.k,f:=t.2.f,g:=t.2.g,l:=t.2.l,n:=t.2.n}:St)=t.2:=rfl
   simp only[e10,e9,h7,HH]
 ·have e:takeG P2 S t=(P2,S):=if_pos b3
  rw[e]
  exact⟨_,by simp only[HH,outD.all,C1o b3],d2⟩
end
end Go.Proofs.YtcgcpjajghdbpaaGreat.P
