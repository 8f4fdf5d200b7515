import Derived.Test.YtcgcpjajghdbpaaGreatPoolH
namespace Go.Proofs.YtcgcpjajghdbpaaGreat.P
open Go.RowKit Go.Proofs.YtcgcpjajghdbpaaGreat.Eng Go.Proofs.YtcgcpjajghdbpaaGreat Go.Proofs.YtcgcpjajghdbpaaGreat.Dat Go.Proofs.YtcgcpjajghdbpaaGreat.FDat
set_option linter.unusedVariables false
set_option linter.unusedSimpArgs false
set_option linter.unusedSectionVars false
set_option maxRecDepth 10000
theorem E0r(s:St):FX 113 [.int s.k,.bool s.f,.int s.g,.int s.l,.int s.n]=some (outD (cancelF s)):=D5f s
theorem D0n{s:St}(h:s.wf):(promoteF s).2.wf:=by
 unfold promoteF
 split
 ·exact h.wf_k 2 _ (In.lit (by decide))
 ·exact St.zero_wf
theorem C2z{s:St}(h:s.wf):(cancelF s).2.wf:=by
 unfold cancelF
 split
 ·exact h.wf_k 6 _ (In.lit (by decide))
 ·split
  ·exact h.wf_k s.k _ h.1
  ·exact St.zero_wf
section
variable{L:List D}{a s w m k:Nat}{pr:PrS}{se:SeatS}{S:WS}(H:Hs L a s w m k pr se S)(h:S.ok)
include H h
theorem D9z(hl:S.log.length≤1000000000)(x:Int)(hx:-1000≤x∧x≤1000)(hst:pr.st.wf)(hwd:pr.word<18446744073709551616)(htr:0≤pr.tries∧pr.tries≤1000):
  ∃L',FX 85 [.int (a:Nat),.int (w:Nat),.int x,.agg L]=some [.bool (restP x pr S).1,.agg L']∧
   Hs L' a s w m k (restP x pr S).2.1 se (restP x pr S).2.2∧FrS L L' a s w m:=by
 have hf:=A2k h.c
 rw[B3s]
 simp only[HH,H.a,H.W.w,WorldS.get5,PrS.get10,PrS.get11,PrS.get12,PrS.get13,PrS.get14,PrS.get15,PrS.get16,PrS.get17]
 rw[i64w (S.c.c5+1) (by omega) (by omega),i64w (2*(S.c.c5+1)) (by omega) (by omega),i64w (pr.tries+1) (by omega) (by omega)]
 simp only[PrS.rng,PrS.set16,PrS.set17]
 by_cases c0:pr.tries≥2*(S.c.c5+1)
 ·have e:restP x pr S=(false,pr,S):=by unfold restP;rw[if_pos c0]
  rw[e]
  simp only[c0,decide_true,if_true]
  exact⟨L,rfl,H,A2s⟩
 simp only[c0,decide_false,Bool.false_eq_true,if_false]
 obtain⟨p1,hp1⟩:∃p1:PrS,p1={pr with tries:=pr.tries+1}:=⟨_,rfl⟩
 have H1:=H.setA p1
 have G1:FrS L (L.set a (.agg p1.ds)) a s w m:=frs_a _
 by_cases c1:pr.done>0
 ·have e:restP x pr S=(true,p1,S):=by unfold restP;rw[if_neg c0,if_pos c1,hp1]
  rw[e]
  simp only[c1,decide_true,if_true]
  refine⟨_,?_,H1,G1⟩
  rw[hp1]
 simp only[c1,decide_false,Bool.false_eq_true,if_false]
 have ht:Int.tmod (pr.tries+1) 2=(pr.tries+1)%2:=Int.tmod_eq_emod_of_nonneg (by omega)
 rw[ht]
 by_cases c2:(pr.tries+1)%2=1
 ·have e:restP x pr S=(true,{p1 with word:=S.word x,st:=stOf (S.word x)},S):=by unfold restP;rw[if_neg c0,if_neg c1,if_pos c2,hp1]
  rw[e]
  have i2:((pr.tries+1)%2 == 1)=true:=beq_iff_eq.2 c2
  obtain⟨L1,n1,W1,F1⟩:=A3a H1.W h x hx
  obtain⟨H2,G2⟩:=H1.setW W1 (F1.mono fun b hb=>.inr hb)
  rw[sapp]at n1
  simp only[i2,if_true,←hp1,n1,HH,H2.a,PrS.rng,PrS.set10,PrS.set11,PrS.set12,PrS.set13,PrS.set14,PrS.set15]
  exact⟨_,rfl,H2.setA {p1 with word:=S.word x,st:=stOf (S.word x)},(G1.trans G2).trans (frs_a _)⟩
 have i2:((pr.tries+1)%2 == 1)=false:=beq_eq_false_iff_ne.2 c2
 simp only[i2,Bool.false_eq_true,if_false]
 have n2:=D5m pr.st
 have n3:=E4o pr.st
 simp only[n2,n3,HH,outD.len,outD.all]
 by_cases c3:pr.st.over=true
 ·have e:restP x pr S=(true,{p1 with done:=1},S):=by unfold restP;rw[if_neg c0,if_neg c1,if_neg c2,if_pos c3,hp1]
  rw[e]
  simp only[c3,if_true]
  refine⟨_,?_,H.setA {p1 with done:=1},frs_a _⟩
  rw[hp1]
 simp only[c3,if_false]
 by_cases c4:(promoteF pr.st).1=0
 ·simp only[C1u c4,if_true,←hp1]
  obtain⟨L1,n4,W1,F1⟩:=A7i H1.W h x hx pr.word (promoteF pr.st).2 (D0n hst)
  obtain⟨H2,G2⟩:=H1.setW W1 (F1.mono fun b hb=>.inr hb)
  obtain⟨o1,o2,o3,o4,o5⟩:=S.turn_ok h x pr.word (promoteF pr.st).2
  simp only[n4,HH]
  by_cases c5:(S.turn x pr.word (promoteF pr.st).2).1=true
  ·have e:restP x pr S=(true,{p1 with done:=1},(S.turn x pr.word (promoteF pr.st).2).2.tell {Ev.zero with kind:=6,cell:=x,gen:=(promoteF pr.st).2.g}):=by
    unfold restP;rw[if_neg c0,if_neg c1,if_neg c2,if_neg c3,if_neg (by simpa using c4),if_pos c5,hp1]
   rw[e]
   have H3:=H2.setA {p1 with done:=1}
   obtain⟨L5,n5,W5,F5⟩:=B3o H3.W o1 (by rw[o4];exact hl) 6 x (promoteF pr.st).2.g 0 0 0 0 0
   obtain⟨H4,G4⟩:=H3.setW W5 (F5.mono fun b hb=>.inl hb)
   simp only[c5,if_true,H2.a,HH,PrS.rng,PrS.set17,n5]
   exact⟨L5,rfl,H4,((G1.trans G2).trans (frs_a _)).trans G4⟩
  ·have e:restP x pr S=(true,p1,S):=by
    unfold restP;rw[if_neg c0,if_neg c1,if_neg c2,if_neg c3,if_neg (by simpa using c4),if_neg c5,hp1]
   rw[e]
   simp only[c5,if_false]
   rw[o5 (by simpa using c5)]at H2
   exact⟨L1,rfl,H2,G1.trans G2⟩
 ·have e:restP x pr S=(true,p1,S):=by unfold restP;rw[if_neg c0,if_neg c1,if_neg c2,if_neg c3,if_pos c4,hp1]
  rw[e]
  simp only[C1o c4,Bool.false_eq_true,if_false]
  refine⟨_,?_,H1,G1⟩
  rw[hp1]
theorem D9y(hl:S.log.length≤1000000000)(x:Int)(hx:-1000≤x∧x≤1000)(hst:pr.st.wf)(hwd:pr.word<18446744073709551616)
  (hc:0≤pr.a.cell∧pr.a.cell<se.ids.length∧pr.a.cell<se.gens.length):
  ∃L',FX 86 [.int (a:Nat),.int (w:Nat),.int (s:Nat),.int x,.agg L]=some [.agg L']∧
   Hs L' a s w m k (turnP x pr se S).1 se (turnP x pr se S).2∧FrS L L' a s w m:=by
 obtain⟨b1,b2,b3⟩:=hc
 have b1':pr.a.cell≥0:=b1
 have g1:=C9z b1 b2
 have g2:=C9z b1 b3
 have n1:=E0r pr.st
 rw[B3d]
 simp only[HH,H.a,H.s,PrS.get1,PrS.get2,SeatS.get2,SeatS.get3,b1',b2,b3,decide_true,B4f,g1,g2]
 have hJ:∀J:List D→Option (List D),(if(atL se.ids pr.a.cell == pr.a.id)=true then(if decide (pr.a.id>0)=true then J [.agg L,.int (atL se.gens pr.a.cell)]else J [.agg L,.int 0])else J [.agg L,.int 0])=J [.agg L,.int (genF pr se)]:=by
  intro J
  unfold genF
  by_cases d1:atL se.ids pr.a.cell=pr.a.id
  ·have i1:(atL se.ids pr.a.cell == pr.a.id)=true:=beq_iff_eq.2 d1
   by_cases d2:pr.a.id>0
   ·rw[if_pos i1,if_pos (by simpa using d2),if_pos ⟨d1,d2⟩]
   ·rw[if_pos i1,if_neg (by simpa using d2),if_neg (fun hh=>d2 hh.2)]
  ·have i1:¬(atL se.ids pr.a.cell == pr.a.id)=true:=by simpa using d1
   rw[if_neg i1,if_neg (fun hh=>d1 hh.1)]
 rw[hJ,A8m]
 generalize hgen:genF pr se=gen
 simp only[HH,H.a,PrS.get11,PrS.get12,PrS.get13,PrS.get14,PrS.get15,PrS.get17,n1,outD.len]
 by_cases c0:pr.done>0
 ·have e:turnP x pr se S=(pr,S):=by unfold turnP;rw[if_pos c0]
  rw[e]
  simp only[c0,decide_true,if_true]
  exact⟨L,rfl,H,A2s⟩
 simp only[c0,decide_false,Bool.false_eq_true,if_false,outD.all]
 have hJ2:∀J:List D→Option (List D),(if(gen == 0)=true then J [.agg L,.bool true]else if(pr.st.g != gen)=true then J [.agg L,.bool true]else J [.agg L,.bool (!(er (cancelF pr.st).1).isNil)])=J [.agg L,.bool (decide (gen=0∨pr.st.g≠gen∨(cancelF pr.st).1≠0))]:=by
  intro J
  by_cases d1:gen=0
  ·simp[d1]
  by_cases d2:pr.st.g=gen
  ·rw[C0v]
   simp[d1,d2]
  ·simp[d1,d2]
 rw[hJ2,A8k]
 simp only[HH,H.a,PrS.get10,PrS.get12,PrS.rng,PrS.set17]
 by_cases c1:gen=0∨pr.st.g≠gen∨(cancelF pr.st).1≠0
 ·have e:turnP x pr se S=({pr with done:=3},S):=by unfold turnP;rw[if_neg c0,hgen,if_pos c1]
  rw[e]
  simp only[c1,decide_true,if_true]
  exact⟨_,rfl,H.setA _,frs_a _⟩
 simp only[c1,decide_false,Bool.false_eq_true,if_false]
 by_cases c2:pr.st.f=true
 ·have e:turnP x pr se S=({pr with done:=2},S):=by unfold turnP;rw[if_neg c0,hgen,if_neg c1,if_pos c2]
  rw[e]
  simp only[c2,if_true]
  refine⟨_,?_,H.setA _,frs_a _⟩
  rfl
 simp only[c2,if_false]
 obtain⟨L1,n4,W1,F1⟩:=A7i H.W h x hx pr.word (cancelF pr.st).2 (C2z hst)
 obtain⟨H2,G2⟩:=H.setW W1 (F1.mono fun b hb=>.inr hb)
 obtain⟨o1,o2,o3,o4,o5⟩:=S.turn_ok h x pr.word (cancelF pr.st).2
 simp only[n4,HH]
 by_cases c3:(S.turn x pr.word (cancelF pr.st).2).1=false
 ·have e:turnP x pr se S=(pr,S):=by unfold turnP;rw[if_neg c0,hgen,if_neg c1,if_neg c2,if_pos c3]
  rw[e]
  simp only[c3,Bool.false_eq_true,if_false]
  rw[o5 c3]at H2
  exact⟨L1,rfl,H2,G2⟩
 have c3':(S.turn x pr.word (cancelF pr.st).2).1=true:=by simpa using c3
 have n5:=A7a H2.W o1
 rw[o3]at n5
 have hset:∀(z:PrS),z.ds.set 18 (wN S.now)=PrS.ds {z with at_:=S.now}:=fun _=>rfl
 simp only[c3',if_true,H2.W.w,H2.a,HH,WorldS.get8,n5,PrS.rng,hset,PrS.set17,A8t]
 by_cases c4:(cancelF pr.st).2.f=true
 ·have e:turnP x pr se S=({pr with at_:=S.now,done:=2},(S.turn x pr.word (cancelF pr.st).2).2.tell {Ev.zero with kind:=4,cell:=x,gen:=gen}):=by
   unfold turnP;rw[if_neg c0,hgen,if_neg c1,if_neg c2,if_neg c3,if_pos c4]
  rw[e]
  have H3:=H2.setA {pr with at_:=S.now,done:=2}
  obtain⟨L5,n6,W5,F5⟩:=B3o H3.W o1 (by rw[o4];exact hl) 4 x gen 0 0 0 0 0
  obtain⟨H4,G4⟩:=H3.setW W5 (F5.mono fun b hb=>.inl hb)
  simp only[c4,if_true,n6,HH]
  exact⟨L5,rfl,H4,(G2.trans (frs_a _)).trans G4⟩
 ·have e:turnP x pr se S=({pr with at_:=S.now,done:=1,st:=(cancelF pr.st).2},(S.turn x pr.word (cancelF pr.st).2).2.tell {Ev.zero with kind:=3,cell:=x,gen:=gen}):=by
   unfold turnP;rw[if_neg c0,hgen,if_neg c1,if_neg c2,if_neg c3,if_neg c4]
  rw[e]
  have H3:=H2.setA {pr with at_:=S.now,done:=1,st:=(cancelF pr.st).2}
  obtain⟨L5,n6,W5,F5⟩:=B3o H3.W o1 (by rw[o4];exact hl) 3 x gen 0 0 0 0 0
  obtain⟨H4,G4⟩:=H3.setW W5 (F5.mono fun b hb=>.inl hb)
  have e10:({k:=(cancelF pr.st).2.k,f:=(cancelF pr.st).2.f,g:=(cancelF pr.st).2.g,l:=(cancelF pr.st).2.l,n:=(cancelF pr.st).2.n}:St)=(cancelF pr.st).2:=rfl
  rw[if_neg c4]
  simp only[PrS.rng,PrS.set11,PrS.set12,PrS.set13,PrS.set14,PrS.set15,e10,n6,HH]
  exact⟨L5,rfl,H4,(G2.trans (frs_a _)).trans G4⟩
end
end Go.Proofs.YtcgcpjajghdbpaaGreat.P
