import Derived.Test.YtcgcpjajghdbpaaGreatPoolI
namespace Go.Proofs.YtcgcpjajghdbpaaGreat.P
open Go.RowKit Go.Proofs.YtcgcpjajghdbpaaGreat.Eng Go.Proofs.YtcgcpjajghdbpaaGreat Go.Proofs.YtcgcpjajghdbpaaGreat.Dat Go.Proofs.YtcgcpjajghdbpaaGreat.FDat
set_option linter.unusedVariables false
set_option linter.unusedSimpArgs false
set_option linter.unusedSectionVars false
set_option maxRecDepth 10000
theorem B5g{α:Type}(c:Prop)[Decidable c](x:α):(if c then x else x)=x:=by split<;>rfl
theorem C2n{S:WS}(h:S.ok)(part i:Int):FX 82 [.int S.c.c0,.int S.c.c1,.int S.c.c2,.int S.c.c3,.int S.c.c4,.int S.c.c5,.int S.c.c6,.int part,.int i]=some [.int (cellF S.c part i)]:=D2k S.c h.c _ _
theorem C3z{c:Cf}(hc:c.ok)(part i:Int):-1000≤cellF c part i∧cellF c part i≤1000:=by
 have h1:=all_b c hc
 rcases Decidable.em (0≤cellF c part i)with h|h
 ·have:=B7f c h;omega
 ·have:cellF c part i=-1:=by
   rcases Decidable.em (part<0∨part≥c.c0∨i<0∨i≥c.c1)with h2|h2
   ·exact if_pos h2
   ·exfalso
    have e:cellF c part i=part*c.c1+i:=if_neg h2
    have:=Int.mul_nonneg (show 0≤part by omega) (show 0≤c.c1 by omega)
    omega
  omega
section
variable{L:List D}{a s w m k:Nat}{pr:PrS}{se:SeatS}{S:WS}(H:Hs L a s w m k pr se S)(h:S.ok)(hpc:In (pr.pc+1))
include H h hpc
theorem cancel1{L1:List D}{pr1:PrS}{S1:WS}(H1:Hs L1 a s w m k pr1 se S1)(hp:pr1.pc=pr.pc)(x1 x2 x3 x4:D):A0u (.int (a:Nat)) x1 x2 x3 x4 [.agg L1]=some (outS none (L1.set a (.agg (PrS.ds {pr1 with pc:=pr.pc+1})))):=by
 rw[A7h]
 simp only[HH,H1.a,PrS.get9,hp,hpc.w,PrS.rng,PrS.set9]
 rfl
theorem A4h{L1:List D}{pr1:PrS}{S1:WS}(H1:Hs L1 a s w m k pr1 se S1)(G:FrS L L1 a s w m):∃L',some (outS none (L1.set a (.agg (PrS.ds {pr1 with pc:=pr.pc+1}))))=some (outS (nextP (pr1,S1) se (pr.pc+1)).r L')∧Hs L' a s w m k (nextP (pr1,S1) se (pr.pc+1)).pr (nextP (pr1,S1) se (pr.pc+1)).se (nextP (pr1,S1) se (pr.pc+1)).S∧FrS L L' a s w m:=
 ⟨_,rfl,H1.setA _,G.trans (frs_a _)⟩
omit hpc in
theorem E0b(x:Int):(turnP x pr se S).1.pc=pr.pc:=by
 unfold turnP
 split
 ·rfl
 split
 ·rfl
 split
 ·rfl
 split
 ·rfl
 split<;>rfl
theorem D4i(hl:S.log.length≤1000000000)(hst:pr.st.wf)(hwd:pr.word<18446744073709551616)(hat:In pr.at_)(hd:0≤pr.done∧pr.done≤3)
  (hc:pr.pc≠0→0≤pr.a.cell∧pr.a.cell<se.ids.length∧pr.a.cell<se.gens.length):
  ∃L',FX 63 [.int (a:Nat),.int (w:Nat),.int (s:Nat),.agg L]=some (outS (cancelP (cellF S.c se.part pr.a.cell) pr se S).r L')∧
   Hs L' a s w m k (cancelP (cellF S.c se.part pr.a.cell) pr se S).pr (cancelP (cellF S.c se.part pr.a.cell) pr se S).se (cancelP (cellF S.c se.part pr.a.cell) pr se S).S∧FrS L L' a s w m:=by
 have n0:=C2n h se.part pr.a.cell
 have hx:=C3z h.c se.part pr.a.cell
 rw[B1i]
 simp only[HH,H.a,H.s,H.W.w,WorldS.all,PrS.get2,PrS.get9,SeatS.get0,n0]
 generalize hxx:cellF S.c se.part pr.a.cell=x at*
 by_cases c0:pr.pc=0
 ·have i0:(pr.pc == 0)=true:=beq_iff_eq.2 c0
  simp only[i0,if_true]
  by_cases c1:x<0
  ·have e:cancelP x pr se S=⟨some (codeF pr S 21),pr,se,S⟩:=by unfold cancelP;rw[if_pos c0,if_pos c1]
   rw[e]
   simp only[c1,decide_true,if_true,A4r H h,codeout]
   exact⟨L,rfl,H,A2s⟩
  ·have e:cancelP x pr se S=nextP (pr,S) se (pr.pc+1):=by unfold cancelP;rw[if_pos c0,if_neg c1]
   rw[e]
   simp only[c1,decide_false,Bool.false_eq_true,if_false]
   rw[cancel1 H h hpc H rfl]
   exact A4h H h hpc H A2s
 have i0:(pr.pc == 0)=false:=beq_eq_false_iff_ne.2 c0
 simp only[i0,Bool.false_eq_true,if_false]
 have hJ:∀J:List D→Option (List D),(if(pr.pc == 1)=true then J [.agg L,.bool (pr.pc == 1)]else if(pr.pc == 3)=true then J [.agg L,.bool (pr.pc == 3)]else J [.agg L,.bool (pr.pc == 5)])=J [.agg L,.bool (decide (pr.pc=1∨pr.pc=3∨pr.pc=5))]:=by
  intro J
  by_cases d1:pr.pc=1
  ·simp[d1]
  by_cases d2:pr.pc=3
  ·simp[d2]
  ·simp[d1,d2]
   rfl
 rw[hJ,A7d]
 simp only[HH,H.a,PrS.get9,PrS.get17]
 by_cases c1:pr.pc=1∨pr.pc=3∨pr.pc=5
 ·have e:cancelP x pr se S=nextP (if pr.done=0 then {pr with word:=S.word x,st:=stOf (S.word x)} else pr,S) se (pr.pc+1):=by unfold cancelP;rw[if_neg c0,if_pos c1]
  rw[e]
  simp only[c1,decide_true,if_true]
  by_cases c2:pr.done=0
  ·have i2:(pr.done == 0)=true:=beq_iff_eq.2 c2
   obtain⟨L1,n1,W1,F1⟩:=A3a H.W h x hx
   obtain⟨H1,G1⟩:=H.setW W1 (F1.mono fun b hb=>.inr hb)
   rw[sapp]at n1
   rw[if_pos c2]
   simp only[i2,if_true,n1,HH,H1.a,PrS.rng,PrS.set10,PrS.set11,PrS.set12,PrS.set13,PrS.set14,PrS.set15]
   have H2:=H1.setA {pr with word:=S.word x,st:=stOf (S.word x)}
   rw[cancel1 H h hpc H2 rfl]
   exact A4h H h hpc H2 (G1.trans (frs_a _))
  ·have i2:(pr.done == 0)=false:=beq_eq_false_iff_ne.2 c2
   rw[if_neg c2]
   simp only[i2,Bool.false_eq_true,if_false]
   rw[cancel1 H h hpc H rfl]
   exact A4h H h hpc H A2s
 simp only[c1,decide_false,Bool.false_eq_true,if_false]
 have hJ2:∀J:List D→Option (List D),(if(pr.pc == 2)=true then J [.agg L,.bool (pr.pc == 2)]else if(pr.pc == 4)=true then J [.agg L,.bool (pr.pc == 4)]else J [.agg L,.bool (pr.pc == 6)])=J [.agg L,.bool (decide (pr.pc=2∨pr.pc=4∨pr.pc=6))]:=by
  intro J
  by_cases d1:pr.pc=2
  ·simp[d1]
  by_cases d2:pr.pc=4
  ·simp[d2]
  ·simp[d1,d2]
   rfl
 rw[hJ2,A7k]
 simp only[HH,H.a,PrS.get9,PrS.get11,PrS.get12,PrS.get13,PrS.get14,PrS.get15,PrS.get17,PrS.get18]
 by_cases c2:pr.pc=2∨pr.pc=4∨pr.pc=6
 ·have e:cancelP x pr se S=nextP (turnP x pr se S) se (pr.pc+1):=by unfold cancelP;rw[if_neg c0,if_neg c1,if_pos c2]
  rw[e]
  obtain⟨L1,n1,H1,G1⟩:=D9y H h hl x hx hst hwd (hc c0)
  simp only[c2,decide_true,if_true,n1,HH]
  rw[cancel1 H h hpc H1 (E0b H h x)]
  exact A4h H h hpc H1 G1
 simp only[c2,decide_false,Bool.false_eq_true,if_false]
 by_cases c3:pr.pc=7
 ·have i3:(pr.pc == 7)=true:=beq_iff_eq.2 c3
  have e:cancelP x pr se S=nextP (pr,if pr.done=1 then noteE S x pr.st.g S.c.c5 (endF pr.st pr.at_)else S) se (pr.pc+1):=by unfold cancelP;rw[if_neg c0,if_neg c1,if_neg c2,if_pos c3]
  rw[e]
  simp only[i3,if_true,end_x,A0b,endD.len,H.W.w,D.toL_agg,WorldS.get5]
  by_cases c4:pr.done=1
  ·have i4:(pr.done == 1)=true:=beq_iff_eq.2 c4
   rw[if_pos c4]
   simp only[i4,if_true]
   cases ho:endF pr.st pr.at_ with
   |none=>
    have e1:((endD none).getD 6 D.nil).toBool=false:=rfl
    simp only[e1,Bool.false_eq_true,if_false]
    rw[cancel1 H h hpc H rfl]
    exact A4h H h hpc H A2s
   |some r=>
    have e1:((endD (some r)).getD 6 D.nil).toBool=true:=rfl
    simp only[e1,if_true]
    obtain⟨L1,n1,W1,F1⟩:=B0m H.W h x pr.st.g S.c.c5 r (B8s hst hat ho)
    obtain⟨H1,G1⟩:=H.setW W1 (F1.mono fun b hb=>.inr hb)
    have n1':FX 60 [.int (w:Nat),.int x,.int pr.st.g,.int S.c.c5,(endD (some r)).getD 0 D.nil,(endD (some r)).getD 1 D.nil,(endD (some r)).getD 2 D.nil,(endD (some r)).getD 3 D.nil,(endD (some r)).getD 4 D.nil,(endD (some r)).getD 5 D.nil,.agg L]=some [.agg L1]:=n1
    simp only[n1',HH]
    rw[cancel1 H h hpc H1 rfl]
    exact A4h H h hpc H1 G1
  ·have i4:(pr.done == 1)=false:=beq_eq_false_iff_ne.2 c4
   rw[if_neg c4]
   simp only[i4,Bool.false_eq_true,if_false]
   rw[cancel1 H h hpc H rfl,B5g _ _]
   exact A4h H h hpc H A2s
 ·have i3:(pr.pc == 7)=false:=beq_eq_false_iff_ne.2 c3
  have e:cancelP x pr se S=⟨some {codeF pr S (doneC pr.done)with asked:=pr.done == 2},pr,se,S⟩:=by unfold cancelP;rw[if_neg c0,if_neg c1,if_neg c2,if_neg c3]
  rw[e]
  have d1:pr.done≥0:=hd.1
  have d2:pr.done<4:=by omega
  have hg:([D.int 27,D.int 0,D.int 0,D.int 29]:List D).getD pr.done.toNat D.nil=.int (doneC pr.done):=by
   have:pr.done=0∨pr.done=1∨pr.done=2∨pr.done=3:=by omega
   rcases this with e|e|e|e<;>rw[e]<;>rfl
  simp only[i3,Bool.false_eq_true,if_false,d1,d2,decide_true,if_true,hg,A4r H h]
  exact⟨L,rfl,H,A2s⟩
end
end Go.Proofs.YtcgcpjajghdbpaaGreat.P
