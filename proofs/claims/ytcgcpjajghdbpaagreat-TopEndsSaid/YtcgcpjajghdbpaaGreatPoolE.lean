import Derived.Test.YtcgcpjajghdbpaaGreatPoolD
namespace Go.Proofs.YtcgcpjajghdbpaaGreat.P
open Go.RowKit Go.Proofs.YtcgcpjajghdbpaaGreat.Eng Go.Proofs.YtcgcpjajghdbpaaGreat Go.Proofs.YtcgcpjajghdbpaaGreat.Dat Go.Proofs.YtcgcpjajghdbpaaGreat.FDat
set_option linter.unusedVariables false
set_option linter.unusedSimpArgs false
set_option linter.unusedSectionVars false
set_option maxRecDepth 10000
theorem tapp(t:Tm)(x:D):t.ds++[x]=[.int t.name,.int t.side,.int t.price,.int t.least,.int t.till,x]:=rfl
theorem sapp(s:St)(x:D):s.ds++[x]=[.int s.k,.bool s.f,.int s.g,.int s.l,.int s.n,x]:=rfl
theorem endD.len(o:Option Rc):(endD o).length=7:=by
 cases o<;>simp only[endD,List.length_append,Rc.len,List.length_cons,List.length_nil]
theorem B8s{s:St}(hs:s.wf){t:Int}(ht:In t){r:Rc}(h:endF s t=some r):r.wf:=by
 unfold endF at h
 split at h
 ·rename_i ho
  cases h
  have hk:5≤s.k∧s.k≤8:=by unfold St.over at ho;simpa using ho
  obtain⟨h1,h2,h3,h4⟩:=hs
  intro z hz
  simp only[Rc.vs,List.mem_cons,List.not_mem_nil,or_false]at hz
  rcases hz with rfl|rfl|rfl|rfl|rfl|rfl
  ·exact In.lit (by omega)
  ·exact h3
  ·exact h4
  ·exact ht
  ·exact In.lit (by decide)
  ·exact In.lit (by decide)
 ·cases h
structure Kept(P:PairS)(S:WS)(R:PairS × WS):Prop where
 p:R.1.ok
 s:R.2.ok
 c:R.2.c=S.c
 now:R.2.now=S.now
 log:R.2.log.length≤S.log.length+1
 pc:R.1.pc=P.pc
 a:R.1.a=P.a
 len:R.2.words.length=S.words.length
section
variable{P:PairS}{S:WS}(h:S.ok)(hp:P.ok)
include h hp
theorem A2z:Kept P S (P,S):=⟨hp,h,rfl,rfl,Nat.le_succ _,rfl,rfl,rfl⟩
theorem nowIn:In (S.now:Int):=In.lit (by have:=h.now;omega)
theorem D5r:Kept P S (holdF P S):=by
 obtain⟨o1,o2,o3,o4,o5⟩:=S.turn_ok h P.a.x P.wx (stOf P.wx).hold
 unfold holdF
 split
 ·exact⟨⟨hp.wx,hp.wy,hp.tx,hp.ty,hp.pc,hp.q,hp.p,hp.at_,hp.fin,hp.nx,hp.ny⟩,o1,o2,o3,by rw[o4];omega,rfl,rfl,S.turn_len _ _ _⟩
 ·exact A2z h hp
theorem D5o:Kept P S (tookF P S):=by
 have hf:=A2k h.c
 unfold tookF
 split
 ·exact A2z h hp
 ·have hm:=D6f P.tx P.ty hp.tx hp.ty (stOf P.wx).l (stOf P.wy).l (A3w _).2.2.1 (A3w _).2.2.1
  have hm':In (fillF P).1∧In (fillF P).2:=hm
  have ht:=C8p (B4c P.wy) (fillF P).1 S.c.c5 (by omega)
  generalize fillF P=f at*
  generalize takeF (stOf P.wy) f.1 S.c.c5=t at*
  obtain⟨o1,o2,o3,o4,o5⟩:=S.turn_ok h P.a.y P.wy t.2
  have hp2:PairS.ok {P with q:=f.1,p:=f.2}:=⟨hp.wx,hp.wy,hp.tx,hp.ty,hp.pc,hm'.1,hm'.2,hp.at_,hp.fin,hp.nx,hp.ny⟩
  unfold takeG
  split
  ·exact⟨hp2,h,rfl,rfl,Nat.le_succ _,rfl,rfl,rfl⟩
  ·split
   ·exact⟨hp2,h,rfl,rfl,Nat.le_succ _,rfl,rfl,rfl⟩
   ·exact⟨⟨hp.wx,hp.wy,hp.tx,hp.ty,hp.pc,hm'.1,hm'.2,nowIn h hp,hp.fin,hp.nx,ht⟩,WS.tell_ok o1 _,o2,o3,by simp only[WS.tell,List.length_append,o4,List.length_cons,List.length_nil];omega,rfl,rfl,S.turn_len _ _ _⟩
theorem D8e:Kept P S (lookF P S):=by
 unfold lookF
 split
 ·exact⟨⟨WS.word_lt h _,hp.wy,hp.tx,hp.ty,hp.pc,hp.q,hp.p,hp.at_,hp.fin,hp.nx,hp.ny⟩,h,rfl,rfl,Nat.le_succ _,rfl,rfl,rfl⟩
 ·exact A2z h hp
theorem D8n:Kept P S (letF P S):=by
 have hf:=A2k h.c
 unfold letF
 split
 ·exact A2z h hp
 ·have ht:=B9m (B4c P.wx) (if P.made then P.q else 0) S.c.c5 (by omega)
  generalize releaseF (stOf P.wx) (if P.made then P.q else 0) S.c.c5=t at*
  obtain⟨o1,o2,o3,o4,o5⟩:=S.turn_ok h P.a.x P.wx t.2
  unfold letG
  split
  ·exact A2z h hp
  ·split
   ·exact A2z h hp
   ·have hq:PairS.ok {P with free:=true,nx:=t.2,fin:=S.now}:=⟨hp.wx,hp.wy,hp.tx,hp.ty,hp.pc,hp.q,hp.p,hp.at_,nowIn h hp,ht,hp.ny⟩
    split
    ·exact⟨hq,WS.tell_ok o1 _,o2,o3,by simp only[WS.tell,List.length_append,o4,List.length_cons,List.length_nil];omega,rfl,rfl,S.turn_len _ _ _⟩
    ·exact⟨hq,o1,o2,o3,by dsimp only;rw[o4];omega,rfl,rfl,S.turn_len _ _ _⟩
theorem D5z:Kept P S (P,noteF P S):=by
 have key:∀x g n r,Kept P S (P,S.note x g n r):=by
  intro x g n r
  obtain⟨o1,o2,o3,o4⟩:=WS.note_ok h x g n r
  exact⟨hp,o1,o2,o3,by dsimp only;rw[o4];omega,rfl,rfl,S.note_len _ _ _ _⟩
 have key2:∀x g n o,Kept P S (P,noteE S x g n o):=by
  intro x g n o
  cases o with
  |none=>exact A2z h hp
  |some r=>exact key _ _ _ _
 unfold noteF
 split
 ·exact key _ _ _ _
 split
 ·exact key _ _ _ _
 split
 ·exact key2 _ _ _ _
 split
 ·exact key2 _ _ _ _
 ·exact A2z h hp
theorem C1p:Kept P S (pstepF P S):=by
 unfold pstepF
 split
 ·exact⟨⟨WS.word_lt h _,hp.wy,hp.tx,hp.ty,hp.pc,hp.q,hp.p,hp.at_,hp.fin,hp.nx,hp.ny⟩,h,rfl,rfl,Nat.le_succ _,rfl,rfl,rfl⟩
 split
 ·exact⟨⟨hp.wx,hp.wy,B3j _,hp.ty,hp.pc,hp.q,hp.p,hp.at_,hp.fin,hp.nx,hp.ny⟩,h,rfl,rfl,Nat.le_succ _,rfl,rfl,rfl⟩
 split
 ·exact D5r h hp
 split
 ·exact⟨⟨hp.wx,WS.word_lt h _,hp.tx,hp.ty,hp.pc,hp.q,hp.p,hp.at_,hp.fin,hp.nx,hp.ny⟩,h,rfl,rfl,Nat.le_succ _,rfl,rfl,rfl⟩
 split
 ·exact⟨⟨hp.wx,hp.wy,hp.tx,B3j _,hp.pc,hp.q,hp.p,hp.at_,hp.fin,hp.nx,hp.ny⟩,h,rfl,rfl,Nat.le_succ _,rfl,rfl,rfl⟩
 split
 ·exact D5o h hp
 split
 ·exact D8e h hp
 split
 ·exact D8n h hp
 ·exact D5z h hp
end
structure Kept2(P:PairS)(S:WS)(R:PairS × WS):Prop where
 p:R.1.ok
 s:R.2.ok
 c:R.2.c=S.c
 now:R.2.now=S.now
 log:R.2.log.length≤S.log.length+1
 a:R.1.a=P.a
 len:R.2.words.length=S.words.length
theorem B5a{P:PairS}{S:WS}(h:S.ok)(hp:P.ok):Kept2 P S (pStepF P S):=by
 unfold pStepF
 split
 ·exact⟨hp,h,rfl,rfl,Nat.le_succ _,rfl,rfl⟩
 ·rename_i hc
  have hpc:0≤P.pc+1∧P.pc+1≤14:=by have:=hp.pc;omega
  split
  ·exact⟨⟨hp.wx,hp.wy,hp.tx,hp.ty,hpc,hp.q,hp.p,hp.at_,hp.fin,hp.nx,hp.ny⟩,h,rfl,rfl,Nat.le_succ _,rfl,rfl⟩
  ·have kk:=C1p h hp
   obtain⟨q,s,e1,e2,e3,e4,e5,e6⟩:=kk
   exact⟨⟨q.wx,q.wy,q.tx,q.ty,hpc,q.q,q.p,q.at_,q.fin,q.nx,q.ny⟩,s,e1,e2,e3,e5,e6⟩
theorem PairS.new_ok(a:Aim):(PairS.new a).ok:=by
 have z:In 0:=In.lit (by decide)
 have t:Tm.zero.sm:=by unfold Tm.sm Tm.zero;decide
 exact⟨by show 0<_;decide,by show 0<_;decide,t,t,by show 0≤(0:Int)∧(0:Int)≤14;decide,z,z,z,z,⟨St.zero_wf,Int.le_refl 0⟩,⟨St.zero_wf,Int.le_refl 0⟩⟩
section
variable{L:List D}{a w m k:Nat}{P:PairS}{S:WS}(W:InW L w m k S)(ha:L.getD a D.nil=.agg P.ds)(h:S.ok)(hp:P.ok)
include W ha h hp
theorem E1w(hl:S.log.length≤1000000000)(hx:-1000≤P.a.x∧P.a.x≤1000):∃L',FX 94 [.int (a:Nat),.int (w:Nat),.agg L]=some [.agg L']∧Did L L' a w m k (letF P S):=by
 have h1:=wstate P.wx hp.wx
 have hf:=A2k h.c
 rw[B8x]
 simp only[HH,ha,PairS.get18,PairS.get19,PairS.get20,PairS.get21]
 by_cases b0:P.held=false∨P.free=true
 ·have e:letF P S=(P,S):=if_pos b0
  rw[e]
  rcases b0 with b1|b1
  ·exact⟨L,by simp only[HH,b1],A0y W ha⟩
  ·by_cases b2:P.held=true
   ·exact⟨L,by simp only[HH,b1,b2],A0y W ha⟩
   ·have b2':P.held=false:=by simpa using b2
    exact⟨L,by simp only[HH,b2'],A0y W ha⟩
 have b1:P.held=true:=by simp only[not_or]at b0;simpa using b0.1
 have b2:P.free=false:=by simp only[not_or]at b0;simpa using b0.2
 obtain⟨q,hq⟩:∃q:Int,q=if P.made then P.q else 0:=⟨_,rfl⟩
 have e:letF P S=letG P S (releaseF (stOf P.wx) q S.c.c5):=by rw[hq];exact if_neg b0
 rw[e]
 have h5:=D6s (stOf P.wx) (A3w _) q S.c.c5 (by omega)
 rw[if_neg (show ¬(!P.held)=true by rw[b1];decide),if_neg (show ¬P.free=true by rw[b2];decide)]
 have eJ:(if P.made=true then A1i (.int (a:Nat)) (.int (w:Nat)) (.agg L) [.agg L,.int P.q]else A1i (.int (a:Nat)) (.int (w:Nat)) (.agg L) [.agg L,.int 0])=A1i (.int (a:Nat)) (.int (w:Nat)) (.agg L) [.agg L,.int q]:=by
  rw[hq]
  split<;>rfl
 rw[eJ,B2l]
 simp only[HH,ha,PairS.get1,PairS.get6,h1,St.len,St.get0,St.get1,St.get2,St.get3,St.get4,W.w,WorldS.get5,h5,outD.len]
 have ht:=B9m (B4c P.wx) q S.c.c5 (by omega)
 generalize releaseF (stOf P.wx) q S.c.c5=t at*
 by_cases b3:t.1=0
 ·simp only[HH,outD.all,C1u b3]
  have b3':¬t.1≠0:=by simpa using b3
  obtain⟨L3,h6,W3,F3⟩:=A7i W h P.a.x hx P.wx t.2 ht.1
  have d3:Did L L3 a w m k (P,(S.turn P.a.x P.wx t.2).2):=did_w W ha W3 (F3.mono fun b hb=>.inr hb)
  obtain⟨o1,o2,o3,o4,o5⟩:=S.turn_ok h P.a.x P.wx t.2
  simp only[h6,HH]
  by_cases b4:(S.turn P.a.x P.wx t.2).1=false
  ·have e:letG P S t=(P,S):=by
    unfold letG
    rw[if_neg b3',if_pos b4]
   rw[e]
   rw[o5 b4]at d3
   exact⟨L3,by simp only[HH,b4],d3⟩
  ·have b4':(S.turn P.a.x P.wx t.2).1=true:=by simpa using b4
   have d4:=A2u d3 {P with free:=true,nx:=t.2,fin:=S.now}
   have h8:=A7a W3 o1
   rw[o3]at h8
   have h9:=D1v t.2.k (.bool t.2.f) (.int t.2.g) (.int t.2.l) (.int t.2.n)
   have e9:(PairS.ds {P with free:=true,nx:=t.2}).set 24 (wN S.now)=PairS.ds {P with free:=true,nx:=t.2,fin:=S.now}:=rfl
   have e10:({k:=t.2.k,f:=t.2.f,g:=t.2.g,l:=t.2.l,n:=t.2.n}:St)=t.2:=rfl
   by_cases b5:t.2.over=true
   ·have e:letG P S t=({P with free:=true,nx:=t.2,fin:=S.now},(S.turn P.a.x P.wx t.2).2.tell {Ev.zero with kind:=7,cell:=P.a.x,gen:=t.2.g,fin:=t.2.k}):=by
     unfold letG
     rw[if_neg b3',if_neg b4,if_pos b5]
    rw[e]
    obtain⟨L5,h7,W5,F5⟩:=B3o d4.1 o1 (by rw[o4];exact hl) 7 P.a.x t.2.g 0 0 0 0 t.2.k
    have b5':(decide (5≤t.2.k)&&decide (t.2.k≤8))=true:=b5
    refine⟨L5,?_,C0w d4 W5 (F5.mono fun b hb=>.inl hb)⟩
    simp only[HH,b4',W3.w,WorldS.get8,h8,A5f,d3.2.1,PairS.get1,PairS.rng,PairS.set20,PairS.set25,PairS.set26,PairS.set27,PairS.set28,PairS.set29,h9,b5']
    simp only[e10,e9,h7,HH]
   ·have e:letG P S t=({P with free:=true,nx:=t.2,fin:=S.now},(S.turn P.a.x P.wx t.2).2):=by
     unfold letG
     rw[if_neg b3',if_neg b4,if_neg b5]
    rw[e]
    have b6:t.2.over=false:=by simpa using b5
    have b5':(decide (5≤t.2.k)&&decide (t.2.k≤8))=false:=b6
    refine⟨_,?_,d4⟩
    simp only[HH,b4',W3.w,WorldS.get8,h8,A5f,d3.2.1,PairS.get1,PairS.rng,PairS.set20,PairS.set25,PairS.set26,PairS.set27,PairS.set28,PairS.set29,h9,b5']
    simp only[e10,e9,HH]
 ·have e:letG P S t=(P,S):=if_pos b3
  rw[e]
  exact⟨_,by simp only[HH,outD.all,C1o b3],A0y W ha⟩
theorem C1y(x g:Int):FX 123 [.int (a:Nat),.int x,.int g,.agg L]=some (fillRec P x g).ds:=by
 rw[B0h]
 simp only[HH,ha,PairS.get21,PairS.get22,PairS.get23]
 rfl
theorem C2y(x g:Int)(hx:In x)(hg:In g):(fillRec P x g).wf:=by
 intro z hz
 simp only[fillRec,Rc.vs,List.mem_cons,List.not_mem_nil,or_false]at hz
 rcases hz with rfl|rfl|rfl|rfl|rfl|rfl
 ·exact In.lit (by decide)
 ·exact hp.q
 ·exact hp.p
 ·exact hp.at_
 ·exact hx
 ·exact hg
theorem D1x(x g:Int)(o:Option Rc)(ho:∀r,o=some r→r.wf):∃L',(if((endD o).getD 6 D.nil).toBool=true then bindC (FX 60 [.int (w:Nat),.int x,.int g,.int S.c.c5,(endD o).getD 0 D.nil,(endD o).getD 1 D.nil,(endD o).getD 2 D.nil,(endD o).getD 3 D.nil,(endD o).getD 4 D.nil,(endD o).getD 5 D.nil,.agg L]) 1 fun r11=>some [r11.getD 0 D.nil]else some [.agg L])=some [.agg L']∧Did L L' a w m k (P,noteE S x g S.c.c5 o):=by
 cases o with
 |none=>exact⟨L,rfl,A0y W ha⟩
 |some r=>
  obtain⟨L1,n1,W1,F1⟩:=B0m W h x g S.c.c5 r (ho r rfl)
  refine⟨L1,?_,did_w W ha W1 (F1.mono fun b hb=>.inr hb)⟩
  show bindC (FX 60 [.int (w:Nat),.int x,.int g,.int S.c.c5,.int r.k,.int r.q,.int r.p,.int r.t,.int r.c,.int r.g,.agg L]) 1 (fun r11=>some [r11.getD 0 D.nil])=_
  rw[n1];rfl
theorem E1m(hx:In P.a.x)(hy:In P.a.y):∃L',FX 95 [.int (a:Nat),.int (w:Nat),.agg L]=some [.agg L']∧Did L L' a w m k (P,noteF P S):=by
 have hnx:In (P.nx.n-1):=by have:=hp.nx.1.2.2.2;have:=hp.nx.2;unfold In at *;omega
 have hny:In (P.ny.n-1):=by have:=hp.ny.1.2.2.2;have:=hp.ny.2;unfold In at *;omega
 have fr1:=C1y W ha h hp P.a.y P.ny.g
 have fr2:=C1y W ha h hp P.a.x P.nx.g
 obtain⟨L1,n1,W1,F1⟩:=B0m W h P.a.x P.nx.g (P.nx.n-1) (fillRec P P.a.y P.ny.g) (C2y W ha h hp _ _ hy hp.ny.1.2.1)
 obtain⟨L2,n2,W2,F2⟩:=B0m W h P.a.y P.ny.g (P.ny.n-1) (fillRec P P.a.x P.nx.g) (C2y W ha h hp _ _ hx hp.nx.1.2.1)
 have d1:=did_w W ha W1 (F1.mono fun b hb=>.inr hb)
 have d2:=did_w W ha W2 (F2.mono fun b hb=>.inr hb)
 have e1:=end_x P.ny P.at_
 have e2:=end_x P.nx P.fin
 obtain⟨L3,n3,d3⟩:=D1x W ha h hp P.a.y P.ny.g (endF P.ny P.at_) fun r hr=>B8s hp.ny.1 hp.at_ hr
 obtain⟨L4,n4,d4⟩:=D1x W ha h hp P.a.x P.nx.g (endF P.nx P.fin) fun r hr=>B8s hp.nx.1 hp.fin hr
 rw[B6p]
 simp only[HH,ha,PairS.get5,PairS.get19,B1g,B0y,B1h,B1e,PairS.get1,PairS.get3,PairS.get18,PairS.get23,PairS.get24,PairS.get25,PairS.get26,PairS.get27,PairS.get28,PairS.get29,PairS.get30,PairS.get31,PairS.get32,PairS.get33,PairS.get34,fr1,fr2,hnx.w,hny.w,Rc.len,Rc.get0,Rc.get1,Rc.get2,Rc.get3,Rc.get4,Rc.get5,n1,n2,e1,e2,endD.len,W.w,WorldS.get5]
 simp only[n3,n4]
 by_cases c0:P.pc=10
 ·by_cases c1:P.made=true
  ·have e:noteF P S=_:=if_pos ⟨c0,c1⟩
   rw[e];exact⟨L1,by simp[c0,c1],d1⟩
  ·have e:noteF P S=S:=by simp[noteF,c0,c1]
   rw[e];exact⟨L,by simp[c0,c1],A0y W ha⟩
 by_cases c2:P.pc=11
 ·by_cases c1:P.made=true
  ·have e:noteF P S=S.note P.a.y P.ny.g (P.ny.n-1) (fillRec P P.a.x P.nx.g):=by simp[noteF,c2,c1]
   rw[e];exact⟨L2,by simp[c2,c1],d2⟩
  ·have e:noteF P S=S:=by simp[noteF,c2,c1]
   rw[e];exact⟨L,by simp[c2,c1],A0y W ha⟩
 by_cases c3:P.pc=12
 ·by_cases c1:P.made=true
  ·have e:noteF P S=noteE S P.a.y P.ny.g S.c.c5 (endF P.ny P.at_):=by simp[noteF,c3,c1]
   rw[e];exact⟨L3,by simp[c3,c1],d3⟩
  ·have e:noteF P S=S:=by simp[noteF,c3,c1]
   rw[e];exact⟨L,by simp[c3,c1],A0y W ha⟩
 by_cases c4:P.pc=13
 ·by_cases c1:P.held=true
  ·have e:noteF P S=noteE S P.a.x P.nx.g S.c.c5 (endF P.nx P.fin):=by simp[noteF,c4,c1]
   rw[e];exact⟨L4,by simp[c4,c1],d4⟩
  ·have e:noteF P S=S:=by simp[noteF,c4,c1]
   rw[e];exact⟨L,by simp[c4,c1],A0y W ha⟩
 ·have e:noteF P S=S:=by simp[noteF,c0,c2,c3,c4]
  rw[e];exact⟨L,by simp[c0,c2,c3,c4],A0y W ha⟩
theorem E0g(hl:S.log.length≤1000000000)(hx:-1000≤P.a.x∧P.a.x≤1000)(hy:-1000≤P.a.y∧P.a.y≤1000):∃L',FX 68 [.int (a:Nat),.int (w:Nat),.agg L]=some [.agg L']∧Did L L' a w m k (pstepF P S):=by
 obtain⟨L0,n0,W0,F0⟩:=A3a W h P.a.x hx
 obtain⟨L1,n1,W1,F1⟩:=B6h W h P.a.x hx
 obtain⟨L2,n2,d2⟩:=E0q W ha h hp hx
 obtain⟨L3,n3,W3,F3⟩:=A3a W h P.a.y hy
 obtain⟨L4,n4,W4,F4⟩:=B6h W h P.a.y hy
 obtain⟨L5,n5,d5⟩:=E0z W ha h hp hl hy
 obtain⟨L6,n6,d6⟩:=D9t W ha h hp hx
 obtain⟨L7,n7,d7⟩:=E1w W ha h hp hl hx
 obtain⟨L8,n8,d8⟩:=E1m W ha h hp (In.lit (by omega)) (In.lit (by omega))
 have d0:=did_w W ha W0 (F0.mono fun b hb=>.inr hb)
 have d1:=did_w W ha W1 (F1.mono fun b hb=>.inr hb)
 have d3:=did_w W ha W3 (F3.mono fun b hb=>.inr hb)
 have d4:=did_w W ha W4 (F4.mono fun b hb=>.inr hb)
 rw[B6v]
 simp only[HH,ha,PairS.get1,PairS.get3,PairS.get5,n0,n1,n2,n3,n4,n5,n6,n7,n8]
 by_cases c0:P.pc=0
 ·have e:pstepF P S=_:=if_pos c0
  rw[e]
  refine⟨_,?_,A2u d0 _⟩
  have e2:(List.getD ((stOf (S.word P.a.x)).ds++[D.agg L0]) 5 D.nil)=D.agg L0:=rfl
  simp only[c0,beq_self_eq_true,HH,List.length_append,St.len,e2,d0.2.1,PairS.all]
 by_cases c1:P.pc=1
 ·have e:pstepF P S=({P with tx:=tmOf (S.tword P.a.x)},S):=by unfold pstepF;rw[if_neg c0,if_pos c1]
  rw[e]
  refine⟨_,?_,A2u d1 _⟩
  have i0:(P.pc == 0)=false:=beq_eq_false_iff_ne.2 c0
  have i1:(P.pc == 1)=true:=beq_iff_eq.2 c1
  simp only[i0,i1,tapp,HH,d1.2.1,PairS.all]
 by_cases c2:P.pc=2
 ·have e:pstepF P S=holdF P S:=by unfold pstepF;rw[if_neg c0,if_neg c1,if_pos c2]
  rw[e]
  exact⟨L2,by simp[c2,bindC],d2⟩
 by_cases c3:P.pc=3
 ·have e:pstepF P S=({P with wy:=S.word P.a.y},S):=by unfold pstepF;rw[if_neg c0,if_neg c1,if_neg c2,if_pos c3]
  rw[e]
  refine⟨_,?_,A2u d3 _⟩
  have e2:(List.getD ((stOf (S.word P.a.y)).ds++[D.agg L3]) 5 D.nil)=D.agg L3:=rfl
  have i0:((3:Int) == 0)=false:=rfl
  have i1:((3:Int) == 1)=false:=rfl
  have i2:((3:Int) == 2)=false:=rfl
  simp only[c3,i0,i1,i2,beq_self_eq_true,HH,List.length_append,St.len,e2,d3.2.1,PairS.all]
 by_cases c4:P.pc=4
 ·have e:pstepF P S=({P with ty:=tmOf (S.tword P.a.y)},S):=by unfold pstepF;rw[if_neg c0,if_neg c1,if_neg c2,if_neg c3,if_pos c4]
  rw[e]
  refine⟨_,?_,A2u d4 _⟩
  have i0:(P.pc == 0)=false:=beq_eq_false_iff_ne.2 c0
  have i1:(P.pc == 1)=false:=beq_eq_false_iff_ne.2 c1
  have i2:(P.pc == 2)=false:=beq_eq_false_iff_ne.2 c2
  have i3:(P.pc == 3)=false:=beq_eq_false_iff_ne.2 c3
  have i4:(P.pc == 4)=true:=beq_iff_eq.2 c4
  simp only[i0,i1,i2,i3,i4,tapp,HH,d4.2.1,PairS.all]
 by_cases c5:P.pc=5
 ·have e:pstepF P S=tookF P S:=by unfold pstepF;rw[if_neg c0,if_neg c1,if_neg c2,if_neg c3,if_neg c4,if_pos c5]
  rw[e]
  exact⟨L5,by simp[c5,bindC],d5⟩
 by_cases c6:P.pc=6∨P.pc=8
 ·have e:pstepF P S=lookF P S:=by unfold pstepF;rw[if_neg c0,if_neg c1,if_neg c2,if_neg c3,if_neg c4,if_neg c5,if_pos c6]
  rw[e]
  rcases c6 with c6|c6
  ·exact⟨L6,by simp[c6,bindC],d6⟩
  ·exact⟨L6,by simp[c6,bindC],d6⟩
 by_cases c7:P.pc=7∨P.pc=9
 ·have e:pstepF P S=letF P S:=by unfold pstepF;rw[if_neg c0,if_neg c1,if_neg c2,if_neg c3,if_neg c4,if_neg c5,if_neg c6,if_pos c7]
  rw[e]
  rcases c7 with c7|c7
  ·exact⟨L7,by simp[c7,bindC],d7⟩
  ·exact⟨L7,by simp[c7,bindC],d7⟩
 ·have e:pstepF P S=(P,noteF P S):=by unfold pstepF;rw[if_neg c0,if_neg c1,if_neg c2,if_neg c3,if_neg c4,if_neg c5,if_neg c6,if_neg c7]
  rw[e]
  simp only[not_or]at c6 c7
  exact⟨L8,by simp[c0,c1,c2,c3,c4,c5,c6,c7,bindC],d8⟩
theorem C8h(hl:S.log.length≤1000000000):∃L',FX 55 [.int (a:Nat),.int (w:Nat),.agg L]=some [.agg L']∧Did L L' a w m k (pStepF P S):=by
 have n1:=B8m W ha
 have n2:=E3l W ha h
 have hpc:In (P.pc+1):=In.lit (by have:=hp.pc;omega)
 have hal:=all_b S.c h.c
 rw[B8a]
 simp only[HH,n1,n2]
 by_cases c0:P.pc≥14
 ·have e:pStepF P S=(P,S):=if_pos c0
  rw[e]
  exact⟨L,by simp only[c0,decide_true,if_true],A0y W ha⟩
 by_cases c1:idleF S.c P=true
 ·have e:pStepF P S=({P with pc:=P.pc+1},S):=by unfold pStepF;rw[if_neg c0,if_pos c1]
  rw[e]
  refine⟨_,?_,A2u (A0y W ha) _⟩
  simp only[c0,c1,decide_false,HH,ha,PairS.get5,hpc.w,PairS.rng,PairS.set5]
 ·have e:pStepF P S=({(pstepF P S).1 with pc:=P.pc+1},(pstepF P S).2):=by unfold pStepF;rw[if_neg c0,if_neg c1]
  rw[e]
  have c1':idleF S.c P=false:=by simpa using c1
  have hxy:(0≤P.a.x∧P.a.x<24)∧(0≤P.a.y∧P.a.y<24):=by
   unfold idleF at c1'
   simp only[Bool.or_eq_false_iff,decide_eq_false_iff_not]at c1'
   obtain⟨⟨o1,o2⟩,_⟩:=c1'
   unfold ownerF at o1 o2
   constructor
   ·rcases Decidable.em (P.a.x<0∨P.a.x≥allF S.c)with o|o
    ·rw[if_pos o]at o1;omega
    ·omega
   ·rcases Decidable.em (P.a.y<0∨P.a.y≥allF S.c)with o|o
    ·rw[if_pos o]at o2;omega
    ·omega
  obtain⟨L1,n3,d1⟩:=E0g W ha h hp hl (by omega) (by omega)
  have hpc2:=(C1p h hp).pc
  refine⟨_,?_,A2u (P1:=(pstepF P S).1) d1 _⟩
  simp only[c0,c1',decide_false,HH,n3,d1.2.1,PairS.get5,hpc2,hpc.w,PairS.rng,PairS.set5]
end
end Go.Proofs.YtcgcpjajghdbpaaGreat.P
