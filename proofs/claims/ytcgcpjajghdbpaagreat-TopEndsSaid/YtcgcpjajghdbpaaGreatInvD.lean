import Derived.Test.YtcgcpjajghdbpaaGreatInvC
namespace Go.Proofs.YtcgcpjajghdbpaaGreat.P
open Go.RowKit Go.Proofs.YtcgcpjajghdbpaaGreat.Eng Go.Proofs.YtcgcpjajghdbpaaGreat Go.Proofs.YtcgcpjajghdbpaaGreat.Dat Go.Proofs.YtcgcpjajghdbpaaGreat.FDat
set_option linter.unusedVariables false
set_option linter.unusedSimpArgs false
set_option linter.unusedSectionVars false
theorem A7c{c:Cf}(hc:c.ok){part i:Int}(h:0≤cellF c part i):InC c (cellF c part i)∧ownerF c (cellF c part i)=part:=by
 obtain⟨h1,h2,h3,h4⟩:=B7f c h
 refine⟨⟨h,h4⟩,?_⟩
 unfold ownerF
 rw[if_neg (by omega),h3,Int.add_comm,Int.add_mul_ediv_right _ _ (by have:=hc.2.1;omega),Int.ediv_eq_zero_of_lt h2.1 h2.2]
 simp
def TmOk(c:Cf)(t:Tm):Prop:=(0≤t.name∧t.name<c.c2)∧(t.side=0∨t.side=1)∧(1≤t.price∧t.price≤9999)∧(1≤t.least∧t.least≤9999)∧0≤t.till∧t.till≤1000000
structure ProgI(S:WS)(part:Int)(pr:PrS):Prop where
 b1:pr.a.kind=1→1≤pr.pc→0≤cellF S.c part pr.a.cell∧TmOk S.c pr.a.tm∧1≤pr.a.qty∧pr.a.qty≤9999
 b2:pr.a.kind=1→pr.pc=2∨pr.pc=3→(stx S (cellF S.c part pr.a.cell)).live=false∧pr.st=⟨1,false,(stx S (cellF S.c part pr.a.cell)).g+1,pr.a.qty,0⟩∧(stx S (cellF S.c part pr.a.cell)).g<S.c.c6
 b3:pr.a.kind=1→pr.pc=3→tmx S (cellF S.c part pr.a.cell)=pr.a.tm
 b4:pr.a.kind=1→4≤pr.pc→pr.done=0→pr.tries%2=1→pr.st=stOf pr.word
 b5:pr.a.kind=1→pr.pc<4→pr.tries=0
 k1:pr.a.kind=2→1≤pr.pc→0≤cellF S.c part pr.a.cell
 k2:pr.a.kind=2→pr.pc=2∨pr.pc=4∨pr.pc=6→pr.done=0→pr.st=stOf pr.word
theorem ProgI.adv{S S':WS}{part:Int}{pr:PrS}{own rel:Int→Prop}(hc:S.c.ok)(I:ProgI S part pr)(A:Adv S S' own rel)
  (ho:∀y,ownerF S.c y=part→¬own y):ProgI S' part pr:=by
 refine⟨fun a b=>?_,fun a b=>?_,fun a b=>?_,I.b4,I.b5,fun a b=>?_,I.k2⟩<;>rw[A.c]
 ·exact I.b1 a b
 ·obtain⟨k1,k2⟩:=A7c hc (I.b1 a (by omega)).1
  have k:=I.b2 a b
  rw[(A.dead _ k1 k.1 (ho _ k2)).1];exact k
 ·obtain⟨k1,k2⟩:=A7c hc (I.b1 a (by omega)).1
  rw[(A.dead _ k1 (I.b2 a (.inr b)).1 (ho _ k2)).2];exact I.b3 a b
 ·exact I.k1 a b
theorem ProgI.n{S:WS}{part:Int}{pr:PrS}(I:ProgI S part pr)(n:Int):ProgI S part {pr with n:=n}:=⟨I.b1,I.b2,I.b3,I.b4,I.b5,I.k1,I.k2⟩
theorem D7t{pr:PrS}{se:SeatS}{S:WS}(h:pcheckF pr se S=0):0≤cellF S.c se.part pr.a.cell∧TmOk S.c pr.a.tm∧1≤pr.a.qty∧pr.a.qty≤9999:=by
 unfold pcheckF at h
 split at h
 ·exact absurd h (by decide)
 split at h
 ·exact absurd h (by decide)
 rename_i h1
 unfold checkF at h
 split at h
 ·exact absurd h (by decide)
 split at h
 ·exact absurd h (by decide)
 split at h
 ·exact absurd h (by decide)
 split at h
 ·exact absurd h (by decide)
 split at h
 ·exact absurd h (by decide)
 split at h
 ·exact absurd h (by decide)
 unfold TmOk
 omega
theorem D9j{s:St}{q m:Int}(h:(beginF s q m).1=0):s.live=false∧s.g<m∧(beginF s q m).2=⟨1,false,s.g+1,q,0⟩:=by
 unfold beginF at h⊢
 split at h
 ·exact absurd h (by decide)
 rename_i c1
 rw[if_neg c1]
 split at h
 ·exact absurd h (by decide)
 rename_i c2
 rw[if_neg c2]
 split at h
 ·exact absurd h (by decide)
 rename_i c3
 rw[if_neg c3]
 exact⟨by simpa using c1,by omega,rfl⟩
def Left(S S':WS)(part:Int):Prop:=WI S'∧Adv S S' (fun y=>ownerF S.c y=part) (fun _=>False)
theorem SameW.left{S S':WS}(h:SameW S S')(w:WI S)(part:Int):Left S S' part:=⟨h.wi w,h.adv _ _⟩
theorem D6e{S:WS}{pr:PrS}{se:SeatS}(hc:S.c.ok)(w:WI S)(I:ProgI S se.part pr)(hk:pr.a.kind=1)(hp:0≤pr.pc∧pr.pc<4):
  Left S (beginP (cellF S.c se.part pr.a.cell) pr se S).S se.part∧((beginP (cellF S.c se.part pr.a.cell) pr se S).r=none→ProgI (beginP (cellF S.c se.part pr.a.cell) pr se S).S se.part (beginP (cellF S.c se.part pr.a.cell) pr se S).pr):=by
 have h0:=(SameW.refl S).left w se.part
 have hk2:pr.a.kind=2→False:=fun q=>by rw[hk]at q;cases q
 generalize hx:cellF S.c se.part pr.a.cell=x
 unfold beginP
 split
 ·rename_i hpc
  split
  ·exact⟨h0,fun q=>by cases q⟩
  ·rename_i hq
   have hq:pcheckF pr se S=0:=by simpa using hq
   have:=D7t hq
   refine⟨h0,fun _=>⟨fun _ _=>this,fun _ q=>?_,fun _ q=>?_,fun _ q=>?_,fun _ q=>I.b5 hk (by omega),fun q=>(hk2 q).elim,fun q=>(hk2 q).elim⟩⟩<;>(dsimp only at q;omega)
 split
 ·rename_i _ hpc
  have b:=I.b1 hk (by omega)
  split
  ·exact⟨h0,fun q=>by cases q⟩
  ·rename_i hq
   have hq:(beginF (stOf (S.word x)) pr.a.qty S.c.c6).1=0:=by simpa using hq
   obtain⟨k1,k2,k3⟩:=D9j hq
   refine⟨h0,fun _=>⟨fun _ _=>b,fun _ q=>?_,fun _ q=>?_,fun _ q=>?_,fun _ q=>I.b5 hk (by omega),fun q=>(hk2 q).elim,fun q=>(hk2 q).elim⟩⟩
   ·dsimp only;rw[k3,hx];exact⟨k1,rfl,k2⟩
   ·dsimp only at q;omega
   ·dsimp only at q;omega
 split
 ·rename_i _ _ hpc
  have b:=I.b1 hk (by omega)
  have d:=I.b2 hk (.inl hpc)
  obtain⟨hin,how⟩:=A7c hc b.1
  rw[hx]at d hin how
  obtain⟨b1,b2,b3,b4,b5,b6⟩:=b.2.1
  have hc2:=hc.2.2.1
  obtain⟨v,hv⟩:=E0j (t:=pr.a.tm) ⟨by omega,by omega,by omega,by omega,by omega⟩
  dsimp only
  simp only[hv,Option.getD_some]
  have hl:=w.len
  have e1:∀y,stx (S.put (2*x+1) v) y=stx S y:=fun y=>by unfold stx WS.word WS.put;dsimp only;rw[A5s (by omega)]
  have e2:∀y,y≠x→tmx (S.put (2*x+1) v) y=tmx S y:=fun y hy=>by unfold tmx WS.tword WS.put;dsimp only;rw[A5s (by omega)]
  have e3:tmx (S.put (2*x+1) v) x=pr.a.tm:=by
   unfold tmx WS.tword WS.put;dsimp only
   obtain⟨i1,i2⟩:=hin
   rw[D7w (by omega) (by omega)];exact E3u hv
  have ne:∀y,(stx S y).live=true→y≠x:=fun y hy e=>by rw[e,d.1]at hy;cases hy
  refine⟨⟨⟨w.log,fun y hy=>?_,fun y hy=>?_,fun y hy=>?_,fun y hy=>?_,?_⟩,⟨rfl,fun y hy=>?_,fun y hy q1 q2=>?_,fun y hy q1 _=>?_,fun y hy q1 q2=>?_⟩⟩,fun _=>⟨fun _ _=>b,fun _ q=>?_,fun _ q=>?_,fun _ q=>?_,fun _ q=>I.b5 hk (by omega),fun q=>(hk2 q).elim,fun q=>(hk2 q).elim⟩⟩
  ·show(stx (S.put (2*x+1) v) y).live=true→(lgOf S.log).ov y (stx (S.put (2*x+1) v) y).g=false
   rw[e1];exact w.w1 y hy
  ·show ∀g,(stx (S.put (2*x+1) v) y).g<g→(lgOf S.log).ov y g=false
   rw[e1];exact w.w0 y hy
  ·show(stx (S.put (2*x+1) v) y).live=true→(lgOf S.log).tm y (stx (S.put (2*x+1) v) y).g=tmx (S.put (2*x+1) v) y
   rw[e1];intro q;rw[e2 y (ne y q)];exact w.w2 y hy q
  ·show(stx (S.put (2*x+1) v) y).loose=true→(lgOf S.log).lf y (stx (S.put (2*x+1) v) y).g=(stx (S.put (2*x+1) v) y).l
   rw[e1];exact w.w3 y hy
  ·show 2*allF S.c≤(stw S.words (2*x+1) v).length
   rw[A3t];exact hl
  ·rw[e1];exact Int.le_refl _
  ·rw[e1]at q1⊢;exact⟨q1,rfl,e2 y (ne y q1)⟩
  ·rw[e1];exact⟨q1,rfl,rfl,rfl⟩
  ·exact⟨e1 y,e2 y fun e=>q2 (by rw[e];exact how)⟩
  ·show(stx (S.put (2*x+1) v) (cellF S.c se.part pr.a.cell)).live=false∧pr.st=⟨1,false,(stx (S.put (2*x+1) v) (cellF S.c se.part pr.a.cell)).g+1,pr.a.qty,0⟩∧(stx (S.put (2*x+1) v) (cellF S.c se.part pr.a.cell)).g<S.c.c6
   rw[e1,hx];exact d
  ·show tmx (S.put (2*x+1) v) (cellF S.c se.part pr.a.cell)=pr.a.tm
   rw[hx];exact e3
  ·dsimp only at q;omega
 split
 ·rename_i _ _ _ hpc
  have b:=I.b1 hk (by omega)
  have d:=I.b2 hk (.inr hpc)
  have t:=I.b3 hk hpc
  obtain⟨hin,how⟩:=A7c hc b.1
  rw[hx]at d t hin how
  have hc6:=hc.2.2.2.2.2.2
  have hg:0≤(stx S x).g:=(A9u _).2.1.1
  have hst:=d.2.1
  obtain⟨v,hv⟩:=E2d (g:=(stx S x).g+1) (q:=pr.a.qty) (by omega) (by omega)
  rw[←hst]at hv
  dsimp only
  simp only[hv,Option.getD_some]
  generalize he:({Ev.zero with kind:=1,cell:=x,gen:=pr.st.g,tm:=pr.a.tm,qty:=pr.a.qty}:Ev)=e
  have o:=A5w hin v ((S.put (2*x) v).tell e) rfl rfl
  have es:=A2y w hin (A8j hv) ((S.put (2*x) v).tell e) rfl
  have lg:((S.put (2*x) v).tell e).log=S.log++[{e with tick:=S.now}]:=rfl
  have hg2:pr.st.g=(stx S x).g+1:=by rw[hst]
  have g0:lgOf ((S.put (2*x) v).tell e).log={lgOf S.log with tm:=up2 (lgOf S.log).tm x pr.st.g pr.a.tm,lf:=up2 (lgOf S.log).lf x pr.st.g pr.a.qty}:=by
   rw[lg,A6a,←he];rfl
  have hok:EvOk S.c (lgOf S.log) {e with tick:=S.now}:=by
   subst he
   exact⟨fun q=>absurd q (by dsimp only;decide),fun q=>absurd q (by dsimp only;decide),fun q=>absurd q (by dsimp only;decide)⟩
  generalize (S.put (2*x) v).tell e=S' at o es lg g0⊢
  have lfz:∀y,y≠x→∀g,(lgOf S'.log).lf y g=(lgOf S.log).lf y g:=fun y hy g=>by rw[g0];exact B0k _ _ _ _ hy _
  refine⟨⟨o.wi w (by rw[lg];exact A3g _ _ _ _ w.log hok) (fun y hy g=>by rw[g0]) (fun y hy g=>by rw[g0];exact B0k _ _ _ _ hy _) (fun y hy _ _=>lfz y hy _) ?_ ?_ ?_ ?_,o.adv hin ?_ ?_ ?_ ?_ ?_⟩,fun _=>⟨fun _ _=>?_,fun _ q=>?_,fun _ q=>?_,fun _ q=>?_,fun _ q=>I.b5 hk (by omega),fun q=>(hk2 q).elim,fun q=>(hk2 q).elim⟩⟩
  ·intro _;rw[es,g0];exact w.w0 _ hin _ (by omega)
  ·intro g hg;rw[es]at hg;rw[g0];exact w.w0 _ hin _ (by omega)
  ·intro _;rw[es,g0,t];exact C0u _ _ _ _
  ·intro _;rw[es,g0];show up2 _ _ _ _ _ _=_;rw[C0u,hst]
  ·rw[es,hg2];omega
  ·intro _ q;rw[es,hg2]at q;omega
  ·intro q;rw[(C0g d.1).2]at q;cases q
  ·intro _ q;exact absurd how q
  ·intro y hy q _
   exact lfz y (fun e=>by rw[e,(C0g d.1).2]at q;cases q) _
  ·rw[o.c];exact b
  ·dsimp only at q;omega
  ·dsimp only at q;omega
  ·intro _ q;have:=I.b5 hk (by omega);dsimp only at q;omega
 ·omega
end Go.Proofs.YtcgcpjajghdbpaaGreat.P
