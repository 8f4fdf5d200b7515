import Derived.Test.YtcgcpjajghdbpaaGreatInvD
namespace Go.Proofs.YtcgcpjajghdbpaaGreat.P
open Go.RowKit Go.Proofs.YtcgcpjajghdbpaaGreat.Eng Go.Proofs.YtcgcpjajghdbpaaGreat Go.Proofs.YtcgcpjajghdbpaaGreat.Dat Go.Proofs.YtcgcpjajghdbpaaGreat.FDat
set_option linter.unusedVariables false
set_option linter.unusedSimpArgs false
set_option linter.unusedSectionVars false
theorem keepL{S S':WS}{x:Int}(w:WI S)(hx:InC S.c x)(o:OneSt S S' x)(s0:(stx S x).live=true)(t1:(stx S' x).g=(stx S x).g)(t2:(stx S' x).l=(stx S x).l)
  (t3:(stx S' x).loose=(stx S x).loose) (t4:(stx S' x).held=(stx S x).held) (lg:lgOf S'.log=lgOf S.log) (al:AllOk S.c LG.zero S'.log):WI S'∧∀own rel,Adv S S' own rel:=by
 refine⟨o.wi w al (fun _ _ _=>by rw[lg]) (fun _ _ _=>by rw[lg]) (fun _ _ _ _=>by rw[lg]) ?_ ?_ ?_ ?_,fun own rel=>o.adv hx ?_ ?_ ?_ ?_ (fun _ _ _ _=>by rw[lg])⟩
 ·intro _;rw[lg,t1];exact w.w1 _ hx s0
 ·rw[lg,t1];exact w.w0 _ hx
 ·intro _;rw[lg,t1];exact w.w2 _ hx s0
 ·intro q;rw[lg,t1,t2];exact w.w3 _ hx (by rw[←t3];exact q)
 ·rw[t1];exact Int.le_refl _
 ·intro _ _;exact⟨s0,t1⟩
 ·intro q _;exact⟨by rw[t4];exact q,t1,t2⟩
 ·intro q;rw[s0]at q;cases q
theorem endL{S S':WS}{x:Int}{e:Ev}(w:WI S)(hx:InC S.c x)(o:OneSt S S' x)(s0:(stx S x).loose=true)(t1:(stx S' x).g=(stx S x).g)(t2:(stx S' x).live=false)
  (lg:S'.log=S.log++[e]) (ek:e.kind=5∨e.kind=3∨e.kind=7) (ec:e.cell=x) (eg:e.gen=(stx S x).g) (ex:e.kind=5→(tmx S x).till≤e.tick):WI S'∧∀own rel,Adv S S' own rel:=by
 have s1:=St.live_loose s0
 have g0:lgOf S'.log={lgOf S.log with ov:=up2 (lgOf S.log).ov x (stx S x).g true}:=by
  rw[lg,A6a];unfold stepL;rw[if_neg (by omega),if_neg (by omega),if_pos ek,ec,eg]
 have ov:(lgOf S.log).ov e.cell e.gen=false:=by rw[ec,eg];exact w.w1 _ hx s1
 have okE:EvOk S.c (lgOf S.log) e:=⟨fun q=>by omega,fun q=>⟨ov,by rw[ec,eg,w.w2 _ hx s1];exact ex q⟩,fun _=>ov⟩
 refine⟨o.wi w (by rw[lg];exact A3g _ _ _ _ w.log okE) (fun y hy g=>by rw[g0];exact B0k _ _ _ _ hy _) (fun _ _ _=>by rw[g0]) (fun _ _ _ _=>by rw[g0]) ?_ ?_ ?_ ?_,
  fun own rel=>o.adv hx ?_ ?_ ?_ ?_ (fun _ _ _ _=>by rw[g0])⟩
 ·intro q;rw[t2]at q;cases q
 ·intro g hg;rw[t1]at hg;rw[g0];show up2 _ _ _ _ _ _=_;rw[E1x _ _ _ _ _ (by omega)];exact w.w0 _ hx _ hg
 ·intro q;rw[t2]at q;cases q
 ·intro q;rw[(C0g t2).1]at q;cases q
 ·rw[t1];exact Int.le_refl _
 ·intro q;rw[t2]at q;cases q
 ·intro q;rw[St.loose_held s0]at q;cases q
 ·intro q;rw[s1]at q;cases q
theorem D4w{s:St}(h:(promoteF s).1=0):s.k=1∧(promoteF s).2={s with k:=2}:=by
 unfold promoteF at h⊢
 split at h
 ·rename_i q;rw[if_pos q];exact⟨q,rfl⟩
 ·exact absurd h (by decide)
theorem E0h{S:WS}{pr:PrS}{part:Int}(hc:S.c.ok)(w:WI S)(I:ProgI S part pr)(hk:pr.a.kind=1)(hp:4≤pr.pc)(hd:0≤pr.done):
  Left S (restP (cellF S.c part pr.a.cell) pr S).2.2 part∧ProgI (restP (cellF S.c part pr.a.cell) pr S).2.2 part (restP (cellF S.c part pr.a.cell) pr S).2.1:=by
 have h0:=(SameW.refl S).left w part
 have hk2:pr.a.kind=2→False:=fun q=>by rw[hk]at q;cases q
 have b:=I.b1 hk (by omega)
 obtain⟨hin,how⟩:=A7c hc b.1
 generalize hx:cellF S.c part pr.a.cell=x at*
 have mk:∀(S':WS) (t d:Int) (u:Nat) (st:St),S'.c=S.c→(d=0→t%2=1→st=stOf u)→ProgI S' part {pr with tries:=t,done:=d,word:=u,st:=st}:=fun S' t d u st e h=>
  ⟨fun _ _=>by rw[e,hx];exact b,fun _ q=>by dsimp only at q;omega,fun _ q=>by dsimp only at q;omega,fun _ _=>h,fun _ q=>by dsimp only at q;omega,fun q=>(hk2 q).elim,fun q=>(hk2 q).elim⟩
 unfold restP
 split
 ·exact⟨h0,I⟩
 split
 ·rename_i q;exact⟨h0,mk S _ _ _ _ rfl fun z=>by omega⟩
 split
 ·exact⟨h0,mk S _ pr.done _ _ rfl fun _ _=>rfl⟩
 rename_i q1 q2
 split
 ·exact⟨h0,mk S _ 1 _ _ rfl fun z=>by omega⟩
 split
 ·exact⟨h0,mk S _ _ _ _ rfl fun _ z=>by omega⟩
 rename_i q3 q4
 have q4:(promoteF pr.st).1=0:=by simpa using q4
 obtain⟨p1,p2⟩:=D4w q4
 have p3:=I.b4 hk hp (by omega) (by omega)
 split
 ·rename_i ht
  obtain⟨v,h1,h2,h3⟩:=A5v ht
  rw[h3]
  have hs:stx S x=pr.st:=by unfold stx;rw[h2,p3]
  have hv:=A8j h1
  rw[p2]at hv
  generalize he:({Ev.zero with kind:=6,cell:=x,gen:=(promoteF pr.st).2.g}:Ev)=e
  have o:=A5w hin v (({S with words:=stw S.words (2*x) v}:WS).tell e) rfl rfl
  have es:=A2y w hin hv (({S with words:=stw S.words (2*x) v}:WS).tell e) rfl
  have lg:(({S with words:=stw S.words (2*x) v}:WS).tell e).log=S.log++[{e with tick:=S.now}]:=rfl
  have g0:lgOf (({S with words:=stw S.words (2*x) v}:WS).tell e).log=lgOf S.log:=by rw[lg,A6a,←he];rfl
  have hok:EvOk S.c (lgOf S.log) {e with tick:=S.now}:=by
   subst he
   exact⟨fun q=>absurd q (by dsimp only;decide),fun q=>absurd q (by dsimp only;decide),fun q=>absurd q (by dsimp only;decide)⟩
  have k:=keepL w hin o (by rw[hs];unfold St.live;rw[p1];rfl) (by rw[es,hs]) (by rw[es,hs]) (by rw[es,hs];unfold St.loose;rw[p1];rfl) (by rw[es,hs];unfold St.held;rw[p1];rfl) g0 (by rw[lg];exact A3g _ _ _ _ w.log hok)
  exact⟨⟨k.1,k.2 _ _⟩,mk _ _ 1 _ _ rfl fun z=>by omega⟩
 ·exact⟨h0,mk S _ _ _ _ rfl fun _ z=>by omega⟩
theorem D7h{s:St}(h:(cancelF s).1=0):(s.loose=true∧(cancelF s).2={s with k:=6})∨(s.held=true∧(cancelF s).2={s with f:=true}):=by
 unfold cancelF at h⊢
 split at h
 ·rename_i q;rw[if_pos q];exact .inl ⟨by unfold St.loose;simpa using q,rfl⟩
 ·rename_i q
  rw[if_neg q]
  split at h
  ·rename_i r;rw[if_pos r];exact .inr ⟨by unfold St.held;simpa using r,rfl⟩
  ·exact absurd h (by decide)
theorem D7f{S:WS}{pr:PrS}{se:SeatS}(w:WI S){x:Int}(hin:InC S.c x)(hd:0≤pr.done)(h:pr.done=0→pr.st=stOf pr.word)(part:Int):
  Left S (turnP x pr se S).2 part∧(turnP x pr se S).2.c=S.c∧(turnP x pr se S).1.a=pr.a:=by
 have h0:=(SameW.refl S).left w part
 unfold turnP
 split
 ·exact⟨h0,rfl,rfl⟩
 split
 ·exact⟨h0,rfl,rfl⟩
 split
 ·exact⟨h0,rfl,rfl⟩
 split
 ·exact⟨h0,rfl,rfl⟩
 rename_i q1 q2 q3 q4
 have h:=h (by omega)
 have q4:(S.turn x pr.word (cancelF pr.st).2).1=true:=by simpa using q4
 have q2:genF pr se≠0∧pr.st.g=genF pr se∧(cancelF pr.st).1=0:=by omega
 obtain⟨v,h1,h2,h3⟩:=A5v q4
 rw[h3]
 have hs:stx S x=pr.st:=by unfold stx;rw[h2,h]
 have hv:=A8j h1
 have ho:∀e,OneSt S (({S with words:=stw S.words (2*x) v}:WS).tell e) x:=fun e=>A5w hin v _ rfl rfl
 have hes:∀e,stx (({S with words:=stw S.words (2*x) v}:WS).tell e) x=(cancelF pr.st).2:=fun e=>A2y w hin hv _ rfl
 rcases D7h q2.2.2 with⟨c1,c2⟩|⟨c1,c2⟩
 ·have cf:(cancelF pr.st).2.f=false:=by rw[c2];simpa using q3
  rw[cf,if_neg (by decide)]
  refine⟨?_,rfl,rfl⟩
  have k:=endL w hin (ho {Ev.zero with kind:=3,cell:=x,gen:=genF pr se}) (by rw[hs];exact c1) (by rw[hes,hs,c2]) (by rw[hes,c2];rfl) rfl (.inr (.inl rfl)) rfl (by rw[hs];exact q2.2.1.symm) (fun q=>absurd q (by dsimp only;decide))
  exact⟨k.1,k.2 _ _⟩
 ·have cf:(cancelF pr.st).2.f=true:=by rw[c2]
  rw[cf,if_pos rfl]
  refine⟨?_,rfl,rfl⟩
  have hok:EvOk S.c (lgOf S.log) {({Ev.zero with kind:=4,cell:=x,gen:=genF pr se}:Ev)with tick:=S.now}:=
   ⟨fun q=>absurd q (by dsimp only;decide),fun q=>absurd q (by dsimp only;decide),fun q=>absurd q (by dsimp only;decide)⟩
  have lo:pr.st.loose=false:=by cases e:pr.st.loose with
   |false=>rfl
   |true=>rw[St.loose_held e]at c1;cases c1
  have k:=keepL w hin (ho {Ev.zero with kind:=4,cell:=x,gen:=genF pr se}) (by rw[hs];exact St.live_held c1) (by rw[hes,hs,c2]) (by rw[hes,hs,c2]) (by rw[hes,hs,c2];rfl) (by rw[hes,hs,c2];rfl) (by show lgOf (S.log++_)=_;rw[A6a];rfl) (A3g _ _ _ _ w.log hok)
  exact⟨k.1,k.2 _ _⟩
theorem ProgI.kind{S:WS}{part:Int}{pr:PrS}(h1:pr.a.kind≠1)(h2:pr.a.kind≠2):ProgI S part pr:=
 ⟨fun q=>absurd q h1,fun q=>absurd q h1,fun q=>absurd q h1,fun q=>absurd q h1,fun q=>absurd q h1,fun q=>absurd q h2,fun q=>absurd q h2⟩
theorem D4l{S:WS}{pr:PrS}{se:SeatS}(hc:S.c.ok)(w:WI S)(I:ProgI S se.part pr)(hk:pr.a.kind=2)(hp:0≤pr.pc)(hd:0≤pr.done):
  Left S (cancelP (cellF S.c se.part pr.a.cell) pr se S).S se.part∧((cancelP (cellF S.c se.part pr.a.cell) pr se S).r=none→ProgI (cancelP (cellF S.c se.part pr.a.cell) pr se S).S se.part (cancelP (cellF S.c se.part pr.a.cell) pr se S).pr):=by
 have h0:=(SameW.refl S).left w se.part
 have hk1:∀k,k=pr.a.kind→k=1→False:=fun k q r=>by omega
 generalize hx:cellF S.c se.part pr.a.cell=x
 have mk:∀(S':WS) (p:PrS),S'.c=S.c→p.a=pr.a→0≤x→(p.pc=2∨p.pc=4∨p.pc=6→p.done=0→p.st=stOf p.word)→ProgI S' se.part p:=by
  intro S' p e1 e2 e3 e4
  have n1:p.a.kind=1→False:=fun q=>by rw[e2]at q;omega
  exact⟨fun q=>(n1 q).elim,fun q=>(n1 q).elim,fun q=>(n1 q).elim,fun q=>(n1 q).elim,fun q=>(n1 q).elim,fun _ _=>by rw[e1,e2,hx];exact e3,fun _=>e4⟩
 unfold cancelP
 split
 ·rename_i hpc
  split
  ·exact⟨h0,fun q=>by cases q⟩
  ·exact⟨h0,fun _=>mk S _ rfl rfl (by omega) fun q=>by dsimp only[nextP]at q;omega⟩
 rename_i p0
 have hx0:0≤x:=by rw[←hx];exact I.k1 hk (by omega)
 split
 ·refine⟨h0,fun _=>mk S _ rfl ?_ hx0 fun _ q=>?_⟩
  ·dsimp only[nextP];split<;>rfl
  ·dsimp only[nextP]at q⊢
   split at q
   ·rename_i q1;rw[if_pos q1]
   ·rename_i q1;exact absurd q q1
 split
 ·rename_i p1 p2
  have hin:=(A7c hc (by rw[hx];exact hx0:0≤cellF S.c se.part pr.a.cell)).1
  rw[hx]at hin
  obtain⟨k1,k2,k3⟩:=D7f (se:=se) w hin hd (I.k2 hk p2) se.part
  exact⟨k1,fun _=>mk _ _ k2 k3 hx0 fun q=>by dsimp only[nextP]at q;omega⟩
 split
 ·have hs:SameW S (if pr.done=1 then noteE S x pr.st.g S.c.c5 (endF pr.st pr.at_)else S):=by
   split
   ·exact A9o hc _ _ _ _
   ·exact SameW.refl S
  exact⟨hs.left w _,fun _=>mk _ _ hs.c rfl hx0 fun q=>by dsimp only[nextP]at q;omega⟩
 ·exact⟨h0,fun q=>by cases q⟩
def relO(c:Cf)(o:Option PairS)(y:Int):Prop:=∃P,o=some P∧act c P∧y=P.a.x
structure TryN(S:WS)(o:Option PairS)(T:WS)(o':Option PairS):Prop where
 wi:WI T
 adv:Adv S T (fun _=>False) (relO S.c o)
 i:∀P,o'=some P→TryJ T P
 new:∀P,o'=some P→act S.c P→relO S.c o P.a.x∨(InC S.c P.a.x∧(stx S P.a.x).loose=true)
theorem Adv.mono'{S S':WS}{own rel own' rel':Int→Prop}(A:Adv S S' own rel)(h1:∀y,own y→own' y)(h2:∀y,rel y→rel' y):Adv S S' own' rel':=
 ⟨A.c,A.mono,A.tms,fun x hx a b=>A.held x hx a fun q=>b (h2 _ q),fun x hx a b=>A.dead x hx a fun q=>b (h1 _ q)⟩
theorem TryN.same{S:WS}{o:Option PairS}(w:WI S)(J:∀P,o=some P→TryJ S P):TryN S o S o:=
 ⟨w,(SameW.refl S).adv _ _,J,fun P h a=>.inl ⟨P,h,a,rfl⟩⟩
theorem TryN.step{S:WS}{o:Option PairS}{P:PairS}(hc:S.c.ok)(w:WI S)(J:TryJ S P)(hr:act S.c P→relO S.c o P.a.x):TryN S o (pStepF P S).2 (some (pStepF P S).1):=by
 have k:=D7c hc w J
 refine⟨k.wi,k.adv.mono' (fun _ q=>q) fun y q=>by rw[q.2];exact hr q.1,fun Q e=>by cases e;exact k.i,fun Q e a=>?_⟩
 cases e
 rw[k.a]
 exact(k.new a).imp hr id
theorem E0v{S:WS}{pr:PrS}{o:Option PairS}{ss:SessS}{po:PoolS}(hc:S.c.ok)(w:WI S)(J:∀P,o=some P→TryJ S P):
  TryN S o (tryP pr o ss po S).S (tryP pr o ss po S).o∧((tryP pr o ss po S).b=false→(tryP pr o ss po S).S=S):=by
 have hnew:∀(n:Int) (a:Aim) (ss:SessS) (po:PoolS),TryN S o (runO n (some (PairS.new a)) ss po S).S (runO n (some (PairS.new a)) ss po S).o∧((runO n (some (PairS.new a)) ss po S).b=false→(runO n (some (PairS.new a)) ss po S).S=S):=by
  intro n a ss po
  unfold runO
  dsimp only
  rw[if_neg (show ¬(PairS.new a).pc≥14 by show ¬(0:Int)≥14;decide)]
  exact⟨TryN.step hc w (TryJ.new S a) fun q=>(D2q _ _ q).elim,fun q=>by cases q⟩
 unfold tryP
 split
 ·split
  ·exact hnew _ _ _ _
  ·exact hnew _ _ _ _
 ·unfold runO
  cases o with
  |none=>exact⟨.same w J,fun _=>rfl⟩
  |some P=>
   dsimp only
   split
   ·exact⟨.same w J,fun _=>rfl⟩
   ·exact⟨TryN.step hc w (J P rfl) fun q=>⟨P,rfl,q,rfl⟩,fun q=>by cases q⟩
structure StepK(S:WS)(part:Int)(o:Option PairS)(R:StA):Prop where
 wi:WI R.S
 adv:Adv S R.S (fun y=>ownerF S.c y=part) (relO S.c o)
 i:R.r=none→∀P,R.o=some P→TryJ R.S P
 new:R.r=none→∀P,R.o=some P→act S.c P→relO S.c o P.a.x∨(InC S.c P.a.x∧(stx S P.a.x).loose=true)
 prog:R.r=none→ProgI R.S part R.pr
theorem Left.k{S:WS}{part:Int}{o:Option PairS}{R:StA}(h:Left S R.S part)(J:∀P,o=some P→TryJ S P)(ho:R.o=o)(hp:R.r=none→ProgI R.S part R.pr):StepK S part o R:=
 ⟨h.1,h.2.mono' (fun _ q=>q) fun _ q=>q.elim,fun _ P e=>(J P (by rw[←ho];exact e)).adv h.2 fun _ q=>q,fun _ P e a=>.inl ⟨P,by rw[←ho];exact e,a,rfl⟩,hp⟩
theorem D6a{S:WS}{pr:PrS}{o:Option PairS}{se:SeatS}{ss:SessS}{po:PoolS}(hc:S.c.ok)(w:WI S)(I:ProgI S se.part pr)(J:∀P,o=some P→TryJ S P)(hp:0≤pr.pc)(hd:0≤pr.done):
  StepK S se.part o (stepA pr o se ss po S):=by
 have h0:=(SameW.refl S).left w se.part
 unfold stepA
 split
 ·rename_i hk
  unfold submitA
  split
  ·rename_i hpc
   have k:=D6e hc w I hk ⟨hp,hpc⟩
   exact k.1.k J rfl k.2
  ·rename_i hpc
   obtain⟨k,kb⟩:=E0v (pr:=pr) (ss:=ss) (po:=po) hc w J
   generalize tryP pr o ss po S=T at*
   have cS:cellF T.S.c se.part pr.a.cell=cellF S.c se.part pr.a.cell:=by rw[k.adv.c]
   unfold submitR
   split
   ·exact⟨k.wi,k.adv.mono' (fun _ q=>q.elim) fun _ q=>q,fun _=>k.i,fun _=>k.new,fun _=>(I.adv hc k.adv fun _ _ q=>q).n T.n⟩
   ·rename_i hb
    have hb:T.b=false:=by simpa using hb
    have eS:=kb hb
    have r:=E0h (pr:={pr with n:=T.n}) hc w (I.n T.n) hk (by show 4≤pr.pc;omega) hd
    have kj:=k.i
    rw[eS]at kj⊢
    have f:∀R:StA,R.S=(restP (cellF S.c se.part pr.a.cell) {pr with n:=T.n} S).2.2→R.pr=(restP (cellF S.c se.part pr.a.cell) {pr with n:=T.n} S).2.1→R.o=T.o→StepK S se.part o R:=by
     intro R e1 e2 e3
     have r2:Adv S R.S (fun y=>ownerF S.c y=se.part) (fun _=>False):=by rw[e1];exact r.1.2
     exact⟨by rw[e1];exact r.1.1,r2.mono' (fun _ q=>q) fun _ q=>q.elim,fun _ P e=>(kj P (by rw[←e3];exact e)).adv r2 fun _ q=>q,fun _ P e a=>k.new P (by rw[←e3];exact e) a,fun _=>by rw[e1,e2];exact r.2⟩
    split
    ·exact f _ rfl rfl rfl
    ·exact f _ rfl rfl rfl
 split
 ·rename_i hk
  have k:=D4l hc w I hk hp hd
  exact k.1.k J rfl k.2
 split
 ·rename_i n1 n2 hk
  have k:(pollP (cellF S.c se.part pr.a.cell) pr se S).S=S∧(pollP (cellF S.c se.part pr.a.cell) pr se S).pr.a=pr.a:=by
   unfold pollP
   split
   ·exact⟨rfl,rfl⟩
   split
   ·exact⟨rfl,rfl⟩
   split
   ·split
    ·exact⟨rfl,rfl⟩
    ·exact⟨rfl,rfl⟩
   split
   ·exact⟨rfl,rfl⟩
   ·exact⟨rfl,rfl⟩
  refine Left.k ?_ J rfl fun _=>ProgI.kind ?_ ?_
  ·show Left S (pollP _ pr se S).S se.part
   rw[k.1];exact h0
  ·show(pollP _ pr se S).pr.a.kind≠1
   rw[k.2];exact n1
  ·show(pollP _ pr se S).pr.a.kind≠2
   rw[k.2];exact n2
 split
 ·rename_i n1 n2 _ hk
  have k:(viewP pr se S).S=S∧(viewP pr se S).pr.a=pr.a:=by
   unfold viewP
   split
   ·exact⟨rfl,rfl⟩
   split
   ·exact⟨rfl,rfl⟩
   ·exact⟨rfl,rfl⟩
  refine Left.k ?_ J rfl fun _=>ProgI.kind ?_ ?_
  ·show Left S (viewP pr se S).S se.part
   rw[k.1];exact h0
  ·show(viewP pr se S).pr.a.kind≠1
   rw[k.2];exact n1
  ·show(viewP pr se S).pr.a.kind≠2
   rw[k.2];exact n2
 ·exact Left.k h0 J rfl fun q=>by cases q
end Go.Proofs.YtcgcpjajghdbpaaGreat.P
