import Derived.Test.YtcgcpjajghdbpaaGreatInvE
import Derived.Test.YtcgcpjajghdbpaaGreatPoolY
namespace Go.Proofs.YtcgcpjajghdbpaaGreat.P
open Go.RowKit Go.Proofs.YtcgcpjajghdbpaaGreat.Eng Go.Proofs.YtcgcpjajghdbpaaGreat Go.Proofs.YtcgcpjajghdbpaaGreat.Dat Go.Proofs.YtcgcpjajghdbpaaGreat.FDat
set_option linter.unusedVariables false
set_option linter.unusedSimpArgs false
set_option linter.unusedSectionVars false
structure ReI(S:WS)(re:ReS):Prop where
 st:re.pc%4=1∨re.pc%4=2→re.st=stOf re.word∧re.st.g≤(stx S (re.pc/4)).g
 tm:re.pc%4=2→(stx S (re.pc/4)).live=true→(stx S (re.pc/4)).g=re.st.g→re.tm=tmx S (re.pc/4)
theorem re_in{re:ReS}{c:Cf}(h:ReOk re c):InC c (re.pc/4):=by
 have:=h.pc
 unfold InC;omega
theorem ReI.adv{S S':WS}{re:ReS}{own rel:Int→Prop}(h:ReI S re)(hr:ReOk re S.c)(A:Adv S S' own rel):ReI S' re:=by
 have hx:=re_in hr
 refine⟨fun q=>⟨(h.st q).1,Int.le_trans (h.st q).2 (A.mono _ hx)⟩,fun q a b=>?_⟩
 obtain⟨k1,k2,k3⟩:=A.tms _ hx a (by rw[b];exact(h.st (.inr q)).2)
 rw[k3];exact h.tm q k1 (by rw[←k2];exact b)
theorem reN{S:WS}{r:ReS}{c:Cf}(h0:0≤r.pc)(h1:r.pc%4=0∨r.pc%4=1→r.st=stOf r.word∧r.st.g≤(stx S (r.pc/4)).g)
  (h2:r.pc%4=1→(stx S (r.pc/4)).live=true→(stx S (r.pc/4)).g=r.st.g→r.tm=tmx S (r.pc/4)):ReI S (reapN r c):=by
 unfold reapN
 split
 ·exact⟨fun q=>by dsimp only at q;omega,fun q=>by dsimp only at q;omega⟩
 ·have e:∀k,r.pc%4=k→k<3→(r.pc+1)/4=r.pc/4:=fun k a b=>by omega
  refine⟨fun q=>?_,fun q=>?_⟩<;>dsimp only at q⊢
  ·rw[e (r.pc%4) rfl (by omega)];exact h1 (by omega)
  ·rw[e (r.pc%4) rfl (by omega)];exact h2 (by omega)
theorem D6q{s:St}(h:(expireF s).1=0):s.loose=true∧(expireF s).2={s with k:=7}:=by
 unfold expireF at h⊢
 split at h
 ·exact absurd h (by decide)
 ·rename_i q;rw[if_neg q];exact⟨by simpa using q,rfl⟩
theorem D9s{S:WS}{re:ReS}(hc:S.c.ok)(w:WI S)(h:ReOk re S.c)(I:ReI S re):
  WI (reapF re S).2∧(∀own rel,Adv S (reapF re S).2 own rel)∧ReI (reapF re S).2 (reapF re S).1:=by
 have hx:=re_in h
 have hp:=h.pc.1
 have s0:=SameW.refl S
 show WI (reapS re S).2∧(∀own rel,Adv S (reapS re S).2 own rel)∧ReI (reapS re S).2 (reapN (reapS re S).1 S.c)
 unfold reapS
 split
 ·rename_i q
  exact⟨w,fun _ _=>s0.adv _ _,reN hp (fun _=>⟨rfl,Int.le_refl _⟩) fun z=>by dsimp only at z;omega⟩
 split
 ·rename_i q
  exact⟨w,fun _ _=>s0.adv _ _,reN hp (fun _=>I.st (.inl q)) fun _ _ _=>rfl⟩
 split
 ·rename_i p0 p1 q
  have no:∀r:ReS,r.pc=re.pc→∀S',ReI S' (reapN r S.c):=fun r e S'=>reN (by omega) (fun z=>by omega) fun z=>by omega
  unfold reapEnd
  split
  ·exact⟨w,fun _ _=>s0.adv _ _,no _ (by rfl) _⟩
  rename_i e1
  split
  ·exact⟨w,fun _ _=>s0.adv _ _,no _ (by rfl) _⟩
  split
  ·exact⟨w,fun _ _=>s0.adv _ _,no _ (by rfl) _⟩
  rename_i e2 e3
  split
  ·rename_i ht
   have e1:(expireF re.st).1=0:=by simpa using e1
   obtain⟨x1,x2⟩:=D6q e1
   obtain⟨v,h1,h2,h3⟩:=A5v ht
   rw[h3]
   have hs:stx S (re.pc/4)=re.st:=by unfold stx;rw[h2];exact((I.st (.inr q)).1).symm
   have hv:=A8j h1
   have lv:=St.live_loose x1
   have k:=endL (x:=re.pc/4) (S':=({S with words:=stw S.words (2*(re.pc/4)) v}:WS).tell {Ev.zero with kind:=5,cell:=re.pc/4,gen:=(expireF re.st).2.g}) w hx (A5w hx v _ rfl rfl) (by rw[hs];exact x1) (by rw[A2y w hx hv _ rfl,hs,x2]) (by rw[A2y w hx hv _ rfl,x2];rfl) rfl (.inl rfl) rfl (by rw[hs,x2]) (fun _=>by
    rw[←I.tm q (by rw[hs];exact lv) (by rw[hs])]
    show re.tm.till≤(S.now:Int)
    omega)
   exact⟨k.1,k.2,no _ (by rfl) _⟩
  ·exact⟨w,fun _ _=>s0.adv _ _,no _ (by rfl) _⟩
 ·have hs:SameW S (if re.done then noteE S (re.pc/4) re.st.g S.c.c5 (endF re.st re.at_)else S):=by
   split
   ·exact A9o hc _ _ _ _
   ·exact s0
  exact⟨hs.wi w,hs.adv,reN hp (fun z=>by dsimp only at z;omega) fun z=>by dsimp only at z;omega⟩
def tr(P:Pool)(n:Nat):Option PairS:=if n%2=0 then(P.sess[n/2]?).bind fun x=>x.now.bind (·.2)else(P.sw[n/2]?).bind (·.2)
structure PI(P:Pool):Prop where
 wi:WI P.S
 part:∀(i:Nat) x,P.sess[i]?=some x→x.se.part=i
 prog:∀(i:Nat) x pr o,P.sess[i]?=some x→x.now=some (pr,o)→ProgI P.S i pr
 tri:∀n p,tr P n=some p→TryJ P.S p
 re:∀(j:Nat) y,P.re[j]?=some y→ReI P.S y
 ex:∀n m p q,n≠m→tr P n=some p→tr P m=some q→act P.S.c p→act P.S.c q→p.a.x≠q.a.x
theorem PI.step{P P':Pool}(I:PI P)(n0:Nat){own:Int→Prop}(wi:WI P'.S)(A:Adv P.S P'.S own (relO P.S.c (tr P n0)))
  (part:∀(i:Nat) x,P'.sess[i]?=some x→x.se.part=i) (prog:∀(i:Nat) x pr o,P'.sess[i]?=some x→x.now=some (pr,o)→ProgI P'.S i pr)
  (re:∀(j:Nat) y,P'.re[j]?=some y→ReI P'.S y) (ht:∀n,n≠n0→tr P' n=tr P n) (hi:∀p,tr P' n0=some p→TryJ P'.S p)
  (new:∀p,tr P' n0=some p→act P.S.c p→relO P.S.c (tr P n0) p.a.x∨(InC P.S.c p.a.x∧(stx P.S p.a.x).loose=true)):PI P':=by
 have one:∀m p q,m≠n0→tr P' n0=some p→tr P' m=some q→act P.S.c p→act P.S.c q→p.a.x≠q.a.x:=by
  intro m p q hm hp hq ap aq e
  rw[ht m hm]at hq
  rcases new p hp ap with⟨p0,k1,k2,k3⟩|⟨k1,k2⟩
  ·exact I.ex n0 m p0 q (fun z=>hm z.symm) k1 hq k2 aq (by rw[←k3];exact e)
  ·have:=((I.tri m q hq).2 aq.1).act aq.2.1 aq.2.2
   rw[←e,St.loose_held k2]at this
   exact absurd this.1 (by decide)
 refine⟨wi,part,prog,fun n p hp=>?_,re,fun n m p q hn hp hq ap aq=>?_⟩
 ·by_cases h:n=n0
  ·subst h;exact hi p hp
  ·rw[ht n h]at hp
   exact(I.tri n p hp).adv A fun a ⟨p0,k1,k2,k3⟩=>I.ex n n0 p p0 h hp k1 a k2 k3
 ·rw[A.c]at ap aq
  by_cases h:n=n0
  ·subst h;exact one m p q (fun z=>hn z.symm) hp hq ap aq
  ·by_cases h':m=n0
   ·subst h';exact fun e=>one n q p h hq hp aq ap e.symm
   ·rw[ht n h]at hp;rw[ht m h']at hq
    exact I.ex n m p q hn hp hq ap aq
theorem PI.same{P P':Pool}(I:PI P)(hc:P.S.c.ok)(hr:∀y ∈ P.re,ReOk y P.S.c)(hS:SameW P.S P'.S)(hs:∀i:Nat,(P'.sess[i]?).map (fun x=>(x.se,x.now))=(P.sess[i]?).map (fun x=>(x.se,x.now)))(hw:P'.sw=P.sw)(hre:P'.re=P.re):PI P':=by
 have A:=fun own rel=>hS.adv own rel
 have key:∀(i:Nat) x,P'.sess[i]?=some x→∃y,P.sess[i]?=some y∧y.se=x.se∧y.now=x.now:=by
  intro i x h
  have:=hs i
  rw[h]at this
  cases h':P.sess[i]? with
  |none=>rw[h']at this;cases this
  |some y=>
   rw[h']at this
   simp only[Option.map_some,Option.some.injEq,Prod.mk.injEq]at this
   exact⟨y,rfl,this.1.symm,this.2.symm⟩
 have ht:∀n,tr P' n=tr P n:=by
  intro n
  unfold tr
  rw[hw]
  split
  ·have:=hs (n/2)
   cases h:P'.sess[n/2]? with
   |none=>
    rw[h]at this
    cases h':P.sess[n/2]? with
    |none=>rfl
    |some y=>rw[h']at this;cases this
   |some x=>
    obtain⟨y,k1,k2,k3⟩:=key _ x h
    rw[k1]
    show x.now.bind _=y.now.bind _
    rw[k3]
  ·rfl
 refine⟨hS.wi I.wi,fun i x h=>?_,fun i x pr o h hn=>?_,fun n p hp=>?_,fun j y h=>?_,fun n m p q hn hp hq ap aq=>?_⟩
 ·obtain⟨y,k1,k2,k3⟩:=key i x h
  rw[←k2];exact I.part i y k1
 ·obtain⟨y,k1,k2,k3⟩:=key i x h
  exact(I.prog i y pr o k1 (by rw[k3];exact hn)).adv hc (A (fun _=>False) (fun _=>False)) fun _ _ z=>z
 ·rw[ht]at hp;exact(I.tri n p hp).adv (A (fun _=>False) (fun _=>False)) fun _ z=>z
 ·rw[hre]at h
  exact(I.re j y h).adv (hr y (List.mem_of_getElem? h)) (A (fun _=>False) (fun _=>False))
 ·rw[hS.c]at ap aq;rw[ht]at hp hq
  exact I.ex n m p q hn hp hq ap aq
theorem C3n{α:Type}{l:List α}{i:Nat}{v:α}{j:Nat}{x:α}(h:(l.set i v)[j]?=some x):(j=i∧x=v)∨(j≠i∧l[j]?=some x):=by
 rw[List.getElem?_set]at h
 split at h
 ·rename_i e
  split at h
  ·cases h;exact .inl ⟨e.symm,rfl⟩
  ·cases h
 ·rename_i e;exact .inr ⟨fun z=>e z.symm,h⟩
theorem C3d{α:Type}(l:List α){i j:Nat}(v:α)(h:j≠i):(l.set i v)[j]?=l[j]?:=by
 rw[List.getElem?_set,if_neg (fun e=>h e.symm)]
theorem PrS.start_inv(S:WS)(part:Int)(a:Ask):ProgI S part (PrS.start a):=
 ⟨fun _ q=>absurd q (show ¬(1:Int)≤0 by decide),fun _ q=>absurd q (show ¬((0:Int)=2∨(0:Int)=3)by decide),fun _ q=>absurd q (show ¬(0:Int)=3 by decide),fun _ q=>absurd q (show ¬(4:Int)≤0 by decide),fun _ _=>rfl,
  fun _ q=>absurd q (show ¬(1:Int)≤0 by decide),fun _ q=>absurd q (show ¬((0:Int)=2∨(0:Int)=4∨(0:Int)=6)by decide)⟩
theorem D3v(pr:PrS)(o:Option PairS)(se:SeatS)(ss:SessS)(po:PoolS)(S:WS):(stepA pr o se ss po S).se.part=se.part:=by
 unfold stepA
 split
 ·unfold submitA
  split
  ·show(beginP _ pr se S).se.part=_
   unfold beginP
   repeat' (first|rfl|split)
  ·unfold submitR
   repeat' (first|rfl|split)
 split
 ·show(cancelP _ pr se S).se.part=_
  unfold cancelP
  repeat' (first|rfl|split)
 split
 ·show(pollP _ pr se S).se.part=_
  unfold pollP
  repeat' (first|rfl|split)
 split
 ·show(viewP pr se S).se.part=_
  unfold viewP
  repeat' (first|rfl|split)
 ·rfl
theorem E1l{P:Pool}{n:Nat}(ok:PoolOk P n)(I:PI P)(i:Nat)(x:Sess)(hx:P.sess[i]?=some x):PI (stepP P i x).2:=by
 have hc:=ok.S.c
 have htr:tr P (2*i)=x.now.bind (·.2):=by
  unfold tr
  rw[if_pos (by omega),show 2*i/2=i by omega,hx];rfl
 unfold stepP
 have key:∀(x1:Sess) (pr:PrS) (o:Option PairS),x1.se=x.se→tr P (2*i)=o→ProgI P.S i pr→0≤pr.pc→0≤pr.done→PI (stepQ P i x1 pr o):=by
  intro x1 pr o e1 e2 Ip hp hd
  have hpart:x1.se.part=i:=by rw[e1];exact I.part i x hx
  have k:=D6a (ss:=x1.nl) (po:=(P.use x1.ev).nl) (se:=x1.se) hc I.wi (by rw[hpart];exact Ip) (fun p hp=>I.tri (2*i) p (by rw[e2];exact hp)) hp hd
  have kp:(stepA pr o x1.se x1.nl (P.use x1.ev).nl P.S).se.part=x1.se.part:=D3v ..
  unfold stepQ
  generalize stepA pr o x1.se x1.nl (P.use x1.ev).nl P.S=R at*
  rw[hpart]at k
  have main:∀(P':Pool) (x':Sess),P'.S=R.S→P'.sess=P.sess.set i x'→P'.sw=P.sw→P'.re=P.re→x'.se=R.se→(x'.now=none∨(R.r=none∧x'.now=some (R.pr,R.o)))→PI P':=by
   intro P' x' f1 f2 f3 f4 f5 f6
   have hlt:i<P.sess.length:=(List.getElem?_eq_some_iff.1 hx).1
   have own:∀(j:Nat),j≠i→∀y,ownerF P.S.c y=(j:Int)→¬ownerF P.S.c y=(i:Int):=fun j hj y a b=>by omega
   have tn:tr P' (2*i)=x'.now.bind (·.2):=by
    unfold tr
    rw[if_pos (by omega),show 2*i/2=i by omega,f2,List.getElem?_set,if_pos rfl,if_pos hlt];rfl
   refine I.step (2*i) (by rw[f1];exact k.wi) (by rw[f1,e2];exact k.adv) (fun j y h=>?_) (fun j y pr' o' h hn=>?_) (fun j y h=>?_) (fun m hm=>?_) (fun p hp=>?_) (fun p hp a=>?_)
   ·rw[f2]at h
    rcases C3n h with⟨a,b⟩|⟨a,b⟩
    ·rw[a,b,f5,kp];exact hpart
    ·exact I.part j y b
   ·rw[f2]at h;rw[f1]
    rcases C3n h with⟨a,b⟩|⟨a,b⟩
    ·subst a;subst b
     rcases f6 with f6|⟨f6,f7⟩
     ·rw[f6]at hn;cases hn
     ·rw[f7]at hn;cases hn;exact k.prog f6
    ·exact(I.prog j y pr' o' b hn).adv hc k.adv (own j a)
   ·rw[f4]at h;rw[f1]
    exact(I.re j y h).adv (ok.re y (List.mem_of_getElem? h)) k.adv
   ·unfold tr
    rw[f3]
    split
    ·rw[f2,C3d _ _ (by omega)]
    ·rfl
   ·rw[tn]at hp;rw[f1]
    rcases f6 with f6|⟨f6,f7⟩
    ·rw[f6]at hp;cases hp
    ·rw[f7]at hp;exact k.i f6 p hp
   ·rw[tn]at hp;rw[e2]
    rcases f6 with f6|⟨f6,f7⟩
    ·rw[f6]at hp;cases hp
    ·rw[f7]at hp;exact k.new f6 p hp a
  unfold stepR
  split
  ·rename_i hr;exact main _ _ rfl rfl rfl rfl rfl (.inr ⟨hr,rfl⟩)
  ·exact main _ _ rfl rfl rfl rfl rfl (.inl rfl)
 unfold Sess.begun
 cases hn:x.now with
 |some v=>
  obtain⟨pr,o⟩:=v
  rw[hn]at htr
  have po:=(ok.sess x (List.mem_of_getElem? hx)).prog pr o hn
  exact key x pr o rfl htr (I.prog i x pr o hx hn) po.pc.1 po.done.1
 |none=>
  rw[hn]at htr
  cases x.queue with
  |nil=>exact I
  |cons q t=>exact key _ _ _ rfl htr (PrS.start_inv _ _ _) (Int.le_refl _) (Int.le_refl _)
theorem D5v{P:Pool}{n:Nat}(ok:PoolOk P n)(I:PI P)(j:Nat)(y:SwS × Option PairS)(hy:P.sw[j]?=some y):PI (sweepP P j y):=by
 have hc:=ok.S.c
 have hlt:j<P.sw.length:=(List.getElem?_eq_some_iff.1 hy).1
 have htr:tr P (2*j+1)=y.2:=by
  unfold tr
  rw[if_neg (by omega),show(2*j+1)/2=j by omega,hy];rfl
 have k:TryN P.S y.2 (pStepF (sweepO y.1 P.S.c y.2) P.S).2 (some (pStepF (sweepO y.1 P.S.c y.2) P.S).1):=by
  have nw:∀o a,TryN P.S o (pStepF (PairS.new a) P.S).2 (some (pStepF (PairS.new a) P.S).1):=fun o a=>TryN.step hc I.wi (TryJ.new _ _) fun q=>(D2q _ _ q).elim
  unfold sweepO
  cases h:y.2 with
  |none=>exact nw _ _
  |some p=>
   dsimp only
   split
   ·exact nw _ _
   ·exact TryN.step hc I.wi (I.tri _ p (by rw[htr];exact h)) fun q=>⟨p,rfl,q,rfl⟩
 have tn:tr (sweepP P j y) (2*j+1)=some (pStepF (sweepO y.1 P.S.c y.2) P.S).1:=by
  unfold tr
  rw[if_neg (by omega),show(2*j+1)/2=j by omega]
  show((P.sw.set j _)[j]?).bind _=_
  rw[List.getElem?_set,if_pos rfl,if_pos hlt];rfl
 refine I.step (2*j+1) k.wi (by rw[htr];exact k.adv) (fun i x h=>I.part i x h) (fun i x pr o h hn=>(I.prog i x pr o h hn).adv hc k.adv fun _ _ q=>q) (fun i z h=>(I.re i z h).adv (ok.re z (List.mem_of_getElem? h)) k.adv) (fun m hm=>?_) (fun p hp=>?_) (fun p hp a=>?_)
 ·unfold tr
  split
  ·rfl
  ·show((P.sw.set j _)[m/2]?).bind _=_
   rw[C3d _ _ (by omega)]
 ·rw[tn]at hp;exact k.i p hp
 ·rw[tn]at hp;rw[htr];exact k.new p hp a
theorem D6j{P:Pool}{n:Nat}(ok:PoolOk P n)(I:PI P)(j:Nat)(y:ReS)(hy:P.re[j]?=some y):PI (reapP P j y):=by
 have hc:=ok.S.c
 obtain⟨k1,k2,k3⟩:=D9s hc I.wi (ok.re y (List.mem_of_getElem? hy)) (I.re j y hy)
 have A:=k2 (fun _=>False) (fun _=>False)
 refine⟨k1,fun i x h=>I.part i x h,fun i x pr o h hn=>(I.prog i x pr o h hn).adv hc A fun _ _ q=>q,fun n p hp=>(I.tri n p hp).adv A fun _ q=>q,fun i z h=>?_,fun n m p q hn hp hq ap aq=>I.ex n m p q hn hp hq (by have:=A.c;rw[←this];exact ap) (by have:=A.c;rw[←this];exact aq)⟩
 rcases C3n h with⟨a,b⟩|⟨a,b⟩
 ·rw[b];exact k3
 ·exact(I.re i z b).adv (ok.re z (List.mem_of_getElem? b)) A
theorem D9f{P:Pool}{n:Nat}(ok:PoolOk P n)(I:PI P)(ag:Int):PI (pickP P ag).2:=by
 unfold pickP
 split
 ·exact I
 split
 ·split
  ·rename_i h;exact E1l ok I _ _ h
  ·exact I
 split
 ·split
  ·rename_i h;exact D5v ok I _ _ h
  ·exact I
 ·split
  ·rename_i h;exact D6j ok I _ _ h
  ·exact I
theorem E4m{P:Pool}{n:Nat}(at_:PoolAt P n)(hn:n≤1000000)(I:PI P)(e:PEv):PI (doP P e).2:=by
 have ok:=at_.ok
 have hc:=ok.S.c
 have sm:∀P':Pool,SameW P.S P'.S→(∀i:Nat,(P'.sess[i]?).map (fun x=>(x.se,x.now))=(P.sess[i]?).map (fun x=>(x.se,x.now)))→P'.sw=P.sw→P'.re=P.re→PI P':=fun P' a b c d=>I.same hc ok.re a b c d
 have hg:PI P.got:=sm _ (SameW.refl _) (fun _=>rfl) rfl rfl
 have no:PI P.got.on:=sm _ (SameW.refl _) (fun _=>rfl) rfl rfl
 have st:∀(P':Pool) (i:Nat) (x x':Sess),P.sess[i]?=some x→P'.sess=P.sess.set i x'→x'.se=x.se→x'.now=x.now→P'.S=P.S→P'.sw=P.sw→P'.re=P.re→PI P':=by
  intro P' i x x' h1 h2 h3 h4 h5 h6 h7
  refine sm P' (by rw[h5];exact SameW.refl _) (fun j=>?_) h6 h7
  rw[h2]
  by_cases hj:j=i
  ·subst hj
   rw[List.getElem?_set,if_pos rfl,if_pos (List.getElem?_eq_some_iff.1 h1).1,h1]
   simp only[Option.map_some,h3,h4]
  ·rw[C3d _ _ hj]
 unfold doP
 split
 ·exact sm _ ⟨rfl,fun _ _=>rfl,fun _ _=>rfl,rfl,rfl⟩ (fun _=>rfl) rfl rfl
 split
 ·have k:=D9f (B7x ok) hg e.who
  have ko:=(B8n (B7x ok) hn e.who).ok
  exact k.same ko.S.c ko.re (SameW.refl _) (fun _=>rfl) rfl rfl
 split
 ·split
  ·split
   ·rename_i h;exact st _ _ _ _ h rfl rfl rfl rfl rfl rfl
   ·exact no
  split
  ·split
   ·rename_i h;exact st _ _ _ _ h rfl rfl rfl rfl rfl rfl
   ·exact no
  ·exact no
 ·exact no
theorem E3f(es:List PEv):∀{P:Pool} {n:Nat},PoolAt P n→PI P→n+es.length≤100000→(∀e ∈ es,e.wf)→PI (runP P es):=by
 induction es with
 |nil=>intro P n _ I _ _;exact I
 |cons e es ih=>
  intro P n at_ I hn hw
  simp only[List.length_cons]at hn
  exact ih (do_ok at_ (by omega) e (hw e (List.mem_cons_self ..))) (E4m at_ (by omega) I e) (by omega) (fun e' he=>hw e' (List.mem_cons_of_mem _ he))
theorem E3i(n:Nat)(i:Int):wd (List.replicate n 0) i=0:=by
 unfold wd
 split
 ·rfl
 ·rw[List.getD_eq_getElem?_getD,List.getElem?_replicate];split<;>rfl
theorem C4g{α:Type}{f:Nat→α}{n i:Nat}{x:α}(h:((List.range n).map f)[i]?=some x):x=f i:=by
 rw[List.getElem?_map]at h
 by_cases hi:i<n
 ·rw[List.getElem?_range hi]at h;cases h;rfl
 ·rw[List.getElem?_eq_none (by simp;omega)]at h;cases h
theorem E3q(c:Cf)(hc:c.ok):PI (newP c):=by
 have hst:∀x,stx (newS c) x=St.zero:=fun x=>by unfold stx WS.word newS;dsimp only;rw[E3i];rfl
 have hs:∀(i:Nat) x,(newP c).sess[i]?=some x→x=newSess c i:=fun i x h=>C4g (f:=fun(i:Nat)=>newSess c i) h
 have hw:∀(i:Nat) x,(newP c).sw[i]?=some x→x=newSw i:=fun i x h=>C4g (f:=fun(i:Nat)=>newSw i) h
 have ht:∀n p,tr (newP c) n=some p→False:=by
  intro n p h
  unfold tr at h
  split at h
  ·cases e:(newP c).sess[n/2]? with
   |none=>rw[e]at h;cases h
   |some x=>rw[e,hs _ _ e]at h;cases h
  ·cases e:(newP c).sw[n/2]? with
   |none=>rw[e]at h;cases h
   |some x=>rw[e,hw _ _ e]at h;cases h
 refine⟨⟨trivial,fun x _ h=>?_,fun _ _ _ _=>rfl,fun x _ h=>?_,fun x _ h=>?_,?_⟩,fun i x h=>?_,fun i x pr o h hn=>?_,fun n p h=>(ht n p h).elim,fun j y h=>?_,fun n m p q hn h=>(ht n p h).elim⟩
 ·rw[show(newP c).S=newS c from rfl,hst]at h;cases h
 ·rw[show(newP c).S=newS c from rfl,hst]at h;cases h
 ·rw[show(newP c).S=newS c from rfl,hst]at h;cases h
 ·show 2*allF c≤((List.replicate (wordsF c).toNat 0).length:Int)
  rw[List.length_replicate]
  unfold wordsF
  have ha:=all_b c hc
  have h1:0≤allF c*c.c6*(c.c5+1):=Int.mul_nonneg (Int.mul_nonneg (by omega) (by have:=hc.2.2.2.2.2.2;omega)) (by have:=hc.2.2.2.2.2.1;omega)
  omega
 ·rw[hs i x h];rfl
 ·rw[hs i x h]at hn;cases hn
 ·have:y=newRe j:=C4g (f:=fun(i:Nat)=>newRe i) h
  rw[this]
  exact⟨fun q=>absurd q (show ¬((0:Int)%4=1∨(0:Int)%4=2)by decide),fun q=>absurd q (show ¬(0:Int)%4=2 by decide)⟩
theorem E3v(c:Cf)(hc:c.ok)(es:List PEv)(hn:es.length≤100000)(hw:∀e ∈ es,e.wf):AllOk (runP (newP c) es).S.c LG.zero (runP (newP c) es).S.log:=
 (E3f es (B8p c hc) (E3q c hc) (by omega) hw).wi.log
end Go.Proofs.YtcgcpjajghdbpaaGreat.P
