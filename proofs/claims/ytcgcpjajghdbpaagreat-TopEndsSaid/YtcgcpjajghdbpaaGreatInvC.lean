import Derived.Test.YtcgcpjajghdbpaaGreatInvB
namespace Go.Proofs.YtcgcpjajghdbpaaGreat.P
open Go.RowKit Go.Proofs.YtcgcpjajghdbpaaGreat.Eng Go.Proofs.YtcgcpjajghdbpaaGreat Go.Proofs.YtcgcpjajghdbpaaGreat.Dat Go.Proofs.YtcgcpjajghdbpaaGreat.FDat
set_option linter.unusedVariables false
set_option linter.unusedSimpArgs false
set_option linter.unusedSectionVars false
theorem B8r{f:Int→Int→Int}{x g q a b:Int}(h:a≠x):subL f x g q a b=f a b:=B0k _ _ _ _ h _
theorem D2i{f:Int→Int→Int}{x g q:Int}:subL f x g q x g=f x g-q:=C0u _ _ _ _
def next(P:PairS)(R:PairS × WS):PairS × WS:=({R.1 with pc:=P.pc+1},R.2)
section
variable{S:WS}{P:PairS}(hc:S.c.ok)(w:WI S)(I:TryI S P)(hi:idleF S.c P=false)(h0:0≤P.pc)
include w I hi h0
omit hi in
theorem A7e(h3:P.pc=2∨5≤P.pc)(q p:Int)(hq:q=P.q∨P.pc≤5):TryK S P (next P ({P with q:=q,p:=p},S)):=by
 refine⟨w,(SameW.refl S).adv _ _,⟨fun _=>?_,fun _=>?_,fun k=>?_,fun k=>?_,fun k=>I.free ?_,fun k=>I.made ?_,fun k=>I.held ?_,fun a b=>?_⟩,fun a=>.inl a,rfl⟩
 ·exact I.wx (by omega)
 ·exact I.tx (by omega)
 ·exact I.wy (by dsimp only[next]at k;omega)
 ·exact I.ty (by dsimp only[next]at k;omega)
 ·dsimp only[next]at k;omega
 ·dsimp only[next]at k;omega
 ·dsimp only[next]at k;omega
 ·obtain⟨a1,a2,a3,a4⟩:=I.act a b
  refine⟨a1,a2,a3,?_⟩
  rcases hq with rfl|hq
  ·exact a4
  ·have:P.made=false:=I.made hq
   rw[this]at a4
   dsimp only[next]
   rw[this];exact a4
omit hi in
theorem try0(h:P.pc=0):TryK S P (next P ({P with wx:=S.word P.a.x},S)):=by
 have hh:=I.held (by omega)
 refine⟨w,(SameW.refl S).adv _ _,⟨fun _=>Int.le_refl _,fun k=>?_,fun k=>?_,fun k=>?_,fun _=>I.free (by omega),fun _=>I.made (by omega),fun _=>hh,fun a b=>?_⟩,fun a=>.inl a,rfl⟩
 ·dsimp only[next]at k;omega
 ·dsimp only[next]at k;omega
 ·dsimp only[next]at k;omega
 ·exact absurd (hh.symm.trans a) (by decide)
omit hi in
theorem try1(h:P.pc=1):TryK S P (next P ({P with tx:=tmOf (S.tword P.a.x)},S)):=by
 have hh:=I.held (by omega)
 refine⟨w,(SameW.refl S).adv _ _,⟨fun _=>I.wx (by omega),fun _ _ _=>rfl,fun k=>?_,fun k=>?_,fun _=>I.free (by omega),fun _=>I.made (by omega),fun _=>hh,fun a b=>?_⟩,fun a=>.inl a,rfl⟩
 ·dsimp only[next]at k;omega
 ·dsimp only[next]at k;omega
 ·exact absurd (hh.symm.trans a) (by decide)
omit hi in
theorem try3(h:P.pc=3):TryK S P (next P ({P with wy:=S.word P.a.y},S)):=by
 refine⟨w,(SameW.refl S).adv _ _,⟨fun _=>I.wx (by omega),fun _=>I.tx (by omega),fun _=>Int.le_refl _,fun k=>?_,fun _=>I.free (by omega),fun _=>I.made (by omega),fun k=>?_,I.act⟩,fun a=>.inl a,rfl⟩
 ·dsimp only[next]at k;omega
 ·dsimp only[next]at k;omega
omit hi in
theorem try4(h:P.pc=4):TryK S P (next P ({P with ty:=tmOf (S.tword P.a.y)},S)):=by
 refine⟨w,(SameW.refl S).adv _ _,⟨fun _=>I.wx (by omega),fun _=>I.tx (by omega),fun _=>I.wy (by omega),fun _ _ _=>rfl,fun _=>I.free (by omega),fun _=>I.made (by omega),fun k=>?_,I.act⟩,fun a=>.inl a,rfl⟩
 dsimp only[next]at k;omega
theorem try2(h:P.pc=2):TryK S P (next P (holdF P S)):=by
 have hh:=I.held (by omega)
 have hp:P={P with q:=P.q,p:=P.p}:=rfl
 obtain⟨hx,hy,hn⟩:=A7l hi
 unfold holdF
 split
 ·rename_i hw
  have hl:=D0w hw
  cases ht:(S.turn P.a.x P.wx (stOf P.wx).hold).1 with
  |false=>
   rw[D7a ht]
   have e:({P with held:=false}:PairS)={P with q:=P.q,p:=P.p}:=by rw[←hh]
   rw[e]
   exact A7e w I h0 (.inl h) _ _ (.inl rfl)
  |true=>
   obtain⟨v,h1,h2,h3⟩:=A5v ht
   rw[h3]
   have hs:stx S P.a.x=stOf P.wx:=by unfold stx;rw[h2]
   obtain⟨k1,k2,k3,k4⟩:=D5e hl
   have o:=A5w hx v {S with words:=stw S.words (2*P.a.x) v} rfl rfl
   have es:=A2y w hx (A8j h1) {S with words:=stw S.words (2*P.a.x) v} rfl
   generalize hS:({S with words:=stw S.words (2*P.a.x) v}:WS)=S' at o es⊢
   have lg:S'.log=S.log:=by rw[←hS]
   have lv:=St.live_loose hl
   refine⟨o.wi w (by rw[lg];exact w.log) (fun _ _ _=>by rw[lg]) (fun _ _ _=>by rw[lg]) (fun _ _ _ _=>by rw[lg]) ?_ ?_ ?_ ?_,o.adv hx ?_ ?_ ?_ ?_ (fun _ _ _ _=>by rw[lg]),⟨?_,?_,?_,?_,?_,?_,?_,?_⟩,fun _=>.inr (by rw[hs];exact hl),rfl⟩
   ·intro _;rw[es,lg,k3,←hs];exact w.w1 _ hx (by rw[hs];exact lv)
   ·rw[es,lg,k3,←hs];exact w.w0 _ hx
   ·intro _;rw[es,lg,k3,←hs];exact w.w2 _ hx (by rw[hs];exact lv)
   ·intro q;rw[es,k2]at q;cases q
   ·rw[es,hs,k3];exact Int.le_refl _
   ·intro _ _;rw[es,hs,k3];exact⟨lv,rfl⟩
   ·intro q;rw[hs,St.loose_held hl]at q;cases q
   ·intro q;rw[hs,lv]at q;cases q
   ·intro _
    show(stOf P.wx).g≤(stx S' P.a.x).g
    rw[es,k3];exact Int.le_refl _
   ·intro _ _ _
    show P.tx=tmx S' P.a.x
    rw[o.tm _ hx];exact I.tx (by omega) (by rw[hs];exact lv) (by rw[hs])
   ·intro k;dsimp only[next]at k;omega
   ·intro k;dsimp only[next]at k;omega
   ·exact fun _=>I.free (by omega)
   ·exact fun _=>I.made (by omega)
   ·intro k;dsimp only[next]at k;omega
   ·intro _ _
    show(stx S' P.a.x).held=true∧(stx S' P.a.x).g=(stOf P.wx).g∧(stx S' P.a.x).l=(stOf P.wx).l∧(lgOf S'.log).lf P.a.x (stx S' P.a.x).g=(stx S' P.a.x).l-(if P.made then P.q else 0)
    have hm:=I.made (by omega)
    rw[es,lg,k3,k4,hm]
    refine⟨k1,rfl,rfl,?_⟩
    have:=w.w3 _ hx (by rw[hs];exact hl)
    rw[hs]at this
    rw[this];simp
 ·exact A7e w I h0 (.inl h) P.q P.p (.inl rfl)
omit hi in
theorem try6(h:P.pc=6∨P.pc=8):TryK S P (next P (lookF P S)):=by
 unfold lookF
 split
 ·rename_i ha
  obtain⟨a1,a2,a3,a4⟩:=I.act ha.1 ha.2
  refine⟨w,(SameW.refl S).adv _ _,⟨fun _=>Int.le_refl _,fun _ _ _=>?_,fun _=>I.wy (by omega),fun _=>I.ty (by omega),fun k=>I.free ?_,fun k=>?_,fun k=>?_,fun _ _=>⟨a1,rfl,rfl,a4⟩⟩,fun a=>.inl a,rfl⟩
  ·exact I.tx (by omega) (St.live_held a1) a2
  ·dsimp only[next]at k;omega
  ·dsimp only[next]at k;omega
  ·dsimp only[next]at k;omega
 ·exact A7e w I h0 (.inr (by omega)) P.q P.p (.inl rfl)
include hc in
theorem try10(h:10≤P.pc):TryK S P (next P (P,noteF P S)):=by
 have hs:SameW S (noteF P S):=by
  unfold noteF
  split
  ·exact B8f hc _ _ _ _
  split
  ·exact B8f hc _ _ _ _
  split
  ·exact A9o hc _ _ _ _
  split
  ·exact A9o hc _ _ _ _
  ·exact SameW.refl S
 have k:=A7e w I h0 (.inr (by omega)) P.q P.p (.inl rfl)
 obtain⟨hx,hy,_⟩:=A7l hi
 exact⟨hs.wi w,hs.adv _ _,k.i.adv (hs.adv (fun _=>False) (fun _=>False)) hx hy fun _ _ q=>q,fun a=>.inl a,rfl⟩
theorem try5(h:P.pc=5):TryK S P (next P (tookF P S)):=by
 obtain⟨hx,hy,hn⟩:=A7l hi
 have nothing:∀q p,TryK S P (next P ({P with q:=q,p:=p},S)):=fun q p=>A7e w I h0 (.inr (by omega)) q p (.inr (by omega))
 unfold tookF
 split
 ·exact nothing P.q P.p
 rename_i hb
 have hh:P.held=true:=by cases e:P.held with
  |true=>rfl
  |false=>exact absurd (.inl e) hb
 have hf:=I.free (by omega)
 have hm:=I.made (by omega)
 obtain⟨a1,a2,a3,a4⟩:=I.act hh hf
 unfold takeG
 dsimp only
 split
 ·exact nothing _ _
 rename_i ht
 have ht:(takeF (stOf P.wy) (fillF P).1 S.c.c5).1=0:=by simpa using ht
 cases hu:(S.turn P.a.y P.wy (takeF (stOf P.wy) (fillF P).1 S.c.c5).2).1 with
 |false=>exact nothing _ _
 |true=>
  obtain⟨v,h1,h2,h3⟩:=A5v hu
  obtain⟨k1,k2,k3,k4,k5,k6⟩:=D7z ht
  rw[if_neg (by decide),h3]
  have hs:stx S P.a.y=stOf P.wy:=by unfold stx;rw[h2]
  have hxy:P.a.y≠P.a.x:=fun e=>by rw[e]at hn;exact hn rfl
  have hyx:P.a.x≠P.a.y:=fun e=>hxy e.symm
  have lvy:(stx S P.a.y).live=true:=by rw[hs];exact St.live_loose k1
  have lvx:=St.live_held a1
  have ty:P.ty=tmx S P.a.y:=I.ty (by omega) lvy (by rw[hs])
  have tx:P.tx=tmx S P.a.x:=I.tx (by omega) lvx a2
  obtain⟨m1,m2,m3,m4,m5⟩:=D3c (a:=P.tx) (b:=P.ty) (l:=(stOf P.wx).l) (o:=(stOf P.wy).l) k2 {Ev.zero with kind:=2,cell:=P.a.x,gen:=(stOf P.wx).g,other:=P.a.y,wth:=(stOf P.wy).g,qty:=(fillF P).1,price:=(fillF P).2,tick:=S.now} rfl
  have gx:(lgOf S.log).tm P.a.x (stOf P.wx).g=P.tx:=by rw[←a2,w.w2 _ hx lvx,tx]
  have gy:(lgOf S.log).tm P.a.y (stOf P.wy).g=P.ty:=by rw[←hs,w.w2 _ hy lvy,ty]
  have ly:(lgOf S.log).lf P.a.y (stOf P.wy).g=(stOf P.wy).l:=by have:=w.w3 _ hy (by rw[hs];exact k1);rw[hs]at this;exact this
  have lx:(lgOf S.log).lf P.a.x (stOf P.wx).g=(stOf P.wx).l:=by rw[hm,a2,a3]at a4;simpa using a4
  have ovx:(lgOf S.log).ov P.a.x (stOf P.wx).g=false:=by rw[←a2];exact w.w1 _ hx lvx
  have ovy:(lgOf S.log).ov P.a.y (stOf P.wy).g=false:=by rw[←hs];exact w.w1 _ hy lvy
  have o:=A5w hy v (({S with words:=stw S.words (2*P.a.y) v}:WS).tell {Ev.zero with kind:=2,cell:=P.a.x,gen:=(stOf P.wx).g,other:=P.a.y,wth:=(stOf P.wy).g,qty:=(fillF P).1,price:=(fillF P).2}) rfl rfl
  have es:=A2y w hy (A8j h1) (({S with words:=stw S.words (2*P.a.y) v}:WS).tell {Ev.zero with kind:=2,cell:=P.a.x,gen:=(stOf P.wx).g,other:=P.a.y,wth:=(stOf P.wy).g,qty:=(fillF P).1,price:=(fillF P).2}) rfl
  have lg:(({S with words:=stw S.words (2*P.a.y) v}:WS).tell {Ev.zero with kind:=2,cell:=P.a.x,gen:=(stOf P.wx).g,other:=P.a.y,wth:=(stOf P.wy).g,qty:=(fillF P).1,price:=(fillF P).2}).log=S.log++[{Ev.zero with kind:=2,cell:=P.a.x,gen:=(stOf P.wx).g,other:=P.a.y,wth:=(stOf P.wy).g,qty:=(fillF P).1,price:=(fillF P).2,tick:=S.now}]:=rfl
  generalize (({S with words:=stw S.words (2*P.a.y) v}:WS).tell {Ev.zero with kind:=2,cell:=P.a.x,gen:=(stOf P.wx).g,other:=P.a.y,wth:=(stOf P.wy).g,qty:=(fillF P).1,price:=(fillF P).2})=S' at o es lg⊢
  generalize he:({Ev.zero with kind:=2,cell:=P.a.x,gen:=(stOf P.wx).g,other:=P.a.y,wth:=(stOf P.wy).g,qty:=(fillF P).1,price:=(fillF P).2,tick:=S.now}:Ev)=e at m1 lg
  have g0:lgOf S'.log={lgOf S.log with lf:=subL (subL (lgOf S.log).lf P.a.x (stOf P.wx).g (fillF P).1) P.a.y (stOf P.wy).g (fillF P).1}:=by
   rw[lg,A6a,←he];rfl
  have gov:∀a b,(lgOf S'.log).ov a b=(lgOf S.log).ov a b:=by rw[g0];exact fun _ _=>rfl
  have gtm:∀a b,(lgOf S'.log).tm a b=(lgOf S.log).tm a b:=by rw[g0];exact fun _ _=>rfl
  have glf:∀a b,(lgOf S'.log).lf a b=subL (subL (lgOf S.log).lf P.a.x (stOf P.wx).g (fillF P).1) P.a.y (stOf P.wy).g (fillF P).1 a b:=by rw[g0];exact fun _ _=>rfl
  have lfy:(lgOf S'.log).lf P.a.y (stOf P.wy).g=(stOf P.wy).l-(fillF P).1:=by rw[glf,D2i,B8r hxy,ly]
  have lfx:(lgOf S'.log).lf P.a.x (stOf P.wx).g=(stOf P.wx).l-(fillF P).1:=by rw[glf,B8r hyx,D2i,lx]
  have lfz:∀z g,z≠P.a.x→z≠P.a.y→(lgOf S'.log).lf z g=(lgOf S.log).lf z g:=fun z g z1 z2=>by rw[glf,B8r z2,B8r z1]
  have ok:EvOk S.c (lgOf S.log) e:=by
   subst he
   refine⟨fun _=>⟨ovx,ovy,hn,⟨hx,hy⟩,?_,?_,?_,?_,?_⟩,fun q=>?_,fun q=>?_⟩
   ·dsimp only;rw[gx,gy,tx,ty];exact⟨(B3j _).2.2.1,(B3j _).2.2.1⟩
   ·dsimp only;rw[gx,gy];exact m1
   ·dsimp only;rw[gx,gy];exact⟨m2,m3,k2⟩
   ·dsimp only;rw[lx,ly];exact⟨m4,m5⟩
   ·dsimp only;rw[lx,ly];exact⟨(A9u _).2.2.1.2,(A9u _).2.2.1.2⟩
   ·exact absurd q (by dsimp only;decide)
   ·exact absurd q (by dsimp only;decide)
  have el:(stx S' P.a.y).live=true→(stx S P.a.y).live=true:=fun _=>lvy
  refine⟨o.wi w (by rw[lg];exact A3g _ _ _ _ w.log ok) (fun _ _ _=>gov _ _) (fun _ _ _=>gtm _ _) (fun z z1 _ zl=>lfz _ _ (fun q=>by have:=St.loose_held (q▸zl:(stx S P.a.x).loose=true);rw[this]at a1;cases a1) z1) ?_ ?_ ?_ ?_,o.adv hy ?_ ?_ ?_ ?_ ?_,⟨?_,?_,?_,?_,?_,?_,?_,?_⟩,fun _=>.inl ⟨hi,hh,hf⟩,rfl⟩
  ·intro _;rw[es,k4,gov];exact ovy
  ·intro g hg;rw[gov];rw[es,k4,←hs]at hg;exact w.w0 _ hy g hg
  ·intro _;rw[es,k4,gtm,gy,ty]
  ·intro _;rw[es,k4,lfy,k5]
  ·rw[es,hs,k4];exact Int.le_refl _
  ·intro _ _;rw[es,hs,k4];exact⟨St.live_loose k1,rfl⟩
  ·intro q;rw[hs,St.loose_held k1]at q;cases q
  ·intro q;rw[lvy]at q;cases q
  ·intro z _ z1 z2
   refine lfz _ _ (fun q=>z2 ⟨⟨hi,hh,hf⟩,q⟩) (fun q=>?_)
   rw[q,hs,St.loose_held k1]at z1;cases z1
  ·intro _;show(stOf P.wx).g≤(stx S' P.a.x).g;rw[o.st _ hx hyx,a2];exact Int.le_refl _
  ·intro _ _ _;show P.tx=tmx S' P.a.x;rw[o.tm _ hx];exact tx
  ·intro _;show(stOf P.wy).g≤(stx S' P.a.y).g;rw[es,k4];exact Int.le_refl _
  ·intro _ _ _;show P.ty=tmx S' P.a.y;rw[o.tm _ hy];exact ty
  ·exact fun _=>hf
  ·intro k;dsimp only[next]at k;omega
  ·intro k;dsimp only[next]at k;omega
  ·intro _ _
   show(stx S' P.a.x).held=true∧(stx S' P.a.x).g=(stOf P.wx).g∧(stx S' P.a.x).l=(stOf P.wx).l∧(lgOf S'.log).lf P.a.x (stx S' P.a.x).g=(stx S' P.a.x).l-(fillF P).1
   rw[o.st _ hx hyx]
   exact⟨a1,a2,a3,by rw[a2,a3];exact lfx⟩
theorem try7(h:P.pc=7∨P.pc=9):TryK S P (next P (letF P S)):=by
 obtain⟨hx,hy,hn⟩:=A7l hi
 have nothing:TryK S P (next P (P,S)):=A7e w I h0 (.inr (by omega)) P.q P.p (.inl rfl)
 unfold letF
 split
 ·exact nothing
 rename_i hb
 have hh:P.held=true:=by cases e:P.held with
  |true=>rfl
  |false=>exact absurd (.inl e) hb
 have hf:P.free=false:=by cases e:P.free with
  |false=>rfl
  |true=>exact absurd (.inr e) hb
 obtain⟨a1,a2,a3,a4⟩:=I.act hh hf
 have ac:act S.c P:=⟨hi,hh,hf⟩
 generalize hq:(if P.made then P.q else 0)=q at a4⊢
 unfold letG
 split
 ·exact nothing
 rename_i ht
 have ht:(releaseF (stOf P.wx) q S.c.c5).1=0:=by simpa using ht
 cases hu:(S.turn P.a.x P.wx (releaseF (stOf P.wx) q S.c.c5).2).1 with
 |false=>exact nothing
 |true=>
  obtain⟨v,h1,h2,h3⟩:=A5v hu
  obtain⟨k1,k2,k3,k4,k5,k6⟩:=C9l ht
  rw[if_neg (by decide),h3]
  generalize (releaseF (stOf P.wx) q S.c.c5).2=t at*
  have hs:stx S P.a.x=stOf P.wx:=by unfold stx;rw[h2]
  have lvx:=St.live_held a1
  have ovx:(lgOf S.log).ov P.a.x (stOf P.wx).g=false:=by rw[←a2];exact w.w1 _ hx lvx
  have tx:P.tx=tmx S P.a.x:=I.tx (by omega) lvx a2
  have gx:(lgOf S.log).tm P.a.x (stOf P.wx).g=tmx S P.a.x:=by rw[←a2,w.w2 _ hx lvx]
  have lx:(lgOf S.log).lf P.a.x (stOf P.wx).g=(stOf P.wx).l-q:=by rw[a2,a3]at a4;exact a4
  have key:∀S':WS,OneSt S S' P.a.x→stx S' P.a.x=t→AllOk S.c LG.zero S'.log→(∀a b,(lgOf S'.log).tm a b=(lgOf S.log).tm a b)→(∀a b,(lgOf S'.log).lf a b=(lgOf S.log).lf a b)→
    (∀a b,¬(a=P.a.x∧b=t.g)→(lgOf S'.log).ov a b=(lgOf S.log).ov a b)→(t.live=true→(lgOf S'.log).ov P.a.x t.g=false)→
    TryK S P (next P ({P with free:=true,nx:=t,fin:=S.now},S')):=by
   intro S' o es al gtm glf gov gv
   refine⟨o.wi w al (fun z z1 g=>gov _ _ fun q=>z1 q.1) (fun _ _ _=>gtm _ _) (fun _ _ _ _=>glf _ _) ?_ ?_ ?_ ?_,o.adv hx ?_ ?_ ?_ ?_ ?_,⟨?_,?_,?_,?_,?_,?_,?_,?_⟩,fun _=>.inl ac,rfl⟩
   ·intro z;rw[es]at z⊢;exact gv z
   ·intro g hg;rw[es,k4]at hg;rw[gov _ _ (fun q=>by omega)];exact w.w0 _ hx g (by rw[hs];exact hg)
   ·intro _;rw[es,k4,gtm,gx]
   ·intro _;rw[es,k4,glf,k5];exact lx
   ·rw[es,hs,k4];exact Int.le_refl _
   ·intro _ _;rw[es,hs,k4];exact⟨by rw[←hs];exact lvx,rfl⟩
   ·intro _ z;exact absurd ⟨ac,rfl⟩ z
   ·intro z;rw[lvx]at z;cases z
   ·exact fun _ _ _ _=>glf _ _
   ·intro _;show(stOf P.wx).g≤(stx S' P.a.x).g;rw[es,k4];exact Int.le_refl _
   ·intro _ _ _;show P.tx=tmx S' P.a.x;rw[o.tm _ hx];exact tx
   ·intro _;show(stOf P.wy).g≤(stx S' P.a.y).g;exact Int.le_trans (I.wy (by omega)) ((o.adv (own:=fun _=>True) (rel:=fun _=>True) hx (by rw[es,hs,k4];exact Int.le_refl _) (fun _ _=>by rw[es,hs,k4];exact⟨by rw[←hs];exact lvx,rfl⟩) (fun _ z=>absurd trivial z) (fun _ z=>absurd trivial z) (fun _ _ _ _=>glf _ _)).mono _ hy)
   ·intro _ z1 z2
    show P.ty=tmx S' P.a.y
    rw[o.tm _ hy]
    by_cases e:P.a.y=P.a.x
    ·rw[e]at hn;exact absurd rfl hn
    ·change (stx S' P.a.y).live=true at z1
     change (stx S' P.a.y).g=(stOf P.wy).g at z2
     rw[o.st _ hy e]at z1 z2
     exact I.ty (by omega) z1 z2
   ·intro k;dsimp only[next]at k;omega
   ·intro k;dsimp only[next]at k;omega
   ·intro k;dsimp only[next]at k;omega
   ·intro _ z;cases z
  cases hov:t.over with
  |false=>
   rw[if_neg (by decide)]
   refine key _ (A5w hx v _ rfl rfl) (A2y w hx (A8j h1) _ rfl) w.log (fun _ _=>rfl) (fun _ _=>rfl) (fun _ _ _=>rfl) fun _=>?_
   rw[k4];exact ovx
  |true=>
   rw[if_pos rfl]
   have g0:∀e:Ev,e.kind=7→e.cell=P.a.x→e.gen=t.g→lgOf (S.log++[e])={lgOf S.log with ov:=up2 (lgOf S.log).ov P.a.x t.g true}:=by
    intro e e1 e2 e3
    rw[A6a];unfold stepL;rw[e1,e2,e3];rfl
   refine key _ (A5w hx v _ rfl rfl) (A2y w hx (A8j h1) _ rfl) (A3g _ _ _ _ w.log ⟨fun q=>absurd q (by dsimp only;decide),fun q=>absurd q (by dsimp only;decide),fun _=>?_⟩) (fun _ _=>?_) (fun _ _=>?_) (fun a b z=>?_) fun z=>?_
   ·show(lgOf S.log).ov P.a.x t.g=false
    rw[k4];exact ovx
   ·show(lgOf (S.log++_)).tm _ _=_
    rw[g0 _ rfl rfl rfl]
   ·show(lgOf (S.log++_)).lf _ _=_
    rw[g0 _ rfl rfl rfl]
   ·show(lgOf (S.log++_)).ov _ _=_
    rw[g0 _ rfl rfl rfl]
    show(if a=P.a.x∧b=t.g then true else(lgOf S.log).ov a b)=_
    rw[if_neg z]
   ·rw[D8d hov]at z;cases z
end
def TryJ(S:WS)(P:PairS):Prop:=0≤P.pc∧(idleF S.c P=false→TryI S P)
structure TryL(S:WS)(P:PairS)(R:PairS × WS):Prop where
 wi:WI R.2
 adv:Adv S R.2 (fun _=>False) (fun y=>act S.c P∧y=P.a.x)
 i:TryJ R.2 R.1
 new:act S.c R.1→act S.c P∨(InC S.c P.a.x∧(stx S P.a.x).loose=true)
 a:R.1.a=P.a
theorem D7c{S:WS}{P:PairS}(hc:S.c.ok)(w:WI S)(I:TryJ S P):TryL S P (pStepF P S):=by
 unfold pStepF
 split
 ·exact⟨w,(SameW.refl S).adv _ _,I,fun a=>.inl a,rfl⟩
 rename_i hpc
 cases hi:idleF S.c P with
 |true=>
  rw[if_pos rfl]
  exact⟨w,(SameW.refl S).adv _ _,⟨by have:=I.1;show 0≤P.pc+1;omega,fun q=>by have:idleF S.c P=false:=q;rw[hi]at this;cases this⟩,fun a=>.inl a,rfl⟩
 |false=>
  rw[if_neg (by decide)]
  have J:=I.2 hi
  have k:TryK S P (next P (pstepF P S)):=by
   unfold pstepF
   split
   ·exact try0 w J I.1 (by assumption)
   split
   ·exact try1 w J I.1 (by assumption)
   split
   ·exact try2 w J hi I.1 (by assumption)
   split
   ·exact try3 w J I.1 (by assumption)
   split
   ·exact try4 w J I.1 (by assumption)
   split
   ·exact try5 w J hi I.1 (by assumption)
   split
   ·exact try6 w J I.1 (by assumption)
   split
   ·exact try7 w J hi I.1 (by assumption)
   ·exact try10 hc w J hi I.1 (by have:=I.1;omega)
  exact⟨k.wi,k.adv,⟨by have:=I.1;show 0≤P.pc+1;omega,fun _=>k.i⟩,fun a=>(k.new a).imp id fun q=>⟨(A7l hi).1,q⟩,k.a⟩
theorem TryJ.adv{S S':WS}{P:PairS}{own rel:Int→Prop}(h:TryJ S P)(A:Adv S S' own rel)(hr:act S.c P→¬rel P.a.x):TryJ S' P:=
 ⟨h.1,fun hi=>by
  rw[A.c]at hi
  exact(h.2 hi).adv A (A7l hi).1 (A7l hi).2.1 fun a b=>hr ⟨hi,a,b⟩⟩
theorem TryJ.new(S:WS)(a:Aim):TryJ S (PairS.new a):=
 ⟨Int.le_refl _,fun _=>⟨fun k=>absurd k (show ¬(1:Int)≤0 by decide),fun k=>absurd k (show ¬(2:Int)≤0 by decide),fun k=>absurd k (show ¬(4:Int)≤0 by decide),fun k=>absurd k (show ¬(5:Int)≤0 by decide),fun _=>rfl,fun _=>rfl,fun _=>rfl,fun k=>absurd k (show ¬false=true by decide)⟩⟩
theorem D2q(c:Cf)(a:Aim):¬act c (PairS.new a):=fun h=>by have:=h.2.1;cases this
end Go.Proofs.YtcgcpjajghdbpaaGreat.P
