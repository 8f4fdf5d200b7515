import Derived.Test.YtngflpppkicnaaaGreatHeldB
import Derived.Test.YtngflpppkicnaaaGreatEngX
import Derived.KernelRfl
import Derived.Test.YtngflpppkicnaaaGreatPoolN
import Derived.Test.YtngflpppkicnaaaGreatOpenS
import Derived.Test.YtngflpppkicnaaaGreatProg
namespace Go.Proofs.YtngflpppkicnaaaGreat.P
open Go.RowKit Go.Proofs.YtngflpppkicnaaaGreat.Eng Go.Proofs.YtngflpppkicnaaaGreat Go.Proofs.YtngflpppkicnaaaGreat.Dat Go.Proofs.YtngflpppkicnaaaGreat.FDat
set_option linter.unusedVariables false
set_option linter.unusedSimpArgs false
set_option linter.unusedSectionVars false
section
theorem G3b{P:A0m}{n:Nat}(ok:A2t P n)(I:PI P)(H:PH P)(i:Nat)(x:A1o)(hx:P.A0c[i]?=some x):PH (A6d P i x).2:=by
 have hc:=ok.S.c
 have htr:tr P (2*i)=x.now.bind (·.2):=by
  unfold tr
  rw[if_pos (by omega),show 2*i/2=i by omega,hx];rfl
 unfold A6d
 have key:∀(x1:A1o) (pr:PrS) (o:Option A0a),x1.se=x.se→tr P (2*i)=o→A4d P.S i pr→0≤pr.pc→0≤pr.done→(pr.a.kind≠1∨pr.pc<4→o=none)→PH (A8t P i x1 pr o):=by
  intro x1 pr o e1 e2 Ip hp hd nu
  have hpart:x1.se.part=i:=by rw[e1];exact I.part i x hx
  have J:∀p,o=some p→A5g P.S p:=fun p hp=>I.tri (2*i) p (by rw[e2];exact hp)
  have k:=D2v (ss:=x1.nl) (po:=(P.use x1.ev).nl) (se:=x1.se) hc I.wi (by rw[hpart];exact Ip) J hp hd
  have q:=F8n (ss:=x1.nl) (po:=(P.use x1.ev).nl) (se:=x1.se) hc I.wi H.si (by rw[hpart];exact Ip) J (fun p hp=>H.tri (2*i) p (by rw[e2];exact hp)) hp hd nu
  unfold A8t
  generalize A3u pr o x1.se x1.nl (P.use x1.ev).nl P.S=R at*
  have main:∀(P':A0m) (x':A1o),P'.S=R.S→P'.A0c=P.A0c.set i x'→P'.sw=P.sw→((R.r≠none∧x'.now=none)∨(R.r=none∧x'.now=some (R.pr,R.o)))→PH P':=by
   intro P' x' f1 f2 f3 f6
   have hlt:i<P.A0c.length:=(List.getElem?_eq_some_iff.1 hx).1
   have tn:tr P' (2*i)=x'.now.bind (·.2):=by
    unfold tr
    rw[if_pos (by omega),show 2*i/2=i by omega,f2,List.getElem?_set,if_pos rfl,if_pos hlt];rfl
   refine PH.step I H (2*i) (by rw[f1,e2];exact k.adv) ?_ (fun m hm=>?_) (fun p hp=>?_) (fun j y pr' o' h hn=>?_)
   ·rw[f1,e2,tn]
    refine q.w.mono (fun _=>Iff.rfl) fun y a=>?_
    rcases f6 with⟨f6,f7⟩|⟨f6,f7⟩
    ·exact absurd a.1 f6
    ·rw[f7];exact a.2
   ·unfold tr
    rw[f3]
    split
    ·rw[f2,B3f _ _ (by omega)]
    ·rfl
   ·rw[tn]at hp;rw[f1]
    rcases f6 with⟨f6,f7⟩|⟨f6,f7⟩
    ·rw[f7]at hp;cases hp
    ·rw[f7]at hp;exact q.i f6 p hp
   ·rw[f2]at h
    rcases D5i h with⟨a,b⟩|⟨a,b⟩
    ·subst b
     rcases f6 with⟨f6,f7⟩|⟨f6,f7⟩
     ·rw[f7]at hn;cases hn
     ·rw[f7]at hn;cases hn;exact q.nu f6
    ·exact H.nu j y pr' o' b hn
  unfold B7t
  split
  ·rename_i hr;exact main _ _ rfl rfl rfl (.inr ⟨hr,rfl⟩)
  ·rename_i r hr;exact main _ _ rfl rfl rfl (.inl ⟨fun e=>(by rw[hr]at e;cases e),rfl⟩)
 unfold A1o.begun
 cases hn:x.now with
 |some v=>
  obtain⟨pr,o⟩:=v
  rw[hn]at htr
  have po:=(ok.A0c x (List.mem_of_getElem? hx)).prog pr o hn
  exact key x pr o rfl htr (I.prog i x pr o hx hn) po.pc.1 po.done.1 (H.nu i x pr o hx hn)
 |none=>
  rw[hn]at htr
  cases x.queue with
  |nil=>exact H
  |cons q t=>exact key _ _ _ rfl htr (PrS.D2r _ _ _) (Int.le_refl _) (Int.le_refl _) fun _=>rfl
theorem G0d{P:A0m}{n:Nat}(ok:A2t P n)(I:PI P)(H:PH P)(j:Nat)(y:SwS × Option A0a)(hy:P.sw[j]?=some y):PH (A5z P j y):=by
 have hc:=ok.S.c
 have hlt:j<P.sw.length:=(List.getElem?_eq_some_iff.1 hy).1
 have htr:tr P (2*j+1)=y.2:=by
  unfold tr
  rw[if_neg (by omega),show(2*j+1)/2=j by omega,hy];rfl
 have k:B4e P.S y.2 (A1c (A3z y.1 P.S.c y.2) P.S).2 (some (A1c (A3z y.1 P.S.c y.2) P.S).1)∧
   W2 P.S (A1c (A3z y.1 P.S.c y.2) P.S).2 (A6a P.S.c y.2) (A6a P.S.c (some (A1c (A3z y.1 P.S.c y.2) P.S).1))∧B2k (A1c (A3z y.1 P.S.c y.2) P.S).2 (A1c (A3z y.1 P.S.c y.2) P.S).1:=by
  have nw:∀o a,(∀y,¬A6a P.S.c o y)→B4e P.S o (A1c (A0a.new a) P.S).2 (some (A1c (A0a.new a) P.S).1)∧W2 P.S (A1c (A0a.new a) P.S).2 (A6a P.S.c o) (A6a P.S.c (some (A1c (A0a.new a) P.S).1))∧B2k (A1c (A0a.new a) P.S).2 (A1c (A0a.new a) P.S).1:=by
   intro o a na
   have k:=C1f hc I.wi H.si (A5g.new P.S a) (B2k.new P.S a)
   have ka:=(B5z hc I.wi (A5g.new P.S a)).a
   exact⟨B4e.step hc I.wi (A5g.new _ _) fun q=>(B2f _ _ q).elim,k.w.mono (fun y=>⟨fun q=>(B2f _ _ q.1).elim,fun q=>(na y q).elim⟩) (fun y q=>(B8t y).1 ⟨q.1,by rw[ka];exact q.2⟩),k.i⟩
  unfold A3z
  cases h:y.2 with
  |none=>exact nw _ _ fun y ⟨P,e,_⟩=>by cases e
  |some p=>
   have Jp:=I.tri _ p (by rw[htr];exact h)
   have Hp:=H.tri _ p (by rw[htr];exact h)
   dsimp only
   split
   ·rename_i hp
    refine nw _ _ fun y ⟨P',e,a,_⟩=>?_
    cases e
    have:=Hp.p9 a;omega
   ·have k:=C1f hc I.wi H.si Jp Hp
    have ka:=(B5z hc I.wi Jp).a
    exact⟨B4e.step hc I.wi Jp fun q=>⟨p,rfl,q,rfl⟩,k.w.mono B8t fun y q=>(B8t y).1 ⟨q.1,by rw[ka];exact q.2⟩,k.i⟩
 have tn:tr (A5z P j y) (2*j+1)=some (A1c (A3z y.1 P.S.c y.2) P.S).1:=by
  unfold tr
  rw[if_neg (by omega),show(2*j+1)/2=j by omega]
  show((P.sw.set j _)[j]?).bind _=_
  rw[List.getElem?_set,if_pos rfl,if_pos hlt];rfl
 refine PH.step I H (2*j+1) (by rw[htr];exact k.1.adv) (by rw[htr,tn];exact k.2.1) (fun m hm=>?_) (fun p hp=>?_) (fun i x pr o h hn=>H.nu i x pr o h hn)
 ·unfold tr
  split
  ·rfl
  ·show((P.sw.set j _)[m/2]?).bind _=_
   rw[B3f _ _ (by omega)]
 ·rw[tn]at hp;cases hp;exact k.2.2
theorem PH.none{P P':A0m}(I:PI P)(H:PH P)(A:Adv P.S P'.S No No)(B:W2 P.S P'.S No No)(ht:∀n,tr P' n=tr P n)(nu:∀(i:Nat) x pr o,P'.A0c[i]?=some x→x.now=some (pr,o)→pr.a.kind≠1∨pr.pc<4→o=none):PH P':=by
 refine⟨fun x hx=>?_,fun n p hp=>?_,fun x hx hh=>?_,nu⟩
 ·rw[A.c]at hx⊢;exact B.s x hx (H.si x hx)
 ·rw[ht]at hp
  exact(H.tri n p hp).adv (I.tri n p hp) A B fun _ q=>q
 ·rw[A.c]at hx⊢
  rcases B.h x hx hh with⟨a,b⟩|a
  ·obtain⟨n,k⟩:=H.hold x hx a
   exact⟨n,by rw[ht];exact k⟩
  ·exact a.elim
theorem G0j{P:A0m}{n:Nat}(ok:A2t P n)(I:PI P)(H:PH P)(j:Nat)(y:ReS)(hy:P.re[j]?=some y):PH (A9x P j y):=by
 have hc:=ok.S.c
 have ro:=ok.re y (List.mem_of_getElem? hy)
 exact PH.none I H ((D9c hc I.wi ro (I.re j y hy)).2.1 _ _) (H1b hc I.wi ro (I.re j y hy)) (fun _=>rfl) H.nu
theorem G2f{P:A0m}{n:Nat}(ok:A2t P n)(I:PI P)(H:PH P)(ag:Int):PH (A3w P ag).2:=by
 unfold A3w
 split
 ·exact H
 split
 ·split
  ·rename_i h;exact G3b ok I H _ _ h
  ·exact H
 split
 ·split
  ·rename_i h;exact G0d ok I H _ _ h
  ·exact H
 ·split
  ·rename_i h;exact G0j ok I H _ _ h
  ·exact H
theorem PH.same{P P':A0m}(I:PI P)(H:PH P)(hS:A1w P.S P'.S)(hW:Wd P.S P'.S)(hs:∀i:Nat,(P'.A0c[i]?).map (fun x=>x.now)=(P.A0c[i]?).map (fun x=>x.now))(hw:P'.sw=P.sw):PH P':=by
 have key:∀(i:Nat) x,P'.A0c[i]?=some x→∃y,P.A0c[i]?=some y∧y.now=x.now:=by
  intro i x h
  have:=hs i
  rw[h]at this
  cases h':P.A0c[i]? with
  |none=>rw[h']at this;cases this
  |some y=>rw[h']at this;simp only[Option.map_some,Option.some.injEq]at this;exact⟨y,rfl,this.symm⟩
 have ht:∀n,tr P' n=tr P n:=by
  intro n
  unfold tr
  rw[hw]
  split
  ·have:=hs (n/2)
   cases h:P'.A0c[n/2]? with
   |none=>
    rw[h]at this
    cases h':P.A0c[n/2]? with
    |none=>rfl
    |some y=>rw[h']at this;cases this
   |some x=>
    obtain⟨y,k1,k3⟩:=key _ x h
    rw[k1]
    show x.now.bind _=y.now.bind _
    rw[k3]
  ·rfl
 refine PH.none I H (hS.adv _ _) (hW.w2 fun _ h=>h) ht fun i x pr o h hn=>?_
 obtain⟨y,k1,k3⟩:=key i x h
 exact H.nu i y pr o k1 (by rw[k3];exact hn)
theorem F6p{P:A0m}{n:Nat}(at_:A3c P n)(hn:n≤100000000)(I:PI P)(H:PH P)(e:PEv):PH (doP P e).2:=by
 have ok:=at_.ok
 have sm:∀P':A0m,A1w P.S P'.S→Wd P.S P'.S→(∀i:Nat,(P'.A0c[i]?).map (fun x=>x.now)=(P.A0c[i]?).map (fun x=>x.now))→P'.sw=P.sw→PH P':=fun P' a b c d=>PH.same I H a b c d
 have hg:PH P.got:=sm _ (A1w.refl _) (Wd.refl _) (fun _=>rfl) rfl
 have ig:PI P.got:=I.same ok.S.c ok.re (A1w.refl _) (fun _=>rfl) rfl rfl
 have no:PH P.got.on:=sm _ (A1w.refl _) (Wd.refl _) (fun _=>rfl) rfl
 have st:∀(P':A0m) (i:Nat) (x x':A1o),P.A0c[i]?=some x→P'.A0c=P.A0c.set i x'→x'.now=x.now→P'.S=P.S→P'.sw=P.sw→PH P':=by
  intro P' i x x' h1 h2 h4 h5 h6
  refine sm P' (by rw[h5];exact A1w.refl _) (by rw[h5];exact Wd.refl _) (fun j=>?_) h6
  rw[h2]
  by_cases hj:j=i
  ·subst hj
   rw[List.getElem?_set,if_pos rfl,if_pos (List.getElem?_eq_some_iff.1 h1).1,h1]
   simp only[Option.map_some,h4]
  ·rw[B3f _ _ hj]
 unfold doP
 split
 ·exact sm _ ⟨rfl,fun _ _=>rfl,fun _ _=>rfl,rfl,rfl⟩ (fun _ _=>rfl) (fun _=>rfl) rfl
 split
 ·have k:=G2f (B9k ok) ig hg e.who
  have ki:=F0m (B9k ok) ig e.who
  exact PH.same ki k (A1w.refl _) (Wd.refl _) (fun _=>rfl) rfl
 split
 ·split
  ·split
   ·rename_i h;exact st _ _ _ _ h rfl rfl rfl rfl
   ·exact no
  split
  ·split
   ·rename_i h;exact st _ _ _ _ h rfl rfl rfl rfl
   ·exact no
  ·exact no
 ·exact no
theorem G9p(es:List PEv):∀{P:A0m} {n:Nat},A3c P n→PI P→PH P→n+es.length≤100000→(∀e ∈ es,e.wf)→PH (B8i P es):=by
 induction es with
 |nil=>intro P n _ _ H _ _;exact H
 |cons e es ih=>
  intro P n at_ I H hn hw
  simp only[List.length_cons]at hn
  exact ih (C9c at_ (by omega) e (hw e (List.mem_cons_self ..))) (F4e at_ (by omega) I e) (F6p at_ (by omega) I H e) (by omega) (fun e' he=>hw e' (List.mem_cons_of_mem _ he))
theorem G8h(c:Cf)(hc:c.ok):PH (A2h c):=by
 have hst:∀x,stx (B5n c) x=St.zero:=fun x=>by unfold stx WS.word B5n;dsimp only;rw[F6j];rfl
 have hs:∀(i:Nat) x,(A2h c).A0c[i]?=some x→x=A4k c i:=fun i x h=>C6t (f:=fun(i:Nat)=>A4k c i) h
 have hw:∀(i:Nat) x,(A2h c).sw[i]?=some x→x=B2p i:=fun i x h=>C6t (f:=fun(i:Nat)=>B2p i) h
 have ht:∀n p,tr (A2h c) n=some p→False:=by
  intro n p h
  unfold tr at h
  split at h
  ·cases e:(A2h c).A0c[n/2]? with
   |none=>rw[e]at h;cases h
   |some x=>rw[e,hs _ _ e]at h;cases h
  ·cases e:(A2h c).sw[n/2]? with
   |none=>rw[e]at h;cases h
   |some x=>rw[e,hw _ _ e]at h;cases h
 refine⟨fun x _=>?_,fun n p h=>(ht n p h).elim,fun x _ h=>?_,fun i x pr o h hn=>?_⟩
 ·rw[show(A2h c).S=B5n c from rfl,hst];exact .dead rfl rfl
 ·rw[show(A2h c).S=B5n c from rfl,hst]at h;cases h
 ·rw[hs i x h]at hn;cases hn
end
section
def E2m(x:A1o):Bool:=x.now.isNone&&x.queue.isEmpty
def A2e(P:A0m)(a:Nat):Bool:=
 if a<P.A0c.length then((P.A0c[a]?).map E2m).getD true
 else if a-P.A0c.length<P.sw.length then((P.sw[a-P.A0c.length]?).map fun y=>y.1.at_ == 0&&A4l y.2).getD true
 else((P.re[a-P.A0c.length-P.sw.length]?).map fun y=>y.pc == 0).getD true
def A1x(P:A0m):Nat:=P.A0c.length+P.sw.length+P.re.length
theorem E7m{P:A0m}(H:PH P)(hb:∀a,a<A1x P→A2e P a=true)(n:Nat)(y:Int):¬A6a P.S.c (tr P n) y:=by
 rintro⟨p,h,ac,_⟩
 have Hp:=H.tri n p h
 unfold tr at h
 split at h
 ·cases e:P.A0c[n/2]? with
  |none=>rw[e]at h;cases h
  |some x=>
   rw[e]at h
   have hl:=(List.getElem?_eq_some_iff.1 e).1
   have:=hb (n/2) (by unfold A1x;omega)
   unfold A2e at this
   rw[if_pos hl,e]at this
   have h:x.now.bind (·.2)=some p:=h
   have this:(x.now.isNone&&x.queue.isEmpty)=true:=this
   cases en:x.now with
   |none=>rw[en]at h;cases h
   |some v=>rw[en]at this;cases this
 ·cases e:P.sw[n/2]? with
  |none=>rw[e]at h;cases h
  |some x=>
   rw[e]at h
   have hl:=(List.getElem?_eq_some_iff.1 e).1
   have:=hb (P.A0c.length+n/2) (by unfold A1x;omega)
   unfold A2e at this
   rw[if_neg (by omega),if_pos (by omega),show P.A0c.length+n/2-P.A0c.length=n/2 by omega,e]at this
   have h:x.2=some p:=h
   have this:(x.1.at_ == 0&&A4l x.2)=true:=this
   rw[h,Bool.and_eq_true]at this
   have h2:decide (p.pc≥14)=true:=this.2
   rw[decide_eq_true_eq]at h2
   have:=Hp.p9 ac
   omega
theorem F3j{P:A0m}(H:PH P)(hb:∀a,a<A1x P→A2e P a=true)(x:Int)(hx:InC P.S.c x):(stx P.S x).held=false∧(stx P.S x).f=false:=by
 have h1:(stx P.S x).held=false:=by
  cases e:(stx P.S x).held with
  |false=>rfl
  |true=>
   obtain⟨n,k⟩:=H.hold x hx e
   exact absurd k (E7m H hb n x)
 refine⟨h1,?_⟩
 cases e:(stx P.S x).f with
 |false=>rfl
 |true=>have:=(H.si x hx).2 e;rw[h1]at this;cases this
theorem F4m{α:Type}[DecidableEq α]:∀{l m:List α},l.Nodup→(∀x ∈ l,x ∈ m)→l.length≤m.length
 |[],m,_,_=>Nat.zero_le _
 |a::l,m,hn,hs=>by
  obtain⟨h1,h2⟩:=List.nodup_cons.1 hn
  have hm:=hs a (List.mem_cons_self ..)
  have:=F4m (m:=m.erase a) h2 fun x hx=>(List.mem_erase_of_ne fun e=>h1 (by rw[←e];exact hx)).2 (hs x (List.mem_cons_of_mem _ hx))
  rw[List.length_erase_of_mem hm]at this
  have h3:=List.length_pos_of_mem hm
  simp only[List.length_cons];omega
theorem E6e{α β:Type}{f:α→β}:∀{l:List α},l.Nodup→(∀x ∈ l,∀y ∈ l,f x=f y→x=y)→(l.map f).Nodup
 |[],_,_=>List.nodup_nil
 |a::l,hn,hf=>by
  obtain⟨h1,h2⟩:=List.nodup_cons.1 hn
  rw[List.map_cons,List.nodup_cons]
  refine⟨fun h=>?_,E6e h2 fun x hx y hy=>hf x (List.mem_cons_of_mem _ hx) y (List.mem_cons_of_mem _ hy)⟩
  obtain⟨y,hy,e⟩:=List.mem_map.1 h
  have:=hf a (List.mem_cons_self ..) y (List.mem_cons_of_mem _ hy) e.symm
  exact h1 (by rw[this];exact hy)
def B5r(P:A0m)(n:Nat):Nat:=if n%2=0 then n/2 else P.A0c.length+n/2
theorem F1l{P:A0m}(H:PH P){n:Nat}{y:Int}(h:A6a P.S.c (tr P n) y):B5r P n<A1x P∧A2e P (B5r P n)=false∧∀m z,A6a P.S.c (tr P m) z→B5r P m=B5r P n→m=n:=by
 have bd:∀m z,A6a P.S.c (tr P m) z→(m%2=0→m/2<P.A0c.length)∧(m%2≠0→m/2<P.sw.length):=by
  rintro m z ⟨p,h,_⟩
  unfold tr at h
  refine⟨fun q=>?_,fun q=>?_⟩
  ·rw[if_pos q]at h
   cases e:P.A0c[m/2]? with
   |none=>rw[e]at h;cases h
   |some x=>exact(List.getElem?_eq_some_iff.1 e).1
  ·rw[if_neg q]at h
   cases e:P.sw[m/2]? with
   |none=>rw[e]at h;cases h
   |some x=>exact(List.getElem?_eq_some_iff.1 e).1
 have b0:=bd n y h
 refine⟨?_,?_,fun m z hm e=>?_⟩
 ·unfold B5r A1x
  split
  ·rename_i q;have:=b0.1 q;omega
  ·rename_i q;have:=b0.2 q;omega
 ·obtain⟨p,h,ac,_⟩:=h
  have Hp:=(H.tri n p h).p9 ac
  unfold tr at h
  unfold B5r A2e
  split at h
  ·rename_i q
   rw[if_pos q,if_pos (b0.1 q)]
   cases e:P.A0c[n/2]? with
   |none=>rw[e]at h;cases h
   |some x=>
    rw[e]at h
    have h:x.now.bind (·.2)=some p:=h
    show(x.now.isNone&&x.queue.isEmpty)=false
    cases en:x.now with
    |none=>rw[en]at h;cases h
    |some v=>rfl
  ·rename_i q
   rw[if_neg q,if_neg (by omega),if_pos (by have:=b0.2 q;omega),show P.A0c.length+n/2-P.A0c.length=n/2 by omega]
   cases e:P.sw[n/2]? with
   |none=>rw[e]at h;cases h
   |some x=>
    rw[e]at h
    have h:x.2=some p:=h
    show(x.1.at_ == 0&&A4l x.2)=false
    rw[h]
    have:A4l (some p)=false:=decide_eq_false (by omega)
    rw[this,Bool.and_false]
 ·have b1:=bd m z hm
  unfold B5r at e
  split at e<;>split at e
  ·omega
  ·rename_i q1 q2;have:=b1.1 q1;omega
  ·rename_i q1 q2;have:=b0.1 q2;omega
  ·omega
def C4z(P:A0m):List Nat:=(List.range (A0p P.S.c).toNat).filter fun x=>(stx P.S x).held
def F9f(P:A0m):List Nat:=(List.range (A1x P)).filter fun a=>!A2e P a
theorem G4c{P:A0m}(H:PH P):(C4z P).length≤(F9f P).length:=by
 have hx:∀x ∈ C4z P,InC P.S.c (x:Int)∧(stx P.S x).held=true:=by
  intro x h
  obtain⟨h1,h2⟩:=List.mem_filter.1 h
  rw[List.mem_range]at h1
  exact⟨⟨by omega,by omega⟩,h2⟩
 have ex:∀x:Nat,∃n:Nat,x ∈ C4z P→A6a P.S.c (tr P n) x:=by
  intro x
  by_cases h:x ∈ C4z P
  ·obtain⟨n,k⟩:=H.hold x (hx x h).1 (hx x h).2
   exact⟨n,fun _=>k⟩
  ·exact⟨0,fun q=>absurd q h⟩
 obtain⟨f,hf⟩:=Classical.skolem.1 ex
 have nd:((C4z P).map fun x=>B5r P (f x)).Nodup:=by
  refine E6e (List.Pairwise.filter _ List.nodup_range) fun x h y h' e=>?_
  have:=(F1l H (hf y h')).2.2 (f x) x (hf x h) e
  obtain⟨p,p1,_,p2⟩:=hf x h
  obtain⟨q,q1,_,q2⟩:=hf y h'
  rw[this,q1]at p1
  cases p1
  omega
 have:=F4m nd (m:=F9f P) fun a h=>by
  obtain⟨x,h1,rfl⟩:=List.mem_map.1 h
  have k:=F1l H (hf x h1)
  refine List.mem_filter.2 ⟨List.mem_range.2 k.1,?_⟩
  simp only[k.2.1,Bool.not_false]
 rw[List.length_map]at this
 exact this
end
section
def E3c:Option A0a→Nat
 |some p=>(14-p.pc).toNat
 |none=>0
def muA(pr:PrS)(o:Option A0a):Nat:=
 if pr.a.kind=1 then(if pr.pc<4 then 1430+(4-pr.pc).toNat else 1+(10-pr.tries).toNat+14*((pr.A3o.length:Int)-pr.n).toNat+E3c o)else(12-pr.pc).toNat+1
def muS(x:A1o):Nat:=1500*x.queue.length+(match x.now with|some (pr,o)=>muA pr o|none=>0)
def opc:Option A0a→Int
 |some p=>if p.pc≥14 then 0 else p.pc
 |none=>0
def muW(c:Cf)(y:SwS × Option A0a):Nat:=if(y.1.at_ == 0&&A4l y.2)=true then 0 else(15*(A0p c*A0p c-y.1.at_)-opc y.2).toNat
def muR(c:Cf)(y:ReS):Nat:=if y.pc=0 then 0 else(4*A0p c-y.pc).toNat
def mu(P:A0m)(a:Nat):Nat:=
 if a<P.A0c.length then((P.A0c[a]?).map muS).getD 0
 else if a-P.A0c.length<P.sw.length then((P.sw[a-P.A0c.length]?).map (muW P.S.c)).getD 0
 else((P.re[a-P.A0c.length-P.sw.length]?).map (muR P.S.c)).getD 0
theorem H0z(pr:PrS)(o:Option A0a):1≤muA pr o:=by
 unfold muA
 split
 ·split<;>omega
 ·omega
theorem D7n{P:A0a}{S:WS}(h:P.pc<14):(A1c P S).1.pc=P.pc+1:=by
 unfold A1c
 rw[if_neg (by omega)]
 split<;>rfl
def MuT(pr:PrS)(o:Option A0a)(S:WS)(T:Tr):Prop:=
 (T.b=true→14*((pr.A3o.length:Int)-T.n).toNat+E3c T.o<14*((pr.A3o.length:Int)-pr.n).toNat+E3c o)∧(T.b=false→T.n=pr.n∧T.o=o∧T.S=S)
theorem H0k(pr:PrS)(o:Option A0a)(ss:A0g)(po:A0d)(S:WS):MuT pr o S (A1y pr o ss po S):=by
 have nw:∀(a:Aim) (ss:A0g) (po:A0d),pr.n<pr.A3o.length→MuT pr o S (A2d (pr.n+1) (some (A0a.new a)) ss po S):=by
  intro a ss po hn
  unfold A2d
  dsimp only
  rw[if_neg (show ¬(A0a.new a).pc≥14 by show ¬(0:Int)≥14;decide)]
  refine⟨fun _=>?_,fun q=>by cases q⟩
  have e:(A1c (A0a.new a) S).1.pc=1:=D7n (show(0:Int)<14 by decide)
  show 14*((pr.A3o.length:Int)-(pr.n+1)).toNat+(14-(A1c (A0a.new a) S).1.pc).toNat<_
  rw[e];omega
 unfold A1y
 split
 ·rename_i h
  split
  ·exact nw _ _ _ h.2
  ·exact nw _ _ _ h.2
 ·unfold A2d
  cases o with
  |none=>exact⟨fun q=>(by cases q),fun _=>⟨rfl,rfl,rfl⟩⟩
  |some p=>
   dsimp only
   split
   ·exact⟨fun q=>(by cases q),fun _=>⟨rfl,rfl,rfl⟩⟩
   ·rename_i hp
    refine⟨fun _=>?_,fun q=>by cases q⟩
    have e:=D7n (S:=S) (show p.pc<14 by omega)
    show 14*((pr.A3o.length:Int)-pr.n).toNat+(14-(A1c p S).1.pc).toNat<14*((pr.A3o.length:Int)-pr.n).toNat+(14-p.pc).toNat
    rw[e];omega
theorem G9h(x:Int)(pr:PrS)(S:WS)(h:(A1f x pr S).1=true)(hc:S.c.ok):(A1f x pr S).2.1.a=pr.a∧(A1f x pr S).2.1.pc=pr.pc∧(A1f x pr S).2.1.A3o=pr.A3o∧(A1f x pr S).2.1.n=pr.n∧(10-(A1f x pr S).2.1.tries).toNat<(10-pr.tries).toNat:=by
 have hc5:=hc.2.2.2.2.2.1
 unfold A1f at h⊢
 split at h
 ·cases h
 rename_i h1
 rw[if_neg h1]
 have e:(10-(pr.tries+1)).toNat<(10-pr.tries).toNat:=by omega
 repeat' (first|exact⟨rfl,rfl,rfl,rfl,e⟩|split)
theorem H2o(x:Int)(pr:PrS)(se:A0k)(S:WS):(A3j x pr se S).1.a=pr.a:=by
 unfold A3j
 repeat' (first|rfl|split)
theorem G5t{S:WS}{pr:PrS}{o:Option A0a}{se:A0k}{ss:A0g}{po:A0d}(hc:S.c.ok)(hp:0≤pr.pc)(hn:0≤pr.n)(ht:0≤pr.tries)(nu:pr.a.kind≠1∨pr.pc<4→o=none)
  (hr:(A3u pr o se ss po S).r=none):muA (A3u pr o se ss po S).pr (A3u pr o se ss po S).o<muA pr o:=by
 unfold A3u at hr⊢
 split at hr
 ·rename_i hk
  rw[if_pos hk]
  unfold B0l at hr⊢
  split at hr
  ·rename_i hpc
   rw[if_pos hpc]
   have on:=nu (.inr hpc)
   subst on
   have e0:muA pr none=1430+(4-pr.pc).toNat:=by unfold muA;rw[if_pos hk,if_pos hpc]
   rw[e0]
   have hr:(A1s (A0o S.c se.part pr.a.cell) pr se S).r=none:=hr
   show muA (A1s (A0o S.c se.part pr.a.cell) pr se S).pr none<_
   have lt3:∀p:PrS,p.a=pr.a→p.pc=pr.pc+1→pr.pc<3→muA p none<1430+(4-pr.pc).toNat:=by
    intro p e1 e2 e3
    unfold muA
    rw[e1,if_pos hk,e2,if_pos (by omega)];omega
   unfold A1s at hr⊢
   split at hr
   ·rename_i h0
    rw[if_pos h0]
    split at hr
    ·cases hr
    ·rename_i h1
     rw[if_neg h1]
     exact lt3 _ rfl rfl (by omega)
   rename_i n0
   rw[if_neg n0]
   split at hr
   ·rename_i h0
    rw[if_pos h0]
    split at hr
    ·cases hr
    ·rename_i h1
     rw[if_neg h1]
     exact lt3 _ rfl rfl (by omega)
   rename_i n1
   rw[if_neg n1]
   split at hr
   ·rename_i h0
    rw[if_pos h0]
    exact lt3 _ rfl rfl (by omega)
   rename_i n2
   rw[if_neg n2]
   rw[if_pos (by omega)]
   have:=F3g S.c hc (A0o S.c se.part pr.a.cell) pr.st.g pr.a.tm
   unfold muA
   dsimp only
   rw[if_pos hk,if_neg (by omega)]
   show _+(0:Nat)<_
   omega
  ·rename_i hpc
   rw[if_neg hpc]
   have k:=H0k pr o ss po S
   have e0:muA pr o=1+(10-pr.tries).toNat+14*((pr.A3o.length:Int)-pr.n).toNat+E3c o:=by unfold muA;rw[if_pos hk,if_neg hpc]
   rw[e0]
   generalize A1y pr o ss po S=T at*
   unfold B3j at hr⊢
   split at hr
   ·rename_i hb
    rw[if_pos hb]
    have k:=k.1 hb
    unfold muA
    dsimp only
    rw[if_pos hk,if_neg hpc]
    omega
   ·rename_i hb
    rw[if_neg hb]
    obtain⟨k1,k2,kS⟩:=k.2 (by simpa using hb)
    split at hr
    ·rename_i h1
     rw[if_pos h1]
     obtain⟨r1,r2,r3,r4,r5⟩:=G9h _ _ _ h1 (by rw[kS];exact hc)
     dsimp only at r1 r2 r3 r4 r5⊢
     unfold muA
     rw[r1,if_pos hk,r2,if_neg hpc,r3,r4,k2]
     omega
    ·cases hr
 rename_i hk
 rw[if_neg hk]
 have e0:muA pr o=(12-pr.pc).toNat+1:=by unfold muA;rw[if_neg hk]
 rw[e0]
 have lt:∀(p:PrS) (o:Option A0a),p.a=pr.a→p.pc=pr.pc+1→pr.pc<12→muA p o<(12-pr.pc).toNat+1:=by
  intro p o e1 e2 e3
  unfold muA
  rw[e1,if_neg hk,e2];omega
 split at hr
 ·rename_i k2
  rw[if_pos k2]
  have hr:(A1n (A0o S.c se.part pr.a.cell) pr se S).r=none:=hr
  show muA (A1n (A0o S.c se.part pr.a.cell) pr se S).pr o<_
  unfold A1n at hr⊢
  split at hr
  ·rename_i h0
   rw[if_pos h0]
   split at hr
   ·cases hr
   ·rename_i h1;rw[if_neg h1];exact lt _ _ rfl rfl (by omega)
  rename_i n0
  rw[if_neg n0]
  split at hr
  ·rename_i h0
   rw[if_pos h0]
   refine lt _ _ ?_ rfl (by omega)
   dsimp only[A8f];split<;>rfl
  rename_i n1
  rw[if_neg n1]
  split at hr
  ·rename_i h0
   rw[if_pos h0]
   exact lt _ _ (H2o _ _ _ _) rfl (by omega)
  rename_i n2
  rw[if_neg n2]
  split at hr
  ·rename_i h0
   rw[if_pos h0]
   exact lt _ _ rfl rfl (by omega)
  ·cases hr
 rename_i n2
 rw[if_neg n2]
 split at hr
 ·rename_i k3
  rw[if_pos k3]
  have hr:(A2q (A0o S.c se.part pr.a.cell) pr se S).r=none:=hr
  show muA (A2q (A0o S.c se.part pr.a.cell) pr se S).pr o<_
  unfold A2q at hr⊢
  split at hr
  ·cases hr
  rename_i h0
  rw[if_neg h0]
  split at hr
  ·rename_i h1
   rw[if_pos h1];exact lt _ _ rfl rfl (by omega)
  rename_i h1
  rw[if_neg h1]
  split at hr
  ·rename_i h2
   rw[if_pos h2]
   split
   ·exact lt _ _ rfl rfl (by omega)
   ·exact lt _ _ rfl rfl (by omega)
  rename_i h2
  rw[if_neg h2]
  split at hr
  ·rename_i h3
   rw[if_pos h3];exact lt _ _ rfl rfl (by omega)
  ·cases hr
 rename_i n3
 rw[if_neg n3]
 split at hr
 ·rename_i k4
  rw[if_pos k4]
  have hr:(A2k pr se S).r=none:=hr
  show muA (A2k pr se S).pr o<_
  unfold A2k at hr⊢
  have hc1:=hc.2.1
  split at hr
  ·cases hr
  rename_i h0
  rw[if_neg h0]
  split at hr
  ·rename_i h1
   rw[if_pos h1];exact lt _ _ rfl rfl (by omega)
  ·rename_i h1
   rw[if_neg h1];exact lt _ _ rfl rfl (by omega)
 ·cases hr
def zAsk:Ask:=⟨0,0,0,⟨0,0,0,0,0⟩,0⟩
def B9d(a:Nat):PEv:=⟨3,a,0,zAsk⟩
theorem G7d(P:A0m)(a:Nat):(doP P (B9d a)).2=(A3w P.got a).2.on:=by
 unfold doP
 rw[if_neg (show ¬(B9d a).kind=2 by show ¬(3:Int)=2;decide),if_pos (show(B9d a).kind=3 from rfl)];rfl
structure Oth(P P':A0m)(a:Nat):Prop where
 c:P'.S.c=P.S.c
 sl:P'.A0c.length=P.A0c.length
 wl:P'.sw.length=P.sw.length
 rl:P'.re.length=P.re.length
 ss:∀i,i≠a→P'.A0c[i]?=P.A0c[i]?
 sw:∀j,P.A0c.length+j≠a→P'.sw[j]?=P.sw[j]?
 re:∀j,P.A0c.length+P.sw.length+j≠a→P'.re[j]?=P.re[j]?
theorem Oth.mu{P P':A0m}{a:Nat}(h:Oth P P' a){b:Nat}(hb:b≠a):mu P' b=mu P b∧A2e P' b=A2e P b:=by
 unfold Go.Proofs.YtngflpppkicnaaaGreat.P.mu A2e
 rw[h.sl,h.wl,h.c]
 by_cases h1:b<P.A0c.length
 ·rw[if_pos h1,if_pos h1,if_pos h1,if_pos h1,h.ss b hb];exact⟨rfl,rfl⟩
 rw[if_neg h1,if_neg h1,if_neg h1,if_neg h1]
 by_cases h2:b-P.A0c.length<P.sw.length
 ·rw[if_pos h2,if_pos h2,if_pos h2,if_pos h2,h.sw _ (by omega)];exact⟨rfl,rfl⟩
 ·rw[if_neg h2,if_neg h2,if_neg h2,if_neg h2,h.re _ (by omega)];exact⟨rfl,rfl⟩
theorem H2a{P:A0m}{n i:Nat}{x:A1o}(ok:A2t P n)(I:PI P)(H:PH P)(hx:P.A0c[i]?=some x)(hb:E2m x=false):
  Oth P (A6d P i x).2 i∧∃x',(A6d P i x).2.A0c[i]?=some x'∧muS x'<muS x:=by
 have hc:=ok.S.c
 have hlt:i<P.A0c.length:=(List.getElem?_eq_some_iff.1 hx).1
 have key:∀(x1:A1o) (pr:PrS) (o:Option A0a),0≤pr.pc→0≤pr.n→0≤pr.tries→(pr.a.kind≠1∨pr.pc<4→o=none)→1500*x1.queue.length+muA pr o≤muS x→A4d P.S i pr→0≤pr.done→x1.se=x.se→o=tr P (2*i)→
   Oth P (A8t P i x1 pr o) i∧∃x',(A8t P i x1 pr o).A0c[i]?=some x'∧muS x'<muS x:=by
  intro x1 pr o hp hn ht nu hm Ip hd e1 e2
  have hpart:x1.se.part=i:=by rw[e1];exact I.part i x hx
  have kc:=(D2v (ss:=x1.nl) (po:=(P.use x1.ev).nl) (se:=x1.se) hc I.wi (by rw[hpart];exact Ip) (fun p hp=>I.tri (2*i) p (by rw[←e2];exact hp)) hp hd).adv.c
  have km:=G5t (se:=x1.se) (ss:=x1.nl) (po:=(P.use x1.ev).nl) hc hp hn ht nu
  unfold A8t
  generalize A3u pr o x1.se x1.nl (P.use x1.ev).nl P.S=R at*
  have main:∀(P':A0m) (x':A1o),P'.S=R.S→P'.A0c=P.A0c.set i x'→P'.sw=P.sw→P'.re=P.re→muS x'<muS x→Oth P P' i∧∃x',P'.A0c[i]?=some x'∧muS x'<muS x:=by
   intro P' x' f1 f2 f3 f4 f5
   refine⟨⟨by rw[f1];exact kc,by rw[f2,List.length_set],by rw[f3],by rw[f4],fun j hj=>by rw[f2,B3f _ _ hj],fun _ _=>by rw[f3],fun _ _=>by rw[f4]⟩,x',?_,f5⟩
   rw[f2,List.getElem?_set,if_pos rfl,if_pos hlt]
  unfold B7t
  have pos:=H0z pr o
  split
  ·rename_i hr
   refine main _ _ rfl rfl rfl rfl ?_
   have:=km hr
   show 1500*x1.queue.length+muA R.pr R.o<_
   omega
  ·refine main _ _ rfl rfl rfl rfl ?_
   show 1500*x1.queue.length+0<_
   omega
 have so:=ok.A0c x (List.mem_of_getElem? hx)
 unfold A6d A1o.begun
 cases hn:x.now with
 |some v=>
  obtain⟨pr,o⟩:=v
  have po:=so.prog pr o hn
  have ht:tr P (2*i)=x.now.bind (·.2):=by
   unfold tr
   rw[if_pos (by omega),show 2*i/2=i by omega,hx];rfl
  refine key x pr o po.pc.1 po.n.1 po.tries.1 (H.nu i x pr o hx hn) ?_ (I.prog i x pr o hx hn) po.done.1 rfl (by rw[ht,hn];rfl)
  unfold muS;rw[hn];exact Nat.le_refl _
 |none=>
  cases hq:x.queue with
  |nil=>unfold E2m at hb;rw[hn,hq]at hb;cases hb
  |cons q t=>
   have ht:tr P (2*i)=x.now.bind (·.2):=by
    unfold tr
    rw[if_pos (by omega),show 2*i/2=i by omega,hx];rfl
   refine key _ _ _ (Int.le_refl _) (Int.le_refl _) (Int.le_refl _) (fun _=>rfl) ?_ (PrS.D2r _ _ _) (Int.le_refl _) rfl (by rw[ht,hn];rfl)
   ·unfold muS;rw[hn,hq]
    have:muA (PrS.start q.a) none≤1434:=by
     unfold muA
     split
     ·rw[if_pos (show(PrS.start q.a).pc<4 by show(0:Int)<4;decide)]
      show 1430+(4-(0:Int)).toNat≤1434;decide
     ·show(12-(0:Int)).toNat+1≤1434;decide
    simp only[List.length_cons];omega
theorem G6x{P:A0m}{n j:Nat}{y:SwS × Option A0a}(ok:A2t P n)(I:PI P)(hy:P.sw[j]?=some y)(hb:(y.1.at_ == 0&&A4l y.2)=false):
  Oth P (A5z P j y) (P.A0c.length+j)∧∃y',(A5z P j y).sw[j]?=some y'∧muW P.S.c y'<muW P.S.c y:=by
 have hc:=ok.S.c
 have hlt:j<P.sw.length:=(List.getElem?_eq_some_iff.1 hy).1
 have ht:tr P (2*j+1)=y.2:=by
  unfold tr
  rw[if_neg (by omega),show(2*j+1)/2=j by omega,hy];rfl
 have so:=(ok.sw y (List.mem_of_getElem? hy)).1
 have J:∀p,y.2=some p→A5g P.S p:=fun p hp=>I.tri _ p (by rw[ht];exact hp)
 have q:A5g P.S (A3z y.1 P.S.c y.2)∧(A3z y.1 P.S.c y.2).pc=opc y.2∧opc y.2<14∧0≤opc y.2:=by
  unfold A3z opc
  cases h:y.2 with
  |none=>exact⟨A5g.new _ _,rfl,by decide,by decide⟩
  |some p=>
   dsimp only
   split
   ·exact⟨A5g.new _ _,rfl,by decide,by decide⟩
   ·have:=J p h
    exact⟨this,rfl,by omega,this.1⟩
 obtain⟨q1,q2,q3,q4⟩:=q
 have kc:=(B5z hc I.wi q1).adv.c
 have kp:=D7n (S:=P.S) (P:=A3z y.1 P.S.c y.2) (by omega)
 rw[q2]at kp
 refine⟨⟨kc,rfl,by show(P.sw.set _ _).length=_;rw[List.length_set],rfl,fun _ _=>rfl,fun i hi=>by show(P.sw.set _ _)[i]?=_;rw[B3f _ _ (by omega)],fun _ _=>rfl⟩,_,by show(P.sw.set _ _)[j]?=_;rw[List.getElem?_set,if_pos rfl,if_pos hlt],?_⟩
 have e0:muW P.S.c y=(15*(A0p P.S.c*A0p P.S.c-y.1.at_)-opc y.2).toNat:=by unfold muW;rw[if_neg (by rw[hb];decide)]
 obtain⟨s1,s2⟩:=so
 rw[e0]
 show muW P.S.c (C2o y.1 P.S.c (A1c (A3z y.1 P.S.c y.2) P.S).1,some (A1c (A3z y.1 P.S.c y.2) P.S).1)<_
 generalize (A1c (A3z y.1 P.S.c y.2) P.S).1=p' at*
 generalize opc y.2=z at*
 have hd:A4l (some p')=decide (p'.pc≥14):=rfl
 have ho:opc (some p')=if p'.pc≥14 then 0 else p'.pc:=rfl
 unfold muW
 dsimp only
 rw[hd,ho]
 unfold C2o
 generalize A0p P.S.c*A0p P.S.c=N at*
 by_cases h1:p'.pc<14
 ·have h2:¬p'.pc≥14:=by omega
  rw[if_pos h1,if_neg h2,decide_eq_false h2,Bool.and_false,if_neg (by decide)]
  omega
 ·have h2:p'.pc≥14:=by omega
  rw[if_neg h1,if_pos h2,decide_eq_true h2,Bool.and_true]
  by_cases h3:y.1.at_+1=N
  ·rw[if_pos h3,if_pos (by rfl)];omega
  ·rw[if_neg h3]
   dsimp only
   split
   ·omega
   ·omega
theorem H2i{P:A0m}{n j:Nat}{y:ReS}(ok:A2t P n)(I:PI P)(hy:P.re[j]?=some y)(hb:(y.pc == 0)=false):
  Oth P (A9x P j y) (P.A0c.length+P.sw.length+j)∧∃y',(A9x P j y).re[j]?=some y'∧muR P.S.c y'<muR P.S.c y:=by
 have hlt:j<P.re.length:=(List.getElem?_eq_some_iff.1 hy).1
 have ro:=ok.re y (List.mem_of_getElem? hy)
 have kc:=((D9c ok.S.c I.wi ro (I.re j y hy)).2.1 No No).c
 refine⟨⟨kc,rfl,rfl,by show(P.re.set _ _).length=_;rw[List.length_set],fun _ _=>rfl,fun _ _=>rfl,fun i hi=>by show(P.re.set _ _)[i]?=_;rw[B3f _ _ (by omega)]⟩,_,by show(P.re.set _ _)[j]?=_;rw[List.getElem?_set,if_pos rfl,if_pos hlt],?_⟩
 have hpc:=ro.pc
 have hb:y.pc≠0:=by simpa using hb
 have e:(A6j y P.S).1.pc=y.pc:=by
  unfold A6j A3g
  repeat' (first|rfl|split)
 show muR P.S.c (B4p (A6j y P.S).1 P.S.c)<_
 unfold B4p muR
 rw[e,if_neg hb]
 split
 ·rw[if_pos rfl];omega
 ·dsimp only
  rw[if_neg (by omega)];omega
theorem F6r{P:A0m}{n:Nat}(ok:A2t P n)(hn:n≤100000000)(I:PI P)(H:PH P)(hl:P.sw.length=P.re.length){a:Nat}(ha:a<A1x P)(hb:A2e P a=false):
  Oth P (doP P (B9d a)).2 a∧mu (doP P (B9d a)).2 a<mu P a:=by
 rw[G7d]
 have ok':=B9k ok
 have I':PI P.got:=I.same ok.S.c ok.re (A1w.refl _) (fun _=>rfl) rfl rfl
 have H':PH P.got:=PH.same I H (A1w.refl _) (Wd.refl _) (fun _=>rfl) rfl
 have fin:∀P1:A0m,Oth P.got P1 a→Oth P P1.on a:=fun P1 o=>⟨o.c,o.sl,o.wl,o.rl,o.ss,o.sw,o.re⟩
 unfold A1x at ha
 unfold A2e at hb
 unfold A3w
 rw[if_neg (show ¬((a:Int)<0∨(a:Int)-P.got.A0c.length≥2*P.got.sw.length)by show ¬((a:Int)<0∨(a:Int)-P.A0c.length≥2*P.sw.length);omega)]
 by_cases h1:a<P.A0c.length
 ·rw[if_pos h1]at hb
  rw[if_pos (show(a:Int)-P.got.A0c.length<0 by show(a:Int)-P.A0c.length<0;omega),Int.toNat_natCast]
  cases hx:P.A0c[a]? with
  |none=>rw[hx]at hb;cases hb
  |some x=>
   rw[hx]at hb
   have hx':P.got.A0c[a]?=some x:=hx
   rw[hx']
   obtain⟨k1,x',k2,k3⟩:=H2a ok' I' H' hx' hb
   refine⟨fin _ k1,?_⟩
   have e:=k1.sl
   show mu (A6d P.got a x).2.on a<_
   unfold mu
   rw[if_pos h1,if_pos (show a<(A6d P.got a x).2.on.A0c.length by show a<(A6d P.got a x).2.A0c.length;rw[e];exact h1),hx]
   show(((A6d P.got a x).2.A0c[a]?).map muS).getD 0<muS x
   rw[k2];exact k3
 ·rw[if_neg h1]at hb
  rw[if_neg (show ¬(a:Int)-P.got.A0c.length<0 by show ¬(a:Int)-P.A0c.length<0;omega)]
  by_cases h2:a-P.A0c.length<P.sw.length
  ·rw[if_pos h2]at hb
   rw[if_pos (show(a:Int)-P.got.A0c.length<P.got.sw.length by show(a:Int)-P.A0c.length<P.sw.length;omega)]
   have ej:((a:Int)-P.got.A0c.length).toNat=a-P.A0c.length:=by show((a:Int)-P.A0c.length).toNat=_;omega
   rw[ej]
   cases hx:P.sw[a-P.A0c.length]? with
   |none=>rw[hx]at hb;cases hb
   |some y=>
    rw[hx]at hb
    have hx':P.got.sw[a-P.A0c.length]?=some y:=hx
    rw[hx']
    obtain⟨k1,y',k2,k3⟩:=G6x ok' I' hx' hb
    have ea:P.got.A0c.length+(a-P.A0c.length)=a:=by show P.A0c.length+(a-P.A0c.length)=a;omega
    rw[ea]at k1
    refine⟨fin _ k1,?_⟩
    have e:=k1.wl
    show mu (A5z P.got (a-P.A0c.length) y).on a<_
    unfold mu
    rw[if_neg h1,if_pos h2,if_neg (show ¬a<(A5z P.got (a-P.A0c.length) y).on.A0c.length from h1),if_pos (show a-(A5z P.got (a-P.A0c.length) y).on.A0c.length<(A5z P.got (a-P.A0c.length) y).on.sw.length by show a-P.A0c.length<(A5z P.got (a-P.A0c.length) y).sw.length;rw[e];exact h2),hx]
    show(((A5z P.got (a-P.A0c.length) y).sw[a-P.A0c.length]?).map (muW (A5z P.got (a-P.A0c.length) y).S.c)).getD 0<muW P.S.c y
    rw[k2,k1.c];exact k3
  ·rw[if_neg h2]at hb
   rw[if_neg (show ¬(a:Int)-P.got.A0c.length<P.got.sw.length by show ¬(a:Int)-P.A0c.length<P.sw.length;omega)]
   have ej:((a:Int)-P.got.A0c.length-P.got.sw.length).toNat=a-P.A0c.length-P.sw.length:=by show((a:Int)-P.A0c.length-P.sw.length).toNat=_;omega
   rw[ej]
   cases hx:P.re[a-P.A0c.length-P.sw.length]? with
   |none=>rw[hx]at hb;cases hb
   |some y=>
    rw[hx]at hb
    have hx':P.got.re[a-P.A0c.length-P.sw.length]?=some y:=hx
    rw[hx']
    obtain⟨k1,y',k2,k3⟩:=H2i ok' I' hx' hb
    have ea:P.got.A0c.length+P.got.sw.length+(a-P.A0c.length-P.sw.length)=a:=by show P.A0c.length+P.sw.length+(a-P.A0c.length-P.sw.length)=a;omega
    rw[ea]at k1
    refine⟨fin _ k1,?_⟩
    show mu (A9x P.got (a-P.A0c.length-P.sw.length) y).on a<_
    unfold mu
    rw[if_neg h1,if_neg h2,if_neg (show ¬a<(A9x P.got (a-P.A0c.length-P.sw.length) y).on.A0c.length from h1),if_neg (show ¬a-(A9x P.got (a-P.A0c.length-P.sw.length) y).on.A0c.length<(A9x P.got (a-P.A0c.length-P.sw.length) y).on.sw.length from h2),hx]
    show(((A9x P.got (a-P.A0c.length-P.sw.length) y).re[a-P.A0c.length-P.sw.length]?).map (muR (A9x P.got (a-P.A0c.length-P.sw.length) y).S.c)).getD 0<muR P.S.c y
    rw[k2,k1.c];exact k3
end
section
set_option maxRecDepth 10000
theorem G1t{l:List D}(h:((l.length:Int) == 0)=true):l=[]:=by
 have:(l.length:Int)=0:=by simpa using h
 exact List.eq_nil_of_length_eq_zero (by omega)
theorem G3y(l:List D)(h:l.length≤100000):FX 36 [.agg l]=some [.agg l]:=by
 rw[B8v]
 simp only[D.A0h]
 have h1:(l.length:Int)≤17592186044416:=by omega
 simp only[h1,decide_true,if_true]
 split
 ·rename_i h0
  rw[G1t h0,E6j]
 ·rfl
def D0n(P:A0m)(part:Int):List Rep:=(P.outs.filter fun o=>o.part == part).map Out.r
section
variable{G:Nat→Option D}{L:List D}{lab:Nat→Nat}{pl w m k:Nat}{za swa rea:List Nat}{P:A0m}{n:Nat}(E:Enc G L lab pl w m k za swa rea P)(hP:A2t P n)(hn:n≤100000000)
include E hP hn
theorem G3f:FX 17 [.int (m:Nat),.agg L]=some [.agg (P.S.words.map wN)]:=by
 obtain⟨M,hM,hw⟩:=E.W.m
 have hl:=hP.S.len
 rw[D5x]
 simp only[HH,hM,A1a.A1i,hw]
 rw[G3y _ (by simp;omega)]
 simp only[HH]
theorem H0u:FX 14 [.int (pl:Nat),.agg L]=some [.agg (P.outs.map Out.d)]:=by
 have ho:=hP.outs
 have g5:(P.raw (.int (w:Nat)) (A0n za) (A0n swa) (A0n rea)).outs=P.outs:=rfl
 have h1:((P.outs.map Out.d).length:Int)≤1034834473200:=by simp;omega
 rw[D4m]
 simp only[HH,E.A4o,A0d.A3b,g5,h1,decide_true]
 split
 ·rename_i h0
  rw[G1t h0,E6j]
 ·rfl
theorem F8h(part:Int):FX 19 [.int (pl:Nat),.int part,.agg L]=some [.agg ((D0n P part).map Rep.d)]:=by
 have ho:=hP.outs
 have key:∀(d j:Nat),j+d=P.outs.length→A4w (.int (pl:Nat)) (.int part) (.agg L) (.agg (P.outs.map Out.d)) [.int (j:Nat),.agg ((((P.outs.take j).filter fun o=>o.part == part).map Out.r).map Rep.d)]=some [.agg ((D0n P part).map Rep.d)]:=by
  intro d
  induction d with
  |zero=>
   intro j hj
   have h1:¬(j:Int)<((P.outs.map Out.d).length:Int):=by simp;omega
   rw[B1t,List.take_of_length_le (by omega)]
   simp only[D.toInt_int,D.A0h,h1,decide_false,Bool.false_eq_true,if_false]
   rfl
  |succ d ih=>
   intro j hj
   have hlt:j<P.outs.length:=by omega
   have h1:(j:Int)<((P.outs.map Out.d).length:Int):=by simp;omega
   have h2:(j:Int)≥0:=by omega
   have hg:(P.outs.map Out.d).getD j D.nil=.agg (P.outs[j]).ds:=by
    rw[List.getD_eq_getElem?_getD,List.getElem?_map,List.getElem?_eq_getElem hlt];rfl
   have ih':=ih (j+1) (by omega)
   have htk:P.outs.take (j+1)=P.outs.take j++[P.outs[j]]:=List.take_succ_eq_append_getElem hlt
   rw[htk,List.filter_append]at ih'
   have hlen:((P.outs.take j).filter fun o=>o.part == part).length≤P.outs.length:=Nat.le_trans (List.length_filter_le ..) (by simp;omega)
   generalize P.outs[j]=o at*
   rw[B1t]
   simp only[D.toInt_int,D.A0h,h1,h2,decide_true,if_true,Int.toNat_natCast,hg,Out.len,Out.A1i,Out.A1h,Out.A1p,Out.A1v,Out.A1u,Out.A3b,Out.A4n,Out.A7y,Out.A6o,Out.A6z,Out.B4s,Out.B1j,Out.A9y,Out.B0x,Out.B3t]
   rw[A0t _ (by omega) (by omega)]
   cases hb:(o.part == part)with
   |true=>
    have e1:[o].filter (fun o=>o.part == part)=[o]:=by simp[hb]
    rw[e1]at ih'
    have e2:((((P.outs.take j).filter fun o=>o.part == part).map Out.r).map Rep.d)++[D.agg [.int o.r.kind,.int o.r.code,.int o.r.tick,.int o.r.id,.int o.r.cell,.bool o.r.asked,.int o.r.rc.k,.int o.r.rc.q,.int o.r.rc.p,.int o.r.rc.t,.int o.r.rc.c,.int o.r.rc.g,.agg (o.r.looks.map A5h.d)]]=((((P.outs.take j).filter fun o=>o.part == part)++[o]).map Out.r).map Rep.d:=by
     rw[List.map_append,List.map_append];rfl
    have e3:((((((P.outs.take j).filter fun o=>o.part == part)++[o]).map Out.r).map Rep.d).length:Int)≤1172812402961:=by simp;omega
    simp only[if_true,e2,e3,decide_true]
    exact ih'
   |false=>
    have e1:[o].filter (fun o=>o.part == part)=[]:=by simp[hb]
    rw[e1,List.append_nil]at ih'
    simp only[Bool.false_eq_true,if_false]
    exact ih'
 have:=key P.outs.length 0 (by omega)
 rw[C7x,H0u E hP hn]
 simp only[A0l,List.length_cons,List.length_nil,List.getD_cons_zero]
 exact this
end
theorem all_eq'(es:List PEv)(hes:es.length≤100000):FX 65 [.agg (es.map PEv.d)]=some [.agg (es.map PEv.d)]:=by
 have key:∀(d j:Nat),j+d=es.length→B4y (.agg (es.map PEv.d)) [.int (j:Nat),.agg ((es.take j).map PEv.d)]=some [.agg (es.map PEv.d)]:=by
  intro d
  induction d with
  |zero=>
   intro j hj
   have h1:¬(j:Int)<((es.map PEv.d).length:Int):=by simp;omega
   rw[C3q,List.take_of_length_le (by omega)]
   simp only[D.toInt_int,D.A0h,h1,decide_false,Bool.false_eq_true,if_false]
  |succ d ih=>
   intro j hj
   have hlt:j<es.length:=by omega
   have h1:(j:Int)<((es.map PEv.d).length:Int):=by simp;omega
   have h2:(j:Int)≥0:=by omega
   have ih':=ih (j+1) (by omega)
   have htk:es.take (j+1)=es.take j++[es[j]]:=List.take_succ_eq_append_getElem hlt
   rw[htk]at ih'
   obtain⟨g0,g1,g2,g3,g4,g5,g6,g7,g8,g9,g10,g11⟩:=PEv.gets es[j]
   have e2:(es.take j).map PEv.d++[D.agg [.int es[j].kind,.int es[j].who,.int es[j].n,.int es[j].ask.kind,.int es[j].ask.id,.int es[j].ask.cell,.int es[j].ask.tm.name,.int es[j].ask.tm.side,.int es[j].ask.tm.A0j,.int es[j].ask.tm.least,.int es[j].ask.tm.A1l,.int es[j].ask.qty]]=(es.take j++[es[j]]).map PEv.d:=by rw[List.map_append];rfl
   have e3:(((es.take j++[es[j]]).map PEv.d).length:Int)≤1466015503701:=by simp;omega
   rw[C3q]
   simp only[D.toInt_int,D.A0h,h1,h2,decide_true,if_true,Int.toNat_natCast,F7f hlt,g0,g1,g2,g3,g4,g5,g6,g7,g8,g9,g10,g11,G1e,F8u,A0l,List.length_cons,List.length_nil,List.getD_cons_zero,List.getD_cons_succ,e2,e3]
   rw[A0t _ (by omega) (by omega)]
   exact ih'
 rw[F6c]
 exact key es.length 0 (by omega)
theorem Enc.fr{L:List D}{lab:Nat→Nat}{pl w m k:Nat}{za swa rea:List Nat}{P:A0m}{L0:List D}(E:Enc (Gl L0) L lab pl w m k za swa rea P):Fr L0 L (fun _=>False):=by
 have k:∀b,b<L0.length→b<L.length∧L.getD b D.nil=L0.getD b D.nil:=fun b hb=>by
  have:=E.pre b (L0.getD b D.nil) (if_pos hb)
  exact⟨this.1,this.2.2⟩
 refine⟨?_,fun b hb _=>(k b hb).2⟩
 cases h:L0.length with
 |zero=>exact Nat.zero_le _
 |succ n=>have:=(k n (by omega)).1;omega
theorem H1j(c:Cf)(hc:c.ok)(es:List PEv)(hes:es.length≤10000)(hw:∀e ∈ es,e.wf)(mx:Int)(hmx:(es.length:Int)≤mx)(L:List D):
  ∃L' lab pl w m k za swa rea,FX 31 [.int c.c0,.int c.c1,.int c.c2,.int c.c3,.int c.c4,.int c.c5,.int c.c6,.agg (es.map PEv.d),.int mx,.agg L]=some [.int (pl:Nat),.agg L']∧Enc (Gl L) L' lab pl w m k za swa rea (B8i (A2h c) es)∧A3c (B8i (A2h c) es) es.length:=by
 obtain⟨L1,lab1,pl,w,m,k,za,swa,rea,n1,E1⟩:=F6s c hc L
 obtain⟨L2,lab2,n2,E2,P2⟩:=run_eq E1 (C7p c hc) es hw (by omega)
 have h1:¬((es.map PEv.d).length:Int)>mx:=by simp;omega
 refine⟨L2,lab2,pl,w,m,k,za,swa,rea,?_,E2,by rw[Nat.zero_add]at P2;exact P2⟩
 rw[F5e]
 simp only[n1,A0l,List.length_cons,List.length_nil,List.getD_cons_zero,List.getD_cons_succ,A6f,B4c,Bool.not_true,Bool.false_eq_true,if_false,D.toInt_int,D.A0h,h1,decide_false,all_eq' es (by omega),n2]
end
end Go.Proofs.YtngflpppkicnaaaGreat.P
namespace Go.Proofs.YtngflpppkicnaaaGreat.Eng
set_option linter.unusedVariables false
set_option linter.unusedSimpArgs false
section
abbrev O:=Option (List D)
abbrev Kn:=List D→(List D→O)→O
def KnOk(g:Kn)(f:Eng.Fn):Prop:=∀xs k r,g xs k=some r→∃q,f xs=some q∧k q=some r
def KnL(L:List Kn)(M:List Eng.Fn):Prop:=L.length=M.length∧∀(i:Nat) (g:Kn) (f:Eng.Fn),L[i]?=some g→M[i]?=some f→KnOk g f
theorem KnL.snoc{L:List Kn}{M:List Eng.Fn}(h:KnL L M){g:Kn}{f:Eng.Fn}(hg:KnOk g f):KnL (L++[g]) (M++[f]):=by
 refine⟨by simp[h.1],fun i a b ha hb=>?_⟩
 rcases Nat.lt_trichotomy i L.length with hi|hi|hi
 ·rw[List.getElem?_append_left hi]at ha
  rw[List.getElem?_append_left (by rw[←h.1];exact hi)]at hb
  exact h.2 i a b ha hb
 ·subst hi
  rw[List.getElem?_append_right (Nat.le_refl _),Nat.sub_self]at ha
  rw[List.getElem?_append_right (by rw[h.1];exact Nat.le_refl _),←h.1,Nat.sub_self]at hb
  cases ha;cases hb;exact hg
 ·rw[List.getElem?_eq_none (by simp;omega)]at ha
  cases ha
section
variable(prog:List (Nat × T))
variable{prog}
end
end
end Go.Proofs.YtngflpppkicnaaaGreat.Eng
namespace Go.Proofs.YtngflpppkicnaaaGreat.P
open Go.RowKit Go.Proofs.YtngflpppkicnaaaGreat.Eng Go.Proofs.YtngflpppkicnaaaGreat Go.Proofs.YtngflpppkicnaaaGreat.Dat Go.Proofs.YtngflpppkicnaaaGreat.FDat
set_option linter.unusedVariables false
set_option linter.unusedSimpArgs false
set_option linter.unusedSectionVars false
set_option maxRecDepth 10000
section
def exC:Cf:=⟨2,1,1,1,0,1,1⟩
theorem D3h:exC.ok:=by unfold RU.Cf.ok exC;decide
def A6x:PEv:=⟨1,0,0,⟨1,1,0,⟨0,0,5,1,9⟩,4⟩⟩
def A7x:PEv:=⟨3,0,0,⟨0,0,0,.zero,0⟩⟩
theorem In.z(z:Int)(h:decide (-1000≤z)&&decide (z≤1000)=true):In z:=by
 simp only[Bool.and_eq_true,decide_eq_true_eq]at h
 exact In.lit (by omega)
theorem E7f:A6x.wf:=⟨.z _ rfl,.z _ rfl,fun z hz=>by
 simp only[Tm.vs,A6x,List.mem_cons,List.not_mem_nil,or_false]at hz
 rcases hz with rfl|rfl|rfl|rfl|rfl<;>exact .z _ rfl⟩
theorem D4r:A7x.wf:=⟨.z _ rfl,.z _ rfl,fun z hz=>by
 simp only[Tm.vs,A7x,Tm.zero,List.mem_cons,List.not_mem_nil,or_false]at hz
 rcases hz with rfl|rfl|rfl|rfl|rfl<;>exact .z _ rfl⟩
def B4x:Nat→Bool × A0m→Bool × A0m
 |0,x=>x
 |n+1,(ok,P)=>B4x n (ok&&(doP P A7x).1,(doP P A7x).2)
def E9b(x:A1o):Bool:=(match x.now with|none=>true|some _=>false)&&x.queue.isEmpty
def C7y(P:A0m)(i:Int):Bool:=if i<0 then true else if i≥P.A0c.length then true else match P.A0c[i.toNat]? with
 |some x=>E9b x
 |none=>true
def E8w:List Rep→Bool
 |[r]=>r.code == 0
 |_=>false
def E1y:Bool:=(B4x 37 (doP (A2h exC) A6x)).1&&E8w (D0n (B4x 37 (doP (A2h exC) A6x)).2 0)&&C7y (B4x 37 (doP (A2h exC) A6x)).2 0&&!(doP (B4x 37 (doP (A2h exC) A6x)).2 A7x).1
section
variable{G:Nat→Option D}{L:List D}{lab:Nat→Nat}{pl w m k:Nat}{za swa rea:List Nat}{P:A0m}{n:Nat}(E:Enc G L lab pl w m k za swa rea P)
include E
theorem F3z(i:Int):FX 44 [.int (pl:Nat),.int i,.agg L]=some [.bool (C7y P i)]:=by
 have e1:(A0n za).length=P.A0c.length:=by rw[←E.zl];simp[A0n]
 have g1:(P.raw (.int (w:Nat)) (A0n za) (A0n swa) (A0n rea)).A0c=A0n za:=rfl
 rw[D2a]
 simp only[HH,E.A4o,A0d.A1h,g1,e1]
 unfold C7y
 by_cases c0:i<0
 ·simp only[c0,decide_true,if_true]
 by_cases c1:i≥P.A0c.length
 ·simp only[c0,c1,decide_true,decide_false,Bool.false_eq_true,if_false,if_true]
 have hlt:i.toNat<P.A0c.length:=by omega
 obtain⟨x,hx⟩:∃x,P.A0c[i.toNat]?=some x:=⟨_,List.getElem?_eq_getElem hlt⟩
 obtain⟨z,hz⟩:∃z,za[i.toNat]?=some z:=⟨_,List.getElem?_eq_getElem (by rw[E.zl];exact hlt)⟩
 obtain⟨s,a,q,now,h1,h2,h3,_⟩:=E.ss _ x z hx hz
 have j1:i≥0:=by omega
 have j2:i<(P.A0c.length:Int):=by omega
 have y1:(x.raw (.int (s:Nat)) now).now=now:=rfl
 have y2:(x.raw (.int (s:Nat)) now).queue=x.queue:=rfl
 have hqlen:(x.queue.map Qe.d).length=x.queue.length:=List.length_map ..
 simp only[c0,c1,decide_false,Bool.false_eq_true,if_false,j1,j2,decide_true,if_true,C7a hz,HH,h1,A0g.A1h,A0g.A1p,y1,y2,hqlen,hx]
 unfold E9b
 cases hn:x.now with
 |some y=>
  obtain⟨pr,o⟩:=y
  rw[hn]at h3
  rw[h3.1]
  simp only[A6f,Bool.false_eq_true,if_false,Bool.false_and]
 |none=>
  rw[hn]at h3
  dsimp only at h3
  rw[h3]
  simp only[B4c,if_true,Bool.true_and]
  cases x.queue with
  |nil=>rfl
  |cons q t=>
   have:(((q::t).length:Int) == 0)=false:=by simp only[List.length_cons];exact beq_eq_false_iff_ne.2 (by omega)
   rw[this];rfl
end
theorem G8i:FX 56 [.int 2,.int 1,.int 1,.int 1,.int 0,.int 1,.int 1,.int 1,.int 1,.int 0,.int 0,.int 0,.int 5,.int 1,.int 9,.int 4]=some [.int 37]:=by
 have ha:FX 38 [.int 2,.int 1,.int 1,.int 1,.int 0,.int 1,.int 1]=some [.int (A0p exC)]:=all_eq exC D3h
 have hb:FX 76 [.int 2,.int 1,.int 1,.int 1,.int 0,.int 1,.int 1,.int 0,.int 5]=some [.agg ((B1w exC 0 5).map D.int)]:=F2e exC D3h 0 5
 have h1:A0p exC=2:=rfl
 have h2:(B1w exC 0 5).map D.int=[.int 0]:=rfl
 rw[F1i,ha,hb,h1,h2]
 simp only[HH,beq_self_eq_true]
 rfl
theorem E1j{G:Nat→Option D}{pl w m k:Nat}{za swa rea:List Nat}(x0 x1 x2 x3 x4 x5 x6 x7 x8 x10 x11 x12 x13:D):∀(d j n:Nat) (ok:Bool) (L:List D) (lab:Nat→Nat) (P:A0m),j+d=37→Enc G L lab pl w m k za swa rea P→A3c P n→n+d≤1000→
  ∃L' lab' n',A4h x0 x1 x2 x3 x4 x5 x6 x7 x8 (.int (pl:Nat)) x10 x11 x12 x13 (.int 37) [.bool ok,.int (j:Nat),.agg L]=A4h x0 x1 x2 x3 x4 x5 x6 x7 x8 (.int (pl:Nat)) x10 x11 x12 x13 (.int 37) [.bool (B4x d (ok,P)).1,.int 37,.agg L']∧
   Enc G L' lab' pl w m k za swa rea (B4x d (ok,P)).2∧A3c (B4x d (ok,P)).2 n'∧n'≤1000
 |0,j,n,ok,L,lab,P,h,E,hP,hn=>by
  have:j=37:=by omega
  subst this
  exact⟨L,lab,n,rfl,E,hP,by omega⟩
 |d+1,j,n,ok,L,lab,P,h,E,hP,hn=>by
  have h1:(j:Int)<37:=by omega
  obtain⟨L1,lab1,n1,E1⟩:=D9p E hP (by omega) A7x D4r
  have P1:=C9c hP (by omega) A7x D4r
  obtain⟨L2,lab2,n2,e2,E2,P2,hn2⟩:=E1j x0 x1 x2 x3 x4 x5 x6 x7 x8 x10 x11 x12 x13 d (j+1) (n+1) (ok&&(doP P A7x).1) L1 lab1 _ (by omega) E1 P1 (by omega)
  refine⟨L2,lab2,n2,?_,E2,P2,hn2⟩
  have n1':FX 55 [.int (pl:Nat),.int 3,.int 0,.int 0,.int 0,.int 0,.int 0,.int 0,.int 0,.int 0,.int 0,.int 0,.int 0,.agg L]=some [.bool (doP P A7x).1,.agg L1]:=n1
  rw[B9m]
  simp only[D.toInt_int,h1,decide_true,if_true,n1',A0l,List.length_cons,List.length_nil,List.getD_cons_zero,List.getD_cons_succ,D.A0y]
  rw[A0t _ (by omega) (by omega)]
  cases hb:(doP P A7x).1 with
  |true=>
   rw[hb,Bool.and_true]at e2
   simp only[if_true]
   show _=A4h x0 x1 x2 x3 x4 x5 x6 x7 x8 (.int (pl:Nat)) x10 x11 x12 x13 (.int 37) [.bool (B4x d (ok&&(doP P A7x).1,(doP P A7x).2)).1,.int 37,.agg L2]
   rw[hb,Bool.and_true]
   exact e2
  |false=>
   rw[hb,Bool.and_false]at e2
   simp only[Bool.false_eq_true,if_false]
   show _=A4h x0 x1 x2 x3 x4 x5 x6 x7 x8 (.int (pl:Nat)) x10 x11 x12 x13 (.int 37) [.bool (B4x d (ok&&(doP P A7x).1,(doP P A7x).2)).1,.int 37,.agg L2]
   rw[hb,Bool.and_false]
   exact e2
theorem G4e(L:List D):∃L',FX 66 [.agg L]=some [.bool E1y,.agg L']∧Fr L L' (fun _=>False):=by
 obtain⟨L1,lab1,pl,w,m,k,za,swa,rea,n1,E1⟩:=F6s exC D3h L
 have P1:=C7p exC D3h
 have n0:=E3t exC D3h
 obtain⟨L2,lab2,n2,E2⟩:=D9p E1 P1 (by omega) A6x E7f
 have P2:=C9c P1 (by omega) A6x E7f
 have n0':FX 83 [.int 2,.int 1,.int 1,.int 1,.int 0,.int 1,.int 1]=some [.int 2,.int 1,.int 1,.int 1,.int 0,.int 1,.int 1,.nil]:=n0
 have n1':FX 63 [.int 2,.int 1,.int 1,.int 1,.int 0,.int 1,.int 1,.agg L]=some [.int (pl:Nat),.nil,.agg L1]:=n1
 have n2':FX 55 [.int (pl:Nat),.int 1,.int 0,.int 0,.int 1,.int 1,.int 0,.int 0,.int 0,.int 5,.int 1,.int 9,.int 4,.agg L1]=some [.bool (doP (A2h exC) A6x).1,.agg L2]:=n2
 have key:=fun x0 x1 x2 x3 x4 x5 x6 x7 x8 x10 x11 x12 x13=>E1j x0 x1 x2 x3 x4 x5 x6 x7 x8 x10 x11 x12 x13 37 0 1 (doP (A2h exC) A6x).1 L2 lab2 (doP (A2h exC) A6x).2 (by omega) E2 P2 (by omega)
 obtain⟨L3,lab3,n3,e3,E3,P3,hn3⟩:=key (.agg L) (.int 2) (.int 1) (.int 1) (.int 1) (.int 0) (.int 1) (.int 1) .nil .nil (.agg L1) (.bool (doP (A2h exC) A6x).1) (.agg L2)
 have hpair:(((doP (A2h exC) A6x).1,(doP (A2h exC) A6x).2):Bool × A0m)=doP (A2h exC) A6x:=rfl
 rw[hpair]at e3 E3 P3
 have hw:∃L',A4h (.agg L) (.int 2) (.int 1) (.int 1) (.int 1) (.int 0) (.int 1) (.int 1) .nil (.int (pl:Nat)) .nil (.agg L1) (.bool (doP (A2h exC) A6x).1) (.agg L2) (.int 37) [.bool (B4x 37 (doP (A2h exC) A6x)).1,.int 37,.agg L3]=some [.bool E1y,.agg L']∧Fr L L' (fun _=>False):=by
  unfold E1y
  generalize B4x 37 (doP (A2h exC) A6x)=R at*
  have r1:=F8h E3 P3.ok (by omega) 0
  have r2:=F3z E3 0
  obtain⟨L4,lab4,n4,E4⟩:=D9p E3 P3 (by omega) A7x D4r
  have n4':FX 55 [.int (pl:Nat),.int 3,.int 0,.int 0,.int 0,.int 0,.int 0,.int 0,.int 0,.int 0,.int 0,.int 0,.int 0,.agg L3]=some [.bool (doP R.2 A7x).1,.agg L4]:=n4
  have hno:¬(37:Int)<37:=by decide
  rw[B9m]
  simp only[D.toInt_int,hno,decide_false,Bool.false_eq_true,if_false,r1,A0l,List.length_cons,List.length_nil,List.getD_cons_zero,D.A0y,D.A0h]
  cases hR:R.1 with
  |false=>exact⟨L3,by simp,E3.fr⟩
  |true=>
   generalize D0n R.2 0=rs at*
   match rs with
   |[]=>exact⟨L3,by simp[E8w],E3.fr⟩
   |[r]=>
    have hc:(([r].map Rep.d).getD (0:Int).toNat D.nil)=.agg r.ds:=rfl
    have hl1:((([r].map Rep.d).length:Int) == 1)=true:=rfl
    have hl2:(0:Int)<(([r].map Rep.d).length:Int):=by simp
    simp only[if_true,hl1,hl2,decide_true,hc,D.A0h,Rep.A1h,D.toInt_int,r2,A0l,List.length_cons,List.length_nil,List.getD_cons_zero,List.getD_cons_succ,D.A0y,E8w]
    cases hcd:(r.code == 0)with
    |false=>exact⟨L3,by simp,E3.fr⟩
    |true=>
     cases hid:C7y R.2 0 with
     |false=>exact⟨L3,by simp,E3.fr⟩
     |true=>
      simp only[if_true,n4',A0l,List.length_cons,List.length_nil,List.getD_cons_zero,List.getD_cons_succ,D.A0y]
      exact⟨L4,by simp,E4.fr⟩
   |r::r'::t=>
    have hl1:((((r::r'::t).map Rep.d).length:Int) == 1)=false:=by simp only[List.map_cons,List.length_cons];exact beq_eq_false_iff_ne.2 (by omega)
    exact⟨L3,by simp only[if_true,hl1,Bool.false_eq_true,if_false];simp[E8w],E3.fr⟩
 obtain⟨L',e4,F4⟩:=hw
 refine⟨L',?_,F4⟩
 rw[E7r,n0',n1']
 simp only[A0l,List.length_cons,List.length_nil,List.getD_cons_zero,List.getD_cons_succ,B4c,A6f,Bool.not_true,Bool.false_eq_true,if_false,n2',G8i]
 exact e3.trans e4
theorem F6e:E1y=true:=by kernel_rfl
theorem G8m(L:List D):∃L',FX 66 [.agg L]=some [.bool true,.agg L']∧Fr L L' (fun _=>False):=by
 obtain⟨L',h,F⟩:=G4e L
 rw[F6e]at h
 exact⟨L',h,F⟩
theorem G5y(L:List D):∃L',FX 32 [.agg L]=some [.bool true,.agg L']∧Fr L L' (fun _=>False):=by
 obtain⟨L',h,F⟩:=G8m L
 refine⟨L',?_,F⟩
 rw[E8b,h]
 simp only[A0l,List.length_cons,List.length_nil,List.getD_cons_zero,List.getD_cons_succ]
end
end Go.Proofs.YtngflpppkicnaaaGreat.P
namespace Go.Proofs.YtngflpppkicnaaaGreat.RU
open Go.RowKit Go.Proofs.YtngflpppkicnaaaGreat.Eng Go.Proofs.YtngflpppkicnaaaGreat Go.Proofs.YtngflpppkicnaaaGreat.Dat
set_option linter.unusedVariables false
set_option linter.unusedSimpArgs false
section
theorem G0l(c:Cf):FX 62 c.ds=some [.int (match A1e c.B3c 0 with|none=>-1|some (j,_)=>j)]:=by
 have s7:A9g (.int c.c0) (.int c.c1) (.int c.c2) (.int c.c3) (.int c.c4) (.int c.c5) (.int c.c6) [.int 7]=some [.int (-1)]:=by rw[A4a];simp
 have w1:IntKind.i64.wrap 1=1:=rfl
 have w2:IntKind.i64.wrap 2=2:=rfl
 have w3:IntKind.i64.wrap 3=3:=rfl
 have w4:IntKind.i64.wrap 4=4:=rfl
 have w5:IntKind.i64.wrap 5=5:=rfl
 have w6:IntKind.i64.wrap 6=6:=rfl
 have w7:IntKind.i64.wrap 7=7:=rfl
 have s6:=A4a (.int c.c0) (.int c.c1) (.int c.c2) (.int c.c3) (.int c.c4) (.int c.c5) (.int c.c6) (.int 6)
 have s5:=A4a (.int c.c0) (.int c.c1) (.int c.c2) (.int c.c3) (.int c.c4) (.int c.c5) (.int c.c6) (.int 5)
 have s4:=A4a (.int c.c0) (.int c.c1) (.int c.c2) (.int c.c3) (.int c.c4) (.int c.c5) (.int c.c6) (.int 4)
 have s3:=A4a (.int c.c0) (.int c.c1) (.int c.c2) (.int c.c3) (.int c.c4) (.int c.c5) (.int c.c6) (.int 3)
 have s2:=A4a (.int c.c0) (.int c.c1) (.int c.c2) (.int c.c3) (.int c.c4) (.int c.c5) (.int c.c6) (.int 2)
 have s1:=A4a (.int c.c0) (.int c.c1) (.int c.c2) (.int c.c3) (.int c.c4) (.int c.c5) (.int c.c6) (.int 1)
 have s0:=A4a (.int c.c0) (.int c.c1) (.int c.c2) (.int c.c3) (.int c.c4) (.int c.c5) (.int c.c6) (.int 0)
 simp[w1,w2,w3,w4,w5,w6,w7]at s0 s1 s2 s3 s4 s5 s6
 have he:FX 62 c.ds=A9g (.int c.c0) (.int c.c1) (.int c.c2) (.int c.c3) (.int c.c4) (.int c.c5) (.int c.c6) [.int 0]:=by
  unfold Cf.ds;rw[E7z]
 rw[he,s0,s1,s2,s3,s4,s5,s6,s7]
 have hgo:∀(n lo hi:Int) (i:Nat) (w:ByteArray) (l:List Lim) (r:Option (List D)),(r=some [.int (match A1e l (i+1)with|none=>-1|some (j,_)=>j)])→
   (if n<lo then some [D.int (i:Int)]else if hi<n then some [D.int (i:Int)]else r)=some [.int (match A1e (⟨w,n,lo,hi⟩::l) i with|none=>-1|some (j,_)=>j)]:=by
  intro n lo hi i w l r hr
  simp only[A1e,Lim.ok]
  by_cases h1:n<lo
  ·have:¬(lo≤n∧n≤hi):=by omega
   simp only[h1,this,if_true,if_false]
  ·rw[if_neg h1]
   by_cases h2:hi<n
   ·have:¬(lo≤n∧n≤hi):=by omega
    simp only[h2,this,if_true,if_false]
   ·have:lo≤n∧n≤hi:=by omega
    simp only[h2,this,if_true,if_false,hr,and_self]
 exact hgo _ _ _ 0 _ _ _ (hgo _ _ _ 1 _ _ _ (hgo _ _ _ 2 _ _ _ (hgo _ _ _ 3 _ _ _ (hgo _ _ _ 4 _ _ _ (hgo _ _ _ 5 _ _ _ (hgo _ _ _ 6 _ _ _ rfl))))))
end
end Go.Proofs.YtngflpppkicnaaaGreat.RU
namespace Go.Proofs.YtngflpppkicnaaaGreat.P
open Go.RowKit Go.Proofs.YtngflpppkicnaaaGreat.Eng Go.Proofs.YtngflpppkicnaaaGreat Go.Proofs.YtngflpppkicnaaaGreat.Dat Go.Proofs.YtngflpppkicnaaaGreat.FDat
set_option linter.unusedVariables false
set_option linter.unusedSimpArgs false
set_option linter.unusedSectionVars false
set_option maxRecDepth 10000
section
theorem D9b(c:Cf):FX 30 [.int c.c0,.int c.c1,.int c.c2,.int c.c3,.int c.c4,.int c.c5,.int c.c6]=some [.bool (RU.A1e c.B3c 0).isNone]:=by
 have h:FX 62 [.int c.c0,.int c.c1,.int c.c2,.int c.c3,.int c.c4,.int c.c5,.int c.c6]=some [.int (match RU.A1e c.B3c 0 with|none=>-1|some (j,_)=>j)]:=RU.G0l c
 rw[F5v,h]
 simp only[A0l,List.length_cons,List.length_nil,List.getD_cons_zero,D.toInt_int]
 cases RU.A1e c.B3c 0 with
 |none=>rfl
 |some x=>
  obtain⟨j,e⟩:=x
  have:¬((j:Int)<0):=by omega
  simp[this]
theorem F7v{c:Cf}(hc:c.ok):(RU.A1e c.B3c 0).isNone=true:=by rw[(RU.C0o c).2 hc];rfl
theorem F6w{c:Cf}(hc:¬c.ok):(RU.A1e c.B3c 0).isNone=false:=by
 cases h:RU.A1e c.B3c 0 with
 |none=>exact absurd ((RU.C0o c).1 h) hc
 |some x=>rfl
theorem H1i(c:Cf)(l:List D)(n:Int):FX 12 [.int c.c0,.int c.c1,.int c.c2,.int c.c3,.int c.c4,.int c.c5,.int c.c6,.agg l,.int n]=some [.bool ((RU.A1e c.B3c 0).isNone&&decide ((l.length:Int)≤n))]:=by
 rw[D6b,D9b]
 simp only[A0l,List.length_cons,List.length_nil,List.getD_cons_zero,D.A0y,D.A0h,D.toInt_int]
 cases (RU.A1e c.B3c 0).isNone
 ·rfl
 ·simp only[if_true,Bool.true_and];rfl
theorem E5r(L:List D):∃L',FX 11 [.agg L]=some [.bool true,.agg L']∧Fr L L' (fun _=>False):=by
 obtain⟨L',h,F⟩:=G5y L
 refine⟨L',?_,F⟩
 rw[D1p,h]
 simp only[A0l,List.length_cons,List.length_nil,List.getD_cons_zero,List.getD_cons_succ]
theorem H2u(c:Cf)(hc:c.ok)(es:List PEv)(mx:Int)(hes:(es.length:Int)≤mx)(hmx:mx≤10000)(hw:∀e ∈ es,e.wf)(L:List D):
  ∃L' lab pl w m k za swa rea,FX 10 [.int c.c0,.int c.c1,.int c.c2,.int c.c3,.int c.c4,.int c.c5,.int c.c6,.agg (es.map PEv.d),.int mx,.agg L]=some [.int (pl:Nat),.agg L']∧Enc (Gl L) L' lab pl w m k za swa rea (B8i (A2h c) es)∧A3c (B8i (A2h c) es) es.length:=by
 obtain⟨L',lab,pl,w,m,k,za,swa,rea,h,E,P⟩:=H1j c hc es (by omega) hw mx hes L
 have h1:¬((es.map PEv.d).length:Int)>mx:=by simp;omega
 refine⟨L',lab,pl,w,m,k,za,swa,rea,?_,E,P⟩
 rw[C0z,D9b,F7v hc]
 simp only[A0l,List.length_cons,List.length_nil,List.getD_cons_zero,List.getD_cons_succ,D.A0y,Bool.not_true,Bool.false_eq_true,if_false,D.A0h,D.toInt_int,h1,decide_false,h]
theorem H3j{c:Cf}{es:List PEv}{mx:Int}(hm:¬(c.ok∧(es.length:Int)≤mx)):((RU.A1e c.B3c 0).isNone&&decide ((es.length:Int)≤mx))=false:=by
 by_cases hc:c.ok
 ·have:¬(es.length:Int)≤mx:=fun h=>hm ⟨hc,h⟩
  simp[this]
 ·rw[F6w hc];rfl
theorem H1p(c:Cf)(es:List PEv){mx:Int}(hm:¬(c.ok∧(es.length:Int)≤mx))(L:List D):
  FX 10 [.int c.c0,.int c.c1,.int c.c2,.int c.c3,.int c.c4,.int c.c5,.int c.c6,.agg (es.map PEv.d),.int mx,.agg L]=some [.nil,.agg L]:=by
 rw[C0z,D9b]
 by_cases hc:c.ok
 ·have h1:((es.map PEv.d).length:Int)>mx:=by have:¬(es.length:Int)≤mx:=fun h=>hm ⟨hc,h⟩;simp;omega
  simp only[F7v hc,A0l,List.length_cons,List.length_nil,List.getD_cons_zero,D.A0y,Bool.not_true,Bool.false_eq_true,if_false,D.A0h,D.toInt_int,h1,decide_true,if_true]
 ·simp only[F6w hc,A0l,List.length_cons,List.length_nil,List.getD_cons_zero,D.A0y,Bool.not_false,if_true]
theorem Enc.far{G:Nat→Option D}{L L':List D}{lab:Nat→Nat}{pl w m k:Nat}{za swa rea:List Nat}{P:A0m}(E:Enc G L lab pl w m k za swa rea P)(F:Fr L L' (fun _=>False)):Enc G L' (A3y lab 0 L) pl w m k za swa rea P:=
 E.base F (E.W.fr F not_false not_false not_false) (F.get E.A4o not_false) (fun b _ h=>h.elim) rfl rfl rfl
theorem In.of{x:Int}(h:(Lit.int .i64 x).wf=true):In x:=by
 unfold In
 simp[Lit.wf,IntKind.min,IntKind.max,IntKind.bits,IntKind.signed]at h
 omega
def i12:List Ty:=[.int .i64,.int .i64,.int .i64,.int .i64,.int .i64,.int .i64,.int .i64,.int .i64,.int .i64,.int .i64,.int .i64,.int .i64]
theorem H4i{ys:List D}(h:Open.C0x Tryz.prog i12 ys):∃e:PEv,D.agg ys=e.d∧e.wf:=by
 obtain⟨_,_,rfl,h0,_,_,rfl,h1,_,_,rfl,h2,_,_,rfl,h3,_,_,rfl,h4,_,_,rfl,h5,_,_,rfl,h6,_,_,rfl,h7,_,_,rfl,h8,_,_,rfl,h9,_,_,rfl,h10,_,_,rfl,h11,h⟩:=h
 obtain⟨a0,rfl,v0⟩:=h0.toInt
 obtain⟨a1,rfl,v1⟩:=h1.toInt
 obtain⟨a2,rfl,v2⟩:=h2.toInt
 obtain⟨a3,rfl,v3⟩:=h3.toInt
 obtain⟨a4,rfl,v4⟩:=h4.toInt
 obtain⟨a5,rfl,v5⟩:=h5.toInt
 obtain⟨a6,rfl,v6⟩:=h6.toInt
 obtain⟨a7,rfl,v7⟩:=h7.toInt
 obtain⟨a8,rfl,v8⟩:=h8.toInt
 obtain⟨a9,rfl,v9⟩:=h9.toInt
 obtain⟨a10,rfl,v10⟩:=h10.toInt
 obtain⟨a11,rfl,v11⟩:=h11.toInt
 have h:_=[]:=h
 subst h
 refine⟨⟨a0,a1,a2,⟨a3,a4,a5,⟨a6,a7,a8,a9,a10⟩,a11⟩⟩,rfl,.of v1,.of v2,fun z hz=>?_⟩
 simp only[Tm.vs,List.mem_cons,List.not_mem_nil,or_false]at hz
 rcases hz with rfl|rfl|rfl|rfl|rfl
 ·exact .of v6
 ·exact .of v7
 ·exact .of v8
 ·exact .of v9
 ·exact .of v10
theorem H4k{x0:List D}(h:Open.C0x Tryz.prog [.int .i64,.int .i64,.int .i64,.int .i64,.int .i64,.int .i64,.int .i64] x0):∃c:Cf,x0=[.int c.c0,.int c.c1,.int c.c2,.int c.c3,.int c.c4,.int c.c5,.int c.c6]:=by
 obtain⟨_,_,rfl,h0,_,_,rfl,h1,_,_,rfl,h2,_,_,rfl,h3,_,_,rfl,h4,_,_,rfl,h5,_,_,rfl,h6,h⟩:=h
 obtain⟨a0,rfl,v0⟩:=h0.toInt
 obtain⟨a1,rfl,v1⟩:=h1.toInt
 obtain⟨a2,rfl,v2⟩:=h2.toInt
 obtain⟨a3,rfl,v3⟩:=h3.toInt
 obtain⟨a4,rfl,v4⟩:=h4.toInt
 obtain⟨a5,rfl,v5⟩:=h5.toInt
 obtain⟨a6,rfl,v6⟩:=h6.toInt
 have h:_=[]:=h
 subst h
 exact⟨⟨a0,a1,a2,a3,a4,a5,a6⟩,rfl⟩
end
section
theorem H3o{L:List D}{q:Nat}{p:A0a}(h:L.getD q D.nil=.agg p.ds):FX 70 [.int (q:Nat),.agg L]=some [.bool (decide (p.pc≥14))]:=by
 rw[A7n]
 simp only[HH,h,A0a.all]
theorem E9q{l:List Nat}{i z:Nat}(h:l[i]?=some z):(A0n l).getD i D.nil=.int (z:Nat):=by
 unfold A0n
 rw[List.getD_eq_getElem?_getD,List.getElem?_map,h];rfl
section
variable{G:Nat→Option D}{L:List D}{lab:Nat→Nat}{pl w m k:Nat}{za swa rea:List Nat}{P:A0m}{n:Nat}(E:Enc G L lab pl w m k za swa rea P)
include E
theorem F9p:(P.raw (.int (w:Nat)) (A0n za) (A0n swa) (A0n rea)).w=.int (w:Nat)∧(P.raw (.int (w:Nat)) (A0n za) (A0n swa) (A0n rea)).A0c=A0n za∧(P.raw (.int (w:Nat)) (A0n za) (A0n swa) (A0n rea)).C3k=A0n swa∧(P.raw (.int (w:Nat)) (A0n za) (A0n swa) (A0n rea)).D0g=A0n rea:=⟨rfl,rfl,rfl,rfl⟩
theorem H2y{a:Nat}(ha:a<P.A0c.length):FX 44 [.int (pl:Nat),.int (a:Nat),.agg L]=some [.bool (A2e P a)]:=by
 have eb:C7y P (a:Int)=A2e P a:=by
  unfold C7y A2e
  rw[if_neg (by omega),if_neg (by omega),if_pos ha,Int.toNat_natCast,List.getElem?_eq_getElem ha]
  show E9b _=E2m _
  unfold E9b E2m
  generalize P.A0c[a]=x
  cases x.now<;>rfl
 rw[F3z E,eb]
theorem C9y(hl:P.sw.length=P.re.length)(h1000:P.A0c.length≤1000∧P.sw.length≤1000){a:Nat}(ha:a<A1x P):FX 22 [.int (pl:Nat),.int (a:Nat),.agg L]=some [.bool (A2e P a)]:=by
 have g:=F9p E
 unfold A1x at ha
 have z1:(A0n za).length=P.A0c.length:=by rw[B8w,E.zl]
 have z2:(A0n swa).length=P.sw.length:=by rw[B8w,E.swl]
 have z3:(A0n rea).length=P.re.length:=by rw[B8w,E.rel]
 rw[C9e]
 have w1:IntKind.i64.wrap ((a:Int)-P.A0c.length)=(a:Int)-P.A0c.length:=A0t _ (by omega) (by omega)
 have w2:IntKind.i64.wrap ((a:Int)-P.A0c.length-P.sw.length)=(a:Int)-P.A0c.length-P.sw.length:=A0t _ (by omega) (by omega)
 have w3:IntKind.i64.wrap (2*(P.sw.length:Int))=2*(P.sw.length:Int):=A0t _ (by omega) (by omega)
 simp only[HH,E.A4o,A0d.A1h,A0d.A1p,A0d.A1v,g.2.1,g.2.2.1,g.2.2.2,z1,z2,z3,w1,w2,w3]
 by_cases h1:a<P.A0c.length
 ·have n1:(a:Int)<(P.A0c.length:Int):=by omega
  simp only[n1,decide_true,if_true,H2y E h1,A0l,List.length_cons,List.length_nil,List.getD_cons_zero]
 ·have n1:¬(a:Int)<(P.A0c.length:Int):=by omega
  by_cases h2:a-P.A0c.length<P.sw.length
  ·have n2:(a:Int)-P.A0c.length<(P.sw.length:Int):=by omega
   have n3:(a:Int)-P.A0c.length≥0:=by omega
   have ej:((a:Int)-P.A0c.length).toNat=a-P.A0c.length:=by omega
   have hz:a-P.A0c.length<swa.length:=by rw[E.swl];exact h2
   have hx:=List.getElem?_eq_getElem h2
   have hzz:=List.getElem?_eq_getElem hz
   obtain⟨q,ptr,k1,k2,_⟩:=E.sw _ _ _ hx hzz
   have p1:=E9q hzz
   have eb:A2e P a=((P.sw[a-P.A0c.length]).1.at_ == 0&&A4l (P.sw[a-P.A0c.length]).2):=by unfold A2e;rw[if_neg h1,if_pos h2,hx];rfl
   rw[eb]
   generalize P.sw[a-P.A0c.length]=y at*
   generalize swa[a-P.A0c.length]=z at*
   simp only[n1,n2,n3,decide_false,decide_true,Bool.false_eq_true,if_false,if_true,ej,p1,C3i,HH,k1,SwS.A1h,SwS.A1v]
   have e1:(y.1.at ptr).at_=y.1.at_:=rfl
   have e2:(y.1.at ptr).p=ptr:=rfl
   rw[e1,e2]
   by_cases h0:y.1.at_=0
   ·simp only[h0,beq_self_eq_true,if_true,Bool.true_and]
    cases ho:y.2 with
    |none=>
     rw[ho]at k2
     have k2:ptr=.nil:=k2
     rw[k2,A7n]
     simp only[B4c,if_true,A0l,List.length_cons,List.length_nil,List.getD_cons_zero];rfl
    |some p=>
     rw[ho]at k2
     obtain⟨k2,k3⟩:=k2
     rw[k2,H3o k3]
     simp only[A0l,List.length_cons,List.length_nil,List.getD_cons_zero];rfl
   ·have:(y.1.at_ == 0)=false:=by simpa using h0
    simp only[this,Bool.false_eq_true,if_false,Bool.false_and,A0l,List.length_cons,List.length_nil,List.getD_cons_zero,if_true]
  ·have n2:¬(a:Int)-P.A0c.length<(P.sw.length:Int):=by omega
   have n3:(a:Int)-P.A0c.length<2*(P.sw.length:Int):=by omega
   have n4:(a:Int)-P.A0c.length-P.sw.length≥0:=by omega
   have h3:a-P.A0c.length-P.sw.length<P.re.length:=by omega
   have n5:(a:Int)-P.A0c.length-P.sw.length<(P.re.length:Int):=by omega
   have ej:((a:Int)-P.A0c.length-P.sw.length).toNat=a-P.A0c.length-P.sw.length:=by omega
   have hz:a-P.A0c.length-P.sw.length<rea.length:=by rw[E.rel];exact h3
   have hx:=List.getElem?_eq_getElem h3
   have hzz:=List.getElem?_eq_getElem hz
   obtain⟨k1,_⟩:=E.re _ _ _ hx hzz
   have p1:=E9q hzz
   have eb:A2e P a=((P.re[a-P.A0c.length-P.sw.length]).pc == 0):=by unfold A2e;rw[if_neg h1,if_neg h2,hx];rfl
   rw[eb]
   generalize P.re[a-P.A0c.length-P.sw.length]=y at*
   generalize rea[a-P.A0c.length-P.sw.length]=z at*
   simp only[n1,n2,n3,n4,n5,decide_false,decide_true,Bool.false_eq_true,if_false,if_true,ej,p1,C4l,HH,k1,ReS.A1h]
end
def GR(G:Nat→Option D)(r pl:Nat)(rows:List D)(b:Nat):Option D:=if b=r then some (.agg [.int (pl:Nat),.agg rows])else G b
section
variable{G:Nat→Option D}{L:List D}{lab:Nat→Nat}{pl w m k r:Nat}{za swa rea:List Nat}{P:A0m}{n:Nat}{rows:List D}
theorem Enc.give(E:Enc G L lab pl w m k za swa rea P):Enc (GR G L.length pl []) (L++[.agg [.int (pl:Nat),.agg []]]) (A3y lab 4 L) pl w m k za swa rea P:=by
 have F:Fr L (L++[.agg [.int (pl:Nat),.agg []]]) (fun _=>False):=Fr.snoc L _ _
 have hp:=F.get E.A4o not_false
 have W:=E.W.fr F not_false not_false not_false
 have no:∀i b,b<L.length→lab b=i→¬(fun _:Nat=>False) b:=fun _ _ _ _=>not_false
 refine⟨W,hp,E5b E F W hp 4,E.zl,E.swl,E.rel,fun i x z hx hz=>(E.ss i x z hx hz).fr F (no _),fun i x z hx hz=>(E.sw i x z hx hz).fr F (no _),fun i x z hx hz=>(E.re i x z hx hz).fr F (no _),fun b x h=>?_⟩
 unfold GR at h
 split at h
 ·rename_i e
  cases h;subst e
  exact⟨by simp,if_neg (Nat.lt_irrefl _),A5m _ _⟩
 ·exact E.F4j F 4 (fun _ _ q=>q.elim) b x h
theorem Enc.G9z(E:Enc (GR G r pl rows) L lab pl w m k za swa rea P)(y:D)(G':Nat→Option D)(hG:∀b x,G' b=some x→(b=r∧x=y)∨(b≠r∧G b=some x)):Enc G' (L.set r y) (A3y lab 0 L) pl w m k za swa rea P:=by
 obtain⟨hr,lr,_⟩:=E.pre r _ (if_pos rfl)
 have F:Fr L (L.set r y) (·=r):=Fr.set L r y rfl
 obtain⟨l1,l2,l3,l4⟩:=E.l0
 have ne:∀b,lab b=0→¬b=r:=fun b h e=>by rw[e,lr]at h;cases h
 have hp:=F.get E.A4o (ne _ l1)
 have W:=E.W.fr F (ne _ l2) (ne _ l3) (ne _ l4)
 have no:∀i,i≠4→∀b,b<L.length→lab b=i→¬b=r:=fun i hi b _ h e=>by rw[e,lr]at h;exact hi h.symm
 refine⟨W,hp,E5b E F W hp 0,E.zl,E.swl,E.rel,fun i x z hx hz=>(E.ss i x z hx hz).fr F (no _ (by omega)),fun i x z hx hz=>(E.sw i x z hx hz).fr F (no _ (by omega)),fun i x z hx hz=>(E.re i x z hx hz).fr F (no _ (by omega)),fun b x h=>?_⟩
 rcases hG b x h with⟨e1,e2⟩|⟨e1,e2⟩
 ·subst e1;subst e2
  exact⟨by rw[List.length_set];exact hr,by rw[A2n F hr];exact lr,A3m hr _⟩
 ·obtain⟨k1,k2,k3⟩:=E.pre b x (by unfold GR;rw[if_neg e1];exact e2)
  exact⟨by rw[List.length_set];exact k1,by rw[A2n F k1];exact k2,by rw[A3d (fun q=>e1 q.symm)];exact k3⟩
end
theorem F7y{a:Nat}(h:a≤100000):(B9d a).wf:=by
 refine⟨In.lit (z:=(a:Int)) (by omega),In.lit (z:=0) (by decide),fun z hz=>?_⟩
 have:z=0:=by
  change z ∈ [(0:Int),0,0,0,0]at hz
  simpa using hz
 rw[this];exact In.lit (by decide)
def B6i(P:A0m)(a d:Nat):A0m:=B8i P (List.replicate d (B9d a))
theorem D6p(P:A0m)(a d:Nat):B6i P a (d+1)=B6i (doP P (B9d a)).2 a d:=rfl
theorem G1v(x y z:D):((List.range 2).map fun j=>[x,y].getD j D.nil).set 1 z=[x,z]:=rfl
theorem G7x{G:Nat→Option D}{pl w m k r:Nat}{za swa rea:List Nat}{a t:Nat}(ha:a≤100000)(x3:D):∀(d j n:Nat) (L:List D) (lab:Nat→Nat) (P:A0m) (rows:List D),j+d=t→t≤100000000→Enc (GR G r pl rows) L lab pl w m k za swa rea P→A3c P n→n+d≤100000000→rows.length+d≤1000000000→
  ∃L' lab' rows',A6l (.int (r:Nat)) (.int (a:Nat)) (.int (t:Nat)) x3 [.int (j:Nat),.agg L]=some [.agg L']∧Enc (GR G r pl rows') L' lab' pl w m k za swa rea (B6i P a d)∧A3c (B6i P a d) (n+d)∧rows'.length=rows.length+d:=by
 intro d
 induction d with
 |zero=>
  intro j n L lab P rows hj ht E hP hn hr
  have h1:¬(j:Int)<(t:Int):=by omega
  refine⟨L,lab,rows,?_,E,hP,rfl⟩
  rw[B0u]
  simp only[D.toInt_int,h1,decide_false,Bool.false_eq_true,if_false]
 |succ d ih=>
  intro j n L lab P rows hj ht E hP hn hr
  have h1:(j:Int)<(t:Int):=by omega
  have g1:=(E.pre r _ (if_pos rfl)).2.2
  obtain⟨L1,lab1,n1,E1⟩:=D9p E hP (by omega) (B9d a) (F7y ha)
  have n1:FX 55 [.int (pl:Nat),.int 3,.int (a:Nat),.int 0,.int 0,.int 0,.int 0,.int 0,.int 0,.int 0,.int 0,.int 0,.int 0,.agg L]=some [.bool (doP P (B9d a)).1,.agg L1]:=n1
  have g2:=(E1.pre r _ (if_pos rfl)).2.2
  have hlen:((rows++[D.agg [.int 3,.int (a:Nat),.int 0,.int 0,.int 0,.int 0,.int 0,.int 0,.int 0,.int 0,.int 0,.int 0]]).length:Int)≤1466015503701:=by simp;omega
  have E2:=E1.G9z (.agg [.int (pl:Nat),.agg (rows++[D.agg [.int 3,.int (a:Nat),.int 0,.int 0,.int 0,.int 0,.int 0,.int 0,.int 0,.int 0,.int 0,.int 0]])]) (GR G r pl (rows++[D.agg [.int 3,.int (a:Nat),.int 0,.int 0,.int 0,.int 0,.int 0,.int 0,.int 0,.int 0,.int 0,.int 0]])) fun b x h=>by
   unfold GR at h
   split at h
   ·cases h;exact .inl ⟨by assumption,rfl⟩
   ·exact .inr ⟨by assumption,h⟩
  obtain⟨L',lab',rows',n2,E3,P3,h3⟩:=ih (j+1) (n+1) _ _ _ _ (by omega) ht E2 (C9c hP (by omega) _ (F7y ha)) (by omega) (by simp;omega)
  refine⟨L',lab',rows',?_,by rw[D6p];exact E3,by rw[D6p,show n+(d+1)=n+1+d by omega];exact P3,by rw[h3];simp;omega⟩
  rw[B0u]
  simp only[D.toInt_int,h1,decide_true,if_true,A6f,Bool.not_false,D.A0h,Int.toNat_natCast,g1,List.getD_cons_zero,n1,A0l,List.length_cons,List.length_nil,List.getD_cons_succ,g2,G7u,hlen,C0f,G1v]
  rw[A0t _ (by omega) (by omega)]
  exact n2
theorem Oth.refl(P:A0m)(a:Nat):Oth P P a:=⟨rfl,rfl,rfl,rfl,fun _ _=>rfl,fun _ _=>rfl,fun _ _=>rfl⟩
theorem Oth.trans{P P1 P2:A0m}{a:Nat}(h:Oth P P1 a)(g:Oth P1 P2 a):Oth P P2 a:=
 ⟨g.c.trans h.c,g.sl.trans h.sl,g.wl.trans h.wl,g.rl.trans h.rl,fun i hi=>(g.ss i hi).trans (h.ss i hi),fun j hj=>(g.sw j (by rw[h.sl];exact hj)).trans (h.sw j hj),fun j hj=>(g.re j (by rw[h.sl,h.wl];exact hj)).trans (h.re j hj)⟩
theorem G6v{G:Nat→Option D}{pl w m k r:Nat}{za swa rea:List Nat}{a:Nat}(ha:a≤100000)(x2:D):∀(μ n:Nat) (L:List D) (lab:Nat→Nat) (P:A0m) (rows:List D),mu P a≤μ→Enc (GR G r pl rows) L lab pl w m k za swa rea P→A3c P n→PI P→PH P→a<A1x P→n+μ≤99000000→rows.length+μ≤900000000→
  ∃d L' lab' rows' P',A5t (.int (r:Nat)) (.int (a:Nat)) x2 [.agg L]=some [.agg L']∧Enc (GR G r pl rows') L' lab' pl w m k za swa rea P'∧A3c P' (n+d)∧PI P'∧PH P'∧Oth P P' a∧A2e P' a=true∧d≤μ∧rows'.length≤rows.length+d:=by
 intro μ
 induction μ with
 |zero=>
  intro n L lab P rows hm E hP I H hA hn hr
  cases hb:A2e P a with
  |false=>
   have:=(F6r hP.ok (by omega) I H hP.sr hA hb).2
   omega
  |true=>
   have g1:=(E.pre r _ (if_pos rfl)).2.2
   refine⟨0,L,lab,rows,P,?_,E,hP,I,H,Oth.refl P a,hb,Nat.le_refl _,Nat.le_refl _⟩
   rw[A7e]
   simp only[HH,g1,C9y E hP.sr ⟨hP.sl,hP.wl⟩ hA,hb]
 |succ μ ih=>
  intro n L lab P rows hm E hP I H hA hn hr
  have g1:=(E.pre r _ (if_pos rfl)).2.2
  cases hb:A2e P a with
  |true=>
   refine⟨0,L,lab,rows,P,?_,E,hP,I,H,Oth.refl P a,hb,Nat.zero_le _,Nat.le_refl _⟩
   rw[A7e]
   simp only[HH,g1,C9y E hP.sr ⟨hP.sl,hP.wl⟩ hA,hb]
  |false=>
   obtain⟨o,hlt⟩:=F6r hP.ok (by omega) I H hP.sr hA hb
   obtain⟨L1,lab1,rows1,n1,E1,P1,h1⟩:=G7x (t:=1) ha (.agg L) 1 0 n L lab P rows rfl (by decide) E hP (by omega) (by omega)
   have I1:PI (B6i P a 1):=F4e hP (by omega) I _
   have H1:PH (B6i P a 1):=F6p hP (by omega) I H _
   have o:Oth P (B6i P a 1) a:=o
   have hlt:mu (B6i P a 1) a<mu P a:=hlt
   have hA1:a<A1x (B6i P a 1):=by unfold A1x;rw[o.sl,o.wl,o.rl];exact hA
   obtain⟨d,L',lab',rows',P',n2,E2,P2,I2,H2,o2,b2,hd,hr2⟩:=ih (n+1) L1 lab1 _ rows1 (by omega) E1 P1 I1 H1 hA1 (by omega) (by omega)
   refine⟨d+1,L',lab',rows',P',?_,E2,by rw[show n+(d+1)=n+1+d by omega];exact P2,I2,H2,o.trans o2,b2,by omega,by omega⟩
   rw[A7e]
   have n1:FX 49 [.int (r:Nat),.int (a:Nat),.int 1,.agg L]=some [.agg L1]:=by rw[C5w];exact n1
   simp only[HH,g1,C9y E hP.sr ⟨hP.sl,hP.wl⟩ hA,hb,n1]
   exact n2
theorem G5b{G:Nat→Option D}{pl w m k:Nat}{za swa rea:List Nat}(L0:List D)(hG:∀b x,G b=some x→b≠L0.length)(N B:Nat)(hN:N≤1000):∀(d a n:Nat) (L:List D) (lab:Nat→Nat) (P:A0m) (rows:List D),a+d=N→A1x P=N→Enc (GR G L0.length pl rows) L lab pl w m k za swa rea P→A3c P n→PI P→PH P→
  (∀b,b<a→A2e P b=true)→(∀b,a≤b→mu P b≤B)→n+d*B≤99000000→rows.length+d*B≤900000000→
  ∃n' L' lab' rows' P',A9z (.int (pl:Nat)) (.agg L0) (.int (N:Nat)) [.int (a:Nat),.agg L]=some [.agg rows',.agg L']∧Enc G L' lab' pl w m k za swa rea P'∧A3c P' n'∧n'≤n+d*B∧PI P'∧PH P'∧P'.S.c=P.S.c∧A1x P'=N∧∀b,b<N→A2e P' b=true:=by
 intro d
 induction d with
 |zero=>
  intro a n L lab P rows ha hA E hP I H hb hm hn hr
  have g1:=(E.pre L0.length _ (if_pos rfl)).2.2
  have h1:¬(a:Int)<(N:Int):=by omega
  have E3:Enc G (L.set L0.length (.agg [.int (pl:Nat),.nil])) (A3y lab 0 L) pl w m k za swa rea P:=E.G9z _ G fun b x h=>.inr ⟨hG b x h,h⟩
  refine⟨n,_,_,rows,P,?_,E3,hP,by omega,I,H,rfl,hA,fun b hlt=>hb b (by omega)⟩
  rw[B6w]
  simp only[D.toInt_int,h1,decide_false,Bool.false_eq_true,if_false,D.A0h,Int.toNat_natCast,g1,List.getD_cons_succ,List.getD_cons_zero,G7u,Bool.not_false,if_true,G1v]
 |succ d ih=>
  intro a n L lab P rows ha hA E hP I H hb hm hn hr
  have h1:(a:Int)<(N:Int):=by omega
  have e:(d+1)*B=d*B+B:=Nat.succ_mul d B
  obtain⟨d1,L1,lab1,rows1,P1,n1,E1,hP1,I1,H1,o1,b1,hd1,hr1⟩:=G6v (a:=a) (by omega) (.agg L) B n L lab P rows (hm a (Nat.le_refl _)) E hP I H (by omega) (by omega) (by omega)
  obtain⟨n',L',lab',rows',P',n2,E2,hP2,hn2,I2,H2,c2,a2,b2⟩:=ih (a+1) (n+d1) L1 lab1 P1 rows1 (by omega) (by unfold A1x at hA⊢;rw[o1.sl,o1.wl,o1.rl];exact hA) E1 hP1 I1 H1 (fun b h=>by
    by_cases q:b=a
    ·rw[q];exact b1
    ·rw[(o1.mu q).2];exact hb b (by omega)) (fun b h=>by rw[(o1.mu (show b≠a by omega)).1];exact hm b (by omega)) (by omega) (by omega)
  refine⟨n',L',lab',rows',P',?_,E2,hP2,by omega,I2,H2,c2.trans o1.c,a2,b2⟩
  rw[B6w]
  have n1:FX 47 [.int (L0.length:Nat),.int (a:Nat),.agg L]=some [.agg L1]:=by rw[C4d];exact n1
  simp only[D.toInt_int,h1,decide_true,if_true,D.A0h,n1,A0l,List.length_cons,List.length_nil,List.getD_cons_zero]
  rw[A0t _ (by omega) (by omega)]
  exact n2
end
section
structure C1b(P:A0m):Prop where
 s:(P.A0c.length:Int)=P.S.c.c0
 w:(P.sw.length:Int)=A4b P.S.c
theorem H3u{P:A0m}{n:Nat}(at_:A3c P n)(hn:n<100000000)(e:PEv)(h:C1b P):C1b (doP P e).2:=by
 have st:∀(P':A0m),P'.S.c=P.S.c→P'.A0c.length=P.A0c.length→P'.sw.length=P.sw.length→C1b P':=fun P' a b c=>⟨by rw[a,b];exact h.s,by rw[a,c];exact h.w⟩
 unfold doP
 split
 ·exact st _ rfl rfl rfl
 split
 ·have k:=D5c (B9k at_.ok) (by omega) e.who
  exact st _ k.w.c k.sl k.swl
 split
 ·split
  ·split
   ·exact st _ rfl (by show(P.A0c.set _ _).length=_;rw[List.length_set]) rfl
   ·exact st _ rfl rfl rfl
  split
  ·split
   ·exact st _ rfl (by show(P.A0c.set _ _).length=_;rw[List.length_set]) rfl
   ·exact st _ rfl rfl rfl
  ·exact st _ rfl rfl rfl
 ·exact st _ rfl rfl rfl
theorem H1f(es:List PEv):∀{P:A0m} {n:Nat},A3c P n→n+es.length≤100000→(∀e ∈ es,e.wf)→C1b P→C1b (B8i P es):=by
 induction es with
 |nil=>intro P n _ _ _ h;exact h
 |cons e es ih=>
  intro P n at_ hn hw h
  simp only[List.length_cons]at hn
  exact ih (C9c at_ (by omega) e (hw e (List.mem_cons_self ..))) (by omega) (fun e' he=>hw e' (List.mem_cons_of_mem _ he)) (H3u at_ (by omega) e h)
theorem H1w(c:Cf)(hc:c.ok):C1b (A2h c):=by
 have hs:=B1c c hc
 have h0:=hc.1
 refine⟨?_,?_⟩
 ·show((((List.range c.c0.toNat).map fun(i:Nat)=>A4k c i).length:Nat):Int)=c.c0
  rw[List.length_map,List.length_range];omega
 ·show((((List.range (A4b c).toNat).map fun(i:Nat)=>B2p i).length:Nat):Int)=A4b c
  rw[List.length_map,List.length_range];omega
theorem E7h(c:Cf)(hc:c.ok):FX 21 [.int c.c0,.int c.c1,.int c.c2,.int c.c3,.int c.c4,.int c.c5,.int c.c6]=some [.int (c.c0+2*A4b c)]:=by
 have hs:=B1c c hc
 have h0:=hc.1
 have h:FX 43 [.int c.c0,.int c.c1,.int c.c2,.int c.c3,.int c.c4,.int c.c5,.int c.c6]=some [.int (A4b c)]:=E6c c hc
 rw[C9j,h]
 simp only[A0l,List.length_cons,List.length_nil,List.getD_cons_zero,D.toInt_int]
 rw[A0t (2*_) (by omega) (by omega),A0t _ (by omega) (by omega)]
theorem G9j{P:A0m}{n:Nat}(hP:A3c P n)(I:PI P)(b:Nat):mu P b≤1500*n+20000:=by
 have hc:=hP.ok.S.c
 have hall:=A5b P.S.c hc
 unfold mu
 split
 ·cases e:P.A0c[b]? with
  |none=>exact Nat.zero_le _
  |some x=>
   have so:=hP.ok.A0c x (List.mem_of_getElem? e)
   show muS x≤_
   unfold muS
   have hq:=so.D3x
   have:(match x.now with|some (pr,o)=>muA pr o|none=>0)≤20000:=by
    cases hn:x.now with
    |none=>exact Nat.zero_le _
    |some v=>
     obtain⟨pr,o⟩:=v
     have po:=so.prog pr o hn
     show muA pr o≤20000
     have ho:E3c o≤14:=by
      cases h:o with
      |none=>exact Nat.zero_le _
      |some p=>
       have ht:tr P (2*b)=some p:=by
        unfold tr
        rw[if_pos (by omega),show 2*b/2=b by omega,e]
        show x.now.bind _=_
        rw[hn,h];rfl
       have:=(I.tri _ _ ht).1
       show(14-p.pc).toNat≤14
       omega
     have h1:=po.pc
     have h2:=po.tries
     have h3:=po.n
     have h4:=po.A3o
     unfold muA
     split
     ·split<;>omega
     ·omega
   exact Nat.le_trans (Nat.add_le_add (Nat.mul_le_mul_left 1500 hq) this) (by omega)
 ·split
  ·cases e:P.sw[b-P.A0c.length]? with
   |none=>exact Nat.zero_le _
   |some y=>
    have so:=(hP.ok.sw y (List.mem_of_getElem? e)).1
    show muW P.S.c y≤_
    have ho:0≤opc y.2:=by
     unfold opc
     cases h:y.2 with
     |none=>exact Int.le_refl _
     |some p=>
      have hw:b-P.A0c.length<P.sw.length:=by assumption
      have ht:tr P (2*(b-P.A0c.length)+1)=some p:=by
       unfold tr
       rw[if_neg (by omega),show(2*(b-P.A0c.length)+1)/2=b-P.A0c.length by omega,e];exact h
      have:=(I.tri _ _ ht).1
      dsimp only
      split<;>omega
    have hN:A0p P.S.c*A0p P.S.c≤24*24:=Int.mul_le_mul hall.2 hall.2 (by omega) (by decide)
    obtain⟨s1,s2⟩:=so
    unfold muW
    split
    ·omega
    ·omega
  ·cases e:P.re[b-P.A0c.length-P.sw.length]? with
   |none=>exact Nat.zero_le _
   |some y=>
    have so:=(hP.ok.re y (List.mem_of_getElem? e)).pc
    show muR P.S.c y≤_
    unfold muR
    split<;>omega
section
variable{G:Nat→Option D}{L:List D}{lab:Nat→Nat}{pl w m k:Nat}{za swa rea:List Nat}{P:A0m}{n:Nat}(E:Enc G L lab pl w m k za swa rea P)(hP:A3c P n)
include E hP
theorem C9p(hL:C1b P):(A1x P:Int)=P.S.c.c0+2*A4b P.S.c∧A1x P≤100:=by
 have hs:=B1c P.S.c hP.ok.S.c
 have h0:=hP.ok.S.c.1
 have h1:=hL.s
 have h2:=hL.w
 have h3:=hP.sr
 unfold A1x
 omega
theorem G1s(hn:n≤1000)(I:PI P)(H:PH P)(hL:C1b P):∃rows L' lab' P' n',FX 23 [.int (pl:Nat),.agg L]=some [.agg rows,.agg L']∧Enc G L' lab' pl w m k za swa rea P'∧A3c P' n'∧n'≤99000000∧PI P'∧PH P'∧P'.S.c=P.S.c∧∀b,b<A1x P'→A2e P' b=true:=by
 obtain⟨a1,a2⟩:=C9p E hP hL
 have E1:=E.give
 have hB:A1x P*(1500*n+20000)≤100*1520000/2:=by
  have:A1x P*(1500*n+20000)≤50*1520000:=Nat.mul_le_mul (by
   have hs:=B1c P.S.c hP.ok.S.c
   have h0:=hP.ok.S.c.1
   omega) (by omega)
  omega
 obtain⟨n',L',lab',rows',P',n1,E2,hP2,hn2,I2,H2,c2,l2,b2⟩:=G5b L (fun b x h=>by have:=(E.pre b x h).1;omega) (A1x P) (1500*n+20000) (by omega) (A1x P) 0 n _ _ P [] (by omega) rfl E1 hP I H (fun b h=>by omega) (fun b _=>G9j hP I b) (by omega) (by simp;omega)
 refine⟨rows',L',lab',P',n',?_,E2,hP2,by omega,I2,H2,c2,fun b h=>b2 b (by rw[←l2];exact h)⟩
 have g:=F9p E1
 have ag:=E7h P.S.c hP.ok.S.c
 rw[←a1]at ag
 rw[D9z]
 simp only[HH,E1.A4o,A0d.A1i,g.1,E1.W.w,A0f.A1i,A0f.A1h,A0f.A1p,A0f.A1v,A0f.A1u,A0f.A3b,A0f.A4n,ag]
 exact n1
def C9w(S:WS)(x:Nat):D:=.agg ((stx S x).ds++(tmx S x).ds)
def A8l(S:WS):List D:=(List.range (A0p S.c).toNat).map (C9w S)
theorem F0q(hn:n≤100000000)(I:PI P):FX 20 [.int (pl:Nat),.agg L]=some [.agg (A8l P.S)]:=by
 have hc:=hP.ok.S.c
 have hall:=A5b P.S.c hc
 have hwl:=I.wi.len
 have g:=F9p E
 have key:∀(d j:Nat),(j+d:Int)=A0p P.S.c→B1l (.int (pl:Nat)) (.agg L) (.agg (P.S.words.map wN)) (.int (A0p P.S.c)) [.int (j:Nat),.agg ((List.range j).map (C9w P.S))]=some [.agg (A8l P.S)]:=by
  intro d
  induction d with
  |zero=>
   intro j hj
   have h1:¬(j:Int)<A0p P.S.c:=by omega
   have e:(A0p P.S.c).toNat=j:=by omega
   rw[B8d]
   simp only[D.toInt_int,h1,decide_false,Bool.false_eq_true,if_false]
   unfold A8l;rw[e]
  |succ d ih=>
   intro j hj
   have h1:(j:Int)<A0p P.S.c:=by omega
   have e1:IntKind.i64.wrap (2*(j:Int))=((2*j:Nat):Int):=by rw[A0t _ (by omega) (by omega)];omega
   have e2:IntKind.i64.wrap (((2*j:Nat):Int)+1)=((2*j+1:Nat):Int):=by rw[A0t _ (by omega) (by omega)];omega
   have e3:IntKind.i64.wrap ((j:Int)+1)=((j+1:Nat):Int):=by rw[A0t _ (by omega) (by omega)];omega
   have l1:2*j<P.S.words.length:=by omega
   have l2:2*j+1<P.S.words.length:=by omega
   have gw:∀i,i<P.S.words.length→(P.S.words.map wN).getD i D.nil=.int ((wd P.S.words (i:Int):Nat):Int):=fun i hi=>by
    rw[List.getD_eq_getElem?_getD,List.getElem?_map,List.getElem?_eq_getElem hi]
    unfold wd
    rw[if_neg (by omega),Int.toNat_natCast,List.getD_eq_getElem?_getD,List.getElem?_eq_getElem hi];rfl
   have s1:=D0j (P.S.word (j:Nat)) (WS.B8e hP.ok.S _)
   have s2:=F1x (P.S.A7t (j:Nat)) (WS.G6j hP.ok.S _)
   have v1:wd P.S.words ((2*j:Nat):Int)=P.S.word (j:Nat):=by unfold WS.word;congr 1
   have v2:wd P.S.words ((2*j+1:Nat):Int)=P.S.A7t (j:Nat):=by unfold WS.A7t;congr 1
   have hl1:((2*j:Nat):Int)<((P.S.words.map wN).length:Int):=by rw[List.length_map];omega
   have hl2:((2*j+1:Nat):Int)<((P.S.words.map wN).length:Int):=by rw[List.length_map];omega
   have p1:((2*j:Nat):Int)≥0:=by omega
   have p2:((2*j+1:Nat):Int)≥0:=by omega
   have nx:=ih (j+1) (by omega)
   rw[List.range_succ,List.map_append]at nx
   have hcd:[j].map (C9w P.S)=[D.agg [.int (stx P.S j).k,.bool (stx P.S j).f,.int (stx P.S j).g,.int (stx P.S j).l,.int (stx P.S j).n,.int (tmx P.S j).name,.int (tmx P.S j).side,.int (tmx P.S j).A0j,.int (tmx P.S j).least,.int (tmx P.S j).A1l]]:=rfl
   rw[hcd]at nx
   have hlen:((((List.range j).map (C9w P.S))++[D.agg [.int (stx P.S j).k,.bool (stx P.S j).f,.int (stx P.S j).g,.int (stx P.S j).l,.int (stx P.S j).n,.int (tmx P.S j).name,.int (tmx P.S j).side,.int (tmx P.S j).A0j,.int (tmx P.S j).least,.int (tmx P.S j).A1l]]).length:Int)≤1759218604441:=by simp;omega
   have d1:(A0i (P.S.word (j:Nat))).ds=[.int (stx P.S j).k,.bool (stx P.S j).f,.int (stx P.S j).g,.int (stx P.S j).l,.int (stx P.S j).n]:=rfl
   have d2:(B4g (P.S.A7t (j:Nat))).ds=[.int (tmx P.S j).name,.int (tmx P.S j).side,.int (tmx P.S j).A0j,.int (tmx P.S j).least,.int (tmx P.S j).A1l]:=rfl
   rw[d1]at s1;rw[d2]at s2
   rw[B8d]
   simp only[HH,h1,decide_true,E.A4o,A0d.A1i,g.1,E.W.w,A0f.A1i,A0f.A1h,A0f.A1p,A0f.A1v,A0f.A1u,A0f.A3b,A0f.A4n,A7u,B0h,e1,e2,p1,p2,hl1,hl2,gw _ l1,gw _ l2,v1,v2,s1,s2,hlen,e3]
   exact nx
 have k0:=key (A0p P.S.c).toNat 0 (by omega)
 rw[E4o]
 simp only[HH,E.A4o,A0d.A1i,g.1,E.W.w,A0f.A1i,A0f.A1h,A0f.A1p,A0f.A1v,A0f.A1u,A0f.A3b,A0f.A4n,A0f.A7y,G3f E hP.ok hn,E9d hP.ok.S]
 exact k0
theorem E6v(j:Nat)(hj:(j:Int)<A0p P.S.c):(A8l P.S).getD j D.nil=C9w P.S j:=by
 unfold A8l
 rw[List.getD_eq_getElem?_getD,List.getElem?_map,List.getElem?_range (by omega)];rfl
theorem E5s:(A8l P.S).length=(A0p P.S.c).toNat:=by unfold A8l;rw[List.length_map,List.length_range]
theorem G7p(hn:n≤100000000)(I:PI P)(hq:∀x,InC P.S.c x→(stx P.S x).held=false∧(stx P.S x).f=false):FX 24 [.int (pl:Nat),.agg L]=some [.bool true]:=by
 have hall:=A5b P.S.c hP.ok.S.c
 have ll:=E5s E hP
 have key:∀(d j:Nat),(j+d:Int)=A0p P.S.c→B1n (.int (pl:Nat)) (.agg L) (.agg (A8l P.S)) [.int (j:Nat)]=some [.bool true]:=by
  intro d
  induction d with
  |zero=>
   intro j hj
   have h1:¬(j:Int)<((A8l P.S).length:Int):=by rw[ll];omega
   rw[B8b]
   simp only[D.toInt_int,D.A0h,h1,decide_false,Bool.false_eq_true,if_false]
  |succ d ih=>
   intro j hj
   have h1:(j:Int)<((A8l P.S).length:Int):=by rw[ll];omega
   have h2:(j:Int)≥0:=by omega
   have gd:=E6v E hP j (by omega)
   obtain⟨q1,q2⟩:=hq j ⟨by omega,by omega⟩
   have hh:=F7h (stx P.S j).k (.bool (stx P.S j).f) (.int (stx P.S j).g) (.int (stx P.S j).l) (.int (stx P.S j).n)
   have q1:((stx P.S j).k == 3 || (stx P.S j).k == 4)=false:=q1
   rw[q1,q2]at hh
   have cd:C9w P.S j=D.agg [.int (stx P.S j).k,.bool (stx P.S j).f,.int (stx P.S j).g,.int (stx P.S j).l,.int (stx P.S j).n,.int (tmx P.S j).name,.int (tmx P.S j).side,.int (tmx P.S j).A0j,.int (tmx P.S j).least,.int (tmx P.S j).A1l]:=rfl
   rw[cd]at gd
   rw[B8b]
   simp only[HH,h1,h2,decide_true,gd,hh,q2]
   rw[A0t _ (by omega) (by omega)]
   exact ih (j+1) (by omega)
 have k0:=key (A0p P.S.c).toNat 0 (by omega)
 rw[E3j,F0q E hP hn I]
 simp only[A0l,List.length_cons,List.length_nil,List.getD_cons_zero]
 exact k0
end
end
section
theorem E9o(p:Nat→Bool)(j:Nat):((List.range (j+1)).filter p).length=((List.range j).filter p).length+(if p j=true then 1 else 0):=by
 rw[List.range_succ,List.filter_append,List.length_append]
 cases h:p j<;>simp[h]
section
variable{G:Nat→Option D}{L:List D}{lab:Nat→Nat}{pl w m k:Nat}{za swa rea:List Nat}{P:A0m}{n:Nat}(E:Enc G L lab pl w m k za swa rea P)(hP:A3c P n)(hn:n≤1000)(I:PI P)(H:PH P)(hL:C1b P)
include E hP hn I H hL
theorem H4h(x0 x1 x2 x3 x4 x5 x6 x7 x10 x12:D)(g0:Eng.Fn):∀(d j:Nat),j+d=A1x P→
  A4x x0 x1 x2 x3 x4 x5 x6 x7 (.int (pl:Nat)) (.agg L) x10 (.int ((C4z P).length:Nat)) x12 (.int (A1x P:Nat)) g0 [.int (((List.range j).filter fun a=>!A2e P a).length:Nat),.int (j:Nat)]=some [.bool true]:=by
 obtain⟨a1,a2⟩:=C9p E hP hL
 intro d
 induction d with
 |zero=>
  intro j hj
  have h1:¬(j:Int)<(A1x P:Int):=by omega
  have hj:j=A1x P:=by omega
  subst hj
  have hb:¬(((C4z P).length:Nat):Int)>((((List.range (A1x P)).filter fun a=>!A2e P a).length:Nat):Int):=by
   have:=G4c H
   unfold F9f at this
   omega
  obtain⟨rows,L1,lab1,P',n',f1,E1,hP1,hn1,I1,H1,c1,b1⟩:=G1s E hP hn I H hL
  obtain⟨L2,f2,F2⟩:=E5r L1
  have E2:=E1.far F2
  have f3:=G7p E2 hP1 (by omega) I1 fun x hx=>F3j H1 b1 x hx
  rw[B1u]
  simp only[D.toInt_int,h1,hb,decide_false,Bool.false_eq_true,if_false,f1,f2,f3,A0l,List.length_cons,List.length_nil,List.getD_cons_zero,List.getD_cons_succ,D.A0y,if_true]
 |succ d ih=>
  intro j hj
  have h1:(j:Int)<(A1x P:Int):=by omega
  have nx:=ih (j+1) (by omega)
  rw[E9o]at nx
  have hcl:((List.range j).filter fun a=>!A2e P a).length≤j:=Nat.le_trans (List.length_filter_le _ _) (by simp)
  have w1:IntKind.i64.wrap ((j:Int)+1)=((j+1:Nat):Int):=by rw[A0t _ (by omega) (by omega)];omega
  rw[B1u]
  simp only[D.toInt_int,h1,decide_true,if_true,C9y E hP.sr ⟨hP.sl,hP.wl⟩ (show j<A1x P by omega),A0l,List.length_cons,List.length_nil,List.getD_cons_zero,D.A0y,w1]
  generalize ((List.range j).filter fun a=>!A2e P a).length=z at*
  have w2:IntKind.i64.wrap ((z:Int)+1)=((z+1:Nat):Int):=by rw[A0t _ (by omega) (by omega)];omega
  cases hb:A2e P j with
  |true=>
   rw[hb]at nx
   simp only[Bool.not_true,Bool.false_eq_true,if_false]at nx⊢
   exact nx
  |false=>
   rw[hb]at nx
   simp only[Bool.not_false,if_true,w2]at nx⊢
   exact nx
theorem H4j(x0 x1 x2 x3 x4 x5 x6 x7:D):∀(d j:Nat),(j+d:Int)=A0p P.S.c→
  A2p x0 x1 x2 x3 x4 x5 x6 x7 (.int (pl:Nat)) (.agg L) (.agg (A8l P.S)) [.int (((List.range j).filter fun x=>(stx P.S (x:Nat)).held).length:Nat),.int (j:Nat)]=some [.bool true]:=by
 have hall:=A5b P.S.c hP.ok.S.c
 have ll:=E5s E hP
 have g:=F9p E
 obtain⟨a1,a2⟩:=C9p E hP hL
 have ag:=E7h P.S.c hP.ok.S.c
 rw[←a1]at ag
 intro d
 induction d with
 |zero=>
  intro j hj
  have h1:¬(j:Int)<((A8l P.S).length:Int):=by rw[ll];omega
  have e:(A0p P.S.c).toNat=j:=by omega
  rw[B1r]
  simp only[HH,h1,decide_false,E.A4o,A0d.A1i,g.1,E.W.w,A0f.A1i,A0f.A1h,A0f.A1p,A0f.A1v,A0f.A1u,A0f.A3b,A0f.A4n,ag]
  have:=H4h E hP hn I H hL x0 x1 x2 x3 x4 x5 x6 x7 (.agg (A8l P.S)) (.int (j:Nat)) (A2p x0 x1 x2 x3 x4 x5 x6 x7 (.int (pl:Nat)) (.agg L) (.agg (A8l P.S))) (A1x P) 0 (by omega)
  unfold C4z at this
  rw[e]at this
  exact this
 |succ d ih=>
  intro j hj
  have h1:(j:Int)<((A8l P.S).length:Int):=by rw[ll];omega
  have h2:(j:Int)≥0:=by omega
  have gd:=E6v E hP j (by omega)
  have cd:C9w P.S j=D.agg [.int (stx P.S j).k,.bool (stx P.S j).f,.int (stx P.S j).g,.int (stx P.S j).l,.int (stx P.S j).n,.int (tmx P.S j).name,.int (tmx P.S j).side,.int (tmx P.S j).A0j,.int (tmx P.S j).least,.int (tmx P.S j).A1l]:=rfl
  rw[cd]at gd
  have nx:=ih (j+1) (by omega)
  rw[E9o]at nx
  have hcl:((List.range j).filter fun x=>(stx P.S (x:Nat)).held).length≤j:=Nat.le_trans (List.length_filter_le _ _) (by simp)
  have w1:IntKind.i64.wrap ((j:Int)+1)=((j+1:Nat):Int):=by rw[A0t _ (by omega) (by omega)];omega
  rw[B1r]
  simp only[HH,h1,h2,decide_true,gd,w1]
  generalize ((List.range j).filter fun x=>(stx P.S (x:Nat)).held).length=z at*
  have w2:IntKind.i64.wrap ((z:Int)+1)=((z+1:Nat):Int):=by rw[A0t _ (by omega) (by omega)];omega
  have hd:(stx P.S j).held=((stx P.S j).k == 3 || (stx P.S j).k == 4):=rfl
  rw[hd]at nx
  rw[w2]
  cases h3:(stx P.S j).k == 3 with
  |true=>
   rw[h3]at nx
   simp only[Bool.true_or,if_true]at nx⊢
   exact nx
  |false=>
   rw[h3]at nx
   cases h4:(stx P.S j).k == 4 with
   |true=>
    rw[h4]at nx
    simp only[Bool.false_or,if_true,Bool.false_eq_true,if_false]at nx⊢
    exact nx
   |false=>
    rw[h4]at nx
    simp only[Bool.false_or,Bool.false_eq_true,if_false]at nx⊢
    exact nx
end
theorem held(c:Cf)(es:List PEv)(hw:∀e ∈ es,e.wf):FX 6 [.int c.c0,.int c.c1,.int c.c2,.int c.c3,.int c.c4,.int c.c5,.int c.c6,.agg (es.map PEv.d)]=some [.bool true]:=by
 rw[C7u]
 by_cases hm:c.ok∧(es.length:Int)≤700
 ·obtain⟨hc,hes⟩:=hm
  obtain⟨L1,lab1,p1,w1,m1,k1,z1,s1,r1,n1,E1,P1⟩:=H2u c hc es 700 hes (by decide) hw []
  have I:=H0y es (C7p c hc) (F6q c hc) (by omega) hw
  have H:=G9p es (C7p c hc) (F6q c hc) (G8h c hc) (by omega) hw
  have hL:=H1f es (C7p c hc) (by omega) hw (H1w c hc)
  generalize B8i (A2h c) es=P at*
  have v:=F0q E1 P1 (by omega) I
  have hall:=A5b P.S.c P1.ok.S.c
  simp only[n1,A0l,List.length_cons,List.length_nil,List.getD_cons_zero,List.getD_cons_succ,A6f,Bool.false_eq_true,if_false,v]
  exact H4j E1 P1 (by omega) I H hL _ _ _ _ _ _ _ _ (A0p P.S.c).toNat 0 (by omega)
 ·obtain⟨L',h,_⟩:=E5r []
  rw[H1p c es hm []]
  simp only[A0l,List.length_cons,List.length_nil,List.getD_cons_zero,List.getD_cons_succ,B4c,if_true,h,D.A0y,H1i,List.length_map,H3j hm,Bool.not_false]
theorem G9k(x0:List D)(x1:D)(w0:Open.C0x Tryz.prog [.int .i64,.int .i64,.int .i64,.int .i64,.int .i64,.int .i64,.int .i64] x0)(w1:Open.Wf Tryz.prog (.slice 58) x1):FX 6 (x0++[x1])=some [.bool true]:=by
 obtain⟨c,rfl⟩:=H4k w0
 obtain⟨es,rfl,_,hw⟩:=w1.structs (f:=PEv.d) (Q:=PEv.wf) (ts:=i12) (by kernel_rfl) (by decide) (fun ys hy=>H4i hy)
 exact held c es hw
end
end Go.Proofs.YtngflpppkicnaaaGreat.P
