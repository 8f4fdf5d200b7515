import Derived.Test.YtcgcpjajghdbpaaGreatPoolX
namespace Go.Proofs.YtcgcpjajghdbpaaGreat.P
open Go.RowKit Go.Proofs.YtcgcpjajghdbpaaGreat.Eng Go.Proofs.YtcgcpjajghdbpaaGreat Go.Proofs.YtcgcpjajghdbpaaGreat.Dat Go.Proofs.YtcgcpjajghdbpaaGreat.FDat
set_option linter.unusedVariables false
set_option linter.unusedSimpArgs false
set_option linter.unusedSectionVars false
theorem D1u:∀{ws:List Nat} {vs:List Int} {k:Nat},vs.length=ws.length→Go.Proofs.YtcgcpjajghdbpaaGreat.firstBad ws vs k=none→Fits ws (vs.map Int.toNat)∧∀v ∈ vs,0≤v
 |[],[],_,_,_=>⟨trivial,fun v hv=>by cases hv⟩
 |w::ws,v::vs,k,hl,h=>by
  unfold Go.Proofs.YtcgcpjajghdbpaaGreat.firstBad at h
  split at h
  ·cases h
  ·rename_i hc
   obtain⟨h1,h2⟩:=D1u (by simpa using hl) h
   have h4:0<2 ^ w:=Nat.two_pow_pos w
   have h3:0≤v∧v≤((2 ^ w-1:Nat):Int):=by omega
   refine⟨⟨?_,h1⟩,fun u hu=>?_⟩
   ·omega
   ·rcases List.mem_cons.1 hu with rfl|hu
    ·exact h3.1
    ·exact h2 u hu
theorem D2v:∀{ws:List Nat} {vs:List Int} {k:Nat},(∀i (h:i<vs.length),0≤vs[i]∧vs[i]<((2 ^ ws.getD i 0:Nat):Int))→Go.Proofs.YtcgcpjajghdbpaaGreat.firstBad ws vs k=none
 |[],_,_,_=>by unfold Go.Proofs.YtcgcpjajghdbpaaGreat.firstBad;rfl
 |w::ws,[],_,_=>rfl
 |w::ws,v::vs,k,h=>by
  unfold Go.Proofs.YtcgcpjajghdbpaaGreat.firstBad
  have h0:=h 0 (by simp)
  have h4:0<2 ^ w:=Nat.two_pow_pos w
  simp only[List.getElem_cons_zero,List.getD_cons_zero]at h0
  rw[if_neg (by omega)]
  exact D2v fun i hi=>by have:=h (i+1) (by simpa using hi);simpa using this
theorem C2j{ws:List Nat}{vs:List Int}{x:Nat}(h:packW ws vs=some x)(hl:vs.length=ws.length)(i:Nat)(hi:i<vs.length):getZ ws x (i:Int)=vs[i]:=by
 unfold packW packI at h
 rw[if_neg (by omega)]at h
 cases hb:Go.Proofs.YtcgcpjajghdbpaaGreat.firstBad ws vs 0 with
 |some k=>rw[hb]at h;simp at h
 |none=>
  rw[hb]at h
  simp only[if_true,Option.some.injEq,Int.toNat_natCast]at h
  obtain⟨h1,h2⟩:=D1u hl hb
  subst h
  unfold getZ
  rw[if_neg (by omega),Int.toNat_natCast,B9p _ _ _ (by omega)]
  simp only[B9q h1,List.getElem_map]
  have:=h2 _ (List.getElem_mem hi)
  omega
theorem A8j{s:St}{x:Nat}(h:stW s=some x):stOf x=s:=by
 unfold stW at h
 split at h
 ·cases h
 ·have k:=C2j h rfl
  obtain⟨a,f,g,l,n⟩:=s
  have e:(St.vs ⟨a,f,g,l,n⟩).length=5:=rfl
  have h0:getZ cws x 0=a:=k 0 (by rw[e];decide)
  have h1:getZ cws x 1=fl f:=k 1 (by rw[e];decide)
  have h2:getZ cws x 2=g:=k 2 (by rw[e];decide)
  have h3:getZ cws x 3=l:=k 3 (by rw[e];decide)
  have h4:getZ cws x 4=n:=k 4 (by rw[e];decide)
  unfold stOf
  rw[h0,h1,h2,h3,h4]
  cases f<;>rfl
theorem E3u{t:Tm}{x:Nat}(h:tmW t=some x):tmOf x=t:=by
 have k:=C2j h rfl
 obtain⟨a,f,g,l,n⟩:=t
 have e:(Tm.vs ⟨a,f,g,l,n⟩).length=5:=rfl
 have h0:getZ tws x 0=a:=k 0 (by rw[e];decide)
 have h1:getZ tws x 1=f:=k 1 (by rw[e];decide)
 have h2:getZ tws x 2=g:=k 2 (by rw[e];decide)
 have h3:getZ tws x 3=l:=k 3 (by rw[e];decide)
 have h4:getZ tws x 4=n:=k 4 (by rw[e];decide)
 unfold tmOf
 rw[h0,h1,h2,h3,h4]
theorem C1g{ws:List Nat}{vs:List Int}(hl:vs.length=ws.length)(h:∀i (h:i<vs.length),0≤vs[i]∧vs[i]<((2 ^ ws.getD i 0:Nat):Int)):∃x,packW ws vs=some x:=by
 unfold packW packI
 rw[if_neg (by omega),D2v h]
 exact⟨_,rfl⟩
theorem E2d{g q:Int}(hg:0≤g∧g<256)(hq:0≤q∧q<65536):∃x,stW ⟨1,false,g,q,0⟩=some x:=by
 unfold stW
 rw[if_neg (show ¬(1:Int)>8 by decide)]
 refine C1g rfl fun i hi=>?_
 match i,hi with
 |0,_=>exact⟨show(0:Int)≤1 by decide,show(1:Int)<16 by decide⟩
 |1,_=>exact⟨show(0:Int)≤0 by decide,show(0:Int)<2 by decide⟩
 |2,_=>exact⟨hg.1,hg.2⟩
 |3,_=>exact⟨hq.1,hq.2⟩
 |4,_=>exact⟨show(0:Int)≤0 by decide,show(0:Int)<256 by decide⟩
theorem E0j{t:Tm}(h:(0≤t.name∧t.name<16)∧(0≤t.side∧t.side<2)∧(0≤t.price∧t.price<65536)∧(0≤t.least∧t.least<65536)∧0≤t.till∧t.till<16777216):∃x,tmW t=some x:=by
 obtain⟨h0,h1,h2,h3,h4⟩:=h
 refine C1g rfl fun i hi=>?_
 match i,hi with
 |0,_=>exact⟨h0.1,h0.2⟩
 |1,_=>exact⟨h1.1,h1.2⟩
 |2,_=>exact⟨h2.1,h2.2⟩
 |3,_=>exact⟨h3.1,h3.2⟩
 |4,_=>exact⟨h4.1,h4.2⟩
structure LG where
 tm:Int→Int→Tm
 lf:Int→Int→Int
 ov:Int→Int→Bool
def LG.zero:LG:=⟨fun _ _=>.zero,fun _ _=>0,fun _ _=>false⟩
def up2{α:Type}(f:Int→Int→α)(x g:Int)(v:α)(a b:Int):α:=if a=x∧b=g then v else f a b
theorem C0u{α:Type}(f:Int→Int→α)(x g:Int)(v:α):up2 f x g v x g=v:=by simp[up2]
theorem B0k{α:Type}(f:Int→Int→α)(x g:Int)(v:α){a:Int}(h:a≠x)(b:Int):up2 f x g v a b=f a b:=by simp[up2,h]
theorem E1x{α:Type}(f:Int→Int→α)(x g:Int)(v:α)(a:Int){b:Int}(h:b≠g):up2 f x g v a b=f a b:=by simp[up2,h]
def subL(f:Int→Int→Int)(x g q:Int):Int→Int→Int:=up2 f x g (f x g-q)
def stepL(G:LG)(e:Ev):LG:=
 if e.kind=1 then {G with tm:=up2 G.tm e.cell e.gen e.tm,lf:=up2 G.lf e.cell e.gen e.qty}
 else if e.kind=2 then {G with lf:=subL (subL G.lf e.cell e.gen e.qty) e.other e.wth e.qty}
 else if e.kind=5∨e.kind=3∨e.kind=7 then {G with ov:=up2 G.ov e.cell e.gen true}
 else G
def FairP(a b:Tm)(e:Ev):Prop:=a.side=0∧b.side=1∧a.name=b.name∧e.price≤a.price∧b.price≤e.price∧e.price=(a.price+b.price)/2
structure FillOk(c:Cf)(G:LG)(e:Ev):Prop where
 ov1:G.ov e.cell e.gen=false
 ov2:G.ov e.other e.wth=false
 own:e.cell/c.c1≠e.other/c.c1
 pos:(0≤e.cell∧e.cell<allF c)∧0≤e.other∧e.other<allF c
 nn:(0≤(G.tm e.cell e.gen).price∧(G.tm e.cell e.gen).price<65536)∧0≤(G.tm e.other e.wth).price∧(G.tm e.other e.wth).price<65536
 fair:FairP (if(G.tm e.cell e.gen).side=1 then G.tm e.other e.wth else G.tm e.cell e.gen) (if(G.tm e.cell e.gen).side=1 then G.tm e.cell e.gen else G.tm e.other e.wth) e
 least:(G.tm e.cell e.gen).least≤e.qty∧(G.tm e.other e.wth).least≤e.qty∧1≤e.qty
 left:e.qty≤G.lf e.cell e.gen∧e.qty≤G.lf e.other e.wth
 lb:G.lf e.cell e.gen<65536∧G.lf e.other e.wth<65536
structure EvOk(c:Cf)(G:LG)(e:Ev):Prop where
 fill:e.kind=2→FillOk c G e
 exp:e.kind=5→G.ov e.cell e.gen=false∧(G.tm e.cell e.gen).till≤e.tick
 fin:e.kind=3∨e.kind=7→G.ov e.cell e.gen=false
def lgOf(l:List Ev):LG:=l.foldl stepL LG.zero
theorem A6a(l:List Ev)(e:Ev):lgOf (l++[e])=stepL (lgOf l) e:=by simp[lgOf]
def AllOk(c:Cf):LG→List Ev→Prop
 |_,[]=>True
 |G,e::l=>EvOk c G e∧AllOk c (stepL G e) l
theorem A3g(c:Cf)(e:Ev):∀(l:List Ev) (G:LG),AllOk c G l→EvOk c (l.foldl stepL G) e→AllOk c G (l++[e])
 |[],G,_,h=>⟨h,trivial⟩
 |_::l,G,h,he=>⟨h.1,A3g c e l _ h.2 he⟩
def stx(S:WS)(x:Int):St:=stOf (S.word x)
def tmx(S:WS)(x:Int):Tm:=tmOf (S.tword x)
def InC(c:Cf)(x:Int):Prop:=0≤x∧x<allF c
structure WI(S:WS):Prop where
 log:AllOk S.c LG.zero S.log
 w1:∀x,InC S.c x→(stx S x).live=true→(lgOf S.log).ov x (stx S x).g=false
 w0:∀x,InC S.c x→∀g,(stx S x).g<g→(lgOf S.log).ov x g=false
 w2:∀x,InC S.c x→(stx S x).live=true→(lgOf S.log).tm x (stx S x).g=tmx S x
 w3:∀x,InC S.c x→(stx S x).loose=true→(lgOf S.log).lf x (stx S x).g=(stx S x).l
 len:2*allF S.c≤S.words.length
structure Adv(S S':WS)(own rel:Int→Prop):Prop where
 c:S'.c=S.c
 mono:∀x,InC S.c x→(stx S x).g≤(stx S' x).g
 tms:∀x,InC S.c x→(stx S' x).live=true→(stx S' x).g≤(stx S x).g→(stx S x).live=true∧(stx S' x).g=(stx S x).g∧tmx S' x=tmx S x
 held:∀x,InC S.c x→(stx S x).held=true→¬rel x→(stx S' x).held=true∧(stx S' x).g=(stx S x).g∧(stx S' x).l=(stx S x).l∧(lgOf S'.log).lf x (stx S x).g=(lgOf S.log).lf x (stx S x).g
 dead:∀x,InC S.c x→(stx S x).live=false→¬own x→stx S' x=stx S x∧tmx S' x=tmx S x
theorem St.live_loose{s:St}(h:s.loose=true):s.live=true:=by
 simp only[St.loose,St.live,Bool.or_eq_true,beq_iff_eq,Bool.and_eq_true,decide_eq_true_eq]at h⊢;omega
theorem St.live_held{s:St}(h:s.held=true):s.live=true:=by
 simp only[St.held,St.live,Bool.or_eq_true,beq_iff_eq,Bool.and_eq_true,decide_eq_true_eq]at h⊢;omega
theorem St.loose_held{s:St}(h:s.loose=true):s.held=false:=by
 simp only[St.loose,St.held,Bool.or_eq_true,beq_iff_eq,Bool.or_eq_false_iff,beq_eq_false_iff_ne]at h⊢;omega
structure SameW(S S':WS):Prop where
 c:S'.c=S.c
 st:∀x,InC S.c x→stx S' x=stx S x
 tm:∀x,InC S.c x→tmx S' x=tmx S x
 log:S'.log=S.log
 len:S'.words.length=S.words.length
theorem SameW.adv{S S':WS}(h:SameW S S')(own rel:Int→Prop):Adv S S' own rel:=
 ⟨h.c,fun x hx=>by rw[h.st x hx];exact Int.le_refl _,fun x hx hl _=>by rw[h.st x hx]at hl⊢;exact⟨hl,rfl,h.tm x hx⟩,
  fun x hx hl _=>by rw[h.st x hx,h.log];exact⟨hl,rfl,rfl,rfl⟩,fun x hx _ _=>⟨h.st x hx,h.tm x hx⟩⟩
theorem SameW.wi{S S':WS}(h:SameW S S')(w:WI S):WI S':=by
 refine⟨by rw[h.c,h.log];exact w.log,fun x hx=>?_,fun x hx=>?_,fun x hx=>?_,fun x hx=>?_,by rw[h.c,h.len];exact w.len⟩<;>rw[h.c]at hx
 ·rw[h.st x hx,h.log];exact w.w1 x hx
 ·rw[h.st x hx,h.log];exact w.w0 x hx
 ·rw[h.st x hx,h.log,h.tm x hx];exact w.w2 x hx
 ·rw[h.st x hx,h.log];exact w.w3 x hx
theorem SameW.refl(S:WS):SameW S S:=⟨rfl,fun _ _=>rfl,fun _ _=>rfl,rfl,rfl⟩
structure OneSt(S S':WS)(x:Int):Prop where
 c:S'.c=S.c
 st:∀y,InC S.c y→y≠x→stx S' y=stx S y
 tm:∀y,InC S.c y→tmx S' y=tmx S y
 len:S'.words.length=S.words.length
theorem OneSt.adv{S S':WS}{x:Int}{own rel:Int→Prop}(h:OneSt S S' x)(hx:InC S.c x)(a:(stx S x).g≤(stx S' x).g)
  (b:(stx S' x).live=true→(stx S' x).g≤(stx S x).g→(stx S x).live=true∧(stx S' x).g=(stx S x).g)
  (c:(stx S x).held=true→¬rel x→(stx S' x).held=true∧(stx S' x).g=(stx S x).g∧(stx S' x).l=(stx S x).l)
  (d:(stx S x).live=false→¬own x→stx S' x=stx S x)
  (e:∀y,InC S.c y→(stx S y).held=true→¬rel y→(lgOf S'.log).lf y (stx S y).g=(lgOf S.log).lf y (stx S y).g):Adv S S' own rel:=by
 refine⟨h.c,fun y hy=>?_,fun y hy h1 h2=>?_,fun y hy h1 h2=>?_,fun y hy h1 h2=>?_⟩<;>by_cases q:y=x
 ·subst q;exact a
 ·rw[h.st y hy q];exact Int.le_refl _
 ·subst q;obtain⟨k1,k2⟩:=b h1 h2;exact⟨k1,k2,h.tm y hy⟩
 ·rw[h.st y hy q]at h1⊢;exact⟨h1,rfl,h.tm y hy⟩
 ·subst q;obtain⟨k1,k2,k3⟩:=c h1 h2;exact⟨k1,k2,k3,e y hy h1 h2⟩
 ·rw[h.st y hy q];exact⟨h1,rfl,rfl,e y hy h1 h2⟩
 ·subst q;exact⟨d h1 h2,h.tm y hy⟩
 ·exact⟨h.st y hy q,h.tm y hy⟩
theorem OneSt.wi{S S':WS}{x:Int}(h:OneSt S S' x)(w:WI S)(log:AllOk S.c LG.zero S'.log)
  (ov:∀y,y≠x→∀g,(lgOf S'.log).ov y g=(lgOf S.log).ov y g) (tm:∀y,y≠x→∀g,(lgOf S'.log).tm y g=(lgOf S.log).tm y g)
  (lf:∀y,y≠x→InC S.c y→(stx S y).loose=true→(lgOf S'.log).lf y (stx S y).g=(lgOf S.log).lf y (stx S y).g)
  (x1:(stx S' x).live=true→(lgOf S'.log).ov x (stx S' x).g=false) (x0:∀g,(stx S' x).g<g→(lgOf S'.log).ov x g=false)
  (x2:(stx S' x).live=true→(lgOf S'.log).tm x (stx S' x).g=tmx S x) (x3:(stx S' x).loose=true→(lgOf S'.log).lf x (stx S' x).g=(stx S' x).l):WI S':=by
 refine⟨by rw[h.c];exact log,fun y hy=>?_,fun y hy=>?_,fun y hy=>?_,fun y hy=>?_,by rw[h.c,h.len];exact w.len⟩<;>rw[h.c]at hy<;>by_cases q:y=x
 ·subst q;exact x1
 ·rw[h.st y hy q,ov y q];exact w.w1 y hy
 ·subst q;exact x0
 ·rw[h.st y hy q];intro g hg;rw[ov y q];exact w.w0 y hy g hg
 ·subst q;intro hl;rw[h.tm y hy];exact x2 hl
 ·rw[h.st y hy q,h.tm y hy,tm y q];exact w.w2 y hy
 ·subst q;exact x3
 ·rw[h.st y hy q];intro hl;rw[lf y q hy hl];exact w.w3 y hy hl
theorem D7w{ws:List Nat}{i:Int}(h0:0≤i)(h1:i<ws.length)(v:Nat):wd (stw ws i v) i=v:=by
 unfold wd stw
 rw[if_neg (by omega),if_neg (by omega),List.getD_eq_getElem?_getD,List.getElem?_set_self (by omega)];rfl
theorem A5s{ws:List Nat}{i j:Int}(h:i≠j)(v:Nat):wd (stw ws i v) j=wd ws j:=by
 unfold wd stw
 by_cases hj:j<0
 ·rw[if_pos hj,if_pos hj]
 ·rw[if_neg hj,if_neg hj]
  by_cases hi:i<0
  ·rw[if_pos hi]
  ·rw[if_neg hi,List.getD_eq_getElem?_getD,List.getD_eq_getElem?_getD,List.getElem?_set_ne (by omega)]
theorem A5w{S:WS}{x:Int}(hx:InC S.c x)(v:Nat)(S':WS)(hc:S'.c=S.c)(hw:S'.words=stw S.words (2*x) v):OneSt S S' x:=by
 refine⟨hc,fun y _ hy=>?_,fun y _=>?_,by rw[hw,A3t]⟩
 ·unfold stx WS.word;rw[hw,A5s (by omega)]
 ·unfold tmx WS.tword;rw[hw,A5s (by omega)]
theorem A2y{S:WS}(w:WI S){x:Int}(hx:InC S.c x){v:Nat}{s:St}(hs:stOf v=s)(S':WS)(hw:S'.words=stw S.words (2*x) v):stx S' x=s:=by
 unfold stx WS.word
 have:=w.len
 obtain⟨h0,h1⟩:=hx
 rw[hw,D7w (by omega) (by omega),hs]
theorem A5v{S:WS}{x:Int}{old:Nat}{s:St}(h:(S.turn x old s).1=true):∃v,stW s=some v∧S.word x=old∧(S.turn x old s).2={S with words:=stw S.words (2*x) v}:=by
 unfold WS.turn at h⊢
 cases hv:stW s with
 |none=>rw[hv]at h;cases h
 |some v=>
  rw[hv]at h
  dsimp only at h⊢
  rw[if_pos h]
  refine⟨v,rfl,?_,rfl⟩
  unfold swB at h
  rw[Bool.and_eq_true,beq_iff_eq]at h
  exact h.2
theorem D7a{S:WS}{x:Int}{old:Nat}{s:St}(h:(S.turn x old s).1=false):(S.turn x old s).2=S:=by
 unfold WS.turn at h⊢
 cases hv:stW s with
 |none=>rfl
 |some v=>
  rw[hv]at h
  dsimp only at h⊢
  rw[h];rfl
theorem B8f{S:WS}(hc:S.c.ok)(x gen n:Int)(r:Rc):SameW S (S.note x gen n r):=by
 unfold WS.note
 cases rcW r with
 |none=>exact SameW.refl S
 |some v=>
  have hb:slotF S.c x gen n<0∨2*allF S.c≤slotF S.c x gen n:=by
   unfold slotF
   split
   ·exact .inl (by decide)
   ·rename_i q
    have h1:0≤x*S.c.c6:=Int.mul_nonneg (by omega) (by have:=hc;unfold RU.Cf.ok at this;omega)
    have h2:0≤(x*S.c.c6+gen-1)*(S.c.c5+1):=Int.mul_nonneg (by omega) (by have:=hc;unfold RU.Cf.ok at this;omega)
    right;omega
  refine⟨rfl,fun y hy=>?_,fun y hy=>?_,rfl,A3t _ _ _⟩<;>obtain⟨h0,h1⟩:=hy
  ·unfold stx WS.word;dsimp only;rw[A5s (by omega)]
  ·unfold tmx WS.tword;dsimp only;rw[A5s (by omega)]
theorem A9o{S:WS}(hc:S.c.ok)(x gen n:Int)(o:Option Rc):SameW S (noteE S x gen n o):=by
 cases o with
 |none=>exact SameW.refl S
 |some r=>exact B8f hc x gen n r
end Go.Proofs.YtcgcpjajghdbpaaGreat.P
