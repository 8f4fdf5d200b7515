import Derived.Test.YtcgcpjajghdbpaaGreatPoolB
namespace Go.Proofs.YtcgcpjajghdbpaaGreat.P
open Go.RowKit Go.Proofs.YtcgcpjajghdbpaaGreat.Eng Go.Proofs.YtcgcpjajghdbpaaGreat Go.Proofs.YtcgcpjajghdbpaaGreat.Dat Go.Proofs.YtcgcpjajghdbpaaGreat.FDat
set_option linter.unusedVariables false
set_option linter.unusedSimpArgs false
set_option linter.unusedSectionVars false
set_option maxRecDepth 10000
theorem outD.len(r:Int × St):(outD r).length=6:=by simp only[outD,List.length_append,St.len,List.length_cons,List.length_nil]
theorem outD.get0(r:Int × St):(outD r).getD 0 D.nil=.int r.2.k:=rfl
theorem outD.get1(r:Int × St):(outD r).getD 1 D.nil=.bool r.2.f:=rfl
theorem outD.get2(r:Int × St):(outD r).getD 2 D.nil=.int r.2.g:=rfl
theorem outD.get3(r:Int × St):(outD r).getD 3 D.nil=.int r.2.l:=rfl
theorem outD.get4(r:Int × St):(outD r).getD 4 D.nil=.int r.2.n:=rfl
theorem outD.get5(r:Int × St):(outD r).getD 5 D.nil=er r.1:=rfl
set_option linter.defProp false in
def outD.all:=And.intro @outD.len<|And.intro @outD.get0<|And.intro @outD.get1<|And.intro @outD.get2<|And.intro @outD.get3<|And.intro @outD.get4 @outD.get5
theorem In.lit{z:Int}(h:-1000000000≤z∧z≤1000000000):In z:=by unfold In;omega
theorem In.sub{l q:Int}(hl:In l)(h1:0≤q)(h2:q≤l):In (l-q):=by unfold In at *;omega
theorem In.suc{n m:Int}(hn:In n)(h1:n<m)(h2:m≤100):In (n+1):=by unfold In at *;omega
theorem St.wf.wf_k{s:St}(h:s.wf)(k:Int)(f:Bool)(hk:In k):St.wf {s with k:=k,f:=f}:=⟨hk,h.2.1,h.2.2.1,h.2.2.2⟩
theorem St.ended_wf{s:St}(h:s.wf)(m:Int):(s.ended m).wf:=by
 unfold St.ended
 split
 ·exact h.wf_k 5 _ (In.lit (by decide))
 ·split
  ·exact h.wf_k 8 _ (In.lit (by decide))
  ·exact h
theorem St.ended_n(s:St)(m:Int):(s.ended m).n=s.n∧(s.ended m).g=s.g∧(s.ended m).l=s.l:=by
 unfold St.ended
 split
 ·exact⟨rfl,rfl,rfl⟩
 ·split<;>exact⟨rfl,rfl,rfl⟩
theorem St.loosen_wf{s:St}(h:s.wf):s.loosen.wf:=by
 unfold St.loosen
 split
 ·exact h.wf_k 1 _ (In.lit (by decide))
 ·split
  ·exact h.wf_k 2 _ (In.lit (by decide))
  ·exact h
theorem St.loosen_n(s:St):s.loosen.n=s.n∧s.loosen.g=s.g∧s.loosen.l=s.l:=by
 unfold St.loosen
 split
 ·exact⟨rfl,rfl,rfl⟩
 ·split<;>exact⟨rfl,rfl,rfl⟩
theorem St.hold_wf{s:St}(h:s.wf):s.hold.wf:=by
 unfold St.hold
 split
 ·exact h.wf_k 3 _ (In.lit (by decide))
 ·split
  ·exact h.wf_k 4 _ (In.lit (by decide))
  ·exact h
theorem St.zero_wf:St.zero.wf:=⟨In.lit (z:=0) (by decide),In.lit (z:=0) (by decide),In.lit (z:=0) (by decide),In.lit (z:=0) (by decide)⟩
theorem C7a{s:St}(h:s.wf)(m:Int):(freed s m).wf:=by
 have:=St.ended_wf (St.loosen_wf h) m
 unfold freed
 split
 ·exact this.wf_k 6 _ (In.lit (by decide))
 ·exact this
theorem B8l(s:St)(m:Int):(freed s m).n=s.n∧(freed s m).g=s.g∧(freed s m).l=s.l:=by
 have h1:=St.ended_n s.loosen m
 have h2:=St.loosen_n s
 unfold freed
 split
 ·dsimp only;rw[h1.1,h1.2.1,h1.2.2];exact h2
 ·rw[h1.1,h1.2.1,h1.2.2];exact h2
def St.wfn(s:St):Prop:=s.wf∧0≤s.n
theorem C8p{s:St}(h:s.wfn)(q m:Int)(hm:m≤100):(takeF s q m).2.wfn:=by
 obtain⟨⟨h1,h2,h3,h4⟩,h5⟩:=h
 have hz:St.zero.wfn:=⟨St.zero_wf,by decide⟩
 unfold takeF
 split
 ·exact hz
 split
 ·exact hz
 split
 ·exact hz
 ·refine⟨St.ended_wf (s:={s with l:=s.l-q,n:=s.n+1}) ⟨h1,h2,h3.sub (q:=q) (by omega) (by omega),h4.suc (m:=m) (by omega) hm⟩ m,?_⟩
  ·show 0≤(St.ended {s with l:=s.l-q,n:=s.n+1} m).n
   rw[(St.ended_n _ m).1];dsimp only;omega
theorem B9m{s:St}(h:s.wfn)(q m:Int)(hm:m≤100):(releaseF s q m).2.wfn:=by
 obtain⟨⟨h1,h2,h3,h4⟩,h5⟩:=h
 have hz:St.zero.wfn:=⟨St.zero_wf,by decide⟩
 unfold releaseF
 split
 ·exact hz
 split
 ·exact hz
 split
 ·split
  ·exact hz
  ·refine⟨C7a (s:={s with l:=s.l-q,n:=s.n+1}) ⟨h1,h2,h3.sub (q:=q) (by omega) (by omega),h4.suc (m:=m) (by omega) hm⟩ m,?_⟩
   ·show 0≤(freed {s with l:=s.l-q,n:=s.n+1} m).n
    rw[(B8l _ m).1];dsimp only;omega
 ·exact⟨C7a ⟨h1,h2,h3,h4⟩ m,by show 0≤(freed s m).n;rw[(B8l s m).1];exact h5⟩
theorem B4c(x:Nat):(stOf x).wfn:=⟨A3w x,(A9u x).2.2.2.1⟩
theorem D6f(a b:Tm)(ha:a.sm)(hb:b.sm)(l o:Int)(hl:In l)(ho:In o):In (matchF a b l o).1∧In (matchF a b l o).2:=by
 have key:∀buy sell:Tm,buy.sm→sell.sm→In (matchB a b buy sell l o).1∧In (matchB a b buy sell l o).2:=by
  intro buy sell h1 h2
  have h0:In 0:=by unfold In;omega
  unfold matchB
  have hq:In (if o<l then o else l):=by
   split
   ·exact ho
   ·exact hl
  generalize (if o<l then o else l)=q at hq
  generalize (if b.least>a.least then b.least else a.least)=mm
  split
  ·exact⟨h0,h0⟩
  ·split
   ·exact⟨h0,h0⟩
   ·constructor
    ·exact hq
    ·show In (midF sell.price buy.price)
     have a1:=h1.2.2.1
     have a2:=h2.2.2.1
     unfold midF In;omega
 unfold matchF
 split
 ·exact key b a hb ha
 ·exact key a b ha hb
structure PairS.ok(P:PairS):Prop where
 wx:P.wx<18446744073709551616
 wy:P.wy<18446744073709551616
 tx:P.tx.sm
 ty:P.ty.sm
 pc:0≤P.pc∧P.pc≤14
 q:In P.q
 p:In P.p
 at_:In P.at_
 fin:In P.fin
 nx:P.nx.wfn
 ny:P.ny.wfn
def idleF(c:Cf)(P:PairS):Bool:=decide (ownerF c P.a.x<0) || decide (ownerF c P.a.y<0) || ownerF c P.a.x == ownerF c P.a.y
def wantsF(c:Cf)(P:PairS)(s:St):Bool:=if P.a.way=1∨P.a.way=2 then s.k == 1&&s.g == P.a.gen else if P.a.way=3 then s.k == 2&&P.tx.side == 0&&tshardF c P.tx == P.a.shard else false
def findsF(c:Cf)(P:PairS)(s:St):Bool:=if P.a.way=1 then s.k == 1 else if P.a.way=2 then tshardF c P.ty == P.a.shard&&s.k == 2 else if P.a.way=3 then s.k == 2 else false
def holdF(P:PairS)(S:WS):PairS × WS:=if wantsF S.c P (stOf P.wx)then({P with held:=(S.turn P.a.x P.wx (stOf P.wx).hold).1},(S.turn P.a.x P.wx (stOf P.wx).hold).2)else(P,S)
def Ev.zero:Ev:=⟨0,0,0,0,0,.zero,0,0,0,0⟩
def takeG(P:PairS)(S:WS)(t:Int × St):PairS × WS:=
 if t.1≠0 then(P,S)else if(S.turn P.a.y P.wy t.2).1=false then(P,S)else
 ({P with made:=true,ny:=t.2,at_:=S.now},(S.turn P.a.y P.wy t.2).2.tell {Ev.zero with kind:=2,cell:=P.a.x,gen:=(stOf P.wx).g,other:=P.a.y,wth:=(stOf P.wy).g,qty:=P.q,price:=P.p})
def fillF(P:PairS):Int × Int:=matchF P.tx P.ty (stOf P.wx).l (stOf P.wy).l
def tookF(P:PairS)(S:WS):PairS × WS:=
 if P.held=false∨findsF S.c P (stOf P.wy)=false then(P,S)else
 takeG {P with q:=(fillF P).1,p:=(fillF P).2} S (takeF (stOf P.wy) (fillF P).1 S.c.c5)
def lookF(P:PairS)(S:WS):PairS × WS:=if P.held=true∧P.free=false then({P with wx:=S.word P.a.x},S)else(P,S)
def letG(P:PairS)(S:WS)(t:Int × St):PairS × WS:=
 if t.1≠0 then(P,S)else if(S.turn P.a.x P.wx t.2).1=false then(P,S)else
 ({P with free:=true,nx:=t.2,fin:=S.now},if t.2.over then(S.turn P.a.x P.wx t.2).2.tell {Ev.zero with kind:=7,cell:=P.a.x,gen:=t.2.g,fin:=t.2.k} else(S.turn P.a.x P.wx t.2).2)
def letF(P:PairS)(S:WS):PairS × WS:=if P.held=false∨P.free=true then(P,S)else letG P S (releaseF (stOf P.wx) (if P.made then P.q else 0) S.c.c5)
def fillRec(P:PairS)(x gen:Int):Rc:=⟨1,P.q,P.p,P.at_,x,gen⟩
def noteE(S:WS)(x gen n:Int):Option Rc→WS
 |some r=>S.note x gen n r
 |none=>S
def noteF(P:PairS)(S:WS):WS:=
 if P.pc=10∧P.made=true then S.note P.a.x P.nx.g (P.nx.n-1) (fillRec P P.a.y P.ny.g)
 else if P.pc=11∧P.made=true then S.note P.a.y P.ny.g (P.ny.n-1) (fillRec P P.a.x P.nx.g)
 else if P.pc=12∧P.made=true then noteE S P.a.y P.ny.g S.c.c5 (endF P.ny P.at_)
 else if P.pc=13∧P.held=true then noteE S P.a.x P.nx.g S.c.c5 (endF P.nx P.fin)
 else S
def pstepF(P:PairS)(S:WS):PairS × WS:=
 if P.pc=0 then({P with wx:=S.word P.a.x},S)
 else if P.pc=1 then({P with tx:=tmOf (S.tword P.a.x)},S)
 else if P.pc=2 then holdF P S
 else if P.pc=3 then({P with wy:=S.word P.a.y},S)
 else if P.pc=4 then({P with ty:=tmOf (S.tword P.a.y)},S)
 else if P.pc=5 then tookF P S
 else if P.pc=6∨P.pc=8 then lookF P S
 else if P.pc=7∨P.pc=9 then letF P S
 else(P,noteF P S)
def pStepF(P:PairS)(S:WS):PairS × WS:=if P.pc≥14 then(P,S)else if idleF S.c P then({P with pc:=P.pc+1},S)else({(pstepF P S).1 with pc:=P.pc+1},(pstepF P S).2)
def PairS.new(a:Aim):PairS:=⟨a,0,0,0,.zero,.zero,false,false,false,0,0,0,0,.zero,.zero⟩
theorem WS.turn_ok{S:WS}(h:S.ok)(x:Int)(old:Nat)(s:St):(S.turn x old s).2.ok∧(S.turn x old s).2.c=S.c∧(S.turn x old s).2.now=S.now∧(S.turn x old s).2.log=S.log∧((S.turn x old s).1=false→(S.turn x old s).2=S):=by
 unfold WS.turn
 cases hv:stW s with
 |none=>exact⟨h,rfl,rfl,rfl,fun _=>rfl⟩
 |some v=>
  dsimp only
  cases hb:swB S.words (2*x) old with
  |false=>exact⟨h,rfl,rfl,rfl,fun _=>rfl⟩
  |true=>
   refine⟨⟨h.c,C8z h.w _ ?_,h.now,by show(stw S.words (2*x) v).length≤_;rw[A3t];exact h.len⟩,rfl,rfl,rfl,fun h=>by cases h⟩
   unfold stW at hv
   split at hv
   ·cases hv
   ·exact B5e cgood hv
theorem WS.turn_len(S:WS)(x:Int)(old:Nat)(s:St):(S.turn x old s).2.words.length=S.words.length:=by
 unfold WS.turn
 cases stW s with
 |none=>rfl
 |some v=>
  dsimp only
  split
  ·exact A3t _ _ _
  ·rfl
theorem WS.note_len(S:WS)(x gen n:Int)(r:Rc):(S.note x gen n r).words.length=S.words.length:=by
 unfold WS.note
 cases rcW r with
 |none=>rfl
 |some v=>exact A3t _ _ _
theorem WS.note_ok{S:WS}(h:S.ok)(x gen n:Int)(r:Rc):(S.note x gen n r).ok∧(S.note x gen n r).c=S.c∧(S.note x gen n r).now=S.now∧(S.note x gen n r).log=S.log:=by
 unfold WS.note
 cases hv:rcW r with
 |none=>exact⟨h,rfl,rfl,rfl⟩
 |some v=>
  refine⟨⟨h.c,C8z h.w _ ?_,h.now,by show(stw S.words _ v).length≤_;rw[A3t];exact h.len⟩,rfl,rfl,rfl⟩
  unfold rcW at hv
  split at hv
  ·cases hv
  ·exact B5e rgood hv
theorem WS.tell_ok{S:WS}(h:S.ok)(e:Ev):(S.tell e).ok:=⟨h.c,h.w,h.now,h.len⟩
theorem WS.word_lt{S:WS}(h:S.ok)(x:Int):S.word x<18446744073709551616:=wd_lt h.w _
theorem E1r{S:WS}(h:S.ok)(x:Int):FX 90 [.int S.c.c0,.int S.c.c1,.int S.c.c2,.int S.c.c3,.int S.c.c4,.int S.c.c5,.int S.c.c6,.int x]=some [.int (ownerF S.c x)]:=E0f S.c h.c x
theorem C0l{S:WS}(h:S.ok)(t:Tm):FX 75 [.int S.c.c0,.int S.c.c1,.int S.c.c2,.int S.c.c3,.int S.c.c4,.int S.c.c5,.int S.c.c6,.int t.name,.int t.side,.int t.price,.int t.least,.int t.till]=some [.int (tshardF S.c t)]:=D5l S.c h.c t
theorem E3t(s:St):FX 118 [.int s.k,.bool s.f,.int s.g,.int s.l,.int s.n]=some s.hold.ds:=E2e s
def Did(L L':List D)(a w m k:Nat)(R:PairS × WS):Prop:=InW L' w m k R.2∧L'.getD a D.nil=.agg R.1.ds∧Fr L L' (fun b=>b=a∨b=w∨b=m)
section
variable{L:List D}{a w m k:Nat}{P:PairS}{S:WS}(W:InW L w m k S)(ha:L.getD a D.nil=.agg P.ds)
include W ha
theorem pfar:a≠w∧a≠m∧a≠k:=W.far ha (by rw[PairS.len];decide) (by rw[PairS.len];decide) (by rw[PairS.len];decide)
theorem A0y:Did L L a w m k (P,S):=⟨W,ha,Fr.refl _ _⟩
theorem did_w{L1:List D}{S1:WS}(W1:InW L1 w m k S1)(F:Fr L L1 (fun b=>b=w∨b=m)):Did L L1 a w m k (P,S1):=by
 obtain⟨h1,h2,h3⟩:=pfar W ha
 exact⟨W1,F.get ha (by simp only[h1,h2,or_self,not_false_iff]),F.mono fun b hb=>.inr hb⟩
omit W ha in
theorem A2u{L1:List D}{P1:PairS}{S1:WS}(hd:Did L L1 a w m k (P1,S1))(P2:PairS):Did L (L1.set a (.agg P2.ds)) a w m k (P2,S1):=by
 obtain⟨W1,h1,F⟩:=hd
 obtain⟨g1,g2,g3⟩:=pfar W1 h1
 exact⟨W1.fr (Fr.set L1 a _ (T:=(·=a)) rfl) (Ne.symm g1) (Ne.symm g2) (Ne.symm g3),A0w (lt_of h1) _,F.trans (Fr.set L1 a _ (.inl rfl))⟩
theorem B8m:FX 53 [.int (a:Nat),.agg L]=some [.bool (decide (P.pc≥14))]:=by
 rw[A4f]
 simp only[HH,ha,PairS.get5]
theorem E3l(h:S.ok):FX 67 [.int (a:Nat),.int (w:Nat),.agg L]=some [.bool (idleF S.c P)]:=by
 have h1:=E1r h
 rw[B7m]
 simp only[HH,ha,W.w,WorldS.all,PairS.get1,PairS.get3,h1]
 unfold idleF
 by_cases a1:ownerF S.c P.a.x<0
 ·simp only[a1,decide_true,if_true,Bool.true_or]
 by_cases a2:ownerF S.c P.a.y<0
 ·simp only[a1,a2,decide_true,decide_false,Bool.false_eq_true,if_false,if_true,Bool.true_or,Bool.or_true]
 ·simp only[a1,a2,decide_false,Bool.false_eq_true,if_false,Bool.false_or]
theorem D9e(h:S.ok)(s:St):FX 117 [.int (a:Nat),.int (w:Nat),.int s.k,.bool s.f,.int s.g,.int s.l,.int s.n,.agg L]=some [.bool (wantsF S.c P s)]:=by
 have h1:=C0l h P.tx
 rw[B5u]
 simp only[HH,ha,W.w,WorldS.all,PairS.get0,PairS.get2,PairS.get4,PairS.get8,PairS.get9,PairS.get10,PairS.get11,PairS.get12,h1]
 unfold wantsF
 by_cases a1:P.a.way=1
 ·by_cases b1:s.k=1
  ·simp[a1,b1]
  ·simp[a1,b1]
 by_cases a2:P.a.way=2
 ·by_cases b1:s.k=1
  ·simp[a2,b1]
  ·simp[a2,b1]
 by_cases a3:P.a.way=3
 ·by_cases b1:s.k=2
  ·by_cases b2:P.tx.side=0
   ·simp[a3,b1,b2]
   ·simp[a3,b1,b2]
  ·simp[a3,b1]
 ·simp[a1,a2,a3]
theorem E0e(h:S.ok)(s:St):FX 119 [.int (a:Nat),.int (w:Nat),.int s.k,.bool s.f,.int s.g,.int s.l,.int s.n,.agg L]=some [.bool (findsF S.c P s)]:=by
 have h1:=C0l h P.ty
 rw[B5z]
 simp only[HH,ha,W.w,WorldS.all,PairS.get0,PairS.get4,PairS.get13,PairS.get14,PairS.get15,PairS.get16,PairS.get17,h1]
 unfold findsF
 by_cases a1:P.a.way=1
 ·simp[a1]
 by_cases a2:P.a.way=2
 ·by_cases b1:tshardF S.c P.ty=P.a.shard
  ·simp[a2,b1]
  ·simp[a2,b1]
 by_cases a3:P.a.way=3
 ·simp[a3]
 ·simp[a1,a2,a3]
theorem E0q(h:S.ok)(hp:P.ok)(hx:-1000≤P.a.x∧P.a.x≤1000):∃L',FX 91 [.int (a:Nat),.int (w:Nat),.agg L]=some [.agg L']∧Did L L' a w m k (holdF P S):=by
 have h1:=C0i P.wx hp.wx
 have h2:=D9e W ha h (stOf P.wx)
 have h3:=E3t (stOf P.wx)
 obtain⟨L1,h4,W1,F1⟩:=A7i W h P.a.x hx P.wx (stOf P.wx).hold (St.hold_wf (A3w _))
 have d1:=did_w W ha W1 (F1.mono fun b hb=>.inr hb)
 rw[B8h]
 simp only[HH,ha,PairS.get1,PairS.get6]
 unfold wN at h4⊢
 rw[h1]
 simp only[HH,St.len,St.get0,St.get1,St.get2,St.get3,St.get4,h2]
 unfold holdF
 cases hb:wantsF S.c P (stOf P.wx)with
 |false=>exact⟨L,by simp only[HH],A0y W ha⟩
 |true=>
  refine⟨_,?_,A2u d1 {P with held:=(S.turn P.a.x P.wx (stOf P.wx).hold).1}⟩
  simp only[HH,h3,St.len,St.get0,St.get1,St.get2,St.get3,St.get4,h4,d1.2.1,PairS.all]
end
end Go.Proofs.YtcgcpjajghdbpaaGreat.P
