import Derived.Test.YtcgcpjajghdbpaaGreatInvA
namespace Go.Proofs.YtcgcpjajghdbpaaGreat.P
open Go.RowKit Go.Proofs.YtcgcpjajghdbpaaGreat.Eng Go.Proofs.YtcgcpjajghdbpaaGreat Go.Proofs.YtcgcpjajghdbpaaGreat.Dat Go.Proofs.YtcgcpjajghdbpaaGreat.FDat
set_option linter.unusedVariables false
set_option linter.unusedSimpArgs false
set_option linter.unusedSectionVars false
def act(c:Cf)(P:PairS):Prop:=idleF c P=false∧P.held=true∧P.free=false
structure TryI(S:WS)(P:PairS):Prop where
 wx:1≤P.pc→(stOf P.wx).g≤(stx S P.a.x).g
 tx:2≤P.pc→(stx S P.a.x).live=true→(stx S P.a.x).g=(stOf P.wx).g→P.tx=tmx S P.a.x
 wy:4≤P.pc→(stOf P.wy).g≤(stx S P.a.y).g
 ty:5≤P.pc→(stx S P.a.y).live=true→(stx S P.a.y).g=(stOf P.wy).g→P.ty=tmx S P.a.y
 free:P.pc≤7→P.free=false
 made:P.pc≤5→P.made=false
 held:P.pc≤2→P.held=false
 act:P.held=true→P.free=false→(stx S P.a.x).held=true∧(stx S P.a.x).g=(stOf P.wx).g∧(stx S P.a.x).l=(stOf P.wx).l∧(lgOf S.log).lf P.a.x (stx S P.a.x).g=(stx S P.a.x).l-(if P.made then P.q else 0)
theorem A7l{c:Cf}{P:PairS}(h:idleF c P=false):InC c P.a.x∧InC c P.a.y∧P.a.x/c.c1≠P.a.y/c.c1:=by
 simp only[idleF,Bool.or_eq_false_iff,decide_eq_false_iff_not,beq_eq_false_iff_ne]at h
 obtain⟨⟨h1,h2⟩,h3⟩:=h
 have k:∀z,¬ownerF c z<0→InC c z∧ownerF c z=z/c.c1:=by
  intro z hz
  unfold ownerF at hz⊢
  split at hz
  ·omega
  ·rename_i q
   rw[if_neg q]
   exact⟨⟨by omega,by omega⟩,rfl⟩
 obtain⟨a1,a2⟩:=k _ h1
 obtain⟨b1,b2⟩:=k _ h2
 exact⟨a1,b1,by rw[←a2,←b2];exact h3⟩
theorem TryI.adv{S S':WS}{P:PairS}{own rel:Int→Prop}(h:TryI S P)(A:Adv S S' own rel)(hx:InC S.c P.a.x)(hy:InC S.c P.a.y)
  (hr:P.held=true→P.free=false→¬rel P.a.x):TryI S' P:=by
 refine⟨fun q=>Int.le_trans (h.wx q) (A.mono _ hx),fun q hl hg=>?_,fun q=>Int.le_trans (h.wy q) (A.mono _ hy),fun q hl hg=>?_,h.free,h.made,h.held,fun h1 h2=>?_⟩
 ·obtain⟨k1,k2,k3⟩:=A.tms _ hx hl (by rw[hg];exact h.wx (by omega))
  rw[k3];exact h.tx q k1 (by rw[←k2];exact hg)
 ·obtain⟨k1,k2,k3⟩:=A.tms _ hy hl (by rw[hg];exact h.wy (by omega))
  rw[k3];exact h.ty q k1 (by rw[←k2];exact hg)
 ·obtain⟨a1,a2,a3,a4⟩:=h.act h1 h2
  obtain⟨k1,k2,k3,k4⟩:=A.held _ hx a1 (hr h1 h2)
  exact⟨k1,k2.trans a2,k3.trans a3,by rw[k2,k4,k3];exact a4⟩
structure TryK(S:WS)(P:PairS)(R:PairS × WS):Prop where
 wi:WI R.2
 adv:Adv S R.2 (fun _=>False) (fun y=>act S.c P∧y=P.a.x)
 i:TryI R.2 R.1
 new:act S.c R.1→act S.c P∨(stx S P.a.x).loose=true
 a:R.1.a=P.a
theorem D3c{a b:Tm}{l o:Int}(h:1≤(matchF a b l o).1)(e:Ev)(hp:e.price=(matchF a b l o).2):
  FairP (if a.side=1 then b else a) (if a.side=1 then a else b) e∧a.least≤(matchF a b l o).1∧b.least≤(matchF a b l o).1∧(matchF a b l o).1≤l∧(matchF a b l o).1≤o:=by
 have key:∀p q:Tm,1≤(matchB a b p q l o).1→e.price=(matchB a b p q l o).2→(a.name=b.name→p.name=q.name)→
   FairP p q e∧a.least≤(matchB a b p q l o).1∧b.least≤(matchB a b p q l o).1∧(matchB a b p q l o).1≤l∧(matchB a b p q l o).1≤o:=by
  intro p q h1 h2 hn
  unfold matchB at h1 h2⊢
  have hm:(if o<l then o else l)≤l∧(if o<l then o else l)≤o:=by split<;>omega
  have hb:b.least≤(if b.least>a.least then b.least else a.least)∧a.least≤(if b.least>a.least then b.least else a.least):=by split<;>omega
  generalize (if o<l then o else l)=m at*
  generalize (if b.least>a.least then b.least else a.least)=z at*
  by_cases c1:p.side≠0∨q.side≠1∨a.name≠b.name
  ·rw[if_pos c1]at h1;exact absurd h1 (by decide)
  rw[if_neg c1]at h1 h2⊢
  by_cases c2:p.price<q.price∨m<1∨m<z
  ·rw[if_pos c2]at h1;exact absurd h1 (by decide)
  rw[if_neg c2]at h1 h2⊢
  unfold midF at h2
  dsimp only at h1 h2⊢
  have n1:a.name=b.name:=by omega
  exact⟨⟨by omega,by omega,hn n1,by omega,by omega,by omega⟩,by omega,by omega,by omega,by omega⟩
 unfold matchF at h hp⊢
 by_cases hs:a.side=1
 ·rw[if_pos hs]at h hp
  rw[if_pos hs,if_pos hs,if_pos hs]
  exact key b a h hp fun e=>e.symm
 ·rw[if_neg hs]at h hp
  rw[if_neg hs,if_neg hs,if_neg hs]
  exact key a b h hp id
theorem D5e{s:St}(h:s.loose=true):s.hold.held=true∧s.hold.loose=false∧s.hold.g=s.g∧s.hold.l=s.l:=by
 simp only[St.loose,Bool.or_eq_true,beq_iff_eq]at h
 unfold St.hold
 rcases h with h|h
 ·rw[if_pos h];exact⟨rfl,rfl,rfl,rfl⟩
 ·rw[if_neg (by omega),if_pos h];exact⟨rfl,rfl,rfl,rfl⟩
theorem C2k(s:St)(m:Int):s.ended m=s∨((s.ended m).live=false∧(s.ended m).over=true):=by
 unfold St.ended
 split
 ·exact .inr ⟨rfl,rfl⟩
 ·split
  ·exact .inr ⟨rfl,rfl⟩
  ·exact .inl rfl
theorem D8d{s:St}(h:s.over=true):s.live=false:=by
 simp only[St.over,St.live,Bool.and_eq_true,decide_eq_true_eq,Bool.and_eq_false_iff,decide_eq_false_iff_not]at h⊢;omega
theorem C0g{s:St}(h:s.live=false):s.loose=false∧s.held=false:=by
 constructor
 ·cases e:s.loose with
  |false=>rfl
  |true=>rw[St.live_loose e]at h;cases h
 ·cases e:s.held with
  |false=>rfl
  |true=>rw[St.live_held e]at h;cases h
theorem C1q{s:St}(h:s.held=true)(m:Int):((freed s m).loose=true∧(freed s m).over=false)∨((freed s m).live=false∧(freed s m).over=true):=by
 have hl:s.loosen.loose=true∧s.loosen.over=false:=by
  simp only[St.held,Bool.or_eq_true,beq_iff_eq]at h
  unfold St.loosen
  rcases h with h|h
  ·rw[if_pos h];exact⟨rfl,rfl⟩
  ·rw[if_neg (by omega),if_pos h];exact⟨rfl,rfl⟩
 unfold freed
 split
 ·exact .inr ⟨rfl,rfl⟩
 ·rcases C2k s.loosen m with e|e
  ·rw[e];exact .inl hl
  ·exact .inr e
theorem C9l{s:St}{q m:Int}(h:(releaseF s q m).1=0):s.held=true∧0≤q∧q≤s.l∧(releaseF s q m).2.g=s.g∧(releaseF s q m).2.l=s.l-q∧
  (((releaseF s q m).2.loose=true∧(releaseF s q m).2.over=false)∨((releaseF s q m).2.live=false∧(releaseF s q m).2.over=true)):=by
 unfold releaseF at h⊢
 split at h
 ·exact absurd h (by decide)
 rename_i c1
 rw[if_neg c1]
 split at h
 ·exact absurd h (by decide)
 rename_i c2
 rw[if_neg c2]
 have hh:s.held=true:=by simpa using c1
 split at h
 ·rename_i c3
  rw[if_pos c3]
  split at h
  ·exact absurd h (by decide)
  ·rename_i c4
   rw[if_neg c4]
   dsimp only
   have k:=B8l {s with l:=s.l-q,n:=s.n+1} m
   exact⟨hh,by omega,by omega,k.2.1,k.2.2,C1q (s:={s with l:=s.l-q,n:=s.n+1}) hh m⟩
 ·rename_i c3
  rw[if_neg c3]
  dsimp only
  have k:=B8l s m
  exact⟨hh,by omega,by omega,k.2.1,by rw[k.2.2];omega,C1q hh m⟩
theorem D7z{s:St}{q m:Int}(h:(takeF s q m).1=0):s.loose=true∧1≤q∧q≤s.l∧(takeF s q m).2.g=s.g∧(takeF s q m).2.l=s.l-q∧
  ((takeF s q m).2.loose=true∨(takeF s q m).2.live=false):=by
 unfold takeF at h⊢
 split at h
 ·exact absurd h (by decide)
 rename_i c1
 rw[if_neg c1]
 split at h
 ·exact absurd h (by decide)
 rename_i c2
 rw[if_neg c2]
 split at h
 ·exact absurd h (by decide)
 rename_i c3
 rw[if_neg c3]
 dsimp only
 have hh:s.loose=true:=by simpa using c1
 have k:=St.ended_n {s with l:=s.l-q,n:=s.n+1} m
 refine⟨hh,by omega,by omega,k.2.1,k.2.2,?_⟩
 rcases C2k {s with l:=s.l-q,n:=s.n+1} m with e|e
 ·rw[e];exact .inl hh
 ·exact .inr e.1
theorem D0w{c:Cf}{P:PairS}{s:St}(h:wantsF c P s=true):s.loose=true:=by
 unfold wantsF at h
 unfold St.loose
 split at h
 ·rw[Bool.and_eq_true]at h;rw[h.1];rfl
 ·split at h
  ·rw[Bool.and_eq_true,Bool.and_eq_true]at h;rw[h.1.1];simp
  ·cases h
end Go.Proofs.YtcgcpjajghdbpaaGreat.P
