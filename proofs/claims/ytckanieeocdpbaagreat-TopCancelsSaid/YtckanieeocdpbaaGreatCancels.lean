import Derived.Test.YtckanieeocdpbaaGreatQuoB
import Derived.Test.YtckanieeocdpbaaGreatEngX
import Derived.KernelRfl
import Derived.Test.YtckanieeocdpbaaGreatPoolN
import Derived.Test.YtckanieeocdpbaaGreatOpenS
import Derived.Test.YtckanieeocdpbaaGreatProg
open List renaming getD_cons_zero→aA,length_cons→aB,length_nil→aC,getD_cons_succ→aD,getElem?_eq_some_iff→aE,getElem?_eq_getElem→aF,getD_eq_getElem?_getD→aG,mem_of_getElem?→aH,getElem?_set→aI,length_map→aJ,length_set→aK,getElem?_map→aL,take_succ_eq_append_getElem→aM,mem_cons_of_mem→aN,mem_cons_self→aO,take_of_length_le→aP,length_range→aQ,map_append→aR,range→aS,not_mem_nil→aT,mem_cons→aU,foldl_append→aV,foldl_cons→aW,replicate→aX
open Bool renaming false_eq_true→aY,not_true→aZ,not_false→b0,and_true→b6,and_eq_true→b7,and_false→b8,true_and→b9,or_eq_true→bA,false_and→bB
open Int renaming toNat_natCast→bC,le_refl→bD,mul_nonneg→bE,mul_le_mul→bF
open Go.IntKind renaming i64→bG,signed→bH,bits→bI,min→bJ,max→bK
open Nat renaming zero_le→bL,le_refl→bM,mul_le_mul_left→bN,succ_mul→bO,div_add_mod→bP,lt_irrefl→bQ,le_trans→bR,mul_add→bS,mul_one→bT
open Option renaming getD_some→bU,map_some→bV
namespace Go.Proofs.YtckanieeocdpbaaGreat.P
open Go.RowKit Go.Proofs.YtckanieeocdpbaaGreat.Eng Go.Proofs.YtckanieeocdpbaaGreat Go.Proofs.YtckanieeocdpbaaGreat.Dat Go.Proofs.YtckanieeocdpbaaGreat.FDat
set_option linter.unusedVariables false
set_option linter.unusedSimpArgs false
set_option linter.unusedSectionVars false
section
structure G0x(pr:PrS)(se:A0l)(S:WS)(R:StA):Prop where
 cell:∀r,R.r=some r→r.cell=pr.a.cell
 b:pr.a.kind=1→pr.pc=3→R.se.ids=se.ids.set pr.a.cell.toNat pr.a.id∧R.se.A4h=se.A4h.set pr.a.cell.toNat pr.st.g∧∀y,InC S.c y→(stx R.S y).g=if y=A0f S.c se.part pr.a.cell then pr.st.g else(stx S y).g
 n:¬(pr.a.kind=1∧pr.pc=3)→R.se.ids=se.ids∧R.se.A4h=se.A4h∧∀y,InC S.c y→(stx R.S y).g=(stx S y).g
theorem H4e{S:WS}{pr:PrS}{o:Option A0a}{se:A0l}{ss:A0k}{po:A0e}(hc:S.c.ok)(w:WI S)(I:A3j S se.part pr)(J:∀P,o=some P→A4o S P)(hp:0≤pr.pc)(hd:0≤pr.done):
  G0x pr se S (A2k pr o se ss po S):=by
 have same:∀R:StA,(∀r,R.r=some r→r.cell=pr.a.cell)→¬(pr.a.kind=1∧pr.pc=3)→R.se.ids=se.ids→R.se.A4h=se.A4h→GS S R.S→G0x pr se S R:=fun R h1 h2 h3 h4 h5=>⟨h1,fun a b=>absurd ⟨a,b⟩ h2,fun _=>⟨h3,h4,h5.g⟩⟩
 unfold A2k
 split
 ·rename_i hk
  unfold A9a
  split
  ·rename_i hpc
   show G0x pr se S ((A1r (A0f S.c se.part pr.a.cell) pr se S).on o ss po)
   generalize hx:A0f S.c se.part pr.a.cell=x
   unfold A1r
   split
   ·split
    ·exact same _ (fun r e=>by cases e;rfl) (by omega) rfl rfl (GS.refl S)
    ·exact same _ (fun r e=>by cases e) (by omega) rfl rfl (GS.refl S)
   split
   ·split
    ·exact same _ (fun r e=>by cases e;rfl) (by omega) rfl rfl (GS.refl S)
    ·exact same _ (fun r e=>by cases e) (by omega) rfl rfl (GS.refl S)
   split
   ·refine same _ (fun r e=>by cases e) (by omega) rfl rfl ⟨rfl,fun y hy=>?_,.inl rfl⟩
    show(stx (S.put (2*x+1) _) y).g=_
    unfold stx WS.word WS.put;dsimp only;rw[A7z (by omega)]
   split
   ·rename_i _ _ _ h3
    have b:=I.b1 hk (by omega)
    have d:=I.b2 hk (.inr h3)
    have hc6:=hc.2.2.2.2.2.2
    rw[hx]at d
    have hg:0≤(stx S x).g:=(A9o _).2.1.1
    have hst:=d.2.1
    obtain⟨v,hv⟩:=E5p (g:=(stx S x).g+1) (q:=pr.a.qty) (by omega) (by omega)
    rw[←hst]at hv
    refine⟨fun r e=>(by cases e),fun _ _=>⟨rfl,rfl,fun y hy=>?_⟩,fun q=>absurd ⟨hk,h3⟩ q⟩
    rw[hx]
    show(stx ({S with words:=stw S.words (2*x) ((stW pr.st).getD 0)}:WS) y).g=_
    rw[E7y _ hy w.len,hv,bU,A7m hv]
    split<;>rfl
   ·omega
  ·rename_i hpc
   have k:=E1i (pr:=pr) (ss:=ss) (po:=po) hc w J
   have g:=H5m (pr:=pr) (o:=o) (ss:=ss) (po:=po) hc w.len
   generalize A1v pr o ss po S=T at*
   unfold B1d
   split
   ·exact same _ (fun r e=>by cases e) (by omega) rfl rfl g
   ·rename_i hb
    have eS:=k.2 (by simpa using hb)
    have r:=H3m (pr:={pr with n:=T.n}) w (I.n T.n) hk (by show 4≤pr.pc;omega) hd
    rw[eS]
    split
    ·exact same _ (fun r e=>by cases e) (by omega) rfl rfl r
    ·exact same _ (fun r e=>by cases e;rfl) (by omega) rfl rfl r
 rename_i hk
 have nk:¬(pr.a.kind=1∧pr.pc=3):=fun q=>hk q.1
 split
 ·rename_i k2
  refine same _ (fun r e=>?_) nk ?_ ?_ ?_
  ·have e:(A0s (A0f S.c se.part pr.a.cell) pr se S).r=some r:=e
   unfold A0s at e
   repeat' (first|(cases e<;>rfl)|split at e)
  ·show(A0s (A0f S.c se.part pr.a.cell) pr se S).se.ids=_
   unfold A0s
   repeat' (first|rfl|split)
  ·show(A0s (A0f S.c se.part pr.a.cell) pr se S).se.A4h=_
   unfold A0s
   repeat' (first|rfl|split)
  ·show GS S (A0s (A0f S.c se.part pr.a.cell) pr se S).S
   unfold A0s
   split
   ·split<;>exact GS.refl S
   split
   ·exact GS.refl S
   split
   ·rename_i p2
    exact H0e w _ hd (I.k2 k2 p2)
   split
   ·show GS S (if pr.done=1 then A4r S _ pr.st.g S.c.c5 (A5k pr.st pr.at_)else S)
    split
    ·exact(A6b hc _ _ _ _).gs
    ·exact GS.refl S
   ·exact GS.refl S
 split
 ·refine same _ (fun r e=>?_) nk ?_ ?_ ?_
  ·have e:(A1t (A0f S.c se.part pr.a.cell) pr se S).r=some r:=e
   unfold A1t at e
   repeat' (first|(cases e<;>rfl)|split at e)
  ·show(A1t (A0f S.c se.part pr.a.cell) pr se S).se.ids=_
   unfold A1t
   repeat' (first|rfl|split)
  ·show(A1t (A0f S.c se.part pr.a.cell) pr se S).se.A4h=_
   unfold A1t
   repeat' (first|rfl|split)
  ·have e:(A1t (A0f S.c se.part pr.a.cell) pr se S).S=S:=by
    unfold A1t
    repeat' (first|rfl|split)
   show GS S (A1t (A0f S.c se.part pr.a.cell) pr se S).S
   rw[e];exact GS.refl S
 split
 ·refine same _ (fun r e=>?_) nk ?_ ?_ ?_
  ·have e:(A1q pr se S).r=some r:=e
   unfold A1q at e
   repeat' (first|(cases e<;>rfl)|split at e)
  ·show(A1q pr se S).se.ids=_
   unfold A1q
   repeat' (first|rfl|split)
  ·show(A1q pr se S).se.A4h=_
   unfold A1q
   repeat' (first|rfl|split)
  ·have e:(A1q pr se S).S=S:=by
    unfold A1q
    repeat' (first|rfl|split)
   show GS S (A1q pr se S).S
   rw[e];exact GS.refl S
 ·exact same _ (fun r e=>by cases e;rfl) nk rfl rfl (GS.refl S)
def C0s(l:List Out)(i k:Int):Int:=l.foldl (fun z o=>if(o.r.kind=1∧o.r.code=0)∧o.part=i∧o.r.cell=k then o.r.id else z) 0
theorem D8r(l:List Out)(o:Out)(i k:Int):C0s (l++[o]) i k=if(o.r.kind=1∧o.r.code=0)∧o.part=i∧o.r.cell=k then o.r.id else C0s l i k:=by
 unfold C0s
 rw[aV];rfl
def G7b(x:A0w)(k:Int):Prop:=∃pr o,x.now=some (pr,o)∧pr.a.kind=1∧4≤pr.pc∧pr.a.cell=k
structure CS(P:A0h)(i:Nat)(x:A0w):Prop where
 g:∀k,0≤k→k<P.S.c.c1→atL x.se.A4h k=(stx P.S (A0f P.S.c i k)).g
 id:∀k,0≤k→k<P.S.c.c1→¬G7b x k→atL x.se.ids k=C0s P.outs i k
 cur:∀pr o,x.now=some (pr,o)→pr.a.kind=1→4≤pr.pc→atL x.se.ids pr.a.cell=pr.a.id
 pos:∀k,0≤k→k<P.S.c.c1→atL x.se.A4h k=0∨0<atL x.se.ids k
structure CI(P:A0h):Prop where
 s:∀(i:Nat) x,P.A0c[i]?=some x→CS P i x
 gd:∀o ∈ P.outs,o.r.kind=1→o.r.code=0→0≤A0f P.S.c o.part o.r.cell
theorem C8n{l:List Int}{a b v:Int}(ha:0≤a∧a<l.length)(hb:0≤b):atL (l.set a.toNat v) b=if b=a then v else atL l b:=by
 unfold atL
 rw[aG,aG,aI]
 by_cases e:b=a
 ·rw[Q3 e,e,Q3 rfl,Q3 (by omega)];rfl
 ·rw[Q0 e,Q0 (by omega)]
theorem C9y{c:Cf}(hc:c.ok){i:Nat}{k:Int}(hi:(i:Int)<c.c0)(h0:0≤k)(h1:k<c.c1):0≤A0f c i k∧InC c (A0f c i k)∧A5f c (A0f c i k)=i:=by
 have hge:0≤A0f c i k:=by
  unfold A0f
  rw[Q0 (by omega)]
  have:0≤(i:Int)*c.c1:=bE (by omega) (by omega)
  omega
 exact⟨hge,A5h hc hge⟩
theorem G6j{c:Cf}{i:Nat}{k l:Int}(hk:0≤A0f c i k)(hl:0≤A0f c i l)(e:A0f c i k=A0f c i l):k=l:=by
 have a:=(B1c c hk).2.2.1
 have b:=(B1c c hl).2.2.1
 rw[a,b]at e;omega
section
variable{P P':A0h}{n i:Nat}{x x1 x':A0w}{pr:PrS}{o:Option A0a}{R:StA}{ss:A0k}{po:A0e}(ok:A2q P n)(hsl:(P.A0c.length:Int)=P.S.c.c0)(hx:P.A0c[i]?=some x)(b:Beg x x1 pr o)(d:A5q P P' i x1 R x')(hp:R.se.part=i)(hpart:x1.se.part=i)(a:E1d pr x1.se ss po P.S R)(g:G0x pr x1.se P.S R)(h0:0≤pr.pc)(Ip:A3j P.S i pr)(hc':R.S.c=P.S.c)
include ok hsl hx b d hp hpart a g h0 Ip hc'
theorem CI.step(L:LI P)(h:CI P):CI P':=by
 have hc:=ok.S.c
 have C:=h.s i x hx
 have so:=(ok.A0c x (aH hx)).C4v
 have ltP:∀(j:Nat) y,P.A0c[j]?=some y→(j:Int)<P.S.c.c0:=fun j y hy=>by have:=(aE.1 hy).1;omega
 have eS:P'.S=R.S:=d.S
 have nb:∀k,¬(pr.a.kind=1∧4≤pr.pc∧pr.a.cell=k)→¬G7b x k:=by
  rintro k hk ⟨pr',o',e,q⟩
  rcases b.c with⟨_,hn⟩|⟨hn,_⟩
  ·rw[hn]at e;cases e;exact hk q
  ·rw[hn]at e;cases e
 have outs:(R.r=none∧P'.outs=P.outs)∨∃r,R.r=some r∧P'.outs=P.outs++[⟨R.se.part,x1.ev,r⟩]:=by
  rcases d.c with⟨a,_,_,e⟩|⟨r,a,_,e⟩
  ·exact .inl ⟨a,e⟩
  ·exact .inr ⟨r,a,e⟩
 refine⟨fun j y hy=>?_,fun o' ho k1 k2=>?_⟩
 rotate_left
 ·rw[eS,hc']
  rcases outs with⟨_,e⟩|⟨r,rn,e⟩
  ·rw[e]at ho;exact h.gd o' ho k1 k2
  ·rw[e]at ho
   rcases List.mem_append.1 ho with ho|ho
   ·exact h.gd o' ho k1 k2
   ·have e':o'=⟨R.se.part,x1.ev,r⟩:=by simpa using ho
    subst e'
    obtain⟨r1,r2,r3⟩:=a.r r rn
    have kk:pr.a.kind=1:=by rw[←r1];exact k1
    show 0≤A0f P.S.c R.se.part r.cell
    rw[hp,g.cell r rn]
    have q4:4≤pr.pc:=by
     rcases r3 kk with w|w
     ·exact absurd k2 w.2
     ·exact w.1
    exact(Ip.b1 kk (by omega)).1
 rw[d.A0c]at hy
 rcases B4p hy with⟨rfl,rfl⟩|⟨hj,hy⟩
 ·have hi:=ltP _ _ hx
  by_cases k3:pr.a.kind=1∧pr.pc=3
  ·obtain⟨g1,g2,g3⟩:=g.b k3.1 k3.2
   have B:=Ip.b1 k3.1 (by omega)
   have B2:=Ip.b2 k3.1 (.inr k3.2)
   obtain⟨c1,c2,c3,c4⟩:=B1c P.S.c B.1
   rw[hpart]at g3
   have lt1:0≤pr.a.cell∧pr.a.cell<x.se.ids.length:=⟨c2.1,by rw[so.ids];exact c2.2⟩
   have lt2:0≤pr.a.cell∧pr.a.cell<x.se.A4h.length:=⟨c2.1,by rw[so.A4h];exact c2.2⟩
   have hl2:x.se.last<pr.a.id∧0≤x.se.last:=by
    refine⟨?_,(L.s j x hx).l0⟩
    rcases b.c with⟨_,hn⟩|⟨_,q,_,_,e,_⟩
    ·exact(L.s j x hx).l2 pr o hn k3.1 (by omega) (by omega)
    ·rw[e]at k3;exact absurd k3.2 (show ¬(0:Int)=3 by decide)
   obtain⟨rn,xn⟩:R.r=none∧y.now=some (R.pr,R.o):=by
    rcases d.c with⟨r1,r2,_⟩|⟨r,r1,_⟩
    ·exact⟨r1,r2⟩
    ·rcases(a.r r r1).2.2 k3.1 with q|q<;>omega
   obtain⟨n1,n2⟩:=a.n rn
   have po:P'.outs=P.outs:=by
    rcases outs with⟨_,e⟩|⟨r,e,_⟩
    ·exact e
    ·rw[rn]at e;cases e
   rw[b.se]at g1 g2
   refine⟨fun k hk0 hk1=>?_,fun k hk0 hk1 hb=>?_,fun pr' o' e kk k4=>?_,fun k hk0 hk1=>?_⟩
   ·rw[eS,hc']at*
    have ci:=C9y hc hi hk0 hk1
    rw[d.se,g2,C8n lt2 hk0,g3 _ ci.2.1]
    by_cases e:k=pr.a.cell
    ·rw[Q3 e,Q3 (by rw[e])]
    ·rw[Q0 e,Q0 (fun q=>e (G6j ci.1 B.1 q))]
     exact C.g k hk0 hk1
   ·rw[eS,hc']at hk1
    have e:k≠pr.a.cell:=fun e=>hb ⟨R.pr,R.o,xn,by rw[n1];exact k3.1,by rw[(n2 k3.1).1 (by omega)];omega,by rw[n1];exact e.symm⟩
    rw[d.se,g1,C8n lt1 hk0,Q0 e,po]
    exact C.id k hk0 hk1 (nb k (by omega))
   ·rw[xn]at e;cases e
    rw[n1,d.se,g1,C8n lt1 c2.1,Q3 rfl]
   ·rw[eS,hc']at hk1
    rw[d.se,g1,g2,C8n lt1 hk0,C8n lt2 hk0]
    split
    ·right;omega
    ·exact C.pos k hk0 hk1
  ·obtain⟨g1,g2,g3⟩:=g.n k3
   rw[b.se]at g1 g2
   have gg:∀k,0≤k→k<P'.S.c.c1→atL y.se.A4h k=(stx P'.S (A0f P'.S.c j k)).g:=fun k hk0 hk1=>by
    rw[eS,hc']at*
    rw[d.se,g2,g3 _ (C9y hc hi hk0 hk1).2.1]
    exact C.g k hk0 hk1
   have pp:∀k,0≤k→k<P'.S.c.c1→atL y.se.A4h k=0∨0<atL y.se.ids k:=fun k hk0 hk1=>by
    rw[eS,hc']at hk1
    rw[d.se,g1,g2];exact C.pos k hk0 hk1
   rcases d.c with⟨rn,xn,_,po⟩|⟨r,rn,xn,po⟩
   ·obtain⟨n1,n2⟩:=a.n rn
    have same:pr.a.kind=1→4≤R.pr.pc→4≤pr.pc:=fun kk q=>by
     obtain⟨m1,m2,_⟩:=n2 kk
     by_cases q4:pr.pc<4
     ·rw[m1 q4]at q
      exact absurd ⟨kk,by omega⟩ k3
     ·omega
    refine⟨gg,fun k hk0 hk1 hb=>?_,fun pr' o' e kk k4=>?_,pp⟩
    ·rw[eS,hc']at hk1
     rw[d.se,g1,po]
     refine C.id k hk0 hk1 (nb k fun q=>hb ⟨R.pr,R.o,xn,by rw[n1];exact q.1,?_,by rw[n1];exact q.2.2⟩)
     rw[(n2 q.1).2.1 q.2.1];exact q.2.1
    ·rw[xn]at e;cases e
     rw[n1]at kk⊢
     rw[d.se,g1]
     rcases b.c with⟨_,hn⟩|⟨_,q,_,_,e,_⟩
     ·exact C.cur pr o hn kk (same kk k4)
     ·rw[e]at same kk;exact absurd (same kk k4) (show ¬(4:Int)≤0 by decide)
   ·obtain⟨r1,r2,r3⟩:=a.r r rn
    have rc:=g.cell r rn
    refine⟨gg,fun k hk0 hk1 hb=>?_,fun pr' o' e=>(by rw[xn]at e;cases e),pp⟩
    rw[eS,hc']at hk1
    rw[d.se,g1,po,D8r]
    by_cases q:(r.kind=1∧r.code=0)∧R.se.part=(j:Int)∧r.cell=k
    ·rw[Q3 q]
     have kk:pr.a.kind=1:=by rw[←r1];exact q.1.1
     have k4:4≤pr.pc:=by
      rcases r3 kk with w|w
      ·exact absurd q.1.2 w.2
      ·exact w.1
     have ck:pr.a.cell=k:=by rw[←rc];exact q.2.2
     rw[r2,←ck]
     rcases b.c with⟨_,hn⟩|⟨_,z,_,_,e,_⟩
     ·exact C.cur pr o hn kk k4
     ·rw[e]at k4;exact absurd k4 (show ¬(4:Int)≤0 by decide)
    ·rw[Q0 q]
     refine C.id k hk0 hk1 (nb k fun z=>q ⟨⟨by rw[r1];exact z.1,?_⟩,hp,by rw[rc];exact z.2.2⟩)
     rcases r3 z.1 with w|w
     ·omega
     ·exact w.2
 ·have D:=h.s j y hy
  have hjl:=ltP j y hy
  have lo:∀k,C0s P'.outs j k=C0s P.outs j k:=fun k=>by
   rcases outs with⟨_,e⟩|⟨r,_,e⟩
   ·rw[e]
   ·rw[e,D8r,Q0]
    intro q
    have:R.se.part=(j:Int):=q.2.1
    omega
  refine⟨fun k hk0 hk1=>?_,fun k hk0 hk1 hb=>?_,D.cur,fun k hk0 hk1=>?_⟩
  ·rw[eS,hc']at*
   have ci:=C9y hc hjl hk0 hk1
   have:(stx R.S (A0f P.S.c j k)).g=(stx P.S (A0f P.S.c j k)).g:=by
    by_cases k3:pr.a.kind=1∧pr.pc=3
    ·rw[(g.b k3.1 k3.2).2.2 _ ci.2.1,Q0]
     intro e
     have B:=Ip.b1 k3.1 (by omega)
     have own:=(A5h hc B.1).2
     rw[hpart]at e
     rw[←e,ci.2.2]at own
     omega
    ·exact(g.n k3).2.2 _ ci.2.1
   rw[this];exact D.g k hk0 hk1
  ·rw[eS,hc']at hk1
   rw[lo];exact D.id k hk0 hk1 hb
  ·rw[eS,hc']at hk1
   exact D.pos k hk0 hk1
end
end
section
def SI(c:Cf)(s:St):Prop:=(s.live=true→s.n<c.c5)∧(s.f=true→s.held=true)
structure W2(S S':WS)(rel new:Int→Prop):Prop where
 w:∀x,InC S.c x→(stx S x).held=true→¬rel x→S'.word x=S.word x∨((stx S x).f=false∧(stx S' x).f=true)
 h:∀x,InC S.c x→(stx S' x).held=true→((stx S x).held=true∧¬rel x)∨new x
 s:∀x,InC S.c x→SI S.c (stx S x)→SI S.c (stx S' x)
def Wd(S S':WS):Prop:=∀x,InC S.c x→S'.word x=S.word x
theorem Wd.w2{S S':WS}(h:Wd S S'){rel new:Int→Prop}(hr:∀x,rel x→new x):W2 S S' rel new:=by
 have e:∀x,InC S.c x→stx S' x=stx S x:=fun x hx=>by unfold stx;rw[h x hx]
 refine⟨fun x hx _ _=>.inl (h x hx),fun x hx a=>?_,fun x hx a=>by rw[e x hx];exact a⟩
 rw[e x hx]at a
 by_cases r:rel x
 ·exact .inr (hr x r)
 ·exact .inl ⟨a,r⟩
theorem Wd.refl(S:WS):Wd S S:=fun _ _=>rfl
theorem E7r{S:WS}(hc:S.c.ok)(x gen n:Int)(r:Rc):Wd S (S.note x gen n r):=by
 unfold WS.note
 cases rcW r with
 |none=>exact Wd.refl S
 |some v=>
  have hb:A7g S.c x gen n<0∨2*A0o S.c≤A7g S.c x gen n:=by
   unfold A7g
   split
   ·exact .inl (by decide)
   ·rename_i q
    have h1:0≤x*S.c.c6:=bE (by omega) (by have:=hc;unfold RU.Cf.ok at this;omega)
    have h2:0≤(x*S.c.c6+gen-1)*(S.c.c5+1):=bE (by omega) (by have:=hc;unfold RU.Cf.ok at this;omega)
    right;omega
  intro y hy
  obtain⟨h0,h1⟩:=hy
  unfold WS.word;dsimp only;rw[A7z (by omega)]
theorem D1g{S:WS}(hc:S.c.ok)(x gen n:Int)(o:Option Rc):Wd S (A4r S x gen n o):=by
 cases o with
 |none=>exact Wd.refl S
 |some r=>exact E7r hc x gen n r
theorem C9f{S:WS}{x:Int}(v:Nat)(S':WS)(hw:S'.words=stw S.words (2*x) v):∀y,y≠x→S'.word y=S.word y:=fun y hy=>by
 unfold WS.word;rw[hw,A7z (by omega)]
theorem C8y{S S':WS}{x:Int}{rel new:Int→Prop}(ho:∀y,y≠x→S'.word y=S.word y)(hr:∀y,y≠x→rel y→new y)
  (w:(stx S x).held=true→¬rel x→S'.word x=S.word x∨((stx S x).f=false∧(stx S' x).f=true))
  (h:(stx S' x).held=true→((stx S x).held=true∧¬rel x)∨new x) (s:SI S.c (stx S x)→SI S.c (stx S' x)):W2 S S' rel new:=by
 have e:∀y,y≠x→stx S' y=stx S y:=fun y hy=>by unfold stx;rw[ho y hy]
 refine⟨fun y hy a b=>?_,fun y hy a=>?_,fun y hy a=>?_⟩<;>by_cases q:y=x
 ·subst q;exact w a b
 ·exact .inl (ho y q)
 ·subst q;exact h a
 ·rw[e y q]at a
  by_cases r:rel y
  ·exact .inr (hr y q r)
  ·exact .inl ⟨a,r⟩
 ·subst q;exact s a
 ·rw[e y q];exact a
theorem SI.loose{c:Cf}{s:St}(h:SI c s)(hl:s.loose=true):s.f=false∧s.n<c.c5:=by
 refine⟨?_,h.1 (St.A8s hl)⟩
 cases e:s.f with
 |false=>rfl
 |true=>have:=h.2 e;rw[St.A5c hl]at this;cases this
theorem SI.dead{c:Cf}{s:St}(h1:s.live=false)(h2:s.f=false):SI c s:=⟨fun q=>(by rw[h1]at q;cases q),fun q=>(by rw[h2]at q;cases q)⟩
theorem H0r{c:Cf}{s:St}(h:s.f=false):SI c (s.ended c.c5):=by
 unfold St.ended
 split
 ·exact .dead rfl rfl
 ·split
  ·exact .dead rfl rfl
  ·exact⟨fun _=>by omega,fun q=>by rw[h]at q;cases q⟩
theorem F3o(c:Cf)(s:St):SI c (A6t s c.c5):=by
 unfold A6t
 split
 ·exact .dead rfl rfl
 ·rename_i q
  have q:(s.A7l.ended c.c5).f=false:=by simpa using q
  refine⟨fun hl=>?_,fun z=>by rw[q]at z;cases z⟩
  have:(s.A7l.ended c.c5).live=true:=hl
  unfold St.ended at this⊢
  split at this
  ·cases this
  rename_i c1
  split at this
  ·cases this
  rename_i c2
  rw[Q0 c1,Q0 c2];omega
theorem G3f{c:Cf}{s:St}{q:Int}(h:(A1z s q c.c5).1=0):SI c (A1z s q c.c5).2:=by
 unfold A1z at h⊢
 split at h
 ·exact absurd h (by decide)
 rename_i c1
 rw[Q0 c1]
 split at h
 ·exact absurd h (by decide)
 rename_i c2
 rw[Q0 c2]
 split at h
 ·rename_i c3
  rw[Q3 c3]
  split at h
  ·exact absurd h (by decide)
  ·rename_i c4
   rw[Q0 c4]
   exact F3o c _
 ·rename_i c3
  rw[Q0 c3]
  exact F3o c _
theorem H5g{c:Cf}{s:St}{q:Int}(h:(A7c s q c.c5).1=0)(hs:SI c s):SI c (A7c s q c.c5).2:=by
 have hl:=(C6j h).1
 unfold A7c at h⊢
 split at h
 ·exact absurd h (by decide)
 rename_i c1
 rw[Q0 c1]
 split at h
 ·exact absurd h (by decide)
 rename_i c2
 rw[Q0 c2]
 split at h
 ·exact absurd h (by decide)
 rename_i c3
 rw[Q0 c3]
 exact H0r (hs.loose hl).1
theorem F7n{c:Cf}(hc:c.ok){s:St}(hs:∃w,s=A0i w)(hh:s.held=true)(hi:SI c s){q:Int}(h0:0≤q)(h1:q≤s.l):(A1z s q c.c5).1=0∧∃v,stW (A1z s q c.c5).2=some v:=by
 have hn:=hi.1 (St.B4h hh)
 have hc5:=hc.2.2.2.2.2.1
 obtain⟨w,rfl⟩:=hs
 obtain⟨_,b2,b3,b4,b5⟩:=A9o w
 have fr:∀s:St,s.held=true→(0≤s.g∧s.g<256)→(0≤s.l∧s.l<65536)→(0≤s.n∧s.n<256)→∃v,stW (A6t s c.c5)=some v:=by
  intro s hs hg hl hn
  have k:=C9m s c.c5
  have kk:0≤(A6t s c.c5).k∧(A6t s c.c5).k≤8:=by
   rcases D2l hs c.c5 with⟨a,_⟩|⟨_,a⟩
   ·simp only[St.loose,bA,QB]at a;omega
   ·simp only[St.over,b7,Q9]at a;omega
  generalize A6t s c.c5=t at*
  unfold stW
  rw[Q0 (by omega)]
  refine C2x rfl fun i hi=>?_
  match i,hi with
  |0,_=>exact⟨kk.1,show t.k<16 by omega⟩
  |1,_=>exact⟨show 0≤fl t.f by unfold fl;split<;>decide,show fl t.f<2 by unfold fl;split<;>decide⟩
  |2,_=>exact⟨show 0≤t.g by omega,show t.g<256 by omega⟩
  |3,_=>exact⟨show 0≤t.l by omega,show t.l<65536 by omega⟩
  |4,_=>exact⟨show 0≤t.n by omega,show t.n<256 by omega⟩
 unfold A1z
 rw[Q0 (by rw[hh];decide),Q0 (by omega)]
 split
 ·rw[Q0 (by omega)]
  exact⟨rfl,fr {A0i w with l:=(A0i w).l-q,n:=(A0i w).n+1} hh b2 (by dsimp only;omega) (by dsimp only;omega)⟩
 ·exact⟨rfl,fr _ hh b2 b3 ⟨b4,b5⟩⟩
theorem F5e{S:WS}(w:WI S){x:Int}(hx:InC S.c x){s:St}{v:Nat}(hv:stW s=some v):(S.turn x (S.word x) s).1=true:=by
 unfold WS.turn
 rw[hv]
 dsimp only
 unfold swB WS.word
 have:=w.len
 obtain⟨h0,h1⟩:=hx
 rw[beq_self_eq_true,b6,Q9]
 omega
structure B3f(S:WS)(P:A0a):Prop where
 q:act S.c P→P.made=true→0≤P.q∧P.q≤(stx S P.a.x).l
 p9:act S.c P→P.pc≤9
 p7:act S.c P→P.pc=7→P.wx=S.word P.a.x∨(stx S P.a.x).f=true
 p8:act S.c P→P.pc=8∨P.pc=9→(stx S P.a.x).f=true
 pw:act S.c P→P.pc=9→P.wx=S.word P.a.x
theorem B3f.adv{S S':WS}{P:A0a}{own rel new:Int→Prop}(h:B3f S P)(J:A4o S P)(A:Adv S S' own rel)(B:W2 S S' rel new)(hr:act S.c P→¬rel P.a.x):B3f S' P:=by
 have key:act S'.c P→act S.c P∧(stx S' P.a.x).l=(stx S P.a.x).l∧(S'.word P.a.x=S.word P.a.x∨((stx S P.a.x).f=false∧(stx S' P.a.x).f=true)):=by
  intro a
  rw[A.c]at a
  have hx:=(A8w a.1).1
  have hh:=((J.2 a.1).act a.2.1 a.2.2).1
  exact⟨a,(A.held _ hx hh (hr a)).2.2.1,B.w _ hx hh (hr a)⟩
 refine⟨fun a m=>?_,fun a=>h.p9 (key a).1,fun a b=>?_,fun a b=>?_,fun a b=>?_⟩<;>obtain⟨k1,k2,k3⟩:=key a
 ·rw[k2];exact h.q k1 m
 ·rcases k3 with e|e
  ·rcases h.p7 k1 b with z|z
   ·exact .inl (by rw[e];exact z)
   ·exact .inr (by unfold stx at z⊢;rw[e];exact z)
  ·exact .inr e.2
 ·rcases k3 with e|e
  ·unfold stx;rw[e];exact h.p8 k1 b
  ·exact e.2
 ·rcases k3 with e|e
  ·rw[e];exact h.pw k1 b
  ·have:=h.p8 k1 (.inr b);rw[this]at e;exact absurd e.1 (by decide)
structure C0m(S:WS)(P:A0a)(R:A0a × WS):Prop where
 w:W2 S R.2 (fun y=>act S.c P∧y=P.a.x) (fun y=>act S.c R.1∧y=P.a.x)
 i:B3f R.2 R.1
theorem E3s{S:WS}{P:A0a}{R:A0a × WS}(h:¬act S.c P)(hr:¬act S.c R.1)(hw:Wd S R.2)(hcc:R.2.c=S.c):C0m S P R:=by
 have no:¬act R.2.c R.1:=by rw[hcc];exact hr
 exact⟨hw.w2 fun x a=>(h a.1).elim,⟨fun a=>(no a).elim,fun a=>(no a).elim,fun a=>(no a).elim,fun a=>(no a).elim,fun a=>(no a).elim⟩⟩
section
variable{S:WS}{P:A0a}(hc:S.c.ok)(w:WI S)(si:∀x,InC S.c x→SI S.c (stx S x))(I:D9k S P)(J:B3f S P)(hi:B0s S.c P=false)(h0:0≤P.pc)
include hc w si I J hi h0
theorem B9k(h3:P.pc≤5)(q p:Int)(wx wy:Nat)(tx ty:Tm):C0m S P (next P ({P with q:=q,p:=p,wx:=wx,wy:=wy,tx:=tx,ty:=ty},S)):=by
 refine⟨(Wd.refl S).w2 fun x h=>⟨h.1,h.2⟩,⟨fun a m=>?_,fun a=>?_,fun a b=>?_,fun a b=>?_,fun a b=>?_⟩⟩
 ·have m:P.made=true:=m
  rw[I.made h3]at m;cases m
 ·show P.pc+1≤9;omega
 ·have b:P.pc+1=7:=b
  omega
 ·have b:P.pc+1=8∨P.pc+1=9:=b
  omega
 ·have b:P.pc+1=9:=b
  omega
theorem H5z(h:P.pc=2):C0m S P (next P (B8x P S)):=by
 have hh:=I.held (by omega)
 obtain⟨hx,hy,hn⟩:=A8w hi
 unfold B8x
 split
 ·rename_i hw
  have hl:=C7j hw
  cases ht:(S.turn P.a.x P.wx (A0i P.wx).hold).1 with
  |false=>
   rw[D6r ht]
   have e:({P with held:=false}:A0a)=P:=by rw[←hh]
   rw[e]
   exact B9k hc w si I J hi h0 (by omega) _ _ _ _ _ _
  |true=>
   obtain⟨v,h1,h2,h3⟩:=A5m ht
   rw[h3]
   have hs:stx S P.a.x=A0i P.wx:=by unfold stx;rw[h2]
   obtain⟨k1,k2,k3,k4⟩:=D6k hl
   have es:=A9b w hx (A7m h1) {S with words:=stw S.words (2*P.a.x) v} rfl
   have hnf:(A0i P.wx).hold.f=(A0i P.wx).f∧(A0i P.wx).hold.n=(A0i P.wx).n:=by
    unfold St.hold;split
    ·exact⟨rfl,rfl⟩
    ·split<;>exact⟨rfl,rfl⟩
   refine⟨C8y (x:=P.a.x) (C9f v _ rfl) (fun y _ r=>?_) (fun q=>?_) (fun _=>.inr ⟨⟨hi,rfl,I.free (by omega)⟩,rfl⟩) (fun q=>?_),⟨fun a m=>?_,fun a=>?_,fun a b=>?_,fun a b=>?_,fun a b=>?_⟩⟩
   ·have:=r.1.2.1;rw[hh]at this;cases this
   ·rw[hs,St.A5c hl]at q;cases q
   ·rw[hs]at q
    show SI S.c (stx ({S with words:=stw S.words (2*P.a.x) v}:WS) P.a.x)
    rw[es]
    exact⟨fun _=>by rw[hnf.2];exact(q.loose hl).2,fun z=>by rw[hnf.1,(q.loose hl).1]at z;cases z⟩
   ·have m:P.made=true:=m
    rw[I.made (by omega)]at m;cases m
   ·show P.pc+1≤9;omega
   ·have b:P.pc+1=7:=b
    omega
   ·have b:P.pc+1=8∨P.pc+1=9:=b
    omega
   ·have b:P.pc+1=9:=b
    omega
 ·exact B9k hc w si I J hi h0 (by omega) _ _ _ _ _ _
theorem H4l(h:P.pc=5):C0m S P (next P (B6h P S)):=by
 obtain⟨hx,hy,hn⟩:=A8w hi
 have nothing:∀q p,C0m S P (next P ({P with q:=q,p:=p},S)):=fun q p=>B9k hc w si I J hi h0 (by omega) q p _ _ _ _
 unfold B6h
 split
 ·exact nothing P.q P.p
 rename_i hb
 have hh:P.held=true:=by cases e:P.held with
  |true=>rfl
  |false=>exact absurd (.inl e) hb
 have hf:=I.free (by omega)
 obtain⟨a1,a2,a3,a4⟩:=I.act hh hf
 have ac:act S.c P:=⟨hi,hh,hf⟩
 unfold B7z
 dsimp only
 split
 ·exact nothing _ _
 rename_i ht
 have ht:(A7c (A0i P.wy) (A2h P).1 S.c.c5).1=0:=by simpa using ht
 cases hu:(S.turn P.a.y P.wy (A7c (A0i P.wy) (A2h P).1 S.c.c5).2).1 with
 |false=>exact nothing _ _
 |true=>
  obtain⟨v,h1,h2,h3⟩:=A5m hu
  obtain⟨k1,k2,k3,k4,k5,k6⟩:=C6j ht
  rw[Q0 (by decide),h3]
  have hs:stx S P.a.y=A0i P.wy:=by unfold stx;rw[h2]
  have hxy:P.a.x≠P.a.y:=fun e=>by rw[e]at hn;exact hn rfl
  obtain⟨m1,m2,m3,m4,m5⟩:=E3p (a:=P.tx) (b:=P.ty) (l:=(A0i P.wx).l) (o:=(A0i P.wy).l) k2 {Ev.zero with A0m:=(A2h P).2} rfl
  have es:=A9b w hy (A7m h1) (({S with words:=stw S.words (2*P.a.y) v}:WS).tell {Ev.zero with kind:=2,cell:=P.a.x,gen:=(A0i P.wx).g,other:=P.a.y,wth:=(A0i P.wy).g,qty:=(A2h P).1,A0m:=(A2h P).2}) rfl
  have ho:=C9f (S:=S) (x:=P.a.y) v (({S with words:=stw S.words (2*P.a.y) v}:WS).tell {Ev.zero with kind:=2,cell:=P.a.x,gen:=(A0i P.wx).g,other:=P.a.y,wth:=(A0i P.wy).g,qty:=(A2h P).1,A0m:=(A2h P).2}) rfl
  have hcc:(({S with words:=stw S.words (2*P.a.y) v}:WS).tell {Ev.zero with kind:=2,cell:=P.a.x,gen:=(A0i P.wx).g,other:=P.a.y,wth:=(A0i P.wy).g,qty:=(A2h P).1,A0m:=(A2h P).2}).c=S.c:=rfl
  generalize (({S with words:=stw S.words (2*P.a.y) v}:WS).tell {Ev.zero with kind:=2,cell:=P.a.x,gen:=(A0i P.wx).g,other:=P.a.y,wth:=(A0i P.wy).g,qty:=(A2h P).1,A0m:=(A2h P).2})=S' at es ho hcc⊢
  have ex:stx S' P.a.x=stx S P.a.x:=by unfold stx;rw[ho _ hxy]
  refine⟨C8y ho (fun y _ r=>⟨r.1,r.2⟩) (fun q=>?_) (fun q=>?_) (fun q=>?_),⟨fun a m=>?_,fun a=>?_,fun a b=>?_,fun a b=>?_,fun a b=>?_⟩⟩
  ·rw[hs,St.A5c k1]at q;cases q
  ·have q:(stx S' P.a.y).held=true:=q
   rw[es]at q
   rcases k6 with z|z
   ·rw[St.A5c z]at q;cases q
   ·rw[(B9i z).2]at q;cases q
  ·show SI S.c (stx S' P.a.y)
   rw[es];rw[hs]at q;exact H5g ht q
  ·show 0≤(A2h P).1∧(A2h P).1≤(stx S' P.a.x).l
   rw[ex,a3];exact⟨by omega,m4⟩
  ·show P.pc+1≤9;omega
  ·have b:P.pc+1=7:=b
   omega
  ·have b:P.pc+1=8∨P.pc+1=9:=b
   omega
  ·have b:P.pc+1=9:=b
   omega
theorem H5v(h:P.pc=6∨P.pc=8):C0m S P (next P (B4z P S)):=by
 unfold B4z
 split
 ·rename_i ha
  have ac:act S.c P:=⟨hi,ha.1,ha.2⟩
  refine⟨(Wd.refl S).w2 fun x h=>⟨h.1,h.2⟩,⟨fun a m=>J.q ac m,fun a=>?_,fun a b=>.inl rfl,fun a b=>?_,fun a b=>rfl⟩⟩
  ·show P.pc+1≤9;omega
  ·have b:P.pc+1=8∨P.pc+1=9:=b
   exact J.p8 ac (by omega)
 ·rename_i ha
  exact E3s (fun a=>ha a.2) (fun a=>ha a.2) (Wd.refl S) rfl
theorem G6b(a:act S.c P):(P.wx≠S.word P.a.x∧B5j P S=(P,S))∨∃t v S',B5j P S=({P with free:=true,nx:=t,fin:=S.now},S')∧S'.c=S.c∧A0i v=t∧S'.words=stw S.words (2*P.a.x) v∧(t.loose=true∨t.live=false)∧SI S.c t:=by
 obtain⟨hx,hy,hn⟩:=A8w hi
 obtain⟨_,hh,hf⟩:=a
 obtain⟨a1,a2,a3,a4⟩:=I.act hh hf
 unfold B5j
 rw[Q0 (by rw[hh,hf];decide)]
 generalize hq:(if P.made then P.q else 0)=q
 have hb:0≤q∧q≤(stx S P.a.x).l:=by
  subst hq
  cases hm:P.made with
  |true=>exact J.q ⟨hi,hh,hf⟩ hm
  |false=>exact⟨bD _,(A9o _).2.2.1.1⟩
 unfold B9q
 have yes:P.wx=S.word P.a.x→(A1z (A0i P.wx) q S.c.c5).1=0∧(S.turn P.a.x P.wx (A1z (A0i P.wx) q S.c.c5).2).1=true:=by
  intro e
  have es:stx S P.a.x=A0i P.wx:=by unfold stx;rw[e]
  obtain⟨r1,v,r2⟩:=F7n hc ⟨_,es⟩ a1 (si _ hx) hb.1 hb.2
  rw[es]at r1 r2
  refine⟨r1,?_⟩
  have:=F5e w hx r2
  rw[←e]at this;exact this
 split
 ·rename_i c1
  exact .inl ⟨fun e=>c1 (yes e).1,rfl⟩
 split
 ·rename_i c1 c2
  exact .inl ⟨fun e=>(by rw[(yes e).2]at c2;cases c2),rfl⟩
 ·rename_i c1 c2
  have c1:(A1z (A0i P.wx) q S.c.c5).1=0:=by simpa using c1
  have c2:(S.turn P.a.x P.wx (A1z (A0i P.wx) q S.c.c5).2).1=true:=by simpa using c2
  obtain⟨v,h1,h2,h3⟩:=A5m c2
  have k:=(C4p c1).2.2.2.2.2
  rw[h3]
  refine .inr ⟨_,v,_,rfl,?_,A7m h1,?_,k.imp And.left And.left,G3f c1⟩
  ·split<;>rfl
  ·split<;>rfl
theorem H6z(h:P.pc=7∨P.pc=9):C0m S P (next P (B5j P S)):=by
 obtain⟨hx,hy,hn⟩:=A8w hi
 by_cases a:act S.c P
 ·rcases G6b hc w si I J hi h0 a with⟨k1,k2⟩|⟨t,v,S',k1,k2,k3,k4,k5,k6⟩
  ·rw[k2]
   rcases h with h|h
   ·have hf:=(J.p7 a h).resolve_left k1
    refine⟨(Wd.refl S).w2 fun x h=>⟨h.1,h.2⟩,⟨fun _ m=>J.q a m,fun _=>?_,fun _ b=>?_,fun _ _=>hf,fun _ b=>?_⟩⟩
    ·show P.pc+1≤9;omega
    ·have b:P.pc+1=7:=b
     omega
    ·have b:P.pc+1=9:=b
     omega
   ·exact absurd (J.pw a h) k1
  ·rw[k1]
   have no:∀c,¬act c (next P ({P with free:=true,nx:=t,fin:=S.now},S')).1:=fun c q=>by have:=q.2.2;cases this
   have es:=A9b w hx k3 S' k4
   have ho:=C9f v S' k4
   refine⟨C8y (x:=P.a.x) ho (fun y hy r=>(hy r.2).elim) (fun _ q=>(q ⟨a,rfl⟩).elim) (fun q=>?_) (fun _=>?_),⟨fun q=>(no _ q).elim,fun q=>(no _ q).elim,fun q=>(no _ q).elim,fun q=>(no _ q).elim,fun q=>(no _ q).elim⟩⟩
   ·have q:(stx S' P.a.x).held=true:=q
    rw[es]at q
    rcases k5 with z|z
    ·rw[St.A5c z]at q;cases q
    ·rw[(B9i z).2]at q;cases q
   ·show SI S.c (stx S' P.a.x)
    rw[es];exact k6
 ·have e:B5j P S=(P,S):=by
   unfold B5j
   rw[Q3]
   cases e1:P.held with
   |false=>exact .inl rfl
   |true=>
    cases e2:P.free with
    |true=>exact .inr rfl
    |false=>exact absurd ⟨hi,e1,e2⟩ a
  rw[e]
  exact E3s a a (Wd.refl S) rfl
theorem H3w(h:10≤P.pc):C0m S P (next P (P,A4k P S)):=by
 have hs:Wd S (A4k P S)∧(A4k P S).c=S.c:=by
  unfold A4k
  split
  ·exact⟨E7r hc _ _ _ _,(B4a hc _ _ _ _).c⟩
  split
  ·exact⟨E7r hc _ _ _ _,(B4a hc _ _ _ _).c⟩
  split
  ·exact⟨D1g hc _ _ _ _,(A6b hc _ _ _ _).c⟩
  split
  ·exact⟨D1g hc _ _ _ _,(A6b hc _ _ _ _).c⟩
  ·exact⟨Wd.refl S,rfl⟩
 have na:¬act S.c P:=fun a=>by have:=J.p9 a;omega
 exact E3s na na hs.1 hs.2
end
theorem C2v{S:WS}{P:A0a}(hc:S.c.ok)(w:WI S)(si:∀x,InC S.c x→SI S.c (stx S x))(I:A4o S P)(J:B3f S P):C0m S P (A1h P S):=by
 unfold A1h
 split
 ·exact⟨(Wd.refl S).w2 fun _ h=>h,J⟩
 rename_i hpc
 cases hi:B0s S.c P with
 |true=>
  rw[Q3 rfl]
  have na:∀Q:A0a,Q.a=P.a→¬act S.c Q:=fun Q e a=>by
   have:=a.1;unfold B0s at this hi;rw[e,hi]at this;cases this
  exact E3s (na P rfl) (na _ rfl) (Wd.refl S) rfl
 |false=>
  rw[Q0 (by decide)]
  have K:=I.2 hi
  show C0m S P (next P (A3f P S))
  unfold A3f
  split
  ·exact B9k hc w si K J hi I.1 (by omega) _ _ _ _ _ _
  split
  ·exact B9k hc w si K J hi I.1 (by omega) _ _ _ _ _ _
  split
  ·exact H5z hc w si K J hi I.1 (by assumption)
  split
  ·exact B9k hc w si K J hi I.1 (by omega) _ _ _ _ _ _
  split
  ·exact B9k hc w si K J hi I.1 (by omega) _ _ _ _ _ _
  split
  ·exact H4l hc w si K J hi I.1 (by assumption)
  split
  ·exact H5v hc w si K J hi I.1 (by assumption)
  split
  ·exact H6z hc w si K J hi I.1 (by assumption)
  ·exact H3w hc w si K J hi I.1 (by have:=I.1;omega)
theorem B3f.new(S:WS)(a:Aim):B3f S (A0a.new a):=
 ⟨fun q=>(B2z _ _ q).elim,fun q=>(B2z _ _ q).elim,fun q=>(B2z _ _ q).elim,fun q=>(B2z _ _ q).elim,fun q=>(B2z _ _ q).elim⟩
end
def No(_:Int):Prop:=False
theorem W2.mono{S S':WS}{rel rel' new new':Int→Prop}(B:W2 S S' rel new)(h1:∀y,rel y↔rel' y)(h2:∀y,new y→new' y):W2 S S' rel' new':=
 ⟨fun x hx a b=>B.w x hx a fun q=>b ((h1 x).1 q),fun x hx a=>(B.h x hx a).imp (fun q=>⟨q.1,fun r=>q.2 ((h1 x).2 r)⟩) (h2 x),B.s⟩
theorem B7g(S:WS):W2 S S No No:=(Wd.refl S).w2 fun _ h=>h
theorem E0c{S S':WS}{x:Int}{v:Nat}(w:WI S)(hx:InC S.c x)(hw:S'.words=stw S.words (2*x) v)(s0:(stx S x).loose=true)(h1:(A0i v).held=false)(h2:SI S.c (stx S x)→SI S.c (A0i v)):W2 S S' No No:=by
 have es:=A9b w hx rfl S' hw
 refine C8y (C9f v S' hw) (fun _ _ r=>r) (fun q=>?_) (fun q=>?_) (fun q=>?_)
 ·rw[St.A5c s0]at q;cases q
 ·rw[es,h1]at q;cases q
 ·rw[es];exact h2 q
theorem H0f{S:WS}{pr:PrS}{se:A0l}(hc:S.c.ok)(w:WI S)(I:A3j S se.part pr)(hk:pr.a.kind=1)(hp:0≤pr.pc∧pr.pc<4):
  W2 S (A1r (A0f S.c se.part pr.a.cell) pr se S).S No No:=by
 have h0:=B7g S
 generalize hx:A0f S.c se.part pr.a.cell=x
 unfold A1r
 split
 ·split<;>exact h0
 split
 ·split<;>exact h0
 split
 ·refine Wd.w2 (fun y hy=>?_) fun _ h=>h
  unfold WS.put WS.word;dsimp only;rw[A7z (by omega)]
 split
 ·rename_i _ _ _ hpc
  have b:=I.b1 hk (by omega)
  have d:=I.b2 hk (.inr hpc)
  obtain⟨hin,how⟩:=A5h hc b.1
  rw[hx]at d hin how
  have hc6:=hc.2.2.2.2.2.2
  have hg:0≤(stx S x).g:=(A9o _).2.1.1
  have hst:=d.2.1
  obtain⟨v,hv⟩:=E5p (g:=(stx S x).g+1) (q:=pr.a.qty) (by omega) (by omega)
  have e:=A7m hv
  rw[←hst]at hv
  dsimp only
  simp only[hv,bU]
  have es:=A9b w hin e ((S.put (2*x) v).tell {Ev.zero with kind:=1,cell:=x,gen:=pr.st.g,tm:=pr.a.tm,qty:=pr.a.qty}) rfl
  refine C8y (C9f v _ rfl) (fun _ _ r=>r) (fun q=>?_) (fun q=>?_) (fun q=>?_)
  ·rw[(B9i d.1).2]at q;cases q
  ·rw[es]at q;cases q
  ·rw[es];exact⟨fun _=>by have:=hc.2.2.2.2.2.1;show(0:Int)<S.c.c5;omega,fun z=>by cases z⟩
 ·exact h0
theorem H5b{S:WS}{pr:PrS}{part:Int}(hc:S.c.ok)(w:WI S)(I:A3j S part pr)(hk:pr.a.kind=1)(hp:4≤pr.pc)(hd:0≤pr.done):
  W2 S (A1e (A0f S.c part pr.a.cell) pr S).2.2 No No:=by
 have h0:=B7g S
 have b:=I.b1 hk (by omega)
 obtain⟨hin,how⟩:=A5h hc b.1
 generalize hx:A0f S.c part pr.a.cell=x at*
 unfold A1e
 split
 ·exact h0
 split
 ·exact h0
 split
 ·exact h0
 rename_i q1 q2
 split
 ·exact h0
 split
 ·exact h0
 rename_i q3 q4
 have q4:(A2z pr.st).1=0:=by simpa using q4
 obtain⟨p1,p2⟩:=D0t q4
 have p3:=I.b4 hk hp (by omega) (by omega)
 split
 ·rename_i ht
  obtain⟨v,h1,h2,h3⟩:=A5m ht
  rw[h3]
  have hs:stx S x=pr.st:=by unfold stx;rw[h2,p3]
  have hv:=A7m h1
  rw[p2]at hv
  have sl:(stx S x).loose=true:=by rw[hs];unfold St.loose;rw[p1];rfl
  refine E0c (v:=v) w hin rfl sl (by rw[hv];rfl) fun q=>?_
  rw[hv]
  have k:=q.loose sl
  rw[hs]at k
  exact⟨fun _=>k.2,fun z=>by have z:pr.st.f=true:=z;rw[k.1]at z;cases z⟩
 ·exact h0
theorem H1r{S:WS}{pr:PrS}{se:A0l}(w:WI S){x:Int}(hin:InC S.c x)(hd:0≤pr.done)(h:pr.done=0→pr.st=A0i pr.word):W2 S (A2d x pr se S).2 No No:=by
 have h0:=B7g S
 unfold A2d
 split
 ·exact h0
 split
 ·exact h0
 split
 ·exact h0
 split
 ·exact h0
 rename_i q1 q2 q3 q4
 have h:=h (by omega)
 have q4:(S.turn x pr.word (A1k pr.st).2).1=true:=by simpa using q4
 have q2:B3d pr se≠0∧pr.st.g=B3d pr se∧(A1k pr.st).1=0:=by omega
 have q3:pr.st.f=false:=by simpa using q3
 obtain⟨v,h1,h2,h3⟩:=A5m q4
 rw[h3]
 have hs:stx S x=pr.st:=by unfold stx;rw[h2,h]
 have hv:=A7m h1
 have key:∀S':WS,S'.words=stw S.words (2*x) v→W2 S S' No No:=by
  intro S' hw
  rcases C6t q2.2.2 with⟨c1,c2⟩|⟨c1,c2⟩
  ·rw[c2]at hv
   exact E0c (v:=v) w hin hw (by rw[hs];exact c1) (by rw[hv];rfl) fun _=>by rw[hv];exact .dead rfl q3
  ·rw[c2]at hv
   have es:=A9b w hin hv S' hw
   refine C8y (C9f v S' hw) (fun _ _ r=>r) (fun _ _=>.inr ⟨by rw[hs];exact q3,by rw[es]⟩) (fun _=>.inl ⟨by rw[hs];exact c1,not_false⟩) (fun q=>?_)
   rw[hs]at q
   rw[es];exact⟨fun z=>q.1 z,fun _=>c1⟩
 split
 ·exact key _ rfl
 ·exact key _ rfl
theorem G6y{S:WS}{pr:PrS}{se:A0l}(hc:S.c.ok)(w:WI S)(I:A3j S se.part pr)(hk:pr.a.kind=2)(hp:0≤pr.pc)(hd:0≤pr.done):
  W2 S (A0s (A0f S.c se.part pr.a.cell) pr se S).S No No:=by
 have h0:=B7g S
 unfold A0s
 split
 ·split<;>exact h0
 split
 ·exact h0
 split
 ·rename_i p0 p1 p2
  exact H1r w (A5h hc (I.k1 hk (by omega))).1 hd (I.k2 hk p2)
 split
 ·refine Wd.w2 ?_ fun _ h=>h
  show Wd S (if pr.done=1 then A4r S _ pr.st.g S.c.c5 (A5k pr.st pr.at_)else S)
  split
  ·exact D1g hc _ _ _ _
  ·exact Wd.refl S
 ·exact h0
theorem H3t{S:WS}{re:ReS}(hc:S.c.ok)(w:WI S)(h:B6l re S.c)(I:ReI S re):W2 S (B6i re S).2 No No:=by
 have hx:=G0m h
 have h0:=B7g S
 show W2 S (A6a re S).2 No No
 unfold A6a
 split
 ·exact h0
 split
 ·exact h0
 split
 ·rename_i p0 p1 q
  unfold A3h
  split
  ·exact h0
  rename_i e1
  split
  ·exact h0
  split
  ·exact h0
  split
  ·rename_i ht
   have e1:(A1y re.st).1=0:=by simpa using e1
   obtain⟨x1,x2⟩:=D4u e1
   obtain⟨v,h1,h2,h3⟩:=A5m ht
   rw[h3]
   have hs:stx S (re.pc/4)=re.st:=by unfold stx;rw[h2];exact((I.st (.inr q)).1).symm
   have hv:=A7m h1
   rw[x2]at hv
   refine E0c (v:=v) w hx rfl (by rw[hs];exact x1) (by rw[hv];rfl) fun k=>?_
   rw[hs]at k
   rw[hv];exact .dead rfl (k.loose x1).1
  ·exact h0
 ·refine Wd.w2 ?_ fun _ h=>h
  show Wd S (if re.done then A4r S (re.pc/4) re.st.g S.c.c5 (A5k re.st re.at_)else S)
  split
  ·exact D1g hc _ _ _ _
  ·exact Wd.refl S
theorem H2e(x:Int)(pr:PrS)(S:WS):(A1e x pr S).2.1.a=pr.a∧(A1e x pr S).2.1.pc=pr.pc:=by
 unfold A1e
 repeat' (first|exact⟨rfl,rfl⟩|split)
structure G2y(S:WS)(o:Option A0a)(R:StA):Prop where
 w:W2 S R.S (A8u S.c o) (fun y=>R.r=none∧A8u S.c R.o y)
 i:R.r=none→∀P,R.o=some P→B3f R.S P
 nu:R.r=none→R.pr.a.kind≠1∨R.pr.pc<4→R.o=none
theorem B9r{c:Cf}{P:A0a}(y:Int):(act c P∧y=P.a.x)↔A8u c (some P) y:=
 ⟨fun h=>⟨P,rfl,h.1,h.2⟩,fun⟨_,e,a,b⟩=>by cases e;exact⟨a,b⟩⟩
structure G0y(S:WS)(o:Option A0a)(T:Tr):Prop where
 w:W2 S T.S (A8u S.c o) (A8u S.c T.o)
 i:∀P,T.o=some P→B3f T.S P
 e:T.b=false→T.S=S∧∀P,T.o=some P→14≤P.pc
theorem G5m{S:WS}{pr:PrS}{o:Option A0a}{ss:A0k}{po:A0e}(hc:S.c.ok)(w:WI S)(si:∀x,InC S.c x→SI S.c (stx S x))(J:∀P,o=some P→A4o S P)(H:∀P,o=some P→B3f S P):
  G0y S o (A1v pr o ss po S):=by
 have hnew:A5y o=true→∀(n:Int) (a:Aim) (ss:A0k) (po:A0e),G0y S o (A2e n (some (A0a.new a)) ss po S):=by
  intro hd n a ss po
  have na:∀y,¬A8u S.c o y:=by
   rintro y ⟨P,e,b,_⟩
   rw[e]at hd
   have h1:=(H P e).p9 b
   have h2:decide (P.pc≥14)=true:=hd
   rw[Q9]at h2
   omega
  have k:=C2v hc w si (A4o.new S a) (B3f.new S a)
  unfold A2e
  dsimp only
  rw[Q0 (show ¬(A0a.new a).pc≥14 by show ¬(0:Int)≥14;decide)]
  have ka:=(B4j hc w (A4o.new S a)).a
  exact⟨k.w.mono (fun y=>⟨fun q=>(B2z _ _ q.1).elim,fun q=>(na y q).elim⟩) fun y q=>(B9r y).1 ⟨q.1,by rw[ka];exact q.2⟩,fun P e=>by cases e;exact k.i,fun q=>by cases q⟩
 have hsame:∀n:Int,(∀P,o=some P→14≤P.pc)→G0y S o ⟨false,n,o,ss,po,S⟩:=fun n h=>⟨(Wd.refl S).w2 fun _ q=>q,H,fun _=>⟨rfl,h⟩⟩
 unfold A1v
 split
 ·rename_i hd
  split
  ·exact hnew hd.1 _ _ _ _
  ·exact hnew hd.1 _ _ _ _
 ·unfold A2e
  cases o with
  |none=>exact hsame _ fun P e=>by cases e
  |some P=>
   dsimp only
   split
   ·rename_i hp;exact hsame _ fun Q e=>by cases e;exact hp
   ·have k:=C2v hc w si (J P rfl) (H P rfl)
    have ka:=(B4j hc w (J P rfl)).a
    exact⟨k.w.mono B9r fun y q=>(B9r y).1 ⟨q.1,by rw[ka];exact q.2⟩,fun Q e=>by cases e;exact k.i,fun q=>by cases q⟩
theorem G1v{S:WS}{pr:PrS}{o:Option A0a}{se:A0l}{ss:A0k}{po:A0e}(hc:S.c.ok)(w:WI S)(si:∀x,InC S.c x→SI S.c (stx S x))(I:A3j S se.part pr)(J:∀P,o=some P→A4o S P)(H:∀P,o=some P→B3f S P)(hp:0≤pr.pc)(hd:0≤pr.done)
  (nu:pr.a.kind≠1∨pr.pc<4→o=none):G2y S o (A2k pr o se ss po S):=by
 have no:o=none→∀y,¬A8u S.c o y:=by rintro rfl y ⟨P,e,_⟩;cases e
 have plain:∀R:StA,W2 S R.S No No→o=none→R.o=o→G2y S o R:=fun R h e e2=>
  ⟨h.mono (fun y=>⟨fun q=>q.elim,fun q=>no e y q⟩) fun _ q=>q.elim,fun _ P q=>(by rw[e2,e]at q;cases q),fun _ _=>by rw[e2,e]⟩
 unfold A2k
 split
 ·rename_i hk
  unfold A9a
  split
  ·rename_i hpc
   exact plain _ (H0f hc w I hk ⟨hp,hpc⟩) (nu (.inr hpc)) rfl
  ·rename_i hpc
   have k:=G5m (pr:=pr) (ss:=ss) (po:=po) hc w si J H
   have kj:=(E1i (pr:=pr) (ss:=ss) (po:=po) hc w J).1.i
   generalize A1v pr o ss po S=T at*
   unfold B1d
   split
   ·exact⟨k.w.mono (fun _=>Iff.rfl) fun y q=>⟨rfl,q⟩,fun _=>k.i,fun _ q=>by rcases q with q|q;exact absurd hk q;exact absurd q hpc⟩
   ·rename_i hb
    have hb:T.b=false:=by simpa using hb
    obtain⟨eS,ep⟩:=k.e hb
    have ki:=k.i
    have kw:=k.w
    rw[eS]at ki kj kw⊢
    have r:=H5b (pr:={pr with n:=T.n}) hc w (I.n T.n) hk (by show 4≤pr.pc;omega) hd
    have ra:=(F5l (pr:={pr with n:=T.n}) hc w (I.n T.n) hk (by show 4≤pr.pc;omega) hd).1.2
    have rp:=H2e (A0f S.c se.part pr.a.cell) {pr with n:=T.n} S
    have na:∀P,T.o=some P→¬act S.c P:=fun P e a=>by have:=(ki P e).p9 a;have:=ep P e;omega
    have no':∀y,¬A8u S.c o y:=by
     rintro y q
     by_cases hx:InC S.c y
     ·obtain⟨P,e1,a1,e2⟩:=q
      have hh:=((J P e1).2 a1.1).act a1.2.1 a1.2.2
      rw[←e2]at hh
      rcases kw.h y hx hh.1 with z|⟨P',z1,z2,_⟩
      ·exact z.2 ⟨P,e1,a1,e2⟩
      ·exact na P' z1 z2
     ·obtain⟨P,e1,a1,e2⟩:=q
      exact hx (by rw[e2];exact(A8w a1.1).1)
    have f:∀R:StA,R.S=(A1e (A0f S.c se.part pr.a.cell) {pr with n:=T.n} S).2.2→R.pr=(A1e (A0f S.c se.part pr.a.cell) {pr with n:=T.n} S).2.1→R.o=T.o→G2y S o R:=by
     intro R e1 e2 e3
     refine⟨?_,fun _ P e=>?_,fun _ q=>?_⟩
     ·rw[e1];exact r.mono (fun y=>⟨fun q=>q.elim,fun q=>no' y q⟩) fun _ q=>q.elim
     ·rw[e3]at e;rw[e1]
      exact(ki P e).adv (kj P e) ra r fun _ q=>q
     ·rw[e2]at q
      rcases q with q|q
      ·rw[rp.1]at q;exact absurd hk q
      ·rw[rp.2]at q;exact absurd q hpc
    split
    ·exact f _ rfl rfl rfl
    ·exact f _ rfl rfl rfl
 rename_i k1
 have on:=nu (.inl k1)
 split
 ·rename_i hk
  exact plain _ (G6y hc w I hk hp hd) on rfl
 split
 ·refine plain _ ?_ on rfl
  have e:(A1t (A0f S.c se.part pr.a.cell) pr se S).S=S:=by
   unfold A1t
   repeat' (first|rfl|split)
  show W2 S (A1t _ pr se S).S No No
  rw[e];exact B7g S
 split
 ·refine plain _ ?_ on rfl
  have e:(A1q pr se S).S=S:=by
   unfold A1q
   repeat' (first|rfl|split)
  show W2 S (A1q pr se S).S No No
  rw[e];exact B7g S
 ·exact plain _ (B7g S) on rfl
structure PH(P:A0h):Prop where
 si:∀x,InC P.S.c x→SI P.S.c (stx P.S x)
 tri:∀n p,tr P n=some p→B3f P.S p
 hold:∀x,InC P.S.c x→(stx P.S x).held=true→∃n,A8u P.S.c (tr P n) x
 nu:∀(i:Nat) x pr o,P.A0c[i]?=some x→x.now=some (pr,o)→pr.a.kind≠1∨pr.pc<4→o=none
theorem PH.step{P P':A0h}(I:PI P)(H:PH P)(n0:Nat){own:Int→Prop}(A:Adv P.S P'.S own (A8u P.S.c (tr P n0)))(B:W2 P.S P'.S (A8u P.S.c (tr P n0)) (A8u P.S.c (tr P' n0)))
  (ht:∀n,n≠n0→tr P' n=tr P n) (hi:∀p,tr P' n0=some p→B3f P'.S p) (nu:∀(i:Nat) x pr o,P'.A0c[i]?=some x→x.now=some (pr,o)→pr.a.kind≠1∨pr.pc<4→o=none):PH P':=by
 refine⟨fun x hx=>?_,fun n p hp=>?_,fun x hx hh=>?_,nu⟩
 ·rw[A.c]at hx⊢;exact B.s x hx (H.si x hx)
 ·by_cases h:n=n0
  ·subst h;exact hi p hp
  ·rw[ht n h]at hp
   exact(H.tri n p hp).adv (I.tri n p hp) A B fun a ⟨p0,k1,k2,k3⟩=>I.ex n n0 p p0 h hp k1 a k2 k3
 ·rw[A.c]at hx⊢
  rcases B.h x hx hh with⟨a,b⟩|a
  ·obtain⟨n,k⟩:=H.hold x hx a
   refine⟨n,?_⟩
   by_cases h:n=n0
   ·subst h;exact absurd k b
   ·rw[ht n h];exact k
  ·exact⟨n0,a⟩
theorem G4i{P:A0h}{n:Nat}(ok:A2q P n)(I:PI P)(H:PH P)(i:Nat)(x:A0w)(hx:P.A0c[i]?=some x):PH (A3u P i x).2:=by
 have hc:=ok.S.c
 have htr:tr P (2*i)=x.now.bind (·.2):=by
  unfold tr
  rw[Q3 (by omega),show 2*i/2=i by omega,hx];rfl
 unfold A3u
 have key:∀(x1:A0w) (pr:PrS) (o:Option A0a),x1.se=x.se→tr P (2*i)=o→A3j P.S i pr→0≤pr.pc→0≤pr.done→(pr.a.kind≠1∨pr.pc<4→o=none)→PH (A5u P i x1 pr o):=by
  intro x1 pr o e1 e2 Ip hp hd nu
  have hpart:x1.se.part=i:=by rw[e1];exact I.part i x hx
  have J:∀p,o=some p→A4o P.S p:=fun p hp=>I.tri (2*i) p (by rw[e2];exact hp)
  have k:=C0v (ss:=x1.nl) (po:=(P.use x1.ev).nl) (se:=x1.se) hc I.wi (by rw[hpart];exact Ip) J hp hd
  have q:=G1v (ss:=x1.nl) (po:=(P.use x1.ev).nl) (se:=x1.se) hc I.wi H.si (by rw[hpart];exact Ip) J (fun p hp=>H.tri (2*i) p (by rw[e2];exact hp)) hp hd nu
  unfold A5u
  generalize A2k pr o x1.se x1.nl (P.use x1.ev).nl P.S=R at*
  have main:∀(P':A0h) (x':A0w),P'.S=R.S→P'.A0c=P.A0c.set i x'→P'.sw=P.sw→((R.r≠none∧x'.now=none)∨(R.r=none∧x'.now=some (R.pr,R.o)))→PH P':=by
   intro P' x' f1 f2 f3 f6
   have hlt:i<P.A0c.length:=(aE.1 hx).1
   have tn:tr P' (2*i)=x'.now.bind (·.2):=by
    unfold tr
    rw[Q3 (by omega),show 2*i/2=i by omega,f2,aI,Q3 rfl,Q3 hlt];rfl
   refine PH.step I H (2*i) (by rw[f1,e2];exact k.adv) ?_ (fun m hm=>?_) (fun p hp=>?_) (fun j y pr' o' h hn=>?_)
   ·rw[f1,e2,tn]
    refine q.w.mono (fun _=>Iff.rfl) fun y a=>?_
    rcases f6 with⟨f6,f7⟩|⟨f6,f7⟩
    ·exact absurd a.1 f6
    ·rw[f7];exact a.2
   ·unfold tr
    rw[f3]
    split
    ·rw[f2,B4y _ _ (by omega)]
    ·rfl
   ·rw[tn]at hp;rw[f1]
    rcases f6 with⟨f6,f7⟩|⟨f6,f7⟩
    ·rw[f7]at hp;cases hp
    ·rw[f7]at hp;exact q.i f6 p hp
   ·rw[f2]at h
    rcases B4p h with⟨a,b⟩|⟨a,b⟩
    ·subst b
     rcases f6 with⟨f6,f7⟩|⟨f6,f7⟩
     ·rw[f7]at hn;cases hn
     ·rw[f7]at hn;cases hn;exact q.nu f6
    ·exact H.nu j y pr' o' b hn
  unfold B4q
  split
  ·rename_i hr;exact main _ _ rfl rfl rfl (.inr ⟨hr,rfl⟩)
  ·rename_i r hr;exact main _ _ rfl rfl rfl (.inl ⟨fun e=>(by rw[hr]at e;cases e),rfl⟩)
 unfold A0w.begun
 cases hn:x.now with
 |some v=>
  obtain⟨pr,o⟩:=v
  rw[hn]at htr
  have po:=(ok.A0c x (aH hx)).prog pr o hn
  exact key x pr o rfl htr (I.prog i x pr o hx hn) po.pc.1 po.done.1 (H.nu i x pr o hx hn)
 |none=>
  rw[hn]at htr
  cases x.queue with
  |nil=>exact H
  |cons q t=>exact key _ _ _ rfl htr (PrS.C0w _ _ _) (bD _) (bD _) fun _=>rfl
theorem G2p{P:A0h}{n:Nat}(ok:A2q P n)(I:PI P)(H:PH P)(j:Nat)(y:SwS × Option A0a)(hy:P.sw[j]?=some y):PH (A6z P j y):=by
 have hc:=ok.S.c
 have hlt:j<P.sw.length:=(aE.1 hy).1
 have htr:tr P (2*j+1)=y.2:=by
  unfold tr
  rw[Q0 (by omega),show(2*j+1)/2=j by omega,hy];rfl
 have k:B5k P.S y.2 (A1h (A3v y.1 P.S.c y.2) P.S).2 (some (A1h (A3v y.1 P.S.c y.2) P.S).1)∧
   W2 P.S (A1h (A3v y.1 P.S.c y.2) P.S).2 (A8u P.S.c y.2) (A8u P.S.c (some (A1h (A3v y.1 P.S.c y.2) P.S).1))∧B3f (A1h (A3v y.1 P.S.c y.2) P.S).2 (A1h (A3v y.1 P.S.c y.2) P.S).1:=by
  have nw:∀o a,(∀y,¬A8u P.S.c o y)→B5k P.S o (A1h (A0a.new a) P.S).2 (some (A1h (A0a.new a) P.S).1)∧W2 P.S (A1h (A0a.new a) P.S).2 (A8u P.S.c o) (A8u P.S.c (some (A1h (A0a.new a) P.S).1))∧B3f (A1h (A0a.new a) P.S).2 (A1h (A0a.new a) P.S).1:=by
   intro o a na
   have k:=C2v hc I.wi H.si (A4o.new P.S a) (B3f.new P.S a)
   have ka:=(B4j hc I.wi (A4o.new P.S a)).a
   exact⟨B5k.step hc I.wi (A4o.new _ _) fun q=>(B2z _ _ q).elim,k.w.mono (fun y=>⟨fun q=>(B2z _ _ q.1).elim,fun q=>(na y q).elim⟩) (fun y q=>(B9r y).1 ⟨q.1,by rw[ka];exact q.2⟩),k.i⟩
  unfold A3v
  cases h:y.2 with
  |none=>exact nw _ _ fun y ⟨P,e,_⟩=>by cases e
  |some p=>
   have Jp:=I.tri _ p (by rw[htr];exact h)
   have Hp:=H.tri _ p (by rw[htr];exact h)
   dsimp only
   split
   ·rename_i hp
    refine nw _ _ fun y ⟨P',e,a,_⟩=>?_
    cases e
    have:=Hp.p9 a;omega
   ·have k:=C2v hc I.wi H.si Jp Hp
    have ka:=(B4j hc I.wi Jp).a
    exact⟨B5k.step hc I.wi Jp fun q=>⟨p,rfl,q,rfl⟩,k.w.mono B9r fun y q=>(B9r y).1 ⟨q.1,by rw[ka];exact q.2⟩,k.i⟩
 have tn:tr (A6z P j y) (2*j+1)=some (A1h (A3v y.1 P.S.c y.2) P.S).1:=by
  unfold tr
  rw[Q0 (by omega),show(2*j+1)/2=j by omega]
  show((P.sw.set j _)[j]?).bind _=_
  rw[aI,Q3 rfl,Q3 hlt];rfl
 refine PH.step I H (2*j+1) (by rw[htr];exact k.1.adv) (by rw[htr,tn];exact k.2.1) (fun m hm=>?_) (fun p hp=>?_) (fun i x pr o h hn=>H.nu i x pr o h hn)
 ·unfold tr
  split
  ·rfl
  ·show((P.sw.set j _)[m/2]?).bind _=_
   rw[B4y _ _ (by omega)]
 ·rw[tn]at hp;cases hp;exact k.2.2
theorem PH.none{P P':A0h}(I:PI P)(H:PH P)(A:Adv P.S P'.S No No)(B:W2 P.S P'.S No No)(ht:∀n,tr P' n=tr P n)(nu:∀(i:Nat) x pr o,P'.A0c[i]?=some x→x.now=some (pr,o)→pr.a.kind≠1∨pr.pc<4→o=none):PH P':=by
 refine⟨fun x hx=>?_,fun n p hp=>?_,fun x hx hh=>?_,nu⟩
 ·rw[A.c]at hx⊢;exact B.s x hx (H.si x hx)
 ·rw[ht]at hp
  exact(H.tri n p hp).adv (I.tri n p hp) A B fun _ q=>q
 ·rw[A.c]at hx⊢
  rcases B.h x hx hh with⟨a,b⟩|a
  ·obtain⟨n,k⟩:=H.hold x hx a
   exact⟨n,by rw[ht];exact k⟩
  ·exact a.elim
theorem G0r{P:A0h}{n:Nat}(ok:A2q P n)(I:PI P)(H:PH P)(j:Nat)(y:ReS)(hy:P.re[j]?=some y):PH (B0t P j y):=by
 have hc:=ok.S.c
 have ro:=ok.re y (aH hy)
 exact PH.none I H ((D0o hc I.wi ro (I.re j y hy)).2.1 _ _) (H3t hc I.wi ro (I.re j y hy)) (fun _=>rfl) H.nu
theorem G4s{P:A0h}{n:Nat}(ok:A2q P n)(I:PI P)(H:PH P)(ag:Int):PH (A2w P ag).2:=by
 unfold A2w
 split
 ·exact H
 split
 ·split
  ·rename_i h;exact G4i ok I H _ _ h
  ·exact H
 split
 ·split
  ·rename_i h;exact G2p ok I H _ _ h
  ·exact H
 ·split
  ·rename_i h;exact G0r ok I H _ _ h
  ·exact H
theorem PH.same{P P':A0h}(I:PI P)(H:PH P)(hS:A1s P.S P'.S)(hW:Wd P.S P'.S)(hs:∀i:Nat,(P'.A0c[i]?).map (fun x=>x.now)=(P.A0c[i]?).map (fun x=>x.now))(hw:P'.sw=P.sw):PH P':=by
 have key:∀(i:Nat) x,P'.A0c[i]?=some x→∃y,P.A0c[i]?=some y∧y.now=x.now:=by
  intro i x h
  have:=hs i
  rw[h]at this
  cases h':P.A0c[i]? with
  |none=>rw[h']at this;cases this
  |some y=>rw[h']at this;simp only[bV,Option.some.injEq]at this;exact⟨y,rfl,this.symm⟩
 have ht:∀n,tr P' n=tr P n:=by
  intro n
  unfold tr
  rw[hw]
  split
  ·have:=hs (n/2)
   cases h:P'.A0c[n/2]? with
   |none=>
    rw[h]at this
    cases h':P.A0c[n/2]? with
    |none=>rfl
    |some y=>rw[h']at this;cases this
   |some x=>
    obtain⟨y,k1,k3⟩:=key _ x h
    rw[k1]
    show x.now.bind _=y.now.bind _
    rw[k3]
  ·rfl
 refine PH.none I H (hS.adv _ _) (hW.w2 fun _ h=>h) ht fun i x pr o h hn=>?_
 obtain⟨y,k1,k3⟩:=key i x h
 exact H.nu i y pr o k1 (by rw[k3];exact hn)
theorem E7m{P:A0h}{n:Nat}(at_:A2i P n)(hn:n≤100000000)(I:PI P)(H:PH P)(e:PEv):PH (doP P e).2:=by
 have ok:=at_.ok
 have sm:∀P':A0h,A1s P.S P'.S→Wd P.S P'.S→(∀i:Nat,(P'.A0c[i]?).map (fun x=>x.now)=(P.A0c[i]?).map (fun x=>x.now))→P'.sw=P.sw→PH P':=fun P' a b c d=>PH.same I H a b c d
 have hg:PH P.got:=sm _ (A1s.refl _) (Wd.refl _) (fun _=>rfl) rfl
 have ig:PI P.got:=I.same ok.S.c ok.re (A1s.refl _) (fun _=>rfl) rfl rfl
 have no:PH P.got.on:=sm _ (A1s.refl _) (Wd.refl _) (fun _=>rfl) rfl
 have st:∀(P':A0h) (i:Nat) (x x':A0w),P.A0c[i]?=some x→P'.A0c=P.A0c.set i x'→x'.now=x.now→P'.S=P.S→P'.sw=P.sw→PH P':=by
  intro P' i x x' h1 h2 h4 h5 h6
  refine sm P' (by rw[h5];exact A1s.refl _) (by rw[h5];exact Wd.refl _) (fun j=>?_) h6
  rw[h2]
  by_cases hj:j=i
  ·subst hj
   rw[aI,Q3 rfl,Q3 (aE.1 h1).1,h1]
   simp only[bV,h4]
  ·rw[B4y _ _ hj]
 unfold doP
 split
 ·exact sm _ ⟨rfl,fun _ _=>rfl,fun _ _=>rfl,rfl,rfl⟩ (fun _ _=>rfl) (fun _=>rfl) rfl
 split
 ·have k:=G4s (B1i ok) ig hg e.who
  have ki:=F5n (B1i ok) ig e.who
  exact PH.same ki k (A1s.refl _) (Wd.refl _) (fun _=>rfl) rfl
 split
 ·split
  ·split
   ·rename_i h;exact st _ _ _ _ h rfl rfl rfl rfl
   ·exact no
  split
  ·split
   ·rename_i h;exact st _ _ _ _ h rfl rfl rfl rfl
   ·exact no
  ·exact no
 ·exact no
theorem G9k(es:List PEv):∀{P:A0h} {n:Nat},A2i P n→PI P→PH P→n+es.length≤100000→(∀e ∈ es,e.wf)→PH (B8o P es):=by
 induction es with
 |nil=>intro P n _ _ H _ _;exact H
 |cons e es ih=>
  intro P n at_ I H hn hw
  simp only[aB]at hn
  exact ih (C2k at_ (by omega) e (hw e (aO ..))) (D4b at_ (by omega) I e) (E7m at_ (by omega) I H e) (by omega) (fun e' he=>hw e' (aN _ he))
theorem G9f(c:Cf)(hc:c.ok):PH (A1x c):=by
 have hst:∀x,stx (B0l c) x=St.zero:=fun x=>by unfold stx WS.word B0l;dsimp only;rw[D7z];rfl
 have hs:∀(i:Nat) x,(A1x c).A0c[i]?=some x→x=A3s c i:=fun i x h=>B9w (f:=fun(i:Nat)=>A3s c i) h
 have hw:∀(i:Nat) x,(A1x c).sw[i]?=some x→x=B3k i:=fun i x h=>B9w (f:=fun(i:Nat)=>B3k i) h
 have ht:∀n p,tr (A1x c) n=some p→False:=by
  intro n p h
  unfold tr at h
  split at h
  ·cases e:(A1x c).A0c[n/2]? with
   |none=>rw[e]at h;cases h
   |some x=>rw[e,hs _ _ e]at h;cases h
  ·cases e:(A1x c).sw[n/2]? with
   |none=>rw[e]at h;cases h
   |some x=>rw[e,hw _ _ e]at h;cases h
 refine⟨fun x _=>?_,fun n p h=>(ht n p h).elim,fun x _ h=>?_,fun i x pr o h hn=>?_⟩
 ·rw[show(A1x c).S=B0l c from rfl,hst];exact .dead rfl rfl
 ·rw[show(A1x c).S=B0l c from rfl,hst]at h;cases h
 ·rw[hs i x h]at hn;cases hn
def E2i(x:A0w):Bool:=x.now.isNone&&x.queue.isEmpty
def A4v(P:A0h)(a:Nat):Bool:=
 if a<P.A0c.length then((P.A0c[a]?).map E2i).getD true
 else if a-P.A0c.length<P.sw.length then((P.sw[a-P.A0c.length]?).map fun y=>y.1.at_ == 0&&A5y y.2).getD true
 else((P.re[a-P.A0c.length-P.sw.length]?).map fun y=>y.pc == 0).getD true
def A5d(P:A0h):Nat:=P.A0c.length+P.sw.length+P.re.length
def E3r:Option A0a→Nat
 |some p=>(14-p.pc).toNat
 |none=>0
def muA(pr:PrS)(o:Option A0a):Nat:=
 if pr.a.kind=1 then(if pr.pc<4 then 1430+(4-pr.pc).toNat else 1+(10-pr.tries).toNat+14*((pr.A3x.length:Int)-pr.n).toNat+E3r o)else(12-pr.pc).toNat+1
def muS(x:A0w):Nat:=1500*x.queue.length+(match x.now with|some (pr,o)=>muA pr o|none=>0)
def opc:Option A0a→Int
 |some p=>if p.pc≥14 then 0 else p.pc
 |none=>0
def muW(c:Cf)(y:SwS × Option A0a):Nat:=if(y.1.at_ == 0&&A5y y.2)=true then 0 else(15*(A0o c*A0o c-y.1.at_)-opc y.2).toNat
def muR(c:Cf)(y:ReS):Nat:=if y.pc=0 then 0 else(4*A0o c-y.pc).toNat
def mu(P:A0h)(a:Nat):Nat:=
 if a<P.A0c.length then((P.A0c[a]?).map muS).getD 0
 else if a-P.A0c.length<P.sw.length then((P.sw[a-P.A0c.length]?).map (muW P.S.c)).getD 0
 else((P.re[a-P.A0c.length-P.sw.length]?).map (muR P.S.c)).getD 0
theorem H3v(pr:PrS)(o:Option A0a):1≤muA pr o:=by
 unfold muA
 split
 ·split<;>omega
 ·omega
theorem E0e{P:A0a}{S:WS}(h:P.pc<14):(A1h P S).1.pc=P.pc+1:=by
 unfold A1h
 rw[Q0 (by omega)]
 split<;>rfl
def MuT(pr:PrS)(o:Option A0a)(S:WS)(T:Tr):Prop:=
 (T.b=true→14*((pr.A3x.length:Int)-T.n).toNat+E3r T.o<14*((pr.A3x.length:Int)-pr.n).toNat+E3r o)∧(T.b=false→T.n=pr.n∧T.o=o∧T.S=S)
theorem H6i(pr:PrS)(o:Option A0a)(ss:A0k)(po:A0e)(S:WS):MuT pr o S (A1v pr o ss po S):=by
 have nw:∀(a:Aim) (ss:A0k) (po:A0e),pr.n<pr.A3x.length→MuT pr o S (A2e (pr.n+1) (some (A0a.new a)) ss po S):=by
  intro a ss po hn
  unfold A2e
  dsimp only
  rw[Q0 (show ¬(A0a.new a).pc≥14 by show ¬(0:Int)≥14;decide)]
  refine⟨fun _=>?_,fun q=>by cases q⟩
  have e:(A1h (A0a.new a) S).1.pc=1:=E0e (show(0:Int)<14 by decide)
  show 14*((pr.A3x.length:Int)-(pr.n+1)).toNat+(14-(A1h (A0a.new a) S).1.pc).toNat<_
  rw[e];omega
 unfold A1v
 split
 ·rename_i h
  split
  ·exact nw _ _ _ h.2
  ·exact nw _ _ _ h.2
 ·unfold A2e
  cases o with
  |none=>exact⟨fun q=>(by cases q),fun _=>⟨rfl,rfl,rfl⟩⟩
  |some p=>
   dsimp only
   split
   ·exact⟨fun q=>(by cases q),fun _=>⟨rfl,rfl,rfl⟩⟩
   ·rename_i hp
    refine⟨fun _=>?_,fun q=>by cases q⟩
    have e:=E0e (S:=S) (show p.pc<14 by omega)
    show 14*((pr.A3x.length:Int)-pr.n).toNat+(14-(A1h p S).1.pc).toNat<14*((pr.A3x.length:Int)-pr.n).toNat+(14-p.pc).toNat
    rw[e];omega
theorem G9o(x:Int)(pr:PrS)(S:WS)(h:(A1e x pr S).1=true)(hc:S.c.ok):(A1e x pr S).2.1.a=pr.a∧(A1e x pr S).2.1.pc=pr.pc∧(A1e x pr S).2.1.A3x=pr.A3x∧(A1e x pr S).2.1.n=pr.n∧(10-(A1e x pr S).2.1.tries).toNat<(10-pr.tries).toNat:=by
 have hc5:=hc.2.2.2.2.2.1
 unfold A1e at h⊢
 split at h
 ·cases h
 rename_i h1
 rw[Q0 h1]
 have e:(10-(pr.tries+1)).toNat<(10-pr.tries).toNat:=by omega
 repeat' (first|exact⟨rfl,rfl,rfl,rfl,e⟩|split)
theorem H4i(x:Int)(pr:PrS)(se:A0l)(S:WS):(A2d x pr se S).1.a=pr.a:=by
 unfold A2d
 repeat' (first|rfl|split)
theorem G8u{S:WS}{pr:PrS}{o:Option A0a}{se:A0l}{ss:A0k}{po:A0e}(hc:S.c.ok)(hp:0≤pr.pc)(hn:0≤pr.n)(ht:0≤pr.tries)(nu:pr.a.kind≠1∨pr.pc<4→o=none)
  (hr:(A2k pr o se ss po S).r=none):muA (A2k pr o se ss po S).pr (A2k pr o se ss po S).o<muA pr o:=by
 unfold A2k at hr⊢
 split at hr
 ·rename_i hk
  rw[Q3 hk]
  unfold A9a at hr⊢
  split at hr
  ·rename_i hpc
   rw[Q3 hpc]
   have on:=nu (.inr hpc)
   subst on
   have e0:muA pr none=1430+(4-pr.pc).toNat:=by unfold muA;rw[Q3 hk,Q3 hpc]
   rw[e0]
   have hr:(A1r (A0f S.c se.part pr.a.cell) pr se S).r=none:=hr
   show muA (A1r (A0f S.c se.part pr.a.cell) pr se S).pr none<_
   have lt3:∀p:PrS,p.a=pr.a→p.pc=pr.pc+1→pr.pc<3→muA p none<1430+(4-pr.pc).toNat:=by
    intro p e1 e2 e3
    unfold muA
    rw[e1,Q3 hk,e2,Q3 (by omega)];omega
   unfold A1r at hr⊢
   split at hr
   ·rename_i h0
    rw[Q3 h0]
    split at hr
    ·cases hr
    ·rename_i h1
     rw[Q0 h1]
     exact lt3 _ rfl rfl (by omega)
   rename_i n0
   rw[Q0 n0]
   split at hr
   ·rename_i h0
    rw[Q3 h0]
    split at hr
    ·cases hr
    ·rename_i h1
     rw[Q0 h1]
     exact lt3 _ rfl rfl (by omega)
   rename_i n1
   rw[Q0 n1]
   split at hr
   ·rename_i h0
    rw[Q3 h0]
    exact lt3 _ rfl rfl (by omega)
   rename_i n2
   rw[Q0 n2]
   rw[Q3 (by omega)]
   have:=F6r S.c hc (A0f S.c se.part pr.a.cell) pr.st.g pr.a.tm
   unfold muA
   dsimp only
   rw[Q3 hk,Q0 (by omega)]
   show _+(0:Nat)<_
   omega
  ·rename_i hpc
   rw[Q0 hpc]
   have k:=H6i pr o ss po S
   have e0:muA pr o=1+(10-pr.tries).toNat+14*((pr.A3x.length:Int)-pr.n).toNat+E3r o:=by unfold muA;rw[Q3 hk,Q0 hpc]
   rw[e0]
   generalize A1v pr o ss po S=T at*
   unfold B1d at hr⊢
   split at hr
   ·rename_i hb
    rw[Q3 hb]
    have k:=k.1 hb
    unfold muA
    dsimp only
    rw[Q3 hk,Q0 hpc]
    omega
   ·rename_i hb
    rw[Q0 hb]
    obtain⟨k1,k2,kS⟩:=k.2 (by simpa using hb)
    split at hr
    ·rename_i h1
     rw[Q3 h1]
     obtain⟨r1,r2,r3,r4,r5⟩:=G9o _ _ _ h1 (by rw[kS];exact hc)
     dsimp only at r1 r2 r3 r4 r5⊢
     unfold muA
     rw[r1,Q3 hk,r2,Q0 hpc,r3,r4,k2]
     omega
    ·cases hr
 rename_i hk
 rw[Q0 hk]
 have e0:muA pr o=(12-pr.pc).toNat+1:=by unfold muA;rw[Q0 hk]
 rw[e0]
 have lt:∀(p:PrS) (o:Option A0a),p.a=pr.a→p.pc=pr.pc+1→pr.pc<12→muA p o<(12-pr.pc).toNat+1:=by
  intro p o e1 e2 e3
  unfold muA
  rw[e1,Q0 hk,e2];omega
 split at hr
 ·rename_i k2
  rw[Q3 k2]
  have hr:(A0s (A0f S.c se.part pr.a.cell) pr se S).r=none:=hr
  show muA (A0s (A0f S.c se.part pr.a.cell) pr se S).pr o<_
  unfold A0s at hr⊢
  split at hr
  ·rename_i h0
   rw[Q3 h0]
   split at hr
   ·cases hr
   ·rename_i h1;rw[Q0 h1];exact lt _ _ rfl rfl (by omega)
  rename_i n0
  rw[Q0 n0]
  split at hr
  ·rename_i h0
   rw[Q3 h0]
   refine lt _ _ ?_ rfl (by omega)
   dsimp only[A5p];split<;>rfl
  rename_i n1
  rw[Q0 n1]
  split at hr
  ·rename_i h0
   rw[Q3 h0]
   exact lt _ _ (H4i _ _ _ _) rfl (by omega)
  rename_i n2
  rw[Q0 n2]
  split at hr
  ·rename_i h0
   rw[Q3 h0]
   exact lt _ _ rfl rfl (by omega)
  ·cases hr
 rename_i n2
 rw[Q0 n2]
 split at hr
 ·rename_i k3
  rw[Q3 k3]
  have hr:(A1t (A0f S.c se.part pr.a.cell) pr se S).r=none:=hr
  show muA (A1t (A0f S.c se.part pr.a.cell) pr se S).pr o<_
  unfold A1t at hr⊢
  split at hr
  ·cases hr
  rename_i h0
  rw[Q0 h0]
  split at hr
  ·rename_i h1
   rw[Q3 h1];exact lt _ _ rfl rfl (by omega)
  rename_i h1
  rw[Q0 h1]
  split at hr
  ·rename_i h2
   rw[Q3 h2]
   split
   ·exact lt _ _ rfl rfl (by omega)
   ·exact lt _ _ rfl rfl (by omega)
  rename_i h2
  rw[Q0 h2]
  split at hr
  ·rename_i h3
   rw[Q3 h3];exact lt _ _ rfl rfl (by omega)
  ·cases hr
 rename_i n3
 rw[Q0 n3]
 split at hr
 ·rename_i k4
  rw[Q3 k4]
  have hr:(A1q pr se S).r=none:=hr
  show muA (A1q pr se S).pr o<_
  unfold A1q at hr⊢
  have hc1:=hc.2.1
  split at hr
  ·cases hr
  rename_i h0
  rw[Q0 h0]
  split at hr
  ·rename_i h1
   rw[Q3 h1];exact lt _ _ rfl rfl (by omega)
  ·rename_i h1
   rw[Q0 h1];exact lt _ _ rfl rfl (by omega)
 ·cases hr
def zAsk:Ask:=⟨0,0,0,⟨0,0,0,0,0⟩,0⟩
def A8g(a:Nat):PEv:=⟨3,a,0,zAsk⟩
theorem D1o(P:A0h)(a:Nat):(doP P (A8g a)).2=(A2w P.got a).2.on:=by
 unfold doP
 rw[Q0 (show ¬(A8g a).kind=2 by show ¬(3:Int)=2;decide),Q3 (show(A8g a).kind=3 from rfl)];rfl
structure Oth(P P':A0h)(a:Nat):Prop where
 c:P'.S.c=P.S.c
 sl:P'.A0c.length=P.A0c.length
 wl:P'.sw.length=P.sw.length
 rl:P'.re.length=P.re.length
 ss:∀i,i≠a→P'.A0c[i]?=P.A0c[i]?
 sw:∀j,P.A0c.length+j≠a→P'.sw[j]?=P.sw[j]?
 re:∀j,P.A0c.length+P.sw.length+j≠a→P'.re[j]?=P.re[j]?
theorem Oth.mu{P P':A0h}{a:Nat}(h:Oth P P' a){b:Nat}(hb:b≠a):mu P' b=mu P b∧A4v P' b=A4v P b:=by
 unfold Go.Proofs.YtckanieeocdpbaaGreat.P.mu A4v
 rw[h.sl,h.wl,h.c]
 by_cases h1:b<P.A0c.length
 ·rw[Q3 h1,Q3 h1,Q3 h1,Q3 h1,h.ss b hb];exact⟨rfl,rfl⟩
 rw[Q0 h1,Q0 h1,Q0 h1,Q0 h1]
 by_cases h2:b-P.A0c.length<P.sw.length
 ·rw[Q3 h2,Q3 h2,Q3 h2,Q3 h2,h.sw _ (by omega)];exact⟨rfl,rfl⟩
 ·rw[Q0 h2,Q0 h2,Q0 h2,Q0 h2,h.re _ (by omega)];exact⟨rfl,rfl⟩
theorem H4b{P:A0h}{n i:Nat}{x:A0w}(ok:A2q P n)(I:PI P)(H:PH P)(hx:P.A0c[i]?=some x)(hb:E2i x=false):
  Oth P (A3u P i x).2 i∧∃x',(A3u P i x).2.A0c[i]?=some x'∧muS x'<muS x:=by
 have hc:=ok.S.c
 have hlt:i<P.A0c.length:=(aE.1 hx).1
 have key:∀(x1:A0w) (pr:PrS) (o:Option A0a),0≤pr.pc→0≤pr.n→0≤pr.tries→(pr.a.kind≠1∨pr.pc<4→o=none)→1500*x1.queue.length+muA pr o≤muS x→A3j P.S i pr→0≤pr.done→x1.se=x.se→o=tr P (2*i)→
   Oth P (A5u P i x1 pr o) i∧∃x',(A5u P i x1 pr o).A0c[i]?=some x'∧muS x'<muS x:=by
  intro x1 pr o hp hn ht nu hm Ip hd e1 e2
  have hpart:x1.se.part=i:=by rw[e1];exact I.part i x hx
  have kc:=(C0v (ss:=x1.nl) (po:=(P.use x1.ev).nl) (se:=x1.se) hc I.wi (by rw[hpart];exact Ip) (fun p hp=>I.tri (2*i) p (by rw[←e2];exact hp)) hp hd).adv.c
  have km:=G8u (se:=x1.se) (ss:=x1.nl) (po:=(P.use x1.ev).nl) hc hp hn ht nu
  unfold A5u
  generalize A2k pr o x1.se x1.nl (P.use x1.ev).nl P.S=R at*
  have main:∀(P':A0h) (x':A0w),P'.S=R.S→P'.A0c=P.A0c.set i x'→P'.sw=P.sw→P'.re=P.re→muS x'<muS x→Oth P P' i∧∃x',P'.A0c[i]?=some x'∧muS x'<muS x:=by
   intro P' x' f1 f2 f3 f4 f5
   refine⟨⟨by rw[f1];exact kc,by rw[f2,aK],by rw[f3],by rw[f4],fun j hj=>by rw[f2,B4y _ _ hj],fun _ _=>by rw[f3],fun _ _=>by rw[f4]⟩,x',?_,f5⟩
   rw[f2,aI,Q3 rfl,Q3 hlt]
  unfold B4q
  have pos:=H3v pr o
  split
  ·rename_i hr
   refine main _ _ rfl rfl rfl rfl ?_
   have:=km hr
   show 1500*x1.queue.length+muA R.pr R.o<_
   omega
  ·refine main _ _ rfl rfl rfl rfl ?_
   show 1500*x1.queue.length+0<_
   omega
 have so:=ok.A0c x (aH hx)
 unfold A3u A0w.begun
 cases hn:x.now with
 |some v=>
  obtain⟨pr,o⟩:=v
  have po:=so.prog pr o hn
  have ht:tr P (2*i)=x.now.bind (·.2):=by
   unfold tr
   rw[Q3 (by omega),show 2*i/2=i by omega,hx];rfl
  refine key x pr o po.pc.1 po.n.1 po.tries.1 (H.nu i x pr o hx hn) ?_ (I.prog i x pr o hx hn) po.done.1 rfl (by rw[ht,hn];rfl)
  unfold muS;rw[hn];exact bM _
 |none=>
  cases hq:x.queue with
  |nil=>unfold E2i at hb;rw[hn,hq]at hb;cases hb
  |cons q t=>
   have ht:tr P (2*i)=x.now.bind (·.2):=by
    unfold tr
    rw[Q3 (by omega),show 2*i/2=i by omega,hx];rfl
   refine key _ _ _ (bD _) (bD _) (bD _) (fun _=>rfl) ?_ (PrS.C0w _ _ _) (bD _) rfl (by rw[ht,hn];rfl)
   ·unfold muS;rw[hn,hq]
    have:muA (PrS.start q.a) none≤1434:=by
     unfold muA
     split
     ·rw[Q3 (show(PrS.start q.a).pc<4 by show(0:Int)<4;decide)]
      show 1430+(4-(0:Int)).toNat≤1434;decide
     ·show(12-(0:Int)).toNat+1≤1434;decide
    simp only[aB];omega
theorem H1a{P:A0h}{n j:Nat}{y:SwS × Option A0a}(ok:A2q P n)(I:PI P)(hy:P.sw[j]?=some y)(hb:(y.1.at_ == 0&&A5y y.2)=false):
  Oth P (A6z P j y) (P.A0c.length+j)∧∃y',(A6z P j y).sw[j]?=some y'∧muW P.S.c y'<muW P.S.c y:=by
 have hc:=ok.S.c
 have hlt:j<P.sw.length:=(aE.1 hy).1
 have ht:tr P (2*j+1)=y.2:=by
  unfold tr
  rw[Q0 (by omega),show(2*j+1)/2=j by omega,hy];rfl
 have so:=(ok.sw y (aH hy)).1
 have J:∀p,y.2=some p→A4o P.S p:=fun p hp=>I.tri _ p (by rw[ht];exact hp)
 have q:A4o P.S (A3v y.1 P.S.c y.2)∧(A3v y.1 P.S.c y.2).pc=opc y.2∧opc y.2<14∧0≤opc y.2:=by
  unfold A3v opc
  cases h:y.2 with
  |none=>exact⟨A4o.new _ _,rfl,by decide,by decide⟩
  |some p=>
   dsimp only
   split
   ·exact⟨A4o.new _ _,rfl,by decide,by decide⟩
   ·have:=J p h
    exact⟨this,rfl,by omega,this.1⟩
 obtain⟨q1,q2,q3,q4⟩:=q
 have kc:=(B4j hc I.wi q1).adv.c
 have kp:=E0e (S:=P.S) (P:=A3v y.1 P.S.c y.2) (by omega)
 rw[q2]at kp
 refine⟨⟨kc,rfl,by show(P.sw.set _ _).length=_;rw[aK],rfl,fun _ _=>rfl,fun i hi=>by show(P.sw.set _ _)[i]?=_;rw[B4y _ _ (by omega)],fun _ _=>rfl⟩,_,by show(P.sw.set _ _)[j]?=_;rw[aI,Q3 rfl,Q3 hlt],?_⟩
 have e0:muW P.S.c y=(15*(A0o P.S.c*A0o P.S.c-y.1.at_)-opc y.2).toNat:=by unfold muW;rw[Q0 (by rw[hb];decide)]
 obtain⟨s1,s2⟩:=so
 rw[e0]
 show muW P.S.c (C5a y.1 P.S.c (A1h (A3v y.1 P.S.c y.2) P.S).1,some (A1h (A3v y.1 P.S.c y.2) P.S).1)<_
 generalize (A1h (A3v y.1 P.S.c y.2) P.S).1=p' at*
 generalize opc y.2=z at*
 have hd:A5y (some p')=decide (p'.pc≥14):=rfl
 have ho:opc (some p')=if p'.pc≥14 then 0 else p'.pc:=rfl
 unfold muW
 dsimp only
 rw[hd,ho]
 unfold C5a
 generalize A0o P.S.c*A0o P.S.c=N at*
 by_cases h1:p'.pc<14
 ·have h2:¬p'.pc≥14:=by omega
  rw[Q3 h1,Q0 h2,decide_eq_false h2,b8,Q0 (by decide)]
  omega
 ·have h2:p'.pc≥14:=by omega
  rw[Q0 h1,Q3 h2,decide_eq_true h2,b6]
  by_cases h3:y.1.at_+1=N
  ·rw[Q3 h3,Q3 (by rfl)];omega
  ·rw[Q0 h3]
   dsimp only
   split
   ·omega
   ·omega
theorem H6c{P:A0h}{n j:Nat}{y:ReS}(ok:A2q P n)(I:PI P)(hy:P.re[j]?=some y)(hb:(y.pc == 0)=false):
  Oth P (B0t P j y) (P.A0c.length+P.sw.length+j)∧∃y',(B0t P j y).re[j]?=some y'∧muR P.S.c y'<muR P.S.c y:=by
 have hlt:j<P.re.length:=(aE.1 hy).1
 have ro:=ok.re y (aH hy)
 have kc:=((D0o ok.S.c I.wi ro (I.re j y hy)).2.1 No No).c
 refine⟨⟨kc,rfl,rfl,by show(P.re.set _ _).length=_;rw[aK],fun _ _=>rfl,fun _ _=>rfl,fun i hi=>by show(P.re.set _ _)[i]?=_;rw[B4y _ _ (by omega)]⟩,_,by show(P.re.set _ _)[j]?=_;rw[aI,Q3 rfl,Q3 hlt],?_⟩
 have hpc:=ro.pc
 have hb:y.pc≠0:=by simpa using hb
 have e:(A6a y P.S).1.pc=y.pc:=by
  unfold A6a A3h
  repeat' (first|rfl|split)
 show muR P.S.c (B6f (A6a y P.S).1 P.S.c)<_
 unfold B6f muR
 rw[e,Q0 hb]
 split
 ·rw[Q3 rfl];omega
 ·dsimp only
  rw[Q0 (by omega)];omega
theorem F9x{P:A0h}{n:Nat}(ok:A2q P n)(hn:n≤100000000)(I:PI P)(H:PH P)(hl:P.sw.length=P.re.length){a:Nat}(ha:a<A5d P)(hb:A4v P a=false):
  Oth P (doP P (A8g a)).2 a∧mu (doP P (A8g a)).2 a<mu P a:=by
 rw[D1o]
 have ok':=B1i ok
 have I':PI P.got:=I.same ok.S.c ok.re (A1s.refl _) (fun _=>rfl) rfl rfl
 have H':PH P.got:=PH.same I H (A1s.refl _) (Wd.refl _) (fun _=>rfl) rfl
 have fin:∀P1:A0h,Oth P.got P1 a→Oth P P1.on a:=fun P1 o=>⟨o.c,o.sl,o.wl,o.rl,o.ss,o.sw,o.re⟩
 unfold A5d at ha
 unfold A4v at hb
 unfold A2w
 rw[Q0 (show ¬((a:Int)<0∨(a:Int)-P.got.A0c.length≥2*P.got.sw.length)by show ¬((a:Int)<0∨(a:Int)-P.A0c.length≥2*P.sw.length);omega)]
 by_cases h1:a<P.A0c.length
 ·rw[Q3 h1]at hb
  rw[Q3 (show(a:Int)-P.got.A0c.length<0 by show(a:Int)-P.A0c.length<0;omega),bC]
  cases hx:P.A0c[a]? with
  |none=>rw[hx]at hb;cases hb
  |some x=>
   rw[hx]at hb
   have hx':P.got.A0c[a]?=some x:=hx
   rw[hx']
   obtain⟨k1,x',k2,k3⟩:=H4b ok' I' H' hx' hb
   refine⟨fin _ k1,?_⟩
   have e:=k1.sl
   show mu (A3u P.got a x).2.on a<_
   unfold mu
   rw[Q3 h1,Q3 (show a<(A3u P.got a x).2.on.A0c.length by show a<(A3u P.got a x).2.A0c.length;rw[e];exact h1),hx]
   show(((A3u P.got a x).2.A0c[a]?).map muS).getD 0<muS x
   rw[k2];exact k3
 ·rw[Q0 h1]at hb
  rw[Q0 (show ¬(a:Int)-P.got.A0c.length<0 by show ¬(a:Int)-P.A0c.length<0;omega)]
  by_cases h2:a-P.A0c.length<P.sw.length
  ·rw[Q3 h2]at hb
   rw[Q3 (show(a:Int)-P.got.A0c.length<P.got.sw.length by show(a:Int)-P.A0c.length<P.sw.length;omega)]
   have ej:((a:Int)-P.got.A0c.length).toNat=a-P.A0c.length:=by show((a:Int)-P.A0c.length).toNat=_;omega
   rw[ej]
   cases hx:P.sw[a-P.A0c.length]? with
   |none=>rw[hx]at hb;cases hb
   |some y=>
    rw[hx]at hb
    have hx':P.got.sw[a-P.A0c.length]?=some y:=hx
    rw[hx']
    obtain⟨k1,y',k2,k3⟩:=H1a ok' I' hx' hb
    have ea:P.got.A0c.length+(a-P.A0c.length)=a:=by show P.A0c.length+(a-P.A0c.length)=a;omega
    rw[ea]at k1
    refine⟨fin _ k1,?_⟩
    have e:=k1.wl
    show mu (A6z P.got (a-P.A0c.length) y).on a<_
    unfold mu
    rw[Q0 h1,Q3 h2,Q0 (show ¬a<(A6z P.got (a-P.A0c.length) y).on.A0c.length from h1),Q3 (show a-(A6z P.got (a-P.A0c.length) y).on.A0c.length<(A6z P.got (a-P.A0c.length) y).on.sw.length by show a-P.A0c.length<(A6z P.got (a-P.A0c.length) y).sw.length;rw[e];exact h2),hx]
    show(((A6z P.got (a-P.A0c.length) y).sw[a-P.A0c.length]?).map (muW (A6z P.got (a-P.A0c.length) y).S.c)).getD 0<muW P.S.c y
    rw[k2,k1.c];exact k3
  ·rw[Q0 h2]at hb
   rw[Q0 (show ¬(a:Int)-P.got.A0c.length<P.got.sw.length by show ¬(a:Int)-P.A0c.length<P.sw.length;omega)]
   have ej:((a:Int)-P.got.A0c.length-P.got.sw.length).toNat=a-P.A0c.length-P.sw.length:=by show((a:Int)-P.A0c.length-P.sw.length).toNat=_;omega
   rw[ej]
   cases hx:P.re[a-P.A0c.length-P.sw.length]? with
   |none=>rw[hx]at hb;cases hb
   |some y=>
    rw[hx]at hb
    have hx':P.got.re[a-P.A0c.length-P.sw.length]?=some y:=hx
    rw[hx']
    obtain⟨k1,y',k2,k3⟩:=H6c ok' I' hx' hb
    have ea:P.got.A0c.length+P.got.sw.length+(a-P.A0c.length-P.sw.length)=a:=by show P.A0c.length+P.sw.length+(a-P.A0c.length-P.sw.length)=a;omega
    rw[ea]at k1
    refine⟨fin _ k1,?_⟩
    show mu (B0t P.got (a-P.A0c.length-P.sw.length) y).on a<_
    unfold mu
    rw[Q0 h1,Q0 h2,Q0 (show ¬a<(B0t P.got (a-P.A0c.length-P.sw.length) y).on.A0c.length from h1),Q0 (show ¬a-(B0t P.got (a-P.A0c.length-P.sw.length) y).on.A0c.length<(B0t P.got (a-P.A0c.length-P.sw.length) y).on.sw.length from h2),hx]
    show(((B0t P.got (a-P.A0c.length-P.sw.length) y).re[a-P.A0c.length-P.sw.length]?).map (muR (B0t P.got (a-P.A0c.length-P.sw.length) y).S.c)).getD 0<muR P.S.c y
    rw[k2,k1.c];exact k3
section
set_option maxRecDepth 10000
theorem G5r{l:List D}(h:((l.length:Int) == 0)=true):l=[]:=by
 have:(l.length:Int)=0:=by simpa using h
 exact List.eq_nil_of_length_eq_zero (by omega)
theorem G7i(l:List D)(h:l.length≤100000):FX 38 [.agg l]=some [.agg l]:=by
 rw[C0c]
 simp only[D.A0j]
 have h1:(l.length:Int)≤17592186044416:=by omega
 simp only[h1,Q6,Q5]
 split
 ·rename_i h0
  rw[G5r h0,E8l]
 ·rfl
def D1a(P:A0h)(part:Int):List Rep:=(P.outs.filter fun o=>o.part == part).map Out.r
section
variable{G:Nat→Option D}{L:List D}{lab:Nat→Nat}{pl w m k:Nat}{za swa rea:List Nat}{P:A0h}{n:Nat}(E:Enc G L lab pl w m k za swa rea P)(hP:A2q P n)(hn:n≤100000000)
include E hP hn
theorem G6f:FX 22 [.int (m:Nat),.agg L]=some [.agg (P.S.words.map wN)]:=by
 obtain⟨M,hM,hw⟩:=E.W.m
 have hl:=hP.S.len
 rw[D8f]
 simp only[HH,hM,A1g.A1f,hw]
 rw[G7i _ (by simp;omega)]
 simp only[HH]
theorem E7p:FX 8 [.int (pl:Nat),.agg L]=some [.agg (P.outs.map Out.d)]:=by
 have ho:=hP.outs
 have g5:(P.raw (.int (w:Nat)) (A0p za) (A0p swa) (A0p rea)).outs=P.outs:=rfl
 have h1:((P.outs.map Out.d).length:Int)≤1034834473200:=by simp;omega
 rw[D4g]
 simp only[HH,E.A4i,A0e.A2m,g5,h1,Q6]
 split
 ·rename_i h0
  rw[G5r h0,E8l]
 ·rfl
theorem G3i(part:Int):FX 54 [.int (pl:Nat),.int part,.agg L]=some [.agg ((D1a P part).map Rep.d)]:=by
 have ho:=hP.outs
 have key:∀(d j:Nat),j+d=P.outs.length→A5e (.int (pl:Nat)) (.int part) (.agg L) (.agg (P.outs.map Out.d)) [.int (j:Nat),.agg ((((P.outs.take j).filter fun o=>o.part == part).map Out.r).map Rep.d)]=some [.agg ((D1a P part).map Rep.d)]:=by
  intro d
  induction d with
  |zero=>
   intro j hj
   have h1:¬(j:Int)<((P.outs.map Out.d).length:Int):=by simp;omega
   rw[B2k,aP (by omega)]
   simp only[D.toInt_int,D.A0j,h1,Q7,aY,Q4]
   rfl
  |succ d ih=>
   intro j hj
   have hlt:j<P.outs.length:=by omega
   have h1:(j:Int)<((P.outs.map Out.d).length:Int):=by simp;omega
   have h2:(j:Int)≥0:=by omega
   have hg:(P.outs.map Out.d).getD j D.nil=.agg (P.outs[j]).ds:=by
    rw[aG,aL,aF hlt];rfl
   have ih':=ih (j+1) (by omega)
   have htk:P.outs.take (j+1)=P.outs.take j++[P.outs[j]]:=aM hlt
   rw[htk,List.filter_append]at ih'
   have hlen:((P.outs.take j).filter fun o=>o.part == part).length≤P.outs.length:=bR (List.length_filter_le ..) (by simp;omega)
   generalize P.outs[j]=o at*
   rw[B2k]
   simp only[D.toInt_int,D.A0j,h1,h2,Q6,Q5,bC,hg,Out.A1f,Out.A1i,Out.A1p,Out.A1w,Out.A1u,Out.A2m,Out.A3z,Out.A8l,Out.A6y,Out.A7f,Out.B4m,Out.B0v,Out.A9w,Out.B0q,Out.B3m]
   rw[A0v _ (by omega) (by omega)]
   cases hb:(o.part == part)with
   |true=>
    have e1:[o].filter (fun o=>o.part == part)=[o]:=by simp[hb]
    rw[e1]at ih'
    have e2:((((P.outs.take j).filter fun o=>o.part == part).map Out.r).map Rep.d)++[D.agg [.int o.r.kind,.int o.r.code,.int o.r.tick,.int o.r.id,.int o.r.cell,.bool o.r.asked,.int o.r.rc.k,.int o.r.rc.q,.int o.r.rc.p,.int o.r.rc.t,.int o.r.rc.c,.int o.r.rc.g,.agg (o.r.looks.map A5t.d)]]=((((P.outs.take j).filter fun o=>o.part == part)++[o]).map Out.r).map Rep.d:=by
     rw[aR,aR];rfl
    have e3:((((((P.outs.take j).filter fun o=>o.part == part)++[o]).map Out.r).map Rep.d).length:Int)≤1172812402961:=by simp;omega
    simp only[Q5,e2,e3,Q6]
    exact ih'
   |false=>
    have e1:[o].filter (fun o=>o.part == part)=[]:=by simp[hb]
    rw[e1,List.append_nil]at ih'
    simp only[aY,Q4]
    exact ih'
 have:=key P.outs.length 0 (by omega)
 rw[C9r,E7p E hP hn]
 simp only[A0n,aB,aC,aA]
 exact this
end
theorem all_eq'(es:List PEv)(hes:es.length≤100000):FX 34 [.agg (es.map PEv.d)]=some [.agg (es.map PEv.d)]:=by
 have key:∀(d j:Nat),j+d=es.length→B6e (.agg (es.map PEv.d)) [.int (j:Nat),.agg ((es.take j).map PEv.d)]=some [.agg (es.map PEv.d)]:=by
  intro d
  induction d with
  |zero=>
   intro j hj
   have h1:¬(j:Int)<((es.map PEv.d).length:Int):=by simp;omega
   rw[C4s,aP (by omega)]
   simp only[D.toInt_int,D.A0j,h1,Q7,aY,Q4]
  |succ d ih=>
   intro j hj
   have hlt:j<es.length:=by omega
   have h1:(j:Int)<((es.map PEv.d).length:Int):=by simp;omega
   have h2:(j:Int)≥0:=by omega
   have ih':=ih (j+1) (by omega)
   have htk:es.take (j+1)=es.take j++[es[j]]:=aM hlt
   rw[htk]at ih'
   obtain⟨g0,g1,g2,g3,g4,g5,g6,g7,g8,g9,g10,g11⟩:=PEv.gets es[j]
   have e2:(es.take j).map PEv.d++[D.agg [.int es[j].kind,.int es[j].who,.int es[j].n,.int es[j].ask.kind,.int es[j].ask.id,.int es[j].ask.cell,.int es[j].ask.tm.name,.int es[j].ask.tm.side,.int es[j].ask.tm.A0m,.int es[j].ask.tm.least,.int es[j].ask.tm.A1n,.int es[j].ask.qty]]=(es.take j++[es[j]]).map PEv.d:=by rw[aR];rfl
   have e3:(((es.take j++[es[j]]).map PEv.d).length:Int)≤1466015503701:=by simp;omega
   rw[C4s]
   simp only[D.toInt_int,D.A0j,h1,h2,Q6,Q5,bC,F9n hlt,g0,g1,g2,g3,g4,g5,g6,g7,g8,g9,g10,g11,G2e,G1f,A0n,aB,aC,aA,aD,e2,e3]
   rw[A0v _ (by omega) (by omega)]
   exact ih'
 rw[F7h]
 exact key es.length 0 (by omega)
theorem Enc.fr{L:List D}{lab:Nat→Nat}{pl w m k:Nat}{za swa rea:List Nat}{P:A0h}{L0:List D}(E:Enc (Gl L0) L lab pl w m k za swa rea P):Fr L0 L (fun _=>False):=by
 have k:∀b,b<L0.length→b<L.length∧L.getD b D.nil=L0.getD b D.nil:=fun b hb=>by
  have:=E.pre b (L0.getD b D.nil) (Q3 hb)
  exact⟨this.1,this.2.2⟩
 refine⟨?_,fun b hb _=>(k b hb).2⟩
 cases h:L0.length with
 |zero=>exact bL _
 |succ n=>have:=(k n (by omega)).1;omega
theorem H3k(c:Cf)(hc:c.ok)(es:List PEv)(hes:es.length≤10000)(hw:∀e ∈ es,e.wf)(mx:Int)(hmx:(es.length:Int)≤mx)(L:List D):
  ∃L' lab pl w m k za swa rea,FX 12 [.int c.c0,.int c.c1,.int c.c2,.int c.c3,.int c.c4,.int c.c5,.int c.c6,.agg (es.map PEv.d),.int mx,.agg L]=some [.int (pl:Nat),.agg L']∧Enc (Gl L) L' lab pl w m k za swa rea (B8o (A1x c) es)∧A2i (B8o (A1x c) es) es.length:=by
 obtain⟨L1,lab1,pl,w,m,k,za,swa,rea,n1,E1⟩:=F9m c hc L
 obtain⟨L2,lab2,n2,E2,P2⟩:=run_eq E1 (C3i c hc) es hw (by omega)
 have h1:¬((es.map PEv.d).length:Int)>mx:=by simp;omega
 refine⟨L2,lab2,pl,w,m,k,za,swa,rea,?_,E2,by rw[Nat.zero_add]at P2;exact P2⟩
 rw[F7v]
 simp only[n1,A0n,aB,aC,aA,aD,A6v,B5l,aZ,aY,Q4,D.toInt_int,D.A0j,h1,Q7,all_eq' es (by omega),n2]
end
end Go.Proofs.YtckanieeocdpbaaGreat.P
namespace Go.Proofs.YtckanieeocdpbaaGreat.Eng
set_option linter.unusedVariables false
set_option linter.unusedSimpArgs false
section
section
variable(prog:List (Nat × T))
variable{prog}
end
end
end Go.Proofs.YtckanieeocdpbaaGreat.Eng
namespace Go.Proofs.YtckanieeocdpbaaGreat.P
open Go.RowKit Go.Proofs.YtckanieeocdpbaaGreat.Eng Go.Proofs.YtckanieeocdpbaaGreat Go.Proofs.YtckanieeocdpbaaGreat.Dat Go.Proofs.YtckanieeocdpbaaGreat.FDat
set_option linter.unusedVariables false
set_option linter.unusedSimpArgs false
set_option linter.unusedSectionVars false
set_option maxRecDepth 10000
section
def exC:Cf:=⟨2,1,1,1,0,1,1⟩
theorem D4k:exC.ok:=by unfold RU.Cf.ok exC;decide
def A7o:PEv:=⟨1,0,0,⟨1,1,0,⟨0,0,5,1,9⟩,4⟩⟩
def A8n:PEv:=⟨3,0,0,⟨0,0,0,.zero,0⟩⟩
theorem In.z(z:Int)(h:decide (-1000≤z)&&decide (z≤1000)=true):In z:=by
 simp only[b7,Q9]at h
 exact In.lit (by omega)
theorem E9f:A7o.wf:=⟨.z _ rfl,.z _ rfl,fun z hz=>by
 simp only[Tm.vs,A7o,aU,aT,or_false]at hz
 rcases hz with rfl|rfl|rfl|rfl|rfl<;>exact .z _ rfl⟩
theorem D3x:A8n.wf:=⟨.z _ rfl,.z _ rfl,fun z hz=>by
 simp only[Tm.vs,A8n,Tm.zero,aU,aT,or_false]at hz
 rcases hz with rfl|rfl|rfl|rfl|rfl<;>exact .z _ rfl⟩
def B0r:Nat→Bool × A0h→Bool × A0h
 |0,x=>x
 |n+1,(ok,P)=>B0r n (ok&&(doP P A8n).1,(doP P A8n).2)
def F0w(x:A0w):Bool:=(match x.now with|none=>true|some _=>false)&&x.queue.isEmpty
def C9k(P:A0h)(i:Int):Bool:=if i<0 then true else if i≥P.A0c.length then true else match P.A0c[i.toNat]? with
 |some x=>F0w x
 |none=>true
def F1q:List Rep→Bool
 |[r]=>r.code == 0
 |_=>false
def E2p:Bool:=(B0r 37 (doP (A1x exC) A7o)).1&&F1q (D1a (B0r 37 (doP (A1x exC) A7o)).2 0)&&C9k (B0r 37 (doP (A1x exC) A7o)).2 0&&!(doP (B0r 37 (doP (A1x exC) A7o)).2 A8n).1
section
variable{G:Nat→Option D}{L:List D}{lab:Nat→Nat}{pl w m k:Nat}{za swa rea:List Nat}{P:A0h}{n:Nat}(E:Enc G L lab pl w m k za swa rea P)
include E
theorem F2r(i:Int):FX 55 [.int (pl:Nat),.int i,.agg L]=some [.bool (C9k P i)]:=by
 have e1:(A0p za).length=P.A0c.length:=by rw[←E.zl];simp[A0p]
 have g1:(P.raw (.int (w:Nat)) (A0p za) (A0p swa) (A0p rea)).A0c=A0p za:=rfl
 rw[D5s]
 simp only[HH,E.A4i,A0e.A1i,g1,e1]
 unfold C9k
 by_cases c0:i<0
 ·simp only[c0,Q6,Q5]
 by_cases c1:i≥P.A0c.length
 ·simp only[c0,c1,Q6,Q7,aY,Q4,Q5]
 have hlt:i.toNat<P.A0c.length:=by omega
 obtain⟨x,hx⟩:∃x,P.A0c[i.toNat]?=some x:=⟨_,aF hlt⟩
 obtain⟨z,hz⟩:∃z,za[i.toNat]?=some z:=⟨_,aF (by rw[E.zl];exact hlt)⟩
 obtain⟨s,a,q,now,h1,h2,h3,_⟩:=E.ss _ x z hx hz
 have j1:i≥0:=by omega
 have j2:i<(P.A0c.length:Int):=by omega
 have y1:(x.raw (.int (s:Nat)) now).now=now:=rfl
 have y2:(x.raw (.int (s:Nat)) now).queue=x.queue:=rfl
 have hqlen:(x.queue.map Qe.d).length=x.queue.length:=aJ ..
 simp only[c0,c1,Q7,aY,Q4,j1,j2,Q6,Q5,C8s hz,HH,h1,A0k.A1i,A0k.A1p,y1,y2,hqlen,hx]
 unfold F0w
 cases hn:x.now with
 |some y=>
  obtain⟨pr,o⟩:=y
  rw[hn]at h3
  rw[h3.1]
  simp only[A6v,aY,Q4,bB]
 |none=>
  rw[hn]at h3
  dsimp only at h3
  rw[h3]
  simp only[B5l,Q5,b9]
  cases x.queue with
  |nil=>rfl
  |cons q t=>
   have:(((q::t).length:Int) == 0)=false:=by simp only[aB];exact Q8.2 (by omega)
   rw[this];rfl
end
theorem H1w:FX 30 [.int 2,.int 1,.int 1,.int 1,.int 0,.int 1,.int 1,.int 1,.int 1,.int 0,.int 0,.int 0,.int 5,.int 1,.int 9,.int 4]=some [.int 37]:=by
 have ha:FX 23 [.int 2,.int 1,.int 1,.int 1,.int 0,.int 1,.int 1]=some [.int (A0o exC)]:=all_eq exC D4k
 have hb:FX 47 [.int 2,.int 1,.int 1,.int 1,.int 0,.int 1,.int 1,.int 0,.int 5]=some [.agg ((B2j exC 0 5).map D.int)]:=F4q exC D4k 0 5
 have h1:A0o exC=2:=rfl
 have h2:(B2j exC 0 5).map D.int=[.int 0]:=rfl
 rw[D5a,ha,hb,h1,h2]
 simp only[HH,beq_self_eq_true]
 rfl
theorem E3v{G:Nat→Option D}{pl w m k:Nat}{za swa rea:List Nat}(x0 x1 x2 x3 x4 x5 x6 x7 x8 x10 x11 x12 x13:D):∀(d j n:Nat) (ok:Bool) (L:List D) (lab:Nat→Nat) (P:A0h),j+d=37→Enc G L lab pl w m k za swa rea P→A2i P n→n+d≤1000→
  ∃L' lab' n',A4t x0 x1 x2 x3 x4 x5 x6 x7 x8 (.int (pl:Nat)) x10 x11 x12 x13 (.int 37) [.bool ok,.int (j:Nat),.agg L]=A4t x0 x1 x2 x3 x4 x5 x6 x7 x8 (.int (pl:Nat)) x10 x11 x12 x13 (.int 37) [.bool (B0r d (ok,P)).1,.int 37,.agg L']∧
   Enc G L' lab' pl w m k za swa rea (B0r d (ok,P)).2∧A2i (B0r d (ok,P)).2 n'∧n'≤1000
 |0,j,n,ok,L,lab,P,h,E,hP,hn=>by
  have:j=37:=by omega
  subst this
  exact⟨L,lab,n,rfl,E,hP,by omega⟩
 |d+1,j,n,ok,L,lab,P,h,E,hP,hn=>by
  have h1:(j:Int)<37:=by omega
  obtain⟨L1,lab1,n1,E1⟩:=D0v E hP (by omega) A8n D3x
  have P1:=C2k hP (by omega) A8n D3x
  obtain⟨L2,lab2,n2,e2,E2,P2,hn2⟩:=E3v x0 x1 x2 x3 x4 x5 x6 x7 x8 x10 x11 x12 x13 d (j+1) (n+1) (ok&&(doP P A8n).1) L1 lab1 _ (by omega) E1 P1 (by omega)
  refine⟨L2,lab2,n2,?_,E2,P2,hn2⟩
  have n1':FX 29 [.int (pl:Nat),.int 3,.int 0,.int 0,.int 0,.int 0,.int 0,.int 0,.int 0,.int 0,.int 0,.int 0,.int 0,.agg L]=some [.bool (doP P A8n).1,.agg L1]:=n1
  rw[C0r]
  simp only[D.toInt_int,h1,Q6,Q5,n1',A0n,aB,aC,aA,aD,D.A1d]
  rw[A0v _ (by omega) (by omega)]
  cases hb:(doP P A8n).1 with
  |true=>
   rw[hb,b6]at e2
   simp only[Q5]
   show _=A4t x0 x1 x2 x3 x4 x5 x6 x7 x8 (.int (pl:Nat)) x10 x11 x12 x13 (.int 37) [.bool (B0r d (ok&&(doP P A8n).1,(doP P A8n).2)).1,.int 37,.agg L2]
   rw[hb,b6]
   exact e2
  |false=>
   rw[hb,b8]at e2
   simp only[aY,Q4]
   show _=A4t x0 x1 x2 x3 x4 x5 x6 x7 x8 (.int (pl:Nat)) x10 x11 x12 x13 (.int 37) [.bool (B0r d (ok&&(doP P A8n).1,(doP P A8n).2)).1,.int 37,.agg L2]
   rw[hb,b8]
   exact e2
theorem G6p(L:List D):∃L',FX 35 [.agg L]=some [.bool E2p,.agg L']∧Fr L L' (fun _=>False):=by
 obtain⟨L1,lab1,pl,w,m,k,za,swa,rea,n1,E1⟩:=F9m exC D4k L
 have P1:=C3i exC D4k
 have n0:=E6i exC D4k
 obtain⟨L2,lab2,n2,E2⟩:=D0v E1 P1 (by omega) A7o E9f
 have P2:=C2k P1 (by omega) A7o E9f
 have n0':FX 48 [.int 2,.int 1,.int 1,.int 1,.int 0,.int 1,.int 1]=some [.int 2,.int 1,.int 1,.int 1,.int 0,.int 1,.int 1,.nil]:=n0
 have n1':FX 32 [.int 2,.int 1,.int 1,.int 1,.int 0,.int 1,.int 1,.agg L]=some [.int (pl:Nat),.nil,.agg L1]:=n1
 have n2':FX 29 [.int (pl:Nat),.int 1,.int 0,.int 0,.int 1,.int 1,.int 0,.int 0,.int 0,.int 5,.int 1,.int 9,.int 4,.agg L1]=some [.bool (doP (A1x exC) A7o).1,.agg L2]:=n2
 have key:=fun x0 x1 x2 x3 x4 x5 x6 x7 x8 x10 x11 x12 x13=>E3v x0 x1 x2 x3 x4 x5 x6 x7 x8 x10 x11 x12 x13 37 0 1 (doP (A1x exC) A7o).1 L2 lab2 (doP (A1x exC) A7o).2 (by omega) E2 P2 (by omega)
 obtain⟨L3,lab3,n3,e3,E3,P3,hn3⟩:=key (.agg L) (.int 2) (.int 1) (.int 1) (.int 1) (.int 0) (.int 1) (.int 1) .nil .nil (.agg L1) (.bool (doP (A1x exC) A7o).1) (.agg L2)
 have hpair:(((doP (A1x exC) A7o).1,(doP (A1x exC) A7o).2):Bool × A0h)=doP (A1x exC) A7o:=rfl
 rw[hpair]at e3 E3 P3
 have hw:∃L',A4t (.agg L) (.int 2) (.int 1) (.int 1) (.int 1) (.int 0) (.int 1) (.int 1) .nil (.int (pl:Nat)) .nil (.agg L1) (.bool (doP (A1x exC) A7o).1) (.agg L2) (.int 37) [.bool (B0r 37 (doP (A1x exC) A7o)).1,.int 37,.agg L3]=some [.bool E2p,.agg L']∧Fr L L' (fun _=>False):=by
  unfold E2p
  generalize B0r 37 (doP (A1x exC) A7o)=R at*
  have r1:=G3i E3 P3.ok (by omega) 0
  have r2:=F2r E3 0
  obtain⟨L4,lab4,n4,E4⟩:=D0v E3 P3 (by omega) A8n D3x
  have n4':FX 29 [.int (pl:Nat),.int 3,.int 0,.int 0,.int 0,.int 0,.int 0,.int 0,.int 0,.int 0,.int 0,.int 0,.int 0,.agg L3]=some [.bool (doP R.2 A8n).1,.agg L4]:=n4
  have hno:¬(37:Int)<37:=by decide
  rw[C0r]
  simp only[D.toInt_int,hno,Q7,aY,Q4,r1,A0n,aB,aC,aA,D.A1d,D.A0j]
  cases hR:R.1 with
  |false=>exact⟨L3,by simp,E3.fr⟩
  |true=>
   generalize D1a R.2 0=rs at*
   match rs with
   |[]=>exact⟨L3,by simp[F1q],E3.fr⟩
   |[r]=>
    have hc:(([r].map Rep.d).getD (0:Int).toNat D.nil)=.agg r.ds:=rfl
    have hl1:((([r].map Rep.d).length:Int) == 1)=true:=rfl
    have hl2:(0:Int)<(([r].map Rep.d).length:Int):=by simp
    simp only[Q5,hl1,hl2,Q6,hc,D.A0j,Rep.A1i,D.toInt_int,r2,A0n,aB,aC,aA,aD,D.A1d,F1q]
    cases hcd:(r.code == 0)with
    |false=>exact⟨L3,by simp,E3.fr⟩
    |true=>
     cases hid:C9k R.2 0 with
     |false=>exact⟨L3,by simp,E3.fr⟩
     |true=>
      simp only[Q5,n4',A0n,aB,aC,aA,aD,D.A1d]
      exact⟨L4,by simp,E4.fr⟩
   |r::r'::t=>
    have hl1:((((r::r'::t).map Rep.d).length:Int) == 1)=false:=by simp only[List.map_cons,aB];exact Q8.2 (by omega)
    exact⟨L3,by simp only[Q5,hl1,aY,Q4];simp[F1q],E3.fr⟩
 obtain⟨L',e4,F4⟩:=hw
 refine⟨L',?_,F4⟩
 rw[F0d,n0',n1']
 simp only[A0n,aB,aC,aA,aD,B5l,A6v,aZ,aY,Q4,n2',H1w]
 exact e3.trans e4
theorem F6x:E2p=true:=by kernel_rfl
theorem H0d(L:List D):∃L',FX 35 [.agg L]=some [.bool true,.agg L']∧Fr L L' (fun _=>False):=by
 obtain⟨L',h,F⟩:=G6p L
 rw[F6x]at h
 exact⟨L',h,F⟩
theorem H0i(L:List D):∃L',FX 13 [.agg L]=some [.bool true,.agg L']∧Fr L L' (fun _=>False):=by
 obtain⟨L',h,F⟩:=H0d L
 refine⟨L',?_,F⟩
 rw[F0h,h]
 simp only[A0n,aB,aC,aA,aD]
end
end Go.Proofs.YtckanieeocdpbaaGreat.P
namespace Go.Proofs.YtckanieeocdpbaaGreat.RU
open Go.RowKit Go.Proofs.YtckanieeocdpbaaGreat.Eng Go.Proofs.YtckanieeocdpbaaGreat Go.Proofs.YtckanieeocdpbaaGreat.Dat
set_option linter.unusedVariables false
set_option linter.unusedSimpArgs false
theorem G1g(c:Cf):FX 31 c.ds=some [.int (match A1l c.B4e 0 with|none=>-1|some (j,_)=>j)]:=by
 have s7:A9t (.int c.c0) (.int c.c1) (.int c.c2) (.int c.c3) (.int c.c4) (.int c.c5) (.int c.c6) [.int 7]=some [.int (-1)]:=by rw[A4j];simp
 have w1:bG.wrap 1=1:=rfl
 have w2:bG.wrap 2=2:=rfl
 have w3:bG.wrap 3=3:=rfl
 have w4:bG.wrap 4=4:=rfl
 have w5:bG.wrap 5=5:=rfl
 have w6:bG.wrap 6=6:=rfl
 have w7:bG.wrap 7=7:=rfl
 have s6:=A4j (.int c.c0) (.int c.c1) (.int c.c2) (.int c.c3) (.int c.c4) (.int c.c5) (.int c.c6) (.int 6)
 have s5:=A4j (.int c.c0) (.int c.c1) (.int c.c2) (.int c.c3) (.int c.c4) (.int c.c5) (.int c.c6) (.int 5)
 have s4:=A4j (.int c.c0) (.int c.c1) (.int c.c2) (.int c.c3) (.int c.c4) (.int c.c5) (.int c.c6) (.int 4)
 have s3:=A4j (.int c.c0) (.int c.c1) (.int c.c2) (.int c.c3) (.int c.c4) (.int c.c5) (.int c.c6) (.int 3)
 have s2:=A4j (.int c.c0) (.int c.c1) (.int c.c2) (.int c.c3) (.int c.c4) (.int c.c5) (.int c.c6) (.int 2)
 have s1:=A4j (.int c.c0) (.int c.c1) (.int c.c2) (.int c.c3) (.int c.c4) (.int c.c5) (.int c.c6) (.int 1)
 have s0:=A4j (.int c.c0) (.int c.c1) (.int c.c2) (.int c.c3) (.int c.c4) (.int c.c5) (.int c.c6) (.int 0)
 simp[w1,w2,w3,w4,w5,w6,w7]at s0 s1 s2 s3 s4 s5 s6
 have he:FX 31 c.ds=A9t (.int c.c0) (.int c.c1) (.int c.c2) (.int c.c3) (.int c.c4) (.int c.c5) (.int c.c6) [.int 0]:=by
  unfold Cf.ds;rw[F0k]
 rw[he,s0,s1,s2,s3,s4,s5,s6,s7]
 have hgo:∀(n lo hi:Int) (i:Nat) (w:ByteArray) (l:List Lim) (r:Option (List D)),(r=some [.int (match A1l l (i+1)with|none=>-1|some (j,_)=>j)])→
   (if n<lo then some [D.int (i:Int)]else if hi<n then some [D.int (i:Int)]else r)=some [.int (match A1l (⟨w,n,lo,hi⟩::l) i with|none=>-1|some (j,_)=>j)]:=by
  intro n lo hi i w l r hr
  simp only[A1l,Lim.ok]
  by_cases h1:n<lo
  ·have:¬(lo≤n∧n≤hi):=by omega
   simp only[h1,this,Q5,Q4]
  ·rw[Q0 h1]
   by_cases h2:hi<n
   ·have:¬(lo≤n∧n≤hi):=by omega
    simp only[h2,this,Q5,Q4]
   ·have:lo≤n∧n≤hi:=by omega
    simp only[h2,this,Q5,Q4,hr,and_self]
 exact hgo _ _ _ 0 _ _ _ (hgo _ _ _ 1 _ _ _ (hgo _ _ _ 2 _ _ _ (hgo _ _ _ 3 _ _ _ (hgo _ _ _ 4 _ _ _ (hgo _ _ _ 5 _ _ _ (hgo _ _ _ 6 _ _ _ rfl))))))
end Go.Proofs.YtckanieeocdpbaaGreat.RU
namespace Go.Proofs.YtckanieeocdpbaaGreat.P
open Go.RowKit Go.Proofs.YtckanieeocdpbaaGreat.Eng Go.Proofs.YtckanieeocdpbaaGreat Go.Proofs.YtckanieeocdpbaaGreat.Dat Go.Proofs.YtckanieeocdpbaaGreat.FDat
set_option linter.unusedVariables false
set_option linter.unusedSimpArgs false
set_option linter.unusedSectionVars false
set_option maxRecDepth 10000
theorem E0g(c:Cf):FX 11 [.int c.c0,.int c.c1,.int c.c2,.int c.c3,.int c.c4,.int c.c5,.int c.c6]=some [.bool (RU.A1l c.B4e 0).isNone]:=by
 have h:FX 31 [.int c.c0,.int c.c1,.int c.c2,.int c.c3,.int c.c4,.int c.c5,.int c.c6]=some [.int (match RU.A1l c.B4e 0 with|none=>-1|some (j,_)=>j)]:=RU.G1g c
 rw[F7c,h]
 simp only[A0n,aB,aC,aA,D.toInt_int]
 cases RU.A1l c.B4e 0 with
 |none=>rfl
 |some x=>
  obtain⟨j,e⟩:=x
  have:¬((j:Int)<0):=by omega
  simp[this]
theorem F9w{c:Cf}(hc:c.ok):(RU.A1l c.B4e 0).isNone=true:=by rw[(RU.C1o c).2 hc];rfl
theorem F9y{c:Cf}(hc:¬c.ok):(RU.A1l c.B4e 0).isNone=false:=by
 cases h:RU.A1l c.B4e 0 with
 |none=>exact absurd ((RU.C1o c).1 h) hc
 |some x=>rfl
theorem H4w(c:Cf)(l:List D)(n:Int):FX 6 [.int c.c0,.int c.c1,.int c.c2,.int c.c3,.int c.c4,.int c.c5,.int c.c6,.agg l,.int n]=some [.bool ((RU.A1l c.B4e 0).isNone&&decide ((l.length:Int)≤n))]:=by
 rw[D8i,E0g]
 simp only[A0n,aB,aC,aA,D.A1d,D.A0j,D.toInt_int]
 cases (RU.A1l c.B4e 0).isNone
 ·rfl
 ·simp only[Q5,b9];rfl
theorem E8p(L:List D):∃L',FX 5 [.agg L]=some [.bool true,.agg L']∧Fr L L' (fun _=>False):=by
 obtain⟨L',h,F⟩:=H0i L
 refine⟨L',?_,F⟩
 rw[D3t,h]
 simp only[A0n,aB,aC,aA,aD]
theorem H3p(c:Cf)(hc:c.ok)(es:List PEv)(mx:Int)(hes:(es.length:Int)≤mx)(hmx:mx≤10000)(hw:∀e ∈ es,e.wf)(L:List D):
  ∃L' lab pl w m k za swa rea,FX 4 [.int c.c0,.int c.c1,.int c.c2,.int c.c3,.int c.c4,.int c.c5,.int c.c6,.agg (es.map PEv.d),.int mx,.agg L]=some [.int (pl:Nat),.agg L']∧Enc (Gl L) L' lab pl w m k za swa rea (B8o (A1x c) es)∧A2i (B8o (A1x c) es) es.length:=by
 obtain⟨L',lab,pl,w,m,k,za,swa,rea,h,E,P⟩:=H3k c hc es (by omega) hw mx hes L
 have h1:¬((es.map PEv.d).length:Int)>mx:=by simp;omega
 refine⟨L',lab,pl,w,m,k,za,swa,rea,?_,E,P⟩
 rw[C2a,E0g,F9w hc]
 simp only[A0n,aB,aC,aA,aD,D.A1d,aZ,aY,Q4,D.A0j,D.toInt_int,h1,Q7,h]
theorem H7i{c:Cf}{es:List PEv}{mx:Int}(hm:¬(c.ok∧(es.length:Int)≤mx)):((RU.A1l c.B4e 0).isNone&&decide ((es.length:Int)≤mx))=false:=by
 by_cases hc:c.ok
 ·have:¬(es.length:Int)≤mx:=fun h=>hm ⟨hc,h⟩
  simp[this]
 ·rw[F9y hc];rfl
theorem H3s(c:Cf)(es:List PEv){mx:Int}(hm:¬(c.ok∧(es.length:Int)≤mx))(L:List D):
  FX 4 [.int c.c0,.int c.c1,.int c.c2,.int c.c3,.int c.c4,.int c.c5,.int c.c6,.agg (es.map PEv.d),.int mx,.agg L]=some [.nil,.agg L]:=by
 rw[C2a,E0g]
 by_cases hc:c.ok
 ·have h1:((es.map PEv.d).length:Int)>mx:=by have:¬(es.length:Int)≤mx:=fun h=>hm ⟨hc,h⟩;simp;omega
  simp only[F9w hc,A0n,aB,aC,aA,D.A1d,aZ,aY,Q4,D.A0j,D.toInt_int,h1,Q6,Q5]
 ·simp only[F9y hc,A0n,aB,aC,aA,D.A1d,b0,Q5]
theorem H8b(c:Cf)(es:List PEv):∀P:A0h,P.S.c=c→(∀n,A2i P n→n+es.length≤100000→(∀e ∈ es,e.wf)→(B8o P es).S.c=c):=by
 induction es with
 |nil=>intro P h n _ _ _;exact h
 |cons e es ih=>
  intro P h n hP hn hw
  have hP1:=C2k hP (by simp at hn;omega) e (hw e (aO ..))
  refine ih _ ?_ (n+1) hP1 (by simp at hn;omega) (fun e' he=>hw e' (aN _ he))
  show(doP P e).2.S.c=c
  unfold doP
  split
  ·exact h
  split
  ·have:=(C3r (B1i hP.ok) (by simp at hn;omega) e.who).w.c
   show(A2w P.got e.who).2.S.c=c
   rw[this];exact h
  split
  ·split
   ·split<;>exact h
   split
   ·split<;>exact h
   ·exact h
  ·exact h
theorem In.of{x:Int}(h:(Lit.int .i64 x).wf=true):In x:=by
 unfold In
 simp[Lit.wf,bJ,bK,bI,bH]at h
 omega
def i12:List Ty:=[.int .i64,.int .i64,.int .i64,.int .i64,.int .i64,.int .i64,.int .i64,.int .i64,.int .i64,.int .i64,.int .i64,.int .i64]
theorem H8f{ys:List D}(h:Open.C1p Tryz.prog i12 ys):∃e:PEv,D.agg ys=e.d∧e.wf:=by
 obtain⟨_,_,rfl,h0,_,_,rfl,h1,_,_,rfl,h2,_,_,rfl,h3,_,_,rfl,h4,_,_,rfl,h5,_,_,rfl,h6,_,_,rfl,h7,_,_,rfl,h8,_,_,rfl,h9,_,_,rfl,h10,_,_,rfl,h11,h⟩:=h
 obtain⟨a0,rfl,v0⟩:=h0.toInt
 obtain⟨a1,rfl,v1⟩:=h1.toInt
 obtain⟨a2,rfl,v2⟩:=h2.toInt
 obtain⟨a3,rfl,v3⟩:=h3.toInt
 obtain⟨a4,rfl,v4⟩:=h4.toInt
 obtain⟨a5,rfl,v5⟩:=h5.toInt
 obtain⟨a6,rfl,v6⟩:=h6.toInt
 obtain⟨a7,rfl,v7⟩:=h7.toInt
 obtain⟨a8,rfl,v8⟩:=h8.toInt
 obtain⟨a9,rfl,v9⟩:=h9.toInt
 obtain⟨a10,rfl,v10⟩:=h10.toInt
 obtain⟨a11,rfl,v11⟩:=h11.toInt
 have h:_=[]:=h
 subst h
 refine⟨⟨a0,a1,a2,⟨a3,a4,a5,⟨a6,a7,a8,a9,a10⟩,a11⟩⟩,rfl,.of v1,.of v2,fun z hz=>?_⟩
 simp only[Tm.vs,aU,aT,or_false]at hz
 rcases hz with rfl|rfl|rfl|rfl|rfl
 ·exact .of v6
 ·exact .of v7
 ·exact .of v8
 ·exact .of v9
 ·exact .of v10
theorem H8g{x0:List D}(h:Open.C1p Tryz.prog [.int .i64,.int .i64,.int .i64,.int .i64,.int .i64,.int .i64,.int .i64] x0):∃c:Cf,x0=[.int c.c0,.int c.c1,.int c.c2,.int c.c3,.int c.c4,.int c.c5,.int c.c6]:=by
 obtain⟨_,_,rfl,h0,_,_,rfl,h1,_,_,rfl,h2,_,_,rfl,h3,_,_,rfl,h4,_,_,rfl,h5,_,_,rfl,h6,h⟩:=h
 obtain⟨a0,rfl,v0⟩:=h0.toInt
 obtain⟨a1,rfl,v1⟩:=h1.toInt
 obtain⟨a2,rfl,v2⟩:=h2.toInt
 obtain⟨a3,rfl,v3⟩:=h3.toInt
 obtain⟨a4,rfl,v4⟩:=h4.toInt
 obtain⟨a5,rfl,v5⟩:=h5.toInt
 obtain⟨a6,rfl,v6⟩:=h6.toInt
 have h:_=[]:=h
 subst h
 exact⟨⟨a0,a1,a2,a3,a4,a5,a6⟩,rfl⟩
section
theorem H6k{L:List D}{q:Nat}{p:A0a}(h:L.getD q D.nil=.agg p.ds):FX 78 [.int (q:Nat),.agg L]=some [.bool (decide (p.pc≥14))]:=by
 rw[A8d]
 simp only[HH,h,A0a.all]
theorem F6m{l:List Nat}{i z:Nat}(h:l[i]?=some z):(A0p l).getD i D.nil=.int (z:Nat):=by
 unfold A0p
 rw[aG,aL,h];rfl
section
variable{G:Nat→Option D}{L:List D}{lab:Nat→Nat}{pl w m k:Nat}{za swa rea:List Nat}{P:A0h}{n:Nat}(E:Enc G L lab pl w m k za swa rea P)
include E
theorem D2u:(P.raw (.int (w:Nat)) (A0p za) (A0p swa) (A0p rea)).w=.int (w:Nat)∧(P.raw (.int (w:Nat)) (A0p za) (A0p swa) (A0p rea)).A0c=A0p za∧(P.raw (.int (w:Nat)) (A0p za) (A0p swa) (A0p rea)).C4w=A0p swa∧(P.raw (.int (w:Nat)) (A0p za) (A0p swa) (A0p rea)).D0j=A0p rea:=⟨rfl,rfl,rfl,rfl⟩
theorem H6p{a:Nat}(ha:a<P.A0c.length):FX 55 [.int (pl:Nat),.int (a:Nat),.agg L]=some [.bool (A4v P a)]:=by
 have eb:C9k P (a:Int)=A4v P a:=by
  unfold C9k A4v
  rw[Q0 (by omega),Q0 (by omega),Q3 ha,bC,aF ha]
  show F0w _=E2i _
  unfold F0w E2i
  generalize P.A0c[a]=x
  cases x.now<;>rfl
 rw[F2r E,eb]
theorem D9r(hl:P.sw.length=P.re.length)(h1000:P.A0c.length≤1000∧P.sw.length≤1000){a:Nat}(ha:a<A5d P):FX 56 [.int (pl:Nat),.int (a:Nat),.agg L]=some [.bool (A4v P a)]:=by
 have g:=D2u E
 unfold A5d at ha
 have z1:(A0p za).length=P.A0c.length:=by rw[B9v,E.zl]
 have z2:(A0p swa).length=P.sw.length:=by rw[B9v,E.swl]
 have z3:(A0p rea).length=P.re.length:=by rw[B9v,E.rel]
 rw[D2k]
 have w1:bG.wrap ((a:Int)-P.A0c.length)=(a:Int)-P.A0c.length:=A0v _ (by omega) (by omega)
 have w2:bG.wrap ((a:Int)-P.A0c.length-P.sw.length)=(a:Int)-P.A0c.length-P.sw.length:=A0v _ (by omega) (by omega)
 have w3:bG.wrap (2*(P.sw.length:Int))=2*(P.sw.length:Int):=A0v _ (by omega) (by omega)
 simp only[HH,E.A4i,A0e.A1i,A0e.A1p,A0e.A1w,g.2.1,g.2.2.1,g.2.2.2,z1,z2,z3,w1,w2,w3]
 by_cases h1:a<P.A0c.length
 ·have n1:(a:Int)<(P.A0c.length:Int):=by omega
  simp only[n1,Q6,Q5,H6p E h1,A0n,aB,aC,aA]
 ·have n1:¬(a:Int)<(P.A0c.length:Int):=by omega
  by_cases h2:a-P.A0c.length<P.sw.length
  ·have n2:(a:Int)-P.A0c.length<(P.sw.length:Int):=by omega
   have n3:(a:Int)-P.A0c.length≥0:=by omega
   have ej:((a:Int)-P.A0c.length).toNat=a-P.A0c.length:=by omega
   have hz:a-P.A0c.length<swa.length:=by rw[E.swl];exact h2
   have hx:=aF h2
   have hzz:=aF hz
   obtain⟨q,ptr,k1,k2,_⟩:=E.sw _ _ _ hx hzz
   have p1:=F6m hzz
   have eb:A4v P a=((P.sw[a-P.A0c.length]).1.at_ == 0&&A5y (P.sw[a-P.A0c.length]).2):=by unfold A4v;rw[Q0 h1,Q3 h2,hx];rfl
   rw[eb]
   generalize P.sw[a-P.A0c.length]=y at*
   generalize swa[a-P.A0c.length]=z at*
   simp only[n1,n2,n3,Q7,Q6,aY,Q4,Q5,ej,p1,C5b,HH,k1,SwS.A1i,SwS.A1w]
   have e1:(y.1.at ptr).at_=y.1.at_:=rfl
   have e2:(y.1.at ptr).p=ptr:=rfl
   rw[e1,e2]
   by_cases h0:y.1.at_=0
   ·simp only[h0,beq_self_eq_true,Q5,b9]
    cases ho:y.2 with
    |none=>
     rw[ho]at k2
     have k2:ptr=.nil:=k2
     rw[k2,A8d]
     simp only[B5l,Q5,A0n,aB,aC,aA];rfl
    |some p=>
     rw[ho]at k2
     obtain⟨k2,k3⟩:=k2
     rw[k2,H6k k3]
     simp only[A0n,aB,aC,aA];rfl
   ·have:(y.1.at_ == 0)=false:=by simpa using h0
    simp only[this,aY,Q4,bB,A0n,aB,aC,aA,Q5]
  ·have n2:¬(a:Int)-P.A0c.length<(P.sw.length:Int):=by omega
   have n3:(a:Int)-P.A0c.length<2*(P.sw.length:Int):=by omega
   have n4:(a:Int)-P.A0c.length-P.sw.length≥0:=by omega
   have h3:a-P.A0c.length-P.sw.length<P.re.length:=by omega
   have n5:(a:Int)-P.A0c.length-P.sw.length<(P.re.length:Int):=by omega
   have ej:((a:Int)-P.A0c.length-P.sw.length).toNat=a-P.A0c.length-P.sw.length:=by omega
   have hz:a-P.A0c.length-P.sw.length<rea.length:=by rw[E.rel];exact h3
   have hx:=aF h3
   have hzz:=aF hz
   obtain⟨k1,_⟩:=E.re _ _ _ hx hzz
   have p1:=F6m hzz
   have eb:A4v P a=((P.re[a-P.A0c.length-P.sw.length]).pc == 0):=by unfold A4v;rw[Q0 h1,Q0 h2,hx];rfl
   rw[eb]
   generalize P.re[a-P.A0c.length-P.sw.length]=y at*
   generalize rea[a-P.A0c.length-P.sw.length]=z at*
   simp only[n1,n2,n3,n4,n5,Q7,Q6,aY,Q4,Q5,ej,p1,C5i,HH,k1,ReS.A1i]
end
def GR(G:Nat→Option D)(r pl:Nat)(rows:List D)(b:Nat):Option D:=if b=r then some (.agg [.int (pl:Nat),.agg rows])else G b
section
variable{G:Nat→Option D}{L:List D}{lab:Nat→Nat}{pl w m k r:Nat}{za swa rea:List Nat}{P:A0h}{n:Nat}{rows:List D}
theorem Enc.give(E:Enc G L lab pl w m k za swa rea P):Enc (GR G L.length pl []) (L++[.agg [.int (pl:Nat),.agg []]]) (A4d lab 4 L) pl w m k za swa rea P:=by
 have F:Fr L (L++[.agg [.int (pl:Nat),.agg []]]) (fun _=>False):=Fr.snoc L _ _
 have hp:=F.get E.A4i not_false
 have W:=E.W.fr F not_false not_false not_false
 have no:∀i b,b<L.length→lab b=i→¬(fun _:Nat=>False) b:=fun _ _ _ _=>not_false
 refine⟨W,hp,D9z E F W hp 4,E.zl,E.swl,E.rel,fun i x z hx hz=>(E.ss i x z hx hz).fr F (no _),fun i x z hx hz=>(E.sw i x z hx hz).fr F (no _),fun i x z hx hz=>(E.re i x z hx hz).fr F (no _),fun b x h=>?_⟩
 unfold GR at h
 split at h
 ·rename_i e
  cases h;subst e
  exact⟨by simp,Q0 (bQ _),A5o _ _⟩
 ·exact E.E8a F 4 (fun _ _ q=>q.elim) b x h
theorem Enc.G0g(E:Enc (GR G r pl rows) L lab pl w m k za swa rea P)(y:D)(G':Nat→Option D)(hG:∀b x,G' b=some x→(b=r∧x=y)∨(b≠r∧G b=some x)):Enc G' (L.set r y) (A4d lab 0 L) pl w m k za swa rea P:=by
 obtain⟨hr,lr,_⟩:=E.pre r _ (Q3 rfl)
 have F:Fr L (L.set r y) (·=r):=Fr.set L r y rfl
 obtain⟨l1,l2,l3,l4⟩:=E.l0
 have ne:∀b,lab b=0→¬b=r:=fun b h e=>by rw[e,lr]at h;cases h
 have hp:=F.get E.A4i (ne _ l1)
 have W:=E.W.fr F (ne _ l2) (ne _ l3) (ne _ l4)
 have no:∀i,i≠4→∀b,b<L.length→lab b=i→¬b=r:=fun i hi b _ h e=>by rw[e,lr]at h;exact hi h.symm
 refine⟨W,hp,D9z E F W hp 0,E.zl,E.swl,E.rel,fun i x z hx hz=>(E.ss i x z hx hz).fr F (no _ (by omega)),fun i x z hx hz=>(E.sw i x z hx hz).fr F (no _ (by omega)),fun i x z hx hz=>(E.re i x z hx hz).fr F (no _ (by omega)),fun b x h=>?_⟩
 rcases hG b x h with⟨e1,e2⟩|⟨e1,e2⟩
 ·subst e1;subst e2
  exact⟨by rw[aK];exact hr,by rw[A2t F hr];exact lr,A3r hr _⟩
 ·obtain⟨k1,k2,k3⟩:=E.pre b x (by unfold GR;rw[Q0 e1];exact e2)
  exact⟨by rw[aK];exact k1,by rw[A2t F k1];exact k2,by rw[A3i (fun q=>e1 q.symm)];exact k3⟩
end
theorem C3k{a:Nat}(h:a≤100000):(A8g a).wf:=by
 refine⟨In.lit (z:=(a:Int)) (by omega),In.lit (z:=0) (by decide),fun z hz=>?_⟩
 have:z=0:=by
  change z ∈ [(0:Int),0,0,0,0]at hz
  simpa using hz
 rw[this];exact In.lit (by decide)
def A4b(P:A0h)(a d:Nat):A0h:=B8o P (aX d (A8g a))
theorem B0m(P:A0h)(a d:Nat):A4b P a (d+1)=A4b (doP P (A8g a)).2 a d:=rfl
theorem F5c(x y z:D):((aS 2).map fun j=>[x,y].getD j D.nil).set 1 z=[x,z]:=rfl
theorem D9x{G:Nat→Option D}{pl w m k r:Nat}{za swa rea:List Nat}{a t:Nat}(ha:a≤100000)(x3:D):∀(d j n:Nat) (L:List D) (lab:Nat→Nat) (P:A0h) (rows:List D),j+d=t→t≤100000000→Enc (GR G r pl rows) L lab pl w m k za swa rea P→A2i P n→n+d≤100000000→rows.length+d≤1000000000→
  ∃L' lab' rows',A7b (.int (r:Nat)) (.int (a:Nat)) (.int (t:Nat)) x3 [.int (j:Nat),.agg L]=some [.agg L']∧Enc (GR G r pl rows') L' lab' pl w m k za swa rea (A4b P a d)∧A2i (A4b P a d) (n+d)∧rows'.length=rows.length+d:=by
 intro d
 induction d with
 |zero=>
  intro j n L lab P rows hj ht E hP hn hr
  have h1:¬(j:Int)<(t:Int):=by omega
  refine⟨L,lab,rows,?_,E,hP,rfl⟩
  rw[B1k]
  simp only[D.toInt_int,h1,Q7,aY,Q4]
 |succ d ih=>
  intro j n L lab P rows hj ht E hP hn hr
  have h1:(j:Int)<(t:Int):=by omega
  have g1:=(E.pre r _ (Q3 rfl)).2.2
  obtain⟨L1,lab1,n1,E1⟩:=D0v E hP (by omega) (A8g a) (C3k ha)
  have n1:FX 29 [.int (pl:Nat),.int 3,.int (a:Nat),.int 0,.int 0,.int 0,.int 0,.int 0,.int 0,.int 0,.int 0,.int 0,.int 0,.agg L]=some [.bool (doP P (A8g a)).1,.agg L1]:=n1
  have g2:=(E1.pre r _ (Q3 rfl)).2.2
  have hlen:((rows++[D.agg [.int 3,.int (a:Nat),.int 0,.int 0,.int 0,.int 0,.int 0,.int 0,.int 0,.int 0,.int 0,.int 0]]).length:Int)≤1466015503701:=by simp;omega
  have E2:=E1.G0g (.agg [.int (pl:Nat),.agg (rows++[D.agg [.int 3,.int (a:Nat),.int 0,.int 0,.int 0,.int 0,.int 0,.int 0,.int 0,.int 0,.int 0,.int 0]])]) (GR G r pl (rows++[D.agg [.int 3,.int (a:Nat),.int 0,.int 0,.int 0,.int 0,.int 0,.int 0,.int 0,.int 0,.int 0,.int 0]])) fun b x h=>by
   unfold GR at h
   split at h
   ·cases h;exact .inl ⟨by assumption,rfl⟩
   ·exact .inr ⟨by assumption,h⟩
  obtain⟨L',lab',rows',n2,E3,P3,h3⟩:=ih (j+1) (n+1) _ _ _ _ (by omega) ht E2 (C2k hP (by omega) _ (C3k ha)) (by omega) (by simp;omega)
  refine⟨L',lab',rows',?_,by rw[B0m];exact E3,by rw[B0m,show n+(d+1)=n+1+d by omega];exact P3,by rw[h3];simp;omega⟩
  rw[B1k]
  simp only[D.toInt_int,h1,Q6,Q5,A6v,b0,D.A0j,bC,g1,aA,n1,A0n,aB,aC,aD,g2,G3r,hlen,C1b,F5c]
  rw[A0v _ (by omega) (by omega)]
  exact n2
theorem Oth.refl(P:A0h)(a:Nat):Oth P P a:=⟨rfl,rfl,rfl,rfl,fun _ _=>rfl,fun _ _=>rfl,fun _ _=>rfl⟩
theorem Oth.trans{P P1 P2:A0h}{a:Nat}(h:Oth P P1 a)(g:Oth P1 P2 a):Oth P P2 a:=
 ⟨g.c.trans h.c,g.sl.trans h.sl,g.wl.trans h.wl,g.rl.trans h.rl,fun i hi=>(g.ss i hi).trans (h.ss i hi),fun j hj=>(g.sw j (by rw[h.sl];exact hj)).trans (h.sw j hj),fun j hj=>(g.re j (by rw[h.sl,h.wl];exact hj)).trans (h.re j hj)⟩
theorem G9v{X:A0h→Prop}(hX:∀(P:A0h) (n a:Nat),A2i P n→n≤100000000→PI P→PH P→X P→X (doP P (A8g a)).2){G:Nat→Option D}{pl w m k r:Nat}{za swa rea:List Nat}{a:Nat}(ha:a≤100000)(x2:D):∀(μ n:Nat) (L:List D) (lab:Nat→Nat) (P:A0h) (rows:List D),mu P a≤μ→Enc (GR G r pl rows) L lab pl w m k za swa rea P→A2i P n→PI P→PH P→X P→a<A5d P→n+μ≤99000000→rows.length+μ≤900000000→
  ∃d L' lab' rows' P',A6l (.int (r:Nat)) (.int (a:Nat)) x2 [.agg L]=some [.agg L']∧Enc (GR G r pl rows') L' lab' pl w m k za swa rea P'∧A2i P' (n+d)∧PI P'∧PH P'∧X P'∧Oth P P' a∧A4v P' a=true∧d≤μ∧rows'.length≤rows.length+d:=by
 intro μ
 induction μ with
 |zero=>
  intro n L lab P rows hm E hP I H hXP hA hn hr
  cases hb:A4v P a with
  |false=>
   have:=(F9x hP.ok (by omega) I H hP.sr hA hb).2
   omega
  |true=>
   have g1:=(E.pre r _ (Q3 rfl)).2.2
   refine⟨0,L,lab,rows,P,?_,E,hP,I,H,hXP,Oth.refl P a,hb,bM _,bM _⟩
   rw[A7p]
   simp only[HH,g1,D9r E hP.sr ⟨hP.sl,hP.wl⟩ hA,hb]
 |succ μ ih=>
  intro n L lab P rows hm E hP I H hXP hA hn hr
  have g1:=(E.pre r _ (Q3 rfl)).2.2
  cases hb:A4v P a with
  |true=>
   refine⟨0,L,lab,rows,P,?_,E,hP,I,H,hXP,Oth.refl P a,hb,bL _,bM _⟩
   rw[A7p]
   simp only[HH,g1,D9r E hP.sr ⟨hP.sl,hP.wl⟩ hA,hb]
  |false=>
   obtain⟨o,hlt⟩:=F9x hP.ok (by omega) I H hP.sr hA hb
   obtain⟨L1,lab1,rows1,n1,E1,P1,h1⟩:=D9x (t:=1) ha (.agg L) 1 0 n L lab P rows rfl (by decide) E hP (by omega) (by omega)
   have I1:PI (A4b P a 1):=D4b hP (by omega) I _
   have H1:PH (A4b P a 1):=E7m hP (by omega) I H _
   have o:Oth P (A4b P a 1) a:=o
   have hlt:mu (A4b P a 1) a<mu P a:=hlt
   have hA1:a<A5d (A4b P a 1):=by unfold A5d;rw[o.sl,o.wl,o.rl];exact hA
   obtain⟨d,L',lab',rows',P',n2,E2,P2,I2,H2,X2,o2,b2,hd,hr2⟩:=ih (n+1) L1 lab1 _ rows1 (by omega) E1 P1 I1 H1 (hX P n a hP (by omega) I H hXP) hA1 (by omega) (by omega)
   refine⟨d+1,L',lab',rows',P',?_,E2,by rw[show n+(d+1)=n+1+d by omega];exact P2,I2,H2,X2,o.trans o2,b2,by omega,by omega⟩
   rw[A7p]
   have n1:FX 16 [.int (r:Nat),.int (a:Nat),.int 1,.agg L]=some [.agg L1]:=by rw[B0d];exact n1
   simp only[HH,g1,D9r E hP.sr ⟨hP.sl,hP.wl⟩ hA,hb,n1]
   exact n2
theorem H1f{X:A0h→Prop}(hX:∀(P:A0h) (n a:Nat),A2i P n→n≤100000000→PI P→PH P→X P→X (doP P (A8g a)).2){G:Nat→Option D}{pl w m k:Nat}{za swa rea:List Nat}(L0:List D)(hG:∀b x,G b=some x→b≠L0.length)(N B:Nat)(hN:N≤1000):∀(d a n:Nat) (L:List D) (lab:Nat→Nat) (P:A0h) (rows:List D),a+d=N→A5d P=N→Enc (GR G L0.length pl rows) L lab pl w m k za swa rea P→A2i P n→PI P→PH P→X P→
  (∀b,b<a→A4v P b=true)→(∀b,a≤b→mu P b≤B)→n+d*B≤99000000→rows.length+d*B≤900000000→
  ∃n' L' lab' rows' P',B0p (.int (pl:Nat)) (.agg L0) (.int (N:Nat)) [.int (a:Nat),.agg L]=some [.agg rows',.agg L']∧Enc G L' lab' pl w m k za swa rea P'∧A2i P' n'∧n'≤n+d*B∧PI P'∧PH P'∧X P'∧P'.S.c=P.S.c∧A5d P'=N∧(∀b,b<N→A4v P' b=true)∧rows'.length≤rows.length+d*B:=by
 intro d
 induction d with
 |zero=>
  intro a n L lab P rows ha hA E hP I H hXP hb hm hn hr
  have g1:=(E.pre L0.length _ (Q3 rfl)).2.2
  have h1:¬(a:Int)<(N:Int):=by omega
  have E3:Enc G (L.set L0.length (.agg [.int (pl:Nat),.nil])) (A4d lab 0 L) pl w m k za swa rea P:=E.G0g _ G fun b x h=>.inr ⟨hG b x h,h⟩
  refine⟨n,_,_,rows,P,?_,E3,hP,by omega,I,H,hXP,rfl,hA,fun b hlt=>hb b (by omega),by omega⟩
  rw[B7p]
  simp only[D.toInt_int,h1,Q7,aY,Q4,D.A0j,bC,g1,aD,aA,G3r,b0,Q5,F5c]
 |succ d ih=>
  intro a n L lab P rows ha hA E hP I H hXP hb hm hn hr
  have h1:(a:Int)<(N:Int):=by omega
  have e:(d+1)*B=d*B+B:=bO d B
  obtain⟨d1,L1,lab1,rows1,P1,n1,E1,hP1,I1,H1,X1,o1,b1,hd1,hr1⟩:=G9v hX (a:=a) (by omega) (.agg L) B n L lab P rows (hm a (bM _)) E hP I H hXP (by omega) (by omega) (by omega)
  obtain⟨n',L',lab',rows',P',n2,E2,hP2,hn2,I2,H2,X2,c2,a2,b2,r2⟩:=ih (a+1) (n+d1) L1 lab1 P1 rows1 (by omega) (by unfold A5d at hA⊢;rw[o1.sl,o1.wl,o1.rl];exact hA) E1 hP1 I1 H1 X1 (fun b h=>by
    by_cases q:b=a
    ·rw[q];exact b1
    ·rw[(o1.mu q).2];exact hb b (by omega)) (fun b h=>by rw[(o1.mu (show b≠a by omega)).1];exact hm b (by omega)) (by omega) (by omega)
  refine⟨n',L',lab',rows',P',?_,E2,hP2,by omega,I2,H2,X2,c2.trans o1.c,a2,b2,by omega⟩
  rw[B7p]
  have n1:FX 37 [.int (L0.length:Nat),.int (a:Nat),.agg L]=some [.agg L1]:=by rw[C5t];exact n1
  simp only[D.toInt_int,h1,Q6,Q5,D.A0j,n1,A0n,aB,aC,aA]
  rw[A0v _ (by omega) (by omega)]
  exact n2
end
section
structure C6h(P:A0h):Prop where
 s:(P.A0c.length:Int)=P.S.c.c0
 w:(P.sw.length:Int)=A2a P.S.c
theorem H6x{P:A0h}{n:Nat}(at_:A2i P n)(hn:n≤100000000)(e:PEv)(h:C6h P):C6h (doP P e).2:=by
 have st:∀(P':A0h),P'.S.c=P.S.c→P'.A0c.length=P.A0c.length→P'.sw.length=P.sw.length→C6h P':=fun P' a b c=>⟨by rw[a,b];exact h.s,by rw[a,c];exact h.w⟩
 unfold doP
 split
 ·exact st _ rfl rfl rfl
 split
 ·have k:=C3r (B1i at_.ok) (by omega) e.who
  exact st _ k.w.c k.sl k.swl
 split
 ·split
  ·split
   ·exact st _ rfl (by show(P.A0c.set _ _).length=_;rw[aK]) rfl
   ·exact st _ rfl rfl rfl
  split
  ·split
   ·exact st _ rfl (by show(P.A0c.set _ _).length=_;rw[aK]) rfl
   ·exact st _ rfl rfl rfl
  ·exact st _ rfl rfl rfl
 ·exact st _ rfl rfl rfl
theorem H5u(c:Cf)(hc:c.ok):C6h (A1x c):=by
 have hs:=A6d c hc
 have h0:=hc.1
 refine⟨?_,?_⟩
 ·show((((aS c.c0.toNat).map fun(i:Nat)=>A3s c i).length:Nat):Int)=c.c0
  rw[aJ,aQ];omega
 ·show((((aS (A2a c).toNat).map fun(i:Nat)=>B3k i).length:Nat):Int)=A2a c
  rw[aJ,aQ];omega
theorem G5e(c:Cf)(hc:c.ok):FX 36 [.int c.c0,.int c.c1,.int c.c2,.int c.c3,.int c.c4,.int c.c5,.int c.c6]=some [.int (c.c0+2*A2a c)]:=by
 have hs:=A6d c hc
 have h0:=hc.1
 have h:FX 15 [.int c.c0,.int c.c1,.int c.c2,.int c.c3,.int c.c4,.int c.c5,.int c.c6]=some [.int (A2a c)]:=D4x c hc
 rw[D1m,h]
 simp only[A0n,aB,aC,aA,D.toInt_int]
 rw[A0v (2*_) (by omega) (by omega),A0v _ (by omega) (by omega)]
theorem G8f{P:A0h}{n:Nat}(hP:A2i P n)(I:PI P)(b:Nat):mu P b≤1500*n+20000:=by
 have hc:=hP.ok.S.c
 have hall:=A4q P.S.c hc
 unfold mu
 split
 ·cases e:P.A0c[b]? with
  |none=>exact bL _
  |some x=>
   have so:=hP.ok.A0c x (aH e)
   show muS x≤_
   unfold muS
   have hq:=so.D6w
   have:(match x.now with|some (pr,o)=>muA pr o|none=>0)≤20000:=by
    cases hn:x.now with
    |none=>exact bL _
    |some v=>
     obtain⟨pr,o⟩:=v
     have po:=so.prog pr o hn
     show muA pr o≤20000
     have ho:E3r o≤14:=by
      cases h:o with
      |none=>exact bL _
      |some p=>
       have ht:tr P (2*b)=some p:=by
        unfold tr
        rw[Q3 (by omega),show 2*b/2=b by omega,e]
        show x.now.bind _=_
        rw[hn,h];rfl
       have:=(I.tri _ _ ht).1
       show(14-p.pc).toNat≤14
       omega
     have h1:=po.pc
     have h2:=po.tries
     have h3:=po.n
     have h4:=po.A3x
     unfold muA
     split
     ·split<;>omega
     ·omega
   exact bR (Nat.add_le_add (bN 1500 hq) this) (by omega)
 ·split
  ·cases e:P.sw[b-P.A0c.length]? with
   |none=>exact bL _
   |some y=>
    have so:=(hP.ok.sw y (aH e)).1
    show muW P.S.c y≤_
    have ho:0≤opc y.2:=by
     unfold opc
     cases h:y.2 with
     |none=>exact bD _
     |some p=>
      have hw:b-P.A0c.length<P.sw.length:=by assumption
      have ht:tr P (2*(b-P.A0c.length)+1)=some p:=by
       unfold tr
       rw[Q0 (by omega),show(2*(b-P.A0c.length)+1)/2=b-P.A0c.length by omega,e];exact h
      have:=(I.tri _ _ ht).1
      dsimp only
      split<;>omega
    have hN:A0o P.S.c*A0o P.S.c≤24*24:=bF hall.2 hall.2 (by omega) (by decide)
    obtain⟨s1,s2⟩:=so
    unfold muW
    split
    ·omega
    ·omega
  ·cases e:P.re[b-P.A0c.length-P.sw.length]? with
   |none=>exact bL _
   |some y=>
    have so:=(hP.ok.re y (aH e)).pc
    show muR P.S.c y≤_
    unfold muR
    split<;>omega
section
variable{G:Nat→Option D}{L:List D}{lab:Nat→Nat}{pl w m k:Nat}{za swa rea:List Nat}{P:A0h}{n:Nat}(E:Enc G L lab pl w m k za swa rea P)(hP:A2i P n)
include E hP
theorem G1q(hL:C6h P):(A5d P:Int)=P.S.c.c0+2*A2a P.S.c∧A5d P≤100:=by
 have hs:=A6d P.S.c hP.ok.S.c
 have h0:=hP.ok.S.c.1
 have h1:=hL.s
 have h2:=hL.w
 have h3:=hP.sr
 unfold A5d
 omega
theorem G7m{X:A0h→Prop}(hX:∀(P:A0h) (n a:Nat),A2i P n→n≤100000000→PI P→PH P→X P→X (doP P (A8g a)).2)(hXP:X P)(hn:n≤1000)(I:PI P)(H:PH P)(hL:C6h P):∃rows L' lab' P' n',FX 14 [.int (pl:Nat),.agg L]=some [.agg rows,.agg L']∧Enc G L' lab' pl w m k za swa rea P'∧A2i P' n'∧n'≤99000000∧PI P'∧PH P'∧X P'∧P'.S.c=P.S.c∧(∀b,b<A5d P'→A4v P' b=true)∧rows.length≤900000000:=by
 obtain⟨a1,a2⟩:=G1q E hP hL
 have E1:=E.give
 have hB:A5d P*(1500*n+20000)≤100*1520000/2:=by
  have:A5d P*(1500*n+20000)≤50*1520000:=Nat.mul_le_mul (by
   have hs:=A6d P.S.c hP.ok.S.c
   have h0:=hP.ok.S.c.1
   omega) (by omega)
  omega
 obtain⟨n',L',lab',rows',P',n1,E2,hP2,hn2,I2,H2,X2,c2,l2,b2,r2⟩:=H1f hX L (fun b x h=>by have:=(E.pre b x h).1;omega) (A5d P) (1500*n+20000) (by omega) (A5d P) 0 n _ _ P [] (by omega) rfl E1 hP I H hXP (fun b h=>by omega) (fun b _=>G8f hP I b) (by omega) (by simp;omega)
 refine⟨rows',L',lab',P',n',?_,E2,hP2,by omega,I2,H2,X2,c2,fun b h=>b2 b (by rw[←l2];exact h),by simp only[aC]at r2;omega⟩
 have g:=D2u E1
 have ag:=G5e P.S.c hP.ok.S.c
 rw[←a1]at ag
 rw[E1v]
 simp only[HH,E1.A4i,A0e.A1f,g.1,E1.W.w,A0d.A1f,A0d.A1i,A0d.A1p,A0d.A1w,A0d.A1u,A0d.A2m,A0d.A3z,ag]
 exact n1
def D7b(S:WS)(x:Nat):D:=.agg ((stx S x).ds++(tmx S x).ds)
def B5w(S:WS):List D:=(aS (A0o S.c).toNat).map (D7b S)
theorem F4t(hn:n≤100000000)(I:PI P):FX 9 [.int (pl:Nat),.agg L]=some [.agg (B5w P.S)]:=by
 have hc:=hP.ok.S.c
 have hall:=A4q P.S.c hc
 have hwl:=I.wi.len
 have g:=D2u E
 have key:∀(d j:Nat),(j+d:Int)=A0o P.S.c→B1w (.int (pl:Nat)) (.agg L) (.agg (P.S.words.map wN)) (.int (A0o P.S.c)) [.int (j:Nat),.agg ((aS j).map (D7b P.S))]=some [.agg (B5w P.S)]:=by
  intro d
  induction d with
  |zero=>
   intro j hj
   have h1:¬(j:Int)<A0o P.S.c:=by omega
   have e:(A0o P.S.c).toNat=j:=by omega
   rw[B9g]
   simp only[D.toInt_int,h1,Q7,aY,Q4]
   unfold B5w;rw[e]
  |succ d ih=>
   intro j hj
   have h1:(j:Int)<A0o P.S.c:=by omega
   have e1:bG.wrap (2*(j:Int))=((2*j:Nat):Int):=by rw[A0v _ (by omega) (by omega)];omega
   have e2:bG.wrap (((2*j:Nat):Int)+1)=((2*j+1:Nat):Int):=by rw[A0v _ (by omega) (by omega)];omega
   have e3:bG.wrap ((j:Int)+1)=((j+1:Nat):Int):=by rw[A0v _ (by omega) (by omega)];omega
   have l1:2*j<P.S.words.length:=by omega
   have l2:2*j+1<P.S.words.length:=by omega
   have gw:∀i,i<P.S.words.length→(P.S.words.map wN).getD i D.nil=.int ((wd P.S.words (i:Int):Nat):Int):=fun i hi=>by
    rw[aG,aL,aF hi]
    unfold wd
    rw[Q0 (by omega),bC,aG,aF hi];rfl
   have s1:=D0p (P.S.word (j:Nat)) (WS.word_lt hP.ok.S _)
   have s2:=F2o (P.S.A8i (j:Nat)) (WS.H2h hP.ok.S _)
   have v1:wd P.S.words ((2*j:Nat):Int)=P.S.word (j:Nat):=by unfold WS.word;congr 1
   have v2:wd P.S.words ((2*j+1:Nat):Int)=P.S.A8i (j:Nat):=by unfold WS.A8i;congr 1
   have hl1:((2*j:Nat):Int)<((P.S.words.map wN).length:Int):=by rw[aJ];omega
   have hl2:((2*j+1:Nat):Int)<((P.S.words.map wN).length:Int):=by rw[aJ];omega
   have p1:((2*j:Nat):Int)≥0:=by omega
   have p2:((2*j+1:Nat):Int)≥0:=by omega
   have nx:=ih (j+1) (by omega)
   rw[List.range_succ,aR]at nx
   have hcd:[j].map (D7b P.S)=[D.agg [.int (stx P.S j).k,.bool (stx P.S j).f,.int (stx P.S j).g,.int (stx P.S j).l,.int (stx P.S j).n,.int (tmx P.S j).name,.int (tmx P.S j).side,.int (tmx P.S j).A0m,.int (tmx P.S j).least,.int (tmx P.S j).A1n]]:=rfl
   rw[hcd]at nx
   have hlen:((((aS j).map (D7b P.S))++[D.agg [.int (stx P.S j).k,.bool (stx P.S j).f,.int (stx P.S j).g,.int (stx P.S j).l,.int (stx P.S j).n,.int (tmx P.S j).name,.int (tmx P.S j).side,.int (tmx P.S j).A0m,.int (tmx P.S j).least,.int (tmx P.S j).A1n]]).length:Int)≤1759218604441:=by simp;omega
   have d1:(A0i (P.S.word (j:Nat))).ds=[.int (stx P.S j).k,.bool (stx P.S j).f,.int (stx P.S j).g,.int (stx P.S j).l,.int (stx P.S j).n]:=rfl
   have d2:(B5p (P.S.A8i (j:Nat))).ds=[.int (tmx P.S j).name,.int (tmx P.S j).side,.int (tmx P.S j).A0m,.int (tmx P.S j).least,.int (tmx P.S j).A1n]:=rfl
   rw[d1]at s1;rw[d2]at s2
   rw[B9g]
   simp only[HH,h1,Q6,E.A4i,A0e.A1f,g.1,E.W.w,A0d.A1f,A0d.A1i,A0d.A1p,A0d.A1w,A0d.A1u,A0d.A2m,A0d.A3z,A8k,B0x,e1,e2,p1,p2,hl1,hl2,gw _ l1,gw _ l2,v1,v2,s1,s2,hlen,e3]
   exact nx
 have k0:=key (A0o P.S.c).toNat 0 (by omega)
 rw[E5s]
 simp only[HH,E.A4i,A0e.A1f,g.1,E.W.w,A0d.A1f,A0d.A1i,A0d.A1p,A0d.A1w,A0d.A1u,A0d.A2m,A0d.A3z,A0d.A8l,G6f E hP.ok hn,F0x hP.ok.S]
 exact k0
end
end
theorem H5c{S:WS}{re:ReS}(hc:S.c.ok)(w:WI S)(I:ReI S re):GS S (B6i re S).2:=by
 show GS S (A6a re S).2
 unfold A6a
 split
 ·exact GS.refl S
 split
 ·exact GS.refl S
 split
 ·rename_i q
  unfold A3h
  split
  ·exact GS.refl S
  rename_i e1
  have e1:(A1y re.st).1=0:=by simpa using e1
  split
  ·exact GS.refl S
  split
  ·exact GS.refl S
  split
  ·exact(C3g w.len (re.pc/4) re.word (A1y re.st).2 (by rw[(D4u e1).2,(I.st (.inr q)).1])).tell (B9n _ _ _ _) _ (by dsimp only;decide)
  ·exact GS.refl S
 ·show GS S (if re.done then A4r S (re.pc/4) re.st.g S.c.c5 (A5k re.st re.at_)else S)
  split
  ·exact(A6b hc _ _ _ _).gs
  ·exact GS.refl S
theorem CI.gs{P P':A0h}(h:CI P)(hc:P.S.c.ok)(hsl:(P.A0c.length:Int)=P.S.c.c0)(g:GS P.S P'.S)(ho:P'.outs=P.outs)(hs:∀(i:Nat) x,P'.A0c[i]?=some x→∃y,P.A0c[i]?=some y∧y.se=x.se∧y.now=x.now):CI P':=by
 refine⟨fun i x hx=>?_,fun o h1 k1 k2=>by rw[g.c];exact h.gd o (by rw[←ho];exact h1) k1 k2⟩
 obtain⟨y,k1,k2,k3⟩:=hs i x hx
 have C:=h.s i y k1
 have hi:(i:Int)<P.S.c.c0:=by have:=(aE.1 k1).1;omega
 refine⟨fun k hk0 hk1=>?_,fun k hk0 hk1 hb=>?_,fun pr o e=>?_,fun k hk0 hk1=>?_⟩
 ·rw[g.c]at hk1⊢
  rw[←k2,g.g _ (C9y hc hi hk0 hk1).2.1];exact C.g k hk0 hk1
 ·rw[g.c]at hk1
  rw[←k2,ho]
  exact C.id k hk0 hk1 fun⟨pr,o,e,q⟩=>hb ⟨pr,o,by rw[←k3];exact e,q⟩
 ·rw[←k2];exact C.cur pr o (by rw[k3];exact e)
 ·rw[g.c]at hk1
  rw[←k2];exact C.pos k hk0 hk1
theorem H7v{P:A0h}{n:Nat}(at_:A2i P n)(I:PI P)(L:LI P)(hsl:(P.A0c.length:Int)=P.S.c.c0)(h:CI P)(e:PEv):CI (doP P e).2:=by
 have ok:=at_.ok
 have hc:=ok.S.c
 have plain:∀P':A0h,GS P.S P'.S→P'.outs=P.outs→P'.A0c=P.A0c→CI P':=fun P' g ho hs=>h.gs hc hsl g ho fun i x hx=>⟨x,by rw[←hs];exact hx,rfl,rfl⟩
 have one:∀(P':A0h) (i:Nat) (x x':A0w),P.A0c[i]?=some x→P'.A0c=P.A0c.set i x'→x'.se=x.se→x'.now=x.now→P'.S=P.S→P'.outs=P.outs→CI P':=by
  intro P' i x x' hx hs s1 s2 hS ho
  refine h.gs hc hsl (by rw[hS];exact GS.refl _) ho fun j y hy=>?_
  rw[hs]at hy
  rcases B4p hy with⟨rfl,rfl⟩|⟨_,hy⟩
  ·exact⟨x,hx,s1.symm,s2.symm⟩
  ·exact⟨y,hy,rfl,rfl⟩
 unfold doP
 split
 ·exact plain _ ⟨rfl,fun _ _=>rfl,.inl rfl⟩ rfl rfl
 split
 ·have on:∀P1:A0h,CI P1→CI P1.on:=fun P1 c=>⟨fun i x hx=>by have:=c.s i x hx;exact⟨this.g,this.id,this.cur,this.pos⟩,c.gd⟩
  refine on _ ?_
  unfold A2w
  split
  ·exact plain _ (GS.refl _) rfl rfl
  split
  ·split
   ·rename_i x hx
    have I':PI P.got:=I.same ok.S.c ok.re (A1s.refl _) (fun _=>rfl) rfl rfl
    have L':LI P.got:=L.same rfl fun i x hx=>⟨x,hx,rfl,rfl⟩
    have h':CI P.got:=⟨fun i x hx=>by have:=h.s i x hx;exact⟨this.g,this.id,this.cur,this.pos⟩,h.gd⟩
    rcases E8d (B1i ok) I' hx with⟨q,_,_⟩|⟨x1,pr,o,x',D⟩
    ·rw[q];exact h'
    ·generalize (A3u P.got e.who.toNat x).2=P1 at D
     obtain⟨b,d,hp,a,h0⟩:=D
     have hpart:x1.se.part=e.who.toNat:=by rw[b.se];exact I'.part _ x hx
     have hx0:P.A0c[e.who.toNat]?=some x:=hx
     have htr:tr P.got (2*e.who.toNat)=x.now.bind (·.2):=by
      unfold tr
      rw[Q3 (by omega),show 2*e.who.toNat/2=e.who.toNat by omega,hx];rfl
     have Ip:A3j P.got.S e.who.toNat pr∧0≤pr.done∧∀p,o=some p→A4o P.got.S p:=by
      rcases b.c with⟨_,hn⟩|⟨_,q,_,_,e1,e2⟩
      ·refine⟨I'.prog _ x pr o hx hn,((ok.A0c x (aH hx0)).prog pr o hn).done.1,fun p hp=>I'.tri (2*e.who.toNat) p ?_⟩
       rw[htr,hn];exact hp
      ·rw[e1,e2];exact⟨PrS.C0w _ _ _,bD _,fun p hp=>by cases hp⟩
     have g:=H4e (o:=o) (ss:=x1.nl) (po:=(P.got.use x1.ev).nl) (se:=x1.se) hc I'.wi (by rw[hpart];exact Ip.1) Ip.2.2 h0 Ip.2.1
     have kc:=(C0v (o:=o) (ss:=x1.nl) (po:=(P.got.use x1.ev).nl) (se:=x1.se) hc I'.wi (by rw[hpart];exact Ip.1) Ip.2.2 h0 Ip.2.1).adv.c
     exact CI.step (B1i ok) hsl hx b d hp hpart a g h0 Ip.1 kc L' h'
   ·exact plain _ (GS.refl _) rfl rfl
  split
  ·split
   ·exact plain _ (F3u hc I.wi.len) rfl rfl
   ·exact plain _ (GS.refl _) rfl rfl
  ·split
   ·rename_i y hy
    exact plain _ (H5c hc I.wi (I.re _ y hy)) rfl rfl
   ·exact plain _ (GS.refl _) rfl rfl
 split
 ·split
  ·split
   ·rename_i x hx;exact one _ e.who.toNat x _ hx rfl rfl rfl rfl rfl
   ·exact plain _ (GS.refl _) rfl rfl
  split
  ·split
   ·rename_i x hx;exact one _ e.who.toNat x _ hx rfl rfl rfl rfl rfl
   ·exact plain _ (GS.refl _) rfl rfl
  ·exact plain _ (GS.refl _) rfl rfl
 ·exact plain _ (GS.refl _) rfl rfl
theorem H7a(c:Cf)(hc:c.ok):CI (A1x c):=by
 have hst:∀x,stx (B0l c) x=St.zero:=fun x=>by unfold stx WS.word B0l;dsimp only;rw[D7z];rfl
 have hs:∀(i:Nat) x,(A1x c).A0c[i]?=some x→x=A3s c i:=fun i x h=>B9w (f:=fun(i:Nat)=>A3s c i) h
 have z:∀(n:Nat) (k:Int),atL (aX n 0) k=0:=fun n k=>by
  unfold atL
  rw[aG,List.getElem?_replicate];split<;>rfl
 refine⟨fun i x hx=>?_,fun o ho=>by cases (show o ∈ ([]:List Out)from ho)⟩
 rw[hs i x hx]
 refine⟨fun k _ _=>?_,fun k _ _ _=>?_,fun pr o e=>(by cases e),fun k _ _=>.inl ?_⟩
 ·rw[show(A1x c).S=B0l c from rfl,hst];exact z _ _
 ·exact z _ _
 ·exact z _ _
def GP(S:WS):Prop:=∀x,InC S.c x→(stx S x).live=true→1≤(stx S x).g
theorem Adv.gp{S S':WS}{own rel:Int→Prop}(A:Adv S S' own rel)(h:GP S):GP S':=by
 intro x hx hl
 rw[A.c]at hx
 by_cases q:(stx S' x).g≤(stx S x).g
 ·obtain⟨a,b,_⟩:=A.tms x hx hl q
  rw[b];exact h x hx a
 ·have:=(A9o (S.word x)).2.1.1
  have:0≤(stx S x).g:=this
  omega
structure B3w(P0 P:A0h)(i:Nat)(se:A0l)(nw:Option (PrS × Option A0a))(qu:List Qe)(S:WS)(outs:List Out):Prop where
 A0c:∃x,P.A0c=P0.A0c.set i x∧x.se=se∧x.now=nw∧x.queue=qu
 sw:P.sw=P0.sw
 re:P.re=P0.re
 S:P.S=S
 outs:P.outs=outs
theorem B3w.at{P0 P:A0h}{i:Nat}{se:A0l}{nw:Option (PrS × Option A0a)}{qu:List Qe}{S:WS}{outs:List Out}(h:B3w P0 P i se nw qu S outs)(hi:i<P0.A0c.length):∃x,P.A0c[i]?=some x∧x.se=se∧x.now=nw∧x.queue=qu∧P.A0c.length=P0.A0c.length∧∀y,P.A0c.set i y=P0.A0c.set i y:=by
 obtain⟨x,e,k⟩:=h.A0c
 refine⟨x,by rw[e,aI,Q3 rfl,Q3 hi],k.1,k.2.1,k.2.2,by rw[e,aK],fun y=>by rw[e,List.set_set]⟩
theorem B2c{P0 P:A0h}{i:Nat}{se:A0l}{nw:Option (PrS × Option A0a)}{qu:List Qe}{S:WS}{outs:List Out}{pr:PrS}{qu':List Qe}(hi:i<P0.A0c.length)(h:B3w P0 P i se nw qu S outs)
  (hb:(nw=some (pr,none)∧qu'=qu)∨(nw=none∧∃q,qu=q::qu'∧pr=PrS.start q.a)) (hk:pr.a.kind=2):
  ((A0s (A0f S.c se.part pr.a.cell) pr se S).r=none→B3w P0 (doP P (A8g i)).2 i se (some ((A0s (A0f S.c se.part pr.a.cell) pr se S).pr,none)) qu' (A0s (A0f S.c se.part pr.a.cell) pr se S).S outs)∧
  (∀r,(A0s (A0f S.c se.part pr.a.cell) pr se S).r=some r→∃ev,B3w P0 (doP P (A8g i)).2 i se none qu' (A0s (A0f S.c se.part pr.a.cell) pr se S).S (outs++[⟨se.part,ev,r⟩])):=by
 obtain⟨x,hx,e1,e2,e3,hl,hset⟩:=h.at hi
 rw[D1o]
 have hp:(A2w P.got i).2=(A3u P.got i x).2:=by
  unfold A2w
  rw[Q0 (show ¬((i:Int)<0∨(i:Int)-P.got.A0c.length≥2*P.got.sw.length)by show ¬((i:Int)<0∨(i:Int)-P.A0c.length≥2*P.sw.length);omega),Q3 (show(i:Int)-P.got.A0c.length<0 by show(i:Int)-P.A0c.length<0;omega),bC,show P.got.A0c[i]?=some x from hx]
 rw[hp]
 have sec:(A0s (A0f S.c se.part pr.a.cell) pr se S).se=se:=by
  unfold A0s
  repeat' (first|rfl|split)
 obtain⟨x1,b1,b2,b3⟩:∃x1,(A3u P.got i x).2=A5u P.got i x1 pr none∧x1.se=se∧x1.queue=qu':=by
  rcases hb with⟨h1,h2⟩|⟨h1,q,h2,h3⟩
  ·refine⟨x,?_,e1,by rw[e3,h2]⟩
   unfold A3u A0w.begun
   rw[e2,h1]
  ·refine⟨{x with queue:=qu',ev:=q.ev,now:=some (PrS.start q.a,none)},?_,e1,rfl⟩
   unfold A3u A0w.begun
   rw[e2,h1,e3,h2,h3]
 rw[b1]
 obtain⟨x',d⟩:=E1q P.got i x1 pr none
 have hA:A2k pr none x1.se x1.nl (P.got.use x1.ev).nl P.got.S=(A0s (A0f S.c se.part pr.a.cell) pr se S).on none x1.nl (P.got.use x1.ev).nl:=by
  have hS:P.got.S=S:=h.S
  unfold A2k
  rw[Q0 (by omega),Q3 hk,b2,hS]
 rw[hA]at d
 generalize A0s (A0f S.c se.part pr.a.cell) pr se S=C at*
 generalize A5u P.got i x1 pr none=P1 at*
 have ds:P1.A0c=P.A0c.set i x':=d.A0c
 have base:P1.on.A0c=P0.A0c.set i x'∧x'.se=se∧x'.queue=qu':=⟨by show P1.A0c=_;rw[ds,hset],by rw[d.se];exact sec,by rw[d.queue,b3]⟩
 refine⟨fun hr=>?_,fun r hr=>⟨x1.ev,?_⟩⟩
 ·rcases d.c with⟨_,n1,_,o1⟩|⟨r,r1,_⟩
  ·exact⟨⟨x',base.1,base.2.1,n1,base.2.2⟩,d.sw.trans h.sw,d.re.trans h.re,d.S,o1.trans h.outs⟩
  ·have r1:C.r=some r:=r1
   rw[hr]at r1;cases r1
 ·rcases d.c with⟨r1,_⟩|⟨r',r1,n1,o1⟩
  ·have r1:C.r=none:=r1
   rw[hr]at r1;cases r1
  ·have r1:C.r=some r':=r1
   rw[hr]at r1;cases r1
   refine⟨⟨x',base.1,base.2.1,n1,base.2.2⟩,d.sw.trans h.sw,d.re.trans h.re,d.S,?_⟩
   show P1.outs=_
   rw[o1]
   have sp:C.se.part=se.part:=by rw[sec]
   show P.outs++[⟨C.se.part,x1.ev,r⟩]=_
   rw[h.outs,sp]
def A9h(i:Nat)(a:Ask):PEv:=⟨1,i,0,a⟩
theorem G7y{P0:A0h}{i:Nat}{x:A0w}(hx:P0.A0c[i]?=some x)(hn:x.now=none)(hq:x.queue=[])(a:Ask):∃ev,B3w P0 (doP P0 (A9h i a)).2 i x.se none [⟨a,ev⟩] P0.S P0.outs:=by
 have hi:=(aE.1 hx).1
 have e:(doP P0 (A9h i a)).2=(D0w P0.got i x a).on:=by
  unfold doP
  rw[Q0 (show ¬(A9h i a).kind=2 by show ¬(1:Int)=2;decide),Q0 (show ¬(A9h i a).kind=3 by show ¬(1:Int)=3;decide),Q3 (show 0≤(A9h i a).who∧(A9h i a).who<P0.A0c.length by show(0:Int)≤i∧(i:Int)<P0.A0c.length;omega),Q3 (show(A9h i a).kind=1 from rfl)]
  show(match P0.A0c[((i:Nat):Int).toNat]? with|some x=>(true,(D0w P0.got ((i:Nat):Int).toNat x a).on)|none=>(false,P0.got.on)).2=_
  rw[bC,hx]
 rw[e]
 exact⟨P0.events,⟨_,rfl,rfl,hn,by show x.queue++_=_;rw[hq];rfl⟩,rfl,rfl,rfl,rfl⟩
theorem H6g(x:Int)(pr:PrS)(se:A0l)(S:WS):(A2d x pr se S).2.c=S.c∧(A2d x pr se S).1.a=pr.a:=by
 have tc:∀(old:Nat) (s:St),(S.turn x old s).2.c=S.c:=fun old s=>by
  unfold WS.turn
  split
  ·rfl
  ·dsimp only;split<;>rfl
 unfold A2d
 repeat' (first|exact⟨rfl,rfl⟩|exact⟨tc _ _,rfl⟩|split)
theorem G2w{x:Int}{pr:PrS}{se:A0l}{S:WS}(h:0<pr.done):A2d x pr se S=(pr,S):=by
 unfold A2d
 rw[Q3 (by omega)]
def A5l(x:Int)(a:Ask)(se:A0l)(S:WS):PrS × WS:=A2d x {PrS.start a with word:=S.word x,st:=A0i (S.word x),pc:=2} se S
def F5m(x:Int)(a:Ask)(se:A0l)(S:WS):WS:=if(A5l x a se S).1.done=1 then A4r (A5l x a se S).2 x (A5l x a se S).1.st.g S.c.c5 (A5k (A5l x a se S).1.st (A5l x a se S).1.at_)else(A5l x a se S).2
theorem can9{P0 P:A0h}{i:Nat}{se:A0l}{q:Qe}{S:WS}{outs:List Out}(hi:i<P0.A0c.length)(h:B3w P0 P i se none [q] S outs)(hk:q.a.kind=2)(hx:0≤A0f S.c se.part q.a.cell)(hd:0<(A5l (A0f S.c se.part q.a.cell) q.a se S).1.done):
  ∃ev r,B3w P0 (A4b P i 9) i se none [] (F5m (A0f S.c se.part q.a.cell) q.a se S) (outs++[⟨se.part,ev,r⟩])∧r.kind=2∧r.code=D7k (A5l (A0f S.c se.part q.a.cell) q.a se S).1.done∧r.asked=((A5l (A0f S.c se.part q.a.cell) q.a se S).1.done == 2):=by
 generalize hX:A0f S.c se.part q.a.cell=x at*
 have tc:=H6g x {PrS.start q.a with word:=S.word x,st:=A0i (S.word x),pc:=2} se S
 have eC:(A5l x q.a se S).2.c=S.c:=tc.1
 have eA:(A5l x q.a se S).1.a=q.a:=tc.2
 have hX2:∀pr:PrS,pr.a=q.a→A0f S.c se.part pr.a.cell=x:=fun pr e=>by rw[e];exact hX
 have hX3:∀pr:PrS,pr.a=q.a→A0f (A5l x q.a se S).2.c se.part pr.a.cell=x:=fun pr e=>by rw[eC];exact hX2 pr e
 have kk:∀pr:PrS,pr.a=q.a→pr.a.kind=2:=fun pr e=>by rw[e];exact hk
 have c0:A0s x (PrS.start q.a) se S=A5p (PrS.start q.a,S) se 1:=by
  unfold A0s
  rw[Q3 (show(PrS.start q.a).pc=0 from rfl),Q0 (by omega)];rfl
 have s1:=(B2c hi h (.inr ⟨rfl,q,rfl,rfl⟩) (kk (PrS.start q.a) rfl)).1 (by rw[hX2 _ rfl,c0];rfl)
 rw[hX2 _ rfl,c0]at s1
 change B3w P0 _ i se (some ({PrS.start q.a with pc:=1},none)) [] S outs at s1
 have c1:A0s x {PrS.start q.a with pc:=1} se S=A5p ({PrS.start q.a with word:=S.word x,st:=A0i (S.word x),pc:=1},S) se 2:=by
  unfold A0s
  rw[Q0 (show ¬(1:Int)=0 by decide),Q3 (.inl rfl),Q3 (show(PrS.start q.a).done=0 from rfl)];rfl
 have s2:=(B2c hi s1 (.inl ⟨rfl,rfl⟩) (kk {PrS.start q.a with pc:=1} rfl)).1 (by rw[hX2 {PrS.start q.a with pc:=1} rfl,c1];rfl)
 rw[hX2 {PrS.start q.a with pc:=1} rfl,c1]at s2
 change B3w P0 _ i se (some ({PrS.start q.a with word:=S.word x,st:=A0i (S.word x),pc:=2},none)) [] S outs at s2
 have c2:A0s x {PrS.start q.a with word:=S.word x,st:=A0i (S.word x),pc:=2} se S=A5p (A5l x q.a se S) se 3:=by
  unfold A0s
  rw[Q0 (show ¬(2:Int)=0 by decide),Q0 (show ¬((2:Int)=1∨(2:Int)=3∨(2:Int)=5)by decide),Q3 (.inl rfl)];rfl
 have s3:=(B2c hi s2 (.inl ⟨rfl,rfl⟩) (kk {PrS.start q.a with word:=S.word x,st:=A0i (S.word x),pc:=2} rfl)).1 (by rw[hX2 {PrS.start q.a with word:=S.word x,st:=A0i (S.word x),pc:=2} rfl,c2];rfl)
 rw[hX2 {PrS.start q.a with word:=S.word x,st:=A0i (S.word x),pc:=2} rfl,c2]at s3
 change B3w P0 _ i se (some ({(A5l x q.a se S).1 with pc:=3},none)) [] (A5l x q.a se S).2 outs at s3
 generalize hT:A5l x q.a se S=T at*
 have hd0:¬T.1.done=0:=by omega
 have odd:∀p:Int,p=3∨p=5→A0s x {T.1 with pc:=p} se T.2=A5p (T.1,T.2) se (p+1):=fun p hp=>by
  unfold A0s
  rw[Q0 (show ¬p=0 by omega),Q3 (show p=1∨p=3∨p=5 by omega),Q0 hd0];rfl
 have even:∀p:Int,p=4∨p=6→A0s x {T.1 with pc:=p} se T.2=A5p (T.1,T.2) se (p+1):=fun p hp=>by
  unfold A0s
  rw[Q0 (show ¬p=0 by omega),Q0 (show ¬(p=1∨p=3∨p=5)by omega),Q3 (show p=2∨p=4∨p=6 by omega),G2w (pr:={T.1 with pc:=p}) hd];rfl
 have s4:=(B2c hi s3 (.inl ⟨rfl,rfl⟩) (kk {T.1 with pc:=3} eA)).1 (by rw[hX3 {T.1 with pc:=3} eA,odd 3 (.inl rfl)];rfl)
 rw[hX3 {T.1 with pc:=3} eA,odd 3 (.inl rfl)]at s4
 change B3w P0 _ i se (some ({T.1 with pc:=4},none)) [] T.2 outs at s4
 have s5:=(B2c hi s4 (.inl ⟨rfl,rfl⟩) (kk {T.1 with pc:=4} eA)).1 (by rw[hX3 {T.1 with pc:=4} eA,even 4 (.inl rfl)];rfl)
 rw[hX3 {T.1 with pc:=4} eA,even 4 (.inl rfl)]at s5
 change B3w P0 _ i se (some ({T.1 with pc:=5},none)) [] T.2 outs at s5
 have s6:=(B2c hi s5 (.inl ⟨rfl,rfl⟩) (kk {T.1 with pc:=5} eA)).1 (by rw[hX3 {T.1 with pc:=5} eA,odd 5 (.inr rfl)];rfl)
 rw[hX3 {T.1 with pc:=5} eA,odd 5 (.inr rfl)]at s6
 change B3w P0 _ i se (some ({T.1 with pc:=6},none)) [] T.2 outs at s6
 have s7:=(B2c hi s6 (.inl ⟨rfl,rfl⟩) (kk {T.1 with pc:=6} eA)).1 (by rw[hX3 {T.1 with pc:=6} eA,even 6 (.inr rfl)];rfl)
 rw[hX3 {T.1 with pc:=6} eA,even 6 (.inr rfl)]at s7
 change B3w P0 _ i se (some ({T.1 with pc:=7},none)) [] T.2 outs at s7
 have c7:A0s x {T.1 with pc:=7} se T.2=A5p ({T.1 with pc:=7},if T.1.done=1 then A4r T.2 x T.1.st.g T.2.c.c5 (A5k T.1.st T.1.at_)else T.2) se 8:=by
  unfold A0s
  rw[Q0 (show ¬(7:Int)=0 by decide),Q0 (show ¬((7:Int)=1∨(7:Int)=3∨(7:Int)=5)by decide),Q0 (show ¬((7:Int)=2∨(7:Int)=4∨(7:Int)=6)by decide),Q3 rfl];rfl
 have s8:=(B2c hi s7 (.inl ⟨rfl,rfl⟩) (kk {T.1 with pc:=7} eA)).1 (by rw[hX3 {T.1 with pc:=7} eA,c7];rfl)
 rw[hX3 {T.1 with pc:=7} eA,c7]at s8
 change B3w P0 _ i se (some ({T.1 with pc:=8},none)) [] (if T.1.done=1 then A4r T.2 x T.1.st.g T.2.c.c5 (A5k T.1.st T.1.at_)else T.2) outs at s8
 have e9:F5m x q.a se S=if T.1.done=1 then A4r T.2 x T.1.st.g T.2.c.c5 (A5k T.1.st T.1.at_)else T.2:=by unfold F5m;rw[hT,eC]
 rw[e9]
 generalize hS:(if T.1.done=1 then A4r T.2 x T.1.st.g T.2.c.c5 (A5k T.1.st T.1.at_)else T.2)=S9 at*
 have nc:∀(S:WS) x g n r,(A4r S x g n r).c=S.c:=fun S x g n r=>by
  cases r with
  |none=>rfl
  |some r=>show(S.note x g n r).c=S.c;unfold WS.note;split<;>rfl
 have e8:S9.c=S.c:=by
  rw[←hS]
  split
  ·rw[nc];exact eC
  ·exact eC
 have c8:A0s x {T.1 with pc:=8} se S9=⟨some {codeF {T.1 with pc:=8} S9 (D7k T.1.done)with asked:=T.1.done == 2},{T.1 with pc:=8},se,S9⟩:=by
  unfold A0s
  rw[Q0 (show ¬(8:Int)=0 by decide),Q0 (show ¬((8:Int)=1∨(8:Int)=3∨(8:Int)=5)by decide),Q0 (show ¬((8:Int)=2∨(8:Int)=4∨(8:Int)=6)by decide),Q0 (show ¬(8:Int)=7 by decide)]
 have hX8:A0f S9.c se.part ({T.1 with pc:=8}:PrS).a.cell=x:=by rw[e8];exact hX2 {T.1 with pc:=8} eA
 obtain⟨ev,s9⟩:=(B2c hi s8 (.inl ⟨rfl,rfl⟩) (kk {T.1 with pc:=8} eA)).2 _ (by
  show(A0s (A0f S9.c se.part ({T.1 with pc:=8}:PrS).a.cell) {T.1 with pc:=8} se S9).r=_
  rw[hX8,c8])
 change B3w P0 _ i se none [] (A0s (A0f S9.c se.part ({T.1 with pc:=8}:PrS).a.cell) {T.1 with pc:=8} se S9).S _ at s9
 rw[hX8,c8]at s9
 exact⟨ev,_,s9,by show T.1.a.kind=2;rw[eA];exact hk,rfl,rfl⟩
theorem H7x{w:Nat}{k:Int}(hk:0≤k∧k≤8):∃v,stW {A0i w with k:=k}=some v:=by
 obtain⟨_,b2,b3,b4,b5⟩:=A9o w
 unfold stW
 rw[Q0 (show ¬k>8 by omega)]
 refine C2x rfl fun i hi=>?_
 match i,hi with
 |0,_=>exact⟨hk.1,show k<16 by omega⟩
 |1,_=>exact⟨show 0≤fl (A0i w).f by unfold fl;split<;>decide,show fl (A0i w).f<2 by unfold fl;split<;>decide⟩
 |2,_=>exact⟨b2.1,b2.2⟩
 |3,_=>exact⟨b3.1,b3.2⟩
 |4,_=>exact⟨b4,b5⟩
theorem G3a{S:WS}(w:WI S){x:Int}(hx:InC S.c x)(hl:(stx S x).loose=true)(hf:(stx S x).f=false)(a:Ask)(se:A0l)(hid:atL se.ids a.cell=a.id)(h0:0<a.id)(hg:atL se.A4h a.cell=(stx S x).g)(h1:1≤(stx S x).g):
  (A5l x a se S).1.done=1∧(∀y,InC S.c y→stx (A5l x a se S).2 y=if y=x then {stx S x with k:=6} else stx S y)∧(A5l x a se S).2.c=S.c:=by
 have hS:stx S x=A0i (S.word x):=rfl
 have gf:B3d {PrS.start a with word:=S.word x,st:=A0i (S.word x),pc:=2} se=(stx S x).g:=by
  unfold B3d
  rw[Q3 ⟨hid,h0⟩];exact hg
 have k12:(A0i (S.word x)).k=1∨(A0i (S.word x)).k=2:=by
  rw[←hS];simpa only[St.loose,bA,QB]using hl
 have cf:A1k (A0i (S.word x))=(0,{A0i (S.word x)with k:=6}):=by unfold A1k;rw[Q3 k12]
 obtain⟨v,hv⟩:=H7x (w:=S.word x) (k:=6) (by decide)
 have tn:(S.turn x (S.word x) {A0i (S.word x)with k:=6}).1=true:=F5e w hx hv
 obtain⟨v',e1,_,e3⟩:=A5m tn
 rw[hv]at e1
 cases e1
 unfold A5l A2d
 dsimp only
 rw[Q0 (show ¬(PrS.start a).done>0 by show ¬(0:Int)>0;decide),gf,cf]
 dsimp only
 rw[Q0 (show ¬((stx S x).g=0∨(A0i (S.word x)).g≠(stx S x).g∨(0:Int)≠0)by rw[hS];rw[hS]at h1;omega),Q0 (by rw[←hS,hf];decide),Q0 (by rw[tn];decide),Q0 (by rw[←hS,hf];decide),e3]
 refine⟨rfl,fun y hy=>?_,rfl⟩
 show stx ({S with words:=stw S.words (2*x) v}:WS) y=_
 rw[E7y v hy w.len]
 split
 ·rw[A7m hv];rfl
 ·rfl
theorem G7e{S:WS}{x:Int}(hl:(stx S x).live=false)(a:Ask)(se:A0l):(A5l x a se S).1.done=3∧(A5l x a se S).2=S:=by
 have cf:(A1k (A0i (S.word x))).1≠0:=by
  intro h
  rcases C6t h with⟨q,_⟩|⟨q,_⟩
  ·have:=St.A8s q
   rw[show(A0i (S.word x))=stx S x from rfl,hl]at this;cases this
  ·have:=St.B4h q
   rw[show(A0i (S.word x))=stx S x from rfl,hl]at this;cases this
 unfold A5l A2d
 dsimp only
 rw[Q0 (show ¬(PrS.start a).done>0 by show ¬(0:Int)>0;decide),Q3 (.inr (.inr cf))]
 exact⟨rfl,rfl⟩
structure E2b(P P':A0h)(i:Nat)(x:A0w)(r:Rep)(f:Int→St):Prop where
 A0c:∃y,P'.A0c=P.A0c.set i y∧y.se=x.se∧y.now=none∧y.queue=[]
 sw:P'.sw=P.sw
 re:P'.re=P.re
 c:P'.S.c=P.S.c
 st:∀y,InC P.S.c y→stx P'.S y=f y
 outs:∃o,P'.outs=P.outs++[o]∧o.r=r
theorem G6t{P:A0h}{i:Nat}{x:A0w}(hc:P.S.c.ok)(w:WI P.S)(hx:P.A0c[i]?=some x)(hn:x.now=none)(hq:x.queue=[])(a:Ask)(hk:a.kind=2)(h0:0≤A0f P.S.c x.se.part a.cell)(hd:0<(A5l (A0f P.S.c x.se.part a.cell) a x.se P.S).1.done)(ht:(A5l (A0f P.S.c x.se.part a.cell) a x.se P.S).2.c=P.S.c):
  ∃r,E2b P (A4b (doP P (A9h i a)).2 i 9) i x r (stx (A5l (A0f P.S.c x.se.part a.cell) a x.se P.S).2)∧r.kind=2∧r.code=D7k (A5l (A0f P.S.c x.se.part a.cell) a x.se P.S).1.done∧r.asked=((A5l (A0f P.S.c x.se.part a.cell) a x.se P.S).1.done == 2):=by
 have hi:=(aE.1 hx).1
 obtain⟨ev,s⟩:=G7y hx hn hq a
 obtain⟨ev2,r,s2,k1,k2,k3⟩:=can9 (q:=⟨a,ev⟩) hi s hk h0 hd
 refine⟨r,⟨?_,s2.sw,s2.re,?_,fun y hy=>?_,⟨_,s2.outs,rfl⟩⟩,k1,k2,k3⟩
 ·obtain⟨y,e,b1,b2,b3⟩:=s2.A0c
  exact⟨y,e,b1,b2,b3⟩
 ·rw[s2.S]
  unfold F5m
  split
  ·rw[(A6b (S:=(A5l (A0f P.S.c x.se.part a.cell) a x.se P.S).2) (by rw[ht];exact hc) _ _ _ _).c];exact ht
  ·exact ht
 ·rw[s2.S]
  unfold F5m
  split
  ·have n:=A6b (S:=(A5l (A0f P.S.c x.se.part a.cell) a x.se P.S).2) (by rw[ht];exact hc) (A0f P.S.c x.se.part a.cell) (A5l (A0f P.S.c x.se.part a.cell) a x.se P.S).1.st.g P.S.c.c5 (A5k (A5l (A0f P.S.c x.se.part a.cell) a x.se P.S).1.st (A5l (A0f P.S.c x.se.part a.cell) a x.se P.S).1.at_)
   exact n.st y (by rw[ht];exact hy)
  ·rfl
theorem G7c{P:A0h}{i:Nat}{x:A0w}(hc:P.S.c.ok)(w:WI P.S)(hx:P.A0c[i]?=some x)(hp:x.se.part=i)(hn:x.now=none)(hq:x.queue=[])(a:Ask)(hk:a.kind=2)(h0:0≤A0f P.S.c i a.cell)
  (hl:(stx P.S (A0f P.S.c i a.cell)).loose=true) (hf:(stx P.S (A0f P.S.c i a.cell)).f=false) (hid:atL x.se.ids a.cell=a.id) (hpos:0<a.id) (hg:atL x.se.A4h a.cell=(stx P.S (A0f P.S.c i a.cell)).g) (h1:1≤(stx P.S (A0f P.S.c i a.cell)).g):
  ∃r,E2b P (A4b (doP P (A9h i a)).2 i 9) i x r (fun y=>if y=A0f P.S.c i a.cell then {stx P.S (A0f P.S.c i a.cell)with k:=6} else stx P.S y)∧r.code=0∧r.asked=false:=by
 have hin:=(A5h hc h0).1
 obtain⟨t1,t2,t3⟩:=G3a w hin hl hf a x.se hid hpos hg h1
 rw[←hp]at h0 t1 t2 t3
 obtain⟨r,A,_,k2,k3⟩:=G6t hc w hx hn hq a hk h0 (by rw[t1];decide) t3
 rw[t1]at k2 k3
 refine⟨r,⟨A.A0c,A.sw,A.re,A.c,fun y hy=>?_,A.outs⟩,k2,k3⟩
 rw[A.st y hy,t2 y hy,hp]
theorem G4x{P:A0h}{i:Nat}{x:A0w}(hc:P.S.c.ok)(w:WI P.S)(hx:P.A0c[i]?=some x)(hp:x.se.part=i)(hn:x.now=none)(hq:x.queue=[])(a:Ask)(hk:a.kind=2)(h0:0≤A0f P.S.c i a.cell)
  (hl:(stx P.S (A0f P.S.c i a.cell)).live=false):∃r,E2b P (A4b (doP P (A9h i a)).2 i 9) i x r (stx P.S)∧r.code=29:=by
 obtain⟨t1,t2⟩:=G7e (x:=A0f P.S.c i a.cell) hl a x.se
 rw[←hp]at h0 t1 t2
 obtain⟨r,A,_,k2,_⟩:=G6t hc w hx hn hq a hk h0 (by rw[t1];decide) (by rw[t2])
 rw[t1]at k2
 refine⟨r,⟨A.A0c,A.sw,A.re,A.c,fun y hy=>?_,A.outs⟩,k2⟩
 rw[A.st y hy,t2]
theorem G0i{P:A0h}{a:Nat}(ha:P.A0c.length≤a):(doP P (A8g a)).2.A0c=P.A0c∧(doP P (A8g a)).2.outs=P.outs:=by
 rw[D1o]
 unfold A2w
 split
 ·exact⟨rfl,rfl⟩
 rw[Q0 (show ¬(a:Int)-P.got.A0c.length<0 by show ¬(a:Int)-P.A0c.length<0;omega)]
 split
 ·split<;>exact⟨rfl,rfl⟩
 ·split<;>exact⟨rfl,rfl⟩
theorem C7i(a:Nat):∀(d:Nat) {P:A0h},P.A0c.length≤a→(A4b P a d).A0c=P.A0c∧(A4b P a d).outs=P.outs
 |0,P,_=>⟨rfl,rfl⟩
 |d+1,P,h=>by
  obtain⟨h1,h2⟩:=G0i h
  obtain⟨k1,k2⟩:=C7i a d (P:=(doP P (A8g a)).2) (by rw[h1];exact h)
  rw[B0m]
  exact⟨k1.trans h1,k2.trans h2⟩
structure D6g(P:A0h):Prop where
 len:C6h P
 l:LI P
 c:CI P
 g:GP P.S
theorem E6r{P:A0h}{n:Nat}(at_:A2i P n)(hn:n≤100000000)(I:PI P)(h:D6g P)(e:PEv):D6g (doP P e).2:=by
 have ok:=at_.ok
 have hc:=ok.S.c
 have hsl:=h.len.s
 refine⟨H6x at_ hn e h.len,?_,H7v at_ I h.l hsl h.c e,?_⟩
 ·
  have one:∀(P':A0h) (i:Nat) (x x':A0w),P.A0c[i]?=some x→P'.A0c=P.A0c.set i x'→x'.se=x.se→x'.now=x.now→P'.outs=P.outs→LI P':=by
   intro P' i x x' hx hs s1 s2 ho
   refine h.l.same ho fun j y hy=>?_
   rw[hs]at hy
   rcases B4p hy with⟨rfl,rfl⟩|⟨_,hy⟩
   ·exact⟨x,hx,s1.symm,s2.symm⟩
   ·exact⟨y,hy,rfl,rfl⟩
  have plain:∀P':A0h,P'.outs=P.outs→P'.A0c=P.A0c→LI P':=fun P' ho hs=>h.l.same ho fun i x hx=>⟨x,by rw[←hs];exact hx,rfl,rfl⟩
  unfold doP
  split
  ·exact plain _ rfl rfl
  split
  ·have on:∀P1:A0h,LI P1→LI P1.on:=fun P1 c=>c.same rfl fun i x hx=>⟨x,hx,rfl,rfl⟩
   refine on _ ?_
   unfold A2w
   split
   ·exact plain _ rfl rfl
   split
   ·split
    ·rename_i x hx
     have I':PI P.got:=I.same ok.S.c ok.re (A1s.refl _) (fun _=>rfl) rfl rfl
     have L':LI P.got:=plain _ rfl rfl
     rcases E8d (B1i ok) I' hx with⟨q,_,_⟩|⟨x1,pr,o,x',D⟩
     ·rw[q];exact L'
     ·exact L'.step hx D.b D.d D.hp D.a D.h0
    ·exact plain _ rfl rfl
   split
   ·split
    ·exact plain _ rfl rfl
    ·exact plain _ rfl rfl
   ·split
    ·exact plain _ rfl rfl
    ·exact plain _ rfl rfl
  split
  ·split
   ·split
    ·rename_i x hx;exact one _ e.who.toNat x _ hx rfl rfl rfl rfl
    ·exact plain _ rfl rfl
   split
   ·split
    ·rename_i x hx;exact one _ e.who.toNat x _ hx rfl rfl rfl rfl
    ·exact plain _ rfl rfl
   ·exact plain _ rfl rfl
  ·exact plain _ rfl rfl
 ·
  unfold doP
  split
  ·exact h.g
  split
  ·show GP (A2w P.got e.who).2.S
   unfold A2w
   split
   ·exact h.g
   split
   ·split
    ·rename_i x hx
     have hx:P.A0c[e.who.toNat]?=some x:=hx
     have htr:tr P (2*e.who.toNat)=x.now.bind (·.2):=by
      unfold tr
      rw[Q3 (by omega),show 2*e.who.toNat/2=e.who.toNat by omega,hx];rfl
     have key:∀(x1:A0w) (pr:PrS) (o:Option A0a),x1.se=x.se→tr P (2*e.who.toNat)=o→A3j P.S e.who.toNat pr→0≤pr.pc→0≤pr.done→GP (A5u P.got e.who.toNat x1 pr o).S:=by
      intro x1 pr o e1 e2 Ip hp hd
      have hpart:x1.se.part=e.who.toNat:=by rw[e1];exact I.part _ x hx
      have k:=(C0v (ss:=x1.nl) (po:=(P.got.use x1.ev).nl) (se:=x1.se) (pr:=pr) (o:=o) hc I.wi (by rw[hpart];exact Ip) (fun p hp=>I.tri _ p (by rw[e2];exact hp)) hp hd).adv.gp h.g
      unfold A5u B4q
      split
      ·exact k
      ·exact k
     unfold A3u A0w.begun
     cases hn:x.now with
     |some v=>
      obtain⟨pr,o⟩:=v
      rw[hn]at htr
      have po:=(ok.A0c x (aH hx)).prog pr o hn
      exact key x pr o rfl htr (I.prog _ x pr o hx hn) po.pc.1 po.done.1
     |none=>
      rw[hn]at htr
      cases x.queue with
      |nil=>exact h.g
      |cons q t=>exact key _ _ _ rfl htr (PrS.C0w _ _ _) (bD _) (bD _)
    ·exact h.g
   split
   ·split
    ·rename_i y hy
     have ht:tr P (2*(e.who-P.A0c.length).toNat+1)=y.2:=by
      unfold tr
      rw[Q0 (by omega),show(2*(e.who-P.A0c.length).toNat+1)/2=(e.who-P.A0c.length).toNat by omega]
      exact congrArg (fun z:Option (SwS × Option A0a)=>z.bind (·.2)) hy
     have J:A4o P.S (A3v y.1 P.S.c y.2):=by
      unfold A3v
      cases e:y.2 with
      |none=>exact A4o.new _ _
      |some p=>
       dsimp only
       split
       ·exact A4o.new _ _
       ·exact I.tri _ p (by rw[ht];exact e)
     exact(B4j hc I.wi J).adv.gp h.g
    ·exact h.g
   ·split
    ·rename_i y hy
     exact((D0o hc I.wi (ok.re y (aH hy)) (I.re _ y hy)).2.1 No No).gp h.g
    ·exact h.g
  split
  ·split
   ·split
    ·exact h.g
    ·exact h.g
   split
   ·split
    ·exact h.g
    ·exact h.g
   ·exact h.g
  ·exact h.g
theorem G8q(es:List PEv):∀{P:A0h} {n:Nat},A2i P n→PI P→D6g P→n+es.length≤100000→(∀e ∈ es,e.wf)→D6g (B8o P es):=by
 induction es with
 |nil=>intro P n _ _ h _ _;exact h
 |cons e es ih=>
  intro P n at_ I h hn hw
  simp only[aB]at hn
  exact ih (C2k at_ (by omega) e (hw e (aO ..))) (D4b at_ (by omega) I e) (E6r at_ (by omega) I h e) (by omega) (fun e' he=>hw e' (aN _ he))
theorem G9l(c:Cf)(hc:c.ok):D6g (A1x c):=by
 have hst:∀x,stx (B0l c) x=St.zero:=fun x=>by unfold stx WS.word B0l;dsimp only;rw[D7z];rfl
 exact⟨H5u c hc,(H7u (W:=fun _=>0) (K:=fun _=>0) c).2.1,H7a c hc,fun x _ h=>by rw[show(A1x c).S=B0l c from rfl,hst]at h;cases h⟩
structure Full(P:A0h)(n:Nat):Prop where
 at_:A2i P n
 i:PI P
 h:PH P
 a:D6g P
theorem Full.do{P:A0h}{n:Nat}(f:Full P n)(hn:n<100000000)(e:PEv)(hw:e.wf):Full (doP P e).2 (n+1):=
 ⟨C2k f.at_ hn e hw,D4b f.at_ (by omega) f.i e,E7m f.at_ (by omega) f.i f.h e,E6r f.at_ (by omega) f.i f.a e⟩
theorem Full.B0r{a:Nat}(ha:a≤100000):∀(d:Nat) {P:A0h} {n:Nat},Full P n→n+d≤100000000→Full (A4b P a d) (n+d)
 |0,P,n,f,_=>f
 |d+1,P,n,f,hn=>by
  rw[B0m,show n+(d+1)=n+1+d by omega]
  exact Full.B0r ha d (f.do (by omega) _ (C3k ha)) (by omega)
theorem Enc.H8e{G:Nat→Option D}{L:List D}{lab:Nat→Nat}{pl w m k:Nat}{za swa rea:List Nat}{P:A0h}(rows:List D)(E:Enc G L lab pl w m k za swa rea P):Enc (GR G L.length pl rows) (L++[.agg [.int (pl:Nat),.agg rows]]) (A4d lab 4 L) pl w m k za swa rea P:=by
 have F:Fr L (L++[.agg [.int (pl:Nat),.agg rows]]) (fun _=>False):=Fr.snoc L _ _
 have hp:=F.get E.A4i not_false
 have W:=E.W.fr F not_false not_false not_false
 have no:∀i b,b<L.length→lab b=i→¬(fun _:Nat=>False) b:=fun _ _ _ _=>not_false
 refine⟨W,hp,D9z E F W hp 4,E.zl,E.swl,E.rel,fun i x z hx hz=>(E.ss i x z hx hz).fr F (no _),fun i x z hx hz=>(E.sw i x z hx hz).fr F (no _),fun i x z hx hz=>(E.re i x z hx hz).fr F (no _),fun b x h=>?_⟩
 unfold GR at h
 split at h
 ·rename_i e
  cases h;subst e
  exact⟨by simp,Q0 (bQ _),A5o _ _⟩
 ·exact E.E8a F 4 (fun _ _ q=>q.elim) b x h
theorem D1p{c:Cf}(hc:c.ok):FX 15 [.int c.c0,.int c.c1,.int c.c2,.int c.c3,.int c.c4,.int c.c5,.int c.c6]=some [.int (A2a c)]:=D4x c hc
theorem G6k{c:Cf}(hc:c.ok)(j:Nat)(hj:(j:Int)<A2a c):FX 19 [.int c.c0,.int c.c1,.int c.c2,.int c.c3,.int c.c4,.int c.c5,.int c.c6,.int (j:Nat)]=some [.int (c.c0+j)]:=by
 have hs:=A6d c hc
 have h0:=hc.1
 have n1:¬(j:Int)<0:=by omega
 have n2:¬(j:Int)≥A2a c:=by omega
 rw[C8t]
 simp only[D.toInt_int,n1,n2,Q7,aY,Q4,D1p hc,A0n,aB,aC,aA]
 rw[A0v _ (by omega) (by omega)]
theorem H0c{c:Cf}(hc:c.ok)(j:Nat)(hj:(j:Int)<A2a c):FX 17 [.int c.c0,.int c.c1,.int c.c2,.int c.c3,.int c.c4,.int c.c5,.int c.c6,.int (j:Nat)]=some [.int (c.c0+A2a c+j)]:=by
 have hs:=A6d c hc
 have h0:=hc.1
 have n1:¬(j:Int)<0:=by omega
 have n2:¬(j:Int)≥A2a c:=by omega
 rw[D0d]
 simp only[D.toInt_int,n1,n2,Q7,aY,Q4,D1p hc,A0n,aB,aC,aA]
 rw[A0v (c.c0+A2a c) (by omega) (by omega),A0v _ (by omega) (by omega)]
theorem F7d{c:Cf}(hc:c.ok):FX 18 [.int c.c0,.int c.c1,.int c.c2,.int c.c3,.int c.c4,.int c.c5,.int c.c6]=some [.int (4*A0o c)]:=by
 have ha:=A4q c hc
 have h:FX 23 [.int c.c0,.int c.c1,.int c.c2,.int c.c3,.int c.c4,.int c.c5,.int c.c6]=some [.int (A0o c)]:=all_eq c hc
 rw[C2c,h]
 simp only[A0n,aB,aC,aA,D.toInt_int]
 rw[A0v _ (by omega) (by omega)]
theorem F4i{c:Cf}(hc:c.ok):FX 20 [.int c.c0,.int c.c1,.int c.c2,.int c.c3,.int c.c4,.int c.c5,.int c.c6]=some [.int (14*A0o c*A0o c)]∧0≤14*A0o c*A0o c∧14*A0o c*A0o c≤8064:=by
 have ha:=A4q c hc
 have h:FX 23 [.int c.c0,.int c.c1,.int c.c2,.int c.c3,.int c.c4,.int c.c5,.int c.c6]=some [.int (A0o c)]:=all_eq c hc
 have b1:0≤14*A0o c*A0o c:=bE (by omega) (by omega)
 have b2:14*A0o c*A0o c≤(14*24)*24:=bF (by omega) ha.2 (by omega) (by decide)
 refine⟨?_,b1,by omega⟩
 rw[D6l,h]
 simp only[A0n,aB,aC,aA,D.toInt_int]
 rw[A0v (14*A0o c) (by omega) (by omega),A0v _ (by omega) (by omega)]
section
structure C7e(P P':A0h):Prop where
 A0c:P'.A0c=P.A0c
 outs:P'.outs=P.outs
 c:P'.S.c=P.S.c
theorem C7e.refl(P:A0h):C7e P P:=⟨rfl,rfl,rfl⟩
theorem C7e.trans{P P1 P2:A0h}(h:C7e P P1)(g:C7e P1 P2):C7e P P2:=⟨g.A0c.trans h.A0c,g.outs.trans h.outs,g.c.trans h.c⟩
theorem G0d{a:Nat}(ha:a≤100000):∀(d:Nat) {P:A0h} {n:Nat},Full P n→n+d≤100000000→(A4b P a d).S.c=P.S.c
 |0,P,n,f,_=>rfl
 |d+1,P,n,f,hn=>by
  rw[B0m,G0d ha d (f.do (by omega) _ (C3k ha)) (by omega),D1o]
  exact(C3r (B1i f.at_.ok) (by omega) _).w.c
theorem E2r{a d n:Nat}{P:A0h}(ha:a≤100000)(f:Full P n)(hn:n+d≤100000000)(h:P.A0c.length≤a):C7e P (A4b P a d):=
 ⟨(C7i a d h).1,(C7i a d h).2,G0d ha d f hn⟩
theorem H5s{G:Nat→Option D}{pl w m k:Nat}{za swa rea:List Nat}(L0:List D)(hG:∀b x,G b=some x→b≠L0.length)(x1 x2 x4 x5 x6:D)(g0:Eng.Fn)(N:Nat):∀(d j n:Nat) (L:List D) (lab:Nat→Nat) (P:A0h) (rows:List D),j+d=N→(N:Int)=A2a P.S.c→Enc (GR G L0.length pl rows) L lab pl w m k za swa rea P→Full P n→n+d*8064≤100000000→rows.length+d*8064≤1000000000→
  ∃n' L' lab' rows' P',B0u (.int (pl:Nat)) x1 x2 (.agg L0) x4 x5 x6 (.int (N:Nat)) g0 [.int (j:Nat),.agg L]=some [.agg rows',.agg L']∧Enc G L' lab' pl w m k za swa rea P'∧Full P' n'∧n'≤n+d*8064∧C7e P P':=by
 intro d
 induction d with
 |zero=>
  intro j n L lab P rows hj hN E f hn hr
  have g1:=(E.pre L0.length _ (Q3 rfl)).2.2
  have h1:¬(j:Int)<(N:Int):=by omega
  have E3:Enc G (L.set L0.length (.agg [.int (pl:Nat),.nil])) (A4d lab 0 L) pl w m k za swa rea P:=E.G0g _ G fun b x h=>.inr ⟨hG b x h,h⟩
  refine⟨n,_,_,rows,P,?_,E3,f,by omega,C7e.refl P⟩
  rw[B8u]
  simp only[D.toInt_int,h1,Q7,aY,Q4,D.A0j,bC,g1,aD,aA,G3r,b0,Q5,F5c]
 |succ d ih=>
  intro j n L lab P rows hj hN E f hn hr
  have hc:=f.at_.ok.S.c
  have hs:=A6d P.S.c hc
  have h0:=hc.1
  have h1:(j:Int)<(N:Int):=by omega
  have e1:(d+1)*8064=d*8064+8064:=bO d 8064
  obtain⟨t1,t2,t3⟩:=F4i hc
  obtain⟨t,ht⟩:∃t:Nat,14*A0o P.S.c*A0o P.S.c=t:=⟨(14*A0o P.S.c*A0o P.S.c).toNat,by omega⟩
  rw[ht]at t1 t2 t3
  have hsl:=f.a.len.s
  obtain⟨a,hA⟩:∃a:Nat,P.S.c.c0+j=a:=⟨(P.S.c.c0+j).toNat,by omega⟩
  have sx:=G6k hc j (by omega)
  rw[hA]at sx
  have ha:a≤100000:=by omega
  obtain⟨L1,lab1,rows1,n1,E1,P1,r1⟩:=D9x (t:=t) ha (.agg L) t 0 n L lab P rows (by omega) (by omega) E f.at_ (by omega) (by omega)
  have F1:=f.B0r ha t (by omega)
  have S1:=E2r (d:=t) ha f (by omega) (by omega:P.A0c.length≤a)
  obtain⟨n',L',lab',rows',P',n2,E2,f2,hn2,S2⟩:=ih (j+1) (n+t) L1 lab1 _ rows1 (by omega) (by rw[S1.c];exact hN) E1 F1 (by omega) (by omega)
  refine⟨n',L',lab',rows',P',?_,E2,f2,by omega,S1.trans S2⟩
  have g:=D2u E
  have pk:FX 16 [.int (L0.length:Nat),.int (a:Nat),.int (t:Nat),.agg L]=some [.agg L1]:=by rw[B0d];exact n1
  rw[B8u]
  simp only[HH,h1,Q6,E.A4i,A0e.A1f,g.1,E.W.w,A0d.A1f,A0d.A1i,A0d.A1p,A0d.A1w,A0d.A1u,A0d.A2m,A0d.A3z,sx,t1,pk]
  rw[A0v _ (by omega) (by omega)]
  exact n2
theorem H4c{G:Nat→Option D}{pl w m k:Nat}{za swa rea:List Nat}(L0:List D)(hG:∀b x,G b=some x→b≠L0.length)(x1 x2:D)(N:Nat):∀(d j n:Nat) (L:List D) (lab:Nat→Nat) (P:A0h) (rows:List D),j+d=N→(N:Int)=A2a P.S.c→Enc (GR G L0.length pl rows) L lab pl w m k za swa rea P→Full P n→n+d*96≤99500000→rows.length+d*96≤990000000→
  ∃n' L' lab' rows' P',A7d (.int (pl:Nat)) x1 x2 (.agg L0) (.int (N:Nat)) [.int (j:Nat),.agg L]=some [.agg rows',.agg L']∧Enc G L' lab' pl w m k za swa rea P'∧Full P' n'∧n'≤99600000∧C7e P P':=by
 intro d
 induction d with
 |zero=>
  intro j n L lab P rows hj hN E f hn hr
  have hc:=f.at_.ok.S.c
  have hs:=A6d P.S.c hc
  have h1:¬(j:Int)<(N:Int):=by omega
  obtain⟨n',L',lab',rows',P',n2,E2,f2,hn2,S2⟩:=H5s (k:=k) (w:=w) (m:=m) (za:=za) (swa:=swa) (rea:=rea) (pl:=pl) L0 hG x1 x2 (.int (N:Nat)) (.int (j:Nat)) (.agg L) (A7d (.int (pl:Nat)) x1 x2 (.agg L0) (.int (N:Nat))) N N 0 n L lab P rows (by omega) hN E f (by omega) (by omega)
  refine⟨n',L',lab',rows',P',?_,E2,f2,by omega,S2⟩
  have g:=D2u E
  have sh:=D1p hc
  rw[←hN]at sh
  rw[B7y]
  simp only[HH,h1,Q7,E.A4i,A0e.A1f,g.1,E.W.w,A0d.A1f,A0d.A1i,A0d.A1p,A0d.A1w,A0d.A1u,A0d.A2m,A0d.A3z,sh]
  exact n2
 |succ d ih=>
  intro j n L lab P rows hj hN E f hn hr
  have hc:=f.at_.ok.S.c
  have hs:=A6d P.S.c hc
  have hal:=A4q P.S.c hc
  have h0:=hc.1
  have h1:(j:Int)<(N:Int):=by omega
  have e1:(d+1)*96=d*96+96:=bO d 96
  have t1:=F7d hc
  obtain⟨t,ht⟩:∃t:Nat,4*A0o P.S.c=t:=⟨(4*A0o P.S.c).toNat,by omega⟩
  rw[ht]at t1
  have hsl:=f.a.len.s
  obtain⟨a,hA⟩:∃a:Nat,P.S.c.c0+A2a P.S.c+j=a:=⟨(P.S.c.c0+A2a P.S.c+j).toNat,by omega⟩
  have sx:=H0c hc j (by omega)
  rw[hA]at sx
  have ha:a≤100000:=by omega
  obtain⟨L1,lab1,rows1,n1,E1,P1,r1⟩:=D9x (t:=t) ha (.agg L) t 0 n L lab P rows (by omega) (by omega) E f.at_ (by omega) (by omega)
  have F1:=f.B0r ha t (by omega)
  have S1:=E2r (d:=t) ha f (by omega) (by omega:P.A0c.length≤a)
  obtain⟨n',L',lab',rows',P',n2,E2,f2,hn2,S2⟩:=ih (j+1) (n+t) L1 lab1 _ rows1 (by omega) (by rw[S1.c];exact hN) E1 F1 (by omega) (by omega)
  refine⟨n',L',lab',rows',P',?_,E2,f2,hn2,S1.trans S2⟩
  have g:=D2u E
  have pk:FX 16 [.int (L0.length:Nat),.int (a:Nat),.int (t:Nat),.agg L]=some [.agg L1]:=by rw[B0d];exact n1
  rw[B7y]
  simp only[HH,h1,Q6,E.A4i,A0e.A1f,g.1,E.W.w,A0d.A1f,A0d.A1i,A0d.A1p,A0d.A1w,A0d.A1u,A0d.A2m,A0d.A3z,sx,t1,pk]
  rw[A0v _ (by omega) (by omega)]
  exact n2
section
variable{G:Nat→Option D}{L:List D}{lab:Nat→Nat}{pl w m k:Nat}{za swa rea:List Nat}{P:A0h}{n:Nat}(E:Enc G L lab pl w m k za swa rea P)(f:Full P n)
include E f
theorem G5i(hn:n≤1000):∃rows L' lab' P' n',FX 7 [.int (pl:Nat),.agg L]=some [.agg rows,.agg L']∧Enc G L' lab' pl w m k za swa rea P'∧Full P' n'∧n'≤99600000∧P'.S.c=P.S.c∧∀(i:Nat) x,P'.A0c[i]?=some x→x.now=none∧x.queue=[]:=by
 obtain⟨rows,L1,lab1,P1,n1,f1,E1,at1,hn1,I1,H1,X1,c1,b1,rl⟩:=G7m E f.at_ (X:=D6g) (fun P n a at_ hn I _ X=>E6r at_ hn I X _) f.a hn f.i f.h f.a.len
 have F1:Full P1 n1:=⟨at1,I1,H1,X1⟩
 have hc:=at1.ok.S.c
 have hs:=A6d P1.S.c hc
 obtain⟨N,hN⟩:∃N:Nat,(N:Int)=A2a P1.S.c:=⟨(A2a P1.S.c).toNat,by omega⟩
 have E2:=E1.H8e rows
 obtain⟨n',L',lab',rows',P',n2,E3,f3,hn3,S3⟩:=H4c L1 (fun b x h=>by have:=(E1.pre b x h).1;omega) (.agg L) (.agg rows) N N 0 n1 _ _ P1 rows (by omega) hN E2 F1 (by omega) (by omega)
 refine⟨rows',L',lab',P',n',?_,E3,f3,hn3,S3.c.trans c1,fun i x hx=>?_⟩
 ·have g:=D2u E2
  have sh:=D1p hc
  rw[←hN]at sh
  rw[E1z]
  simp only[HH,f1,E2.A4i,A0e.A1f,g.1,E2.W.w,A0d.A1f,A0d.A1i,A0d.A1p,A0d.A1w,A0d.A1u,A0d.A2m,A0d.A3z,sh]
  exact n2
 ·rw[S3.A0c]at hx
  have hl:=(aE.1 hx).1
  have:=b1 i (by unfold A5d;omega)
  unfold A4v at this
  rw[Q3 hl,hx]at this
  have this:(x.now.isNone&&x.queue.isEmpty)=true:=this
  rw[b7,Option.isNone_iff_eq_none,List.isEmpty_iff]at this
  exact this
end
theorem G2l{G:Nat→Option D}{pl w m k:Nat}{za swa rea:List Nat}{i:Nat}(hi:i≤100000)(x2 x3 x4 x5 x6 x7 x8 x9 x10 x11 x12 x13 x14:D)(N:Nat)(hN:N≤1000):∀(d j n:Nat) (L:List D) (lab:Nat→Nat) (P:A0h),j+d=N→Enc G L lab pl w m k za swa rea P→Full P n→n+d<100000000→
  ∃L' lab',A4w (.int (pl:Nat)) (.int (i:Nat)) x2 x3 x4 x5 x6 x7 x8 x9 x10 x11 x12 x13 x14 (.int (N:Nat)) [.int (j:Nat),.agg L]=A4w (.int (pl:Nat)) (.int (i:Nat)) x2 x3 x4 x5 x6 x7 x8 x9 x10 x11 x12 x13 x14 (.int (N:Nat)) [.int (N:Nat),.agg L']∧Enc G L' lab' pl w m k za swa rea (A4b P i d)∧Full (A4b P i d) (n+d):=by
 intro d
 induction d with
 |zero=>
  intro j n L lab P hj E f hn
  have:j=N:=by omega
  subst this
  exact⟨L,lab,rfl,E,f⟩
 |succ d ih=>
  intro j n L lab P hj E f hn
  have h1:(j:Int)<(N:Int):=by omega
  obtain⟨L1,lab1,n1,E1⟩:=D0v E f.at_ (by omega) (A8g i) (C3k hi)
  have n1:FX 29 [.int (pl:Nat),.int 3,.int (i:Nat),.int 0,.int 0,.int 0,.int 0,.int 0,.int 0,.int 0,.int 0,.int 0,.int 0,.agg L]=some [.bool (doP P (A8g i)).1,.agg L1]:=n1
  obtain⟨L',lab',n2,E2,f2⟩:=ih (j+1) (n+1) L1 lab1 _ (by omega) E1 (f.do (by omega) _ (C3k hi)) (by omega)
  refine⟨L',lab',?_,by rw[B0m];exact E2,by rw[B0m,show n+(d+1)=n+1+d by omega];exact f2⟩
  rw[←n2]
  conv=>lhs;rw[B3z]
  simp only[D.toInt_int,h1,Q6,Q5,n1,A0n,aB,aC,aA,aD]
  rw[A0v _ (by omega) (by omega)]
  rfl
theorem H2c{G:Nat→Option D}{L:List D}{lab:Nat→Nat}{pl w m k:Nat}{za swa rea:List Nat}{P:A0h}{n:Nat}(E:Enc G L lab pl w m k za swa rea P)(f:Full P n)(hn:n≤99900000){i:Nat}(hi:i≤100000)(a:Ask)(hk:a.kind=2)(hw:(A9h i a).wf)(o:Out)(ho:(A4b (doP P (A9h i a)).2 i 9).outs=P.outs++[o]):
  ∃L' lab',FX 10 [.int (pl:Nat),.int (i:Nat),.int a.kind,.int a.id,.int a.cell,.int a.tm.name,.int a.tm.side,.int a.tm.A0m,.int a.tm.least,.int a.tm.A1n,.int a.qty,.agg L]=
   some [.int o.r.kind,.int o.r.code,.int o.r.tick,.int o.r.id,.int o.r.cell,.bool o.r.asked,.int o.r.rc.k,.int o.r.rc.q,.int o.r.rc.p,.int o.r.rc.t,.int o.r.rc.c,.int o.r.rc.g,.agg (o.r.looks.map A5t.d),.bool true,.agg L']∧
   Enc G L' lab' pl w m k za swa rea (A4b (doP P (A9h i a)).2 i 9)∧Full (A4b (doP P (A9h i a)).2 i 9) (n+10):=by
 have hol:=f.at_.ok.outs
 have g:=D2u E
 have g5:(P.raw (.int (w:Nat)) (A0p za) (A0p swa) (A0p rea)).outs=P.outs:=rfl
 have an:FX 28 [.int (pl:Nat),.agg L]=some [.int (P.outs.length:Nat)]:=by
  rw[C7y]
  simp only[HH,E.A4i,A0e.A2m,g5,aJ]
 obtain⟨L1,lab1,n1,E1⟩:=D0v E f.at_ (by omega) (A9h i a) hw
 have n1:FX 29 [.int (pl:Nat),.int 1,.int (i:Nat),.int 0,.int a.kind,.int a.id,.int a.cell,.int a.tm.name,.int a.tm.side,.int a.tm.A0m,.int a.tm.least,.int a.tm.A1n,.int a.qty,.agg L]=some [.bool (doP P (A9h i a)).1,.agg L1]:=n1
 obtain⟨L',lab',n2,E2,f2⟩:=G2l hi (.int a.kind) (.int a.id) (.int a.cell) (.int a.tm.name) (.int a.tm.side) (.int a.tm.A0m) (.int a.tm.least) (.int a.tm.A1n) (.int a.qty) (.agg L) (.int (P.outs.length:Nat)) (.bool (doP P (A9h i a)).1) (.agg L1) 9 (by decide) 9 0 (n+1) L1 lab1 _ rfl E1 (f.do (by omega) _ hw) (by omega)
 refine⟨L',lab',?_,E2,by rw[show n+10=n+1+9 by omega];exact f2⟩
 have g1:=D2u E1
 have oe:=E7p E2 f2.at_.ok (by omega)
 rw[ho]at oe
 have e1:((P.outs++[o]).map Out.d).length=P.outs.length+1:=by simp
 have e2:((P.outs++[o]).map Out.d).getD P.outs.length D.nil=.agg o.ds:=by
  rw[aG,aL,List.getElem?_append_right (bM _),Nat.sub_self];rfl
 have w1:bG.wrap ((P.outs.length:Int)+1)=((P.outs.length+1:Nat):Int):=by rw[A0v _ (by omega) (by omega)];omega
 have c1:(P.outs.length:Int)≥0:=by omega
 have c2:(P.outs.length:Int)<((P.outs.length+1:Nat):Int):=by omega
 have st:∀c:Cf,FX 30 [.int c.c0,.int c.c1,.int c.c2,.int c.c3,.int c.c4,.int c.c5,.int c.c6,.int a.kind,.int a.id,.int a.cell,.int a.tm.name,.int a.tm.side,.int a.tm.A0m,.int a.tm.least,.int a.tm.A1n,.int a.qty]=some [.int 9]:=fun c=>by
  rw[D5a,hk]
  rfl
 have end':A4w (.int (pl:Nat)) (.int (i:Nat)) (.int a.kind) (.int a.id) (.int a.cell) (.int a.tm.name) (.int a.tm.side) (.int a.tm.A0m) (.int a.tm.least) (.int a.tm.A1n) (.int a.qty) (.agg L) (.int (P.outs.length:Nat)) (.bool (doP P (A9h i a)).1) (.agg L1) (.int (9:Nat)) [.int (9:Nat),.agg L']=some [.int o.r.kind,.int o.r.code,.int o.r.tick,.int o.r.id,.int o.r.cell,.bool o.r.asked,.int o.r.rc.k,.int o.r.rc.q,.int o.r.rc.p,.int o.r.rc.t,.int o.r.rc.c,.int o.r.rc.g,.agg (o.r.looks.map A5t.d),.bool true,.agg L']:=by
  have h9:¬((9:Nat):Int)<((9:Nat):Int):=by decide
  rw[B3z]
  simp only[D.toInt_int,h9,Q7,aY,Q4,oe,A0n,aB,aC,aA,D.A0j,e1,w1,bne_self_eq_false,c1,c2,Q6,Q5,bC,e2,Out.A1f,Out.A1i,Out.A1p,Out.A1w,Out.A1u,Out.A2m,Out.A3z,Out.A8l,Out.A6y,Out.A7f,Out.B4m,Out.B0v,Out.A9w,Out.B0q,Out.B3m]
 rw[D3n]
 simp only[HH,an,n1,E1.A4i,A0e.A1f,g1.1,E1.W.w,A0d.A1f,A0d.A1i,A0d.A1p,A0d.A1w,A0d.A1u,A0d.A2m,A0d.A3z,st]
 rw[←end',←n2]
 rfl
end
structure Calm(P0 P:A0h)(V:Int→Prop)(n:Nat):Prop where
 f:Full P n
 c:P.S.c=P0.S.c
 A0c:∀(i:Nat) x,P0.A0c[i]?=some x→∃y,P.A0c[i]?=some y∧y.se=x.se∧y.now=none∧y.queue=[]
 st:∀y,InC P0.S.c y→¬V y→stx P.S y=stx P0.S y
theorem Calm.asked{P0 P P':A0h}{V V':Int→Prop}{n n' i:Nat}{y:A0w}{r:Rep}{f:Int→St}(h:Calm P0 P V n)(hy:P.A0c[i]?=some y)(A:E2b P P' i y r f)(F:Full P' n')(hV:∀z,V z→V' z)(hf:∀z,InC P.S.c z→¬V' z→f z=stx P.S z):Calm P0 P' V' n':=by
 obtain⟨y',s1,s2,s3,s4⟩:=A.A0c
 refine⟨F,A.c.trans h.c,fun j x hx=>?_,fun z hz hv=>?_⟩
 ·obtain⟨w,w1,w2⟩:=h.A0c j x hx
  by_cases e:j=i
  ·subst e
   rw[hy]at w1;cases w1
   refine⟨y',?_,s2.trans w2.1,s3,s4⟩
   rw[s1,aI,Q3 rfl,Q3 (aE.1 hy).1]
  ·exact⟨w,by rw[s1,aI,Q0 (fun q=>e q.symm)];exact w1,w2⟩
 ·have hz':InC P.S.c z:=by rw[h.c];exact hz
  rw[A.st z hz',hf z hz' hv,h.st z hz (fun q=>hv (hV z q))]
def B5n(id k:Int):Ask:=⟨2,id,k,.zero,0⟩
def Rep.a(r:Rep)(L:List D):List D:=[.int r.kind,.int r.code,.int r.tick,.int r.id,.int r.cell,.bool r.asked,.int r.rc.k,.int r.rc.q,.int r.rc.p,.int r.rc.t,.int r.rc.c,.int r.rc.g,.agg (r.looks.map A5t.d),.bool true,.agg L]
theorem H4r{i:Nat}(hi:i≤100000)(id k:Int):(A9h i (B5n id k)).wf:=by
 refine⟨⟨show(-9223372036854775808:Int)≤(i:Nat)by omega,show((i:Nat):Int)≤9223372036854775807 by omega⟩,⟨show(-9223372036854775808:Int)≤0 by decide,show(0:Int)≤9223372036854775807 by decide⟩,?_⟩
 show Tm.zero.wf
 intro z hz
 have:z=0:=by simpa[Tm.vs,Tm.zero]using hz
 subst this
 exact⟨by decide,by decide⟩
theorem H2r{G:Nat→Option D}{L:List D}{lab:Nat→Nat}{pl w m k:Nat}{za swa rea:List Nat}{P:A0h}{n i:Nat}{x:A0w}{r:Rep}{f:Int→St}{id kk:Int}(E:Enc G L lab pl w m k za swa rea P)(F:Full P n)(hn:n≤99900000)(hi:i≤100000)
  (A:E2b P (A4b (doP P (A9h i (B5n id kk))).2 i 9) i x r f):
  ∃L' lab',FX 10 [.int (pl:Nat),.int (i:Nat),.int 2,.int id,.int kk,.int 0,.int 0,.int 0,.int 0,.int 0,.int 0,.agg L]=some (r.a L')∧Enc G L' lab' pl w m k za swa rea (A4b (doP P (A9h i (B5n id kk))).2 i 9)∧Full (A4b (doP P (A9h i (B5n id kk))).2 i 9) (n+10):=by
 obtain⟨o,ho,hr⟩:=A.outs
 obtain⟨L',lab',e,E',F'⟩:=H2c E F hn hi (B5n id kk) rfl (H4r hi _ _) o ho
 rw[hr]at e
 exact⟨L',lab',e,E',F'⟩
theorem visit{G:Nat→Option D}{L:List D}{lab:Nat→Nat}{pl w m k:Nat}{za swa rea:List Nat}{P0 P:A0h}{V:Int→Prop}{n i:Nat}{x:A0w}{kk:Int}(E:Enc G L lab pl w m k za swa rea P)(h:Calm P0 P V n)(hn:n≤99800000)(hx:P0.A0c[i]?=some x)(h0:0≤A0f P0.S.c i kk)(hv:¬V (A0f P0.S.c i kk))
  (hl:(stx P0.S (A0f P0.S.c i kk)).k=2) (hq:(stx P0.S (A0f P0.S.c i kk)).f=false):
  ∃(r:Rep) (L1:List D) (lab1:Nat→Nat) (P1:A0h) (r':Rep) (L2:List D) (lab2:Nat→Nat) (P2:A0h),FX 10 [.int (pl:Nat),.int (i:Nat),.int 2,.int (atL x.se.ids kk),.int kk,.int 0,.int 0,.int 0,.int 0,.int 0,.int 0,.agg L]=some (r.a L1)∧r.code=0∧r.asked=false∧
   Enc G L1 lab1 pl w m k za swa rea P1∧Full P1 (n+10)∧P1.S.c=P0.S.c∧stx P1.S (A0f P0.S.c i kk)={stx P0.S (A0f P0.S.c i kk)with k:=6}∧
   FX 10 [.int (pl:Nat),.int (i:Nat),.int 2,.int (atL x.se.ids kk),.int kk,.int 0,.int 0,.int 0,.int 0,.int 0,.int 0,.agg L1]=some (r'.a L2)∧r'.code=29∧
   Enc G L2 lab2 pl w m k za swa rea P2∧Calm P0 P2 (fun z=>V z∨z=A0f P0.S.c i kk) (n+20):=by
 have hc:=h.f.at_.ok.S.c
 obtain⟨y,hy,y1,y2,y3⟩:=h.A0c i x hx
 have hil:=(aE.1 hy).1
 have hi:i≤100000:=by have:=h.f.at_.sl;omega
 have e0:=h.st _ (by rw[h.c]at hc;exact(A5h hc h0).1) hv
 rw[←h.c]at h0 hv hl hq e0⊢
 generalize ht:A0f P.S.c i kk=t at*
 have hin:InC P.S.c t:=by rw[←ht];exact(A5h hc (by rw[ht];exact h0)).1
 obtain⟨b1,b2,b3,_⟩:=B1c P.S.c (part:=i) (i:=kk) (by rw[ht];exact h0)
 have C:=h.f.a.c.s i y hy
 have lo:(stx P.S t).loose=true:=by rw[e0];unfold St.loose;rw[hl];rfl
 have g1:=h.f.a.g t hin (St.A8s lo)
 have hg:=C.g kk b2.1 b2.2
 rw[ht]at hg
 have hp:=C.pos kk b2.1 b2.2
 obtain⟨r,A,a1,a2⟩:=G7c (P:=P) (i:=i) hc h.f.i.wi hy (h.f.i.part i y hy) y2 y3 (B5n (atL x.se.ids kk) kk) rfl (by rw[show(B5n (atL x.se.ids kk) kk).cell=kk from rfl,ht];exact h0) (by rw[show(B5n (atL x.se.ids kk) kk).cell=kk from rfl,ht];exact lo)
  (by rw[show(B5n (atL x.se.ids kk) kk).cell=kk from rfl,ht,e0];exact hq) (by rw[y1];rfl) (by show 0<atL x.se.ids kk;rw[←y1];omega) (by rw[show(B5n (atL x.se.ids kk) kk).cell=kk from rfl,ht];exact hg) (by rw[show(B5n (atL x.se.ids kk) kk).cell=kk from rfl,ht];exact g1)
 rw[show(B5n (atL x.se.ids kk) kk).cell=kk from rfl,ht]at A
 obtain⟨L1,lab1,f1,E1,F1⟩:=H2r E h.f (by omega) hi A
 have K1:=h.asked (V':=fun z=>V z∨z=t) hy A F1 (fun z q=>.inl q) fun z _ q=>Q0 fun e=>q (.inr e)
 have s1:=A.st t hin
 rw[Q3 rfl]at s1
 generalize (A4b (doP P (A9h i (B5n (atL x.se.ids kk) kk))).2 i 9)=P1 at*
 obtain⟨y',hy',z1,z2,z3⟩:=K1.A0c i x hx
 have c1:P1.S.c=P.S.c:=A.c
 have hc1:P1.S.c.ok:=by rw[c1];exact hc
 obtain⟨r',A',a3⟩:=G4x (P:=P1) (i:=i) hc1 F1.i.wi hy' (F1.i.part i y' hy') z2 z3 (B5n (atL x.se.ids kk) kk) rfl (by rw[show(B5n (atL x.se.ids kk) kk).cell=kk from rfl,c1,ht];exact h0) (by rw[show(B5n (atL x.se.ids kk) kk).cell=kk from rfl,c1,ht,s1];rfl)
 obtain⟨L2,lab2,f2,E2,F2⟩:=H2r E1 F1 (by omega) hi A'
 have K2:=K1.asked (V':=fun z=>V z∨z=t) hy' A' F2 (fun z q=>q) fun z _ q=>rfl
 exact⟨r,L1,lab1,P1,r',L2,lab2,_,f1,a1,a2,E1,F1,c1,by rw[s1,e0],f2,a3,E2,K2⟩
def D5i(c:Cf)(o:Out):Int:=o.part*c.c1+o.r.cell
def C0f(c:Cf)(l:List Out)(t:Int):Int:=l.foldl (fun z o=>if(o.r.kind=1∧o.r.code=0)∧D5i c o=t then o.r.id else z) 0
theorem G1j(c:Cf)(l:List Out)(o:Out)(t:Int):C0f c (l++[o]) t=if(o.r.kind=1∧o.r.code=0)∧D5i c o=t then o.r.id else C0f c l t:=by
 unfold C0f
 rw[aV];rfl
theorem H6u{c:Cf}(hc:c.ok){i j k l:Int}(h1:0≤A0f c i k)(h2:0≤A0f c j l):(i*c.c1+k=j*c.c1+l)↔(i=j∧k=l):=by
 have a:=(B1c c h1).2.2.1
 have b:=(B1c c h2).2.2.1
 refine⟨fun e=>?_,fun⟨e1,e2⟩=>by rw[e1,e2]⟩
 have o1:=(A5h hc h1).2
 have o2:=(A5h hc h2).2
 have ee:A0f c i k=A0f c j l:=by omega
 rw[ee,o2]at o1
 subst o1
 exact⟨rfl,by omega⟩
theorem H1k{c:Cf}(hc:c.ok){i k:Int}(h:0≤A0f c i k)(l:List Out)(hl:∀o ∈ l,o.r.kind=1→o.r.code=0→0≤A0f c o.part o.r.cell):C0f c l (A0f c i k)=C0s l i k:=by
 rw[(B1c c h).2.2.1]
 unfold C0f C0s
 suffices H:∀(l:List Out) (z:Int),(∀o ∈ l,o.r.kind=1→o.r.code=0→0≤A0f c o.part o.r.cell)→l.foldl (fun z o=>if(o.r.kind=1∧o.r.code=0)∧D5i c o=i*c.c1+k then o.r.id else z) z=l.foldl (fun z o=>if(o.r.kind=1∧o.r.code=0)∧o.part=i∧o.r.cell=k then o.r.id else z) z from H l 0 hl
 intro l
 induction l with
 |nil=>intro z hl;rfl
 |cons o l ih=>
  intro z hl
  rw[aW,aW]
  have e:(if(o.r.kind=1∧o.r.code=0)∧D5i c o=i*c.c1+k then o.r.id else z)=(if(o.r.kind=1∧o.r.code=0)∧o.part=i∧o.r.cell=k then o.r.id else z):=by
   by_cases q:o.r.kind=1∧o.r.code=0
   ·have:=H6u hc (hl o (aO ..) q.1 q.2) h
    have w:D5i c o=i*c.c1+k↔o.part=i∧o.r.cell=k:=this
    by_cases r:o.part=i∧o.r.cell=k
    ·rw[Q3 ⟨q,w.2 r⟩,Q3 ⟨q,r⟩]
    ·rw[Q0 (fun v=>r (w.1 v.2)),Q0 (fun v=>r v.2)]
   ·rw[Q0 (fun w=>q w.1),Q0 (fun w=>q w.1)]
  rw[e]
  exact ih _ (fun o ho=>hl o (aN _ ho))
theorem H4y{c:Cf}(hc:c.ok){t:Nat}(ht:(t:Int)<A0o c):((t:Int)/c.c1).toNat<c.c0.toNat∧(((t:Int)/c.c1).toNat:Int)=t/c.c1∧A0f c ((t:Int)/c.c1).toNat ((t:Int)%c.c1)=t∧0≤(t:Int)%c.c1∧(t:Int)%c.c1<c.c1:=by
 have h1:=hc.1
 have h2:=hc.2.1
 have d0:0≤(t:Int)/c.c1:=Int.ediv_nonneg (by omega) (by omega)
 have d1:(t:Int)/c.c1<c.c0:=Int.ediv_lt_of_lt_mul (by omega) (by unfold A0o at ht;exact ht)
 have m0:=Int.emod_nonneg (t:Int) (show c.c1≠0 by omega)
 have m1:=Int.emod_lt_of_pos (t:Int) (show 0<c.c1 by omega)
 have e:=Int.mul_ediv_add_emod (t:Int) c.c1
 refine⟨by omega,by omega,?_,m0,m1⟩
 unfold A0f
 rw[Q0 (by omega),Int.toNat_of_nonneg d0,Int.mul_comm]
 exact e
def E1e(N w i:Nat):Nat:=(i+w)%N
theorem H7g{N w i j:Nat}(hi:i<N)(hj:j<N)(h:E1e N w i=E1e N w j):i=j:=by
 unfold E1e at h
 have a:=bP (i+w) N
 have b:=bP (j+w) N
 have:(i+w)%N=(j+w)%N:=h
 rw[this]at a
 have e:N*((i+w)/N)=N*((j+w)/N)∨N*((i+w)/N)+N≤N*((j+w)/N)∨N*((j+w)/N)+N≤N*((i+w)/N):=by
  rcases Nat.lt_trichotomy ((i+w)/N) ((j+w)/N)with q|q|q
  ·right;left
   have:=bN N (show(i+w)/N+1≤(j+w)/N from q)
   rw[bS,bT]at this;exact this
  ·left;rw[q]
  ·right;right
   have:=bN N (show(j+w)/N+1≤(i+w)/N from q)
   rw[bS,bT]at this;exact this
 omega
end Go.Proofs.YtckanieeocdpbaaGreat.P
namespace Go.Proofs.YtckanieeocdpbaaGreat.MapD
open Go.Proofs.YtckanieeocdpbaaGreat.Eng Go.Proofs.YtckanieeocdpbaaGreat
set_option linter.unusedVariables false
set_option linter.unusedSimpArgs false
section
section
variable{α:Type}[DecidableEq α](f:α→D)(ks:List Nat)
def ent(p:α × D):D:=.agg [f p.1,p.2]
def C7z(l:List (α × D)):List D:=l.map (ent f)
def val:List (α × D)→α→Option D
 |[],_=>none
 |p::l,k=>if k=p.1 then some p.2 else val l k
def put:List (α × D)→α→D→List (α × D)
 |[],k,v=>[(k,v)]
 |p::l,k,v=>if k=p.1 then(k,v)::l else p::put l k v
variable{f ks}
theorem E9a(hf:∀a b,keq ks (f a) (f b)=decide (a=b)):∀(l:List (α × D)) (k:α) (z:D),B3j ks (C7z f l) (f k) z=(val l k).getD z
 |[],k,z=>rfl
 |p::l,k,z=>by
  show B3j ks (ent f p::C7z f l) (f k) z=_
  rw[B6v]
  simp only[ent,D.A0j,aA,aD,hf,Q9,val]
  split
  ·rfl
  ·exact E9a hf l k z
theorem E8q(hf:∀a b,keq ks (f a) (f b)=decide (a=b)):∀(l:List (α × D)) (k:α) (v:D),B3o ks (C7z f l) (f k) v=C7z f (put l k v)
 |[],k,v=>rfl
 |p::l,k,v=>by
  show B3o ks (ent f p::C7z f l) (f k) v=_
  rw[E9p]
  simp only[ent,D.A0j,aA,hf,Q9,put]
  split
  ·rfl
  ·rw[E8q hf l k v];rfl
theorem C8f:∀(l:List (α × D)) (k k':α) (v:D),val (put l k v) k'=if k'=k then some v else val l k'
 |[],k,k',v=>rfl
 |p::l,k,k',v=>by
  simp only[put]
  by_cases h:k=p.1
  ·rw[Q3 h]
   simp only[val]
   by_cases e:k'=k
   ·rw[Q3 e,Q3 e]
   ·rw[Q0 e,Q0 e,Q0 (by rw[←h];exact e)]
  ·rw[Q0 h]
   simp only[val]
   by_cases e:k'=p.1
   ·rw[Q3 e,Q0 (by rw[e];exact fun q=>h q.symm),Q3 e]
   ·rw[Q0 e,C8f l k k' v,Q0 e]
end
theorem F8t(a b:Int):keq [0] (.int a) (.int b)=decide (a=b):=by
 simp only[keq,B3x,A9j,cellOf,aB,aC,Q5,b6,D.toInt_int]
 by_cases h:a=b<;>simp[h]
end
end Go.Proofs.YtckanieeocdpbaaGreat.MapD
namespace Go.Proofs.YtckanieeocdpbaaGreat.P
open Go.RowKit Go.Proofs.YtckanieeocdpbaaGreat.Eng Go.Proofs.YtckanieeocdpbaaGreat Go.Proofs.YtckanieeocdpbaaGreat.Dat Go.Proofs.YtckanieeocdpbaaGreat.FDat
set_option linter.unusedVariables false
set_option linter.unusedSimpArgs false
set_option linter.unusedSectionVars false
set_option maxRecDepth 10000
section
theorem Calm.mono{P0 P:A0h}{V V':Int→Prop}{n:Nat}(h:Calm P0 P V n)(hV:∀z,V z→V' z):Calm P0 P V' n:=
 ⟨h.f,h.c,h.A0c,fun y hy hv=>h.st y hy fun q=>hv (hV y q)⟩
abbrev Mi:=List (Int × D)
theorem ig(l:Mi)(x:Int)(z:D):B3j [0] (MapD.C7z D.int l) (.int x) z=(MapD.val l x).getD z:=MapD.E9a (f:=D.int) (fun a b=>MapD.F8t a b) l x z
theorem ip(l:Mi)(x:Int)(v:D):B3o [0] (MapD.C7z D.int l) (.int x) v=MapD.C7z D.int (MapD.put l x v):=MapD.E8q (f:=D.int) (fun a b=>MapD.F8t a b) l x v
theorem ival(l:Mi)(x y:Int)(v z:D):(MapD.val (MapD.put l x v) y).getD z=if y=x then v else(MapD.val l y).getD z:=by
 rw[MapD.C8f]
 split<;>rfl
section
variable{G:Nat→Option D}{pl w m k:Nat}{za swa rea:List Nat}{P0:A0h}{n0:Nat}{c:Cf}(hc:c.ok)(hcc:P0.S.c=c)(at0:A2i P0 n0)(hn0:n0≤99600000)
 (idle:∀(i:Nat) x,P0.A0c[i]?=some x→x.now=none∧x.queue=[]) (ci:CI P0) (len:C6h P0) (H:PH P0)
include hc hcc at0 hn0 idle ci len H
theorem G4w(x0 x2 x3 x4 x5 x6 x7 x10 x11 x12 x13 x14:D)(wn:Nat)(hw:wn<256)(mi:Mi)(hm:∀t,(MapD.val mi t).getD (.int 0)=.int (C0f c P0.outs t))(g0:Eng.Fn):∀(d i n:Nat) (L:List D) (lab:Nat→Nat) (P:A0h),i+d=(A0o c).toNat→Enc G L lab pl w m k za swa rea P→
  Calm P0 P (fun z=>∃j,j<i∧((E1e (A0o c).toNat wn j:Nat):Int)=z) n→n+d*20≤99700000→
  A5w x0 (.int c.c1) x2 x3 x4 x5 x6 x7 (.int (wn:Nat)) (.int (pl:Nat)) x10 x11 x12 x13 x14 (.agg (MapD.C7z D.int mi)) (.agg (B5w P0.S)) g0 [.int (i:Nat),.agg L]=some [.bool true]:=by
 have hall:=A4q c hc
 have hc1:=hc.2.1
 have ll:(B5w P0.S).length=(A0o c).toNat:=by unfold B5w;rw[aJ,aQ,hcc]
 intro d
 induction d with
 |zero=>
  intro i n L lab P hi E h hn
  obtain⟨L2,f2,_⟩:=E8p L
  have h1:¬(i:Int)<(((A0o c).toNat:Nat):Int):=by omega
  rw[B0n]
  simp only[D.toInt_int,D.A0j,ll,h1,Q7,aY,Q4,f2,A0n,aB,aC,aA]
 |succ d ih=>
  intro i n L lab P hi E h hn
  have h1:(i:Int)<(((A0o c).toNat:Nat):Int):=by omega
  have h2:((((A0o c).toNat:Nat):Int) != 0)=true:=by rw[bne_iff_ne];omega
  have hN:0<(A0o c).toNat:=by omega
  have ht:Int.tmod (bG.wrap ((i:Int)+bG.wrap (wn:Int))) (((A0o c).toNat:Nat):Int)=((E1e (A0o c).toNat wn i:Nat):Int):=by
   rw[A0v (wn:Int) (by omega) (by omega),A0v _ (by omega) (by omega)]
   exact(Int.ofNat_tmod _ _).symm
  generalize hT:E1e (A0o c).toNat wn i=t at*
  have htl:t<(A0o c).toNat:=by rw[←hT];exact Nat.mod_lt _ hN
  have hta:(t:Int)<A0o c:=by omega
  have hge:(t:Int)≥0:=by omega
  have hlt:(t:Int)<(((A0o c).toNat:Nat):Int):=by omega
  have wi:bG.wrap ((i:Int)+1)=((i+1:Nat):Int):=by rw[A0v _ (by omega) (by omega)];omega
  have c1n:(c.c1 != 0)=true:=by rw[bne_iff_ne];omega
  have cg:∀P':A0h,P'.S.c=c→(B5w P'.S).getD t D.nil=D7b P'.S t:=fun P' e=>by
   unfold B5w
   rw[aG,aL,List.getElem?_range (by rw[e];omega)];rfl
  have cl:∀P':A0h,P'.S.c=c→(B5w P'.S).length=(A0o c).toNat:=fun P' e=>by unfold B5w;rw[aJ,aQ,e]
  have cd:∀S:WS,D7b S t=D.agg [.int (stx S t).k,.bool (stx S t).f,.int (stx S t).g,.int (stx S t).l,.int (stx S t).n,.int (tmx S t).name,.int (tmx S t).side,.int (tmx S t).A0m,.int (tmx S t).least,.int (tmx S t).A1n]:=fun _=>rfl
  rw[B0n]
  simp only[D.toInt_int,D.A0j,ll,h1,h2,Q6,Q5,ht]
  rw[B9e]
  simp only[D.toInt_int,D.A0j,ll,hge,hlt,Q6,Q5,bC,cg P0 hcc,cd,aA]
  by_cases hk:(stx P0.S t).k=2
  rotate_left
  ·have hk':((stx P0.S t).k != 2)=true:=by rw[bne_iff_ne];exact hk
   simp only[hk',Q5,wi]
   exact ih (i+1) n L lab P (by omega) E (h.mono fun z ⟨j,a,b⟩=>⟨j,by omega,b⟩) (by omega)
  have hk':((stx P0.S t).k != 2)=false:=by rw[hk];rfl
  obtain⟨a1,a2,a3,a4,a5⟩:=H4y hc hta
  have td:(t:Int).tdiv c.c1=(((t:Int)/c.c1).toNat:Nat):=by rw[Int.tdiv_eq_ediv_of_nonneg (by omega),a2]
  have tm:(t:Int).tmod c.c1=(t:Int)%c.c1:=Int.tmod_eq_emod_of_nonneg (by omega)
  have hwi:bG.wrap ((((t:Int)/c.c1).toNat:Nat):Int)=((((t:Int)/c.c1).toNat:Nat):Int):=A0v _ (by omega) (by have:=hc.1;omega)
  generalize hii:((t:Int)/c.c1).toNat=ii at*
  generalize hkk:(t:Int)%c.c1=kk at*
  have hsl:=len.s
  rw[hcc]at hsl
  obtain⟨x,hx⟩:∃x,P0.A0c[ii]?=some x:=⟨_,aF (by omega)⟩
  have C:=ci.s ii x hx
  have hid:C0f c P0.outs t=atL x.se.ids kk:=by
   rw[←a3,H1k hc (by rw[a3];omega) P0.outs (by rw[←hcc];exact ci.gd)]
   refine(C.id kk a4 (by rw[hcc];exact a5) ?_).symm
   rintro⟨pr,o,e,_⟩
   rw[(idle ii x hx).1]at e;cases e
  have hin:InC P0.S.c t:=by rw[hcc];exact⟨by omega,hta⟩
  have hf:(stx P0.S t).f=false:=by
   cases e:(stx P0.S t).f with
   |false=>rfl
   |true=>
    have:=(H.si t hin).2 e
    unfold St.held at this
    rw[hk]at this
    exact absurd this (by decide)
  have hv:¬∃j,j<i∧((E1e (A0o c).toNat wn j:Nat):Int)=(t:Int):=by
   rintro⟨j,q1,q2⟩
   have:=H7g (N:=(A0o c).toNat) (w:=wn) (i:=j) (j:=i) (by omega) (by omega) (by rw[hT];omega)
   omega
  rw[←hcc]at a3
  obtain⟨r,L1,lab1,P1,r',L2,lab2,P2,f1,q1,q2,E1,F1,c1,s1,f2,q3,E2,K2⟩:=visit (kk:=kk) E h (by omega) hx (by rw[a3];omega) (by rw[a3];exact hv) (by rw[a3];exact hk) (by rw[a3];exact hf)
  rw[a3]at s1 K2
  have e1:=F4t E1 F1.at_ (by omega) F1.i
  rw[hcc]at c1
  have e6:((6:Int) != 6)=false:=rfl
  have nx:=ih (i+1) (n+20) L2 lab2 P2 (by omega) E2 (K2.mono fun z q=>by
   rcases q with⟨j,a,b⟩|q
   ·exact⟨j,by omega,b⟩
   ·exact⟨i,by omega,by rw[hT];exact q.symm⟩) (by omega)
  have z0:((0:Int) != 0)=false:=rfl
  have z29:((29:Int) != 29)=false:=rfl
  unfold Rep.a at f1 f2
  simp only[hk',aY,Q4,c1n,Q5,td,tm,hwi,ig,hm,hid,f1,A0n,aB,aC,aA,aD]
  rw[B9f]
  simp only[e1,A0n,aB,aC,aA,aD,D.toInt_int,D.A0j,D.A1d,cl P1 c1,ll,hge,hlt,Q6,Q5,aZ,aY,Q4,q1,q2,z0,bC,cg P1 c1,cg P0 hcc,cd,s1,e6,bne_self_eq_false,c1n,td,tm,hwi,ig,hm,hid,f2]
  rw[B9d]
  simp only[D.A1d,D.toInt_int,aZ,aY,Q4,q3,z29,wi]
  exact nx
theorem H5k{L:List D}{lab:Nat→Nat}(E:Enc G L lab pl w m k za swa rea P0)(a:D6g P0)(I:PI P0)(x0 x2 x3 x4 x5 x6 x7 x10 x11:D)(wn:Nat)(hw:wn<256):∀(d j:Nat) (mi:Mi),j+d=P0.outs.length→(∀t,(MapD.val mi t).getD (.int 0)=.int (C0f c (P0.outs.take j) t))→
  A2s x0 (.int c.c1) x2 x3 x4 x5 x6 x7 (.int (wn:Nat)) (.int (pl:Nat)) x10 x11 (.agg L) (.agg (P0.outs.map Out.d)) [.int (j:Nat),.agg (MapD.C7z D.int mi)]=some [.bool true]:=by
 have ho:=at0.ok.outs
 intro d
 induction d with
 |zero=>
  intro j mi hj hm
  rw[aP (by omega)]at hm
  have h1:¬(j:Int)<((P0.outs.map Out.d).length:Int):=by simp;omega
  have e:=F4t E at0 (by omega) I
  rw[B0o]
  simp only[D.toInt_int,D.A0j,h1,Q7,aY,Q4,e,A0n,aB,aC,aA]
  exact G4w hc hcc at0 hn0 idle ci len H _ _ _ _ _ _ _ _ _ _ _ _ wn hw mi hm _ (A0o c).toNat 0 n0 L lab P0 (by omega) E ⟨⟨at0,I,H,a⟩,rfl,fun i x hx=>⟨x,hx,rfl,idle i x hx⟩,fun _ _ _=>rfl⟩ (by have:=A4q c hc;omega)
 |succ d ih=>
  intro j mi hj hm
  have hlt:j<P0.outs.length:=by omega
  have h1:(j:Int)<((P0.outs.map Out.d).length:Int):=by simp;omega
  have h2:(j:Int)≥0:=by omega
  have hg:(P0.outs.map Out.d).getD j D.nil=.agg (P0.outs[j]).ds:=by
   rw[aG,aL,aF hlt];rfl
  have hwj:bG.wrap ((j:Int)+1)=((j+1:Nat):Int):=by rw[A0v _ (by omega) (by omega)];omega
  have htk:P0.outs.take (j+1)=P0.outs.take j++[P0.outs[j]]:=aM hlt
  have hmem:P0.outs[j] ∈ P0.outs:=List.getElem_mem hlt
  have sk:∀t,C0f c (P0.outs.take (j+1)) t=if(P0.outs[j].r.kind=1∧P0.outs[j].r.code=0)∧D5i c P0.outs[j]=t then P0.outs[j].r.id else C0f c (P0.outs.take j) t:=fun t=>by rw[htk,G1j]
  have pass:¬(P0.outs[j].r.kind=1∧P0.outs[j].r.code=0)→_:=fun q=>ih (j+1) mi (by omega) fun t=>by rw[sk,Q0 fun v=>q v.1];exact hm t
  rw[B0o]
  simp only[D.toInt_int,D.A0j,h1,h2,Q6,Q5,bC,hg,Out.A1f,Out.A1p,Out.A1w,Out.A2m,Out.A3z,hwj]
  by_cases k1:P0.outs[j].r.kind=1
  ·have k1':(P0.outs[j].r.kind == 1)=true:=by rw[k1];rfl
   by_cases k2:P0.outs[j].r.code=0
   ·have k2':(P0.outs[j].r.code == 0)=true:=by rw[k2];rfl
    have b:=ci.gd _ hmem k1 k2
    rw[hcc]at b
    obtain⟨b1,b2,b3,b4⟩:=B1c c b
    have hall:=A4q c hc
    have hc0:=hc.1
    have hc1:=hc.2.1
    have bm:0≤P0.outs[j].part*c.c1:=bE b1.1 (by omega)
    have w1:bG.wrap (P0.outs[j].part*c.c1)=P0.outs[j].part*c.c1:=A0v _ (by omega) (by omega)
    have w2:bG.wrap (P0.outs[j].part*c.c1+P0.outs[j].r.cell)=D5i c P0.outs[j]:=A0v _ (by omega) (by omega)
    simp only[k1',k2',Q5,w1,w2,ip]
    refine ih (j+1) _ (by omega) fun t=>?_
    rw[sk,ival]
    by_cases e:t=D5i c P0.outs[j]
    ·rw[Q3 e,Q3 ⟨⟨k1,k2⟩,e.symm⟩]
    ·rw[Q0 e,Q0 fun v=>e v.2.symm];exact hm t
   ·have k2':(P0.outs[j].r.code == 0)=false:=by rw[Q8];exact k2
    simp only[k1',k2',Q5,aY,Q4]
    exact pass fun q=>k2 q.2
  ·have k1':(P0.outs[j].r.kind == 1)=false:=by rw[Q8];exact k1
   simp only[k1',aY,Q4]
   exact pass fun q=>k1 q.1
end
theorem H6e(c:Cf)(es:List PEv)(hw:∀e ∈ es,e.wf)(wn:Nat)(hwn:wn<256):FX 3 [.int c.c0,.int c.c1,.int c.c2,.int c.c3,.int c.c4,.int c.c5,.int c.c6,.agg (es.map PEv.d),.int (wn:Nat)]=some [.bool true]:=by
 rw[C4i]
 by_cases hm:c.ok∧(es.length:Int)≤500
 ·obtain⟨hc,hes⟩:=hm
  obtain⟨L1,lab1,p1,w1,m1,k1,z1,s1,r1,n1,E1,P1⟩:=H3p c hc es 500 hes (by decide) hw []
  have I:=H3j es (C3i c hc) (E5q c hc) (by omega) hw
  have H:=G9k es (C3i c hc) (E5q c hc) (G9f c hc) (by omega) hw
  have A:=G8q es (C3i c hc) (E5q c hc) (G9l c hc) (by omega) hw
  have rc:=H8b c es (A1x c) rfl 0 (C3i c hc) (by omega) hw
  generalize B8o (A1x c) es=P at*
  obtain⟨rows,L2,lab2,P2,n2,f2,E2,F2,hn2,c2,idle⟩:=G5i E1 ⟨P1,I,H,A⟩ (by omega)
  have oe:=E7p E2 F2.at_.ok (by omega)
  rw[rc]at c2
  simp only[n1,A0n,aB,aC,aA,aD,A6v,aY,Q4,f2,oe]
  exact H5k hc c2 F2.at_ hn2 idle F2.a.c F2.a.len F2.h E2 F2.a F2.i _ _ _ _ _ _ _ _ _ wn hwn P2.outs.length 0 [] (by omega) (fun t=>rfl)
 ·obtain⟨L',h,_⟩:=E8p []
  rw[H3s c es hm []]
  simp only[A0n,aB,aC,aA,aD,B5l,Q5,h,D.A1d,H4w,aJ,H7i hm,b0]
theorem F8k(x0:List D)(x1 x2:D)(w0:Open.C1p Tryz.prog [.int .i64,.int .i64,.int .i64,.int .i64,.int .i64,.int .i64,.int .i64] x0)(w1:Open.Wf Tryz.prog (.slice 130) x1)(w2:Open.Wf Tryz.prog (.int .u8) x2):FX 3 (x0++[x1,x2])=some [.bool true]:=by
 obtain⟨c,rfl⟩:=H8g w0
 obtain⟨es,rfl,_,hw⟩:=w1.structs (f:=PEv.d) (Q:=PEv.wf) (ts:=i12) (by kernel_rfl) (by decide) (fun ys hy=>H8f hy)
 obtain⟨v,rfl,hv⟩:=w2.toInt
 have hv:0≤v∧v≤255:=by simpa[Lit.wf,bJ,bK,bI,bH]using hv
 obtain⟨n,rfl⟩:∃n:Nat,v=n:=⟨v.toNat,by omega⟩
 exact H6e c es hw n (by omega)
end
end Go.Proofs.YtckanieeocdpbaaGreat.P
