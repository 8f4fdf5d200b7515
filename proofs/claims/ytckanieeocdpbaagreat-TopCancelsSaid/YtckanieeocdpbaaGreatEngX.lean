import Derived.Test.YtckanieeocdpbaaGreatEngP
import Derived.OrdersHeld
import Derived.LoopN
import Derived.Defers
open List renaming getD_eq_getElem?_getD→a0,getElem?_eq_getElem→a4,append_assoc→a5,getElem?_append_right→a6,getElem?_eq_some_iff→a7,getElem?_append_left→a8,lookup_cons→a9,getElem?_map→aA,getElem?_eq_none→aB,mem_append_left→aC,length_eq_one_iff→aD,drop_eq_getElem_cons→aE,mem_append_right→aF,mem_singleton→aG,append_nil→aH,all_eq_true→aI,eq_nil_iff_forall_not_mem→aJ,mem_of_find?_eq_some→aK,getElem?_range→aL,map_cons→aM,mem_filter→aN,mem_cons_self→aO,length_append→aP,getElem?_cons_succ→aQ,drop_eq_nil_of_le→aR,length_cons→aS,mem_cons→aT,mem_map→aU,range→aV,ext_getElem?→aW,map_nil→aX,find?_some→aY,take_append_drop→aZ,mem_cons_of_mem→b0,range'→b3,range_eq_range'→b4,prefix_append→b5,range'_zero→b6,range'_succ→b7,length_nil→b8,map_append→b9,mem_range→bA
open Bool renaming and_eq_true→bB,or_eq_true→bC,false_eq_true→bD,not_eq_true'→bE,or_false→bF
open Option.some renaming injEq→bG
open Go.Region renaming wanted→bH,ready→bI,noSelect→bJ,binds→bK
open Go.Sem renaming run_bind→bL,run→bM,run_pure→bN
open Nat renaming le_refl→bO,le_max_right→bP,lt_or_ge→bQ,le_max_left→bR,sub_self→bS,lt_of_lt_of_le→bT,lt_trichotomy→bU,le_trans→bV,zero_add→bW,testBit→bX,le_succ→bY
open Option renaming getD_some→bZ,map_some→c0,isSome_iff_exists→c3
open Go.Result renaming andThen→c4,andThen_ok→c5,ok→c6
open Array renaming replicate→c7,toList_inj→c8,getElem?_eq_some_iff→c9,mapM_eq_mapM_toList→cA,getElem?_eq_none→cB,getElem?_toList→cC,getElem?_append→cD,ext→cE
open Go.Oper renaming upon→cF,wp→cG
open Go.Instr renaming sureAddr→cH,loadAt→cI,fieldAt→cJ
open Classical renaming choose→cK,choose_spec→cL
open Prod.mk renaming injEq→cM
open Go.Result.ok renaming injEq→cN
open Go.Ending renaming returned→cO
open Go.Code renaming region→cP,wp_mono→cQ
open Go.World renaming cell?→cR
namespace Go.Proofs.YtckanieeocdpbaaGreat.Eng
open Go.RowKit
set_option linter.unusedVariables false
set_option linter.unusedSimpArgs false
end Go.Proofs.YtckanieeocdpbaaGreat.Eng
namespace Go.Proofs.YtckanieeocdpbaaGreat.Eng
open Go.RowKit
set_option linter.unusedVariables false
set_option linter.unusedSimpArgs false
def frT:T→(T→T)→T
 |.ret es,k=>frL frE es fun es=>k (.ret es)
 |.ite c a b,k=>frE c fun c=>frT a fun a=>frT b fun b=>k (.ite c a b)
 |.A9e c t,k=>frE c fun c=>frT t fun t=>k (.A9e c t)
 |.call f args n t,k=>frN f fun f=>frL frE args fun args=>frN n fun n=>frT t fun t=>k (.call f args n t)
 |.any a b,k=>frT a fun a=>frT b fun b=>k (.any a b)
 |.loop es t,k=>frL frE es fun es=>frT t fun t=>k (.loop es t)
 |.again l es,k=>frN l fun l=>frL frE es fun es=>k (.again l es)
 |.jp a b,k=>frT a fun a=>frT b fun b=>k (.jp a b)
 |.fail n,k=>frN n fun n=>k (.fail n)
 |.stop st,k=>k (.stop st)
theorem G7k:∀(t:T) (k:T→T),frT t k=k t:=by
 intro t
 induction t with
 |ret es=>intro k;simp only[frT,A3d A5g]
 |ite c a b iha ihb=>intro k;simp only[frT,A5g,iha,ihb]
 |A9e c t ih=>intro k;simp only[frT,A5g,ih]
 |call f args n t ih=>intro k;simp only[frT,A2j,A3d A5g,ih]
 |any a b iha ihb=>intro k;simp only[frT,iha,ihb]
 |loop es t ih=>intro k;simp only[frT,A3d A5g,ih]
 |again l es=>intro k;simp only[frT,A2j,A3d A5g]
 |jp a b iha ihb=>intro k;simp only[frT,iha,ihb]
 |fail n=>intro k;simp only[frT,A2j]
 |stop st=>intro k;rfl
def A6p:T→List E × T
 |.A9e c t=>(c::(A6p t).1,(A6p t).2)
 |t=>([],t)
def H2x(a b:T):T:=A8j ((A6p a).1++(A6p b).1.filter fun e=>!decide (e ∈ (A6p a).1)) (if(A6p a).2=(A6p b).2 then(A6p a).2 else .any (A6p a).2 (A6p b).2)
section
variable{Fs:Nat→Fn}{fuel:Nat}{L:List Fn}{ρ:List D}{r:List D}
theorem B8i:∀{t:T},(∀e ∈ (A6p t).1,(den ρ e).toBool=true)→eval Fs fuel (A6p t).2 L ρ=some r→eval Fs fuel t L ρ=some r:=by
 intro t
 induction t with
 |A9e c t ih=>
  intro h1 h2
  simp only[A6p,aT,forall_eq_or_imp]at h1 h2
  simp only[eval,h1.1,Q5]
  exact ih h1.2 h2
 |_=>intro _ h2;exact h2
theorem B9a:∀{l:List E} {t:T},eval Fs fuel (A8j l t) L ρ=some r→(∀e ∈ l,(den ρ e).toBool=true)∧eval Fs fuel t L ρ=some r
 |[],t,h=>⟨(fun e h=>by cases h),h⟩
 |e::l,t,h=>by
  simp only[A8j]at h
  split at h
  ·rename_i he
   obtain⟨h1,h2⟩:=B9a h
   exact⟨fun x hx=>(by
    rcases aT.1 hx with rfl|hx
    ·subst he;rfl
    ·exact h1 x hx),h2⟩
  ·simp only[eval]at h
   split at h
   ·rename_i he
    obtain⟨h1,h2⟩:=B9a h
    exact⟨fun x hx=>(by
     rcases aT.1 hx with rfl|hx
     ·exact he
     ·exact h1 x hx),h2⟩
   ·cases h
theorem G3b{a b:T}(h:eval Fs fuel (H2x a b) L ρ=some r):eval Fs fuel a L ρ=some r∧eval Fs fuel b L ρ=some r:=by
 obtain⟨h1,h2⟩:=B9a h
 have ha:∀e ∈ (A6p a).1,(den ρ e).toBool=true:=fun e he=>h1 e (aC _ he)
 have hb:∀e ∈ (A6p b).1,(den ρ e).toBool=true:=fun e he=>by
  by_cases hm:e ∈ (A6p a).1
  ·exact ha e hm
  ·exact h1 e (aF _ (aN.2 ⟨he,by simpa using hm⟩))
 split at h2
 ·rename_i he
  exact⟨B8i ha h2,B8i hb (he▸h2)⟩
 ·simp only[eval]at h2
  obtain⟨q1,q2⟩:=A8v h2
  exact⟨B8i ha q1,B8i hb q2⟩
def D6b:List T→T
 |[]=>.fail 182
 |[t]=>t
 |t::ts=>frT t fun t=>frT (D6b ts) fun u=>H2x t u
theorem B5s:∀{l:List T},eval Fs fuel (D6b l) L ρ=some r→∀t ∈ l,eval Fs fuel t L ρ=some r
 |[],h,t,ht=>by cases ht
 |[x],h,t,ht=>by rw[aG.1 ht];exact h
 |x::y::l,h,t,ht=>by
  simp only[D6b,G7k]at h
  obtain⟨h1,h2⟩:=G3b h
  rcases aT.1 ht with rfl|ht
  ·exact h1
  ·exact B5s h2 t ht
end
section
variable{X:Cx}
end
section
variable(P:Program)(nt:Nat)
end
section
variable{X:Cx}{Fs:Nat→Fn}{fuel:Nat}{L:List Fn}
end
section
variable(P:Program)(nt:Nat)
def E7g(ds:List (List Nat))(n L:Nat):List Nat:=(aV n).filter fun j=>!L.testBit j&&(ds.getD j []).all fun k=>decide (k<n)&&L.testBit k
def A4f(n L:Nat):Array Bool:=((aV n).map fun j=>L.testBit j).toArray
def E4x:Option C→Bool
 |some (.ptr _ _)|some (.A8b _ _ _)|some (.A6c _ _ _ _)|some (.A9m _ _ _ _)|some (.B3e _ _ _)|some (.dat (.ptr _) _)|some .C4k=>true
 |_=>false
def E0t(st:St)(o:Oper):Bool:=match o.op,o.guard with
 |.nilCheck x,none=>E4x (opC st x)
 |.fieldAddr s x f,none=>E4x (opC st x)&&(match C3o P s f with
  |some fl=>(match A3k P fl.type with
   |some (_+1)=>true
   |_=>false)
  |none=>false)
 |_,_=>false
def eager(st:St)(ops:Array Oper)(L i:Nat):Bool:=match ops.toList[i]? with
 |some o=>(C8c o || E0t P st o)&&Region.free .any ops (A4f ops.size L) i
 |none=>false
def E0x(b:Bool)(ops:Array Oper)(st:St)(o:Oper)(K:St→T):T:=doG P nt ops st o K
def D7o(b:Bool)(n0:Nat)(ops:Array Oper)(ds:List (List Nat)):Nat→Nat→St→(St→T)→T
 |0,L,st,K=>match E7g ds ops.size L with
  |[]=>frN (n0+4*ops.size) fun m=>K {st with nn:=m}
  |_=>.fail 180
 |n+1,L,st,K=>match E7g ds ops.size L with
  |[]=>frN (n0+4*ops.size) fun m=>K {st with nn:=m}
  |i0::rs=>frL frN (match (i0::rs).find? (eager P st ops L)with|some i=>[i]|none=>i0::rs) fun rs=>
   D6b (rs.map fun i=>match ops.toList[i]? with
    |some o=>frN (n0+4*i) fun m=>E0x P nt b ops {st with nn:=m} o fun st'=>frN (L ||| (1 <<< i)) fun L'=>D7o b n0 ops ds n L' st' K
    |none=>.fail 181)
def H8h(st:St)(ops:Array Oper):Nat:=
 (E3w st ops ops.toList).foldl (fun m i=>max m (i+1)) (D8b ops.toList.length (A9q (ops.toList.zipIdx.map (C0b (E3w st ops ops.toList))) []))
def E6q(b:Bool)(ops:Array Oper)(st:St)(K:St→T):T:=
 if b || (ops.toList.take (H8h st ops)).any (F8v st)then
  if P.follows .mixedOrders&&bJ ops&&decide (st.sc=true)then frL (frL frN) (ops.toList.map direct) fun ds=>D7o P nt b st.nn ops ds ops.size 0 st K else .fail 183
 else F4v P nt ops st K
end
theorem B1q{n L j:Nat}{d:Bool}:(A4f n L).getD j d=if j<n then L.testBit j else d:=by
 unfold A4f
 by_cases h:j<n
 ·simp[h]
 ·simp[h]
theorem C1a{n L i:Nat}(hi:i<n):(A4f n L).setIfInBounds i true=A4f n (L ||| (1 <<< i)):=by
 apply cE
 ·simp[A4f]
 ·intro j h1 h2
  have hj:j<n:=by simpa[A4f]using h2
  have e1:=C0e (listed:=A4f n L) (i:=i) (j:=j) (d:=false) (by simpa[A4f]using hi)
  have e2:=B1q (n:=n) (L:=L ||| (1 <<< i)) (j:=j) (d:=false)
  rw[Q3 hj]at e2
  have f1:∀(A:Array Bool) (h:j<A.size),A.getD j false=A[j]:=fun A h=>by simp[h]
  rw[←f1 _ h1,←f1 _ h2,e1,e2,Nat.testBit_or,Nat.testBit_shiftLeft]
  rw[B1q,Q3 hj]
  by_cases hij:j=i
  ·subst hij;simp
  ·rw[Q0 hij]
   have:(decide (j≥i)&&bX 1 (j-i))=false:=by
    cases hb:(decide (j≥i)&&bX 1 (j-i))with
    |false=>rfl
    |true=>
     simp only[bB,Q9]at hb
     have:=Nat.testBit_one_eq_true_iff_self_eq_zero.1 hb.2
     omega
   rw[this,bF]
section
variable{X:Cx}{Fs:Nat→Fn}{fuel:Nat}{L:List Fn}{ops:Array Oper}{Q:Exit→Act→World→Prop}{K:St→T}{r:List D}
theorem B4w{Lb i:Nat}:i ∈ bI .any ops (A4f ops.size Lb)↔i ∈ E7g (ops.toList.map direct) ops.size Lb:=by
 rw[B1j]
 unfold E7g
 rw[aN,bA]
 constructor
 ·rintro⟨h1,o,h2,h3⟩
  have hi:i<ops.size:=by have:=(a7.1 h2).1;simpa using this
  rw[B1q,Q3 hi]at h1
  refine⟨hi,?_⟩
  rw[h1,a0,aA,h2]
  simp only[c0,bZ,Bool.not_false,Bool.true_and,aI,bB,Q9]
  intro k hk
  have:=h3 k hk
  rw[B1q]at this
  split at this
  ·rename_i hlt;exact⟨hlt,this⟩
  ·cases this
 ·rintro⟨hi,h⟩
  simp only[bB,bE,aI,Q9]at h
  have hil:i<ops.toList.length:=by simpa using hi
  refine⟨by rw[B1q,Q3 hi];exact h.1,_,a4 hil,fun k hk=>?_⟩
  have h2:=h.2
  rw[a0,aA,a4 hil]at h2
  have h3:=h2 k hk
  rw[B1q,Q3 h3.1]
  exact h3.2
theorem F8p(o:Oper):B7d o []=false:=by
 unfold B7d
 split<;>rfl
theorem D9b{b:Bool}(hF:A5j X.G X.P Fs){o:Oper}{st:St}{ρ:List D}{Ft:Fr}{β:Nat→Value}{a:Act}{w:World}{K:St→T}(he:eval Fs fuel (E0x X.P X.nt b ops st o K) L ρ=some r)(hnv:st.nv=ρ.length)(hs:Sat X ρ st Ft β a w)
  {next:Act→World→Prop} {Q':Exit→Act→World→Prop} (HK:A3q X Fs fuel L ρ K r next):if bH o (yielded ops a.tmps)then o.wp X.P a w next Q'∨(o.asks X.P a w∧LetsOut Q')else next (a.put o.dst undef) w:=by
 unfold E0x at he
 exact C2t (l:=[]) hF (by rw[F8p];simpa using he) hnv hs HK
theorem Sat.nn{ρ:List D}{st:St}{Ft:Fr}{β:Nat→Value}{a:Act}{w:World}(hs:Sat X ρ st Ft β a w)(k:Nat):Sat X ρ {st with nn:=k} Ft β a w:=
 ⟨hs.df,hs.sz,hs.ft,hs.tm,hs.bx,hs.inj,hs.own,hs.chg,hs.fs,hs.on,hs.f0,hs.gx,hs.cf,⟨hs.hg.hp,hs.hg.gm⟩,hs.fw⟩
theorem D4h{ρ:List D}{st:St}{Ft:Fr}{β:Nat→Value}{a:Act}{w:World}(hs:Sat X ρ st Ft β a w){x:Operand}(h:E4x (opC st x)=true):a.eval x=.pointer none∨∃b o,a.eval x=.pointer (some ⟨b,o,none⟩):=by
 unfold E4x at h
 split at h
 ·rename_i hx;obtain⟨b,_,e⟩:=A0g hs hx;exact .inr ⟨_,_,e⟩
 ·rename_i hx;obtain⟨_,b,_,_,_,e⟩:=A0g hs hx;exact .inr ⟨_,_,e⟩
 ·rename_i hx;obtain⟨b,o,_,_,_,_,_,_,_,e⟩:=A0g hs hx;exact .inr ⟨_,_,e⟩
 ·rename_i hx;obtain⟨b,o,_,_,_,_,_,_,_,e⟩:=A0g hs hx;exact .inr ⟨_,_,e⟩
 ·rename_i hx;obtain⟨b,o,_,e⟩:=A0g hs hx;exact .inr ⟨_,_,e⟩
 ·rename_i e la hx
  have hr:Rd X.P w Ft (.ptr e) (den ρ la) (a.eval x):=A0g hs hx
  cases hr with
  |B9u e1 e2=>exact .inl e2
  |B8g e0 e1 e2 e3=>exact .inr ⟨_,_,e3⟩
  |ptr e0 e1 e2 e3 e4 e5 e6 e7=>exact .inr ⟨_,_,e2⟩
 ·rename_i hx;exact .inl (A0g hs hx)
 ·cases h
theorem C9b{ρ:List D}{st:St}{Ft:Fr}{β:Nat→Value}{a:Act}{w:World}(hs:Sat X ρ st Ft β a w){o:Oper}(h:E0t X.P st o=true):
  o.guard=none∧∀next,o.wp X.P a w next (fun _ _ _=>False)→∃v,∀w',(execOp a.eval o).run X.P w'=.ok (.value v) w':=by
 unfold E0t at h
 split at h
 ·rename_i x hop hg
  refine⟨hg,fun next hwp=>?_⟩
  rcases D4h hs h with hp|⟨b,o',hp⟩
  ·exfalso
   unfold cG at hwp
   simp only[execOp,hop,hp]at hwp
   simp[cF,runtimePanic]at hwp
  ·exact⟨.pointer (some ⟨b,o',none⟩),fun w'=>by simp[execOp,hop,hp]⟩
 ·rename_i s x f hop hg
  refine⟨hg,fun next hwp=>?_⟩
  simp only[bB]at h
  obtain⟨h,hf⟩:=h
  split at hf
  ·rename_i fl hfl
   split at hf
   ·rename_i n hn
    rcases D4h hs h with hp|⟨b,o',hp⟩
    ·exfalso
     obtain⟨fs,hu,hff⟩:=C3u hfl
     unfold cG at hwp
     simp only[execOp,hop,hp]at hwp
     simp[cF,cJ,A1a hu,hff,cH]at hwp
    ·exact⟨.pointer (some ⟨b,o'+fl.offset,none⟩),fun w'=>by simp[execOp,hop,hp,B0h hfl hn]⟩
   ·cases hf
  ·cases hf
 ·cases h
theorem D8q{b:Bool}{n0:Nat}(hF:A5j X.G X.P Fs)(hns:bJ ops=true)(hQ:∀c a w,¬Q (.panic c) a w):∀(n fu Lb:Nat) {st:St} {ρ:List D} {Ft:Fr} {β:Nat→Value} {a:Act} {w:World},n≤fu→
  eval Fs fuel (D7o X.P X.nt b n0 ops (ops.toList.map direct) n Lb st K) L ρ=some r→st.nv=ρ.length→Sat X ρ st Ft β a w→A3q X Fs fuel L ρ K r (Q .normal)→wpAny X.P .any ops Q fu (A4f ops.size Lb) a w
 |0,fu,Lb,st,ρ,Ft,β,a,w,hfu,he,hnv,hs,HK=>by
  simp only[D7o,A2j]at he
  split at he
  ·rename_i hr
   refine wpAny_done (aJ.2 fun i hi=>?_) (HK.now (hs.nn (n0+4*ops.size)) hnv he) fu
   have:=B4w.1 hi
   rw[hr]at this;cases this
  ·cases he
 |n+1,fu,Lb,st,ρ,Ft,β,a,w,hfu,he,hnv,hs,HK=>by
  simp only[D7o,A2j]at he
  split at he
  ·rename_i hr
   refine wpAny_done (aJ.2 fun i hi=>?_) (HK.now (hs.nn (n0+4*ops.size)) hnv he) fu
   have:=B4w.1 hi
   rw[hr]at this;cases this
  ·rename_i i0 rs0 hr
   obtain⟨fu,rfl⟩:∃k,fu=k+1:=⟨fu-1,by omega⟩
   rw[A3d A2j]at he
   have go:∀i o,ops.toList[i]?=some o→eval Fs fuel (E0x X.P X.nt b ops {st with nn:=n0+4*i} o fun st'=>D7o X.P X.nt b n0 ops (ops.toList.map direct) n (Lb ||| (1 <<< i)) st' K) L ρ=some r→
     ∀Q':Exit→Act→World→Prop,if bH o (yielded ops a.tmps)then o.wp X.P a w (fun a' w'=>wpAny X.P .any ops Q fu (A4f ops.size (Lb ||| (1 <<< i))) a' w') Q'∨(o.asks X.P a w∧LetsOut Q')else wpAny X.P .any ops Q fu (A4f ops.size (Lb ||| (1 <<< i))) (a.put o.dst undef) w:=by
    intro i o ho h Q'
    refine D9b hF h hnv (hs.nn _) ?_
    intro st' ext Ft' β' a' w' hnv' hs' he'
    exact D8q hF hns hQ n fu _ (by omega) he' hnv' hs' (fun st'' ext' Ft'' β'' a'' w'' z1 z2 z3=>by
     rw[a5]at z1 z2 z3
     exact HK st'' (ext++ext') Ft'' β'' a'' w'' z1 z2 z3)
   cases hf:(i0::rs0).find? (eager X.P st ops Lb)with
   |some i=>
    rw[hf]at he
    simp only[aM,aX]at he
    have he:=B5s he _ (aG.2 rfl)
    have hie:eager X.P st ops Lb i=true:=aY hf
    have him:i ∈ i0::rs0:=aK hf
    unfold eager at hie
    split at hie
    ·rename_i o ho
     simp only[bB,bC]at hie
     obtain⟨hmv,hfree⟩:=hie
     rw[ho]at he
     simp only at he
     have hilt:i<ops.size:=by have:=(a7.1 ho).1;simpa using this
     have ho':ops[i]?=some o:=by simpa using ho
     have hin:i ∈ bI .any ops (A4f ops.size Lb):=B4w.2 (by rw[hr];exact him)
     have hnext:=go i o ho he (fun _ _ _=>False)
     have hp:o.guard=none∧∃v,∀w',(execOp a.eval o).run X.P w'=.ok (.value v) w':=by
      rcases hmv with hmv|hmv
      ·unfold C8c at hmv
       split at hmv
       ·rename_i x d hop hg hd
        exact⟨hg,a.eval x,fun w'=>by simp[execOp,hop]⟩
       ·cases hmv
      ·obtain⟨hg,hv⟩:=C9b hs hmv
       have hw:bH o (yielded ops a.tmps)=true:=by unfold bH;rw[hg]
       simp only[hw,Q5]at hnext
       rcases hnext with h|⟨_,_,_,h⟩
       ·exact⟨hg,hv _ h⟩
       ·exact h.elim
     obtain⟨hg,v,hrun⟩:=hp
     have hw:∀a:Act,bH o (yielded ops a.tmps)=true:=fun a=>by unfold bH;rw[hg]
     have hy:Yields X.P ops o v a:=.inl ⟨hw a,hrun⟩
     simp only[hw a,Q5]at hnext
     have hnext':wpAny X.P .any ops Q fu (A4f ops.size (Lb ||| (1 <<< i))) (a.put o.dst v) w:=by
      rcases hnext with h|⟨_,_,_,h⟩
      ·unfold cG at h
       rw[hrun]at h
       exact h
      ·exact h.elim
     refine wpAny_take ho' hns hfree (by simpa using hin) (fun c a w h=>absurd h (hQ c _ w)) hy ?_
     rw[C1a hilt]
     exact hnext'
    ·cases hie
   |none=>
    rw[hf]at he
    simp only at he
    refine⟨fun hn=>?_,fun i hi=>?_⟩
    ·have:i0 ∈ bI .any ops (A4f ops.size Lb):=B4w.2 (by rw[hr];exact aO ..)
     rw[hn]at this;cases this
    ·have him:=B4w.1 hi
     rw[hr]at him
     have h1:=B5s he _ (aU.2 ⟨i,him,rfl⟩)
     split at h1
     ·rename_i o ho
      have hilt:i<ops.size:=by have:=(a7.1 ho).1;simpa using this
      rw[C1a hilt]
      exact C8g ho (go i o ho h1 Q)
     ·cases h1
theorem F0m{b:Bool}(hF:A5j X.G X.P Fs){id:Nat}{st:St}{ρ:List D}{Ft:Fr}{β:Nat→Value}{a:Act}{w:World}(he:eval Fs fuel (E6q X.P X.nt b ops st K) L ρ=some r)(hnv:st.nv=ρ.length)(hs:Sat X ρ st Ft β a w)
  (HK:A3q X Fs fuel L ρ K r (Q .normal)):(cP id ops true).wp X.P Q a w:=by
 unfold E6q at he
 split at he
 ·split at he
  ·rename_i hc
   simp only[bB,Q9]at hc
   obtain⟨⟨hmix,hns⟩,hsc⟩:=hc
   rw[A3d (A3d A2j)]at he
   let Q':Exit→Act→World→Prop:=fun e a w=>match e with|.panic _=>False|e=>Q e a w
   refine cQ (Q:=Q') (fun e a w h=>by cases e<;>first|exact h|exact h.elim) ?_
   refine wp_region_any hmix ?_
   have h0:A4f ops.size 0=c7 ops.size false:=by
    apply cE
    ·simp[A4f]
    ·intro j h1 h2
     simp[A4f]
   rw[←h0]
   have hs1:=hs.below (D0i w)
   exact D8q (Q:=Q') hF hns (fun c a w h=>h) ops.size ops.size 0 (bO _) he hnv hs1 HK
  ·cases he
 ·exact F5i hF he hnv hs HK
end
section
variable(P:Program)(nt:Nat)
end
section
variable{X:Cx}{Fs:Nat→Fn}{fuel:Nat}{L:List Fn}
end
end Go.Proofs.YtckanieeocdpbaaGreat.Eng
namespace Go.Proofs.YtckanieeocdpbaaGreat.Eng
open Go.RowKit
set_option linter.unusedVariables false
set_option linter.unusedSimpArgs false
def B1y{α:Type}(p:α→Prop):Sem α→Prop
 |.pure a=>p a
 |.load _ _ k=>∀v,B1y p (k v)
 |.store _ _ _ _=>False
 |.new _ k=>∀r,B1y p (k r)
 |.shape _ k=>∀x,B1y p (k x)
 |.freeze _ _ _=>False
 |.frozen _ k=>∀x,B1y p (k x)
 |.getObj _ k=>∀x,B1y p (k x)
 |.setObj _ _ _=>False
 |.choose _ k=>∀n,B1y p (k n)
 |.sys _ _=>False
 |.program k=>∀q,B1y p (k q)
 |.mark _ k=>B1y p k
 |.halt _=>True
def A6w{α:Type}(s:Sem α):Prop:=B1y (fun _=>True) s
theorem B2d{α β:Type}{p:β→Prop}{f:α→Sem β}(hf:∀x,B1y p (f x)):∀{s:Sem α},A6w s→B1y p (s >>= f):=by
 intro s
 induction s with
 |pure a=>intro _;exact hf a
 |load m a k ih=>intro h v;exact ih v (h v)
 |store=>intro h;exact h.elim
 |new o k ih=>intro h v;exact ih v (h v)
 |shape r k ih=>intro h v;exact ih v (h v)
 |freeze=>intro h;exact h.elim
 |frozen a k ih=>intro h v;exact ih v (h v)
 |getObj r k ih=>intro h v;exact ih v (h v)
 |setObj=>intro h;exact h.elim
 |choose q k ih=>intro h v;exact ih v (h v)
 |sys=>intro h;exact h.elim
 |program k ih=>intro h v;exact ih v (h v)
 |mark m k ih=>intro h;exact ih h
 |halt h=>intro _;trivial
theorem A1o{α β:Type}{f:α→Sem β}(hf:∀x,A6w (f x)){s:Sem α}(h:A6w s):A6w (s >>= f):=B2d hf h
theorem G7z{α:Type}{P:Program}{p:α→Prop}:∀{s:Sem α} {w w':World} {x:α},B1y p s→s.run P w=.ok x w'→Below w.heap.size w w'∧p x:=by
 intro s
 induction s with
 |pure a=>intro w w' x hm h;simp only[bM,cN]at h;obtain⟨rfl,rfl⟩:=h;exact⟨Below.refl ..,hm⟩
 |load m a k ih=>
  intro w w' x hm h
  simp only[bM]at h
  split at h
  ·exact ih _ (hm _) h
  ·split at h
   ·exact ih _ (hm _) h
   ·cases h
 |store=>intro w w' x h;exact h.elim
 |new o k ih=>
  intro w w' x hm h
  simp only[bM]at h
  obtain⟨this,hx⟩:=ih _ (hm _) h
  have e1:=this.size
  simp at e1
  refine⟨⟨this.os,this.tape,this.output,by omega,fun k hk=>?_⟩,hx⟩
  rw[this.block k (by simp;omega)]
  simp[Array.getElem?_push];omega
 |shape r k ih=>intro w w' x hm h;simp only[bM]at h;exact ih _ (hm _) h
 |freeze=>intro w w' x h;exact h.elim
 |frozen a k ih=>intro w w' x hm h;simp only[bM]at h;exact ih _ (hm _) h
 |getObj r k ih=>
  intro w w' x hm h
  simp only[bM]at h
  split at h
  ·cases h
  ·exact ih _ (hm _) h
  ·cases h
 |setObj=>intro w w' x h;exact h.elim
 |choose q k ih=>
  intro w w' x hm h
  simp only[bM]at h
  split at h
  ·exact ih _ (hm _) h
  ·obtain⟨this,hx⟩:=ih _ (hm _) h
   exact⟨⟨this.os,this.tape,this.output,this.size,this.block⟩,hx⟩
 |sys=>intro w w' x h;exact h.elim
 |program k ih=>intro w w' x hm h;simp only[bM]at h;exact ih _ (hm _) h
 |mark m k ih=>intro w w' x hm h;simp only[bM]at h;exact ih hm h
 |halt h=>intro w w' x _ h;simp[bM]at h
theorem D6d(t:TypeId):A6w (typeInfo t):=by
 unfold typeInfo program
 refine A1o (fun p=>?_) (fun p=>trivial)
 split<;>trivial
theorem C4d(t:TypeId):A6w (underlying t):=by
 unfold underlying program
 refine A1o (fun p=>?_) (fun p=>trivial)
 split<;>trivial
theorem D5h(t:TypeId):A6w (sizeOf t):=by
 unfold sizeOf
 refine A1o (fun n=>?_) (D6d t)
 trivial
theorem F3m(t:TypeId):A6w (isAgg t):=by
 unfold isAgg
 refine A1o (fun p=>?_) (C4d t)
 split<;>trivial
theorem G7p(t:TypeId):A6w (zeroValue t):=by
 unfold zeroValue
 refine A1o (fun p=>?_) (D6d t)
 split<;>trivial
theorem E1t(a:Addr):∀(n i:Nat) (acc:Array Value),A6w (loadCellsFrom a i n acc)
 |0,i,acc=>trivial
 |n+1,i,acc=>fun v=>E1t a n (i+1) (acc.push v)
theorem F6k(t:TypeId)(a:Addr):A6w (loadVar t a):=by
 unfold loadVar
 refine A1o (fun b=>?_) (F3m t)
 split
 ·refine A1o (fun n=>?_) (D5h t)
  refine A1o (fun n=>?_) (E1t a n 0 #[])
  trivial
 ·exact fun v=>trivial
theorem E8w(v:Value):A6w (cH v):=by unfold cH;split<;>trivial
theorem C2j{α:Type}{p:α→Prop}(e:RuntimeError):B1y p (runtimePanic e:Sem α):=by
 unfold runtimePanic program
 refine B2d (fun p=>?_) (fun p=>trivial)
 have ht:∀(t:TypeId),A6w (elemOf t):=fun t=>by
  unfold elemOf
  refine A1o (fun p=>?_) (C4d _)
  split<;>trivial
 split
 all_goals first|trivial|skip
 ·refine B2d (fun t=>?_) (ht _)
  exact fun r=>trivial
 ·refine B2d (fun t=>?_) (ht _)
  exact fun r=>trivial
theorem G6q(t:TypeId)(cs:Array Value)(o:Nat):A6w (part t cs o):=by
 unfold part
 refine A1o (fun b=>?_) (F3m t)
 split
 ·refine A1o (fun n=>?_) (D5h t)
  trivial
 ·split<;>trivial
theorem C7k:∀(l:List FieldStep) (t:TypeId) (x:Option Value),A6w (followBlind l t x)
 |[],t,x=>trivial
 |s::rest,t,x=>by
  unfold followBlind
  refine A1o (fun p=>?_) (C4d _)
  split
  ·split
   ·split<;>first|trivial|exact C7k rest _ _|exact A1o (fun _=>C7k rest _ _) (G6q _ _ _)
   ·trivial
  ·trivial
theorem E3z:∀(n:Nat) (t:TypeId) (v:Value) (name:String),A6w (nilAhead n t v name)
 |0,_,_,_=>trivial
 |n+1,t,v,name=>by
  unfold nilAhead
  refine A1o (fun p=>?_) (D6d _)
  split
  ·refine A1o (fun p=>?_) (C7k _ _ _)
   split
   ·trivial
   ·split<;>first|trivial|exact E3z n _ _ _|skip
    refine A1o (fun p=>?_) (C4d _)
    split<;>trivial
  ·trivial
theorem F7i(a:Addr):A6w (noView a):=by
 have hv:A6w (viewAt a.block):=by
  unfold viewAt shape getObj
  refine A1o (fun x=>?_) (fun x=>trivial)
  split
  ·trivial
  ·refine A1o (fun x=>?_) (fun x=>trivial)
   split<;>trivial
 unfold noView
 refine A1o (fun x=>?_) hv
 split<;>trivial
theorem D9h(a:Addr):A6w (byteOf a):=by
 unfold byteOf program shape
 split
 ·trivial
 ·refine A1o (fun p=>?_) (fun p=>trivial)
  refine A1o (fun _=>?_) (F7i _)
  refine A1o (fun x=>?_) (fun x=>trivial)
  split
  ·show A6w (if _ then _ else _)
   split
   ·trivial
   ·split<;>trivial
  ·trivial
theorem F6y(a:Addr)(m n:Nat):A6w (partAt a m n):=by
 unfold partAt
 refine A1o (fun p=>?_) (D9h _)
 refine A1o (fun p=>?_) (D9h _)
 trivial
theorem G3s(a:Addr)(f:Field):A6w (fieldPlace a f):=by
 unfold fieldPlace
 refine A1o (fun p=>?_) (D5h _)
 split
 ·exact F6y _ _ _
 ·trivial
def D2b(o:Oper):Bool:=match o.op with
 |.move _|.load ..|.nilCheck _|.fieldAddr ..|.alloc _|.extract ..=>true
 |_=>false
def isVal:Next→Prop|.value _=>True|_=>False
theorem F7m{ρ:Operand→Value}{o:Oper}(h:D2b o=true):B1y isVal (execOp ρ o):=by
 have hv:∀{s:Sem Value},A6w s→B1y isVal (do pure (Next.value (←s))):=fun {s} h=>B2d (p:=isVal) (f:=fun v=>pure (Next.value v)) (fun _=>trivial) h
 unfold D2b at h
 split at h
 ·rename_i x hop;simp only[execOp,hop];trivial
 ·rename_i t x hop;simp only[execOp,hop,cI];exact hv (A1o (fun a=>F6k _ _) (E8w _))
 ·rename_i x hop
  simp only[execOp,hop]
  split
  ·exact C2j _
  ·exact C2j _
  ·exact C2j _
  ·split
   ·exact C2j _
   ·refine B2d (fun p=>B2d (fun p=>?_) (E3z _ _ _ _)) (fun p=>trivial)
    split
    ·trivial
    ·trivial
   ·trivial
  ·trivial
 ·rename_i x hop
  simp only[execOp,hop,cJ]
  refine hv (A1o (fun p=>?_) (C4d _))
  split
  ·split
   ·refine A1o (fun p=>?_) (E8w _)
    refine A1o (fun p=>?_) (G3s _ _)
    trivial
   ·trivial
  ·trivial
 ·rename_i x hop
  simp only[execOp,hop,Instr.alloc]
  refine hv (A1o (fun z=>?_) (G7p _))
  unfold newVar newRow newObj
  exact fun r=>trivial
 ·rename_i x hop
  simp only[execOp,hop,Instr.extract]
  refine hv ?_
  split
  ·split<;>trivial
  ·trivial
 ·cases h
theorem E9k{P:Program}{w w':World}{b:Nat}{cs:Array Value}{e:TypeId}{z:Nat × Nat}(hb:w.heap[b]?=some (.cells cs e z))(hb':w'.heap[b]?=w.heap[b]?){t:TypeId}{o:Nat}{v:Value}{w1:World}(h:(loadVar t ⟨b,o,none⟩).run P w=.ok v w1):
  w1=w∧(loadVar t ⟨b,o,none⟩).run P w'=.ok v w':=by
 have hc:∀o,w'.cell? ⟨b,o,none⟩=w.cell? ⟨b,o,none⟩:=fun o=>by unfold cR;simp only[hb']
 have hf:∀o,∃h,w.farLoad P ⟨b,o,none⟩ false=.error h:=fun o=>by unfold World.farLoad;simp only[hb];exact⟨_,rfl⟩
 have one:∀(o:Nat) {v:Value} {w1:World},(load ⟨b,o,none⟩).run P w=.ok v w1→w1=w∧(load ⟨b,o,none⟩).run P w'=.ok v w':=by
  intro o v w1 h
  simp only[load,bM]at h⊢
  rw[hc]
  cases hcell:w.cell? ⟨b,o,none⟩with
  |some x=>rw[hcell]at h;simp only[cN]at h⊢;obtain⟨rfl,rfl⟩:=h;exact⟨rfl,by simp⟩
  |none=>
   rw[hcell]at h
   obtain⟨e,he⟩:=hf o
   have:(Mode.plain == Mode.atomic)=false:=rfl
   simp only[this,he]at h
   cases h
 have all:∀(n i o:Nat) (acc:Array Value) {v:Array Value} {w1:World},(loadCellsFrom ⟨b,o,none⟩ i n acc).run P w=.ok v w1→w1=w∧(loadCellsFrom ⟨b,o,none⟩ i n acc).run P w'=.ok v w':=by
  intro n
  induction n with
  |zero=>intro i o acc v w1 h;simp only[loadCellsFrom,bN,cN]at h⊢;obtain⟨rfl,rfl⟩:=h;exact⟨rfl,by simp⟩
  |succ n ih=>
   intro i o acc v w1 h
   have ha:(⟨b,o,none⟩:Addr).add i=⟨b,o+i,none⟩:=by unfold Addr.add;split<;>simp_all
   simp only[loadCellsFrom,bL,ha]at h⊢
   cases hr:(load ⟨b,o+i,none⟩).run P w with
   |halt x y=>rw[hr]at h;simp[c4]at h
   |ok x y=>
    obtain⟨rfl,q⟩:=one _ hr
    rw[hr]at h
    rw[q]
    simp only[c5]at h⊢
    exact ih _ _ _ h
 have hpr:∀{α:Type} (k:TypeDesc→Sem α),∀w,(underlying t >>= k).run P w=match P.underlying t with|some d=>(k d).run P w|none=>.halt (.stuck "no such type") w:=by
  intro α k w
  cases hu:P.underlying t<;>simp[underlying,program,stuck,hu,bL,c4,bM]
 have hag:∀{α:Type} (k:Bool→Sem α),∀w,(isAgg t >>= k).run P w=match P.underlying t with|some (.struct _)=>(k true).run P w|some (.array _ _)=>(k true).run P w|some _=>(k false).run P w|none=>.halt (.stuck "no such type") w:=by
  intro α k w
  cases hu:P.underlying t with
  |none=>simp[isAgg,underlying,program,stuck,hu,bL,c4,bM]
  |some d=>cases d<;>simp[isAgg,underlying,program,stuck,hu,bL,c4,bM]
 have hsz:∀{α:Type} (k:Nat→Sem α),∀w,(sizeOf t >>= k).run P w=match P.info? t with|some i=>(k i.size).run P w|none=>.halt (.stuck "no such type") w:=by
  intro α k w
  cases hu:P.info? t<;>simp[sizeOf,typeInfo,program,stuck,hu,bL,c4,bM]
 unfold loadVar at h⊢
 rw[hag]at h⊢
 have agg:∀{v:Value} {w1:World},((do let n←sizeOf t;let l←loadCells ⟨b,o,none⟩ n;pure (Value.agg l)):Sem Value).run P w=.ok v w1→w1=w∧((do let n←sizeOf t;let l←loadCells ⟨b,o,none⟩ n;pure (Value.agg l)):Sem Value).run P w'=.ok v w':=by
  intro v w1 h
  rw[hsz]at h⊢
  split at h
  ·rename_i i hi
   simp only[bL,loadCells]at h⊢
   cases hr:(loadCellsFrom ⟨b,o,none⟩ 0 i.size #[]).run P w with
   |halt x y=>rw[hr]at h;simp[c4]at h
   |ok x y=>
    obtain⟨rfl,q⟩:=all _ _ _ _ hr
    rw[hr]at h
    rw[q]
    simp only[c5,bN,cN]at h⊢
    obtain⟨rfl,rfl⟩:=h
    exact⟨rfl,by simp⟩
  ·cases h
 split at h
 ·simp only[Q5]at h⊢;exact agg h
 ·simp only[Q5]at h⊢;exact agg h
 ·simp only[bD,Q4]at h⊢;exact one _ h
 ·cases h
section
variable{P:Program}{ops:Array Oper}{Q:Exit→Act→World→Prop}
theorem G5a{S:World→Prop}(hS:∀w w',S w→Below w.heap.size w w'→S w'){j:Nat}{oj:Oper}(hj:ops[j]?=some oj)(hm:D2b oj=true){K:Act→World→Prop}{a:Act}{w:World}(hw:S w)(h:wpOp P ops Q j K a w):wpOp P ops Q j (fun a' w'=>K a' w'∧S w') a w:=by
 unfold wpOp at h⊢
 simp only[hj]at h⊢
 split at h
 ·rename_i hwant
  rw[Q3 hwant]
  rcases h with h|h
  ·refine .inl ?_
   unfold cG at h⊢
   have hml:=F7m (ρ:=a.eval) hm
   cases hr:(execOp a.eval oj).run P w with
   |halt x w'=>rw[hr]at h;cases x<;>exact h
   |ok n w'=>
    rw[hr]at h
    obtain⟨hb,hn⟩:=G7z hml hr
    have hb:=hS _ _ hw hb
    cases n<;>first|exact hn.elim|skip
    exact⟨h,hb⟩
  ·exact .inr h
 ·rename_i hwant
  rw[Q0 hwant]
  exact⟨h,hw⟩
theorem F6u{S:World→Prop}(hS:∀w w',S w→Below w.heap.size w w'→S w'){W:Nat→Bool}{md:Region.Mode}{i:Nat}{oi:Oper}{v:Value}(hi:ops[i]?=some oi)(hsel:∀(j:Nat) (o:Oper) cs b,ops[j]?=some o→o.op≠.select cs b)
  (hQ:∀c a w,Q (.panic c) (a.put oi.dst v) w→Q (.panic c) a w) (hW:∀j oj,ops[j]?=some oj→W j=true→∃e ∈ oj.after,bK md e=true∧(e.on=i∨W e.on=true)):
  ∀(fuel:Nat) (listed:Array Bool) (a:Act) (w:World),(∀j,W j=true→listed.getD j false=false)→
   (∀j oj,ops[j]?=some oj→j≠i→listed.getD j true=false→W j=false→oi.apart ops oj=true∧D2b oj=true)→
   i ∈ bI md ops listed→YieldsIf P ops S oi v a→S w→
   wpAny P md ops Q fuel (listed.setIfInBounds i true) (a.put oi.dst v) w→wpAny P md ops Q (fuel+1) listed a w:=by
 intro fuel
 induction fuel with
 |zero=>
  intro listed a w _ _ hr hy hS H
  refine⟨fun h=>(by rw[h]at hr;cases hr),fun j hj=>?_⟩
  by_cases hji:j=i
  ·subst hji;exact hy.wpOp hi hS H
  ·have:=ready_mono hj hji
   rw[H.1]at this
   cases this
 |succ fuel ih=>
  intro listed a w hWl hfree hr hy hSw H
  refine⟨fun h=>(by rw[h]at hr;cases hr),fun j hj=>?_⟩
  by_cases hji:j=i
  ·subst hji;exact hy.wpOp hi hSw H
  ·have h1:=H.2 j (ready_mono hj hji)
   obtain⟨hjun,oj,hoj,hall⟩:=mem_ready.1 hj
   have hi0:listed.getD i false=false:=by
    have h0:=(mem_ready.1 hr).1
    rcases bQ i listed.size with h'|h'
    ·simp[h']at h0⊢;exact h0
    ·simp[cB h']
   have hnW:W j=false:=by
    cases hw:W j with
    |false=>rfl
    |true=>
     obtain⟨e,he,hb,hor⟩:=hW j oj hoj hw
     have h1:=hall e he hb
     have h0:listed.getD e.on false=false:=by
      rcases hor with hor|hor
      ·rw[hor];exact hi0
      ·exact hWl _ hor
     simp only[Array.getD_eq_getD_getElem?]at h0 h1
     rw[h0]at h1;cases h1
   obtain⟨hap,hml⟩:=hfree j oj hoj hji hjun hnW
   have h2:=wpOp_putIf hoj hap (fun cs b=>hsel i oi cs b hi) (fun cs b=>hsel j oj cs b hoj) hQ hy h1
   have h3:=G5a hS hoj hml hSw h2
   have hfree':∀k ok,ops[k]?=some ok→k≠i→(listed.setIfInBounds j true).getD k true=false→W k=false→oi.apart ops ok=true∧D2b ok=true:=fun k ok hk hki hun hno=>by
    refine hfree k ok hk hki ?_ hno
    by_cases hjk:j=k
    ·subst hjk;exact hjun
    ·rw[getD_set_ne true hjk]at hun;exact hun
   have hWl':∀k,W k=true→(listed.setIfInBounds j true).getD k false=false:=fun k hk=>by
    have hjk:j≠k:=fun h=>by subst h;rw[hnW]at hk;cases hk
    rw[getD_set_ne false hjk];exact hWl k hk
   refine wpOp_mono (fun a' w' h4=>ih (listed.setIfInBounds j true) a' w' hWl' hfree' (ready_mono hr (Ne.symm hji)) h4.1.1 h4.2 ?_) h3
   rw[Array.setIfInBounds_comm _ _ hji]
   exact h4.1.2
end
def D7a(P:Program)(st:St)(x:Operand):Bool:=match opC st x with
 |some (.ptr n _)=>(match st.bx.lookup n with|some (.box _ _)=>true|_=>false)
 |some (.A8b _ _ _)=>st.hp.isSome
 |some (.dat (.ptr e) _)=>if st.cf.hc.contains e then st.hp.isSome else(match A0r P e with|some (_::_)=>true|_=>false)
 |_=>false
section
variable{X:Cx}
theorem G1t{ρ:List D}{st:St}{Ft:Fr}{β:Nat→Value}{a:Act}{w:World}(hs:Sat X ρ st Ft β a w){x:Operand}(h:D7a X.P st x=true):a.eval x=.pointer none∨∃b o cs e z,a.eval x=.pointer (some ⟨b,o,none⟩)∧w.heap[b]?=some (.cells cs e z):=by
 unfold D7a at h
 split at h
 ·rename_i n c hx
  split at h
  ·rename_i t cs hb
   obtain⟨b,hb1,hb2⟩:=A0g hs hx
   obtain⟨b',vs,e1,e2,e3⟩:=hs.bx _ _ hb
   obtain rfl:b'=b:=by rw[e1]at hb1;simpa using hb1
   exact .inr ⟨_,_,_,_,_,hb2,e2⟩
  ·cases h
 ·rename_i t y c hx
  obtain⟨⟨m,hh⟩,hp⟩:=c3.1 h
  obtain⟨n,b,x1,x2,x3,x4⟩:=A0g hs hx
  obtain⟨φ,q1,q2⟩:=hs.hg.hp m hh hp
  obtain⟨vs,os',g,h1,h2,h3,h4,h5,h6,h7⟩:=q1.obj n b t x3
  exact .inr ⟨_,_,_,_,_,x4,h1⟩
 ·rename_i e la hx
  have hr:Rd X.P w Ft (.ptr e) (den ρ la) (a.eval x):=A0g hs hx
  cases hr with
  |B9u e1 e2=>exact .inl e2
  |B8g e0 e1 e2 e3=>
   rename_i n b
   rw[hs.cf.2]at e0
   rw[Q3 e0]at h
   obtain⟨⟨m,hh⟩,hp⟩:=c3.1 h
   obtain⟨φ,q1,q2⟩:=hs.hg.hp m hh hp
   obtain⟨vs,os',g,h1,h2,h3,h4,h5,h6,h7⟩:=q1.obj n b e e2
   exact .inr ⟨_,_,_,_,_,e3,h1⟩
  |ptr e0 e1 e2 e3 e4 e5 e6 e7=>
   rename_i b o l ts g
   rw[hs.cf.2]at e0
   rw[Q0 (by rw[e0];simp),e3]at h
   cases ts with
   |nil=>cases h
   |cons t0 ts0=>
    cases l with
    |nil=>simp at e4
    |cons d0 l0=>
     have hcell:=e6 0 d0 rfl
     unfold cR at hcell
     split at hcell
     ·rename_i cs el z hb
      exact .inr ⟨b,o,cs,el,z,e2,hb⟩
     ·cases hcell
 ·cases h
end
def G1l(ds:List (List Nat))(i:Nat):Nat:=ds.zipIdx.foldl (fun W p=>if p.1.any (fun k=>decide (k=i) || W.testBit k)then W ||| (1 <<< p.2)else W) 0
def E2y(P:Program)(st:St)(ops:Array Oper)(L W i:Nat):Bool:=match ops.toList[i]? with
 |some oi=>(match oi.op,oi.guard with|.load _ x,none=>D7a P st x|_,_=>false)&&
  (aV ops.size).all fun j=>match ops.toList[j]? with
   |some oj=>if W.testBit j then !L.testBit j&&(direct oj).any (fun k=>decide (k=i) || (decide (k<ops.size)&&W.testBit k))else decide (j=i) || L.testBit j || (oi.apart ops oj&&D2b oj)
   |none=>false
 |none=>false
def F0u{α:Type}[DecidableEq α](m:Nat)(l1 l2:List (Nat × α)):Bool:=
 (l1.take m).all (fun p=>decide ((l1.take m).lookup p.1=(l2.take m).lookup p.1))&&(l2.take m).all (fun p=>((l1.take m).lookup p.1).isSome)&&decide (l1.drop m=l2.drop m)
theorem E5n{α:Type}(a b:List (Nat × α))(n:Nat):(a++b).lookup n=match a.lookup n with|some x=>some x|none=>b.lookup n:=by
 induction a with
 |nil=>rfl
 |cons p a ih=>
  obtain⟨k,v⟩:=p
  simp only[List.cons_append,List.lookup]
  cases n == k with
  |true=>rfl
  |false=>simp only[ih]
theorem D8u{α:Type}[DecidableEq α]{m:Nat}{l1 l2:List (Nat × α)}(h:F0u m l1 l2=true){n:Nat}{x:α}(hx:l1.lookup n=some x):l2.lookup n=some x:=by
 unfold F0u at h
 simp only[bB,aI,Q9]at h
 obtain⟨⟨h1,h2⟩,h3⟩:=h
 rw[←aZ m l1,E5n]at hx
 rw[←aZ m l2,E5n]
 cases hf:(l1.take m).lookup n with
 |some y=>
  rw[hf]at hx
  have:=h1 (n,y) (A0z hf)
  rw[hf]at this
  rw[←this]
  exact hx
 |none=>
  rw[hf]at hx
  cases hg:(l2.take m).lookup n with
  |some y=>
   have:=h2 (n,y) (A0z hg)
   rw[hf]at this;cases this
  |none=>simp only at hx⊢;rw[←h3];exact hx
def D7e(m:Nat)(sj st:St):Bool:=
 decide (sj.nv=st.nv)&&F0u m sj.tm st.tm&&F0u m sj.bx st.bx&&sj.fs.all (fun p=>decide (p ∈ st.fs))&&decide (sj.hp=st.hp)&&decide (sj.ex=st.ex)&&decide (sj.cf=st.cf)
def C0d:T→List St
 |.A9e _ t=>C0d t
 |.call _ _ _ t=>C0d t
 |.ite _ a b=>C0d a++C0d b
 |.any a b=>C0d a++C0d b
 |.stop s=>[s]
 |_=>[]
def D7t(nv:Nat):T→T
 |.A9e e t=>.A9e e (D7t nv t)
 |.call f args k t=>A8j ((A6p t).1.filter fun e=>e.sc nv) (.call f args k (A8j ((A6p t).1.filter fun e=>!e.sc nv) (A6p t).2))
 |t=>t
section
variable{Fs:Nat→Fn}{fuel:Nat}{L:List Fn}{ρ:List D}{r:List D}
theorem G0s:∀{t:T},eval Fs fuel (D7t ρ.length t) L ρ=some r→eval Fs fuel t L ρ=some r:=by
 intro t
 induction t with
 |A9e e t ih=>
  intro h
  simp only[D7t,eval]at h⊢
  split at h
  ·rename_i he;rw[Q3 he];exact ih h
  ·cases h
 |call f args k t ih=>
  intro h
  simp only[D7t]at h
  obtain⟨h1,h2⟩:=B9a h
  simp only[eval]at h2⊢
  split at h2
  ·rename_i r' hr
   split at h2
   ·rename_i hk
    rw[Q3 hk]
    obtain⟨h3,h4⟩:=B9a h2
    refine B8i (fun e he=>?_) h4
    cases hs:e.sc ρ.length with
    |true=>rw[A0y hs];exact h1 e (aN.2 ⟨he,hs⟩)
    |false=>exact h3 e (aN.2 ⟨he,by simp[hs]⟩)
   ·cases h2
  ·cases h2
 |_=>intro h;exact h
theorem E0m{nv:Nat}(hn:nv=ρ.length){t:T}(h:eval Fs fuel (D7t nv t) L ρ=some r):eval Fs fuel t L ρ=some r:=by
 subst hn;exact G0s h
end
section
variable(P:Program)(nt:Nat)
def C8d{α β:Type}(f:α→β→(β→T)→T):List α→β→(β→T)→T
 |[],acc,k=>k acc
 |x::xs,acc,k=>f x acc fun acc=>C8d f xs acc k
def F9h(m L:Nat)(s:St)(l:List (Nat × St)):Bool:=l.any fun q=>decide (q.1=L)&&D7e m q.2 s
def E4d(st:St)(ops:Array Oper)(ds:List (List Nat))(L:Nat)(rs:List Nat):List Nat:=match rs.find? (eager P st ops L)with
 |some i=>[i]
 |none=>match rs.find? (fun i=>E2y P st ops L (G1l ds i) i)with
  |some i=>[i]
  |none=>rs
def G4g(b:Bool)(n0:Nat)(ops:Array Oper)(ds:List (List Nat))(ns:List (Nat × St))(k:List (Nat × St)→T):T:=
 C8d (fun(p:Nat × St) acc k=>frL frN (E4d P p.2 ops ds p.1 (E7g ds ops.size p.1)) fun is=>
  C8d (fun i acc k=>match ops.toList[i]? with
   |some o=>frN (n0+4*i) fun m=>frN (p.1 ||| (1 <<< i)) fun L'=>
    C8d (fun s acc k=>B0k s fun s=>match F9h ops.size L' s acc with|true=>k acc|false=>k ((L',s)::acc)) (C0d (E0x P nt b ops {p.2 with nn:=m} o .stop)) acc k
   |none=>k acc) is acc k) ns [] k
def levels(b:Bool)(n0:Nat)(ops:Array Oper)(ds:List (List Nat)):Nat→List (Nat × St)→(List (List (Nat × St))→T)→T
 |0,ns,k=>k [ns]
 |n+1,ns,k=>G4g P nt b n0 ops ds ns fun ns'=>levels b n0 ops ds n ns' fun ls=>k (ns::ls)
def D2t(m L:Nat)(st:St):List (Nat × St × T)→Option T
 |[]=>none
 |(L',sj,t)::l=>if decide (L'=L)&&D7e m sj st then some t else D2t m L st l
def G3m(b:Bool)(n0:Nat)(ops:Array Oper)(ds:List (List Nat))(fin:St→T)(end_:Bool)(below:List (Nat × St × T))(L:Nat)(st:St):T:=
 match E7g ds ops.size L with
 |[]=>fin st
 |i0::rs=>if end_ then .fail 180 else frL frN (E4d P st ops ds L (i0::rs)) fun is=>D6b (is.map fun i=>match ops.toList[i]? with
  |some o=>frN (n0+4*i) fun m=>frN (L ||| (1 <<< i)) fun L'=>D7t st.nv (E0x P nt b ops {st with nn:=m} o fun st'=>match D2t ops.size L' st' below with|some t=>t|none=>.fail 187)
  |none=>.fail 181)
def lvP(b:Bool)(n0:Nat)(ops:Array Oper)(ds:List (List Nat))(fin:St→T)(end_:Bool)(below:List (Nat × St × T))(ns:List (Nat × St)):List (Nat × St × T):=ns.map fun p=>(p.1,p.2,G3m P nt b n0 ops ds fin end_ below p.1 p.2)
def E6f(b:Bool)(n0:Nat)(ops:Array Oper)(ds:List (List Nat))(fin:St→T):List (List (Nat × St))→List (Nat × St × T)
 |[]=>[]
 |ns::rest=>lvP P nt b n0 ops ds fin rest.isEmpty (E6f b n0 ops ds fin rest) ns
def lvT(b:Bool)(n0:Nat)(ops:Array Oper)(ds:List (List Nat))(fin:St→T)(end_:Bool)(below:List (Nat × St × T)):List (Nat × St)→(List (Nat × St × T)→T)→T
 |[],k=>k []
 |p::ns,k=>frT (G3m P nt b n0 ops ds fin end_ below p.1 p.2) fun t=>lvT b n0 ops ds fin end_ below ns fun tb=>k ((p.1,p.2,t)::tb)
def F6h(b:Bool)(n0:Nat)(ops:Array Oper)(ds:List (List Nat))(fin:St→T):List (List (Nat × St))→(List (Nat × St × T)→T)→T
 |[],k=>k []
 |ns::rest,k=>F6h b n0 ops ds fin rest fun below=>lvT P nt b n0 ops ds fin rest.isEmpty below ns k
def G7o(m:Nat):List (List (Nat × St))→Option St
 |[]=>none
 |[[(_,s)]]=>some {s with nn:=m}
 |_::l=>G7o m l
def B9c:T→Nat
 |.fail n=>n
 |.A9e _ t=>B9c t
 |.call _ _ _ t=>B9c t
 |.ite _ a b=>if B9c a=0 then B9c b else B9c a
 |.any a b=>if B9c a=0 then B9c b else B9c a
 |_=>0
def F3k(b:Bool)(ops:Array Oper)(st:St)(lv:Nat)(K:St→T):T:=
 if P.follows .mixedOrders&&bJ ops&&decide (st.sc=true)then frL (frL frN) (ops.toList.map direct) fun ds=>B0k st fun st=>
  levels P nt b st.nn ops ds ops.size [(0,st)] fun ls=>
  match G7o (st.nn+4*ops.size) ls with
  |some sj=>B0k sj fun sj=>frN (sj.nv-st.nv) fun k=>.jp (K sj)
    (F6h P nt b st.nn ops ds (fun st'=>if D7e ops.size sj st' then .again lv ((aV k).map fun i=>.var (st.nv+i))else .fail 185) ls fun tb=>
     match D2t ops.size 0 st tb with|some t=>t|none=>.fail 189)
  |none=>F6h P nt b st.nn ops ds (fun _=>.fail 186) ls fun tb=>match D2t ops.size 0 st tb with|some t=>frN (B9c t) fun n=>.fail n|none=>.fail 189
 else .fail 183
end
def St.pz(P:Program)(st:St)(t:Nat):St:=match st.tm.lookup t with
 |some (.one (.ptr n 0))=>match st.bx.lookup n with
  |some (.box bt cs)=>match A0r P bt with
   |some ts=>match A7e ts cs with
    |some es=>if st.cf.hc.contains bt=false then {st with tm:=(t,.one (.dat (.ptr bt) (A4e es)))::st.tm,bx:=st.bx.filter fun p=>p.1 != n} else st
    |none=>st
   |none=>st
  |_=>st
 |_=>st
def St.hpz(P:Program)(st:St)(t:Nat):St:=match st.tm.lookup t with
 |some (.one (.ptr n 0))=>match st.bx.lookup n,st.hp with
  |some (.box bt cs),some (true,h)=>match D2o P st.cf.ob bt with
   |some os=>match B2g P st os cs with
    |some (es,ms)=>if st.cf.hc.contains bt=true∧st.ex=[]∧ms.contains n=false then {(st.A2u (n::ms))with hp:=some (true,B8j h (A4e es)),tm:=(t,.one (.dat (.ptr bt) (D7l h)))::(st.A2u (n::ms)).tm} else st
    |none=>st
   |none=>st
  |_,_=>st
 |_=>st
def St.E7b(P:Program)(st:St)(l:List Nat):St:=l.foldl (St.hpz P) st
section
variable{X:Cx}
theorem Sat.hpz{ρ:List D}{st:St}{Ft:Fr}{β:Nat→Value}{a:Act}{w:World}(hs:Sat X ρ st Ft β a w)(tt:Nat):(st.hpz X.P tt).nv=st.nv∧∃F',Sat X ρ (st.hpz X.P tt) F' β a w:=by
 unfold St.hpz
 split
 ·rename_i n0 htt
  split
  ·rename_i t cs h hbx hhp
   split
   ·rename_i os hos
    split
    ·rename_i es ms hoc
     split
     ·rename_i hc
      obtain⟨hcl,hex,hnm⟩:=hc
      obtain⟨v0,hv0,b,hb1,hb2⟩:=hs.tm tt _ htt
      obtain⟨b',vs,e1,hnewc,hl⟩:=hs.bx _ _ hbx
      obtain rfl:b'=b:=by rw[e1]at hb1;simpa using hb1
      have hbk0:(Box.box t cs).bk (β n0)=some b':=by rw[e1];rfl
      have hbo:=hs.own n0 _ b' hbx hbk0
      obtain⟨l1,l2,g,g1,g2,g3⟩:=B4x hs hoc hl
      obtain⟨φ,q1,q2⟩:=hs.hg.hp _ _ hhp
      have hs1:=hs.A2u (n0::ms)
      obtain⟨p1,p2,p3,p4,p5,p6⟩:=B4r (n0::ms) st
      have hbnot:(∀n,b' ∉ φ n)∧∀j x,(st.A2u (n0::ms)).bx.lookup j=some x→x.bk (β j)≠some b':=by
       refine⟨fun n hn=>(q2 n b' hn).2 n0 _ hbx hbk0,fun j y hy he=>?_⟩
       obtain⟨y1,z,y2,y3,_⟩:=A8y (n0::ms) hy
       rw[y3]at he
       have:=hs.inj j n0 z _ b' y2 hbx he hbk0
       subst this
       exact y1 (aO ..)
      have hle:Le w Ft w ⟨Ft.ok,Ft.γ++[(b',t)],Ft.hc⟩:=⟨fun b hb'=>⟨hb',rfl⟩,b5 _ _,rfl⟩
      have hgk:∀i k,k ∈ g i→k≠b'∧k<w.heap.size∧(k ∈ X.S∨X.w0.heap.size≤k)∧¬Ft k∧(∀n,k ∉ φ n)∧∀j x,(st.A2u (n0::ms)).bx.lookup j=some x→x.bk (β j)≠some k:=by
       intro i k hk
       obtain⟨m,x,z1,z2,z3⟩:=g2 i k hk
       refine⟨fun he=>?_,(hs.own m x k z2 z3).1,(hs.own m x k z2 z3).2,fun hf=>(hs.ft k hf).2 m x z2 z3,fun n hn=>(q2 n k hn).2 m x z2 z3,fun j y hy he=>?_⟩
       ·rw[he]at z3
        have:=hs.inj m n0 x _ b' z2 hbx z3 hbk0
        subst this
        have:ms.contains m=true:=by simpa using z1
        rw[this]at hnm;cases hnm
       ·obtain⟨y1,z,y2,y3,_⟩:=A8y (n0::ms) hy
        rw[y3]at he
        have:=hs.inj j m z x k y2 z2 he z3
        subst this
        exact y1 (b0 _ z1)
      have hlenγ:(den ρ h).toL.length=Ft.γ.length:=q1.len
      let φ':Nat→List Nat:=fun n=>if n=Ft.γ.length then A9d b' os.length g else φ n
      have hφn:∀n k,k ∈ φ' n→(n=Ft.γ.length∧(k=b'∨∃i,i<os.length∧k ∈ g i))∨(n≠Ft.γ.length∧k ∈ φ n):=by
       intro n k hk
       simp only[φ']at hk
       split at hk
       ·rename_i e;exact .inl ⟨e,(A5b k).1 hk⟩
       ·rename_i e;exact .inr ⟨e,hk⟩
      have hφ0:∀n k,k ∈ φ n→k<w.heap.size∧¬Ft k∧(∀j x,(st.A2u (n0::ms)).bx.lookup j=some x→x.bk (β j)≠some k)∧(k ∈ X.S∨X.w0.heap.size≤k):=by
       intro n k hk
       refine⟨(q1.far n k hk).1,(q1.far n k hk).2,fun j x hx he=>?_,(q2 n k hk).1 rfl⟩
       obtain⟨_,z,y2,y3,_⟩:=A8y (n0::ms) hx
       rw[y3]at he
       exact(q2 n k hk).2 j z y2 he
      have hnf:¬Ft b':=fun hf=>(hs.ft _ hf).2 n0 _ hbx hbk0
      have hall:∀n k,k ∈ φ' n→k<w.heap.size∧¬Ft k∧(∀j x,(st.A2u (n0::ms)).bx.lookup j=some x→x.bk (β j)≠some k)∧(k ∈ X.S∨X.w0.heap.size≤k):=by
       intro n k hk
       rcases hφn n k hk with⟨_,rfl|⟨i,_,hi⟩⟩|⟨_,hk⟩
       ·exact⟨hbo.1,hnf,hbnot.2,hbo.2⟩
       ·obtain⟨_,z1,z2,z3,_,z5⟩:=hgk i k hi
        exact⟨z1,z3,z5,z2⟩
       ·exact hφ0 n k hk
      have hhp':B0j X.P w ⟨Ft.ok,Ft.γ++[(b',t)],Ft.hc⟩ st.cf.ob (den ρ (B8j h (A4e es))) [] φ':=by
       have hden:den ρ (B8j h (A4e es))=.agg ((den ρ h).toL++[.agg (es.map (den ρ))]):=by rw[E4m,A6e]
       rw[hden]
       refine⟨by simp[hlenγ],?_,?_,fun n k hk=>⟨(hall n k hk).1,(hall n k hk).2.1⟩,?_⟩
       ·intro n b2 t' hn
        rcases bU n Ft.γ.length with hlt|heq|hgt
        ·have hn':Ft.γ[n]?=some (b2,t'):=by
          have:(Ft.γ++[(b',t)])[n]?=some (b2,t'):=hn
          rwa [a8 hlt]at this
         have hob:=q1.obj n b2 t' hn'
         rw[hex]at hob
         have:(D.agg ((den ρ h).toL++[.agg (es.map (den ρ))])).toL.getD n .nil=(den ρ h).toL.getD n .nil:=by
          simp only[D.A0j,a0]
          rw[a8 (by omega)]
         rw[this]
         simp only[φ',Q0 (Nat.ne_of_lt hlt)]
         exact hob.mono hle fun k hk=>rfl
        ·subst heq
         have hn':(Ft.γ++[(b',t)])[Ft.γ.length]?=some (b2,t'):=hn
         rw[a6 (bO _),bS]at hn'
         simp at hn'
         obtain⟨rfl,rfl⟩:=hn'
         have hd':(D.agg ((den ρ h).toL++[.agg (es.map (den ρ))])).toL.getD Ft.γ.length .nil=.agg (es.map (den ρ)):=by
          simp only[D.A0j,a0]
          rw[a6 (by omega),hlenγ,bS];rfl
         rw[hd']
         simp only[φ',Q5]
         refine⟨vs,os,g,hnewc,hos,by simp[l1],l2,fun i o' x u a1 a2 a3=>?_,fun k=>A5b k,fun i hi hk=>(hgk i _ hk).1 rfl,fun i j k _ _=>g3 i j k⟩
         rw[Q0 (by simp)]
         simp only[D.A0j,aA]at a2
         cases he':es[i]? with
         |none=>simp[he']at a2
         |some e=>
          simp[he']at a2
          subst a2
          exact(g1 i o' e u a1 he' a3).mono hle fun k hk=>rfl
        ·have:(Ft.γ++[(b',t)])[n]?=some (b2,t'):=hn
         rw[aB (by simp;omega)]at this
         cases this
       ·intro n n' k hk hk'
        rcases hφn n k hk with⟨e1,z1⟩|⟨e1,z1⟩<;>rcases hφn n' k hk' with⟨e2,z2⟩|⟨e2,z2⟩
        ·rw[e1,e2]
        ·exfalso
         rcases z1 with rfl|⟨i,_,hi⟩
         ·exact hbnot.1 n' z2
         ·exact(hgk i k hi).2.2.2.2.1 n' z2
        ·exfalso
         rcases z2 with rfl|⟨i,_,hi⟩
         ·exact hbnot.1 n z1
         ·exact(hgk i k hi).2.2.2.2.1 n z1
        ·exact q1.dis n n' k z1 z2
       ·intro n hn
        have hn':Ft.γ.length+1≤n:=by simpa using hn
        simp only[φ']
        rw[Q0 (by omega)]
        exact q1.out n (by omega)
      refine⟨p4,⟨Ft.ok,Ft.γ++[(b',t)],Ft.hc⟩,hs1.df,hs1.sz,fun b hb'=>hs1.ft b hb',?_,?_,hs1.inj,hs1.own,hs1.chg,hs1.fs,hs1.on,hs1.f0,hs1.gx,hs1.cf,⟨?_,?_⟩,⟨hs1.fw.1,hs1.fw.2.1.trans (b5 _ _),hs1.fw.2.2.1,fun he'=>absurd rfl (he' _)⟩⟩
      ·intro t' sv ht
       rw[a9]at ht
       split at ht
       ·rename_i he
        simp at he;subst he
        cases ht
        refine⟨v0,hv0,?_⟩
        rw[hb2]
        refine Rd.B8g (n:=Ft.γ.length) (by show Ft.hc.contains t=true;rw[hs.cf.2];exact hcl) (by rw[D6e,hlenγ]) ?_ rfl
        show(Ft.γ++[(b',t)])[Ft.γ.length]?=_
        rw[a6 (bO _),bS];rfl
       ·obtain⟨u,z1,z2⟩:=hs1.tm t' sv ht
        exact⟨u,z1,z2.mono hle⟩
      ·intro n x hx
       exact(hs1.bx n x hx).mono hle (fun k hk=>rfl) (fun n' b' t' hn _=>rfl)
      ·intro m e' he'
       cases he'
       refine⟨φ',?_,fun n k hk=>⟨fun _=>(hall n k hk).2.2.2,(hall n k hk).2.2.1⟩⟩
       show B0j X.P w _ (st.A2u (n0::ms)).cf.ob _ (exN ρ (st.A2u (n0::ms)).ex) φ'
       rw[p3,p2,hex]
       exact hhp'
      ·intro n b2 t' hn
       obtain⟨_,_,_,_,_,_,_,_,z6,_⟩:=hhp'.obj n b2 t' hn
       have hin:=(z6 b2).2 (.inl rfl)
       exact⟨(hall n b2 hin).1,(hall n b2 hin).2.1,(hall n b2 hin).2.2.1⟩
     ·exact⟨rfl,_,hs⟩
    ·exact⟨rfl,_,hs⟩
   ·exact⟨rfl,_,hs⟩
  ·exact⟨rfl,_,hs⟩
 ·exact⟨rfl,_,hs⟩
theorem Sat.E7b:∀(l:List Nat) {ρ:List D} {st:St} {Ft:Fr} {β:Nat→Value} {a:Act} {w:World},Sat X ρ st Ft β a w→(st.E7b X.P l).nv=st.nv∧∃F',Sat X ρ (st.E7b X.P l) F' β a w
 |[],ρ,st,Ft,β,a,w,hs=>⟨rfl,_,hs⟩
 |t::l,ρ,st,Ft,β,a,w,hs=>by
  obtain⟨h1,F1,q1⟩:=hs.hpz t
  obtain⟨h2,F2,q2⟩:=Sat.E7b l q1
  exact⟨h2.trans h1,F2,q2⟩
end
section
variable(P:Program)(nt:Nat)
def F2d(st:St)(o:Oper)(K:St→T):T:=match o.op,o.guard with
 |.box t x,none=>match opV st x with
  |some v=>match v.cells with
   |some cs=>if A3a nt o.dst=true∧E3m st (some (.box t cs))=true then frO (some (.box t cs)) fun nb=>K (st.upd o.dst (.one (.ptr st.nn 0)) nb)else .fail 201
   |none=>.fail 202
  |none=>.fail 203
 |_,_=>.fail 204
def H7c(l:List Nat)(o:Oper):Bool:=match o.op,o.dst with|.box _ _,some d=>l.contains d|_,_=>false
def C0a(ops:Array Oper)(l:List Nat):List Oper→St→(St→T)→T
 |[],st,K=>K st
 |o::os,st,K=>if H7c l o=true then F2d nt st o fun st'=>C0a ops l os st' K else doG P nt ops st o fun st'=>C0a ops l os st' K
end
section
variable{X:Cx}{Fs:Nat→Fn}{fuel:Nat}{L:List Fn}
theorem F6n{ρ:List D}{st:St}{Ft:Fr}{β:Nat→Value}{a:Act}{w:World}{ops:Array Oper}{o:Oper}{K:St→T}{r:List D}(he:eval Fs fuel (F2d X.nt st o K) L ρ=some r)(hnv:st.nv=ρ.length)(hs:Sat X ρ st Ft β a w)
  {next:Act→World→Prop} {Q':Exit→Act→World→Prop} (HK:A3q X Fs fuel L ρ K r next):if bH o (yielded ops a.tmps)then o.wp X.P a w next Q'∨(o.asks X.P a w∧LetsOut Q')else next (a.put o.dst undef) w:=by
 unfold F2d at he
 split at he
 ·rename_i t x hop hg
  have hw:bH o (yielded ops a.tmps)=true:=by unfold bH;rw[hg]
  rw[Q3 hw]
  refine .inl ?_
  split at he
  ·rename_i v hv
   split at he
   ·rename_i cs hcs
    split at he
    ·rename_i hc
     obtain⟨hd,hfr⟩:=hc
     rw[F2q]at he
     obtain⟨vs,e1,_,hl⟩:=E0w hs hs.on hop (es:=[]) (sv:=.one (.ptr st.nn 0)) (nb:=some (.box t cs)) (by rw[hv];simp only[hcs])
     unfold cG
     rw[e1]
     simp only[cF]
     simp only[E3m,bB]at hfr
     exact HK.now (hs.F6g hfr.1 hfr.2 hl hd) hnv he
    ·cases he
   ·cases he
  ·cases he
 ·cases he
theorem D2z(hF:A5j X.G X.P Fs)(ops:Array Oper)(l0:List Nat){Q:Exit→Act→World→Prop}{K:St→T}{r:List D}:∀(l:List Oper) (n:Nat) {st:St} {ρ:List D} {Ft:Fr} {β:Nat→Value} {a:Act} {w:World},ops.toList.drop n=l→
  eval Fs fuel (C0a X.P X.nt ops l0 l st K) L ρ=some r→st.nv=ρ.length→Sat X ρ st Ft β a w→A3q X Fs fuel L ρ K r (Q .normal)→wpOps X.P ops Q (b3 n l.length) a w
 |[],n,st,ρ,Ft,β,a,w,hl,he,hnv,hs,HK=>by
  simp only[b8,b6,wpOps]
  exact HK.now hs hnv he
 |o::l,n,st,ρ,Ft,β,a,w,hl,he,hnv,hs,HK=>by
  have hlt:n<ops.toList.length:=by
   rcases bQ n ops.toList.length with h|h
   ·exact h
   ·rw[aR h]at hl;cases hl
  have ho:ops[n]?=some o:=by
   rw[aE hlt]at hl
   injection hl with h1 h2
   rw[←cC,a4 hlt,h1]
  have hrest:ops.toList.drop (n+1)=l:=by
   rw[aE hlt]at hl
   injection hl
  simp only[C0a]at he
  simp only[aS,b7,wpOps,ho]
  have hgo:A3q X Fs fuel L ρ (fun st'=>C0a X.P X.nt ops l0 l st' K) r (wpOps X.P ops Q (b3 (n+1) l.length)):=by
   intro st' ext Ft' β' a' w' hnv' hs' he'
   exact D2z hF ops l0 l (n+1) hrest he' hnv' hs' (fun st'' ext' Ft'' β'' a'' w'' q1 q2 q3=>by
    rw[a5]at q1 q2 q3
    exact HK st'' (ext++ext') Ft'' β'' a'' w'' q1 q2 q3)
  split at he
  ·exact F6n he hnv hs hgo
  ·exact E8y hF he hnv hs hgo
theorem F8m(hF:A5j X.G X.P Fs){l0:List Nat}{st:St}{ρ:List D}{Ft:Fr}{β:Nat→Value}{a:Act}{w:World}{ops:Array Oper}{id:Nat}{Q:Exit→Act→World→Prop}{K:St→T}{r:List D}(he:eval Fs fuel (C0a X.P X.nt ops l0 ops.toList st K) L ρ=some r)(hnv:st.nv=ρ.length)(hs:Sat X ρ st Ft β a w)
  (HK:A3q X Fs fuel L ρ K r (Q .normal)):(cP id ops false).wp X.P Q a w:=by
 refine wp_region ?_
 have:=D2z hF ops l0 ops.toList 0 rfl he hnv hs HK
 rw[b4]
 simpa using this
end
def St.pzs(P:Program)(st:St)(l:List Nat):St:=l.foldl (St.pz P) st
section
variable{X:Cx}
theorem Sat.pz{ρ:List D}{st:St}{Ft:Fr}{β:Nat→Value}{a:Act}{w:World}(hs:Sat X ρ st Ft β a w)(t:Nat):(st.pz X.P t).nv=st.nv∧∃F',Sat X ρ (st.pz X.P t) F' β a w:=by
 unfold St.pz
 split
 ·rename_i n ht
  split
  ·rename_i bt cs hbx
   split
   ·rename_i ts hts
    split
    ·rename_i es hes
     split
     ·rename_i hcl
      obtain⟨v,hv1,b,hb1,hb2⟩:=hs.tm t _ ht
      obtain⟨b',vs,e1,e2,e3⟩:=hs.bx _ _ hbx
      obtain rfl:b'=b:=by rw[e1]at hb1;simpa using hb1
      have hdrop:=hs.drop hbx (b:=b') (by rw[e1];rfl)
      obtain⟨l1,l2,q⟩:=A7w hes e3
      have hrd:Rd X.P w (Ft.or fun k=>k=b') (.ptr bt) (den ρ (A4e es)) v:=by
       refine Rd.ptr (g:=fun c=>vs.getD c undef) (by show Ft.hc.contains bt=false;rw[hs.cf.2];exact hcl) (A6e es) hb2 hts (by simp[l1]) (.inr rfl) ?_ ?_
       ·intro c y hy
        have hlt:c<vs.length:=by
         have:=(a7.1 hy).1
         simp at this
         omega
        simp[cR,e2,a0,a4 hlt]
       ·intro c y t' hy ht'
        have hlt:c<vs.length:=by rw[l2];exact(a7.1 ht').1
        rw[aA]at hy
        cases hec:es[c]? with
        |none=>simp[hec]at hy
        |some ec=>
         simp[hec]at hy;subst hy
         have hvc:vs[c]?=some (vs.getD c undef):=by simp[a0,a4 hlt]
         exact(q c t' ec _ ht' hec hvc).mono (Le.or fun k hk=>rfl)
      refine⟨rfl,_,⟨hdrop.df,hdrop.sz,hdrop.ft,fun t' sv ht'=>?_,hdrop.bx,hdrop.inj,hdrop.own,hdrop.chg,hdrop.fs,hdrop.on,hdrop.f0,hdrop.gx,hdrop.cf,⟨hdrop.hg.hp,hdrop.hg.gm⟩,hdrop.fw⟩⟩
      rw[a9]at ht'
      split at ht'
      ·rename_i he
       simp at he;subst he
       cases ht'
       exact⟨v,hv1,hrd⟩
      ·exact hdrop.tm t' sv ht'
     ·exact⟨rfl,_,hs⟩
    ·exact⟨rfl,_,hs⟩
   ·exact⟨rfl,_,hs⟩
  ·exact⟨rfl,_,hs⟩
 ·exact⟨rfl,_,hs⟩
theorem Sat.pzs:∀(l:List Nat) {ρ:List D} {st:St} {Ft:Fr} {β:Nat→Value} {a:Act} {w:World},Sat X ρ st Ft β a w→(st.pzs X.P l).nv=st.nv∧∃F',Sat X ρ (st.pzs X.P l) F' β a w
 |[],ρ,st,Ft,β,a,w,hs=>⟨rfl,_,hs⟩
 |t::l,ρ,st,Ft,β,a,w,hs=>by
  obtain⟨h1,F1,q1⟩:=hs.pz t
  obtain⟨h2,F2,q2⟩:=Sat.pzs l q1
  exact⟨h2.trans h1,F2,q2⟩
end
def Told{β:Type}(g:(β→T)→T):Prop:=∃v,∀k,g k=k v
theorem C0h{α β:Type}{f:α→β→(β→T)→T}(hf:∀x acc,Told (f x acc)):∀(l:List α) (acc:β),Told (C8d f l acc)
 |[],acc=>⟨acc,fun k=>rfl⟩
 |x::xs,acc=>by
  obtain⟨v,hv⟩:=hf x acc
  obtain⟨u,hu⟩:=C0h hf xs v
  exact⟨u,fun k=>by simp only[C8d,hv,hu]⟩
theorem F7o(P:Program)(nt:Nat)(b:Bool)(n0:Nat)(ops:Array Oper)(ds:List (List Nat))(ns:List (Nat × St)):Told (G4g P nt b n0 ops ds ns):=by
 refine C0h (fun p acc=>?_) ns []
 simp only[A3d A2j]
 refine C0h (fun i acc=>?_) _ acc
 cases ops.toList[i]? with
 |none=>exact⟨acc,fun k=>rfl⟩
 |some o=>
  simp only[A2j]
  refine C0h (fun s acc=>?_) _ acc
  simp only[A5s]
  cases F9h ops.size (p.1 ||| (1 <<< i)) s acc with
  |true=>exact⟨acc,fun k=>rfl⟩
  |false=>exact⟨(p.1 ||| (1 <<< i),s)::acc,fun k=>rfl⟩
theorem D8k(P:Program)(nt:Nat)(b:Bool)(n0:Nat)(ops:Array Oper)(ds:List (List Nat)):∀(n:Nat) (ns:List (Nat × St)),∃v,v.length=n+1∧∀k,levels P nt b n0 ops ds n ns k=k v
 |0,ns=>⟨[ns],rfl,fun k=>rfl⟩
 |n+1,ns=>by
  obtain⟨v,hv⟩:=F7o P nt b n0 ops ds ns
  obtain⟨u,hl,hu⟩:=D8k P nt b n0 ops ds n v
  exact⟨ns::u,by simp[hl],fun k=>by simp only[levels,hv,hu]⟩
theorem G6h(P:Program)(nt:Nat)(b:Bool)(n0:Nat)(ops:Array Oper)(ds:List (List Nat))(fin:St→T)(end_:Bool)(below:List (Nat × St × T)):∀(ns:List (Nat × St)) (k:List (Nat × St × T)→T),lvT P nt b n0 ops ds fin end_ below ns k=k (lvP P nt b n0 ops ds fin end_ below ns)
 |[],k=>rfl
 |p::ns,k=>by simp only[lvT,G7k,G6h P nt b n0 ops ds fin end_ below ns,lvP,aM]
theorem E6a(P:Program)(nt:Nat)(b:Bool)(n0:Nat)(ops:Array Oper)(ds:List (List Nat))(fin:St→T):∀(ls:List (List (Nat × St))) (k:List (Nat × St × T)→T),F6h P nt b n0 ops ds fin ls k=k (E6f P nt b n0 ops ds fin ls)
 |[],k=>rfl
 |ns::rest,k=>by simp only[F6h,E6a P nt b n0 ops ds fin rest,G6h,E6f]
theorem D0a{m L:Nat}{st:St}:∀{l:List (Nat × St × T)} {t:T},D2t m L st l=some t→∃sj,(L,sj,t) ∈ l∧D7e m sj st=true
 |[],t,h=>by cases h
 |(L',sj,t')::l,t,h=>by
  simp only[D2t]at h
  split at h
  ·rename_i hc
   simp only[bB,Q9]at hc
   obtain⟨rfl,hc⟩:=hc
   injection h with h;subst h
   exact⟨sj,aO ..,hc⟩
  ·obtain⟨sj',h1,h2⟩:=D0a h
   exact⟨sj',b0 _ h1,h2⟩
section
variable{X:Cx}{Fs:Nat→Fn}{fuel:Nat}{L:List Fn}{ops:Array Oper}{K:St→T}{r:List D}{Q:Exit→Act→World→Prop}
theorem C7t{m:Nat}{sj st:St}(h:D7e m sj st=true){ρ:List D}{Ft:Fr}{β:Nat→Value}{a:Act}{w:World}(hs:Sat X ρ st Ft β a w):sj.nv=st.nv∧Sat X ρ sj Ft β a w:=by
 unfold D7e at h
 simp only[bB,aI,Q9]at h
 obtain⟨⟨⟨⟨⟨⟨h7,h1⟩,h2⟩,h3⟩,h4⟩,h5⟩,h6⟩:=h
 exact⟨h7,hs.facts (fun t sv ht=>D8u h1 ht) (fun n x hx=>D8u h2 hx) (fun e b hm=>hs.fs e b (h3 _ hm)) ⟨by unfold St.key;rw[h4,h5],h6⟩⟩
theorem G2z(P:Program)(st:St)(ops:Array Oper)(ds:List (List Nat))(L:Nat)(rs:List Nat):(∃i,i ∈ rs∧(eager P st ops L i=true∨E2y P st ops L (G1l ds i) i=true)∧E4d P st ops ds L rs=[i])∨E4d P st ops ds L rs=rs:=by
 unfold E4d
 cases h:rs.find? (eager P st ops L)with
 |some i=>exact .inl ⟨i,aK h,.inl (aY h),rfl⟩
 |none=>
  simp only
  cases h2:rs.find? (fun i=>E2y P st ops L (G1l ds i) i)with
  |some i=>exact .inl ⟨i,aK h2,.inr (by simpa using aY h2),rfl⟩
  |none=>exact .inr rfl
theorem G6x{P:Program}{st:St}{L W i:Nat}(h:E2y P st ops L W i=true):∃oi t x,ops[i]?=some oi∧oi.op=.load t x∧oi.guard=none∧D7a P st x=true∧
  (∀j oj,ops[j]?=some oj→(decide (j<ops.size)&&W.testBit j)=true→∃e ∈ oj.after,bK .any e=true∧(e.on=i∨(decide (e.on<ops.size)&&W.testBit e.on)=true))∧
  (∀j,(decide (j<ops.size)&&W.testBit j)=true→(A4f ops.size L).getD j false=false)∧
  (∀j oj,ops[j]?=some oj→j≠i→(A4f ops.size L).getD j true=false→(decide (j<ops.size)&&W.testBit j)=false→oi.apart ops oj=true∧D2b oj=true):=by
 unfold E2y at h
 split at h
 ·rename_i oi hoi
  simp only[bB,aI,bA]at h
  obtain⟨h1,h2⟩:=h
  split at h1
  ·rename_i t x hop hg
   have hat:∀j oj,ops[j]?=some oj→j<ops.size∧ops.toList[j]?=some oj:=fun j oj hj=>⟨(c9.1 hj).1,by simpa using hj⟩
   refine⟨oi,t,x,by simpa using hoi,hop,hg,h1,fun j oj hj hw=>?_,fun j hw=>?_,fun j oj hj hji hl hw=>?_⟩
   ·obtain⟨hlt,hj'⟩:=hat j oj hj
    have:=h2 j hlt
    simp only[bB]at hw
    rw[hj']at this
    simp only[hw.2,Q5,bB,List.any_eq_true]at this
    obtain⟨_,k,hk,hor⟩:=this
    unfold direct at hk
    simp only[aU,aN]at hk
    obtain⟨e,⟨he,hb⟩,rfl⟩:=hk
    refine⟨e,by simpa using he,hb,?_⟩
    simpa using hor
   ·simp only[bB,Q9]at hw
    have:=h2 j hw.1
    rw[B1q,Q3 hw.1]
    split at this
    ·rw[Q3 hw.2]at this
     simp only[bB,bE]at this
     exact this.1
    ·cases this
   ·obtain⟨hlt,hj'⟩:=hat j oj hj
    have:=h2 j hlt
    rw[hj']at this
    have hw':W.testBit j=false:=by simpa[hlt]using hw
    rw[B1q,Q3 hlt]at hl
    simp only[hw',bD,Q4,hl,bF,bC,Q9,bB]at this
    rcases this with h|h
    ·exact absurd h hji
    ·exact h
  ·cases h1
 ·cases h
theorem D8p{b:Bool}{n0:Nat}{fin:St→T}(hF:A5j X.G X.P Fs)(hns:bJ ops=true)(hQ:∀c a w,¬Q (.panic c) a w):∀(ls:List (List (Nat × St))) (fu Lb:Nat) {st:St} {t:T} {ρ:List D} {Ft:Fr} {β:Nat→Value} {a:Act} {w:World},ls.length≤fu+1→
  (Lb,st,t) ∈ E6f X.P X.nt b n0 ops (ops.toList.map direct) fin ls→eval Fs fuel t L ρ=some r→st.nv=ρ.length→Sat X ρ st Ft β a w→A3q X Fs fuel L ρ fin r (Q .normal)→wpAny X.P .any ops Q fu (A4f ops.size Lb) a w
 |[],fu,Lb,st,t,ρ,Ft,β,a,w,hfu,hm,he,hnv,hs,HK=>by cases hm
 |ns::rest,fu,Lb,st,t,ρ,Ft,β,a,w,hfu,hm,he,hnv,hs,HK=>by
  simp only[E6f,lvP,aU,cM]at hm
  obtain⟨p,hp,rfl,rfl,rfl⟩:=hm
  unfold G3m at he
  split at he
  ·rename_i hr
   refine wpAny_done (aJ.2 fun i hi=>?_) (HK.now hs hnv he) fu
   have:=B4w.1 hi
   rw[hr]at this;cases this
  ·rename_i i0 rs0 hr
   split at he
   ·cases he
   rename_i hend
   rw[A3d A2j]at he
   obtain⟨fu,rfl⟩:∃k,fu=k+1:=by
    cases fu with
    |zero=>
     have:rest=[]:=List.length_eq_zero_iff.1 (by simp only[aS]at hfu;omega)
     subst this
     exact absurd rfl hend
    |succ k=>exact⟨k,rfl⟩
   have hlen:rest.length≤fu+1:=by simp only[aS]at hfu;omega
   have go:∀i o,ops.toList[i]?=some o→eval Fs fuel (E0x X.P X.nt b ops {p.2 with nn:=n0+4*i} o fun st'=>match D2t ops.size (p.1 ||| (1 <<< i)) st' (E6f X.P X.nt b n0 ops (ops.toList.map direct) fin rest)with|some t=>t|none=>.fail 187) L ρ=some r→
     ∀Q':Exit→Act→World→Prop,if bH o (yielded ops a.tmps)then o.wp X.P a w (fun a' w'=>wpAny X.P .any ops Q fu (A4f ops.size (p.1 ||| (1 <<< i))) a' w') Q'∨(o.asks X.P a w∧LetsOut Q')else wpAny X.P .any ops Q fu (A4f ops.size (p.1 ||| (1 <<< i))) (a.put o.dst undef) w:=by
    intro i o ho h Q'
    refine D9b hF h hnv (hs.nn _) ?_
    intro st' ext Ft' β' a' w' hnv' hs' he'
    simp only at he'
    split at he'
    ·rename_i t' hfd
     obtain⟨sj,hmem,hsame⟩:=D0a hfd
     obtain⟨n1,hs2⟩:=C7t hsame hs'
     refine D8p hF hns hQ rest fu _ hlen hmem he' (n1.trans hnv') hs2 (fun st'' ext' Ft'' β'' a'' w'' z1 z2 z3=>?_)
     rw[a5]at z1 z2 z3
     exact HK st'' (ext++ext') Ft'' β'' a'' w'' z1 z2 z3
    ·cases he'
   rcases G2z X.P p.2 ops (ops.toList.map direct) p.1 (i0::rs0)with⟨i,him,hor,hpk⟩|hpk
   ·rw[hpk]at he
    simp only[aM,aX]at he
    have he:=B5s he _ (aG.2 rfl)
    have hin:i ∈ bI .any ops (A4f ops.size p.1):=B4w.2 (by rw[hr];exact him)
    rcases hor with hie|hie
    rotate_left
    ·obtain⟨oi,t,x,hoi,hop,hg,hfp,hW,hWl,hfr⟩:=G6x hie
     have ho:ops.toList[i]?=some oi:=by simpa using hoi
     rw[ho]at he
     simp only[A2j]at he
     have he:=E0m hnv he
     have hilt:i<ops.size:=(c9.1 hoi).1
     have hnext:=go i oi ho he (fun _ _ _=>False)
     have hw:∀a:Act,bH oi (yielded ops a.tmps)=true:=fun a=>by unfold bH;rw[hg]
     simp only[hw a,Q5]at hnext
     have hnext:oi.wp X.P a w (fun a' w'=>wpAny X.P .any ops Q fu (A4f ops.size (p.1 ||| (1 <<< i))) a' w') (fun _ _ _=>False):=by
      rcases hnext with h|⟨_,_,_,h⟩
      ·exact h
      ·exact h.elim
     unfold cG at hnext
     rcases G1t hs hfp with hp|⟨b,o,cs,e,z,hp,hb⟩
     ·exfalso
      simp only[execOp,hop,cI,hp]at hnext
      simp[cH,stuck,bM,cF]at hnext
     ·have hrun:∀w',(execOp a.eval oi).run X.P w'=((loadVar t ⟨b,o,none⟩).run X.P w').andThen fun v w''=>.ok (.value v) w'':=fun w'=>by
       simp only[execOp,hop,cI,hp]
       simp[cH,bL]
      rw[hrun]at hnext
      cases hl:(loadVar t ⟨b,o,none⟩).run X.P w with
      |halt y w'=>rw[hl]at hnext;exfalso;cases y<;>simp[c4,cF]at hnext
      |ok v w'=>
       obtain⟨rfl,_⟩:=E9k hb rfl hl
       rw[hl]at hnext
       simp only[c5,cF]at hnext
       refine F6u (v:=v) (S:=fun w''=>Below w'.heap.size w' w'') (fun w1 w2 h1 h2=>⟨h2.os.trans h1.os,h2.tape.trans h1.tape,h2.output.trans h1.output,bV h1.size h2.size,fun k hk=>(h2.block k (bT hk h1.size)).trans (h1.block k hk)⟩)
        hoi (Region.noSelect_spec hns) (fun c a w h=>absurd h (hQ c _ w)) hW fu (A4f ops.size p.1) a w' hWl hfr hin (.inl ⟨hw a,fun w'' h=>?_⟩) (Below.refl _ _) ?_
       ·have hbl:b<w'.heap.size:=by
         rcases bQ b w'.heap.size with h'|h'
         ·exact h'
         ·simp[cB h']at hb
        rw[hrun,(E9k hb (h.block b hbl) hl).2]
        rfl
       ·rw[C1a hilt];exact hnext
    unfold eager at hie
    split at hie
    ·rename_i o ho
     simp only[bB,bC]at hie
     obtain⟨hmv,hfree⟩:=hie
     rw[ho]at he
     simp only[A2j]at he
     have he:=E0m hnv he
     have hilt:i<ops.size:=by have:=(a7.1 ho).1;simpa using this
     have ho':ops[i]?=some o:=by simpa using ho
     have hnext:=go i o ho he (fun _ _ _=>False)
     have hp:o.guard=none∧∃v,∀w',(execOp a.eval o).run X.P w'=.ok (.value v) w':=by
      rcases hmv with hmv|hmv
      ·unfold C8c at hmv
       split at hmv
       ·rename_i x d hop hg hd
        exact⟨hg,a.eval x,fun w'=>by simp[execOp,hop]⟩
       ·cases hmv
      ·obtain⟨hg,hv⟩:=C9b hs hmv
       have hw:bH o (yielded ops a.tmps)=true:=by unfold bH;rw[hg]
       simp only[hw,Q5]at hnext
       rcases hnext with h|⟨_,_,_,h⟩
       ·exact⟨hg,hv _ h⟩
       ·exact h.elim
     obtain⟨hg,v,hrun⟩:=hp
     have hw:∀a:Act,bH o (yielded ops a.tmps)=true:=fun a=>by unfold bH;rw[hg]
     have hy:Yields X.P ops o v a:=.inl ⟨hw a,hrun⟩
     simp only[hw a,Q5]at hnext
     have hnext':wpAny X.P .any ops Q fu (A4f ops.size (p.1 ||| (1 <<< i))) (a.put o.dst v) w:=by
      rcases hnext with h|⟨_,_,_,h⟩
      ·unfold cG at h
       rw[hrun]at h
       exact h
      ·exact h.elim
     refine wpAny_take ho' hns hfree (by simpa using hin) (fun c a w h=>absurd h (hQ c _ w)) hy ?_
     rw[C1a hilt]
     exact hnext'
    ·cases hie
   ·rw[hpk]at he
    refine⟨fun hn=>?_,fun i hi=>?_⟩
    ·have:i0 ∈ bI .any ops (A4f ops.size p.1):=B4w.2 (by rw[hr];exact aO ..)
     rw[hn]at this;cases this
    ·have him:=B4w.1 hi
     rw[hr]at him
     have h1:=B5s he _ (aU.2 ⟨i,him,rfl⟩)
     split at h1
     ·rename_i o ho
      simp only[A2j]at h1
      have h1:=E0m hnv h1
      have hilt:i<ops.size:=by have:=(a7.1 ho).1;simpa using this
      rw[C1a hilt]
      exact C8g ho (go i o ho h1 Q)
     ·cases h1
theorem F4z{b:Bool}(hF:A5j X.G X.P Fs){id:Nat}{st:St}{lv:Nat}{ρ:List D}{Ft:Fr}{β:Nat→Value}{a:Act}{w:World}(he:eval Fs fuel (F3k X.P X.nt b ops st lv K) L ρ=some r)(hnv:st.nv=ρ.length)(hlv:lv=L.length)(hs:Sat X ρ st Ft β a w)
  (HK:A3q X Fs fuel L ρ K r (Q .normal)):(cP id ops true).wp X.P Q a w:=by
 unfold F3k at he
 split at he
 ·rename_i hc
  simp only[bB,Q9]at hc
  obtain⟨⟨hmix,hns⟩,hsc⟩:=hc
  rw[A3d (A3d A2j),A5s]at he
  obtain⟨ls,hlen,hls⟩:=D8k X.P X.nt b st.nn ops (ops.toList.map direct) ops.size [(0,st)]
  rw[hls]at he
  split at he
  ·rename_i sj _
   rw[A5s,A2j]at he
   simp only[eval,E6a]at he
   split at he
   ·rename_i t ht
    obtain⟨s0,hmem,hsame⟩:=D0a ht
    let Q':Exit→Act→World→Prop:=fun e a w=>match e with|.panic _=>False|e=>Q e a w
    refine cQ (Q:=Q') (fun e a w h=>by cases e<;>first|exact h|exact h.elim) ?_
    refine wp_region_any hmix ?_
    have h0:A4f ops.size 0=c7 ops.size false:=by
     apply cE
     ·simp[A4f]
     ·intro j h1 h2
      simp[A4f]
    rw[←h0]
    have hs1:=hs.below (D0i w)
    obtain⟨n0,hs2⟩:=C7t hsame hs1
    refine D8p (Q:=Q') hF hns (fun c a w h=>h) ls ops.size 0 (by omega) hmem he (n0.trans hnv) hs2 ?_
    intro st' ext Ft' β' a' w' q1 q2 q3
    simp only at q3
    split at q3
    ·rename_i hsame
     obtain⟨n1,q4⟩:=C7t hsame q2
     simp only[eval]at q3
     have hL:(L++[fun xs=>eval Fs fuel (K sj) L (ρ++xs)])[lv]?=some fun xs=>eval Fs fuel (K sj) L (ρ++xs):=by
      rw[hlv,a6 (bO _)]
      simp
     rw[hL]at q3
     simp only at q3
     have hext:(((aV (sj.nv-st.nv)).map fun i=>E.var (st.nv+i)).map (den (ρ++ext)))=ext:=by
      apply aW
      intro i
      have hlen:sj.nv-st.nv=ext.length:=by
       rw[n1,q1,hnv,aP];omega
      rw[aA,aA,hlen]
      by_cases hi:i<ext.length
      ·rw[aL hi]
       simp only[c0,den,a0]
       rw[hnv,a6 (by omega),show ρ.length+i - ρ.length=i by omega,a4 hi]
       rfl
      ·rw[aB (by simpa using hi),aB (by omega)]
       rfl
     rw[hext]at q3
     exact HK sj ext Ft' β' a' w' (by rw[n1];exact q1) q4 q3
    ·cases q3
   ·cases he
  ·rw[E6a]at he
   split at he
   ·rw[A2j]at he;cases he
   ·cases he
 ·cases he
end
end Go.Proofs.YtckanieeocdpbaaGreat.Eng
namespace Go.Proofs.YtckanieeocdpbaaGreat.Eng
open Go.RowKit
set_option linter.unusedVariables false
set_option linter.unusedSimpArgs false
attribute [local irreducible] LIM
def F3g(P:Program)(st:St):ResultVar→Option SV
 |.tmp t=>st.at t
 |.cell a t=>match st.at a with
  |some (.one (.ptr n off))=>match st.bx.lookup n with
   |some (.box _ cs)=>A6f P t cs off
   |_=>none
  |_=>none
def C7r(P:Program)(st:St):List ResultVar→Option (List SV)
 |[]=>some []
 |r::l=>match F3g P st r,C7r P st l with
  |some v,some vs=>some (v::vs)
  |_,_=>none
section
variable{X:Cx}{ρ:List D}{st:St}{Ft:Fr}{β:Nat→Value}{a:Act}{w:World}
theorem F2h(hs:Sat X ρ st Ft β a w){r:ResultVar}{sv:SV}(h:F3g X.P st r=some sv):
  ∃v,((fun r=>match r with|.tmp t=>pure (a.tmps.getD t undef)|.cell b t=>do loadVar t (←asAddr (a.tmps.getD b undef)):ResultVar→Sem Value) r).run X.P w=.ok v w∧RV X.P w Ft ρ β sv v:=by
 cases r with
 |tmp t=>
  obtain⟨v,h1,h2⟩:=hs.at h
  exact⟨v,by simp[h1],h2⟩
 |cell b t=>
  simp only[F3g]at h
  split at h
  ·rename_i n off hl
   split at h
   ·rename_i bt cs hb
    obtain⟨v,h1,h2⟩:=hs.at hl
    obtain⟨b',e1,e2⟩:=h2
    obtain⟨b'',vs,f1,f2,f3⟩:=hs.bx _ _ hb
    obtain rfl:b''=b':=by rw[f1]at e1;simpa using e1
    obtain⟨u,hu1,hu2⟩:=B7a h f3 (b:=b'') (o:=0) (fun j v hj=>by
     rw[bW]
     simp[cR,f2,hj])
    rw[bW]at hu1
    exact⟨u,by simp[h1,e2,asAddr,hu1],hu2⟩
   ·cases h
  ·cases h
theorem D0m(hs:Sat X ρ st Ft β a w):∀{rs:List ResultVar} {svs:List SV},C7r X.P st rs=some svs→
  ∃vs:List Value,(rs.mapM (fun r=>match r with|.tmp t=>pure (a.tmps.getD t undef)|.cell b t=>do loadVar t (←asAddr (a.tmps.getD b undef)):ResultVar→Sem Value)).run X.P w=.ok vs w∧svs.length=vs.length∧vs.length=rs.length∧
   ∀(i:Nat) (s:SV) (v:Value),svs[i]?=some s→vs[i]?=some v→RV X.P w Ft ρ β s v
 |[],svs,h=>by simp[C7r]at h;subst h;exact⟨[],by simp,rfl,rfl,fun i s v q=>by simp at q⟩
 |r::rs,svs,h=>by
  simp only[C7r]at h
  split at h
  ·rename_i v vs h1 h2
   simp at h;subst h
   obtain⟨u,q1,q2⟩:=F2h hs h1
   obtain⟨us,z1,z2,z4,z3⟩:=D0m hs h2
   refine⟨u::us,?_,by simp[z2],by simp[z4],fun i=>?_⟩
   ·rw[List.mapM_cons]
    simp only[bL,q1,z1,c5,bN]
   ·cases i with
    |zero=>intro s v' a1 a2;simp at a1 a2;subst a1 a2;exact q2
    |succ i=>intro s v' a1 a2;exact z3 i s v' (by simpa using a1) (by simpa using a2)
  ·cases h
end
def shiftUp(tm:List (Nat × SV)):List (Nat × SV):=tm.map fun p=>(p.1+LIM,p.2)
def D7q(tm:List (Nat × SV)):List (Nat × SV):=tm.filterMap fun p=>if LIM≤p.1 then some (p.1-LIM,p.2)else none
def D7i:List SV→Nat→List (Nat × SV)
 |[],_=>[]
 |v::l,i=>(i,v)::D7i l (i+1)
theorem C8l{t:Nat}{sv:SV}:∀{tm:List (Nat × SV)},(shiftUp tm).lookup t=some sv→LIM≤t∧tm.lookup (t-LIM)=some sv
 |[],h=>by cases h
 |(k,v)::tm,h=>by
  simp only[shiftUp,aM,a9]at h
  split at h
  ·rename_i he
   simp at he h
   subst he h
   refine⟨Nat.le_add_left _ _,?_⟩
   rw[show k+LIM-LIM=k from Nat.add_sub_cancel k LIM]
   simp[a9]
  ·rename_i he
   obtain⟨h1,h2⟩:=C8l (tm:=tm) h
   refine⟨h1,?_⟩
   rw[a9]
   have:(t-LIM == k)=false:=by
    simp at he⊢
    omega
   rw[this];exact h2
theorem B9l{t:Nat}:∀{tm:List (Nat × SV)},(D7q tm).lookup t=tm.lookup (t+LIM)
 |[]=>rfl
 |(k,v)::tm=>by
  simp only[D7q,List.filterMap_cons]
  by_cases hk:LIM≤k
  ·rw[Q3 hk]
   simp only[a9]
   have:(t == k-LIM)=(t+LIM == k):=by
    by_cases h:t=k-LIM
    ·have h2:t+LIM=k:=by omega
     rw[QB.2 h,QB.2 h2]
    ·have h2:¬t+LIM=k:=by omega
     rw[Q8.2 h,Q8.2 h2]
   rw[this]
   split
   ·rfl
   ·exact B9l (tm:=tm)
  ·rw[Q0 hk]
   simp only[a9]
   have:(t+LIM == k)=false:=by simp;omega
   rw[this]
   exact B9l (tm:=tm)
theorem D5n{t:Nat}{sv:SV}:∀{l:List SV} {i:Nat},(D7i l i).lookup t=some sv→i≤t∧l[t-i]?=some sv
 |[],i,h=>by cases h
 |v::l,i,h=>by
  simp only[D7i,a9]at h
  split at h
  ·rename_i he
   simp at he h
   subst he h
   exact⟨bO _,by simp⟩
  ·obtain⟨h1,h2⟩:=D5n (l:=l) h
   refine⟨by omega,?_⟩
   rw[show t-i=(t-(i+1))+1 by omega,aQ]
   exact h2
def F2y(st:St)(vs:List SV):St:={st with tm:=D7i vs 0++shiftUp st.tm}
def E0h(st:St):St:={st with tm:=D7q st.tm}
def SV.v1:SV→Option V1
 |.one c=>some (.one c)
 |.agg cs=>some (.agg cs)
 |.tup _=>none
def v1s:List SV→Option (List V1)
 |[]=>some []
 |s::l=>match s.v1,v1s l with
  |some v,some vs=>some (v::vs)
  |_,_=>none
def G1b:List SV→Option SV
 |[s]=>some s
 |l=>(v1s l).map .tup
def hof{α:Type}(hints:List (Nat × α))(f:Nat):List (Nat × α):=
 (hints.filterMap fun p=>if p.1/10000=f+1 then some (p.1%10000,p.2)else none)++hints.filter fun p=>decide (10000≤p.1)
def isIn{α:Type}(hints:List (Nat × α))(f:Nat):Bool:=hints.any fun p=>p.1/10000 == f+1
inductive Ex where
 |normal|exit (id:Nat)|ret
 deriving DecidableEq,Inhabited
def Ex.out:Ex→Exit|.normal=>.normal|.exit i=>.exit i|.ret=>.ret
section
variable(P:Program)
def D0f(ex:Nat→Code→St→Nat→(Ex→St→Nat→T)→T)(f:Nat)(vs:List SV)(st:St)(lv:Nat)(K:SV→St→Nat→T):T:=
 match P.funcs[f]? with
 |some fn=>match fn.body with
  |some c=>if vs.length≤fn.ntmps∧fn.ntmps≤LIM∧(fn.name == "runtime.NumGoroutine")=false then
    B0k (F2y st vs) fun st1=>ex fn.ntmps c st1 lv fun e st2 lv2=>match e with
     |.exit _=>.fail 200
     |_=>match C7r P st2 fn.results.toList with
      |some svs=>match G1b svs with
       |some sv=>D4c sv fun sv=>B0k (E0h st2) fun st3=>K sv st3 lv2
       |none=>.fail 201
      |none=>.fail 202
   else .fail 203
  |none=>.fail 204
 |none=>.fail 205
end
section
variable{X:Cx}{Fs:Nat→Fn}{fuel:Nat}
def H0y(X:Cx)(Fs:Nat→Fn)(fuel:Nat)(ex:Nat→Code→St→Nat→(Ex→St→Nat→T)→T):Prop:=
 ∀(nt:Nat) (hv:Nat→Option Value) (dq:List Deferred) (c:Code) {st:St} {lv:Nat} {K:Ex→St→Nat→T} {L:List Fn} {ρ:List D} {r:List D} {Q:Exit→Act→World→Prop} {Ft:Fr} {β:Nat→Value} {a:Act} {w:World},
  eval Fs fuel (ex nt c st lv K) L ρ=some r→st.nv=ρ.length→lv=L.length→Sat {X with nt:=nt,hv:=hv,dq:=dq} ρ st Ft β a w→
  (∀(e:Ex) (st':St) (lv':Nat) (ext:List D) (Lx:List Fn) (Ft':Fr) (β':Nat→Value) (a':Act) (w':World),st'.nv=(ρ++ext).length→lv'=(L++Lx).length→Sat {X with nt:=nt,hv:=hv,dq:=dq} (ρ++ext) st' Ft' β' a' w'→
   eval Fs fuel (K e st' lv') (L++Lx) (ρ++ext)=some r→Q e.out a' w')→c.wp X.P Q a w
def D2v(X:Cx)(Fs:Nat→Fn)(fuel:Nat)(inl:Nat→List SV→St→Nat→(SV→St→Nat→T)→T):Prop:=
 ∀(nt:Nat) (hv:Nat→Option Value) (dq:List Deferred) {f:Nat} {vs:List SV} {us:List Value} {st:St} {lv:Nat} {K:SV→St→Nat→T} {L:List Fn} {ρ:List D} {r:List D} {Ft:Fr} {β:Nat→Value} {a:Act} {w:World} {next:Value→World→Prop},
  eval Fs fuel (inl f vs st lv K) L ρ=some r→st.nv=ρ.length→lv=L.length→Sat {X with nt:=nt,hv:=hv,dq:=dq} ρ st Ft β a w→vs.length=us.length→(∀(i:Nat) (s:SV) (v:Value),vs[i]?=some s→us[i]?=some v→RV X.P w Ft ρ β s v)→
  (∀(v:Value) (sv:SV) (st':St) (lv':Nat) (ext:List D) (Lx:List Fn) (Ft':Fr) (β':Nat→Value) (w':World),st'.nv=(ρ++ext).length→lv'=(L++Lx).length→RV X.P w' Ft' (ρ++ext) β' sv v→Sat {X with nt:=nt,hv:=hv,dq:=dq} (ρ++ext) st' Ft' β' a w'→
   eval Fs fuel (K sv st' lv') (L++Lx) (ρ++ext)=some r→next v w')→
  (∃fn,X.P.funcs[f]?=some fn∧fn.body.isSome=true∧(fn.name == "runtime.NumGoroutine")=false)∧Calls X.P f us.toArray w fun e w'=>∃v,e=.returned v∧next v w'
theorem D2v.none:D2v X Fs fuel fun _ _ _ _ _=>.fail 209:=by
 intro nt hv dq f vs us st lv K L ρ r Ft β a w next he
 cases he
theorem E9e{P:Program}{w:World}{F:Fr}{ρ:List D}{β:Nat→Value}:∀{l:List SV} {vs:List V1} {us:List Value},v1s l=some vs→l.length=us.length→(∀(i:Nat) (s:SV) (v:Value),l[i]?=some s→us[i]?=some v→RV P w F ρ β s v)→
  vs.length=us.length∧∀(i:Nat) (c:V1) (u:Value),vs[i]?=some c→us[i]?=some u→R1 P w F ρ β c u
 |[],vs,us,h,hl,hr=>by
  simp only[v1s,bG]at h;subst h
  exact⟨hl,fun i c u h=>by simp at h⟩
 |s::l,vs,[],h,hl,hr=>by simp at hl
 |s::l,vs,u::us,h,hl,hr=>by
  simp only[v1s]at h
  split at h
  ·rename_i v vs' h1 h2
   simp only[bG]at h;subst h
   obtain⟨q1,q2⟩:=E9e h2 (by simpa using hl) (fun i s v a b=>hr (i+1) s v (by simpa using a) (by simpa using b))
   refine⟨by simp[q1],fun i=>?_⟩
   cases i with
   |zero=>
    intro c u' a1 a2
    simp at a1 a2;subst a1 a2
    have:=hr 0 s u rfl rfl
    cases s<;>simp only[SV.v1,bG]at h1<;>first|(subst h1;exact this)|cases h1
   |succ i=>intro c u' a1 a2;exact q2 i c u' (by simpa using a1) (by simpa using a2)
  ·cases h
theorem G6u{ex:Nat→Code→St→Nat→(Ex→St→Nat→T)→T}(hex:H0y X Fs fuel ex)(nt:Nat)(hv:Nat→Option Value)(dq:List Deferred){f:Nat}{vs:List SV}{us:List Value}{st:St}{lv:Nat}{K:SV→St→Nat→T}{L:List Fn}{ρ:List D}{r:List D}{Ft:Fr}{β:Nat→Value}{a:Act}{w:World}{next:Value→World→Prop}
  (he:eval Fs fuel (D0f X.P ex f vs st lv K) L ρ=some r) (hnv:st.nv=ρ.length) (hlv:lv=L.length) (hs:Sat {X with nt:=nt,hv:=hv,dq:=dq} ρ st Ft β a w) (hl:vs.length=us.length) (hr:∀(i:Nat) (s:SV) (v:Value),vs[i]?=some s→us[i]?=some v→RV X.P w Ft ρ β s v)
  (HK:∀(v:Value) (sv:SV) (st':St) (lv':Nat) (ext:List D) (Lx:List Fn) (Ft':Fr) (β':Nat→Value) (w':World),st'.nv=(ρ++ext).length→lv'=(L++Lx).length→RV X.P w' Ft' (ρ++ext) β' sv v→Sat {X with nt:=nt,hv:=hv,dq:=dq} (ρ++ext) st' Ft' β' a w'→
   eval Fs fuel (K sv st' lv') (L++Lx) (ρ++ext)=some r→next v w'):
  ∃fn c,X.P.funcs[f]?=some fn∧fn.body=some c∧(fn.name == "runtime.NumGoroutine")=false∧c.wp X.P (bodyPost X.P fn fun e w'=>∃v,e=.returned v∧next v w') {tmps:=us.toArray++c7 (fn.ntmps-us.toArray.size) undef,defers:=[]} w:=by
 unfold D0f at he
 split at he
 ·rename_i fn hfn
  split at he
  ·rename_i c hc
   split at he
   ·rename_i hcond
    obtain⟨hsz,hlim,hname⟩:=hcond
    refine⟨fn,c,hfn,hc,hname,?_⟩
    rw[A5s]at he
    let X0:Cx:={X with nt:=nt,hv:=hv,dq:=dq}
    let hv1:Nat→Option Value:=fun t=>X0.val a (t-LIM)
    have husz:us.length≤fn.ntmps:=by omega
    have hs1:Sat {X with nt:=fn.ntmps,hv:=hv1,dq:=[]} ρ (F2y st vs) Ft β {tmps:=us.toArray++c7 (fn.ntmps-us.toArray.size) undef,defers:=[]} w:=by
     refine⟨rfl,by show(us.toArray++c7 _ undef).size=fn.ntmps;simp;omega,hs.ft,?_,hs.bx,hs.inj,hs.own,hs.chg,hs.fs,hs.on,hs.f0,⟨hlim,hs.gx.ok,hs.gx.f0,hs.gx.gt⟩,hs.cf,⟨hs.hg.hp,hs.hg.gm⟩,hs.fw⟩
     intro t sv ht
     have ht':(D7i vs 0++shiftUp st.tm).lookup t=some sv:=ht
     rw[List.lookup_append]at ht'
     cases hq:(D7i vs 0).lookup t with
     |some s=>
      rw[hq]at ht'
      simp only[Option.some_or,bG]at ht'
      subst ht'
      obtain⟨_,h1⟩:=D5n hq
      have hlt:t<us.length:=by rw[←hl];simpa using(a7.1 h1).1
      refine⟨us[t],?_,hr t s _ (by simpa using h1) (a4 hlt)⟩
      rw[Cx.E4h (by omega)]
      simp[cD,hlt]
     |none=>
      rw[hq]at ht'
      simp only[Option.none_or]at ht'
      obtain⟨h1,h2⟩:=C8l ht'
      obtain⟨v,q1,q2⟩:=hs.tm _ _ h2
      refine⟨v,?_,q2⟩
      unfold Cx.val
      rw[Q0 (by omega)]
      exact q1
    refine hex fn.ntmps hv1 [] c (Q:=bodyPost X.P fn _) he hnv hlv hs1 ?_
    intro e st' lv' ext Lx Ft' β' a' w' q1 q2 q3 q4
    have hend:∀{t:T},t=(match C7r X.P st' fn.results.toList with
      |some svs=>match G1b svs with
       |some sv=>D4c sv fun sv=>B0k (E0h st') fun st3=>K sv st3 lv'
       |none=>.fail 201
      |none=>.fail 202)→eval Fs fuel t (L++Lx) (ρ++ext)=some r→a'.defers=[]∧∃v,(results fn a'.tmps).run X.P w'=.ok v w'∧∃v',cO v=.returned v'∧next v' w':=by
     intro t ht he
     subst ht
     split at he
     ·rename_i svs hfin
      split at he
      ·rename_i sv hres
       rw[C9n,A5s]at he
       obtain⟨us',z1,z2,z4,z3⟩:=D0m q3 hfin
       refine⟨q3.df,?_⟩
       have hrun:(results fn a'.tmps).run X.P w'=.ok (if h:us'.toArray.size=1 then us'.toArray[0]else .tuple us'.toArray) w':=by
        unfold results
        rw[cA]
        simp only[map_eq_pure_bind,bL,bN,bind_assoc,pure_bind]
        exact congrArg (fun r=>c4 r fun(a:List Value) w'=>c6 (if h:a.toArray.size=1 then a.toArray[0]else Value.tuple a.toArray) w') z1
       refine⟨_,hrun,_,rfl,HK _ sv (E0h st') lv' ext Lx Ft' β' w' q1 q2 ?_ ?_ he⟩
       ·unfold G1b at hres
        split at hres
        ·rename_i s
         simp only[bG]at hres;subst hres
         obtain⟨u,rfl⟩:=aD.1 z2.symm
         simpa using z3 0 s u rfl rfl
        ·rename_i hne
         cases hq:v1s svs with
         |none=>simp[hq]at hres
         |some vs1=>
          simp only[hq,c0,bG]at hres;subst hres
          obtain⟨y1,y2⟩:=E9e hq z2 z3
          have h1:¬us'.toArray.size=1:=by
           intro h1
           have h1':us'.length=1:=by simpa using h1
           obtain⟨s,rfl⟩:=aD.1 (z2.trans h1')
           exact hne s rfl
          rw[dif_neg h1]
          exact⟨us',rfl,y1,y2⟩
       ·refine⟨hs.df,hs.sz,q3.ft,?_,q3.bx,q3.inj,q3.own,q3.chg,q3.fs,q3.on,q3.f0,hs.gx,q3.cf,⟨q3.hg.hp,q3.hg.gm⟩,q3.fw⟩
        intro t sv' ht
        have ht':(D7q st'.tm).lookup t=some sv':=ht
        rw[B9l]at ht'
        obtain⟨v,y1,y2⟩:=q3.tm _ _ ht'
        refine⟨v,?_,y2⟩
        unfold Cx.val at y1
        rw[Q0 (by omega)]at y1
        have e1:t+LIM-LIM=t:=by omega
        show X0.val a t=some v
        rw[←e1]
        exact y1
      ·cases he
     ·cases he
    cases e with
    |normal=>exact hend rfl q4
    |ret=>exact hend rfl q4
    |exit i=>cases q4
   ·cases he
  ·cases he
 ·cases he
theorem F7s{ex:Nat→Code→St→Nat→(Ex→St→Nat→T)→T}(hex:H0y X Fs fuel ex):D2v X Fs fuel (D0f X.P ex):=by
 intro nt hv dq f vs us st lv K L ρ r Ft β a w next he hnv hlv hs hl hr HK
 obtain⟨fn,c,h1,h2,h3,h4⟩:=G6u hex nt hv dq he hnv hlv hs hl hr HK
 exact⟨⟨fn,h1,by rw[h2];rfl,h3⟩,calls_of_wp h1 h2 h4⟩
end
section
variable{α:Type}(P:Program)(nt:Nat)(hints:List (Nat × α))(inl:Nat→List SV→St→Nat→(SV→St→Nat→T)→T)
def D2f(l:List (Nat × Nat)):List SV:=l.map fun p=>.one (.ptr p.1 p.2)
def F5u(st:St)(o:Oper):Option (Nat × List SV):=match o.guard,o.op with
 |none,.call c=>match c.callee with
  |.value x=>match opC st x,D0g st c.args.toList with
   |some (.fn f),some vs=>if isIn hints f then some (f,vs)else none
   |some (.clo f l),some vs=>some (f,vs++D2f l)
   |_,_=>none
  |_=>none
 |_,_=>none
def D7c(st:St):List Operand→Option (List (Nat × Nat))
 |[]=>some []
 |x::xs=>match opC st x,D7c st xs with
  |some (.ptr n off),some l=>some ((n,off)::l)
  |_,_=>none
def E2z(st:St)(o:Oper):Option C:=match o.guard,o.op with
 |none,.makeFunc fn fs cs=>match fn,fs.toList with
  |.func f,[]=>if isIn hints f then(D7c st cs.toList).map (.clo f)else none
  |_,_=>none
 |_,_=>none
def B5u(ops:Array Oper):List Oper→St→Nat→(St→Nat→T)→T
 |[],st,lv,K=>K st lv
 |o::l,st,lv,K=>match F5u hints st o with
  |some (f,vs)=>if A3a nt o.dst then inl f vs st lv fun sv st' lv'=>B5u ops l (st'.upd o.dst sv none) lv' K else .fail 206
  |none=>match E2z hints st o with
   |some c=>if A3a nt o.dst then B5u ops l (st.upd o.dst (.one c) none) lv K else .fail 207
   |none=>if B7d o l then E5m P nt st o fun st'=>B5u ops l st' lv K else doG P nt ops st o fun st'=>B5u ops l st' lv K
end
section
variable{X:Cx}{Fs:Nat→Fn}{fuel:Nat}
theorem D6i{P:Program}{a:Act}{w:World}{o:Oper}{c:Call}(ho:o.op=.call c){x:Operand}(hcl:c.callee=.value x){f:Nat}{caps:List Value}(hx:a.eval x=.func (.func f) #[] caps.toArray)(fn:Func)(hfn:P.funcs[f]?=some fn)(hbody:fn.body.isSome=true)(hname:(fn.name == "runtime.NumGoroutine")=false):
  (execOp a.eval o).run P w=.ok (.enter f (c.args.toList.map a.eval++caps).toArray) w:=by
 have ev:c.args.map a.eval++caps.toArray=(c.args.toList.map a.eval++caps).toArray:=by rw[←c8];simp
 simp only[execOp,ho,resolve,hcl,hx,Deferred.ofValue,bL,bN,c5,invoke,Array.empty_append]
 rw[ev]
 exact E0i hfn hbody hname
theorem D9i{st:St}{ρ:List D}{Ft:Fr}{β:Nat→Value}{a:Act}{w:World}(hs:Sat X ρ st Ft β a w):∀{xs:List Operand} {l:List (Nat × Nat)},D7c st xs=some l→l.length=(xs.map a.eval).length∧
  ∀(i:Nat) (p:Nat × Nat) (u:Value),l[i]?=some p→(xs.map a.eval)[i]?=some u→∃b,β p.1=.pointer (some ⟨b,0,none⟩)∧u=.pointer (some ⟨b,p.2,none⟩)
 |[],l,h=>by simp only[D7c,bG]at h;subst h;exact⟨rfl,fun i p u h=>by simp at h⟩
 |x::xs,l,h=>by
  simp only[D7c]at h
  split at h
  ·rename_i n off l' h1 h2
   simp only[bG]at h;subst h
   obtain⟨q1,q2⟩:=D9i hs h2
   refine⟨by simpa using q1,fun i=>?_⟩
   cases i with
   |zero=>
    intro p u a1 a2
    simp at a1 a2;subst a1 a2
    exact A0g hs h1
   |succ i=>intro p u a1 a2;exact q2 i p u (by simpa using a1) (by simpa using a2)
  ·cases h
theorem D8w{P:Program}{w:World}{F:Fr}{ρ:List D}{β:Nat→Value}{l:List (Nat × Nat)}{us:List Value}(h:∀(i:Nat) (p:Nat × Nat) (u:Value),l[i]?=some p→us[i]?=some u→∃b,β p.1=.pointer (some ⟨b,0,none⟩)∧u=.pointer (some ⟨b,p.2,none⟩)):
  ∀(i:Nat) (s:SV) (v:Value),(D2f l)[i]?=some s→us[i]?=some v→RV P w F ρ β s v:=by
 intro i s v h1 h2
 unfold D2f at h1
 rw[aA]at h1
 cases hp:l[i]? with
 |none=>simp[hp]at h1
 |some p=>
  simp[hp]at h1;subst h1
  exact h i p v hp h2
theorem F8e{α:Type}{hints:List (Nat × α)}{st:St}{o:Oper}{f:Nat}{vs:List SV}(h:F5u hints st o=some (f,vs)){ρ:List D}{Ft:Fr}{β:Nat→Value}{a:Act}{w:World}(hs:Sat X ρ st Ft β a w):
  ∃us:List Value,vs.length=us.length∧(∀(i:Nat) (s:SV) (v:Value),vs[i]?=some s→us[i]?=some v→RV X.P w Ft ρ β s v)∧o.guard=none∧
   ∀fn,X.P.funcs[f]?=some fn→fn.body.isSome=true→(fn.name == "runtime.NumGoroutine")=false→(execOp a.eval o).run X.P w=.ok (.enter f us.toArray) w:=by
 unfold F5u at h
 split at h
 ·rename_i c hg ho
  split at h
  ·rename_i x hcl
   split at h
   ·rename_i g vs' hx hvs
    split at h
    ·simp only[bG,cM]at h
     obtain⟨rfl,rfl⟩:=h
     obtain⟨l1,q1⟩:=B4t hs hvs
     have hv:a.eval x=.func (.func g) #[] #[]:=A0g hs hx
     exact⟨c.args.toList.map a.eval,by simpa using l1,q1,hg,fun fn h1 h2 h3=>by simpa using D6i (caps:=[]) ho hcl hv fn h1 h2 h3⟩
    ·cases h
   ·rename_i g l vs' hx hvs
    simp only[bG,cM]at h
    obtain⟨rfl,rfl⟩:=h
    obtain⟨l1,q1⟩:=B4t hs hvs
    obtain⟨us,e1,e2,e3⟩:=A0g hs hx
    refine⟨c.args.toList.map a.eval++us,by simp[D2f,l1,e2],?_,hg,fun fn h1 h2 h3=>D6i ho hcl e1 fn h1 h2 h3⟩
    intro i s v h1 h2
    have hl':vs'.length=(c.args.toList.map a.eval).length:=by simpa using l1
    rcases bQ i vs'.length with hi|hi
    ·rw[a8 hi]at h1
     rw[a8 (by omega)]at h2
     exact q1 i s v h1 h2
    ·rw[a6 hi]at h1
     rw[a6 (by omega),←hl']at h2
     exact D8w e3 _ s v h1 h2
   ·cases h
  ·cases h
 ·cases h
theorem D9e{α:Type}{hints:List (Nat × α)}{st:St}{o:Oper}{c:C}(h:E2z hints st o=some c){ρ:List D}{Ft:Fr}{β:Nat→Value}{a:Act}{w:World}(hs:Sat X ρ st Ft β a w):
  o.guard=none∧∃v,(execOp a.eval o).run X.P w=.ok (.value v) w∧RC X.P w Ft ρ β c v:=by
 unfold E2z at h
 split at h
 ·rename_i fn fs cs hg ho
  split at h
  ·rename_i f hfs
   split at h
   ·cases hq:D7c st cs.toList with
    |none=>simp[hq]at h
    |some l=>
     simp only[hq,c0,bG]at h;subst h
     obtain⟨q1,q2⟩:=D9i hs hq
     have hfs':fs=#[]:=by rw[←c8];exact hfs
     subst hfs'
     refine⟨hg,.func (.func f) #[] (cs.toList.map a.eval).toArray,?_,_,rfl,q1,q2⟩
     have ev:cs.map a.eval=(cs.toList.map a.eval).toArray:=by rw[←c8];simp
     simp only[execOp,ho,←ev]
     simp[Instr.makeFunc]
   ·cases h
  ·cases h
 ·cases h
theorem B7i(hF:A5j X.G X.P Fs){α:Type}{hints:List (Nat × α)}{inl:Nat→List SV→St→Nat→(SV→St→Nat→T)→T}(hI:D2v X Fs fuel inl)(ops:Array Oper){Q:Exit→Act→World→Prop}{r:List D}:∀(l:List Oper) (n:Nat) {st:St} {lv:Nat} {K:St→Nat→T} {L:List Fn} {ρ:List D} {Ft:Fr} {β:Nat→Value} {a:Act} {w:World},ops.toList.drop n=l→
  eval Fs fuel (B5u X.P X.nt hints inl ops l st lv K) L ρ=some r→st.nv=ρ.length→lv=L.length→Sat X ρ st Ft β a w→
  (∀(st':St) (lv':Nat) (ext:List D) (Lx:List Fn) (Ft':Fr) (β':Nat→Value) (a':Act) (w':World),st'.nv=(ρ++ext).length→lv'=(L++Lx).length→Sat X (ρ++ext) st' Ft' β' a' w'→
   eval Fs fuel (K st' lv') (L++Lx) (ρ++ext)=some r→Q .normal a' w')→wpOps X.P ops Q (b3 n l.length) a w
 |[],n,st,lv,K,L,ρ,Ft,β,a,w,hl,he,hnv,hlv,hs,HK=>by
  simp only[b8,b6,wpOps]
  exact HK st lv [] [] Ft β a w (by simpa using hnv) (by simpa using hlv) (by simpa using hs) (by simpa[B5u]using he)
 |o::l,n,st,lv,K,L,ρ,Ft,β,a,w,hl,he,hnv,hlv,hs,HK=>by
  have hlt:n<ops.toList.length:=by
   rcases bQ n ops.toList.length with h|h
   ·exact h
   ·rw[aR h]at hl;cases hl
  have ho:ops[n]?=some o:=by
   rw[aE hlt]at hl
   injection hl with h1 h2
   rw[←cC,a4 hlt,h1]
  have hrest:ops.toList.drop (n+1)=l:=by
   rw[aE hlt]at hl
   injection hl
  simp only[B5u]at he
  simp only[aS,b7,wpOps,ho]
  split at he
  ·rename_i f vs hin
   split at he
   ·rename_i hd
    obtain⟨us,l1,q1,hg,hrun⟩:=F8e hin hs
    have hw:bH o (yielded ops a.tmps)=true:=by unfold bH;rw[hg]
    rw[Q3 hw]
    refine .inl ?_
    obtain⟨⟨fn,f1,f2,f3⟩,hcall⟩:=hI X.nt X.hv X.dq he hnv hlv hs l1 q1 (next:=fun v w'=>wpOps X.P ops Q (b3 (n+1) l.length) (a.put o.dst v) w') (by
     intro v sv st' lv' ext Lx Ft' β' w' z1 z2 z3 z4 z5
     refine B7i hF hI ops l (n+1) hrest z5 z1 z2 (Sat.put z4 hd z3) ?_
     intro st'' lv'' ext' Lx' Ft'' β'' a'' w'' y1 y2 y3 y4
     rw[a5]at y1 y3 y4
     rw[a5]at y2 y4
     exact HK st'' lv'' (ext++ext') (Lx++Lx') Ft'' β'' a'' w'' y1 y2 y3 y4)
    unfold cG
    rw[hrun fn f1 f2 f3]
    simp only[cF]
    refine hcall.mono ?_
    rintro e w' ⟨v,rfl,hn⟩
    exact hn
   ·cases he
  ·split at he
   ·rename_i c hmk
    split at he
    ·rename_i hd
     obtain⟨hg,v,hrun,hrc⟩:=D9e hmk hs
     have hw:bH o (yielded ops a.tmps)=true:=by unfold bH;rw[hg]
     rw[Q3 hw]
     refine .inl ?_
     unfold cG
     rw[hrun]
     simp only[cF]
     exact B7i hF hI ops l (n+1) hrest he hnv hlv (Sat.put hs hd (sv:=.one c) hrc) HK
    ·cases he
   ·refine C2t (K:=fun st'=>B5u X.P X.nt hints inl ops l st' lv K) hF he hnv hs ?_
    intro st' ext Ft' β' a' w' hnv' hs' he'
    refine B7i hF hI ops l (n+1) hrest he' hnv' hlv hs' ?_
    intro st'' lv'' ext' Lx' Ft'' β'' a'' w'' y1 y2 y3 y4
    rw[a5]at y1 y3 y4
    exact HK st'' lv'' (ext++ext') Lx' Ft'' β'' a'' w'' y1 y2 y3 y4
theorem E9y(hF:A5j X.G X.P Fs){α:Type}{hints:List (Nat × α)}{inl:Nat→List SV→St→Nat→(SV→St→Nat→T)→T}(hI:D2v X Fs fuel inl){ops:Array Oper}{id:Nat}{Q:Exit→Act→World→Prop}{r:List D}{st:St}{lv:Nat}{K:St→Nat→T}{L:List Fn}{ρ:List D}{Ft:Fr}{β:Nat→Value}{a:Act}{w:World}
  (he:eval Fs fuel (B5u X.P X.nt hints inl ops ops.toList st lv K) L ρ=some r) (hnv:st.nv=ρ.length) (hlv:lv=L.length) (hs:Sat X ρ st Ft β a w)
  (HK:∀(st':St) (lv':Nat) (ext:List D) (Lx:List Fn) (Ft':Fr) (β':Nat→Value) (a':Act) (w':World),st'.nv=(ρ++ext).length→lv'=(L++Lx).length→Sat X (ρ++ext) st' Ft' β' a' w'→
   eval Fs fuel (K st' lv') (L++Lx) (ρ++ext)=some r→Q .normal a' w'):(cP id ops false).wp X.P Q a w:=by
 refine wp_region ?_
 have:=B7i hF hI ops ops.toList 0 rfl he hnv hlv hs HK
 rw[b4]
 simpa using this
end
end Go.Proofs.YtckanieeocdpbaaGreat.Eng
namespace Go.Proofs.YtckanieeocdpbaaGreat.Eng
open Go.RowKit
set_option linter.unusedVariables false
set_option linter.unusedSimpArgs false
structure Hint where
 gen:List Nat
 keep:List Nat
 gbx:List Nat
 gv:List (Nat × Nat × TypeId)
 gn:List (Nat × Nat × TypeId)
 nw:List (Nat × Bool × List Ty)
 jn:Nat
 gh:Bool
 deriving Inhabited
def C0q(st:St)(t i:Nat)(c:C):Option St:=
 match st.tm.lookup t with
 |some (.one .B5m)=>some {st with tm:=(t,.one c)::st.tm}
 |some (.agg cs)=>if cs[i]?=some .B5m then some {st with tm:=(t,.agg (cs.set i c))::st.tm} else none
 |some (.one (.ptr n _))=>match st.bx.lookup n with
  |some (.box bt cs)=>if cs[i]?=some .B5m then some {st with bx:=(n,.box bt (cs.set i c))::st.bx} else none
  |_=>none
 |_=>none
def E3h(P:Program):List (Nat × Nat × TypeId)→St→St
 |[],st=>st
 |(t,i,e)::l,st=>E3h P l (if st.fresh&&(A0r P e).isSome then(C0q (st.newRow e) t i (.vec st.nn)).getD st else st)
def E2l:List (Nat × Nat × TypeId)→St→St
 |[],st=>st
 |(t,i,e)::l,st=>E2l l ((C0q st t i (.dat (.slice e) .A4p)).getD st)
def G1i(P:Program)(h:Hint)(st:St)(k:St→T):T:=
 match h.gv,h.gn,h.gh with
 |[],[],false=>k st
 |gv,gn,gh=>B0k (E2l gn (E3h P gv (if gh then st.A2u st.views else st))) k
def nub:List Nat→List Nat
 |[]=>[]
 |n::l=>n::(nub l).filter (fun m=>m != n)
def genC(n:Nat):C→C × List E × Nat
 |.dat t e=>(.dat t (.var n),[e],n+1)
 |c=>(c,[],n)
def G3h:Nat→List C→List C × List E × Nat
 |n,[]=>([],[],n)
 |n,c::cs=>let(c',e,m):=genC n c;let(cs',es,k):=G3h m cs;(c'::cs',e++es,k)
def H8c(n:Nat):SV→SV × List E × Nat
 |.one c=>let(c',e,m):=genC n c;(.one c',e,m)
 |.agg cs=>let(cs',e,m):=G3h n cs;(.agg cs',e,m)
 |s=>(s,[],n)
def G3k(tm:List (Nat × SV)):Nat→List Nat→List (Nat × SV) × List E × Nat
 |n,[]=>([],[],n)
 |n,t::ts=>match tm.lookup t with
  |some sv=>let(sv',e,m):=H8c n sv;let(l,es,k):=G3k tm m ts;((t,sv')::l,e++es,k)
  |none=>G3k tm n ts
def E5a(bx:List (Nat × Box)):Nat→List Nat→List (Nat × Box) × List E × Nat
 |n,[]=>([],[],n)
 |n,b::bs=>match bx.lookup b with
  |some (.box t cs)=>let(cs',e,m):=G3h n cs;let(l,es,k):=E5a bx m bs;((b,.box t cs')::l,e++es,k)
  |some (.vec t x)=>let(l,es,k):=E5a bx (n+1) bs;((b,.vec t (.var n))::l,x::es,k)
  |some (.map t x)=>let(l,es,k):=E5a bx (n+1) bs;((b,.map t (.var n))::l,x::es,k)
  |_=>E5a bx n bs
def H7w(gh:Bool)(hp:Option (Bool × E))(n:Nat):Option (Bool × E) × List E × Nat:=
 match gh,hp with
 |true,some (m,e)=>(some (m,.var n),[e],n+1)
 |_,hp=>(hp,[],n)
def C.still:C→Bool
 |.vec _|.A6c _ _ _ _|.win _ _ _ _|.lit _ _|.B1g=>false
 |_=>true
def SV.still:SV→Bool
 |.one c=>c.still
 |.agg cs=>cs.all C.still
 |.tup _=>false
def A6u(h:Hint)(st:St):St × List E:=
 let(l1,e1,n1):=G3k st.tm st.nv h.gen
 let(l2,e2,n2):=E5a st.bx n1 (nub (h.gbx.flatMap fun t=>match st.tm.lookup t with|some (.one (.ptr n _))=>n::(match st.bx.lookup n with|some b=>b.rows|none=>[])|some v=>v.rows|none=>[]))
 let(hp,e3,n3):=H7w h.gh st.hp n2
 ({st with tm:=l1++(h.keep.filterMap (fun t=>(st.tm.lookup t).map (t,·))++st.tm.filter fun p=>decide (LIM≤p.1)&&p.2.still),bx:=l2++st.bx,nv:=n3,hp:=hp},e1++e2++e3)
def H3d:List (Nat × Bool × List Ty)→Nat→List (Nat × SV) × Nat
 |[],n=>([],n)
 |(t,b,ts)::l,n=>let(tm,k):=H3d l (n+ts.length);((t,if b then .agg (C2n ts n)else match ts with|[ty]=>.one (.dat ty (.var n))|_=>.tup [])::tm,k)
def G6z(h:Hint)(st:St):St:=
 let s:=(A6u h st).1
 let(l,k):=H3d h.nw s.nv
 {s with tm:=l++s.tm,nv:=k}
def agC(n0:Nat)(c c':C):Option (List (Nat × E)):=
 match c with
 |.dat t (.var n)=>if n0≤n then(mat t c').map fun e=>[(n,e)]else if c=c' then some []else none
 |c=>if c=c'&&c.sc n0 then some []else none
def E0j(n0:Nat):List C→List C→Option (List (Nat × E))
 |[],[]=>some []
 |c::cs,d::ds=>match agC n0 c d,E0j n0 cs ds with
  |some a,some b=>some (a++b)
  |_,_=>none
 |_,_=>none
def G9j(n0:Nat):SV→SV→Option (List (Nat × E))
 |.one c,.one d=>agC n0 c d
 |.agg cs,.agg ds=>E0j n0 cs ds
 |s,s'=>if s=s'&&s.sc n0 then some []else none
def G0j(n0:Nat)(tm':List (Nat × SV)):List (Nat × SV)→Option (List (Nat × E))
 |[]=>some []
 |(t,sv)::l=>match tm'.lookup t with
  |some sv'=>match G9j n0 sv sv',G0j n0 tm' l with
   |some a,some b=>some (a++b)
   |_,_=>none
  |none=>none
def E4p(n0:Nat):Box→Box→Option (List (Nat × E))
 |.box t cs,.box t' cs'=>if t=t' then E0j n0 cs cs' else none
 |.vec e (.var n),.vec e' y=>if e=e'∧n0≤n then some [(n,y)]else if .vec e (.var n)=Box.vec e' y∧(E.var n).sc n0 then some []else none
 |.map e (.var n),.map e' y=>if e=e'∧n0≤n then some [(n,y)]else if .map e (.var n)=Box.map e' y∧(E.var n).sc n0 then some []else none
 |x,y=>if x=y&&x.sc n0 then some []else none
def G2m(n0:Nat)(bx bx':List (Nat × Box)):List Nat→Option (List (Nat × E))
 |[]=>some []
 |n::l=>match bx.lookup n,bx'.lookup n with
  |some x,some y=>match E4p n0 x y,G2m n0 bx bx' l with
   |some a,some b=>some (a++b)
   |_,_=>none
  |_,_=>none
def H0n(n0:Nat):Option (Bool × E)→Option (Bool × E)→Option (List (Nat × E))
 |none,none=>some []
 |some (m,.var n),some (m',e)=>if m=m' then(if n0≤n then some [(n,e)]else if e=.var n then some []else none)else none
 |some (m,e),some (m',e')=>if m=m'∧e=e'∧e.sc n0=true then some []else none
 |_,_=>none
def D5l(asg:List (Nat × E))(n0:Nat):Nat→Option (List E)
 |0=>some []
 |k+1=>match D5l asg n0 k,asg.lookup (n0+k)with
  |some l,some e=>some (l++[e])
  |_,_=>none
def C6i(n0 k:Nat)(st st':St):Option (List E):=
 match G0j n0 st'.tm st.tm,G2m n0 st.bx st'.bx (st.bx.map (·.1)),H0n n0 st.hp st'.hp with
 |some a,some b,some c=>
  if(a++b++c).all (fun p=>decide ((a++b++c).lookup p.1=some p.2)&&decide (p.1<n0+k))&&st.fs.all (fun p=>p.1.sc n0)&&decide (st.ex=[]∧st'.ex=[]∧st.cf=st'.cf)then D5l (a++b++c) n0 k else none
 |_,_,_=>none
section
variable(P:Program)(inl:List (Nat × Hint)→Nat→List SV→St→Nat→(SV→St→Nat→T)→T)(nt:Nat)(hints:List (Nat × Hint))
def B6p:Code→Nat
 |.region id _ _=>id
 |.seq a b=>match B6p a with|0=>B6p b|n=>n
 |.cond _ a b=>match B6p a with|0=>B6p b|n=>n
 |.block _ b|.loop b|.scope b=>B6p b
 |_=>0
def br(st:St)(x:Operand)(K:Bool→St→T):T:=
 match opC st x with
 |some (.dat .bool e)=>match known st e with
  |some b=>K b st
  |none=>.ite e (K true {st with fs:=addFact e true st.fs}) (K false {st with fs:=addFact e false st.fs})
 |_=>.fail 20
def H0j(id:Nat):Bool:=match hints.lookup id with|some h=>h.jn == 5|none=>false
def G6c(id:Nat):Option (List Nat):=match hints.lookup id with|some h=>if h.jn == 6 then some h.gen else none|none=>none
def G8g(id:Nat):Option (List Nat):=match hints.lookup id with|some h=>if h.jn == 8 then some h.gen else none|none=>none
def H2n(id:Nat):Option (List Nat):=match hints.lookup id with|some h=>if h.jn == 9 then some h.gen else none|none=>none
def E4t(f:St→Nat→(Ex→St→Nat→T)→T):Nat→St→Nat→(Ex→St→Nat→T)→T
 |0,_,_,_=>.fail 27
 |n+1,st,lv,K=>f st lv fun e st' lv'=>match e with
  |.normal=>E4t f n st' lv' K
  |e=>K e st' lv'
def fzT(h st:St):List Nat:=h.tm.filterMap fun p=>match p.2,st.tm.lookup p.1 with
 |.one (.dat (.slice _) _),some (.one (.vec m))=>some m
 |_,_=>none
def exec:Code→St→Nat→(Ex→St→Nat→T)→T
 |.skip,st,lv,K=>K .normal st lv
 |.seq a b,st,lv,K=>match hints.lookup (B6p b)with
  |some ⟨_,_,_,_,_,_,2,_⟩=>exec a st lv fun e st' lv'=>match e with
   |.normal=>.stop st'
   |e=>K e st' lv'
  |some ⟨h1,h2,h3,h4,h5,h6,1,h8⟩=>G1i P ⟨h1,h2,h3,h4,h5,h6,1,h8⟩ st fun st=>B0k (G6z ⟨h1,h2,h3,h4,h5,h6,1,h8⟩ st) fun sj=>frN (sj.nv-st.nv) fun k=>
   if sj.nv=st.nv+k∧sj.fs=st.fs then .jp (exec b sj lv K) (exec a st (lv+1) fun e st' lv'=>match e with
    |.normal=>match C6i st.nv k sj st' with
     |some es=>.again lv es
     |none=>.fail 81
    |e=>K e st' lv')else .fail 82
  |_=>exec a st lv fun e st' lv'=>match e with
   |.normal=>exec b st' lv' K
   |e=>K e st' lv'
 |.cond c a b,st,lv,K=>br st c fun t st'=>if t then exec a st' lv K else exec b st' lv K
 |.block id c,st,lv,K=>exec c st lv fun e st' lv'=>match e with
  |.exit i=>if i=id then K .normal st' lv' else K (.exit i) st' lv'
  |e=>K e st' lv'
 |.loop c,st,lv,K=>match hints.lookup (B6p c)with
  |some h=>if h.jn=3 then E4t (exec c) (h.gen.headD 0) st lv K else G1i P h st fun st=>
   let st':=(A6u h st).1
   let inits:=(A6u h st).2
   match C6i st.nv inits.length st' st with
   |some es=>if es=inits∧st.sc=true∧st'.nv=st.nv+inits.length then .loop inits (exec c st' (lv+1) fun e st'' lv'=>match e with
    |.normal=>B8s st'' (fzT st' st'') fun st''=>match C6i st.nv inits.length st' st'' with
     |some es=>.again lv es
     |none=>.fail 22
    |e=>K e st'' lv')else .fail 23
   |none=>.fail 24
  |none=>.fail 21
 |.exit id,st,lv,K=>K (.exit id) st lv
 |.ret,st,lv,K=>K .ret st lv
 |.region id ops draw,st,lv,K=>if draw then(if H0j hints id then F3k P nt false ops st lv (fun st'=>K .normal st' lv)else E6q P nt false ops st (fun st'=>K .normal st' lv))else match G6c hints id with|some l=>B7w P nt ops ops.toList st (fun st'=>B0k (st'.pzs P l) fun st'=>K .normal st' lv)|none=>match G8g hints id with|some l=>C0a P nt ops l ops.toList st (fun st'=>K .normal st' lv)|none=>match H2n hints id with|some l=>B7w P nt ops ops.toList st (fun st'=>B0k (st'.E7b P l) fun st'=>K .normal st' lv)|none=>if hints.any (fun p=>decide (10000≤p.1))then B5u P nt hints (inl hints) ops ops.toList st lv (fun st' lv'=>K .normal st' lv')else B7w P nt ops ops.toList st fun st'=>K .normal st' lv
 |_,st,lv,K=>.fail 26
def C5y:Nat→Nat→List (Nat × Hint)→Code→St→Nat→(Ex→St→Nat→T)→T
 |0=>fun nt hints=>exec P (fun _ _ _ _ _ _=>.fail 209) nt hints
 |d+1=>fun nt hints=>exec P (fun hs f=>D0f P (fun nt'=>C5y d nt' (hof hs f)) f) nt hints
end
end Go.Proofs.YtckanieeocdpbaaGreat.Eng
namespace Go.Proofs.YtckanieeocdpbaaGreat.Eng
open Go.RowKit
set_option linter.unusedVariables false
set_option linter.unusedSimpArgs false
section
variable{P:Program}{w:World}{F:Fr}{ρ:List D}{β:Nat→Value}
def C4u(ρ ρ' xs:List D)(n0 k:Nat)(asg:List (Nat × E)):Prop:=∀n e,asg.lookup n=some e→n0≤n→n<n0+k→(ρ++xs).getD n .nil=den ρ' e
variable{ρ' xs:List D}{n0 k:Nat}{all:List (Nat × E)}
theorem E8c{ext:List D}(hn0:ρ.length=n0)(hst:C4u ρ (ρ++ext) xs n0 k all){c c':C}{asg:List (Nat × E)}(h:agC n0 c c'=some asg)(ha:∀p ∈ asg,all.lookup p.1=some p.2∧p.1<n0+k){v:Value}
  (hr:RC P w F (ρ++ext) β c' v):RC P w F (ρ++xs) β c v:=by
 subst hn0
 unfold agC at h
 split at h
 ·rename_i t n
  split at h
  ·rename_i hle
   cases hm:mat t c' with
   |none=>simp[hm]at h
   |some e=>
    simp[hm]at h;subst h
    have:=ha _ (aG.2 rfl)
    have hx:=hst n e this.1 hle this.2
    have hd:=B1m hm hr
    show Rd _ _ _ _ ((ρ++xs).getD n .nil) _
    rw[hx]
    exact hd
  ·rename_i hlt
   split at h
   ·rename_i hc
    subst hc
    have hsc:(C.dat t (.var n)).sc ρ.length=true:=by simp[C.sc,E.sc];omega
    exact(hr.cut hsc).ext _ hsc
   ·cases h
 ·split at h
  ·rename_i hc
   simp only[bB,Q9]at hc
   obtain⟨rfl,hsc⟩:=hc
   exact(hr.cut hsc).ext _ hsc
  ·cases h
theorem C9z{ext:List D}(hn0:ρ.length=n0)(hst:C4u ρ (ρ++ext) xs n0 k all):∀{cs cs':List C} {asg:List (Nat × E)} {vs:List Value},E0j n0 cs cs'=some asg→(∀p ∈ asg,all.lookup p.1=some p.2∧p.1<n0+k)→
  RCL P w F (ρ++ext) β cs' vs→RCL P w F (ρ++xs) β cs vs
 |[],[],asg,vs,h,ha,hr=>⟨hr.1,fun i c v q=>by simp at q⟩
 |[],d::ds,asg,vs,h,ha,hr=>by simp[E0j]at h
 |c::cs,[],asg,vs,h,ha,hr=>by simp[E0j]at h
 |c::cs,d::ds,asg,[],h,ha,hr=>by have:=hr.1;simp at this
 |c::cs,d::ds,asg,v::vs,h,ha,hr=>by
  simp only[E0j]at h
  split at h
  ·rename_i a b h1 h2
   simp at h;subst h
   exact RCL.cons (E8c hn0 hst h1 (fun p hp=>ha p (aC _ hp)) (hr.2 0 d v rfl rfl))
    (C9z hn0 hst h2 (fun p hp=>ha p (aF _ hp)) ⟨by have:=hr.1;simpa using this,fun i c v h1 h2=>hr.2 (i+1) c v h1 h2⟩)
  ·cases h
theorem G3d{ext:List D}(hn0:ρ.length=n0)(hst:C4u ρ (ρ++ext) xs n0 k all){s s':SV}{asg:List (Nat × E)}(h:G9j n0 s s'=some asg)(ha:∀p ∈ asg,all.lookup p.1=some p.2∧p.1<n0+k){v:Value}
  (hr:RV P w F (ρ++ext) β s' v):RV P w F (ρ++xs) β s v:=by
 unfold G9j at h
 split at h
 ·exact E8c hn0 hst h ha hr
 ·obtain⟨vs,e,hl⟩:=hr
  exact⟨vs,e,C9z hn0 hst h ha hl⟩
 ·split at h
  ·rename_i hc
   simp only[bB,Q9]at hc
   obtain⟨rfl,hsc⟩:=hc
   rw[←hn0]at hsc
   exact(hr.cut hsc).ext _ hsc
  ·cases h
theorem F7y{ext:List D}(hn0:ρ.length=n0)(hst:C4u ρ (ρ++ext) xs n0 k all){s s':Box}{asg:List (Nat × E)}(h:E4p n0 s s'=some asg)(ha:∀p ∈ asg,all.lookup p.1=some p.2∧p.1<n0+k){v:Value}
  (hr:A1b P w F (ρ++ext) β s' v):A1b P w F (ρ++xs) β s v:=by
 unfold E4p at h
 split at h
 ·split at h
  ·rename_i ht
   subst ht
   obtain⟨b,vs,e1,e2,hl⟩:=hr
   exact⟨b,vs,e1,e2,C9z hn0 hst h ha hl⟩
  ·cases h
 ·rename_i e n e' y
  split at h
  ·rename_i hc
   obtain⟨rfl,hle⟩:=hc
   simp at h;subst h
   have:=ha _ (aG.2 rfl)
   have hx:=hst n y this.1 hle this.2
   obtain⟨ts,xs',h1,h2,h3⟩:=hr
   have hd:den (ρ++xs) (.var n)=den (ρ++ext) y:=hx
   exact⟨ts,xs',h1,by rw[hd];exact h2,by rw[hd];exact h3⟩
  ·split at h
   ·rename_i hc
    obtain⟨he,hsc⟩:=hc
    cases he
    have hsc':(Box.vec e (.var n)).sc ρ.length=true:=by rw[hn0];exact hsc
    exact(hr.cut hsc').ext _ hsc'
   ·cases h
 ·rename_i e n e' y
  split at h
  ·rename_i hc
   obtain⟨rfl,hle⟩:=hc
   simp at h;subst h
   have:=ha _ (aG.2 rfl)
   have hx:=hst n y this.1 hle this.2
   obtain⟨b,k',e',ts,us,g,h,es,h1⟩:=hr
   have hd:den (ρ++xs) (.var n)=den (ρ++ext) y:=hx
   exact⟨b,k',e',ts,us,g,h,es,by rw[hd];exact h1⟩
  ·split at h
   ·rename_i hc
    obtain⟨he,hsc⟩:=hc
    cases he
    have hsc':(Box.map e (.var n)).sc ρ.length=true:=by rw[hn0];exact hsc
    exact(hr.cut hsc').ext _ hsc'
   ·cases h
 ·split at h
  ·rename_i hc
   simp only[bB,Q9]at hc
   obtain⟨rfl,hsc⟩:=hc
   rw[←hn0]at hsc
   exact(hr.cut hsc).ext _ hsc
  ·cases h
theorem H2d{n0:Nat}{s s':Box}{asg:List (Nat × E)}(h:E4p n0 s s'=some asg):∀v,s.bk v=s'.bk v:=by
 intro v
 unfold E4p at h
 split at h
 ·rfl
 ·rfl
 ·rfl
 ·split at h
  ·rename_i hc
   simp only[bB,Q9]at hc
   rw[hc.1]
  ·cases h
theorem E4k{ext:List D}(hn0:ρ.length=n0)(hst:C4u ρ (ρ++ext) xs n0 k all)(tm':List (Nat × SV)):∀{tm:List (Nat × SV)} {asg:List (Nat × E)},G0j n0 tm' tm=some asg→(∀p ∈ asg,all.lookup p.1=some p.2∧p.1<n0+k)→
  ∀t sv,tm.lookup t=some sv→∃sv',tm'.lookup t=some sv'∧∀v,RV P w F (ρ++ext) β sv' v→RV P w F (ρ++xs) β sv v
 |[],asg,h,ha,t,sv,hl=>by cases hl
 |(t0,s0)::l,asg,h,ha,t,sv,hl=>by
  simp only[G0j]at h
  split at h
  ·rename_i s' hs'
   split at h
   ·rename_i a b h1 h2
    simp at h;subst h
    rw[a9]at hl
    split at hl
    ·rename_i he
     simp at he hl;subst he hl
     exact⟨s',hs',fun v hv=>G3d hn0 hst h1 (fun p hp=>ha p (aC _ hp)) hv⟩
    ·exact E4k hn0 hst tm' h2 (fun p hp=>ha p (aF _ hp)) t sv hl
   ·cases h
  ·cases h
theorem E4i{ext:List D}(hn0:ρ.length=n0)(hst:C4u ρ (ρ++ext) xs n0 k all)(bx bx':List (Nat × Box)):∀{l:List Nat} {asg:List (Nat × E)},G2m n0 bx bx' l=some asg→(∀p ∈ asg,all.lookup p.1=some p.2∧p.1<n0+k)→
  ∀n x,n ∈ l→bx.lookup n=some x→∃y,bx'.lookup n=some y∧(∀v,A1b P w F (ρ++ext) β y v→A1b P w F (ρ++xs) β x v)∧∀v,x.bk v=y.bk v
 |[],asg,h,ha,n,x,hm,hl=>by cases hm
 |n0'::l,asg,h,ha,n,x,hm,hl=>by
  simp only[G2m]at h
  split at h
  ·rename_i x' y' h1 h2
   split at h
   ·rename_i a b h3 h4
    simp at h;subst h
    rcases aT.1 hm with rfl|hm
    ·rw[h1]at hl;cases hl
     exact⟨y',h2,fun v hv=>F7y hn0 hst h3 (fun p hp=>ha p (aC _ hp)) hv,H2d h3⟩
    ·exact E4i hn0 hst bx bx' h4 (fun p hp=>ha p (aF _ hp)) n x hm hl
   ·cases h
  ·cases h
theorem D6n{ρ':List D}(asg:List (Nat × E))(n0:Nat):∀{k:Nat} {es:List E},D5l asg n0 k=some es→es.length=k∧∀i e,i<k→asg.lookup (n0+i)=some e→es[i]?=some e
 |0,es,h=>by simp[D5l]at h;subst h;exact⟨rfl,fun i e h=>by omega⟩
 |k+1,es,h=>by
  simp only[D5l]at h
  split at h
  ·rename_i l e h1 h2
   simp at h;subst h
   obtain⟨q1,q2⟩:=D6n (ρ':=ρ') asg n0 h1
   refine⟨by simp[q1],fun i e' hi hl=>?_⟩
   by_cases hk:i<k
   ·rw[a8 (by omega)]
    exact q2 i e' hk hl
   ·have:i=k:=by omega
    subst this
    rw[h2]at hl;cases hl
    rw[a6 (by omega)]
    simp[q1]
  ·cases h
end
section
variable{X:Cx}{Fs:Nat→Fn}{fuel:Nat}
section
variable{st:St}{ρ:List D}{Ft:Fr}{β:Nat→Value}{a:Act}{w:World}
theorem Sat.retm(hs:Sat X ρ st Ft β a w){t:Nat}{sv sv':SV}(ht:st.tm.lookup t=some sv)(h:∀v,RV X.P w Ft ρ β sv v→RV X.P w Ft ρ β sv' v):Sat X ρ {st with tm:=(t,sv')::st.tm} Ft β a w:=by
 refine⟨hs.df,hs.sz,hs.ft,?_,hs.bx,hs.inj,hs.own,hs.chg,hs.fs,hs.on,hs.f0,hs.gx,hs.cf,⟨hs.hg.hp,hs.hg.gm⟩,hs.fw⟩
 intro t' s hl
 have hl':((t,sv')::st.tm).lookup t'=some s:=hl
 rw[a9]at hl'
 split at hl'
 ·rename_i he
  simp at he hl';subst he hl'
  obtain⟨v,h1,h2⟩:=hs.tm _ _ ht
  exact⟨v,h1,h v h2⟩
 ·exact hs.tm _ _ hl'
theorem Sat.rebx(hs:Sat X ρ st Ft β a w){n:Nat}{x x':Box}(hx:st.bx.lookup n=some x)(h:∀v,A1b X.P w Ft ρ β x v→A1b X.P w Ft ρ β x' v)(hbk:∀v,x'.bk v=x.bk v):Sat X ρ {st with bx:=(n,x')::st.bx} Ft β a w:=by
 have hlk:∀m y,((n,x')::st.bx).lookup m=some y→(m=n∧y=x')∨(m≠n∧st.bx.lookup m=some y):=by
  intro m y h
  rw[a9]at h
  split at h
  ·rename_i he;simp at he h;exact .inl ⟨he,h.symm⟩
  ·rename_i he;simp at he;exact .inr ⟨he,h⟩
 have hsome:∀m y,((n,x')::st.bx).lookup m=some y→∃y',st.bx.lookup m=some y'∧∀v,y.bk v=y'.bk v:=by
  intro m y h
  rcases hlk m y h with⟨rfl,rfl⟩|⟨_,h⟩
  ·exact⟨_,hx,hbk⟩
  ·exact⟨_,h,fun _=>rfl⟩
 refine⟨hs.df,hs.sz,?_,hs.tm,?_,?_,?_,hs.chg,hs.fs,hs.on,hs.f0,hs.gx,hs.cf,hs.hg.less (fun m y hm=>by obtain⟨y',h1,h2⟩:=hsome m y hm;exact⟨y',h1,.inl (h2 _)⟩) rfl rfl rfl,hs.fw⟩
 ·intro b hb
  refine⟨(hs.ft b hb).1,fun m y hm=>?_⟩
  obtain⟨y',hy',e⟩:=hsome m y hm
  rw[e]
  exact(hs.ft b hb).2 m y' hy'
 ·intro m y hm
  rcases hlk m y hm with⟨rfl,rfl⟩|⟨_,hm'⟩
  ·exact h _ (hs.bx _ _ hx)
  ·exact hs.bx _ _ hm'
 ·intro m m' y y' k hm hm' e1 e2
  obtain⟨z,q1,h1⟩:=hsome m y hm
  obtain⟨z',q2,h2⟩:=hsome m' y' hm'
  exact hs.inj m m' z z' k q1 q2 (by rw[←h1];exact e1) (by rw[←h2];exact e2)
 ·intro m y k hm hk
  obtain⟨z,q1,h1⟩:=hsome m y hm
  exact hs.own m z k q1 (by rw[←h1];exact hk)
theorem D5d(hs:Sat X ρ st Ft β a w){t i:Nat}{c:C}{st':St}(h:C0q st t i c=some st')(hc:∀v,RC X.P w Ft ρ β .B5m v→RC X.P w Ft ρ β c v):Sat X ρ st' Ft β a w:=by
 have hset:∀{cs:List C} {vs:List Value},cs[i]?=some .B5m→RCL X.P w Ft ρ β cs vs→RCL X.P w Ft ρ β (cs.set i c) vs:=by
  intro cs vs hi hr
  have hlt:i<vs.length:=by rw[←hr.1];exact(a7.1 hi).1
  have:=hr.set i (c:=c) (v:=vs[i]) (hc _ (hr.2 i _ _ hi (a4 hlt)))
  rwa [List.set_getElem_self]at this
 unfold C0q at h
 split at h
 ·rename_i hl
  simp at h;subst h
  exact hs.retm hl hc
 ·rename_i cs hl
  split at h
  ·rename_i hi
   simp at h;subst h
   exact hs.retm hl (fun v ⟨vs,e,hr⟩=>⟨vs,e,hset hi hr⟩)
  ·cases h
 ·rename_i n off hl
  split at h
  ·rename_i bt cs hb
   split at h
   ·rename_i hi
    simp at h;subst h
    exact hs.rebx hb (fun v ⟨b,vs,e1,e2,hr⟩=>⟨b,vs,e1,e2,hset hi hr⟩) (fun _=>rfl)
   ·cases h
  ·cases h
 ·cases h
theorem E9i{st st':St}{t i:Nat}{c:C}(h:C0q st t i c=some st'):st'.nv=st.nv:=by
 unfold C0q at h
 split at h
 ·simp at h;subst h;rfl
 ·split at h
  ·simp at h;subst h;rfl
  ·cases h
 ·split at h
  ·split at h
   ·simp at h;subst h;rfl
   ·cases h
  ·cases h
 ·cases h
theorem C0g:∀(l:List (Nat × Nat × TypeId)) {st:St} {β:Nat→Value},Sat X ρ st Ft β a w→∃β',(E3h X.P l st).nv=st.nv∧Sat X ρ (E3h X.P l st) Ft β' a w
 |[],st,β,hs=>⟨β,rfl,hs⟩
 |(t,i,e)::l,st,β,hs=>by
  simp only[E3h]
  split
  ·rename_i hc
   simp only[bB]at hc
   obtain⟨hfr,hts⟩:=hc
   cases hq:C0q (st.newRow e) t i (.vec st.nn)with
   |none=>exact C0g l hs
   |some st'=>
    cases htq:A0r X.P e with
    |none=>rw[htq]at hts;cases hts
    |some ts=>
     have h1:=hs.newRow hfr htq
     have h2:=D5d h1 hq (fun v hv=>by have e1:v=.slice none 0 0:=hv;show v=_;simp[A0q,e1])
     obtain⟨β',n1,q⟩:=C0g l h2
     exact⟨β',by rw[bZ,n1,E9i hq];rfl,q⟩
  ·exact C0g l hs
theorem C7s:∀(l:List (Nat × Nat × TypeId)) {st:St},Sat X ρ st Ft β a w→(E2l l st).nv=st.nv∧Sat X ρ (E2l l st) Ft β a w
 |[],st,hs=>⟨rfl,hs⟩
 |(t,i,e)::l,st,hs=>by
  simp only[E2l]
  cases hq:C0q st t i (.dat (.slice e) .A4p)with
  |none=>exact C7s l hs
  |some st'=>
   have h2:=D5d hs hq (fun v hv=>Rd.snil rfl hv)
   obtain⟨n1,q⟩:=C7s l h2
   exact⟨by rw[bZ,n1,E9i hq],q⟩
theorem E2w{h:Hint}{K:St→T}{L:List Fn}{r:List D}(he:eval Fs fuel (G1i X.P h st K) L ρ=some r)(hnv:st.nv=ρ.length)(hs:Sat X ρ st Ft β a w):∃st' β',st'.nv=ρ.length∧Sat X ρ st' Ft β' a w∧eval Fs fuel (K st') L ρ=some r:=by
 unfold G1i at he
 split at he
 ·exact⟨st,β,hnv,hs,he⟩
 ·rename_i gv gn gh _
  rw[A5s]at he
  have hs0:Sat X ρ (if h.gh=true then st.A2u st.views else st) Ft β a w:=by
   split
   ·exact hs.A2u _
   ·exact hs
  have hn0:(if h.gh=true then st.A2u st.views else st).nv=st.nv:=by
   split
   ·exact(B4r _ _).2.2.2.1
   ·rfl
  obtain⟨β',n1,q⟩:=C0g h.gv hs0
  obtain⟨n2,q2⟩:=C7s h.gn q
  exact⟨_,β',by rw[n2,n1,hn0,hnv],q2,he⟩
end
theorem C7o{n0 k:Nat}{st st':St}{es:List E}(h:C6i n0 k st st'=some es){ρ ext:List D}(hn0:ρ.length=n0)(hfs:∀e b,(e,b) ∈ st.fs→(den ρ e).toBool=b){Ft:Fr}{β:Nat→Value}{a:Act}{w:World}(hs:Sat X (ρ++ext) st' Ft β a w):
  es.length=k∧Sat X (ρ++es.map (den (ρ++ext))) st Ft β a w:=by
 unfold C6i at h
 split at h
 ·rename_i a1 b1 c1 h1 h2 h3
  split at h
  ·rename_i hc
   simp only[bB,aI,Q9]at hc
   obtain⟨⟨hall,hsc⟩,hcc⟩:=hc
   obtain⟨q1,q2⟩:=D6n (ρ':=ρ) _ _ h
   have hst:C4u ρ (ρ++ext) (es.map (den (ρ++ext))) n0 k (a1++b1++c1):=by
    intro n e hl hle hlt
    have:=q2 (n-n0) e (by omega) (by rw[show n0+(n-n0)=n by omega];exact hl)
    rw[a0,a6 (by omega),aA,hn0,this]
    rfl
   have t1:=fun(t:Nat) sv ht=>E4k (P:=X.P) (w:=w) (F:=Ft) (β:=β) hn0 hst st'.tm h1 (fun p hp=>hall p (aC _ (aC _ hp))) t sv ht
   have t2:=fun(n:Nat) x hm hl=>E4i (P:=X.P) (w:=w) (F:=Ft) (β:=β) hn0 hst st.bx st'.bx h2 (fun p hp=>hall p (aC _ (aF _ hp))) n x hm hl
   have t3:∀n x,st.bx.lookup n=some x→∃y,st'.bx.lookup n=some y∧(∀v,A1b X.P w Ft (ρ++ext) β y v→A1b X.P w Ft (ρ++es.map (den (ρ++ext))) β x v)∧∀v,x.bk v=y.bk v:=fun n x hl=>
    t2 n x (aU.2 ⟨_,A0z hl,rfl⟩) hl
   have t4:∀m e,st.hp=some (m,e)→∃e',st'.hp=some (m,e')∧den (ρ++es.map (den (ρ++ext))) e=den (ρ++ext) e':=by
    intro m e he
    rw[he]at h3
    unfold H0n at h3
    split at h3
    ·rename_i hq _;cases hq
    ·rename_i m0 n m1 e1 hq hq'
     cases hq
     split at h3
     ·rename_i hm;subst hm
      split at h3
      ·rename_i hle
       cases h3
       have:=hall (n,e1) (aF _ (aG.2 rfl))
       exact⟨e1,hq',hst n e1 this.1 hle this.2⟩
      ·rename_i hle
       split at h3
       ·rename_i hv
        subst hv
        have hlt:n < ρ.length:=by omega
        refine⟨_,hq',?_⟩
        simp only[den,a0]
        rw[a8 hlt,a8 hlt]
       ·cases h3
     ·cases h3
    ·rename_i m0 e0 m1 e1 _ hq hq'
     cases hq
     split at h3
     ·rename_i hc
      obtain⟨rfl,rfl,hsc'⟩:=hc
      rw[←hn0]at hsc'
      exact⟨_,hq',by rw[A0y hsc',A0y hsc']⟩
     ·cases h3
    ·cases h3
   have t5:∀m e',st'.hp=some (m,e')→∃e,st.hp=some (m,e):=by
    intro m e' he'
    rw[he']at h3
    unfold H0n at h3
    split at h3
    ·rename_i hq;cases hq
    ·rename_i m0 n m1 e1 hq hq'
     cases hq'
     split at h3
     ·rename_i hm;subst hm;exact⟨_,hq⟩
     ·cases h3
    ·rename_i m0 e0 m1 e1 _ hq hq'
     cases hq'
     split at h3
     ·rename_i hc;obtain⟨rfl,_⟩:=hc;exact⟨_,hq⟩
     ·cases h3
    ·cases h3
   obtain⟨hcc1,hcc2,hcc3⟩:=hcc
   refine⟨q1,hs.df,hs.sz,?_,?_,?_,?_,?_,hs.chg,?_,hs.on,hs.f0,hs.gx,⟨hcc3.trans hs.cf.1,by rw[hcc3];exact hs.cf.2⟩,⟨?_,?_⟩,⟨hs.fw.1,hs.fw.2.1,hs.fw.2.2.1,fun hno=>hs.fw.2.2.2 fun e he=>by obtain⟨e',h'⟩:=t5 _ _ he;exact hno e' h'⟩⟩
   rotate_right 2
   ·intro m e he
    obtain⟨e',z1,z2⟩:=t4 m e he
    obtain⟨φ,y1,y2⟩:=hs.hg.hp m e' z1
    rw[hcc2]at y1
    refine⟨φ,by rw[hcc3,z2,hcc1];exact y1,fun n k hk=>⟨(y2 n k hk).1,fun j x hx=>?_⟩⟩
    obtain⟨y,hy,_,hq⟩:=t3 j x hx
    rw[hq];exact(y2 n k hk).2 j y hy
   ·intro n b t hn
    obtain⟨g1,g2,g3⟩:=hs.hg.gm n b t hn
    refine⟨g1,g2,fun j x hx=>?_⟩
    obtain⟨y,hy,_,hq⟩:=t3 j x hx
    rw[hq];exact g3 j y hy
   ·intro b hb
    refine⟨(hs.ft b hb).1,fun n x hx=>?_⟩
    obtain⟨y,hy,_,hq⟩:=t3 n x hx
    rw[hq]
    exact(hs.ft b hb).2 n y hy
   ·intro t sv ht
    obtain⟨sv',z1,z2⟩:=t1 t sv ht
    obtain⟨v,v1,v2⟩:=hs.tm t sv' z1
    exact⟨v,v1,z2 v v2⟩
   ·intro n x hx
    obtain⟨y,hy,z,_⟩:=t3 n x hx
    exact z _ (hs.bx n y hy)
   ·intro n m x y k' hx hy e1 e2
    obtain⟨x',hx',_,h1⟩:=t3 n x hx
    obtain⟨y',hy',_,h2⟩:=t3 m y hy
    exact hs.inj n m x' y' k' hx' hy' (by rw[←h1];exact e1) (by rw[←h2];exact e2)
   ·intro n x k' hx e1
    obtain⟨x',hx',_,h1⟩:=t3 n x hx
    exact hs.own n x' k' hx' (by rw[←h1];exact e1)
   ·intro e b hm
    have:=hsc _ hm
    rw[←hn0]at this
    rw[A0y this]
    exact hfs e b hm
  ·cases h
 ·cases h
theorem D5w{p:Nat→Prop}:(∃n,p n)→∃m,p m∧∀k,p k→m≤k:=by
 rintro⟨n,hn⟩
 induction n using Nat.strongRecOn with
 |_ n ih=>
  by_cases h:∃k,k<n∧p k
  ·obtain⟨k,hk,hp⟩:=h
   exact ih k hk hp
  ·exact⟨n,hn,fun k hk=>Nat.le_of_not_lt fun hlt=>h ⟨k,hlt,hk⟩⟩
open Classical in
noncomputable def C9o(p:Nat→Prop):Nat:=if h:∃n,p n then cK (D5w h)else 0
theorem D9g{p:Nat→Prop}(h:∃n,p n):p (C9o p)∧∀k,p k→C9o p≤k:=by
 unfold C9o
 rw[dif_pos h]
 exact cL (D5w h)
theorem F5x{P:Program}{c:Code}{Q:Exit→Act→World→Prop}{a:Act}{w:World}(J:Nat→Act→World→Prop)(h0:∃n,J n a w)(hz:∀a w,¬J 0 a w)(round:∀n a w,J (n+1) a w→c.wp P (Exit.then (J n) Q) a w):
  (Code.loop c).wp P Q a w:=by
 refine wp_loop (fun a w=>∃n,J n a w) (fun a w=>C9o fun n=>J n a w) h0 ?_
 intro a w hI
 obtain⟨h1,h2⟩:=D9g hI
 cases hn:C9o (fun n=>J n a w)with
 |zero=>rw[hn]at h1;exact absurd h1 (hz a w)
 |succ n=>
  rw[hn]at h1
  refine cQ ?_ (round n a w h1)
  intro e a' w' he
  cases e<;>simp only[Exit.then]at he⊢<;>first|exact he|skip
  refine⟨⟨n,he⟩,?_⟩
  have:=(D9g (p:=fun n=>J n a' w') ⟨n,he⟩).2 n he
  show C9o (fun n=>J n a' w')<n+1
  omega
theorem G9g{st:St}{x:Operand}{K:Bool→St→T}{L:List Fn}{ρ:List D}{r:List D}{Ft:Fr}{β:Nat→Value}{a:Act}{w:World}(he:eval Fs fuel (br st x K) L ρ=some r)(hnv:st.nv=ρ.length)(hs:Sat X ρ st Ft β a w):
  ∃b st',a.eval x=.bool b∧st'.nv=ρ.length∧Sat X ρ st' Ft β a w∧eval Fs fuel (K b st') L ρ=some r:=by
 unfold br at he
 split at he
 ·rename_i e hx
  have hv:=(A0g hs hx).A6x
  split at he
  ·rename_i b hk
   exact⟨b,st,by rw[hv,C2s hk hs],hnv,hs,he⟩
  ·simp only[eval]at he
   split at he
   ·rename_i ht
    exact⟨true,{st with fs:=addFact e true st.fs},by rw[hv,ht],hnv,hs.fact ht,he⟩
   ·rename_i ht
    have ht':(den ρ e).toBool=false:=by simpa using ht
    exact⟨false,{st with fs:=addFact e false st.fs},by rw[hv,ht'],hnv,hs.fact ht',he⟩
 ·cases he
theorem E3x(hF:A5j X.G X.P Fs){inl:List (Nat × Hint)→Nat→List SV→St→Nat→(SV→St→Nat→T)→T}(hI:∀hs,D2v X Fs fuel (inl hs))(hints:List (Nat × Hint)):∀(c:Code) {st:St} {lv:Nat} {K:Ex→St→Nat→T} {L:List Fn} {ρ:List D} {r:List D} {Q:Exit→Act→World→Prop} {Ft:Fr} {β:Nat→Value} {a:Act} {w:World},
  eval Fs fuel (exec X.P inl X.nt hints c st lv K) L ρ=some r→st.nv=ρ.length→lv=L.length→Sat X ρ st Ft β a w→
  (∀(e:Ex) (st':St) (lv':Nat) (ext:List D) (Lx:List Fn) (Ft':Fr) (β':Nat→Value) (a':Act) (w':World),st'.nv=(ρ++ext).length→lv'=(L++Lx).length→Sat X (ρ++ext) st' Ft' β' a' w'→
   eval Fs fuel (K e st' lv') (L++Lx) (ρ++ext)=some r→Q e.out a' w')→c.wp X.P Q a w:=by
 intro c
 induction c with
 |skip=>
  intro st lv K L ρ r Q Ft β a w he hnv hlv hs HK
  exact wp_skip (HK .normal st lv [] [] Ft β a w (by simpa using hnv) (by simpa using hlv) (by simpa using hs) (by simpa[exec]using he))
 |ret=>
  intro st lv K L ρ r Q Ft β a w he hnv hlv hs HK
  exact wp_ret (HK .ret st lv [] [] Ft β a w (by simpa using hnv) (by simpa using hlv) (by simpa using hs) (by simpa[exec]using he))
 |exit id=>
  intro st lv K L ρ r Q Ft β a w he hnv hlv hs HK
  exact wp_exit (HK (.exit id) st lv [] [] Ft β a w (by simpa using hnv) (by simpa using hlv) (by simpa using hs) (by simpa[exec]using he))
 |seq x y ihx ihy=>
  intro st lv K L ρ r Q Ft β a w he hnv hlv hs HK
  simp only[exec]at he
  split at he
  ·refine wp_seq (ihx he hnv hlv hs ?_)
   intro e st' lv' ext Lx Ft' β' a' w' q1 q2 q3 q4
   cases e with
   |normal=>simp only[eval]at q4;cases q4
   |exit i=>exact HK _ st' lv' ext Lx Ft' β' a' w' q1 q2 q3 q4
   |ret=>exact HK _ st' lv' ext Lx Ft' β' a' w' q1 q2 q3 q4
  ·rename_i h1 h2 h3 h4 h5 h6 h8 hh
   obtain⟨st,β,hnv,hs,he⟩:=E2w he hnv hs
   rw[A5s,A2j]at he
   split at he
   ·rename_i hc
    obtain⟨hk,hfe⟩:=hc
    generalize hsj:G6z ⟨h1,h2,h3,h4,h5,h6,1,h8⟩ st=sj at he hk hfe
    simp only[eval]at he
    have hfs':∀e b,(e,b) ∈ sj.fs→(den ρ e).toBool=b:=fun e b hm=>hs.fs e b (by rw[←hfe];exact hm)
    refine wp_seq (ihx he hnv (by simp[hlv]) hs ?_)
    intro e st' lv' ext Lx Ft' β' a' w' q1 q2 q3 q4
    cases e with
    |normal=>
     simp only at q4
     split at q4
     ·rename_i es hag
      simp only[eval]at q4
      obtain⟨k1,k2⟩:=C7o hag hnv.symm hfs' q3
      have hLl:(L++[fun xs=>eval Fs fuel (exec X.P inl X.nt hints y sj lv K) L (ρ++xs)]++Lx)[lv]?=some (fun xs=>eval Fs fuel (exec X.P inl X.nt hints y sj lv K) L (ρ++xs)):=by
       rw[hlv,a5,a6 (bO _)]
       simp
      rw[hLl]at q4
      simp only at q4
      refine ihy q4 (by rw[hk,aP,List.length_map,k1,hnv]) hlv k2 ?_
      intro e' st'' lv'' ext' Lx' Ft'' β'' a'' w'' z1 z2 z3 z4
      rw[a5]at z1 z3 z4
      exact HK e' st'' lv'' _ Lx' Ft'' β'' a'' w'' z1 z2 z3 z4
     ·cases q4
    |exit i=>
     rw[a5]at q2 q4
     exact HK _ st' lv' ext _ Ft' β' a' w' q1 q2 q3 q4
    |ret=>
     rw[a5]at q2 q4
     exact HK _ st' lv' ext _ Ft' β' a' w' q1 q2 q3 q4
   ·cases he
  ·refine wp_seq (ihx he hnv hlv hs ?_)
   intro e st' lv' ext Lx Ft' β' a' w' q1 q2 q3 q4
   cases e with
   |normal=>
    refine ihy q4 q1 q2 q3 ?_
    intro e' st'' lv'' ext' Lx' Ft'' β'' a'' w'' z1 z2 z3 z4
    rw[a5]at z1 z3 z4
    rw[a5]at z2 z4
    exact HK e' st'' lv'' (ext++ext') (Lx++Lx') Ft'' β'' a'' w'' z1 z2 z3 z4
   |exit i=>exact HK _ st' lv' ext Lx Ft' β' a' w' q1 q2 q3 q4
   |ret=>exact HK _ st' lv' ext Lx Ft' β' a' w' q1 q2 q3 q4
 |cond x c1 c2 ih1 ih2=>
  intro st lv K L ρ r Q Ft β a w he hnv hlv hs HK
  simp only[exec]at he
  obtain⟨b,st',hb,hnv',hs',he'⟩:=G9g he hnv hs
  refine wp_cond hb ?_
  cases b
  ·exact ih2 he' hnv' hlv hs' HK
  ·exact ih1 he' hnv' hlv hs' HK
 |block id c ih=>
  intro st lv K L ρ r Q Ft β a w he hnv hlv hs HK
  refine wp_block (ih he hnv hlv hs ?_)
  intro e st' lv' ext Lx Ft' β' a' w' q1 q2 q3 q4
  cases e with
  |normal=>exact HK .normal st' lv' ext Lx Ft' β' a' w' q1 q2 q3 q4
  |ret=>exact HK .ret st' lv' ext Lx Ft' β' a' w' q1 q2 q3 q4
  |exit i=>
   simp only[Ex.out,Exit.inBlock]
   by_cases hi:i=id
   ·simp only[hi,Q5]at q4⊢
    exact HK .normal st' lv' ext Lx Ft' β' a' w' q1 q2 q3 q4
   ·simp only[hi,Q4]at q4⊢
    exact HK (.exit i) st' lv' ext Lx Ft' β' a' w' q1 q2 q3 q4
 |loop c ih=>
  intro st lv K L ρ r Q Ft β a w he hnv hlv hs HK
  simp only[exec]at he
  split at he
  ·rename_i h hh
   split at he
   ·
    refine wp_loop_rounds (h.gen.headD 0) ?_
    have key:∀(n:Nat) {st:St} {lv:Nat} {L:List Fn} {ρ:List D} {Ft:Fr} {β:Nat→Value} {a:Act} {w:World},eval Fs fuel (E4t (exec X.P inl X.nt hints c) n st lv K) L ρ=some r→st.nv=ρ.length→lv=L.length→Sat X ρ st Ft β a w→
      (∀(e:Ex) (st':St) (lv':Nat) (ext:List D) (Lx:List Fn) (Ft':Fr) (β':Nat→Value) (a':Act) (w':World),st'.nv=(ρ++ext).length→lv'=(L++Lx).length→Sat X (ρ++ext) st' Ft' β' a' w'→
       eval Fs fuel (K e st' lv') (L++Lx) (ρ++ext)=some r→Q e.out a' w')→Code.rounds X.P c Q n a w:=by
     intro n
     induction n with
     |zero=>intro st lv L ρ Ft β a w he;cases he
     |succ n ihn=>
      intro st lv L ρ Ft β a w he hnv hlv hs HK
      simp only[E4t]at he
      rw[rounds_succ]
      refine ih he hnv hlv hs ?_
      intro e st' lv' ext Lx Ft' β' a' w' q1 q2 q3 q4
      cases e with
      |normal=>
       simp only[Ex.out,Exit.then]
       refine ihn q4 q1 q2 q3 ?_
       intro e2 st2 lv2 ext2 Lx2 Ft2 β2 a2 w2 p1 p2 p3 p4
       rw[a5]at p1 p3 p4
       rw[a5]at p2 p4
       exact HK e2 st2 lv2 (ext++ext2) (Lx++Lx2) Ft2 β2 a2 w2 p1 p2 p3 p4
      |exit i=>exact HK (.exit i) st' lv' ext Lx Ft' β' a' w' q1 q2 q3 q4
      |ret=>exact HK .ret st' lv' ext Lx Ft' β' a' w' q1 q2 q3 q4
    exact key _ he hnv hlv hs HK
   obtain⟨st,β,hnv,hs,he⟩:=E2w he hnv hs
   split at he
   ·rename_i es hag
    split at he
    ·rename_i hc
     obtain⟨hes,hsc,hnv'⟩:=hc
     simp only[eval]at he
     have hfs:(A6u h st).1.fs=st.fs:=rfl
     have hfs':∀e b,(e,b) ∈ (A6u h st).1.fs→(den ρ e).toBool=b:=fun e b hm=>hs.fs e b (by rw[←hfs];exact hm)
     refine F5x (fun n a w=>∃xs Ft β,xs.length=(A6u h st).2.length∧Sat X (ρ++xs) (A6u h st).1 Ft β a w∧A6j (fun g xs=>eval Fs fuel (exec X.P inl X.nt hints c (A6u h st).1 (lv+1) fun e st'' lv'=>match e with
      |.normal=>B8s st'' (fzT (A6u h st).1 st'') fun st''=>match C6i st.nv (A6u h st).2.length (A6u h st).1 st'' with
       |some es=>.again lv es
       |none=>.fail 22
      |e=>K e st'' lv') (L++[g]) (ρ++xs)) n xs=some r) ⟨fuel,?_⟩ ?_ ?_
     ·have hs0:Sat X (ρ++[]) st Ft β a w:=by simpa using hs
      obtain⟨k1,k2⟩:=C7o hag hnv.symm hfs' hs0
      rw[aH]at k2
      subst hes
      exact⟨_,Ft,β,by simp,k2,he⟩
     ·rintro a w ⟨xs,Ft,β,_,_,hl⟩
      simp[A6j]at hl
     ·rintro n a w ⟨xs,Ft,β,hlen,hsx,hl⟩
      simp only[A6j]at hl
      refine ih hl (by rw[hnv',aP,hlen,hnv]) (by simp[hlv]) hsx ?_
      intro e st'' lv' ext Lx Ft' β' a' w' q1 q2 q3 q4
      cases e with
      |normal=>
       simp only[Ex.out,Exit.then]
       simp only at q4
       obtain⟨st2,Ft2,q1,q3,q4⟩:=A9y q4 q1 q3
       split at q4
       ·rename_i es' hag'
        simp only[eval]at q4
        rw[a5]at q3
        obtain⟨k1,k2⟩:=C7o hag' hnv.symm hfs' q3
        have hLl:(L++[A6j (fun g xs=>eval Fs fuel (exec X.P inl X.nt hints c (A6u h st).1 (lv+1) fun e st'' lv'=>match e with
         |.normal=>B8s st'' (fzT (A6u h st).1 st'') fun st''=>match C6i st.nv (A6u h st).2.length (A6u h st).1 st'' with
          |some es=>.again lv es
          |none=>.fail 22
         |e=>K e st'' lv') (L++[g]) (ρ++xs)) n]++Lx)[lv]?=some (A6j (fun g xs=>eval Fs fuel (exec X.P inl X.nt hints c (A6u h st).1 (lv+1) fun e st'' lv'=>match e with
         |.normal=>B8s st'' (fzT (A6u h st).1 st'') fun st''=>match C6i st.nv (A6u h st).2.length (A6u h st).1 st'' with
          |some es=>.again lv es
          |none=>.fail 22
         |e=>K e st'' lv') (L++[g]) (ρ++xs)) n):=by
         rw[hlv,a5,a6 (bO _)]
         simp
        rw[hLl]at q4
        simp only[a5]at q4
        exact⟨_,Ft2,β',by simp[k1],k2,q4⟩
       ·cases q4
      |exit i=>
       rw[a5]at q1 q3 q4
       rw[a5]at q2 q4
       exact HK (.exit i) st'' lv' (xs++ext) ([_]++Lx) Ft' β' a' w' q1 q2 q3 q4
      |ret=>
       rw[a5]at q1 q3 q4
       rw[a5]at q2 q4
       exact HK .ret st'' lv' (xs++ext) ([_]++Lx) Ft' β' a' w' q1 q2 q3 q4
    ·cases he
   ·cases he
  ·cases he
 |region id ops draw=>
  intro st lv K L ρ r Q Ft β a w he hnv hlv hs HK
  simp only[exec]at he
  split at he
  ·rename_i hd
   subst hd
   split at he
   ·refine F4z hF he hnv hlv hs ?_
    intro st' ext Ft' β' a' w' q1 q2 q3
    exact HK .normal st' lv ext [] Ft' β' a' w' q1 (by simpa using hlv) q2 (by simpa using q3)
   ·refine F0m hF he hnv hs ?_
    intro st' ext Ft' β' a' w' q1 q2 q3
    exact HK .normal st' lv ext [] Ft' β' a' w' q1 (by simpa using hlv) q2 (by simpa using q3)
  ·rename_i hd
   have hd':draw=false:=by simpa using hd
   subst hd'
   split at he
   ·rename_i l _
    refine C4n hF he hnv hs ?_
    intro st' ext Ft' β' a' w' q1 q2 q3
    simp only[A5s]at q3
    obtain⟨p1,F2,p2⟩:=q2.pzs l
    exact HK .normal _ lv ext [] F2 β' a' w' (p1.trans q1) (by simpa using hlv) p2 (by simpa using q3)
   split at he
   ·rename_i l _
    refine F8m hF he hnv hs ?_
    intro st' ext Ft' β' a' w' q1 q2 q3
    exact HK .normal st' lv ext [] Ft' β' a' w' q1 (by simpa using hlv) q2 (by simpa using q3)
   split at he
   ·rename_i l _
    refine C4n hF he hnv hs ?_
    intro st' ext Ft' β' a' w' q1 q2 q3
    simp only[A5s]at q3
    obtain⟨p1,F2,p2⟩:=q2.E7b l
    exact HK .normal _ lv ext [] F2 β' a' w' (p1.trans q1) (by simpa using hlv) p2 (by simpa using q3)
   split at he
   ·exact E9y hF (hI hints) he hnv hlv hs fun st' lv' ext Lx Ft' β' a' w' q1 q2 q3 q4=>HK .normal st' lv' ext Lx Ft' β' a' w' q1 q2 q3 q4
   ·refine C4n hF he hnv hs ?_
    intro st' ext Ft' β' a' w' q1 q2 q3
    exact HK .normal st' lv ext [] Ft' β' a' w' q1 (by simpa using hlv) q2 (by simpa using q3)
 |_=>
  intros
  rename_i he _ _ _ _
  simp[exec,eval]at he
theorem C5e(hF:A5j X.G X.P Fs):∀(d:Nat) (hints:List (Nat × Hint)),H0y X Fs fuel fun nt=>C5y X.P d nt hints
 |0,hints=>fun nt hv dq c st lv K L ρ r Q Ft β a w he hnv hlv hs HK=>E3x (X:={X with nt:=nt,hv:=hv,dq:=dq}) (fuel:=fuel) hF (fun _=>D2v.none) hints c he hnv hlv hs HK
 |d+1,hints=>fun nt hv dq c st lv K L ρ r Q Ft β a w he hnv hlv hs HK=>E3x (X:={X with nt:=nt,hv:=hv,dq:=dq}) (fuel:=fuel) hF (inl:=fun hs f=>D0f X.P (fun nt'=>C5y X.P d nt' (hof hs f)) f)
   (fun hs=>fun nt1 hv1 dq1 f vs us st lv K L ρ r Ft β a w next h0 h1 h2 h3 h4 h5 h6=>F7s (X:=X) (C5e hF d (hof hs f)) nt1 hv1 dq1 h0 h1 h2 h3 h4 h5 h6) hints c he hnv hlv hs HK
end
end Go.Proofs.YtckanieeocdpbaaGreat.Eng
namespace Go.Proofs.YtckanieeocdpbaaGreat.Eng
open Go.RowKit
set_option linter.unusedVariables false
set_option linter.unusedSimpArgs false
def E3j:List Sh→Nat→Nat→List (Nat × SV)
 |[],_,_=>[]
 |s::l,t,n=>(t,(s.mk n 0).sv)::E3j l (t+1) (n+s.size)
def C4o(cf:Cf)(ps:List Sh)(hm:Nat):St:=
 let n:=A3n ps
 {tm:=E3j ps 0 0,bx:=(A7h ps 0).map fun x=>(0,x),nn:=(A7h ps 0).length,nv:=(match hm with|1=>n+1|2=>n+1|_=>n),fs:=[],ex:=[],cf:=cf,
  hp:=(match hm with|0=>none|1=>some (false,.var n)|2=>some (true,.var n)|_=>some (true,.A4p))}
def A7q(st:St)(hm:Nat):Option (List E):=
 match hm,st.hp with
 |0,some (true,_)=>none
 |1,some (true,_)=>none
 |0,_=>some []
 |1,_=>some []
 |2,some (true,h)=>if st.ex=[]then some [h]else none
 |2,_=>none
 |_,_=>some []
def fin(P:Program)(fn:Func)(rs:List Sh)(hm:Nat)(e:Ex)(st:St)(lv:Nat):T:=
 match e with
 |.exit _=>.fail 30
 |_=>match C7r P st fn.results.toList with
  |some vs0=>B8s st (st.allRows.filter fun m=>!(A2x rs vs0).contains m) fun st=>match C7r P st fn.results.toList with
   |some vs=>match B1a P st rs vs,A7q st hm with
    |some es,some hs=>if(A2x rs vs).length≤1 then .ret (es++hs)else .fail 29
    |_,_=>.fail 31
   |none=>.fail 32
  |none=>.fail 36
def G9n(P:Program)(gs:List (Nat × TypeId × List ByteArray)):Bool:=gs.all fun e=>decide (A0r P e.2.1=some [.str])
theorem E4f{P:Program}:∀{gs:List (Nat × TypeId × List ByteArray)},G9n P gs=true→∀g t l,gs.lookup g=some (t,l)→A0r P t=some [.str]
 |(g',t',l')::gs,h,g,t,l,hl=>by
  simp only[G9n,List.all_cons,bB,Q9]at h
  simp only[a9]at hl
  split at hl
  ·simp only[bG,cM]at hl
   rw[←hl.1];exact h.1
  ·exact E4f (gs:=gs) h.2 g t l hl
def DK:Nat:=LIM+777
def H3u(o:Oper):Bool:=match o.op with|.defer _=>true|_=>false
def G0q:Code→Bool
 |.region _ ops draw=>!draw&&ops.toList.any H3u
 |.seq a b=>G0q a || G0q b
 |_=>false
def F6q(st:St)(o:Oper):Option (Nat × List (Nat × Nat)):=match o.guard,o.dst,o.op with
 |none,none,.defer c=>match c.callee,c.args.toList with
  |.value x,[]=>match opC st x with
   |some (.clo f l)=>some (f,l)
   |_=>none
  |_,_=>none
 |_,_,_=>none
def spine(P:Program)(nt:Nat)(hints:List (Nat × Hint)):Code→St→Nat→(Ex→St→Nat→T)→(Ex→St→Nat→T)→T
 |.seq a b,st,lv,K,Kd=>if G0q a then spine P nt hints a st lv K fun e st lv=>match e with
   |.normal=>C5y P 5 nt hints b st lv Kd
   |e=>Kd e st lv
  else C5y P 5 nt hints a st lv fun e st lv=>match e with
   |.normal=>spine P nt hints b st lv K Kd
   |e=>K e st lv
 |.region _ ops draw,st,lv,_,Kd=>match draw,ops.toList with
  |false,[m,d]=>match E2z hints st m with
   |some c=>if A3a nt m.dst then match F6q (st.upd m.dst (.one c) none) d with
    |some (f,l)=>Kd .normal {st.upd m.dst (.one c) none with tm:=(DK,.one (.clo f l))::(st.upd m.dst (.one c) none).tm} lv
    |none=>.fail 39
    else .fail 39
   |none=>.fail 39
  |_,_=>.fail 39
 |_,_,_,_,_=>.fail 39
def finD(P:Program)(fn:Func)(rs:List Sh)(hm:Nat)(hints:List (Nat × Hint))(e:Ex)(st:St)(lv:Nat):T:=
 match e with
 |.exit _=>.fail 37
 |_=>match st.tm.lookup DK with
  |some (.one (.clo f l))=>D0f P (fun nt'=>C5y P 4 nt' (hof hints f)) f (D2f l) st lv fun _ st' lv'=>fin P fn rs hm .ret st' lv'
  |_=>.fail 38
def D6s(P:Program)(cf:Cf)(hints:List (Nat × Hint))(f:Nat):T:=
 match P.funcs[f]?,B6c P cf f with
 |some fn,some (ps,rs,hm)=>match fn.body with
  |some c=>if ps.length≤fn.ntmps∧(A7h ps 0).length≤1∧G9n P cf.gs=true∧fn.ntmps≤LIM then(if G0q c then spine P fn.ntmps hints c (C4o cf ps hm) 0 (fin P fn rs hm) (finD P fn rs hm hints)else C5y P 5 fn.ntmps hints c (C4o cf ps hm) 0 (fin P fn rs hm))else .fail 33
  |none=>.fail 34
 |_,_=>.fail 35
theorem D3f:∀{ps:List Sh} {t0 n t:Nat} {sv:SV},(E3j ps t0 n).lookup t=some sv→∃c,t0≤t∧(A5x ps n 0)[t-t0]?=some c∧sv=c.sv
 |[],t0,n,t,sv,h=>by cases h
 |s::l,t0,n,t,sv,h=>by
  simp only[E3j]at h
  rw[a9]at h
  split at h
  ·rename_i he
   simp at he h;subst he h
   exact⟨s.mk n 0,bO _,by simp[A5x],rfl⟩
  ·obtain⟨c,h1,h2,h3⟩:=D3f h
   refine⟨c,by omega,?_,h3⟩
   simp only[A5x]
   rw[show t-t0=(t-(t0+1))+1 by omega,aQ]
   exact h2
theorem F4l{st:St}{hm:Nat}{hh:List E}(h:A7q st hm=some hh):(hm=2∧∃e,st.hp=some (true,e)∧st.ex=[]∧hh=[e])∨(hm≠2∧hh=[]∧(hm<2→∀e,st.hp≠some (true,e))):=by
 cases hp:st.hp with
 |none=>
  match hm,h with
  |0,h=>simp only[A7q,hp]at h;cases h;exact .inr ⟨by omega,rfl,fun _ e=>by simp⟩
  |1,h=>simp only[A7q,hp]at h;cases h;exact .inr ⟨by omega,rfl,fun _ e=>by simp⟩
  |2,h=>simp[A7q,hp]at h
  |n+3,h=>simp only[A7q,hp]at h;cases h;exact .inr ⟨by omega,rfl,fun h=>by omega⟩
 |some p=>
  obtain⟨b,e⟩:=p
  cases b with
  |false=>
   match hm,h with
   |0,h=>simp only[A7q,hp]at h;cases h;exact .inr ⟨by omega,rfl,fun _ e=>by simp⟩
   |1,h=>simp only[A7q,hp]at h;cases h;exact .inr ⟨by omega,rfl,fun _ e=>by simp⟩
   |2,h=>simp[A7q,hp]at h
   |n+3,h=>simp only[A7q,hp]at h;cases h;exact .inr ⟨by omega,rfl,fun h=>by omega⟩
  |true=>
   match hm,h with
   |0,h=>simp[A7q,hp]at h
   |1,h=>simp[A7q,hp]at h
   |2,h=>
    simp only[A7q,hp]at h
    split at h
    ·rename_i hex;cases h;exact .inl ⟨rfl,e,rfl,hex,rfl⟩
    ·cases h
   |n+3,h=>simp only[A7q,hp]at h;cases h;exact .inr ⟨by omega,rfl,fun h=>by omega⟩
section
variable{X:Cx}{Fs:Nat→Fn}{fuel:Nat}
theorem F7w{st:St}{o:Oper}{f:Nat}{l:List (Nat × Nat)}(h:F6q st o=some (f,l)){ρ:List D}{Ft:Fr}{β:Nat→Value}{a:Act}{w:World}(hs:Sat X ρ st Ft β a w):
  o.guard=none∧o.dst=none∧∃us:List Value,(execOp a.eval o).run X.P w=.ok (.defer {target:=.fn (.func f) us.toArray,args:=#[]}) w∧RC X.P w Ft ρ β (.clo f l) (.func (.func f) #[] us.toArray):=by
 unfold F6q at h
 split at h
 ·rename_i c hg hd ho
  split at h
  ·rename_i x hcl hargs
   split at h
   ·rename_i f' l' hx
    simp only[bG,cM]at h
    obtain⟨rfl,rfl⟩:=h
    have hr:=A0g hs hx
    obtain⟨us,e1,e2,e3⟩:=hr
    refine⟨hg,hd,us,?_,⟨us,rfl,e2,e3⟩⟩
    have ea:c.args=#[]:=by rw[←c8];exact hargs
    simp only[execOp,ho,resolve,hcl,e1,Deferred.ofValue,bL,bN,c5,ea]
    simp
   ·cases h
  ·cases h
 ·cases h
theorem F8g(hF:A5j X.G X.P Fs)(hints:List (Nat × Hint)){r:List D}(hdq:X.dq=[]):∀(c:Code) {Q:Exit→Act→World→Prop} {st:St} {lv:Nat} {K Kd:Ex→St→Nat→T} {L:List Fn} {ρ:List D} {Ft:Fr} {β:Nat→Value} {a:Act} {w:World},
  eval Fs fuel (spine X.P X.nt hints c st lv K Kd) L ρ=some r→st.nv=ρ.length→lv=L.length→Sat X ρ st Ft β a w→
  (∀(e:Ex) (st':St) (lv':Nat) (ext:List D) (Lx:List Fn) (Ft':Fr) (β':Nat→Value) (a':Act) (w':World),e≠.normal→st'.nv=(ρ++ext).length→lv'=(L++Lx).length→Sat X (ρ++ext) st' Ft' β' a' w'→
   eval Fs fuel (K e st' lv') (L++Lx) (ρ++ext)=some r→Q e.out a' w')→
  (∀(hv':Nat→Option Value) (f:Nat) (us:List Value) (e:Ex) (st':St) (lv':Nat) (ext:List D) (Lx:List Fn) (Ft':Fr) (β':Nat→Value) (a':Act) (w':World),hv' DK=some (.func (.func f) #[] us.toArray)→st'.nv=(ρ++ext).length→lv'=(L++Lx).length→
   Sat {X with hv:=hv',dq:=[{target:=.fn (.func f) us.toArray,args:=#[]}]} (ρ++ext) st' Ft' β' a' w'→
   eval Fs fuel (Kd e st' lv') (L++Lx) (ρ++ext)=some r→Q e.out a' w')→c.wp X.P Q a w:=by
 intro c
 induction c with
 |seq x y ihx ihy=>
  intro Q st lv K Kd L ρ Ft β a w he hnv hlv hs HK HD
  simp only[spine]at he
  refine wp_seq ?_
  split at he
  ·refine ihx he hnv hlv hs ?_ ?_
   ·intro e st' lv' ext Lx Ft' β' a' w' q0 q1 q2 q3 q4
    cases e with
    |normal=>exact absurd rfl q0
    |exit i=>exact HK (.exit i) st' lv' ext Lx Ft' β' a' w' q0 q1 q2 q3 q4
    |ret=>exact HK .ret st' lv' ext Lx Ft' β' a' w' q0 q1 q2 q3 q4
   ·intro hv' f us e st' lv' ext Lx Ft' β' a' w' q0 q1 q2 q3 q4
    cases e with
    |normal=>
     refine C5e (X:=X) hF 5 hints X.nt hv' _ y q4 q1 q2 q3 ?_
     intro e2 st2 lv2 ext2 Lx2 Ft2 β2 a2 w2 z1 z2 z3 z4
     rw[a5]at z1 z3 z4
     rw[a5]at z2 z4
     exact HD hv' f us e2 st2 lv2 (ext++ext2) (Lx++Lx2) Ft2 β2 a2 w2 q0 z1 z2 z3 z4
    |exit i=>exact HD hv' f us (.exit i) st' lv' ext Lx Ft' β' a' w' q0 q1 q2 q3 q4
    |ret=>exact HD hv' f us .ret st' lv' ext Lx Ft' β' a' w' q0 q1 q2 q3 q4
  ·refine C5e (X:=X) hF 5 hints X.nt X.hv X.dq x he hnv hlv hs ?_
   intro e st' lv' ext Lx Ft' β' a' w' q1 q2 q3 q4
   cases e with
   |normal=>
    refine ihy q4 q1 q2 q3 ?_ ?_
    ·intro e2 st2 lv2 ext2 Lx2 Ft2 β2 a2 w2 z0 z1 z2 z3 z4
     rw[a5]at z1 z3 z4
     rw[a5]at z2 z4
     exact HK e2 st2 lv2 (ext++ext2) (Lx++Lx2) Ft2 β2 a2 w2 z0 z1 z2 z3 z4
    ·intro hv' f us e2 st2 lv2 ext2 Lx2 Ft2 β2 a2 w2 q0 z1 z2 z3 z4
     rw[a5]at z1 z3 z4
     rw[a5]at z2 z4
     exact HD hv' f us e2 st2 lv2 (ext++ext2) (Lx++Lx2) Ft2 β2 a2 w2 q0 z1 z2 z3 z4
   |exit i=>exact HK (.exit i) st' lv' ext Lx Ft' β' a' w' (by simp) q1 q2 q3 q4
   |ret=>exact HK .ret st' lv' ext Lx Ft' β' a' w' (by simp) q1 q2 q3 q4
 |region id ops draw=>
  intro Q st lv K Kd L ρ Ft β a w he hnv hlv hs HK HD
  simp only[spine]at he
  split at he
  ·rename_i m d hops
   split at he
   ·rename_i cc hmk
    split at he
    ·rename_i hd
     split at he
     ·rename_i f l hdc
      refine wp_region ?_
      have h2:ops=#[m,d]:=by rw[←c8];exact hops
      subst h2
      obtain⟨hg,v,hrun,hrc⟩:=D9e hmk hs
      have hs1:=Sat.put hs hd (sv:=.one cc) hrc
      obtain⟨hg2,hdd,us,hrun2,hrc2⟩:=F7w hdc hs1
      show wpOps X.P #[m,d] Q [0,1] a w
      simp only[wpOps,List.getElem?_toArray,List.getElem?_cons_zero,aQ]
      have hw:bH m (yielded #[m,d] a.tmps)=true:=by unfold bH;rw[hg]
      rw[Q3 hw]
      refine .inl ?_
      unfold cG
      rw[hrun]
      simp only[cF]
      have hw2:bH d (yielded #[m,d] (a.put m.dst v).tmps)=true:=by unfold bH;rw[hg2]
      rw[Q3 hw2]
      refine .inl ?_
      rw[hrun2]
      simp only[cF,hdd]
      have hdf:(a.put m.dst v).defers=[]:=by rw[hs1.df,hdq]
      rw[hdf]
      refine HD (fun t=>if t=DK then some (.func (.func f) #[] us.toArray)else X.hv t) f us .normal {st.upd m.dst (.one cc) none with tm:=(DK,.one (.clo f l))::(st.upd m.dst (.one cc) none).tm} lv [] [] Ft β _ w (Q3 rfl) (by rw[aH];exact hnv) (by rw[aH];exact hlv) ?_ (by rw[aH,aH];exact he)
      rw[aH]
      refine⟨rfl,hs1.sz,hs1.ft,?_,hs1.bx,hs1.inj,hs1.own,hs1.chg,hs1.fs,hs1.on,hs1.f0,⟨hs1.gx.nl,hs1.gx.ok,hs1.gx.f0,hs1.gx.gt⟩,hs1.cf,⟨hs1.hg.hp,hs1.hg.gm⟩,hs1.fw⟩
      intro t sv ht
      have hlim:¬DK<LIM:=by unfold DK;omega
      simp only[a9]at ht
      split at ht
      ·rename_i hk
       simp at hk ht
       subst hk ht
       refine⟨_,?_,hrc2⟩
       unfold Cx.val
       rw[Q0 hlim]
       show(if DK=DK then some (Value.func (.func f) #[] us.toArray)else X.hv DK)=_
       rw[Q3 rfl]
      ·rename_i hk
       have hk':t≠DK:=by simpa using hk
       obtain⟨u,y1,y2⟩:=hs1.tm _ _ ht
       refine⟨u,?_,y2⟩
       unfold Cx.val at y1⊢
       split at y1
       ·rename_i hlt;rw[Q3 hlt];exact y1
       ·rename_i hlt
        rw[Q0 hlt]
        show(if t=DK then some (Value.func (.func f) #[] us.toArray)else X.hv t)=_
        rw[Q0 hk'];exact y1
     ·cases he
    ·cases he
   ·cases he
  ·cases he
 |_=>
  intros
  rename_i he _ _ _ _ _
  simp[spine,eval]at he
end
theorem G9m{G:Gl}{P:Program}{Fs:Nat→Fn}(hF:A5j G P Fs)(hints:List (Nat × Hint))(f:Nat){ps rs:List Sh}{hm:Nat}(hsig:B6c P G.cf f=some (ps,rs,hm)){fuel:Nat}{ds r:List D}(h:eval Fs fuel (D6s P G.cf hints f) [] ds=some r):Ok1 G P f ps rs hm ds r:=by
 obtain⟨fn,rs',hfn,hbody,hname,hps,hrs,hrse,hhm⟩:=D1t hsig
 intro w F vs φ d0 hd hds hin hargs
 unfold D6s at h
 simp only[hfn,hsig]at h
 split at h
 ·rename_i c hc
  split at h
  ·rename_i hcond
   obtain⟨hsz,hrow1,hgw,hlim⟩:=hcond
   have hgetD:∀(i:Nat) (d:D),d0[i]?=some d→ds.getD (0+i) .nil=d:=fun i d hi=>by
    rw[hds,a0,bW,a8 (a7.1 hi).1,hi];rfl
   have hrowp:∃β0:Nat→Value,(∀n,(β0 n).oneCell'=true)∧(∀(i:Nat) (e:TypeId) (u:Value),ps[i]?=some (.row e)→vs[i]?=some u→u=β0 0)∧∀n x,((A7h ps 0).map fun x=>((0:Nat),x)).lookup n=some x→n=0∧A1b P w F ds β0 x (β0 0)∧∀k,x.bk (β0 0)=some k→k ∈ A3g ps vs:=by
    rcases B3c (P:=P) (w:=w) (F:=F) (ρ:=ds) (β:=fun _=>.pointer none) (n:=0) hargs hgetD hrow1 with⟨e1,e2,e3⟩|⟨e,k,u,e1,e2,e3,e4,e5,e6⟩
    ·exact⟨fun _=>.pointer none,(fun n=>rfl),(fun i e u h=>absurd h (e3 i e)),fun n x h=>by rw[e1]at h;cases h⟩
    ·refine⟨fun _=>u,(fun n=>e5),e6,fun n x h=>?_⟩
     rw[e1]at h
     simp only[aM,aX,a9]at h
     split at h
     ·rename_i hn
      simp at hn h
      subst hn h
      exact⟨rfl,e3.beta (fun t cs h=>by cases h),fun k' hk'=>by rw[e4];rw[Box.A9s]at hk';rw[hk'];simp⟩
     ·cases h
   obtain⟨β0,hβ1,hβ2,hbx⟩:=hrowp
   obtain⟨l1,l2,q⟩:=B2x (ρ:=ds) (β:=β0) (nn:=0) (n:=0) hargs hgetD hβ2
   have hvs:vs.length≤fn.ntmps:=by
    rw[←l2]
    have:(A5x ps 0 0).length=ps.length:=by
     have:∀(l:List Sh) (n:Nat),(A5x l n 0).length=l.length:=by
      intro l
      induction l with
      |nil=>intro n;rfl
      |cons s l ih=>intro n;simp[A5x,ih]
     exact this ps 0
    rw[this]
    exact hsz
   let X:Cx:={P:=P,S:=may F φ hm (A3g ps vs),w0:=w,nt:=fn.ntmps,F0:=F,G:=G,hv:=fun _=>none}
   have hlend:ds.length=(C4o G.cf ps hm).nv:=by
    rw[hds,aP,l1]
    unfold C4o
    simp only
    split
    ·obtain⟨h,e,_⟩:=hin.h12 (.inl rfl);rw[e];rfl
    ·obtain⟨h,e,_⟩:=hin.h12 (.inr rfl);rw[e];rfl
    ·rename_i h1 h2
     rcases bQ hm 3 with h3|h3
     ·have h1':hm≠1:=h1
      have h2':hm≠2:=h2
      have:hm=0:=by omega
      rw[hin.h0 this];rfl
     ·rw[(hin.h3 h3).1];rfl
   have hS:∀b,b ∈ X.S→(hm=2∧∃n,b ∈ φ n)∨b ∈ A3g ps vs:=by
    intro b hb
    rcases C3s.1 hb with⟨h2,hb⟩|hb
    ·obtain⟨_,_,z⟩:=hin.h12 (.inr h2)
     exact .inl ⟨h2,(E1m z.out).1 hb⟩
    ·exact .inr hb
   have hbxk:∀n x k,(C4o G.cf ps hm).bx.lookup n=some x→x.bk (β0 n)=some k→n=0∧k ∈ A3g ps vs:=fun n x k hx hk=>by
    obtain⟨rfl,_,h3⟩:=hbx n x hx
    exact⟨rfl,h3 k hk⟩
   have hs:Sat X ds (C4o G.cf ps hm) F β0 {tmps:=vs.toArray++c7 (fn.ntmps-vs.toArray.size) undef,defers:=[]} w:=by
    refine⟨rfl,by show(vs.toArray++c7 _ undef).size=fn.ntmps;simp;omega,fun b hb=>⟨hin.f b hb,fun n x hx hk=>(hin.r b (hbxk n x b hx hk).2).2.1 hb⟩,?_,(fun n x hx=>by obtain⟨rfl,h2,_⟩:=hbx n x hx;exact h2),(fun n m x y k hx hy h1 h2=>by rw[(hbxk n x k hx h1).1,(hbxk m y k hy h2).1]),(fun n x k hx hk=>⟨(hin.r k (hbxk n x k hx hk).2).1,.inl (C3s.2 (.inr (hbxk n x k hx hk).2))⟩),H2k _ _,(fun e b hm=>by cases hm),hβ1,fun b hb=>.inl hb,⟨hlim,hin.ok,(fun b hb=>⟨hin.f b hb,fun hbS=>?_⟩),E4f hgw⟩,⟨rfl,hin.hc⟩,⟨?_,fun n b t hn=>⟨(hin.g n b t hn).1,(hin.g n b t hn).2,fun j x hx hk=>(hin.r b (hbxk j x b hx hk).2).2.2.2 n b t hn rfl⟩⟩,⟨fun b hb=>hb,List.prefix_refl _,rfl,fun _=>rfl⟩⟩
    ·intro t sv ht
     obtain⟨c,h1,h2,rfl⟩:=D3f ht
     have hlt:t<vs.length:=by
      rw[←l2]
      have:=(a7.1 h2).1
      omega
     have hv:vs[t]?=some vs[t]:=a4 hlt
     refine⟨vs[t],?_,?_⟩
     ·rw[Cx.E4h (bT hlt (bV hvs hlim))]
      simp[cD,hlt]
     ·have:=q t c vs[t] (by simpa using h2) hv
      cases c<;>exact this
    ·rcases hS b hbS with⟨h2,n,hn⟩|hr
     ·obtain⟨_,_,z⟩:=hin.h12 (.inr h2)
      exact(z.far n b hn).2 hb
     ·exact(hin.r b hr).2.1 hb
    ·intro m e he
     unfold C4o at he
     simp only at he
     have hvar:∀h,hd=[h]→den ds (.var (A3n ps))=h:=by
      intro h hh
      simp only[den,hds,hh,a0]
      rw[a6 (by omega),l1,bS];rfl
     split at he
     ·cases he
     ·cases he
      obtain⟨h,e1,z⟩:=hin.h12 (.inl rfl)
      exact⟨φ,by rw[hvar h e1];exact z,fun n k hk=>⟨(fun h=>by cases h),fun j x hx hk'=>(hin.r k (hbxk j x k hx hk').2).2.2.1 n hk⟩⟩
     ·cases he
      obtain⟨h,e1,z⟩:=hin.h12 (.inr rfl)
      exact⟨φ,by rw[hvar h e1];exact z,fun n k hk=>⟨fun _=>.inl (C3s.2 (.inl ⟨rfl,(E1m z.out).2 ⟨n,hk⟩⟩)),fun j x hx hk'=>(hin.r k (hbxk j x k hx hk').2).2.2.1 n hk⟩⟩
     ·rename_i h0 h1 h2
      cases he
      have h3:3≤hm:=by
       rcases bQ hm 3 with h3|h3
       ·exfalso
        rcases bQ hm 1 with h4|h4
        ·exact h0 (by omega)
        ·rcases bQ hm 2 with h5|h5
         ·exact h1 (by omega)
         ·exact h2 (by omega)
       ·exact h3
      have hγ:=(hin.h3 h3).2
      exact⟨fun _=>[],⟨by rw[hγ];rfl,(fun n b t hn=>by rw[hγ]at hn;simp at hn),(fun n m k h=>by simp at h),(fun n k h=>by simp at h),fun n _=>rfl⟩,fun n k h=>by simp at h⟩
   have hend:∀{hv':Nat→Option Value} {dq':List Deferred} {st':St} {ext:List D} {Lx:List Fn} {Ft':Fr} {β':Nat→Value} {a':Act} {w':World},st'.nv=(ds++ext).length→Sat {X with hv:=hv',dq:=dq'} (ds++ext) st' Ft' β' a' w'→eval Fs fuel (match C7r P st' fn.results.toList with
     |some vs0=>B8s st' (st'.allRows.filter fun m=>!(A2x rs vs0).contains m) fun st=>match C7r P st fn.results.toList with
      |some vs=>match B1a P st rs vs,A7q st hm with
       |some es,some hs=>if(A2x rs vs).length≤1 then .ret (es++hs)else .fail 29
       |_,_=>.fail 31
      |none=>.fail 32
     |none=>.fail 36) ([]++Lx) (ds++ext)=some r→
     ∃v,(results fn a'.tmps).run P w'=.ok v w'∧∃v' F' φ',cO v=.returned v'∧B4k G P w F hm φ (A3g ps vs) rs r v' w' F' φ':=by
    intro hv' dq' st' ext Lx Ft' β' a' w' q1 q3 he
    split at he
    ·obtain⟨st2,Ft2,q1,q3,he⟩:=A9y he q1 q3
     split at he
     ·rename_i svs hfin
      split at he
      ·rename_i es hh hes hhs
       split at he
       ·rename_i hle
        simp only[eval,bG]at he
        obtain⟨us,z1,z2,z4,z3⟩:=D0m q3 hfin
        obtain⟨m1,m2,m3,m4⟩:=B4i q3 hes z2 z3
        skip
        have hrun:(results fn a'.tmps).run P w'=.ok (if h:us.toArray.size=1 then us.toArray[0]else .tuple us.toArray) w':=by
         unfold results
         rw[cA]
         simp only[map_eq_pure_bind,bL,bN,bind_assoc,pure_bind]
         exact congrArg (fun r=>c4 r fun(a:List Value) w'=>c6 (if h:a.toArray.size=1 then a.toArray[0]else Value.tuple a.toArray) w') z1
        have hparts:Value.parts rs (if h:us.toArray.size=1 then us.toArray[0]else .tuple us.toArray)=us:=by
         unfold Value.parts
         split
         ·rename_i s
          obtain⟨u,rfl⟩:=aD.1 m1.symm
          simp
         ·rename_i hne
          have h1:¬us.toArray.size=1:=by
           intro h1
           have h1':us.length=1:=by simpa using h1
           obtain⟨s,rfl⟩:=aD.1 (m1.trans h1')
           exact hne s rfl
          rw[dif_neg h1]
        have hresv:Res P w' Ft2 rs (es.map (den (ds++ext))) (if h:us.toArray.size=1 then us.toArray[0]else .tuple us.toArray):=by
         unfold Res
         split
         ·rename_i s
          obtain⟨u,rfl⟩:=aD.1 m1.symm
          simpa using m2
         ·rename_i hne
          have h1:¬us.toArray.size=1:=by
           intro h1
           have h1':us.length=1:=by simpa using h1
           obtain⟨s,rfl⟩:=aD.1 (m1.trans h1')
           exact hne s rfl
          rw[dif_neg h1]
          exact⟨us,rfl,m2⟩
        have hle':Le w F w' Ft2:=⟨fun b hb=>⟨q3.fw.1 b hb,q3.chg.block b (hin.f b hb) (q3.gx.f0 b hb).2⟩,q3.fw.2.1,q3.fw.2.2.1⟩
        have hheap:∃φ',(hm=2→∃h,hh.map (den (ds++ext))=[h]∧B0j P w' Ft2 G.cf.ob h [] φ'∧∀n k,k ∈ φ' n→(k ∈ X.S∨w.heap.size≤k)∧∀j x,st2.bx.lookup j=some x→x.bk (β' j)≠some k)∧(hm≠2→hh=[])∧(hm<2→Ft2.γ=F.γ):=by
         rcases F4l hhs with⟨h2,e',hp,hex,rfl⟩|⟨h2,rfl,hno⟩
         ·obtain⟨φ',y1,y2⟩:=q3.hg.hp _ _ hp
          rw[hex,q3.cf.1]at y1
          exact⟨φ',fun _=>⟨_,rfl,y1,fun n k hk=>⟨(y2 n k hk).1 rfl,(y2 n k hk).2⟩⟩,(fun h=>absurd h2 h),fun h=>by omega⟩
         ·exact⟨fun _=>[],(fun h=>absurd h h2),fun _=>rfl,fun h=>q3.fw.2.2.2 (hno h)⟩
        obtain⟨φ',hh2,hhn,hγ⟩:=hheap
        refine⟨_,hrun,_,Ft2,φ',rfl,q3.chg,hle',hγ,fun b hb=>⟨(q3.ft b hb).1,?_⟩,fun k hk=>?_,?_,es.map (den (ds++ext)),hh.map (den (ds++ext)),by rw[←he,b9],hresv,?_⟩
        ·rcases q3.f0 b hb with h|h|h
         ·exact .inl h
         ·exact .inr (.inl h)
         ·exact .inr (.inr h)
        ·rw[hparts]at hk
         obtain⟨m,x,y1,y2,y3⟩:=m3 k hk
         obtain⟨o1,o2⟩:=q3.own m x k y2 y3
         refine⟨o1,fun hf=>(q3.ft k hf).2 m x y2 y3,o2.elim .inr .inl,fun n h2 hn=>?_⟩
         obtain⟨_,_,_,y4⟩:=hh2 h2
         exact(y4 n k hn).2 m x y2 y3
        ·rw[hparts]
         have:(A3g rs us).length≤1:=bV m4 hle
         cases hr:A3g rs us with
         |nil=>exact List.nodup_nil
         |cons a l=>
          rw[hr]at this
          cases l with
          |nil=>simp
          |cons b l=>simp at this
        ·split
         ·rename_i h2
          obtain⟨h',y1,y2,y3⟩:=hh2 h2
          exact⟨h',y1,y2,fun n k hk=>(y3 n k hk).1.elim .inr .inl⟩
         ·rename_i h2
          rw[hhn h2];rfl
       ·cases he
      ·cases he
     ·cases he
    ·cases he
   split at h
   ·refine calls_of_wp_defers hfn hc ?_
    refine F8g (X:=X) hF hints rfl c (Q:=bodyPostD P fn _) (L:=[]) h hlend.symm rfl hs ?_ ?_
    ·intro e st' lv' ext Lx Ft' β' a' w' q0 q1 q2 q3 q4
     have hq:a'.defers=[]:=q3.df
     cases e with
     |normal=>exact absurd rfl q0
     |ret=>
      obtain⟨v,y1,y2⟩:=hend (hv':=fun _=>none) (dq':=[]) q1 q3 q4
      show Leaves P fn a'.tmps _ a'.defers .returning w'
      rw[hq]
      exact⟨v,y1,y2⟩
     |exit i=>cases q4
    ·intro hv' f' us e st' lv' ext Lx Ft' β' a' w' q0 q1 q2 q3 q4
     have hq:a'.defers=[{target:=.fn (.func f') us.toArray,args:=#[]}]:=q3.df
     have hlv:∀{t:T},t=(match st'.tm.lookup DK with
       |some (.one (.clo f l))=>D0f P (fun nt'=>C5y P 4 nt' (hof hints f)) f (D2f l) st' lv' fun _ st'' lv''=>fin P fn rs hm .ret st'' lv''
       |_=>.fail 38)→eval Fs fuel t ([]++Lx) (ds++ext)=some r→Leaves P fn a'.tmps (fun e w'=>∃v' F' φ',e=.returned v'∧B4k G P w F hm φ (A3g ps vs) rs r v' w' F' φ') a'.defers .returning w':=by
      intro t ht he
      subst ht
      split at he
      ·rename_i f2 l hlk
       obtain⟨u,y1,y2⟩:=q3.tm _ _ hlk
       have hlim:¬DK<LIM:=by unfold DK;omega
       unfold Cx.val at y1
       rw[Q0 hlim]at y1
       have y1':hv' DK=some u:=y1
       rw[q0]at y1'
       simp only[bG]at y1'
       subst y1'
       obtain⟨us2,e1,e2,e3⟩:=y2
       simp only[Value.func.injEq,Fn.func.injEq,true_and]at e1
       obtain⟨rfl,e1'⟩:=e1
       have e1'':us=us2:=by simpa using e1'
       subst e1''
       obtain⟨fn2,c2,g1,g2,g3,g4⟩:=G6u (X:=X) (C5e hF 4 (hof hints f')) fn.ntmps hv' _ he q1 q2 q3 (by simp[D2f,e2]) (D8w e3) (next:=fun _ w''=>∃v,(results fn a'.tmps).run P w''=.ok v w''∧∃v' F' φ',cO v=.returned v'∧B4k G P w F hm φ (A3g ps vs) rs r v' w'' F' φ') (by
        intro v sv st2 lv2 ext2 Lx2 Ft2 β2 w2 z1 z2 z3 z4 z5
        rw[a5]at z1 z4 z5
        rw[a5]at z5
        exact hend z1 z4 z5)
       rw[hq]
       refine leaves_cons (by simp) ?_ ((callsD_of_wp (u:=.returning) g1 g2 g4).mono ?_)
       ·simp only[invoke]
        have ev:(#[]:Array Value)++us.toArray=us.toArray:=by simp
        rw[ev]
        exact E0i g1 (by rw[g2];rfl) g3
       ·rintro e2 u2 w2 ⟨rfl,v,rfl,y3⟩
        exact y3
      ·cases he
     cases e with
     |normal=>exact hlv rfl q4
     |ret=>exact hlv rfl q4
     |exit i=>cases q4
   ·refine calls_of_wp hfn hc ?_
    refine C5e (X:=X) hF 5 hints fn.ntmps (fun _=>none) [] c (Q:=bodyPost P fn _) (L:=[]) h hlend.symm rfl hs ?_
    intro e st' lv' ext Lx Ft' β' a' w' q1 q2 q3 q4
    cases e with
    |normal=>exact⟨q3.df,hend q1 q3 q4⟩
    |ret=>exact⟨q3.df,hend q1 q3 q4⟩
    |exit i=>cases q4
  ·cases h
 ·cases h
end Go.Proofs.YtckanieeocdpbaaGreat.Eng
namespace Go.Proofs.YtckanieeocdpbaaGreat.Eng
open Go.RowKit
set_option linter.unusedVariables false
noncomputable def add(Fs:Nat→Fn)(f:Nat)(t:T)(fu:List D→Nat):Nat→Fn:=fun g ds=>if g=f then eval Fs (fu ds) t [] ds else Fs g ds
def B7l(Fs:Nat→Fn)(f:Nat)(F:Fn):Nat→Fn:=fun g ds=>if g=f then F ds else Fs g ds
def H3f:Nat→Fn:=fun _ _=>none
theorem ok_none{G:Gl}(P:Program):A5j G P H3f:=fun f ps rs hm ds r _ h=>by cases h
def E4n(P:Program)(w:World)(F:Fr):List Ty→List D→List Value→Prop
 |[],[],[]=>True
 |t::ts,d::ds,u::us=>Rd P w F t d u∧E4n P w F ts ds us
 |_,_,_=>False
theorem E8o{P:Program}{w:World}{F:Fr}:∀{ts:List Ty} {ds:List D} {us:List Value},E4n P w F ts ds us→ds.length=ts.length∧us.length=ts.length∧∀(i:Nat) (t:Ty) (d:D) (u:Value),ts[i]?=some t→ds[i]?=some d→us[i]?=some u→Rd P w F t d u
 |[],[],[],_=>⟨rfl,rfl,fun i t d u h=>by simp at h⟩
 |t::ts,d::ds,u::us,⟨h1,h2⟩=>by
  obtain⟨l1,l2,q⟩:=E8o h2
  refine⟨by simp[l1],by simp[l2],fun i=>?_⟩
  cases i with
  |zero=>intro t' d' u' a b c;simp at a b c;subst a b c;exact h1
  |succ i=>intro t' d' u' a b c;exact q i t' d' u' (by simpa using a) (by simpa using b) (by simpa using c)
 |[],[],_::_,h=>h.elim
 |[],_::_,_,h=>h.elim
 |_::_,[],_,h=>h.elim
 |_::_,_::_,[],h=>h.elim
theorem G8h{P:Program}{w:World}{F:Fr}:B0g P w F [] [] []:=⟨rfl,rfl⟩
theorem F4n{P:Program}{w:World}{F:Fr}{t:Ty}{d:D}{v:Value}{ps:List Sh}{ds:List D}{vs:List Value}(h:Rd P w F t d v)(hr:B0g P w F ps ds vs):B0g P w F (.one t::ps) (d::ds) (v::vs):=⟨d,ds,v,vs,rfl,rfl,h,hr⟩
theorem H1o{P:Program}{w:World}{F:Fr}{ts:List Ty}{d1 ds:List D}{us vs:List Value}{ps:List Sh}(h:E4n P w F ts d1 us)(hr:B0g P w F ps ds vs):B0g P w F (.agg ts::ps) (d1++ds) (.agg us.toArray::vs):=
 let⟨l1,l2,q⟩:=E8o h
 ⟨d1,ds,us,vs,rfl,rfl,l1,l2,q,hr⟩
theorem C5x:∀{ps:List Sh} {n:Nat} (vs:List Value),A7h ps n=[]→A3g ps vs=[]
 |[],n,vs,h=>by cases vs<;>rfl
 |.row e::ps,n,vs,h=>by simp[A7h]at h
 |.one t::ps,n,[],h=>rfl
 |.agg t::ps,n,[],h=>rfl
 |.one t::ps,n,v::vs,h=>C5x vs h
 |.agg t::ps,n,v::vs,h=>C5x vs h
theorem G2a{G:Gl}{P:Program}{f:Nat}{ps:List Sh}{ds:List D}{b:Bool}{hm:Nat}(h:Ok1 G P f ps [.one .bool] hm ds [.bool b])(h0:hm=0∨3≤hm)(hrow:A7h ps 0=[]){vs:List Value}{W:World}(hG:G.ok W ⟨fun b=>b<W.heap.size,[],G.cf.hc⟩)(ha:B0g P W ⟨fun b=>b<W.heap.size,[],G.cf.hc⟩ ps ds vs):
  Calls P f vs.toArray W fun e w'=>e=.returned (.bool b)∧Below W.heap.size W w':=by
 have hne:hm≠2:=by omega
 refine(h W _ vs (fun _=>[]) ds [] (by simp) ⟨hG,rfl,fun b hb=>hb,(fun n b t hn=>by simp at hn),fun _=>rfl,(fun h=>by omega),(fun _=>⟨rfl,rfl⟩),fun b hb=>by rw[C5x vs hrow]at hb;cases hb⟩ ha).mono ?_
 rw[C5x vs hrow]
 rintro e w' ⟨v,F',φ',rfl,ho⟩
 have hc:=ho.chg
 rw[D7w hne]at hc
 obtain⟨r0,hd,e1,hr,e2⟩:=ho.res
 rw[Q0 hne]at e2
 subst e2
 rw[aH]at e1
 subst e1
 obtain⟨d,ds',v',vs',z1,z2,z3,z4⟩:=hr
 cases z1
 cases z2
 exact⟨by rw[z3.A6x];rfl,D5r hc⟩
theorem G7s{cf:Cf}{P:Program}{f:Nat}{ps:List Sh}{ds:List D}{b:Bool}{hm:Nat}(h:Ok1 (Gl.of cf) P f ps [.one .bool] hm ds [.bool b])(h0:hm=0∨3≤hm)(hrow:A7h ps 0=[]){vs:List Value}{W:World}(ha:B0g P W ⟨fun b=>b<W.heap.size,[],cf.hc⟩ ps ds vs)(hgs:cf.gs=[]:=by rfl):
  Calls P f vs.toArray W fun e w'=>e=.returned (.bool b)∧Below W.heap.size W w':=G2a h h0 hrow (by show C7u cf.gs _ _;rw[hgs];exact C7u.nil) ha
end Go.Proofs.YtckanieeocdpbaaGreat.Eng
namespace Go.Proofs.YtckanieeocdpbaaGreat.Eng
set_option linter.unusedVariables false
set_option linter.unusedSimpArgs false
def Fn.le(f g:Eng.Fn):Prop:=∀xs r,f xs=some r→g xs=some r
def LeL(L M:List Fn):Prop:=L.length=M.length∧∀(i:Nat) (g h:Fn),L[i]?=some g→M[i]?=some h→Fn.le g h
theorem Fn.le_refl(f:Eng.Fn):Fn.le f f:=fun _ _ h=>h
theorem LeL.refl(L:List Fn):LeL L L:=⟨rfl,fun i g h a b=>by rw[a]at b;cases b;exact Fn.le_refl _⟩
theorem LeL.snoc{L M:List Fn}(h:LeL L M){g k:Fn}(hg:Fn.le g k):LeL (L++[g]) (M++[k]):=by
 refine⟨by simp[h.1],fun i a b ha hb=>?_⟩
 rcases bU i L.length with hi|hi|hi
 ·rw[a8 hi]at ha
  rw[a8 (by rw[←h.1];exact hi)]at hb
  exact h.2 i a b ha hb
 ·subst hi
  rw[a6 (bO _),bS]at ha
  rw[a6 (by rw[h.1];exact bO _),←h.1,bS]at hb
  cases ha;cases hb;exact hg
 ·rw[aB (by simp;omega)]at ha
  cases ha
theorem B2f{G H:Fn→Fn}(hG:∀g h,Fn.le g h→Fn.le (G g) (H h)):∀{n m:Nat},n≤m→Fn.le (A6j G n) (A6j H m)
 |0,m,_=>fun xs r h=>by cases h
 |n+1,0,h=>by omega
 |n+1,m+1,h=>hG _ _ (B2f hG (by omega))
theorem B3t{Fs Gs:Nat→Fn}(hF:∀f,Fn.le (Fs f) (Gs f)){n m:Nat}(hn:n≤m):∀(t:T) {L M:List Fn} {ρ r:List D},LeL L M→eval Fs n t L ρ=some r→eval Gs m t M ρ=some r:=by
 intro t
 induction t with
 |ret es=>intro L M ρ r hL h;exact h
 |ite c a b iha ihb=>
  intro L M ρ r hL h
  simp only[eval]at h⊢
  split at h
  ·rename_i hc
   simp only[Q3 hc]
   exact iha hL h
  ·rename_i hc
   simp only[Q0 hc]
   exact ihb hL h
 |A9e c t ih=>
  intro L M ρ r hL h
  simp only[eval]at h⊢
  split at h
  ·rename_i hc
   simp only[Q3 hc]
   exact ih hL h
  ·cases h
 |call f args k t ih=>
  intro L M ρ r hL h
  simp only[eval]at h⊢
  split at h
  ·rename_i x hx
   rw[hF f _ _ hx]
   simp only
   split at h
   ·rename_i hk
    rw[Q3 hk]
    exact ih hL h
   ·cases h
  ·cases h
 |any a b iha ihb=>
  intro L M ρ r hL h
  simp only[eval]at h⊢
  obtain⟨h1,h2⟩:=A8v h
  exact C8q (iha hL h1) (ihb hL h2)
 |loop inits body ih=>
  intro L M ρ r hL h
  simp only[eval]at h⊢
  exact B2f (G:=fun g xs=>eval Fs n body (L++[g]) (ρ++xs)) (H:=fun g xs=>eval Gs m body (M++[g]) (ρ++xs)) (fun g k hg xs r q=>ih (hL.snoc hg) q) hn (inits.map (den ρ)) r h
 |again l es=>
  intro L M ρ r hL h
  simp only[eval]at h⊢
  split at h
  ·rename_i g hg
   have hlt:=(a7.1 hg).1
   have hm:M[l]?=some (M[l]'(by rw[←hL.1];exact hlt)):=a4 _
   rw[hm]
   exact hL.2 l _ _ hg hm _ _ h
  ·cases h
 |jp body t ihb iht=>
  intro L M ρ r hL h
  simp only[eval]at h⊢
  exact iht (hL.snoc (fun xs r q=>ihb hL q)) h
 |fail w=>intro L M ρ r hL h;cases h
 |stop w=>intro L M ρ r hL h;cases h
def B3p(c:Nat→Fn):Prop:=∀n m,n≤m→Fn.le (c n) (c m)
open Classical in
noncomputable def lim(c:Nat→Fn):Fn:=fun xs=>if h:∃n,(c n xs).isSome=true then c (cK h) xs else none
theorem A2o{c:Nat→Fn}(hc:B3p c){xs r:List D}:lim c xs=some r↔∃n,c n xs=some r:=by
 unfold lim
 constructor
 ·intro h
  split at h
  ·exact⟨_,h⟩
  ·cases h
 ·rintro⟨n,h⟩
  have hex:∃n,(c n xs).isSome=true:=⟨n,by rw[h];rfl⟩
  rw[dif_pos hex]
  have hs:=cL hex
  cases hq:c (cK hex) xs with
  |none=>rw[hq]at hs;cases hs
  |some q=>
   rcases Nat.le_total n (cK hex)with h1|h1
   ·rw[hc _ _ h1 _ _ h]at hq;exact hq.symm
   ·have:=hc _ _ h1 _ _ hq;rw[h]at this;exact this.symm
theorem G5g{c:Nat→Fn}(hc:B3p c)(n:Nat):Fn.le (c n) (lim c):=fun xs r h=>(A2o hc).2 ⟨n,h⟩
noncomputable def A2c(G:Fn→Fn):Fn:=lim (A6j G)
noncomputable def A0x(F:Nat→Fn):T→List Fn→List D→Option (List D)
 |.ret es,_,ρ=>some (es.map (den ρ))
 |.ite c a b,L,ρ=>if(den ρ c).toBool=true then A0x F a L ρ else A0x F b L ρ
 |.A9e c t,L,ρ=>if(den ρ c).toBool=true then A0x F t L ρ else none
 |.call f args k t,L,ρ=>match F f (args.map (den ρ))with
  |some r=>if r.length=k then A0x F t L (ρ++r)else none
  |none=>none
 |.any a b,L,ρ=>both (A0x F a L ρ) (A0x F b L ρ)
 |.loop inits body,L,ρ=>A2c (fun g xs=>A0x F body (L++[g]) (ρ++xs)) (inits.map (den ρ))
 |.again l es,L,ρ=>match L[l]? with
  |some g=>g (es.map (den ρ))
  |none=>none
 |.jp body t,L,ρ=>A0x F t (L++[fun xs=>A0x F body L (ρ++xs)]) ρ
 |.fail _,_,_=>none
 |.stop _,_,_=>none
def B6b(G:Fn→Fn):Prop:=∀g h,Fn.le g h→Fn.le (G g) (G h)
theorem B6b.chain{G:Fn→Fn}(h:B6b G):B3p (A6j G):=fun n m hn=>B2f h hn
theorem E2f{G H:Fn→Fn}(hG:B6b G)(hH:B6b H)(h:∀g k,Fn.le g k→Fn.le (G g) (H k)):Fn.le (A2c G) (A2c H):=by
 intro xs r q
 obtain⟨n,hn⟩:=(A2o hG.chain).1 q
 exact(A2o hH.chain).2 ⟨n,B2f h (bO _) _ _ hn⟩
theorem A5z:∀(t:T) {F G:Nat→Fn} (hF:∀f,Fn.le (F f) (G f)) {L M:List Fn} {ρ r:List D},LeL L M→A0x F t L ρ=some r→A0x G t M ρ=some r:=by
 intro t
 induction t with
 |ret es=>intro F G hF L M ρ r hL h;exact h
 |ite c a b iha ihb=>
  intro F G hF L M ρ r hL h
  simp only[A0x]at h⊢
  split at h
  ·rename_i hc
   simp only[Q3 hc]
   exact iha hF hL h
  ·rename_i hc
   simp only[Q0 hc]
   exact ihb hF hL h
 |A9e c t ih=>
  intro F G hF L M ρ r hL h
  simp only[A0x]at h⊢
  split at h
  ·rename_i hc
   simp only[Q3 hc]
   exact ih hF hL h
  ·cases h
 |call f args k t ih=>
  intro F G hF L M ρ r hL h
  simp only[A0x]at h⊢
  split at h
  ·rename_i x hx
   rw[hF f _ _ hx]
   simp only
   split at h
   ·rename_i hk
    rw[Q3 hk]
    exact ih hF hL h
   ·cases h
  ·cases h
 |any a b iha ihb=>
  intro F G hF L M ρ r hL h
  simp only[A0x]at h⊢
  obtain⟨h1,h2⟩:=A8v h
  exact C8q (iha hF hL h1) (ihb hF hL h2)
 |loop inits body ih=>
  intro F G hF L M ρ r hL h
  simp only[A0x]at h⊢
  have m1:B6b (fun g xs=>A0x F body (L++[g]) (ρ++xs)):=fun g k hg xs r q=>ih (fun f=>Fn.le_refl _) ((LeL.refl L).snoc hg) q
  have m2:B6b (fun g xs=>A0x G body (M++[g]) (ρ++xs)):=fun g k hg xs r q=>ih (fun f=>Fn.le_refl _) ((LeL.refl M).snoc hg) q
  exact E2f m1 m2 (fun g k hg xs r q=>ih hF (hL.snoc hg) q) _ _ h
 |again l es=>
  intro F G hF L M ρ r hL h
  simp only[A0x]at h⊢
  split at h
  ·rename_i g hg
   have hlt:=(a7.1 hg).1
   have hm:M[l]?=some (M[l]'(by rw[←hL.1];exact hlt)):=a4 _
   rw[hm]
   exact hL.2 l _ _ hg hm _ _ h
  ·cases h
 |jp body t ihb iht=>
  intro F G hF L M ρ r hL h
  simp only[A0x]at h⊢
  exact iht hF (hL.snoc (fun xs r q=>ihb hF hL q)) h
 |fail w=>intro F G hF L M ρ r hL h;cases h
 |stop w=>intro F G hF L M ρ r hL h;cases h
theorem A9u(F:Nat→Fn)(body:T)(L:List Fn)(ρ:List D):B6b (fun g xs=>A0x F body (L++[g]) (ρ++xs)):=
 fun g k hg xs r q=>A5z body (fun f=>Fn.le_refl _) ((LeL.refl L).snoc hg) q
noncomputable def B4b(Lc:Nat→List Fn)(k:Nat):List Fn:=(aV k).map fun i=>lim fun n=>(Lc n).getD i fun _=>none
structure B1e(Lc:Nat→List Fn)(k:Nat):Prop where
 len:∀n,(Lc n).length=k
 mono:∀n m,n≤m→LeL (Lc n) (Lc m)
theorem B1e.at{Lc:Nat→List Fn}{k:Nat}(h:B1e Lc k){i:Nat}(hi:i<k):B3p fun n=>(Lc n).getD i fun _=>none:=by
 intro n m hnm
 have h1:(Lc n)[i]?=some ((Lc n)[i]'(by rw[h.len];exact hi)):=a4 _
 have h2:(Lc m)[i]?=some ((Lc m)[i]'(by rw[h.len];exact hi)):=a4 _
 simp only[a0,h1,h2,bZ]
 exact(h.mono n m hnm).2 i _ _ h1 h2
theorem B7b{Lc:Nat→List Fn}{k:Nat}(h:B1e Lc k)(c:Nat→Fn):B4b (fun n=>Lc n++[c n]) (k+1)=B4b Lc k++[lim c]:=by
 unfold B4b
 rw[List.range_succ,b9]
 congr 1
 ·apply List.map_congr_left
  intro i hi
  have hi':i<k:=by simpa using hi
  congr 1
  funext n
  rw[a0,a8 (by rw[h.len];exact hi'),←a0]
 ·simp only[aM,aX]
  congr 2
  funext n
  rw[a0,a6 (by rw[h.len];exact bO _),h.len,bS]
  rfl
theorem B1e.snoc{Lc:Nat→List Fn}{k:Nat}(h:B1e Lc k){c:Nat→Fn}(hc:B3p c):B1e (fun n=>Lc n++[c n]) (k+1):=
 ⟨fun n=>by simp[h.len],fun n m hnm=>(h.mono n m hnm).snoc (hc n m hnm)⟩
theorem C2g:∀(t:T) {Fc:Nat→Nat→Fn} (hF:∀f,B3p fun n=>Fc n f) {Lc:Nat→List Fn} {k:Nat} (hL:B1e Lc k) {ρ r:List D},A0x (fun f=>lim fun n=>Fc n f) t (B4b Lc k) ρ=some r→∃n,A0x (Fc n) t (Lc n) ρ=some r:=by
 intro t
 induction t with
 |ret es=>intro Fc hF Lc k hL ρ r h;exact⟨0,h⟩
 |ite c a b iha ihb=>
  intro Fc hF Lc k hL ρ r h
  simp only[A0x]at h⊢
  split at h
  ·rename_i hc
   simp only[Q3 hc]
   exact iha hF hL h
  ·rename_i hc
   simp only[Q0 hc]
   exact ihb hF hL h
 |A9e c t ih=>
  intro Fc hF Lc k hL ρ r h
  simp only[A0x]at h⊢
  split at h
  ·rename_i hc
   simp only[Q3 hc]
   exact ih hF hL h
  ·cases h
 |call f args k' t ih=>
  intro Fc hF Lc k hL ρ r h
  simp only[A0x]at h⊢
  split at h
  ·rename_i x hx
   split at h
   ·rename_i hk
    obtain⟨n1,h1⟩:=(A2o (hF f)).1 hx
    obtain⟨n2,h2⟩:=ih hF hL h
    refine⟨max n1 n2,?_⟩
    have h1':Fc (max n1 n2) f (args.map (den ρ))=some x:=hF f n1 _ (bR _ _) _ _ h1
    simp only[h1',Q3 hk]
    exact A5z t (fun f=>hF f n2 _ (bP _ _)) (hL.mono _ _ (bP _ _)) h2
   ·cases h
  ·cases h
 |any a b iha ihb=>
  intro Fc hF Lc k hL ρ r h
  simp only[A0x]at h⊢
  obtain⟨h1,h2⟩:=A8v h
  obtain⟨n1,h1⟩:=iha hF hL h1
  obtain⟨n2,h2⟩:=ihb hF hL h2
  exact⟨max n1 n2,C8q (A5z a (fun f=>hF f n1 _ (bR _ _)) (hL.mono _ _ (bR _ _)) h1) (A5z b (fun f=>hF f n2 _ (bP _ _)) (hL.mono _ _ (bP _ _)) h2)⟩
 |loop inits body ih=>
  intro Fc hF Lc k hL ρ r h
  simp only[A0x]at h⊢
  let G:Fn→Fn:=fun g xs=>A0x (fun f=>lim fun n=>Fc n f) body (B4b Lc k++[g]) (ρ++xs)
  let Gn:Nat→Fn→Fn:=fun n g xs=>A0x (Fc n) body (Lc n++[g]) (ρ++xs)
  have hc:B3p fun n=>A2c (Gn n):=fun n m hnm=>E2f (A9u _ _ _ _) (A9u _ _ _ _) (fun g q hg xs r z=>A5z body (fun f=>hF f n m hnm) ((hL.mono n m hnm).snoc hg) z)
  have hstep:∀j,Fn.le (A6j G j) (lim fun n=>A2c (Gn n)):=by
   intro j
   induction j with
   |zero=>intro xs r h;cases h
   |succ j ihj=>
    intro xs r h
    have h1:A0x (fun f=>lim fun n=>Fc n f) body (B4b Lc k++[lim fun n=>A2c (Gn n)]) (ρ++xs)=some r:=A5z body (fun f=>Fn.le_refl _) ((LeL.refl _).snoc ihj) h
    rw[←B7b hL]at h1
    obtain⟨n,hn⟩:=ih hF (hL.snoc hc) h1
    refine(A2o hc).2 ⟨n,?_⟩
    have hcl:B1e (fun m=>Lc n++[A6j (Gn n) m]) ((Lc n).length+1):=⟨fun m=>by simp,fun a b hab=>(LeL.refl _).snoc (B2f (A9u _ _ _ _) hab)⟩
    have hlimL:B4b (fun m=>Lc n++[A6j (Gn n) m]) ((Lc n).length+1)=Lc n++[A2c (Gn n)]:=by
     have hcon:B1e (fun _:Nat=>Lc n) (Lc n).length:=⟨fun _=>rfl,fun _ _ _=>LeL.refl _⟩
     rw[B7b hcon]
     congr 1
     unfold B4b
     apply aW
     intro i
     rw[aA]
     rcases bQ i (Lc n).length with hi|hi
     ·rw[aL hi,a4 hi]
      simp only[c0,bG]
      funext ys
      have hcc:B3p fun _:Nat=>(Lc n).getD i fun _=>none:=fun _ _ _=>Fn.le_refl _
      cases hq:(Lc n)[i] ys with
      |none=>
       cases hz:lim (fun _:Nat=>(Lc n).getD i fun _=>none) ys with
       |none=>rfl
       |some z=>
        obtain⟨_,hz'⟩:=(A2o hcc).1 hz
        simp only[a0,a4 hi,bZ,hq]at hz'
        cases hz'
      |some q=>exact(A2o hcc).2 ⟨0,by simp only[a0,a4 hi,bZ,hq]⟩
     ·rw[aB (by simpa using hi),aB hi];rfl
    have hconF:∀f,B3p fun _:Nat=>Fc n f:=fun f _ _ _=>Fn.le_refl _
    have hlimF:(fun f=>lim fun _:Nat=>Fc n f)=Fc n:=by
     funext f ys
     cases hq:Fc n f ys with
     |none=>
      cases hz:lim (fun _:Nat=>Fc n f) ys with
      |none=>rfl
      |some z=>obtain⟨_,hz'⟩:=(A2o (hconF f)).1 hz;rw[hq]at hz';cases hz'
     |some q=>exact(A2o (hconF f)).2 ⟨0,hq⟩
    have h2:A0x (fun f=>lim fun _:Nat=>Fc n f) body (B4b (fun m=>Lc n++[A6j (Gn n) m]) ((Lc n).length+1)) (ρ++xs)=some r:=by
     rw[hlimL,hlimF];exact hn
    obtain⟨m,hm⟩:=ih hconF hcl h2
    exact(A2o (B6b.chain (A9u _ _ _ _))).2 ⟨m+1,hm⟩
  obtain⟨j,hj⟩:=(A2o (B6b.chain (A9u _ _ _ _))).1 h
  exact(A2o hc).1 (hstep j _ _ hj)
 |again l es=>
  intro Fc hF Lc k hL ρ r h
  simp only[A0x]at h⊢
  split at h
  ·rename_i g hg
   have hi:l<k:=by have:=(a7.1 hg).1;simpa[B4b]using this
   unfold B4b at hg
   rw[aA,aL hi]at hg
   simp only[c0,bG]at hg
   subst hg
   obtain⟨n,hn⟩:=(A2o (hL.at hi)).1 h
   refine⟨n,?_⟩
   have h1:(Lc n)[l]?=some ((Lc n)[l]'(by rw[hL.len];exact hi)):=a4 _
   simp only[h1]
   simp only[a0,h1,bZ]at hn
   exact hn
  ·cases h
 |jp body t ihb iht=>
  intro Fc hF Lc k hL ρ r h
  simp only[A0x]at h⊢
  have hc:B3p fun n=>(fun xs=>A0x (Fc n) body (Lc n) (ρ++xs):Fn):=fun n m hnm xs r q=>A5z body (fun f=>hF f n m hnm) (hL.mono n m hnm) q
  have h1:A0x (fun f=>lim fun n=>Fc n f) t (B4b Lc k++[lim fun n=>(fun xs=>A0x (Fc n) body (Lc n) (ρ++xs):Fn)]) ρ=some r:=
   A5z t (fun f=>Fn.le_refl _) ((LeL.refl _).snoc (fun xs r q=>(A2o hc).2 (ihb hF hL q))) h
  rw[←B7b hL]at h1
  exact iht hF (hL.snoc hc) h1
 |fail w=>intro Fc hF Lc k hL ρ r h;cases h
 |stop w=>intro Fc hF Lc k hL ρ r h;cases h
theorem C7b(f:Fn):lim (fun _:Nat=>f)=f:=by
 funext ys
 have hcc:B3p fun _:Nat=>f:=fun _ _ _=>Fn.le_refl _
 cases hq:f ys with
 |none=>
  cases hz:lim (fun _:Nat=>f) ys with
  |none=>rfl
  |some z=>obtain⟨_,hz'⟩:=(A2o hcc).1 hz;rw[hq]at hz';cases hz'
 |some q=>exact(A2o hcc).2 ⟨0,hq⟩
theorem D0x(L:List Fn):B4b (fun _=>L) L.length=L:=by
 unfold B4b
 apply aW
 intro i
 rw[aA]
 rcases bQ i L.length with hi|hi
 ·rw[aL hi,a4 hi]
  simp only[c0,bG,C7b,a0,a4 hi,bZ]
 ·rw[aB (by simpa using hi),aB hi];rfl
theorem H1n(F:Nat→Fn)(body:T)(L:List Fn)(ρ xs:List D):A2c (fun g xs=>A0x F body (L++[g]) (ρ++xs)) xs=A0x F body (L++[A2c (fun g xs=>A0x F body (L++[g]) (ρ++xs))]) (ρ++xs):=by
 let G:Fn→Fn:=fun g xs=>A0x F body (L++[g]) (ρ++xs)
 have hG:B6b G:=A9u _ _ _ _
 show A2c G xs=G (A2c G) xs
 have h1:∀r,A2c G xs=some r→G (A2c G) xs=some r:=by
  intro r h
  obtain⟨n,hn⟩:=(A2o hG.chain).1 h
  cases n with
  |zero=>cases hn
  |succ n=>exact hG _ _ (G5g hG.chain n) _ _ hn
 have h2:∀r,G (A2c G) xs=some r→A2c G xs=some r:=by
  intro r h
  have hcon:B1e (fun _:Nat=>L) L.length:=⟨fun _=>rfl,fun _ _ _=>LeL.refl _⟩
  have h':A0x (fun f=>lim fun _:Nat=>F f) body (B4b (fun n=>L++[A6j G n]) (L.length+1)) (ρ++xs)=some r:=by
   rw[B7b hcon,D0x]
   simp only[C7b]
   exact h
  obtain⟨n,hn⟩:=C2g body (Fc:=fun _=>F) (fun f _ _ _=>Fn.le_refl _) (hcon.snoc hG.chain) h'
  exact(A2o hG.chain).2 ⟨n+1,hn⟩
 cases hq:A2c G xs with
 |none=>
  cases hz:G (A2c G) xs with
  |none=>rfl
  |some z=>rw[h2 z hz]at hq;cases hq
 |some q=>rw[h1 q hq]
theorem G1z(F:Nat→Fn)(n:Nat):∀(t:T) {L:List Fn} {ρ r:List D},eval F n t L ρ=some r→A0x F t L ρ=some r:=by
 intro t
 induction t with
 |loop inits body ih=>
  intro L ρ r h
  simp only[eval,A0x]at h⊢
  have hstep:∀j,Fn.le (A6j (fun g xs=>eval F n body (L++[g]) (ρ++xs)) j) (A6j (fun g xs=>A0x F body (L++[g]) (ρ++xs)) j):=by
   intro j
   induction j with
   |zero=>intro xs r h;cases h
   |succ j ihj=>intro xs r h;exact A9u _ _ _ _ _ _ ihj _ _ (ih h)
  exact(A2o (B6b.chain (A9u _ _ _ _))).2 ⟨n,hstep n _ _ h⟩
 |ret es=>intro L ρ r h;exact h
 |ite c a b iha ihb=>
  intro L ρ r h
  simp only[eval,A0x]at h⊢
  split at h
  ·rename_i hc
   simp only[Q3 hc]
   exact iha h
  ·rename_i hc
   simp only[Q0 hc]
   exact ihb h
 |A9e c t ih=>
  intro L ρ r h
  simp only[eval,A0x]at h⊢
  split at h
  ·rename_i hc
   simp only[Q3 hc]
   exact ih h
  ·cases h
 |call f args k t ih=>
  intro L ρ r h
  simp only[eval,A0x]at h⊢
  split at h
  ·rename_i x hx
   simp only[hx]
   split at h
   ·rename_i hk
    rw[Q3 hk]
    exact ih h
   ·cases h
  ·cases h
 |any a b iha ihb=>
  intro L ρ r h
  simp only[eval,A0x]at h⊢
  obtain⟨h1,h2⟩:=A8v h
  exact C8q (iha h1) (ihb h2)
 |again l es=>intro L ρ r h;exact h
 |jp body t ihb iht=>
  intro L ρ r h
  simp only[eval,A0x]at h⊢
  exact A5z t (fun f=>Fn.le_refl _) ((LeL.refl L).snoc (fun xs r q=>ihb q)) (iht h)
 |fail w=>intro L ρ r h;cases h
 |stop w=>intro L ρ r h;cases h
theorem G1d(F:Nat→Fn):∀(t:T) {L:List Fn} {ρ r:List D},A0x F t L ρ=some r→∃n,eval F n t L ρ=some r:=by
 intro t
 induction t with
 |loop inits body ih=>
  intro L ρ r h
  simp only[eval,A0x]at h⊢
  let G:Fn→Fn:=fun g xs=>A0x F body (L++[g]) (ρ++xs)
  let Gn:Nat→Fn→Fn:=fun n g xs=>eval F n body (L++[g]) (ρ++xs)
  have hm:∀n m,n≤m→∀g k,Fn.le g k→Fn.le (Gn n g) (Gn m k):=fun n m hnm g k hg xs r q=>B3t (fun f=>Fn.le_refl _) hnm body ((LeL.refl L).snoc hg) q
  have hc:B3p fun n=>A6j (Gn n) n:=fun n m hnm=>B2f (hm n m hnm) hnm
  have hstep:∀j,Fn.le (A6j G j) (lim fun n=>A6j (Gn n) n):=by
   intro j
   induction j with
   |zero=>intro xs r h;cases h
   |succ j ihj=>
    intro xs r h
    have h1:A0x F body (L++[lim fun n=>A6j (Gn n) n]) (ρ++xs)=some r:=A5z body (fun f=>Fn.le_refl _) ((LeL.refl _).snoc ihj) h
    have hcon:B1e (fun _:Nat=>L) L.length:=⟨fun _=>rfl,fun _ _ _=>LeL.refl _⟩
    have h':A0x (fun f=>lim fun _:Nat=>F f) body (B4b (fun n=>L++[A6j (Gn n) n]) (L.length+1)) (ρ++xs)=some r:=by
     rw[B7b hcon,D0x]
     simp only[C7b]
     exact h1
    obtain⟨m,hm1⟩:=C2g body (Fc:=fun _=>F) (fun f _ _ _=>Fn.le_refl _) (hcon.snoc hc) h'
    obtain⟨n,hn⟩:=ih hm1
    refine(A2o hc).2 ⟨max n m+1,?_⟩
    have h2:Gn (max n m) (A6j (Gn (max n m)) (max n m)) xs=some r:=hm n _ (bR _ _) _ _ (hc m _ (bP _ _)) _ _ hn
    exact hm _ _ (bY _) _ _ (B2f (hm _ _ (bY _)) (bO _)) _ _ h2
  obtain⟨j,hj⟩:=(A2o (B6b.chain (A9u _ _ _ _))).1 h
  obtain⟨n,hn⟩:=(A2o hc).1 (hstep j _ _ hj)
  exact⟨n,hn⟩
 |ret es=>intro L ρ r h;exact⟨0,h⟩
 |ite c a b iha ihb=>
  intro L ρ r h
  simp only[eval,A0x]at h⊢
  split at h
  ·rename_i hc;simp only[Q3 hc];exact iha h
  ·rename_i hc;simp only[Q0 hc];exact ihb h
 |A9e c t ih=>
  intro L ρ r h
  simp only[eval,A0x]at h⊢
  split at h
  ·rename_i hc
   simp only[Q3 hc]
   exact ih h
  ·cases h
 |call f args k t ih=>
  intro L ρ r h
  simp only[eval,A0x]at h⊢
  split at h
  ·rename_i x hx
   simp only[hx]
   split at h
   ·rename_i hk
    simp only[Q3 hk]
    exact ih h
   ·cases h
  ·cases h
 |any a b iha ihb=>
  intro L ρ r h
  simp only[eval,A0x]at h⊢
  obtain⟨h1,h2⟩:=A8v h
  obtain⟨n1,h1⟩:=iha h1
  obtain⟨n2,h2⟩:=ihb h2
  exact⟨max n1 n2,C8q (B3t (fun f=>Fn.le_refl _) (bR _ _) a (LeL.refl L) h1) (B3t (fun f=>Fn.le_refl _) (bP _ _) b (LeL.refl L) h2)⟩
 |again l es=>intro L ρ r h;exact⟨0,h⟩
 |jp body t ihb iht=>
  intro L ρ r h
  simp only[eval,A0x]at h⊢
  have hc:B3p fun n=>(fun xs=>eval F n body L (ρ++xs):Fn):=fun n m hnm xs r q=>B3t (fun f=>Fn.le_refl _) hnm body (LeL.refl L) q
  have hcon:B1e (fun _:Nat=>L) L.length:=⟨fun _=>rfl,fun _ _ _=>LeL.refl _⟩
  have h1:A0x F t (L++[lim fun n=>(fun xs=>eval F n body L (ρ++xs):Fn)]) ρ=some r:=
   A5z t (fun f=>Fn.le_refl _) ((LeL.refl _).snoc (fun xs r q=>(A2o hc).2 (ihb q))) h
  have h':A0x (fun f=>lim fun _:Nat=>F f) t (B4b (fun n=>L++[(fun xs=>eval F n body L (ρ++xs):Fn)]) (L.length+1)) ρ=some r:=by
   rw[B7b hcon,D0x]
   simp only[C7b]
   exact h1
  obtain⟨m,hm1⟩:=C2g t (Fc:=fun _=>F) (fun f _ _ _=>Fn.le_refl _) (hcon.snoc hc) h'
  obtain⟨n,hn⟩:=iht hm1
  exact⟨max n m,B3t (fun f=>Fn.le_refl _) (bR _ _) t ((LeL.refl L).snoc (hc m _ (bP _ _))) hn⟩
 |fail w=>intro L ρ r h;cases h
 |stop w=>intro L ρ r h;cases h
section
variable(base:Nat→Fn)(prog:List (Nat × T))
noncomputable def tab:Nat→Nat→Fn
 |0=>fun f=>match prog.lookup f with|some _=>fun _=>none|none=>base f
 |n+1=>fun f=>match prog.lookup f with|some t=>fun ds=>eval (tab n) n t [] ds|none=>base f
theorem C6d:∀n m,n≤m→∀f,Fn.le (tab base prog n f) (tab base prog m f)
 |0,0,_=>fun f=>Fn.le_refl _
 |0,m+1,_=>fun f xs r h=>by
  simp only[tab]at h⊢
  cases hq:prog.lookup f with
  |none=>rw[hq]at h;exact h
  |some t=>rw[hq]at h;cases h
 |n+1,0,h=>by omega
 |n+1,m+1,hnm=>fun f xs r h=>by
  simp only[tab]at h⊢
  cases hq:prog.lookup f with
  |none=>rw[hq]at h;exact h
  |some t=>
   rw[hq]at h
   exact B3t (C6d n m (by omega)) (by omega) t (LeL.refl _) h
noncomputable def Fix:Nat→Fn:=fun f=>lim fun n=>tab base prog n f
variable{base prog}
theorem fix_eq{f:Nat}{t:T}(hf:prog.lookup f=some t)(ds:List D):Fix base prog f ds=A0x (Fix base prog) t [] ds:=by
 have hc:∀f,B3p fun n=>tab base prog n f:=fun f n m h=>C6d base prog n m h f
 have h1:∀r,Fix base prog f ds=some r→A0x (Fix base prog) t [] ds=some r:=by
  intro r h
  obtain⟨n,hn⟩:=(A2o (hc f)).1 h
  cases n with
  |zero=>simp only[tab,hf]at hn;cases hn
  |succ n=>
   simp only[tab,hf]at hn
   exact A5z t (fun f=>G5g (hc f) n) (LeL.refl _) (G1z _ _ t hn)
 have h2:∀r,A0x (Fix base prog) t [] ds=some r→Fix base prog f ds=some r:=by
  intro r h
  have hnil:B1e (fun _:Nat=>([]:List Fn)) 0:=⟨fun _=>rfl,fun _ _ _=>LeL.refl _⟩
  obtain⟨n,hn⟩:=C2g t (Fc:=tab base prog) hc hnil (ρ:=ds) (r:=r) h
  obtain⟨m,hm⟩:=G1d _ t hn
  refine(A2o (hc f)).2 ⟨max n m+1,?_⟩
  simp only[tab,hf]
  exact B3t (C6d base prog n _ (bR _ _)) (bP _ _) t (LeL.refl _) hm
 cases hq:Fix base prog f ds with
 |none=>
  cases hz:A0x (Fix base prog) t [] ds with
  |none=>rfl
  |some z=>rw[h2 z hz]at hq;cases hq
 |some q=>rw[h1 q hq]
theorem H7r{G:Gl}{P:Program}(hb:A5j G P base)(hp:∀p ∈ prog,∃hints,D6s P G.cf hints p.1=p.2):A5j G P (Fix base prog):=by
 have hn:∀n,A5j G P (tab base prog n):=by
  intro n
  induction n with
  |zero=>
   intro f ps rs hm ds r hs h
   simp only[tab]at h
   cases hq:prog.lookup f with
   |some t=>rw[hq]at h;cases h
   |none=>rw[hq]at h;exact hb f ps rs hm ds r hs h
  |succ n ih=>
   intro f ps rs hm ds r hs h
   simp only[tab]at h
   cases hq:prog.lookup f with
   |some t=>
    rw[hq]at h
    obtain⟨hints,he⟩:=hp _ (A0z hq)
    simp only at he
    rw[←he]at h
    exact G9m ih hints f hs h
   |none=>rw[hq]at h;exact hb f ps rs hm ds r hs h
 intro f ps rs hm ds r hs h
 obtain⟨n,h'⟩:=(A2o (fun n m q=>C6d base prog n m q f)).1 h
 exact hn n f ps rs hm ds r hs h'
end
def pick:Nat→Nat→List D→List D
 |0,_,_=>[]
 |k+1,i,r=>r.getD i .nil::pick k (i+1) r
theorem E9j:∀(k i:Nat) (r:List D),r.length=i+k→pick k i r=r.drop i
 |0,i,r,h=>by rw[aR (by omega)];rfl
 |k+1,i,r,h=>by
  have hlt:i<r.length:=by omega
  simp only[pick]
  rw[E9j k (i+1) r (by omega),aE hlt,a0,a4 hlt]
  rfl
theorem G9i{k:Nat}{r:List D}(h:r.length=k):pick k 0 r=r:=by rw[E9j k 0 r (by omega)];rfl
def A0b(x:Option (List D))(k:Nat)(f:List D→Option (List D)):Option (List D):=match x with|some r=>if r.length=k then f r else none|none=>none
theorem A0n{r:List D}{k:Nat}{f:List D→Option (List D)}(h:r.length=k):A0b (some r) k f=f r:=Q3 h
noncomputable def A0t(F:Nat→Fn):T→List Fn→List D→Option (List D)
 |.ret es,_,ρ=>some (es.map (den ρ))
 |.ite c a b,L,ρ=>if(den ρ c).toBool=true then A0t F a L ρ else A0t F b L ρ
 |.A9e c t,L,ρ=>if(den ρ c).toBool=true then A0t F t L ρ else none
 |.call f args k t,L,ρ=>A0b (F f (args.map (den ρ))) k fun r=>A0t F t L (ρ++pick k 0 r)
 |.any a b,L,ρ=>both (A0t F a L ρ) (A0t F b L ρ)
 |.loop inits body,L,ρ=>A2c (fun g xs=>A0t F body (L++[g]) (ρ++xs)) (inits.map (den ρ))
 |.again l es,L,ρ=>match L[l]? with
  |some g=>g (es.map (den ρ))
  |none=>none
 |.jp body t,L,ρ=>A0t F t (L++[fun xs=>A0t F body L (ρ++xs)]) ρ
 |.fail _,_,_=>none
 |.stop _,_,_=>none
theorem F4u(F:Nat→Fn):∀(t:T) (L:List Fn) (ρ:List D),A0t F t L ρ=A0x F t L ρ:=by
 intro t
 induction t with
 |ret es=>intro L ρ;rfl
 |ite c a b iha ihb=>intro L ρ;simp only[A0t,A0x,iha,ihb]
 |A9e c t ih=>intro L ρ;simp only[A0t,A0x,ih]
 |call f args k t ih=>
  intro L ρ
  simp only[A0t,A0x,A0b,ih]
  cases F f (args.map (den ρ))with
  |none=>rfl
  |some r=>
   simp only
   by_cases h:r.length=k
   ·rw[Q3 h,Q3 h,G9i h]
   ·rw[Q0 h,Q0 h]
 |any a b iha ihb=>intro L ρ;simp only[A0t,A0x,iha,ihb]
 |loop inits body ih=>intro L ρ;simp only[A0t,A0x,ih]
 |again l es=>intro L ρ;rfl
 |jp body t ihb iht=>intro L ρ;simp only[A0t,A0x,ihb,iht]
 |fail w=>intro L ρ;rfl
 |stop w=>intro L ρ;rfl
theorem A2g(F:Nat→Fn)(body:T)(L:List Fn)(ρ xs:List D):A2c (fun g xs=>A0t F body (L++[g]) (ρ++xs)) xs=A0t F body (L++[A2c (fun g xs=>A0t F body (L++[g]) (ρ++xs))]) (ρ++xs):=by
 simp only[F4u]
 exact H1n F body L ρ xs
theorem H6b{base:Nat→Fn}{prog:List (Nat × T)}{f:Nat}{t:T}(hf:prog.lookup f=some t)(ds:List D):Fix base prog f ds=A0t (Fix base prog) t [] ds:=by
 rw[F4u];exact fix_eq hf ds
end Go.Proofs.YtckanieeocdpbaaGreat.Eng
