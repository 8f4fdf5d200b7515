import Derived.Test.YtckanieeocdpbaaGreatEngI
import Derived.Laws.MakeOwn
import Derived.Great.BuildSlice
open List renaming getElem?_eq_getElem→a0,getElem?_eq_some_iff→a4,getD_eq_getElem?_getD→a5,getElem?_append_right→a6,getElem?_append_left→a7,getElem?_map→a8,getElem?_take→a9,getElem?_drop→aA,append_assoc→aB,eq_nil_of_length_eq_zero→aC,length_append→aD,all_eq_true→aE,length_take→aF,getElem?_set_ne→aG,getElem?_set_self→aH,length_cons→aI,lookup_cons→aJ,range→aK,length_drop→aL,getElem?_eq_none→aM,size_toArray→aN,getElem?_of_mem→aO,mem_of_getElem?→aP,mem_cons_self→aQ,mem_append_right→aR,mem_cons→aS,drop_append_of_le_length→aT,mem_append_left→aU,mem_cons_of_mem→aV,getElem?_range→aW,drop_eq_getElem_cons→aX,getElem?_set→aY,append_nil→aZ,map_append→b1,length_set→b3,length_replicate→b4,drop_take→b5,contains_eq_mem→b6,getElem?_modify→b7,all_cons→b8,mem_filterMap→b9,contains_cons→bA,prefix_append→bB,ext_getElem?→bC,mem_flatMap→bD,nil_append→bE,length_nil→bF,drop_drop→bG,take_left→bH,map_cons→bI,mem_map→bJ
open Go.Result renaming andThen_ok→bK
open Bool renaming and_eq_true→bL,false_eq_true→bM,not_eq_true'→bN,and_eq_false_iff→bO,eq_iff_iff→bP
open Nat renaming lt_of_lt_of_le→bQ,mul_le_mul_right→bR,lt_or_ge→bS,le_refl→bT,add_mul→bU,eq_zero_or_pos→bV,mul_comm→bW,le_trans→bX,mod_lt→bY,add_sub_cancel_left→bZ,sub_self→c6,div_lt_iff_lt_mul→c7,zero_le→c8,mul_le_mul_left→c9,add_assoc→cA,lt_trichotomy→cB,mod_eq_of_lt→cC,one_mul→cD,mul_pos→cE,sub_mul→cF,div_add_mod→cG,mul_add_mod→cH,zero_add→cI,succ_mul→cJ
open Option.some renaming injEq→cK,inj→cL
open Go.Sem renaming run_bind→cM,run_pure→cN,run→cO
open Option renaming isSome_iff_exists→cP,map_some→cQ,getD_some→cR,map_none→cS,toList_none→cT
open Go.Oper renaming upon→cU,wp→cV
open Array renaming toList_inj→cW,getElem?_toList→cX,getElem?_eq_some_iff→cY,getElem?_eq_getElem→cZ,range→d0,toList_modify→d2,toList_map→d3
open Go.Region renaming wanted→d4
open Go.Builtin renaming append_→d5,firstCells→d6,lenOf→d7,nextslicecap→d8
open Prod.mk renaming injEq→d9
open Go.World renaming cell?→dA,setRow→dB
open Go.Instr renaming sliceBounds→dC,sameBits→dD,sureAddr→dE,buildSlice→dF,sliceAt→dG,storeAt→dH,keyThatStays→dI,sliceBound→dJ,slice→dK,mapUpdate→dL
open Go.MapKept renaming run_setObj_map→dM,run_getObj_map→dN,bytes_beq→dO
namespace Go.Proofs.YtckanieeocdpbaaGreat.Eng
open Go.RowKit
set_option linter.unusedVariables false
set_option linter.unusedSimpArgs false
section
variable{P:Program}{w:World}{F:Fr}{ρ:List D}{β:Nat→Value}
theorem C.H7z(m:Nat)(c:C):c.jk m=.B1g∨(c.jk m=c∧c.noN m=true):=by
 cases c<;>first|exact .inr ⟨rfl,rfl⟩|skip
 case clo f l=>
  simp only[C.jk,C.noN]
  split
  ·exact .inl rfl
  ·rename_i h
   exact .inr ⟨rfl,by rw[Bool.not_eq_true]at h;rw[h];rfl⟩
 all_goals
  simp only[C.jk,C.noN]
  split
  ·exact .inl rfl
  ·rename_i h
   exact .inr ⟨rfl,by simpa using h⟩
theorem RC.jk{c:C}{v:Value}(hb:∀n,(β n).oneCell'=true)(m:Nat)(u:Value)(h:RC P w F ρ β c v):RC P w F ρ (Eng.A0q β m u) (c.jk m) v:=by
 rcases C.H7z m c with e|⟨e,hn⟩
 ·rw[e];exact RC.one h (fun n _=>hb n)
 ·rw[e];exact h.A0q hn
theorem RCL.jk{cs:List C}{vs:List Value}(hb:∀n,(β n).oneCell'=true)(m:Nat)(u:Value)(h:RCL P w F ρ β cs vs):RCL P w F ρ (Eng.A0q β m u) (cs.map (C.jk m)) vs:=
 ⟨by simp[h.1],fun i c v h1 h2=>by
  rw[a8]at h1
  cases hc:cs[i]? with
  |none=>simp[hc]at h1
  |some c0=>simp[hc]at h1;subst h1;exact(h.2 i c0 v hc h2).jk hb m u⟩
theorem R1.jk{c:V1}{v:Value}(hb:∀n,(β n).oneCell'=true)(m:Nat)(u:Value)(h:R1 P w F ρ β c v):R1 P w F ρ (Eng.A0q β m u) (c.jk m) v:=by
 cases c with
 |one c=>exact RC.jk hb m u h
 |agg cs=>obtain⟨vs,e,h⟩:=h;exact⟨vs,e,h.jk hb m u⟩
theorem RV.jk{c:SV}{v:Value}(hb:∀n,(β n).oneCell'=true)(m:Nat)(u:Value)(h:RV P w F ρ β c v):RV P w F ρ (Eng.A0q β m u) (c.jk m) v:=by
 cases c with
 |one c=>exact RC.jk hb m u h
 |agg cs=>obtain⟨vs,e,h⟩:=h;exact⟨vs,e,h.jk hb m u⟩
 |tup l=>
  obtain⟨vs,e,hl,h⟩:=h
  refine⟨vs,e,by simp[hl],fun i c x h1 h2=>?_⟩
  rw[a8]at h1
  cases hc:l[i]? with
  |none=>simp[hc]at h1
  |some c0=>simp[hc]at h1;subst h1;exact(h i c0 x hc h2).jk hb m u
theorem F2f{e:TypeId}{y:E}{v:Value}(h:A1b P w F ρ β (.vec e y) v):Rd P w (F.or fun k=>bk v=some k) (.slice e) (den ρ y) v∧∀b o len cap,v=.slice (some ⟨b,o,none⟩) len cap→len=(den ρ y).toL.length:=by
 obtain⟨ts,xs,hts,⟨hl,hr⟩,hx⟩:=h
 rcases hr with⟨⟨A,rfl⟩,hn⟩|⟨g,o1,cap,cur,rfl,hc0,hg,hle,_,hsz,htk⟩
 ·exact⟨Rd.snil (aC hn) rfl,fun b o len cap h=>by simp at h;omega⟩
 ·refine⟨Rd.slice (g:=fun i c=>xs.getD (i*ts.length+c) undef) rfl hts rfl hle (.inr (B1v hc0)) ?_ ?_,fun b o len cap h=>by simp at h;omega⟩
  ·intro i c hi hc
   have hlt:i*ts.length+c<(den ρ y).toL.length*ts.length:=by
    have:(i+1)*ts.length≤(den ρ y).toL.length*ts.length:=bR _ hi
    rw[bU,cD]at this
    omega
   have hcur:cur.toList[o1+i*ts.length+c]?=xs[i*ts.length+c]?:=by
    rw[←htk,a9,Q3 hlt,aA,cA]
   have hxs:i*ts.length+c<xs.length:=by omega
   rw[a0 hxs,cX]at hcur
   simp only[dA,hg]
   simp[hcur,a5,a0 hxs]
  ·intro i c x t hx1 ht
   obtain⟨u,hu1,hu2⟩:=hx i c x t hx1 ht
   simp only[a5,hu1,cR]
   exact hu2.mono (Le.or fun k hk=>rfl)
def D9w(P:Program)(w:World)(F:Fr)(ρ:List D)(β:Nat→Value)(q:Ty)(y:E)(v:Value):Prop:=(∃e,q=.slice e∧A1b P w F ρ β (.vec e y) v)∨∃t,q=.map t∧A1b P w F ρ β (.map t y) v
theorem D9w.rd{q:Ty}{y:E}{v:Value}(h:D9w P w F ρ β q y v):Rd P w (F.or fun k=>bk v=some k) q (den ρ y) v:=by
 rcases h with⟨e,rfl,h⟩|⟨t,rfl,h⟩
 ·exact(F2f h).1
 ·exact H3o h
theorem RC.fz{m:Nat}{q:Ty}{y:E}(hb:∀n,(β n).oneCell'=true)(hv:D9w P w F ρ β q y (β m)){c:C}{v:Value}(h:RC P w F ρ β c v):RC P w (F.or fun k=>bk (β m)=some k) ρ β (c.fz m q y) v:=by
 have hm:RC P w (F.or fun k=>bk (β m)=some k) ρ β c v:=h.mono (Le.or fun k hk=>rfl)
 cases c<;>simp only[C.fz]<;>try exact hm
 ·split
  ·rename_i n hn
   subst hn
   have e1:v=β _:=h
   rw[e1]
   exact hv.rd
  ·exact hm
 ·rename_i n t i c
  split
  ·rename_i hn
   subst hn
   split
   ·rename_i ht
    subst ht
    have hv':A1b P w F ρ β (.vec t y) (β n):=by
     rcases hv with⟨e,he,h⟩|⟨t',he,h⟩
     ·cases he;exact h
     ·cases he
    obtain⟨b,o,len,cap,ts,h1,h2,h3,h4,h5⟩:=h
    obtain⟨q1,q2⟩:=F2f hv'
    have hlen:=q2 b o len cap h1
    refine⟨b,o,len,cap,ts,?_,h2,h3,by omega,h5⟩
    rw[h1]at q1⊢
    exact q1
   ·exact RC.one h (fun n _=>hb n)
  ·exact hm
 ·split
  ·exact RC.one h (fun n _=>hb n)
  ·exact hm
theorem RCL.fz{m:Nat}{q:Ty}{y:E}(hb:∀n,(β n).oneCell'=true)(hv:D9w P w F ρ β q y (β m)){cs:List C}{vs:List Value}(h:RCL P w F ρ β cs vs):RCL P w (F.or fun k=>bk (β m)=some k) ρ β (cs.map (C.fz m q y)) vs:=
 ⟨by simp[h.1],fun i c v h1 h2=>by
  rw[a8]at h1
  cases hc:cs[i]? with
  |none=>simp[hc]at h1
  |some c0=>simp[hc]at h1;subst h1;exact(h.2 i c0 v hc h2).fz hb hv⟩
theorem R1.fz{m:Nat}{q:Ty}{y:E}(hb:∀n,(β n).oneCell'=true)(hv:D9w P w F ρ β q y (β m)){c:V1}{v:Value}(h:R1 P w F ρ β c v):R1 P w (F.or fun k=>bk (β m)=some k) ρ β (c.fz m q y) v:=by
 cases c with
 |one c=>exact RC.fz hb hv h
 |agg cs=>obtain⟨vs,e,h⟩:=h;exact⟨vs,e,h.fz hb hv⟩
theorem RV.fz{m:Nat}{q:Ty}{y:E}(hb:∀n,(β n).oneCell'=true)(hv:D9w P w F ρ β q y (β m)){c:SV}{v:Value}(h:RV P w F ρ β c v):RV P w (F.or fun k=>bk (β m)=some k) ρ β (c.fz m q y) v:=by
 cases c with
 |one c=>exact RC.fz hb hv h
 |agg cs=>obtain⟨vs,e,h⟩:=h;exact⟨vs,e,h.fz hb hv⟩
 |tup l=>
  obtain⟨vs,e,hl,h⟩:=h
  refine⟨vs,e,by simp[hl],fun i c x h1 h2=>?_⟩
  rw[a8]at h1
  cases hc:l[i]? with
  |none=>simp[hc]at h1
  |some c0=>simp[hc]at h1;subst h1;exact(h i c0 x hc h2).fz hb hv
end
theorem A9z{α β:Type}(g:α→β)(t:Nat):∀(l:List (Nat × α)),(l.map fun p=>(p.1,g p.2)).lookup t=(l.lookup t).map g
 |[]=>rfl
 |(k,x)::l=>by
  simp only[bI,aJ]
  split
  ·rfl
  ·exact A9z g t l
theorem B3g.lt{w:World}{e:TypeId}{n:Nat}{v:Value}{len:Nat}{xs:List Value}(h:B3g w e n v len xs){k:Nat}(hk:bk v=some k):k<w.heap.size:=by
 obtain⟨hl,hr⟩:=h
 rcases hr with⟨⟨A,rfl⟩,hn⟩|⟨g,o1,cap,cur,rfl,hc0,hg,hle,_,hsz,htk⟩
 ·cases A<;>simp[bk]at hk
 ·rw[B1v hc0]at hk
  have hk':g=k:=by simpa using hk
  subst hk'
  rcases bS g w.heap.size with hlt|hge
  ·exact hlt
  ·rw[Array.getElem?_eq_none hge]at hg;cases hg
theorem F4y{P:Program}{w:World}{F:Fr}{ρ:List D}{β:Nat→Value}{e:TypeId}{y:E}{v:Value}(h:A1b P w F ρ β (.vec e y) v):∀k,bk v=some k→k<w.heap.size:=by
 obtain⟨ts,xs,hts,h,hx⟩:=h
 exact fun k hk=>h.lt hk
section
variable{X:Cx}{ρ:List D}{st:St}{Ft Ft':Fr}{β:Nat→Value}{a:Act}{w w':World}
theorem Sat.fz(hs:Sat X ρ st Ft β a w)(m:Nat):∃Ft',Le w Ft w Ft'∧Sat X ρ (st.fz m) Ft' β a w:=by
 unfold St.fz
 split
 ·rename_i e y hfz
  obtain⟨xb,hm,hv,hbm⟩:∃xb,st.bx.lookup m=some xb∧D9w X.P w Ft ρ β e y (β m)∧∀v,xb.bk v=Eng.bk v:=by
   cases hl:st.bx.lookup m with
   |none=>rw[hl]at hfz;cases hfz
   |some xb=>
    rw[hl]at hfz
    cases xb with
    |vec e' y'=>simp only[G8s,cK,d9]at hfz;obtain⟨rfl,rfl⟩:=hfz;exact⟨_,rfl,.inl ⟨_,rfl,hs.bx m _ hl⟩,fun v=>rfl⟩
    |map t' y'=>simp only[G8s,cK,d9]at hfz;obtain⟨rfl,rfl⟩:=hfz;exact⟨_,rfl,.inr ⟨_,rfl,hs.bx m _ hl⟩,fun v=>rfl⟩
    |box t' cs=>cases hfz
    |view t' a' c'=>cases hfz
  have hf:Le w Ft w (Ft.or fun k=>bk (β m)=some k):=Le.or fun k h=>rfl
  have hlk:∀n x,((st.bx.filter fun p=>p.1 != m).map fun p=>(p.1,Box.fz m e y p.2)).lookup n=some x→∃x',n≠m∧st.bx.lookup n=some x'∧x=x'.fz m e y:=by
   intro n x hx
   rw[A9z (Box.fz m e y)]at hx
   cases hq:(st.bx.filter fun p=>p.1 != m).lookup n with
   |none=>simp[hq]at hx
   |some x'=>simp[hq]at hx;exact⟨x',(A2b hq).1,(A2b hq).2,hx.symm⟩
  have hbk:∀(x:Box) (v:Value),(x.fz m e y).bk v=x.bk v:=fun x v=>by cases x<;>rfl
  refine⟨Ft.or fun k=>bk (β m)=some k,hf,hs.df,hs.sz,?_,?_,?_,?_,?_,hs.chg,hs.fs,hs.on,?_,hs.gx,hs.cf,?_,⟨fun b h=>.inl (hs.fw.1 b h),hs.fw.2⟩⟩
  ·rintro k (h|h)
   ·refine⟨(hs.ft k h).1,fun n x hx=>?_⟩
    obtain⟨x',hne,hx',rfl⟩:=hlk n x hx
    rw[hbk]
    exact(hs.ft k h).2 n x' hx'
   ·refine⟨(hs.own m _ k hm (by rw[hbm];exact h)).1,fun n x hx he=>?_⟩
    obtain⟨x',hne,hx',rfl⟩:=hlk n x hx
    rw[hbk]at he
    exact hne (hs.inj n m x' _ k hx' hm he (by rw[hbm];exact h))
  ·intro t sv ht
   rw[A9z (SV.fz m e y)]at ht
   cases hq:st.tm.lookup t with
   |none=>simp[hq]at ht
   |some sv'=>
    simp[hq]at ht;subst ht
    obtain⟨v,q1,q2⟩:=hs.tm t sv' hq
    exact⟨v,q1,q2.fz hs.on hv⟩
  ·intro n x hx
   obtain⟨x',hne,hx',rfl⟩:=hlk n x hx
   have hb:=hs.bx n x' hx'
   cases x' with
   |box t cs=>obtain⟨b,vs,q1,q2,q3⟩:=hb;exact⟨b,vs,q1,q2,q3.fz hs.on hv⟩
   |vec e' y'=>exact A1b.mono hf (fun k hk=>rfl) (fun n b t h _=>rfl) hb
   |view t x c=>exact A1b.mono hf (fun k hk=>rfl) (fun n b t h _=>rfl) hb
   |map t x=>exact A1b.mono hf (fun k hk=>rfl) (fun n b t h _=>rfl) hb
  ·intro n n' x x' k hx hx' h1 h2
   obtain⟨z,_,hz,rfl⟩:=hlk n x hx
   obtain⟨z',_,hz',rfl⟩:=hlk n' x' hx'
   rw[hbk]at h1 h2
   exact hs.inj n n' z z' k hz hz' h1 h2
  ·intro n x k hx hk
   obtain⟨z,_,hz,rfl⟩:=hlk n x hx
   rw[hbk]at hk
   exact hs.own n z k hz hk
  ·rintro b (h|h)
   ·exact hs.f0 b h
   ·rcases(hs.own m _ b hm (by rw[hbm];exact h)).2 with h|h
    ·exact .inr (.inr h)
    ·exact .inr (.inl h)
  ·refine hs.hg.move hf rfl (fun k hk=>⟨rfl,hk.1,(fun h=>h.elim hk.2.1 (fun h=>hk.2.2 m _ hm (by rw[hbm];exact h))),fun j x hx=>?_⟩) rfl rfl rfl
   obtain⟨z,_,hz,rfl⟩:=hlk j x hx
   rw[hbk]
   exact hk.2.2 j z hz
 ·exact⟨Ft,Le.same fun b h=>rfl,hs⟩
theorem Sat.D1f(hs:Sat X ρ st Ft β a w)(m:Nat):Sat X ρ (st.D1f m) Ft β a w:=by
 have hlk:∀n x,((st.bx.filter fun p=>p.1 != m).map fun p=>(p.1,Box.jk m p.2)).lookup n=some x→∃x',n≠m∧st.bx.lookup n=some x'∧x=x'.jk m:=by
  intro n x hx
  rw[A9z (Box.jk m)]at hx
  cases hq:(st.bx.filter fun p=>p.1 != m).lookup n with
  |none=>simp[hq]at hx
  |some x'=>simp[hq]at hx;exact⟨x',(A2b hq).1,(A2b hq).2,hx.symm⟩
 have hbk:∀(x:Box) (v:Value),(x.jk m).bk v=x.bk v:=fun x v=>by cases x<;>rfl
 have hup:A0q β m (β m)=β:=by funext n;unfold A0q;split<;>simp_all
 refine⟨hs.df,hs.sz,?_,?_,?_,?_,?_,hs.chg,hs.fs,hs.on,hs.f0,hs.gx,hs.cf,?_,hs.fw⟩
 ·intro k h
  refine⟨(hs.ft k h).1,fun n x hx=>?_⟩
  obtain⟨x',hne,hx',rfl⟩:=hlk n x hx
  rw[hbk]
  exact(hs.ft k h).2 n x' hx'
 ·intro t sv ht
  have ht':(st.tm.map fun p=>(p.1,SV.jk m p.2)).lookup t=some sv:=ht
  rw[A9z (SV.jk m)]at ht'
  cases hq:st.tm.lookup t with
  |none=>simp[hq]at ht'
  |some sv'=>
   simp[hq]at ht';subst ht'
   obtain⟨v,q1,q2⟩:=hs.tm t sv' hq
   refine⟨v,q1,?_⟩
   have:=q2.jk hs.on m (β m)
   rwa [hup]at this
 ·intro n x hx
  obtain⟨x',hne,hx',rfl⟩:=hlk n x hx
  have hb:=hs.bx n x' hx'
  cases x' with
  |box t cs=>
   obtain⟨b,vs,q1,q2,q3⟩:=hb
   have:=q3.jk hs.on m (β m)
   rw[hup]at this
   exact⟨b,vs,q1,q2,this⟩
  |vec e' y'=>exact hb
  |view t x c=>exact hb
  |map t x=>exact hb
 ·intro n n' x x' k hx hx' h1 h2
  obtain⟨z,_,hz,rfl⟩:=hlk n x hx
  obtain⟨z',_,hz',rfl⟩:=hlk n' x' hx'
  rw[hbk]at h1 h2
  exact hs.inj n n' z z' k hz hz' h1 h2
 ·intro n x k hx hk
  obtain⟨z,_,hz,rfl⟩:=hlk n x hx
  rw[hbk]at hk
  exact hs.own n z k hz hk
 ·refine hs.hg.less (fun n x hx=>?_) rfl rfl rfl
  obtain⟨z,_,hz,rfl⟩:=hlk n x hx
  exact⟨z,hz,.inl (hbk _ _)⟩
theorem Sat.A2u:∀(l:List Nat) {st:St},Sat X ρ st Ft β a w→Sat X ρ (st.A2u l) Ft β a w
 |[],st,hs=>hs
 |m::l,st,hs=>Sat.A2u l (hs.D1f m)
theorem H0z{st:St}{m n:Nat}{x:Box}(h:(st.D1f m).bx.lookup n=some x):n≠m∧∃y,st.bx.lookup n=some y∧x=y.jk m:=by
 have h':((st.bx.filter fun p=>p.1 != m).map fun p=>(p.1,Box.jk m p.2)).lookup n=some x:=h
 rw[A9z (Box.jk m)]at h'
 cases hq:(st.bx.filter fun p=>p.1 != m).lookup n with
 |none=>simp[hq]at h'
 |some x'=>simp[hq]at h';exact⟨(A2b hq).1,x',(A2b hq).2,h'.symm⟩
theorem A8y:∀(l:List Nat) {st:St} {n:Nat} {x:Box},(st.A2u l).bx.lookup n=some x→n ∉ l∧∃y,st.bx.lookup n=some y∧(∀v,x.bk v=y.bk v)∧((∃t a c,x=.view t a c)→x=y)
 |[],st,n,x,h=>⟨by simp,x,h,fun v=>rfl,fun _=>rfl⟩
 |m::l,st,n,x,h=>by
  obtain⟨h1,y,h2,h3,h4⟩:=A8y l (st:=st.D1f m) h
  obtain⟨q1,z,q2,rfl⟩:=H0z h2
  refine⟨by simp[h1,q1],z,q2,fun v=>by rw[h3];cases z<;>rfl,fun hv=>?_⟩
  have:=h4 hv
  rw[this]
  obtain⟨t,a,c,hx⟩:=hv
  rw[hx]at this
  cases z<;>simp[Box.jk]at this⊢
theorem B4r:∀(l:List Nat) (st:St),(st.A2u l).hp=st.hp∧(st.A2u l).ex=st.ex∧(st.A2u l).cf=st.cf∧(st.A2u l).nv=st.nv∧(st.A2u l).nn=st.nn∧(st.A2u l).fs=st.fs
 |[],st=>⟨rfl,rfl,rfl,rfl,rfl,rfl⟩
 |m::l,st=>B4r l (st.D1f m)
theorem G7n{st:St}{n:Nat}{t:TypeId}{x:E}{c:Nat}(h:st.bx.lookup n=some (.view t x c)):n ∈ st.views:=by
 unfold St.views
 exact b9.2 ⟨_,D0e h,rfl⟩
theorem H8n(st:St)(m:Nat):(st.fz m).nv=st.nv:=by unfold St.fz;split<;>rfl
theorem G5w:∀(l:List Nat) (st:St),(st.fzs l).nv=st.nv
 |[],st=>rfl
 |m::l,st=>by
  show((st.fz m).fzs l).nv=_
  rw[G5w l,H8n]
theorem Sat.fzs:∀(l:List Nat) {st:St} {Ft:Fr},Sat X ρ st Ft β a w→∃Ft',Le w Ft w Ft'∧Sat X ρ (st.fzs l) Ft' β a w
 |[],st,Ft,hs=>⟨Ft,Le.same fun b h=>rfl,hs⟩
 |m::l,st,Ft,hs=>by
  obtain⟨F1,h1,q1⟩:=hs.fz m
  obtain⟨F2,h2,q2⟩:=Sat.fzs l q1
  exact⟨F2,h1.trans h2,q2⟩
theorem F8o{st:St}{n:Nat}{t:TypeId}{x:E}{c0 len c:Nat}(h:st.bx.lookup n=some (.view t x c))(h1:c0≤c)(h2:c<c0+len):n ∈ st.A5a t c0 len:=by
 unfold St.A5a
 exact b9.2 ⟨_,D0e h,by simp[h1,h2]⟩
theorem Sat.E5b(hs:Sat X ρ st Ft β a w)(hfr:st.fresh=true){e:TypeId}{y:E}{v:Value}{w':World}(hb:Below w.heap.size w w')(hok:A1b X.P w' Ft ρ β (.vec e y) v)(hv:∀k,bk v=some k→w.heap.size≤k)(h1:v.oneCell'=true):
  Sat X ρ {st with bx:=(st.nn,.vec e y)::st.bx,nn:=st.nn+1} Ft (A0q β st.nn v) a w':=by
 simp only[St.fresh,bL,aE]at hfr
 obtain⟨hf1,hf2⟩:=hfr
 have hf:Le w Ft w' Ft:=Le.same fun b h=>hb.block b (hs.ft b h).1
 have hlk:∀n x,((st.nn,Box.vec e y)::st.bx).lookup n=some x→(n=st.nn∧x=.vec e y)∨(n≠st.nn∧st.bx.lookup n=some x):=by
  intro n x h
  rw[aJ]at h
  split at h
  ·rename_i he;simp at he h;exact .inl ⟨he,h.symm⟩
  ·rename_i he;simp at he;exact .inr ⟨he,h⟩
 refine⟨hs.df,hs.sz,?_,?_,?_,?_,?_,B9p hs.chg hb,hs.fs,?_,hs.f0,hs.gx,hs.cf,?_,hs.fw⟩
 rotate_right
 ·refine hs.hg.move hf rfl (fun k hk=>⟨hb.block k hk.1,bQ hk.1 hb.size,hk.2.1,fun n x hx=>?_⟩) rfl rfl rfl
  rcases hlk n x hx with⟨rfl,rfl⟩|⟨hne,hx'⟩
  ·intro he
   simp only[A0q,Q5,Box.A9s]at he
   have:=hv k he
   have:=hk.1
   omega
  ·simp only[A0q,hne,Q4]
   exact hk.2.2 n x hx'
 ·intro b h
  refine⟨bQ (hs.ft b h).1 hb.size,fun n x hx=>?_⟩
  rcases hlk n x hx with⟨rfl,rfl⟩|⟨hne,hx'⟩
  ·intro he
   simp only[A0q,Q5,Box.A9s]at he
   have:=hv b he
   have:=(hs.ft b h).1
   omega
  ·simp only[A0q,hne,Q4]
   exact(hs.ft b h).2 n x hx'
 ·intro t' sv ht
  obtain⟨v,q1,q2⟩:=hs.tm t' sv ht
  exact⟨v,q1,(q2.mono hf).A0q (hf1 _ (A0z ht))⟩
 ·intro n x hx
  rcases hlk n x hx with⟨rfl,rfl⟩|⟨hne,hx'⟩
  ·simp only[A0q,Q5]
   exact hok
  ·have hbo:=hs.bx n x hx'
   have hno:=(hf2 _ (A0z hx')).2
   have h1:A1b X.P w' Ft ρ β x (β n):=hbo.mono hf (fun k hk=>hb.block k (hs.own n x k hx' hk).1) (fun n b t h _=>hb.block b (hs.hg.gm n b t h).1)
   simp only[A0q,hne,Q4]
   cases x with
   |box t' cs'=>obtain⟨b,vs',q1,q2,q3⟩:=h1;exact⟨b,vs',q1,q2,q3.A0q hno⟩
   |vec e x=>exact h1
   |view t' x c=>exact h1
   |map t' x=>exact h1
 ·intro n m x y k hx hy h1 h2
  rcases hlk n x hx with⟨rfl,rfl⟩|⟨hne,hx'⟩<;>rcases hlk m y hy with⟨rfl,rfl⟩|⟨hne',hy'⟩
  ·rfl
  ·simp only[A0q,hne',Q5,Q4,Box.A9s]at h1 h2
   have:=hv k h1
   have:=(hs.own m y k hy' h2).1
   omega
  ·simp only[A0q,hne,Q5,Q4,Box.A9s]at h1 h2
   have:=hv k h2
   have:=(hs.own n x k hx' h1).1
   omega
  ·simp only[A0q,hne,hne',Q4]at h1 h2
   exact hs.inj n m x y k hx' hy' h1 h2
 ·intro n x k hx hk
  rcases hlk n x hx with⟨rfl,rfl⟩|⟨hne,hx'⟩
  ·simp only[A0q,Q5,Box.A9s]at hk
   exact⟨F4y hok k hk,.inr (bX hs.chg.size (hv k hk))⟩
  ·simp only[A0q,hne,Q4]at hk
   have:=hs.own n x k hx' hk
   exact⟨bQ this.1 hb.size,this.2⟩
 ·intro n
  unfold A0q
  split
  ·exact h1
  ·exact hs.on n
theorem H6o{P:Program}{F:Fr}{t:TypeId}{y:E}{v:Value}{w:World}{ρ:List D}{β:Nat→Value}(h:A1b P w F ρ β (.map t y) v)(k:Nat)(hk:bk v=some k):k<w.heap.size:=by
 obtain⟨b,_,_,_,_,_,_,es,v1,_,_,_,_,_,v7,_⟩:=h
 rw[v1]at hk
 simp[bk]at hk
 subst hk
 exact(cY.1 v7).1
theorem Sat.H7b(hs:Sat X ρ st Ft β a w)(hfr:st.fresh=true){t0:TypeId}{y:E}{v:Value}{w':World}(hb:Below w.heap.size w w')(hok:A1b X.P w' Ft ρ β (.map t0 y) v)(hv:∀k,bk v=some k→w.heap.size≤k)(h1:v.oneCell'=true):
  Sat X ρ {st with bx:=(st.nn,.map t0 y)::st.bx,nn:=st.nn+1} Ft (A0q β st.nn v) a w':=by
 simp only[St.fresh,bL,aE]at hfr
 obtain⟨hf1,hf2⟩:=hfr
 have hf:Le w Ft w' Ft:=Le.same fun b h=>hb.block b (hs.ft b h).1
 have hlk:∀n x,((st.nn,Box.map t0 y)::st.bx).lookup n=some x→(n=st.nn∧x=.map t0 y)∨(n≠st.nn∧st.bx.lookup n=some x):=by
  intro n x h
  rw[aJ]at h
  split at h
  ·rename_i he;simp at he h;exact .inl ⟨he,h.symm⟩
  ·rename_i he;simp at he;exact .inr ⟨he,h⟩
 refine⟨hs.df,hs.sz,?_,?_,?_,?_,?_,B9p hs.chg hb,hs.fs,?_,hs.f0,hs.gx,hs.cf,?_,hs.fw⟩
 rotate_right
 ·refine hs.hg.move hf rfl (fun k hk=>⟨hb.block k hk.1,bQ hk.1 hb.size,hk.2.1,fun n x hx=>?_⟩) rfl rfl rfl
  rcases hlk n x hx with⟨rfl,rfl⟩|⟨hne,hx'⟩
  ·intro he
   simp only[A0q,Q5,Box.D4y]at he
   have:=hv k he
   have:=hk.1
   omega
  ·simp only[A0q,hne,Q4]
   exact hk.2.2 n x hx'
 ·intro b h
  refine⟨bQ (hs.ft b h).1 hb.size,fun n x hx=>?_⟩
  rcases hlk n x hx with⟨rfl,rfl⟩|⟨hne,hx'⟩
  ·intro he
   simp only[A0q,Q5,Box.D4y]at he
   have:=hv b he
   have:=(hs.ft b h).1
   omega
  ·simp only[A0q,hne,Q4]
   exact(hs.ft b h).2 n x hx'
 ·intro t' sv ht
  obtain⟨v,q1,q2⟩:=hs.tm t' sv ht
  exact⟨v,q1,(q2.mono hf).A0q (hf1 _ (A0z ht))⟩
 ·intro n x hx
  rcases hlk n x hx with⟨rfl,rfl⟩|⟨hne,hx'⟩
  ·simp only[A0q,Q5]
   exact hok
  ·have hbo:=hs.bx n x hx'
   have hno:=(hf2 _ (A0z hx')).2
   have h1:A1b X.P w' Ft ρ β x (β n):=hbo.mono hf (fun k hk=>hb.block k (hs.own n x k hx' hk).1) (fun n b t h _=>hb.block b (hs.hg.gm n b t h).1)
   simp only[A0q,hne,Q4]
   cases x with
   |box t' cs'=>obtain⟨b,vs',q1,q2,q3⟩:=h1;exact⟨b,vs',q1,q2,q3.A0q hno⟩
   |vec e x=>exact h1
   |view t' x c=>exact h1
   |map t' x=>exact h1
 ·intro n m x y k hx hy h1 h2
  rcases hlk n x hx with⟨rfl,rfl⟩|⟨hne,hx'⟩<;>rcases hlk m y hy with⟨rfl,rfl⟩|⟨hne',hy'⟩
  ·rfl
  ·simp only[A0q,hne',Q5,Q4,Box.D4y]at h1 h2
   have:=hv k h1
   have:=(hs.own m y k hy' h2).1
   omega
  ·simp only[A0q,hne,Q5,Q4,Box.D4y]at h1 h2
   have:=hv k h2
   have:=(hs.own n x k hx' h1).1
   omega
  ·simp only[A0q,hne,hne',Q4]at h1 h2
   exact hs.inj n m x y k hx' hy' h1 h2
 ·intro n x k hx hk
  rcases hlk n x hx with⟨rfl,rfl⟩|⟨hne,hx'⟩
  ·simp only[A0q,Q5,Box.D4y]at hk
   exact⟨H6o hok k hk,.inr (bX hs.chg.size (hv k hk))⟩
  ·simp only[A0q,hne,Q4]at hk
   have:=hs.own n x k hx' hk
   exact⟨bQ this.1 hb.size,this.2⟩
 ·intro n
  unfold A0q
  split
  ·exact h1
  ·exact hs.on n
theorem Sat.H3c(hs:Sat X ρ st Ft β a w){m:Nat}{e e0:TypeId}{y0 y:E}(hm:st.bx.lookup m=some (.vec e0 y0)){v:Value}(hok:A1b X.P w' Ft ρ β (.vec e y) v)(hg:w.grownBy w' (bk (β m)))(hnew:∀k,bk v=some k→(bk (β m)=some k∨k=w.heap.size))(h1:v.oneCell'=true):
  Sat X ρ (st.grow m e y) Ft (A0q β m v) a w':=by
 have hfar:∀k,k<w.heap.size→bk (β m)≠some k→w'.heap[k]?=w.heap[k]?:=fun k hk hn=>hg.block k hk (fun he=>hn he.symm)
 have hf:Le w Ft w' Ft:=Le.same fun b h=>hfar b (hs.ft b h).1 (fun he=>(hs.ft b h).2 m _ hm he)
 have hbk:∀(x:Box) (v:Value),(x.jk m).bk v=x.bk v:=fun x v=>by cases x<;>rfl
 have hlk:∀n x,((m,Box.vec e y)::(st.bx.filter fun p=>p.1 != m).map fun p=>(p.1,Box.jk m p.2)).lookup n=some x→(n=m∧x=.vec e y)∨∃x',n≠m∧st.bx.lookup n=some x'∧x=x'.jk m:=by
  intro n x h
  rw[aJ]at h
  split at h
  ·rename_i he;simp at he h;exact .inl ⟨he,h.symm⟩
  ·rw[A9z (Box.jk m)]at h
   cases hq:(st.bx.filter fun p=>p.1 != m).lookup n with
   |none=>simp[hq]at h
   |some x'=>simp[hq]at h;exact .inr ⟨x',(A2b hq).1,(A2b hq).2,h.symm⟩
 refine⟨hs.df,hs.sz,?_,?_,?_,?_,?_,?_,hs.fs,?_,hs.f0,hs.gx,hs.cf,?_,hs.fw⟩
 rotate_right
 ·refine hs.hg.move hf rfl (fun k hk=>⟨hfar k hk.1 (fun he=>hk.2.2 m _ hm he),bQ hk.1 hg.size,hk.2.1,fun n x hx he=>?_⟩) rfl rfl rfl
  rcases hlk n x hx with⟨rfl,rfl⟩|⟨x',hne,hx',rfl⟩
  ·simp only[A0q,Q5,Box.A9s]at he
   rcases hnew k he with h'|h'
   ·exact hk.2.2 _ _ hm h'
   ·have:=hk.1;omega
  ·simp only[A0q,hne,Q4,hbk]at he
   exact hk.2.2 n x' hx' he
 ·intro b h
  refine⟨bQ (hs.ft b h).1 hg.size,fun n x hx he=>?_⟩
  rcases hlk n x hx with⟨rfl,rfl⟩|⟨x',hne,hx',rfl⟩
  ·simp only[A0q,Q5,Box.A9s]at he
   rcases hnew b he with h'|h'
   ·exact(hs.ft b h).2 _ _ hm h'
   ·have:=(hs.ft b h).1;omega
  ·simp only[A0q,hne,Q4,hbk]at he
   exact(hs.ft b h).2 n x' hx' he
 ·intro t sv ht
  have ht':(st.tm.map fun p=>(p.1,SV.jk m p.2)).lookup t=some sv:=ht
  rw[A9z (SV.jk m)]at ht'
  cases hq:st.tm.lookup t with
  |none=>simp[hq]at ht'
  |some sv'=>
   simp[hq]at ht';subst ht'
   obtain⟨u,q1,q2⟩:=hs.tm t sv' hq
   exact⟨u,q1,(q2.mono hf).jk hs.on m v⟩
 ·intro n x hx
  rcases hlk n x hx with⟨rfl,rfl⟩|⟨x',hne,hx',rfl⟩
  ·simp only[A0q,Q5]
   exact hok
  ·have h2:A1b X.P w' Ft ρ β x' (β n):=(hs.bx n x' hx').mono hf (fun k hk=>hfar k (hs.own n x' k hx' hk).1 (fun he=>hne (hs.inj n m x' _ k hx' hm hk he))) (fun n b t h _=>hfar b (hs.hg.gm n b t h).1 (fun he=>(hs.hg.gm n b t h).2.2 m _ hm he))
   simp only[A0q,hne,Q4]
   cases x' with
   |box t' cs'=>obtain⟨b,vs',q1,q2,q3⟩:=h2;exact⟨b,vs',q1,q2,q3.jk hs.on m v⟩
   |vec e x=>exact h2
   |view t' x c=>exact h2
   |map t' x=>exact h2
 ·intro n n' x x' k hx hx' e1 e2
  rcases hlk n x hx with⟨rfl,rfl⟩|⟨z,hne,hz,rfl⟩<;>rcases hlk n' x' hx' with⟨rfl,rfl⟩|⟨z',hne',hz',rfl⟩
  ·rfl
  ·simp only[A0q,hne',Q5,Q4,Box.A9s,hbk]at e1 e2
   rcases hnew k e1 with h'|h'
   ·exact absurd (hs.inj n' n z' _ k hz' hm e2 h') hne'
   ·have:=(hs.own n' z' k hz' e2).1;omega
  ·simp only[A0q,hne,Q5,Q4,Box.A9s,hbk]at e1 e2
   rcases hnew k e2 with h'|h'
   ·exact absurd (hs.inj n n' z _ k hz hm e1 h') hne
   ·have:=(hs.own n z k hz e1).1;omega
  ·simp only[A0q,hne,hne',Q4,hbk]at e1 e2
   exact hs.inj n n' z z' k hz hz' e1 e2
 ·intro n x k hx hk
  rcases hlk n x hx with⟨rfl,rfl⟩|⟨x',hne,hx',rfl⟩
  ·simp only[A0q,Q5,Box.A9s]at hk
   refine⟨F4y hok k hk,?_⟩
   rcases hnew k hk with h'|h'
   ·exact(hs.own _ _ k hm h').2
   ·exact .inr (by rw[h'];exact hs.chg.size)
  ·simp only[A0q,hne,Q4,hbk]at hk
   have:=hs.own n x' k hx' hk
   exact⟨bQ this.1 hg.size,this.2⟩
 ·exact G3z hs.chg hg (fun x hx=>(hs.own _ _ x hm hx).2)
 ·intro n
  unfold A0q
  split
  ·exact h1
  ·exact hs.on n
theorem Sat.grow(hs:Sat X ρ st Ft β a w){m:Nat}{e e0:TypeId}{y0 y:E}(hm:st.bx.lookup m=some (.vec e0 y0)){v:Value}(hok:A1b X.P w' Ft ρ β (.vec e y) v)(hg:w.grownBy w' (bk (β m)))(hv:bk v=bk (β m)∨bk v=some w.heap.size)(h1:v.oneCell'=true):
  Sat X ρ (st.grow m e y) Ft (A0q β m v) a w':=by
 have hnew:∀k,bk v=some k→(bk (β m)=some k∨k=w.heap.size):=by
  intro k hk
  rcases hv with hv|hv
  ·exact .inl (by rw[←hv];exact hk)
  ·rw[hv]at hk;exact .inr (by simpa using hk.symm)
 exact hs.H3c hm hok hg hnew h1
theorem Sat.H7o(hs:Sat X ρ st Ft β a w){m:Nat}{e e0:TypeId}{y0 y:E}(hm:st.bx.lookup m=some (.vec e0 y0)){b:Nat}(hb:bk (β m)=some b)(cs:Array Value)(hok:A1b X.P (w.setRow b cs) Ft ρ β (.vec e y) (β m)):
  Sat X ρ {st with bx:=(m,.vec e y)::st.bx} Ft β a (w.setRow b cs):=by
 have hsz:(w.setRow b cs).heap.size=w.heap.size:=by simp[dB]
 have hf:Le w Ft (w.setRow b cs) Ft:=Le.same fun k h=>A1m w b _ (fun e=>(hs.ft k h).2 m _ hm (by rw[Box.A9s,hb,e]))
 have hoth:∀k,Oth st.bx Ft β w k→k≠b:=fun k hk e=>hk.2.2 m _ hm (by rw[Box.A9s,hb,e])
 have hlk:∀n x,((m,Box.vec e y)::st.bx).lookup n=some x→(n=m∧x=.vec e y)∨(n≠m∧st.bx.lookup n=some x):=by
  intro n x h
  rw[aJ]at h
  split at h
  ·rename_i he;simp at he h;exact .inl ⟨he,h.symm⟩
  ·rename_i he;simp at he;exact .inr ⟨he,h⟩
 have hsome:∀n x,((m,Box.vec e y)::st.bx).lookup n=some x→∃x',st.bx.lookup n=some x'∧x.bk (β n)=x'.bk (β n):=by
  intro n x h
  rcases hlk n x h with⟨rfl,rfl⟩|⟨_,h⟩
  ·exact⟨_,hm,rfl⟩
  ·exact⟨_,h,rfl⟩
 refine⟨hs.df,hs.sz,?_,?_,?_,?_,?_,?_,hs.fs,hs.on,hs.f0,hs.gx,hs.cf,?_,hs.fw⟩
 rotate_right
 ·refine hs.hg.move hf rfl (fun k hk=>⟨A1m w b _ (hoth k hk),by rw[hsz];exact hk.1,hk.2.1,fun n x hx=>?_⟩) rfl rfl rfl
  obtain⟨x',hx',e⟩:=hsome n x hx
  rw[e]
  exact hk.2.2 n x' hx'
 ·intro k h
  refine⟨by rw[hsz];exact(hs.ft k h).1,fun n x hx=>?_⟩
  obtain⟨x',hx',e⟩:=hsome n x hx
  rw[e]
  exact(hs.ft k h).2 n x' hx'
 ·intro t sv ht
  obtain⟨v,q1,q2⟩:=hs.tm t sv ht
  exact⟨v,q1,q2.mono hf⟩
 ·intro n x hx
  rcases hlk n x hx with⟨rfl,rfl⟩|⟨hne,hx'⟩
  ·exact hok
  ·refine(hs.bx n x hx').mono hf (fun k hk=>A1m w b _ (fun he=>?_)) (fun n b' t h _=>A1m w b _ (hoth b' (hs.hg.gm n b' t h)))
   subst he
   exact hne (hs.inj n m x _ _ hx' hm hk hb)
 ·intro n n' x x' k hx hx' h1 h2
  obtain⟨z,q1,e1⟩:=hsome n x hx
  obtain⟨z',q2,e2⟩:=hsome n' x' hx'
  exact hs.inj n n' z z' k q1 q2 (by rw[←e1];exact h1) (by rw[←e2];exact h2)
 ·intro n x k hx hk
  obtain⟨z,q1,e1⟩:=hsome n x hx
  rw[hsz]
  exact hs.own n z k q1 (by rw[←e1];exact hk)
 ·refine⟨hs.chg.os,hs.chg.tape,hs.chg.output,by rw[hsz];exact hs.chg.size,fun k hk hn=>?_⟩
  rw[A1m w b _ (fun he=>?_)]
  ·exact hs.chg.block k hk hn
  ·subst he
   rcases(hs.own m _ _ hm hb).2 with h|h
   ·exact hn h
   ·omega
theorem A7u{α:Type}{l:List (Nat × α)}{n m:Nat}{x y:α}(h:((m,y)::l).lookup n=some x):(n=m∧x=y)∨(n≠m∧l.lookup n=some x):=by
 rw[aJ]at h
 split at h
 ·rename_i he;simp at he h;exact .inl ⟨he,h.symm⟩
 ·rename_i he;simp at he;exact .inr ⟨he,h⟩
theorem Sat.F3x(hs:Sat X ρ st Ft β a w)(hfr:st.fresh=true){x:Box}{v:Value}(hok:A1b X.P w Ft ρ β x v)(hx:∀t cs,x≠.box t cs)(h1:v.oneCell'=true)
  (hv:∀k,x.bk v=some k→k<w.heap.size∧(k ∈ X.S∨X.w0.heap.size≤k)∧¬Ft k∧∀j y,st.bx.lookup j=some y→y.bk (β j)≠some k)
  (hg:Hg X ρ {st with bx:=(st.nn,x)::st.bx,nn:=st.nn+1} Ft (A0q β st.nn v) w):Sat X ρ {st with bx:=(st.nn,x)::st.bx,nn:=st.nn+1} Ft (A0q β st.nn v) a w:=by
 simp only[St.fresh,bL,aE]at hfr
 obtain⟨hf1,hf2⟩:=hfr
 have hnew:(A0q β st.nn v) st.nn=v:=by simp[A0q]
 have hold:∀n,n≠st.nn→A0q β st.nn v n=β n:=fun n hn=>by simp[A0q,hn]
 refine⟨hs.df,hs.sz,?_,?_,?_,?_,?_,hs.chg,hs.fs,?_,hs.f0,hs.gx,hs.cf,hg,hs.fw⟩
 ·intro b hb
  refine⟨(hs.ft b hb).1,fun n y hy he=>?_⟩
  rcases A7u hy with⟨rfl,rfl⟩|⟨hne,hy⟩
  ·rw[hnew]at he;exact(hv b he).2.2.1 hb
  ·rw[hold n hne]at he;exact(hs.ft b hb).2 n y hy he
 ·intro t sv ht
  obtain⟨u,q1,q2⟩:=hs.tm t sv ht
  exact⟨u,q1,q2.A0q (hf1 _ (A0z ht))⟩
 ·intro n y hy
  rcases A7u hy with⟨rfl,rfl⟩|⟨hne,hy⟩
  ·rw[hnew];exact hok.beta hx
  ·rw[hold n hne]
   have hb:=hs.bx n y hy
   have hno:=(hf2 _ (A0z hy)).2
   cases y with
   |box t cs=>obtain⟨b,vs,q1,q2,q3⟩:=hb;exact⟨b,vs,q1,q2,q3.A0q hno⟩
   |vec e y=>exact hb
   |view t y c=>exact hb
   |map t y=>exact hb
 ·intro n m y z k hy hz h1 h2
  rcases A7u hy with⟨rfl,rfl⟩|⟨hne,hy1⟩<;>rcases A7u hz with⟨rfl,rfl⟩|⟨hne',hz1⟩
  ·rfl
  ·rw[hnew]at h1;rw[hold m hne']at h2;exact absurd h2 ((hv k h1).2.2.2 m z hz1)
  ·rw[hnew]at h2;rw[hold n hne]at h1;exact absurd h1 ((hv k h2).2.2.2 n y hy1)
  ·rw[hold n hne]at h1;rw[hold m hne']at h2;exact hs.inj n m y z k hy1 hz1 h1 h2
 ·intro n y k hy hk
  rcases A7u hy with⟨rfl,rfl⟩|⟨hne,hy⟩
  ·rw[hnew]at hk;exact⟨(hv k hk).1,(hv k hk).2.1⟩
  ·rw[hold n hne]at hk;exact hs.own n y k hy hk
 ·intro n
  unfold A0q
  split
  ·exact h1
  ·exact hs.on n
def A9d(b L:Nat)(g:Nat→List Nat):List Nat:=b::(aK L).flatMap g
theorem A5b{b L:Nat}{g:Nat→List Nat}(k:Nat):k ∈ A9d b L g↔k=b∨∃i,i<L∧k ∈ g i:=by
 unfold A9d
 simp[bD]
theorem Sat.B2u(hs:Sat X ρ st Ft β a w){m:Nat}{e ot:TypeId}{c x h:E}{j:Nat}(hm:st.bx.lookup m=some (.view ot x j))(hro:rowOf X.P st m=some (e,c))(hhp:st.hp=some (true,h)):Sat X ρ (st.B2u m e c ot x j) Ft β a w:=by
 have hvec:=A6n hs hro
 obtain⟨n,b,vs,v1,v2,v3,v4⟩:=hs.bx _ _ hm
 obtain⟨φ,q1,q2⟩:=hs.hg.hp _ _ hhp
 obtain⟨vs',os,g,o1,o2,o3,o4,o5,o6,o7,o8⟩:=q1.obj n b ot v2
 rw[v3]at o1
 have hvs:vs=vs':=by simpa using o1
 subst hvs
 have hrow:os[j]?=some (.row false e)∧(exN ρ st.ex).contains (n,j)=false:=by
  unfold rowOf at hro
  rw[hm,hhp]at hro
  simp only[o2]at hro
  split at hro
  ·rename_i e' hj
   split at hro
   ·cases hro
   ·rename_i hex
    cases hro
    exact⟨hj,D6u (by simpa using hex)⟩
  ·cases hro
 obtain⟨hj,hex⟩:=hrow
 have hjl:j<os.length:=(a4.1 hj).1
 have hd:((den ρ h).toL.getD n .nil).toL[j]?=some (((den ρ h).toL.getD n .nil).toL[j]'(by omega)):=a0 _
 have hgj:g j=(bk (β m)).toList:=by
  have:=o5 j _ _ _ hj hd v4
  simp only[hex,bM,Q4]at this
  generalize g j=S at this
  cases this
  rfl
 have hbm:∀k,bk (β m)=some k→k ∈ φ n:=fun k hk=>(o6 k).2 (.inr ⟨j,hjl,by rw[hgj,hk];simp⟩)
 have hnl:n<Ft.γ.length:=(a4.1 v2).1
 have hs1:=hs.A2u ((st.A5a ot j 1).filter fun n=>n != m)
 have hbx:∀n' y,((m,Box.vec e c)::(st.A2u ((st.A5a ot j 1).filter fun n=>n != m)).bx).lookup n'=some y→(n'=m∧y=.vec e c)∨(n'≠m∧(st.A2u ((st.A5a ot j 1).filter fun n=>n != m)).bx.lookup n'=some y∧∃z,st.bx.lookup n'=some z∧y.bk (β n')=z.bk (β n')):=by
  intro n' y hy
  rw[aJ]at hy
  split at hy
  ·rename_i he;simp at he hy;exact .inl ⟨he,hy.symm⟩
  ·rename_i he
   simp at he
   obtain⟨_,z,hz,h3,_⟩:=A8y _ hy
   exact .inr ⟨he,hy,z,hz,h3 _⟩
 obtain⟨hl1,hl2,hl3,hl4,hl5,hl6⟩:=B4r ((st.A5a ot j 1).filter fun n=>n != m) st
 refine⟨hs1.df,hs1.sz,?_,hs1.tm,?_,?_,?_,hs1.chg,hs1.fs,hs1.on,hs1.f0,hs1.gx,hs1.cf,?_,hs1.fw⟩
 ·intro k hk
  refine⟨(hs.ft k hk).1,fun n' y hy he=>?_⟩
  rcases hbx n' y hy with⟨rfl,rfl⟩|⟨_,_,z,hz,hq⟩
  ·exact(q1.far n k (hbm k he)).2 hk
  ·rw[hq]at he;exact(hs.ft k hk).2 n' z hz he
 ·intro n' y hy
  rcases hbx n' y hy with⟨rfl,rfl⟩|⟨_,hy',_⟩
  ·exact hvec
  ·exact hs1.bx n' y hy'
 ·intro n' n'' y y' k hy hy' h1 h2
  rcases hbx n' y hy with⟨rfl,rfl⟩|⟨hne,_,z,hz,hq⟩<;>rcases hbx n'' y' hy' with⟨rfl,rfl⟩|⟨hne',_,z',hz',hq'⟩
  ·rfl
  ·rw[hq']at h2;exact absurd h2 ((q2 n k (hbm k h1)).2 _ _ hz')
  ·rw[hq]at h1;exact absurd h1 ((q2 n k (hbm k h2)).2 _ _ hz)
  ·rw[hq]at h1;rw[hq']at h2;exact hs.inj _ _ z z' k hz hz' h1 h2
 ·intro n' y k hy hk
  rcases hbx n' y hy with⟨rfl,rfl⟩|⟨_,_,z,hz,hq⟩
  ·exact⟨(q1.far n k (hbm k hk)).1,(q2 n k (hbm k hk)).1 rfl⟩
  ·rw[hq]at hk;exact hs.own n' z k hz hk
 ·have hdj:∀k,bk (β m)=some k→∀(n' b':Nat) (t':TypeId),Ft.γ[n']?=some (b',t')→b'≠k:=by
   intro k hk n' b' t' hn' he
   subst he
   obtain⟨_,_,_,_,_,_,_,_,p6,p7,_⟩:=q1.obj n' _ t' hn'
   have hin:b' ∈ φ n':=(p6 b').2 (.inl rfl)
   have:=q1.dis n' n b' hin (hbm b' hk)
   subst this
   rw[v2]at hn';cases hn'
   exact o7 j hjl (by rw[hgj,hk];simp)
  refine⟨?_,?_⟩
  ·intro m' e' he'
   have he2:(st.A2u ((st.A5a ot j 1).filter fun n=>n != m)).hp=some (m',e'):=he'
   rw[hl1,hhp]at he2
   cases he2
   let g':Nat→List Nat:=fun i=>if i=j then[]else g i
   have hg':∀i k,k ∈ g' i→i≠j∧k ∈ g i:=by
    intro i k hk
    simp only[g']at hk
    split at hk
    ·simp at hk
    ·rename_i hne;exact⟨hne,hk⟩
   have hsub:∀n' k,k ∈ (if n'=n then A9d b os.length g' else φ n')→k ∈ φ n':=by
    intro n' k hk
    split at hk
    ·rename_i he;subst he
     rcases(A5b k).1 hk with h|⟨i,hi,hk'⟩
     ·exact(o6 k).2 (.inl h)
     ·exact(o6 k).2 (.inr ⟨i,hi,(hg' i k hk').2⟩)
    ·exact hk
   have hexn:exN ρ ((j,ot,x)::(st.A2u ((st.A5a ot j 1).filter fun n=>n != m)).ex)=(n,j)::exN ρ st.ex:=by
    rw[hl2];simp[exN,v1]
   refine⟨fun n'=>if n'=n then A9d b os.length g' else φ n',⟨q1.len,?_,fun n' n'' k h1 h2=>q1.dis n' n'' k (hsub n' k h1) (hsub n'' k h2),fun n' k hk=>q1.far n' k (hsub n' k hk),fun n' hn'=>?_⟩,?_⟩
   ·intro n' b' t' hn'
    show B5a X.P w Ft (st.A2u ((st.A5a ot j 1).filter fun n=>n != m)).cf.ob (fun c=>(exN ρ ((j,ot,x)::(st.A2u ((st.A5a ot j 1).filter fun n=>n != m)).ex)).contains (n',c)) t' b' ((den ρ h).toL.getD n' .nil) _
    rw[hl3,hexn]
    by_cases he:n'=n
    ·subst he
     rw[v2]at hn';cases hn'
     rw[Q3 rfl]
     refine⟨vs,os,g',v3,o2,o3,o4,fun i o y u a1 a2 a3=>?_,fun k=>A5b k,fun i hi hk=>o7 i hi (hg' i _ hk).2,fun i i' k hi hi' h1 h2=>o8 i i' k hi hi' (hg' i k h1).2 (hg' i' k h2).2⟩
     have:=o5 i o y u a1 a2 a3
     by_cases hij:i=j
     ·subst hij
      rw[hj]at a1;cases a1
      have hc:((n',i)::exN ρ st.ex).contains (n',i)=true:=by simp
      simp only[hex,bM,Q4]at this
      show if((n',i)::exN ρ st.ex).contains (n',i)=true then _ else _
      rw[Q3 hc]
      exact⟨B5a.one this,by simp[g'],_,e,rfl⟩
     ·have hc:((n',j)::exN ρ st.ex).contains (n',i)=(exN ρ st.ex).contains (n',i):=by
       simp only[bA]
       have:((n',i) == (n',j))=false:=by simpa using hij
       rw[this];simp
      show if((n',j)::exN ρ st.ex).contains (n',i)=true then _ else _
      rw[hc]
      simp only[g',Q0 hij]
      exact this
    ·rw[Q0 he]
     obtain⟨p1,p2,p3,p4,p5,p6,p7,p8,p9⟩:=q1.obj n' b' t' hn'
     refine⟨p1,p2,p3,p4,p5,p6,p7,fun i o y u a1 a2 a3=>?_,p9⟩
     have:=p8 i o y u a1 a2 a3
     have hc:((n,j)::exN ρ st.ex).contains (n',i)=(exN ρ st.ex).contains (n',i):=by
      simp only[bA]
      have:((n',i) == (n,j))=false:=by simp[he]
      rw[this];simp
     show if((n,j)::exN ρ st.ex).contains (n',i)=true then _ else _
     rw[hc];exact this
   ·rw[Q0 (by omega)];exact q1.out n' hn'
   ·intro n' k hk
    refine⟨(q2 n' k (hsub n' k hk)).1,fun n'' y hy he=>?_⟩
    rcases hbx n'' y hy with⟨rfl,rfl⟩|⟨_,_,z,hz,hq⟩
    ·have he':bk (β n'')=some k:=he
     have h1:=q1.dis n' n k (hsub n' k hk) (hbm k he')
     subst h1
     have hk:k ∈ A9d b os.length g':=by simpa using hk
     have hkj:k ∈ g j:=by rw[hgj,he'];simp
     rcases(A5b k).1 hk with h|⟨i,hi,hk'⟩
     ·subst h;exact o7 j hjl hkj
     ·exact(hg' i k hk').1 (o8 i j k hi hjl (hg' i k hk').2 hkj)
    ·rw[hq]at he;exact(q2 n' k (hsub n' k hk)).2 n'' z hz he
  ·intro n' b' t' hn'
   obtain⟨g1,g2,g3⟩:=hs.hg.gm n' b' t' hn'
   refine⟨g1,g2,fun n'' y hy he=>?_⟩
   rcases hbx n'' y hy with⟨rfl,rfl⟩|⟨_,_,z,hz,hq⟩
   ·exact hdj b' he n' b' t' hn' rfl
   ·rw[hq]at he;exact g3 n'' z hz he
end
end Go.Proofs.YtckanieeocdpbaaGreat.Eng
namespace Go.Proofs.YtckanieeocdpbaaGreat.Eng
open Go.RowKit
set_option linter.unusedVariables false
set_option linter.unusedSimpArgs false
theorem G4m{ρ:List D}:∀(c d:E),(den ρ (mkApp c d)).toL=(den ρ c).toL++(den ρ d).toL:=by
 intro c
 induction c with
 |A4p=>intro d;simp[mkApp,den]
 |A3c a b _ ih=>intro d;simp[mkApp,den,ih]
 |_=>intro d;unfold mkApp;split<;>simp_all [den]
theorem D1s{P:Program}{e:TypeId}{bytes:Nat}(h:D7p P e=some bytes):∃i z ts,P.info? e=some i∧i.zero=some z∧A0r P e=some ts∧z.cells.size=i.size∧0<i.size∧ts.length=i.size∧i.bytes=bytes:=by
 unfold D7p at h
 split at h
 ·rename_i i ts hi hts
  split at h
  ·rename_i z hz
   split at h
   ·rename_i hc
    simp at h
    exact⟨i,z,ts,hi,hz,hts,hc.1,hc.2.1,hc.2.2,h⟩
   ·cases h
  ·cases h
 ·cases h
theorem E1w{n bytes:Nat}(h:n≤C1d bytes):n*bytes≤140737488355328∧n≤140737488355328:=by
 unfold C1d at h
 have hp:0<max bytes 1:=by omega
 have h1:=(Nat.le_div_iff_mul_le hp).1 h
 have h2:n*bytes≤n*max bytes 1:=c9 _ (by omega)
 have h3:n*1≤n*max bytes 1:=c9 _ (by omega)
 omega
section
variable{P:Program}{w:World}{F:Fr}{ρ:List D}{β:Nat→Value}
def E2u(P:Program)(w:World)(F:Fr)(ts:List Ty)(d:D)(xs:List Value):Prop:=
 ∀i c y t,d.toL[i]?=some y→ts[c]?=some t→∃u,xs[i*ts.length+c]?=some u∧Rd P w F t (cellOf ts.length y c) u
theorem E2u.one{ts:List Ty}{d:D}{xs:List Value}(h:E2u P w F ts d xs)(hl:xs.length=d.toL.length*ts.length):∀u ∈ xs,u.oneCell'=true:=by
 intro u hu
 obtain⟨j,hj⟩:=aO hu
 have hlt:=(a4.1 hj).1
 have hp:0<ts.length:=by
  rcases bV ts.length with h0|h0
  ·rw[hl,h0]at hlt;simp at hlt
  ·exact h0
 have hi:j/ts.length<d.toL.length:=by
  rw[c7 hp];omega
 have hc:j%ts.length<ts.length:=bY _ hp
 obtain⟨u',h1,h2⟩:=h (j/ts.length) (j%ts.length) _ _ (a0 hi) (a0 hc)
 have he:j/ts.length*ts.length+j%ts.length=j:=by rw[bW];exact cG j ts.length
 rw[he,hj]at h1
 cases h1
 exact h2.one
theorem D4o{n len i c:Nat}(hi:i<len)(hc:c<n):i*n+c<len*n:=by
 have:(i+1)*n≤len*n:=bR _ hi
 rw[bU,cD]at this
 omega
theorem H6j{e:TypeId}{d:D}{v:Value}(h:Rd P w F (.slice e) d v){ts:List Ty}(ht:A0r P e=some ts):∃A cap,∃xs:List Value,v=.slice A d.toL.length cap∧xs.length=d.toL.length*ts.length∧Row w A xs∧E2u P w F ts d xs:=by
 cases h with
 |snil e1 e2=>exact⟨_,_,[],by rw[e2,e1];rfl,by rw[e1];simp,.inl rfl,fun i c y t h=>by rw[e1]at h;simp at h⟩
 |slice e1 e2 e3 e0 e4 e5 e6=>
  rename_i b o len cap ts' g
  rw[ht]at e2;cases e2
  subst e3
  refine⟨_,cap,(aK (d.toL.length*ts.length)).map fun j=>g (j/ts.length) (j%ts.length),e1,by simp,.inr ⟨b,o,rfl,fun j u hj=>?_⟩,fun i c y t hy hc=>?_⟩
  ·rw[a8]at hj
   cases hr:(aK (d.toL.length*ts.length))[j]? with
   |none=>simp[hr]at hj
   |some k=>
    have hlt:=(a4.1 hr).1
    simp only[List.length_range]at hlt
    rw[aW hlt]at hj
    simp only[cQ,cK]at hj
    subst hj
    have hp:0<ts.length:=by
     rcases bV ts.length with h0|h0
     ·rw[h0]at hlt;simp at hlt
     ·exact h0
    have hi:j/ts.length<d.toL.length:=by rw[c7 hp];exact hlt
    have:=e5 (j/ts.length) (j%ts.length) hi (bY _ hp)
    rw[cA,show j/ts.length*ts.length+j%ts.length=j by rw[bW];exact cG j ts.length]at this
    exact this
  ·have hi:=(a4.1 hy).1
   have hc':=(a4.1 hc).1
   have hp:0<ts.length:=by omega
   refine⟨g i c,?_,e6 i c y t hy hc⟩
   rw[a8,aW (D4o hi hc')]
   have h1:(i*ts.length+c)/ts.length=i:=by
    rw[bW,Nat.mul_add_div hp,Nat.div_eq_of_lt hc'];rfl
   have h2:(i*ts.length+c)%ts.length=c:=by
    rw[bW,cH,cC hc']
   simp[h1,h2]
theorem H3y{e:TypeId}{y:E}{v:Value}(h:A1b P w F ρ β (.vec e y) v){ts:List Ty}(ht:A0r P e=some ts):∃A cap,∃xs:List Value,v=.slice A (den ρ y).toL.length cap∧xs.length=(den ρ y).toL.length*ts.length∧Row w A xs∧E2u P w F ts (den ρ y) xs:=by
 obtain⟨ts',xs,hts,⟨hl,hr⟩,hx⟩:=h
 rw[ht]at hts;cases hts
 rcases hr with⟨⟨A,rfl⟩,hn⟩|⟨g,o1,cap,cur,rfl,_,hg,hle,_,hsz,htk⟩
 ·exact⟨A,0,xs,by rw[hn],hl,.inl (aC (by rw[hl,hn];simp)),hx⟩
 ·refine⟨_,cap,xs,rfl,hl,.inr ⟨g,o1,rfl,fun i u hu=>?_⟩,hx⟩
  have hi:=(a4.1 hu).1
  rw[←htk,a9,Q3 (by omega),aA,cX]at hu
  simp[dA,hg,hu]
end
section
variable{X:Cx}{Fs:Nat→Fn}{fuel:Nat}{st:St}{ρ:List D}{L:List Fn}{Ft:Fr}{β:Nat→Value}{a:Act}{w:World}
theorem F0j(hs:Sat X ρ st Ft β a w){e:TypeId}{m:Nat}{y:Operand}{d:E}(h:D7h X.P st e m y=some d){ts:List Ty}(ht:A0r X.P e=some ts):
  ∃A cap,∃xs:List Value,a.eval y=.slice A (den ρ d).toL.length cap∧xs.length=(den ρ d).toL.length*ts.length∧Row w A xs∧E2u X.P w Ft ts (den ρ d) xs:=by
 unfold D7h at h
 split at h
 ·rename_i e' y' hx
  split at h
  ·rename_i he
   simp at h;subst he h
   exact H6j (A0g hs hx) ht
  ·cases h
 ·rename_i hx
  simp at h;subst h
  have hv:a.eval y=.slice none 0 0:=A0g hs hx
  exact⟨none,0,[],by rw[hv];rfl,by simp[den],.inl rfl,fun i c y t h=>by simp[den]at h⟩
 ·rename_i k hx
  split at h
  ·cases h
  ·split at h
   ·rename_i e' y' hb
    split at h
    ·rename_i he
     simp at h;subst he h
     have hv:a.eval y=β k:=A0g hs hx
     rw[hv]
     exact H3y (A6n hs hb) ht
    ·cases h
   ·cases h
 ·cases h
def A3q(X:Cx)(Fs:Nat→Fn)(fuel:Nat)(L:List Fn)(ρ:List D)(K:St→T)(r:List D)(next:Act→World→Prop):Prop:=
 ∀(st':St) (ext:List D) (Ft':Fr) (β':Nat→Value) (a':Act) (w':World),st'.nv=(ρ++ext).length→Sat X (ρ++ext) st' Ft' β' a' w'→eval Fs fuel (K st') L (ρ++ext)=some r→next a' w'
theorem A3q.now{K:St→T}{r:List D}{next:Act→World→Prop}(h:A3q X Fs fuel L ρ K r next){st':St}{Ft':Fr}{β':Nat→Value}{a':Act}{w':World}(hs:Sat X ρ st' Ft' β' a' w')(hnv:st'.nv=ρ.length)(he:eval Fs fuel (K st') L ρ=some r):next a' w':=
 h st' [] Ft' β' a' w' (by simpa using hnv) (by rw[aZ];exact hs) (by rw[aZ];exact he)
theorem E5h{P:Program}(w:World)(t ty e:TypeId)(i:TypeInfo)(ht:P.underlying t=some (.slice e))(hi:P.info? e=some i)(b:Addr)(A:Option Addr)(m c:Nat)(hm:0<m)(h63:m≤maxLen)(hb:m*i.bytes≤140737488355328):
  (d5 #[t,t] ty #[.slice (some b) 0 0,.slice A m c]).run P w=(d5 #[t,t] ty #[.slice none 0 0,.slice A m c]).run P w:=by
 have hlc:∀w,(loadCells b 0).run P w=.ok #[] w:=by
  intro w
  have:=run_loadCells_list (P:=P) w b [] (fun j v hj=>by simp at hj)
  simpa using this
 have hn:¬m≤0:=by omega
 have hm0:m≠0:=by omega
 have h63':¬(9223372036854775807<(m:Int)):=by simp[maxLen]at h63;omega
 have hcap:d8 m 0=m:=by unfold d8;rw[Q3 (by omega)]
 have hbig:¬(m*i.bytes>2 ^ 48):=by omega
 cases A<;>simp[d5,run_underlying ht,sizeOf,typeInfo,hi,d7,d6,hn,hcap,hbig,hlc,hm0,h63']
theorem H0s{α:Type}{l ys:List α}{o k:Nat}(h:o+k≤l.length):(l.take (o+k)++ys++l.drop (o+k+ys.length)).drop o=(l.drop o).take k++ys++(l.drop o).drop (k+ys.length):=by
 have e1:o+k-o=k:=by omega
 have e2:o+(k+ys.length)=o+k+ys.length:=by omega
 rw[aB,aT (by rw[aF];omega),b5,bG,e1,e2,aB]
theorem F2a{P:Program}(w:World)(t ty e:TypeId)(i:TypeInfo)(z:Value)(size bytes:Nat)(ht:P.underlying t=some (.slice e))(hi:P.info? e=some i)(hz:i.zero=some z)
  (hsize:i.size=size) (hby:i.bytes=bytes) (hzs:z.cells.size=size) (hsz:0<size)
  (v:Value) (n:Nat) (xs:List Value) (hown:B3g w e size v n xs)
  (A:Option Addr) (m c:Nat) (news:List Value) (hl:news.length=m*size) (hr:Row w A news) (h1:∀u ∈ news,u.oneCell'=true)
  (h63:n+m≤maxLen) (hbytes:(n+m)*bytes≤140737488355328):
  ∃v' w',(d5 #[t,t] ty #[v,.slice A m c]).run P w=.ok v' w'∧B3g w' e size v' (n+m) (xs++news)∧w.grownBy w' (bk v)∧(bk v'=bk v∨bk v'=some w.heap.size):=by
 have hlx:=hown.1
 rcases bV m with hm|hm
 ·subst hm
  have hn0:news=[]:=aC (by rw[hl];simp)
  subst hn0
  have hfc:(d6 size 0 (.slice A 0 c)).run P w=.ok #[] w:=by
   cases A with
   |none=>simp[d6]
   |some a=>
    have:=run_loadCells_list (P:=P) w a [] (fun j v hj=>by simp at hj)
    simpa[d6]using this
  refine⟨v,w,?_,by simpa using hown,World.grownBy.refl w _,.inl rfl⟩
  rcases hown with⟨_,⟨⟨B,rfl⟩,hn⟩|⟨g,o1,cap,cur,rfl,hc0,hg,hle,hcm,hcs,htk⟩⟩
  ·subst hn
   cases B with
   |none=>simp[d5,run_underlying ht,sizeOf,typeInfo,hi,d7,hsize,hfc]
   |some b=>simp[d5,run_underlying ht,sizeOf,typeInfo,hi,d7,hsize,hfc,storeCells]
  ·simp[d5,run_underlying ht,sizeOf,typeInfo,hi,d7,hsize,hfc,storeCells,hle]
 ·have hpos:∀{v':Value} {w':World} {ys:List Value},w'.ownsRow 0 e size v' (n+m) ys→B3g w' e size v' (n+m) ys∧bk v'=v'.ownBlock:=by
   intro v' w' ys h2
   refine⟨B3g.of h2,?_⟩
   obtain⟨_,⟨⟨B',rfl⟩,hz0⟩|⟨g,o1,cap,cur,rfl,hc0,_⟩⟩:=B3g.of h2
   ·omega
   ·rw[B1v hc0];rfl
  rcases hown with⟨_,⟨⟨B,rfl⟩,hn⟩|⟨g,o1,cap,cur,rfl,hc0,hg,hle,hcm,hcs,htk⟩⟩
  ·subst hn
   have hx0:xs=[]:=aC (by rw[hlx];simp)
   subst hx0
   have hb0:bk (.slice B 0 0)=none:=by cases B<;>rfl
   have hnil:w.ownsRow 0 e size (.slice none 0 0) 0 []:=⟨by simp,.inl ⟨rfl,rfl⟩⟩
   obtain⟨v',w',hrun,h2,h3,h4,h5⟩:=E6g (P:=P) w 0 t ty e i z size bytes ht hi hz hsize hby hzs hsz (.slice none 0 0) 0 [] hnil A m c news hl hr h1 h63 hbytes (c8 _)
   obtain⟨h6,h7⟩:=hpos h2
   refine⟨v',w',?_,h6,by rw[hb0];exact h3,by rw[h7,hb0];exact h5⟩
   rw[←hrun]
   cases B with
   |none=>rfl
   |some b=>exact E5h w t ty e i ht hi b A m c hm (by simpa using h63) (by rw[hby];simpa using hbytes)
  ·subst hsize hby
   have hn0:news≠[]:=fun h=>by
    rw[h]at hl
    have:=cE hm hsz
    simp at hl;omega
   rcases hr with h|⟨b2,off2,rfl,hcells⟩
   ·exact absurd h hn0
   have hnews:∀j u,news[j]?=some u→w.cell? ((⟨b2,off2,none⟩:Addr).add j)=some u:=fun j u hu=>by rw[A4y];exact hcells j u hu
   have hlen:(xs++news).length=(n+m)*i.size:=by rw[aD,hlx,hl,bU]
   by_cases hroom:n+m≤cap
   ·have hcl:cur.toList.length=cur.size:=by simp
    have hfit:o1+n*i.size+news.length≤cur.size:=by
     have:=bR i.size hroom
     rw[bU]at this
     rw[hl,hcs];omega
    have hf:=run_firstCells_some (P:=P) w i.size m ⟨b2,off2,none⟩ m c news hl hnews
    have hst:=run_storeCells_at P g (o1+n*i.size) e news 0 cur w hg (by omega) h1
    simp only[Nat.add_zero]at hst
    refine⟨.slice (some ⟨g,o1,none⟩) (n+m) cap,w.setRow g (cur.toList.take (o1+n*i.size)++news++cur.toList.drop (o1+n*i.size+news.length)).toArray,by simp[d5,run_underlying ht,sizeOf,typeInfo,hi,d7,hroom,hf,A4y,hst],⟨hlen,.inr ⟨g,o1,cap,_,rfl,hc0,setRow_heap w g cur _ e _ hg,hroom,hcm,?_,?_⟩⟩,⟨rfl,rfl,rfl,by simp,fun k _ hk=>setRow_other w g k _ (fun e=>hk (by rw[B1v hc0,e]))⟩,.inl (by rw[B1v hc0,B1v hc0])⟩
    ·simp only[aN,aD,aF,aL,hcl]
     omega
    ·have h2:(cur.toList.take (o1+n*i.size)++news++cur.toList.drop (o1+n*i.size+news.length)).drop o1=(xs++news)++cur.toList.drop (o1+n*i.size+news.length):=by
      rw[aB,aT (by rw[aF,hcl];omega),aB]
      congr 1
      rw[←htk,b5]
      congr 1;omega
     rw[h2,←hlen]
     exact bH
   ·have holds:∀j u,xs[j]?=some u→w.cell? ((⟨g,o1,none⟩:Addr).add j)=some u:=fun j u hu=>by
     have hj:=(a4.1 hu).1
     rw[←htk,a9,Q3 (by rw[←hlx];exact hj),aA,cX]at hu
     rw[A4y]
     simp[dA,hg,hu]
    have hr:=run_append_grow (P:=P) w t ty e i z ht hi hz ⟨g,o1,none⟩ n cap xs hlx holds ⟨b2,off2,none⟩ m c news hl hnews (by omega) (by simp only[maxLen]at h63;omega) (growslice_fits (by omega) hbytes)
    have hge:=grownCap_ge w (n+m) cap e
    have hcm':grownCap w (n+m) cap e≤maxLen:=grownCap_le_maxLen w (n+m) cap e h63
    have hgc:0<grownCap w (n+m) cap e:=by omega
    refine⟨_,_,hr,⟨hlen,.inr ⟨w.heap.size,0,_,_,rfl,hgc,heap_alloc_new w.drew _,hge,hcm',?_,?_⟩⟩,⟨rfl,rfl,rfl,by simp,fun k hk _=>heap_alloc_old w.drew _ hk⟩,.inr (B1v hgc)⟩
    ·simp only[Array.size_append,aN,size_zeroCells,hzs,hlx,hl,←bU,cI]
     congr 1
     omega
    ·simp only[Array.toList_append,aB,List.drop_zero]
     rw[←aB,←hlen]
     exact bH
theorem B6q{o:Oper}{x y:Operand}{t:TypeId}(ho:o.op=.call {callee:=.builtin .append,args:=#[x,y],argTypes:=#[t,t]}){e:TypeId}(hu:X.P.underlying t=some (.slice e))(hd:A3a X.nt o.dst=true){m:Nat}{c:E}
  {K:St→T} {r:List D} (he:eval Fs fuel (B7h X.P st o.dst e m c y K) L ρ=some r) (hnv:st.nv=ρ.length) (hs:Sat X ρ st Ft β a w) (hm:st.bx.lookup m=some (.vec e c)) (hx:a.eval x=β m)
  {next:Act→World→Prop} {Q:Exit→Act→World→Prop} (HK:A3q X Fs fuel L ρ K r next):o.wp X.P a w next Q:=by
 unfold B7h at he
 split at he
 ·rename_i bytes d hrow hdat
  rw[A5g]at he
  simp only[eval,A5s]at he
  split at he
  ·rename_i hle
   obtain⟨i,z,ts,hi,hz,hts,hz1,hz2,hz3,hby⟩:=D1s hrow
   obtain⟨A,cap,news,n1,n2,n3,n4⟩:=F0j hs hdat hts
   have hbox:=hs.bx _ _ hm
   obtain⟨ts',xs,hts',hown,hxs⟩:=hbox
   rw[hts]at hts';cases hts'
   have hcd:=G4m (ρ:=ρ) c d
   have hlen:((den ρ c).toL.length+(den ρ d).toL.length:Nat)≤C1d bytes:=by
    have h1:(((den ρ (mkApp c d)).toL.length:Nat):Int)≤(C1d bytes:Int):=QA hle
    rw[hcd,aD]at h1
    omega
   obtain⟨hb1,hb2⟩:=E1w hlen
   rw[hz3]at hown n2
   obtain⟨v',w',hrun,h2,h3,h5⟩:=F2a (P:=X.P) w t o.type e i z i.size bytes hu hi hz rfl hby hz1 hz2 (β m) _ xs hown A _ cap news n2 n3 (n4.one (by rw[n2,hz3])) (by simp[maxLen];omega) hb1
   have hf:Le w Ft w' Ft:=Le.same fun b h=>h3.block b (hs.ft b h).1 (fun hq=>(hs.ft b h).2 m _ hm hq.symm)
   have hlx:xs.length=(den ρ c).toL.length*ts.length:=by rw[hz3];exact hown.1
   have hok:A1b X.P w' Ft ρ (A0q β m v') (.vec e (mkApp c d)) v':=by
    refine⟨ts,xs++news,hts,?_,?_⟩
    ·rw[hcd,aD,hz3];exact h2
    ·intro j k u t' hu' ht'
     have hk:=(a4.1 ht').1
     rw[hcd]at hu'
     rcases bS j (den ρ c).toL.length with hj|hj
     ·rw[a7 hj]at hu'
      obtain⟨u',q1,q2⟩:=hxs j k u t' hu' ht'
      refine⟨u',?_,q2.mono hf⟩
      rw[a7 (by rw[hlx];exact D4o hj hk)]
      exact q1
     ·rw[a6 hj]at hu'
      obtain⟨u',q1,q2⟩:=n4 (j-(den ρ c).toL.length) k u t' hu' ht'
      refine⟨u',?_,q2.mono hf⟩
      have hge:xs.length≤j*ts.length+k:=by
       rw[hlx]
       have:=bR ts.length hj
       omega
      rw[a6 hge,hlx,←q1,cF]
      congr 1
      have:=bR ts.length hj
      omega
   have hone:v'.oneCell'=true:=by obtain⟨_,⟨⟨A',rfl⟩,_⟩|⟨g,o1,cap,cur,rfl,_⟩⟩:=h2<;>rfl
   have hs':=hs.grow hm hok h3 h5 hone
   have hexec:(execOp a.eval o).run X.P w=.ok (.value v') w':=by
    simp only[execOp,ho,resolve,invoke,builtin,cM,cN,bK,List.map_toArray,bI,List.map_nil,hx,n1,hrun]
   unfold cV
   rw[hexec]
   simp only[cU]
   exact HK.now (hs'.put (dst:=o.dst) hd (v:=v') (sv:=.one (.vec m)) (by show v'=_;simp[A0q])) (by rw[←hnv];rfl) he
  ·cases he
 ·cases he
theorem Sat.newRow(hs:Sat X ρ st Ft β a w)(hfr:st.fresh=true){e:TypeId}{ts:List Ty}(ht:A0r X.P e=some ts):Sat X ρ (st.newRow e) Ft (A0q β st.nn (.slice none 0 0)) a w:=
 hs.E5b hfr (Below.refl _ _) ⟨ts,[],ht,⟨by simp[den],.inl ⟨⟨_,rfl⟩,by simp[den]⟩⟩,fun i c y t h=>by simp[den]at h⟩ (fun k h=>by cases h) rfl
theorem E6u{o:Oper}{x y:Operand}{t:TypeId}(ho:o.op=.call {callee:=.builtin .append,args:=#[x,y],argTypes:=#[t,t]})
  {K:St→T} {r:List D} (he:eval Fs fuel (E0k X.P X.nt st o.dst t x y K) L ρ=some r) (hnv:st.nv=ρ.length) (hs:Sat X ρ st Ft β a w)
  {next:Act→World→Prop} {Q:Exit→Act→World→Prop} (HK:A3q X Fs fuel L ρ K r next):o.wp X.P a w next Q:=by
 unfold E0k at he
 split at he
 ·rename_i e hu
  split at he
  ·rename_i hd
   split at he
   ·rename_i m hx
    split at he
    ·rename_i e' c hm
     split at he
     ·rename_i hee
      subst hee
      exact B6q ho hu hd he hnv hs hm (A0g hs hx) HK
     ·cases he
    ·rename_i ot b j hm
     split at he
     ·rename_i e' c h' hro hhp
      split at he
      ·rename_i hc
       obtain⟨rfl,_⟩:=hc
       split at he
       ·rename_i d hd'
        rw[A5s]at he
        exact B6q ho hu hd he (by simp only[St.B2u];rw[(B4r _ _).2.2.2.1];exact hnv) (hs.B2u hm hro hhp) (by simp[St.B2u]) (A0g hs hx) HK
       ·cases he
      ·cases he
     ·cases he
    ·cases he
   ·rename_i hx
    split at he
    ·rename_i hc
     simp only[bL]at hc
     obtain⟨hfr,hro⟩:=hc
     cases hr:D7p X.P e with
     |none=>rw[hr]at hro;cases hro
     |some bytes=>
      obtain⟨i,z,ts,hi,hz,hts,_⟩:=D1s hr
      have hv:a.eval x=.slice none 0 0:=A0g hs hx
      exact B6q ho hu hd he hnv (hs.newRow hfr hts) (by simp[St.newRow]) (by rw[hv];simp[A0q]) HK
    ·cases he
   ·cases he
  ·cases he
 ·cases he
theorem G0v{e:TypeId}{z:E}(h:G0z X.P e=some z){ts:List Ty}(hts:A0r X.P e=some ts):∃zv,(X.P.info? e).bind (·.zero)=some zv∧zv.cells.size=ts.length∧∀c t,ts[c]?=some t→∃u,zv.cells[c]?=some u∧∀w F,Rd X.P w F t (cellOf ts.length (den ρ z) c) u:=by
 unfold G0z at h
 split at h
 ·rename_i zs ts' hz hts'
  rw[hts]at hts';cases hts'
  split at h
  ·rename_i es hes
   obtain⟨zv,hz1,_⟩:=A6o (w:=default) (F:=⟨fun _=>False,[],[]⟩) (ρ:=ρ) (β:=fun _=>.nilFunc) hz
   refine⟨zv,hz1,?_,?_⟩
   ·obtain⟨zv',hz1',hz2⟩:=A6o (w:=default) (F:=⟨fun _=>False,[],[]⟩) (ρ:=ρ) (β:=fun _=>.nilFunc) hz
    rw[hz1]at hz1';cases hz1'
    have:=(A7w hes hz2).2.1
    simpa using this
   ·intro c t hc
    obtain⟨zv',hz1',hz2⟩:=A6o (w:=default) (F:=⟨fun _=>False,[],[]⟩) (ρ:=ρ) (β:=fun _=>.nilFunc) hz
    rw[hz1]at hz1';cases hz1'
    have hl:=(A7w hes hz2).2.1
    have hlt:=(a4.1 hc).1
    have hu:zv.cells.toList[c]?=some zv.cells.toList[c]:=a0 (by omega)
    refine⟨zv.cells.toList[c],by rw[←cX];exact hu,fun w F=>?_⟩
    obtain⟨zv',hz1',hz2⟩:=A6o (w:=w) (F:=F) (ρ:=ρ) (β:=fun _=>.nilFunc) hz
    rw[hz1]at hz1';cases hz1'
    obtain⟨m1,m2,m3⟩:=A7w hes hz2
    have hes1:es[c]?=some es[c]:=a0 (by omega)
    have hrd:=m3 c t _ _ hc hes1 hu
    simp at h;subst h
    unfold cellOf
    by_cases h1:ts.length=1
    ·have hc0:c=0:=by omega
     subst hc0
     rw[Q3 h1,Q3 h1]
     cases es with
     |nil=>simp at hes1
     |cons y ys=>simpa using hrd
    ·rw[Q0 h1,Q0 h1,A6e]
     simp only[D.A0j,a5,a8,hes1]
     exact hrd
  ·cases h
 ·cases h
theorem F4e{o:Oper}{t:TypeId}{l c:Operand}(ho:o.op=.makeSlice t l c){K:St→T}{r:List D}(he:eval Fs fuel (F3z X.P X.nt st o.dst t l c K) L ρ=some r)(hnv:st.nv=ρ.length)(hs:Sat X ρ st Ft β a w)
  (A3b:∀{es:List E} {t:T} {r:List D},eval Fs fuel (A8j es t) L ρ=some r→(∀e ∈ es,(den ρ e).toBool=true)∧eval Fs fuel t L ρ=some r)
  {next:Act→World→Prop} {Q:Exit→Act→World→Prop} (HK:A3q X Fs fuel L ρ K r next):o.wp X.P a w next Q:=by
 unfold F3z at he
 split at he
 ·rename_i e hu
  split at he
  ·rename_i k n k' n' bytes z hl hc hrow hz
   split at he
   ·rename_i hcond
    obtain⟨rfl,hd,hfr⟩:=hcond
    obtain⟨hes,he2⟩:=A3b he
    have hge:=hes _ (aQ ..)
    have hle:=hes (A8t .leq n (.int (C1d bytes))) (by simp)
    rw[A4z]at hge hle
    have hge':(den ρ n).toInt≥0:=QA hge
    have hle':(den ρ n).toInt≤(C1d bytes:Int):=QA hle
    obtain⟨i,z',ts,hi,hz',hts,hz1,hz2,hz3,hby⟩:=D1s hrow
    obtain⟨zv,q1,q2,q3⟩:=G0v (ρ:=ρ) hz hts
    have hzz:zv=z':=by rw[hi]at q1;simp[hz']at q1;exact q1.symm
    subst hzz
    have hlv:=(A0g hs hl).A3l
    have hcv:=(A0g hs hc).A3l
    have hnn:((den ρ n).toInt.toNat:Int)=(den ρ n).toInt:=by omega
    obtain⟨hb1,hb2⟩:=E1w (n:=(den ρ n).toInt.toNat) (bytes:=bytes) (by omega)
    obtain⟨w',hrun,hown,hg⟩:=run_make_full (P:=X.P) w 0 t e i zv i.size hu hi hz' rfl k k' (den ρ n).toInt.toNat (by rw[hby,bW];omega) (by simp[maxLen];omega) (c8 _)
    rw[hnn]at hrun
    have hbl:Below w.heap.size w w':=⟨hg.os,hg.tape,hg.output,hg.size,fun k hk=>hg.block k hk (by simp)⟩
    have hok:A1b X.P w' Ft ρ β (.vec e (.rep n z)) (.slice (some ⟨w.heap.size,0,none⟩) (den ρ n).toInt.toNat (den ρ n).toInt.toNat):=by
     refine⟨ts,_,hts,by simp only[den,D.A0j,b4,hz3];exact B3g.of hown,?_⟩
     intro j c' y t' hy ht'
     simp only[den,D.A0j]at hy
     have hj:=(a4.1 hy).1
     simp only[b4]at hj
     rw[List.getElem?_replicate,Q3 hj]at hy
     cases hy
     obtain⟨u,u1,u2⟩:=q3 c' t' ht'
     have hc':=(a4.1 ht').1
     refine⟨u,?_,u2 w' Ft⟩
     have hlt:j*ts.length+c'<(den ρ n).toInt.toNat*i.size:=by rw[←hz3];exact D4o hj hc'
     have hmod:(j*ts.length+c')%zv.cells.size=c':=by rw[q2,bW,cH,cC hc']
     rw[cX]
     unfold madeCells
     rw[Array.getElem?_map]
     have hr:(d0 ((den ρ n).toInt.toNat*i.size))[j*ts.length+c']?=some (j*ts.length+c'):=by
      rw[cZ (by simpa using hlt)];simp
     rw[hr]
     simp only[cQ,hmod]
     rw[getElem!_pos zv.cells c' (by omega)]
     rw[cZ (by omega)]at u1
     exact u1
    have hs':=hs.E5b hfr hbl hok (fun k h=>by
     simp only[bk]at h
     split at h
     ·cases h
     ·simp at h;omega) rfl
    have hexec:(execOp a.eval o).run X.P w=.ok (.value (.slice (some ⟨w.heap.size,0,none⟩) (den ρ n).toInt.toNat (den ρ n).toInt.toNat)) w':=by
     simp only[execOp,ho,hlv,hcv,hrun,cM,cN,bK]
    unfold cV
    rw[hexec]
    simp only[cU]
    exact HK.now (hs'.put (dst:=o.dst) hd (sv:=.one (.vec st.nn)) (by show _=A0q β st.nn _ st.nn;simp[A0q])) (by rw[←hnv];rfl) he2
   ·cases he
  ·cases he
 ·cases he
theorem C7q{y:Option Operand}(h:isZero y=true):y=none∨∃z k,y=some z∧a.eval z=.int k 0:=by
 unfold isZero at h
 split at h
 ·exact .inl rfl
 ·rename_i k;exact .inr ⟨_,k,rfl,rfl⟩
 ·cases h
theorem E9v{o:Oper}{t:TypeId}{x:Operand}{lo hi mx:Option Operand}(ho:o.op=.slice t x lo hi mx)(hz:(isZero lo&&hi.isSome&&isZero hi&&mx.isSome&&isZero mx)=true){K:St→T}{r:List D}(he:eval Fs fuel (E6m X.P X.nt st o.dst t x K) L ρ=some r)(hnv:st.nv=ρ.length)(hs:Sat X ρ st Ft β a w)
  {next:Act→World→Prop} {Q:Exit→Act→World→Prop} (HK:A3q X Fs fuel L ρ K r next):o.wp X.P a w next Q:=by
 simp only[bL]at hz
 obtain⟨⟨⟨⟨z1,z2⟩,z3⟩,z4⟩,z5⟩:=hz
 have main:∀(e:TypeId),X.P.underlying t=some (.slice e)→A3a X.nt o.dst=true→st.fresh=true→(A3k X.P e).isSome=true→(A0r X.P e).isSome=true→(∃A len cap,a.eval x=.slice A len cap∧len≤cap)→eval Fs fuel (K ((st.newRow e).upd o.dst (.one (.vec st.nn)) none)) L ρ=some r→o.wp X.P a w next Q:=by
  intro e hu hd hfr hn ht hA he
  obtain⟨n,hn⟩:=cP.1 hn
  obtain⟨ts,hts⟩:=cP.1 ht
  obtain⟨A,len,cap,hv,hlc⟩:=hA
  rcases C7q (a:=a) z3 with rfl|⟨h,k,rfl,hh⟩
  ·cases z2
  rcases C7q (a:=a) z5 with rfl|⟨m,k',rfl,hm⟩
  ·cases z4
  have hbounds:(dC true len cap (lo.map a.eval) (some (a.eval h)) (some (a.eval m))).run X.P w=.ok (0,0,0) w:=by
   rcases C7q (a:=a) z1 with rfl|⟨l,k'',rfl,hl⟩
   ·simp[dC,hh,hm,dJ,asIntOf]
   ·simp[dC,hh,hm,hl,dJ,asIntOf]
  have hrun:(execOp a.eval o).run X.P w=.ok (.value (.slice A 0 0)) w:=by
   simp only[execOp,ho,dG,cM,A1a hu,bK,dK,hv,cQ,hbounds,A2y hn,cN]
   simp
  have hok:A1b X.P w Ft ρ β (.vec e .A4p) (.slice A 0 0):=⟨ts,[],hts,⟨by simp[den],.inl ⟨⟨A,rfl⟩,rfl⟩⟩,fun i c y t hy=>by simp[den]at hy⟩
  have hs':=hs.E5b hfr (Below.refl _ _) hok (fun k hk=>by cases A<;>simp[bk]at hk) rfl
  unfold cV
  rw[hrun]
  simp only[cU]
  exact HK.now (hs'.put (dst:=o.dst) hd (sv:=.one (.vec st.nn)) (by show _=A0q β st.nn _ st.nn;simp[A0q])) (by rw[←hnv];rfl) he
 unfold E6m at he
 split at he
 ·rename_i e e' la hu hx
  split at he
  ·rename_i hc
   simp only[bL]at hc
   obtain⟨⟨⟨hd,hfr⟩,hn⟩,ht⟩:=hc
   have hr:Rd X.P w Ft (.slice e') (den ρ la) (a.eval x):=A0g hs hx
   refine main e hu hd hfr hn ht ?_ he
   cases hr with
   |snil e1 e2=>exact⟨_,_,_,e2,c8 _⟩
   |slice e1 e2 e3 e0 e4 e5 e6=>exact⟨_,_,_,e1,e0⟩
  ·cases he
 ·rename_i e m hu hx
  split at he
  ·rename_i hc
   simp only[bL]at hc
   obtain⟨⟨⟨⟨hd,hfr⟩,hn⟩,ht⟩,hro⟩:=hc
   obtain⟨⟨e',y⟩,hro⟩:=cP.1 hro
   refine main e hu hd hfr hn ht ?_ he
   have hv:a.eval x=β m:=A0g hs hx
   obtain⟨ts,xs,_,⟨_,hr⟩,_⟩:=A6n hs hro
   rcases hr with⟨⟨A,hr⟩,hn'⟩|⟨g,o1,cap,cur,hr,_,_,hle,_⟩
   ·exact⟨A,0,0,by rw[hv,hr],bT _⟩
   ·exact⟨_,_,_,by rw[hv,hr],hle⟩
  ·cases he
 ·cases he
theorem E8r(n:Nat):∀(es:List E) (a:E) (c k:Nat),k<n→c+es.length≤n→(den ρ (C6y n a c es)).toL.getD k .nil=if c≤k∧k<c+es.length then den ρ (es.getD (k-c) .nil)else(den ρ a).toL.getD k .nil
 |[],a,c,k,hk,hl=>by
  rw[Q0 (by rintro⟨h1,h2⟩;simp at h2;omega),C6y]
 |e::es,a,c,k,hk,hl=>by
  simp only[aI]at hl
  simp only[C6y]
  rw[E8r n es _ (c+1) k hk (by omega)]
  have hd:(den ρ (.B6u n a c e)).toL.getD k .nil=if k=c then den ρ e else(den ρ a).toL.getD k .nil:=by
   simp only[den,D.A0j]
   rw[a5,aY]
   by_cases hck:c=k
   ·subst hck
    simp[hk]
   ·rw[Q0 hck,Q0 (Ne.symm hck),a8,aW hk]
    rfl
  by_cases h1:c+1≤k∧k<c+1+es.length
  ·rw[Q3 h1,Q3 (by simp;omega)]
   rw[show k-c=(k-(c+1))+1 by omega]
   rfl
  ·rw[Q0 h1,hd]
   by_cases h2:k=c
   ·subst h2
    rw[Q3 rfl,Q3 (by simp)]
    simp
   ·rw[Q0 h2,Q0 (by simp;omega)]
def E5d(ts:List Ty)(y i:E)(c:Nat)(es:List E):E:=if ts.length=1 then es.headD .nil else if c=0∧es.length=ts.length then A4e es else C6y ts.length (.get y i) c es
theorem E3o{m:Nat}{e t:TypeId}{y i:E}{c:Nat}{o:Oper}{x v:Operand}(ho:o.op=.store t x v)(hs:Sat X ρ st Ft β a w)(hbox:A1b X.P w Ft ρ β (.vec e y) (β m))(hx:RC X.P w Ft ρ β (.A6c m e i c) (a.eval x)){sv:SV}(hv:opV st v=some sv){xs:List C}(hxs:sv.cells=some xs)
  {ts:List Ty} (hts:A0r X.P e=some ts) (hsz:A3k X.P t=some xs.length) (hcl:c+xs.length≤ts.length) (hpos:0<xs.length) {es:List E} (hes:A7e ((ts.drop c).take xs.length) xs=some es) (hfar:∀b,bk (β m)=some b→¬Ft b):
  ∃b cs,bk (β m)=some b∧(execOp a.eval o).run X.P w=.ok .skip (w.setRow b cs)∧A1b X.P (w.setRow b cs) Ft ρ β (.vec e (.set y i (E5d ts y i c es))) (β m):=by
 obtain⟨ys,hy1,hy2⟩:=(A3o hs hv).cells hxs hs.on
 obtain⟨b,o',len,cap,ts',hb1,hb2,hb3,hb4,hb5⟩:=hx
 rw[hts]at hb2;cases hb2
 obtain⟨hlen,hcap,old,⟨cur,hcur,htk,hcsz⟩,hol,hat⟩:=G4v hbox hb1 (Nat.lt_of_le_of_lt (c8 _) hb4) hts
 have hcl0:cur.toList.length=cur.size:=by simp
 generalize hcld:cur.toList.drop o'=cl at*
 have hcl':cl.length=cap*ts.length:=by rw[←hcld,aL,hcl0];omega
 have hlx:xs.length=ys.length:=hy2.1
 obtain⟨m1,m2,m3⟩:=A7w hes hy2
 have hesl:es.length=ys.length:=by rw[m1,m2]
 have hoff:(den ρ i).toInt.toNat*ts.length+c+ys.length≤len*ts.length:=by
  have:((den ρ i).toInt.toNat+1)*ts.length≤len*ts.length:=bR _ hb4
  rw[bU,cD]at this
  omega
 have hoc:len*ts.length≤cl.length:=by rw[hcl'];exact bR _ hcap
 generalize hoffs:(den ρ i).toInt.toNat*ts.length+c=off at*
 generalize hnl:cur.toList.take (o'+off)++ys++cur.toList.drop (o'+off+ys.length)=nl
 have hnd:nl.drop o'=cl.take off++ys++cl.drop (off+ys.length):=by
  rw[←hnl,←hcld];exact H0s (by omega)
 have hnll:nl.length=o'+cap*ts.length:=by
  rw[←hnl];simp only[aD,aF,aL,hcl0];omega
 have hstore:(storeCells ⟨b,o'+off,none⟩ ys 0).run X.P w=.ok () (w.setRow b nl.toArray):=by
  have:=run_storeCells_at (P:=X.P) b (o'+off) e ys 0 cur w hcur (by omega) (by
   intro u hu
   obtain⟨j,hj⟩:=aO hu
   have hlt:j<xs.length:=by rw[hlx];exact(a4.1 hj).1
   exact RC.one (hy2.2 j xs[j] u (a0 hlt) hj) (fun n _=>hs.on n))
  rw[←hnl]
  simpa using this
 have hrun:(execOp a.eval o).run X.P w=.ok .skip (w.setRow b nl.toArray):=by
  have hp:a.eval x=.pointer (some ⟨b,o'+off,none⟩):=by rw[hb5];congr 3;omega
  simp only[execOp,ho,dH,hp,dE,storeVar,cM,cN,bK,A2y hsz,hy1,aN,hlx,ne_eq,not_true,Q4]
  simp only[ite_false,cN,bK,hstore]
 have hcap0:0<cap:=by omega
 have hbk:bk (β m)=some b:=by rw[hb1];exact B1v hcap0
 have hf:Le w Ft (w.setRow b nl.toArray) Ft:=Le.same fun k h=>A1m w b _ (fun e=>hfar b hbk (by rw[←e];exact h))
 let el:E:=if ts.length=1 then es.headD .nil else if c=0∧es.length=ts.length then A4e es else C6y ts.length (.get y i) c es
 have hel:∀k,k<ts.length→cellOf ts.length (den ρ el) k=if c≤k∧k<c+es.length then den ρ (es.getD (k-c) .nil)else cellOf ts.length ((den ρ y).toL.getD (den ρ i).toInt.toNat .nil) k:=by
  intro k hk
  simp only[el]
  unfold cellOf
  by_cases h1:ts.length=1
  ·rw[Q3 h1,Q3 h1,Q3 h1]
   have hk0:k=0:=by omega
   subst hk0
   have hc0:c=0:=by omega
   subst hc0
   rw[Q3 (by omega)]
   cases es with
   |nil=>simp at hesl;omega
   |cons z zs=>rfl
  ·rw[Q0 h1,Q0 h1,Q0 h1]
   by_cases h2:c=0∧es.length=ts.length
   ·rw[Q3 h2,A6e,Q3 (by omega)]
    simp only[D.A0j,a5,a8,h2.1,Nat.sub_zero]
    rw[a0 (by omega)]
    rfl
   ·rw[Q0 h2,E8r ts.length es _ c k hk (by omega)]
    rfl
 have hnew:∀idx,idx<len*ts.length→(cl.take off++ys++cl.drop (off+ys.length))[idx]?=if off≤idx∧idx<off+ys.length then ys[idx-off]? else old[idx]?:=by
  intro idx hidx
  have hold:old[idx]?=cl[idx]?:=by rw[←htk,a9,Q3 hidx]
  rcases bS idx off with h1|h1
  ·rw[Q0 (by omega),aB,a7 (by simp;omega),a9,Q3 h1,hold]
  ·rcases bS idx (off+ys.length)with h2|h2
   ·rw[Q3 ⟨h1,h2⟩,a7 (by simp;omega),a6 (by simp;omega)]
    simp only[aF,hcl']
    rw[Nat.min_eq_left (by omega)]
   ·rw[Q0 (by omega),a6 (by simp;omega),aA,hold]
    congr 1
    simp only[aD,aF,hcl']
    omega
 have hok:A1b X.P (w.setRow b nl.toArray) Ft ρ β (.vec e (.set y i el)) (β m):=by
  have hll:(den ρ (.set y i el)).toL.length=len:=by simp[den,hlen]
  refine⟨ts,(cl.take off++ys++cl.drop (off+ys.length)).take (len*ts.length),hts,?_,?_⟩
  ·rw[hll]
   refine⟨?_,.inr ⟨b,o',cap,_,hb1,hcap0,C0k w b _ cur e hcur,hcap,?_,?_,by rw[←hnd]⟩⟩
   ·simp only[aF,aD,aL,hcl']
    omega
   ·obtain⟨ts2,xs2,h21,⟨_,h22⟩,_⟩:=hbox
    rcases h22 with⟨⟨A,h22⟩,_⟩|⟨g,o2,cap',cur',h22,_,_,_,h23,_⟩
    ·rw[hb1]at h22;injection h22 with _ _ h22;omega
    ·rw[hb1]at h22;injection h22 with _ _ h22;subst h22;exact h23
   ·simpa using hnll
  ·intro j k u t' hu' ht'
   have hk:=(a4.1 ht').1
   have hj:j<len:=by rw[←hll];exact(a4.1 hu').1
   have hidx:=D4o hj hk
   rw[a9,Q3 hidx,hnew _ hidx]
   simp only[den,D.A0j]at hu'
   have hlt:(den ρ i).toInt.toNat<(den ρ y).toL.length:=by omega
   obtain⟨hat1,hat2⟩:=hat j hj
   have hold:old[j*ts.length+k]?=some (old.getD (j*ts.length+k) undef):=by
    rw[a5,a0 (by omega)];rfl
   have hfar2:∀d v,Rd X.P w Ft t' d v→Rd X.P (w.setRow b nl.toArray) Ft t' d v:=fun d v h=>h.mono hf
   by_cases hji:(den ρ i).toInt.toNat=j
   ·rw[aY,Q3 hji,Q3 (by omega)]at hu'
    cases hu'
    rw[hel k hk]
    by_cases hck:c≤k∧k<c+es.length
    ·rw[Q3 hck,Q3 (by rw[←hoffs,hji];omega)]
     have hkc:k-c<es.length:=by omega
     have he1:es[k-c]?=some (es.getD (k-c) .nil):=by rw[a5,a0 hkc];rfl
     have hy1':ys[k-c]?=some ys[k-c]:=a0 (by omega)
     have ht1:((ts.drop c).take xs.length)[k-c]?=some t':=by
      rw[a9,Q3 (by omega),aA,←ht']
      congr 1;omega
     refine⟨ys[k-c],?_,hfar2 _ _ (m3 (k-c) t' _ _ ht1 he1 hy1')⟩
     rw[←hy1',←hoffs,hji]
     congr 1;omega
    ·rw[Q0 hck,Q0 (by rw[←hoffs,hji];omega),hji]
     exact⟨_,hold,hfar2 _ _ (hat2 k t' ht')⟩
   ·rw[aY,Q0 hji]at hu'
    have hno:¬(off≤j*ts.length+k∧j*ts.length+k<off+ys.length):=by
     rintro⟨g1,g2⟩
     rcases Nat.lt_or_gt_of_ne hji with h'|h'
     ·have:=bR ts.length h'
      rw[cJ]at this
      omega
     ·have:=bR ts.length h'
      rw[cJ]at this
      omega
    rw[Q0 hno]
    have hy0:(den ρ y).toL.getD j .nil=u:=by rw[a5,hu'];rfl
    exact⟨_,hold,hfar2 _ _ (by rw[←hy0];exact hat2 k t' ht')⟩
 exact⟨b,_,hbk,hrun,hok⟩
theorem E7k{o:Oper}{t:TypeId}{x v:Operand}(ho:o.op=.store t x v)(hd:o.dst=none){K:St→T}{r:List D}(he:eval Fs fuel (D9p X.P st t x v K) L ρ=some r)(hnv:st.nv=ρ.length)(hs:Sat X ρ st Ft β a w)
  {next:Act→World→Prop} {Q:Exit→Act→World→Prop} (HK:A3q X Fs fuel L ρ K r next):o.wp X.P a w next Q:=by
 unfold D9p at he
 split at he
 ·rename_i m tt i c sv hx hv
  split at he
  ·rename_i e y xs ts hm hxs hts
   split at he
   ·rename_i hc
    obtain⟨rfl,hsz,hcl,hpos⟩:=hc
    split at he
    ·rename_i es hes
     rw[A5g]at he
     obtain⟨b,cs,hbk,hrun,hok⟩:=E3o ho hs (hs.bx _ _ hm) (A0g hs hx) hv hxs hts hsz hcl hpos hes (fun b hb hf=>(hs.ft b hf).2 m _ hm hb)
     unfold cV
     rw[hrun]
     simp only[cU,hd,Act.put]
     exact HK.now (hs.H7o hm hbk _ hok) (by rw[←hnv]) he
    ·cases he
   ·cases he
  ·cases he
 ·cases he
end
end Go.Proofs.YtckanieeocdpbaaGreat.Eng
namespace Go.Proofs.YtckanieeocdpbaaGreat.Eng
open Go.RowKit
set_option linter.unusedVariables false
set_option linter.unusedSimpArgs false
section
variable{X:Cx}{Fs:Nat→Fn}{fuel:Nat}{st:St}{ρ:List D}{L:List Fn}{Ft:Fr}{β:Nat→Value}{a:Act}{w:World}
theorem A3b:∀{es:List E} {t:T} {r:List D},eval Fs fuel (A8j es t) L ρ=some r→(∀e ∈ es,(den ρ e).toBool=true)∧eval Fs fuel t L ρ=some r
 |[],t,r,h=>⟨(fun e he=>by cases he),h⟩
 |e::es,t,r,h=>by
  simp only[A8j]at h
  split at h
  ·rename_i he
   obtain⟨h1,h2⟩:=A3b h
   refine⟨fun e' he'=>?_,h2⟩
   rcases aS.1 he' with rfl|hm
   ·rw[he];rfl
   ·exact h1 e' hm
  ·simp only[eval]at h
   split at h
   ·rename_i hc
    obtain⟨h1,h2⟩:=A3b h
    refine⟨fun e' he'=>?_,h2⟩
    rcases aS.1 he' with rfl|hm
    ·exact hc
    ·exact h1 e' hm
   ·cases h
theorem E4q{ts:List Ty}{n:Nat}{cs:List C}:∀{k i:Nat} {es:List E},C9l ts n cs k i=some es→es.length=k∧∀j e,es[j]?=some e→G2u ts n cs (i+j)=some e
 |0,i,es,h=>by simp[C9l]at h;subst h;exact⟨rfl,fun j e q=>by simp at q⟩
 |k+1,i,es,h=>by
  simp only[C9l]at h
  split at h
  ·rename_i e es' h1 h2
   simp at h;subst h
   obtain⟨l1,q⟩:=E4q h2
   refine⟨by simp[l1],fun j=>?_⟩
   cases j with
   |zero=>intro e' he;simp at he;subst he;exact h1
   |succ j=>intro e' he;have:=q j e' (by simpa using he);rw[←this];congr 1;omega
  ·cases h
theorem C6m(hb:∀n,(β n).oneCell'=true)(hs:Sat X ρ st Ft β a w){o:Oper}{t:TypeId}{len:Nat}{parts:Array (Nat × Operand)}(ho:o.op=.buildSlice t len parts){sv:SV}(h:evB X.P st t len parts=some sv):
  ∃v w',(execOp a.eval o).run X.P w=.ok (.value v) w'∧Below w.heap.size w w'∧RV X.P w' (E1n Ft w w') ρ β sv v:=by
 unfold evB at h
 split at h
 ·rename_i e hu
  split at h
  ·rename_i n ts zs vs hn hts hz hv
   split at h
   ·rename_i hc
    obtain⟨c1,c2,c3,c4,c5⟩:=hc
    split at h
    ·rename_i cs hf
     cases hel:C9l ts n cs len 0 with
     |none=>simp[hel]at h
     |some es=>
      simp[hel]at h;subst h
      obtain⟨z,hz1,hz2⟩:=A6o (w:=w) (F:=Ft) (ρ:=ρ) (β:=β) hz
      have hzn:z.cells.size=n:=by have:=hz2.1;simp at this;omega
      cases hi:X.P.info? e with
      |none=>simp[hi]at hz1
      |some ie=>
       simp[hi]at hz1
       have hsz:ie.size=n:=by unfold A3k at hn;rw[hi]at hn;simpa using hn
       have hinit:RCL X.P w Ft ρ β ((aK (len*n)).map fun j=>zs.getD (j%n) .B1g) ((aK (len*n)).map fun j=>z.cells[j%z.cells.size]!):=by
        refine⟨by simp,fun j c v h1 h2=>?_⟩
        rw[a8]at h1 h2
        cases hr:(aK (len*n))[j]? with
        |none=>simp[hr]at h1
        |some k=>
         simp[hr]at h1 h2
         subst h1 h2
         have hlt:k%n<zs.length:=by rw[c2];exact bY _ c3
         have hlt2:k%z.cells.size<z.cells.size:=bY _ (by omega)
         rw[a0 hlt]
         refine hz2.2 (k%n) _ _ (a0 hlt) ?_
         rw[hzn,getElem!_pos z.cells (k%n) (by omega)]
         simp
       obtain⟨vs',f1,f2⟩:=B8f hb hs _ hv hf hinit
       have hrun:(dF t len (parts.map fun(i,x)=>(i,a.eval x))).run X.P w=.ok (.slice (some ⟨w.heap.size,0,none⟩) len len) (w.alloc (.cells vs'.toArray e)):=by
        refine run_buildSlice w t e len _ vs'.toArray ie z hu hi hz1 (by rw[hsz];omega) (by rw[hsz];have:=cE c4 c3;omega) ?_
        rw[hsz,d3]
        have e0:((d0 (len*n)).map fun x=>z.cells[x%z.cells.size]!)=((aK (len*n)).map fun j=>z.cells[j%z.cells.size]!).toArray:=by
         rw[←cW];simp
        rw[e0]
        simpa using f1
       have hbl:=C0l w (.cells vs'.toArray e)
       refine⟨.slice (some ⟨w.heap.size,0,none⟩) len len,w.alloc (.cells vs'.toArray e),by simp only[execOp,ho,cM,hrun,bK,cN],hbl,?_⟩
       obtain⟨el1,el2⟩:=E4q hel
       have hmono:Le w Ft (w.alloc (.cells vs'.toArray e)) (E1n Ft w (w.alloc (.cells vs'.toArray e))):=Le.or fun b h=>hbl.block b (hs.ft b h).1
       have f3:=f2.mono hmono
       have hlenv:vs'.length=len*n:=by
        have:∀{place:Nat→Option (Nat × Nat)} {svs:List (Nat × SV)} {cs0 cs1:List C},B8m place cs0 svs=some cs1→cs1.length=cs0.length:=by
         intro place svs
         induction svs with
         |nil=>intro cs0 cs1 hh;simp[B8m]at hh;rw[hh]
         |cons p svs ih=>
          intro cs0 cs1 hh
          obtain⟨i,v⟩:=p
          simp only[B8m]at hh
          split at hh
          ·split at hh
           ·rw[ih hh,B8v]
           ·cases hh
          ·cases hh
        rw[←f2.1,this hf];simp
       refine Rd.slice (b:=w.heap.size) (o:=0) (len:=len) (cap:=len) (g:=fun i c=>vs'.getD (i*n+c) undef) rfl hts (by rw[A6e];simp[el1]) (bT _) (.inr ⟨bT _,by rw[B3h];omega⟩) ?_ ?_
       ·intro i c hi hc
        rw[A6e]at hi
        simp[el1]at hi
        rw[c1]at hc⊢
        have hlt:i*n+c<vs'.length:=by
         rw[hlenv]
         calc i*n+c<i*n+n:=by omega
          _=(i+1)*n:=by rw[bU];omega
          _≤len*n:=bR n hi
        have hnew:=heap_alloc_new w (.cells vs'.toArray e)
        unfold dA
        simp only[hnew]
        simp[a5,a0 hlt]
       ·intro i c x t' hx ht'
        rw[A6e]at hx
        simp only[D.A0j,a8]at hx
        cases hex:es[i]? with
        |none=>simp[hex]at hx
        |some ex=>
         simp[hex]at hx;subst hx
         have hil:i<len:=by rw[←el1];exact(a4.1 hex).1
         have hcl:c<n:=by rw[←c1];exact(a4.1 ht').1
         have hee:=el2 i ex hex
         rw[cI]at hee
         unfold G2u at hee
         split at hee
         ·rename_i es1 hm
          have hslice:RCL X.P (w.alloc (.cells vs'.toArray e)) (E1n Ft w (w.alloc (.cells vs'.toArray e))) ρ β ((cs.drop (i*n)).take n) ((vs'.drop (i*n)).take n):=(f3.drop (i*n)).take n
          obtain⟨m1,m2,m3⟩:=A7w hm hslice
          have hes1:es1[c]?=some es1[c]:=a0 (by rw[m1,c1];exact hcl)
          have hvc:((vs'.drop (i*n)).take n)[c]?=some (vs'.getD (i*n+c) undef):=by
           have hlt:i*n+c<vs'.length:=by
            rw[hlenv]
            calc i*n+c<i*n+n:=by omega
             _=(i+1)*n:=by rw[bU];omega
             _≤len*n:=bR n hil
           rw[a9,Q3 hcl,aA,a0 hlt]
           simp[a5,a0 hlt]
          have hrd:=m3 c t' _ _ ht' hes1 hvc
          simp at hee;subst hee
          rw[c1]
          unfold cellOf
          by_cases h1:n=1
          ·have hc0:c=0:=by omega
           subst hc0
           rw[Q3 h1,Q3 h1]
           cases es1 with
           |nil=>simp at hes1
           |cons y ys=>simpa using hrd
          ·rw[Q0 h1,Q0 h1,A6e]
           simp only[D.A0j,a5,a8,hes1]
           exact hrd
         ·cases hee
    ·cases h
   ·cases h
  ·cases h
 ·cases h
theorem D4z{o:Oper}{K:St→T}{t:T}{r:List D}(h:doV X.P X.nt st o K=some t)(he:eval Fs fuel t L ρ=some r)(hnv:st.nv=ρ.length)(hs:Sat X ρ st Ft β a w){next:Act→World→Prop}{Q:Exit→Act→World→Prop}
  (HK:A3q X Fs fuel L ρ K r next):o.wp X.P a w next Q:=by
 unfold doV at h
 split at h
 ·rename_i es sv nb hev
  split at h
  ·rename_i hc
   simp only[cK]at h
   subst h
   simp only[bL]at hc
   obtain⟨hd,hfr⟩:=hc
   obtain⟨hes,he2⟩:=A3b he
   rw[C9n,F2q]at he2
   have hcame:=E9o hs.on hs hev hes
   unfold cV
   unfold A7y at hcame
   split at hcame
   ·obtain⟨v,e1,hv⟩:=hcame
    rw[e1]
    simp only[cU]
    exact HK.now (hs.put hd hv) hnv he2
   ·rename_i t cs
    obtain⟨vs,e1,rfl,hl⟩:=hcame
    rw[e1]
    simp only[cU]
    simp only[E3m,bL]at hfr
    exact HK.now (hs.F6g hfr.1 hfr.2 hl hd) hnv he2
   ·rename_i t x c
    obtain⟨v,e1,rfl,hv,h1⟩:=hcame
    rw[e1]
    simp only[cU]
    simp only[E3m,bL]at hfr
    have hs':=hs.F3x (x:=.view t x c) (v:=v) hfr.1 hv (fun t cs h=>by cases h) h1 (fun k h=>by cases h) (hs.hg.move (Le.same fun _ _=>rfl) rfl (fun k hk=>⟨rfl,hk.1,hk.2.1,fun n y hy=>by
     rcases A7u hy with⟨rfl,rfl⟩|⟨hne,hy⟩
     ·simp
     ·simp only[A0q,hne,Q4];exact hk.2.2 n y hy⟩) rfl rfl rfl)
    exact HK.now (hs'.put (dst:=o.dst) hd (sv:=.one (.vec st.nn)) (by show v=_;simp[A0q])) hnv he2
   ·exact hcame.elim
   ·exact hcame.elim
  ·cases h
 ·cases h
theorem B4t(hs:Sat X ρ st Ft β a w):∀{l:List Operand} {svs:List SV},D0g st l=some svs→svs.length=l.length∧∀(i:Nat) (s:SV) (v:Value),svs[i]?=some s→(l.map a.eval)[i]?=some v→RV X.P w Ft ρ β s v
 |[],svs,h=>by simp[D0g]at h;subst h;exact⟨rfl,fun i s v h=>by simp at h⟩
 |x::l,svs,h=>by
  simp only[D0g]at h
  split at h
  ·rename_i v vs h1 h2
   simp at h;subst h
   obtain⟨l1,q⟩:=B4t hs h2
   refine⟨by simp[l1],fun i=>?_⟩
   cases i with
   |zero=>intro s u a1 a2;simp at a1 a2;subst a1 a2;exact A3o hs h1
   |succ i=>intro s u a1 a2;exact q i s u (by simpa using a1) (by simpa using a2)
  ·cases h
end
theorem B4i{X:Cx}{ρ:List D}{st:St}{Ft:Fr}{β:Nat→Value}{a:Act}{w:World}(hs:Sat X ρ st Ft β a w):∀{rs:List Sh} {svs:List SV} {es:List E} {vs:List Value},B1a X.P st rs svs=some es→svs.length=vs.length→(∀(i:Nat) (s:SV) (v:Value),svs[i]?=some s→vs[i]?=some v→RV X.P w Ft ρ β s v)→
  rs.length=vs.length∧B0g X.P w Ft rs (es.map (den ρ)) vs∧(∀k,k ∈ A3g rs vs→∃m x,m ∈ A2x rs svs∧st.bx.lookup m=some x∧x.bk (β m)=some k)∧(A3g rs vs).length≤(A2x rs svs).length
 |[],[],es,vs,h,hl,hr=>by
  simp[B1a]at h;subst h
  have:vs=[]:=aC hl.symm
  subst this
  exact⟨rfl,⟨rfl,rfl⟩,fun k h=>by simp[A3g]at h,by simp[A3g,A2x]⟩
 |[],s::ss,es,vs,h,hl,hr=>by simp[B1a]at h
 |r::rs,[],es,vs,h,hl,hr=>by cases r<;>simp[B1a]at h
 |r::rs,s::ss,es,[],h,hl,hr=>by simp at hl
 |.row e::rs,s::ss,es,v::vs,h,hl,hr=>by
  simp only[B1a]at h
  split at h
  ·rename_i y es' h1 h2
   simp at h;subst h
   obtain⟨q1,q2,q3,q4⟩:=B4i hs h2 (vs:=vs) (by simpa using hl) (fun i s v a b=>hr (i+1) s v a b)
   have hv:=hr 0 s v rfl rfl
   unfold G7d at h1
   split at h1
   ·rename_i m
    split at h1
    ·rename_i e' y' hb
     split at h1
     ·rename_i he
      subst he
      simp at h1;subst h1
      have hv:v=β m:=hv
      refine⟨by simp[q1],⟨_,_,v,vs,rfl,rfl,by rw[hv];exact hs.bx m _ hb,q2⟩,fun k hk=>?_,?_⟩
      ·simp only[A3g,List.mem_append,Option.mem_toList]at hk
       rcases hk with hk|hk
       ·exact⟨m,_,by simp[A2x],hb,by rw[←hv];exact hk⟩
       ·obtain⟨m',x,z1,z2⟩:=q3 k hk
        exact⟨m',x,by simp[A2x,z1],z2⟩
      ·simp only[A3g,A2x,aD,aI]
       have:(bk v).toList.length≤1:=by cases bk v<;>simp
       omega
     ·cases h1
    ·cases h1
   ·split at h1
    ·rename_i hct
     simp at h1;subst h1
     have hv:v=.slice none 0 0:=hv
     cases hts:A0r X.P e with
     |none=>rw[hts]at hct;cases hct
     |some ts=>
      refine⟨by simp[q1],⟨_,_,v,vs,rfl,rfl,⟨ts,[],hts,⟨by simp[den],.inl ⟨⟨none,hv⟩,by simp[den]⟩⟩,fun i c y t h=>by simp[den]at h⟩,q2⟩,fun k hk=>?_,?_⟩
      ·simp only[A3g,hv,bk,cT,bE]at hk
       obtain⟨m',x,z1,z2⟩:=q3 k hk
       exact⟨m',x,by simpa[A2x]using z1,z2⟩
      ·simp only[A3g,hv,bk,cT,bE,A2x];exact q4
    ·cases h1
   ·cases h1
  ·cases h
 |.one t::rs,s::ss,es,v::vs,h,hl,hr=>by
  simp only[B1a]at h
  split at h
  ·rename_i e1 e2 h1 h2
   simp at h;subst h
   obtain⟨q1,q2,q3,q4⟩:=B4i hs h2 (vs:=vs) (by simpa using hl) (fun i s v a b=>hr (i+1) s v a b)
   have hv:=hr 0 s v rfl rfl
   have h3:=B8d (P:=X.P) (w:=w) (F:=Ft) (ρ:=ρ) (β:=β) (ps:=[.one t]) (svs:=[s]) (es:=e1) (vs:=[v]) (by simp[B2h,h1]) rfl (fun i s' v' a b=>by
    cases i with
    |zero=>simp at a b;subst a b;exact hv
    |succ i=>simp at a)
   obtain⟨d,ds',v',vs',z1,z2,z3,z4,z5⟩:=h3
   cases z2
   subst z4
   refine⟨by simp[q1],⟨d,e2.map (den ρ),v,vs,by rw[b1,z1]<;>rfl,rfl,z3,q2⟩,fun k hk=>?_,?_⟩
   ·obtain⟨m',x,y1,y2⟩:=q3 k (by simpa[A3g]using hk)
    exact⟨m',x,by cases s<;>simpa[A2x]using y1,y2⟩
   ·simp only[A3g,A2x];exact q4
  ·cases h
 |.agg ts::rs,s::ss,es,v::vs,h,hl,hr=>by
  simp only[B1a]at h
  split at h
  ·rename_i e1 e2 h1 h2
   simp at h;subst h
   obtain⟨q1,q2,q3,q4⟩:=B4i hs h2 (vs:=vs) (by simpa using hl) (fun i s v a b=>hr (i+1) s v a b)
   have hv:=hr 0 s v rfl rfl
   have h3:=B8d (P:=X.P) (w:=w) (F:=Ft) (ρ:=ρ) (β:=β) (ps:=[.agg ts]) (svs:=[s]) (es:=e1) (vs:=[v]) (by simp[B2h,h1]) rfl (fun i s' v' a b=>by
    cases i with
    |zero=>simp at a b;subst a b;exact hv
    |succ i=>simp at a)
   obtain⟨d1,ds',us,vs',z1,z2,z3,z4,z5,z6,z7⟩:=h3
   cases z2
   subst z6
   rw[aZ]at z1
   refine⟨by simp[q1],⟨d1,e2.map (den ρ),us,vs,by rw[b1,z1]<;>rfl,rfl,z3,z4,z5,q2⟩,fun k hk=>?_,?_⟩
   ·obtain⟨m',x,y1,y2⟩:=q3 k (by simpa[A3g]using hk)
    exact⟨m',x,by cases s<;>simpa[A2x]using y1,y2⟩
   ·simp only[A3g,A2x];exact q4
  ·cases h
theorem F7k{ps:List Sh}:∀{svs:List SV} {es:List E} (vs:List Value),B2h ps svs=some es→A3g ps vs=[]:=by
 induction ps with
 |nil=>intro svs es vs h;cases vs<;>rfl
 |cons p ps ih=>
  intro svs es vs h
  cases svs with
  |nil=>simp[B2h]at h
  |cons s ss=>
   simp only[B2h]at h
   split at h
   ·rename_i a b h1 h2
    cases p with
    |row e=>simp[D1n]at h1
    |one t=>cases vs with
     |nil=>rfl
     |cons v vs=>exact ih vs h2
    |agg ts=>cases vs with
     |nil=>rfl
     |cons v vs=>exact ih vs h2
   ·cases h
section
variable{X:Cx}{Fs:Nat→Fn}{fuel:Nat}{st:St}{ρ:List D}{L:List Fn}{Ft:Fr}{β:Nat→Value}{a:Act}{w:World}
theorem D1t{P:Program}{cf:Cf}{f hm:Nat}{ps rs:List Sh}(h:B6c P cf f=some (ps,rs,hm)):∃fn rs',P.funcs[f]?=some fn∧fn.body.isSome=true∧(fn.name == "runtime.NumGoroutine")=false∧(∃ps0,E2x P fn.params.toList=some ps0∧ps=(match cf.rp.lookup f with|some m=>D7s m 0 ps0|none=>ps0)++((cf.cp.lookup f).getD []).map (fun e=>.one (.ptr e)))∧E2x P fn.resultTypes.toList=some rs'∧rs=(match cf.rr.lookup f with|some m=>D7s m 0 rs'|none=>rs')∧hm=(cf.hm.lookup f).getD 0:=by
 unfold B6c at h
 split at h
 ·rename_i fn hf
  split at h
  ·rename_i ps' rs' h1 h2
   split at h
   ·rename_i hc
    simp only[cK,d9]at h
    obtain⟨rfl,rfl,rfl⟩:=h
    simp only[bL,bne_iff_ne,ne_eq]at hc
    exact⟨fn,rs',hf,hc.1,by simpa using hc.2,⟨ps',h1,rfl⟩,h2,rfl,rfl⟩
   ·cases h
  ·cases h
 ·cases h
def D5t(P:Program)(st:St)(β:Nat→Value)(hm:Nat)(k:Nat):Prop:=∃m e y,rowOf P st m=some (e,y)∧bk (β m)=some k∧(hm=0∨∀t a c,st.bx.lookup m≠some (.view t a c))
theorem C8m(hs:Sat X ρ st Ft β a w){m:Nat}{e:TypeId}{y:E}(hro:rowOf X.P st m=some (e,y)){k:Nat}(hk:bk (β m)=some k):k<w.heap.size∧∀(n b:Nat) (t:TypeId),Ft.γ[n]?=some (b,t)→b≠k:=by
 have hvec:=A6n hs hro
 refine⟨F4y hvec k hk,fun n b t hn he=>?_⟩
 subst he
 unfold rowOf at hro
 split at hro
 ·rename_i e' y' hb
  exact(hs.hg.gm n b t hn).2.2 m _ hb hk
 ·rename_i ot x j hb
  split at hro
  ·rename_i m' h os hhp hos
   split at hro
   ·rename_i e' hj
    split at hro
    ·cases hro
    ·rename_i hex
     obtain⟨n0,b0,vs,v1,v2,v3,v4⟩:=hs.bx _ _ hb
     obtain⟨φ,q1,q2⟩:=hs.hg.hp _ _ hhp
     obtain⟨vs',os',g,o1,o2,o3,o4,o5,o6,o7,o8⟩:=q1.obj n0 b0 ot v2
     rw[v3]at o1
     have hvs:vs=vs':=by simpa using o1
     subst hvs
     rw[hos]at o2;cases o2
     have hjl:j<os.length:=(a4.1 hj).1
     have hd:((den ρ h).toL.getD n0 .nil).toL[j]?=some (((den ρ h).toL.getD n0 .nil).toL[j]'(by omega)):=a0 _
     have hgj:g j=(bk (β m)).toList:=by
      have:=o5 j _ _ _ hj hd v4
      simp only[D6u (ρ:=ρ) (n:=n0) (by simpa using hex),bM,Q4]at this
      generalize g j=S at this
      cases this
      rfl
     have hin:b ∈ φ n0:=(o6 b).2 (.inr ⟨j,hjl,by rw[hgj,hk];simp⟩)
     obtain⟨_,_,_,_,_,_,_,_,p6,p7,_⟩:=q1.obj n b t hn
     have hin2:b ∈ φ n:=(p6 b).2 (.inl rfl)
     have:=q1.dis n n0 b hin2 hin
     subst this
     rw[v2]at hn;cases hn
     exact o7 j hjl (by rw[hgj,hk];simp)
   ·cases hro
  ·cases hro
 ·cases hro
theorem D9a(hs:Sat X ρ st Ft β a w){c:C}{v:Value}{hm:Nat}(ho:hm=0∨G3t st c=true)(h:RC X.P w Ft ρ β c v):RC X.P w (Ft.or (D5t X.P st β hm)) ρ β (F1j X.P st c) v:=by
 have hg:RC X.P w (Ft.or (D5t X.P st β hm)) ρ β c v:=h.mono (Le.or fun _ _=>rfl)
 unfold F1j
 split
 ·rename_i m
  split
  ·rename_i e y hro
   have hv:v=β m:=h
   rw[hv]
   have h1:=(F2f (A6n hs hro)).1
   have h2:∀k,bk (β m)=some k→D5t X.P st β hm k:=fun k hk=>⟨m,e,y,hro,hk,ho.imp id fun ho t x c hx=>by simp[G3t,hx]at ho⟩
   have hle:Le w (Ft.or fun k=>bk (β m)=some k) w (Ft.or (D5t X.P st β hm)):=⟨fun b hb=>⟨Or.imp id (h2 b) hb,rfl⟩,List.prefix_refl _,rfl⟩
   exact h1.mono hle
  ·exact hg
 ·exact hg
theorem G0l(hs:Sat X ρ st Ft β a w){s:SV}{v:Value}{hm:Nat}(ho:hm=0∨ownN st s=true)(h:RV X.P w Ft ρ β s v):RV X.P w (Ft.or (D5t X.P st β hm)) ρ β (G6n X.P st s) v:=by
 cases s with
 |one c=>exact D9a hs ho h
 |agg cs=>
  obtain⟨vs,e,hl,hr⟩:=h
  refine⟨vs,e,by simpa using hl,fun i c u hc hu=>?_⟩
  rw[a8]at hc
  cases hq:cs[i]? with
  |none=>simp[hq]at hc
  |some c0=>
   simp[hq]at hc;subst hc
   exact D9a hs (ho.imp id fun ho=>aE.1 ho c0 (aP hq)) (hr i c0 u hq hu)
 |tup l=>exact h.mono (Le.or fun _ _=>rfl)
theorem E7f{P:Program}{w:World}{F F':Fr}{t:Ty}{d:D}{v:Value}(hf:t.flat=true)(h:Rd P w F t d v):Rd P w F' t d v:=by
 cases h<;>first|(simp[Ty.flat]at hf;done)|skip
 ·rename_i h;exact .int h
 ·rename_i h;exact .bool h
 ·rename_i h;exact .str h
theorem C1k{P:Program}{w:World}{F F':Fr}:∀{rs:List Sh} {ds:List D} {vs:List Value},rs.all (Sh.flat P)=true→B0g P w F rs ds vs→B0g P w F' rs ds vs
 |[],ds,vs,hf,h=>h
 |.one t::rs,ds,vs,hf,⟨d,ds',v,vs',e1,e2,h1,h2⟩=>by
  simp only[b8,bL]at hf
  exact⟨d,ds',v,vs',e1,e2,E7f hf.1 h1,C1k hf.2 h2⟩
 |.agg ts::rs,ds,vs,hf,⟨d1,ds',us,vs',e1,e2,e3,e4,h1,h2⟩=>by
  simp only[b8,bL]at hf
  refine⟨d1,ds',us,vs',e1,e2,e3,e4,fun i t d u a b c=>E7f ?_ (h1 i t d u a b c),C1k hf.2 h2⟩
  exact aE.1 hf.1 t (aP a)
 |.row e::rs,ds,vs,hf,⟨d,ds',v,vs',e1,e2,h1,h2⟩=>by
  simp only[b8,bL]at hf
  obtain⟨ts,xs,q1,q2,q3⟩:=h1
  refine⟨d,ds',v,vs',e1,e2,⟨ts,xs,q1,q2,fun i c y t a b=>?_⟩,C1k hf.2 h2⟩
  obtain⟨u,z1,z2⟩:=q3 i c y t a b
  refine⟨u,z1,E7f ?_ z2⟩
  have:=hf.1
  simp only[Sh.flat,q1]at this
  exact aE.1 this t (aP b)
theorem H2m{P:Program}{w:World}{F F':Fr}{rs:List Sh}{r:List D}{v:Value}(hf:rs.all (Sh.flat P)=true)(h:Res P w F rs r v):Res P w F' rs r v:=by
 unfold Res at h⊢
 split at h
 ·exact C1k hf h
 ·obtain⟨vs,e,h⟩:=h
  exact⟨vs,e,C1k hf h⟩
theorem B4k.H7e{G:Gl}{P:Program}{w w':World}{F F':Fr}{p:Nat→Prop}{hm:Nat}{φ φ':Nat→List Nat}{R:List Nat}{rs:List Sh}{r:List D}{v:Value}(hf:rs.all (Sh.flat P)=true)(h2:hm≤1)(hF:∀b,F b→b<w.heap.size)(h:B4k G P w (F.or p) hm φ R rs r v w' F' φ'):B4k G P w F hm φ R rs r v w' F φ':=by
 have hne:hm≠2:=by omega
 have hc:=h.chg
 have hmay:may (F.or p) φ hm R=may F φ hm R:=rfl
 rw[hmay]at hc
 refine⟨hc,Le.same fun b hb=>(h.le.b b (.inl hb)).2,fun _=>rfl,fun b hb=>⟨bQ (hF b hb) hc.size,.inl hb⟩,fun b hb=>?_,h.nd,?_⟩
 ·obtain⟨q1,q2,q3,q4⟩:=h.own b hb
  exact⟨q1,fun hb'=>q2 (h.le.b b (.inl hb')).1,q3,q4⟩
 ·obtain⟨r0,hd,e,q1,q2⟩:=h.res
  rw[Q0 hne]at q2
  exact⟨r0,hd,e,H2m hf q1,by rw[Q0 hne];exact q2⟩
theorem F5s(hF:A5j X.G X.P Fs)(hs:Sat X ρ st Ft β a w){f hm:Nat}{ps rs:List Sh}(hsig:B6c X.P st.cf f=some (ps,rs,hm)){vals:List Value}{svs:List SV}(l1:svs.length=vals.length)(q1:∀(i:Nat) (s:SV) (v:Value),svs[i]?=some s→vals[i]?=some v→RV X.P w Ft ρ β s v){es hh:List E}(hes:C4y X.P st ps rs hm svs=some es)(hhs:C3l st hm=some hh){r:List D}
  (hres:Fs f ((es++hh).map (den ρ))=some r):∃φ,(hm=2→∃h,st.hp=some (true,h)∧st.ex=[]∧B0j X.P w Ft st.cf.ob (den ρ h) [] φ∧∀n k,k ∈ φ n→(k ∈ X.S∨X.w0.heap.size≤k)∧∀j x,st.bx.lookup j=some x→x.bk (β j)≠some k)∧
   (∀k,k ∈ A3g ps vals→∃m x,m ∈ A2x ps svs∧st.bx.lookup m=some x∧x.bk (β m)=some k)∧
   Calls X.P f vals.toArray w fun e w'=>∃v F' φ',e=.returned v∧B4k X.G X.P w Ft hm φ (A3g ps vals) rs r v w' F' φ':=by
 have hcf:=hs.cf.1
 rw[b1]at hres
 rw[hcf]at hsig
 have hne3:hm≤2:=by
  unfold C3l at hhs
  split at hhs<;>first|omega|cases hhs
 have hheap:∃φ,(hm=2→∃h,st.hp=some (true,h)∧st.ex=[]∧B0j X.P w Ft st.cf.ob (den ρ h) [] φ∧∀n k,k ∈ φ n→(k ∈ X.S∨X.w0.heap.size≤k)∧∀j x,st.bx.lookup j=some x→x.bk (β j)≠some k)∧
   (hm=0→hh.map (den ρ)=[])∧(hm=1∨hm=2→∃h,hh.map (den ρ)=[h]∧B0j X.P w Ft X.G.cf.ob h [] φ)∧∀n k,k ∈ φ n→∀j x,st.bx.lookup j=some x→x.bk (β j)≠some k:=by
  unfold C3l at hhs
  split at hhs
  ·cases hhs
   exact⟨fun _=>[],(fun h=>by cases h),(fun _=>rfl),(fun h=>by rcases h with h|h<;>cases h),fun n k h=>by cases h⟩
  ·split at hhs
   ·rename_i hex
    cases hp:st.hp with
    |none=>rw[hp]at hhs;cases hhs
    |some p=>
     obtain⟨m,e⟩:=p
     rw[hp]at hhs
     cases hhs
     obtain⟨φ,z1,z2⟩:=hs.hg.hp m e hp
     rw[hex,hcf]at z1
     exact⟨φ,(fun h=>by cases h),(fun h=>by cases h),(fun _=>⟨_,rfl,z1⟩),fun n k hk=>(z2 n k hk).2⟩
   ·cases hhs
  ·split at hhs
   ·rename_i hex
    split at hhs
    ·rename_i e hp
     cases hhs
     obtain⟨φ,z1,z2⟩:=hs.hg.hp _ e hp
     rw[hex]at z1
     exact⟨φ,fun _=>⟨e,hp,hex,z1,fun n k hk=>⟨(z2 n k hk).1 rfl,(z2 n k hk).2⟩⟩,(fun h=>by cases h),(fun _=>⟨_,rfl,by rw[←hcf];exact z1⟩),fun n k hk=>(z2 n k hk).2⟩
    ·cases hhs
   ·cases hhs
  ·cases hhs
 obtain⟨φ,hh2,hh0,hh12,hφ⟩:=hheap
 refine⟨φ,hh2,?_⟩
 unfold C4y at hes
 split at hes
 ·rename_i es' hm'
  cases hes
  obtain⟨_,hargs,hrows,_⟩:=B4i hs hm' (vs:=vals) l1 q1
  refine⟨hrows,?_⟩
  exact hF f ps rs hm _ _ hsig hres w Ft _ φ _ _ rfl ⟨hs.gl,by rw[←hcf];exact hs.cf.2,fun b hb=>(hs.ft b hb).1,fun n b t hn=>⟨(hs.hg.gm n b t hn).1,(hs.hg.gm n b t hn).2.1⟩,hh0,hh12,(fun h=>by omega),fun b hb=>by
   obtain⟨m,x,_,hx,hk⟩:=hrows b hb
   exact⟨(hs.own m x b hx hk).1,fun hf=>(hs.ft b hf).2 m x hx hk,fun n hn=>hφ n b hn m x hx hk,fun n b' t hn he=>(hs.hg.gm n b' t hn).2.2 m x hx (by rw[he];exact hk)⟩⟩ hargs
 ·split at hes
  ·rename_i hc
   obtain⟨hle,hfl,hlend⟩:=hc
   have hnr:=F7k vals hes
   rw[hnr]
   refine⟨(fun k hk=>by cases hk),?_⟩
   have hargs:=B8d hes (vs:=vals) (P:=X.P) (w:=w) (F:=Ft.or (D5t X.P st β hm)) (β:=β) (by simp[l1]) (fun i s v a1 a2=>by
    rw[a8]at a1
    cases hsv:svs[i]? with
    |none=>simp[hsv]at a1
    |some s0=>
     simp[hsv]at a1;subst a1
     refine G0l hs (hlend.imp id fun h=>?_) (q1 i s0 v hsv a2)
     exact aE.1 h s0 (aP hsv))
   have hle2:Le w Ft w (Ft.or (D5t X.P st β hm)):=Le.or fun _ _=>rfl
   have hcall:=hF f ps rs hm _ _ hsig hres w (Ft.or (D5t X.P st β hm)) _ φ _ _ rfl ⟨X.G.mono hle2 hs.gl,by show Ft.hc=_;rw[←hcf];exact hs.cf.2,fun b hb=>hb.elim (fun hb=>(hs.ft b hb).1) (fun⟨m,e,y,z1,z2,_⟩=>(C8m hs z1 z2).1),fun n b t hn=>⟨(hs.hg.gm n b t hn).1,fun hb=>hb.elim (hs.hg.gm n b t hn).2.1 fun⟨m,e,y,z1,z2,_⟩=>(C8m hs z1 z2).2 n b t hn rfl⟩,hh0,fun h=>?_,(fun h=>by omega),fun b hb=>by rw[hnr]at hb;cases hb⟩ hargs
   ·rw[hnr]at hcall
    refine hcall.mono ?_
    rintro e w' ⟨v,F',φ',rfl,ho⟩
    exact⟨v,Ft,φ',rfl,ho.H7e hfl hle (fun b hb=>(hs.ft b hb).1)⟩
   ·obtain⟨h',z1,z2⟩:=hh12 h
    refine⟨h',z1,z2.mono hle2 rfl fun n k hk=>⟨rfl,(z2.far n k hk).1,fun hb=>hb.elim (z2.far n k hk).2 fun⟨m,e,y,y1,y2,y3⟩=>?_⟩⟩
    have hno:∀t a c,st.bx.lookup m≠some (.view t a c):=y3.elim (fun h0=>by omega) id
    unfold rowOf at y1
    split at y1
    ·rename_i hb
     exact hφ n k hk m _ hb y2
    ·rename_i hb;exact hno _ _ _ hb
    ·cases y1
  ·cases hes
theorem E1m{F:Fr}{φ:Nat→List Nat}{k:Nat}(hout:∀n,F.γ.length≤n→φ n=[]):k ∈ F1b F φ↔∃n,k ∈ φ n:=by
 unfold F1b
 simp only[bD,List.mem_range]
 constructor
 ·rintro⟨n,_,h⟩;exact⟨n,h⟩
 ·rintro⟨n,h⟩
  refine⟨n,?_,h⟩
  rcases bS n F.γ.length with hl|hl
  ·exact hl
  ·rw[hout n hl]at h;cases h
theorem Sat.call{st0:St}(hs0:Sat X ρ st0 Ft β a w)(hs:Sat X ρ st Ft β a w)(hst:st.hp=st0.hp∧st.ex=st0.ex∧st.cf=st0.cf∧∀j x,st.bx.lookup j=some x→∃y,st0.bx.lookup j=some y∧∀v,x.bk v=y.bk v)(hnv:st.nv=ρ.length)(hsc:st.sc=true)(hfr:st.fresh=true){dst:Option Tmp}(hd:A3a X.nt dst=true){rs:List Sh}{hm:Nat}{φ φ':Nat→List Nat}{R:List Nat}{r:List D}{v:Value}{F':Fr}{w':World}
  (hm2:hm≤2) (hrow:(A7h rs st.nv).length≤1) (hin0:hm=2→∃h,st0.hp=some (true,h)∧st0.ex=[]∧B0j X.P w Ft st0.cf.ob (den ρ h) [] φ∧∀n k,k ∈ φ n→(k ∈ X.S∨X.w0.heap.size≤k)∧∀j x,st0.bx.lookup j=some x→x.bk (β j)≠some k)
  (hR:∀k,k ∈ R→(∃m y,st0.bx.lookup m=some y∧y.bk (β m)=some k)∧∀j x,st.bx.lookup j=some x→x.bk (β j)≠some k)
  (hnoV:hm=2→∀n t x c,st.bx.lookup n≠some (.view t x c)) (ho:B4k X.G X.P w Ft hm φ R rs r v w' F' φ'):∃β',r.length=C9i rs hm∧Sat X (ρ++r) (C0u st dst rs hm) F' β' (a.put dst v) w':=by
 obtain⟨r0,hd0,rfl,hres,hheap⟩:=ho.res
 have hρ:∀(i:Nat) (d:D),r0[i]?=some d→(ρ++(r0++hd0)).getD (st.nv+i) .nil=d:=fun i d hd=>by
  rw[hnv,a5,a6 (by omega),bZ,a7 (a4.1 hd).1]
  simp[hd]
 have hcf:=hs.cf.1
 have hin:hm=2→∃h,st.hp=some (true,h)∧st.ex=[]∧B0j X.P w Ft st.cf.ob (den ρ h) [] φ∧∀n k,k ∈ φ n→(k ∈ X.S∨X.w0.heap.size≤k)∧∀j x,st.bx.lookup j=some x→x.bk (β j)≠some k:=by
  intro h2
  obtain⟨h,z1,z2,z3,z4⟩:=hin0 h2
  refine⟨h,by rw[hst.1];exact z1,by rw[hst.2.1];exact z2,by rw[hst.2.2.1];exact z3,fun n k hk=>⟨(z4 n k hk).1,fun j x hx=>?_⟩⟩
  obtain⟨y,hy,hq⟩:=hst.2.2.2 j x hx
  rw[hq];exact(z4 n k hk).2 j y hy
 have hSX:∀k,k ∈ may Ft φ hm R→(k ∈ X.S∨X.w0.heap.size≤k)∧∀j x,st.bx.lookup j=some x→x.bk (β j)≠some k:=by
  intro k hk
  rcases C3s.1 hk with⟨h,hk⟩|hk
  ·obtain⟨_,_,_,z,q⟩:=hin h
   obtain⟨n,hn⟩:=(E1m z.out).1 hk
   exact q n k hn
  ·obtain⟨⟨m,y,h1,h2⟩,h3⟩:=hR k hk
   exact⟨(hs0.own m y k h1 h2).2,h3⟩
 have hsame:∀k,k<w.heap.size→k ∉ may Ft φ hm R→w'.heap[k]?=w.heap[k]?:=fun k hk hno=>ho.chg.block k hk hno
 have hnew:=ho.new
 have hbox:∀j x k,st.bx.lookup j=some x→x.bk (β j)=some k→k<w.heap.size∧k ∉ may Ft φ hm R∧¬F' k:=by
  intro j x k hx hk
  have h1:=(hs.own j x k hx hk).1
  have h2:k ∉ may Ft φ hm R:=fun hq=>(hSX k hq).2 j x hx hk
  refine⟨h1,h2,fun hf=>?_⟩
  rcases(hnew k hf).2 with q|q|q
  ·exact(hs.ft k q).2 j x hx hk
  ·omega
  ·exact h2 q
 have hargs:=hres.args
 have hr0:r0.length=A3n rs:=D0s hargs
 have hscx:=hsc
 simp only[St.sc,bL,aE]at hsc
 obtain⟨⟨⟨s1,s2⟩,s3⟩,s4,s5⟩:=hsc
 rw[hnv]at s1 s2 s3 s4 s5
 have hlen:(r0++hd0).length=C9i rs hm:=by
  unfold C9i
  split at hheap
  ·rename_i h2
   obtain⟨h',rfl,_⟩:=hheap
   rw[Q3 h2];simp[hr0]
  ·rename_i h2
   subst hheap
   rw[Q0 h2];simp[hr0]
 have hgen:∀(st':St) (β1:Nat→Value),st'.hp=(if hm=2 then some (true,.var (st.nv+A3n rs))else st.hp)→st'.ex=st.ex→st'.cf=st.cf→
   (∀j x k,st'.bx.lookup j=some x→x.bk (β1 j)=some k→(∃j0 x0,st.bx.lookup j0=some x0∧x0.bk (β j0)=some k)∨k ∈ A3g rs (Value.parts rs v))→Hg X (ρ++(r0++hd0)) st' F' β1 w':=by
  intro st' β1 e1 e2 e3 hb
  by_cases h2:hm=2
  ·rw[Q3 h2]at e1 hheap
   obtain⟨h,hhp,hex,hok,hq⟩:=hin h2
   obtain⟨h',rfl,hok',hq'⟩:=hheap
   have hno:∀n k,k ∈ φ' n→∀j x,st'.bx.lookup j=some x→x.bk (β1 j)≠some k:=by
    intro n k hk j x hx hk'
    rcases hb j x k hx hk' with⟨j0,x0,z1,z2⟩|z
    ·obtain⟨y1,y2,_⟩:=hbox j0 x0 k z1 z2
     rcases hq' n k hk with q|q
     ·omega
     ·exact y2 q
    ·exact(ho.own k z).2.2.2 n h2 hk
   refine⟨fun m e he=>?_,fun n b t hn=>?_⟩
   ·rw[e1]at he
    cases he
    refine⟨φ',?_,fun n k hk=>⟨fun _=>?_,hno n k hk⟩⟩
    ·have hden:den (ρ++(r0++[h'])) (.var (st.nv+A3n rs))=h':=by
      simp only[den,hnv,a5]
      rw[a6 (by omega),bZ,a6 (by omega),hr0,c6]
      rfl
     rw[e3,e2,hex,hden,hcf]
     exact hok'
    ·rcases hq' n k hk with q|q
     ·exact .inr (bX hs.chg.size q)
     ·exact(hSX k q).1
   ·obtain⟨_,_,_,_,_,_,_,_,p6,_⟩:=hok'.obj n b t hn
    have hin':b ∈ φ' n:=(p6 b).2 (.inl rfl)
    exact⟨(hok'.far n b hin').1,(hok'.far n b hin').2,hno n b hin'⟩
  ·rw[Q0 h2]at e1
   have hγ:=ho.γ (by omega)
   have hmR:∀k,(∀j x,st0.bx.lookup j=some x→x.bk (β j)≠some k)→k ∉ may Ft φ hm R:=fun k h3 hq=>by
    rcases C3s.1 hq with⟨h,_⟩|hq
    ·exact h2 h
    ·obtain⟨⟨m,y,z1,z2⟩,_⟩:=hR k hq
     exact h3 m y z1 z2
   have hst0:∀k,(∀j x,st0.bx.lookup j=some x→x.bk (β j)≠some k)→∀j x,st.bx.lookup j=some x→x.bk (β j)≠some k:=fun k h3 j x hx=>by
    obtain⟨y,hy,hq⟩:=hst.2.2.2 j x hx
    rw[hq];exact h3 j y hy
   have hfk:∀k,k<w.heap.size→¬Ft k→(∀j x,st0.bx.lookup j=some x→x.bk (β j)≠some k)→k<w'.heap.size∧¬F' k:=fun k h1 h3 h4=>⟨bQ h1 ho.chg.size,fun hf=>by
    rcases(hnew k hf).2 with q|q|q
    ·exact h3 q
    ·omega
    ·exact hmR k h4 q⟩
   have hno:∀k,k<w.heap.size→(∀j x,st0.bx.lookup j=some x→x.bk (β j)≠some k)→∀j x,st'.bx.lookup j=some x→x.bk (β1 j)≠some k:=by
    intro k h1 h3 j x hx hk'
    rcases hb j x k hx hk' with⟨j0,x0,z1,z2⟩|z
    ·exact hst0 k h3 j0 x0 z1 z2
    ·rcases(ho.own k z).2.2.1 with q|q
     ·omega
     ·exact hmR k h3 q
   refine⟨fun m e he=>?_,fun n b t hn=>?_⟩
   ·rw[e1]at he
    obtain⟨φ0,q1,q2⟩:=hs0.hg.hp m e (by rw[←hst.1];exact he)
    rw[he]at s4
    refine⟨φ0,?_,fun n k hk=>⟨(q2 n k hk).1,hno k (q1.far n k hk).1 (q2 n k hk).2⟩⟩
    rw[e3,e2,A0y (by simpa using s4),E7t _ s5,hst.2.2.1,hst.2.1]
    exact q1.mono ho.le hγ fun n k hk=>⟨hsame k (q1.far n k hk).1 (hmR k (q2 n k hk).2),hfk k (q1.far n k hk).1 (q1.far n k hk).2 (q2 n k hk).2⟩
   ·obtain⟨g1,g2,g3⟩:=hs0.hg.gm n b t (by rw[←hγ];exact hn)
    exact⟨(hfk b g1 g2 g3).1,(hfk b g1 g2 g3).2,hno b g1 g3⟩
 have hA:Sat X (ρ++(r0++hd0)) {st with nv:=if hm=2 then st.nv+A3n rs+1 else st.nv+A3n rs,hp:=if hm=2 then some (true,.var (st.nv+A3n rs))else st.hp} F' β a w':=by
  refine⟨hs.df,hs.sz,fun b hb=>⟨(hnew b hb).1,fun n x hx he=>(hbox n x b hx he).2.2 hb⟩,?_,?_,hs.inj,?_,D5p hs.chg ho.chg (fun b hb=>(hSX b hb).1),?_,hs.on,?_,hs.gx,⟨hs.cf.1,by rw[ho.le.hc];exact hs.cf.2⟩,hgen _ β rfl rfl rfl (fun j x k hx hk=>.inl ⟨j,x,hx,hk⟩),⟨fun b hb=>(ho.le.b b (hs.fw.1 b hb)).1,hs.fw.2.1.trans ho.le.γ,by rw[ho.le.hc];exact hs.fw.2.2.1,fun he=>?_⟩⟩
  ·intro t sv ht
   obtain⟨u,q1,q2⟩:=hs.tm t sv ht
   exact⟨u,q1,(q2.mono ho.le).ext _ (s1 _ (A0z ht))⟩
  ·intro n x hx
   exact((hs.bx n x hx).mono ho.le (fun k hk=>hsame k (hbox n x k hx hk).1 (hbox n x k hx hk).2.1) (fun n' b t hn ⟨y,c,hv⟩=>hsame b (hs.hg.gm n' b t hn).1 (fun hq=>by
    rcases C3s.1 hq with⟨h,_⟩|hq
    ·subst hv;exact absurd hx (hnoV h n t y c)
    ·obtain⟨⟨m,y',z1,z2⟩,_⟩:=hR b hq
     exact(hs0.hg.gm n' b t hn).2.2 m y' z1 z2))).ext _ (s2 _ (A0z hx))
  ·intro n x k hx hk
   exact⟨bQ (hs.own n x k hx hk).1 ho.chg.size,(hs.own n x k hx hk).2⟩
  ·intro e b he
   rw[A0y (s3 _ he)]
   exact hs.fs e b he
  ·intro b hb
   rcases(hnew b hb).2 with q|q|q
   ·exact hs.f0 b q
   ·exact .inr (.inl (bX hs.chg.size q))
   ·exact(hSX b q).1.elim (fun q=>.inr (.inr q)) (fun q=>.inr (.inl q))
  ·by_cases h2:hm=2
   ·exact absurd (by show(if hm=2 then some (true,E.var (st.nv+A3n rs))else st.hp)=_;rw[Q3 h2]) (he (.var (st.nv+A3n rs)))
   ·rw[ho.γ (by omega)]
    exact hs.fw.2.2.2 fun e h=>he e (by show(if hm=2 then _ else st.hp)=_;rw[Q0 h2];exact h)
 rcases B3c (β:=β) (ρ:=ρ++(r0++hd0)) (n:=st.nv) hargs hρ hrow with⟨e1,e2,e3⟩|⟨e,k,u,e1,e2,e3,e4,e5,e6⟩
 ·have hr1:=C6q (ρ:=ρ) (β:=β) (nn:=st.nn) (hd:=hd0) hres (fun i e u h=>absurd h (e3 i e))
  rw[←hnv]at hr1
  refine⟨β,hlen,?_⟩
  have:=hA.put (dst:=dst) hd hr1.1
  unfold C0u
  rw[e1]
  exact this
 ·have hr1:=C6q (ρ:=ρ) (β:=A0q β st.nn u) (nn:=st.nn) (hd:=hd0) hres (fun i e' u' h h'=>by rw[e6 i e' u' h h'];simp[A0q])
  rw[←hnv]at hr1
  have hown:∀k',bk u=some k'→k' ∈ A3g rs (Value.parts rs v):=fun k' hk'=>by rw[e4,hk'];simp
  have hB:=hA.F3x (x:=.vec e (.var k)) (v:=u) hfr e3 (fun t cs h=>by cases h) e5 (fun k' hk'=>?_) (hgen _ _ rfl rfl rfl (fun j x k' hx hk'=>?_))
  ·refine⟨A0q β st.nn u,hlen,?_⟩
   have:=hB.put (dst:=dst) hd hr1.1
   unfold C0u
   rw[e1]
   exact this
  ·obtain⟨q1,q2,q3,q4⟩:=ho.own k' (hown k' hk')
   refine⟨q1,?_,q2,fun j y hy he=>?_⟩
   ·rcases q3 with q3|q3
    ·exact .inr (bX hs.chg.size q3)
    ·exact(hSX k' q3).1
   ·obtain⟨z1,z2,_⟩:=hbox j y k' hy he
    rcases q3 with q3|q3
    ·omega
    ·exact(hSX k' q3).2 j y hy he
  ·rcases A7u hx with⟨rfl,rfl⟩|⟨hne,hx⟩
   ·simp only[A0q,Q5]at hk'
    exact .inr (hown k' hk')
   ·simp only[A0q,hne,Q4]at hk'
    exact .inl ⟨j,x,hx,hk'⟩
theorem D3b(hF:A5j X.G X.P Fs){o:Oper}{f:Nat}{vs:List SV}{vals:List Value}(l1:vs.length=vals.length)(q1:∀(i:Nat) (s:SV) (v:Value),vs[i]?=some s→vals[i]?=some v→RV X.P w Ft ρ β s v)
  (hrun0:∀fn,X.P.funcs[f]?=some fn→fn.body.isSome=true→(fn.name == "runtime.NumGoroutine")=false→(execOp a.eval o).run X.P w=.ok (.enter f vals.toArray) w) {K:St→T} {r:List D} (he:eval Fs fuel (D7g X.P X.nt st o.dst f vs K) L ρ=some r) (hnv:st.nv=ρ.length) (hs:Sat X ρ st Ft β a w)
  {next:Act→World→Prop} {Q:Exit→Act→World→Prop} (HK:A3q X Fs fuel L ρ K r next):o.wp X.P a w next Q:=by
 unfold D7g at he
 split at he
 ·rename_i ps rs hm hsig
  split at he
  ·rename_i es hh hes hhs
   have hm2:hm≤2:=by
    unfold C3l at hhs
    split at hhs<;>first|omega|cases hhs
   obtain⟨fn,rs',hfn,hbody,hname,_⟩:=D1t hsig
   have hrun:=hrun0 fn hfn hbody hname
   split at he
   ·rename_i hcons
    have hfl:∀{l:List Nat} {k:St→T},G7t st l k=k (st.A2u l):=by
     intro l k
     cases l with
     |nil=>rfl
     |cons n l=>exact A5s _ _
    rw[hfl]at he
    generalize hL:(A2x ps vs++if hm=2 then st.views else[])=ll at he
    split at he
    ·rename_i hc
     simp only[bL,Q9]at hc
     obtain⟨⟨⟨hsc,hfr⟩,hd⟩,hrow⟩:=hc
     simp only[eval]at he
     split at he
     ·rename_i res hres
      split at he
      ·rename_i hlen
       obtain⟨φ,hin,hR,hcall⟩:=F5s hF hs hsig l1 q1 hes hhs hres
       unfold cV
       rw[hrun]
       simp only[cU]
       refine hcall.mono ?_
       rintro e w' ⟨v,F',φ',rfl,hout⟩
       obtain⟨z1,z2,z3,z4,_⟩:=B4r ll st
       obtain⟨β',hl,hs'⟩:=hs.call (hs.A2u ll) ⟨z1,z2,z3,fun j x hx=>by obtain⟨_,y,y1,y2,_⟩:=A8y _ hx;exact⟨y,y1,y2⟩⟩ (by rw[z4];exact hnv) hsc hfr hd hm2 hrow hin (fun k hk=>by
        obtain⟨m,x,x1,x2,x3⟩:=hR k hk
        refine⟨⟨m,x,x2,x3⟩,fun j y hy he=>?_⟩
        obtain⟨y1,y',y2,y3,_⟩:=A8y _ hy
        rw[y3]at he
        have:=hs.inj j m y' x k y2 x2 he x3
        subst this
        exact y1 (by rw[←hL];exact aU _ x1)) (fun h2 n t x c hx=>by
        obtain⟨y1,y,y2,y3,y4⟩:=A8y _ hx
        have:=y4 ⟨t,x,c,rfl⟩
        subst this
        exact y1 (by rw[←hL,Q3 h2];exact aR _ (G7n y2))) hout
       refine HK _ res F' β' _ _ ?_ hs' he
       unfold C0u
       simp only[aD,hl,C9i,z4,hnv]
       split<;>omega
      ·cases he
     ·cases he
    ·cases he
   ·cases he
  ·cases he
 ·cases he
theorem E0i{P:Program}{f:Nat}{vals:List Value}{w:World}{fn:Func}(hfn:P.funcs[f]?=some fn)(hbody:fn.body.isSome=true)(hname:(fn.name == "runtime.NumGoroutine")=false):(callFunc f vals.toArray).run P w=.ok (.enter f vals.toArray) w:=by
 simp only[callFunc,program,cM,cO,bK,hfn,hname,bM,Q4]
 cases hb:fn.body with
 |none=>rw[hb]at hbody;cases hbody
 |some b=>simp[cO]
theorem D3v{o:Oper}{c:Call}(ho:o.op=.call c){x:Operand}(hcl:c.callee=.value x){f:Nat}{caps:List Value}(hx:a.eval x=.func (.func f) #[] caps.toArray)(fn:Func)(hfn:X.P.funcs[f]?=some fn)(hbody:fn.body.isSome=true)(hname:(fn.name == "runtime.NumGoroutine")=false):
  (execOp a.eval o).run X.P w=.ok (.enter f (c.args.toList.map a.eval++caps).toArray) w:=by
 have ev:c.args.map a.eval++caps.toArray=(c.args.toList.map a.eval++caps).toArray:=by rw[←cW];simp
 simp only[execOp,ho,resolve,hcl,hx,Deferred.ofValue,cM,cN,bK,invoke,Array.empty_append]
 rw[ev]
 exact E0i hfn hbody hname
theorem D5g(hF:A5j X.G X.P Fs){o:Oper}{c:Call}{x:Operand}{f:Nat}(ho:o.op=.call c)(hcl:c.callee=.value x)(hx:a.eval x=.func (.func f) #[] #[]){K:St→T}{r:List D}(he:eval Fs fuel (E2s X.P X.nt st o.dst f c.args.toList K) L ρ=some r)(hnv:st.nv=ρ.length)(hs:Sat X ρ st Ft β a w)
  {next:Act→World→Prop} {Q:Exit→Act→World→Prop} (HK:A3q X Fs fuel L ρ K r next):o.wp X.P a w next Q:=by
 unfold E2s at he
 split at he
 ·rename_i vs hvs
  obtain⟨l1,q1⟩:=B4t hs hvs
  exact D3b hF (vals:=c.args.toList.map a.eval) (by simpa using l1) q1 (fun fn h1 h2 h3=>by simpa using D3v (X:=X) (w:=w) ho hcl (caps:=[]) hx fn h1 h2 h3) he hnv hs HK
 ·cases he
theorem E9s(e:E):∀(ts:List TypeId) (i:Nat),(C2u e i ts).length=ts.length
 |[],_=>rfl
 |_::ts,i=>by simp[C2u,E9s e ts]
theorem D8t{P:Program}{F:Fr}{e:E}{f:Nat}{l:List D}{us:List Value}(hd:den ρ e=.iface f (.agg l))(hl:us.length=l.length)(q:∀(c:Nat) (x:D) (u:Value),l[c]?=some x→us[c]?=some u→Rd P w F (.ptr x.dyn) x.inner u):
  ∀(ts:List TypeId) (i:Nat),i+ts.length≤l.length→(∀z ∈ C3n e i ts,(den ρ z).toBool=true)→∀(j:Nat) (s:SV) (v:Value),(C2u e i ts)[j]?=some s→us[i+j]?=some v→RV P w F ρ β s v
 |[],i,_,_,j,s,v,h,_=>by simp[C2u]at h
 |t::ts,i,hle,hz,0,s,v,h,hv=>by
  simp only[C2u,List.getElem?_cons_zero,cK]at h
  subst h
  simp only[aI]at hle
  have hi:i<l.length:=by omega
  have h1:=hz _ (by simp only[C3n];exact aQ ..)
  rw[A7v,D2n,C1j,hd]at h1
  simp only[D.C7g,D.A0j,a5,a0 hi,cR,D.A1d]at h1
  have h2:=q i _ v (a0 hi) (by simpa using hv)
  have h3:(l[i]).dyn=t:=by
   cases hq:l[i]<;>rw[hq]at h1<;>simp[D.isIf]at h1⊢
   exact h1
  rw[h3]at h2
  show Rd P w F (.ptr t) (den ρ _) v
  rw[C1j,D2n,C1j,hd]
  simpa only[D.C7g,D.A0j,a5,a0 hi,cR]using h2
 |t::ts,i,hle,hz,j+1,s,v,h,hv=>by
  simp only[C2u,List.getElem?_cons_succ]at h
  simp only[aI]at hle
  exact D8t hd hl q ts (i+1) (by omega) (fun z hzz=>hz z (by simp only[C3n];exact aV _ hzz)) j s v h (by rw[←hv];congr 1;omega)
theorem C4b(hF:A5j X.G X.P Fs){o:Oper}{c:Call}{x:Operand}(ho:o.op=.call c)(hcl:c.callee=.value x){e:E}(hx:Rd X.P w Ft .fn (den ρ e) (a.eval x)){vs:List SV}(l1:vs.length=c.args.toList.length)(q1:∀(i:Nat) (s:SV) (v:Value),vs[i]?=some s→(c.args.toList.map a.eval)[i]?=some v→RV X.P w Ft ρ β s v)
  {K:St→T} {r:List D} (hnv:st.nv=ρ.length) (hs:Sat X ρ st Ft β a w) {next:Act→World→Prop} {Q:Exit→Act→World→Prop} (HK:A3q X Fs fuel L ρ K r next)
  (A3b:∀{es:List E} {t:T} {r:List D},eval Fs fuel (A8j es t) L ρ=some r→(∀e ∈ es,(den ρ e).toBool=true)∧eval Fs fuel t L ρ=some r):
  ∀{l:List (Nat × List TypeId)},eval Fs fuel (D3w X.P X.nt st o.dst e vs K l) L ρ=some r→o.wp X.P a w next Q
 |[],he=>by cases he
 |(f,ts)::l,he=>by
  simp only[D3w]at he
  split at he
  ·exact C4b hF ho hcl hx l1 q1 hnv hs HK A3b he
  ·simp only[eval]at he
   split at he
   ·rename_i hf
    rw[A7v]at hf
    obtain⟨hn,he2⟩:=A3b he
    have hlen:=hn _ (aQ ..)
    have hcap:∀z ∈ C3n e 0 ts,(den ρ z).toBool=true:=fun z hz=>hn z (aV _ hz)
    rw[A4z,D6e,C1j]at hlen
    generalize hdd:den ρ e=dd at hx hf
    cases hx with
    |G3o e1 e2=>subst e1;simp at hf
    |fn e1 e2 e3 e4=>
     rename_i f' ll us
     subst e1
     simp only[D.G2b,D.A1d,QB]at hf
     subst hf
     rw[hdd]at hlen
     simp only[D.C7g,D.A0j,C3w,D.A1d,den,D.toInt_int]at hlen
     have hll:ll.length=ts.length:=by
      have h9:((ll.length:Nat):Int)=(ts.length:Nat):=by simpa using hlen
      omega
     refine D3b hF (vals:=c.args.toList.map a.eval++us) (by simp[l1,E9s,e3,hll]) ?_ (fun fn h1 h2 h3=>D3v (X:=X) (w:=w) ho hcl e2 fn h1 h2 h3) he2 hnv hs HK
     intro i s v h1 h2
     rcases bS i vs.length with hi|hi
     ·rw[a7 hi]at h1
      rw[a7 (by simpa[l1]using hi)]at h2
      exact q1 i s v h1 h2
     ·rw[a6 hi]at h1
      rw[a6 (by simpa[l1]using hi)]at h2
      exact D8t hdd e3 e4 ts 0 (by omega) hcap (i-vs.length) s v h1 (by simpa[l1]using h2)
   ·exact C4b hF ho hcl hx l1 q1 hnv hs HK A3b he
theorem F5h(hs:Sat X ρ st Ft β a w){e:TypeId}{x:Operand}{y:E}{st':St}(h:F4c X.P st e x=some (y,st')):∃F',Le w Ft w F'∧Sat X ρ st' F' β a w∧st'.nv=st.nv∧Rd X.P w F' (.ptr e) (den ρ y) (a.eval x):=by
 unfold F4c at h
 split at h
 ·rename_i n hx
  split at h
  ·rename_i bt cs ts hbx hts
   split at h
   ·rename_i es hes
    split at h
    ·rename_i hcl
     simp only[cK,d9]at h
     obtain⟨rfl,rfl⟩:=h
     obtain⟨b,hb1,hb2⟩:=A0g hs hx
     obtain⟨b',vs,e1,e2,e3⟩:=hs.bx _ _ hbx
     obtain rfl:b'=b:=by rw[e1]at hb1;simpa using hb1
     have hdrop:=hs.drop hbx (b:=b') (by rw[e1];rfl)
     obtain⟨l1,l2,q⟩:=A7w hes e3
     refine⟨_,Le.or fun _ _=>rfl,hdrop,rfl,?_⟩
     refine Rd.ptr (g:=fun c=>vs.getD c undef) (by show Ft.hc.contains e=false;rw[hs.cf.2];exact hcl) (A6e es) hb2 hts (by simp[l1]) (.inr rfl) ?_ ?_
     ·intro c y hy
      have hlt:c<vs.length:=by
       have:=(a4.1 hy).1
       simp at this
       omega
      simp[dA,e2,a5,a0 hlt]
     ·intro c y t' hy ht'
      have hlt:c<vs.length:=by rw[l2];exact(a4.1 ht').1
      rw[a8]at hy
      cases hec:es[c]? with
      |none=>simp[hec]at hy
      |some ec=>
       simp[hec]at hy;subst hy
       have hvc:vs[c]?=some (vs.getD c undef):=by simp[a5,a0 hlt]
       exact(q c t' ec _ ht' hec hvc).mono (Le.or fun k hk=>rfl)
    ·cases h
   ·cases h
  ·cases h
 ·rename_i c hno hx
  cases hm:mat (.ptr e) c with
  |none=>rw[hm]at h;cases h
  |some z=>
   rw[hm]at h
   simp only[cQ,cK,d9]at h
   obtain⟨rfl,rfl⟩:=h
   exact⟨Ft,Le.same fun _ _=>rfl,hs,rfl,B1m hm (A0g hs hx)⟩
 ·cases h
theorem D5k:∀{ts:List TypeId} {xs:List Operand} {st st':St} {Ft:Fr} {ys:List E},Sat X ρ st Ft β a w→C3y X.P st ts xs=some (ys,st')→∃F',Le w Ft w F'∧Sat X ρ st' F' β a w∧st'.nv=st.nv∧ys.length=xs.length∧
  ∀(c:Nat) (y:E) (x:Operand),ys[c]?=some y→xs[c]?=some x→∃e z,y=.B6o e z∧Rd X.P w F' (.ptr e) (den ρ z) (a.eval x)
 |[],[],st,st',Ft,ys,hs,h=>by
  simp only[C3y,cK,d9]at h
  obtain⟨rfl,rfl⟩:=h
  exact⟨Ft,Le.same fun _ _=>rfl,hs,rfl,rfl,fun c y x h=>by simp at h⟩
 |e::ts,x::xs,st,st',Ft,ys,hs,h=>by
  simp only[C3y]at h
  split at h
  ·rename_i y st1 h1
   split at h
   ·rename_i ys' st2 h2
    simp only[cK,d9]at h
    obtain⟨rfl,rfl⟩:=h
    obtain⟨F1,f1,s1,n1,r1⟩:=F5h hs h1
    obtain⟨F2,f2,s2,n2,l2,q2⟩:=D5k s1 h2
    refine⟨F2,f1.trans f2,s2,n2.trans n1,by simp[l2],fun c=>?_⟩
    cases c with
    |zero=>intro y' x' a1 a2;simp at a1 a2;subst a1 a2;exact⟨e,y,rfl,r1.mono f2⟩
    |succ c=>intro y' x' a1 a2;exact q2 c y' x' (by simpa using a1) (by simpa using a2)
   ·cases h
  ·cases h
 |[],_::_,_,_,_,_,_,h=>by simp[C3y]at h
 |_::_,[],_,_,_,_,_,h=>by simp[C3y]at h
theorem G2h{o:Oper}{f:Nat}{fs cs:Array Operand}(ho:o.op=.makeFunc (.func f) fs cs)(hfs:fs.toList=[]){K:St→T}{r:List D}(he:eval Fs fuel (G9u X.P X.nt st o.dst f cs.toList K) L ρ=some r)(hnv:st.nv=ρ.length)(hs:Sat X ρ st Ft β a w)
  {next:Act→World→Prop} {Q:Exit→Act→World→Prop} (HK:A3q X Fs fuel L ρ K r next):o.wp X.P a w next Q:=by
 unfold G9u at he
 split at he
 ·rename_i es st1 hc
  split at he
  ·rename_i hd
   rw[A5g,A5s]at he
   obtain⟨F',f1,s1,n1,l1,q1⟩:=D5k hs hc
   have e1:fs=#[]:=by rw[←cW,hfs]
   have ev:cs.map a.eval=(cs.toList.map a.eval).toArray:=by rw[←cW];simp
   have hrun:(execOp a.eval o).run X.P w=.ok (.value (.func (.func f) #[] (cs.toList.map a.eval).toArray)) w:=by
    simp only[execOp,ho,Instr.makeFunc,e1,ev,cM,cN,bK]
    simp
   unfold cV
   rw[hrun]
   simp only[cU]
   refine HK.now (s1.put (dst:=o.dst) hd (sv:=.one (.dat .fn (.B6o f (A4e es)))) ?_) (by show st1.nv=_;rw[n1];exact hnv) he
   refine Rd.fn (l:=es.map (den ρ)) (vs:=cs.toList.map a.eval) (by simp only[den,A6e]) rfl (by simp[l1]) ?_
   intro c x u hx hu
   rw[a8]at hx hu
   cases hec:es[c]? with
   |none=>simp[hec]at hx
   |some ec=>cases hxc:cs.toList[c]? with
    |none=>simp[hxc]at hu
    |some xc=>
     simp only[hec,hxc,cQ,cK]at hx hu
     subst hx hu
     obtain⟨e,z,rfl,hz⟩:=q1 c ec xc hec hxc
     exact hz
  ·cases he
 ·cases he
theorem E3y{P:Program}{w:World}{t e:TypeId}(hu:P.underlying t=some (.slice e))(n:Nat)(A:Option Addr)(len cap:Nat):(Op.equalIn (n+1) t (.slice A len cap) (.slice none 0 0)).run P w=.ok A.isNone w:=by
 cases A<;>simp[Op.equalIn,A1a hu]
theorem F4g{o:Oper}{op:BinOp}{t yt:TypeId}{x y:Operand}(ho:o.op=.binOp op t x y yt)(hy:F3d y=true){K:St→T}{r:List D}(he:eval Fs fuel (F3t X.P X.nt st o.dst op t x K) L ρ=some r)(hnv:st.nv=ρ.length)(hs:Sat X ρ st Ft β a w)
  {next:Act→World→Prop} {Q:Exit→Act→World→Prop} (HK:A3q X Fs fuel L ρ K r next):o.wp X.P a w next Q:=by
 have hyv:a.eval y=.slice none 0 0:=by
  unfold F3d at hy
  split at hy
  ·rfl
  ·cases hy
 have main:∀(z:E) (A:Option Addr) (len cap:Nat) (e:TypeId),X.P.underlying t=some (.slice e)→a.eval x=.slice A len cap→(A=none→(den ρ z).toL=[])→
   eval Fs fuel (if A3a X.nt o.dst=true then F4s op z (K (st.upd o.dst (.one (.dat .bool (.bool true))) none)) (K (st.upd o.dst (.one (.dat .bool (.bool false))) none))else .fail 118) L ρ=some r→o.wp X.P a w next Q:=by
  intro z A len cap e hu hv hz he
  split at he
  ·rename_i hd
   have go:∀b:Bool,(execOp a.eval o).run X.P w=.ok (.value (.bool b)) w→eval Fs fuel (K (st.upd o.dst (.one (.dat .bool (.bool b))) none)) L ρ=some r→o.wp X.P a w next Q:=by
    intro b hrun he
    unfold cV
    rw[hrun]
    simp only[cU]
    exact HK.now (hs.put (dst:=o.dst) hd (v:=.bool b) (sv:=.one (.dat .bool (.bool b))) (Rd.bool rfl)) hnv he
   have hlen:A=none→(den ρ (A8t .eql (.len z) (.int 0))).toBool=true:=by
    intro h
    rw[A4z]
    simp[C3w,den,hz h]
   have hop:op=.eql∨op=.neq:=by
    clear ho
    cases op<;>first|exact .inl rfl|exact .inr rfl|(simp only[F4s,eval]at he;cases he)
   rcases hop with rfl|rfl
   ·have hrun:(execOp a.eval o).run X.P w=.ok (.value (.bool A.isNone)) w:=by
     have:=run_eq (P:=X.P) (w:=w) (t:=t) (x:=x) (y:=y) (u:=.slice A len cap) (v:=.slice none 0 0) (by simp[binOp]) (by simp[eqGuard]) (E3y hu _ A len cap)
     simp only[execOp,ho,hv,hyv]
     rw[cM,this]
     rfl
    simp only[F4s,eval]at he
    cases A with
    |none=>
     rw[Q3 (hlen rfl)]at he
     exact go true hrun (A8v he).1
    |some q=>
     split at he
     ·exact go false hrun (A8v he).2
     ·exact go false hrun he
   ·have hrun:(execOp a.eval o).run X.P w=.ok (.value (.bool !A.isNone)) w:=by
     have:=B7r (P:=X.P) (w:=w) (t:=t) (x:=x) (y:=y) (u:=.slice A len cap) (v:=.slice none 0 0) (by simp[binOp]) (by simp[eqGuard]) (E3y hu _ A len cap)
     simp only[execOp,ho,hv,hyv]
     rw[cM,this]
     rfl
    simp only[F4s,eval]at he
    cases A with
    |none=>
     rw[Q3 (hlen rfl)]at he
     exact go false hrun (A8v he).1
    |some q=>
     split at he
     ·exact go true hrun (A8v he).2
     ·exact go true hrun he
  ·cases he
 unfold F3t at he
 simp only at he
 split at he
 ·rename_i e e' z hu hx
  have hr:Rd X.P w Ft (.slice e') (den ρ z) (a.eval x):=A0g hs hx
  cases hr with
  |snil e1 e2=>exact main z _ _ _ e hu e2 (fun _=>e1) he
  |slice e1 e2 e3 e0 e4 e5 e6=>exact main z _ _ _ e hu e1 (fun h=>by cases h) he
 ·rename_i e m hu hx
  split at he
  ·rename_i e' z hro
   obtain⟨ts,xs,_,hown,_⟩:=A6n hs hro
   have hv:a.eval x=β m:=A0g hs hx
   obtain⟨hl,⟨⟨A,h1⟩,h2⟩|⟨g,o1,cap,cur,h1,h2⟩⟩:=hown
   ·exact main z A 0 0 e hu (by rw[hv,h1]) (fun _=>aC h2) he
   ·exact main z _ _ _ e hu (by rw[hv,h1]) (fun h=>by cases h) he
  ·cases he
 ·cases he
theorem F2i{o:Oper}{t:TypeId}{parts:Array (Nat × Operand)}(ho:o.op=.buildSlice t 0 parts)(hp:parts.toList=[]){K:St→T}{r:List D}(he:eval Fs fuel (F5y X.P X.nt st o.dst t K) L ρ=some r)(hnv:st.nv=ρ.length)(hs:Sat X ρ st Ft β a w)
  {next:Act→World→Prop} {Q:Exit→Act→World→Prop} (HK:A3q X Fs fuel L ρ K r next):o.wp X.P a w next Q:=by
 unfold F5y at he
 split at he
 ·rename_i e hu
  split at he
  ·rename_i hc
   simp only[bL]at hc
   obtain⟨⟨⟨⟨hd,hfr⟩,hn⟩,ht⟩,hzc⟩:=hc
   obtain⟨n,hn⟩:=cP.1 hn
   obtain⟨ts,hts⟩:=cP.1 ht
   have e1:parts=#[]:=by rw[←cW,hp]
   have hrun:(execOp a.eval o).run X.P w=.ok (.value (.slice (some ⟨w.heap.size,0,none⟩) 0 0)) (w.alloc (.cells #[] e)):=by
    simp only[execOp,ho,e1,dF,cM,A1a hu,bK,A2y hn]
    have e0:∀f:Nat→Value,(d0 0).map f=#[]:=fun f=>by simp[←cW]
    simp[Instr.fill,newRow,e0]
   have hok:A1b X.P (w.alloc (.cells #[] e)) Ft ρ β (.vec e .A4p) (.slice (some ⟨w.heap.size,0,none⟩) 0 0):=⟨ts,[],hts,⟨by simp[den],.inl ⟨⟨_,rfl⟩,rfl⟩⟩,fun i c y t hy=>by simp[den]at hy⟩
   have hs':=hs.E5b hfr ((Below.refl _ _).alloc (bT _) _) hok (fun k hk=>by simp[bk]at hk) rfl
   unfold cV
   rw[hrun]
   simp only[cU]
   exact HK.now (hs'.put (dst:=o.dst) hd (sv:=.one (.vec st.nn)) (by show _=A0q β st.nn _ st.nn;simp[A0q])) (by rw[←hnv];rfl) he
  ·cases he
 ·cases he
theorem E9t{o:Oper}{t:TypeId}{x v:Operand}(ho:o.op=.store t x v)(hd:o.dst=none){K:St→T}{r:List D}(he:eval Fs fuel (E7l X.P st t x v K) L ρ=some r)(hnv:st.nv=ρ.length)(hs:Sat X ρ st Ft β a w)
  {next:Act→World→Prop} {Q:Exit→Act→World→Prop} (HK:A3q X Fs fuel L ρ K r next):o.wp X.P a w next Q:=by
 unfold E7l at he
 split at he
 ·rename_i n off sv hx hv
  split at he
  ·rename_i bt cs xs hbx hxs
   split at he
   ·rename_i hc
    obtain⟨hsz,hle⟩:=hc
    obtain⟨b,hb1,hb2⟩:=A0g hs hx
    obtain⟨ys,hy1,hy2⟩:=(A3o hs hv).cells hxs hs.on
    obtain⟨b',vs,e1,e2,e3⟩:=hs.bx _ _ hbx
    obtain rfl:b'=b:=by rw[e1]at hb1;simpa using hb1
    have hlen:xs.length=ys.length:=hy2.1
    have hstore:(storeCells ⟨b',off,none⟩ ys 0).run X.P w=.ok () (w.setRow b' (vs.take off++ys++vs.drop (off+ys.length)).toArray):=by
     have:=run_storeCells_at (P:=X.P) b' off bt ys 0 vs.toArray w e2 (by simp;have:=e3.1;omega) (by
      intro y hy
      obtain⟨i,hi⟩:=aO hy
      have hlt:i<xs.length:=by rw[hlen];exact(a4.1 hi).1
      exact RC.one (hy2.2 i xs[i] y (a0 hlt) hi) (fun n _=>hs.on n))
     simpa using this
    have hrun:(execOp a.eval o).run X.P w=.ok .skip (w.setRow b' (vs.take off++ys++vs.drop (off+ys.length)).toArray):=by
     simp only[execOp,ho,dH,hb2,dE,storeVar,cM,cN,bK,A2y hsz,hy1,aN,hlen,ne_eq,not_true,Q4]
     simp only[ite_false,cN,bK,hstore]
    unfold cV
    rw[hrun]
    simp only[cU,hd,Act.put]
    exact HK.now (hs.store hbx hle hb1 e2 e3 hy2) hnv he
   ·cases he
  ·cases he
 ·cases he
theorem E6v{o:Oper}{t:TypeId}{x:Operand}(ho:o.op=.makeInterface t x){K:St→T}{r:List D}(he:eval Fs fuel (D9n X.P X.nt st o.dst t x K) L ρ=some r)(hnv:st.nv=ρ.length)(hs:Sat X ρ st Ft β a w)
  {next:Act→World→Prop} {Q:Exit→Act→World→Prop} (HK:A3q X Fs fuel L ρ K r next):o.wp X.P a w next Q:=by
 unfold D9n at he
 split at he
 ·rename_i n e hx ht
  split at he
  ·rename_i bt cs ts hbx hts
   split at he
   ·rename_i es hes
    split at he
    ·rename_i hd
     simp only[bL,bN]at hd
     obtain⟨hd,hcl⟩:=hd
     obtain⟨b,hb1,hb2⟩:=A0g hs hx
     obtain⟨b',vs,e1,e2,e3⟩:=hs.bx _ _ hbx
     obtain rfl:b'=b:=by rw[e1]at hb1;simpa using hb1
     obtain⟨d,hdd,hnd⟩:=E0z ht
     have hrun:(execOp a.eval o).run X.P w=.ok (.value (.iface t (a.eval x))) w:=by
      simp only[execOp,ho,Instr.makeInterface,cM,A1a hdd,bK]
      split
      ·exact absurd rfl (hnd (by simp) _)
      ·rfl
     have hdrop:=hs.drop hbx (b:=b') (by rw[e1];rfl)
     obtain⟨l1,l2,q⟩:=A7w hes e3
     have hrd:Rd X.P w (Ft.or fun k=>k=b') (.ptr e) (den ρ (A4e es)) (a.eval x):=by
      refine Rd.ptr (g:=fun c=>vs.getD c undef) (by show Ft.hc.contains e=false;rw[hs.cf.2];simpa using hcl) (A6e es) hb2 hts (by simp[l1]) (.inr rfl) ?_ ?_
      ·intro c y hy
       have hlt:c<vs.length:=by
        have:=(a4.1 hy).1
        simp at this
        omega
       simp[dA,e2,a5,a0 hlt]
      ·intro c y t' hy ht'
       have hlt:c<vs.length:=by rw[l2];exact(a4.1 ht').1
       rw[a8]at hy
       cases hec:es[c]? with
       |none=>simp[hec]at hy
       |some ec=>
        simp[hec]at hy;subst hy
        have hvc:vs[c]?=some (vs.getD c undef):=by simp[a5,a0 hlt]
        exact(q c t' ec _ ht' hec hvc).mono (Le.or fun k hk=>rfl)
     unfold cV
     rw[hrun]
     simp only[cU]
     exact HK.now (hdrop.put (dst:=o.dst) hd (v:=.iface t (a.eval x)) (sv:=.one (.dat .ifc (.B6o t (A4e es)))) (Rd.iface rfl rfl ht (by simp) hrd)) hnv he
    ·cases he
   ·cases he
  ·cases he
 ·cases he
theorem F9j(hs:Sat X ρ st Ft β a w){m:Nat}{e:TypeId}{y:E}(hm:st.bx.lookup m=some (.vec e y)):∃A cap,β m=.slice A (den ρ y).toL.length cap∧(den ρ y).toL.length≤cap∧(0<cap→∃b o,A=some ⟨b,o,none⟩):=by
 obtain⟨ts',xs,hts',⟨hl',hr⟩,hx'⟩:=hs.bx m _ hm
 rcases hr with⟨⟨A,h⟩,h'⟩|⟨b,o,cap,cur,h,h0,_,hle,_⟩
 ·exact⟨A,0,by rw[h,h'],by omega,fun h=>by omega⟩
 ·exact⟨_,cap,h,hle,fun _=>⟨b,o,rfl⟩⟩
theorem H2q{w:World}{e:TypeId}{n len cap I J:Nat}{A:Option Addr}{xs:List Value}(h:B3g w e n (.slice A len cap) len xs)(hIJ:I≤J)(hJ:J≤len)(hle:len≤cap):
  B3g w e n (.slice (if cap=I then A else A.map (·.add (I*n))) (J-I) (cap-I)) (J-I) ((xs.drop (I*n)).take ((J-I)*n)):=by
 obtain⟨hl,hr⟩:=h
 have hm:J*n≤len*n:=bR _ hJ
 have hm2:I*n≤J*n:=bR _ hIJ
 have hm3:(J-I)*n=J*n-I*n:=cF ..
 refine⟨by rw[aF,aL,hl];omega,?_⟩
 by_cases hc:cap=I
 ·rw[Q3 hc]
  exact .inl ⟨⟨A,by rw[show J-I=0 by omega,show cap-I=0 by omega]⟩,by omega⟩
 ·rw[Q0 hc]
  rcases hr with⟨⟨B,h1⟩,h2⟩|⟨g,o,cap',cur,h1,h0,hg,hcl,hcm,hcs,htk⟩
  ·injection h1 with h1 h3 h4
   omega
  ·injection h1 with h1 h3 h4
   subst h1 h4
   refine .inr ⟨g,o+I*n,cap-I,cur,by simp[A4y],by omega,hg,by omega,by omega,?_,?_⟩
   ·have:=bR n (show I≤cap by omega)
    rw[cF];omega
   ·rw[←htk,b5,List.take_take,←bG]
    congr 1
    omega
theorem E7j{o:Oper}{t:TypeId}{x:Operand}{lo hi:Option Operand}(ho:o.op=.slice t x lo hi none){e:TypeId}(hu:X.P.underlying t=some (.slice e))(hd:A3a X.nt o.dst=true){m:Nat}{c l h:E}{n:Nat}(hn:A3k X.P e=some n){ts0:List Ty}(hts0:A0r X.P e=some ts0)(hln:ts0.length=n)
  {K:St→T} {r:List D} (he:eval Fs fuel (E1j st o.dst e m c l h K) L ρ=some r) (hnv:st.nv=ρ.length) (hs:Sat X ρ st Ft β a w) (hm:st.bx.lookup m=some (.vec e c)) (hx:a.eval x=β m)
  (hbd:∀{len cap:Nat},(den ρ (E.len c)).toInt=len→0≤(den ρ l).toInt→(den ρ l).toInt≤(den ρ h).toInt→(den ρ h).toInt≤len→len≤cap→∀b,(dC b len cap (lo.map a.eval) (hi.map a.eval) none).run X.P w=.ok ((den ρ l).toInt.toNat,(den ρ h).toInt.toNat,cap) w)
  {next:Act→World→Prop} {Q:Exit→Act→World→Prop} (HK:A3q X Fs fuel L ρ K r next):o.wp X.P a w next Q:=by
 unfold E1j at he
 obtain⟨hes,he⟩:=A3b he
 rw[A5g,A5s]at he
 have h0:(0:Int)≤(den ρ l).toInt:=QA (hes (.cmp .leq (.int 0) l) (by simp))
 have h1:(den ρ l).toInt≤(den ρ h).toInt:=QA (hes (.cmp .leq l h) (by simp))
 have h2:(den ρ h).toInt≤((den ρ c).toL.length:Int):=QA (hes (.cmp .leq h (.len c)) (by simp))
 obtain⟨ts,xs,hts,hown,hxs⟩:=hs.bx _ _ hm
 have hbox:A1b X.P w Ft ρ β (.vec e c) (β m):=⟨ts,xs,hts,hown,hxs⟩
 have htn:ts.length=n:=by rw[hts0]at hts;cases hts;exact hln
 obtain⟨A,cap,hA,hle,_⟩:=F9j hs hm
 have hb:=hbd (len:=(den ρ c).toL.length) (cap:=cap) rfl h0 h1 h2 hle true
 have hI:(den ρ l).toInt.toNat≤(den ρ h).toInt.toNat:=by omega
 have hJ:(den ρ h).toInt.toNat≤(den ρ c).toL.length:=by omega
 generalize hIe:(den ρ l).toInt.toNat=I at*
 generalize hJe:(den ρ h).toInt.toNat=J at*
 have hrun:(execOp a.eval o).run X.P w=.ok (.value (.slice (if cap=I then A else A.map (·.add (I*n))) (J-I) (cap-I))) w:=by
  simp only[execOp,ho,dG,cM,A1a hu,bK,dK,hx,hA,hb,A2y hn,cN,cS]
 rw[hA]at hown
 have hown2:=H2q hown hI hJ hle
 have hel:(den ρ (.sub c l h)).toL=((den ρ c).toL.drop I).take (J-I):=by simp only[den,D.A0j,hIe,hJe]
 have hll:(den ρ (.sub c l h)).toL.length=J-I:=by rw[hel,aF,aL];omega
 have hok:A1b X.P w Ft ρ (A0q β m (.slice (if cap=I then A else A.map (·.add (I*n))) (J-I) (cap-I))) (.vec e (.sub c l h)) (.slice (if cap=I then A else A.map (·.add (I*n))) (J-I) (cap-I)):=by
  refine⟨ts,_,hts,by rw[hll,htn]at *;exact hown2,fun i k y t' hy ht'=>?_⟩
  have hk:=(a4.1 ht').1
  rw[hel,a9]at hy
  split at hy
  ·rename_i hi
   rw[aA]at hy
   obtain⟨u,u1,u2⟩:=hxs _ k y t' hy ht'
   refine⟨u,?_,u2⟩
   rw[htn]at hk u1⊢
   rw[a9,Q3 (D4o hi hk),aA,←u1,bU,cA]
  ·cases hy
 have hs':=hs.H3c hm hok (World.grownBy.refl w _) (fun k hk=>.inl (by
  rw[hA]
  have hlt:0<cap-I:=by
   rcases bV (cap-I)with h|h
   ·rw[h]at hk;cases hq:(if cap=I then A else A.map (·.add (I*n)))<;>simp[hq,bk]at hk
   ·exact h
  rw[Q0 (by omega)]at hk
  cases A with
  |none=>simp[bk]at hk
  |some b=>
   have hb:(b.add (I*n)).block=b.block:=by unfold Addr.add;split<;>rfl
   simp only[cQ,bk,Nat.ne_of_gt hlt,Q4,hb]at hk
   simp only[bk,show cap≠0 by omega,Q4]
   exact hk)) rfl
 unfold cV
 rw[hrun]
 simp only[cU]
 exact HK.now (hs'.put (dst:=o.dst) hd (sv:=.one (.vec m)) (by show _=A0q _ _ _ _;simp[A0q])) (by rw[←hnv];rfl) he
theorem F2x{o:Oper}{t:TypeId}{x:Operand}{lo hi mx:Option Operand}(ho:o.op=.slice t x lo hi mx)
  {K:St→T} {r:List D} (he:eval Fs fuel (F4b X.P X.nt st o.dst t x lo hi mx K) L ρ=some r) (hnv:st.nv=ρ.length) (hs:Sat X ρ st Ft β a w)
  {next:Act→World→Prop} {Q:Exit→Act→World→Prop} (HK:A3q X Fs fuel L ρ K r next):o.wp X.P a w next Q:=by
 unfold F4b at he
 split at he
 ·rename_i e m hu hx
  split at he
  ·rename_i ot b j hm
   split at he
   ·rename_i e' c h' hro hhp
    split at he
    ·rename_i l h n ts hl hh hn hts
     split at he
     ·rename_i hc
      obtain⟨rfl,hn0,hln,hd⟩:=hc
      rw[A5s]at he
      refine E7j ho hu hd hn hts hln he (by simp only[St.B2u];rw[(B4r _ _).2.2.2.1];exact hnv) (hs.B2u hm hro hhp) (by simp[St.B2u]) (A0g hs hx) ?_ HK
      intro len cap q0 q1 q2 q3 q4 b'
      exact C3c hs hl hh q0 q1 q2 q3 q4 b'
     ·cases he
    ·cases he
   ·cases he
  ·cases he
 ·cases he
theorem A9y{l:List Nat}{K:St→T}{r:List D}(he:eval Fs fuel (B8s st l K) L ρ=some r)(hnv:st.nv=ρ.length)(hs:Sat X ρ st Ft β a w):∃st' Ft',st'.nv=ρ.length∧Sat X ρ st' Ft' β a w∧eval Fs fuel (K st') L ρ=some r:=by
 unfold B8s at he
 split at he
 ·exact⟨st,Ft,hnv,hs,he⟩
 ·rw[A5s]at he
  obtain⟨F',_,q⟩:=hs.fzs l
  exact⟨_,F',by rw[G5w,hnv],q,he⟩
theorem B4x(hs:Sat X ρ st Ft β a w):∀{os:List OTy} {cs:List C} {vs:List Value} {es:List E} {ms:List Nat},B2g X.P st os cs=some (es,ms)→RCL X.P w Ft ρ β cs vs→es.length=os.length∧vs.length=os.length∧
  ∃g:Nat→List Nat,(∀(i:Nat) (o:OTy) (e:E) (u:Value),os[i]?=some o→es[i]?=some e→vs[i]?=some u→C1x X.P w Ft (g i) o (den ρ e) u)∧
   (∀i k,k ∈ g i→∃m x,m ∈ ms∧st.bx.lookup m=some x∧x.bk (β m)=some k)∧∀i j k,k ∈ g i→k ∈ g j→i=j
 |[],[],vs,es,ms,h,hr=>by
  simp[B2g]at h
  obtain⟨rfl,rfl⟩:=h
  exact⟨rfl,hr.1.symm,fun _=>[],fun i o e u h=>by simp at h,fun i k h=>by simp at h,fun i j k h=>by simp at h⟩
 |[],c::cs,vs,es,ms,h,hr=>by simp[B2g]at h
 |o::os,[],vs,es,ms,h,hr=>by simp[B2g]at h
 |o::os,c::cs,[],es,ms,h,hr=>by have:=hr.1;simp at this
 |o::os,c::cs,v::vs,es,ms,h,hr=>by
  have hr0:=hr.2 0 c v rfl rfl
  have hr1:RCL X.P w Ft ρ β cs vs:=⟨by have:=hr.1;simpa using this,fun i c v h1 h2=>hr.2 (i+1) c v h1 h2⟩
  simp only[B2g]at h
  split at h
  ·rename_i es' ms' h1
   obtain⟨l1,l2,g,q1,q2,q3⟩:=B4x hs h1 hr1
   have build:∀(e:E) (S:List Nat) (ms2:List Nat),C1x X.P w Ft S o (den ρ e) v→(∀k,k ∈ S→∃m x,m ∈ ms2∧st.bx.lookup m=some x∧x.bk (β m)=some k)→(∀m,m ∈ ms'→m ∈ ms2)→(∀k i,k ∈ S→k ∉ g i)→(e::es').length=(o::os).length∧(v::vs).length=(o::os).length∧
     ∃g:Nat→List Nat,(∀(i:Nat) (o':OTy) (e':E) (u:Value),(o::os)[i]?=some o'→(e::es')[i]?=some e'→(v::vs)[i]?=some u→C1x X.P w Ft (g i) o' (den ρ e') u)∧
      (∀i k,k ∈ g i→∃m x,m ∈ ms2∧st.bx.lookup m=some x∧x.bk (β m)=some k)∧∀i j k,k ∈ g i→k ∈ g j→i=j:=by
    intro e S ms2 ho hS hsub hdis
    refine⟨by simp[l1],by simp[l2],fun i=>match i with|0=>S|i+1=>g i,fun i=>?_,fun i=>?_,fun i j k hi hj=>?_⟩
    ·cases i with
     |zero=>intro o' e' u a1 a2 a3;simp at a1 a2 a3;subst a1 a2 a3;exact ho
     |succ i=>intro o' e' u a1 a2 a3;exact q1 i o' e' u (by simpa using a1) (by simpa using a2) (by simpa using a3)
    ·cases i with
     |zero=>exact hS
     |succ i=>intro k hk;obtain⟨m,x,z1,z2⟩:=q2 i k hk;exact⟨m,x,hsub m z1,z2⟩
    ·cases i with
     |zero=>cases j with
      |zero=>rfl
      |succ j=>exact absurd hj (hdis k j hi)
     |succ i=>cases j with
      |zero=>exact absurd hi (hdis k i hj)
      |succ j=>rw[q3 i j k hi hj]
   split at h
   ·rename_i t
    cases hm:mat t c with
    |none=>simp[hm]at h
    |some e=>
     simp[hm]at h
     obtain⟨rfl,rfl⟩:=h
     exact build e [] ms' (.dat (B1m hm hr0)) (fun k h=>by simp at h) (fun m h=>h) (fun k i h=>by simp at h)
   ·rename_i z e
    split at h
    ·split at h
     ·rename_i hct
      cases h
      have hv:v=.slice none 0 0:=hr0
      cases hts:A0r X.P e with
      |none=>rw[hts]at hct;cases hct
      |some ts=>
       refine build .A4p (bk v).toList _ (.row hts ⟨by simp[den],.inl ⟨⟨none,hv⟩,by simp[den]⟩⟩ (xs:=[]) (fun i c y t h=>by simp[den]at h)) (fun k h=>?_) (fun m h=>h) (fun k i h=>?_)
       ·rw[hv]at h;simp[bk]at h
       ·rw[hv]at h;simp[bk]at h
     ·cases h
    ·rename_i m
     split at h
     ·rename_i e' y hb
      split at h
      ·rename_i hc
       obtain⟨rfl,hnc⟩:=hc
       cases h
       have hv:v=β m:=hr0
       obtain⟨ts,xs,z1,z2,z3⟩:=hs.bx m _ hb
       have hmem:∀k,k ∈ (bk v).toList→bk (β m)=some k:=fun k hk=>by rw[hv]at hk;simpa using hk
       refine build y (bk v).toList (m::ms') (.row z1 (by rw[hv];exact z2) z3) (fun k hk=>⟨m,_,aQ ..,hb,hmem k hk⟩) (fun m h=>aV _ h) (fun k i hk hi=>?_)
       obtain⟨m',x',w1,w2,w3⟩:=q2 i k hi
       have:=hs.inj m m' _ _ k hb w2 (hmem k hk) w3
       subst this
       have:ms'.contains m=true:=by simpa using w1
       rw[this]at hnc;cases hnc
      ·cases h
     ·cases h
    ·cases h
  ·cases h
theorem D9c{o:Oper}{t:TypeId}{cs:List C}{vs:List Value}(hrun:(execOp a.eval o).run X.P w=.ok (.value (.pointer (some ⟨w.heap.size,0,none⟩))) (w.alloc (.cells vs.toArray t)))(hl:RCL X.P w Ft ρ β cs vs)(hcl:st.cf.hc.contains t=true)
  {K:St→T} {r:List D} (he:eval Fs fuel (F1d X.P X.nt st o.dst t cs K) L ρ=some r) (hnv:st.nv=ρ.length) (hs:Sat X ρ st Ft β a w) {next:Act→World→Prop} {Q:Exit→Act→World→Prop} (HK:A3q X Fs fuel L ρ K r next):o.wp X.P a w next Q:=by
 unfold F1d at he
 split at he
 ·rename_i h os hhp hos
  split at he
  ·rename_i es ms hoc
   split at he
   ·rename_i hc
    obtain⟨hd,hex⟩:=hc
    rw[A5g,A5g,A5s]at he
    obtain⟨l1,l2,g,g1,g2,g3⟩:=B4x hs hoc hl
    obtain⟨φ,q1,q2⟩:=hs.hg.hp _ _ hhp
    have hs1:=hs.A2u ms
    obtain⟨p1,p2,p3,p4,p5,p6⟩:=B4r ms st
    have hb:=C0l w (.cells vs.toArray t)
    have hsz:=B3h w (.cells vs.toArray t)
    have hnewc:=heap_alloc_new w (.cells vs.toArray t)
    generalize hw':w.alloc (.cells vs.toArray t)=w' at*
    have hle:Le w Ft w' ⟨Ft.ok,Ft.γ++[(w.heap.size,t)],Ft.hc⟩:=⟨fun b hb'=>⟨hb',hb.block b (hs.ft b hb').1⟩,bB _ _,rfl⟩
    have hgk:∀i k,k ∈ g i→k<w.heap.size∧(k ∈ X.S∨X.w0.heap.size≤k)∧¬Ft k∧(∀n,k ∉ φ n)∧∀j x,(st.A2u ms).bx.lookup j=some x→x.bk (β j)≠some k:=by
     intro i k hk
     obtain⟨m,x,z1,z2,z3⟩:=g2 i k hk
     refine⟨(hs.own m x k z2 z3).1,(hs.own m x k z2 z3).2,fun hf=>(hs.ft k hf).2 m x z2 z3,fun n hn=>(q2 n k hn).2 m x z2 z3,fun j y hy he=>?_⟩
     obtain⟨y1,z,y2,y3,_⟩:=A8y ms hy
     rw[y3]at he
     have:=hs.inj j m z x k y2 z2 he z3
     subst this
     exact y1 z1
    have hbx:∀j x k,(st.A2u ms).bx.lookup j=some x→x.bk (β j)=some k→k<w.heap.size:=fun j x k hx hk=>(hs1.own j x k hx hk).1
    have hlenγ:(den ρ h).toL.length=Ft.γ.length:=q1.len
    let φ':Nat→List Nat:=fun n=>if n=Ft.γ.length then A9d w.heap.size os.length g else φ n
    have hφn:∀n k,k ∈ φ' n→(n=Ft.γ.length∧(k=w.heap.size∨∃i,i<os.length∧k ∈ g i))∨(n≠Ft.γ.length∧k ∈ φ n):=by
     intro n k hk
     simp only[φ']at hk
     split at hk
     ·rename_i e;exact .inl ⟨e,(A5b k).1 hk⟩
     ·rename_i e;exact .inr ⟨e,hk⟩
    have hφ0:∀n k,k ∈ φ n→k<w.heap.size∧¬Ft k∧(∀j x,(st.A2u ms).bx.lookup j=some x→x.bk (β j)≠some k)∧(k ∈ X.S∨X.w0.heap.size≤k):=by
     intro n k hk
     refine⟨(q1.far n k hk).1,(q1.far n k hk).2,fun j x hx he=>?_,(q2 n k hk).1 rfl⟩
     obtain⟨_,z,y2,y3,_⟩:=A8y ms hx
     rw[y3]at he
     exact(q2 n k hk).2 j z y2 he
    have hnf:¬Ft w.heap.size:=fun hf=>by have:=(hs.ft _ hf).1;omega
    have hall:∀n k,k ∈ φ' n→k<w'.heap.size∧¬Ft k∧(∀j x,(st.A2u ms).bx.lookup j=some x→x.bk (β j)≠some k)∧(k ∈ X.S∨X.w0.heap.size≤k):=by
     intro n k hk
     rw[hsz]
     rcases hφn n k hk with⟨_,rfl|⟨i,_,hi⟩⟩|⟨_,hk⟩
     ·exact⟨by omega,hnf,fun j x hx he=>by have:=hbx j x _ hx he;omega,.inr hs.chg.size⟩
     ·obtain⟨z1,z2,z3,_,z5⟩:=hgk i k hi
      exact⟨by omega,z3,z5,z2⟩
     ·obtain⟨z1,z2,z3,z4⟩:=hφ0 n k hk
      exact⟨by omega,z2,z3,z4⟩
    have hhp':B0j X.P w' ⟨Ft.ok,Ft.γ++[(w.heap.size,t)],Ft.hc⟩ st.cf.ob (den ρ (B8j h (A4e es))) [] φ':=by
     have hden:den ρ (B8j h (A4e es))=.agg ((den ρ h).toL++[.agg (es.map (den ρ))]):=by rw[E4m,A6e]
     rw[hden]
     refine⟨by simp[hlenγ],?_,?_,fun n k hk=>⟨(hall n k hk).1,(hall n k hk).2.1⟩,?_⟩
     ·intro n b' t' hn
      rcases cB n Ft.γ.length with hlt|heq|hgt
      ·have hn':Ft.γ[n]?=some (b',t'):=by
        have:(Ft.γ++[(w.heap.size,t)])[n]?=some (b',t'):=hn
        rwa [a7 hlt]at this
       have hob:=q1.obj n b' t' hn'
       rw[hex]at hob
       have:(D.agg ((den ρ h).toL++[.agg (es.map (den ρ))])).toL.getD n .nil=(den ρ h).toL.getD n .nil:=by
        simp only[D.A0j,a5]
        rw[a7 (by omega)]
       rw[this]
       simp only[φ',Q0 (Nat.ne_of_lt hlt)]
       exact hob.mono hle fun k hk=>hb.block k (q1.far n k hk).1
      ·subst heq
       have hn':(Ft.γ++[(w.heap.size,t)])[Ft.γ.length]?=some (b',t'):=hn
       rw[a6 (bT _),c6]at hn'
       simp at hn'
       obtain⟨rfl,rfl⟩:=hn'
       have hd':(D.agg ((den ρ h).toL++[.agg (es.map (den ρ))])).toL.getD Ft.γ.length .nil=.agg (es.map (den ρ)):=by
        simp only[D.A0j,a5]
        rw[a6 (by omega),hlenγ,c6];rfl
       rw[hd']
       simp only[φ',Q5]
       refine⟨vs,os,g,hnewc,hos,by simp[l1],l2,fun i o' x u a1 a2 a3=>?_,fun k=>A5b k,fun i hi hk=>?_,fun i j k _ _=>g3 i j k⟩
       ·rw[Q0 (by simp)]
        simp only[D.A0j,a8]at a2
        cases he':es[i]? with
        |none=>simp[he']at a2
        |some e=>
         simp[he']at a2
         subst a2
         exact(g1 i o' e u a1 he' a3).mono hle fun k hk=>hb.block k (hgk i k hk).1
       ·have:=(hgk i _ hk).1;omega
      ·have:(Ft.γ++[(w.heap.size,t)])[n]?=some (b',t'):=hn
       rw[aM (by simp;omega)]at this
       cases this
     ·intro n n' k hk hk'
      rcases hφn n k hk with⟨e1,z1⟩|⟨e1,z1⟩<;>rcases hφn n' k hk' with⟨e2,z2⟩|⟨e2,z2⟩
      ·rw[e1,e2]
      ·exfalso
       rcases z1 with rfl|⟨i,_,hi⟩
       ·have:=(hφ0 n' _ z2).1;omega
       ·exact(hgk i k hi).2.2.2.1 n' z2
      ·exfalso
       rcases z2 with rfl|⟨i,_,hi⟩
       ·have:=(hφ0 n _ z1).1;omega
       ·exact(hgk i k hi).2.2.2.1 n z1
      ·exact q1.dis n n' k z1 z2
     ·intro n hn
      have hn':Ft.γ.length+1≤n:=by simpa using hn
      simp only[φ']
      rw[Q0 (by omega)]
      exact q1.out n (by omega)
    have hA:Sat X ρ {(st.A2u ms)with hp:=some (true,B8j h (A4e es))} ⟨Ft.ok,Ft.γ++[(w.heap.size,t)],Ft.hc⟩ β a w':=by
     refine⟨hs1.df,hs1.sz,fun b hb'=>⟨bQ (hs1.ft b hb').1 hb.size,(hs1.ft b hb').2⟩,?_,?_,hs1.inj,?_,B9p hs1.chg hb,hs1.fs,hs1.on,hs1.f0,hs1.gx,hs1.cf,⟨?_,?_⟩,⟨hs1.fw.1,hs1.fw.2.1.trans (bB _ _),hs1.fw.2.2.1,fun he'=>absurd rfl (he' _)⟩⟩
     ·intro t' sv ht
      obtain⟨u,z1,z2⟩:=hs1.tm t' sv ht
      exact⟨u,z1,z2.mono hle⟩
     ·intro n x hx
      exact(hs1.bx n x hx).mono hle (fun k hk=>hb.block k (hs1.own n x k hx hk).1) (fun n' b' t' hn _=>hb.block b' (hs1.hg.gm n' b' t' hn).1)
     ·intro n x k hx hk
      exact⟨bQ (hs1.own n x k hx hk).1 hb.size,(hs1.own n x k hx hk).2⟩
     ·intro m e' he'
      cases he'
      refine⟨φ',?_,fun n k hk=>⟨fun _=>(hall n k hk).2.2.2,(hall n k hk).2.2.1⟩⟩
      show B0j X.P w' _ (st.A2u ms).cf.ob _ (exN ρ (st.A2u ms).ex) φ'
      rw[p3,p2,hex]
      exact hhp'
     ·intro n b' t' hn
      obtain⟨_,_,_,_,_,_,_,_,z6,_⟩:=hhp'.obj n b' t' hn
      have hin:=(z6 b').2 (.inl rfl)
      exact⟨(hall n b' hin).1,(hall n b' hin).2.1,(hall n b' hin).2.2.1⟩
    unfold cV
    rw[hrun]
    simp only[cU]
    refine HK.now (hA.put (dst:=o.dst) hd (sv:=.one (.dat (.ptr t) (D7l h))) (v:=.pointer (some ⟨w.heap.size,0,none⟩)) ?_) (by show(st.A2u ms).nv=_;rw[p4];exact hnv) he
    refine Rd.B8g (n:=Ft.γ.length) (by show Ft.hc.contains t=true;rw[hs.cf.2];exact hcl) (by rw[D6e,hlenγ]) ?_ rfl
    show(Ft.γ++[(w.heap.size,t)])[Ft.γ.length]?=_
    rw[a6 (bT _),c6];rfl
   ·cases he
  ·cases he
 ·cases he
theorem E8t(n:Nat):∀(es:List E) (x:E) (c:Nat),(den ρ x).toL.length=n→c+es.length≤n→(den ρ (C6n n x c es)).toL.length=n∧∀i,i<n→(den ρ (C6n n x c es)).toL[i]?=if c≤i∧i<c+es.length then(es[i-c]?).map (den ρ)else(den ρ x).toL[i]?
 |[],x,c,hn,hl=>⟨hn,fun i hi=>by rw[Q0 (by rintro⟨h1,h2⟩;simp at h2;omega)];rfl⟩
 |e::es,x,c,hn,hl=>by
  simp only[aI]at hl
  have h1:=E1a (ρ:=ρ) n x c e hn
  have hn1:(den ρ (B9x n x c e)).toL.length=n:=by rw[h1];simp[hn]
  obtain⟨q1,q2⟩:=E8t n es (B9x n x c e) (c+1) hn1 (by omega)
  refine⟨q1,fun i hi=>?_⟩
  simp only[C6n]
  rw[q2 i hi,h1]
  simp only[D.A0j,aI]
  by_cases h2:c+1≤i∧i<c+1+es.length
  ·rw[Q3 h2,Q3 (by omega)]
   have:i-c=(i-(c+1))+1:=by omega
   rw[this];simp
  ·rw[Q0 h2]
   by_cases h3:i=c
   ·subst h3
    rw[Q3 (by omega),aH (by omega)]
    simp
   ·rw[aG (by omega),Q0 (by omega)]
theorem B0j.turn{P:Program}{w w':World}{F:Fr}{ob:List (Nat × Nat)}{h h':D}{ex ex':List (Nat × Nat)}{φ:Nat→List Nat}(q:B0j P w F ob h ex φ){n b:Nat}{t:TypeId}(hn:F.γ[n]?=some (b,t)){d:D}(hh:h'=.agg (h.toL.set n d)){S:List Nat}
  (hle:Le w F w' F) (hsz:w.heap.size≤w'.heap.size) (hoth:∀n' k,n'≠n→k ∈ φ n'→w'.heap[k]?=w.heap[k]?) (hex:∀n' c,n'≠n→ex'.contains (n',c)=ex.contains (n',c)) (ho:B5a P w' F ob (fun c=>ex'.contains (n,c)) t b d S)
  (hS:∀k,k ∈ S→k ∈ φ n∨(k<w'.heap.size∧¬F k∧∀n',k ∉ φ n')):B0j P w' F ob h' ex' (fun n'=>if n'=n then S else φ n'):=by
 have hlt:n<h.toL.length:=by rw[q.len];exact(a4.1 hn).1
 refine⟨by rw[hh];simp[q.len],fun n' b' t' hn'=>?_,fun n1 n2 k h1 h2=>?_,fun n' k hk=>?_,fun n' hn'=>?_⟩
 ·by_cases he:n'=n
  ·subst he
   rw[hn]at hn';cases hn'
   have:h'.toL.getD n' .nil=d:=by rw[hh];simp[hlt]
   rw[this,Q3 rfl]
   exact ho
  ·have:h'.toL.getD n' .nil=h.toL.getD n' .nil:=by
    rw[hh]
    simp only[D.A0j,a5]
    rw[aG (Ne.symm he)]
   rw[this,Q0 he]
   have hob:=(q.obj n' b' t' hn').mono hle (fun k hk=>hoth n' k he hk)
   obtain⟨p1,p2,p3,p4,p5,p6,p7,p8,p9⟩:=hob
   refine⟨p1,p2,p3,p4,p5,p6,p7,fun i o y u a1 a2 a3=>?_,p9⟩
   have:=p8 i o y u a1 a2 a3
   simp only[hex n' i he]
   exact this
 ·by_cases e1:n1=n<;>by_cases e2:n2=n
  ·rw[e1,e2]
  ·rw[Q3 e1]at h1;rw[Q0 e2]at h2
   rcases hS k h1 with h1|⟨_,_,h1⟩
   ·exact absurd (q.dis n2 n k h2 h1) e2
   ·exact absurd h2 (h1 n2)
  ·rw[Q0 e1]at h1;rw[Q3 e2]at h2
   rcases hS k h2 with h2|⟨_,_,h2⟩
   ·exact absurd (q.dis n1 n k h1 h2) e1
   ·exact absurd h1 (h2 n1)
  ·rw[Q0 e1]at h1;rw[Q0 e2]at h2
   exact q.dis n1 n2 k h1 h2
 ·by_cases e1:n'=n
  ·rw[Q3 e1]at hk
   rcases hS k hk with hk|⟨h1,h2,_⟩
   ·exact⟨bQ (q.far n k hk).1 hsz,(q.far n k hk).2⟩
   ·exact⟨h1,h2⟩
  ·rw[Q0 e1]at hk
   exact⟨bQ (q.far n' k hk).1 hsz,(q.far n' k hk).2⟩
 ·have:n'≠n:=fun e=>by subst e;rw[aM hn']at hn;cases hn
  rw[Q0 this];exact q.out n' hn'
theorem Sat.turn(hs:Sat X ρ st Ft β a w){h h':E}(hhp:st.hp=some (true,h)){b:Nat}{cs:Array Value}{φ:Nat→List Nat}(q1:B0j X.P w Ft st.cf.ob (den ρ h) (exN ρ st.ex) φ)(q2:∀n k,k ∈ φ n→(k ∈ X.S∨X.w0.heap.size≤k)∧∀j x,st.bx.lookup j=some x→x.bk (β j)≠some k){n:Nat}(hb:b ∈ φ n){ex':List (Nat × TypeId × E)}{φ':Nat→List Nat}
  (hview:(∀n' t x c,st.bx.lookup n'≠some (.view t x c))∨(∀(n' b':Nat) (t':TypeId),Ft.γ[n']?=some (b',t')→b'≠b)∨∀n' t x c,st.bx.lookup n'=some (.view t x c)→A1b X.P (w.setRow b cs) Ft ρ β (.view t x c) (β n')) (h1:B0j X.P (w.setRow b cs) Ft st.cf.ob (den ρ h') (exN ρ ex') φ') (h2:∀n k,k ∈ φ' n→(k ∈ X.S∨X.w0.heap.size≤k)∧∀j x,st.bx.lookup j=some x→x.bk (β j)≠some k):
  Sat X ρ {st with hp:=some (true,h'),ex:=ex'} Ft β a (w.setRow b cs):=by
 have hsz:(w.setRow b cs).heap.size=w.heap.size:=by simp[dB]
 have hnb:¬Ft b:=(q1.far n b hb).2
 have hle:Le w Ft (w.setRow b cs) Ft:=Le.same fun k hk=>A1m w b _ (fun e=>hnb (by rw[←e];exact hk))
 refine⟨hs.df,hs.sz,fun k hk=>by rw[hsz];exact hs.ft k hk,?_,?_,hs.inj,fun n' x k hx hk=>by rw[hsz];exact hs.own n' x k hx hk,?_,hs.fs,hs.on,hs.f0,hs.gx,hs.cf,⟨fun m e he=>?_,fun n' b' t' hn'=>?_⟩,⟨hs.fw.1,hs.fw.2.1,hs.fw.2.2.1,fun he=>absurd rfl (he _)⟩⟩
 ·intro t sv ht
  obtain⟨v,z1,z2⟩:=hs.tm t sv ht
  exact⟨v,z1,z2.mono hle⟩
 ·intro j x hx
  rcases hview with hview|hview|hview
  ·refine(hs.bx j x hx).mono hle (fun k hk=>A1m w b _ (fun e=>?_)) (fun n' b' t' hn' hv=>A1m w b _ ?_)
   ·subst e;exact(q2 n k hb).2 j x hx hk
   ·obtain⟨y,c,rfl⟩:=hv;exact absurd hx (hview j t' y c)
  ·refine(hs.bx j x hx).mono hle (fun k hk=>A1m w b _ (fun e=>?_)) (fun n' b' t' hn' hv=>A1m w b _ ?_)
   ·subst e;exact(q2 n k hb).2 j x hx hk
   ·exact hview n' b' t' hn'
  ·by_cases hv:∃t y c,x=.view t y c
   ·obtain⟨t,y,c,rfl⟩:=hv
    exact hview j t y c hx
   ·refine(hs.bx j x hx).mono hle (fun k hk=>A1m w b _ (fun e=>?_)) (fun n' b' t' hn' hv'=>?_)
    ·subst e;exact(q2 n k hb).2 j x hx hk
    ·obtain⟨y,c,rfl⟩:=hv'
     exact absurd ⟨_,_,_,rfl⟩ hv
 ·refine⟨hs.chg.os,hs.chg.tape,hs.chg.output,by rw[hsz];exact hs.chg.size,fun k hk hn=>?_⟩
  rw[A1m w b _ (fun e=>?_)]
  ·exact hs.chg.block k hk hn
  ·subst e
   rcases(q2 n k hb).1 with h|h
   ·exact hn h
   ·omega
 ·cases he
  exact⟨φ',h1,fun n k hk=>⟨fun _=>(h2 n k hk).1,(h2 n k hk).2⟩⟩
 ·obtain⟨g1,g2,g3⟩:=hs.hg.gm n' b' t' hn'
  exact⟨by rw[hsz];exact g1,g2,g3⟩
theorem E5y{o:Oper}{t:TypeId}{x v:Operand}(ho:o.op=.store t x v)(hd:o.dst=none){es0:List E}{tt:TypeId}{y:E}{c:Nat}{sv:SV}(hv:opV st v=some sv)(hx:(∀e ∈ es0,(den ρ e).toBool=true)→RC X.P w Ft ρ β (.A8b tt y c) (a.eval x))
  {K:St→T} {r:List D} (he:eval Fs fuel (D9m X.P st t es0 tt y c sv K) L ρ=some r) (hnv:st.nv=ρ.length) (hs:Sat X ρ st Ft β a w) {next:Act→World→Prop} {Q:Exit→Act→World→Prop} (HK:A3q X Fs fuel L ρ K r next):o.wp X.P a w next Q:=by
 unfold D9m at he
 split at he
 ·rename_i h os xs hhp hos hxs
  split at he
  ·rename_i es ms hoc
   split at he
   ·rename_i hc
    obtain⟨hsz,hcl,hpos,hexs⟩:=hc
    obtain⟨hes0,he⟩:=A3b he
    rw[A5g,A5s]at he
    obtain⟨n,b,x1,x2,x3,x4⟩:=hx hes0
    obtain⟨ys,hy1,hy2⟩:=(A3o hs hv).cells hxs hs.on
    obtain⟨l1,l2,gx,g1,g2,g3⟩:=B4x hs hoc hy2
    obtain⟨φ,q1,q2⟩:=hs.hg.hp _ _ hhp
    obtain⟨vs,os',g,o1,o2,o3,o4,o5,o6,o7,o8⟩:=q1.obj n b tt x3
    rw[hos]at o2;cases o2
    have hlx:xs.length=ys.length:=hy2.1
    have hle1:es.length=xs.length:=by rw[l1];simp;omega
    have hnl:n<(den ρ h).toL.length:=by rw[q1.len];exact(a4.1 x3).1
    have hobj:den ρ (mkGet h y)=(den ρ h).toL.getD n .nil:=by
     have:=C6l (ρ:=ρ) h y (by rw[x2];simpa using hnl)
     rw[this,x2];simp
    have hwf:w.heap[b]?=some (.cells vs.toArray tt (0,0)):=o1
    have hstore:(storeCells ⟨b,c,none⟩ ys 0).run X.P w=.ok () (w.setRow b (vs.take c++ys++vs.drop (c+ys.length)).toArray):=by
     have:=run_storeCells_at (P:=X.P) b c tt ys 0 vs.toArray w hwf (by simp;omega) (by
      intro u hu
      obtain⟨i,hi⟩:=aO hu
      have hlt:i<xs.length:=by rw[hlx];exact(a4.1 hi).1
      exact RC.one (hy2.2 i xs[i] u (a0 hlt) hi) (fun n _=>hs.on n))
     simpa using this
    have hrun:(execOp a.eval o).run X.P w=.ok .skip (w.setRow b (vs.take c++ys++vs.drop (c+ys.length)).toArray):=by
     simp only[execOp,ho,dH,x4,dE,storeVar,cM,cN,bK,A2y hsz,hy1,aN,hlx,ne_eq,not_true,Q4]
     simp only[ite_false,cN,bK,hstore]
    have hbφ:b ∈ φ n:=(o6 b).2 (.inl rfl)
    have hnb:¬Ft b:=(q1.far n b hbφ).2
    have hws:∀k,k≠b→(w.setRow b (vs.take c++ys++vs.drop (c+ys.length)).toArray).heap[k]?=w.heap[k]?:=fun k hk=>A1m w b _ hk
    have hwb:(w.setRow b (vs.take c++ys++vs.drop (c+ys.length)).toArray).heap[b]?=some (.cells (vs.take c++ys++vs.drop (c+ys.length)).toArray tt (0,0)):=C0k w b _ _ tt hwf
    have hsz':(w.setRow b (vs.take c++ys++vs.drop (c+ys.length)).toArray).heap.size=w.heap.size:=by simp[dB]
    generalize hw':w.setRow b (vs.take c++ys++vs.drop (c+ys.length)).toArray=w' at*
    have hle:Le w Ft w' Ft:=Le.same fun k hk=>hws k (fun e=>hnb (by rw[←e];exact hk))
    have hgx:∀i k,k ∈ gx i→k<w.heap.size∧(k ∈ X.S∨X.w0.heap.size≤k)∧¬Ft k∧(∀n,k ∉ φ n)∧∀j x,(st.A2u (ms++st.A5a tt c xs.length)).bx.lookup j=some x→x.bk (β j)≠some k:=by
     intro i k hk
     obtain⟨m,x,z1,z2,z3⟩:=g2 i k hk
     refine⟨(hs.own m x k z2 z3).1,(hs.own m x k z2 z3).2,fun hf=>(hs.ft k hf).2 m x z2 z3,fun n hn=>(q2 n k hn).2 m x z2 z3,fun j y hy he=>?_⟩
     obtain⟨y1,z,y2,y3,_⟩:=A8y (ms++st.A5a tt c xs.length) hy
     rw[y3]at he
     have:=hs.inj j m z x k y2 z2 he z3
     subst this
     exact y1 (aU _ z1)
    let g':Nat→List Nat:=fun i=>if c≤i∧i<c+xs.length then gx (i-c)else g i
    have hg':∀i k,k ∈ g' i→(c≤i∧i<c+xs.length∧k ∈ gx (i-c))∨(¬(c≤i∧i<c+xs.length)∧k ∈ g i):=by
     intro i k hk
     simp only[g']at hk
     split at hk
     ·rename_i h;exact .inl ⟨h.1,h.2,hk⟩
     ·rename_i h;exact .inr ⟨h,hk⟩
    let ex':=st.ex.filter fun x=>!(decide (c≤x.1)&&decide (x.1<c+xs.length))
    have hexm:∀n' i,(exN ρ ex').contains (n',i)=true↔¬(c≤i∧i<c+xs.length)∧(exN ρ st.ex).contains (n',i)=true:=by
     intro n' i
     simp only[exN,ex',b6,bJ,List.mem_filter,Q9]
     constructor
     ·rintro⟨p,⟨h1,h2⟩,h3⟩
      cases h3
      refine⟨fun hh=>?_,p,h1,rfl⟩
      simp[hh.1,hh.2]at h2
     ·rintro⟨h1,p,h2,h3⟩
      cases h3
      refine⟨p,⟨h2,?_⟩,rfl⟩
      simp only[bN,bO,decide_eq_false_iff_not]
      rcases bS p.1 c with h|h
      ·exact .inl (by omega)
      ·exact .inr (fun hh=>h1 ⟨h,hh⟩)
    have hexo:∀n' i,n'≠n→(exN ρ ex').contains (n',i)=(exN ρ st.ex).contains (n',i):=by
     intro n' i hne
     rw[bP,hexm]
     refine⟨fun h=>h.2,fun h=>⟨fun hr=>?_,h⟩⟩
     simp only[exN,b6,bJ,Q9]at h
     obtain⟨p,h1,h2⟩:=h
     cases h2
     have:=aE.1 hexs p h1
     simp only[Bool.or_eq_true,bN,Q9,bO,decide_eq_false_iff_not]at this
     rcases this with this|this
     ·rcases this with this|this
      ·exact this hr.1
      ·exact this hr.2
     ·rw[this,x2]at hne
      simp at hne
    obtain⟨e1,e2⟩:=E8t (ρ:=ρ) os.length es (mkGet h y) c (by rw[hobj];exact o3) (by omega)
    have hobjok:B5a X.P w' Ft st.cf.ob (fun c=>(exN ρ ex').contains (n,c)) tt b (den ρ (C6n os.length (mkGet h y) c es)) (A9d b os.length g'):=by
     refine⟨_,os,g',hwb,hos,e1,by simp;omega,fun i o' d u a1 a2 a3=>?_,fun k=>A5b k,fun i hi hk=>?_,fun i j k hi hj h1 h2=>?_⟩
     ·have hi:=(a4.1 a1).1
      rw[e2 i hi]at a2
      by_cases hr:c≤i∧i<c+xs.length
      ·rw[Q0 (by rw[hexm];exact fun h=>h.1 hr)]
       rw[Q3 (by omega)]at a2
       have hu:ys[i-c]?=some u:=by
        rw[aB,a6 (by simp;omega),a7 (by simp;omega)]at a3
        rw[←a3];congr 1;simp;omega
       have ho':((os.drop c).take xs.length)[i-c]?=some o':=by
        rw[a9,Q3 (by omega),aA,←a1];congr 1;omega
       cases hee:es[i-c]? with
       |none=>rw[hee]at a2;simp at a2
       |some ei=>
        rw[hee]at a2
        simp only[cQ,cK]at a2
        subst a2
        have:=(g1 (i-c) o' ei u ho' hee hu).mono hle (fun k hk=>hws k (fun e=>(hgx (i-c) k hk).2.2.2.1 n (by rw[e];exact hbφ)))
        simp only[g',Q3 hr]
        exact this
      ·rw[Q0 (by omega)]at a2
       have hu:vs[i]?=some u:=by
        rw[aB]at a3
        rcases bS i c with h1|h1
        ·rw[a7 (by simp;omega),a9,Q3 h1]at a3;exact a3
        ·rw[a6 (by simp;omega),a6 (by simp;omega),aA]at a3
         rw[←a3];congr 1;simp;omega
       rw[hobj]at a2
       have:=o5 i o' d u a1 a2 hu
       have hc1:(exN ρ ex').contains (n,i)=(exN ρ st.ex).contains (n,i):=by
        rw[bP,hexm];exact⟨fun h=>h.2,fun h=>⟨hr,h⟩⟩
       simp only[hc1,g',Q0 hr]
       split at this
       ·rename_i h;rw[Q3 h];exact this
       ·rename_i h
        rw[Q0 h]
        exact this.mono hle fun k hk=>hws k (fun e=>o7 i hi (by rw[←e];exact hk))
     ·rcases hg' i _ hk with⟨_,_,h⟩|⟨_,h⟩
      ·exact(hgx _ _ h).2.2.2.1 n hbφ
      ·exact o7 i hi h
     ·rcases hg' i k h1 with⟨z1,z2,h1⟩|⟨z1,h1⟩<;>rcases hg' j k h2 with⟨y1,y2,h2⟩|⟨y1,h2⟩
      ·have:=g3 _ _ k h1 h2;omega
      ·exact absurd ((o6 k).2 (.inr ⟨j,hj,h2⟩)) ((hgx _ k h1).2.2.2.1 n)
      ·exact absurd ((o6 k).2 (.inr ⟨i,hi,h1⟩)) ((hgx _ k h2).2.2.2.1 n)
      ·exact o8 i j k hi hj h1 h2
    have hS:∀k,k ∈ A9d b os.length g'→k ∈ φ n∨(k<w'.heap.size∧¬Ft k∧∀n',k ∉ φ n'):=by
     intro k hk
     rcases(A5b k).1 hk with rfl|⟨i,hi,hk⟩
     ·exact .inl hbφ
     ·rcases hg' i k hk with⟨_,_,h⟩|⟨_,h⟩
      ·obtain⟨z1,_,z3,z4,_⟩:=hgx _ k h
       exact .inr ⟨by rw[hsz'];exact z1,z3,z4⟩
      ·exact .inl ((o6 k).2 (.inr ⟨i,hi,h⟩))
    have hturn:=q1.turn (w':=w') (h':=den ρ (mkSet h y (C6n os.length (mkGet h y) c es))) (ex':=exN ρ ex') x3 (by rw[D4m,x2];simp) hle (by rw[hsz'];exact bT _) (fun n' k hne hk=>hws k (fun e=>hne (q1.dis n' n k hk (by rw[e];exact hbφ)))) hexo hobjok hS
    have hs1:=hs.A2u (ms++st.A5a tt c xs.length)
    obtain⟨p1,p2,p3,p4,p5,p6⟩:=B4r (ms++st.A5a tt c xs.length) st
    have hl:∀n k,k ∈ φ n→(k ∈ X.S∨X.w0.heap.size≤k)∧∀j x,(st.A2u (ms++st.A5a tt c xs.length)).bx.lookup j=some x→x.bk (β j)≠some k:=by
     intro n k hk
     refine⟨(q2 n k hk).1 rfl,fun j x hx he=>?_⟩
     obtain⟨_,z,y2,y3,_⟩:=A8y _ hx
     rw[y3]at he
     exact(q2 n k hk).2 j z y2 he
    have hsT:Sat X ρ {(st.A2u (ms++st.A5a tt c xs.length))with hp:=some (true,mkSet h y (C6n os.length (mkGet h y) c es)),ex:=ex'} Ft β a w':=by
     rw[←hw']
     refine hs1.turn (by rw[p1];exact hhp) (by rw[p3,p2];exact q1) hl hbφ (.inr (.inr fun n' t' x' c' hx'=>?_)) (φ':=fun n'=>if n'=n then A9d b os.length g' else φ n') (by rw[p3,hw'];exact hturn) (fun n' k hk=>?_)
     ·obtain⟨z1,z,z2,z3,z4⟩:=A8y _ hx'
      have:=z4 ⟨t',x',c',rfl⟩
      subst this
      obtain⟨n2,b2,vs2,y1,y2,y3,y4⟩:=hs.bx _ _ z2
      by_cases hbb:b2=b
      ·subst hbb
       rw[hwf]at y3
       simp only[cK,Obj.cells.injEq]at y3
       obtain⟨e1,e2,_⟩:=y3
       have e1':vs=vs2:=by simpa using e1
       subst e1' e2
       refine⟨n2,b2,_,y1,y2,C0k w b2 _ _ tt hwf,?_⟩
       have hout:¬(c≤c'∧c'<c+xs.length):=fun hh=>z1 (aR _ (F8o z2 hh.1 hh.2))
       have hlv:c'<vs.length:=(a4.1 y4).1
       rw[aB]
       rcases bS c' c with h1|h1
       ·rw[a7 (by simp;omega),a9,Q3 h1];exact y4
       ·rw[a6 (by simp;omega),a6 (by simp;omega),aA]
        rw[←y4];congr 1;simp;omega
      ·exact⟨n2,b2,vs2,y1,y2,by rw[A1m w b _ hbb];exact y3,y4⟩
     ·split at hk
      ·rcases(A5b k).1 hk with rfl|⟨i,hi,hk⟩
       ·exact hl n _ hbφ
       ·rcases hg' i k hk with⟨_,_,h⟩|⟨_,h⟩
        ·obtain⟨_,z2,_,_,z5⟩:=hgx _ k h
         exact⟨z2,z5⟩
        ·exact hl n k ((o6 k).2 (.inr ⟨i,hi,h⟩))
      ·exact hl n' k hk
    unfold cV
    rw[hrun]
    simp only[cU,hd,Act.put]
    refine HK.now (K:=K) hsT (by show(st.A2u _).nv=_;rw[p4];exact hnv) ?_
    have:(st.A2u (ms++st.A5a tt c xs.length)).ex=st.ex:=p2
    rw[this]at he
    exact he
   ·cases he
  ·cases he
 ·cases he
theorem E5v{o:Oper}{t:TypeId}{x v:Operand}(ho:o.op=.store t x v)(hd:o.dst=none){m:Nat}{tt:TypeId}{i:E}{k:Nat}{sv:SV}(hx:opC st x=some (.A6c m tt i k))(hv:opV st v=some sv)
  {K:St→T} {r:List D} (he:eval Fs fuel (E1c X.P st t m tt i k sv K) L ρ=some r) (hnv:st.nv=ρ.length) (hs:Sat X ρ st Ft β a w) {next:Act→World→Prop} {Q:Exit→Act→World→Prop} (HK:A3q X Fs fuel L ρ K r next):o.wp X.P a w next Q:=by
 unfold E1c at he
 split at he
 ·rename_i ot y j xs ts hm hxs hts
  split at he
  ·rename_i e c h os hro hhp hos
   split at he
   ·rename_i hc
    obtain⟨rfl,hsz,hcl,hpos⟩:=hc
    split at he
    ·rename_i es hes
     rw[A5g]at he
     obtain⟨φ,q1,q2⟩:=hs.hg.hp _ _ hhp
     obtain⟨n,b,vs,v1,v2,v3,v4⟩:=hs.bx _ _ hm
     obtain⟨vs',os',g,o1,o2,o3,o4,o5,o6,o7,o8⟩:=q1.obj n b ot v2
     rw[v3]at o1
     have hvs:vs=vs':=by simpa using o1
     subst hvs
     rw[hos]at o2;cases o2
     have hrow:os[j]?=some (.row false e)∧c=B0a (mkGet h y) j∧(exN ρ st.ex).contains (n,j)=false:=by
      unfold rowOf at hro
      rw[hm,hhp]at hro
      simp only[hos]at hro
      split at hro
      ·rename_i e' hj
       split at hro
       ·cases hro
       ·rename_i hex
        cases hro
        exact⟨hj,rfl,D6u (by simpa using hex)⟩
      ·cases hro
     obtain⟨hj,hce,hex⟩:=hrow
     have hjl:j<os.length:=(a4.1 hj).1
     have hnl:n<(den ρ h).toL.length:=by rw[q1.len];exact(a4.1 v2).1
     have hobj:den ρ (mkGet h y)=(den ρ h).toL.getD n .nil:=by
      have:=C6l (ρ:=ρ) h y (by rw[v1];simpa using hnl)
      rw[this,v1];simp
     have hd':((den ρ h).toL.getD n .nil).toL[j]?=some (((den ρ h).toL.getD n .nil).toL[j]'(by omega)):=a0 _
     have hgj:g j=(bk (β m)).toList:=by
      have:=o5 j _ _ _ hj hd' v4
      simp only[hex,bM,Q4]at this
      generalize g j=S at this
      cases this
      rfl
     have hkn:∀k,bk (β m)=some k→k ∈ φ n:=fun k hk=>(o6 k).2 (.inr ⟨j,hjl,by rw[hgj,hk];simp⟩)
     obtain⟨rb,cs,hbk,hrun,hok⟩:=E3o ho hs (A6n hs hro) (A0g hs hx) hv hxs hts hsz hcl hpos hes (fun b hb=>(q1.far n b (hkn b hb)).2)
     have hrb:=hkn rb hbk
     have hneb:b≠rb:=(C8m hs hro hbk).2 n b ot v2
     have hws:∀k,k≠rb→(w.setRow rb cs).heap[k]?=w.heap[k]?:=fun k hk=>A1m w rb _ hk
     have hsz':(w.setRow rb cs).heap.size=w.heap.size:=by simp[dB]
     have hle:Le w Ft (w.setRow rb cs) Ft:=Le.same fun k hk=>hws k (fun e=>(q1.far n rb hrb).2 (by rw[←e];exact hk))
     have hset:=E1a (ρ:=ρ) os.length (mkGet h y) j (.set c i (E5d ts c i k es)) (by rw[hobj];exact o3)
     have hobjok:B5a X.P (w.setRow rb cs) Ft st.cf.ob (fun c=>(exN ρ st.ex).contains (n,c)) ot b (den ρ (B9x os.length (mkGet h y) j (.set c i (E5d ts c i k es)))) (φ n):=by
      refine⟨vs,os,g,by rw[hws b hneb];exact v3,hos,by rw[hset];simp only[D.A0j,b3];rw[hobj];exact o3,o4,fun i' o' d u a1 a2 a3=>?_,o6,o7,o8⟩
      have hi:=(a4.1 a1).1
      rw[hset]at a2
      simp only[D.A0j]at a2
      by_cases hij:i'=j
      ·subst hij
       rw[hj]at a1;cases a1
       rw[v4]at a3;cases a3
       rw[aH (by rw[hobj,o3];exact hi)]at a2
       cases a2
       simp only[hex,bM,Q4,hgj]
       obtain⟨ts',xs',z1,z2,z3⟩:=hok
       exact .row z1 z2 z3
      ·rw[aG (Ne.symm hij),hobj]at a2
       have:=o5 i' o' d u a1 a2 a3
       split at this
       ·rename_i hh;rw[Q3 hh];exact this
       ·rename_i hh
        rw[Q0 hh]
        exact this.mono hle fun k' hk'=>hws k' (fun e=>hij (o8 i' j k' hi hjl hk' (by rw[hgj,e,hbk];simp)))
     have hturn:=q1.turn (w':=w.setRow rb cs) (h':=den ρ (mkSet h y (B9x os.length (mkGet h y) j (.set c i (E5d ts c i k es))))) (ex':=exN ρ st.ex) v2 (by rw[D4m,v1];simp) hle (by rw[hsz'];exact bT _) (fun n' k' hne hk'=>hws k' (fun e=>hne (q1.dis n' n k' hk' (by rw[e];exact hrb)))) (fun _ _ _=>rfl) hobjok (fun k' hk'=>.inl hk')
     have hsT:=hs.turn (h':=mkSet h y (B9x os.length (mkGet h y) j (.set c i (E5d ts c i k es)))) hhp q1 (fun n k hk=>⟨(q2 n k hk).1 rfl,(q2 n k hk).2⟩) hrb (.inr (.inl fun n' b' t' hn'=>(C8m hs hro hbk).2 n' b' t' hn')) (ex':=st.ex) (φ':=fun n'=>if n'=n then φ n else φ n') hturn (fun n' k' hk'=>by
      split at hk'
      ·exact⟨(q2 n k' hk').1 rfl,(q2 n k' hk').2⟩
      ·exact⟨(q2 n' k' hk').1 rfl,(q2 n' k' hk').2⟩)
     unfold cV
     rw[hrun]
     simp only[cU,hd,Act.put]
     exact HK.now hsT hnv (by subst hce;exact he)
    ·cases he
   ·cases he
  ·cases he
 ·cases he
theorem F2v{o:Oper}{t:TypeId}{len:Nat}{parts:Array (Nat × Operand)}(ho:o.op=.buildSlice t len parts){K:St→T}{r:List D}(he:eval Fs fuel (F6f X.P X.nt st o.dst t len parts K) L ρ=some r)(hnv:st.nv=ρ.length)(hs:Sat X ρ st Ft β a w)
  {next:Act→World→Prop} {Q:Exit→Act→World→Prop} (HK:A3q X Fs fuel L ρ K r next):o.wp X.P a w next Q:=by
 unfold F6f at he
 split at he
 ·rename_i e hu
  split at he
  ·rename_i n zs vs hn hz hv
   split at he
   ·rename_i hc
    obtain⟨c2,c3,c4,c5,hd,hfr⟩:=hc
    split at he
    ·rename_i cs hf
     rw[A3d C4z]at he
     split at he
     ·rename_i hno
      obtain⟨z,hz1,hz2⟩:=A6o (w:=w) (F:=Ft) (ρ:=ρ) (β:=β) hz
      have hzn:z.cells.size=n:=by have:=hz2.1;simp at this;omega
      cases hi:X.P.info? e with
      |none=>simp[hi]at hz1
      |some ie=>
       simp[hi]at hz1
       have hsz:ie.size=n:=by unfold A3k at hn;rw[hi]at hn;simpa using hn
       have hinit:RCL X.P w Ft ρ β ((aK (len*n)).map fun j=>zs.getD (j%n) .B1g) ((aK (len*n)).map fun j=>z.cells[j%z.cells.size]!):=by
        refine⟨by simp,fun j c v h1 h2=>?_⟩
        rw[a8]at h1 h2
        cases hr:(aK (len*n))[j]? with
        |none=>simp[hr]at h1
        |some k=>
         simp[hr]at h1 h2
         subst h1 h2
         have hlt:k%n<zs.length:=by rw[c2];exact bY _ c3
         have hlt2:k%z.cells.size<z.cells.size:=bY _ (by omega)
         rw[a0 hlt]
         refine hz2.2 (k%n) _ _ (a0 hlt) ?_
         rw[hzn,getElem!_pos z.cells (k%n) (by omega)]
         simp
       obtain⟨vs',f1,f2⟩:=B8f hs.on hs _ hv hf hinit
       have hrun:(dF t len (parts.map fun(i,x)=>(i,a.eval x))).run X.P w=.ok (.slice (some ⟨w.heap.size,0,none⟩) len len) (w.alloc (.cells vs'.toArray e)):=by
        refine run_buildSlice w t e len _ vs'.toArray ie z hu hi hz1 (by rw[hsz];omega) (by rw[hsz];have:=cE c4 c3;omega) ?_
        rw[hsz,d3]
        have e0:((d0 (len*n)).map fun x=>z.cells[x%z.cells.size]!)=((aK (len*n)).map fun j=>z.cells[j%z.cells.size]!).toArray:=by
         rw[←cW];simp
        rw[e0]
        simpa using f1
       have hs1:=hs.F6g hfr (t:=e) hno f2 (dst:=none) rfl
       have hs2:=hs1.put (dst:=o.dst) hd (sv:=.one (.lit st.nn len)) (v:=.slice (some ⟨w.heap.size,0,none⟩) len len) ⟨w.heap.size,by simp[A0q],rfl⟩
       unfold cV
       simp only[execOp,ho,cM,hrun,bK,cN,cU]
       exact HK.now hs2 (by rw[←hnv];rfl) he
     ·cases he
    ·cases he
   ·cases he
  ·cases he
 ·cases he
theorem F3y(hs:Sat X ρ st Ft β a w){o:Oper}{t:TypeId}{x:Operand}{lo hi mx:Option Operand}(ho:o.op=.slice t x lo hi mx){es:List E}{sv:SV}(h:F1h X.P st t x lo hi mx=some (es,sv))(hes:∀e ∈ es,(den ρ e).toBool=true):
  ∃v,(execOp a.eval o).run X.P w=.ok (.value v) w∧RV X.P w Ft ρ β sv v:=by
 unfold F1h at h
 split at h
 ·rename_i e m hu hx
  split at h
  ·rename_i e' y hm
   split at h
   ·rename_i l hh ts n hl hhi hts hn
    split at h
    ·rename_i hc
     obtain⟨rfl,hlen⟩:=hc
     simp only[cK,d9]at h
     obtain⟨rfl,rfl⟩:=h
     have h0:(0:Int)≤(den ρ l).toInt:=QA (hes (.cmp .leq (.int 0) l) (by simp))
     have h1:(den ρ l).toInt≤(den ρ hh).toInt:=QA (hes (.cmp .leq l hh) (by simp))
     have h2:(den ρ hh).toInt≤((den ρ y).toL.length:Int):=QA (hes (.cmp .leq hh (.len y)) (by simp))
     have hxe:a.eval x=β m:=A0g hs hx
     obtain⟨A,cap,hA,hle,_⟩:=F9j hs hm
     have hb:=C3c (P:=X.P) hs hl hhi (len:=(den ρ y).toL.length) (cap:=cap) rfl h0 h1 h2 hle true
     have hrun:(execOp a.eval o).run X.P w=.ok (.value (.slice (if cap=(den ρ l).toInt.toNat then A else A.map (·.add ((den ρ l).toInt.toNat*n))) ((den ρ hh).toInt.toNat-(den ρ l).toInt.toNat) (cap-(den ρ l).toInt.toNat))) w:=by
      simp only[execOp,ho,dG,cM,A1a hu,bK,dK,hxe,hA,hb,A2y hn,cN,cS]
     exact⟨_,hrun,A,_,cap,ts,hA,hts,h0,h1,h2,hle,by rw[hlen]⟩
    ·cases h
   ·cases h
  ·cases h
 ·cases h
theorem F8f{o:Oper}{t:TypeId}{x:Operand}{lo hi mx:Option Operand}(ho:o.op=.slice t x lo hi mx){K:St→T}{r:List D}(he:eval Fs fuel (G2f X.P X.nt st o.dst t x lo hi mx K) L ρ=some r)(hnv:st.nv=ρ.length)(hs:Sat X ρ st Ft β a w)
  {next:Act→World→Prop} {Q:Exit→Act→World→Prop} (HK:A3q X Fs fuel L ρ K r next):o.wp X.P a w next Q:=by
 unfold G2f at he
 split at he
 ·rename_i es sv hev
  split at he
  ·rename_i hd
   obtain⟨hes,he2⟩:=A3b he
   obtain⟨v,hrun,hv⟩:=F3y hs ho hev hes
   unfold cV
   rw[hrun]
   simp only[cU]
   exact HK.now (hs.put (dst:=o.dst) hd hv) (by rw[←hnv];rfl) he2
  ·cases he
 ·cases he
theorem H0v{ks:List Nat}{l:List D}{q v:D}{i:Nat}{d:D}(h:(B3o ks l q v)[i]?=some d):(i=A2l ks l q∧d=.agg [q,v]∧i≤l.length)∨(i≠A2l ks l q∧l[i]?=some d):=by
 unfold B3o at h
 split at h
 ·rename_i hlt
  by_cases hi:i=A2l ks l q
  ·subst hi
   rw[aH hlt]at h
   simp at h
   exact .inl ⟨rfl,h.symm,by omega⟩
  ·rw[aG (fun e=>hi e.symm)]at h
   exact .inr ⟨hi,h⟩
 ·rename_i hge
  have hm:A2l ks l q=l.length:=by have:=H2p (ks:=ks) (l:=l) (A:=q);omega
  rcases cB i l.length with h1|h1|h1
  ·rw[a7 h1]at h
   exact .inr ⟨by omega,h⟩
  ·subst h1
   simp at h
   exact .inl ⟨hm.symm,h.symm,bT _⟩
  ·rw[aM (by simp;omega)]at h
   cases h
theorem H1y{ks:List Nat}{l:List D}{q v:D}:(B3o ks l q v).length=if A2l ks l q<l.length then l.length else l.length+1:=by
 unfold B3o
 split<;>simp
theorem H5x{X:Cx}{w:World}{Ft:Fr}{ρ:List D}{β:Nat→Value}{t k e:TypeId}{y:E}{v:Value}{ts us:List Ty}{g h:Bool}{ks:List Nat}{b:Nat}{es es':List MapEntry}{y':E}{q d:D}{vs:List Value}(hv:v=.map (some b))
  (hu:X.P.underlying t=some (.map k e)) (hts:A0r X.P k=some ts) (hus:A0r X.P e=some us) (hg:A1j X.P k=some g) (hh:A1j X.P e=some h)
  (hl:es.length=(den ρ y).toL.length) (hes:∀(i:Nat) (e:MapEntry) (d:D),es[i]?=some e→(den ρ y).toL[i]?=some d→D0k X.P w Ft ts us g h i d e)
  (hy':den ρ y'=.agg (B3o ks (den ρ y).toL q d))
  (hes':es'=if A2l ks (den ρ y).toL q<es.length then es.set (A2l ks (den ρ y).toL q) {key:=A4g g ts q,val:=valOf h vs,born:=A2l ks (den ρ y).toL q} else es++[{key:=A4g g ts q,val:=valOf h vs,born:=es.length}])
  (hvs:vs.length=us.length) (hr:∀(c:Nat) (t:Ty) (u:Value),us[c]?=some t→vs[c]?=some u→Rd X.P w Ft t (cellOf us.length d c) u)
  (hlt:b<w.heap.size) (hf:Le w Ft {w with heap:=w.heap.setIfInBounds b (.map es'.toArray es'.length)} Ft):
  A1b X.P {w with heap:=w.heap.setIfInBounds b (.map es'.toArray es'.length)} Ft ρ β (.map t y') v:=by
 have hlen:es'.length=(den ρ y').toL.length:=by
  rw[hy',hes']
  simp only[D.A0j,H1y,←hl]
  split<;>simp
 refine⟨b,k,e,ts,us,g,h,es',hv,hu,hts,hus,hg,hh,by simp[hlt],hlen,fun i e' d' h1 h2=>?_⟩
 rw[hy']at h2
 simp only[D.A0j]at h2
 have mk:∀en:MapEntry,en={key:=A4g g ts q,val:=valOf h vs,born:=i}→d'=.agg [q,d]→D0k X.P {w with heap:=w.heap.setIfInBounds b (.map es'.toArray es'.length)} Ft ts us g h i d' en:=by
  rintro en rfl rfl
  exact⟨rfl,rfl,vs,rfl,hvs,fun c t u ht hu=>(hr c t u ht hu).mono hf⟩
 rcases H0v h2 with⟨a1,a2,a3⟩|⟨a1,a2⟩
 ·refine mk e' ?_ a2
  rw[hes']at h1
  split at h1
  ·rename_i hlt'
   rw[←a1]at h1 hlt'
   rw[aH hlt']at h1
   exact(cL h1).symm
  ·rename_i hge
   have:i=es.length:=by rw[←a1]at hge;rw[hl];omega
   subst this
   simp at h1
   exact h1.symm
 ·have h1':es[i]?=some e':=by
   rw[hes']at h1
   split at h1
   ·rw[aG (fun e=>a1 e.symm)]at h1;exact h1
   ·rename_i hge
    have hi:i<es.length:=by rw[hl];exact(a4.1 a2).1
    rw[a7 hi]at h1;exact h1
  exact(hes i e' d' h1' a2).mono hf
theorem D3c{t:Ty}(h:(B2i t).isSome=true)(d:D)(n:Nat):dD n (B4l t d) (B4l t d)=true:=by
 cases t<;>simp[B2i]at h<;>cases n<;>simp[B4l,dD,beq_toListBytes]
theorem G7a{P:Program}{w:World}{g:Bool}{ts:List Ty}{ks:List Nat}(hk:A6h ts=some ks)(hg:g=true∨ts.length=1)(q:D):(dI (A4g g ts q) (A4g g ts q)).run P w=.ok (A4g g ts q) w:=by
 have hf:=(B2y hk).2
 have:dD 10000 (A4g g ts q) (A4g g ts q)=true:=by
  cases g with
  |true=>
   show dD (9999+1) (.agg _) (.agg _)=true
   simp only[dD,beq_self_eq_true,Bool.true_and,aE]
   intro p hp
   obtain⟨i,hi,he⟩:=List.getElem_of_mem hp
   simp only[List.getElem_zip]at he
   subst he
   simp only
   have hi':i<(A4a ts.length ts 0 q).length:=by simp at hi;exact hi
   have hg:=B4d ts.length ts 0 q i
   rw[a0 hi']at hg
   have hit:i<ts.length:=by rw[B3n]at hi';exact hi'
   rw[a0 hit]at hg
   simp only[cQ,cK]at hg
   rw[hg]
   exact D3c (hf _ (List.getElem_mem hit)) _ _
  |false=>
   have h1:ts.length=1:=by simpa using hg
   match ts,h1 with
   |[t],_=>exact D3c (hf t (by simp)) _ _
 simp[dI,this]
theorem G0n(es:List MapEntry)(i:Nat)(f:MapEntry→MapEntry):es.toArray.modify i f=(match es[i]? with|some e=>(es.set i (f e)).toArray|none=>es.toArray):=by
 rw[←cW]
 cases h:es[i]? with
 |none=>
  have hn:es.length≤i:=List.getElem?_eq_none_iff.1 h
  simp only[d2]
  refine bC fun j=>?_
  rw[b7]
  split
  ·rename_i hij;subst hij;rw[h];rfl
  ·cases es[j]?<;>rfl
 |some e=>
  simp only[d2]
  refine bC fun j=>?_
  rw[b7]
  by_cases hij:i=j
  ·subst hij
   rw[aH (a4.1 h).1,h]
   simp
  ·rw[aG hij]
   simp[hij]
theorem G4d{a b:ByteArray}(h:a.toList=b.toList):a=b:=by
 have:(a == b)=true:=by rw[beq_toListBytes,h];simp
 rw[dO]at this
 exact this
theorem G2g{t:Ty}{k:Nat}(h:B2i t=some k){a b:D}(hq:A9j k a b=true):B4l t a=B4l t b:=by
 cases t<;>simp[B2i]at h<;>subst h<;>simp[A9j]at hq<;>simp only[B4l]
 ·rw[hq]
 ·rw[hq]
 ·rw[G4d hq]
theorem E1x(n:Nat):∀{ts:List Ty} {ks:List Nat} {c:Nat} {A B:D},A6h ts=some ks→B3x n ks c A B=true→A4a n ts c A=A4a n ts c B
 |[],ks,c,A,B,h,hq=>rfl
 |t::ts,ks,c,A,B,h,hq=>by
  simp only[A6h]at h
  split at h
  ·rename_i k ks' h1 h2
   simp at h;subst h
   simp only[B3x,bL]at hq
   simp only[A4a]
   rw[G2g h1 hq.1,E1x n h2 hq.2]
  ·cases h
theorem G7w{g:Bool}{ts:List Ty}{ks:List Nat}{A B:D}(h:A6h ts=some ks)(hq:keq ks A B=true):A4g g ts A=A4g g ts B:=by
 unfold keq at hq
 rw[(B2y h).1]at hq
 unfold A4g
 rw[E1x _ h hq]
theorem G8r{ks:List Nat}{l:List D}{q:D}(h:A2l ks l q<l.length):keq ks q (l[A2l ks l q].toL.getD 0 .nil)=true:=by
 have:=List.findIdx_getElem (w:=h)
 exact this
theorem F0g{o:Oper}{t:TypeId}(ho:o.op=.makeMap t none){K:St→T}{r:List D}(he:eval Fs fuel (E5r X.P X.nt st o.dst t K) L ρ=some r)(hnv:st.nv=ρ.length)(hs:Sat X ρ st Ft β a w)
  {next:Act→World→Prop} {Q:Exit→Act→World→Prop} (HK:A3q X Fs fuel L ρ K r next):o.wp X.P a w next Q:=by
 unfold E5r at he
 split at he
 ·rename_i k e hm
  split at he
  ·rename_i hc
   simp only[bL]at hc
   obtain⟨⟨⟨⟨⟨hd,hfr⟩,h1⟩,h2⟩,h3⟩,h4⟩:=hc
   obtain⟨ts,hts⟩:=cP.1 h1
   obtain⟨us,hus⟩:=cP.1 h2
   obtain⟨g,hg⟩:=cP.1 h3
   obtain⟨h,hh⟩:=cP.1 h4
   have hu:X.P.underlying t=some (.map k e):=by
    unfold D7v at hm;split at hm
    ·rename_i k'' e'' hx;simp at hm;obtain⟨rfl,rfl⟩:=hm;exact hx
    ·cases hm
   have hrun:(execOp a.eval o).run X.P w=.ok (.value (.map (some w.heap.size))) (w.alloc (.map #[] 0)):=by
    simp only[execOp,ho,cS]
    rfl
   have hok:A1b X.P (w.alloc (.map #[] 0)) Ft ρ β (.map t .A4p) (.map (some w.heap.size)):=
    ⟨w.heap.size,k,e,ts,us,g,h,[],rfl,hu,hts,hus,hg,hh,heap_alloc_new w _,by simp[den],fun i e d hi=>by simp at hi⟩
   have hs':=hs.H7b hfr ((Below.refl _ _).alloc (bT _) _) (hok.beta (β':=A0q β st.nn (.map (some w.heap.size))) (fun t cs h=>by cases h)) (fun k hk=>by simp[bk]at hk;omega) rfl
   unfold cV
   rw[hrun]
   simp only[cU]
   exact HK.now (hs'.put (dst:=o.dst) hd (sv:=.one (.vec st.nn)) (by show _=A0q β st.nn _ st.nn;simp[A0q])) (by rw[←hnv];rfl) he
  ·cases he
 ·cases he
theorem H6m(hs:Sat X ρ st Ft β a w){t:TypeId}{m x:Operand}{n:Nat}{y q:E}{k e:TypeId}{ks:List Nat}(hm:mapArgs X.P st t m x=some (n,y,k,e,ks,q)){us:List Ty}{h:Bool}(hus:A0r X.P e=some us)(hh:A1j X.P e=some h):
  ∃ts g b,∃es:List MapEntry,X.P.underlying t=some (.map k e)∧st.bx.lookup n=some (.map t y)∧β n=.map (some b)∧A0r X.P k=some ts∧A1j X.P k=some g∧a.eval m=.map (some b)∧a.eval x=A4g g ts (den ρ q)∧A6h ts=some ks∧(g=true∨ts.length=1)∧
   w.heap[b]?=some (.map es.toArray es.length)∧es.length=(den ρ y).toL.length∧(∀(i:Nat) (e:MapEntry) (d:D),es[i]?=some e→(den ρ y).toL[i]?=some d→D0k X.P w Ft ts us g h i d e)∧
   (∀em,(Instr.checkKey em 10000 k (A4g g ts (den ρ q))).run X.P w=.ok () w)∧
   (Instr.findKey k (A4g g ts (den ρ q)) es).run X.P w=.ok ((es[A2l ks (den ρ y).toL (den ρ q)]?).map fun e=>(A2l ks (den ρ y).toL (den ρ q),e.val)) w∧b<w.heap.size:=by
 obtain⟨ts,g,hu,hb,hk,hts,hg,e1,e2⟩:=D3a hs hm
 obtain⟨b,k',e',ts',us',g',h',es,v1,v2,v3,v4,v5,v6,v7,v8,v9⟩:=hs.bx n _ hb
 rw[hu]at v2;cases v2
 rw[hts]at v3;cases v3
 rw[hus]at v4;cases v4
 rw[hg]at v5;cases v5
 rw[hh]at v6;cases v6
 obtain⟨_,_,_,q3,_,q5⟩:=B9t hk hts hg
 exact⟨ts,g,b,es,hu,hb,v1,hts,hg,by rw[e1,v1],e2,q3,q5,v7,v8,v9,fun em=>D3d hk hts hg em _,D4j hk hts hg _ es _ v8 (fun j e d h1 h2=>(v9 j e d h1 h2).key),(cY.1 v7).1⟩
theorem C8p{o:Oper}{t:TypeId}{m x v:Operand}(ho:o.op=.mapUpdate t m x v∨o.op=.insert t m x v){K:St→T}{r:List D}(he:eval Fs fuel (D0u X.P st o.dst t m x v K) L ρ=some r)(hnv:st.nv=ρ.length)(hs:Sat X ρ st Ft β a w)
  {next:Act→World→Prop} {Q:Exit→Act→World→Prop} (HK:A3q X Fs fuel L ρ K r next):o.wp X.P a w next Q:=by
 unfold D0u at he
 split at he
 ·rename_i n y k e ks q hm
  split at he
  ·rename_i us h sv hus hh hv
   split at he
   ·rename_i d hd
    split at he
    ·rename_i hdst
     rw[A5g]at he
     obtain⟨ts,g,b,es,hu,hb,hβ,hts,hg,e1,e2,q3,q5,v7,v8,v9,hc,hf,hlt⟩:=H6m hs hm hus hh
     obtain⟨vs,ev,evl,_,evr⟩:=C4e hd (A3o hs hv)
     let es':List MapEntry:=if A2l ks (den ρ y).toL (den ρ q)<es.length then es.set (A2l ks (den ρ y).toL (den ρ q)) {key:=A4g g ts (den ρ q),val:=valOf h vs,born:=A2l ks (den ρ y).toL (den ρ q)} else es++[{key:=A4g g ts (den ρ q),val:=valOf h vs,born:=es.length}]
     have hf':Le w Ft {w with heap:=w.heap.setIfInBounds b (.map es'.toArray es'.length)} Ft:=Le.same fun k hk=>A8z w b _ (fun e=>(hs.ft k hk).2 n _ hb (by rw[hβ,e];rfl))
     have hbox:=H5x (X:=X) (w:=w) (Ft:=Ft) (ρ:=ρ) (β:=β) (y:=y) (y':=.D5m ks y q d) (es':=es') (d:=den ρ d) hβ hu hts hus hg hh v8 v9 rfl rfl evl evr hlt hf'
     have hs':=hs.setObj hb (b:=b) (by rw[hβ];rfl) (x':=.map t (.D5m ks y q d)) (by rw[hβ];rfl) hbox
     have hrun:(dL t (.map (some b)) (A4g g ts (den ρ q)) (valOf h vs)).run X.P w=.ok () {w with heap:=w.heap.setIfInBounds b (.map es'.toArray es'.length)}:=by
      simp only[dL,cM,A1a hu,bK,dN v7,hc,List.toList_toArray,hf]
      by_cases hq:A2l ks (den ρ y).toL (den ρ q)<es.length
      ·have hq':A2l ks (den ρ y).toL (den ρ q)<(den ρ y).toL.length:=by rw[←v8];exact hq
       have ho:=v9 _ _ _ (a0 hq) (a0 hq')
       have hkq:es[A2l ks (den ρ y).toL (den ρ q)].key=A4g g ts (den ρ q):=by rw[ho.key];exact(G7w q3 (G8r hq')).symm
       rw[a0 hq]
       simp only[cQ,List.getElem?_toArray,a0 hq,cR,hkq,G7a q3 q5,cM,bK]
       rw[dM _ v7,G0n,a0 hq]
       simp only[es',hq,Q5,b3,ho.born]
      ·rw[aM (by omega)]
       simp only[cS]
       rw[dM _ v7]
       simp only[es',hq,Q4,List.push_toArray,aD,aI,bF]
     unfold cV
     have hx:(execOp a.eval o).run X.P w=.ok (.skip) {w with heap:=w.heap.setIfInBounds b (.map es'.toArray es'.length)}:=by
      rcases ho with ho|ho<;>simp only[execOp,ho,e1,e2,ev,cM,hrun,bK,cN]
     rw[hx]
     simp only[cU]
     rw[hdst]
     exact HK.now hs' (by rw[←hnv]) he
    ·cases he
   ·cases he
  ·cases he
 ·cases he
theorem F3l{o:Oper}{t:TypeId}{x:Operand}(ho:o.op=.load t x){es0:List E}{tt:TypeId}{y:E}{c:Nat}{K:St→T}{r:List D}(he:eval Fs fuel (F4f X.P X.nt st o.dst t es0 tt y c K) L ρ=some r)(hnv:st.nv=ρ.length)(hs:Sat X ρ st Ft β a w)
  (hx:(∀e ∈ es0,(den ρ e).toBool=true)→RC X.P w Ft ρ β (.A8b tt y c) (a.eval x)) {next:Act→World→Prop} {Q:Exit→Act→World→Prop} (HK:A3q X Fs fuel L ρ K r next):o.wp X.P a w next Q:=by
 unfold F4f at he
 split at he
 ·rename_i h os hhp hos
  split at he
  ·rename_i e e' hj hu hsz
   split at he
   ·rename_i hc
    obtain⟨rfl,hexa,hd,hfr⟩:=hc
    obtain⟨hes,he⟩:=A3b he
    rw[A5g,A5g]at he
    have hnn:=hes _ (aR _ (List.mem_singleton.2 rfl))
    rw[A6g,A3p]at hnn
    obtain⟨n,b,x1,x2,x3,x4⟩:=hx fun e he=>hes e (aU _ he)
    obtain⟨φ,q1,q2⟩:=hs.hg.hp _ _ hhp
    obtain⟨vs,os',g,o1,o2,o3,o4,o5,o6,o7,o8⟩:=q1.obj n b tt x3
    rw[hos]at o2;cases o2
    have hcl:c<os.length:=(a4.1 hj).1
    have hlt:c<vs.length:=by omega
    have hv:vs[c]?=some vs[c]:=a0 hlt
    have hnl:n<(den ρ h).toL.length:=by rw[q1.len];exact(a4.1 x3).1
    have hobj:den ρ (mkGet h y)=(den ρ h).toL.getD n .nil:=by
     have:=C6l (ρ:=ρ) h y (by rw[x2];simpa using hnl)
     rw[this,x2];simp
    have hd':((den ρ h).toL.getD n .nil).toL[c]?=some (den ρ (B0a (mkGet h y) c)):=by
     rw[E8m,hobj,a5 (l:=((den ρ h).toL.getD n .nil).toL),a0 (by omega)];rfl
    have hex:(exN ρ st.ex).contains (n,c)=false:=D6u hexa
    have hown:=o5 c _ _ _ hj hd' hv
    simp only[hex,bM,Q4]at hown
    generalize hvv:vs[c]=v at hown
    have hrow:g c=(bk v).toList∧A1b X.P w Ft ρ (A0q β st.nn v) (.vec e (B0a (mkGet h y) c)) v∧v.oneCell'=true:=by
     have h1:=B5a.one hown
     generalize hdd:den ρ (B0a (mkGet h y) c)=dd at hown hnn
     generalize g c=S at hown
     cases hown with
     |gone _=>simp at hnn
     |row z1 z2 z3=>exact⟨rfl,⟨_,_,z1,by rw[hdd];exact z2,by rw[hdd];exact z3⟩,h1⟩
    obtain⟨hgc,hbox,hone⟩:=hrow
    have hbm:∀k,bk v=some k→k ∈ φ n:=fun k hk=>(o6 k).2 (.inr ⟨c,hcl,by rw[hgc,hk];simp⟩)
    have hset:=E1a (ρ:=ρ) os.length (mkGet h y) c .nil (by rw[hobj];exact o3)
    let g':Nat→List Nat:=fun i=>if i=c then[]else g i
    have hg':∀i k,k ∈ g' i→i≠c∧k ∈ g i:=by
     intro i k hk
     simp only[g']at hk
     split at hk
     ·simp at hk
     ·rename_i hne;exact⟨hne,hk⟩
    have hfoot:∀k,k ∈ A9d b os.length g'→k ∈ φ n:=fun k hk=>by
     rcases(A5b k).1 hk with h|⟨i,hi,hk'⟩
     ·exact(o6 k).2 (.inl h)
     ·exact(o6 k).2 (.inr ⟨i,hi,(hg' i k hk').2⟩)
    have hnot:∀k,bk v=some k→k ∉ A9d b os.length g':=fun k hk hin=>by
     have hkc:k ∈ g c:=by rw[hgc,hk];simp
     rcases(A5b k).1 hin with h|⟨i,hi,hk'⟩
     ·subst h;exact o7 c hcl hkc
     ·exact(hg' i k hk').1 (o8 i c k hi hcl (hg' i k hk').2 hkc)
    have hobjok:B5a X.P w Ft st.cf.ob (fun c=>(exN ρ st.ex).contains (n,c)) tt b (den ρ (B9x os.length (mkGet h y) c .nil)) (A9d b os.length g'):=by
     refine⟨vs,os,g',o1,hos,by rw[hset];simp only[D.A0j,b3];rw[hobj];exact o3,o4,fun i' o' d u a1 a2 a3=>?_,fun k=>A5b k,fun i hi hk=>o7 i hi (hg' i _ hk).2,fun i i' k hi hi' h1 h2=>o8 i i' k hi hi' (hg' i k h1).2 (hg' i' k h2).2⟩
     have hi:=(a4.1 a1).1
     rw[hset]at a2
     simp only[D.A0j]at a2
     by_cases hij:i'=c
     ·subst hij
      rw[hj]at a1;cases a1
      rw[hv]at a3;cases a3
      rw[aH (by rw[hobj,o3];exact hi)]at a2
      cases a2
      simp only[hex,bM,Q4,g',Q5]
      exact .gone (by rw[hvv];exact hone)
     ·rw[aG (Ne.symm hij),hobj]at a2
      have:=o5 i' o' d u a1 a2 a3
      simp only[g',Q0 hij]
      exact this
    have hturn:=q1.turn (w':=w) (h':=den ρ (mkSet h y (B9x os.length (mkGet h y) c .nil))) (ex':=exN ρ st.ex) x3 (by rw[D4m,x2];simp) (Le.same fun _ _=>rfl) (bT _) (fun _ _ _ _=>rfl) (fun _ _ _=>rfl) hobjok (fun k hk=>.inl (hfoot k hk))
    have hsub:∀n' k,k ∈ (if n'=n then A9d b os.length g' else φ n')→k ∈ φ n':=fun n' k hk=>by
     split at hk
     ·rename_i hnn;subst hnn;exact hfoot k hk
     ·exact hk
    have hnotA:∀n' k,k ∈ (if n'=n then A9d b os.length g' else φ n')→bk v≠some k:=fun n' k hk hv=>by
     have h1:=q1.dis n' n k (hsub n' k hk) (hbm k hv)
     subst h1
     rw[Q3 rfl]at hk
     exact hnot k hv hk
    have hsA:Sat X ρ {st with hp:=some (true,mkSet h y (B9x os.length (mkGet h y) c .nil))} Ft β a w:=
     ⟨hs.df,hs.sz,hs.ft,hs.tm,hs.bx,hs.inj,hs.own,hs.chg,hs.fs,hs.on,hs.f0,hs.gx,hs.cf,⟨fun m' e' he'=>by
      cases he'
      exact⟨_,hturn,fun n' k hk=>⟨(fun _=>(q2 n' k (hsub n' k hk)).1 rfl),(q2 n' k (hsub n' k hk)).2⟩⟩,hs.hg.gm⟩,hs.fw.1,hs.fw.2.1,hs.fw.2.2.1,fun hq=>absurd rfl (hq _)⟩
    have hpn:∀k n' z,st.bx.lookup n'=some z→bk v=some k→z.bk (β n')≠some k:=fun k n' z hz hk=>(q2 n k (hbm k hk)).2 n' z hz
    have hfresh:∀n' z,st.bx.lookup n'=some z→n'≠st.nn:=fun n' z hz he=>by
     have hfr':=hfr
     simp only[St.fresh,bL,aE]at hfr'
     have:=(hfr'.2 _ (A0z hz)).1
     simp at this;omega
    have hsB:=hsA.F3x (x:=.vec e (B0a (mkGet h y) c)) (v:=v) hfr (by exact hbox) (fun t cs h=>by cases h) hone (fun k hk=>⟨(q1.far n k (hbm k hk)).1,(q2 n k (hbm k hk)).1 rfl,(q1.far n k (hbm k hk)).2,fun j z hz=>hpn k j z hz hk⟩) ⟨fun m' e' he'=>by
      cases he'
      refine⟨_,hturn,fun n' k hk=>⟨(fun _=>(q2 n' k (hsub n' k hk)).1 rfl),fun j z hz hq=>?_⟩⟩
      rcases A7u hz with⟨rfl,rfl⟩|⟨hne,hz⟩
      ·simp only[A0q,Q5]at hq
       exact hnotA n' k hk hq
      ·simp only[A0q,Q0 hne]at hq
       exact(q2 n' k (hsub n' k hk)).2 j z hz hq,fun n' b' t' hn'=>by
      obtain⟨g1,g2,g3⟩:=hs.hg.gm n' b' t' hn'
      refine⟨g1,g2,fun j z hz hq=>?_⟩
      rcases A7u hz with⟨rfl,rfl⟩|⟨hne,hz⟩
      ·simp only[A0q,Q5]at hq
       obtain⟨p0,p1,p2,p3,p4,p5,p6,p7,p8,p9⟩:=q1.obj n' b' t' hn'
       have hin:b' ∈ φ n':=(p8 b').2 (.inl rfl)
       have h1:=q1.dis n' n b' hin (hbm b' hq)
       subst h1
       rw[x3]at hn';cases hn'
       exact o7 c hcl (by rw[hgc,show bk v=some _ from hq];simp)
      ·simp only[A0q,Q0 hne]at hq
       exact g3 j z hz hq⟩
    have ha:A1j X.P t=some false:=by unfold A1j;rw[hu]
    have hrun:(execOp a.eval o).run X.P w=.ok (.value v) w:=by
     have hcell:w.cell? ⟨b,c,none⟩=some v:=by simp[dA,o1,hv,hvv]
     simp[execOp,ho,Instr.loadAt,x4,dE,loadVar,B1u ha,load,cO,hcell]
    unfold cV
    rw[hrun]
    simp only[cU]
    exact HK.now (hsB.put (dst:=o.dst) hd (sv:=.one (.vec st.nn)) (by show _=A0q _ _ _ _;simp[A0q])) (by rw[←hnv];rfl) he
   ·cases he
  ·cases he
 ·cases he
theorem F7a(hF:A5j X.G X.P Fs){o:Oper}{K:St→T}{r:List D}(he:eval Fs fuel (G1k X.P X.nt st o K) L ρ=some r)(hnv:st.nv=ρ.length)(hs:Sat X ρ st Ft β a w)
  {next:Act→World→Prop} {Q:Exit→Act→World→Prop} (HK:A3q X Fs fuel L ρ K r next):o.wp X.P a w next Q:=by
 unfold G1k at he
 split at he
 ·rename_i t x v ho
  split at he
  ·rename_i hd
   split at he
   ·rename_i m tt i c hx
    split at he
    ·rename_i hm hv
     exact E5v ho hd hx hv he hnv hs HK
    ·exact E7k ho hd he hnv hs HK
   ·exact E9t ho hd he hnv hs HK
   ·rename_i cx _ _ hx
    split at he
    ·rename_i es tt y c sv has hv
     exact E5y ho hd hv (fun hes=>C6a has hs.cf.2 hes (A0g hs hx)) he hnv hs HK
    ·cases he
   ·cases he
  ·cases he
 ·rename_i t ho
  split at he
  ·rename_i cs hz
   split at he
   ·rename_i hcl
    obtain⟨vs,e1,_,hl⟩:=E4a hs ho (es:=[]) (sv:=.one (.ptr st.nn 0)) (nb:=some (.box t cs)) (by rw[hz];rfl)
    exact D9c e1 hl hcl he hnv hs HK
   ·cases he
  ·cases he
 ·rename_i t x ho
  split at he
  ·rename_i sv hv
   split at he
   ·rename_i cs hcs
    split at he
    ·rename_i hcl
     obtain⟨vs,e1,_,hl⟩:=E0w hs hs.on ho (es:=[]) (sv:=.one (.ptr st.nn 0)) (nb:=some (.box t cs)) (by rw[hv];simp only[hcs])
     exact D9c e1 hl hcl he hnv hs HK
    ·cases he
   ·cases he
  ·cases he
 ·rename_i c ho
  split at he
  ·rename_i x hcl
   split at he
   ·rename_i f hx
    have hv:a.eval x=.func (.func f) #[] #[]:=A0g hs hx
    split at he
    ·exact D5g hF ho hcl hv he hnv hs HK
    ·obtain⟨st',F',hnv',hs',he'⟩:=A9y he hnv hs
     exact D5g hF ho hcl hv he' hnv' hs' HK
   ·obtain⟨st',F',hnv',hs',he'⟩:=A9y he hnv hs
    split at he'
    ·rename_i e vs hx hvs
     obtain⟨l1,q1⟩:=B4t hs' hvs
     exact C4b hF ho hcl (A0g hs' hx) l1 q1 hnv' hs' HK A3b he'
    ·cases he'
   ·cases he
  ·rename_i hcl
   split at he
   ·rename_i x y t t' ha hb
    split at he
    ·rename_i ht
     subst ht
     have e2:c.args=#[x,y]:=by rw[←cW,ha]
     have e3:c.argTypes=#[t,t]:=by rw[←cW,hb]
     exact E6u (by rw[ho];obtain⟨c1,c2,c3⟩:=c;simp only at hcl e2 e3;rw[hcl,e2,e3]) he hnv hs HK
    ·cases he
   ·cases he
  ·cases he
 ·rename_i t x ho
  obtain⟨st',F',hnv',hs',he'⟩:=A9y he hnv hs
  split at he'
  ·rename_i t' h
   exact D4z h he' hnv' hs' HK
  ·exact E6v ho he' hnv' hs' HK
 ·rename_i t n parts ho
  split at he
  ·rename_i hc
   obtain⟨rfl,hp⟩:=hc
   exact F2i ho hp he hnv hs HK
  split at he
  ·exact F2v ho he hnv hs HK
  obtain⟨st',F',hnv',hs',he'⟩:=A9y he hnv hs
  split at he'
  ·rename_i sv hev
   split at he'
   ·rename_i hd
    rw[C9n]at he'
    obtain⟨v,w',e1,hb,hv⟩:=C6m hs'.on hs' ho hev
    unfold cV
    rw[e1]
    exact HK.now ((hs'.below hb).put hd hv) hnv' he'
   ·cases he'
  ·cases he'
 ·rename_i t l c ho
  exact F4e ho he hnv hs A3b HK
 ·rename_i t x ho
  split at he
  ·rename_i cx hx
   split at he
   ·rename_i es tt y c has
    exact F3l ho he hnv hs (fun hes=>C6a has hs.cf.2 hes (A0g hs hx)) HK
   ·cases he
  ·cases he
 ·rename_i t ho
  exact F0g ho he hnv hs HK
 ·rename_i t m x v ho
  exact C8p (.inl ho) he hnv hs HK
 ·rename_i t m x v ho
  exact C8p (.inr ho) he hnv hs HK
 ·simp[eval,den]at he
 ·rename_i op t x y yt ho
  split at he
  ·rename_i hy
   exact F4g ho hy he hnv hs HK
  ·cases he
 ·rename_i fn fs cs ho
  split at he
  ·rename_i f hfs
   obtain⟨st',F',hnv',hs',he'⟩:=A9y he hnv hs
   exact G2h ho hfs he' hnv' hs' HK
  ·cases he
 ·rename_i t x lo hi mx ho
  split at he
  ·rename_i hz
   exact E9v ho hz he hnv hs HK
  ·obtain⟨st',F',hnv',hs',he'⟩:=A9y he hnv hs
   split at he'
   ·rename_i t' h
    exact D4z h he' hnv' hs' HK
   ·exact F2x ho he' hnv' hs' HK
 ·cases he
theorem C2p(hF:A5j X.G X.P Fs){o:Oper}{K:St→T}{r:List D}(he:eval Fs fuel (E6z X.P X.nt st o K) L ρ=some r)(hnv:st.nv=ρ.length)(hs:Sat X ρ st Ft β a w)
  {next:Act→World→Prop} {Q:Exit→Act→World→Prop} (HK:A3q X Fs fuel L ρ K r next):o.wp X.P a w next Q:=by
 unfold E6z at he
 split at he
 ·rename_i t h
  exact D4z h he hnv hs HK
 ·exact F7a hF he hnv hs HK
theorem Sat.fact(hs:Sat X ρ st Ft β a w){e:E}{b:Bool}(h:(den ρ e).toBool=b):Sat X ρ {st with fs:=addFact e b st.fs} Ft β a w:=by
 refine⟨hs.df,hs.sz,hs.ft,hs.tm,hs.bx,hs.inj,hs.own,hs.chg,?_,hs.on,hs.f0,hs.gx,hs.cf,⟨hs.hg.hp,hs.hg.gm⟩,hs.fw⟩
 intro e' b' hm
 simp only[addFact]at hm
 split at hm
 ·rename_i x
  rcases aS.1 hm with he|hm
  ·cases he;exact h
  ·rcases aS.1 hm with he|hm
   ·injection he with h1 h2
    subst h1 h2
    have:(!(den ρ e').toBool)=b:=h
    rw[←this];simp
   ·exact hs.fs e' b' hm
 ·rcases aS.1 hm with he|hm
  ·cases he;exact h
  ·exact hs.fs e' b' hm
theorem C6c(hs:Sat X ρ st Ft β a w){dst:Option Tmp}(hd:A3a X.nt dst=true):Sat X ρ (st.upd dst (.tup []) none) Ft β (a.put dst undef) w:=
 hs.put hd ⟨[],rfl,rfl,fun i c u h=>by simp at h⟩
theorem E8y(hF:A5j X.G X.P Fs){ops:Array Oper}{o:Oper}{K:St→T}{r:List D}(he:eval Fs fuel (doG X.P X.nt ops st o K) L ρ=some r)(hnv:st.nv=ρ.length)(hs:Sat X ρ st Ft β a w)
  {next:Act→World→Prop} {Q:Exit→Act→World→Prop} (HK:A3q X Fs fuel L ρ K r next):
  if d4 o (yielded ops a.tmps)then o.wp X.P a w next Q∨(o.asks X.P a w∧LetsOut Q)else next (a.put o.dst undef) w:=by
 unfold doG at he
 split at he
 ·rename_i hg
  have:d4 o (yielded ops a.tmps)=true:=by unfold d4;rw[hg]
  rw[Q3 this]
  exact .inl (C2p hF he hnv hs HK)
 ·rename_i j want hg
  split at he
  ·rename_i d hd
   split at he
   ·rename_i e hl
    obtain⟨v,hv1,hv2⟩:=hs.at hl
    have hv:v=.bool (den ρ e).toBool:=Rd.A6x hv2
    subst hv
    have hy:yielded ops a.tmps j=some (den ρ e).toBool:=by
     unfold yielded
     rw[hd]
     simp[hv1]
    have hw:d4 o (yielded ops a.tmps)=decide ((den ρ e).toBool=want):=by
     unfold d4
     rw[hg]
     simp only[hy]
     cases (den ρ e).toBool<;>cases want<;>rfl
    rw[hw]
    split at he
    ·rename_i b hk
     have hb:=C2s hk hs
     rw[hb]
     split at he
     ·rename_i hbw
      rw[Q3 (by simpa using hbw)]
      exact .inl (C2p hF he hnv hs HK)
     ·rename_i hbw
      rw[Q0 (by simpa using hbw)]
      split at he
      ·rename_i hdst
       exact HK.now (C6c hs hdst) hnv he
      ·cases he
    ·split at he
     ·rename_i hdst
      simp only[eval]at he
      split at he
      ·rename_i ht
       have hs':=hs.fact ht
       rw[ht]
       split at he
       ·rename_i hwant
        rw[Q3 (by simp[hwant])]
        exact .inl (C2p hF he (st:={st with fs:=addFact e true st.fs}) hnv hs' HK)
       ·rename_i hwant
        rw[Q0 (by simpa using hwant)]
        exact HK.now (C6c hs' hdst) hnv he
      ·rename_i ht
       have ht':(den ρ e).toBool=false:=by simpa using ht
       have hs':=hs.fact ht'
       rw[ht']
       split at he
       ·rename_i hwant
        rw[Q0 (by simp[hwant])]
        exact HK.now (C6c hs' hdst) hnv he
       ·rename_i hwant
        rw[Q3 (by simpa using hwant)]
        exact .inl (C2p hF he (st:={st with fs:=addFact e false st.fs}) hnv hs' HK)
     ·cases he
   ·rename_i l hl
    obtain⟨v,hv1,hv2⟩:=hs.at hl
    obtain⟨vs,rfl,_⟩:=hv2
    have hw:d4 o (yielded ops a.tmps)=false:=by
     unfold d4 yielded
     rw[hg]
     simp only[hd]
     simp[hv1]
    rw[Q0 (by simp[hw])]
    split at he
    ·rename_i hdst
     exact HK.now (C6c hs hdst) hnv he
    ·cases he
   ·cases he
  ·cases he
theorem F0b{o:Oper}{l:List Oper}(h:B7d o l=true):o.guard=none:=by
 unfold B7d at h
 split at h
 ·rename_i hg;exact hg
 ·cases h
theorem C2t(hF:A5j X.G X.P Fs){ops:Array Oper}{o:Oper}{l:List Oper}{K:St→T}{r:List D}(he:eval Fs fuel (if B7d o l then E5m X.P X.nt st o K else doG X.P X.nt ops st o K) L ρ=some r)(hnv:st.nv=ρ.length)(hs:Sat X ρ st Ft β a w)
  {next:Act→World→Prop} {Q:Exit→Act→World→Prop} (HK:A3q X Fs fuel L ρ K r next):
  if d4 o (yielded ops a.tmps)then o.wp X.P a w next Q∨(o.asks X.P a w∧LetsOut Q)else next (a.put o.dst undef) w:=by
 split at he
 ·rename_i hw
  have:d4 o (yielded ops a.tmps)=true:=by unfold d4;rw[F0b hw]
  rw[Q3 this]
  unfold E5m at he
  split at he
  ·rename_i ho
   exact .inl (F8f ho he hnv hs HK)
  ·cases he
 ·exact E8y hF he hnv hs HK
theorem D9j(hF:A5j X.G X.P Fs)(ops:Array Oper){Q:Exit→Act→World→Prop}{K:St→T}{r:List D}:∀(l:List Oper) (n:Nat) {st:St} {ρ:List D} {Ft:Fr} {β:Nat→Value} {a:Act} {w:World},ops.toList.drop n=l→
  eval Fs fuel (B7w X.P X.nt ops l st K) L ρ=some r→st.nv=ρ.length→Sat X ρ st Ft β a w→A3q X Fs fuel L ρ K r (Q .normal)→wpOps X.P ops Q (List.range' n l.length) a w
 |[],n,st,ρ,Ft,β,a,w,hl,he,hnv,hs,HK=>by
  simp only[bF,List.range'_zero,wpOps]
  exact HK.now hs hnv he
 |o::l,n,st,ρ,Ft,β,a,w,hl,he,hnv,hs,HK=>by
  have hlt:n<ops.toList.length:=by
   rcases bS n ops.toList.length with h|h
   ·exact h
   ·rw[List.drop_eq_nil_of_le h]at hl;cases hl
  have ho:ops[n]?=some o:=by
   rw[aX hlt]at hl
   injection hl with h1 h2
   rw[←cX,a0 hlt,h1]
  have hrest:ops.toList.drop (n+1)=l:=by
   rw[aX hlt]at hl
   injection hl
  simp only[B7w]at he
  simp only[aI,List.range'_succ,wpOps,ho]
  refine C2t hF he hnv hs ?_
  intro st' ext Ft' β' a' w' hnv' hs' he'
  exact D9j hF ops l (n+1) hrest he' hnv' hs' (fun st'' ext' Ft'' β'' a'' w'' q1 q2 q3=>by
   rw[aB]at q1 q2 q3
   exact HK st'' (ext++ext') Ft'' β'' a'' w'' q1 q2 q3)
theorem C4n(hF:A5j X.G X.P Fs){ops:Array Oper}{id:Nat}{Q:Exit→Act→World→Prop}{K:St→T}{r:List D}(he:eval Fs fuel (B7w X.P X.nt ops ops.toList st K) L ρ=some r)(hnv:st.nv=ρ.length)(hs:Sat X ρ st Ft β a w)
  (HK:A3q X Fs fuel L ρ K r (Q .normal)):(Code.region id ops false).wp X.P Q a w:=by
 refine wp_region ?_
 have:=D9j hF ops ops.toList 0 rfl he hnv hs HK
 rw[List.range_eq_range']
 simpa using this
end
end Go.Proofs.YtckanieeocdpbaaGreat.Eng
