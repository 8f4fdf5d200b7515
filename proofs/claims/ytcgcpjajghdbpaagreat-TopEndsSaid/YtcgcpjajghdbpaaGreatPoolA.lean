import Derived.Test.YtcgcpjajghdbpaaGreatFDat
import Derived.Test.YtcgcpjajghdbpaaGreatCfgN
namespace Go.Proofs.YtcgcpjajghdbpaaGreat.P
open Go.RowKit Go.Proofs.YtcgcpjajghdbpaaGreat.Eng Go.Proofs.YtcgcpjajghdbpaaGreat Go.Proofs.YtcgcpjajghdbpaaGreat.Dat Go.Proofs.YtcgcpjajghdbpaaGreat.FDat
set_option linter.unusedVariables false
set_option linter.unusedSimpArgs false
set_option maxRecDepth 10000
abbrev Cf:=RU.Cf
def In(z:Int):Prop:=-9223372036854775808≤z∧z≤9223372036854775807
theorem In.w{z:Int}(h:In z):IntKind.i64.wrap z=z:=i64w z h.1 h.2
def er(c:Int):D:=if c=0 then .nil else code c
theorem C3i:er 0=.nil:=rfl
theorem C0v(c:Int):(er c).isNil=decide (c=0):=by
 unfold er
 by_cases h:c=0
 ·simp[h,D.isNil]
 ·simp[h,code,D.isNil]
structure St where
 k:Int
 f:Bool
 g:Int
 l:Int
 n:Int
 deriving DecidableEq
def St.ds(s:St):List D:=[.int s.k,.bool s.f,.int s.g,.int s.l,.int s.n]
def fl(f:Bool):Int:=if f then 1 else 0
def St.vs(s:St):List Int:=[s.k,fl s.f,s.g,s.l,s.n]
def St.wf(s:St):Prop:=In s.k∧In s.g∧In s.l∧In s.n
def St.zero:St:=⟨0,false,0,0,0⟩
structure Tm where
 name:Int
 side:Int
 price:Int
 least:Int
 till:Int
 deriving DecidableEq
def Tm.ds(t:Tm):List D:=[.int t.name,.int t.side,.int t.price,.int t.least,.int t.till]
def Tm.vs(t:Tm):List Int:=[t.name,t.side,t.price,t.least,t.till]
def Tm.wf(t:Tm):Prop:=∀z ∈ t.vs,In z
def Tm.sm(t:Tm):Prop:=(0≤t.name∧t.name<16)∧(0≤t.side∧t.side<2)∧(0≤t.price∧t.price<65536)∧(0≤t.least∧t.least<65536)∧0≤t.till∧t.till<16777216
def Tm.zero:Tm:=⟨0,0,0,0,0⟩
structure Rc where
 k:Int
 q:Int
 p:Int
 t:Int
 c:Int
 g:Int
 deriving DecidableEq
def Rc.ds(r:Rc):List D:=[.int r.k,.int r.q,.int r.p,.int r.t,.int r.c,.int r.g]
def Rc.vs(r:Rc):List Int:=[r.k,r.q,r.p,r.t,r.c,r.g]
def Rc.wf(r:Rc):Prop:=∀z ∈ r.vs,In z
def Rc.zero:Rc:=⟨0,0,0,0,0,0⟩
def cws:List Nat:=[4,1,8,16,8]
def tws:List Nat:=[4,1,16,16,24]
def rws:List Nat:=[3,16,16,20,5,4]
theorem cgood:GoodW cws:=by constructor<;>simp[cws]
theorem tgood:GoodW tws:=by constructor<;>simp[tws]
theorem rgood:GoodW rws:=by constructor<;>simp[rws]
theorem clay:FX 98 []=some [wsD cws]:=by
 have h:=new_eq cws cgood
 rw[C6h]
 have e:(D.agg ((D.int (4:Int))::((D.int (1:Int))::((D.int (8:Int))::((D.int (16:Int))::((D.int (8:Int))::[]))))))=wsD cws:=rfl
 rw[e,h];rfl
theorem tlay:FX 100 []=some [wsD tws]:=by
 have h:=new_eq tws tgood
 rw[C4f]
 have e:(D.agg ((D.int (4:Int))::((D.int (1:Int))::((D.int (16:Int))::((D.int (16:Int))::((D.int (24:Int))::[]))))))=wsD tws:=rfl
 rw[e,h];rfl
theorem rlay:FX 105 []=some [wsD rws]:=by
 have h:=new_eq rws rgood
 rw[C2x]
 have e:(D.agg ((D.int (3:Int))::((D.int (16:Int))::((D.int (16:Int))::((D.int (20:Int))::((D.int (5:Int))::((D.int (4:Int))::[])))))))=wsD rws:=rfl
 rw[e,h];rfl
def stOf(x:Nat):St:=⟨getZ cws x 0,getZ cws x 1 == 1,getZ cws x 2,getZ cws x 3,getZ cws x 4⟩
def tmOf(x:Nat):Tm:=⟨getZ tws x 0,getZ tws x 1,getZ tws x 2,getZ tws x 3,getZ tws x 4⟩
def rcOf(x:Nat):Rc:=⟨getZ rws x 0,getZ rws x 1,getZ rws x 2,getZ rws x 3,getZ rws x 4,getZ rws x 5⟩
theorem A4p(ws:List Nat)(x:Nat)(i b:Nat)(hb:ws.getD i 0≤b):0≤getZ ws x i∧getZ ws x i<((2 ^ b:Nat):Int):=by
 unfold getZ
 have hp:0<2 ^ b:=Nat.two_pow_pos b
 split
 ·omega
 ·have h1:getN ws x ((i:Int).toNat)<2 ^ ws.getD i 0:=by
   unfold getN
   rw[Int.toNat_natCast]
   exact Nat.mod_lt _ (Nat.two_pow_pos _)
  have h2:2 ^ ws.getD i 0≤2 ^ b:=Nat.pow_le_pow_right (by decide) hb
  omega
theorem A9u(x:Nat):(0≤(stOf x).k∧(stOf x).k<16)∧(0≤(stOf x).g∧(stOf x).g<256)∧(0≤(stOf x).l∧(stOf x).l<65536)∧0≤(stOf x).n∧(stOf x).n<256:=
 ⟨A4p cws x 0 4 (by decide),A4p cws x 2 8 (by decide),A4p cws x 3 16 (by decide),A4p cws x 4 8 (by decide)⟩
theorem A3w(x:Nat):(stOf x).wf:=by
 have:=A9u x
 unfold St.wf In;omega
theorem B3j(x:Nat):(tmOf x).sm:=
 ⟨A4p tws x 0 4 (by decide),A4p tws x 1 1 (by decide),A4p tws x 2 16 (by decide),A4p tws x 3 16 (by decide),A4p tws x 4 24 (by decide)⟩
theorem Tm.sm.wf{t:Tm}(h:t.sm):t.wf:=by
 obtain⟨h1,h2,h3,h4,h5⟩:=h
 intro z hz
 simp only[Tm.vs,List.mem_cons,List.not_mem_nil,or_false]at hz
 unfold In;omega
section
variable(x:Nat)(hx:x<18446744073709551616)
include hx
theorem C0i:FX 71 [.int x]=some (stOf x).ds:=by
 have hg:=C7h cws cgood x hx
 rw[C9h,clay]
 simp only[bindC,List.length_cons,List.length_nil,if_true,List.getD_cons_zero,hg,D.toInt_int]
 rfl
theorem E0c:FX 73 [.int x]=some (tmOf x).ds:=by
 have hg:=C7h tws tgood x hx
 rw[D4c,tlay]
 simp only[bindC,List.length_cons,List.length_nil,if_true,List.getD_cons_zero,hg,D.toInt_int]
 rfl
theorem D7k:FX 114 [.int x]=some (rcOf x).ds:=by
 have hg:=C7h rws rgood x hx
 rw[D0k,rlay]
 simp only[bindC,List.length_cons,List.length_nil,if_true,List.getD_cons_zero,hg,D.toInt_int]
 rfl
end
def packW(ws:List Nat)(vs:List Int):Option Nat:=match packI ws vs with
 |(w,c,_)=>if c=0 then some w.toNat else none
def stW(s:St):Option Nat:=if s.k>8 then none else packW cws s.vs
def tmW(t:Tm):Option Nat:=packW tws t.vs
def rcW(r:Rc):Option Nat:=if r.k>5 then none else packW rws r.vs
def Told(o:Option Nat)(r:List D):Prop:=match o with
 |some w=>r=[.int w,.nil]
 |none=>∃e:D,e.isNil=false∧r=[.int 0,e]
theorem D3f{ws:List Nat}{vs:List Int}{w:Int}{p:Option Int}(h:packI ws vs=(w,0,p)):0≤w:=by
 unfold packI at h
 split at h
 ·cases h
 ·split at h
  ·cases h
  ·cases h;omega
theorem E0u:∀{ws:List Nat} {vs:List Int} (k:Nat),vs.length=ws.length→firstBad ws vs k=none→∃ns:List Nat,vs=ns.map (fun(x:Nat)=>(x:Int))∧Fits ws ns:=by
 intro ws
 induction ws with
 |nil=>intro vs k h _;have:=List.eq_nil_of_length_eq_zero h;subst this;exact⟨[],rfl,trivial⟩
 |cons w ws ih=>
  intro vs k h hb
  cases vs with
  |nil=>simp at h
  |cons v vs=>
   simp only[firstBad]at hb
   split at hb
   ·cases hb
   ·rename_i hc
    obtain⟨ns,e,hf⟩:=ih (k+1) (by simpa using h) hb
    have hp:0<2 ^ w:=Nat.two_pow_pos w
    refine⟨v.toNat::ns,?_,?_,hf⟩
    ·rw[List.map_cons,e]
     congr 1
     omega
    ·omega
theorem E0y{ws:List Nat}{vs:List Int}(hl:vs.length=ws.length)(h:(packI ws vs).2.1=0):∃ns:List Nat,vs=ns.map (fun(n:Nat)=>(n:Int))∧Fits ws ns∧packI ws vs=((packN ws ns:Int),0,none):=by
 unfold packI at h⊢
 rw[if_neg (by omega)]at h⊢
 cases hb:firstBad ws vs 0 with
 |some i=>rw[hb]at h;cases h
 |none=>
  obtain⟨ns,e,hf⟩:=E0u 0 hl hb
  have e2:vs.map Int.toNat=ns:=by
   rw[e,List.map_map]
   apply List.ext_getElem
   ·simp
   ·intro j h1 h2;simp
  exact⟨ns,e,hf,by simp only[e2]⟩
theorem D3b{ws:List Nat}{vs:List Int}{w:Nat}(h:packW ws vs=some w):∃ns:List Nat,vs=ns.map (fun(n:Nat)=>(n:Int))∧Fits ws ns∧w=packN ws ns:=by
 unfold packW at h
 rcases hp:packI ws vs with⟨z,c,q⟩
 rw[hp]at h
 dsimp only at h
 by_cases hc:c=0
 ·subst hc
  have hl:vs.length=ws.length:=by
   rcases Decidable.em (vs.length=ws.length)with h1|h1
   ·exact h1
   ·unfold packI at hp
    rw[if_pos h1]at hp;cases hp
  obtain⟨ns,e1,e2,e3⟩:=E0y hl (by rw[hp])
  rw[if_pos rfl]at h
  rw[e3]at hp
  cases hp
  cases h
  exact⟨ns,e1,e2,by simp⟩
 ·rw[if_neg hc]at h;cases h
theorem B5e{ws:List Nat}(hg:GoodW ws){vs:List Int}{w:Nat}(h:packW ws vs=some w):w<18446744073709551616:=by
 obtain⟨ns,_,hf,rfl⟩:=D3b h
 have h1:=C3e hf
 have h2:2 ^ ws.sum≤2 ^ 64:=Nat.pow_le_pow_right (by decide) hg.2
 have h3:(2:Nat) ^ 64=18446744073709551616:=by decide
 omega
theorem B3u(ws:List Nat)(vs:List Int):Told (packW ws vs) (packR ws vs):=by
 unfold packW packR
 rcases h:packI ws vs with⟨w,c,p⟩
 dsimp only
 by_cases hc:c=0
 ·subst hc
  have:=D3f h
  simp only[if_true,Told]
  rw[Int.toNat_of_nonneg this]
 ·rw[if_neg hc,if_neg hc]
  have hw:w=0:=by
   unfold packI at h
   split at h
   ·cases h;rfl
   ·split at h
    ·cases h;rfl
    ·cases h;exact absurd rfl hc
  subst hw
  cases p with
  |none=>exact⟨_,rfl,rfl⟩
  |some i=>exact⟨_,rfl,rfl⟩
theorem D1z(s:St)(hs:s.wf):∃r,FX 103 s.ds=some r∧Told (stW s) r:=by
 obtain⟨k,f,g,l,n⟩:=s
 obtain⟨h1,h2,h3,h4⟩:=hs
 unfold St.ds stW
 dsimp only at h1 h2 h3 h4⊢
 rw[D0v,clay]
 by_cases h:k>8
 ·have hcode:(D.iface 94 (.int 5)).isNil=false:=rfl
  simp only[D.toInt_int,h,decide_true,if_true,at_eq _ _ hcode,bindC,List.length_cons,List.length_nil,List.getD_cons_zero]
  exact⟨_,rfl,_,rfl,rfl⟩
 ·have hp:=C4k cws cgood [k,fl f,g,l,n] (by
   intro z hz
   simp only[List.mem_cons,List.not_mem_nil,or_false]at hz
   unfold In at h1 h2 h3 h4
   have:fl f≤1:=by unfold fl;split<;>omega
   omega)
  have ht:=B3u cws [k,fl f,g,l,n]
  have hb:(D.agg ((D.int k)::((if f then D.int 1 else D.int 0)::((D.agg ((D.int g)::((D.int l)::((D.int n)::[]))))).toL)))=vsD [k,fl f,g,l,n]:=by cases f<;>rfl
  refine⟨packR cws [k,fl f,g,l,n],?_,by rw[if_neg h];exact ht⟩
  have hl:(packR cws [k,fl f,g,l,n])=[(packR cws [k,fl f,g,l,n]).getD 0 D.nil,(packR cws [k,fl f,g,l,n]).getD 1 D.nil]:=by
   unfold packR;rcases packI cws [k,fl f,g,l,n]with⟨_,_,_⟩;rfl
  have hlen:(packR cws [k,fl f,g,l,n]).length=2:=by rw[hl];rfl
  cases f
  ·simp only[Bool.false_eq_true,if_false]at hb
   simp only[D.toInt_int,h,decide_false,Bool.false_eq_true,if_false,bindC,List.length_cons,List.length_nil,if_true,List.getD_cons_zero,hb,D.toBool_bool,hp,hlen]
   rw[←hl]
  ·simp only[if_true]at hb
   simp only[D.toInt_int,h,decide_false,Bool.false_eq_true,if_false,bindC,List.length_cons,List.length_nil,if_true,List.getD_cons_zero,hb,D.toBool_bool,hp,hlen]
   rw[←hl]
theorem D8q(t:Tm)(hs:t.wf):∃r,FX 109 t.ds=some r∧Told (tmW t) r:=by
 have hp:=C4k tws tgood t.vs (fun z hz=>(hs z hz).2)
 have ht:=B3u tws t.vs
 refine⟨packR tws t.vs,?_,ht⟩
 have hb:D.agg (.int t.name::.int t.side::.int t.price::.int t.least::.int t.till::[])=vsD t.vs:=rfl
 have hl:(packR tws t.vs)=[(packR tws t.vs).getD 0 D.nil,(packR tws t.vs).getD 1 D.nil]:=by
  unfold packR;rcases packI tws t.vs with⟨_,_,_⟩;rfl
 have hlen:(packR tws t.vs).length=2:=by rw[hl];rfl
 unfold Tm.ds
 rw[C6v,tlay]
 simp only[bindC,List.length_cons,List.length_nil,if_true,List.getD_cons_zero,hb,hp,hlen]
 rw[←hl]
theorem D9a(r:Rc)(hs:r.wf):∃z,FX 79 r.ds=some z∧Told (rcW r) z:=by
 have hp:=C4k rws rgood r.vs (fun z hz=>(hs z hz).2)
 have ht:=B3u rws r.vs
 have hb:D.agg (.int r.k::.int r.q::.int r.p::.int r.t::.int r.c::.int r.g::[])=vsD r.vs:=rfl
 have hl:(packR rws r.vs)=[(packR rws r.vs).getD 0 D.nil,(packR rws r.vs).getD 1 D.nil]:=by
  unfold packR;rcases packI rws r.vs with⟨_,_,_⟩;rfl
 have hlen:(packR rws r.vs).length=2:=by rw[hl];rfl
 unfold Rc.ds rcW
 rw[C6n,rlay]
 by_cases h:r.k>5
 ·have hcode:(D.iface 94 (.int 5)).isNil=false:=rfl
  simp only[D.toInt_int,h,decide_true,if_true,at_eq _ _ hcode,bindC,List.length_cons,List.length_nil,List.getD_cons_zero]
  exact⟨_,rfl,_,rfl,rfl⟩
 ·refine⟨packR rws r.vs,?_,by rw[if_neg h];exact ht⟩
  simp only[D.toInt_int,h,decide_false,Bool.false_eq_true,if_false,bindC,List.length_cons,List.length_nil,if_true,List.getD_cons_zero,hb,hp,hlen]
  rw[←hl]
def St.live(s:St):Bool:=decide (1≤s.k)&&decide (s.k≤4)
def St.over(s:St):Bool:=decide (5≤s.k)&&decide (s.k≤8)
def St.loose(s:St):Bool:=s.k == 1 || s.k == 2
def St.held(s:St):Bool:=s.k == 3 || s.k == 4
def St.hold(s:St):St:=if s.k=1 then {s with k:=3} else if s.k=2 then {s with k:=4} else s
def St.loosen(s:St):St:=if s.k=3 then {s with k:=1} else if s.k=4 then {s with k:=2} else s
def St.ended(s:St)(m:Int):St:=if s.l=0 then {s with k:=5,f:=false} else if s.n≥m then {s with k:=8,f:=false} else s
def takeF(s:St)(q m:Int):Int × St:=if s.loose=false then(27,.zero)else if q<1∨q>s.l then(23,.zero)else if s.n≥m then(4,.zero)else(0,St.ended {s with l:=s.l-q,n:=s.n+1} m)
def freed(s:St)(m:Int):St:=if(St.ended s.loosen m).f then {St.ended s.loosen m with k:=6,f:=false} else St.ended s.loosen m
def releaseF(s:St)(q m:Int):Int × St:=if s.held=false then(1,.zero)else if q<0∨q>s.l then(23,.zero)else if q>0 then(if s.n≥m then(4,.zero)else(0,freed {s with l:=s.l-q,n:=s.n+1} m))else(0,freed s m)
def cancelF(s:St):Int × St:=if s.k=1∨s.k=2 then(0,{s with k:=6})else if s.k=3∨s.k=4 then(0,{s with f:=true})else(29,.zero)
def expireF(s:St):Int × St:=if s.loose=false then(27,.zero)else(0,{s with k:=7})
def promoteF(s:St):Int × St:=if s.k=1 then(0,{s with k:=2})else(29,.zero)
def beginF(s:St)(q m:Int):Int × St:=if s.live then(27,.zero)else if s.g≥m then(28,.zero)else if q<1∨q>9999 then(23,.zero)else(0,⟨1,false,s.g+1,q,0⟩)
def outD(r:Int × St):List D:=r.2.ds++[er r.1]
theorem C8j(k:Int)(x1 x2 x3 x4:D):FX 101 [.int k,x1,x2,x3,x4]=some [.bool (k == 1 || k == 2)]:=by
 rw[C8k]
 by_cases h1:k=1
 ·simp[h1]
 ·by_cases h2:k=2<;>simp[h1,h2]
theorem E3p(k:Int)(x1 x2 x3 x4:D):FX 130 [.int k,x1,x2,x3,x4]=some [.bool (k == 3 || k == 4)]:=by
 rw[D0b]
 by_cases h1:k=3
 ·simp[h1]
 ·by_cases h2:k=4<;>simp[h1,h2]
theorem D1v(k:Int)(x1 x2 x3 x4:D):FX 112 [.int k,x1,x2,x3,x4]=some [.bool (decide (5≤k)&&decide (k≤8))]:=by
 rw[D0r]
 by_cases h1:5≤k
 ·by_cases h2:k≤8<;>simp[h1,h2]
 ·simp[h1]
theorem D2m(k:Int)(x1 x2 x3 x4:D):FX 116 [.int k,x1,x2,x3,x4]=some [.bool (decide (1≤k)&&decide (k≤4))]:=by
 rw[D0q]
 by_cases h1:1≤k
 ·by_cases h2:k≤4<;>simp[h1,h2]
 ·simp[h1]
theorem E2e(s:St):FX 118 s.ds=some s.hold.ds:=by
 unfold St.ds St.hold
 rw[D1a]
 by_cases h1:s.k=1
 ·simp[h1]
 by_cases h2:s.k=2
 ·simp[h1,h2]
 ·simp[h1,h2]
theorem D7x(k:Int)(x1 x2 x3 x4:D):FX 131 [.int k,x1,x2,x3,x4]=some [.int (if k=3 then 1 else if k=4 then 2 else k),x1,x2,x3,x4]:=by
 rw[C6l]
 by_cases h1:k=3
 ·simp[h1]
 by_cases h2:k=4
 ·simp[h1,h2]
 ·simp[h1,h2]
theorem C9a(k:Int)(f:Bool)(g l n m:Int):FX 129 [.int k,.bool f,.int g,.int l,.int n,.int m]=some (St.ended ⟨k,f,g,l,n⟩ m).ds:=by
 unfold St.ds St.ended
 rw[C8b]
 by_cases h1:l=0
 ·simp[h1]
 by_cases h2:n≥m
 ·simp[h1,h2]
 ·simp[h1,h2]
theorem E3d(s:St)(hs:s.wf)(q m:Int)(hm:m≤100):FX 121 (s.ds++[.int q,.int m])=some (outD (takeF s q m)):=by
 obtain⟨k,f,g,l,n⟩:=s
 obtain⟨h1,h2,h3,h4⟩:=hs
 dsimp only[In]at h1 h2 h3 h4
 unfold St.ds takeF outD St.loose
 dsimp only[List.cons_append,List.nil_append]
 rw[D0d,C8j]
 simp only[bindC,List.length_cons,List.length_nil,if_true,List.getD_cons_zero,D.toBool_bool,D.toInt_int]
 cases h0:(k == 1 || k == 2)
 ·simp only[Bool.not_false,if_true];rfl
 simp only[Bool.not_true,Bool.false_eq_true,if_false,reduceCtorEq]
 by_cases a1:q<1
 ·simp only[a1,decide_true,if_true,true_or];rfl
 by_cases a2:q>l
 ·simp only[a1,a2,decide_true,decide_false,Bool.false_eq_true,if_false,if_true,or_true];rfl
 by_cases a3:n≥m
 ·simp only[a1,a2,a3,decide_true,decide_false,Bool.false_eq_true,if_false,if_true,or_self];rfl
 rw[i64w (l-q) (by omega) (by omega),i64w (n+1) (by omega) (by omega),C9a]
 simp only[a1,a2,a3,decide_false,Bool.false_eq_true,if_false,or_self,C3i]
 rfl
theorem D4x(s:St)(hs:s.wf)(q m:Int)(hm:m≤100):FX 122 (s.ds++[.int q,.int m])=some (outD (releaseF s q m)):=by
 obtain⟨k,f,g,l,n⟩:=s
 obtain⟨h1,h2,h3,h4⟩:=hs
 dsimp only[In]at h1 h2 h3 h4
 have fin:∀l' n':Int,(bindC (FX 131 [.int k,.bool f,.int g,.int l',.int n']) 5 fun r8=>
      bindC (FX 129 [(r8.getD 0 D.nil),(r8.getD 1 D.nil),(r8.getD 2 D.nil),(r8.getD 3 D.nil),(r8.getD 4 D.nil),.int m]) 5 fun r13=>
      if((r13.getD 1 D.nil)).toBool=true then
      some [(D.int (6:Int)),(D.bool false),(r13.getD 2 D.nil),(r13.getD 3 D.nil),(r13.getD 4 D.nil),D.nil]
      else
      some [(r13.getD 0 D.nil),(r13.getD 1 D.nil),(r13.getD 2 D.nil),(r13.getD 3 D.nil),(r13.getD 4 D.nil),D.nil])=some (outD (0,freed ⟨k,f,g,l',n'⟩ m)):=by
  intro l' n'
  have hl:(St.loosen ⟨k,f,g,l',n'⟩)=⟨if k=3 then 1 else if k=4 then 2 else k,f,g,l',n'⟩:=by
   unfold St.loosen
   split
   ·rfl
   ·split<;>rfl
  simp only[D7x,bindC,List.length_cons,List.length_nil,if_true,List.getD_cons_zero,List.getD_cons_succ,C9a]
  unfold freed outD
  rw[hl]
  generalize St.ended ⟨if k=3 then 1 else if k=4 then 2 else k,f,g,l',n'⟩ m=z
  obtain⟨k',f',g',l2,n2⟩:=z
  simp only[St.ds,List.length_cons,List.length_nil,if_true,List.getD_cons_zero,List.getD_cons_succ,D.toBool_bool,C3i]
  cases f'
  ·rfl
  ·rfl
 unfold St.ds releaseF outD St.held
 dsimp only[List.cons_append,List.nil_append]
 rw[C3s,E3p]
 simp only[bindC,List.length_cons,List.length_nil,if_true,List.getD_cons_zero,D.toBool_bool,D.toInt_int]at fin⊢
 cases h0:(k == 3 || k == 4)
 ·simp only[Bool.not_false,if_true];rfl
 simp only[Bool.not_true,Bool.false_eq_true,if_false,reduceCtorEq]
 by_cases a1:q<0
 ·simp only[a1,decide_true,if_true,true_or];rfl
 by_cases a2:q>l
 ·simp only[a1,a2,decide_true,decide_false,Bool.false_eq_true,if_false,if_true,or_true];rfl
 by_cases a3:q>0
 ·by_cases a4:n≥m
  ·simp only[a1,a2,a3,a4,decide_true,decide_false,Bool.false_eq_true,if_false,if_true,or_self];rfl
  rw[i64w (l-q) (by omega) (by omega),i64w (n+1) (by omega) (by omega),fin]
  simp only[a1,a2,a3,a4,decide_true,decide_false,Bool.false_eq_true,if_false,if_true,or_self];rfl
 ·rw[fin l n]
  simp only[a1,a2,a3,decide_false,Bool.false_eq_true,if_false,or_self];rfl
theorem D5f(s:St):FX 113 s.ds=some (outD (cancelF s)):=by
 unfold St.ds outD cancelF
 rw[C6p]
 by_cases h1:s.k=1
 ·simp[h1,St.ds,er]
 by_cases h2:s.k=2
 ·simp[h1,h2,St.ds,er]
 by_cases h3:s.k=3
 ·simp[h1,h2,h3,St.ds,er]
 by_cases h4:s.k=4
 ·simp[h1,h2,h3,h4,St.ds,er]
 ·simp[h1,h2,h3,h4,St.ds,er,St.zero,code]
theorem D7o(s:St):FX 74 s.ds=some (outD (expireF s)):=by
 unfold St.ds outD expireF St.loose
 rw[C6u,C8j]
 cases h:(s.k == 1 || s.k == 2)
 ·simp[bindC,St.ds,er,St.zero,code]
 ·simp[bindC,St.ds,er,St.zero,code]
theorem D3k(s:St):FX 111 s.ds=some (outD (promoteF s)):=by
 unfold St.ds outD promoteF
 rw[C3x]
 by_cases h1:s.k=1
 ·simp[h1,St.ds,er]
 ·simp[h1,St.ds,er,St.zero,code]
theorem E1c(s:St)(hs:s.wf)(q m:Int)(hm:m≤100):FX 108 (s.ds++[.int q,.int m])=some (outD (beginF s q m)):=by
 obtain⟨k,f,g,l,n⟩:=s
 obtain⟨h1,h2,h3,h4⟩:=hs
 dsimp only[In]at h1 h2 h3 h4
 unfold St.ds beginF outD St.live
 dsimp only[List.cons_append,List.nil_append]
 rw[C7b,D2m]
 simp only[bindC,List.length_cons,List.length_nil,if_true,List.getD_cons_zero,D.toBool_bool,D.toInt_int]
 cases h0:(decide (1≤k)&&decide (k≤4))
 ·simp only[Bool.false_eq_true,if_false]
  by_cases a1:g≥m
  ·simp only[a1,decide_true,if_true];rfl
  by_cases a2:q<1
  ·simp only[a1,a2,decide_true,decide_false,Bool.false_eq_true,if_false,if_true,true_or];rfl
  by_cases a3:q>9999
  ·simp only[a1,a2,a3,decide_true,decide_false,Bool.false_eq_true,if_false,if_true,or_true];rfl
  rw[i64w (g+1) (by omega) (by omega)]
  simp only[a1,a2,a3,decide_false,Bool.false_eq_true,if_false,or_self];rfl
 ·simp only[if_true];rfl
def endF(s:St)(t:Int):Option Rc:=if s.over then some ⟨s.k-3,s.l,s.n,t,0,0⟩else none
def endD:Option Rc→List D
 |some r=>r.ds++[.bool true]
 |none=>Rc.zero.ds++[.bool false]
theorem E4h(s:St)(t:Int):FX 59 (s.ds++[.int t])=some (endD (endF s t)):=by
 unfold St.ds endF St.over
 dsimp only[List.cons_append,List.nil_append]
 rw[C7z]
 by_cases h1:s.k=5
 ·simp[h1,endD,Rc.ds]
 by_cases h2:s.k=6
 ·simp[h2,endD,Rc.ds]
 by_cases h3:s.k=7
 ·simp[h3,endD,Rc.ds]
 by_cases h4:s.k=8
 ·simp[h4,endD,Rc.ds]
 ·have:(decide (5≤s.k)&&decide (s.k≤8))=false:=by
   by_cases a:5≤s.k
   ·have:¬s.k≤8:=by omega
    simp[this]
   ·simp[a]
  simp[h1,h2,h3,h4,this,endD,Rc.zero,Rc.ds]
def Rc.isEnd(r:Rc):Bool:=decide (r.k≥2)&&decide (r.k≤5)
theorem E0i(r:Rc):FX 115 r.ds=some [.bool r.isEnd]:=by
 unfold Rc.ds Rc.isEnd
 rw[C3q]
 by_cases h1:r.k≥2
 ·simp only[D.toInt_int,h1,decide_true,if_true,Bool.true_and]
  rfl
 ·simp only[D.toInt_int,h1,decide_false,Bool.false_eq_true,if_false,Bool.false_and]
def nextF(gen n:Int)(a e:Rc):Rc × Int × Int:=if a.k=1 then({a with c:=0,g:=0},gen,n+1)else if e.isEnd=true∧e.p=n then(e,gen+1,0)else(.zero,gen,n)
theorem E2k(gen n:Int)(hg:In (gen+1))(hn:In (n+1))(a e:Rc):FX 88 ([.int gen,.int n]++a.ds++e.ds)=some ((nextF gen n a e).1.ds++[.int (nextF gen n a e).2.1,.int (nextF gen n a e).2.2]):=by
 have he:=E0i e
 unfold Rc.ds at he
 unfold Rc.ds nextF
 dsimp only[List.cons_append,List.nil_append]
 rw[C6m,he]
 simp only[D.toInt_int,hg.w,hn.w,bindC,List.length_cons,List.length_nil,if_true,List.getD_cons_zero,D.toBool_bool]
 by_cases h1:a.k=1
 ·simp[h1,Rc.ds]
 by_cases h2:e.isEnd=true
 ·by_cases h3:e.p=n
  ·simp[h1,h2,h3,Rc.ds]
  ·simp[h1,h2,h3,Rc.ds,Rc.zero]
 ·simp[h1,h2,Rc.ds,Rc.zero]
section
variable(c:Cf)(hc:c.ok)
def allF(c:Cf):Int:=c.c0*c.c1
include hc in
theorem all_b:1≤allF c∧allF c≤24:=by
 obtain⟨⟨h1,h2⟩,⟨h3,h4⟩,_⟩:=hc
 have a:c.c0=1∨c.c0=2∨c.c0=3∨c.c0=4∨c.c0=5∨c.c0=6:=by omega
 unfold allF
 rcases a with a|a|a|a|a|a<;>rw[a]<;>omega
include hc in
theorem B2v:FX 39 c.ds=some [.int (allF c)]:=by
 have:=all_b c hc
 unfold RU.Cf.ds
 rw[B8u]
 simp only[D.toInt_int]
 rw[i64w _ (by unfold allF at this;omega) (by unfold allF at this;omega)];rfl
def cellF(c:Cf)(part i:Int):Int:=if part<0∨part≥c.c0∨i<0∨i≥c.c1 then -1 else part*c.c1+i
theorem B7f{part i:Int}(h:0≤cellF c part i):(0≤part∧part<c.c0)∧(0≤i∧i<c.c1)∧cellF c part i=part*c.c1+i∧cellF c part i<allF c:=by
 unfold cellF at h⊢
 split at h
 ·omega
 rename_i hn
 rw[if_neg hn]
 have h1:part+1≤c.c0:=by omega
 have h2:=Int.mul_le_mul_of_nonneg_right h1 (show 0≤c.c1 by omega)
 rw[Int.add_mul,Int.one_mul]at h2
 unfold allF
 refine⟨by omega,by omega,rfl,by omega⟩
include hc in
theorem D2k(part i:Int):FX 82 (c.ds++[.int part,.int i])=some [.int (cellF c part i)]:=by
 have hb:=B7f c (part:=part) (i:=i)
 have hal:=all_b c hc
 unfold RU.Cf.ds
 dsimp only[List.cons_append,List.nil_append]
 rw[B7k]
 simp only[D.toInt_int]
 unfold cellF at hb⊢
 by_cases h1:part<0
 ·simp[h1]
 by_cases h2:part≥c.c0
 ·simp[h1,h2]
 by_cases h3:i<0
 ·simp[h1,h2,h3]
 by_cases h4:i≥c.c1
 ·simp[h1,h2,h3,h4]
 have hn:¬(part<0∨part≥c.c0∨i<0∨i≥c.c1):=by omega
 rw[if_neg hn]at hb⊢
 have h5:0≤part*c.c1:=Int.mul_nonneg (by omega) (by omega)
 have:=hb (by omega)
 rw[i64w (part*c.c1) (by omega) (by omega),i64w _ (by omega) (by omega)]
 simp only[h1,h2,h3,h4,decide_false,Bool.false_eq_true,if_false]
def ownerF(c:Cf)(x:Int):Int:=if x<0∨x≥allF c then -1 else x/c.c1
include hc in
theorem E0f(x:Int):FX 90 (c.ds++[.int x])=some [.int (ownerF c x)]:=by
 have ha:=B2v c hc
 have hb:=all_b c hc
 obtain⟨_,⟨h3,h4⟩,_⟩:=hc
 unfold RU.Cf.ds at ha⊢
 dsimp only[List.cons_append,List.nil_append]
 rw[B5q,ha]
 unfold ownerF
 simp only[D.toInt_int,bindC,List.length_cons,List.length_nil,if_true,List.getD_cons_zero]
 by_cases h1:x<0
 ·simp[h1]
 by_cases h2:x≥allF c
 ·simp[h1,h2]
 have h5:(c.c1 != 0)=true:=by simp;omega
 have h6:x.tdiv c.c1=x/c.c1:=Int.tdiv_eq_ediv_of_nonneg (by omega)
 have h7:0≤x/c.c1:=Int.ediv_nonneg (by omega) (by omega)
 have h8:x/c.c1≤x:=Int.ediv_le_self _ (by omega)
 rw[h6,i64w _ (by omega) (by omega)]
 simp only[h1,h2,h5,decide_false,Bool.false_eq_true,if_false,if_true,or_self]
def bandF(c:Cf)(p:Int):Int:=if p<1∨p>9999 then -1 else(p-1)*c.c3/9999
include hc in
theorem D8f(p:Int):-1≤bandF c p∧bandF c p<c.c3:=by
 obtain⟨_,_,_,⟨h3,h4⟩,_⟩:=hc
 unfold bandF
 split
 ·omega
 ·have h0:(p-1)*c.c3<9999*c.c3:=Int.mul_lt_mul_of_pos_right (by omega) (by omega)
  have h1:0≤(p-1)*c.c3:=Int.mul_nonneg (by omega) (by omega)
  omega
include hc in
theorem D2x(p:Int):FX 47 (c.ds++[.int p])=some [.int (bandF c p)]:=by
 obtain⟨_,_,_,⟨h3,h4⟩,_⟩:=hc
 unfold RU.Cf.ds
 dsimp only[List.cons_append,List.nil_append]
 rw[B6n]
 unfold bandF
 simp only[D.toInt_int]
 by_cases h1:p<1
 ·simp[h1]
 by_cases h2:p>9999
 ·simp[h1,h2]
 have h0:(p-1)*c.c3≤9998*4:=by
  have:=Int.mul_le_mul (show p-1≤9998 by omega) h4 (by omega) (by omega)
  exact this
 have h5:0≤(p-1)*c.c3:=Int.mul_nonneg (by omega) (by omega)
 rw[i64w (p-1) (by omega) (by omega),i64w ((p-1)*c.c3) (by omega) (by omega),Int.tdiv_eq_ediv_of_nonneg h5,i64w _ (by omega) (by omega)]
 simp only[h1,h2,decide_false,Bool.false_eq_true,if_false,or_self]
def shardF(c:Cf)(name band:Int):Int:=if name<0∨name≥c.c2∨band<0∨band≥c.c3 then -1 else name*c.c3+band
def shardsF(c:Cf):Int:=c.c2*c.c3
include hc in
theorem B0u:1≤shardsF c∧shardsF c≤12:=by
 obtain⟨_,_,⟨h1,h2⟩,⟨h3,h4⟩,_⟩:=hc
 have a:c.c2=1∨c.c2=2∨c.c2=3:=by omega
 unfold shardsF
 rcases a with a|a|a<;>rw[a]<;>omega
include hc in
theorem D7l:FX 20 c.ds=some [.int (shardsF c)]:=by
 have:=B0u c hc
 unfold RU.Cf.ds
 rw[B4g]
 simp only[D.toInt_int]
 rw[i64w _ (by unfold shardsF at this;omega) (by unfold shardsF at this;omega)];rfl
include hc in
theorem C9d(name band:Int):FX 102 (c.ds++[.int name,.int band])=some [.int (shardF c name band)]:=by
 have hb:=B0u c hc
 unfold RU.Cf.ds
 dsimp only[List.cons_append,List.nil_append]
 rw[B6a]
 simp only[D.toInt_int]
 unfold shardF
 by_cases h1:name<0
 ·simp[h1]
 by_cases h2:name≥c.c2
 ·simp[h1,h2]
 by_cases h3:band<0
 ·simp[h1,h2,h3]
 by_cases h4:band≥c.c3
 ·simp[h1,h2,h3,h4]
 have h5:0≤name*c.c3:=Int.mul_nonneg (by omega) (by omega)
 have h6:=Int.mul_le_mul_of_nonneg_right (show name+1≤c.c2 by omega) (show 0≤c.c3 by omega)
 rw[Int.add_mul,Int.one_mul]at h6
 unfold shardsF at hb
 rw[i64w (name*c.c3) (by omega) (by omega),i64w _ (by omega) (by omega)]
 simp only[h1,h2,h3,h4,decide_false,Bool.false_eq_true,if_false,or_self]
def tshardF(c:Cf)(t:Tm):Int:=shardF c t.name (bandF c t.price)
include hc in
theorem D5l(t:Tm):FX 75 (c.ds++t.ds)=some [.int (tshardF c t)]:=by
 have h1:=D2x c hc t.price
 have h2:=C9d c hc t.name (bandF c t.price)
 unfold RU.Cf.ds at h1 h2⊢
 unfold Tm.ds
 dsimp only[List.cons_append,List.nil_append]at h1 h2⊢
 rw[C6t,h1]
 simp only[bindC,List.length_cons,List.length_nil,if_true,List.getD_cons_zero,h2]
 rfl
def slotF(c:Cf)(x gen n:Int):Int:=if x<0∨x≥allF c∨gen<1∨gen>c.c6∨n<0∨n>c.c5 then -1 else allF c*2+(x*c.c6+gen-1)*(c.c5+1)+n
include hc in
theorem D2h(x gen n:Int):FX 81 (c.ds++[.int x,.int gen,.int n])=some [.int (slotF c x gen n)]:=by
 have ha:=B2v c hc
 have hb:=all_b c hc
 obtain⟨_,_,_,_,_,⟨h3,h4⟩,h5,h6⟩:=hc
 unfold RU.Cf.ds at ha⊢
 dsimp only[List.cons_append,List.nil_append]
 rw[B5f,ha]
 unfold slotF
 simp only[D.toInt_int,bindC,List.length_cons,List.length_nil,if_true,List.getD_cons_zero]
 by_cases a1:x<0
 ·simp[a1]
 by_cases a2:x≥allF c
 ·simp[a1,a2]
 by_cases a3:gen<1
 ·simp[a1,a2,a3]
 by_cases a4:gen>c.c6
 ·simp[a1,a2,a3,a4]
 by_cases a5:n<0
 ·simp[a1,a2,a3,a4,a5]
 by_cases a6:n>c.c5
 ·simp[a1,a2,a3,a4,a5,a6]
 have b1:0≤x*c.c6:=Int.mul_nonneg (by omega) (by omega)
 have b2:x*c.c6≤24*15:=Int.mul_le_mul (by omega) (by omega) (by omega) (by omega)
 have b3:0≤(x*c.c6+gen-1)*(c.c5+1):=Int.mul_nonneg (by omega) (by omega)
 have b4:(x*c.c6+gen-1)*(c.c5+1)≤(24*15+15)*5:=Int.mul_le_mul (by omega) (by omega) (by omega) (by omega)
 rw[i64w (allF c*2) (by omega) (by omega),i64w (x*c.c6) (by omega) (by omega),i64w (x*c.c6+gen) (by omega) (by omega),i64w (x*c.c6+gen-1) (by omega) (by omega),i64w (c.c5+1) (by omega) (by omega),i64w ((x*c.c6+gen-1)*(c.c5+1)) (by omega) (by omega),i64w (allF c*2+(x*c.c6+gen-1)*(c.c5+1)) (by omega) (by omega),i64w _ (by omega) (by omega)]
 simp only[a1,a2,a3,a4,a5,a6,decide_false,Bool.false_eq_true,if_false,or_self]
end
def midF(a b:Int):Int:=a+(b-a)/2
theorem E3s(a b:Int)(h:a≤b)(h0:0≤a)(h1:b<65536):FX 128 [.int a,.int b]=some [.int (midF a b)]:=by
 rw[D0c,D4g]
 have hn:¬b<a:=by omega
 simp only[D.toInt_int,hn,decide_false,Bool.false_eq_true,if_false,bindC,List.length_cons,List.length_nil,if_true,List.getD_cons_zero]
 rw[i64w (b-a) (by omega) (by omega),Int.tdiv_eq_ediv_of_nonneg (by omega),i64w ((b-a)/2) (by omega) (by omega),i64w (a+(b-a)/2) (by omega) (by omega),i64w _ (by omega) (by omega),Int.sub_zero]
 rfl
def matchB(a b buy sell:Tm)(l o:Int):Int × Int:=
 if buy.side≠0∨sell.side≠1∨a.name≠b.name then(0,0)
 else if buy.price<sell.price∨(if o<l then o else l)<1∨(if o<l then o else l)<(if b.least>a.least then b.least else a.least)then(0,0)
 else(if o<l then o else l,midF sell.price buy.price)
def matchF(a b:Tm)(l o:Int):Int × Int:=if a.side=1 then matchB a b b a l o else matchB a b a b l o
theorem E0s(a b:Tm)(ha:a.sm)(hb:b.sm)(l o:Int):FX 120 (a.ds++b.ds++[.int l,.int o])=some [.int (matchF a b l o).1,.int (matchF a b l o).2]:=by
 have key:∀buy sell:Tm,buy.sm→sell.sm→A3z (.int a.name) (.int a.side) (.int a.price) (.int a.least) (.int a.till) (.int b.name) (.int b.side) (.int b.price) (.int b.least) (.int b.till) (.int l) (.int o) (buy.ds++sell.ds)=some [.int (matchB a b buy sell l o).1,.int (matchB a b buy sell l o).2]:=by
  intro buy sell h1 h2
  unfold Tm.ds matchB
  dsimp only[List.cons_append,List.nil_append]
  rw[B6k]
  have e:(if(decide ((D.int o).toInt<(D.int l).toInt))=true then D.int o else D.int l)=D.int (if o<l then o else l):=by
   simp only[D.toInt_int]
   by_cases h:o<l
   ·simp[h]
   ·simp[h]
  have e2:(if(decide ((D.int b.least).toInt>(D.int a.least).toInt))=true then D.int b.least else D.int a.least)=D.int (if b.least>a.least then b.least else a.least):=by
   simp only[D.toInt_int]
   by_cases h:b.least>a.least
   ·simp only[h,decide_true,if_true]
   ·simp only[h,decide_false,Bool.false_eq_true,if_false]
  dsimp only
  rw[e,e2]
  generalize (if o<l then o else l)=q
  generalize (if b.least>a.least then b.least else a.least)=m
  simp only[D.toInt_int]
  by_cases a1:buy.side=0
  ·by_cases a2:sell.side=1
   ·by_cases a3:a.name=b.name
    ·have a0:¬(buy.side≠0∨sell.side≠1∨a.name≠b.name):=by simp[a1,a2,a3]
     rw[if_neg a0]
     have s1:(buy.side != 0)=false:=by simp[a1]
     have s2:(sell.side != 1)=false:=by simp[a2]
     have s3:(a.name != b.name)=false:=by simp[a3]
     simp only[s1,s2,s3,Bool.false_eq_true,if_false]
     by_cases a4:buy.price<sell.price
     ·simp only[a4,decide_true,if_true,true_or]
     by_cases a5:q<1
     ·simp only[a4,a5,decide_true,decide_false,Bool.false_eq_true,if_false,if_true,true_or,or_true]
     by_cases a6:q<m
     ·simp only[a4,a5,a6,decide_true,decide_false,Bool.false_eq_true,if_false,if_true,or_true]
     have:=E3s sell.price buy.price (by omega) h2.2.2.1.1 h1.2.2.1.2
     simp only[a4,a5,a6,decide_false,Bool.false_eq_true,if_false,or_self,this,bindC,List.length_cons,List.length_nil,if_true,List.getD_cons_zero]
    ·simp[a1,a2,a3]
   ·simp[a1,a2]
  ·simp[a1]
 unfold matchF
 by_cases h:a.side=1
 ·have:=key b a hb ha
  unfold Tm.ds at this⊢
  dsimp only[List.cons_append,List.nil_append]at this⊢
  rw[B5i,if_pos h]
  simp only[D.toInt_int,h,beq_self_eq_true,if_true]at this⊢
  exact this
 ·have:=key a b ha hb
  unfold Tm.ds at this⊢
  dsimp only[List.cons_append,List.nil_append]at this⊢
  have h':(a.side == 1)=false:=by simp[h]
  rw[B5i,if_neg h]
  simp only[D.toInt_int,h',Bool.false_eq_true,if_false]
  exact this
end Go.Proofs.YtcgcpjajghdbpaaGreat.P
