import Derived.Test.YtcgcpjajghdbpaaGreatAllE
import Derived.Test.YtcgcpjajghdbpaaGreatDat
import Derived.Test.YtcgcpjajghdbpaaGreatFMath
namespace Go.Proofs.YtcgcpjajghdbpaaGreat
open Go.Proofs.YtcgcpjajghdbpaaGreat.Eng Go.Proofs.YtcgcpjajghdbpaaGreat.Dat
set_option linter.unusedVariables false
set_option linter.unusedSimpArgs false
set_option linter.unusedSectionVars false
def firstBad:List Nat→List Int→Nat→Option Nat
 |w::ws,v::vs,k=>if v<0∨((2 ^ w-1:Nat):Int)<v then some k else firstBad ws vs (k+1)
 |_,_,_=>none
def packI(ws:List Nat)(vs:List Int):Int × Int × Option Int:=
 if vs.length≠ws.length then(0,1,none)
 else match firstBad ws vs 0 with
  |some i=>(0,5,some (i:Int))
  |none=>(packN ws (vs.map Int.toNat),0,none)
theorem B5o:∀(ws:List Nat) (vs:List Int) (k j:Nat) (hw:k<ws.length) (hv:k<vs.length),
  firstBad (ws.drop k) (vs.drop k) j=if vs[k]<0∨((2 ^ ws[k]-1:Nat):Int)<vs[k]then some j else firstBad (ws.drop (k+1)) (vs.drop (k+1)) (j+1):=by
 intro ws vs k j hw hv
 rw[List.drop_eq_getElem_cons hw,List.drop_eq_getElem_cons hv]
 rfl
theorem C7w(ws:List Nat)(vs:List Int)(j:Nat):firstBad (ws.drop ws.length) vs j=none:=by
 rw[List.drop_length]
 rfl
theorem E2n(v k:Nat)(hk:k≤64)(h:v*2 ^ k<18446744073709551616):IntKind.u64.wrap ((v:Int)*2 ^ min k 64)=((v*2 ^ k:Nat):Int):=by
 rw[Nat.min_eq_left hk]
 have e:((v:Int)*2 ^ k)=((v*2 ^ k:Nat):Int):=by simp
 rw[e,IntWalk.u64_in _ (by omega)]
theorem E4e(a v k:Nat)(hk:k≤64)(ha:a<2 ^ k)(h:v*2 ^ k<18446744073709551616)(ha2:a<18446744073709551616):
  bits BinOp.or IntKind.u64 (a:Int) (IntKind.u64.wrap ((v:Int)*2 ^ min k 64))=((a+v*2 ^ k:Nat):Int):=by
 rw[E2n v k hk h,u64_or_nat _ _ ha2 h,E3w a v k ha]
theorem E1q{ws:List Nat}(hg:GoodW ws)(k v:Nat)(hk:k<ws.length)(hv:v≤2 ^ ws[k]-1):v*2 ^ lowN ws k<18446744073709551616:=by
 have h1:=B4n hg k hk
 have h2:0<2 ^ ws[k]:=Nat.two_pow_pos _
 have h3:v*2 ^ lowN ws k<2 ^ ws[k]*2 ^ lowN ws k:=Nat.mul_lt_mul_of_pos_right (by omega) (Nat.two_pow_pos _)
 rw[←Nat.pow_add]at h3
 have h4:2 ^ (ws[k]+lowN ws k)≤2 ^ 64:=C2f _ _ (by omega)
 omega
theorem C4t:∀{ws:List Nat} {vs:List Nat} (k:Nat) (hw:k<ws.length) (hv:k<vs.length),Fits (ws.take k) (vs.take k)→vs[k]<2 ^ ws[k]→Fits (ws.take (k+1)) (vs.take (k+1))
 |w::ws,v::vs,0,_,_,_,h=>by simpa[Fits]using h
 |w::ws,v::vs,k+1,hw,hv,hf,h=>by
  simp only[List.take_succ_cons,Fits]at hf⊢
  exact⟨hf.1,C4t k (by simpa using hw) (by simpa using hv) hf.2 (by simpa using h)⟩
def PackMid(ws:List Nat)(vs:List Int)(k:Nat):Prop:=
 firstBad ws vs 0=firstBad (ws.drop k) (vs.drop k) k∧Fits (ws.take k) ((vs.map Int.toNat).take k)
theorem C9c(ws:List Nat)(vs:List Int):PackMid ws vs 0:=⟨by simp,trivial⟩
theorem C9i{ws:List Nat}{vs:List Int}{k:Nat}(h:PackMid ws vs k)(hw:k<ws.length)(hv:k<vs.length)(h0:0≤vs[k])(h1:vs[k]≤((2 ^ ws[k]-1:Nat):Int)):PackMid ws vs (k+1):=by
 refine⟨?_,?_⟩
 ·rw[h.1,B5o ws vs k k hw hv,if_neg (by omega)]
 ·refine C4t k hw (by simpa using hv) h.2 ?_
  have h2:0<2 ^ ws[k]:=Nat.two_pow_pos _
  rw[List.getElem_map]
  omega
theorem B9w{ws:List Nat}{vs:List Int}{k:Nat}(hl:vs.length=ws.length)(h:PackMid ws vs k)(hw:k<ws.length)(hv:k<vs.length)(hb:vs[k]<0∨((2 ^ ws[k]-1:Nat):Int)<vs[k]):packI ws vs=(0,5,some (k:Int)):=by
 unfold packI
 rw[if_neg (by omega),h.1,B5o ws vs k k hw hv,if_pos hb]
theorem D0a{ws:List Nat}{vs:List Int}{k:Nat}(hl:vs.length=ws.length)(h:PackMid ws vs k)(hk:k=ws.length):packI ws vs=((packTo ws (vs.map Int.toNat) k:Int),0,none):=by
 unfold packI
 rw[if_neg (by omega),h.1]
 subst hk
 rw[C7w,D3q (by simpa using hl)]
def mostN(ws:List Nat)(i:Int):Nat:=if 0≤i∧i<ws.length then 2 ^ ws.getD i.toNat 0-1 else 0
theorem D9m(z:Nat)(hz:z≤32):IntKind.u64.wrap (IntKind.u64.wrap ((2:Int) ^ z)-1)=((2 ^ z-1:Nat):Int):=by
 have h1:2 ^ z≤2 ^ 32:=C2f z 32 hz
 have h2:0<2 ^ z:=Nat.two_pow_pos z
 have e:((2:Int) ^ z)=((2 ^ z:Nat):Int):=by simp
 rw[e,IntWalk.u64_in ((2 ^ z:Nat):Int) (by omega),IntWalk.u64_in _ (by omega)]
 omega
theorem C8r{ws:List Nat}{i:Nat}(hi:i<ws.length):mostN ws (i:Int)=2 ^ ws.getD i 0-1:=by
 unfold mostN
 rw[if_pos (by omega),Int.toNat_natCast]
theorem E3c{ws:List Nat}(hg:GoodW ws)(i:Nat):ws.getD i 0≤32:=by
 rw[List.getD_eq_getElem?_getD]
 rcases Nat.lt_or_ge i ws.length with h|h
 ·rw[List.getElem?_eq_getElem h]
  exact(B4n hg i h).2.1
 ·rw[List.getElem?_eq_none h]
  exact Nat.zero_le _
theorem E3m(x i:Nat)(ws:List Nat)(hx:x<18446744073709551616)(hi:i<ws.length)(hg:GoodW ws):
  IntKind.i64.wrap (bits BinOp.and IntKind.u64 ((x:Int)/2 ^ min (lowN ws i) 64) (mostN ws (i:Int):Int))=(getN ws x i:Int):=by
 have h1:=B4d hg i
 have h2:=E3c hg i
 have h3:2 ^ ws.getD i 0≤2 ^ 32:=C2f _ 32 h2
 have h4:0<2 ^ ws.getD i 0:=Nat.two_pow_pos _
 rw[Nat.min_eq_left h1,C8r hi]
 have e:((x:Int)/2 ^ lowN ws i)=((x/2 ^ lowN ws i:Nat):Int):=by simp
 have hd:x/2 ^ lowN ws i≤x:=Nat.div_le_self _ _
 rw[e,u64_and_nat _ _ (by omega) (by omega),Nat.and_two_pow_sub_one_eq_mod]
 have h5:x/2 ^ lowN ws i%2 ^ ws.getD i 0<2 ^ ws.getD i 0:=Nat.mod_lt _ h4
 rw[IntWalk.i64_in _ (by omega)]
 rfl
namespace FDat
def wsD(ws:List Nat):D:=.agg (ws.map fun(w:Nat)=>D.int (w:Int))
def vsD(vs:List Int):D:=.agg (vs.map D.int)
def code(c:Int):D:=.iface 94 (.int c)
def errAt(i:Int)(c:Int):D:=.iface 136 (.agg [.int i,code c])
theorem at_eq(x y:D)(h:y.isNil=false):FX 29 [x,y]=some [.iface 136 (.agg [x,y])]:=by
 rw[C2u];simp[h]
section
variable(ws:List Nat)(hg:GoodW ws)
theorem A8f:(ws.map fun(w:Nat)=>D.int (w:Int)).length=ws.length:=by simp
theorem C7n{i:Nat}(h:i<ws.length):(ws.map fun(w:Nat)=>D.int (w:Int)).getD i D.nil=.int (ws[i]:Int):=by
 rw[List.getD_eq_getElem?_getD,List.getElem?_map,List.getElem?_eq_getElem h];rfl
include hg in
theorem small:ws.length≤64:=D0g hg
theorem C3p(i:Nat)(h:i≤1000):IntKind.i64.wrap ((i:Int)+1)=((i+1:Nat):Int):=by rw[i64w _ (by omega) (by omega)];omega
include hg in
theorem C6z(n:Nat)(hn:n≤ws.length):∀(k i:Nat),i+k=n→A2d (wsD ws) (.int n) [.int (lowN ws i),.int i]=some [.int (lowN ws n)]
 |0,i,h=>by
  have hi:i=n:=by omega
  subst hi
  have hlen:(((ws.map fun(w:Nat)=>D.int (w:Int)).drop ((0:Int)).toNat).take ((((i:Nat):Int)).toNat-((0:Int)).toNat)).length=i:=by simp;omega
  have hno:¬(i:Int)<((((((ws.map fun(w:Nat)=>D.int (w:Int)).drop ((0:Int)).toNat).take ((((i:Nat):Int)).toNat-((0:Int)).toNat))).length:Nat):Int):=by rw[hlen];omega
  rw[A5b]
  simp only[wsD,D.toL_agg,D.toInt_int,hno,decide_false,Bool.false_eq_true,if_false]
 |k+1,i,h=>by
  have hs:=small ws hg
  have hlen:(((ws.map fun(w:Nat)=>D.int (w:Int)).drop ((0:Int)).toNat).take ((((n:Nat):Int)).toNat-((0:Int)).toNat)).length=n:=by simp;omega
  have h1:(i:Int)<((((((ws.map fun(w:Nat)=>D.int (w:Int)).drop ((0:Int)).toNat).take ((((n:Nat):Int)).toNat-((0:Int)).toNat))).length:Nat):Int):=by rw[hlen];omega
  have h2:(i:Int)≥0:=by omega
  have hge:(((ws.map fun(w:Nat)=>D.int (w:Int)).drop ((0:Int)).toNat).take ((((n:Nat):Int)).toNat-((0:Int)).toNat)).getD i D.nil=.int (ws[i]'(by omega):Int):=by
   have:(((ws.map fun(w:Nat)=>D.int (w:Int)).drop ((0:Int)).toNat).take ((((n:Nat):Int)).toNat-((0:Int)).toNat)).getD i D.nil=(ws.map fun(w:Nat)=>D.int (w:Int)).getD i D.nil:=by
    simp only[List.getD_eq_getElem?_getD]
    rw[List.getElem?_take,if_pos (by simp;omega)]
    simp
   rw[this,C7n ws (by omega)]
  have hl:=B4d hg (i+1)
  have hsum:IntKind.i64.wrap ((lowN ws i:Int)+(ws[i]'(by omega):Int))=(lowN ws (i+1):Int):=by
   rw[B1l ws i (by omega)]at hl⊢
   rw[i64w _ (by omega) (by omega)];omega
  have ih:=C6z n hn k (i+1) (by omega)
  rw[A5b]
  simp only[wsD,D.toL_agg,D.toInt_int,h1,h2,decide_true,if_true,Int.toNat_natCast (n:=i),hsum,C3p i (by omega)]at hge⊢
  rw[hge]
  simp only[D.toInt_int,hsum]
  exact ih
include hg in
theorem D5a(i:Nat)(hi:i≤ws.length):FX 125 [wsD ws,.int i]=some [.int (lowN ws i)]:=by
 have h:=C6z ws hg i hi i 0 (by omega)
 have h1:(0:Int)≤(i:Int):=by omega
 have h2:(i:Int)≤((ws.map fun(w:Nat)=>D.int (w:Int)).length:Int):=by rw[A8f];omega
 rw[B6z]
 simp only[wsD,D.toInt_int,D.toL_agg,h1,h2,decide_true,if_true,Int.le_refl]
 exact h
theorem E2s(z:Nat)(hz:z≤32):arF .shl .u64 1 (z:Int)=IntKind.u64.wrap ((2:Int) ^ z):=by
 have:min z 64=z:=by omega
 simp[arF,IntKind.bits,this]
include hg in
theorem D2z(i:Nat)(hi:i<ws.length):FX 126 [wsD ws,.int i]=some [.int ((2 ^ ws[i]-1:Nat):Int)]:=by
 have h1:¬(i:Int)<0:=by omega
 have h2:¬(i:Int)≥((ws.map fun(w:Nat)=>D.int (w:Int)).length:Int):=by rw[A8f];omega
 have h3:(i:Int)≥0:=by omega
 have h4:(i:Int)<((ws.map fun(w:Nat)=>D.int (w:Int)).length:Int):=by rw[A8f];omega
 have h5:((ws[i]:Nat):Int)≥0:=by omega
 have hw:=(B4n hg i hi).2.1
 rw[B5r]
 simp only[wsD,D.toInt_int,D.toL_agg,h1,h2,h3,h4,decide_false,decide_true,Bool.false_eq_true,if_false,if_true,Int.toNat_natCast,C7n ws hi,h5]
 rw[E2s _ hw,D9m _ hw]
theorem E2z(x k:Nat)(hk:k≤64):arF .shr .u64 (x:Int) (k:Int)=((x/2 ^ k:Nat):Int):=by
 have h1:min k 64=k:=by omega
 simp only[arF,IntKind.bits,Int.toNat_natCast,h1]
 rw[Int.fdiv_eq_ediv_of_nonneg _ (by exact Int.le_of_lt (Int.pow_pos (by decide)))]
 simp
def getZ(x:Nat)(i:Int):Int:=if i<0∨(ws.length:Int)≤i then 0 else getN ws x i.toNat
include hg in
theorem C7h(x:Nat)(hx:x<18446744073709551616)(i:Int):FX 99 [wsD ws,.int x,.int i]=some [.int (getZ ws x i)]:=by
 rw[B7c]
 unfold getZ
 by_cases h1:i<0
 ·simp only[D.toInt_int,h1,decide_true,if_true,true_or]
 by_cases h2:i≥(ws.length:Int)
 ·simp only[wsD,D.toInt_int,D.toL_agg,A8f,h1,h2,decide_true,decide_false,Bool.false_eq_true,if_true,if_false,or_true]
 obtain⟨j,rfl⟩:∃j:Nat,i=j:=⟨i.toNat,by omega⟩
 have hj:j<ws.length:=by omega
 have hl:=D5a ws hg j (by omega)
 have hm:=D2z ws hg j hj
 have hb:=B4d hg j
 have h3:(lowN ws j:Int)≥0:=by omega
 have hno:¬((j:Int)<0∨(ws.length:Int)≤(j:Int)):=by omega
 rw[if_neg hno]
 simp only[wsD]at hl hm
 simp only[wsD,D.toInt_int,D.toL_agg,A8f,h1,h2,decide_false,Bool.false_eq_true,if_false,hl,hm,bindC,List.length_cons,List.length_nil,if_true,List.getD_cons_zero,h3,decide_true]
 rw[E2z x _ hb]
 have:=E3m x j ws hx hj hg
 rw[Nat.min_eq_left hb,C8r hj]at this
 have e:((x:Int)/2 ^ lowN ws j)=((x/2 ^ lowN ws j:Nat):Int):=by simp
 rw[e,List.getD_eq_getElem?_getD,List.getElem?_eq_getElem hj]at this
 simp only[Int.toNat_natCast]
 exact congrArg (fun z=>some [D.int z]) this
include hg in
theorem B0o:∀(k i:Nat),i+k=ws.length→A5j (wsD ws) [.int (lowN ws i),.int i]=some [wsD ws,.nil]
 |0,i,h=>by
  have hs:=small ws hg
  have hno:¬(i:Int)<((ws.map fun(w:Nat)=>D.int (w:Int)).length:Int):=by rw[A8f];omega
  have hle:((ws.map fun(w:Nat)=>D.int (w:Int)).length:Int)≤17592186044416:=by rw[A8f];omega
  rw[B0t]
  simp only[wsD,D.toL_agg,D.toInt_int,hno,hle,decide_false,decide_true,Bool.false_eq_true,if_false,if_true]
 |k+1,i,h=>by
  have hs:=small ws hg
  have hi:i<ws.length:=by omega
  have h1:(i:Int)<((ws.map fun(w:Nat)=>D.int (w:Int)).length:Int):=by rw[A8f];omega
  have h2:(i:Int)≥0:=by omega
  obtain⟨g1,g2,g3⟩:=B4n hg i hi
  have hsum:IntKind.i64.wrap ((lowN ws i:Int)+(ws[i]:Int))=(lowN ws (i+1):Int):=by
   rw[B1l ws i hi,i64w _ (by omega) (by omega)];omega
  have h3:¬((ws[i]:Nat):Int)<1:=by omega
  have h4:¬((ws[i]:Nat):Int)>32:=by omega
  have h5:¬((lowN ws (i+1):Nat):Int)>64:=by rw[B1l ws i hi];omega
  have ih:=B0o k (i+1) (by omega)
  rw[B0t]
  simp only[wsD,D.toL_agg,D.toInt_int,h1,h2,decide_true,decide_false,if_true,if_false,Int.toNat_natCast,C7n ws hi,hsum,h3,h4,h5,Bool.false_eq_true,C3p i (by omega)]
  exact ih
include hg in
theorem new_eq:FX 124 [wsD ws]=some [wsD ws,.nil]:=by
 rw[D1l]
 exact B0o ws hg ws.length 0 (by omega)
theorem E4f{vs:List Int}{i:Nat}(h:i<vs.length):(vs.map D.int).getD i D.nil=.int vs[i]:=by
 rw[List.getD_eq_getElem?_getD,List.getElem?_map,List.getElem?_eq_getElem h];rfl
theorem u64_in{x:Int}(h0:0≤x)(h1:x<18446744073709551616):IntKind.u64.wrap x=x:=by
 simp[IntKind.wrap,IntKind.bits,IntKind.signed];omega
theorem D9v(v k:Nat)(hk:k≤64):arF .shl .u64 (v:Int) (k:Int)=IntKind.u64.wrap ((v:Int)*2 ^ min k 64):=by
 simp[arF,IntKind.bits]
def packR(vs:List Int):List D:=match packI ws vs with
 |(w,c,p)=>[.int w,if c=0 then .nil else match p with|some i=>errAt i c|none=>code c]
theorem C4o{vs:List Int}{k:Nat}(h:packI ws vs=(0,5,some (k:Int))):packR ws vs=[.int 0,errAt k 5]:=by unfold packR;rw[h];rfl
include hg in
theorem C4z(vs:List Int)(hl:vs.length=ws.length)(hz:∀z ∈ vs,z≤9223372036854775807):∀(d k:Nat),k+d=vs.length→PackMid ws vs k→
  A2b (wsD ws) (vsD vs) [.int (packTo ws (vs.map Int.toNat) k),.int k]=some (packR ws vs)
 |0,k,h,hm=>by
  have hno:¬(k:Int)<((vs.map D.int).length:Int):=by simp;omega
  have he:=D0a hl hm (by omega)
  rw[A4k]
  simp only[vsD,D.toL_agg,D.toInt_int,hno,decide_false,Bool.false_eq_true,if_false]
  unfold packR
  rw[he];rfl
 |d+1,k,h,hm=>by
  have hs:=small ws hg
  have hkv:k<vs.length:=by omega
  have hkw:k<ws.length:=by omega
  have h1:(k:Int)<((vs.map D.int).length:Int):=by simp;omega
  have h2:(k:Int)≥0:=by omega
  have hcode:(D.iface 94 (.int 5)).isNil=false:=rfl
  have hzk:=hz vs[k] (List.getElem_mem hkv)
  rw[A4k]
  simp only[vsD,D.toL_agg,D.toInt_int,h1,h2,decide_true,if_true,Int.toNat_natCast,E4f hkv]
  by_cases h3:vs[k]<0
  ·rw[C4o ws (B9w hl hm hkw hkv (.inl h3))]
   simp only[h3,decide_true,if_true,at_eq _ _ hcode,bindC,List.length_cons,List.length_nil,List.getD_cons_zero]
   rfl
  ·have hmo:=D2z ws hg k hkw
   have hlo:=D5a ws hg k (by omega)
   simp only[h3,decide_false,Bool.false_eq_true,if_false,hmo,bindC,List.length_cons,List.length_nil,List.getD_cons_zero,if_true,D.toInt_int]
   rw[u64_in (by omega) (by omega)]
   by_cases h4:vs[k]>((2 ^ ws[k]-1:Nat):Int)
   ·rw[C4o ws (B9w hl hm hkw hkv (.inr h4))]
    simp only[h4,decide_true,if_true,at_eq _ _ hcode,List.length_cons,List.length_nil,List.getD_cons_zero]
    rfl
   ·have h5:(lowN ws k:Int)≥0:=by omega
    have hb:=B4d hg k
    obtain⟨v,hv⟩:∃v:Nat,vs[k]=v:=⟨vs[k].toNat,by omega⟩
    have hle:v≤2 ^ ws[k]-1:=by omega
    have h4':¬(v:Int)>((2 ^ ws[k]-1:Nat):Int):=by rw[←hv];exact h4
    have hpl:=E1q hg k v hkw hle
    have hmid:=C9i hm hkw hkv (by omega) (by omega)
    have hlt:=D6i k hm.2
    have hlt2:packTo ws (vs.map Int.toNat) k<18446744073709551616:=Nat.lt_of_lt_of_le hlt (by
     have:=C2f (lowN ws k) 64 hb
     exact this)
    have hor:=E4e (packTo ws (vs.map Int.toNat) k) v (lowN ws k) hb hlt hpl hlt2
    have hsucc:packTo ws (vs.map Int.toNat) (k+1)=packTo ws (vs.map Int.toNat) k+v*2 ^ lowN ws k:=by
     rw[B9j ws (vs.map Int.toNat) k hkw (by simpa using hkv)]
     simp[hv]
    have ih:=C4z vs hl hz d (k+1) (by omega) hmid
    rw[hsucc]at ih
    simp only[hv,h4',decide_false,Bool.false_eq_true,if_false,hlo,List.length_cons,List.length_nil,List.getD_cons_zero,D.toInt_int,h5,decide_true,if_true,hv,C3p k (by omega)]
    rw[D9v v _ hb]
    have hor':arF .or .u64 (packTo ws (vs.map Int.toNat) k:Int) (IntKind.u64.wrap ((v:Int)*2 ^ min (lowN ws k) 64))=((packTo ws (vs.map Int.toNat) k+v*2 ^ lowN ws k:Nat):Int):=hor
    rw[hor']
    exact ih
include hg in
theorem C4k(vs:List Int)(hz:∀z ∈ vs,z≤9223372036854775807):FX 106 [wsD ws,vsD vs]=some (packR ws vs):=by
 rw[B5s]
 by_cases hl:vs.length=ws.length
 ·have h1:(((vs.map D.int).length:Int) != ((ws.map fun(w:Nat)=>D.int (w:Int)).length:Int))=false:=by simp[hl]
  have:=C4z ws hg vs hl hz vs.length 0 (by omega) (C9c ws vs)
  simp only[vsD,wsD,D.toL_agg,h1,Bool.false_eq_true,if_false]at this⊢
  exact this
 ·have h1:(((vs.map D.int).length:Int) != ((ws.map fun(w:Nat)=>D.int (w:Int)).length:Int))=true:=by simp;omega
  simp only[vsD,wsD,D.toL_agg,h1,if_true]
  unfold packR packI
  rw[if_pos hl]
  rfl
end
end FDat
end Go.Proofs.YtcgcpjajghdbpaaGreat
