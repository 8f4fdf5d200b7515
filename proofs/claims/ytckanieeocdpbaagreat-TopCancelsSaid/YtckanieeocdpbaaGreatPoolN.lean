import Derived.Test.YtckanieeocdpbaaGreatEngX
import Derived.Laws.BitsAllLaws
import Derived.Test.YtckanieeocdpbaaGreatAllE
open Bool renaming false_eq_true→a8,not_false→a9,not_true→aA,true_or→aB
open List renaming length_cons→aC,length_nil→aD,getD_cons_zero→aE,getD_eq_getElem?_getD→aF,getElem?_eq_getElem→aG,cons_append→aH,nil_append→aI,getD_cons_succ→aJ,length_map→aK,length_append→aL,getElem?_map→aM,range→aN,getElem?_eq_none→aO,getElem_mem→aP,drop_eq_getElem_cons→aQ,take_succ_eq_append_getElem→aS,getElem?_append_left→aT,mem_cons→aU,not_mem_nil→aV,getElem_cons_succ→aW,map_set→aX,range_succ→aY,take_succ_cons→aZ,take_length→b7,ext_getElem→b8,sum_append→b9,sum_cons→bA,map_cons→bB,getD→bC,set_set→bD
open And renaming intro→bE
open Int renaming toNat_natCast→bF,toNat→bG,mul_nonneg→bH,tdiv_eq_ediv_of_nonneg→bI,mul_le_mul_of_nonneg_right→bJ,mul_le_mul→bK,le_refl→bL,add_mul→bM,one_mul→bN
open Ne renaming symm→bO
open Nat renaming two_pow_pos→bP,le_succ→bQ,pow_le_pow_right→bR,le_trans→bS,lt_or_ge→bT,min_eq_left→bU,pow_add→bV,lt_of_lt_of_le→bW,add_comm→bX,mul_le_mul→bY,mul_assoc→bZ,mul_add→c8,le_refl→c9,mod_lt→cA
open Go.IntKind renaming i64→cB,u64→cC,bits→cD,signed→cE,wrap→cF
open Decidable renaming em→cG
namespace Go.Proofs.YtckanieeocdpbaaGreat.Dat
open Go.Proofs.YtckanieeocdpbaaGreat.Eng
set_option linter.unusedVariables false
set_option linter.unusedSimpArgs false
theorem wrap_small(x:Int)(h1:-9223372036854775808≤x)(h2:x≤9223372036854775807):cB.wrap x=x:=by
 simp[cF,cD,cE];omega
theorem A0v(x:Int)(h1:-9223372036854775808≤x)(h2:x≤9223372036854775807):cB.wrap x=x:=by
 simp[cF,cD,cE];omega
end Go.Proofs.YtckanieeocdpbaaGreat.Dat
namespace Go.Proofs.YtckanieeocdpbaaGreat
set_option linter.unusedVariables false
set_option linter.unusedSimpArgs false
def B8k(ws:List Nat):Prop:=(∀w ∈ ws,1≤w∧w≤32)∧ws.sum≤64
def A3w(ws:List Nat)(i:Nat):Nat:=(ws.take i).sum
def E0v(ws:List Nat)(x i:Nat):Nat:=x/2 ^ A3w ws i%2 ^ ws.getD i 0
def B0w:List Nat→List Nat→Nat
 |w::ws,v::vs=>v+2 ^ w*B0w ws vs
 |_,_=>0
def B7c:List Nat→Nat→List Nat
 |[],_=>[]
 |w::ws,x=>x%2 ^ w::B7c ws (x/2 ^ w)
def Fits:List Nat→List Nat→Prop
 |[],[]=>True
 |w::ws,v::vs=>v<2 ^ w∧Fits ws vs
 |_,_=>False
theorem C9c:∀(ws:List Nat) (x:Nat),(B7c ws x).length=ws.length
 |[],_=>rfl
 |w::ws,x=>by simp[B7c,C9c ws]
theorem E6j:∀{ws vs:List Nat},Fits ws vs→B0w ws vs<2 ^ ws.sum
 |[],[],_=>by simp[B0w]
 |w::ws,v::vs,h=>by
  simp only[B0w,bA,bV]
  have h1:=E6j h.2
  have h2:=h.1
  calc v+2 ^ w*B0w ws vs<2 ^ w+2 ^ w*B0w ws vs:=by omega
   _=2 ^ w*(B0w ws vs+1):=by rw[c8,Nat.mul_one,bX]
   _≤2 ^ w*2 ^ ws.sum:=Nat.mul_le_mul_left _ h1
theorem D8v:∀{ws vs:List Nat},Fits ws vs→B7c ws (B0w ws vs)=vs
 |[],[],_=>rfl
 |w::ws,v::vs,h=>by
  have h1:=D8v h.2
  have h2:=h.1
  simp only[B0w,B7c]
  rw[Nat.add_mul_mod_self_left,Nat.mod_eq_of_lt h2,Nat.add_mul_div_left _ _ (bP w),Nat.div_eq_of_lt h2,Nat.zero_add,h1]
theorem E8v(w:Nat)(ws:List Nat)(i:Nat):A3w (w::ws) (i+1)=w+A3w ws i:=by simp[A3w]
theorem C6g(ws:List Nat)(i:Nat)(h:i<ws.length):A3w ws (i+1)=A3w ws i+ws[i]:=by
 unfold A3w
 rw[aS h,b9]
 simp
theorem F8w(ws:List Nat)(i:Nat):A3w ws i≤ws.sum:=by
 unfold A3w
 have h:ws.sum=(ws.take i).sum+(ws.drop i).sum:=by rw[←b9,List.take_append_drop]
 omega
theorem D8s:∀(ws:List Nat) (x i:Nat) (h:i<ws.length),E0v ws x i=(B7c ws x)[i]'(by rw[C9c];exact h)
 |w::ws,x,0,_=>by simp[E0v,B7c,A3w]
 |w::ws,x,i+1,h=>by
  have hi:i<ws.length:=by simpa using h
  have:=D8s ws (x/2 ^ w) i hi
  simp only[B7c,aW]
  rw[←this]
  unfold E0v
  rw[E8v,bV,Nat.div_div_eq_div_mul]
  rfl
def A9c(ws vs:List Nat)(k:Nat):Nat:=B0w (ws.take k) (vs.take k)
theorem G7f{ws vs:List Nat}(k:Nat)(h:Fits (ws.take k) (vs.take k)):A9c ws vs k<2 ^ A3w ws k:=E6j h
theorem D8y:∀(ws vs:List Nat) (k:Nat) (hw:k<ws.length) (hv:k<vs.length),A9c ws vs (k+1)=A9c ws vs k+vs[k]*2 ^ A3w ws k
 |w::ws,v::vs,0,_,_=>by simp[A9c,B0w,A3w]
 |w::ws,v::vs,k+1,hw,hv=>by
  have ih:=D8y ws vs k (by simpa using hw) (by simpa using hv)
  unfold A9c at ih⊢
  simp only[aZ,B0w,aW]at ih⊢
  rw[ih,E8v,bV,c8,←Nat.add_assoc]
  congr 1
  rw[←bZ,←bZ,Nat.mul_comm (2 ^ w)]
theorem G3e{ws vs:List Nat}(h:vs.length=ws.length):A9c ws vs ws.length=B0w ws vs:=by
 unfold A9c
 rw[b7,←h,b7]
theorem H6y(a v k:Nat)(h:a<2 ^ k):a ||| v*2 ^ k=a+v*2 ^ k:=by
 rw[Nat.or_comm,nat_join k _ _ (Nat.mul_mod_left _ _) h,bX]
theorem E2t(n m:Nat)(h:n≤m):2 ^ n≤2 ^ m:=bR (by decide) h
theorem D1x{ws:List Nat}(h:B8k ws)(i:Nat)(hi:i<ws.length):1≤ws[i]∧ws[i]≤32∧A3w ws i+ws[i]≤64:=by
 have h1:=h.1 _ (aP hi)
 have h2:=C6g ws i hi
 have h3:=F8w ws (i+1)
 have h4:=h.2
 omega
theorem D1q{ws:List Nat}(h:B8k ws)(i:Nat):A3w ws i≤64:=bS (F8w ws i) h.2
theorem F7q{ws:List Nat}(h:B8k ws):ws.length≤64:=by
 have:∀l:List Nat,(∀w ∈ l,1≤w∧w≤32)→l.length≤l.sum:=by
  intro l
  induction l with
  |nil=>intro _;simp
  |cons a r ih=>
   intro hl
   have h1:=ih (fun w hw=>hl w (List.mem_cons_of_mem _ hw))
   have h2:=hl a List.mem_cons_self
   simp only[aC,bA]
   omega
 exact bS (this ws h.1) h.2
end Go.Proofs.YtckanieeocdpbaaGreat
namespace Go.Proofs.YtckanieeocdpbaaGreat
open Go.Proofs.YtckanieeocdpbaaGreat.Eng Go.Proofs.YtckanieeocdpbaaGreat.Dat
set_option linter.unusedVariables false
set_option linter.unusedSimpArgs false
set_option linter.unusedSectionVars false
def A1l:List Nat→List Int→Nat→Option Nat
 |w::ws,v::vs,k=>if v<0∨((2 ^ w-1:Nat):Int)<v then some k else A1l ws vs (k+1)
 |_,_,_=>none
def A7i(ws:List Nat)(vs:List Int):Int × Int × Option Int:=
 if vs.length≠ws.length then(0,1,none)
 else match A1l ws vs 0 with
  |some i=>(0,5,some (i:Int))
  |none=>(B0w ws (vs.map bG),0,none)
theorem D3g:∀(ws:List Nat) (vs:List Int) (k j:Nat) (hw:k<ws.length) (hv:k<vs.length),
  A1l (ws.drop k) (vs.drop k) j=if vs[k]<0∨((2 ^ ws[k]-1:Nat):Int)<vs[k]then some j else A1l (ws.drop (k+1)) (vs.drop (k+1)) (j+1):=by
 intro ws vs k j hw hv
 rw[aQ hw,aQ hv]
 rfl
theorem F4x(ws:List Nat)(vs:List Int)(j:Nat):A1l (ws.drop ws.length) vs j=none:=by
 rw[List.drop_length]
 rfl
theorem H5q(v k:Nat)(hk:k≤64)(h:v*2 ^ k<18446744073709551616):cC.wrap ((v:Int)*2 ^ min k 64)=((v*2 ^ k:Nat):Int):=by
 rw[bU hk]
 have e:((v:Int)*2 ^ k)=((v*2 ^ k:Nat):Int):=by simp
 rw[e,IntWalk.u64_in _ (by omega)]
theorem or_val(a v k:Nat)(hk:k≤64)(ha:a<2 ^ k)(h:v*2 ^ k<18446744073709551616)(ha2:a<18446744073709551616):
  bits BinOp.or cC (a:Int) (cC.wrap ((v:Int)*2 ^ min k 64))=((a+v*2 ^ k:Nat):Int):=by
 rw[H5q v k hk h,u64_or_nat _ _ ha2 h,H6y a v k ha]
theorem H5f{ws:List Nat}(hg:B8k ws)(k v:Nat)(hk:k<ws.length)(hv:v≤2 ^ ws[k]-1):v*2 ^ A3w ws k<18446744073709551616:=by
 have h1:=D1x hg k hk
 have h2:0<2 ^ ws[k]:=bP _
 have h3:v*2 ^ A3w ws k<2 ^ ws[k]*2 ^ A3w ws k:=Nat.mul_lt_mul_of_pos_right (by omega) (bP _)
 rw[←bV]at h3
 have h4:2 ^ (ws[k]+A3w ws k)≤2 ^ 64:=E2t _ _ (by omega)
 omega
theorem E8g:∀{ws:List Nat} {vs:List Nat} (k:Nat) (hw:k<ws.length) (hv:k<vs.length),Fits (ws.take k) (vs.take k)→vs[k]<2 ^ ws[k]→Fits (ws.take (k+1)) (vs.take (k+1))
 |w::ws,v::vs,0,_,_,_,h=>by simpa[Fits]using h
 |w::ws,v::vs,k+1,hw,hv,hf,h=>by
  simp only[aZ,Fits]at hf⊢
  exact⟨hf.1,E8g k (by simpa using hw) (by simpa using hv) hf.2 (by simpa using h)⟩
def C3j(ws:List Nat)(vs:List Int)(k:Nat):Prop:=
 A1l ws vs 0=A1l (ws.drop k) (vs.drop k) k∧Fits (ws.take k) ((vs.map bG).take k)
theorem F3c(ws:List Nat)(vs:List Int):C3j ws vs 0:=⟨by simp,trivial⟩
theorem F5f{ws:List Nat}{vs:List Int}{k:Nat}(h:C3j ws vs k)(hw:k<ws.length)(hv:k<vs.length)(h0:0≤vs[k])(h1:vs[k]≤((2 ^ ws[k]-1:Nat):Int)):C3j ws vs (k+1):=by
 refine⟨?_,?_⟩
 ·rw[h.1,D3g ws vs k k hw hv,Q0 (by omega)]
 ·refine E8g k hw (by simpa using hv) h.2 ?_
  have h2:0<2 ^ ws[k]:=bP _
  rw[List.getElem_map]
  omega
theorem D8m{ws:List Nat}{vs:List Int}{k:Nat}(hl:vs.length=ws.length)(h:C3j ws vs k)(hw:k<ws.length)(hv:k<vs.length)(hb:vs[k]<0∨((2 ^ ws[k]-1:Nat):Int)<vs[k]):A7i ws vs=(0,5,some (k:Int)):=by
 unfold A7i
 rw[Q0 (by omega),h.1,D3g ws vs k k hw hv,Q3 hb]
theorem F7e{ws:List Nat}{vs:List Int}{k:Nat}(hl:vs.length=ws.length)(h:C3j ws vs k)(hk:k=ws.length):A7i ws vs=((A9c ws (vs.map bG) k:Int),0,none):=by
 unfold A7i
 rw[Q0 (by omega),h.1]
 subst hk
 rw[F4x,G3e (by simpa using hl)]
def G0h(ws:List Nat)(i:Int):Nat:=if 0≤i∧i<ws.length then 2 ^ ws.getD i.toNat 0-1 else 0
theorem G8k(z:Nat)(hz:z≤32):cC.wrap (cC.wrap ((2:Int) ^ z)-1)=((2 ^ z-1:Nat):Int):=by
 have h1:2 ^ z≤2 ^ 32:=E2t z 32 hz
 have h2:0<2 ^ z:=bP z
 have e:((2:Int) ^ z)=((2 ^ z:Nat):Int):=by simp
 rw[e,IntWalk.u64_in ((2 ^ z:Nat):Int) (by omega),IntWalk.u64_in _ (by omega)]
 omega
theorem F5j{ws:List Nat}{i:Nat}(hi:i<ws.length):G0h ws (i:Int)=2 ^ ws.getD i 0-1:=by
 unfold G0h
 rw[Q3 (by omega),bF]
theorem H4u{ws:List Nat}(hg:B8k ws)(i:Nat):ws.getD i 0≤32:=by
 rw[aF]
 rcases bT i ws.length with h|h
 ·rw[aG h]
  exact(D1x hg i h).2.1
 ·rw[aO h]
  exact Nat.zero_le _
theorem H3l(x i:Nat)(ws:List Nat)(hx:x<18446744073709551616)(hi:i<ws.length)(hg:B8k ws):
  cB.wrap (bits BinOp.and cC ((x:Int)/2 ^ min (A3w ws i) 64) (G0h ws (i:Int):Int))=(E0v ws x i:Int):=by
 have h1:=D1q hg i
 have h2:=H4u hg i
 have h3:2 ^ ws.getD i 0≤2 ^ 32:=E2t _ 32 h2
 have h4:0<2 ^ ws.getD i 0:=bP _
 rw[bU h1,F5j hi]
 have e:((x:Int)/2 ^ A3w ws i)=((x/2 ^ A3w ws i:Nat):Int):=by simp
 have hd:x/2 ^ A3w ws i≤x:=Nat.div_le_self _ _
 rw[e,u64_and_nat _ _ (by omega) (by omega),Nat.and_two_pow_sub_one_eq_mod]
 have h5:x/2 ^ A3w ws i%2 ^ ws.getD i 0<2 ^ ws.getD i 0:=cA _ h4
 rw[IntWalk.i64_in _ (by omega)]
 rfl
namespace FDat
def wsD(ws:List Nat):D:=.agg (ws.map fun(w:Nat)=>D.int (w:Int))
def vsD(vs:List Int):D:=.agg (vs.map D.int)
def code(c:Int):D:=.iface 34 (.int c)
def D2r(i:Int)(c:Int):D:=.iface 177 (.agg [.int i,code c])
theorem C3b(x y:D)(h:y.isNil=false):FX 66 [x,y]=some [.iface 177 (.agg [x,y])]:=by
 rw[E3f];simp[h]
section
variable(ws:List Nat)(hg:B8k ws)
theorem C1e:(ws.map fun(w:Nat)=>D.int (w:Int)).length=ws.length:=by simp
theorem F3e{i:Nat}(h:i<ws.length):(ws.map fun(w:Nat)=>D.int (w:Int)).getD i D.nil=.int (ws[i]:Int):=by
 rw[aF,aM,aG h];rfl
include hg in
theorem small:ws.length≤64:=F7q hg
theorem E7w(i:Nat)(h:i≤1000):cB.wrap ((i:Int)+1)=((i+1:Nat):Int):=by rw[A0v _ (by omega) (by omega)];omega
include hg in
theorem F5o(n:Nat)(hn:n≤ws.length):∀(k i:Nat),i+k=n→A8o (wsD ws) (.int n) [.int (A3w ws i),.int i]=some [.int (A3w ws n)]
 |0,i,h=>by
  have hi:i=n:=by omega
  subst hi
  have hlen:(((ws.map fun(w:Nat)=>D.int (w:Int)).drop ((0:Int)).toNat).take ((((i:Nat):Int)).toNat-((0:Int)).toNat)).length=i:=by simp;omega
  have hno:¬(i:Int)<((((((ws.map fun(w:Nat)=>D.int (w:Int)).drop ((0:Int)).toNat).take ((((i:Nat):Int)).toNat-((0:Int)).toNat))).length:Nat):Int):=by rw[hlen];omega
  rw[B5h]
  simp only[wsD,D.A0j,D.toInt_int,hno,Q7,a8,Q4]
 |k+1,i,h=>by
  have hs:=small ws hg
  have hlen:(((ws.map fun(w:Nat)=>D.int (w:Int)).drop ((0:Int)).toNat).take ((((n:Nat):Int)).toNat-((0:Int)).toNat)).length=n:=by simp;omega
  have h1:(i:Int)<((((((ws.map fun(w:Nat)=>D.int (w:Int)).drop ((0:Int)).toNat).take ((((n:Nat):Int)).toNat-((0:Int)).toNat))).length:Nat):Int):=by rw[hlen];omega
  have h2:(i:Int)≥0:=by omega
  have hge:(((ws.map fun(w:Nat)=>D.int (w:Int)).drop ((0:Int)).toNat).take ((((n:Nat):Int)).toNat-((0:Int)).toNat)).getD i D.nil=.int (ws[i]'(by omega):Int):=by
   have:(((ws.map fun(w:Nat)=>D.int (w:Int)).drop ((0:Int)).toNat).take ((((n:Nat):Int)).toNat-((0:Int)).toNat)).getD i D.nil=(ws.map fun(w:Nat)=>D.int (w:Int)).getD i D.nil:=by
    simp only[aF]
    rw[List.getElem?_take,Q3 (by simp;omega)]
    simp
   rw[this,F3e ws (by omega)]
  have hl:=D1q hg (i+1)
  have hsum:cB.wrap ((A3w ws i:Int)+(ws[i]'(by omega):Int))=(A3w ws (i+1):Int):=by
   rw[C6g ws i (by omega)]at hl⊢
   rw[A0v _ (by omega) (by omega)];omega
  have ih:=F5o n hn k (i+1) (by omega)
  rw[B5h]
  simp only[wsD,D.A0j,D.toInt_int,h1,h2,Q6,Q5,bF (n:=i),hsum,E7w i (by omega)]at hge⊢
  rw[hge]
  simp only[D.toInt_int,hsum]
  exact ih
include hg in
theorem G6d(i:Nat)(hi:i≤ws.length):FX 58 [wsD ws,.int i]=some [.int (A3w ws i)]:=by
 have h:=F5o ws hg i hi i 0 (by omega)
 have h1:(0:Int)≤(i:Int):=by omega
 have h2:(i:Int)≤((ws.map fun(w:Nat)=>D.int (w:Int)).length:Int):=by rw[C1e];omega
 rw[D6v]
 simp only[wsD,D.toInt_int,D.A0j,h1,h2,Q6,Q5,bL]
 exact h
theorem H4g(z:Nat)(hz:z≤32):arF .shl .u64 1 (z:Int)=cC.wrap ((2:Int) ^ z):=by
 have:min z 64=z:=by omega
 simp[arF,cD,this]
include hg in
theorem F8r(i:Nat)(hi:i<ws.length):FX 59 [wsD ws,.int i]=some [.int ((2 ^ ws[i]-1:Nat):Int)]:=by
 have h1:¬(i:Int)<0:=by omega
 have h2:¬(i:Int)≥((ws.map fun(w:Nat)=>D.int (w:Int)).length:Int):=by rw[C1e];omega
 have h3:(i:Int)≥0:=by omega
 have h4:(i:Int)<((ws.map fun(w:Nat)=>D.int (w:Int)).length:Int):=by rw[C1e];omega
 have h5:((ws[i]:Nat):Int)≥0:=by omega
 have hw:=(D1x hg i hi).2.1
 rw[D3q]
 simp only[wsD,D.toInt_int,D.A0j,h1,h2,h3,h4,Q7,Q6,a8,Q4,Q5,bF,F3e ws hi,h5]
 rw[H4g _ hw,G8k _ hw]
theorem H5p(x k:Nat)(hk:k≤64):arF .shr .u64 (x:Int) (k:Int)=((x/2 ^ k:Nat):Int):=by
 have h1:min k 64=k:=by omega
 simp only[arF,cD,bF,h1]
 rw[Int.fdiv_eq_ediv_of_nonneg _ (by exact Int.le_of_lt (Int.pow_pos (by decide)))]
 simp
def A5i(x:Nat)(i:Int):Int:=if i<0∨(ws.length:Int)≤i then 0 else E0v ws x i.toNat
include hg in
theorem get_eq(x:Nat)(hx:x<18446744073709551616)(i:Int):FX 40 [wsD ws,.int x,.int i]=some [.int (A5i ws x i)]:=by
 rw[D5c]
 unfold A5i
 by_cases h1:i<0
 ·simp only[D.toInt_int,h1,Q6,Q5,true_or]
 by_cases h2:i≥(ws.length:Int)
 ·simp only[wsD,D.toInt_int,D.A0j,C1e,h1,h2,Q6,Q7,a8,Q5,Q4,or_true]
 obtain⟨j,rfl⟩:∃j:Nat,i=j:=⟨i.toNat,by omega⟩
 have hj:j<ws.length:=by omega
 have hl:=G6d ws hg j (by omega)
 have hm:=F8r ws hg j hj
 have hb:=D1q hg j
 have h3:(A3w ws j:Int)≥0:=by omega
 have hno:¬((j:Int)<0∨(ws.length:Int)≤(j:Int)):=by omega
 rw[Q0 hno]
 simp only[wsD]at hl hm
 simp only[wsD,D.toInt_int,D.A0j,C1e,h1,h2,Q7,a8,Q4,hl,hm,A0b,aC,aD,Q5,aE,h3,Q6]
 rw[H5p x _ hb]
 have:=H3l x j ws hx hj hg
 rw[bU hb,F5j hj]at this
 have e:((x:Int)/2 ^ A3w ws j)=((x/2 ^ A3w ws j:Nat):Int):=by simp
 rw[e,aF,aG hj]at this
 simp only[bF]
 exact congrArg (fun z=>some [D.int z]) this
include hg in
theorem C3v:∀(k i:Nat),i+k=ws.length→B5z (wsD ws) [.int (A3w ws i),.int i]=some [wsD ws,.nil]
 |0,i,h=>by
  have hs:=small ws hg
  have hno:¬(i:Int)<((ws.map fun(w:Nat)=>D.int (w:Int)).length:Int):=by rw[C1e];omega
  have hle:((ws.map fun(w:Nat)=>D.int (w:Int)).length:Int)≤17592186044416:=by rw[C1e];omega
  rw[C5c]
  simp only[wsD,D.A0j,D.toInt_int,hno,hle,Q7,Q6,a8,Q4,Q5]
 |k+1,i,h=>by
  have hs:=small ws hg
  have hi:i<ws.length:=by omega
  have h1:(i:Int)<((ws.map fun(w:Nat)=>D.int (w:Int)).length:Int):=by rw[C1e];omega
  have h2:(i:Int)≥0:=by omega
  obtain⟨g1,g2,g3⟩:=D1x hg i hi
  have hsum:cB.wrap ((A3w ws i:Int)+(ws[i]:Int))=(A3w ws (i+1):Int):=by
   rw[C6g ws i hi,A0v _ (by omega) (by omega)];omega
  have h3:¬((ws[i]:Nat):Int)<1:=by omega
  have h4:¬((ws[i]:Nat):Int)>32:=by omega
  have h5:¬((A3w ws (i+1):Nat):Int)>64:=by rw[C6g ws i hi];omega
  have ih:=C3v k (i+1) (by omega)
  rw[C5c]
  simp only[wsD,D.A0j,D.toInt_int,h1,h2,Q6,Q7,Q5,Q4,bF,F3e ws hi,hsum,h3,h4,h5,a8,E7w i (by omega)]
  exact ih
include hg in
theorem D6y:FX 57 [wsD ws]=some [wsD ws,.nil]:=by
 rw[F6w]
 exact C3v ws hg ws.length 0 (by omega)
theorem H7d{vs:List Int}{i:Nat}(h:i<vs.length):(vs.map D.int).getD i D.nil=.int vs[i]:=by
 rw[aF,aM,aG h];rfl
theorem u64_in{x:Int}(h0:0≤x)(h1:x<18446744073709551616):cC.wrap x=x:=by
 simp[cF,cD,cE];omega
theorem H1v(v k:Nat)(hk:k≤64):arF .shl .u64 (v:Int) (k:Int)=cC.wrap ((v:Int)*2 ^ min k 64):=by
 simp[arF,cD]
def A5n(vs:List Int):List D:=match A7i ws vs with
 |(w,c,p)=>[.int w,if c=0 then .nil else match p with|some i=>D2r i c|none=>code c]
theorem E8j{vs:List Int}{k:Nat}(h:A7i ws vs=(0,5,some (k:Int))):A5n ws vs=[.int 0,D2r k 5]:=by unfold A5n;rw[h];rfl
include hg in
theorem E9l(vs:List Int)(hl:vs.length=ws.length)(hz:∀z ∈ vs,z≤9223372036854775807):∀(d k:Nat),k+d=vs.length→C3j ws vs k→
  A8h (wsD ws) (vsD vs) [.int (A9c ws (vs.map bG) k),.int k]=some (A5n ws vs)
 |0,k,h,hm=>by
  have hno:¬(k:Int)<((vs.map D.int).length:Int):=by simp;omega
  have he:=F7e hl hm (by omega)
  rw[B4g]
  simp only[vsD,D.A0j,D.toInt_int,hno,Q7,a8,Q4]
  unfold A5n
  rw[he];rfl
 |d+1,k,h,hm=>by
  have hs:=small ws hg
  have hkv:k<vs.length:=by omega
  have hkw:k<ws.length:=by omega
  have h1:(k:Int)<((vs.map D.int).length:Int):=by simp;omega
  have h2:(k:Int)≥0:=by omega
  have hcode:(D.iface 34 (.int 5)).isNil=false:=rfl
  have hzk:=hz vs[k] (aP hkv)
  rw[B4g]
  simp only[vsD,D.A0j,D.toInt_int,h1,h2,Q6,Q5,bF,H7d hkv]
  by_cases h3:vs[k]<0
  ·rw[E8j ws (D8m hl hm hkw hkv (.inl h3))]
   simp only[h3,Q6,Q5,C3b _ _ hcode,A0b,aC,aD,aE]
   rfl
  ·have hmo:=F8r ws hg k hkw
   have hlo:=G6d ws hg k (by omega)
   simp only[h3,Q7,a8,Q4,hmo,A0b,aC,aD,aE,Q5,D.toInt_int]
   rw[u64_in (by omega) (by omega)]
   by_cases h4:vs[k]>((2 ^ ws[k]-1:Nat):Int)
   ·rw[E8j ws (D8m hl hm hkw hkv (.inr h4))]
    simp only[h4,Q6,Q5,C3b _ _ hcode,aC,aD,aE]
    rfl
   ·have h5:(A3w ws k:Int)≥0:=by omega
    have hb:=D1q hg k
    obtain⟨v,hv⟩:∃v:Nat,vs[k]=v:=⟨vs[k].toNat,by omega⟩
    have hle:v≤2 ^ ws[k]-1:=by omega
    have h4':¬(v:Int)>((2 ^ ws[k]-1:Nat):Int):=by rw[←hv];exact h4
    have hpl:=H5f hg k v hkw hle
    have hmid:=F5f hm hkw hkv (by omega) (by omega)
    have hlt:=G7f k hm.2
    have hlt2:A9c ws (vs.map bG) k<18446744073709551616:=bW hlt (by
     have:=E2t (A3w ws k) 64 hb
     exact this)
    have hor:=or_val (A9c ws (vs.map bG) k) v (A3w ws k) hb hlt hpl hlt2
    have hsucc:A9c ws (vs.map bG) (k+1)=A9c ws (vs.map bG) k+v*2 ^ A3w ws k:=by
     rw[D8y ws (vs.map bG) k hkw (by simpa using hkv)]
     simp[hv]
    have ih:=E9l vs hl hz d (k+1) (by omega) hmid
    rw[hsucc]at ih
    simp only[hv,h4',Q7,a8,Q4,hlo,aC,aD,aE,D.toInt_int,h5,Q6,Q5,hv,E7w k (by omega)]
    rw[H1v v _ hb]
    have hor':arF .or .u64 (A9c ws (vs.map bG) k:Int) (cC.wrap ((v:Int)*2 ^ min (A3w ws k) 64))=((A9c ws (vs.map bG) k+v*2 ^ A3w ws k:Nat):Int):=hor
    rw[hor']
    exact ih
include hg in
theorem E7e(vs:List Int)(hz:∀z ∈ vs,z≤9223372036854775807):FX 123 [wsD ws,vsD vs]=some (A5n ws vs):=by
 rw[D3j]
 by_cases hl:vs.length=ws.length
 ·have h1:(((vs.map D.int).length:Int) != ((ws.map fun(w:Nat)=>D.int (w:Int)).length:Int))=false:=by simp[hl]
  have:=E9l ws hg vs hl hz vs.length 0 (by omega) (F3c ws vs)
  simp only[vsD,wsD,D.A0j,h1,a8,Q4]at this⊢
  exact this
 ·have h1:(((vs.map D.int).length:Int) != ((ws.map fun(w:Nat)=>D.int (w:Int)).length:Int))=true:=by simp;omega
  simp only[vsD,wsD,D.A0j,h1,Q5]
  unfold A5n A7i
  rw[Q3 hl]
  rfl
end
end FDat
end Go.Proofs.YtckanieeocdpbaaGreat
namespace Go.Proofs.YtckanieeocdpbaaGreat.RU
open Go.RowKit Go.Proofs.YtckanieeocdpbaaGreat.Eng Go.Proofs.YtckanieeocdpbaaGreat Go.Proofs.YtckanieeocdpbaaGreat.Dat
set_option linter.unusedVariables false
set_option linter.unusedSimpArgs false
structure Cf where
 c0:Int
 c1:Int
 c2:Int
 c3:Int
 c4:Int
 c5:Int
 c6:Int
def Cf.ds(c:Cf):List D:=[.int c.c0,.int c.c1,.int c.c2,.int c.c3,.int c.c4,.int c.c5,.int c.c6]
def Cf.ok(c:Cf):Prop:=(1≤c.c0∧c.c0≤6)∧(1≤c.c1∧c.c1≤4)∧(1≤c.c2∧c.c2≤3)∧(1≤c.c3∧c.c3≤4)∧(0≤c.c4∧c.c4≤4)∧(1≤c.c5∧c.c5≤4)∧(1≤c.c6∧c.c6≤15)
structure Lim where
 w:ByteArray
 n:Int
 lo:Int
 hi:Int
def Lim.d(e:Lim):D:=.agg [.str e.w,.int e.n,.int e.lo,.int e.hi]
def Lim.ok(e:Lim):Prop:=e.lo≤e.n∧e.n≤e.hi
instance(e:Lim):Decidable e.ok:=by unfold Lim.ok;infer_instance
def A1l:List Lim→Nat→Option (Nat × Lim)
 |[],_=>none
 |e::l,i=>if e.ok then A1l l (i+1)else some (i,e)
def D2r(i:Nat)(e:Lim):D:=.iface 177 (.agg [.int i,.iface 180 (.agg [.str e.w,.iface 34 (.int 5)])])
theorem C3b(x y:D)(h:y.isNil=false):FX 66 [x,y]=some [.iface 177 (.agg [x,y])]:=by
 rw[E3f];simp[h]
theorem F9d(x y:D)(h:y.isNil=false):FX 67 [x,y]=some [.iface 180 (.agg [x,y])]:=by
 rw[F4o];simp[h]
theorem C3v(x0 x1 x2 x3 x4 x5 x6:D)(es:List Lim)(hl:es.length≤100):∀(k i:Nat),i+k=es.length→
  B2m x0 x1 x2 x3 x4 x5 x6 (.agg (es.map Lim.d)) [.int i]=match A1l (es.drop i) i with
   |none=>some [x0,x1,x2,x3,x4,x5,x6,.nil]
   |some (j,e)=>some [.int 0,.int 0,.int 0,.int 0,.int 0,.int 0,.int 0,D2r j e]
 |0,i,h=>by
  have hi:i=es.length:=by omega
  rw[C4r,List.drop_eq_nil_of_le (by omega)]
  simp[hi,A1l]
 |k+1,i,h=>by
  have hlt:i<es.length:=by omega
  have hg:(es.map Lim.d).getD i D.nil=es[i].d:=by rw[aF,aM,aG hlt];rfl
  have ih:=C3v x0 x1 x2 x3 x4 x5 x6 es hl k (i+1) (by omega)
  rw[C4r,aQ hlt]
  have hw:cB.wrap ((i:Int)+1)=((i+1:Nat):Int):=by rw[wrap_small _ (by omega) (by omega)];omega
  simp only[D.toInt_int,D.A0j,aK,bF,hg,hw,A1l]
  have e1:(i:Int)<(es.length:Int):=by omega
  have e2:(i:Int)≥0:=by omega
  simp only[e1,e2,Q6,Q5,Lim.d,D.A0j,aJ,aE,D.toInt_int]
  have hcode:(D.iface 34 (.int 5)).isNil=false:=rfl
  have hnote:(D.iface 180 (.agg [.str es[i].w,.iface 34 (.int 5)])).isNil=false:=rfl
  by_cases h1:es[i].n<es[i].lo
  ·have:¬es[i].ok:=fun h=>by unfold Lim.ok at h;omega
   simp only[h1,Q6,Q5,this,Q4,F9d _ _ hcode,A0b,aC,aD,aE,C3b _ _ hnote,D2r]
  ·by_cases h2:es[i].n>es[i].hi
   ·have:¬es[i].ok:=fun h=>by unfold Lim.ok at h;omega
    simp only[h1,h2,Q6,Q7,a8,Q5,this,Q4,F9d _ _ hcode,A0b,aC,aD,aE,C3b _ _ hnote,D2r]
   ·have:es[i].ok:=by unfold Lim.ok;omega
    simp only[h1,h2,Q7,a8,Q4,this,Q5,ih]
def Cf.B4e(c:Cf):List Lim:=[⟨.mk #[112,97,114,116,115],c.c0,1,6⟩,⟨.mk #[99,101,108,108,115],c.c1,1,4⟩,⟨.mk #[110,97,109,101,115],c.c2,1,3⟩,⟨.mk #[98,97,110,100,115],c.c3,1,4⟩,⟨.mk #[112,114,111,98,101,115],c.c4,0,4⟩,⟨.mk #[102,105,108,108,115],c.c5,1,4⟩,⟨.mk #[103,101,110,115],c.c6,1,15⟩]
theorem D6y(c:Cf):FX 48 c.ds=match A1l c.B4e 0 with
   |none=>some (c.ds++[.nil])
   |some (j,e)=>some [.int 0,.int 0,.int 0,.int 0,.int 0,.int 0,.int 0,D2r j e]:=by
 have h:=C3v (.int c.c0) (.int c.c1) (.int c.c2) (.int c.c3) (.int c.c4) (.int c.c5) (.int c.c6) c.B4e (by simp[Cf.B4e]) 7 0 rfl
 have hl:FX 65 c.ds=some [.agg (c.B4e.map Lim.d)]:=by
  unfold Cf.ds
  rw[E7q]
  rfl
 have he:FX 48 c.ds=B2m (.int c.c0) (.int c.c1) (.int c.c2) (.int c.c3) (.int c.c4) (.int c.c5) (.int c.c6) (.agg (c.B4e.map Lim.d)) [.int 0]:=by
  unfold Cf.ds at hl⊢
  rw[F7x,hl]
  rfl
 rw[he]
 exact h
theorem D5e:∀(l:List Lim) (i:Nat),A1l l i=none↔∀e ∈ l,e.ok
 |[],i=>by simp[A1l]
 |e::l,i=>by
  simp only[A1l,aU,forall_eq_or_imp]
  by_cases h:e.ok
  ·rw[Q3 h,D5e l];simp[h]
  ·rw[Q0 h];simp[h]
theorem C1o(c:Cf):A1l c.B4e 0=none↔c.ok:=by
 rw[D5e]
 simp[Cf.B4e,Lim.ok,Cf.ok]
end Go.Proofs.YtckanieeocdpbaaGreat.RU
namespace Go.Proofs.YtckanieeocdpbaaGreat.P
open Go.RowKit Go.Proofs.YtckanieeocdpbaaGreat.Eng Go.Proofs.YtckanieeocdpbaaGreat Go.Proofs.YtckanieeocdpbaaGreat.Dat Go.Proofs.YtckanieeocdpbaaGreat.FDat
set_option linter.unusedVariables false
set_option linter.unusedSimpArgs false
set_option maxRecDepth 10000
section
abbrev Cf:=RU.Cf
def In(z:Int):Prop:=-9223372036854775808≤z∧z≤9223372036854775807
theorem In.w{z:Int}(h:In z):cB.wrap z=z:=A0v z h.1 h.2
def er(c:Int):D:=if c=0 then .nil else code c
theorem E6e:er 0=.nil:=rfl
theorem D9q(c:Int):(er c).isNil=decide (c=0):=by
 unfold er
 by_cases h:c=0
 ·simp[h,D.isNil]
 ·simp[h,code,D.isNil]
structure St where
 k:Int
 f:Bool
 g:Int
 l:Int
 n:Int
 deriving DecidableEq
def St.ds(s:St):List D:=[.int s.k,.bool s.f,.int s.g,.int s.l,.int s.n]
def fl(f:Bool):Int:=if f then 1 else 0
def St.vs(s:St):List Int:=[s.k,fl s.f,s.g,s.l,s.n]
def St.wf(s:St):Prop:=In s.k∧In s.g∧In s.l∧In s.n
def St.zero:St:=⟨0,false,0,0,0⟩
structure Tm where
 name:Int
 side:Int
 A0m:Int
 least:Int
 A1n:Int
 deriving DecidableEq
def Tm.ds(t:Tm):List D:=[.int t.name,.int t.side,.int t.A0m,.int t.least,.int t.A1n]
def Tm.vs(t:Tm):List Int:=[t.name,t.side,t.A0m,t.least,t.A1n]
def Tm.wf(t:Tm):Prop:=∀z ∈ t.vs,In z
def Tm.sm(t:Tm):Prop:=(0≤t.name∧t.name<16)∧(0≤t.side∧t.side<2)∧(0≤t.A0m∧t.A0m<65536)∧(0≤t.least∧t.least<65536)∧0≤t.A1n∧t.A1n<16777216
def Tm.zero:Tm:=⟨0,0,0,0,0⟩
structure Rc where
 k:Int
 q:Int
 p:Int
 t:Int
 c:Int
 g:Int
 deriving DecidableEq
def Rc.ds(r:Rc):List D:=[.int r.k,.int r.q,.int r.p,.int r.t,.int r.c,.int r.g]
def Rc.vs(r:Rc):List Int:=[r.k,r.q,r.p,r.t,r.c,r.g]
def Rc.wf(r:Rc):Prop:=∀z ∈ r.vs,In z
def Rc.zero:Rc:=⟨0,0,0,0,0,0⟩
def cws:List Nat:=[4,1,8,16,8]
def tws:List Nat:=[4,1,16,16,24]
def rws:List Nat:=[3,16,16,20,5,4]
theorem E1s:B8k cws:=by constructor<;>simp[cws]
theorem F0s:B8k tws:=by constructor<;>simp[tws]
theorem F1s:B8k rws:=by constructor<;>simp[rws]
theorem clay:FX 39 []=some [wsD cws]:=by
 have h:=D6y cws E1s
 rw[F0f]
 have e:(D.agg ((D.int (4:Int))::((D.int (1:Int))::((D.int (8:Int))::((D.int (16:Int))::((D.int (8:Int))::[]))))))=wsD cws:=rfl
 rw[e,h];rfl
theorem tlay:FX 41 []=some [wsD tws]:=by
 have h:=D6y tws F0s
 rw[E7v]
 have e:(D.agg ((D.int (4:Int))::((D.int (1:Int))::((D.int (16:Int))::((D.int (16:Int))::((D.int (24:Int))::[]))))))=wsD tws:=rfl
 rw[e,h];rfl
theorem rlay:FX 122 []=some [wsD rws]:=by
 have h:=D6y rws F1s
 rw[E3t]
 have e:(D.agg ((D.int (3:Int))::((D.int (16:Int))::((D.int (16:Int))::((D.int (20:Int))::((D.int (5:Int))::((D.int (4:Int))::[])))))))=wsD rws:=rfl
 rw[e,h];rfl
def A0i(x:Nat):St:=⟨A5i cws x 0,A5i cws x 1 == 1,A5i cws x 2,A5i cws x 3,A5i cws x 4⟩
def B5p(x:Nat):Tm:=⟨A5i tws x 0,A5i tws x 1,A5i tws x 2,A5i tws x 3,A5i tws x 4⟩
def G8c(x:Nat):Rc:=⟨A5i rws x 0,A5i rws x 1,A5i rws x 2,A5i rws x 3,A5i rws x 4,A5i rws x 5⟩
theorem B4o(ws:List Nat)(x:Nat)(i b:Nat)(hb:ws.getD i 0≤b):0≤A5i ws x i∧A5i ws x i<((2 ^ b:Nat):Int):=by
 unfold A5i
 have hp:0<2 ^ b:=bP b
 split
 ·omega
 ·have h1:E0v ws x ((i:Int).toNat)<2 ^ ws.getD i 0:=by
   unfold E0v
   rw[bF]
   exact cA _ (bP _)
  have h2:2 ^ ws.getD i 0≤2 ^ b:=bR (by decide) hb
  omega
theorem A9o(x:Nat):(0≤(A0i x).k∧(A0i x).k<16)∧(0≤(A0i x).g∧(A0i x).g<256)∧(0≤(A0i x).l∧(A0i x).l<65536)∧0≤(A0i x).n∧(A0i x).n<256:=
 ⟨B4o cws x 0 4 (by decide),B4o cws x 2 8 (by decide),B4o cws x 3 16 (by decide),B4o cws x 4 8 (by decide)⟩
theorem B2w(x:Nat):(A0i x).wf:=by
 have:=A9o x
 unfold St.wf In;omega
theorem C8o(x:Nat):(B5p x).sm:=
 ⟨B4o tws x 0 4 (by decide),B4o tws x 1 1 (by decide),B4o tws x 2 16 (by decide),B4o tws x 3 16 (by decide),B4o tws x 4 24 (by decide)⟩
section
variable(x:Nat)(hx:x<18446744073709551616)
include hx
theorem D0p:FX 24 [.int x]=some (A0i x).ds:=by
 have hg:=get_eq cws E1s x hx
 rw[F6l,clay]
 simp only[A0b,aC,aD,Q5,aE,hg,D.toInt_int]
 rfl
theorem F2o:FX 26 [.int x]=some (B5p x).ds:=by
 have hg:=get_eq tws F0s x hx
 rw[G1s,tlay]
 simp only[A0b,aC,aD,Q5,aE,hg,D.toInt_int]
 rfl
theorem G6a:FX 131 [.int x]=some (G8c x).ds:=by
 have hg:=get_eq rws F1s x hx
 rw[F7p,rlay]
 simp only[A0b,aC,aD,Q5,aE,hg,D.toInt_int]
 rfl
end
def B6d(ws:List Nat)(vs:List Int):Option Nat:=match A7i ws vs with
 |(w,c,_)=>if c=0 then some w.toNat else none
def stW(s:St):Option Nat:=if s.k>8 then none else B6d cws s.vs
def tmW(t:Tm):Option Nat:=B6d tws t.vs
def rcW(r:Rc):Option Nat:=if r.k>5 then none else B6d rws r.vs
def Told(o:Option Nat)(r:List D):Prop:=match o with
 |some w=>r=[.int w,.nil]
 |none=>∃e:D,e.isNil=false∧r=[.int 0,e]
theorem G0w{ws:List Nat}{vs:List Int}{w:Int}{p:Option Int}(h:A7i ws vs=(w,0,p)):0≤w:=by
 unfold A7i at h
 split at h
 ·cases h
 ·split at h
  ·cases h
  ·cases h;omega
theorem H1z:∀{ws:List Nat} {vs:List Int} (k:Nat),vs.length=ws.length→A1l ws vs k=none→∃ns:List Nat,vs=ns.map (fun(x:Nat)=>(x:Int))∧Fits ws ns:=by
 intro ws
 induction ws with
 |nil=>intro vs k h _;have:=List.eq_nil_of_length_eq_zero h;subst this;exact⟨[],rfl,trivial⟩
 |cons w ws ih=>
  intro vs k h hb
  cases vs with
  |nil=>simp at h
  |cons v vs=>
   simp only[A1l]at hb
   split at hb
   ·cases hb
   ·rename_i hc
    obtain⟨ns,e,hf⟩:=ih (k+1) (by simpa using h) hb
    have hp:0<2 ^ w:=bP w
    refine⟨v.toNat::ns,?_,?_,hf⟩
    ·rw[bB,e]
     congr 1
     omega
    ·omega
theorem G9s{ws:List Nat}{vs:List Int}(hl:vs.length=ws.length)(h:(A7i ws vs).2.1=0):∃ns:List Nat,vs=ns.map (fun(n:Nat)=>(n:Int))∧Fits ws ns∧A7i ws vs=((B0w ws ns:Int),0,none):=by
 unfold A7i at h⊢
 rw[Q0 (by omega)]at h⊢
 cases hb:A1l ws vs 0 with
 |some i=>rw[hb]at h;cases h
 |none=>
  obtain⟨ns,e,hf⟩:=H1z 0 hl hb
  have e2:vs.map bG=ns:=by
   rw[e,List.map_map]
   apply b8
   ·simp
   ·intro j h1 h2;simp
  exact⟨ns,e,hf,by simp only[e2]⟩
theorem G2j{ws:List Nat}{vs:List Int}{w:Nat}(h:B6d ws vs=some w):∃ns:List Nat,vs=ns.map (fun(n:Nat)=>(n:Int))∧Fits ws ns∧w=B0w ws ns:=by
 unfold B6d at h
 rcases hp:A7i ws vs with⟨z,c,q⟩
 rw[hp]at h
 dsimp only at h
 by_cases hc:c=0
 ·subst hc
  have hl:vs.length=ws.length:=by
   rcases cG (vs.length=ws.length)with h1|h1
   ·exact h1
   ·unfold A7i at hp
    rw[Q3 h1]at hp;cases hp
  obtain⟨ns,e1,e2,e3⟩:=G9s hl (by rw[hp])
  rw[Q3 rfl]at h
  rw[e3]at hp
  cases hp
  cases h
  exact⟨ns,e1,e2,by simp⟩
 ·rw[Q0 hc]at h;cases h
theorem D2w{ws:List Nat}(hg:B8k ws){vs:List Int}{w:Nat}(h:B6d ws vs=some w):w<18446744073709551616:=by
 obtain⟨ns,_,hf,rfl⟩:=G2j h
 have h1:=E6j hf
 have h2:2 ^ ws.sum≤2 ^ 64:=bR (by decide) hg.2
 have h3:(2:Nat) ^ 64=18446744073709551616:=by decide
 omega
theorem D2h(ws:List Nat)(vs:List Int):Told (B6d ws vs) (A5n ws vs):=by
 unfold B6d A5n
 rcases h:A7i ws vs with⟨w,c,p⟩
 dsimp only
 by_cases hc:c=0
 ·subst hc
  have:=G0w h
  simp only[Q5,Told]
  rw[Int.toNat_of_nonneg this]
 ·rw[Q0 hc,Q0 hc]
  have hw:w=0:=by
   unfold A7i at h
   split at h
   ·cases h;rfl
   ·split at h
    ·cases h;rfl
    ·cases h;exact absurd rfl hc
  subst hw
  cases p with
  |none=>exact⟨_,rfl,rfl⟩
  |some i=>exact⟨_,rfl,rfl⟩
theorem F9f(s:St)(hs:s.wf):∃r,FX 120 s.ds=some r∧Told (stW s) r:=by
 obtain⟨k,f,g,l,n⟩:=s
 obtain⟨h1,h2,h3,h4⟩:=hs
 unfold St.ds stW
 dsimp only at h1 h2 h3 h4⊢
 rw[F8d,clay]
 by_cases h:k>8
 ·have hcode:(D.iface 34 (.int 5)).isNil=false:=rfl
  simp only[D.toInt_int,h,Q6,Q5,C3b _ _ hcode,A0b,aC,aD,aE]
  exact⟨_,rfl,_,rfl,rfl⟩
 ·have hp:=E7e cws E1s [k,fl f,g,l,n] (by
   intro z hz
   simp only[aU,aV,or_false]at hz
   unfold In at h1 h2 h3 h4
   have:fl f≤1:=by unfold fl;split<;>omega
   omega)
  have ht:=D2h cws [k,fl f,g,l,n]
  have hb:(D.agg ((D.int k)::((if f then D.int 1 else D.int 0)::((D.agg ((D.int g)::((D.int l)::((D.int n)::[]))))).toL)))=vsD [k,fl f,g,l,n]:=by cases f<;>rfl
  refine⟨A5n cws [k,fl f,g,l,n],?_,by rw[Q0 h];exact ht⟩
  have hl:(A5n cws [k,fl f,g,l,n])=[(A5n cws [k,fl f,g,l,n]).getD 0 D.nil,(A5n cws [k,fl f,g,l,n]).getD 1 D.nil]:=by
   unfold A5n;rcases A7i cws [k,fl f,g,l,n]with⟨_,_,_⟩;rfl
  have hlen:(A5n cws [k,fl f,g,l,n]).length=2:=by rw[hl];rfl
  cases f
  ·simp only[a8,Q4]at hb
   simp only[D.toInt_int,h,Q7,a8,Q4,A0b,aC,aD,Q5,aE,hb,D.A1d,hp,hlen]
   rw[←hl]
  ·simp only[Q5]at hb
   simp only[D.toInt_int,h,Q7,a8,Q4,A0b,aC,aD,Q5,aE,hb,D.A1d,hp,hlen]
   rw[←hl]
theorem G9p(t:Tm)(hs:t.wf):∃r,FX 126 t.ds=some r∧Told (tmW t) r:=by
 have hp:=E7e tws F0s t.vs (fun z hz=>(hs z hz).2)
 have ht:=D2h tws t.vs
 refine⟨A5n tws t.vs,?_,ht⟩
 have hb:D.agg (.int t.name::.int t.side::.int t.A0m::.int t.least::.int t.A1n::[])=vsD t.vs:=rfl
 have hl:(A5n tws t.vs)=[(A5n tws t.vs).getD 0 D.nil,(A5n tws t.vs).getD 1 D.nil]:=by
  unfold A5n;rcases A7i tws t.vs with⟨_,_,_⟩;rfl
 have hlen:(A5n tws t.vs).length=2:=by rw[hl];rfl
 unfold Tm.ds
 rw[F6d,tlay]
 simp only[A0b,aC,aD,Q5,aE,hb,hp,hlen]
 rw[←hl]
theorem G8w(r:Rc)(hs:r.wf):∃z,FX 99 r.ds=some z∧Told (rcW r) z:=by
 have hp:=E7e rws F1s r.vs (fun z hz=>(hs z hz).2)
 have ht:=D2h rws r.vs
 have hb:D.agg (.int r.k::.int r.q::.int r.p::.int r.t::.int r.c::.int r.g::[])=vsD r.vs:=rfl
 have hl:(A5n rws r.vs)=[(A5n rws r.vs).getD 0 D.nil,(A5n rws r.vs).getD 1 D.nil]:=by
  unfold A5n;rcases A7i rws r.vs with⟨_,_,_⟩;rfl
 have hlen:(A5n rws r.vs).length=2:=by rw[hl];rfl
 unfold Rc.ds rcW
 rw[E9z,rlay]
 by_cases h:r.k>5
 ·have hcode:(D.iface 34 (.int 5)).isNil=false:=rfl
  simp only[D.toInt_int,h,Q6,Q5,C3b _ _ hcode,A0b,aC,aD,aE]
  exact⟨_,rfl,_,rfl,rfl⟩
 ·refine⟨A5n rws r.vs,?_,by rw[Q0 h];exact ht⟩
  simp only[D.toInt_int,h,Q7,a8,Q4,A0b,aC,aD,Q5,aE,hb,hp,hlen]
  rw[←hl]
def St.live(s:St):Bool:=decide (1≤s.k)&&decide (s.k≤4)
def St.over(s:St):Bool:=decide (5≤s.k)&&decide (s.k≤8)
def St.loose(s:St):Bool:=s.k == 1 || s.k == 2
def St.held(s:St):Bool:=s.k == 3 || s.k == 4
def St.hold(s:St):St:=if s.k=1 then {s with k:=3} else if s.k=2 then {s with k:=4} else s
def St.A7l(s:St):St:=if s.k=3 then {s with k:=1} else if s.k=4 then {s with k:=2} else s
def St.ended(s:St)(m:Int):St:=if s.l=0 then {s with k:=5,f:=false} else if s.n≥m then {s with k:=8,f:=false} else s
def A7c(s:St)(q m:Int):Int × St:=if s.loose=false then(27,.zero)else if q<1∨q>s.l then(23,.zero)else if s.n≥m then(4,.zero)else(0,St.ended {s with l:=s.l-q,n:=s.n+1} m)
def A6t(s:St)(m:Int):St:=if(St.ended s.A7l m).f then {St.ended s.A7l m with k:=6,f:=false} else St.ended s.A7l m
def A1z(s:St)(q m:Int):Int × St:=if s.held=false then(1,.zero)else if q<0∨q>s.l then(23,.zero)else if q>0 then(if s.n≥m then(4,.zero)else(0,A6t {s with l:=s.l-q,n:=s.n+1} m))else(0,A6t s m)
def A1k(s:St):Int × St:=if s.k=1∨s.k=2 then(0,{s with k:=6})else if s.k=3∨s.k=4 then(0,{s with f:=true})else(29,.zero)
def A1y(s:St):Int × St:=if s.loose=false then(27,.zero)else(0,{s with k:=7})
def A2z(s:St):Int × St:=if s.k=1 then(0,{s with k:=2})else(29,.zero)
def A8e(s:St)(q m:Int):Int × St:=if s.live then(27,.zero)else if s.g≥m then(28,.zero)else if q<1∨q>9999 then(23,.zero)else(0,⟨1,false,s.g+1,q,0⟩)
def A2f(r:Int × St):List D:=r.2.ds++[er r.1]
theorem F5k(k:Int)(x1 x2 x3 x4:D):FX 118 [.int k,x1,x2,x3,x4]=some [.bool (k == 1 || k == 2)]:=by
 rw[F6b]
 by_cases h1:k=1
 ·simp[h1]
 ·by_cases h2:k=2<;>simp[h1,h2]
theorem H4s(k:Int)(x1 x2 x3 x4:D):FX 144 [.int k,x1,x2,x3,x4]=some [.bool (k == 3 || k == 4)]:=by
 rw[F8j]
 by_cases h1:k=3
 ·simp[h1]
 ·by_cases h2:k=4<;>simp[h1,h2]
theorem F9l(k:Int)(x1 x2 x3 x4:D):FX 129 [.int k,x1,x2,x3,x4]=some [.bool (decide (5≤k)&&decide (k≤8))]:=by
 rw[F8l]
 by_cases h1:5≤k
 ·by_cases h2:k≤8<;>simp[h1,h2]
 ·simp[h1]
theorem F9t(k:Int)(x1 x2 x3 x4:D):FX 133 [.int k,x1,x2,x3,x4]=some [.bool (decide (1≤k)&&decide (k≤4))]:=by
 rw[F8i]
 by_cases h1:1≤k
 ·by_cases h2:k≤4<;>simp[h1,h2]
 ·simp[h1]
theorem H4j(s:St):FX 135 s.ds=some s.hold.ds:=by
 unfold St.ds St.hold
 rw[F8n]
 by_cases h1:s.k=1
 ·simp[h1]
 by_cases h2:s.k=2
 ·simp[h1,h2]
 ·simp[h1,h2]
theorem G4e(k:Int)(x1 x2 x3 x4:D):FX 145 [.int k,x1,x2,x3,x4]=some [.int (if k=3 then 1 else if k=4 then 2 else k),x1,x2,x3,x4]:=by
 rw[F0a]
 by_cases h1:k=3
 ·simp[h1]
 by_cases h2:k=4
 ·simp[h1,h2]
 ·simp[h1,h2]
theorem F2b(k:Int)(f:Bool)(g l n m:Int):FX 143 [.int k,.bool f,.int g,.int l,.int n,.int m]=some (St.ended ⟨k,f,g,l,n⟩ m).ds:=by
 unfold St.ds St.ended
 rw[F1z]
 by_cases h1:l=0
 ·simp[h1]
 by_cases h2:n≥m
 ·simp[h1,h2]
 ·simp[h1,h2]
theorem H3i(s:St)(hs:s.wf)(q m:Int)(hm:m≤100):FX 138 (s.ds++[.int q,.int m])=some (A2f (A7c s q m)):=by
 obtain⟨k,f,g,l,n⟩:=s
 obtain⟨h1,h2,h3,h4⟩:=hs
 dsimp only[In]at h1 h2 h3 h4
 unfold St.ds A7c A2f St.loose
 dsimp only[aH,aI]
 rw[F8c,F5k]
 simp only[A0b,aC,aD,Q5,aE,D.A1d,D.toInt_int]
 cases h0:(k == 1 || k == 2)
 ·simp only[a9,Q5];rfl
 simp only[aA,a8,Q4,reduceCtorEq]
 by_cases a1:q<1
 ·simp only[a1,Q6,Q5,true_or];rfl
 by_cases a2:q>l
 ·simp only[a1,a2,Q6,Q7,a8,Q4,Q5,or_true];rfl
 by_cases a3:n≥m
 ·simp only[a1,a2,a3,Q6,Q7,a8,Q4,Q5,QC];rfl
 rw[A0v (l-q) (by omega) (by omega),A0v (n+1) (by omega) (by omega),F2b]
 simp only[a1,a2,a3,Q7,a8,Q4,QC,E6e]
 rfl
theorem G0t(s:St)(hs:s.wf)(q m:Int)(hm:m≤100):FX 139 (s.ds++[.int q,.int m])=some (A2f (A1z s q m)):=by
 obtain⟨k,f,g,l,n⟩:=s
 obtain⟨h1,h2,h3,h4⟩:=hs
 dsimp only[In]at h1 h2 h3 h4
 have fin:∀l' n':Int,(A0b (FX 145 [.int k,.bool f,.int g,.int l',.int n']) 5 fun r8=>
      A0b (FX 143 [(r8.getD 0 D.nil),(r8.getD 1 D.nil),(r8.getD 2 D.nil),(r8.getD 3 D.nil),(r8.getD 4 D.nil),.int m]) 5 fun r13=>
      if((r13.getD 1 D.nil)).toBool=true then
      some [(D.int (6:Int)),(D.bool false),(r13.getD 2 D.nil),(r13.getD 3 D.nil),(r13.getD 4 D.nil),D.nil]
      else
      some [(r13.getD 0 D.nil),(r13.getD 1 D.nil),(r13.getD 2 D.nil),(r13.getD 3 D.nil),(r13.getD 4 D.nil),D.nil])=some (A2f (0,A6t ⟨k,f,g,l',n'⟩ m)):=by
  intro l' n'
  have hl:(St.A7l ⟨k,f,g,l',n'⟩)=⟨if k=3 then 1 else if k=4 then 2 else k,f,g,l',n'⟩:=by
   unfold St.A7l
   split
   ·rfl
   ·split<;>rfl
  simp only[G4e,A0b,aC,aD,Q5,aE,aJ,F2b]
  unfold A6t A2f
  rw[hl]
  generalize St.ended ⟨if k=3 then 1 else if k=4 then 2 else k,f,g,l',n'⟩ m=z
  obtain⟨k',f',g',l2,n2⟩:=z
  simp only[St.ds,aC,aD,Q5,aE,aJ,D.A1d,E6e]
  cases f'
  ·rfl
  ·rfl
 unfold St.ds A1z A2f St.held
 dsimp only[aH,aI]
 rw[E7i,H4s]
 simp only[A0b,aC,aD,Q5,aE,D.A1d,D.toInt_int]at fin⊢
 cases h0:(k == 3 || k == 4)
 ·simp only[a9,Q5];rfl
 simp only[aA,a8,Q4,reduceCtorEq]
 by_cases a1:q<0
 ·simp only[a1,Q6,Q5,true_or];rfl
 by_cases a2:q>l
 ·simp only[a1,a2,Q6,Q7,a8,Q4,Q5,or_true];rfl
 by_cases a3:q>0
 ·by_cases a4:n≥m
  ·simp only[a1,a2,a3,a4,Q6,Q7,a8,Q4,Q5,QC];rfl
  rw[A0v (l-q) (by omega) (by omega),A0v (n+1) (by omega) (by omega),fin]
  simp only[a1,a2,a3,a4,Q6,Q7,a8,Q4,Q5,QC];rfl
 ·rw[fin l n]
  simp only[a1,a2,a3,Q7,a8,Q4,QC];rfl
theorem G6w(s:St):FX 130 s.ds=some (A2f (A1k s)):=by
 unfold St.ds A2f A1k
 rw[F0c]
 by_cases h1:s.k=1
 ·simp[h1,St.ds,er]
 by_cases h2:s.k=2
 ·simp[h1,h2,St.ds,er]
 by_cases h3:s.k=3
 ·simp[h1,h2,h3,St.ds,er]
 by_cases h4:s.k=4
 ·simp[h1,h2,h3,h4,St.ds,er]
 ·simp[h1,h2,h3,h4,St.ds,er,St.zero,code]
theorem G6m(s:St):FX 94 s.ds=some (A2f (A1y s)):=by
 unfold St.ds A2f A1y St.loose
 rw[E9w,F5k]
 cases h:(s.k == 1 || s.k == 2)
 ·simp[A0b,St.ds,er,St.zero,code]
 ·simp[A0b,St.ds,er,St.zero,code]
theorem G2x(s:St):FX 128 s.ds=some (A2f (A2z s)):=by
 unfold St.ds A2f A2z
 rw[E6x]
 by_cases h1:s.k=1
 ·simp[h1,St.ds,er]
 ·simp[h1,St.ds,er,St.zero,code]
theorem H0x(s:St)(hs:s.wf)(q m:Int)(hm:m≤100):FX 125 (s.ds++[.int q,.int m])=some (A2f (A8e s q m)):=by
 obtain⟨k,f,g,l,n⟩:=s
 obtain⟨h1,h2,h3,h4⟩:=hs
 dsimp only[In]at h1 h2 h3 h4
 unfold St.ds A8e A2f St.live
 dsimp only[aH,aI]
 rw[F3a,F9t]
 simp only[A0b,aC,aD,Q5,aE,D.A1d,D.toInt_int]
 cases h0:(decide (1≤k)&&decide (k≤4))
 ·simp only[a8,Q4]
  by_cases a1:g≥m
  ·simp only[a1,Q6,Q5];rfl
  by_cases a2:q<1
  ·simp only[a1,a2,Q6,Q7,a8,Q4,Q5,true_or];rfl
  by_cases a3:q>9999
  ·simp only[a1,a2,a3,Q6,Q7,a8,Q4,Q5,or_true];rfl
  rw[A0v (g+1) (by omega) (by omega)]
  simp only[a1,a2,a3,Q7,a8,Q4,QC];rfl
 ·simp only[Q5];rfl
def A5k(s:St)(t:Int):Option Rc:=if s.over then some ⟨s.k-3,s.l,s.n,t,0,0⟩else none
def A4u:Option Rc→List D
 |some r=>r.ds++[.bool true]
 |none=>Rc.zero.ds++[.bool false]
theorem H6t(s:St)(t:Int):FX 84 (s.ds++[.int t])=some (A4u (A5k s t)):=by
 unfold St.ds A5k St.over
 dsimp only[aH,aI]
 rw[F5r]
 by_cases h1:s.k=5
 ·simp[h1,A4u,Rc.ds]
 by_cases h2:s.k=6
 ·simp[h2,A4u,Rc.ds]
 by_cases h3:s.k=7
 ·simp[h3,A4u,Rc.ds]
 by_cases h4:s.k=8
 ·simp[h4,A4u,Rc.ds]
 ·have:(decide (5≤s.k)&&decide (s.k≤8))=false:=by
   by_cases a:5≤s.k
   ·have:¬s.k≤8:=by omega
    simp[this]
   ·simp[a]
  simp[h1,h2,h3,h4,this,A4u,Rc.zero,Rc.ds]
def Rc.D7m(r:Rc):Bool:=decide (r.k≥2)&&decide (r.k≤5)
theorem G8y(r:Rc):FX 132 r.ds=some [.bool r.D7m]:=by
 unfold Rc.ds Rc.D7m
 rw[E7s]
 by_cases h1:r.k≥2
 ·simp only[D.toInt_int,h1,Q6,Q5,Bool.true_and]
  rfl
 ·simp only[D.toInt_int,h1,Q7,a8,Q4,Bool.false_and]
def B1z(gen n:Int)(a e:Rc):Rc × Int × Int:=if a.k=1 then({a with c:=0,g:=0},gen,n+1)else if e.D7m=true∧e.p=n then(e,gen+1,0)else(.zero,gen,n)
theorem H5r(gen n:Int)(hg:In (gen+1))(hn:In (n+1))(a e:Rc):FX 108 ([.int gen,.int n]++a.ds++e.ds)=some ((B1z gen n a e).1.ds++[.int (B1z gen n a e).2.1,.int (B1z gen n a e).2.2]):=by
 have he:=G8y e
 unfold Rc.ds at he
 unfold Rc.ds B1z
 dsimp only[aH,aI]
 rw[E9u,he]
 simp only[D.toInt_int,hg.w,hn.w,A0b,aC,aD,Q5,aE,D.A1d]
 by_cases h1:a.k=1
 ·simp[h1,Rc.ds]
 by_cases h2:e.D7m=true
 ·by_cases h3:e.p=n
  ·simp[h1,h2,h3,Rc.ds]
  ·simp[h1,h2,h3,Rc.ds,Rc.zero]
 ·simp[h1,h2,Rc.ds,Rc.zero]
section
variable(c:Cf)(hc:c.ok)
def A0o(c:Cf):Int:=c.c0*c.c1
include hc in
theorem A4q:1≤A0o c∧A0o c≤24:=by
 obtain⟨⟨h1,h2⟩,⟨h3,h4⟩,_⟩:=hc
 have a:c.c0=1∨c.c0=2∨c.c0=3∨c.c0=4∨c.c0=5∨c.c0=6:=by omega
 unfold A0o
 rcases a with a|a|a|a|a|a<;>rw[a]<;>omega
include hc in
theorem all_eq:FX 23 c.ds=some [.int (A0o c)]:=by
 have:=A4q c hc
 unfold RU.Cf.ds
 rw[D8g]
 simp only[D.toInt_int]
 rw[A0v _ (by unfold A0o at this;omega) (by unfold A0o at this;omega)];rfl
def A0f(c:Cf)(part i:Int):Int:=if part<0∨part≥c.c0∨i<0∨i≥c.c1 then -1 else part*c.c1+i
theorem B1c{part i:Int}(h:0≤A0f c part i):(0≤part∧part<c.c0)∧(0≤i∧i<c.c1)∧A0f c part i=part*c.c1+i∧A0f c part i<A0o c:=by
 unfold A0f at h⊢
 split at h
 ·omega
 rename_i hn
 rw[Q0 hn]
 have h1:part+1≤c.c0:=by omega
 have h2:=bJ h1 (show 0≤c.c1 by omega)
 rw[bM,bN]at h2
 unfold A0o
 refine⟨by omega,by omega,rfl,by omega⟩
include hc in
theorem F9c(part i:Int):FX 102 (c.ds++[.int part,.int i])=some [.int (A0f c part i)]:=by
 have hb:=B1c c (part:=part) (i:=i)
 have hal:=A4q c hc
 unfold RU.Cf.ds
 dsimp only[aH,aI]
 rw[D4r]
 simp only[D.toInt_int]
 unfold A0f at hb⊢
 by_cases h1:part<0
 ·simp[h1]
 by_cases h2:part≥c.c0
 ·simp[h1,h2]
 by_cases h3:i<0
 ·simp[h1,h2,h3]
 by_cases h4:i≥c.c1
 ·simp[h1,h2,h3,h4]
 have hn:¬(part<0∨part≥c.c0∨i<0∨i≥c.c1):=by omega
 rw[Q0 hn]at hb⊢
 have h5:0≤part*c.c1:=bH (by omega) (by omega)
 have:=hb (by omega)
 rw[A0v (part*c.c1) (by omega) (by omega),A0v _ (by omega) (by omega)]
 simp only[h1,h2,h3,h4,Q7,a8,Q4]
def A5f(c:Cf)(x:Int):Int:=if x<0∨x≥A0o c then -1 else x/c.c1
include hc in
theorem G8p(x:Int):FX 110 (c.ds++[.int x])=some [.int (A5f c x)]:=by
 have ha:=all_eq c hc
 have hb:=A4q c hc
 obtain⟨_,⟨h3,h4⟩,_⟩:=hc
 unfold RU.Cf.ds at ha⊢
 dsimp only[aH,aI]
 rw[D3r,ha]
 unfold A5f
 simp only[D.toInt_int,A0b,aC,aD,Q5,aE]
 by_cases h1:x<0
 ·simp[h1]
 by_cases h2:x≥A0o c
 ·simp[h1,h2]
 have h5:(c.c1 != 0)=true:=by simp;omega
 have h6:x.tdiv c.c1=x/c.c1:=bI (by omega)
 have h7:0≤x/c.c1:=Int.ediv_nonneg (by omega) (by omega)
 have h8:x/c.c1≤x:=Int.ediv_le_self _ (by omega)
 rw[h6,A0v _ (by omega) (by omega)]
 simp only[h1,h2,h5,Q7,a8,Q4,Q5,QC]
def B2e(c:Cf)(p:Int):Int:=if p<1∨p>9999 then -1 else(p-1)*c.c3/9999
include hc in
theorem G5b(p:Int):-1≤B2e c p∧B2e c p<c.c3:=by
 obtain⟨_,_,_,⟨h3,h4⟩,_⟩:=hc
 unfold B2e
 split
 ·omega
 ·have h0:(p-1)*c.c3<9999*c.c3:=Int.mul_lt_mul_of_pos_right (by omega) (by omega)
  have h1:0≤(p-1)*c.c3:=bH (by omega) (by omega)
  omega
include hc in
theorem G0e(p:Int):FX 64 (c.ds++[.int p])=some [.int (B2e c p)]:=by
 obtain⟨_,_,_,⟨h3,h4⟩,_⟩:=hc
 unfold RU.Cf.ds
 dsimp only[aH,aI]
 rw[D4s]
 unfold B2e
 simp only[D.toInt_int]
 by_cases h1:p<1
 ·simp[h1]
 by_cases h2:p>9999
 ·simp[h1,h2]
 have h0:(p-1)*c.c3≤9998*4:=by
  have:=bK (show p-1≤9998 by omega) h4 (by omega) (by omega)
  exact this
 have h5:0≤(p-1)*c.c3:=bH (by omega) (by omega)
 rw[A0v (p-1) (by omega) (by omega),A0v ((p-1)*c.c3) (by omega) (by omega),bI h5,A0v _ (by omega) (by omega)]
 simp only[h1,h2,Q7,a8,Q4,QC]
def C8i(c:Cf)(name band:Int):Int:=if name<0∨name≥c.c2∨band<0∨band≥c.c3 then -1 else name*c.c3+band
def A2a(c:Cf):Int:=c.c2*c.c3
include hc in
theorem A6d:1≤A2a c∧A2a c≤12:=by
 obtain⟨_,_,⟨h1,h2⟩,⟨h3,h4⟩,_⟩:=hc
 have a:c.c2=1∨c.c2=2∨c.c2=3:=by omega
 unfold A2a
 rcases a with a|a|a<;>rw[a]<;>omega
include hc in
theorem D4x:FX 15 c.ds=some [.int (A2a c)]:=by
 have:=A6d c hc
 unfold RU.Cf.ds
 rw[C9w]
 simp only[D.toInt_int]
 rw[A0v _ (by unfold A2a at this;omega) (by unfold A2a at this;omega)];rfl
include hc in
theorem F2u(name band:Int):FX 119 (c.ds++[.int name,.int band])=some [.int (C8i c name band)]:=by
 have hb:=A6d c hc
 unfold RU.Cf.ds
 dsimp only[aH,aI]
 rw[D3k]
 simp only[D.toInt_int]
 unfold C8i
 by_cases h1:name<0
 ·simp[h1]
 by_cases h2:name≥c.c2
 ·simp[h1,h2]
 by_cases h3:band<0
 ·simp[h1,h2,h3]
 by_cases h4:band≥c.c3
 ·simp[h1,h2,h3,h4]
 have h5:0≤name*c.c3:=bH (by omega) (by omega)
 have h6:=bJ (show name+1≤c.c2 by omega) (show 0≤c.c3 by omega)
 rw[bM,bN]at h6
 unfold A2a at hb
 rw[A0v (name*c.c3) (by omega) (by omega),A0v _ (by omega) (by omega)]
 simp only[h1,h2,h3,h4,Q7,a8,Q4,QC]
def B2v(c:Cf)(t:Tm):Int:=C8i c t.name (B2e c t.A0m)
include hc in
theorem G7h(t:Tm):FX 95 (c.ds++t.ds)=some [.int (B2v c t)]:=by
 have h1:=G0e c hc t.A0m
 have h2:=F2u c hc t.name (B2e c t.A0m)
 unfold RU.Cf.ds at h1 h2⊢
 unfold Tm.ds
 dsimp only[aH,aI]at h1 h2⊢
 rw[F0e,h1]
 simp only[A0b,aC,aD,Q5,aE,h2]
 rfl
def A7g(c:Cf)(x gen n:Int):Int:=if x<0∨x≥A0o c∨gen<1∨gen>c.c6∨n<0∨n>c.c5 then -1 else A0o c*2+(x*c.c6+gen-1)*(c.c5+1)+n
include hc in
theorem G0c(x gen n:Int):FX 101 (c.ds++[.int x,.int gen,.int n])=some [.int (A7g c x gen n)]:=by
 have ha:=all_eq c hc
 have hb:=A4q c hc
 obtain⟨_,_,_,_,_,⟨h3,h4⟩,h5,h6⟩:=hc
 unfold RU.Cf.ds at ha⊢
 dsimp only[aH,aI]
 rw[D2g,ha]
 unfold A7g
 simp only[D.toInt_int,A0b,aC,aD,Q5,aE]
 by_cases a1:x<0
 ·simp[a1]
 by_cases a2:x≥A0o c
 ·simp[a1,a2]
 by_cases a3:gen<1
 ·simp[a1,a2,a3]
 by_cases a4:gen>c.c6
 ·simp[a1,a2,a3,a4]
 by_cases a5:n<0
 ·simp[a1,a2,a3,a4,a5]
 by_cases a6:n>c.c5
 ·simp[a1,a2,a3,a4,a5,a6]
 have b1:0≤x*c.c6:=bH (by omega) (by omega)
 have b2:x*c.c6≤24*15:=bK (by omega) (by omega) (by omega) (by omega)
 have b3:0≤(x*c.c6+gen-1)*(c.c5+1):=bH (by omega) (by omega)
 have b4:(x*c.c6+gen-1)*(c.c5+1)≤(24*15+15)*5:=bK (by omega) (by omega) (by omega) (by omega)
 rw[A0v (A0o c*2) (by omega) (by omega),A0v (x*c.c6) (by omega) (by omega),A0v (x*c.c6+gen) (by omega) (by omega),A0v (x*c.c6+gen-1) (by omega) (by omega),A0v (c.c5+1) (by omega) (by omega),A0v ((x*c.c6+gen-1)*(c.c5+1)) (by omega) (by omega),A0v (A0o c*2+(x*c.c6+gen-1)*(c.c5+1)) (by omega) (by omega),A0v _ (by omega) (by omega)]
 simp only[a1,a2,a3,a4,a5,a6,Q7,a8,Q4,QC]
end
def F6j(a b:Int):Int:=a+(b-a)/2
theorem H6v(a b:Int)(h:a≤b)(h0:0≤a)(h1:b<65536):FX 142 [.int a,.int b]=some [.int (F6j a b)]:=by
 rw[F8a,G1m]
 have hn:¬b<a:=by omega
 simp only[D.toInt_int,hn,Q7,a8,Q4,A0b,aC,aD,Q5,aE]
 rw[A0v (b-a) (by omega) (by omega),bI (by omega),A0v ((b-a)/2) (by omega) (by omega),A0v (a+(b-a)/2) (by omega) (by omega),A0v _ (by omega) (by omega),Int.sub_zero]
 rfl
def A9g(a b buy sell:Tm)(l o:Int):Int × Int:=
 if buy.side≠0∨sell.side≠1∨a.name≠b.name then(0,0)
 else if buy.A0m<sell.A0m∨(if o<l then o else l)<1∨(if o<l then o else l)<(if b.least>a.least then b.least else a.least)then(0,0)
 else(if o<l then o else l,F6j sell.A0m buy.A0m)
def A8a(a b:Tm)(l o:Int):Int × Int:=if a.side=1 then A9g a b b a l o else A9g a b a b l o
theorem H1g(a b:Tm)(ha:a.sm)(hb:b.sm)(l o:Int):FX 137 (a.ds++b.ds++[.int l,.int o])=some [.int (A8a a b l o).1,.int (A8a a b l o).2]:=by
 have key:∀buy sell:Tm,buy.sm→sell.sm→B3l (.int a.name) (.int a.side) (.int a.A0m) (.int a.least) (.int a.A1n) (.int b.name) (.int b.side) (.int b.A0m) (.int b.least) (.int b.A1n) (.int l) (.int o) (buy.ds++sell.ds)=some [.int (A9g a b buy sell l o).1,.int (A9g a b buy sell l o).2]:=by
  intro buy sell h1 h2
  unfold Tm.ds A9g
  dsimp only[aH,aI]
  rw[D4d]
  have e:(if(decide ((D.int o).toInt<(D.int l).toInt))=true then D.int o else D.int l)=D.int (if o<l then o else l):=by
   simp only[D.toInt_int]
   by_cases h:o<l
   ·simp[h]
   ·simp[h]
  have e2:(if(decide ((D.int b.least).toInt>(D.int a.least).toInt))=true then D.int b.least else D.int a.least)=D.int (if b.least>a.least then b.least else a.least):=by
   simp only[D.toInt_int]
   by_cases h:b.least>a.least
   ·simp only[h,Q6,Q5]
   ·simp only[h,Q7,a8,Q4]
  dsimp only
  rw[e,e2]
  generalize (if o<l then o else l)=q
  generalize (if b.least>a.least then b.least else a.least)=m
  simp only[D.toInt_int]
  by_cases a1:buy.side=0
  ·by_cases a2:sell.side=1
   ·by_cases a3:a.name=b.name
    ·have a0:¬(buy.side≠0∨sell.side≠1∨a.name≠b.name):=by simp[a1,a2,a3]
     rw[Q0 a0]
     have s1:(buy.side != 0)=false:=by simp[a1]
     have s2:(sell.side != 1)=false:=by simp[a2]
     have s3:(a.name != b.name)=false:=by simp[a3]
     simp only[s1,s2,s3,a8,Q4]
     by_cases a4:buy.A0m<sell.A0m
     ·simp only[a4,Q6,Q5,true_or]
     by_cases a5:q<1
     ·simp only[a4,a5,Q6,Q7,a8,Q4,Q5,true_or,or_true]
     by_cases a6:q<m
     ·simp only[a4,a5,a6,Q6,Q7,a8,Q4,Q5,or_true]
     have:=H6v sell.A0m buy.A0m (by omega) h2.2.2.1.1 h1.2.2.1.2
     simp only[a4,a5,a6,Q7,a8,Q4,QC,this,A0b,aC,aD,Q5,aE]
    ·simp[a1,a2,a3]
   ·simp[a1,a2]
  ·simp[a1]
 unfold A8a
 by_cases h:a.side=1
 ·have:=key b a hb ha
  unfold Tm.ds at this⊢
  dsimp only[aH,aI]at this⊢
  rw[D3h,Q3 h]
  simp only[D.toInt_int,h,beq_self_eq_true,Q5]at this⊢
  exact this
 ·have:=key a b ha hb
  unfold Tm.ds at this⊢
  dsimp only[aH,aI]at this⊢
  have h':(a.side == 1)=false:=by simp[h]
  rw[D3h,Q0 h]
  simp only[D.toInt_int,h',a8,Q4]
  exact this
end
def wN(x:Nat):D:=D.int (x:Int)
theorem D1y(x:Nat):(wN x).toInt=(x:Int):=rfl
theorem H7p(x:Nat):(wN x).isNil=false:=rfl
theorem rng{n:Nat}{l:List D}(h:l.length=n):((aN n).map fun j=>l.getD j D.nil)=l:=by
 subst h
 apply b8
 ·simp
 ·intro i h1 h2
  simp[aF,aG h2]
theorem St.len(s:St):s.ds.length=5:=by simp only[St.ds,aC,aD]
theorem St.A1f(s:St):s.ds.getD 0 D.nil=.int s.k:=rfl
theorem St.A1i(s:St):s.ds.getD 1 D.nil=.bool s.f:=rfl
theorem St.A1p(s:St):s.ds.getD 2 D.nil=.int s.g:=rfl
theorem St.A1w(s:St):s.ds.getD 3 D.nil=.int s.l:=rfl
theorem St.A1u(s:St):s.ds.getD 4 D.nil=.int s.n:=rfl
theorem Tm.len(s:Tm):s.ds.length=5:=by simp only[Tm.ds,aC,aD]
theorem Tm.A1f(s:Tm):s.ds.getD 0 D.nil=.int s.name:=rfl
theorem Tm.A1i(s:Tm):s.ds.getD 1 D.nil=.int s.side:=rfl
theorem Tm.A1p(s:Tm):s.ds.getD 2 D.nil=.int s.A0m:=rfl
theorem Tm.A1w(s:Tm):s.ds.getD 3 D.nil=.int s.least:=rfl
theorem Tm.A1u(s:Tm):s.ds.getD 4 D.nil=.int s.A1n:=rfl
theorem Rc.len(s:Rc):s.ds.length=6:=by simp only[Rc.ds,aC,aD]
theorem Rc.A1f(s:Rc):s.ds.getD 0 D.nil=.int s.k:=rfl
theorem Rc.A1i(s:Rc):s.ds.getD 1 D.nil=.int s.q:=rfl
theorem Rc.A1p(s:Rc):s.ds.getD 2 D.nil=.int s.p:=rfl
theorem Rc.A1w(s:Rc):s.ds.getD 3 D.nil=.int s.t:=rfl
theorem Rc.A1u(s:Rc):s.ds.getD 4 D.nil=.int s.c:=rfl
theorem Rc.A2m(s:Rc):s.ds.getD 5 D.nil=.int s.g:=rfl
theorem Cf.A1f(s:Cf):s.ds.getD 0 D.nil=.int s.c0:=rfl
theorem Cf.A1i(s:Cf):s.ds.getD 1 D.nil=.int s.c1:=rfl
theorem Cf.A1p(s:Cf):s.ds.getD 2 D.nil=.int s.c2:=rfl
theorem Cf.A1w(s:Cf):s.ds.getD 3 D.nil=.int s.c3:=rfl
theorem Cf.A1u(s:Cf):s.ds.getD 4 D.nil=.int s.c4:=rfl
theorem Cf.A2m(s:Cf):s.ds.getD 5 D.nil=.int s.c5:=rfl
theorem Cf.A3z(s:Cf):s.ds.getD 6 D.nil=.int s.c6:=rfl
structure Ask where
 kind:Int
 id:Int
 cell:Int
 tm:Tm
 qty:Int
def Ask.ds(s:Ask):List D:=[.int s.kind,.int s.id,.int s.cell,.int s.tm.name,.int s.tm.side,.int s.tm.A0m,.int s.tm.least,.int s.tm.A1n,.int s.qty]
theorem Ask.A1f(s:Ask):s.ds.getD 0 D.nil=.int s.kind:=rfl
theorem Ask.A1i(s:Ask):s.ds.getD 1 D.nil=.int s.id:=rfl
theorem Ask.A1p(s:Ask):s.ds.getD 2 D.nil=.int s.cell:=rfl
theorem Ask.A1w(s:Ask):s.ds.getD 3 D.nil=.int s.tm.name:=rfl
theorem Ask.A1u(s:Ask):s.ds.getD 4 D.nil=.int s.tm.side:=rfl
theorem Ask.A2m(s:Ask):s.ds.getD 5 D.nil=.int s.tm.A0m:=rfl
theorem Ask.A3z(s:Ask):s.ds.getD 6 D.nil=.int s.tm.least:=rfl
theorem Ask.A8l(s:Ask):s.ds.getD 7 D.nil=.int s.tm.A1n:=rfl
theorem Ask.A6y(s:Ask):s.ds.getD 8 D.nil=.int s.qty:=rfl
structure Aim where
 way:Int
 x:Int
 gen:Int
 y:Int
 A3y:Int
def Aim.ds(s:Aim):List D:=[.int s.way,.int s.x,.int s.gen,.int s.y,.int s.A3y]
def Aim.d(s:Aim):D:=.agg s.ds
theorem Aim.A1f(s:Aim):s.ds.getD 0 D.nil=.int s.way:=rfl
theorem Aim.A1i(s:Aim):s.ds.getD 1 D.nil=.int s.x:=rfl
theorem Aim.A1p(s:Aim):s.ds.getD 2 D.nil=.int s.gen:=rfl
theorem Aim.A1w(s:Aim):s.ds.getD 3 D.nil=.int s.y:=rfl
theorem Aim.A1u(s:Aim):s.ds.getD 4 D.nil=.int s.A3y:=rfl
structure A5t where
 kind:Int
 left:Int
 F0t:Int
def A5t.ds(s:A5t):List D:=[.int s.kind,.int s.left,.int s.F0t]
def A5t.d(s:A5t):D:=.agg s.ds
theorem A5t.A1f(s:A5t):s.ds.getD 0 D.nil=.int s.kind:=rfl
theorem A5t.A1i(s:A5t):s.ds.getD 1 D.nil=.int s.left:=rfl
theorem A5t.A1p(s:A5t):s.ds.getD 2 D.nil=.int s.F0t:=rfl
structure Ev where
 kind:Int
 cell:Int
 gen:Int
 other:Int
 wth:Int
 tm:Tm
 qty:Int
 A0m:Int
 tick:Int
 fin:Int
def Ev.ds(s:Ev):List D:=[.int s.kind,.int s.cell,.int s.gen,.int s.other,.int s.wth,.int s.tm.name,.int s.tm.side,.int s.tm.A0m,.int s.tm.least,.int s.tm.A1n,.int s.qty,.int s.A0m,.int s.tick,.int s.fin]
def Ev.d(s:Ev):D:=.agg s.ds
theorem Ev.A1f(s:Ev):s.ds.getD 0 D.nil=.int s.kind:=rfl
theorem Ev.A1i(s:Ev):s.ds.getD 1 D.nil=.int s.cell:=rfl
theorem Ev.A1p(s:Ev):s.ds.getD 2 D.nil=.int s.gen:=rfl
theorem Ev.A1w(s:Ev):s.ds.getD 3 D.nil=.int s.other:=rfl
theorem Ev.A1u(s:Ev):s.ds.getD 4 D.nil=.int s.wth:=rfl
theorem Ev.A2m(s:Ev):s.ds.getD 5 D.nil=.int s.tm.name:=rfl
theorem Ev.A3z(s:Ev):s.ds.getD 6 D.nil=.int s.tm.side:=rfl
theorem Ev.A8l(s:Ev):s.ds.getD 7 D.nil=.int s.tm.A0m:=rfl
theorem Ev.A6y(s:Ev):s.ds.getD 8 D.nil=.int s.tm.least:=rfl
theorem Ev.A7f(s:Ev):s.ds.getD 9 D.nil=.int s.tm.A1n:=rfl
theorem Ev.B4m(s:Ev):s.ds.getD 10 D.nil=.int s.qty:=rfl
theorem Ev.B0v(s:Ev):s.ds.getD 11 D.nil=.int s.A0m:=rfl
theorem Ev.A9w(s:Ev):s.ds.getD 12 D.nil=.int s.tick:=rfl
theorem Ev.B0q(s:Ev):s.ds.getD 13 D.nil=.int s.fin:=rfl
structure Cur where
 gen:Int
 n:Int
def Cur.ds(s:Cur):List D:=[.int s.gen,.int s.n]
def Cur.d(s:Cur):D:=.agg s.ds
theorem Cur.A1f(s:Cur):s.ds.getD 0 D.nil=.int s.gen:=rfl
theorem Cur.A1i(s:Cur):s.ds.getD 1 D.nil=.int s.n:=rfl
structure Qe where
 a:Ask
 ev:Int
def Qe.ds(s:Qe):List D:=[.int s.a.kind,.int s.a.id,.int s.a.cell,.int s.a.tm.name,.int s.a.tm.side,.int s.a.tm.A0m,.int s.a.tm.least,.int s.a.tm.A1n,.int s.a.qty,.int s.ev]
def Qe.d(s:Qe):D:=.agg s.ds
theorem Qe.A1f(s:Qe):s.ds.getD 0 D.nil=.int s.a.kind:=rfl
theorem Qe.A1i(s:Qe):s.ds.getD 1 D.nil=.int s.a.id:=rfl
theorem Qe.A1p(s:Qe):s.ds.getD 2 D.nil=.int s.a.cell:=rfl
theorem Qe.A1w(s:Qe):s.ds.getD 3 D.nil=.int s.a.tm.name:=rfl
theorem Qe.A1u(s:Qe):s.ds.getD 4 D.nil=.int s.a.tm.side:=rfl
theorem Qe.A2m(s:Qe):s.ds.getD 5 D.nil=.int s.a.tm.A0m:=rfl
theorem Qe.A3z(s:Qe):s.ds.getD 6 D.nil=.int s.a.tm.least:=rfl
theorem Qe.A8l(s:Qe):s.ds.getD 7 D.nil=.int s.a.tm.A1n:=rfl
theorem Qe.A6y(s:Qe):s.ds.getD 8 D.nil=.int s.a.qty:=rfl
theorem Qe.A7f(s:Qe):s.ds.getD 9 D.nil=.int s.ev:=rfl
structure Dr where
 n:Int
 ev:Int
def Dr.ds(s:Dr):List D:=[.int s.n,.int s.ev]
def Dr.d(s:Dr):D:=.agg s.ds
theorem Dr.A1f(s:Dr):s.ds.getD 0 D.nil=.int s.n:=rfl
theorem Dr.A1i(s:Dr):s.ds.getD 1 D.nil=.int s.ev:=rfl
structure Rep where
 kind:Int
 code:Int
 tick:Int
 id:Int
 cell:Int
 asked:Bool
 rc:Rc
 looks:List A5t
def Rep.ds(s:Rep):List D:=[.int s.kind,.int s.code,.int s.tick,.int s.id,.int s.cell,.bool s.asked,.int s.rc.k,.int s.rc.q,.int s.rc.p,.int s.rc.t,.int s.rc.c,.int s.rc.g,.agg (s.looks.map A5t.d)]
def Rep.d(s:Rep):D:=.agg s.ds
theorem Rep.A1f(s:Rep):s.ds.getD 0 D.nil=.int s.kind:=rfl
theorem Rep.A1i(s:Rep):s.ds.getD 1 D.nil=.int s.code:=rfl
theorem Rep.A1p(s:Rep):s.ds.getD 2 D.nil=.int s.tick:=rfl
theorem Rep.A1w(s:Rep):s.ds.getD 3 D.nil=.int s.id:=rfl
theorem Rep.A1u(s:Rep):s.ds.getD 4 D.nil=.int s.cell:=rfl
theorem Rep.A2m(s:Rep):s.ds.getD 5 D.nil=.bool s.asked:=rfl
theorem Rep.A3z(s:Rep):s.ds.getD 6 D.nil=.int s.rc.k:=rfl
theorem Rep.A8l(s:Rep):s.ds.getD 7 D.nil=.int s.rc.q:=rfl
theorem Rep.A6y(s:Rep):s.ds.getD 8 D.nil=.int s.rc.p:=rfl
theorem Rep.A7f(s:Rep):s.ds.getD 9 D.nil=.int s.rc.t:=rfl
theorem Rep.B4m(s:Rep):s.ds.getD 10 D.nil=.int s.rc.c:=rfl
theorem Rep.B0v(s:Rep):s.ds.getD 11 D.nil=.int s.rc.g:=rfl
theorem Rep.A9w(s:Rep):s.ds.getD 12 D.nil=.agg (s.looks.map A5t.d):=rfl
structure Out where
 part:Int
 ev:Int
 r:Rep
def Out.ds(s:Out):List D:=[.int s.part,.int s.ev,.int s.r.kind,.int s.r.code,.int s.r.tick,.int s.r.id,.int s.r.cell,.bool s.r.asked,.int s.r.rc.k,.int s.r.rc.q,.int s.r.rc.p,.int s.r.rc.t,.int s.r.rc.c,.int s.r.rc.g,.agg (s.r.looks.map A5t.d)]
def Out.d(s:Out):D:=.agg s.ds
theorem Out.A1f(s:Out):s.ds.getD 0 D.nil=.int s.part:=rfl
theorem Out.A1i(s:Out):s.ds.getD 1 D.nil=.int s.ev:=rfl
theorem Out.A1p(s:Out):s.ds.getD 2 D.nil=.int s.r.kind:=rfl
theorem Out.A1w(s:Out):s.ds.getD 3 D.nil=.int s.r.code:=rfl
theorem Out.A1u(s:Out):s.ds.getD 4 D.nil=.int s.r.tick:=rfl
theorem Out.A2m(s:Out):s.ds.getD 5 D.nil=.int s.r.id:=rfl
theorem Out.A3z(s:Out):s.ds.getD 6 D.nil=.int s.r.cell:=rfl
theorem Out.A8l(s:Out):s.ds.getD 7 D.nil=.bool s.r.asked:=rfl
theorem Out.A6y(s:Out):s.ds.getD 8 D.nil=.int s.r.rc.k:=rfl
theorem Out.A7f(s:Out):s.ds.getD 9 D.nil=.int s.r.rc.q:=rfl
theorem Out.B4m(s:Out):s.ds.getD 10 D.nil=.int s.r.rc.p:=rfl
theorem Out.B0v(s:Out):s.ds.getD 11 D.nil=.int s.r.rc.t:=rfl
theorem Out.A9w(s:Out):s.ds.getD 12 D.nil=.int s.r.rc.c:=rfl
theorem Out.B0q(s:Out):s.ds.getD 13 D.nil=.int s.r.rc.g:=rfl
theorem Out.B3m(s:Out):s.ds.getD 14 D.nil=.agg (s.r.looks.map A5t.d):=rfl
structure A0a where
 a:Aim
 pc:Int
 wx:Nat
 wy:Nat
 tx:Tm
 ty:Tm
 held:Bool
 made:Bool
 free:Bool
 q:Int
 p:Int
 at_:Int
 fin:Int
 nx:St
 ny:St
def A0a.ds(s:A0a):List D:=[.int s.a.way,.int s.a.x,.int s.a.gen,.int s.a.y,.int s.a.A3y,.int s.pc,wN s.wx,wN s.wy,.int s.tx.name,.int s.tx.side,.int s.tx.A0m,.int s.tx.least,.int s.tx.A1n,.int s.ty.name,.int s.ty.side,.int s.ty.A0m,.int s.ty.least,.int s.ty.A1n,.bool s.held,.bool s.made,.bool s.free,.int s.q,.int s.p,.int s.at_,.int s.fin,.int s.nx.k,.bool s.nx.f,.int s.nx.g,.int s.nx.l,.int s.nx.n,.int s.ny.k,.bool s.ny.f,.int s.ny.g,.int s.ny.l,.int s.ny.n]
theorem A0a.len(s:A0a):s.ds.length=35:=by simp only[A0a.ds,aC,aD]
theorem A0a.rng(s:A0a):((aN 35).map fun j=>s.ds.getD j D.nil)=s.ds:=P.rng s.len
theorem A0a.A1f(s:A0a):s.ds.getD 0 D.nil=.int s.a.way:=rfl
theorem A0a.B8n(s:A0a)(x:Int):s.ds.set 0 (.int x)=A0a.ds {s with a:={s.a with way:=x}}:=rfl
theorem A0a.A1i(s:A0a):s.ds.getD 1 D.nil=.int s.a.x:=rfl
theorem A0a.B3v(s:A0a)(x:Int):s.ds.set 1 (.int x)=A0a.ds {s with a:={s.a with x:=x}}:=rfl
theorem A0a.A1p(s:A0a):s.ds.getD 2 D.nil=.int s.a.gen:=rfl
theorem A0a.B6r(s:A0a)(x:Int):s.ds.set 2 (.int x)=A0a.ds {s with a:={s.a with gen:=x}}:=rfl
theorem A0a.A1w(s:A0a):s.ds.getD 3 D.nil=.int s.a.y:=rfl
theorem A0a.B6t(s:A0a)(x:Int):s.ds.set 3 (.int x)=A0a.ds {s with a:={s.a with y:=x}}:=rfl
theorem A0a.A1u(s:A0a):s.ds.getD 4 D.nil=.int s.a.A3y:=rfl
theorem A0a.B0e(s:A0a)(x:Int):s.ds.set 4 (.int x)=A0a.ds {s with a:={s.a with A3y:=x}}:=rfl
theorem A0a.A2m(s:A0a):s.ds.getD 5 D.nil=.int s.pc:=rfl
theorem A0a.B6n(s:A0a)(x:Int):s.ds.set 5 (.int x)=A0a.ds {s with pc:=x}:=rfl
theorem A0a.A3z(s:A0a):s.ds.getD 6 D.nil=wN s.wx:=rfl
theorem A0a.B7u(s:A0a)(x:Nat):s.ds.set 6 (wN x)=A0a.ds {s with wx:=x}:=rfl
theorem A0a.A8l(s:A0a):s.ds.getD 7 D.nil=wN s.wy:=rfl
theorem A0a.D1k(s:A0a)(x:Nat):s.ds.set 7 (wN x)=A0a.ds {s with wy:=x}:=rfl
theorem A0a.A6y(s:A0a):s.ds.getD 8 D.nil=.int s.tx.name:=rfl
theorem A0a.E1h(s:A0a)(x:Int):s.ds.set 8 (.int x)=A0a.ds {s with tx:={s.tx with name:=x}}:=rfl
theorem A0a.A7f(s:A0a):s.ds.getD 9 D.nil=.int s.tx.side:=rfl
theorem A0a.B8c(s:A0a)(x:Int):s.ds.set 9 (.int x)=A0a.ds {s with tx:={s.tx with side:=x}}:=rfl
theorem A0a.B4m(s:A0a):s.ds.getD 10 D.nil=.int s.tx.A0m:=rfl
theorem A0a.D7r(s:A0a)(x:Int):s.ds.set 10 (.int x)=A0a.ds {s with tx:={s.tx with A0m:=x}}:=rfl
theorem A0a.B0v(s:A0a):s.ds.getD 11 D.nil=.int s.tx.least:=rfl
theorem A0a.C5w(s:A0a)(x:Int):s.ds.set 11 (.int x)=A0a.ds {s with tx:={s.tx with least:=x}}:=rfl
theorem A0a.A9w(s:A0a):s.ds.getD 12 D.nil=.int s.tx.A1n:=rfl
theorem A0a.C6p(s:A0a)(x:Int):s.ds.set 12 (.int x)=A0a.ds {s with tx:={s.tx with A1n:=x}}:=rfl
theorem A0a.B0q(s:A0a):s.ds.getD 13 D.nil=.int s.ty.name:=rfl
theorem A0a.C7a(s:A0a)(x:Int):s.ds.set 13 (.int x)=A0a.ds {s with ty:={s.ty with name:=x}}:=rfl
theorem A0a.B3m(s:A0a):s.ds.getD 14 D.nil=.int s.ty.side:=rfl
theorem A0a.C2m(s:A0a)(x:Int):s.ds.set 14 (.int x)=A0a.ds {s with ty:={s.ty with side:=x}}:=rfl
theorem A0a.B8h(s:A0a):s.ds.getD 15 D.nil=.int s.ty.A0m:=rfl
theorem A0a.D2s(s:A0a)(x:Int):s.ds.set 15 (.int x)=A0a.ds {s with ty:={s.ty with A0m:=x}}:=rfl
theorem A0a.E2c(s:A0a):s.ds.getD 16 D.nil=.int s.ty.least:=rfl
theorem A0a.G3n(s:A0a)(x:Int):s.ds.set 16 (.int x)=A0a.ds {s with ty:={s.ty with least:=x}}:=rfl
theorem A0a.C6f(s:A0a):s.ds.getD 17 D.nil=.int s.ty.A1n:=rfl
theorem A0a.D7d(s:A0a)(x:Int):s.ds.set 17 (.int x)=A0a.ds {s with ty:={s.ty with A1n:=x}}:=rfl
theorem A0a.C9t(s:A0a):s.ds.getD 18 D.nil=.bool s.held:=rfl
theorem A0a.H2z(s:A0a)(x:Bool):s.ds.set 18 (.bool x)=A0a.ds {s with held:=x}:=rfl
theorem A0a.D7x(s:A0a):s.ds.getD 19 D.nil=.bool s.made:=rfl
theorem A0a.G1h(s:A0a)(x:Bool):s.ds.set 19 (.bool x)=A0a.ds {s with made:=x}:=rfl
theorem A0a.D0l(s:A0a):s.ds.getD 20 D.nil=.bool s.free:=rfl
theorem A0a.E3d(s:A0a)(x:Bool):s.ds.set 20 (.bool x)=A0a.ds {s with free:=x}:=rfl
theorem A0a.D2p(s:A0a):s.ds.getD 21 D.nil=.int s.q:=rfl
theorem A0a.F1a(s:A0a)(x:Int):s.ds.set 21 (.int x)=A0a.ds {s with q:=x}:=rfl
theorem A0a.E5c(s:A0a):s.ds.getD 22 D.nil=.int s.p:=rfl
theorem A0a.F0n(s:A0a)(x:Int):s.ds.set 22 (.int x)=A0a.ds {s with p:=x}:=rfl
theorem A0a.E2e(s:A0a):s.ds.getD 23 D.nil=.int s.at_:=rfl
theorem A0a.G1y(s:A0a)(x:Int):s.ds.set 23 (.int x)=A0a.ds {s with at_:=x}:=rfl
theorem A0a.F1u(s:A0a):s.ds.getD 24 D.nil=.int s.fin:=rfl
theorem A0a.G1e(s:A0a)(x:Int):s.ds.set 24 (.int x)=A0a.ds {s with fin:=x}:=rfl
theorem A0a.F0y(s:A0a):s.ds.getD 25 D.nil=.int s.nx.k:=rfl
theorem A0a.E1u(s:A0a)(x:Int):s.ds.set 25 (.int x)=A0a.ds {s with nx:={s.nx with k:=x}}:=rfl
theorem A0a.F0r(s:A0a):s.ds.getD 26 D.nil=.bool s.nx.f:=rfl
theorem A0a.E3g(s:A0a)(x:Bool):s.ds.set 26 (.bool x)=A0a.ds {s with nx:={s.nx with f:=x}}:=rfl
theorem A0a.F0q(s:A0a):s.ds.getD 27 D.nil=.int s.nx.g:=rfl
theorem A0a.E2a(s:A0a)(x:Int):s.ds.set 27 (.int x)=A0a.ds {s with nx:={s.nx with g:=x}}:=rfl
theorem A0a.F1k(s:A0a):s.ds.getD 28 D.nil=.int s.nx.l:=rfl
theorem A0a.E4v(s:A0a)(x:Int):s.ds.set 28 (.int x)=A0a.ds {s with nx:={s.nx with l:=x}}:=rfl
theorem A0a.F1e(s:A0a):s.ds.getD 29 D.nil=.int s.nx.n:=rfl
theorem A0a.E3l(s:A0a)(x:Int):s.ds.set 29 (.int x)=A0a.ds {s with nx:={s.nx with n:=x}}:=rfl
theorem A0a.F1l(s:A0a):s.ds.getD 30 D.nil=.int s.ny.k:=rfl
theorem A0a.F0p(s:A0a)(x:Int):s.ds.set 30 (.int x)=A0a.ds {s with ny:={s.ny with k:=x}}:=rfl
theorem A0a.F1t(s:A0a):s.ds.getD 31 D.nil=.bool s.ny.f:=rfl
theorem A0a.F0v(s:A0a)(x:Bool):s.ds.set 31 (.bool x)=A0a.ds {s with ny:={s.ny with f:=x}}:=rfl
theorem A0a.F1c(s:A0a):s.ds.getD 32 D.nil=.int s.ny.g:=rfl
theorem A0a.F0o(s:A0a)(x:Int):s.ds.set 32 (.int x)=A0a.ds {s with ny:={s.ny with g:=x}}:=rfl
theorem A0a.F1m(s:A0a):s.ds.getD 33 D.nil=.int s.ny.l:=rfl
theorem A0a.F1r(s:A0a)(x:Int):s.ds.set 33 (.int x)=A0a.ds {s with ny:={s.ny with l:=x}}:=rfl
theorem A0a.E5f(s:A0a):s.ds.getD 34 D.nil=.int s.ny.n:=rfl
theorem A0a.F1f(s:A0a)(x:Int):s.ds.set 34 (.int x)=A0a.ds {s with ny:={s.ny with n:=x}}:=rfl
structure PrS where
 a:Ask
 pc:Int
 word:Nat
 st:St
 tries:Int
 done:Int
 at_:Int
 p:D
 n:Int
 A3x:List Aim
 r0:Rc
 r1:Rc
 looks:List A5t
 draw:D
def PrS.ds(s:PrS):List D:=[.int s.a.kind,.int s.a.id,.int s.a.cell,.int s.a.tm.name,.int s.a.tm.side,.int s.a.tm.A0m,.int s.a.tm.least,.int s.a.tm.A1n,.int s.a.qty,.int s.pc,wN s.word,.int s.st.k,.bool s.st.f,.int s.st.g,.int s.st.l,.int s.st.n,.int s.tries,.int s.done,.int s.at_,s.p,.int s.n,.agg (s.A3x.map Aim.d),.int s.r0.k,.int s.r0.q,.int s.r0.p,.int s.r0.t,.int s.r0.c,.int s.r0.g,.int s.r1.k,.int s.r1.q,.int s.r1.p,.int s.r1.t,.int s.r1.c,.int s.r1.g,.agg (s.looks.map A5t.d),s.draw]
theorem PrS.len(s:PrS):s.ds.length=36:=by simp only[PrS.ds,aC,aD]
theorem PrS.rng(s:PrS):((aN 36).map fun j=>s.ds.getD j D.nil)=s.ds:=P.rng s.len
theorem PrS.A1f(s:PrS):s.ds.getD 0 D.nil=.int s.a.kind:=rfl
theorem PrS.B8n(s:PrS)(x:Int):s.ds.set 0 (.int x)=PrS.ds {s with a:={s.a with kind:=x}}:=rfl
theorem PrS.A1i(s:PrS):s.ds.getD 1 D.nil=.int s.a.id:=rfl
theorem PrS.B3v(s:PrS)(x:Int):s.ds.set 1 (.int x)=PrS.ds {s with a:={s.a with id:=x}}:=rfl
theorem PrS.A1p(s:PrS):s.ds.getD 2 D.nil=.int s.a.cell:=rfl
theorem PrS.B6r(s:PrS)(x:Int):s.ds.set 2 (.int x)=PrS.ds {s with a:={s.a with cell:=x}}:=rfl
theorem PrS.A1w(s:PrS):s.ds.getD 3 D.nil=.int s.a.tm.name:=rfl
theorem PrS.B6t(s:PrS)(x:Int):s.ds.set 3 (.int x)=PrS.ds {s with a:={s.a with tm:={s.a.tm with name:=x}}}:=rfl
theorem PrS.A1u(s:PrS):s.ds.getD 4 D.nil=.int s.a.tm.side:=rfl
theorem PrS.B0e(s:PrS)(x:Int):s.ds.set 4 (.int x)=PrS.ds {s with a:={s.a with tm:={s.a.tm with side:=x}}}:=rfl
theorem PrS.A2m(s:PrS):s.ds.getD 5 D.nil=.int s.a.tm.A0m:=rfl
theorem PrS.B6n(s:PrS)(x:Int):s.ds.set 5 (.int x)=PrS.ds {s with a:={s.a with tm:={s.a.tm with A0m:=x}}}:=rfl
theorem PrS.A3z(s:PrS):s.ds.getD 6 D.nil=.int s.a.tm.least:=rfl
theorem PrS.B7u(s:PrS)(x:Int):s.ds.set 6 (.int x)=PrS.ds {s with a:={s.a with tm:={s.a.tm with least:=x}}}:=rfl
theorem PrS.A8l(s:PrS):s.ds.getD 7 D.nil=.int s.a.tm.A1n:=rfl
theorem PrS.D1k(s:PrS)(x:Int):s.ds.set 7 (.int x)=PrS.ds {s with a:={s.a with tm:={s.a.tm with A1n:=x}}}:=rfl
theorem PrS.A6y(s:PrS):s.ds.getD 8 D.nil=.int s.a.qty:=rfl
theorem PrS.E1h(s:PrS)(x:Int):s.ds.set 8 (.int x)=PrS.ds {s with a:={s.a with qty:=x}}:=rfl
theorem PrS.A7f(s:PrS):s.ds.getD 9 D.nil=.int s.pc:=rfl
theorem PrS.B8c(s:PrS)(x:Int):s.ds.set 9 (.int x)=PrS.ds {s with pc:=x}:=rfl
theorem PrS.B4m(s:PrS):s.ds.getD 10 D.nil=wN s.word:=rfl
theorem PrS.D7r(s:PrS)(x:Nat):s.ds.set 10 (wN x)=PrS.ds {s with word:=x}:=rfl
theorem PrS.B0v(s:PrS):s.ds.getD 11 D.nil=.int s.st.k:=rfl
theorem PrS.C5w(s:PrS)(x:Int):s.ds.set 11 (.int x)=PrS.ds {s with st:={s.st with k:=x}}:=rfl
theorem PrS.A9w(s:PrS):s.ds.getD 12 D.nil=.bool s.st.f:=rfl
theorem PrS.C6p(s:PrS)(x:Bool):s.ds.set 12 (.bool x)=PrS.ds {s with st:={s.st with f:=x}}:=rfl
theorem PrS.B0q(s:PrS):s.ds.getD 13 D.nil=.int s.st.g:=rfl
theorem PrS.C7a(s:PrS)(x:Int):s.ds.set 13 (.int x)=PrS.ds {s with st:={s.st with g:=x}}:=rfl
theorem PrS.B3m(s:PrS):s.ds.getD 14 D.nil=.int s.st.l:=rfl
theorem PrS.C2m(s:PrS)(x:Int):s.ds.set 14 (.int x)=PrS.ds {s with st:={s.st with l:=x}}:=rfl
theorem PrS.B8h(s:PrS):s.ds.getD 15 D.nil=.int s.st.n:=rfl
theorem PrS.D2s(s:PrS)(x:Int):s.ds.set 15 (.int x)=PrS.ds {s with st:={s.st with n:=x}}:=rfl
theorem PrS.E2c(s:PrS):s.ds.getD 16 D.nil=.int s.tries:=rfl
theorem PrS.G3n(s:PrS)(x:Int):s.ds.set 16 (.int x)=PrS.ds {s with tries:=x}:=rfl
theorem PrS.C6f(s:PrS):s.ds.getD 17 D.nil=.int s.done:=rfl
theorem PrS.D7d(s:PrS)(x:Int):s.ds.set 17 (.int x)=PrS.ds {s with done:=x}:=rfl
theorem PrS.C9t(s:PrS):s.ds.getD 18 D.nil=.int s.at_:=rfl
theorem PrS.H2z(s:PrS)(x:Int):s.ds.set 18 (.int x)=PrS.ds {s with at_:=x}:=rfl
theorem PrS.D7x(s:PrS):s.ds.getD 19 D.nil=s.p:=rfl
theorem PrS.G1h(s:PrS)(x:D):s.ds.set 19 (x)=PrS.ds {s with p:=x}:=rfl
theorem PrS.D0l(s:PrS):s.ds.getD 20 D.nil=.int s.n:=rfl
theorem PrS.E3d(s:PrS)(x:Int):s.ds.set 20 (.int x)=PrS.ds {s with n:=x}:=rfl
theorem PrS.D2p(s:PrS):s.ds.getD 21 D.nil=.agg (s.A3x.map Aim.d):=rfl
theorem PrS.F1a(s:PrS)(x:List Aim):s.ds.set 21 (.agg (x.map Aim.d))=PrS.ds {s with A3x:=x}:=rfl
theorem PrS.E5c(s:PrS):s.ds.getD 22 D.nil=.int s.r0.k:=rfl
theorem PrS.F0n(s:PrS)(x:Int):s.ds.set 22 (.int x)=PrS.ds {s with r0:={s.r0 with k:=x}}:=rfl
theorem PrS.E2e(s:PrS):s.ds.getD 23 D.nil=.int s.r0.q:=rfl
theorem PrS.G1y(s:PrS)(x:Int):s.ds.set 23 (.int x)=PrS.ds {s with r0:={s.r0 with q:=x}}:=rfl
theorem PrS.F1u(s:PrS):s.ds.getD 24 D.nil=.int s.r0.p:=rfl
theorem PrS.G1e(s:PrS)(x:Int):s.ds.set 24 (.int x)=PrS.ds {s with r0:={s.r0 with p:=x}}:=rfl
theorem PrS.F0y(s:PrS):s.ds.getD 25 D.nil=.int s.r0.t:=rfl
theorem PrS.E1u(s:PrS)(x:Int):s.ds.set 25 (.int x)=PrS.ds {s with r0:={s.r0 with t:=x}}:=rfl
theorem PrS.F0r(s:PrS):s.ds.getD 26 D.nil=.int s.r0.c:=rfl
theorem PrS.E3g(s:PrS)(x:Int):s.ds.set 26 (.int x)=PrS.ds {s with r0:={s.r0 with c:=x}}:=rfl
theorem PrS.F0q(s:PrS):s.ds.getD 27 D.nil=.int s.r0.g:=rfl
theorem PrS.E2a(s:PrS)(x:Int):s.ds.set 27 (.int x)=PrS.ds {s with r0:={s.r0 with g:=x}}:=rfl
theorem PrS.F1k(s:PrS):s.ds.getD 28 D.nil=.int s.r1.k:=rfl
theorem PrS.E4v(s:PrS)(x:Int):s.ds.set 28 (.int x)=PrS.ds {s with r1:={s.r1 with k:=x}}:=rfl
theorem PrS.F1e(s:PrS):s.ds.getD 29 D.nil=.int s.r1.q:=rfl
theorem PrS.E3l(s:PrS)(x:Int):s.ds.set 29 (.int x)=PrS.ds {s with r1:={s.r1 with q:=x}}:=rfl
theorem PrS.F1l(s:PrS):s.ds.getD 30 D.nil=.int s.r1.p:=rfl
theorem PrS.F0p(s:PrS)(x:Int):s.ds.set 30 (.int x)=PrS.ds {s with r1:={s.r1 with p:=x}}:=rfl
theorem PrS.F1t(s:PrS):s.ds.getD 31 D.nil=.int s.r1.t:=rfl
theorem PrS.F0v(s:PrS)(x:Int):s.ds.set 31 (.int x)=PrS.ds {s with r1:={s.r1 with t:=x}}:=rfl
theorem PrS.F1c(s:PrS):s.ds.getD 32 D.nil=.int s.r1.c:=rfl
theorem PrS.F0o(s:PrS)(x:Int):s.ds.set 32 (.int x)=PrS.ds {s with r1:={s.r1 with c:=x}}:=rfl
theorem PrS.F1m(s:PrS):s.ds.getD 33 D.nil=.int s.r1.g:=rfl
theorem PrS.F1r(s:PrS)(x:Int):s.ds.set 33 (.int x)=PrS.ds {s with r1:={s.r1 with g:=x}}:=rfl
theorem PrS.E5f(s:PrS):s.ds.getD 34 D.nil=.agg (s.looks.map A5t.d):=rfl
theorem PrS.F1f(s:PrS)(x:List A5t):s.ds.set 34 (.agg (x.map A5t.d))=PrS.ds {s with looks:=x}:=rfl
theorem PrS.H8l(s:PrS):s.ds.getD 35 D.nil=s.draw:=rfl
structure A0l where
 part:Int
 last:Int
 ids:List Int
 A4h:List Int
 A8f:List Cur
def A0l.ds(s:A0l):List D:=[.int s.part,.int s.last,.agg (s.ids.map D.int),.agg (s.A4h.map D.int),.agg (s.A8f.map Cur.d)]
theorem A0l.len(s:A0l):s.ds.length=5:=by simp only[A0l.ds,aC,aD]
theorem A0l.rng(s:A0l):((aN 5).map fun j=>s.ds.getD j D.nil)=s.ds:=P.rng s.len
theorem A0l.A1f(s:A0l):s.ds.getD 0 D.nil=.int s.part:=rfl
theorem A0l.B8n(s:A0l)(x:Int):s.ds.set 0 (.int x)=A0l.ds {s with part:=x}:=rfl
theorem A0l.A1i(s:A0l):s.ds.getD 1 D.nil=.int s.last:=rfl
theorem A0l.B3v(s:A0l)(x:Int):s.ds.set 1 (.int x)=A0l.ds {s with last:=x}:=rfl
theorem A0l.A1p(s:A0l):s.ds.getD 2 D.nil=.agg (s.ids.map D.int):=rfl
theorem A0l.B6r(s:A0l)(x:List Int):s.ds.set 2 (.agg (x.map D.int))=A0l.ds {s with ids:=x}:=rfl
theorem A0l.A1w(s:A0l):s.ds.getD 3 D.nil=.agg (s.A4h.map D.int):=rfl
theorem A0l.B6t(s:A0l)(x:List Int):s.ds.set 3 (.agg (x.map D.int))=A0l.ds {s with A4h:=x}:=rfl
theorem A0l.A1u(s:A0l):s.ds.getD 4 D.nil=.agg (s.A8f.map Cur.d):=rfl
theorem A0l.B0e(s:A0l)(x:List Cur):s.ds.set 4 (.agg (x.map Cur.d))=A0l.ds {s with A8f:=x}:=rfl
structure A0k where
 s:D
 queue:List Qe
 now:D
 ev:Int
 tape:List Dr
 taken:Int
def A0k.ds(s:A0k):List D:=[s.s,.agg (s.queue.map Qe.d),s.now,.int s.ev,.agg (s.tape.map Dr.d),.int s.taken]
theorem A0k.len(s:A0k):s.ds.length=6:=by simp only[A0k.ds,aC,aD]
theorem A0k.rng(s:A0k):((aN 6).map fun j=>s.ds.getD j D.nil)=s.ds:=P.rng s.len
theorem A0k.A1f(s:A0k):s.ds.getD 0 D.nil=s.s:=rfl
theorem A0k.B8n(s:A0k)(x:D):s.ds.set 0 (x)=A0k.ds {s with s:=x}:=rfl
theorem A0k.A1i(s:A0k):s.ds.getD 1 D.nil=.agg (s.queue.map Qe.d):=rfl
theorem A0k.B3v(s:A0k)(x:List Qe):s.ds.set 1 (.agg (x.map Qe.d))=A0k.ds {s with queue:=x}:=rfl
theorem A0k.A1p(s:A0k):s.ds.getD 2 D.nil=s.now:=rfl
theorem A0k.B6r(s:A0k)(x:D):s.ds.set 2 (x)=A0k.ds {s with now:=x}:=rfl
theorem A0k.A1w(s:A0k):s.ds.getD 3 D.nil=.int s.ev:=rfl
theorem A0k.B6t(s:A0k)(x:Int):s.ds.set 3 (.int x)=A0k.ds {s with ev:=x}:=rfl
theorem A0k.A1u(s:A0k):s.ds.getD 4 D.nil=.agg (s.tape.map Dr.d):=rfl
theorem A0k.B0e(s:A0k)(x:List Dr):s.ds.set 4 (.agg (x.map Dr.d))=A0k.ds {s with tape:=x}:=rfl
theorem A0k.A2m(s:A0k):s.ds.getD 5 D.nil=.int s.taken:=rfl
theorem A0k.B6n(s:A0k)(x:Int):s.ds.set 5 (.int x)=A0k.ds {s with taken:=x}:=rfl
structure A0e where
 w:D
 A0c:List D
 C4w:List D
 D0j:List D
 events:Int
 outs:List Out
 A0u:List Int
 lines:List Int
def A0e.ds(s:A0e):List D:=[s.w,.agg s.A0c,.agg s.C4w,.agg s.D0j,.int s.events,.agg (s.outs.map Out.d),.agg (s.A0u.map D.int),.agg (s.lines.map D.int)]
theorem A0e.len(s:A0e):s.ds.length=8:=by simp only[A0e.ds,aC,aD]
theorem A0e.rng(s:A0e):((aN 8).map fun j=>s.ds.getD j D.nil)=s.ds:=P.rng s.len
theorem A0e.A1f(s:A0e):s.ds.getD 0 D.nil=s.w:=rfl
theorem A0e.B8n(s:A0e)(x:D):s.ds.set 0 (x)=A0e.ds {s with w:=x}:=rfl
theorem A0e.A1i(s:A0e):s.ds.getD 1 D.nil=.agg s.A0c:=rfl
theorem A0e.B3v(s:A0e)(x:List D):s.ds.set 1 (.agg x)=A0e.ds {s with A0c:=x}:=rfl
theorem A0e.A1p(s:A0e):s.ds.getD 2 D.nil=.agg s.C4w:=rfl
theorem A0e.B6r(s:A0e)(x:List D):s.ds.set 2 (.agg x)=A0e.ds {s with C4w:=x}:=rfl
theorem A0e.A1w(s:A0e):s.ds.getD 3 D.nil=.agg s.D0j:=rfl
theorem A0e.B6t(s:A0e)(x:List D):s.ds.set 3 (.agg x)=A0e.ds {s with D0j:=x}:=rfl
theorem A0e.A1u(s:A0e):s.ds.getD 4 D.nil=.int s.events:=rfl
theorem A0e.B0e(s:A0e)(x:Int):s.ds.set 4 (.int x)=A0e.ds {s with events:=x}:=rfl
theorem A0e.A2m(s:A0e):s.ds.getD 5 D.nil=.agg (s.outs.map Out.d):=rfl
theorem A0e.B6n(s:A0e)(x:List Out):s.ds.set 5 (.agg (x.map Out.d))=A0e.ds {s with outs:=x}:=rfl
theorem A0e.A3z(s:A0e):s.ds.getD 6 D.nil=.agg (s.A0u.map D.int):=rfl
theorem A0e.B7u(s:A0e)(x:List Int):s.ds.set 6 (.agg (x.map D.int))=A0e.ds {s with A0u:=x}:=rfl
theorem A0e.A8l(s:A0e):s.ds.getD 7 D.nil=.agg (s.lines.map D.int):=rfl
theorem A0e.D1k(s:A0e)(x:List Int):s.ds.set 7 (.agg (x.map D.int))=A0e.ds {s with lines:=x}:=rfl
structure SwS where
 A3y:Int
 at_:Int
 A8c:Int
 p:D
def SwS.ds(s:SwS):List D:=[.int s.A3y,.int s.at_,.int s.A8c,s.p]
theorem SwS.len(s:SwS):s.ds.length=4:=by simp only[SwS.ds,aC,aD]
theorem SwS.rng(s:SwS):((aN 4).map fun j=>s.ds.getD j D.nil)=s.ds:=P.rng s.len
theorem SwS.A1f(s:SwS):s.ds.getD 0 D.nil=.int s.A3y:=rfl
theorem SwS.B8n(s:SwS)(x:Int):s.ds.set 0 (.int x)=SwS.ds {s with A3y:=x}:=rfl
theorem SwS.A1i(s:SwS):s.ds.getD 1 D.nil=.int s.at_:=rfl
theorem SwS.B3v(s:SwS)(x:Int):s.ds.set 1 (.int x)=SwS.ds {s with at_:=x}:=rfl
theorem SwS.A1p(s:SwS):s.ds.getD 2 D.nil=.int s.A8c:=rfl
theorem SwS.B6r(s:SwS)(x:Int):s.ds.set 2 (.int x)=SwS.ds {s with A8c:=x}:=rfl
theorem SwS.A1w(s:SwS):s.ds.getD 3 D.nil=s.p:=rfl
theorem SwS.B6t(s:SwS)(x:D):s.ds.set 3 (x)=SwS.ds {s with p:=x}:=rfl
structure ReS where
 A3y:Int
 pc:Int
 A8c:Int
 word:Nat
 st:St
 tm:Tm
 done:Bool
 at_:Int
def ReS.ds(s:ReS):List D:=[.int s.A3y,.int s.pc,.int s.A8c,wN s.word,.int s.st.k,.bool s.st.f,.int s.st.g,.int s.st.l,.int s.st.n,.int s.tm.name,.int s.tm.side,.int s.tm.A0m,.int s.tm.least,.int s.tm.A1n,.bool s.done,.int s.at_]
theorem ReS.len(s:ReS):s.ds.length=16:=by simp only[ReS.ds,aC,aD]
theorem ReS.rng(s:ReS):((aN 16).map fun j=>s.ds.getD j D.nil)=s.ds:=P.rng s.len
theorem ReS.A1f(s:ReS):s.ds.getD 0 D.nil=.int s.A3y:=rfl
theorem ReS.B8n(s:ReS)(x:Int):s.ds.set 0 (.int x)=ReS.ds {s with A3y:=x}:=rfl
theorem ReS.A1i(s:ReS):s.ds.getD 1 D.nil=.int s.pc:=rfl
theorem ReS.B3v(s:ReS)(x:Int):s.ds.set 1 (.int x)=ReS.ds {s with pc:=x}:=rfl
theorem ReS.A1p(s:ReS):s.ds.getD 2 D.nil=.int s.A8c:=rfl
theorem ReS.B6r(s:ReS)(x:Int):s.ds.set 2 (.int x)=ReS.ds {s with A8c:=x}:=rfl
theorem ReS.A1w(s:ReS):s.ds.getD 3 D.nil=wN s.word:=rfl
theorem ReS.B6t(s:ReS)(x:Nat):s.ds.set 3 (wN x)=ReS.ds {s with word:=x}:=rfl
theorem ReS.A1u(s:ReS):s.ds.getD 4 D.nil=.int s.st.k:=rfl
theorem ReS.B0e(s:ReS)(x:Int):s.ds.set 4 (.int x)=ReS.ds {s with st:={s.st with k:=x}}:=rfl
theorem ReS.A2m(s:ReS):s.ds.getD 5 D.nil=.bool s.st.f:=rfl
theorem ReS.B6n(s:ReS)(x:Bool):s.ds.set 5 (.bool x)=ReS.ds {s with st:={s.st with f:=x}}:=rfl
theorem ReS.A3z(s:ReS):s.ds.getD 6 D.nil=.int s.st.g:=rfl
theorem ReS.B7u(s:ReS)(x:Int):s.ds.set 6 (.int x)=ReS.ds {s with st:={s.st with g:=x}}:=rfl
theorem ReS.A8l(s:ReS):s.ds.getD 7 D.nil=.int s.st.l:=rfl
theorem ReS.D1k(s:ReS)(x:Int):s.ds.set 7 (.int x)=ReS.ds {s with st:={s.st with l:=x}}:=rfl
theorem ReS.A6y(s:ReS):s.ds.getD 8 D.nil=.int s.st.n:=rfl
theorem ReS.E1h(s:ReS)(x:Int):s.ds.set 8 (.int x)=ReS.ds {s with st:={s.st with n:=x}}:=rfl
theorem ReS.A7f(s:ReS):s.ds.getD 9 D.nil=.int s.tm.name:=rfl
theorem ReS.B8c(s:ReS)(x:Int):s.ds.set 9 (.int x)=ReS.ds {s with tm:={s.tm with name:=x}}:=rfl
theorem ReS.B4m(s:ReS):s.ds.getD 10 D.nil=.int s.tm.side:=rfl
theorem ReS.D7r(s:ReS)(x:Int):s.ds.set 10 (.int x)=ReS.ds {s with tm:={s.tm with side:=x}}:=rfl
theorem ReS.B0v(s:ReS):s.ds.getD 11 D.nil=.int s.tm.A0m:=rfl
theorem ReS.C5w(s:ReS)(x:Int):s.ds.set 11 (.int x)=ReS.ds {s with tm:={s.tm with A0m:=x}}:=rfl
theorem ReS.A9w(s:ReS):s.ds.getD 12 D.nil=.int s.tm.least:=rfl
theorem ReS.C6p(s:ReS)(x:Int):s.ds.set 12 (.int x)=ReS.ds {s with tm:={s.tm with least:=x}}:=rfl
theorem ReS.B0q(s:ReS):s.ds.getD 13 D.nil=.int s.tm.A1n:=rfl
theorem ReS.C7a(s:ReS)(x:Int):s.ds.set 13 (.int x)=ReS.ds {s with tm:={s.tm with A1n:=x}}:=rfl
theorem ReS.B3m(s:ReS):s.ds.getD 14 D.nil=.bool s.done:=rfl
theorem ReS.C2m(s:ReS)(x:Bool):s.ds.set 14 (.bool x)=ReS.ds {s with done:=x}:=rfl
theorem ReS.B8h(s:ReS):s.ds.getD 15 D.nil=.int s.at_:=rfl
theorem ReS.D2s(s:ReS)(x:Int):s.ds.set 15 (.int x)=ReS.ds {s with at_:=x}:=rfl
structure A0d where
 c:Cf
 m:D
 clk:D
 log:List Ev
def A0d.ds(s:A0d):List D:=[.int s.c.c0,.int s.c.c1,.int s.c.c2,.int s.c.c3,.int s.c.c4,.int s.c.c5,.int s.c.c6,s.m,s.clk,.agg (s.log.map Ev.d)]
theorem A0d.len(s:A0d):s.ds.length=10:=by simp only[A0d.ds,aC,aD]
theorem A0d.rng(s:A0d):((aN 10).map fun j=>s.ds.getD j D.nil)=s.ds:=P.rng s.len
theorem A0d.A1f(s:A0d):s.ds.getD 0 D.nil=.int s.c.c0:=rfl
theorem A0d.B8n(s:A0d)(x:Int):s.ds.set 0 (.int x)=A0d.ds {s with c:={s.c with c0:=x}}:=rfl
theorem A0d.A1i(s:A0d):s.ds.getD 1 D.nil=.int s.c.c1:=rfl
theorem A0d.B3v(s:A0d)(x:Int):s.ds.set 1 (.int x)=A0d.ds {s with c:={s.c with c1:=x}}:=rfl
theorem A0d.A1p(s:A0d):s.ds.getD 2 D.nil=.int s.c.c2:=rfl
theorem A0d.B6r(s:A0d)(x:Int):s.ds.set 2 (.int x)=A0d.ds {s with c:={s.c with c2:=x}}:=rfl
theorem A0d.A1w(s:A0d):s.ds.getD 3 D.nil=.int s.c.c3:=rfl
theorem A0d.B6t(s:A0d)(x:Int):s.ds.set 3 (.int x)=A0d.ds {s with c:={s.c with c3:=x}}:=rfl
theorem A0d.A1u(s:A0d):s.ds.getD 4 D.nil=.int s.c.c4:=rfl
theorem A0d.B0e(s:A0d)(x:Int):s.ds.set 4 (.int x)=A0d.ds {s with c:={s.c with c4:=x}}:=rfl
theorem A0d.A2m(s:A0d):s.ds.getD 5 D.nil=.int s.c.c5:=rfl
theorem A0d.B6n(s:A0d)(x:Int):s.ds.set 5 (.int x)=A0d.ds {s with c:={s.c with c5:=x}}:=rfl
theorem A0d.A3z(s:A0d):s.ds.getD 6 D.nil=.int s.c.c6:=rfl
theorem A0d.B7u(s:A0d)(x:Int):s.ds.set 6 (.int x)=A0d.ds {s with c:={s.c with c6:=x}}:=rfl
theorem A0d.A8l(s:A0d):s.ds.getD 7 D.nil=s.m:=rfl
theorem A0d.D1k(s:A0d)(x:D):s.ds.set 7 (x)=A0d.ds {s with m:=x}:=rfl
theorem A0d.A6y(s:A0d):s.ds.getD 8 D.nil=s.clk:=rfl
theorem A0d.E1h(s:A0d)(x:D):s.ds.set 8 (x)=A0d.ds {s with clk:=x}:=rfl
theorem A0d.A7f(s:A0d):s.ds.getD 9 D.nil=.agg (s.log.map Ev.d):=rfl
theorem A0d.B8c(s:A0d)(x:List Ev):s.ds.set 9 (.agg (x.map Ev.d))=A0d.ds {s with log:=x}:=rfl
structure A1g where
 words:List Nat
 s1:D
 s2:D
 s3:D
 s4:D
 s5:D
 s6:D
def A1g.ds(s:A1g):List D:=[.agg (s.words.map wN),s.s1,s.s2,s.s3,s.s4,s.s5,s.s6]
theorem A1g.len(s:A1g):s.ds.length=7:=by simp only[A1g.ds,aC,aD]
theorem A1g.rng(s:A1g):((aN 7).map fun j=>s.ds.getD j D.nil)=s.ds:=P.rng s.len
theorem A1g.A1f(s:A1g):s.ds.getD 0 D.nil=.agg (s.words.map wN):=rfl
theorem A1g.B8n(s:A1g)(x:List Nat):s.ds.set 0 (.agg (x.map wN))=A1g.ds {s with words:=x}:=rfl
theorem A1g.A1i(s:A1g):s.ds.getD 1 D.nil=s.s1:=rfl
theorem A1g.B3v(s:A1g)(x:D):s.ds.set 1 (x)=A1g.ds {s with s1:=x}:=rfl
theorem A1g.A1p(s:A1g):s.ds.getD 2 D.nil=s.s2:=rfl
theorem A1g.B6r(s:A1g)(x:D):s.ds.set 2 (x)=A1g.ds {s with s2:=x}:=rfl
theorem A1g.A1w(s:A1g):s.ds.getD 3 D.nil=s.s3:=rfl
theorem A1g.B6t(s:A1g)(x:D):s.ds.set 3 (x)=A1g.ds {s with s3:=x}:=rfl
theorem A1g.A1u(s:A1g):s.ds.getD 4 D.nil=s.s4:=rfl
theorem A1g.B0e(s:A1g)(x:D):s.ds.set 4 (x)=A1g.ds {s with s4:=x}:=rfl
theorem A1g.A2m(s:A1g):s.ds.getD 5 D.nil=s.s5:=rfl
theorem A1g.B6n(s:A1g)(x:D):s.ds.set 5 (x)=A1g.ds {s with s5:=x}:=rfl
theorem A1g.A3z(s:A1g):s.ds.getD 6 D.nil=s.s6:=rfl
theorem A1g.B7u(s:A1g)(x:D):s.ds.set 6 (x)=A1g.ds {s with s6:=x}:=rfl
structure A8m where
 now:Nat
def A8m.ds(s:A8m):List D:=[wN s.now]
theorem A8m.len(s:A8m):s.ds.length=1:=by simp only[A8m.ds,aC,aD]
theorem A8m.rng(s:A8m):((aN 1).map fun j=>s.ds.getD j D.nil)=s.ds:=P.rng s.len
theorem A8m.A1f(s:A8m):s.ds.getD 0 D.nil=wN s.now:=rfl
theorem A8m.B8n(s:A8m)(x:Nat):s.ds.set 0 (wN x)=A8m.ds {s with now:=x}:=rfl
set_option linter.defProp false in
def A0a.all:=bE @A0a.len<|bE @A0a.rng<|bE @A0a.A1f<|bE @A0a.B8n<|bE @A0a.A1i<|bE @A0a.B3v<|bE @A0a.A1p<|bE @A0a.B6r<|bE @A0a.A1w<|bE @A0a.B6t<|bE @A0a.A1u<|bE @A0a.B0e<|bE @A0a.A2m<|bE @A0a.B6n<|bE @A0a.A3z<|bE @A0a.B7u<|bE @A0a.A8l<|bE @A0a.D1k<|bE @A0a.A6y<|bE @A0a.E1h<|bE @A0a.A7f<|bE @A0a.B8c<|bE @A0a.B4m<|bE @A0a.D7r<|bE @A0a.B0v<|bE @A0a.C5w<|bE @A0a.A9w<|bE @A0a.C6p<|bE @A0a.B0q<|bE @A0a.C7a<|bE @A0a.B3m<|bE @A0a.C2m<|bE @A0a.B8h<|bE @A0a.D2s<|bE @A0a.E2c<|bE @A0a.G3n<|bE @A0a.C6f<|bE @A0a.D7d<|bE @A0a.C9t<|bE @A0a.H2z<|bE @A0a.D7x<|bE @A0a.G1h<|bE @A0a.D0l<|bE @A0a.E3d<|bE @A0a.D2p<|bE @A0a.F1a<|bE @A0a.E5c<|bE @A0a.F0n<|bE @A0a.E2e<|bE @A0a.G1y<|bE @A0a.F1u<|bE @A0a.G1e<|bE @A0a.F0y<|bE @A0a.E1u<|bE @A0a.F0r<|bE @A0a.E3g<|bE @A0a.F0q<|bE @A0a.E2a<|bE @A0a.F1k<|bE @A0a.E4v<|bE @A0a.F1e<|bE @A0a.E3l<|bE @A0a.F1l<|bE @A0a.F0p<|bE @A0a.F1t<|bE @A0a.F0v<|bE @A0a.F1c<|bE @A0a.F0o<|bE @A0a.F1m<|bE @A0a.F1r<|bE @A0a.E5f<|@A0a.F1f
set_option linter.defProp false in
def A0d.all:=bE @A0d.len<|bE @A0d.rng<|bE @A0d.A1f<|bE @A0d.B8n<|bE @A0d.A1i<|bE @A0d.B3v<|bE @A0d.A1p<|bE @A0d.B6r<|bE @A0d.A1w<|bE @A0d.B6t<|bE @A0d.A1u<|bE @A0d.B0e<|bE @A0d.A2m<|bE @A0d.B6n<|bE @A0d.A3z<|bE @A0d.B7u<|bE @A0d.A8l<|bE @A0d.D1k<|bE @A0d.A6y<|bE @A0d.E1h<|bE @A0d.A7f<|@A0d.B8c
section
theorem A2p{L:List D}{a:Nat}{x:List D}(h:L.getD a D.nil=.agg x):a<L.length:=by
 rcases bT a L.length with h1|h1
 ·exact h1
 ·rw[aF,aO h1]at h;cases h
theorem A3r{L:List D}{a:Nat}(h:a<L.length)(x:D):(L.set a x).getD a D.nil=x:=by
 simp[aF,h]
theorem A3i{L:List D}{a b:Nat}(h:a≠b)(x:D):(L.set a x).getD b D.nil=L.getD b D.nil:=by
 simp[aF,List.getElem?_set,h]
theorem E0a{L:List D}{a:Nat}{x:List D}(h:L.getD a D.nil=.agg x):L.set a (.agg x)=L:=by
 have hl:=A2p h
 rw[aF,aG hl]at h
 have h':L[a]=D.agg x:=h
 rw[←h']
 exact List.set_getElem_self hl
theorem A3m{L:List D}{a b:Nat}{x y:List D}(ha:L.getD a D.nil=.agg x)(hb:L.getD b D.nil=.agg y)(h:x.length≠y.length):a≠b:=by
 intro e
 subst e
 rw[ha]at hb
 cases hb
 exact h rfl
def Fr(L L':List D)(T:Nat→Prop):Prop:=L.length≤L'.length∧∀b,b<L.length→¬T b→L'.getD b D.nil=L.getD b D.nil
theorem Fr.refl(L:List D)(T:Nat→Prop):Fr L L T:=⟨c9 _,fun _ _ _=>rfl⟩
theorem Fr.trans{L L1 L2:List D}{T:Nat→Prop}(h:Fr L L1 T)(h':Fr L1 L2 T):Fr L L2 T:=
 ⟨bS h.1 h'.1,fun b hb hn=>(h'.2 b (bW hb h.1) hn).trans (h.2 b hb hn)⟩
theorem Fr.mono{L L1:List D}{T U:Nat→Prop}(h:Fr L L1 T)(hu:∀b,T b→U b):Fr L L1 U:=⟨h.1,fun b hb hn=>h.2 b hb fun ht=>hn (hu b ht)⟩
theorem Fr.set(L:List D)(a:Nat)(x:D){T:Nat→Prop}(ha:T a):Fr L (L.set a x) T:=
 ⟨by simp,fun b _ hn=>A3i (fun e=>hn (by rw[←e];exact ha)) x⟩
theorem Fr.snoc(L:List D)(x:D)(T:Nat→Prop):Fr L (L++[x]) T:=
 ⟨by simp,fun b hb _=>by simp[aF,aT hb]⟩
theorem Fr.get{L L':List D}{T:Nat→Prop}(h:Fr L L' T){a:Nat}{x:List D}(hx:L.getD a D.nil=.agg x)(ha:¬T a):L'.getD a D.nil=.agg x:=by
 rw[h.2 a (A2p hx) ha,hx]
theorem A5o(L:List D)(x:D):(L++[x]).getD L.length D.nil=x:=by simp[aF]
theorem C8z{L:List D}{a:Nat}(h:a<L.length)(x:D):(L++[x]).getD a D.nil=L.getD a D.nil:=by
 simp[aF,aT h]
theorem A6v(z:Int):(D.int z).isNil=false:=rfl
theorem B5l:D.nil.isNil=true:=rfl
theorem G3r(l:List D):(D.agg l).isNil=false:=rfl
set_option linter.defProp false in
def HH:=bE A6v<|bE G3r<|bE @H7p<|bE B5l<|bE a9<|bE aA<|bE @Q5.{1}<|bE a8<|bE @Q4.{1}<|bE @D.toInt_int<|bE @D1y<|bE @D.A0j<|bE @bF<|bE @A0n<|bE @aC.{0}<|bE @aD.{0}<|bE @aE.{0}<|bE @aJ.{0} @D.A1d
def wd(ws:List Nat)(i:Int):Nat:=if i<0 then 0 else ws.getD i.toNat 0
def stw(ws:List Nat)(i:Int)(x:Nat):List Nat:=if i<0 then ws else ws.set i.toNat x
theorem E2j{ws:List Nat}(h:∀x ∈ ws,x<18446744073709551616)(i:Int):wd ws i<18446744073709551616:=by
 unfold wd
 split
 ·decide
 ·rw[aF]
  rcases bT i.toNat ws.length with h1|h1
  ·rw[aG h1];exact h _ (aP h1)
  ·rw[aO h1];decide
theorem F4h{ws:List Nat}(h:∀x ∈ ws,x<18446744073709551616)(i:Int){x:Nat}(hx:x<18446744073709551616):∀y ∈ stw ws i x,y<18446744073709551616:=by
 unfold stw
 split
 ·exact h
 ·intro y hy
  rcases List.mem_or_eq_of_mem_set hy with h1|h1
  ·exact h y h1
  ·subst h1;exact hx
theorem B3b(ws:List Nat)(i:Int)(x:Nat):(stw ws i x).length=ws.length:=by
 unfold stw;split<;>simp
section
variable{L:List D}{m:Nat}{M:A1g}(hm:L.getD m D.nil=.agg M.ds)
include hm
theorem E3c(i:Nat)(hi:i<M.words.length):FX 116 [.int (m:Nat),.int (i:Nat),.agg L]=some [.nil]:=by
 have h1:¬((i:Int)<0):=by omega
 have h2:¬((i:Int)≥(M.words.length:Int)):=by omega
 rw[C6s]
 simp only[A6v,a8,Q4,D.toInt_int,D.A0j,bF,hm,A1g.A1f,aK,h1,h2,Q7,a9,Q5]
theorem F5a(i:Int)(hi:i<0∨(M.words.length:Int)≤i):∃e:D,e.isNil=false∧FX 116 [.int (m:Nat),.int i,.agg L]=some [e]:=by
 have hcode:(D.iface 34 (.int 5)).isNil=false:=rfl
 rw[C6s]
 simp only[A6v,a8,Q4,D.toInt_int,D.A0j,bF,hm,A1g.A1f,aK,a9,Q5]
 by_cases h1:i<0
 ·refine⟨_,?_,by simp only[h1,Q6,Q5,C3b _ _ hcode,A0b,aC,aD,aE];rfl⟩
  rfl
 ·have h2:i≥(M.words.length:Int):=by omega
  refine⟨_,?_,by simp only[h1,h2,Q7,a8,Q4,Q6,Q5,C3b _ _ hcode,A0b,aC,aD,aE];rfl⟩
  rfl
theorem D1e(a b c d e:D):∃M':A1g,FX 117 [.int (m:Nat),a,b,c,d,e,.agg L]=some [.agg (L.set m (.agg M'.ds))]∧M'.words=M.words:=by
 refine⟨{M with s1:=.int (cB.wrap ((M.s1).toInt+1)),s2:=a,s3:=b,s4:=c,s5:=d,s6:=e},?_,rfl⟩
 rw[E0d]
 simp only[A6v,a8,Q4,D.toInt_int,D.A0j,bF,hm,a9,Q5,A1g.len,A1g.rng,A1g.A1f,A1g.B8n,A1g.A1i,A1g.B3v,A1g.A1p,A1g.B6r,A1g.A1w,A1g.B6t,A1g.A1u,A1g.B0e,A1g.A2m,A1g.B6n,A1g.A3z,A1g.B7u]
theorem E7o(i:Int):∃(e:D) (M':A1g),FX 93 [.int (m:Nat),.int i,.agg L]=some [wN (wd M.words i),e,.agg (L.set m (.agg M'.ds))]∧M'.words=M.words:=by
 by_cases hi:i<0∨(M.words.length:Int)≤i
 ·obtain⟨e,he,h⟩:=F5a hm i hi
  refine⟨e,M,?_,rfl⟩
  have hz:wN (wd M.words i)=.int 0:=by
   unfold wd
   by_cases h1:i<0
   ·rw[Q3 h1];rfl
   ·rw[Q0 h1,aF,aO (by omega)];rfl
  rw[C4g,h,hz,E0a hm]
  simp only[A0b,aC,aD,Q5,aE,he,a9]
 ·obtain⟨j,rfl⟩:∃j:Nat,i=j:=⟨i.toNat,by omega⟩
  have hj:j<M.words.length:=by omega
  have h1:((j:Int)≥0):=by omega
  have h2:((j:Int)<(M.words.length:Int)):=by omega
  have hg:(M.words.map wN).getD j D.nil=wN (wd M.words j):=by
   rw[aF,aM,aG hj]
   unfold wd
   rw[Q0 (by omega),bF,aF,aG hj];rfl
  obtain⟨M',h3,h4⟩:=D1e hm (.int 1) (.int (j:Nat)) (wN (wd M.words j)) (wN (wd M.words j)) (.bool true)
  refine⟨.nil,M',?_,h4⟩
  rw[C4g,E3c hm j hj]
  simp only[A0b,aC,aD,Q5,aE,B5l,A6v,aA,a9,a8,Q4,D.toInt_int,D.A0j,bF,hm,A1g.A1f,aK,h1,h2,Q6,hg,h3]
theorem F2c(i:Int)(x:Nat):∃(e:D) (M':A1g),FX 100 [.int (m:Nat),.int i,wN x,.agg L]=some [e,.agg (L.set m (.agg M'.ds))]∧M'.words=stw M.words i x:=by
 by_cases hi:i<0∨(M.words.length:Int)≤i
 ·obtain⟨e,he,h⟩:=F5a hm i hi
  refine⟨e,M,?_,?_⟩
  ·rw[C2b,h,E0a hm]
   simp only[A0b,aC,aD,Q5,aE,he,a9]
  ·unfold stw
   by_cases h1:i<0
   ·rw[Q3 h1]
   ·rw[Q0 h1,List.set_eq_of_length_le (by omega)]
 ·obtain⟨j,rfl⟩:∃j:Nat,i=j:=⟨i.toNat,by omega⟩
  have hj:j<M.words.length:=by omega
  have h1:((j:Int)≥0):=by omega
  have h2:((j:Int)<(M.words.length:Int)):=by omega
  have hl:=A2p hm
  obtain⟨M',h3,h4⟩:=D1e hm (.int 2) (.int (j:Nat)) ((M.words.map wN).getD j D.nil) (wN x) (.bool true)
  refine⟨.nil,{M' with words:=M.words.set j x},?_,?_⟩
  ·rw[C2b,E3c hm j hj]
   simp only[A0b,aC,aD,Q5,aE,B5l,A6v,aA,a9,a8,Q4,D.toInt_int,D.A0j,bF,hm,A1g.A1f,aK,h1,h2,Q6,h3,A3r hl,bD,h4]
   have e1:((M.words.map wN).set j (wN x))=((M.words.set j x).map wN):=(aX ..).symm
   rw[e1,A1g.rng,A1g.B8n]
  ·unfold stw
   rw[Q0 (by omega),bF]
def swB(ws:List Nat)(i:Int)(old:Nat):Bool:=decide (0≤i∧i<(ws.length:Int))&&wd ws i == old
omit hm in
theorem H6n{ws:List Nat}{j:Nat}(h:j<ws.length)(old:Nat):swB ws j old=(ws[j] == old):=by
 unfold swB wd
 have h1:(0:Int)≤(j:Int)∧(j:Int)<(ws.length:Int):=by omega
 rw[Q0 (by omega),bF,aF,aG h]
 simp[h]
theorem swap_eq(i:Int)(old x:Nat):∃(e:D) (M':A1g),FX 121 [.int (m:Nat),.int i,wN old,wN x,.agg L]=some [.bool (swB M.words i old),e,.agg (L.set m (.agg M'.ds))]∧
  M'.words=if swB M.words i old then stw M.words i x else M.words:=by
 by_cases hi:i<0∨(M.words.length:Int)≤i
 ·obtain⟨e,he,h⟩:=F5a hm i hi
  have hb:swB M.words i old=false:=by
   unfold swB
   have:¬(0≤i∧i<(M.words.length:Int)):=by omega
   simp[this]
  refine⟨e,M,?_,by rw[hb];rfl⟩
  rw[B6k,h,E0a hm,hb]
  simp only[A0b,aC,aD,Q5,aE,he,a9]
 ·obtain⟨j,rfl⟩:∃j:Nat,i=j:=⟨i.toNat,by omega⟩
  have hj:j<M.words.length:=by omega
  have h1:((j:Int)≥0):=by omega
  have h2:((j:Int)<(M.words.length:Int)):=by omega
  have hl:=A2p hm
  have hg:(M.words.map wN).getD j D.nil=wN M.words[j]:=by
   rw[aF,aM,aG hj];rfl
  rw[H6n hj]
  have hb:((wN M.words[j]).toInt == (wN old).toInt)=(M.words[j] == old):=by
   unfold wN
   simp only[D.toInt_int]
   by_cases h:M.words[j]=old
   ·simp[h]
   ·have:¬(M.words[j]:Int)=(old:Int):=by omega
    rw[Q8.2 h,Q8.2 this]
  cases hc:(M.words[j] == old)with
  |true=>
   have hM:(L.set m (.agg (A1g.ds {M with words:=M.words.set j x}))).getD m D.nil=.agg (A1g.ds {M with words:=M.words.set j x}):=A3r hl _
   obtain⟨M',h3,h4⟩:=D1e hM (.int 3) (.int (j:Nat)) (wN M.words[j]) (wN x) (.bool true)
   refine⟨.nil,M',?_,?_⟩
   ·rw[B6k,E3c hm j hj]
    have e1:((M.words.map wN).set j (wN x))=((M.words.set j x).map wN):=(aX ..).symm
    simp only[A0b,aC,aD,Q5,aE,B5l,A6v,aA,a9,a8,Q4,D.toInt_int,D.A0j,bF,hm,A1g.A1f,aK,h1,h2,Q6,hg,hb,hc,e1,A1g.rng,A1g.B8n,h3,bD]
   ·rw[h4,Q3 rfl]
    unfold stw
    rw[Q0 (by omega),bF]
  |false=>
   obtain⟨M',h3,h4⟩:=D1e hm (.int 3) (.int (j:Nat)) (wN M.words[j]) (wN M.words[j]) (.bool false)
   refine⟨.nil,M',?_,by rw[h4];rfl⟩
   rw[B6k,E3c hm j hj]
   simp only[A0b,aC,aD,Q5,aE,B5l,A6v,aA,a9,a8,Q4,D.toInt_int,D.A0j,bF,hm,A1g.A1f,aK,h1,h2,Q6,hg,hb,hc,h3]
end
structure WS where
 c:Cf
 words:List Nat
 now:Nat
 log:List Ev
structure WS.ok(S:WS):Prop where
 c:S.c.ok
 w:∀x ∈ S.words,x<18446744073709551616
 now:S.now≤1000000
 len:S.words.length≤8192
structure InW(L:List D)(w m k:Nat)(S:WS):Prop where
 w:L.getD w D.nil=.agg (A0d.ds ⟨S.c,.int m,.int k,S.log⟩)
 m:∃M:A1g,L.getD m D.nil=.agg M.ds∧M.words=S.words
 k:L.getD k D.nil=.agg (A8m.ds ⟨S.now⟩)
section
variable{L:List D}{w m k:Nat}{S:WS}(W:InW L w m k S)
include W
theorem InW.nwm:w≠m:=by
 obtain⟨M,h,_⟩:=W.m
 exact A3m W.w h (by simp[A0d.len,A1g.len])
theorem InW.nwk:w≠k:=A3m W.w W.k (by simp[A0d.len,A8m.len])
theorem InW.nmk:m≠k:=by
 obtain⟨M,h,_⟩:=W.m
 exact A3m h W.k (by simp[A1g.len,A8m.len])
theorem InW.far{a:Nat}{x:List D}(h:L.getD a D.nil=.agg x)(h1:x.length≠10)(h2:x.length≠7)(h3:x.length≠1):a≠w∧a≠m∧a≠k:=by
 obtain⟨M,hM,_⟩:=W.m
 exact⟨A3m h W.w (by rw[A0d.len];exact h1),A3m h hM (by rw[A1g.len];exact h2),A3m h W.k (by rw[A8m.len];exact h3)⟩
theorem InW.E5u(M':A1g):InW (L.set m (.agg M'.ds)) w m k {S with words:=M'.words}:=by
 obtain⟨M,hM,_⟩:=W.m
 exact⟨by rw[A3i (bO W.nwm)];exact W.w,⟨M',A3r (A2p hM) _,rfl⟩,by rw[A3i W.nmk];exact W.k⟩
theorem InW.fr{L':List D}{T:Nat→Prop}(h:Fr L L' T)(h1:¬T w)(h2:¬T m)(h3:¬T k):InW L' w m k S:=by
 obtain⟨M,hM,e⟩:=W.m
 exact⟨h.get W.w h1,⟨M,h.get hM h2,e⟩,h.get W.k h3⟩
theorem B8b(h:S.ok):FX 43 [.int (k:Nat),.agg L]=some [wN S.now]:=by
 have:=h.now
 rw[D4p]
 simp only[A6v,a8,Q4,D.toInt_int,D.A0j,bF,W.k,a9,Q5,A8m.A1f,D1y]
 rw[A0v _ (by omega) (by omega)];rfl
def WS.word(S:WS)(x:Int):Nat:=wd S.words (2*x)
def WS.A8i(S:WS)(x:Int):Nat:=wd S.words (2*x+1)
theorem B1l(h:S.ok)(x:Int)(hx:-1000≤x∧x≤1000):∃L',FX 81 [.int (w:Nat),.int x,.agg L]=some (wN (S.word x)::((A0i (S.word x)).ds++[.agg L']))∧InW L' w m k S∧Fr L L' (·=m):=by
 obtain⟨M,hM,hw⟩:=W.m
 obtain⟨e,M',h1,h2⟩:=E7o hM (2*x)
 refine⟨L.set m (.agg M'.ds),?_,?_,Fr.set _ _ _ rfl⟩
 ·have h3:=D0p (wd M.words (2*x)) (E2j (by rw[hw];exact h.w) _)
  rw[D0y]
  simp only[A6v,a9,Q5,D.toInt_int,D.A0j,bF,W.w,A8k,A0n,aC,aD,aE,A0d.all]
  rw[A0v (2*x) (by omega) (by omega),h1]
  simp only[A0n,aC,aD,aE,aJ,C2q]
  unfold wN
  rw[h3]
  simp only[A0n,St.len,St.A1f,St.A1i,St.A1p,St.A1w,St.A1u]
  rw[hw];rfl
 ·have:=W.E5u M'
  rw[h2,hw]at this
  exact this
theorem D6a(h:S.ok)(x:Int)(hx:-1000≤x∧x≤1000):∃L',FX 82 [.int (w:Nat),.int x,.agg L]=some ((B5p (S.A8i x)).ds++[.agg L'])∧InW L' w m k S∧Fr L L' (·=m):=by
 obtain⟨M,hM,hw⟩:=W.m
 obtain⟨e,M',h1,h2⟩:=E7o hM (2*x+1)
 refine⟨L.set m (.agg M'.ds),?_,?_,Fr.set _ _ _ rfl⟩
 ·have h3:=F2o (wd M.words (2*x+1)) (E2j (by rw[hw];exact h.w) _)
  rw[D0q]
  simp only[A6v,a9,Q5,D.toInt_int,D.A0j,bF,W.w,B0x,A0n,aC,aD,aE,A0d.all]
  rw[A0v (2*x) (by omega) (by omega),A0v (2*x+1) (by omega) (by omega),h1]
  simp only[A0n,aC,aD,aE,aJ,C2h]
  unfold wN
  rw[h3]
  simp only[A0n,Tm.len,Tm.A1f,Tm.A1i,Tm.A1p,Tm.A1w,Tm.A1u]
  rw[hw];rfl
 ·have:=W.E5u M'
  rw[h2,hw]at this
  exact this
def WS.turn(S:WS)(x:Int)(old:Nat)(s:St):Bool × WS:=match stW s with
 |none=>(false,S)
 |some v=>(swB S.words (2*x) old,if swB S.words (2*x) old then {S with words:=stw S.words (2*x) v} else S)
theorem B9m(h:S.ok)(x:Int)(hx:-1000≤x∧x≤1000)(old:Nat)(s:St)(hs:s.wf):∃L',FX 97 [.int (w:Nat),.int x,wN old,.int s.k,.bool s.f,.int s.g,.int s.l,.int s.n,.agg L]=some [.bool (S.turn x old s).1,.agg L']∧InW L' w m k (S.turn x old s).2∧Fr L L' (·=m):=by
 obtain⟨M,hM,hw⟩:=W.m
 obtain⟨r,h0,ht⟩:=F9f s hs
 unfold St.ds at h0
 rw[D3s,h0]
 unfold WS.turn
 cases hv:stW s with
 |none=>
  rw[hv]at ht
  obtain⟨e,he,rfl⟩:=ht
  refine⟨L,?_,W,Fr.refl _ _⟩
  simp only[A0n,aC,aD,aE,aJ,he,a9,Q5]
 |some v=>
  rw[hv]at ht
  dsimp only[Told]at ht
  subst ht
  obtain⟨e,M',h1,h2⟩:=swap_eq hM (2*x) old v
  refine⟨L.set m (.agg M'.ds),?_,?_,Fr.set _ _ _ rfl⟩
  ·simp only[B5l,A6v,aA,a9,Q5,D.toInt_int,D.A0j,bF,W.w,A8k,A0n,aC,aD,aE,aJ,a8,Q4,A0d.all]
   rw[A0v (2*x) (by omega) (by omega)]
   change A0b (FX 121 [.int (m:Nat),.int (2*x),wN old,wN v,.agg L]) 3 _=_
   rw[h1]
   simp only[A0n,aC,aD,aE,aJ,C4j,hw]
  ·have:=W.E5u M'
   rw[h2,hw]at this
   dsimp only
   split
   ·rename_i hb;rw[hb]at this;exact this
   ·rename_i hb
    have hb':swB S.words (2*x) old=false:=by simpa using hb
    rw[hb']at this;exact this
def WS.note(S:WS)(x gen n:Int)(r:Rc):WS:=match rcW r with
 |none=>S
 |some v=>{S with words:=stw S.words (A7g S.c x gen n) v}
theorem C4f(h:S.ok)(x gen n:Int)(r:Rc)(hr:r.wf):∃L',FX 85 [.int (w:Nat),.int x,.int gen,.int n,.int r.k,.int r.q,.int r.p,.int r.t,.int r.c,.int r.g,.agg L]=some [.agg L']∧InW L' w m k (S.note x gen n r)∧Fr L L' (·=m):=by
 obtain⟨M,hM,hw⟩:=W.m
 obtain⟨z,h0,ht⟩:=G8w r hr
 unfold Rc.ds at h0
 rw[D3m,h0]
 unfold WS.note
 cases hv:rcW r with
 |none=>
  rw[hv]at ht
  obtain⟨e,he,rfl⟩:=ht
  refine⟨L,?_,W,Fr.refl _ _⟩
  simp only[A0n,aC,aD,aE,aJ,he,a8,Q4]
 |some v=>
  rw[hv]at ht
  dsimp only[Told]at ht
  subst ht
  have hsl:=G0c S.c h.c x gen n
  unfold RU.Cf.ds at hsl
  dsimp only[aH,aI]at hsl
  obtain⟨e,M',h1,h2⟩:=F2c hM (A7g S.c x gen n) v
  refine⟨L.set m (.agg M'.ds),?_,?_,Fr.set _ _ _ rfl⟩
  ·simp only[B5l,A6v,aA,a9,Q5,D.toInt_int,D.A0j,bF,W.w,hsl,A0n,aC,aD,aE,aJ,a8,Q4,A0d.all]
   change A0b (FX 100 [.int (m:Nat),.int (A7g S.c x gen n),wN v,.agg L]) 2 _=_
   rw[h1]
   simp only[A0n,aC,aD,aE,aJ]
  ·have:=W.E5u M'
   rw[h2,hw]at this
   exact this
def WS.tell(S:WS)(e:Ev):WS:={S with log:=S.log++[{e with tick:=S.now}]}
theorem F3p(h:S.ok)(hl:S.log.length≤1000000000)(e:Ev):∃L',FX 98 [.int (w:Nat),.int e.kind,.int e.cell,.int e.gen,.int e.other,.int e.wth,.int e.tm.name,.int e.tm.side,.int e.tm.A0m,.int e.tm.least,.int e.tm.A1n,.int e.qty,.int e.A0m,.int e.tick,.int e.fin,.agg L]=some [.agg L']∧InW L' w m k (S.tell e)∧Fr L L' (·=w):=by
 refine⟨L.set w (.agg (A0d.ds ⟨S.c,.int m,.int k,(S.tell e).log⟩)),?_,?_,Fr.set _ _ _ rfl⟩
 ·have hn:=B8b W h
  have e1:(S.log.map Ev.d++[D.agg [.int e.kind,.int e.cell,.int e.gen,.int e.other,.int e.wth,.int e.tm.name,.int e.tm.side,.int e.tm.A0m,.int e.tm.least,.int e.tm.A1n,.int e.qty,.int e.A0m,wN S.now,.int e.fin]])=(S.tell e).log.map Ev.d:=by
   simp only[WS.tell,Ev.d,Ev.ds,List.map_append,bB,List.map_nil];rfl
  have e2:(((S.tell e).log.map Ev.d).length:Int)≤1256584717458:=by simp[WS.tell];omega
  rw[D3o]
  simp only[A6v,a9,Q5,D.toInt_int,D.A0j,bF,W.w,A0n,aC,aD,aE,hn,A0d.all,e1,e2,Q6]
 ·have hl:=A2p W.w
  obtain⟨M,hM,hw⟩:=W.m
  exact⟨A3r hl _,⟨M,by rw[A3i W.nwm];exact hM,hw⟩,by rw[A3i W.nwk];exact W.k⟩
end
end
section
set_option linter.unusedSectionVars false
theorem A2f.len(r:Int × St):(A2f r).length=6:=by simp only[A2f,aL,St.len,aC,aD]
theorem A2f.A1f(r:Int × St):(A2f r).getD 0 D.nil=.int r.2.k:=rfl
theorem A2f.A1i(r:Int × St):(A2f r).getD 1 D.nil=.bool r.2.f:=rfl
theorem A2f.A1p(r:Int × St):(A2f r).getD 2 D.nil=.int r.2.g:=rfl
theorem A2f.A1w(r:Int × St):(A2f r).getD 3 D.nil=.int r.2.l:=rfl
theorem A2f.A1u(r:Int × St):(A2f r).getD 4 D.nil=.int r.2.n:=rfl
theorem A2f.A2m(r:Int × St):(A2f r).getD 5 D.nil=er r.1:=rfl
set_option linter.defProp false in
def A2f.all:=bE @A2f.len<|bE @A2f.A1f<|bE @A2f.A1i<|bE @A2f.A1p<|bE @A2f.A1w<|bE @A2f.A1u @A2f.A2m
theorem In.lit{z:Int}(h:-1000000000≤z∧z≤1000000000):In z:=by unfold In;omega
theorem In.sub{l q:Int}(hl:In l)(h1:0≤q)(h2:q≤l):In (l-q):=by unfold In at *;omega
theorem In.suc{n m:Int}(hn:In n)(h1:n<m)(h2:m≤100):In (n+1):=by unfold In at *;omega
theorem St.wf.C4h{s:St}(h:s.wf)(k:Int)(f:Bool)(hk:In k):St.wf {s with k:=k,f:=f}:=⟨hk,h.2.1,h.2.2.1,h.2.2.2⟩
theorem St.F6s{s:St}(h:s.wf)(m:Int):(s.ended m).wf:=by
 unfold St.ended
 split
 ·exact h.C4h 5 _ (In.lit (by decide))
 ·split
  ·exact h.C4h 8 _ (In.lit (by decide))
  ·exact h
theorem St.E6o(s:St)(m:Int):(s.ended m).n=s.n∧(s.ended m).g=s.g∧(s.ended m).l=s.l:=by
 unfold St.ended
 split
 ·exact⟨rfl,rfl,rfl⟩
 ·split<;>exact⟨rfl,rfl,rfl⟩
theorem St.G5k{s:St}(h:s.wf):s.A7l.wf:=by
 unfold St.A7l
 split
 ·exact h.C4h 1 _ (In.lit (by decide))
 ·split
  ·exact h.C4h 2 _ (In.lit (by decide))
  ·exact h
theorem St.H2a(s:St):s.A7l.n=s.n∧s.A7l.g=s.g∧s.A7l.l=s.l:=by
 unfold St.A7l
 split
 ·exact⟨rfl,rfl,rfl⟩
 ·split<;>exact⟨rfl,rfl,rfl⟩
theorem St.H5e{s:St}(h:s.wf):s.hold.wf:=by
 unfold St.hold
 split
 ·exact h.C4h 3 _ (In.lit (by decide))
 ·split
  ·exact h.C4h 4 _ (In.lit (by decide))
  ·exact h
theorem St.A9r:St.zero.wf:=⟨In.lit (z:=0) (by decide),In.lit (z:=0) (by decide),In.lit (z:=0) (by decide),In.lit (z:=0) (by decide)⟩
theorem F6o{s:St}(h:s.wf)(m:Int):(A6t s m).wf:=by
 have:=St.F6s (St.G5k h) m
 unfold A6t
 split
 ·exact this.C4h 6 _ (In.lit (by decide))
 ·exact this
theorem C9m(s:St)(m:Int):(A6t s m).n=s.n∧(A6t s m).g=s.g∧(A6t s m).l=s.l:=by
 have h1:=St.E6o s.A7l m
 have h2:=St.H2a s
 unfold A6t
 split
 ·dsimp only;rw[h1.1,h1.2.1,h1.2.2];exact h2
 ·rw[h1.1,h1.2.1,h1.2.2];exact h2
def St.wfn(s:St):Prop:=s.wf∧0≤s.n
theorem F3s{s:St}(h:s.wfn)(q m:Int)(hm:m≤100):(A7c s q m).2.wfn:=by
 obtain⟨⟨h1,h2,h3,h4⟩,h5⟩:=h
 have hz:St.zero.wfn:=⟨St.A9r,by decide⟩
 unfold A7c
 split
 ·exact hz
 split
 ·exact hz
 split
 ·exact hz
 ·refine⟨St.F6s (s:={s with l:=s.l-q,n:=s.n+1}) ⟨h1,h2,h3.sub (q:=q) (by omega) (by omega),h4.suc (m:=m) (by omega) hm⟩ m,?_⟩
  ·show 0≤(St.ended {s with l:=s.l-q,n:=s.n+1} m).n
   rw[(St.E6o _ m).1];dsimp only;omega
theorem D9d{s:St}(h:s.wfn)(q m:Int)(hm:m≤100):(A1z s q m).2.wfn:=by
 obtain⟨⟨h1,h2,h3,h4⟩,h5⟩:=h
 have hz:St.zero.wfn:=⟨St.A9r,by decide⟩
 unfold A1z
 split
 ·exact hz
 split
 ·exact hz
 split
 ·split
  ·exact hz
  ·refine⟨F6o (s:={s with l:=s.l-q,n:=s.n+1}) ⟨h1,h2,h3.sub (q:=q) (by omega) (by omega),h4.suc (m:=m) (by omega) hm⟩ m,?_⟩
   ·show 0≤(A6t {s with l:=s.l-q,n:=s.n+1} m).n
    rw[(C9m _ m).1];dsimp only;omega
 ·exact⟨F6o ⟨h1,h2,h3,h4⟩ m,by show 0≤(A6t s m).n;rw[(C9m s m).1];exact h5⟩
theorem D2j(x:Nat):(A0i x).wfn:=⟨B2w x,(A9o x).2.2.2.1⟩
theorem G4u(a b:Tm)(ha:a.sm)(hb:b.sm)(l o:Int)(hl:In l)(ho:In o):In (A8a a b l o).1∧In (A8a a b l o).2:=by
 have key:∀buy sell:Tm,buy.sm→sell.sm→In (A9g a b buy sell l o).1∧In (A9g a b buy sell l o).2:=by
  intro buy sell h1 h2
  have h0:In 0:=by unfold In;omega
  unfold A9g
  have hq:In (if o<l then o else l):=by
   split
   ·exact ho
   ·exact hl
  generalize (if o<l then o else l)=q at hq
  generalize (if b.least>a.least then b.least else a.least)=mm
  split
  ·exact⟨h0,h0⟩
  ·split
   ·exact⟨h0,h0⟩
   ·constructor
    ·exact hq
    ·show In (F6j sell.A0m buy.A0m)
     have a1:=h1.2.2.1
     have a2:=h2.2.2.1
     unfold F6j In;omega
 unfold A8a
 split
 ·exact key b a hb ha
 ·exact key a b ha hb
structure A0a.ok(P:A0a):Prop where
 wx:P.wx<18446744073709551616
 wy:P.wy<18446744073709551616
 tx:P.tx.sm
 ty:P.ty.sm
 pc:0≤P.pc∧P.pc≤14
 q:In P.q
 p:In P.p
 at_:In P.at_
 fin:In P.fin
 nx:P.nx.wfn
 ny:P.ny.wfn
def B0s(c:Cf)(P:A0a):Bool:=decide (A5f c P.a.x<0) || decide (A5f c P.a.y<0) || A5f c P.a.x == A5f c P.a.y
def C9a(c:Cf)(P:A0a)(s:St):Bool:=if P.a.way=1∨P.a.way=2 then s.k == 1&&s.g == P.a.gen else if P.a.way=3 then s.k == 2&&P.tx.side == 0&&B2v c P.tx == P.a.A3y else false
def D6h(c:Cf)(P:A0a)(s:St):Bool:=if P.a.way=1 then s.k == 1 else if P.a.way=2 then B2v c P.ty == P.a.A3y&&s.k == 2 else if P.a.way=3 then s.k == 2 else false
def B8x(P:A0a)(S:WS):A0a × WS:=if C9a S.c P (A0i P.wx)then({P with held:=(S.turn P.a.x P.wx (A0i P.wx).hold).1},(S.turn P.a.x P.wx (A0i P.wx).hold).2)else(P,S)
def Ev.zero:Ev:=⟨0,0,0,0,0,.zero,0,0,0,0⟩
def B7z(P:A0a)(S:WS)(t:Int × St):A0a × WS:=
 if t.1≠0 then(P,S)else if(S.turn P.a.y P.wy t.2).1=false then(P,S)else
 ({P with made:=true,ny:=t.2,at_:=S.now},(S.turn P.a.y P.wy t.2).2.tell {Ev.zero with kind:=2,cell:=P.a.x,gen:=(A0i P.wx).g,other:=P.a.y,wth:=(A0i P.wy).g,qty:=P.q,A0m:=P.p})
def A2h(P:A0a):Int × Int:=A8a P.tx P.ty (A0i P.wx).l (A0i P.wy).l
def B6h(P:A0a)(S:WS):A0a × WS:=
 if P.held=false∨D6h S.c P (A0i P.wy)=false then(P,S)else
 B7z {P with q:=(A2h P).1,p:=(A2h P).2} S (A7c (A0i P.wy) (A2h P).1 S.c.c5)
def B4z(P:A0a)(S:WS):A0a × WS:=if P.held=true∧P.free=false then({P with wx:=S.word P.a.x},S)else(P,S)
def B9q(P:A0a)(S:WS)(t:Int × St):A0a × WS:=
 if t.1≠0 then(P,S)else if(S.turn P.a.x P.wx t.2).1=false then(P,S)else
 ({P with free:=true,nx:=t.2,fin:=S.now},if t.2.over then(S.turn P.a.x P.wx t.2).2.tell {Ev.zero with kind:=7,cell:=P.a.x,gen:=t.2.g,fin:=t.2.k} else(S.turn P.a.x P.wx t.2).2)
def B5j(P:A0a)(S:WS):A0a × WS:=if P.held=false∨P.free=true then(P,S)else B9q P S (A1z (A0i P.wx) (if P.made then P.q else 0) S.c.c5)
def B6y(P:A0a)(x gen:Int):Rc:=⟨1,P.q,P.p,P.at_,x,gen⟩
def A4r(S:WS)(x gen n:Int):Option Rc→WS
 |some r=>S.note x gen n r
 |none=>S
def A4k(P:A0a)(S:WS):WS:=
 if P.pc=10∧P.made=true then S.note P.a.x P.nx.g (P.nx.n-1) (B6y P P.a.y P.ny.g)
 else if P.pc=11∧P.made=true then S.note P.a.y P.ny.g (P.ny.n-1) (B6y P P.a.x P.nx.g)
 else if P.pc=12∧P.made=true then A4r S P.a.y P.ny.g S.c.c5 (A5k P.ny P.at_)
 else if P.pc=13∧P.held=true then A4r S P.a.x P.nx.g S.c.c5 (A5k P.nx P.fin)
 else S
def A3f(P:A0a)(S:WS):A0a × WS:=
 if P.pc=0 then({P with wx:=S.word P.a.x},S)
 else if P.pc=1 then({P with tx:=B5p (S.A8i P.a.x)},S)
 else if P.pc=2 then B8x P S
 else if P.pc=3 then({P with wy:=S.word P.a.y},S)
 else if P.pc=4 then({P with ty:=B5p (S.A8i P.a.y)},S)
 else if P.pc=5 then B6h P S
 else if P.pc=6∨P.pc=8 then B4z P S
 else if P.pc=7∨P.pc=9 then B5j P S
 else(P,A4k P S)
def A1h(P:A0a)(S:WS):A0a × WS:=if P.pc≥14 then(P,S)else if B0s S.c P then({P with pc:=P.pc+1},S)else({(A3f P S).1 with pc:=P.pc+1},(A3f P S).2)
def A0a.new(a:Aim):A0a:=⟨a,0,0,0,.zero,.zero,false,false,false,0,0,0,0,.zero,.zero⟩
theorem WS.B1h{S:WS}(h:S.ok)(x:Int)(old:Nat)(s:St):(S.turn x old s).2.ok∧(S.turn x old s).2.c=S.c∧(S.turn x old s).2.now=S.now∧(S.turn x old s).2.log=S.log∧((S.turn x old s).1=false→(S.turn x old s).2=S):=by
 unfold WS.turn
 cases hv:stW s with
 |none=>exact⟨h,rfl,rfl,rfl,fun _=>rfl⟩
 |some v=>
  dsimp only
  cases hb:swB S.words (2*x) old with
  |false=>exact⟨h,rfl,rfl,rfl,fun _=>rfl⟩
  |true=>
   refine⟨⟨h.c,F4h h.w _ ?_,h.now,by show(stw S.words (2*x) v).length≤_;rw[B3b];exact h.len⟩,rfl,rfl,rfl,fun h=>by cases h⟩
   unfold stW at hv
   split at hv
   ·cases hv
   ·exact D2w E1s hv
theorem WS.C4c(S:WS)(x:Int)(old:Nat)(s:St):(S.turn x old s).2.words.length=S.words.length:=by
 unfold WS.turn
 cases stW s with
 |none=>rfl
 |some v=>
  dsimp only
  split
  ·exact B3b _ _ _
  ·rfl
theorem WS.F3h(S:WS)(x gen n:Int)(r:Rc):(S.note x gen n r).words.length=S.words.length:=by
 unfold WS.note
 cases rcW r with
 |none=>rfl
 |some v=>exact B3b _ _ _
theorem WS.E5t{S:WS}(h:S.ok)(x gen n:Int)(r:Rc):(S.note x gen n r).ok∧(S.note x gen n r).c=S.c∧(S.note x gen n r).now=S.now∧(S.note x gen n r).log=S.log:=by
 unfold WS.note
 cases hv:rcW r with
 |none=>exact⟨h,rfl,rfl,rfl⟩
 |some v=>
  refine⟨⟨h.c,F4h h.w _ ?_,h.now,by show(stw S.words _ v).length≤_;rw[B3b];exact h.len⟩,rfl,rfl,rfl⟩
  unfold rcW at hv
  split at hv
  ·cases hv
  ·exact D2w F1s hv
theorem WS.C3m{S:WS}(h:S.ok)(e:Ev):(S.tell e).ok:=⟨h.c,h.w,h.now,h.len⟩
theorem WS.word_lt{S:WS}(h:S.ok)(x:Int):S.word x<18446744073709551616:=E2j h.w _
theorem WS.H2h{S:WS}(h:S.ok)(x:Int):S.A8i x<18446744073709551616:=E2j h.w _
theorem H4k{S:WS}(h:S.ok)(x:Int):FX 110 [.int S.c.c0,.int S.c.c1,.int S.c.c2,.int S.c.c3,.int S.c.c4,.int S.c.c5,.int S.c.c6,.int x]=some [.int (A5f S.c x)]:=G8p S.c h.c x
theorem E0r{S:WS}(h:S.ok)(t:Tm):FX 95 [.int S.c.c0,.int S.c.c1,.int S.c.c2,.int S.c.c3,.int S.c.c4,.int S.c.c5,.int S.c.c6,.int t.name,.int t.side,.int t.A0m,.int t.least,.int t.A1n]=some [.int (B2v S.c t)]:=G7h S.c h.c t
theorem H6s(s:St):FX 135 [.int s.k,.bool s.f,.int s.g,.int s.l,.int s.n]=some s.hold.ds:=H4j s
def Did(L L':List D)(a w m k:Nat)(R:A0a × WS):Prop:=InW L' w m k R.2∧L'.getD a D.nil=.agg R.1.ds∧Fr L L' (fun b=>b=a∨b=w∨b=m)
section
variable{L:List D}{a w m k:Nat}{P:A0a}{S:WS}(W:InW L w m k S)(ha:L.getD a D.nil=.agg P.ds)
include W ha
theorem pfar:a≠w∧a≠m∧a≠k:=W.far ha (by rw[A0a.len];decide) (by rw[A0a.len];decide) (by rw[A0a.len];decide)
theorem A4l:Did L L a w m k (P,S):=⟨W,ha,Fr.refl _ _⟩
theorem B7x{L1:List D}{S1:WS}(W1:InW L1 w m k S1)(F:Fr L L1 (fun b=>b=w∨b=m)):Did L L1 a w m k (P,S1):=by
 obtain⟨h1,h2,h3⟩:=pfar W ha
 exact⟨W1,F.get ha (by simp only[h1,h2,QC,not_false_iff]),F.mono fun b hb=>.inr hb⟩
omit W ha in
theorem B1f{L1:List D}{P1:A0a}{S1:WS}(hd:Did L L1 a w m k (P1,S1))(P2:A0a):Did L (L1.set a (.agg P2.ds)) a w m k (P2,S1):=by
 obtain⟨W1,h1,F⟩:=hd
 obtain⟨g1,g2,g3⟩:=pfar W1 h1
 exact⟨W1.fr (Fr.set L1 a _ (T:=(·=a)) rfl) (bO g1) (bO g2) (bO g3),A3r (A2p h1) _,F.trans (Fr.set L1 a _ (.inl rfl))⟩
theorem D7y:FX 78 [.int (a:Nat),.agg L]=some [.bool (decide (P.pc≥14))]:=by
 rw[A8d]
 simp only[HH,ha,A0a.A2m]
theorem H4q(h:S.ok):FX 91 [.int (a:Nat),.int (w:Nat),.agg L]=some [.bool (B0s S.c P)]:=by
 have h1:=H4k h
 rw[D6m]
 simp only[HH,ha,W.w,A0d.all,A0a.A1i,A0a.A1w,h1]
 unfold B0s
 by_cases a1:A5f S.c P.a.x<0
 ·simp only[a1,Q6,Q5,aB]
 by_cases a2:A5f S.c P.a.y<0
 ·simp only[a1,a2,Q6,Q7,a8,Q4,Q5,aB,Bool.or_true]
 ·simp only[a1,a2,Q7,a8,Q4,Bool.false_or]
theorem G8n(h:S.ok)(s:St):FX 134 [.int (a:Nat),.int (w:Nat),.int s.k,.bool s.f,.int s.g,.int s.l,.int s.n,.agg L]=some [.bool (C9a S.c P s)]:=by
 have h1:=E0r h P.tx
 rw[D3l]
 simp only[HH,ha,W.w,A0d.all,A0a.A1f,A0a.A1p,A0a.A1u,A0a.A6y,A0a.A7f,A0a.B4m,A0a.B0v,A0a.A9w,h1]
 unfold C9a
 by_cases a1:P.a.way=1
 ·by_cases b1:s.k=1
  ·simp[a1,b1]
  ·simp[a1,b1]
 by_cases a2:P.a.way=2
 ·by_cases b1:s.k=1
  ·simp[a2,b1]
  ·simp[a2,b1]
 by_cases a3:P.a.way=3
 ·by_cases b1:s.k=2
  ·by_cases b2:P.tx.side=0
   ·simp[a3,b1,b2]
   ·simp[a3,b1,b2]
  ·simp[a3,b1]
 ·simp[a1,a2,a3]
theorem G8o(h:S.ok)(s:St):FX 136 [.int (a:Nat),.int (w:Nat),.int s.k,.bool s.f,.int s.g,.int s.l,.int s.n,.agg L]=some [.bool (D6h S.c P s)]:=by
 have h1:=E0r h P.ty
 rw[D3i]
 simp only[HH,ha,W.w,A0d.all,A0a.A1f,A0a.A1u,A0a.B0q,A0a.B3m,A0a.B8h,A0a.E2c,A0a.C6f,h1]
 unfold D6h
 by_cases a1:P.a.way=1
 ·simp[a1]
 by_cases a2:P.a.way=2
 ·by_cases b1:B2v S.c P.ty=P.a.A3y
  ·simp[a2,b1]
  ·simp[a2,b1]
 by_cases a3:P.a.way=3
 ·simp[a3]
 ·simp[a1,a2,a3]
theorem G8i(h:S.ok)(hp:P.ok)(hx:-1000≤P.a.x∧P.a.x≤1000):∃L',FX 111 [.int (a:Nat),.int (w:Nat),.agg L]=some [.agg L']∧Did L L' a w m k (B8x P S):=by
 have h1:=D0p P.wx hp.wx
 have h2:=G8n W ha h (A0i P.wx)
 have h3:=H6s (A0i P.wx)
 obtain⟨L1,h4,W1,F1⟩:=B9m W h P.a.x hx P.wx (A0i P.wx).hold (St.H5e (B2w _))
 have d1:=B7x W ha W1 (F1.mono fun b hb=>.inr hb)
 rw[D4l]
 simp only[HH,ha,A0a.A1i,A0a.A3z]
 unfold wN at h4⊢
 rw[h1]
 simp only[HH,St.len,St.A1f,St.A1i,St.A1p,St.A1w,St.A1u,h2]
 unfold B8x
 cases hb:C9a S.c P (A0i P.wx)with
 |false=>exact⟨L,by simp only[HH],A4l W ha⟩
 |true=>
  refine⟨_,?_,B1f d1 {P with held:=(S.turn P.a.x P.wx (A0i P.wx).hold).1}⟩
  simp only[HH,h3,St.len,St.A1f,St.A1i,St.A1p,St.A1w,St.A1u,h4,d1.2.1,A0a.all]
end
end
section
set_option linter.unusedSectionVars false
theorem H4x(a b:Tm)(ha:a.sm)(hb:b.sm)(l o:Int):FX 137 [.int a.name,.int a.side,.int a.A0m,.int a.least,.int a.A1n,.int b.name,.int b.side,.int b.A0m,.int b.least,.int b.A1n,.int l,.int o]=some [.int (A8a a b l o).1,.int (A8a a b l o).2]:=H1g a b ha hb l o
theorem H7q(s:St)(hs:s.wf)(q m:Int)(hm:m≤100):FX 138 [.int s.k,.bool s.f,.int s.g,.int s.l,.int s.n,.int q,.int m]=some (A2f (A7c s q m)):=H3i s hs q m hm
theorem G7l(s:St)(hs:s.wf)(q m:Int)(hm:m≤100):FX 139 [.int s.k,.bool s.f,.int s.g,.int s.l,.int s.n,.int q,.int m]=some (A2f (A1z s q m)):=G0t s hs q m hm
theorem F0z(s:St)(t:Int):FX 84 [.int s.k,.bool s.f,.int s.g,.int s.l,.int s.n,.int t]=some (A4u (A5k s t)):=H6t s t
theorem C9e{L:List D}{w m k:Nat}{S:WS}(W:InW L w m k S)(h:S.ok)(hl:S.log.length≤1000000000)(kind cell gen other wth qty A0m fin:Int):
  ∃L',FX 98 [.int (w:Nat),.int kind,.int cell,.int gen,.int other,.int wth,.int 0,.int 0,.int 0,.int 0,.int 0,.int qty,.int A0m,.int 0,.int fin,.agg L]=some [.agg L']∧
   InW L' w m k (S.tell {Ev.zero with kind:=kind,cell:=cell,gen:=gen,other:=other,wth:=wth,qty:=qty,A0m:=A0m,fin:=fin})∧Fr L L' (·=w):=
 F3p W h hl {Ev.zero with kind:=kind,cell:=cell,gen:=gen,other:=other,wth:=wth,qty:=qty,A0m:=A0m,fin:=fin}
theorem D9y{L L1 L2:List D}{a w m k:Nat}{P:A0a}{S1 S2:WS}(d:Did L L1 a w m k (P,S1))(W2:InW L2 w m k S2)(F:Fr L1 L2 (fun b=>b=w∨b=m)):Did L L2 a w m k (P,S2):=by
 have:=B7x d.1 d.2.1 W2 F
 exact⟨this.1,this.2.1,d.2.2.trans this.2.2⟩
theorem F2w(x:Nat)(hx:x<18446744073709551616):FX 24 [wN x]=some (A0i x).ds:=D0p x hx
theorem E5e{c:Int}(h:c=0):(er c).isNil=true:=by rw[D9q];simp[h]
theorem E4r{c:Int}(h:c≠0):(er c).isNil=false:=by rw[D9q];simp[h]
theorem A9p{c:Cf}(h:c.ok):1≤c.c5∧c.c5≤4:=h.2.2.2.2.2.1
section
variable{L:List D}{a w m k:Nat}{P:A0a}{S:WS}(W:InW L w m k S)(ha:L.getD a D.nil=.agg P.ds)(h:S.ok)(hp:P.ok)(hl:S.log.length≤1000000000)
include W ha h hp
theorem H0b(hx:-1000≤P.a.x∧P.a.x≤1000):∃L',FX 113 [.int (a:Nat),.int (w:Nat),.agg L]=some [.agg L']∧Did L L' a w m k (B4z P S):=by
 obtain⟨L1,h4,W1,F1⟩:=B1l W h P.a.x hx
 have d1:=B7x W ha W1 (F1.mono fun b hb=>.inr hb)
 rw[D4e]
 simp only[HH,ha,A0a.A1i,A0a.C9t,A0a.D0l]
 by_cases b1:P.held=true
 ·by_cases b2:P.free=true
  ·have e:B4z P S=(P,S):=Q0 (by simp[b2])
   rw[e]
   exact⟨L,by simp only[HH,b1,b2],A4l W ha⟩
  ·have e:B4z P S=({P with wx:=S.word P.a.x},S):=Q3 ⟨b1,by simpa using b2⟩
   rw[e]
   refine⟨_,?_,B1f d1 _⟩
   have b2':P.free=false:=by simpa using b2
   have e:(bC ((A0i (S.word P.a.x)).ds++[D.agg L1]) 5 D.nil)=D.agg L1:=rfl
   simp only[HH,h4,aH,aL,St.len,b1,b2',e,d1.2.1,A0a.all]
 ·have e:B4z P S=(P,S):=Q0 (by simp[b1])
  have b1':P.held=false:=by simpa using b1
  rw[e]
  exact⟨L,by simp only[HH,b1'],A4l W ha⟩
include hl
theorem H1t(hx:-1000≤P.a.y∧P.a.y≤1000):∃L',FX 112 [.int (a:Nat),.int (w:Nat),.agg L]=some [.agg L']∧Did L L' a w m k (B6h P S):=by
 have h1:=F2w P.wx hp.wx
 have h2:=F2w P.wy hp.wy
 have h3:=G8o W ha h (A0i P.wy)
 have h4:=H4x P.tx P.ty hp.tx hp.ty (A0i P.wx).l (A0i P.wy).l
 obtain⟨f,hfF⟩:∃f,f=A2h P:=⟨_,rfl⟩
 have hfM:A8a P.tx P.ty (A0i P.wx).l (A0i P.wy).l=f:=hfF.symm
 rw[hfM]at h4
 have hf:=A9p h.c
 rw[D5q]
 simp only[HH,ha,A0a.A1i,A0a.A1w,A0a.A3z,A0a.A8l,A0a.A6y,A0a.A7f,A0a.B4m,A0a.B0v,A0a.A9w,A0a.B0q,A0a.B3m,A0a.B8h,A0a.E2c,A0a.C6f,A0a.C9t,h1,St.len,St.A1f,St.A1i,St.A1p,St.A1w,St.A1u,h2,h3,h4]
 by_cases b0:P.held=false∨D6h S.c P (A0i P.wy)=false
 ·have e:B6h P S=(P,S):=Q3 b0
  rw[e]
  rcases b0 with b1|b1
  ·exact⟨L,by simp only[HH,b1],A4l W ha⟩
  ·by_cases b2:P.held=true
   ·exact⟨L,by simp only[HH,b1,b2],A4l W ha⟩
   ·have b2':P.held=false:=by simpa using b2
    exact⟨L,by simp only[HH,b2'],A4l W ha⟩
 have b1:P.held=true:=by simp only[not_or]at b0;simpa using b0.1
 have b2:D6h S.c P (A0i P.wy)=true:=by simp only[not_or]at b0;simpa using b0.2
 obtain⟨P2,hP2⟩:∃P2:A0a,P2={P with q:=f.1,p:=f.2}:=⟨_,rfl⟩
 have e:B6h P S=B7z P2 S (A7c (A0i P.wy) f.1 S.c.c5):=by rw[hP2,hfF];exact Q0 b0
 rw[e]
 have d2:=B1f (A4l W ha) P2
 have h5:=H7q (A0i P.wy) (B2w _) f.1 S.c.c5 (by omega)
 simp only[HH,b2,A0a.rng,A0a.F1a,A0a.F0n,←hP2]
 rw[Q0 (show ¬(!P.held)=true by rw[b1];decide)]
 simp only[d2.1.w,D.A0j,A0d.A2m,h5,A0n,A2f.len]
 have ht:=F3s (D2j P.wy) f.1 S.c.c5 (by omega)
 generalize A7c (A0i P.wy) f.1 S.c.c5=t at*
 by_cases b3:t.1=0
 ·simp only[HH,A2f.all,E5e b3]
  have b3':¬t.1≠0:=by simpa using b3
  have hw2:P2.wy=P.wy:=by rw[hP2]
  have hy2:P2.a.y=P.a.y:=by rw[hP2]
  obtain⟨L3,h6,W3,F3⟩:=B9m d2.1 h P.a.y hx P.wy t.2 ht.1
  have d3:Did L L3 a w m k (P2,(S.turn P.a.y P.wy t.2).2):=D9y d2 W3 (F3.mono fun b hb=>.inr hb)
  obtain⟨o1,o2,o3,o4,o5⟩:=S.B1h h P.a.y P.wy t.2
  simp only[h6,HH]
  by_cases b4:(S.turn P.a.y P.wy t.2).1=false
  ·have e:B7z P2 S t=(P2,S):=by
    unfold B7z
    rw[Q0 b3',hw2,hy2,Q3 b4]
   rw[e]
   rw[o5 b4]at d3
   exact⟨L3,by simp only[HH,b4],d3⟩
  ·have b4':(S.turn P.a.y P.wy t.2).1=true:=by simpa using b4
   have e:B7z P2 S t=({P2 with made:=true,ny:=t.2,at_:=S.now},(S.turn P.a.y P.wy t.2).2.tell {Ev.zero with kind:=2,cell:=P2.a.x,gen:=(A0i P2.wx).g,other:=P2.a.y,wth:=(A0i P2.wy).g,qty:=P2.q,A0m:=P2.p}):=by
    unfold B7z
    rw[Q0 b3',hw2,hy2,Q0 b4]
   rw[e]
   have d4:=B1f d3 {P2 with made:=true,ny:=t.2,at_:=S.now}
   obtain⟨L5,h7,W5,F5⟩:=C9e d4.1 o1 (by rw[o4];exact hl) 2 P2.a.x (A0i P2.wx).g P2.a.y (A0i P2.wy).g P2.q P2.p 0
   have hw1:(A0i P2.wx).g=(A0i P.wx).g:=by rw[hP2]
   have hw3:(A0i P2.wy).g=(A0i P.wy).g:=by rw[hP2]
   rw[hw1,hw3]at h7
   have h8:=B8b W3 o1
   rw[o3]at h8
   refine⟨L5,?_,D9y d4 W5 (F5.mono fun b hb=>.inl hb)⟩
   simp only[HH,b4',W3.w,A0d.A6y,h8,C5f,d3.2.1,A0a.A1i,A0a.A1w,A0a.D2p,A0a.E5c,A0a.rng,A0a.G1h,A0a.F0p,A0a.F0v,A0a.F0o,A0a.F1r,A0a.F1f]
   have e9:(A0a.ds {P2 with made:=true,ny:=t.2}).set 23 (wN S.now)=A0a.ds {P2 with made:=true,ny:=t.2,at_:=S.now}:=rfl
   have e10:({k:=t.2.k,f:=t.2.f,g:=t.2.g,l:=t.2.l,n:=t.2.n}:St)=t.2:=rfl
   simp only[e10,e9,h7,HH]
 ·have e:B7z P2 S t=(P2,S):=Q3 b3
  rw[e]
  exact⟨_,by simp only[HH,A2f.all,E4r b3],d2⟩
end
end
section
set_option linter.unusedSectionVars false
theorem G8z(t:Tm)(x:D):t.ds++[x]=[.int t.name,.int t.side,.int t.A0m,.int t.least,.int t.A1n,x]:=rfl
theorem F3w(s:St)(x:D):s.ds++[x]=[.int s.k,.bool s.f,.int s.g,.int s.l,.int s.n,x]:=rfl
theorem A4u.len(o:Option Rc):(A4u o).length=7:=by
 cases o<;>simp only[A4u,aL,Rc.len,aC,aD]
theorem D7n{s:St}(hs:s.wf){t:Int}(ht:In t){r:Rc}(h:A5k s t=some r):r.wf:=by
 unfold A5k at h
 split at h
 ·rename_i ho
  cases h
  have hk:5≤s.k∧s.k≤8:=by unfold St.over at ho;simpa using ho
  obtain⟨h1,h2,h3,h4⟩:=hs
  intro z hz
  simp only[Rc.vs,aU,aV,or_false]at hz
  rcases hz with rfl|rfl|rfl|rfl|rfl|rfl
  ·exact In.lit (by omega)
  ·exact h3
  ·exact h4
  ·exact ht
  ·exact In.lit (by decide)
  ·exact In.lit (by decide)
 ·cases h
structure Kept(P:A0a)(S:WS)(R:A0a × WS):Prop where
 p:R.1.ok
 s:R.2.ok
 c:R.2.c=S.c
 now:R.2.now=S.now
 log:R.2.log.length≤S.log.length+1
 pc:R.1.pc=P.pc
 a:R.1.a=P.a
 len:R.2.words.length=S.words.length
section
variable{P:A0a}{S:WS}(h:S.ok)(hp:P.ok)
include h hp
theorem B1n:Kept P S (P,S):=⟨hp,h,rfl,rfl,bQ _,rfl,rfl,rfl⟩
theorem H3g:In (S.now:Int):=In.lit (by have:=h.now;omega)
theorem G4p:Kept P S (B8x P S):=by
 obtain⟨o1,o2,o3,o4,o5⟩:=S.B1h h P.a.x P.wx (A0i P.wx).hold
 unfold B8x
 split
 ·exact⟨⟨hp.wx,hp.wy,hp.tx,hp.ty,hp.pc,hp.q,hp.p,hp.at_,hp.fin,hp.nx,hp.ny⟩,o1,o2,o3,by rw[o4];omega,rfl,rfl,S.C4c _ _ _⟩
 ·exact B1n h hp
theorem G3w:Kept P S (B6h P S):=by
 have hf:=A9p h.c
 unfold B6h
 split
 ·exact B1n h hp
 ·have hm:=G4u P.tx P.ty hp.tx hp.ty (A0i P.wx).l (A0i P.wy).l (B2w _).2.2.1 (B2w _).2.2.1
  have hm':In (A2h P).1∧In (A2h P).2:=hm
  have ht:=F3s (D2j P.wy) (A2h P).1 S.c.c5 (by omega)
  generalize A2h P=f at*
  generalize A7c (A0i P.wy) f.1 S.c.c5=t at*
  obtain⟨o1,o2,o3,o4,o5⟩:=S.B1h h P.a.y P.wy t.2
  have hp2:A0a.ok {P with q:=f.1,p:=f.2}:=⟨hp.wx,hp.wy,hp.tx,hp.ty,hp.pc,hm'.1,hm'.2,hp.at_,hp.fin,hp.nx,hp.ny⟩
  unfold B7z
  split
  ·exact⟨hp2,h,rfl,rfl,bQ _,rfl,rfl,rfl⟩
  ·split
   ·exact⟨hp2,h,rfl,rfl,bQ _,rfl,rfl,rfl⟩
   ·exact⟨⟨hp.wx,hp.wy,hp.tx,hp.ty,hp.pc,hm'.1,hm'.2,H3g h hp,hp.fin,hp.nx,ht⟩,WS.C3m o1 _,o2,o3,by simp only[WS.tell,aL,o4,aC,aD];omega,rfl,rfl,S.C4c _ _ _⟩
theorem G5t:Kept P S (B4z P S):=by
 unfold B4z
 split
 ·exact⟨⟨WS.word_lt h _,hp.wy,hp.tx,hp.ty,hp.pc,hp.q,hp.p,hp.at_,hp.fin,hp.nx,hp.ny⟩,h,rfl,rfl,bQ _,rfl,rfl,rfl⟩
 ·exact B1n h hp
theorem G8l:Kept P S (B5j P S):=by
 have hf:=A9p h.c
 unfold B5j
 split
 ·exact B1n h hp
 ·have ht:=D9d (D2j P.wx) (if P.made then P.q else 0) S.c.c5 (by omega)
  generalize A1z (A0i P.wx) (if P.made then P.q else 0) S.c.c5=t at*
  obtain⟨o1,o2,o3,o4,o5⟩:=S.B1h h P.a.x P.wx t.2
  unfold B9q
  split
  ·exact B1n h hp
  ·split
   ·exact B1n h hp
   ·have hq:A0a.ok {P with free:=true,nx:=t.2,fin:=S.now}:=⟨hp.wx,hp.wy,hp.tx,hp.ty,hp.pc,hp.q,hp.p,hp.at_,H3g h hp,ht,hp.ny⟩
    split
    ·exact⟨hq,WS.C3m o1 _,o2,o3,by simp only[WS.tell,aL,o4,aC,aD];omega,rfl,rfl,S.C4c _ _ _⟩
    ·exact⟨hq,o1,o2,o3,by dsimp only;rw[o4];omega,rfl,rfl,S.C4c _ _ _⟩
theorem G5s:Kept P S (P,A4k P S):=by
 have key:∀x g n r,Kept P S (P,S.note x g n r):=by
  intro x g n r
  obtain⟨o1,o2,o3,o4⟩:=WS.E5t h x g n r
  exact⟨hp,o1,o2,o3,by dsimp only;rw[o4];omega,rfl,rfl,S.F3h _ _ _ _⟩
 have key2:∀x g n o,Kept P S (P,A4r S x g n o):=by
  intro x g n o
  cases o with
  |none=>exact B1n h hp
  |some r=>exact key _ _ _ _
 unfold A4k
 split
 ·exact key _ _ _ _
 split
 ·exact key _ _ _ _
 split
 ·exact key2 _ _ _ _
 split
 ·exact key2 _ _ _ _
 ·exact B1n h hp
theorem E2n:Kept P S (A3f P S):=by
 unfold A3f
 split
 ·exact⟨⟨WS.word_lt h _,hp.wy,hp.tx,hp.ty,hp.pc,hp.q,hp.p,hp.at_,hp.fin,hp.nx,hp.ny⟩,h,rfl,rfl,bQ _,rfl,rfl,rfl⟩
 split
 ·exact⟨⟨hp.wx,hp.wy,C8o _,hp.ty,hp.pc,hp.q,hp.p,hp.at_,hp.fin,hp.nx,hp.ny⟩,h,rfl,rfl,bQ _,rfl,rfl,rfl⟩
 split
 ·exact G4p h hp
 split
 ·exact⟨⟨hp.wx,WS.word_lt h _,hp.tx,hp.ty,hp.pc,hp.q,hp.p,hp.at_,hp.fin,hp.nx,hp.ny⟩,h,rfl,rfl,bQ _,rfl,rfl,rfl⟩
 split
 ·exact⟨⟨hp.wx,hp.wy,hp.tx,C8o _,hp.pc,hp.q,hp.p,hp.at_,hp.fin,hp.nx,hp.ny⟩,h,rfl,rfl,bQ _,rfl,rfl,rfl⟩
 split
 ·exact G3w h hp
 split
 ·exact G5t h hp
 split
 ·exact G8l h hp
 ·exact G5s h hp
end
structure H7y(P:A0a)(S:WS)(R:A0a × WS):Prop where
 p:R.1.ok
 s:R.2.ok
 c:R.2.c=S.c
 now:R.2.now=S.now
 log:R.2.log.length≤S.log.length+1
 a:R.1.a=P.a
 len:R.2.words.length=S.words.length
theorem D1w{P:A0a}{S:WS}(h:S.ok)(hp:P.ok):H7y P S (A1h P S):=by
 unfold A1h
 split
 ·exact⟨hp,h,rfl,rfl,bQ _,rfl,rfl⟩
 ·rename_i hc
  have hpc:0≤P.pc+1∧P.pc+1≤14:=by have:=hp.pc;omega
  split
  ·exact⟨⟨hp.wx,hp.wy,hp.tx,hp.ty,hpc,hp.q,hp.p,hp.at_,hp.fin,hp.nx,hp.ny⟩,h,rfl,rfl,bQ _,rfl,rfl⟩
  ·have kk:=E2n h hp
   obtain⟨q,s,e1,e2,e3,e4,e5,e6⟩:=kk
   exact⟨⟨q.wx,q.wy,q.tx,q.ty,hpc,q.q,q.p,q.at_,q.fin,q.nx,q.ny⟩,s,e1,e2,e3,e5,e6⟩
theorem A0a.C1c(a:Aim):(A0a.new a).ok:=by
 have z:In 0:=In.lit (by decide)
 have t:Tm.zero.sm:=by unfold Tm.sm Tm.zero;decide
 exact⟨by show 0<_;decide,by show 0<_;decide,t,t,by show 0≤(0:Int)∧(0:Int)≤14;decide,z,z,z,z,⟨St.A9r,bL 0⟩,⟨St.A9r,bL 0⟩⟩
section
variable{L:List D}{a w m k:Nat}{P:A0a}{S:WS}(W:InW L w m k S)(ha:L.getD a D.nil=.agg P.ds)(h:S.ok)(hp:P.ok)
include W ha h hp
theorem H6f(hl:S.log.length≤1000000000)(hx:-1000≤P.a.x∧P.a.x≤1000):∃L',FX 114 [.int (a:Nat),.int (w:Nat),.agg L]=some [.agg L']∧Did L L' a w m k (B5j P S):=by
 have h1:=F2w P.wx hp.wx
 have hf:=A9p h.c
 rw[D8e]
 simp only[HH,ha,A0a.C9t,A0a.D7x,A0a.D0l,A0a.D2p]
 by_cases b0:P.held=false∨P.free=true
 ·have e:B5j P S=(P,S):=Q3 b0
  rw[e]
  rcases b0 with b1|b1
  ·exact⟨L,by simp only[HH,b1],A4l W ha⟩
  ·by_cases b2:P.held=true
   ·exact⟨L,by simp only[HH,b1,b2],A4l W ha⟩
   ·have b2':P.held=false:=by simpa using b2
    exact⟨L,by simp only[HH,b2'],A4l W ha⟩
 have b1:P.held=true:=by simp only[not_or]at b0;simpa using b0.1
 have b2:P.free=false:=by simp only[not_or]at b0;simpa using b0.2
 obtain⟨q,hq⟩:∃q:Int,q=if P.made then P.q else 0:=⟨_,rfl⟩
 have e:B5j P S=B9q P S (A1z (A0i P.wx) q S.c.c5):=by rw[hq];exact Q0 b0
 rw[e]
 have h5:=G7l (A0i P.wx) (B2w _) q S.c.c5 (by omega)
 rw[Q0 (show ¬(!P.held)=true by rw[b1];decide),Q0 (show ¬P.free=true by rw[b2];decide)]
 have eJ:(if P.made=true then A5r (.int (a:Nat)) (.int (w:Nat)) (.agg L) [.agg L,.int P.q]else A5r (.int (a:Nat)) (.int (w:Nat)) (.agg L) [.agg L,.int 0])=A5r (.int (a:Nat)) (.int (w:Nat)) (.agg L) [.agg L,.int q]:=by
  rw[hq]
  split<;>rfl
 rw[eJ,C7h]
 simp only[HH,ha,A0a.A1i,A0a.A3z,h1,St.len,St.A1f,St.A1i,St.A1p,St.A1w,St.A1u,W.w,A0d.A2m,h5,A2f.len]
 have ht:=D9d (D2j P.wx) q S.c.c5 (by omega)
 generalize A1z (A0i P.wx) q S.c.c5=t at*
 by_cases b3:t.1=0
 ·simp only[HH,A2f.all,E5e b3]
  have b3':¬t.1≠0:=by simpa using b3
  obtain⟨L3,h6,W3,F3⟩:=B9m W h P.a.x hx P.wx t.2 ht.1
  have d3:Did L L3 a w m k (P,(S.turn P.a.x P.wx t.2).2):=B7x W ha W3 (F3.mono fun b hb=>.inr hb)
  obtain⟨o1,o2,o3,o4,o5⟩:=S.B1h h P.a.x P.wx t.2
  simp only[h6,HH]
  by_cases b4:(S.turn P.a.x P.wx t.2).1=false
  ·have e:B9q P S t=(P,S):=by
    unfold B9q
    rw[Q0 b3',Q3 b4]
   rw[e]
   rw[o5 b4]at d3
   exact⟨L3,by simp only[HH,b4],d3⟩
  ·have b4':(S.turn P.a.x P.wx t.2).1=true:=by simpa using b4
   have d4:=B1f d3 {P with free:=true,nx:=t.2,fin:=S.now}
   have h8:=B8b W3 o1
   rw[o3]at h8
   have h9:=F9l t.2.k (.bool t.2.f) (.int t.2.g) (.int t.2.l) (.int t.2.n)
   have e9:(A0a.ds {P with free:=true,nx:=t.2}).set 24 (wN S.now)=A0a.ds {P with free:=true,nx:=t.2,fin:=S.now}:=rfl
   have e10:({k:=t.2.k,f:=t.2.f,g:=t.2.g,l:=t.2.l,n:=t.2.n}:St)=t.2:=rfl
   by_cases b5:t.2.over=true
   ·have e:B9q P S t=({P with free:=true,nx:=t.2,fin:=S.now},(S.turn P.a.x P.wx t.2).2.tell {Ev.zero with kind:=7,cell:=P.a.x,gen:=t.2.g,fin:=t.2.k}):=by
     unfold B9q
     rw[Q0 b3',Q0 b4,Q3 b5]
    rw[e]
    obtain⟨L5,h7,W5,F5⟩:=C9e d4.1 o1 (by rw[o4];exact hl) 7 P.a.x t.2.g 0 0 0 0 t.2.k
    have b5':(decide (5≤t.2.k)&&decide (t.2.k≤8))=true:=b5
    refine⟨L5,?_,D9y d4 W5 (F5.mono fun b hb=>.inl hb)⟩
    simp only[HH,b4',W3.w,A0d.A6y,h8,B5v,d3.2.1,A0a.A1i,A0a.rng,A0a.E3d,A0a.E1u,A0a.E3g,A0a.E2a,A0a.E4v,A0a.E3l,h9,b5']
    simp only[e10,e9,h7,HH]
   ·have e:B9q P S t=({P with free:=true,nx:=t.2,fin:=S.now},(S.turn P.a.x P.wx t.2).2):=by
     unfold B9q
     rw[Q0 b3',Q0 b4,Q0 b5]
    rw[e]
    have b6:t.2.over=false:=by simpa using b5
    have b5':(decide (5≤t.2.k)&&decide (t.2.k≤8))=false:=b6
    refine⟨_,?_,d4⟩
    simp only[HH,b4',W3.w,A0d.A6y,h8,B5v,d3.2.1,A0a.A1i,A0a.rng,A0a.E3d,A0a.E1u,A0a.E3g,A0a.E2a,A0a.E4v,A0a.E3l,h9,b5']
    simp only[e10,e9,HH]
 ·have e:B9q P S t=(P,S):=Q3 b3
  rw[e]
  exact⟨_,by simp only[HH,A2f.all,E4r b3],A4l W ha⟩
theorem E4g(x g:Int):FX 140 [.int (a:Nat),.int x,.int g,.agg L]=some (B6y P x g).ds:=by
 rw[C4t]
 simp only[HH,ha,A0a.D2p,A0a.E5c,A0a.E2e]
 rfl
theorem E2q(x g:Int)(hx:In x)(hg:In g):(B6y P x g).wf:=by
 intro z hz
 simp only[B6y,Rc.vs,aU,aV,or_false]at hz
 rcases hz with rfl|rfl|rfl|rfl|rfl|rfl
 ·exact In.lit (by decide)
 ·exact hp.q
 ·exact hp.p
 ·exact hp.at_
 ·exact hx
 ·exact hg
theorem F8z(x g:Int)(o:Option Rc)(ho:∀r,o=some r→r.wf):∃L',(if((A4u o).getD 6 D.nil).toBool=true then A0b (FX 85 [.int (w:Nat),.int x,.int g,.int S.c.c5,(A4u o).getD 0 D.nil,(A4u o).getD 1 D.nil,(A4u o).getD 2 D.nil,(A4u o).getD 3 D.nil,(A4u o).getD 4 D.nil,(A4u o).getD 5 D.nil,.agg L]) 1 fun r11=>some [r11.getD 0 D.nil]else some [.agg L])=some [.agg L']∧Did L L' a w m k (P,A4r S x g S.c.c5 o):=by
 cases o with
 |none=>exact⟨L,rfl,A4l W ha⟩
 |some r=>
  obtain⟨L1,n1,W1,F1⟩:=C4f W h x g S.c.c5 r (ho r rfl)
  refine⟨L1,?_,B7x W ha W1 (F1.mono fun b hb=>.inr hb)⟩
  show A0b (FX 85 [.int (w:Nat),.int x,.int g,.int S.c.c5,.int r.k,.int r.q,.int r.p,.int r.t,.int r.c,.int r.g,.agg L]) 1 (fun r11=>some [r11.getD 0 D.nil])=_
  rw[n1];rfl
theorem G8d(hx:In P.a.x)(hy:In P.a.y):∃L',FX 115 [.int (a:Nat),.int (w:Nat),.agg L]=some [.agg L']∧Did L L' a w m k (P,A4k P S):=by
 have hnx:In (P.nx.n-1):=by have:=hp.nx.1.2.2.2;have:=hp.nx.2;unfold In at *;omega
 have hny:In (P.ny.n-1):=by have:=hp.ny.1.2.2.2;have:=hp.ny.2;unfold In at *;omega
 have fr1:=E4g W ha h hp P.a.y P.ny.g
 have fr2:=E4g W ha h hp P.a.x P.nx.g
 obtain⟨L1,n1,W1,F1⟩:=C4f W h P.a.x P.nx.g (P.nx.n-1) (B6y P P.a.y P.ny.g) (E2q W ha h hp _ _ hy hp.ny.1.2.1)
 obtain⟨L2,n2,W2,F2⟩:=C4f W h P.a.y P.ny.g (P.ny.n-1) (B6y P P.a.x P.nx.g) (E2q W ha h hp _ _ hx hp.nx.1.2.1)
 have d1:=B7x W ha W1 (F1.mono fun b hb=>.inr hb)
 have d2:=B7x W ha W2 (F2.mono fun b hb=>.inr hb)
 have e1:=F0z P.ny P.at_
 have e2:=F0z P.nx P.fin
 obtain⟨L3,n3,d3⟩:=F8z W ha h hp P.a.y P.ny.g (A5k P.ny P.at_) fun r hr=>D7n hp.ny.1 hp.at_ hr
 obtain⟨L4,n4,d4⟩:=F8z W ha h hp P.a.x P.nx.g (A5k P.nx P.fin) fun r hr=>D7n hp.nx.1 hp.fin hr
 rw[D3u]
 simp only[HH,ha,A0a.A2m,A0a.D7x,C5k,C5r,C5u,C5p,A0a.A1i,A0a.A1w,A0a.C9t,A0a.E2e,A0a.F1u,A0a.F0y,A0a.F0r,A0a.F0q,A0a.F1k,A0a.F1e,A0a.F1l,A0a.F1t,A0a.F1c,A0a.F1m,A0a.E5f,fr1,fr2,hnx.w,hny.w,Rc.len,Rc.A1f,Rc.A1i,Rc.A1p,Rc.A1w,Rc.A1u,Rc.A2m,n1,n2,e1,e2,A4u.len,W.w,A0d.A2m]
 simp only[n3,n4]
 by_cases c0:P.pc=10
 ·by_cases c1:P.made=true
  ·have e:A4k P S=_:=Q3 ⟨c0,c1⟩
   rw[e];exact⟨L1,by simp[c0,c1],d1⟩
  ·have e:A4k P S=S:=by simp[A4k,c0,c1]
   rw[e];exact⟨L,by simp[c0,c1],A4l W ha⟩
 by_cases c2:P.pc=11
 ·by_cases c1:P.made=true
  ·have e:A4k P S=S.note P.a.y P.ny.g (P.ny.n-1) (B6y P P.a.x P.nx.g):=by simp[A4k,c2,c1]
   rw[e];exact⟨L2,by simp[c2,c1],d2⟩
  ·have e:A4k P S=S:=by simp[A4k,c2,c1]
   rw[e];exact⟨L,by simp[c2,c1],A4l W ha⟩
 by_cases c3:P.pc=12
 ·by_cases c1:P.made=true
  ·have e:A4k P S=A4r S P.a.y P.ny.g S.c.c5 (A5k P.ny P.at_):=by simp[A4k,c3,c1]
   rw[e];exact⟨L3,by simp[c3,c1],d3⟩
  ·have e:A4k P S=S:=by simp[A4k,c3,c1]
   rw[e];exact⟨L,by simp[c3,c1],A4l W ha⟩
 by_cases c4:P.pc=13
 ·by_cases c1:P.held=true
  ·have e:A4k P S=A4r S P.a.x P.nx.g S.c.c5 (A5k P.nx P.fin):=by simp[A4k,c4,c1]
   rw[e];exact⟨L4,by simp[c4,c1],d4⟩
  ·have e:A4k P S=S:=by simp[A4k,c4,c1]
   rw[e];exact⟨L,by simp[c4,c1],A4l W ha⟩
 ·have e:A4k P S=S:=by simp[A4k,c0,c2,c3,c4]
  rw[e];exact⟨L,by simp[c0,c2,c3,c4],A4l W ha⟩
theorem H2f(hl:S.log.length≤1000000000)(hx:-1000≤P.a.x∧P.a.x≤1000)(hy:-1000≤P.a.y∧P.a.y≤1000):∃L',FX 92 [.int (a:Nat),.int (w:Nat),.agg L]=some [.agg L']∧Did L L' a w m k (A3f P S):=by
 obtain⟨L0,n0,W0,F0⟩:=B1l W h P.a.x hx
 obtain⟨L1,n1,W1,F1⟩:=D6a W h P.a.x hx
 obtain⟨L2,n2,d2⟩:=G8i W ha h hp hx
 obtain⟨L3,n3,W3,F3⟩:=B1l W h P.a.y hy
 obtain⟨L4,n4,W4,F4⟩:=D6a W h P.a.y hy
 obtain⟨L5,n5,d5⟩:=H1t W ha h hp hl hy
 obtain⟨L6,n6,d6⟩:=H0b W ha h hp hx
 obtain⟨L7,n7,d7⟩:=H6f W ha h hp hl hx
 obtain⟨L8,n8,d8⟩:=G8d W ha h hp (In.lit (by omega)) (In.lit (by omega))
 have d0:=B7x W ha W0 (F0.mono fun b hb=>.inr hb)
 have d1:=B7x W ha W1 (F1.mono fun b hb=>.inr hb)
 have d3:=B7x W ha W3 (F3.mono fun b hb=>.inr hb)
 have d4:=B7x W ha W4 (F4.mono fun b hb=>.inr hb)
 rw[D4a]
 simp only[HH,ha,A0a.A1i,A0a.A1w,A0a.A2m,n0,n1,n2,n3,n4,n5,n6,n7,n8]
 by_cases c0:P.pc=0
 ·have e:A3f P S=_:=Q3 c0
  rw[e]
  refine⟨_,?_,B1f d0 _⟩
  have e2:(bC ((A0i (S.word P.a.x)).ds++[D.agg L0]) 5 D.nil)=D.agg L0:=rfl
  simp only[c0,beq_self_eq_true,HH,aL,St.len,e2,d0.2.1,A0a.all]
 by_cases c1:P.pc=1
 ·have e:A3f P S=({P with tx:=B5p (S.A8i P.a.x)},S):=by unfold A3f;rw[Q0 c0,Q3 c1]
  rw[e]
  refine⟨_,?_,B1f d1 _⟩
  have i0:(P.pc == 0)=false:=Q8.2 c0
  have i1:(P.pc == 1)=true:=QB.2 c1
  simp only[i0,i1,G8z,HH,d1.2.1,A0a.all]
 by_cases c2:P.pc=2
 ·have e:A3f P S=B8x P S:=by unfold A3f;rw[Q0 c0,Q0 c1,Q3 c2]
  rw[e]
  exact⟨L2,by simp[c2,A0b],d2⟩
 by_cases c3:P.pc=3
 ·have e:A3f P S=({P with wy:=S.word P.a.y},S):=by unfold A3f;rw[Q0 c0,Q0 c1,Q0 c2,Q3 c3]
  rw[e]
  refine⟨_,?_,B1f d3 _⟩
  have e2:(bC ((A0i (S.word P.a.y)).ds++[D.agg L3]) 5 D.nil)=D.agg L3:=rfl
  have i0:((3:Int) == 0)=false:=rfl
  have i1:((3:Int) == 1)=false:=rfl
  have i2:((3:Int) == 2)=false:=rfl
  simp only[c3,i0,i1,i2,beq_self_eq_true,HH,aL,St.len,e2,d3.2.1,A0a.all]
 by_cases c4:P.pc=4
 ·have e:A3f P S=({P with ty:=B5p (S.A8i P.a.y)},S):=by unfold A3f;rw[Q0 c0,Q0 c1,Q0 c2,Q0 c3,Q3 c4]
  rw[e]
  refine⟨_,?_,B1f d4 _⟩
  have i0:(P.pc == 0)=false:=Q8.2 c0
  have i1:(P.pc == 1)=false:=Q8.2 c1
  have i2:(P.pc == 2)=false:=Q8.2 c2
  have i3:(P.pc == 3)=false:=Q8.2 c3
  have i4:(P.pc == 4)=true:=QB.2 c4
  simp only[i0,i1,i2,i3,i4,G8z,HH,d4.2.1,A0a.all]
 by_cases c5:P.pc=5
 ·have e:A3f P S=B6h P S:=by unfold A3f;rw[Q0 c0,Q0 c1,Q0 c2,Q0 c3,Q0 c4,Q3 c5]
  rw[e]
  exact⟨L5,by simp[c5,A0b],d5⟩
 by_cases c6:P.pc=6∨P.pc=8
 ·have e:A3f P S=B4z P S:=by unfold A3f;rw[Q0 c0,Q0 c1,Q0 c2,Q0 c3,Q0 c4,Q0 c5,Q3 c6]
  rw[e]
  rcases c6 with c6|c6
  ·exact⟨L6,by simp[c6,A0b],d6⟩
  ·exact⟨L6,by simp[c6,A0b],d6⟩
 by_cases c7:P.pc=7∨P.pc=9
 ·have e:A3f P S=B5j P S:=by unfold A3f;rw[Q0 c0,Q0 c1,Q0 c2,Q0 c3,Q0 c4,Q0 c5,Q0 c6,Q3 c7]
  rw[e]
  rcases c7 with c7|c7
  ·exact⟨L7,by simp[c7,A0b],d7⟩
  ·exact⟨L7,by simp[c7,A0b],d7⟩
 ·have e:A3f P S=(P,A4k P S):=by unfold A3f;rw[Q0 c0,Q0 c1,Q0 c2,Q0 c3,Q0 c4,Q0 c5,Q0 c6,Q0 c7]
  rw[e]
  simp only[not_or]at c6 c7
  exact⟨L8,by simp[c0,c1,c2,c3,c4,c5,c6,c7,A0b],d8⟩
theorem F4r(hl:S.log.length≤1000000000):∃L',FX 80 [.int (a:Nat),.int (w:Nat),.agg L]=some [.agg L']∧Did L L' a w m k (A1h P S):=by
 have n1:=D7y W ha
 have n2:=H4q W ha h
 have hpc:In (P.pc+1):=In.lit (by have:=hp.pc;omega)
 have hal:=A4q S.c h.c
 rw[D5f]
 simp only[HH,n1,n2]
 by_cases c0:P.pc≥14
 ·have e:A1h P S=(P,S):=Q3 c0
  rw[e]
  exact⟨L,by simp only[c0,Q6,Q5],A4l W ha⟩
 by_cases c1:B0s S.c P=true
 ·have e:A1h P S=({P with pc:=P.pc+1},S):=by unfold A1h;rw[Q0 c0,Q3 c1]
  rw[e]
  refine⟨_,?_,B1f (A4l W ha) _⟩
  simp only[c0,c1,Q7,HH,ha,A0a.A2m,hpc.w,A0a.rng,A0a.B6n]
 ·have e:A1h P S=({(A3f P S).1 with pc:=P.pc+1},(A3f P S).2):=by unfold A1h;rw[Q0 c0,Q0 c1]
  rw[e]
  have c1':B0s S.c P=false:=by simpa using c1
  have hxy:(0≤P.a.x∧P.a.x<24)∧(0≤P.a.y∧P.a.y<24):=by
   unfold B0s at c1'
   simp only[Bool.or_eq_false_iff,decide_eq_false_iff_not]at c1'
   obtain⟨⟨o1,o2⟩,_⟩:=c1'
   unfold A5f at o1 o2
   constructor
   ·rcases cG (P.a.x<0∨P.a.x≥A0o S.c)with o|o
    ·rw[Q3 o]at o1;omega
    ·omega
   ·rcases cG (P.a.y<0∨P.a.y≥A0o S.c)with o|o
    ·rw[Q3 o]at o2;omega
    ·omega
  obtain⟨L1,n3,d1⟩:=H2f W ha h hp hl (by omega) (by omega)
  have hpc2:=(E2n h hp).pc
  refine⟨_,?_,B1f (P1:=(A3f P S).1) d1 _⟩
  simp only[c0,c1',Q7,HH,n3,d1.2.1,A0a.A2m,hpc2,hpc.w,A0a.rng,A0a.B6n]
end
end
section
set_option linter.unusedSectionVars false
def C9g(c:Cf)(t:Tm)(qty now:Int):Int:=
 if t.name<0∨t.name≥c.c2 then 22
 else if t.side≠0∧t.side≠1 then 1
 else if qty<1∨qty>9999 then 23
 else if t.A0m<1∨t.A0m>9999 then 24
 else if t.least<1∨t.least>qty then 25
 else if t.A1n≤now∨t.A1n>1000000 then 26
 else 0
theorem H1u(c:Cf)(t:Tm)(qty now:Int):FX 141 (c.ds++t.ds++[.int qty,.int now])=some [er (C9g c t qty now)]:=by
 unfold RU.Cf.ds Tm.ds C9g
 dsimp only[aH,aI]
 rw[E9x]
 simp only[D.toInt_int]
 by_cases a0:t.name<0
 ·simp only[a0,Q6,Q5,B4f,D.A1d,true_or];rfl
 by_cases a1:t.name≥c.c2
 ·simp only[a0,a1,Q6,Q7,a8,Q4,Q5,B4f,D.A1d,or_true];rfl
 simp only[a0,a1,Q7,a8,Q4,QC,B4f,D6q,D6c,D4n,D.toInt_int,D.A1d]
 have fin:(if(decide (t.least<1))=true then(some [D.iface 34 (D.int 25)]:Option (List D))else if(decide (t.least>qty))=true then some [D.iface 34 (D.int 25)]else if(decide (t.A1n≤now))=true then some [D.iface 34 (D.int 26)]else if(decide (t.A1n>1000000))=true then some [D.iface 34 (D.int 26)]else some [D.nil])=some [er (if t.least<1∨t.least>qty then 25 else if t.A1n≤now∨t.A1n>1000000 then 26 else 0)]:=by
  by_cases b1:t.least<1
  ·simp only[b1,Q6,Q5,true_or];rfl
  by_cases b2:t.least>qty
  ·simp only[b1,b2,Q6,Q7,a8,Q4,Q5,or_true];rfl
  by_cases b3:t.A1n≤now
  ·simp only[b1,b2,b3,Q6,Q7,a8,Q4,Q5,true_or,QC];rfl
  by_cases b4:t.A1n>1000000
  ·simp only[b1,b2,b3,b4,Q6,Q7,a8,Q4,Q5,or_true,QC];rfl
  ·simp only[b1,b2,b3,b4,Q7,a8,Q4,QC];rfl
 by_cases a2:t.side=0
 ·have i2:(t.side != 0)=false:=by simp[a2]
  have i3:¬(t.side≠0∧t.side≠1):=by simp[a2]
  simp only[i2,i3,a8,Q4]
  by_cases a4:qty<1
  ·simp only[a4,Q6,Q5,true_or];rfl
  by_cases a5:qty>9999
  ·simp only[a4,a5,Q6,Q7,a8,Q4,Q5,or_true];rfl
  simp only[a4,a5,Q7,a8,Q4,QC]
  by_cases a6:t.A0m<1
  ·simp only[a6,Q6,Q5,true_or];rfl
  by_cases a7:t.A0m>9999
  ·simp only[a6,a7,Q6,Q7,a8,Q4,Q5,or_true];rfl
  simp only[a6,a7,Q7,a8,Q4,QC]
  exact fin
 ·have i2:(t.side != 0)=true:=by simp[a2]
  simp only[i2,Q5]
  by_cases a3:t.side=1
  ·have i3:(t.side != 1)=false:=by simp[a3]
   have i4:¬(t.side≠0∧t.side≠1):=by simp[a3]
   simp only[i3,i4,a8,Q4]
   by_cases a4:qty<1
   ·simp only[a4,Q6,Q5,true_or];rfl
   by_cases a5:qty>9999
   ·simp only[a4,a5,Q6,Q7,a8,Q4,Q5,or_true];rfl
   simp only[a4,a5,Q7,a8,Q4,QC]
   by_cases a6:t.A0m<1
   ·simp only[a6,Q6,Q5,true_or];rfl
   by_cases a7:t.A0m>9999
   ·simp only[a6,a7,Q6,Q7,a8,Q4,Q5,or_true];rfl
   simp only[a6,a7,Q7,a8,Q4,QC]
   exact fin
  ·have i3:(t.side != 1)=true:=by simp[a3]
   have i4:(t.side≠0∧t.side≠1):=⟨a2,a3⟩
   rw[Q3 i3,Q3 i4];rfl
def upL(n:Nat):List Int:=(aN n).map fun(i:Nat)=>(i:Int)
def C2y(t:Int)(n:Nat):List Int:=(aN n).map fun(i:Nat)=>t-1-(i:Int)
def B2j(c:Cf)(side A0m:Int):List Int:=
 if B2e c A0m<0 then[]else if side=0 then upL (B2e c A0m+1).toNat else if side=1 then C2y c.c3 (c.c3-B2e c A0m).toNat else[]
section
variable(c:Cf)(hc:c.ok)
include hc
theorem G0b(x7 x8:D)(b:Int)(hb:0≤b)(hb4:b<4):∀(d j:Nat),(j+d:Int)=b+1→A6r (.int c.c0) (.int c.c1) (.int c.c2) (.int c.c3) (.int c.c4) (.int c.c5) (.int c.c6) x7 x8 (.int b) [.int (j:Nat),.agg ((upL j).map D.int)]=some [.agg ((upL (b+1).toNat).map D.int)]
 |0,j,h=>by
  have h1:¬(j:Int)≤b:=by omega
  have h2:(b+1).toNat=j:=by omega
  rw[B1o,h2]
  simp only[D.toInt_int,h1,Q7,a8,Q4]
 |d+1,j,h=>by
  have h1:(j:Int)≤b:=by omega
  have ih:=G0b x7 x8 b hb hb4 d (j+1) (by omega)
  have e:(upL j).map D.int++[D.int (j:Nat)]=(upL (j+1)).map D.int:=by simp[upL,aY]
  have hl:(((upL (j+1)).map D.int).length:Int)≤17592186044416:=by simp[upL];omega
  rw[B1o]
  simp only[D.toInt_int,D.A0j,e,h1,hl,Q6,Q5]
  rw[A0v _ (by omega) (by omega)]
  exact ih
theorem E9m(x7 x8:D)(b:Int)(hb:0≤b)(hb4:b<c.c3):∀(d j:Nat),(j+d:Int)=c.c3-b→A6s (.int c.c0) (.int c.c1) (.int c.c2) (.int c.c3) (.int c.c4) (.int c.c5) (.int c.c6) x7 x8 (.int b) [.int (c.c3-1-(j:Nat)),.agg ((C2y c.c3 j).map D.int)]=some [.agg ((C2y c.c3 (c.c3-b).toNat).map D.int)]
 |0,j,h=>by
  have h1:¬(c.c3-1-(j:Int))≥b:=by omega
  have h2:(c.c3-b).toNat=j:=by omega
  rw[B1p,h2]
  simp only[D.toInt_int,h1,Q7,a8,Q4]
 |d+1,j,h=>by
  have h3:=hc.2.2.2.1
  have h1:(c.c3-1-(j:Int))≥b:=by omega
  have ih:=E9m x7 x8 b hb hb4 d (j+1) (by omega)
  have e:(C2y c.c3 j).map D.int++[D.int (c.c3-1-(j:Nat))]=(C2y c.c3 (j+1)).map D.int:=by simp[C2y,aY]
  have hl:(((C2y c.c3 (j+1)).map D.int).length:Int)≤17592186044416:=by simp[C2y];omega
  rw[B1p]
  simp only[D.toInt_int,D.A0j,e,h1,hl,Q6,Q5]
  rw[A0v _ (by omega) (by omega)]
  have e2:c.c3-1-(j:Int)-1=c.c3-1-((j+1:Nat):Int):=by omega
  rw[e2]
  exact ih
theorem F4q(side A0m:Int):FX 47 (c.ds++[.int side,.int A0m])=some [.agg ((B2j c side A0m).map D.int)]:=by
 have hb:=G0e c hc A0m
 have hbb:=G5b c hc A0m
 have h3:=hc.2.2.2.1
 unfold RU.Cf.ds at hb⊢
 dsimp only[aH,aI]at hb⊢
 rw[C7f,hb]
 simp only[HH]
 unfold B2j
 by_cases a1:B2e c A0m<0
 ·simp only[a1,Q6,Q5];rfl
 by_cases a2:side=0
 ·have:=G0b c hc (.int side) (.int A0m) (B2e c A0m) (by omega) (by omega) (B2e c A0m+1).toNat 0 (by omega)
  simp only[a1,a2,Q7,beq_self_eq_true,HH]at this⊢
  exact this
 by_cases a3:side=1
 ·have:=E9m c hc (.int side) (.int A0m) (B2e c A0m) (by omega) (by omega) (c.c3-B2e c A0m).toNat 0 (by omega)
  have i2:((1:Int) == 0)=false:=rfl
  have i3:¬(1:Int)=0:=by decide
  have e:c.c3-1-((0:Nat):Int)=c.c3-1:=by omega
  rw[e]at this
  simp only[a1,a3,i2,i3,Q7,beq_self_eq_true,HH]at this⊢
  rw[A0v _ (by omega) (by omega)]
  exact this
 ·have i2:(side == 0)=false:=by simp[a2]
  have i3:(side == 1)=false:=by simp[a3]
  simp only[a1,a2,a3,i2,i3,Q7,HH];rfl
theorem E8x(side A0m:Int):(B2j c side A0m).length≤4:=by
 have hbb:=G5b c hc A0m
 have h3:=hc.2.2.2.1
 unfold B2j
 split
 ·decide
 split
 ·simp[upL];omega
 split
 ·simp[C2y];omega
 ·decide
def B4s(c:Cf)(x gen name b:Int)(n:Nat):List Aim:=(aN n).map fun(y:Nat)=>⟨2,x,gen,(y:Int),C8i c name b⟩
def A7n(c:Cf)(x gen name:Int)(bs:List Int):List Aim:=bs.flatMap fun b=>B4s c x gen name b (A0o c).toNat
def B2o(x gen:Int)(n:Nat):List Aim:=List.replicate n ⟨1,x,gen,-1,0⟩
def C3d(c:Cf)(x gen:Int)(t:Tm):List Aim:=B2o x gen c.c4.toNat++A7n c x gen t.name (B2j c t.side t.A0m)
theorem E2h(x gen name:Int)(bs:List Int):(A7n c x gen name bs).length=bs.length*(A0o c).toNat:=by
 induction bs with
 |nil=>simp[A7n]
 |cons b bs ih=>
  have:A7n c x gen name (b::bs)=B4s c x gen name b (A0o c).toNat++A7n c x gen name bs:=by simp[A7n]
  rw[this,aL,ih]
  simp[B4s,Nat.add_mul,bX]
theorem F6r(x gen:Int)(t:Tm):(C3d c x gen t).length≤100:=by
 have h1:=E8x c hc t.side t.A0m
 have h2:=A4q c hc
 have h4:=hc.2.2.2.2.1
 have h5:(B2j c t.side t.A0m).length*(A0o c).toNat≤4*24:=bY h1 (by omega)
 rw[C3d,aL,E2h c hc]
 simp only[B2o,List.length_replicate]
 omega
theorem H2t(x gen:Int)(t:Tm)(x14 x15 x16 x18:D)(i:Int)(b:Int)(hx16:((x16).toL).getD i.toNat D.nil=.int b)(g0 g1:Eng.Fn)(pre:List Aim)(hp:pre.length≤1000):∀(d j:Nat),(j+d:Int)=A0o c→
  B6g (.int c.c0) (.int c.c1) (.int c.c2) (.int c.c3) (.int c.c4) (.int c.c5) (.int c.c6) (.int x) (.int gen) (.int t.name) (.int t.side) (.int t.A0m) (.int t.least) (.int t.A1n) x14 x15 x16 (.int i) x18 (.int (A0o c)) g0 g1 [.int (j:Nat),.agg ((pre++B4s c x gen t.name b j).map Aim.d)]=g1 [.int (cB.wrap (i+1)),.agg ((pre++B4s c x gen t.name b (A0o c).toNat).map Aim.d)]
 |0,j,h=>by
  have h1:¬(j:Int)<A0o c:=by omega
  have h2:(A0o c).toNat=j:=by omega
  rw[C3x,h2]
  simp only[D.toInt_int,h1,Q7,a8,Q4]
 |d+1,j,h=>by
  have hal:=A4q c hc
  have h1:(j:Int)<A0o c:=by omega
  have ih:=H2t x gen t x14 x15 x16 x18 i b hx16 g0 g1 pre hp d (j+1) (by omega)
  have hs:FX 119 [.int c.c0,.int c.c1,.int c.c2,.int c.c3,.int c.c4,.int c.c5,.int c.c6,.int t.name,.int b]=some [.int (C8i c t.name b)]:=F2u c hc t.name b
  have e:(pre++B4s c x gen t.name b j).map Aim.d++[D.agg [.int 2,.int x,.int gen,.int (j:Nat),.int (C8i c t.name b)]]=(pre++B4s c x gen t.name b (j+1)).map Aim.d:=by
   simp[B4s,aY,Aim.d,Aim.ds]
  have hl:(((pre++B4s c x gen t.name b (j+1)).map Aim.d).length:Int)≤3518437208883:=by simp[B4s];omega
  rw[C3x]
  simp only[D.toInt_int,h1,Q6,Q5,hx16,hs,A0n,aC,aD,aE,D.A0j,e,hl]
  rw[A0v _ (by omega) (by omega)]
  exact ih
theorem H2w(x gen:Int)(t:Tm)(x14 x15:D)(g0:Eng.Fn)(bs:List Int)(hbs:bs.length≤4)(pre:List Aim)(hp:pre.length≤10):∀(d j:Nat),j+d=bs.length→
  B2t (.int c.c0) (.int c.c1) (.int c.c2) (.int c.c3) (.int c.c4) (.int c.c5) (.int c.c6) (.int x) (.int gen) (.int t.name) (.int t.side) (.int t.A0m) (.int t.least) (.int t.A1n) x14 x15 (.agg (bs.map D.int)) g0 [.int (j:Nat),.agg ((pre++A7n c x gen t.name (bs.take j)).map Aim.d)]=some [.agg ((pre++A7n c x gen t.name bs).map Aim.d)]
 |0,j,h=>by
  have h1:¬(j:Int)<(bs.length:Int):=by omega
  rw[C4q,List.take_of_length_le (by omega)]
  simp only[D.toInt_int,D.A0j,aK,h1,Q7,a8,Q4]
 |d+1,j,h=>by
  have hal:=A4q c hc
  have hj:j<bs.length:=by omega
  have h1:(j:Int)<(bs.length:Int):=by omega
  have h2:(j:Int)≥0:=by omega
  have ha:FX 23 [.int c.c0,.int c.c1,.int c.c2,.int c.c3,.int c.c4,.int c.c5,.int c.c6]=some [.int (A0o c)]:=all_eq c hc
  have ih:=H2w x gen t x14 x15 g0 bs hbs pre hp d (j+1) (by omega)
  have hg:((D.agg (bs.map D.int)).toL).getD (j:Int).toNat D.nil=.int bs[j]:=by
   rw[D.A0j,bF,aF,aM,aG hj];rfl
  have hlen:(pre++A7n c x gen t.name (bs.take j)).length≤1000:=by
   rw[aL,E2h c hc]
   have:(bs.take j).length*(A0o c).toNat≤4*24:=bY (by simp;omega) (by omega)
   omega
  have a3:=H2t c hc x gen t x14 x15 (.agg (bs.map D.int)) (.agg ((pre++A7n c x gen t.name (bs.take j)).map Aim.d)) (j:Nat) bs[j] hg g0
   (B2t (.int c.c0) (.int c.c1) (.int c.c2) (.int c.c3) (.int c.c4) (.int c.c5) (.int c.c6) (.int x) (.int gen) (.int t.name) (.int t.side) (.int t.A0m) (.int t.least) (.int t.A1n) x14 x15 (.agg (bs.map D.int)) g0)
   (pre++A7n c x gen t.name (bs.take j)) hlen (A0o c).toNat 0 (by omega)
  have e0:(pre++A7n c x gen t.name (bs.take j))++B4s c x gen t.name bs[j] 0=pre++A7n c x gen t.name (bs.take j):=by simp[B4s]
  have e1:(pre++A7n c x gen t.name (bs.take j))++B4s c x gen t.name bs[j] (A0o c).toNat=pre++A7n c x gen t.name (bs.take (j+1)):=by
   rw[aS hj]
   simp only[A7n,List.flatMap_append,List.flatMap_cons,List.flatMap_nil,List.append_nil,List.append_assoc]
  rw[e0,e1,A0v _ (by omega) (by omega)]at a3
  rw[C4q]
  simp only[D.toInt_int,D.A0j,aK,h1,h2,Q6,Q5,ha,A0n,aC,aD,aE]
  exact a3.trans ih
theorem H2u(x gen:Int)(t:Tm):∀(d j:Nat),(j+d:Int)=c.c4→
  B2p (.int c.c0) (.int c.c1) (.int c.c2) (.int c.c3) (.int c.c4) (.int c.c5) (.int c.c6) (.int x) (.int gen) (.int t.name) (.int t.side) (.int t.A0m) (.int t.least) (.int t.A1n) [.int (j:Nat),.agg ((B2o x gen j).map Aim.d)]=some [.agg ((C3d c x gen t).map Aim.d)]
 |0,j,h=>by
  have h4:=hc.2.2.2.2.1
  have h1:¬(j:Int)<c.c4:=by omega
  have h2:c.c4.toNat=j:=by omega
  have hcr:FX 47 [.int c.c0,.int c.c1,.int c.c2,.int c.c3,.int c.c4,.int c.c5,.int c.c6,.int t.side,.int t.A0m]=some [.agg ((B2j c t.side t.A0m).map D.int)]:=F4q c hc t.side t.A0m
  have a2:=fun x14 x15 g0=>H2w c hc x gen t x14 x15 g0 (B2j c t.side t.A0m) (E8x c hc _ _) (B2o x gen j) (by simp[B2o];omega) (B2j c t.side t.A0m).length 0 (by omega)
  rw[C5d]
  simp only[D.toInt_int,h1,Q7,a8,Q4,hcr,A0n,aC,aD,aE]
  have e0:B2o x gen j++A7n c x gen t.name (List.take 0 (B2j c t.side t.A0m))=B2o x gen j:=by simp[A7n]
  simp only[e0]at a2
  unfold C3d
  rw[h2]
  exact a2 _ _ _
 |d+1,j,h=>by
  have h4:=hc.2.2.2.2.1
  have h1:(j:Int)<c.c4:=by omega
  have ih:=H2u x gen t d (j+1) (by omega)
  have e:(B2o x gen j).map Aim.d++[D.agg [.int 1,.int x,.int gen,.int (-1),.int 0]]=(B2o x gen (j+1)).map Aim.d:=by
   simp[B2o,List.replicate_succ',Aim.d,Aim.ds]
  have hl:(((B2o x gen (j+1)).map Aim.d).length:Int)≤3518437208883:=by simp[B2o];omega
  rw[C5d]
  simp only[D.toInt_int,h1,Q6,Q5,D.A0j,e,hl]
  rw[A0v _ (by omega) (by omega)]
  exact ih
theorem H3z(x gen:Int)(t:Tm):FX 127 [.int c.c0,.int c.c1,.int c.c2,.int c.c3,.int c.c4,.int c.c5,.int c.c6,.int x,.int gen,.int t.name,.int t.side,.int t.A0m,.int t.least,.int t.A1n]=some [.agg ((C3d c x gen t).map Aim.d)]:=by
 have h4:=hc.2.2.2.2.1
 rw[F8h]
 exact H2u c hc x gen t c.c4.toNat 0 (by omega)
end
def C3e(n m:Int):Int:=if m<1 then 0 else n%m
theorem H3x(n m:Int)(hn:In n)(hm:1≤m∧m≤1000):FX 46 [.int n,.int m]=some [.int (C3e n m)]:=by
 have h1:¬m<1:=by omega
 have h2:(m != 0)=true:=by simp;omega
 have h3:0≤n%m:=Int.emod_nonneg _ (by omega)
 have h4:n%m<m:=Int.emod_lt_of_pos _ (by omega)
 have h5:=Int.tmod_eq_emod (a:=n) (b:=m)
 rw[F7l]
 unfold C3e
 simp only[D.toInt_int,h1,Q7,a8,Q4,h2,Q5]
 by_cases h6:n.tmod m<0
 ·simp only[h6,Q6,Q5]
  have h7:n.tmod m+m=n%m:=by
   rw[h5]at h6⊢
   split at h6
   ·omega
   ·split
    ·omega
    ·rw[Int.natAbs_of_nonneg (by omega)]at*
     omega
  rw[h7,A0v _ (by omega) (by omega)]
 ·simp only[h6,Q7,a8,Q4]
  have h7:n.tmod m=n%m:=by
   rw[h5]at h6⊢
   split
   ·omega
   ·rename_i hh
    rw[Q0 hh]at h6
    omega
  rw[h7]
def B7l(now n:Int):Int:=if n≤0 then now else if n>1000000∨now>1000000-n then 1000000 else now+n
end
section
set_option linter.unusedSectionVars false
def Rep.zero:Rep:=⟨0,0,0,0,0,false,.zero,[]⟩
def codeF(pr:PrS)(S:WS)(c:Int):Rep:=⟨pr.a.kind,c,S.now,pr.a.id,pr.a.cell,false,.zero,[]⟩
def A7s(pr:PrS)(se:A0l)(S:WS):Int:=
 if pr.a.id≤se.last∨pr.a.id>1000000 then 20 else if A0f S.c se.part pr.a.cell<0 then 21 else C9g S.c pr.a.tm pr.a.qty S.now
def WS.put(S:WS)(i:Int)(v:Nat):WS:={S with words:=stw S.words i v}
structure Stp where
 r:Option Rep
 pr:PrS
 se:A0l
 S:WS
def A1r(x:Int)(pr:PrS)(se:A0l)(S:WS):Stp:=
 if pr.pc=0 then(if A7s pr se S≠0 then⟨some (codeF pr S (A7s pr se S)),pr,se,S⟩else⟨none,{pr with pc:=pr.pc+1},se,S⟩)
 else if pr.pc=1 then
  (if(A8e (A0i (S.word x)) pr.a.qty S.c.c6).1≠0 then⟨some (codeF pr S (A8e (A0i (S.word x)) pr.a.qty S.c.c6).1),pr,se,S⟩
  else⟨none,{pr with st:=(A8e (A0i (S.word x)) pr.a.qty S.c.c6).2,pc:=pr.pc+1},se,S⟩)
 else if pr.pc=2 then⟨none,{pr with pc:=pr.pc+1},se,S.put (2*x+1) ((tmW pr.a.tm).getD 0)⟩
 else if pr.pc=3 then
  ⟨none,{pr with A3x:=C3d S.c x pr.st.g pr.a.tm,pc:=pr.pc+1},{se with last:=pr.a.id,ids:=se.ids.set pr.a.cell.toNat pr.a.id,A4h:=se.A4h.set pr.a.cell.toNat pr.st.g},
   (S.put (2*x) ((stW pr.st).getD 0)).tell {Ev.zero with kind:=1,cell:=x,gen:=pr.st.g,tm:=pr.a.tm,qty:=pr.a.qty}⟩
 else⟨none,{pr with pc:=pr.pc+1},se,S⟩
def A1e(x:Int)(pr:PrS)(S:WS):Bool × PrS × WS:=
 if pr.tries≥2*(S.c.c5+1)then(false,pr,S)
 else if pr.done>0 then(true,{pr with tries:=pr.tries+1},S)
 else if(pr.tries+1)%2=1 then(true,{pr with tries:=pr.tries+1,word:=S.word x,st:=A0i (S.word x)},S)
 else if pr.st.over then(true,{pr with tries:=pr.tries+1,done:=1},S)
 else if(A2z pr.st).1≠0 then(true,{pr with tries:=pr.tries+1},S)
 else if(S.turn x pr.word (A2z pr.st).2).1 then(true,{pr with tries:=pr.tries+1,done:=1},(S.turn x pr.word (A2z pr.st).2).2.tell {Ev.zero with kind:=6,cell:=x,gen:=(A2z pr.st).2.g})
 else(true,{pr with tries:=pr.tries+1},S)
def atL(l:List Int)(i:Int):Int:=l.getD i.toNat 0
def B3d(pr:PrS)(se:A0l):Int:=if atL se.ids pr.a.cell=pr.a.id∧pr.a.id>0 then atL se.A4h pr.a.cell else 0
def A2d(x:Int)(pr:PrS)(se:A0l)(S:WS):PrS × WS:=
 if pr.done>0 then(pr,S)
 else if B3d pr se=0∨pr.st.g≠B3d pr se∨(A1k pr.st).1≠0 then({pr with done:=3},S)
 else if pr.st.f then({pr with done:=2},S)
 else if(S.turn x pr.word (A1k pr.st).2).1=false then(pr,S)
 else if(A1k pr.st).2.f then({pr with at_:=S.now,done:=2},(S.turn x pr.word (A1k pr.st).2).2.tell {Ev.zero with kind:=4,cell:=x,gen:=B3d pr se})
 else({pr with at_:=S.now,done:=1,st:=(A1k pr.st).2},(S.turn x pr.word (A1k pr.st).2).2.tell {Ev.zero with kind:=3,cell:=x,gen:=B3d pr se})
def D7k(d:Int):Int:=if d=0 then 27 else if d=3 then 29 else 0
def A5p(R:PrS × WS)(se:A0l)(pc:Int):Stp:=⟨none,{R.1 with pc:=pc},se,R.2⟩
def A0s(x:Int)(pr:PrS)(se:A0l)(S:WS):Stp:=
 if pr.pc=0 then(if x<0 then⟨some (codeF pr S 21),pr,se,S⟩else A5p (pr,S) se (pr.pc+1))
 else if pr.pc=1∨pr.pc=3∨pr.pc=5 then A5p (if pr.done=0 then {pr with word:=S.word x,st:=A0i (S.word x)} else pr,S) se (pr.pc+1)
 else if pr.pc=2∨pr.pc=4∨pr.pc=6 then A5p (A2d x pr se S) se (pr.pc+1)
 else if pr.pc=7 then A5p (pr,if pr.done=1 then A4r S x pr.st.g S.c.c5 (A5k pr.st pr.at_)else S) se (pr.pc+1)
 else⟨some {codeF pr S (D7k pr.done)with asked:=pr.done == 2},pr,se,S⟩
def B8p(S:WS)(i:Int):Rc:=if i<0 then .zero else G8c (wd S.words i)
def A6q(se:A0l)(i:Int):Cur:=se.A8f.getD i.toNat ⟨0,0⟩
def A1t(x:Int)(pr:PrS)(se:A0l)(S:WS):Stp:=
 if x<0 then⟨some (codeF pr S 21),pr,se,S⟩
 else if pr.pc=0 then⟨none,{pr with pc:=pr.pc+1},se,S⟩
 else if pr.pc=1 then(if(A6q se pr.a.cell).n<S.c.c5 then⟨none,{pr with r0:=B8p S (A7g S.c x (A6q se pr.a.cell).gen (A6q se pr.a.cell).n),pc:=pr.pc+1},se,S⟩else⟨none,{pr with pc:=pr.pc+1},se,S⟩)
 else if pr.pc=2 then⟨none,{pr with r1:=B8p S (A7g S.c x (A6q se pr.a.cell).gen S.c.c5),pc:=pr.pc+1},se,S⟩
 else⟨some {codeF pr S 0 with rc:=(B1z (A6q se pr.a.cell).gen (A6q se pr.a.cell).n pr.r0 pr.r1).1},pr,{se with A8f:=se.A8f.set pr.a.cell.toNat ⟨(B1z (A6q se pr.a.cell).gen (A6q se pr.a.cell).n pr.r0 pr.r1).2.1,(B1z (A6q se pr.a.cell).gen (A6q se pr.a.cell).n pr.r0 pr.r1).2.2⟩},S⟩
def E3e(s:St):A5t:=⟨if s.live then 1 else s.k,s.l,s.n⟩
def A1q(pr:PrS)(se:A0l)(S:WS):Stp:=
 if pr.pc>S.c.c1 then⟨some {codeF pr S 0 with looks:=pr.looks},pr,se,S⟩
 else if pr.pc>0 then⟨none,{pr with looks:=pr.looks++[E3e (A0i (S.word (A0f S.c se.part (pr.pc-1))))],pc:=pr.pc+1},se,S⟩
 else⟨none,{pr with pc:=pr.pc+1},se,S⟩
structure Hs(L:List D)(a s w m k:Nat)(pr:PrS)(se:A0l)(S:WS):Prop where
 W:InW L w m k S
 a:L.getD a D.nil=.agg pr.ds
 s:L.getD s D.nil=.agg se.ds
def FrS(L L':List D)(a s w m:Nat):Prop:=Fr L L' (fun b=>b=a∨b=s∨b=w∨b=m)
section
variable{L:List D}{a s w m k:Nat}{pr:PrS}{se:A0l}{S:WS}(H:Hs L a s w m k pr se S)
include H
theorem Hs.far:a≠w∧a≠m∧a≠k∧s≠w∧s≠m∧s≠k∧a≠s:=by
 obtain⟨h1,h2,h3⟩:=H.W.far H.a (by rw[PrS.len];decide) (by rw[PrS.len];decide) (by rw[PrS.len];decide)
 obtain⟨h4,h5,h6⟩:=H.W.far H.s (by rw[A0l.len];decide) (by rw[A0l.len];decide) (by rw[A0l.len];decide)
 exact⟨h1,h2,h3,h4,h5,h6,A3m H.a H.s (by rw[PrS.len,A0l.len];decide)⟩
theorem Hs.A8q(pr':PrS):Hs (L.set a (.agg pr'.ds)) a s w m k pr' se S:=by
 obtain⟨h1,h2,h3,h4,h5,h6,h7⟩:=H.far
 exact⟨H.W.fr (Fr.set L a _ (T:=(·=a)) rfl) (bO h1) (bO h2) (bO h3),A3r (A2p H.a) _,by rw[A3i h7];exact H.s⟩
theorem Hs.setS(se':A0l):Hs (L.set s (.agg se'.ds)) a s w m k pr se' S:=by
 obtain⟨h1,h2,h3,h4,h5,h6,h7⟩:=H.far
 exact⟨H.W.fr (Fr.set L s _ (T:=(·=s)) rfl) (bO h4) (bO h5) (bO h6),by rw[A3i (bO h7)];exact H.a,A3r (A2p H.s) _⟩
theorem Hs.B0b{L1:List D}{S1:WS}(W1:InW L1 w m k S1)(F:Fr L L1 (fun b=>b=w∨b=m)):Hs L1 a s w m k pr se S1∧FrS L L1 a s w m:=by
 obtain⟨h1,h2,h3,h4,h5,h6,h7⟩:=H.far
 exact⟨⟨W1,F.get H.a (by simp only[h1,h2,QC,not_false_iff]),F.get H.s (by simp only[h4,h5,QC,not_false_iff])⟩,F.mono fun b hb=>.inr (.inr hb)⟩
omit H
theorem A5v(x:D):FrS L (L.set a x) a s w m:=Fr.set L a x (.inl rfl)
theorem H2y(x:D):FrS L (L.set s x) a s w m:=Fr.set L s x (.inr (.inl rfl))
theorem B0c:FrS L L a s w m:=Fr.refl _ _
include H
theorem B4v(h:S.ok)(c:Int):FX 90 [.int (a:Nat),.int (w:Nat),.int c,.agg L]=some ((codeF pr S c).ds++[.bool true]):=by
 have h1:=B8b H.W h
 rw[C8a]
 simp only[HH,H.a,H.W.w,A0d.A6y,h1,PrS.A1f,PrS.A1i,PrS.A1p]
 rfl
theorem G5j(h:S.ok):FX 124 [.int (a:Nat),.int (w:Nat),.int (s:Nat),.agg L]=some [.int (A7s pr se S)]:=by
 have h1:=B8b H.W h
 have h2:FX 102 [.int S.c.c0,.int S.c.c1,.int S.c.c2,.int S.c.c3,.int S.c.c4,.int S.c.c5,.int S.c.c6,.int se.part,.int pr.a.cell]=some [.int (A0f S.c se.part pr.a.cell)]:=F9c S.c h.c _ _
 have h3:FX 141 [.int S.c.c0,.int S.c.c1,.int S.c.c2,.int S.c.c3,.int S.c.c4,.int S.c.c5,.int S.c.c6,.int pr.a.tm.name,.int pr.a.tm.side,.int pr.a.tm.A0m,.int pr.a.tm.least,.int pr.a.tm.A1n,.int pr.a.qty,wN S.now]=some [er (C9g S.c pr.a.tm pr.a.qty S.now)]:=H1u S.c pr.a.tm pr.a.qty S.now
 rw[C7v]
 simp only[HH,H.a,H.s,H.W.w,A0d.all,h1,PrS.A1i,PrS.A1p,PrS.A1w,PrS.A1u,PrS.A2m,PrS.A3z,PrS.A8l,PrS.A6y,A0l.A1f,A0l.A1i,h2,h3]
 unfold A7s
 by_cases a1:pr.a.id≤se.last
 ·simp only[a1,Q6,Q5,true_or]
 by_cases a2:pr.a.id>1000000
 ·simp only[a1,a2,Q6,Q7,a8,Q4,Q5,or_true]
 by_cases a3:A0f S.c se.part pr.a.cell<0
 ·simp only[a1,a2,a3,Q6,Q7,a8,Q4,Q5,QC]
 simp only[a1,a2,a3,Q7,a8,Q4,QC]
 generalize C9g S.c pr.a.tm pr.a.qty S.now=e
 by_cases a4:e=0
 ·subst a4;simp[E6e,D.isIf]
 ·unfold er code;simp[a4,D.isIf,D.inner]
end
def A6m(r:Option Rep)(L:List D):List D:=match r with
 |some r=>r.ds++[.bool true,.agg L]
 |none=>Rep.zero.ds++[.bool false,.agg L]
end
section
set_option linter.unusedSectionVars false
theorem Told.fst{o:Option Nat}{r:List D}(h:Told o r):r.getD 0 D.nil=wN (o.getD 0)∧r.length=2:=by
 cases o with
 |none=>obtain⟨e,_,rfl⟩:=h;exact⟨rfl,rfl⟩
 |some w=>dsimp only[Told]at h;subst h;exact⟨rfl,rfl⟩
theorem G5z{s:St}:(stW s).getD 0<18446744073709551616:=by
 cases h:stW s with
 |none=>decide
 |some v=>
  unfold stW at h
  split at h
  ·cases h
  ·exact D2w E1s h
theorem H6q{t:Tm}:(tmW t).getD 0<18446744073709551616:=by
 cases h:tmW t with
 |none=>decide
 |some v=>exact D2w F0s h
theorem WS.F6p{S:WS}(h:S.ok)(i:Int){v:Nat}(hv:v<18446744073709551616):(S.put i v).ok:=⟨h.c,F4h h.w i hv,h.now,by show(stw S.words i v).length≤_;rw[B3b];exact h.len⟩
theorem F9g{L:List D}{w m k:Nat}{S:WS}(W:InW L w m k S)(i:Int)(v:Nat):∃(e:D) (L':List D),FX 100 [.int (m:Nat),.int i,wN v,.agg L]=some [e,.agg L']∧InW L' w m k (S.put i v)∧Fr L L' (fun b=>b=w∨b=m):=by
 obtain⟨M,hM,hw⟩:=W.m
 obtain⟨e,M',h1,h2⟩:=F2c hM i v
 refine⟨e,_,h1,?_,Fr.set _ _ _ (.inr rfl)⟩
 have:=W.E5u M'
 rw[h2,hw]at this
 exact this
theorem H4f(s:St)(hs:s.wf)(q m:Int)(hm:m≤100):FX 125 [.int s.k,.bool s.f,.int s.g,.int s.l,.int s.n,.int q,.int m]=some (A2f (A8e s q m)):=H0x s hs q m hm
theorem G6r(s:St):FX 128 [.int s.k,.bool s.f,.int s.g,.int s.l,.int s.n]=some (A2f (A2z s)):=G2x s
theorem H7k(s:St):FX 129 [.int s.k,.bool s.f,.int s.g,.int s.l,.int s.n]=some [.bool s.over]:=F9l s.k _ _ _ _
theorem F9r(c:Int):(er c).isIf 34=decide (c≠0):=by
 unfold er
 by_cases h:c=0
 ·simp[h,D.isIf]
 ·simp[h,code,D.isIf]
theorem H1p{c:Int}(h:c≠0):(er c).inner=.int c:=by
 unfold er;rw[Q0 h];rfl
theorem C3z{c:Cf}(h:c.ok):1≤c.c6∧c.c6≤15:=h.2.2.2.2.2.2
theorem D0z(l:List Int):(l.map D.int).length=l.length:=aK ..
theorem E0l(l:List Int)(i:Nat)(x:Int):(l.map D.int).set i (.int x)=(l.set i x).map D.int:=(aX ..).symm
theorem F5w{l:List Int}{i:Int}(h0:0≤i)(h1:i<l.length):(l.map D.int).getD i.toNat D.nil=.int (atL l i):=by
 have h:i.toNat<l.length:=by omega
 unfold atL
 rw[aF,aM,aG h,aF,aG h];rfl
theorem Rep.app(r:Rep)(d L:D):some [r.ds.getD 0 D.nil,r.ds.getD 1 D.nil,r.ds.getD 2 D.nil,r.ds.getD 3 D.nil,r.ds.getD 4 D.nil,r.ds.getD 5 D.nil,r.ds.getD 6 D.nil,r.ds.getD 7 D.nil,r.ds.getD 8 D.nil,r.ds.getD 9 D.nil,r.ds.getD 10 D.nil,r.ds.getD 11 D.nil,r.ds.getD 12 D.nil,d,L]=some (r.ds++[d,L]):=rfl
theorem Rep.B0q(r:Rep)(d:D):(r.ds++[d]).getD 13 D.nil=d:=rfl
theorem Rep.H2v(r:Rep)(d:D):(r.ds++[d]).length=14:=rfl
theorem C3t(r:Rep)(L:D):(A0b (some (r.ds++[.bool true])) 14 fun r6=>some [(r6.getD 0 D.nil),(r6.getD 1 D.nil),(r6.getD 2 D.nil),(r6.getD 3 D.nil),(r6.getD 4 D.nil),(r6.getD 5 D.nil),(r6.getD 6 D.nil),(r6.getD 7 D.nil),(r6.getD 8 D.nil),(r6.getD 9 D.nil),(r6.getD 10 D.nil),(r6.getD 11 D.nil),(r6.getD 12 D.nil),(r6.getD 13 D.nil),L])=some (r.ds++[.bool true,L]):=rfl
section
variable{L:List D}{a s w m k:Nat}{pr:PrS}{se:A0l}{S:WS}(H:Hs L a s w m k pr se S)(h:S.ok)(hpc:In (pr.pc+1))
include H h hpc
theorem D3z{L1:List D}{pr1:PrS}{se1:A0l}{S1:WS}(H1:Hs L1 a s w m k pr1 se1 S1)(hp:pr1.pc=pr.pc)(x0 x1 x2 x3:D):A3e (.int (a:Nat)) x0 x1 x2 x3 [.agg L1]=some (A6m none (L1.set a (.agg (PrS.ds {pr1 with pc:=pr.pc+1})))):=by
 rw[C1f]
 simp only[HH,H1.a,PrS.A7f,hp,hpc.w,PrS.rng,PrS.B8c]
 rfl
theorem G5n(hl:S.log.length≤1000000000)(x:Int)(hx:-1000≤x∧x≤1000)(hst:pr.st.wf)(htm:pr.a.tm.wf)
  (hc:pr.pc=3→0≤pr.a.cell∧pr.a.cell<se.ids.length∧pr.a.cell<se.A4h.length):
  ∃L',FX 103 [.int (a:Nat),.int (w:Nat),.int (s:Nat),.int x,.agg L]=some (A6m (A1r x pr se S).r L')∧
   Hs L' a s w m k (A1r x pr se S).pr (A1r x pr se S).se (A1r x pr se S).S∧FrS L L' a s w m:=by
 have h1:=G5j H h
 have hg:=C3z h.c
 rw[C7w]
 simp only[HH,H.a,H.s,H.W.w,A0d.all,PrS.A7f,h1]
 by_cases c0:pr.pc=0
 ·have i0:(pr.pc == 0)=true:=QB.2 c0
  simp only[i0,Q5]
  by_cases c1:A7s pr se S=0
  ·have e:A1r x pr se S=⟨none,{pr with pc:=pr.pc+1},se,S⟩:=by unfold A1r;rw[Q3 c0,Q0 (by simpa using c1)]
   rw[e]
   have i1:(A7s pr se S != 0)=false:=by simp[c1]
   simp only[i1,a8,Q4]
   exact⟨_,D3z H h hpc H rfl _ _ _ _,H.A8q _,A5v _⟩
  ·have e:A1r x pr se S=⟨some (codeF pr S (A7s pr se S)),pr,se,S⟩:=by unfold A1r;rw[Q3 c0,Q3 c1]
   rw[e]
   have i1:(A7s pr se S != 0)=true:=by simp[c1]
   simp only[i1,Q5,B4v H h,C3t]
   exact⟨L,rfl,H,B0c⟩
 have i0:(pr.pc == 0)=false:=Q8.2 c0
 simp only[i0,a8,Q4]
 by_cases c1:pr.pc=1
 ·have i1:(pr.pc == 1)=true:=QB.2 c1
  simp only[i1,Q5]
  obtain⟨L1,n1,W1,F1⟩:=B1l H.W h x hx
  obtain⟨H1,G1⟩:=H.B0b W1 (F1.mono fun b hb=>.inr hb)
  have h2:=H4f (A0i (S.word x)) (B2w _) pr.a.qty S.c.c6 (by omega)
  rw[F3w]at n1
  simp only[n1,HH,H1.a,H1.W.w,PrS.A6y,A0d.A3z,h2,A2f.len,A2f.all]
  by_cases c2:(A8e (A0i (S.word x)) pr.a.qty S.c.c6).1=0
  ·have e:A1r x pr se S=⟨none,{pr with st:=(A8e (A0i (S.word x)) pr.a.qty S.c.c6).2,pc:=pr.pc+1},se,S⟩:=by
    unfold A1r;rw[Q0 c0,Q3 c1,Q0 (by simpa using c2)]
   rw[e]
   generalize A8e (A0i (S.word x)) pr.a.qty S.c.c6=t at*
   have i2:(er t.1).isIf 34=false:=by rw[F9r];simp[c2]
   simp only[i2,a8,Q4,PrS.rng,PrS.C5w,PrS.C6p,PrS.C7a,PrS.C2m,PrS.D2s]
   have H2:=H1.A8q {pr with st:=t.2}
   refine⟨_,D3z H h hpc H2 rfl _ _ _ _,H2.A8q {pr with st:=t.2,pc:=pr.pc+1},(G1.trans (A5v _)).trans (A5v _)⟩
  ·have e:A1r x pr se S=⟨some (codeF pr S (A8e (A0i (S.word x)) pr.a.qty S.c.c6).1),pr,se,S⟩:=by
    unfold A1r;rw[Q0 c0,Q3 c1,Q3 c2]
   rw[e]
   generalize A8e (A0i (S.word x)) pr.a.qty S.c.c6=t at*
   have i2:(er t.1).isIf 34=true:=by rw[F9r];simp[c2]
   simp only[i2,Q5,H1p c2,B4v H1 h,C3t]
   exact⟨L1,rfl,H1,G1⟩
 have i1:(pr.pc == 1)=false:=Q8.2 c1
 simp only[i1,a8,Q4]
 by_cases c2:pr.pc=2
 ·have i2:(pr.pc == 2)=true:=QB.2 c2
  have e:A1r x pr se S=⟨none,{pr with pc:=pr.pc+1},se,S.put (2*x+1) ((tmW pr.a.tm).getD 0)⟩:=by unfold A1r;rw[Q0 c0,Q0 c1,Q3 c2]
  rw[e]
  obtain⟨r,n1,ht⟩:=G9p pr.a.tm htm
  obtain⟨ht1,ht2⟩:=ht.fst
  unfold Tm.ds at n1
  obtain⟨e2,L1,n2,W1,F1⟩:=F9g H.W (2*x+1) ((tmW pr.a.tm).getD 0)
  obtain⟨H1,G1⟩:=H.B0b W1 F1
  simp only[i2,HH,PrS.A1w,PrS.A1u,PrS.A2m,PrS.A3z,PrS.A8l,n1,ht2,ht1,B0x]
  rw[A0v (2*x) (by omega) (by omega),A0v (2*x+1) (by omega) (by omega),n2]
  simp only[HH]
  exact⟨_,D3z H h hpc H1 rfl _ _ _ _,H1.A8q {pr with pc:=pr.pc+1},G1.trans (A5v _)⟩
 have i2:(pr.pc == 2)=false:=Q8.2 c2
 simp only[i2,a8,Q4]
 by_cases c3:pr.pc=3
 ·have i3:(pr.pc == 3)=true:=QB.2 c3
  obtain⟨b1,b2,b3⟩:=hc c3
  have e:A1r x pr se S=⟨none,{pr with A3x:=C3d S.c x pr.st.g pr.a.tm,pc:=pr.pc+1},{se with last:=pr.a.id,ids:=se.ids.set pr.a.cell.toNat pr.a.id,A4h:=se.A4h.set pr.a.cell.toNat pr.st.g},
   (S.put (2*x) ((stW pr.st).getD 0)).tell {Ev.zero with kind:=1,cell:=x,gen:=pr.st.g,tm:=pr.a.tm,qty:=pr.a.qty}⟩:=by unfold A1r;rw[Q0 c0,Q0 c1,Q0 c2,Q3 c3]
  rw[e]
  obtain⟨r,n1,ht⟩:=F9f pr.st hst
  obtain⟨ht1,ht2⟩:=ht.fst
  unfold St.ds at n1
  obtain⟨e2,L1,n2,W1,F1⟩:=F9g H.W (2*x) ((stW pr.st).getD 0)
  obtain⟨H1,G1⟩:=H.B0b W1 F1
  have ok1:(S.put (2*x) ((stW pr.st).getD 0)).ok:=WS.F6p h _ G5z
  obtain⟨L2,n3,W2,F2⟩:∃L',FX 98 [.int (w:Nat),.int 1,.int x,.int pr.st.g,.int 0,.int 0,.int pr.a.tm.name,.int pr.a.tm.side,.int pr.a.tm.A0m,.int pr.a.tm.least,.int pr.a.tm.A1n,.int pr.a.qty,.int 0,.int 0,.int 0,.agg L1]=some [.agg L']∧
    InW L' w m k ((S.put (2*x) ((stW pr.st).getD 0)).tell {Ev.zero with kind:=1,cell:=x,gen:=pr.st.g,tm:=pr.a.tm,qty:=pr.a.qty})∧Fr L1 L' (·=w):=
   F3p H1.W ok1 hl {Ev.zero with kind:=1,cell:=x,gen:=pr.st.g,tm:=pr.a.tm,qty:=pr.a.qty}
  obtain⟨H2,G2⟩:=H1.B0b W2 (F2.mono fun b hb=>.inl hb)
  obtain⟨se',hse⟩:∃se':A0l,se'={se with last:=pr.a.id,ids:=se.ids.set pr.a.cell.toNat pr.a.id,A4h:=se.A4h.set pr.a.cell.toNat pr.st.g}:=⟨_,rfl⟩
  have H3:=H2.setS se'
  have n4:=H3z S.c h.c x pr.st.g pr.a.tm
  simp only[i3,HH,PrS.A1i,PrS.A1p,PrS.A1w,PrS.A1u,PrS.A2m,PrS.A3z,PrS.A8l,PrS.A6y,PrS.B0v,PrS.A9w,PrS.B0q,PrS.B3m,PrS.B8h,n1,ht2,ht1,A8k]
  rw[A0v (2*x) (by omega) (by omega),n2]
  simp only[HH,H1.a,PrS.A1i,PrS.A1p,PrS.A1w,PrS.A1u,PrS.A2m,PrS.A3z,PrS.A8l,PrS.A6y,PrS.B0v,PrS.A9w,PrS.B0q,PrS.B3m,PrS.B8h,n3,H2.a,H2.s,A0l.rng,A0l.A1p,A0l.A1w,A0l.B3v,E0l,A0l.B6r,A0l.B6t,D0z,←hse,H3.W.w,H3.a,A0d.all,WS.tell,WS.put,n4,PrS.rng,PrS.F1a]
  have j1:pr.a.cell≥0:=b1
  simp only[j1,b2,b3,Q6,Q5]
  have H4:=H3.A8q {pr with A3x:=C3d S.c x pr.st.g pr.a.tm}
  exact⟨_,D3z H h hpc H4 rfl _ _ _ _,H4.A8q {pr with A3x:=C3d S.c x pr.st.g pr.a.tm,pc:=pr.pc+1},((((G1.trans G2).trans (H2y _)).trans (A5v _)).trans (A5v _))⟩
 ·have i3:(pr.pc == 3)=false:=Q8.2 c3
  have e:A1r x pr se S=⟨none,{pr with pc:=pr.pc+1},se,S⟩:=by unfold A1r;rw[Q0 c0,Q0 c1,Q0 c2,Q0 c3]
  rw[e]
  simp only[i3,a8,Q4]
  exact⟨_,D3z H h hpc H rfl _ _ _ _,H.A8q _,A5v _⟩
end
end
section
set_option linter.unusedSectionVars false
theorem H1e(s:St):FX 130 [.int s.k,.bool s.f,.int s.g,.int s.l,.int s.n]=some (A2f (A1k s)):=G6w s
theorem F7f{s:St}(h:s.wf):(A2z s).2.wf:=by
 unfold A2z
 split
 ·exact h.C4h 2 _ (In.lit (by decide))
 ·exact St.A9r
theorem E4z{s:St}(h:s.wf):(A1k s).2.wf:=by
 unfold A1k
 split
 ·exact h.C4h 6 _ (In.lit (by decide))
 ·split
  ·exact h.C4h s.k _ h.1
  ·exact St.A9r
section
variable{L:List D}{a s w m k:Nat}{pr:PrS}{se:A0l}{S:WS}(H:Hs L a s w m k pr se S)(h:S.ok)
include H h
theorem H2l(hl:S.log.length≤1000000000)(x:Int)(hx:-1000≤x∧x≤1000)(hst:pr.st.wf)(hwd:pr.word<18446744073709551616)(htr:0≤pr.tries∧pr.tries≤1000):
  ∃L',FX 105 [.int (a:Nat),.int (w:Nat),.int x,.agg L]=some [.bool (A1e x pr S).1,.agg L']∧
   Hs L' a s w m k (A1e x pr S).2.1 se (A1e x pr S).2.2∧FrS L L' a s w m:=by
 have hf:=A9p h.c
 rw[C9j]
 simp only[HH,H.a,H.W.w,A0d.A2m,PrS.B4m,PrS.B0v,PrS.A9w,PrS.B0q,PrS.B3m,PrS.B8h,PrS.E2c,PrS.C6f]
 rw[A0v (S.c.c5+1) (by omega) (by omega),A0v (2*(S.c.c5+1)) (by omega) (by omega),A0v (pr.tries+1) (by omega) (by omega)]
 simp only[PrS.rng,PrS.G3n,PrS.D7d]
 by_cases c0:pr.tries≥2*(S.c.c5+1)
 ·have e:A1e x pr S=(false,pr,S):=by unfold A1e;rw[Q3 c0]
  rw[e]
  simp only[c0,Q6,Q5]
  exact⟨L,rfl,H,B0c⟩
 simp only[c0,Q7,a8,Q4]
 obtain⟨p1,hp1⟩:∃p1:PrS,p1={pr with tries:=pr.tries+1}:=⟨_,rfl⟩
 have H1:=H.A8q p1
 have G1:FrS L (L.set a (.agg p1.ds)) a s w m:=A5v _
 by_cases c1:pr.done>0
 ·have e:A1e x pr S=(true,p1,S):=by unfold A1e;rw[Q0 c0,Q3 c1,hp1]
  rw[e]
  simp only[c1,Q6,Q5]
  refine⟨_,?_,H1,G1⟩
  rw[hp1]
 simp only[c1,Q7,a8,Q4]
 have ht:Int.tmod (pr.tries+1) 2=(pr.tries+1)%2:=Int.tmod_eq_emod_of_nonneg (by omega)
 rw[ht]
 by_cases c2:(pr.tries+1)%2=1
 ·have e:A1e x pr S=(true,{p1 with word:=S.word x,st:=A0i (S.word x)},S):=by unfold A1e;rw[Q0 c0,Q0 c1,Q3 c2,hp1]
  rw[e]
  have i2:((pr.tries+1)%2 == 1)=true:=QB.2 c2
  obtain⟨L1,n1,W1,F1⟩:=B1l H1.W h x hx
  obtain⟨H2,G2⟩:=H1.B0b W1 (F1.mono fun b hb=>.inr hb)
  rw[F3w]at n1
  simp only[i2,Q5,←hp1,n1,HH,H2.a,PrS.rng,PrS.D7r,PrS.C5w,PrS.C6p,PrS.C7a,PrS.C2m,PrS.D2s]
  exact⟨_,rfl,H2.A8q {p1 with word:=S.word x,st:=A0i (S.word x)},(G1.trans G2).trans (A5v _)⟩
 have i2:((pr.tries+1)%2 == 1)=false:=Q8.2 c2
 simp only[i2,a8,Q4]
 have n2:=G6r pr.st
 have n3:=H7k pr.st
 simp only[n2,n3,HH,A2f.len,A2f.all]
 by_cases c3:pr.st.over=true
 ·have e:A1e x pr S=(true,{p1 with done:=1},S):=by unfold A1e;rw[Q0 c0,Q0 c1,Q0 c2,Q3 c3,hp1]
  rw[e]
  simp only[c3,Q5]
  refine⟨_,?_,H.A8q {p1 with done:=1},A5v _⟩
  rw[hp1]
 simp only[c3,Q4]
 by_cases c4:(A2z pr.st).1=0
 ·simp only[E5e c4,Q5,←hp1]
  obtain⟨L1,n4,W1,F1⟩:=B9m H1.W h x hx pr.word (A2z pr.st).2 (F7f hst)
  obtain⟨H2,G2⟩:=H1.B0b W1 (F1.mono fun b hb=>.inr hb)
  obtain⟨o1,o2,o3,o4,o5⟩:=S.B1h h x pr.word (A2z pr.st).2
  simp only[n4,HH]
  by_cases c5:(S.turn x pr.word (A2z pr.st).2).1=true
  ·have e:A1e x pr S=(true,{p1 with done:=1},(S.turn x pr.word (A2z pr.st).2).2.tell {Ev.zero with kind:=6,cell:=x,gen:=(A2z pr.st).2.g}):=by
    unfold A1e;rw[Q0 c0,Q0 c1,Q0 c2,Q0 c3,Q0 (by simpa using c4),Q3 c5,hp1]
   rw[e]
   have H3:=H2.A8q {p1 with done:=1}
   obtain⟨L5,n5,W5,F5⟩:=C9e H3.W o1 (by rw[o4];exact hl) 6 x (A2z pr.st).2.g 0 0 0 0 0
   obtain⟨H4,G4⟩:=H3.B0b W5 (F5.mono fun b hb=>.inl hb)
   simp only[c5,Q5,H2.a,HH,PrS.rng,PrS.D7d,n5]
   exact⟨L5,rfl,H4,((G1.trans G2).trans (A5v _)).trans G4⟩
  ·have e:A1e x pr S=(true,p1,S):=by
    unfold A1e;rw[Q0 c0,Q0 c1,Q0 c2,Q0 c3,Q0 (by simpa using c4),Q0 c5,hp1]
   rw[e]
   simp only[c5,Q4]
   rw[o5 (by simpa using c5)]at H2
   exact⟨L1,rfl,H2,G1.trans G2⟩
 ·have e:A1e x pr S=(true,p1,S):=by unfold A1e;rw[Q0 c0,Q0 c1,Q0 c2,Q0 c3,Q3 c4,hp1]
  rw[e]
  simp only[E4r c4,a8,Q4]
  refine⟨_,?_,H1,G1⟩
  rw[hp1]
theorem G9e(hl:S.log.length≤1000000000)(x:Int)(hx:-1000≤x∧x≤1000)(hst:pr.st.wf)(hwd:pr.word<18446744073709551616)
  (hc:0≤pr.a.cell∧pr.a.cell<se.ids.length∧pr.a.cell<se.A4h.length):
  ∃L',FX 106 [.int (a:Nat),.int (w:Nat),.int (s:Nat),.int x,.agg L]=some [.agg L']∧
   Hs L' a s w m k (A2d x pr se S).1 se (A2d x pr se S).2∧FrS L L' a s w m:=by
 obtain⟨b1,b2,b3⟩:=hc
 have b1':pr.a.cell≥0:=b1
 have g1:=F5w b1 b2
 have g2:=F5w b1 b3
 have n1:=H1e pr.st
 rw[C8j]
 simp only[HH,H.a,H.s,PrS.A1i,PrS.A1p,A0l.A1p,A0l.A1w,b1',b2,b3,Q6,D0z,g1,g2]
 have hJ:∀J:List D→Option (List D),(if(atL se.ids pr.a.cell == pr.a.id)=true then(if decide (pr.a.id>0)=true then J [.agg L,.int (atL se.A4h pr.a.cell)]else J [.agg L,.int 0])else J [.agg L,.int 0])=J [.agg L,.int (B3d pr se)]:=by
  intro J
  unfold B3d
  by_cases d1:atL se.ids pr.a.cell=pr.a.id
  ·have i1:(atL se.ids pr.a.cell == pr.a.id)=true:=QB.2 d1
   by_cases d2:pr.a.id>0
   ·rw[Q3 i1,Q3 (by simpa using d2),Q3 ⟨d1,d2⟩]
   ·rw[Q3 i1,Q0 (by simpa using d2),Q0 (fun hh=>d2 hh.2)]
  ·have i1:¬(atL se.ids pr.a.cell == pr.a.id)=true:=by simpa using d1
   rw[Q0 i1,Q0 (fun hh=>d1 hh.1)]
 rw[hJ,C1z]
 generalize hgen:B3d pr se=gen
 simp only[HH,H.a,PrS.B0v,PrS.A9w,PrS.B0q,PrS.B3m,PrS.B8h,PrS.C6f,n1,A2f.len]
 by_cases c0:pr.done>0
 ·have e:A2d x pr se S=(pr,S):=by unfold A2d;rw[Q3 c0]
  rw[e]
  simp only[c0,Q6,Q5]
  exact⟨L,rfl,H,B0c⟩
 simp only[c0,Q7,a8,Q4,A2f.all]
 have hJ2:∀J:List D→Option (List D),(if(gen == 0)=true then J [.agg L,.bool true]else if(pr.st.g != gen)=true then J [.agg L,.bool true]else J [.agg L,.bool (!(er (A1k pr.st).1).isNil)])=J [.agg L,.bool (decide (gen=0∨pr.st.g≠gen∨(A1k pr.st).1≠0))]:=by
  intro J
  by_cases d1:gen=0
  ·simp[d1]
  by_cases d2:pr.st.g=gen
  ·rw[D9q]
   simp[d1,d2]
  ·simp[d1,d2]
 rw[hJ2,C1v]
 simp only[HH,H.a,PrS.B4m,PrS.A9w,PrS.rng,PrS.D7d]
 by_cases c1:gen=0∨pr.st.g≠gen∨(A1k pr.st).1≠0
 ·have e:A2d x pr se S=({pr with done:=3},S):=by unfold A2d;rw[Q0 c0,hgen,Q3 c1]
  rw[e]
  simp only[c1,Q6,Q5]
  exact⟨_,rfl,H.A8q _,A5v _⟩
 simp only[c1,Q7,a8,Q4]
 by_cases c2:pr.st.f=true
 ·have e:A2d x pr se S=({pr with done:=2},S):=by unfold A2d;rw[Q0 c0,hgen,Q0 c1,Q3 c2]
  rw[e]
  simp only[c2,Q5]
  refine⟨_,?_,H.A8q _,A5v _⟩
  rfl
 simp only[c2,Q4]
 obtain⟨L1,n4,W1,F1⟩:=B9m H.W h x hx pr.word (A1k pr.st).2 (E4z hst)
 obtain⟨H2,G2⟩:=H.B0b W1 (F1.mono fun b hb=>.inr hb)
 obtain⟨o1,o2,o3,o4,o5⟩:=S.B1h h x pr.word (A1k pr.st).2
 simp only[n4,HH]
 by_cases c3:(S.turn x pr.word (A1k pr.st).2).1=false
 ·have e:A2d x pr se S=(pr,S):=by unfold A2d;rw[Q0 c0,hgen,Q0 c1,Q0 c2,Q3 c3]
  rw[e]
  simp only[c3,a8,Q4]
  rw[o5 c3]at H2
  exact⟨L1,rfl,H2,G2⟩
 have c3':(S.turn x pr.word (A1k pr.st).2).1=true:=by simpa using c3
 have n5:=B8b H2.W o1
 rw[o3]at n5
 have hset:∀(z:PrS),z.ds.set 18 (wN S.now)=PrS.ds {z with at_:=S.now}:=fun _=>rfl
 simp only[c3',Q5,H2.W.w,H2.a,HH,A0d.A6y,n5,PrS.rng,hset,PrS.D7d,C1w]
 by_cases c4:(A1k pr.st).2.f=true
 ·have e:A2d x pr se S=({pr with at_:=S.now,done:=2},(S.turn x pr.word (A1k pr.st).2).2.tell {Ev.zero with kind:=4,cell:=x,gen:=gen}):=by
   unfold A2d;rw[Q0 c0,hgen,Q0 c1,Q0 c2,Q0 c3,Q3 c4]
  rw[e]
  have H3:=H2.A8q {pr with at_:=S.now,done:=2}
  obtain⟨L5,n6,W5,F5⟩:=C9e H3.W o1 (by rw[o4];exact hl) 4 x gen 0 0 0 0 0
  obtain⟨H4,G4⟩:=H3.B0b W5 (F5.mono fun b hb=>.inl hb)
  simp only[c4,Q5,n6,HH]
  exact⟨L5,rfl,H4,(G2.trans (A5v _)).trans G4⟩
 ·have e:A2d x pr se S=({pr with at_:=S.now,done:=1,st:=(A1k pr.st).2},(S.turn x pr.word (A1k pr.st).2).2.tell {Ev.zero with kind:=3,cell:=x,gen:=gen}):=by
   unfold A2d;rw[Q0 c0,hgen,Q0 c1,Q0 c2,Q0 c3,Q0 c4]
  rw[e]
  have H3:=H2.A8q {pr with at_:=S.now,done:=1,st:=(A1k pr.st).2}
  obtain⟨L5,n6,W5,F5⟩:=C9e H3.W o1 (by rw[o4];exact hl) 3 x gen 0 0 0 0 0
  obtain⟨H4,G4⟩:=H3.B0b W5 (F5.mono fun b hb=>.inl hb)
  have e10:({k:=(A1k pr.st).2.k,f:=(A1k pr.st).2.f,g:=(A1k pr.st).2.g,l:=(A1k pr.st).2.l,n:=(A1k pr.st).2.n}:St)=(A1k pr.st).2:=rfl
  rw[Q0 c4]
  simp only[PrS.rng,PrS.C5w,PrS.C6p,PrS.C7a,PrS.C2m,PrS.D2s,e10,n6,HH]
  exact⟨L5,rfl,H4,(G2.trans (A5v _)).trans G4⟩
end
end
section
set_option linter.unusedSectionVars false
theorem D1r{α:Type}(c:Prop)[Decidable c](x:α):(if c then x else x)=x:=by split<;>rfl
theorem E3n{S:WS}(h:S.ok)(part i:Int):FX 102 [.int S.c.c0,.int S.c.c1,.int S.c.c2,.int S.c.c3,.int S.c.c4,.int S.c.c5,.int S.c.c6,.int part,.int i]=some [.int (A0f S.c part i)]:=F9c S.c h.c _ _
theorem E5x{c:Cf}(hc:c.ok)(part i:Int):-1000≤A0f c part i∧A0f c part i≤1000:=by
 have h1:=A4q c hc
 rcases cG (0≤A0f c part i)with h|h
 ·have:=B1c c h;omega
 ·have:A0f c part i=-1:=by
   rcases cG (part<0∨part≥c.c0∨i<0∨i≥c.c1)with h2|h2
   ·exact Q3 h2
   ·exfalso
    have e:A0f c part i=part*c.c1+i:=Q0 h2
    have:=bH (show 0≤part by omega) (show 0≤c.c1 by omega)
    omega
  omega
section
variable{L:List D}{a s w m k:Nat}{pr:PrS}{se:A0l}{S:WS}(H:Hs L a s w m k pr se S)(h:S.ok)(hpc:In (pr.pc+1))
include H h hpc
theorem B9y{L1:List D}{pr1:PrS}{S1:WS}(H1:Hs L1 a s w m k pr1 se S1)(hp:pr1.pc=pr.pc)(x1 x2 x3 x4:D):A3t (.int (a:Nat)) x1 x2 x3 x4 [.agg L1]=some (A6m none (L1.set a (.agg (PrS.ds {pr1 with pc:=pr.pc+1})))):=by
 rw[B9s]
 simp only[HH,H1.a,PrS.A7f,hp,hpc.w,PrS.rng,PrS.B8c]
 rfl
theorem B3s{L1:List D}{pr1:PrS}{S1:WS}(H1:Hs L1 a s w m k pr1 se S1)(G:FrS L L1 a s w m):∃L',some (A6m none (L1.set a (.agg (PrS.ds {pr1 with pc:=pr.pc+1}))))=some (A6m (A5p (pr1,S1) se (pr.pc+1)).r L')∧Hs L' a s w m k (A5p (pr1,S1) se (pr.pc+1)).pr (A5p (pr1,S1) se (pr.pc+1)).se (A5p (pr1,S1) se (pr.pc+1)).S∧FrS L L' a s w m:=
 ⟨_,rfl,H1.A8q _,G.trans (A5v _)⟩
omit hpc in
theorem H2b(x:Int):(A2d x pr se S).1.pc=pr.pc:=by
 unfold A2d
 split
 ·rfl
 split
 ·rfl
 split
 ·rfl
 split
 ·rfl
 split<;>rfl
theorem G0f(hl:S.log.length≤1000000000)(hst:pr.st.wf)(hwd:pr.word<18446744073709551616)(hat:In pr.at_)(hd:0≤pr.done∧pr.done≤3)
  (hc:pr.pc≠0→0≤pr.a.cell∧pr.a.cell<se.ids.length∧pr.a.cell<se.A4h.length):
  ∃L',FX 87 [.int (a:Nat),.int (w:Nat),.int (s:Nat),.agg L]=some (A6m (A0s (A0f S.c se.part pr.a.cell) pr se S).r L')∧
   Hs L' a s w m k (A0s (A0f S.c se.part pr.a.cell) pr se S).pr (A0s (A0f S.c se.part pr.a.cell) pr se S).se (A0s (A0f S.c se.part pr.a.cell) pr se S).S∧FrS L L' a s w m:=by
 have n0:=E3n h se.part pr.a.cell
 have hx:=E5x h.c se.part pr.a.cell
 rw[C5n]
 simp only[HH,H.a,H.s,H.W.w,A0d.all,PrS.A1p,PrS.A7f,A0l.A1f,n0]
 generalize hxx:A0f S.c se.part pr.a.cell=x at*
 by_cases c0:pr.pc=0
 ·have i0:(pr.pc == 0)=true:=QB.2 c0
  simp only[i0,Q5]
  by_cases c1:x<0
  ·have e:A0s x pr se S=⟨some (codeF pr S 21),pr,se,S⟩:=by unfold A0s;rw[Q3 c0,Q3 c1]
   rw[e]
   simp only[c1,Q6,Q5,B4v H h,C3t]
   exact⟨L,rfl,H,B0c⟩
  ·have e:A0s x pr se S=A5p (pr,S) se (pr.pc+1):=by unfold A0s;rw[Q3 c0,Q0 c1]
   rw[e]
   simp only[c1,Q7,a8,Q4]
   rw[B9y H h hpc H rfl]
   exact B3s H h hpc H B0c
 have i0:(pr.pc == 0)=false:=Q8.2 c0
 simp only[i0,a8,Q4]
 have hJ:∀J:List D→Option (List D),(if(pr.pc == 1)=true then J [.agg L,.bool (pr.pc == 1)]else if(pr.pc == 3)=true then J [.agg L,.bool (pr.pc == 3)]else J [.agg L,.bool (pr.pc == 5)])=J [.agg L,.bool (decide (pr.pc=1∨pr.pc=3∨pr.pc=5))]:=by
  intro J
  by_cases d1:pr.pc=1
  ·simp[d1]
  by_cases d2:pr.pc=3
  ·simp[d2]
  ·simp[d1,d2]
   rfl
 rw[hJ,B9o]
 simp only[HH,H.a,PrS.A7f,PrS.C6f]
 by_cases c1:pr.pc=1∨pr.pc=3∨pr.pc=5
 ·have e:A0s x pr se S=A5p (if pr.done=0 then {pr with word:=S.word x,st:=A0i (S.word x)} else pr,S) se (pr.pc+1):=by unfold A0s;rw[Q0 c0,Q3 c1]
  rw[e]
  simp only[c1,Q6,Q5]
  by_cases c2:pr.done=0
  ·have i2:(pr.done == 0)=true:=QB.2 c2
   obtain⟨L1,n1,W1,F1⟩:=B1l H.W h x hx
   obtain⟨H1,G1⟩:=H.B0b W1 (F1.mono fun b hb=>.inr hb)
   rw[F3w]at n1
   rw[Q3 c2]
   simp only[i2,Q5,n1,HH,H1.a,PrS.rng,PrS.D7r,PrS.C5w,PrS.C6p,PrS.C7a,PrS.C2m,PrS.D2s]
   have H2:=H1.A8q {pr with word:=S.word x,st:=A0i (S.word x)}
   rw[B9y H h hpc H2 rfl]
   exact B3s H h hpc H2 (G1.trans (A5v _))
  ·have i2:(pr.done == 0)=false:=Q8.2 c2
   rw[Q0 c2]
   simp only[i2,a8,Q4]
   rw[B9y H h hpc H rfl]
   exact B3s H h hpc H B0c
 simp only[c1,Q7,a8,Q4]
 have hJ2:∀J:List D→Option (List D),(if(pr.pc == 2)=true then J [.agg L,.bool (pr.pc == 2)]else if(pr.pc == 4)=true then J [.agg L,.bool (pr.pc == 4)]else J [.agg L,.bool (pr.pc == 6)])=J [.agg L,.bool (decide (pr.pc=2∨pr.pc=4∨pr.pc=6))]:=by
  intro J
  by_cases d1:pr.pc=2
  ·simp[d1]
  by_cases d2:pr.pc=4
  ·simp[d2]
  ·simp[d1,d2]
   rfl
 rw[hJ2,B9z]
 simp only[HH,H.a,PrS.A7f,PrS.B0v,PrS.A9w,PrS.B0q,PrS.B3m,PrS.B8h,PrS.C6f,PrS.C9t]
 by_cases c2:pr.pc=2∨pr.pc=4∨pr.pc=6
 ·have e:A0s x pr se S=A5p (A2d x pr se S) se (pr.pc+1):=by unfold A0s;rw[Q0 c0,Q0 c1,Q3 c2]
  rw[e]
  obtain⟨L1,n1,H1,G1⟩:=G9e H h hl x hx hst hwd (hc c0)
  simp only[c2,Q6,Q5,n1,HH]
  rw[B9y H h hpc H1 (H2b H h x)]
  exact B3s H h hpc H1 G1
 simp only[c2,Q7,a8,Q4]
 by_cases c3:pr.pc=7
 ·have i3:(pr.pc == 7)=true:=QB.2 c3
  have e:A0s x pr se S=A5p (pr,if pr.done=1 then A4r S x pr.st.g S.c.c5 (A5k pr.st pr.at_)else S) se (pr.pc+1):=by unfold A0s;rw[Q0 c0,Q0 c1,Q0 c2,Q3 c3]
  rw[e]
  simp only[i3,Q5,F0z,A0n,A4u.len,H.W.w,D.A0j,A0d.A2m]
  by_cases c4:pr.done=1
  ·have i4:(pr.done == 1)=true:=QB.2 c4
   rw[Q3 c4]
   simp only[i4,Q5]
   cases ho:A5k pr.st pr.at_ with
   |none=>
    have e1:((A4u none).getD 6 D.nil).toBool=false:=rfl
    simp only[e1,a8,Q4]
    rw[B9y H h hpc H rfl]
    exact B3s H h hpc H B0c
   |some r=>
    have e1:((A4u (some r)).getD 6 D.nil).toBool=true:=rfl
    simp only[e1,Q5]
    obtain⟨L1,n1,W1,F1⟩:=C4f H.W h x pr.st.g S.c.c5 r (D7n hst hat ho)
    obtain⟨H1,G1⟩:=H.B0b W1 (F1.mono fun b hb=>.inr hb)
    have n1':FX 85 [.int (w:Nat),.int x,.int pr.st.g,.int S.c.c5,(A4u (some r)).getD 0 D.nil,(A4u (some r)).getD 1 D.nil,(A4u (some r)).getD 2 D.nil,(A4u (some r)).getD 3 D.nil,(A4u (some r)).getD 4 D.nil,(A4u (some r)).getD 5 D.nil,.agg L]=some [.agg L1]:=n1
    simp only[n1',HH]
    rw[B9y H h hpc H1 rfl]
    exact B3s H h hpc H1 G1
  ·have i4:(pr.done == 1)=false:=Q8.2 c4
   rw[Q0 c4]
   simp only[i4,a8,Q4]
   rw[B9y H h hpc H rfl,D1r _ _]
   exact B3s H h hpc H B0c
 ·have i3:(pr.pc == 7)=false:=Q8.2 c3
  have e:A0s x pr se S=⟨some {codeF pr S (D7k pr.done)with asked:=pr.done == 2},pr,se,S⟩:=by unfold A0s;rw[Q0 c0,Q0 c1,Q0 c2,Q0 c3]
  rw[e]
  have d1:pr.done≥0:=hd.1
  have d2:pr.done<4:=by omega
  have hg:([D.int 27,D.int 0,D.int 0,D.int 29]:List D).getD pr.done.toNat D.nil=.int (D7k pr.done):=by
   have:pr.done=0∨pr.done=1∨pr.done=2∨pr.done=3:=by omega
   rcases this with e|e|e|e<;>rw[e]<;>rfl
  simp only[i3,a8,Q4,d1,d2,Q6,Q5,hg,B4v H h]
  exact⟨L,rfl,H,B0c⟩
end
end
section
set_option linter.unusedSectionVars false
theorem H4h(x:Nat)(hx:x<18446744073709551616):FX 131 [wN x]=some (G8c x).ds:=G6a x hx
theorem rapp(r:Rc)(x:D):r.ds++[x]=[.int r.k,.int r.q,.int r.p,.int r.t,.int r.c,.int r.g,x]:=rfl
theorem F6c{S:WS}(h:S.ok)(x gen n:Int):FX 101 [.int S.c.c0,.int S.c.c1,.int S.c.c2,.int S.c.c3,.int S.c.c4,.int S.c.c5,.int S.c.c6,.int x,.int gen,.int n]=some [.int (A7g S.c x gen n)]:=G0c S.c h.c x gen n
theorem G5y{L:List D}{w m k:Nat}{S:WS}(W:InW L w m k S)(h:S.ok)(i:Int):∃L',FX 107 [.int (w:Nat),.int i,.agg L]=some ((B8p S i).ds++[.agg L'])∧InW L' w m k S∧Fr L L' (fun b=>b=w∨b=m):=by
 rw[F7r]
 unfold B8p
 by_cases c0:i<0
 ·refine⟨L,?_,W,Fr.refl _ _⟩
  rw[Q3 c0]
  simp only[D.toInt_int,c0,Q6,Q5]
  rfl
 ·obtain⟨M,hM,hw⟩:=W.m
  obtain⟨e,M',h1,h2⟩:=E7o hM i
  refine⟨L.set m (.agg M'.ds),?_,?_,Fr.set _ _ _ (.inr rfl)⟩
  ·rw[Q0 c0]
   have hr:=H4h (wd M.words i) (E2j (by rw[hw];exact h.w) _)
   rw[hw]at h1 hr
   simp only[c0,Q7,HH,W.w,A0d.A8l,h1,hr,Rc.len,Rc.A1f,Rc.A1i,Rc.A1p,Rc.A1w,Rc.A1u,Rc.A2m]
   rfl
  ·have:=W.E5u M'
   rw[h2,hw]at this
   exact this
theorem H5j{se:A0l}{i:Int}(h0:0≤i)(h1:i<se.A8f.length):(se.A8f.map Cur.d).getD i.toNat D.nil=.agg [.int (A6q se i).gen,.int (A6q se i).n]:=by
 have h:i.toNat<se.A8f.length:=by omega
 unfold A6q
 rw[aF,aM,aG h,aF,aG h];rfl
section
variable{L:List D}{a s w m k:Nat}{pr:PrS}{se:A0l}{S:WS}(H:Hs L a s w m k pr se S)(h:S.ok)(hpc:In (pr.pc+1))
include H h hpc
theorem H1i(hc:0≤A0f S.c se.part pr.a.cell→0≤pr.a.cell∧pr.a.cell<se.A8f.length)(hg:In ((A6q se pr.a.cell).gen+1))(hn:In ((A6q se pr.a.cell).n+1)):
  ∃L',FX 88 [.int (a:Nat),.int (w:Nat),.int (s:Nat),.agg L]=some (A6m (A1t (A0f S.c se.part pr.a.cell) pr se S).r L')∧
   Hs L' a s w m k (A1t (A0f S.c se.part pr.a.cell) pr se S).pr (A1t (A0f S.c se.part pr.a.cell) pr se S).se (A1t (A0f S.c se.part pr.a.cell) pr se S).S∧FrS L L' a s w m:=by
 have n0:=E3n h se.part pr.a.cell
 rw[C8v]
 simp only[HH,H.a,H.s,H.W.w,A0d.all,PrS.A1p,PrS.A7f,A0l.A1f,A0l.A1u,n0]
 generalize hxx:A0f S.c se.part pr.a.cell=x at*
 by_cases cx:x<0
 ·have e:A1t x pr se S=⟨some (codeF pr S 21),pr,se,S⟩:=by unfold A1t;rw[Q3 cx]
  rw[e]
  simp only[cx,Q6,Q5,B4v H h,C3t]
  exact⟨L,rfl,H,B0c⟩
 obtain⟨b1,b2⟩:=hc (by omega)
 have b1':pr.a.cell≥0:=b1
 have g1:=H5j (se:=se) b1 b2
 have hlen:(se.A8f.map Cur.d).length=se.A8f.length:=aK ..
 simp only[cx,Q7,a8,Q4,hlen,b1',b2,Q6,Q5,g1,HH]
 generalize hcur:A6q se pr.a.cell=cur at*
 by_cases c0:pr.pc=0
 ·have i0:(pr.pc == 0)=true:=QB.2 c0
  have e:A1t x pr se S=⟨none,{pr with pc:=pr.pc+1},se,S⟩:=by unfold A1t;rw[Q0 cx,Q3 c0]
  rw[e]
  simp only[i0,Q5,hpc.w,PrS.rng,PrS.B8c]
  exact⟨_,rfl,H.A8q _,A5v _⟩
 have i0:(pr.pc == 0)=false:=Q8.2 c0
 simp only[i0,a8,Q4]
 by_cases c1:pr.pc=1
 ·have i1:(pr.pc == 1)=true:=QB.2 c1
  simp only[i1,Q5,C1q,HH,H.a,H.s,H.W.w,A0d.all,PrS.A1p,PrS.A7f,A0l.A1u,g1]
  by_cases c2:cur.n<S.c.c5
  ·have e:A1t x pr se S=⟨none,{pr with r0:=B8p S (A7g S.c x cur.gen cur.n),pc:=pr.pc+1},se,S⟩:=by unfold A1t;rw[Q0 cx,Q0 c0,Q3 c1,hcur,Q3 c2]
   rw[e]
   obtain⟨L1,n1,W1,F1⟩:=G5y H.W h (A7g S.c x cur.gen cur.n)
   obtain⟨H1,G1⟩:=H.B0b W1 F1
   rw[rapp]at n1
   have n2:=F6c h x cur.gen cur.n
   simp only[c2,Q6,Q5,n2,n1,HH,C1n,H1.a,PrS.rng,PrS.F0n,PrS.G1y,PrS.G1e,PrS.E1u,PrS.E3g,PrS.E2a,PrS.A7f,hpc.w,PrS.B8c]
   exact⟨_,rfl,H1.A8q {pr with r0:=B8p S (A7g S.c x cur.gen cur.n),pc:=pr.pc+1},G1.trans (A5v _)⟩
  ·have e:A1t x pr se S=⟨none,{pr with pc:=pr.pc+1},se,S⟩:=by unfold A1t;rw[Q0 cx,Q0 c0,Q3 c1,hcur,Q0 c2]
   rw[e]
   simp only[c2,Q7,a8,Q4,hpc.w,PrS.rng,PrS.B8c]
   exact⟨_,rfl,H.A8q _,A5v _⟩
 have i1:(pr.pc == 1)=false:=Q8.2 c1
 simp only[i1,a8,Q4]
 by_cases c2:pr.pc=2
 ·have i2:(pr.pc == 2)=true:=QB.2 c2
  have e:A1t x pr se S=⟨none,{pr with r1:=B8p S (A7g S.c x cur.gen S.c.c5),pc:=pr.pc+1},se,S⟩:=by unfold A1t;rw[Q0 cx,Q0 c0,Q0 c1,Q3 c2,hcur]
  rw[e]
  obtain⟨L1,n1,W1,F1⟩:=G5y H.W h (A7g S.c x cur.gen S.c.c5)
  obtain⟨H1,G1⟩:=H.B0b W1 F1
  rw[rapp]at n1
  have n2:=F6c h x cur.gen S.c.c5
  simp only[i2,Q5,n2,n1,HH,C1t,H1.a,PrS.rng,PrS.E4v,PrS.E3l,PrS.F0p,PrS.F0v,PrS.F0o,PrS.F1r,PrS.A7f,hpc.w,PrS.B8c]
  exact⟨_,rfl,H1.A8q {pr with r1:=B8p S (A7g S.c x cur.gen S.c.c5),pc:=pr.pc+1},G1.trans (A5v _)⟩
 ·have i2:(pr.pc == 2)=false:=Q8.2 c2
  have e:A1t x pr se S=⟨some {codeF pr S 0 with rc:=(B1z cur.gen cur.n pr.r0 pr.r1).1},pr,{se with A8f:=se.A8f.set pr.a.cell.toNat ⟨(B1z cur.gen cur.n pr.r0 pr.r1).2.1,(B1z cur.gen cur.n pr.r0 pr.r1).2.2⟩},S⟩:=by unfold A1t;rw[Q0 cx,Q0 c0,Q0 c1,Q0 c2,hcur]
  rw[e]
  have n3:FX 108 [.int cur.gen,.int cur.n,.int pr.r0.k,.int pr.r0.q,.int pr.r0.p,.int pr.r0.t,.int pr.r0.c,.int pr.r0.g,.int pr.r1.k,.int pr.r1.q,.int pr.r1.p,.int pr.r1.t,.int pr.r1.c,.int pr.r1.g]=some ((B1z cur.gen cur.n pr.r0 pr.r1).1.ds++[.int (B1z cur.gen cur.n pr.r0 pr.r1).2.1,.int (B1z cur.gen cur.n pr.r0 pr.r1).2.2]):=H5r cur.gen cur.n hg hn pr.r0 pr.r1
  generalize B1z cur.gen cur.n pr.r0 pr.r1=nx at*
  have r2:∀(r:Rc) (x y:D),r.ds++[x,y]=[.int r.k,.int r.q,.int r.p,.int r.t,.int r.c,.int r.g,x,y]:=fun _ _ _=>rfl
  rw[r2]at n3
  have hset:(se.A8f.map Cur.d).set pr.a.cell.toNat (.agg [.int nx.2.1,.int nx.2.2])=(se.A8f.set pr.a.cell.toNat ⟨nx.2.1,nx.2.2⟩).map Cur.d:=by rw[aX];rfl
  simp only[i2,a8,Q4,B4v H h,A0n,Rep.H2v,Q5,PrS.E5c,PrS.E2e,PrS.F1u,PrS.F0y,PrS.F0r,PrS.F0q,PrS.F1k,PrS.F1e,PrS.F1l,PrS.F1t,PrS.F1c,PrS.F1m,n3,HH,C1m,H.s,H.a,PrS.A1p,A0l.A1u,A0l.rng,hset,A0l.B0e]
  exact⟨_,rfl,H.setS {se with A8f:=se.A8f.set pr.a.cell.toNat ⟨nx.2.1,nx.2.2⟩},H2y _⟩
theorem look_eq(s:St):FX 109 [.int s.k,.bool s.f,.int s.g,.int s.l,.int s.n]=some (E3e s).ds:=by
 have h1:=F9t s.k (.bool s.f) (.int s.g) (.int s.l) (.int s.n)
 rw[F8q,h1]
 simp only[HH]
 unfold E3e
 have e:s.live=(decide (1≤s.k)&&decide (s.k≤4)):=rfl
 rw[←e]
 cases s.live<;>rfl
theorem H0u(hlk:pr.looks.length≤1000)(hpc0:0≤pr.pc):
  ∃L',FX 89 [.int (a:Nat),.int (w:Nat),.int (s:Nat),.agg L]=some (A6m (A1q pr se S).r L')∧
   ((A1q pr se S).r=none→Hs L' a s w m k (A1q pr se S).pr (A1q pr se S).se (A1q pr se S).S)∧InW L' w m k S∧L'.getD s D.nil=.agg se.ds∧FrS L L' a s w m:=by
 obtain⟨f1,f2,f3,f4,f5,f6,f7⟩:=H.far
 rw[C8k]
 simp only[HH,H.a,H.s,H.W.w,A0d.all,PrS.A7f,PrS.E5f,A0l.A1f]
 by_cases c0:pr.pc>S.c.c1
 ·have e:A1q pr se S=⟨some {codeF pr S 0 with looks:=pr.looks},pr,se,S⟩:=by unfold A1q;rw[Q3 c0]
  rw[e]
  have hnil:∀l:List D,(D.agg l).isNil=false:=fun _=>rfl
  simp only[c0,Q6,Q5,B4v H h,A0n,Rep.H2v,hnil,a9]
  refine⟨_,rfl,(fun hh=>nomatch hh),?_,?_,A5v _⟩
  ·exact H.W.fr (Fr.set L a _ (T:=(·=a)) rfl) (bO f1) (bO f2) (bO f3)
  ·rw[A3i f7];exact H.s
 simp only[c0,Q7,a8,Q4]
 by_cases c1:pr.pc>0
 ·have e:A1q pr se S=⟨none,{pr with looks:=pr.looks++[E3e (A0i (S.word (A0f S.c se.part (pr.pc-1))))],pc:=pr.pc+1},se,S⟩:=by unfold A1q;rw[Q0 c0,Q3 c1]
  rw[e]
  have hc1:=h.c.2.1
  rw[A0v (pr.pc-1) (by omega) (by omega)]
  have n0:=E3n h se.part (pr.pc-1)
  have hx:=E5x h.c se.part (pr.pc-1)
  obtain⟨L1,n1,W1,F1⟩:=B1l H.W h (A0f S.c se.part (pr.pc-1)) hx
  obtain⟨H1,G1⟩:=H.B0b W1 (F1.mono fun b hb=>.inr hb)
  rw[F3w]at n1
  have n2:=look_eq H h hpc (A0i (S.word (A0f S.c se.part (pr.pc-1))))
  generalize E3e (A0i (S.word (A0f S.c se.part (pr.pc-1))))=lk at*
  have n2':lk.ds=[.int lk.kind,.int lk.left,.int lk.F0t]:=rfl
  rw[n2']at n2
  have hap:pr.looks.map A5t.d++[D.agg [.int lk.kind,.int lk.left,.int lk.F0t]]=(pr.looks++[lk]).map A5t.d:=by simp[A5t.d,A5t.ds]
  have hle:(((pr.looks++[lk]).map A5t.d).length:Int)≤5864062014805:=by simp;omega
  have hnil:∀l:List D,(D.agg l).isNil=false:=fun _=>rfl
  simp only[c1,Q6,Q5,n0,n1,HH,C1r,C1y,H1.a,PrS.E5f,hnil,n2,hap,hle,PrS.rng,PrS.F1f,PrS.A7f,hpc.w,PrS.B8c]
  have H2:=H1.A8q {pr with looks:=pr.looks++[lk],pc:=pr.pc+1}
  exact⟨_,rfl,fun _=>H2,H2.W,H2.s,G1.trans (A5v _)⟩
 ·have e:A1q pr se S=⟨none,{pr with pc:=pr.pc+1},se,S⟩:=by unfold A1q;rw[Q0 c0,Q0 c1]
  rw[e]
  simp only[c1,Q7,a8,Q4,hpc.w,PrS.rng,PrS.B8c]
  have H2:=H.A8q {pr with pc:=pr.pc+1}
  exact⟨_,rfl,fun _=>H2,H2.W,H2.s,A5v _⟩
end
end
section
set_option linter.unusedSectionVars false
structure InA(L:List D)(a s z l w m k:Nat)(pr:PrS)(se:A0l)(ss:A0k)(po:A0e)(S:WS):Prop where
 H:Hs L a s w m k pr se S
 z:L.getD z D.nil=.agg ss.ds
 l:L.getD l D.nil=.agg po.ds
def Own(a q s z l w m:Nat)(b:Nat):Prop:=b=a∨b=q∨b=s∨b=z∨b=l∨b=w∨b=m
def FrA(L L':List D)(a q s z l w m:Nat):Prop:=Fr L L' (Own a q s z l w m)
section
variable{L:List D}{a s z l w m k:Nat}{pr:PrS}{se:A0l}{ss:A0k}{po:A0e}{S:WS}(A:InA L a s z l w m k pr se ss po S)
include A
theorem InA.fz:z≠a∧z≠s∧z≠w∧z≠m∧z≠k∧z≠l:=by
 obtain⟨h1,h2,h3⟩:=A.H.W.far A.z (by rw[A0k.len];decide) (by rw[A0k.len];decide) (by rw[A0k.len];decide)
 exact⟨A3m A.z A.H.a (by rw[PrS.len,A0k.len];decide),A3m A.z A.H.s (by rw[A0l.len,A0k.len];decide),h1,h2,h3,A3m A.z A.l (by rw[A0k.len,A0e.len];decide)⟩
theorem InA.fl:l≠a∧l≠s∧l≠w∧l≠m∧l≠k:=by
 obtain⟨h1,h2,h3⟩:=A.H.W.far A.l (by rw[A0e.len];decide) (by rw[A0e.len];decide) (by rw[A0e.len];decide)
 exact⟨A3m A.l A.H.a (by rw[PrS.len,A0e.len];decide),A3m A.l A.H.s (by rw[A0l.len,A0e.len];decide),h1,h2,h3⟩
theorem InA.step{L1:List D}{pr1:PrS}{se1:A0l}{S1:WS}(H1:Hs L1 a s w m k pr1 se1 S1)(G:FrS L L1 a s w m):InA L1 a s z l w m k pr1 se1 ss po S1:=by
 obtain⟨h1,h2,h3,h4,h5,h6⟩:=A.fz
 obtain⟨g1,g2,g3,g4,g5⟩:=A.fl
 exact⟨H1,G.get A.z (by simp only[h1,h2,h3,h4,QC,not_false_iff]),G.get A.l (by simp only[g1,g2,g3,g4,QC,not_false_iff])⟩
theorem InA.G8v(ss':A0k):InA (L.set z (.agg ss'.ds)) a s z l w m k pr se ss' po S:=by
 obtain⟨h1,h2,h3,h4,h5,h6⟩:=A.fz
 exact⟨⟨A.H.W.fr (Fr.set L z _ (T:=(·=z)) rfl) (bO h3) (bO h4) (bO h5),by rw[A3i h1];exact A.H.a,by rw[A3i h2];exact A.H.s⟩,A3r (A2p A.z) _,by rw[A3i h6];exact A.l⟩
theorem InA.B8l(po':A0e):InA (L.set l (.agg po'.ds)) a s z l w m k pr se ss po' S:=by
 obtain⟨h1,h2,h3,h4,h5,h6⟩:=A.fz
 obtain⟨g1,g2,g3,g4,g5⟩:=A.fl
 exact⟨⟨A.H.W.fr (Fr.set L l _ (T:=(·=l)) rfl) (bO g3) (bO g4) (bO g5),by rw[A3i g1];exact A.H.a,by rw[A3i g2];exact A.H.s⟩,by rw[A3i (bO h6)];exact A.z,A3r (A2p A.l) _⟩
theorem InA.snoc(x:D):InA (L++[x]) a s z l w m k pr se ss po S:=by
 have hf:Fr L (L++[x]) (fun _=>False):=Fr.snoc L x _
 exact⟨⟨A.H.W.fr hf not_false not_false not_false,hf.get A.H.a not_false,hf.get A.H.s not_false⟩,hf.get A.z not_false,hf.get A.l not_false⟩
omit A
theorem FrA.ofS{L L':List D}{a q s z l w m:Nat}(G:FrS L L' a s w m):FrA L L' a q s z l w m:=G.mono fun b hb=>by
 unfold Own
 rcases hb with h|h|h|h
 ·exact .inl h
 ·exact .inr (.inr (.inl h))
 ·exact .inr (.inr (.inr (.inr (.inr (.inl h)))))
 ·exact .inr (.inr (.inr (.inr (.inr (.inr h)))))
end
def PP(L:List D)(q:Nat)(ptr:D)(o:Option A0a):Prop:=match o with
 |none=>ptr=.nil
 |some P=>ptr=.int (q:Nat)∧L.getD q D.nil=.agg P.ds
def A5y:Option A0a→Bool
 |none=>true
 |some P=>decide (P.pc≥14)
def A4x(z l:Nat):D:=.iface 75 (.agg [.iface 104 (.agg [.int (z:Nat)]),.iface 25 (.agg [.int (l:Nat)])])
def atT(t:List Dr)(i:Int):Dr:=t.getD i.toNat ⟨0,0⟩
def takeN(ss:A0k)(po:A0e):Option Int × A0k × A0e:=
 if ss.taken=ss.tape.length then(none,ss,po)else(some (atT ss.tape ss.taken).n,{ss with taken:=ss.taken+1},{po with A0u:=po.A0u.set (atT ss.tape ss.taken).ev.toNat ss.ev})
structure B0z(ss:A0k)(po:A0e):Prop where
 t:0≤ss.taken∧ss.taken≤ss.tape.length∧ss.tape.length≤100000000
 e:∀d ∈ ss.tape,0≤d.ev∧d.ev<po.A0u.length
theorem G9r{L:List D}{a s z l w m k:Nat}{pr:PrS}{se:A0l}{ss:A0k}{po:A0e}{S:WS}(A:InA L a s z l w m k pr se ss po S)(ht:B0z ss po):
  ∃L',FX 76 [.int (z:Nat),.int (l:Nat),.agg L]=some [.int ((takeN ss po).1.getD 0),.bool (takeN ss po).1.isSome,.agg L']∧InA L' a s z l w m k pr se (takeN ss po).2.1 (takeN ss po).2.2 S∧Fr L L' (fun b=>b=z∨b=l):=by
 obtain⟨⟨t1,t2,t3⟩,te⟩:=ht
 have hlen:(ss.tape.map Dr.d).length=ss.tape.length:=aK ..
 rw[C8h]
 simp only[HH,A.z,A0k.A1w,A0k.A1u,A0k.A2m,hlen]
 unfold takeN
 by_cases c0:ss.taken=ss.tape.length
 ·have i0:(ss.taken == (ss.tape.length:Int))=true:=QB.2 c0
  rw[Q3 c0]
  simp only[i0,Q5]
  exact⟨L,rfl,A,Fr.refl _ _⟩
 ·have i0:(ss.taken == (ss.tape.length:Int))=false:=Q8.2 c0
  rw[Q0 c0]
  have hlt:ss.taken.toNat<ss.tape.length:=by omega
  have hmem:atT ss.tape ss.taken ∈ ss.tape:=by
   unfold atT
   rw[aF,aG hlt]
   exact aP hlt
  obtain⟨e1,e2⟩:=te _ hmem
  have hg:(ss.tape.map Dr.d).getD ss.taken.toNat D.nil=.agg [.int (atT ss.tape ss.taken).n,.int (atT ss.tape ss.taken).ev]:=by
   unfold atT
   rw[aF,aM,aG hlt,aF,aG hlt];rfl
  generalize atT ss.tape ss.taken=d at*
  have j1:ss.taken≥0:=t1
  have j2:ss.taken<(ss.tape.length:Int):=by omega
  have j3:d.ev≥0:=e1
  have A1:=A.G8v {ss with taken:=ss.taken+1}
  have A2:=A1.B8l {po with A0u:=po.A0u.set d.ev.toNat ss.ev}
  refine⟨_,?_,A2,(Fr.set L z _ (.inl rfl)).trans (Fr.set _ l _ (.inr rfl))⟩
  simp only[i0,a8,Q4,j1,j2,Q6,Q5,hg,HH,A0k.rng]
  rw[A0v _ (by omega) (by omega)]
  simp only[A0k.B6n,A1.l,HH,A0e.A3z,D0z,j3,e2,Q6,A0e.rng,E0l,A0e.B7u]
  rfl
structure Tr where
 b:Bool
 n:Int
 o:Option A0a
 ss:A0k
 po:A0e
 S:WS
def atA(t:List Aim)(i:Int):Aim:=t.getD i.toNat ⟨0,0,0,0,0⟩
def A2e(n:Int)(o:Option A0a)(ss:A0k)(po:A0e)(S:WS):Tr:=match o with
 |none=>⟨false,n,none,ss,po,S⟩
 |some P=>if P.pc≥14 then⟨false,n,some P,ss,po,S⟩else⟨true,n,some (A1h P S).1,ss,po,(A1h P S).2⟩
def E2d(ai:Aim):Option Int→Aim
 |none=>ai
 |some v=>{ai with y:=v}
def A1v(pr:PrS)(o:Option A0a)(ss:A0k)(po:A0e)(S:WS):Tr:=
 if A5y o=true∧pr.n<pr.A3x.length then
  (if(atA pr.A3x pr.n).way=1 then A2e (pr.n+1) (some (A0a.new (E2d (atA pr.A3x pr.n) (takeN ss po).1))) (takeN ss po).2.1 (takeN ss po).2.2 S
  else A2e (pr.n+1) (some (A0a.new (atA pr.A3x pr.n))) ss po S)
 else A2e pr.n o ss po S
section
variable{L:List D}{a s z l w m k q:Nat}{pr:PrS}{se:A0l}{ss:A0k}{po:A0e}{S:WS}{o:Option A0a}(A:InA L a s z l w m k pr se ss po S)(h:S.ok)(hp:PP L q pr.p o)
include A h hp
theorem F2z:FX 78 [pr.p,.agg L]=some [.bool (A5y o)]:=by
 cases o with
 |none=>
  dsimp only[PP]at hp
  rw[hp,A8d]
  simp only[HH];rfl
 |some P=>
  obtain⟨e1,e2⟩:=hp
  rw[e1,D7y A.H.W e2];rfl
theorem F9o(ho:∀P,o=some P→P.ok)(hl:S.log.length≤1000000000)(x2:D):
  ∃L',A4n (.int (a:Nat)) (.int (w:Nat)) x2 [.agg L]=some [.bool (A2e pr.n o ss po S).b,.agg L']∧
   InA L' a s z l w m k pr se ss po (A2e pr.n o ss po S).S∧PP L' q pr.p (A2e pr.n o ss po S).o∧FrA L L' a q s z l w m:=by
 have n1:=F2z A h hp
 rw[C2l]
 simp only[HH,A.H.a,PrS.D7x,n1]
 cases o with
 |none=>
  simp only[A5y,Q5]
  exact⟨L,rfl,A,hp,Fr.refl _ _⟩
 |some P=>
  obtain⟨e1,e2⟩:=hp
  unfold A2e
  by_cases c0:P.pc≥14
  ·have i0:A5y (some P)=true:=by simp only[A5y,c0,Q6]
   simp only[i0,Q5,Q3 c0]
   exact⟨L,rfl,A,⟨e1,e2⟩,Fr.refl _ _⟩
  ·have i0:A5y (some P)=false:=by simp only[A5y,c0,Q7]
   obtain⟨L1,n2,d1,d2,d3⟩:=F4r A.H.W e2 h (ho P rfl) hl
   simp only[i0,a8,Q4,Q0 c0,e1,n2,HH]
   have hq:q≠a∧q≠s∧q≠z∧q≠l:=⟨A3m e2 A.H.a (by rw[A0a.len,PrS.len];decide),A3m e2 A.H.s (by rw[A0a.len,A0l.len];decide),A3m e2 A.z (by rw[A0a.len,A0k.len];decide),A3m e2 A.l (by rw[A0a.len,A0e.len];decide)⟩
   obtain⟨q1,q2,q3,q4⟩:=hq
   obtain⟨f1,f2,f3,f4,f5,f6,f7⟩:=A.H.far
   obtain⟨g1,g2,g3,g4,g5,g6⟩:=A.fz
   obtain⟨k1,k2,k3,k4,k5⟩:=A.fl
   refine⟨L1,rfl,⟨⟨d1,d3.get A.H.a ?_,d3.get A.H.s ?_⟩,d3.get A.z ?_,d3.get A.l ?_⟩,⟨rfl,d2⟩,d3.mono fun b hb=>?_⟩
   ·simp only[bO q1,f1,f2,QC,not_false_iff]
   ·simp only[bO q2,f4,f5,QC,not_false_iff]
   ·simp only[bO q3,g3,g4,QC,not_false_iff]
   ·simp only[bO q4,k3,k4,QC,not_false_iff]
   ·unfold Own
    rcases hb with hb|hb|hb
    ·exact .inr (.inl hb)
    ·exact .inr (.inr (.inr (.inr (.inr (.inl hb)))))
    ·exact .inr (.inr (.inr (.inr (.inr (.inr hb)))))
end
end
section
set_option linter.unusedSectionVars false
theorem F6v(ai:Aim)(L:List D):FX 79 [.int ai.way,.int ai.x,.int ai.gen,.int ai.y,.int ai.A3y,.agg L]=some [.int (L.length:Nat),.agg (L++[D.agg (A0a.new ai).ds])]:=by
 rw[F4d]
 simp only[D.A0j]
 rfl
theorem PP.ext{L L':List D}{q:Nat}{ptr:D}{o:Option A0a}(hp:PP L q ptr o)(he:∀P,o=some P→L'.getD q D.nil=L.getD q D.nil):PP L' q ptr o:=by
 cases o with
 |none=>exact hp
 |some P=>exact⟨hp.1,by rw[he P rfl];exact hp.2⟩
section
variable{L:List D}{a s z l w m k q:Nat}{pr:PrS}{se:A0l}{ss:A0k}{po:A0e}{S:WS}{o:Option A0a}(A:InA L a s z l w m k pr se ss po S)(h:S.ok)
include A h
theorem F8s(ai:Aim)(hl:S.log.length≤1000000000)(hn:In (pr.n+1))(x0 x2 x3 x4 y2:D):
  ∃L' q',A4m (.int (a:Nat)) x0 x2 x3 x4 (A4n (.int (a:Nat)) (.int (w:Nat)) y2) [.int ai.way,.int ai.x,.int ai.gen,.int ai.y,.int ai.A3y,.agg L]=some [.bool (A2e (pr.n+1) (some (A0a.new ai)) ss po S).b,.agg L']∧
   InA L' a s z l w m k {pr with p:=.int (q':Nat),n:=pr.n+1} se ss po (A2e (pr.n+1) (some (A0a.new ai)) ss po S).S∧PP L' q' (.int (q':Nat)) (A2e (pr.n+1) (some (A0a.new ai)) ss po S).o∧
   Fr L L' (Own a q' s z l w m)∧L.length≤q':=by
 have A1:=A.snoc (D.agg (A0a.new ai).ds)
 obtain⟨p1,hp1⟩:∃p1:PrS,p1={pr with p:=.int (L.length:Nat),n:=pr.n+1}:=⟨_,rfl⟩
 have H2:=A1.H.A8q p1
 have A2:InA ((L++[D.agg (A0a.new ai).ds]).set a (.agg p1.ds)) a s z l w m k p1 se ss po S:=A1.step H2 (A5v _)
 have hne:a≠L.length:=by have:=A2p A.H.a;omega
 have hpp:PP ((L++[D.agg (A0a.new ai).ds]).set a (.agg p1.ds)) L.length p1.p (some (A0a.new ai)):=by
  rw[hp1]
  exact⟨rfl,by rw[A3i hne];exact A5o L _⟩
 obtain⟨L',n1,A3,hp3,F3⟩:=F9o A2 h hpp (fun P e=>by cases e;exact A0a.C1c ai) hl y2
 have hn1:p1.n=pr.n+1:=by rw[hp1]
 have hpt:p1.p=.int (L.length:Nat):=by rw[hp1]
 rw[hn1]at n1 A3 hp3
 rw[hpt]at hp3
 refine⟨L',L.length,?_,by rw[hp1]at A3;exact A3,hp3,?_,c9 _⟩
 ·rw[C2f,F6v]
  have hset:∀x:PrS,x.ds.set 19 (.int (L.length:Nat))=PrS.ds {x with p:=.int (L.length:Nat)}:=fun _=>rfl
  simp only[HH,A1.H.a,PrS.rng,hset,PrS.D0l,hn.w,PrS.E3d,←hp1]
  exact n1
 ·have F1:Fr L (L++[D.agg (A0a.new ai).ds]) (Own a L.length s z l w m):=Fr.snoc L _ _
  exact(F1.trans (Fr.set _ a _ (.inl rfl))).trans F3
theorem H4n{i:Int}(h0:0≤i)(h1:i<pr.A3x.length):(pr.A3x.map Aim.d).getD i.toNat D.nil=.agg (atA pr.A3x i).ds:=by
 have hh:i.toNat<pr.A3x.length:=by omega
 unfold atA
 rw[aF,aM,aG hh,aF,aG hh];rfl
theorem H4o(hp:PP L q pr.p o)(hd:pr.draw=A4x z l)(ho:∀P,o=some P→P.ok)(hl:S.log.length≤1000000000)(hn:0≤pr.n∧pr.n≤100000)(ht:B0z ss po):
  ∃L' q' ptr,FX 104 [.int (a:Nat),.int (w:Nat),.agg L]=some [.bool (A1v pr o ss po S).b,.agg L']∧
   InA L' a s z l w m k {pr with p:=ptr,n:=(A1v pr o ss po S).n} se (A1v pr o ss po S).ss (A1v pr o ss po S).po (A1v pr o ss po S).S∧PP L' q' ptr (A1v pr o ss po S).o∧
   FrA L L' a q s z l w m∧(q'=q∨L.length≤q'):=by
 have n1:=F2z A h hp
 have hin:In (pr.n+1):=In.lit (by omega)
 have hlen:(pr.A3x.map Aim.d).length=pr.A3x.length:=aK ..
 have hJ:∀J:List D→Option (List D),(if A5y o=true then J [.agg L,.bool (decide (pr.n<(pr.A3x.length:Int)))]else J [.agg L,.bool false])=J [.agg L,.bool (decide (A5y o=true∧pr.n<(pr.A3x.length:Int)))]:=by
  intro J
  cases A5y o<;>simp
 rw[D2e]
 simp only[HH,A.H.a,PrS.D7x,PrS.D0l,PrS.D2p,n1,hlen]
 rw[hJ,C3f]
 simp only[HH,A.H.a,PrS.D0l,PrS.D2p,PrS.H8l,hlen]
 unfold A1v
 by_cases c0:A5y o=true∧pr.n<(pr.A3x.length:Int)
 ·obtain⟨c1,c2⟩:=c0
  have j0:pr.n≥0:=hn.1
  have g1:=H4n A h hn.1 c2
  generalize atA pr.A3x pr.n=ai at*
  have e1:∀x y:D,(D.iface 75 (.agg [x,y])).isIf 75=true:=fun _ _=>by simp[D.isIf]
  have e2:∀x:D,(D.iface 104 x).isIf 104=true:=fun _=>by simp[D.isIf]
  have e3:∀x:D,(D.iface 25 x).isIf 25=true:=fun _=>by simp[D.isIf]
  have e4:∀(t:Nat) (x:D),(D.iface t x).inner=x:=fun _ _=>rfl
  rw[Q3 (⟨c1,c2⟩:A5y o=true∧pr.n<(pr.A3x.length:Int))]
  simp only[c1,c2,and_self,Q6,Q5,j0,g1,HH,Aim.A1f,Aim.A1i,Aim.A1p,Aim.A1w,Aim.A1u]
  by_cases c3:ai.way=1
  ·have i3:(ai.way == 1)=true:=QB.2 c3
   rw[Q3 c3]
   obtain⟨L1,n2,A1,F1⟩:=G9r A ht
   have e5:((((0:Nat)+1+1:Nat):Int) == 2)=true:=rfl
   have F1':FrA L L1 a q s z l w m:=F1.mono fun b hb=>by
    unfold Own
    rcases hb with hb|hb
    ·exact .inr (.inr (.inr (.inl hb)))
    ·exact .inr (.inr (.inr (.inr (.inl hb))))
   simp only[i3,Q5,hd,A4x,e1,e2,e3,e4,e5,HH,D0b,n2]
   have fin:∀v:Aim,∃L' q' ptr,A4m (.int (a:Nat)) (.int (w:Nat)) (.agg L) (.agg L) (.bool true) (A4n (.int (a:Nat)) (.int (w:Nat)) (.agg L)) [.int v.way,.int v.x,.int v.gen,.int v.y,.int v.A3y,.agg L1]=some [.bool (A2e (pr.n+1) (some (A0a.new v)) (takeN ss po).2.1 (takeN ss po).2.2 S).b,.agg L']∧
     InA L' a s z l w m k {pr with p:=ptr,n:=(A2e (pr.n+1) (some (A0a.new v)) (takeN ss po).2.1 (takeN ss po).2.2 S).n} se (A2e (pr.n+1) (some (A0a.new v)) (takeN ss po).2.1 (takeN ss po).2.2 S).ss (A2e (pr.n+1) (some (A0a.new v)) (takeN ss po).2.1 (takeN ss po).2.2 S).po (A2e (pr.n+1) (some (A0a.new v)) (takeN ss po).2.1 (takeN ss po).2.2 S).S∧
     PP L' q' ptr (A2e (pr.n+1) (some (A0a.new v)) (takeN ss po).2.1 (takeN ss po).2.2 S).o∧FrA L L' a q s z l w m∧(q'=q∨L.length≤q'):=by
    intro v
    obtain⟨L2,q2,n3,A2,P2,F2,hq2⟩:=F8s A1 h v hl hin (.int (w:Nat)) (.agg L) (.agg L) (.bool true) (.agg L)
    refine⟨L2,q2,.int (q2:Nat),n3,?_,P2,?_,.inr (bS F1.1 hq2)⟩
    ·have hr:(A2e (pr.n+1) (some (A0a.new v)) (takeN ss po).2.1 (takeN ss po).2.2 S).n=pr.n+1∧(A2e (pr.n+1) (some (A0a.new v)) (takeN ss po).2.1 (takeN ss po).2.2 S).ss=(takeN ss po).2.1∧(A2e (pr.n+1) (some (A0a.new v)) (takeN ss po).2.1 (takeN ss po).2.2 S).po=(takeN ss po).2.2:=by
      unfold A2e
      dsimp only
      split<;>exact⟨rfl,rfl,rfl⟩
     rw[hr.1,hr.2.1,hr.2.2]
     exact A2
    ·refine F1'.trans ⟨F2.1,fun b hb hn=>F2.2 b hb fun ho=>hn ?_⟩
     unfold Own at ho⊢
     rcases ho with ho|ho|ho
     ·exact .inl ho
     ·omega
     ·exact .inr (.inr ho)
   simp only[hd,A4x]at fin
   cases hv:(takeN ss po).1 with
   |none=>
    simp only[Option.isSome_none,a8,Q4,E2d]
    exact fin ai
   |some v=>
    simp only[Option.isSome_some,Q5,E2d,Option.getD_some]
    exact fin {ai with y:=v}
  ·have i3:(ai.way == 1)=false:=Q8.2 c3
   rw[Q0 c3]
   simp only[i3,a8,Q4]
   obtain⟨L2,q2,n3,A2,P2,F2,hq2⟩:=F8s A h ai hl hin (.int (w:Nat)) (.agg L) (.agg L) (.bool true) (.agg L)
   refine⟨L2,q2,.int (q2:Nat),n3,?_,P2,?_,.inr hq2⟩
   ·have hr:(A2e (pr.n+1) (some (A0a.new ai)) ss po S).n=pr.n+1∧(A2e (pr.n+1) (some (A0a.new ai)) ss po S).ss=ss∧(A2e (pr.n+1) (some (A0a.new ai)) ss po S).po=po:=by
     unfold A2e
     dsimp only
     split<;>exact⟨rfl,rfl,rfl⟩
    rw[hr.1,hr.2.1,hr.2.2]
    exact A2
   ·refine⟨F2.1,fun b hb hn=>F2.2 b hb fun ho=>hn ?_⟩
    unfold Own at ho⊢
    rcases ho with ho|ho|ho
    ·exact .inl ho
    ·omega
    ·exact .inr (.inr ho)
 ·rw[Q0 c0]
  simp only[c0,Q7,a8,Q4]
  obtain⟨L',n2,A2,P2,F2⟩:=F9o A h hp ho hl (.agg L)
  have hr:(A2e pr.n o ss po S).n=pr.n∧(A2e pr.n o ss po S).ss=ss∧(A2e pr.n o ss po S).po=po:=by
   unfold A2e
   cases o with
   |none=>exact⟨rfl,rfl,rfl⟩
   |some P=>dsimp only;split<;>exact⟨rfl,rfl,rfl⟩
  refine⟨L',q,pr.p,n2,?_,P2,F2,.inl rfl⟩
  rw[hr.1,hr.2.1,hr.2.2]
  exact A2
end
end
section
set_option linter.unusedSectionVars false
theorem B1b{α:Type}{x:α}{p:Prop}(h:some x=none):p:=by cases h
def PrS.at(pr:PrS)(p d:D):PrS:={pr with p:=p,draw:=d}
def Stp.at(x:Stp)(p d:D):Stp:={x with pr:=x.pr.at p d}
theorem G6g(x:Int)(pr:PrS)(se:A0l)(S:WS)(p d:D):A1r x (pr.at p d) se S=(A1r x pr se S).at p d:=by
 unfold A1r
 simp only[apply_ite (fun z=>Stp.at z p d)]
 rfl
theorem H0w(x:Int)(pr:PrS)(S:WS)(p d:D):A1e x (pr.at p d) S=((A1e x pr S).1,(A1e x pr S).2.1.at p d,(A1e x pr S).2.2):=by
 unfold A1e
 simp only[apply_ite (fun z:Bool × PrS × WS=>(z.1,z.2.1.at p d,z.2.2))]
 rfl
theorem H2i(x:Int)(pr:PrS)(se:A0l)(S:WS)(p d:D):A2d x (pr.at p d) se S=((A2d x pr se S).1.at p d,(A2d x pr se S).2):=by
 unfold A2d
 simp only[apply_ite (fun z:PrS × WS=>(z.1.at p d,z.2))]
 rfl
theorem G2d(x:Int)(pr:PrS)(se:A0l)(S:WS)(p d:D):A0s x (pr.at p d) se S=(A0s x pr se S).at p d:=by
 unfold A0s
 rw[H2i]
 simp only[apply_ite (fun z=>Stp.at z p d)]
 have e:(if(pr.at p d).done=0 then {pr.at p d with word:=S.word x,st:=A0i (S.word x)} else pr.at p d)=(if pr.done=0 then {pr with word:=S.word x,st:=A0i (S.word x)} else pr).at p d:=by
  rw[apply_ite (fun z=>PrS.at z p d)];rfl
 rw[e]
 rfl
theorem G7x(x:Int)(pr:PrS)(se:A0l)(S:WS)(p d:D):A1t x (pr.at p d) se S=(A1t x pr se S).at p d:=by
 unfold A1t
 simp only[apply_ite (fun z=>Stp.at z p d)]
 rfl
theorem G9d(pr:PrS)(se:A0l)(S:WS)(p d:D):A1q (pr.at p d) se S=(A1q pr se S).at p d:=by
 unfold A1q
 simp only[apply_ite (fun z=>Stp.at z p d)]
 rfl
theorem H4v(pr:PrS)(o:Option A0a)(ss:A0k)(po:A0e)(S:WS)(p d:D):A1v (pr.at p d) o ss po S=A1v pr o ss po S:=rfl
theorem F2e(pr:PrS)(S:WS)(c:Int)(p d:D):codeF (pr.at p d) S c=codeF pr S c:=rfl
structure StA where
 r:Option Rep
 pr:PrS
 o:Option A0a
 se:A0l
 ss:A0k
 po:A0e
 S:WS
def Stp.on(x:Stp)(o:Option A0a)(ss:A0k)(po:A0e):StA:=⟨x.r,x.pr,o,x.se,ss,po,x.S⟩
def B1d(x:Int)(pr:PrS)(se:A0l)(T:Tr):StA:=
 if T.b then⟨none,{pr with n:=T.n},T.o,se,T.ss,T.po,T.S⟩
 else if(A1e x {pr with n:=T.n} T.S).1 then⟨none,(A1e x {pr with n:=T.n} T.S).2.1,T.o,se,T.ss,T.po,(A1e x {pr with n:=T.n} T.S).2.2⟩
 else⟨some (codeF pr (A1e x {pr with n:=T.n} T.S).2.2 0),(A1e x {pr with n:=T.n} T.S).2.1,T.o,se,T.ss,T.po,(A1e x {pr with n:=T.n} T.S).2.2⟩
def A9a(x:Int)(pr:PrS)(o:Option A0a)(se:A0l)(ss:A0k)(po:A0e)(S:WS):StA:=
 if pr.pc<4 then(A1r x pr se S).on o ss po else B1d x pr se (A1v pr o ss po S)
def A2k(pr:PrS)(o:Option A0a)(se:A0l)(ss:A0k)(po:A0e)(S:WS):StA:=
 if pr.a.kind=1 then A9a (A0f S.c se.part pr.a.cell) pr o se ss po S
 else if pr.a.kind=2 then(A0s (A0f S.c se.part pr.a.cell) pr se S).on o ss po
 else if pr.a.kind=3 then(A1t (A0f S.c se.part pr.a.cell) pr se S).on o ss po
 else if pr.a.kind=4 then(A1q pr se S).on o ss po
 else⟨some (codeF pr S 6),pr,o,se,ss,po,S⟩
structure A4s(pr:PrS)(o:Option A0a)(se:A0l)(S:WS):Prop where
 word:pr.word<18446744073709551616
 st:pr.st.wf
 tm:pr.a.tm.wf
 at_:In pr.at_
 done:0≤pr.done∧pr.done≤3
 tries:0≤pr.tries∧pr.tries≤1000
 pc:0≤pr.pc∧pr.pc≤8
 n:0≤pr.n∧pr.n≤100
 A3x:pr.A3x.length≤100
 looks:(pr.looks.length:Int)≤pr.pc
 cell:pr.pc≠0→pr.a.kind=1∨pr.a.kind=2→0≤A0f S.c se.part pr.a.cell
 r0:pr.r0.k=1→(A6q se pr.a.cell).n<S.c.c5
 r1:pr.r1.D7m=true→(A6q se pr.a.cell).gen≤S.c.c6
 o:∀P,o=some P→P.ok
structure B8r(se:A0l)(c:Cf):Prop where
 ids:(se.ids.length:Int)=c.c1
 A4h:(se.A4h.length:Int)=c.c1
 A8f:(se.A8f.length:Int)=c.c1
 cur:∀x ∈ se.A8f,(0≤x.gen∧x.gen≤c.c6+1)∧0≤x.n∧x.n≤c.c5
theorem B8r.at_{se:A0l}{c:Cf}(h:B8r se c)(i:Int)(hc:c.ok):(0≤(A6q se i).gen∧(A6q se i).gen≤c.c6+1)∧0≤(A6q se i).n∧(A6q se i).n≤c.c5:=by
 have h1:=A9p hc
 have h2:=C3z hc
 unfold A6q
 rw[aF]
 rcases bT i.toNat se.A8f.length with hi|hi
 ·rw[aG hi];exact h.cur _ (aP hi)
 ·rw[aO hi];dsimp only[Option.getD_none];omega
structure InB(L:List D)(s z l w m k:Nat)(se:A0l)(ss:A0k)(po:A0e)(S:WS):Prop where
 W:InW L w m k S
 s:L.getD s D.nil=.agg se.ds
 z:L.getD z D.nil=.agg ss.ds
 l:L.getD l D.nil=.agg po.ds
theorem InA.B{L:List D}{a s z l w m k:Nat}{pr:PrS}{se:A0l}{ss:A0k}{po:A0e}{S:WS}(A:InA L a s z l w m k pr se ss po S):InB L s z l w m k se ss po S:=⟨A.H.W,A.H.s,A.z,A.l⟩
theorem C1i(r:Option Rep)(L:List D):(A0b (some (A6m r L)) 15 fun r4=>some [(r4.getD 0 D.nil),(r4.getD 1 D.nil),(r4.getD 2 D.nil),(r4.getD 3 D.nil),(r4.getD 4 D.nil),(r4.getD 5 D.nil),(r4.getD 6 D.nil),(r4.getD 7 D.nil),(r4.getD 8 D.nil),(r4.getD 9 D.nil),(r4.getD 10 D.nil),(r4.getD 11 D.nil),(r4.getD 12 D.nil),(r4.getD 13 D.nil),(r4.getD 14 D.nil)])=some (A6m r L):=by
 cases r<;>rfl
theorem G5o{pr:PrS}{o:Option A0a}{ss:A0k}{po:A0e}{S:WS}(h:S.ok)(ho:∀P,o=some P→P.ok):(A1v pr o ss po S).S.ok∧(A1v pr o ss po S).S.c=S.c∧((A1v pr o ss po S).b=false→(A1v pr o ss po S).S=S):=by
 have key:∀(n:Int) (o:Option A0a) (ss:A0k) (po:A0e),(∀P,o=some P→P.ok)→(A2e n o ss po S).S.ok∧(A2e n o ss po S).S.c=S.c∧((A2e n o ss po S).b=false→(A2e n o ss po S).S=S):=by
  intro n o ss po ho
  unfold A2e
  cases o with
  |none=>exact⟨h,rfl,fun _=>rfl⟩
  |some P=>
   dsimp only
   split
   ·exact⟨h,rfl,fun _=>rfl⟩
   ·have kk:=D1w h (ho P rfl)
    exact⟨kk.s,kk.c,fun hh=>nomatch hh⟩
 unfold A1v
 split
 ·split
  ·exact key _ _ _ _ fun P e=>by cases e;exact A0a.C1c _
  ·exact key _ _ _ _ fun P e=>by cases e;exact A0a.C1c _
 ·exact key _ _ _ _ ho
theorem H1h{S:WS}(h:S.ok)(x:Int)(pr:PrS):(A1e x pr S).2.2.ok:=by
 obtain⟨o1,_⟩:=S.B1h h x pr.word (A2z pr.st).2
 unfold A1e
 split
 ·exact h
 split
 ·exact h
 split
 ·exact h
 split
 ·exact h
 split
 ·exact h
 split
 ·exact WS.C3m o1 _
 ·exact h
theorem H4a(x:Int)(pr:PrS)(S:WS):(A1e x pr S).2.1.a=pr.a:=by
 unfold A1e
 split
 ·rfl
 split
 ·rfl
 split
 ·rfl
 split
 ·rfl
 split
 ·rfl
 split<;>rfl
section
variable{L:List D}{a s z l w m k q:Nat}{ptr:D}{pr:PrS}{se:A0l}{ss:A0k}{po:A0e}{S:WS}{o:Option A0a}
 (A:InA L a s z l w m k (pr.at ptr (A4x z l)) se ss po S) (hp:PP L q ptr o) (h:S.ok) (hk:A4s pr o se S) (hse:B8r se S.c) (hl:S.log.length≤1000000000) (ht:B0z ss po)
def H0m(L L':List D)(a q s z l w m k:Nat)(q':Nat)(ptr':D)(R:StA):Prop:=
 InB L' s z l w m k R.se R.ss R.po R.S∧(R.r=none→L'.getD a D.nil=.agg (R.pr.at ptr' (A4x z l)).ds∧PP L' q' ptr' R.o)∧FrA L L' a q s z l w m∧(q'=q∨L.length≤q')
include A hp
theorem E2m{L1:List D}{X:Stp}(H1:Hs L1 a s w m k (X.at ptr (A4x z l)).pr (X.at ptr (A4x z l)).se (X.at ptr (A4x z l)).S)(G:FrS L L1 a s w m):H0m L L1 a q s z l w m k q ptr (X.on o ss po):=by
 have A1:=A.step H1 G
 refine⟨A1.B,fun _=>⟨H1.a,hp.ext fun P hP=>?_⟩,.ofS G,.inl rfl⟩
 subst hP
 obtain⟨_,e2⟩:=hp
 obtain⟨d1,d2,d3⟩:=A.H.W.far e2 (by rw[A0a.len];decide) (by rw[A0a.len];decide) (by rw[A0a.len];decide)
 have d4:=A3m e2 A.H.a (by rw[A0a.len,PrS.len];decide)
 have d5:=A3m e2 A.H.s (by rw[A0a.len,A0l.len];decide)
 exact G.2 q (A2p e2) (by simp only[d1,d2,d4,d5,QC,not_false_iff])
include h hk hse hl ht
theorem G2k(hkd:pr.a.kind=1):∃L' q' ptr',FX 86 [.int (a:Nat),.int (w:Nat),.int (s:Nat),.agg L]=some (A6m (A9a (A0f S.c se.part pr.a.cell) pr o se ss po S).r L')∧H0m L L' a q s z l w m k q' ptr' (A9a (A0f S.c se.part pr.a.cell) pr o se ss po S):=by
 have n0:=E3n h se.part pr.a.cell
 have hx:=E5x h.c se.part pr.a.cell
 have hcb:0≤A0f S.c se.part pr.a.cell→0≤pr.a.cell∧pr.a.cell<S.c.c1:=fun hh=>(B1c S.c hh).2.1
 have hcell:=hk.cell
 have i1:=hse.ids
 have i2:=hse.A4h
 rw[C5h]
 simp only[HH,A.H.a,A.H.s,A.H.W.w,A0d.all,PrS.A1p,PrS.A7f,A0l.A1f]
 have e0:(pr.at ptr (A4x z l)).a.cell=pr.a.cell:=rfl
 have e1:(pr.at ptr (A4x z l)).pc=pr.pc:=rfl
 rw[e0,e1,n0]
 simp only[HH]
 generalize hxx:A0f S.c se.part pr.a.cell=x at*
 unfold A9a
 by_cases c0:pr.pc<4
 ·rw[Q3 c0]
  simp only[c0,Q6,Q5]
  have hb:=G5n A.H h (In.lit (by have:=hk.pc;rw[e1];omega)) hl x hx hk.st hk.tm (fun e3=>by
   rw[e1]at e3
   have h1:=hcell (by omega) (.inl hkd)
   have h2:=hcb (by omega)
   rw[e0]
   omega)
  rw[G6g]at hb
  obtain⟨L1,n1,H1,G1⟩:=hb
  have hr:((A1r x pr se S).at ptr (A4x z l)).r=(A1r x pr se S).r:=rfl
  rw[hr]at n1
  rw[n1,C1i]
  exact⟨L1,q,ptr,rfl,E2m A hp H1 G1⟩
 ·rw[Q0 c0]
  simp only[c0,Q7,a8,Q4]
  have htr:=H4o (pr:=pr.at ptr (A4x z l)) A h hp rfl hk.o hl (by have:=hk.n;exact⟨this.1,Int.le_trans this.2 (by decide)⟩) ht
  rw[H4v]at htr
  obtain⟨L1,q1,p1,n1,A1,P1,F1,hq1⟩:=htr
  have hT:(A1v pr o ss po S).S.ok∧(A1v pr o ss po S).S.c=S.c∧((A1v pr o ss po S).b=false→(A1v pr o ss po S).S=S):=G5o h hk.o
  generalize A1v pr o ss po S=T at*
  obtain⟨t1,t2,t3⟩:=hT
  rw[n1]
  simp only[HH]
  unfold B1d
  by_cases c1:T.b=true
  ·rw[Q3 c1]
   simp only[c1,Q5]
   exact⟨L1,q1,p1,rfl,A1.B,fun _=>⟨A1.H.a,P1⟩,F1,hq1⟩
  ·rw[Q0 c1]
   have c1':T.b=false:=by simpa using c1
   have t4:=t3 c1'
   have hre:=H2l (pr:=PrS.at {pr with n:=T.n} p1 (A4x z l)) A1.H t1 (by rw[t4];exact hl) x hx hk.st hk.word hk.tries
   rw[H0w]at hre
   obtain⟨L2,n2,H2,G2⟩:=hre
   have hq2:PP L2 q1 p1 T.o:=by
    refine P1.ext fun P hP=>?_
    rw[hP]at P1
    obtain⟨_,e2⟩:=P1
    obtain⟨d1,d2,d3⟩:=A1.H.W.far e2 (by rw[A0a.len];decide) (by rw[A0a.len];decide) (by rw[A0a.len];decide)
    have d4:=A3m e2 A1.H.a (by rw[A0a.len,PrS.len];decide)
    have d5:=A3m e2 A1.H.s (by rw[A0a.len,A0l.len];decide)
    exact G2.2 q1 (A2p e2) (by simp only[d1,d2,d4,d5,QC,not_false_iff])
   have A2:=A1.step H2 G2
   have F2:FrA L L2 a q s z l w m:=F1.trans (FrA.ofS G2)
   have cR:=F2e (A1e x {pr with n:=T.n} T.S).2.1 (A1e x {pr with n:=T.n} T.S).2.2 0 p1 (A4x z l)
   have okR:(A1e x {pr with n:=T.n} T.S).2.2.ok:=H1h t1 _ _
   have aR:(A1e x {pr with n:=T.n} T.S).2.1.a=pr.a:=H4a _ _ _
   simp only[c1',a8,Q4,n2,HH]
   generalize A1e x {pr with n:=T.n} T.S=R at*
   by_cases c2:R.1=true
   ·rw[Q3 c2]
    simp only[c2,Q5]
    exact⟨L2,q1,p1,rfl,A2.B,fun _=>⟨H2.a,hq2⟩,F2,hq1⟩
   ·rw[Q0 c2]
    have c2':R.1=false:=by simpa using c2
    have hcd:=B4v H2 okR 0
    have eC:codeF pr R.2.2 0=codeF R.2.1 R.2.2 0:=by unfold codeF;rw[aR]
    simp only[c2',a8,Q4,hcd,C3t,cR,eC]
    exact⟨L2,q1,p1,rfl,A2.B,fun hh=>B1b hh,F2,hq1⟩
theorem G6s:∃L' q' ptr',FX 77 [.int (a:Nat),.int (w:Nat),.int (s:Nat),.agg L]=some (A6m (A2k pr o se ss po S).r L')∧H0m L L' a q s z l w m k q' ptr' (A2k pr o se ss po S):=by
 have hcb:0≤A0f S.c se.part pr.a.cell→0≤pr.a.cell∧pr.a.cell<S.c.c1:=fun hh=>(B1c S.c hh).2.1
 have hcell:=hk.cell
 have i1:=hse.ids
 have i2:=hse.A4h
 have i3:=hse.A8f
 have e0:(pr.at ptr (A4x z l)).a=pr.a:=rfl
 have e1:(pr.at ptr (A4x z l)).pc=pr.pc:=rfl
 have hpc:In ((pr.at ptr (A4x z l)).pc+1):=In.lit (by have:=hk.pc;rw[e1];omega)
 rw[C8b]
 simp only[HH,A.H.a,PrS.A1f]
 rw[e0]
 unfold A2k
 by_cases c1:pr.a.kind=1
 ·have j1:(pr.a.kind == 1)=true:=QB.2 c1
  rw[Q3 c1]
  obtain⟨L1,q1,p1,n1,d1⟩:=G2k A hp h hk hse hl ht c1
  simp only[j1,Q5,n1,C1i]
  exact⟨L1,q1,p1,rfl,d1⟩
 have j1:(pr.a.kind == 1)=false:=Q8.2 c1
 rw[Q0 c1]
 simp only[j1,a8,Q4]
 by_cases c2:pr.a.kind=2
 ·have j2:(pr.a.kind == 2)=true:=QB.2 c2
  rw[Q3 c2]
  have hb:=G0f A.H h hpc hl hk.st hk.word hk.at_ hk.done (fun e3=>by
   have h1:=hcell e3 (.inr c2)
   have h2:=hcb h1
   rw[e0]
   omega)
  rw[e0,G2d]at hb
  obtain⟨L1,n1,H1,G1⟩:=hb
  have hr:((A0s (A0f S.c se.part pr.a.cell) pr se S).at ptr (A4x z l)).r=(A0s (A0f S.c se.part pr.a.cell) pr se S).r:=rfl
  rw[hr]at n1
  simp only[j2,Q5,n1,C1i]
  exact⟨L1,q,ptr,rfl,E2m A hp H1 G1⟩
 have j2:(pr.a.kind == 2)=false:=Q8.2 c2
 rw[Q0 c2]
 simp only[j2,a8,Q4]
 by_cases c3:pr.a.kind=3
 ·have j3:(pr.a.kind == 3)=true:=QB.2 c3
  rw[Q3 c3]
  have hcu:=hse.at_ pr.a.cell h.c
  have hf:=A9p h.c
  have hg:=C3z h.c
  have hb:=H1i A.H h hpc (fun e3=>by rw[e0];rw[e0]at e3;have:=hcb e3;omega) (In.lit (by rw[e0];omega)) (In.lit (by rw[e0];omega))
  rw[e0,G7x]at hb
  obtain⟨L1,n1,H1,G1⟩:=hb
  have hr:((A1t (A0f S.c se.part pr.a.cell) pr se S).at ptr (A4x z l)).r=(A1t (A0f S.c se.part pr.a.cell) pr se S).r:=rfl
  rw[hr]at n1
  simp only[j3,Q5,n1,C1i]
  exact⟨L1,q,ptr,rfl,E2m A hp H1 G1⟩
 have j3:(pr.a.kind == 3)=false:=Q8.2 c3
 rw[Q0 c3]
 simp only[j3,a8,Q4]
 by_cases c4:pr.a.kind=4
 ·have j4:(pr.a.kind == 4)=true:=QB.2 c4
  rw[Q3 c4]
  have hlk:=hk.looks
  have hpc0:=hk.pc
  have hb:=H0u A.H h hpc (by show pr.looks.length≤1000;omega) hpc0.1
  rw[G9d]at hb
  obtain⟨L1,n1,H1,W1,s1,G1⟩:=hb
  have hr:((A1q pr se S).at ptr (A4x z l)).r=(A1q pr se S).r:=rfl
  rw[hr]at n1 H1
  simp only[j4,Q5,n1,C1i]
  have vS:(A1q pr se S).S=S∧(A1q pr se S).se=se:=by
   unfold A1q
   split
   ·exact⟨rfl,rfl⟩
   ·split<;>exact⟨rfl,rfl⟩
  obtain⟨h1,h2,h3,h4,h5,h6⟩:=A.fz
  obtain⟨g1,g2,g3,g4,g5⟩:=A.fl
  refine⟨L1,q,ptr,rfl,?_,fun hh=>?_,.ofS G1,.inl rfl⟩
  ·show InB L1 s z l w m k (A1q pr se S).se ss po (A1q pr se S).S
   rw[vS.1,vS.2]
   exact⟨W1,s1,G1.get A.z (by simp only[h1,h2,h3,h4,QC,not_false_iff]),G1.get A.l (by simp only[g1,g2,g3,g4,QC,not_false_iff])⟩
  ·exact(E2m A hp (X:=A1q pr se S) (H1 hh) G1).2.1 hh
 ·have j4:(pr.a.kind == 4)=false:=Q8.2 c4
  rw[Q0 c4]
  have hcd:=B4v A.H h 6
  rw[F2e]at hcd
  simp only[j4,a8,Q4,hcd,C3t]
  exact⟨L,q,ptr,rfl,A.B,fun hh=>B1b hh,Fr.refl _ _,.inl rfl⟩
end
end
end Go.Proofs.YtckanieeocdpbaaGreat.P
