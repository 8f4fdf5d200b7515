import Derived.Test.YtglhnofjggpdjaaGreatEngX
import Derived.Laws.BitsAllLaws
import Derived.Test.YtglhnofjggpdjaaGreatAllE
namespace Go.Proofs.YtglhnofjggpdjaaGreat.Dat
open Go.Proofs.YtglhnofjggpdjaaGreat.Eng
set_option linter.unusedVariables false
set_option linter.unusedSimpArgs false
theorem wrap_small(x:Int)(h1:-9223372036854775808≤x)(h2:x≤9223372036854775807):IntKind.i64.wrap x=x:=by
 simp[IntKind.wrap,IntKind.bits,IntKind.signed];omega
theorem A1a(x:Int)(h1:-9223372036854775808≤x)(h2:x≤9223372036854775807):IntKind.i64.wrap x=x:=by
 simp[IntKind.wrap,IntKind.bits,IntKind.signed];omega
end Go.Proofs.YtglhnofjggpdjaaGreat.Dat
namespace Go.Proofs.YtglhnofjggpdjaaGreat
set_option linter.unusedVariables false
set_option linter.unusedSimpArgs false
def B7v(ws:List Nat):Prop:=(∀w ∈ ws,1≤w∧w≤32)∧ws.sum≤64
def A3r(ws:List Nat)(i:Nat):Nat:=(ws.take i).sum
def D8v(ws:List Nat)(x i:Nat):Nat:=x/2 ^ A3r ws i%2 ^ ws.getD i 0
def A9x:List Nat→List Nat→Nat
 |w::ws,v::vs=>v+2 ^ w*A9x ws vs
 |_,_=>0
def B5t:List Nat→Nat→List Nat
 |[],_=>[]
 |w::ws,x=>x%2 ^ w::B5t ws (x/2 ^ w)
def Fits:List Nat→List Nat→Prop
 |[],[]=>True
 |w::ws,v::vs=>v<2 ^ w∧Fits ws vs
 |_,_=>False
theorem C6y:∀(ws:List Nat) (x:Nat),(B5t ws x).length=ws.length
 |[],_=>rfl
 |w::ws,x=>by simp[B5t,C6y ws]
theorem E3q:∀{ws vs:List Nat},Fits ws vs→A9x ws vs<2 ^ ws.sum
 |[],[],_=>by simp[A9x]
 |w::ws,v::vs,h=>by
  simp only[A9x,List.sum_cons,Nat.pow_add]
  have h1:=E3q h.2
  have h2:=h.1
  calc v+2 ^ w*A9x ws vs<2 ^ w+2 ^ w*A9x ws vs:=by omega
   _=2 ^ w*(A9x ws vs+1):=by rw[Nat.mul_add,Nat.mul_one,Nat.add_comm]
   _≤2 ^ w*2 ^ ws.sum:=Nat.mul_le_mul_left _ h1
theorem D6h:∀{ws vs:List Nat},Fits ws vs→B5t ws (A9x ws vs)=vs
 |[],[],_=>rfl
 |w::ws,v::vs,h=>by
  have h1:=D6h h.2
  have h2:=h.1
  simp only[A9x,B5t]
  rw[Nat.add_mul_mod_self_left,Nat.mod_eq_of_lt h2,Nat.add_mul_div_left _ _ (Nat.two_pow_pos w),Nat.div_eq_of_lt h2,Nat.zero_add,h1]
theorem E6q(w:Nat)(ws:List Nat)(i:Nat):A3r (w::ws) (i+1)=w+A3r ws i:=by simp[A3r]
theorem C5e(ws:List Nat)(i:Nat)(h:i<ws.length):A3r ws (i+1)=A3r ws i+ws[i]:=by
 unfold A3r
 rw[List.take_succ_eq_append_getElem h,List.sum_append]
 simp
theorem F6l(ws:List Nat)(i:Nat):A3r ws i≤ws.sum:=by
 unfold A3r
 have h:ws.sum=(ws.take i).sum+(ws.drop i).sum:=by rw[←List.sum_append,List.take_append_drop]
 omega
theorem D6y:∀(ws:List Nat) (x i:Nat) (h:i<ws.length),D8v ws x i=(B5t ws x)[i]'(by rw[C6y];exact h)
 |w::ws,x,0,_=>by simp[D8v,B5t,A3r]
 |w::ws,x,i+1,h=>by
  have hi:i<ws.length:=by simpa using h
  have:=D6y ws (x/2 ^ w) i hi
  simp only[B5t,List.getElem_cons_succ]
  rw[←this]
  unfold D8v
  rw[E6q,Nat.pow_add,Nat.div_div_eq_div_mul]
  rfl
def A8l(ws vs:List Nat)(k:Nat):Nat:=A9x (ws.take k) (vs.take k)
theorem G4j{ws vs:List Nat}(k:Nat)(h:Fits (ws.take k) (vs.take k)):A8l ws vs k<2 ^ A3r ws k:=E3q h
theorem D6u:∀(ws vs:List Nat) (k:Nat) (hw:k<ws.length) (hv:k<vs.length),A8l ws vs (k+1)=A8l ws vs k+vs[k]*2 ^ A3r ws k
 |w::ws,v::vs,0,_,_=>by simp[A8l,A9x,A3r]
 |w::ws,v::vs,k+1,hw,hv=>by
  have ih:=D6u ws vs k (by simpa using hw) (by simpa using hv)
  unfold A8l at ih⊢
  simp only[List.take_succ_cons,A9x,List.getElem_cons_succ]at ih⊢
  rw[ih,E6q,Nat.pow_add,Nat.mul_add,←Nat.add_assoc]
  congr 1
  rw[←Nat.mul_assoc,←Nat.mul_assoc,Nat.mul_comm (2 ^ w)]
theorem G1b{ws vs:List Nat}(h:vs.length=ws.length):A8l ws vs ws.length=A9x ws vs:=by
 unfold A8l
 rw[List.take_length,←h,List.take_length]
theorem H2g(a v k:Nat)(h:a<2 ^ k):a ||| v*2 ^ k=a+v*2 ^ k:=by
 rw[Nat.or_comm,nat_join k _ _ (Nat.mul_mod_left _ _) h,Nat.add_comm]
theorem E2b(n m:Nat)(h:n≤m):2 ^ n≤2 ^ m:=Nat.pow_le_pow_right (by decide) h
theorem C8k{ws:List Nat}(h:B7v ws)(i:Nat)(hi:i<ws.length):1≤ws[i]∧ws[i]≤32∧A3r ws i+ws[i]≤64:=by
 have h1:=h.1 _ (List.getElem_mem hi)
 have h2:=C5e ws i hi
 have h3:=F6l ws (i+1)
 have h4:=h.2
 omega
theorem C9p{ws:List Nat}(h:B7v ws)(i:Nat):A3r ws i≤64:=Nat.le_trans (F6l ws i) h.2
theorem F5l{ws:List Nat}(h:B7v ws):ws.length≤64:=by
 have:∀l:List Nat,(∀w ∈ l,1≤w∧w≤32)→l.length≤l.sum:=by
  intro l
  induction l with
  |nil=>intro _;simp
  |cons a r ih=>
   intro hl
   have h1:=ih (fun w hw=>hl w (List.mem_cons_of_mem _ hw))
   have h2:=hl a List.mem_cons_self
   simp only[List.length_cons,List.sum_cons]
   omega
 exact Nat.le_trans (this ws h.1) h.2
end Go.Proofs.YtglhnofjggpdjaaGreat
namespace Go.Proofs.YtglhnofjggpdjaaGreat
open Go.Proofs.YtglhnofjggpdjaaGreat.Eng Go.Proofs.YtglhnofjggpdjaaGreat.Dat
set_option linter.unusedVariables false
set_option linter.unusedSimpArgs false
set_option linter.unusedSectionVars false
def A1f:List Nat→List Int→Nat→Option Nat
 |w::ws,v::vs,k=>if v<0∨((2 ^ w-1:Nat):Int)<v then some k else A1f ws vs (k+1)
 |_,_,_=>none
def A6m(ws:List Nat)(vs:List Int):Int × Int × Option Int:=
 if vs.length≠ws.length then(0,1,none)
 else match A1f ws vs 0 with
  |some i=>(0,5,some (i:Int))
  |none=>(A9x ws (vs.map Int.toNat),0,none)
theorem D0y:∀(ws:List Nat) (vs:List Int) (k j:Nat) (hw:k<ws.length) (hv:k<vs.length),
  A1f (ws.drop k) (vs.drop k) j=if vs[k]<0∨((2 ^ ws[k]-1:Nat):Int)<vs[k]then some j else A1f (ws.drop (k+1)) (vs.drop (k+1)) (j+1):=by
 intro ws vs k j hw hv
 rw[List.drop_eq_getElem_cons hw,List.drop_eq_getElem_cons hv]
 rfl
theorem F3e(ws:List Nat)(vs:List Int)(j:Nat):A1f (ws.drop ws.length) vs j=none:=by
 rw[List.drop_length]
 rfl
theorem H1q(v k:Nat)(hk:k≤64)(h:v*2 ^ k<18446744073709551616):IntKind.u64.wrap ((v:Int)*2 ^ min k 64)=((v*2 ^ k:Nat):Int):=by
 rw[Nat.min_eq_left hk]
 have e:((v:Int)*2 ^ k)=((v*2 ^ k:Nat):Int):=by simp
 rw[e,IntWalk.u64_in _ (by omega)]
theorem or_val(a v k:Nat)(hk:k≤64)(ha:a<2 ^ k)(h:v*2 ^ k<18446744073709551616)(ha2:a<18446744073709551616):
  bits BinOp.or IntKind.u64 (a:Int) (IntKind.u64.wrap ((v:Int)*2 ^ min k 64))=((a+v*2 ^ k:Nat):Int):=by
 rw[H1q v k hk h,u64_or_nat _ _ ha2 h,H2g a v k ha]
theorem H1o{ws:List Nat}(hg:B7v ws)(k v:Nat)(hk:k<ws.length)(hv:v≤2 ^ ws[k]-1):v*2 ^ A3r ws k<18446744073709551616:=by
 have h1:=C8k hg k hk
 have h2:0<2 ^ ws[k]:=Nat.two_pow_pos _
 have h3:v*2 ^ A3r ws k<2 ^ ws[k]*2 ^ A3r ws k:=Nat.mul_lt_mul_of_pos_right (by omega) (Nat.two_pow_pos _)
 rw[←Nat.pow_add]at h3
 have h4:2 ^ (ws[k]+A3r ws k)≤2 ^ 64:=E2b _ _ (by omega)
 omega
theorem E6m:∀{ws:List Nat} {vs:List Nat} (k:Nat) (hw:k<ws.length) (hv:k<vs.length),Fits (ws.take k) (vs.take k)→vs[k]<2 ^ ws[k]→Fits (ws.take (k+1)) (vs.take (k+1))
 |w::ws,v::vs,0,_,_,_,h=>by simpa[Fits]using h
 |w::ws,v::vs,k+1,hw,hv,hf,h=>by
  simp only[List.take_succ_cons,Fits]at hf⊢
  exact⟨hf.1,E6m k (by simpa using hw) (by simpa using hv) hf.2 (by simpa using h)⟩
def C1v(ws:List Nat)(vs:List Int)(k:Nat):Prop:=
 A1f ws vs 0=A1f (ws.drop k) (vs.drop k) k∧Fits (ws.take k) ((vs.map Int.toNat).take k)
theorem F1f(ws:List Nat)(vs:List Int):C1v ws vs 0:=⟨by simp,trivial⟩
theorem E9x{ws:List Nat}{vs:List Int}{k:Nat}(h:C1v ws vs k)(hw:k<ws.length)(hv:k<vs.length)(h0:0≤vs[k])(h1:vs[k]≤((2 ^ ws[k]-1:Nat):Int)):C1v ws vs (k+1):=by
 refine⟨?_,?_⟩
 ·rw[h.1,D0y ws vs k k hw hv,if_neg (by omega)]
 ·refine E6m k hw (by simpa using hv) h.2 ?_
  have h2:0<2 ^ ws[k]:=Nat.two_pow_pos _
  rw[List.getElem_map]
  omega
theorem D7d{ws:List Nat}{vs:List Int}{k:Nat}(hl:vs.length=ws.length)(h:C1v ws vs k)(hw:k<ws.length)(hv:k<vs.length)(hb:vs[k]<0∨((2 ^ ws[k]-1:Nat):Int)<vs[k]):A6m ws vs=(0,5,some (k:Int)):=by
 unfold A6m
 rw[if_neg (by omega),h.1,D0y ws vs k k hw hv,if_pos hb]
theorem F5x{ws:List Nat}{vs:List Int}{k:Nat}(hl:vs.length=ws.length)(h:C1v ws vs k)(hk:k=ws.length):A6m ws vs=((A8l ws (vs.map Int.toNat) k:Int),0,none):=by
 unfold A6m
 rw[if_neg (by omega),h.1]
 subst hk
 rw[F3e,G1b (by simpa using hl)]
def F8i(ws:List Nat)(i:Int):Nat:=if 0≤i∧i<ws.length then 2 ^ ws.getD i.toNat 0-1 else 0
theorem G4z(z:Nat)(hz:z≤32):IntKind.u64.wrap (IntKind.u64.wrap ((2:Int) ^ z)-1)=((2 ^ z-1:Nat):Int):=by
 have h1:2 ^ z≤2 ^ 32:=E2b z 32 hz
 have h2:0<2 ^ z:=Nat.two_pow_pos z
 have e:((2:Int) ^ z)=((2 ^ z:Nat):Int):=by simp
 rw[e,IntWalk.u64_in ((2 ^ z:Nat):Int) (by omega),IntWalk.u64_in _ (by omega)]
 omega
theorem F2y{ws:List Nat}{i:Nat}(hi:i<ws.length):F8i ws (i:Int)=2 ^ ws.getD i 0-1:=by
 unfold F8i
 rw[if_pos (by omega),Int.toNat_natCast]
theorem H1j{ws:List Nat}(hg:B7v ws)(i:Nat):ws.getD i 0≤32:=by
 rw[List.getD_eq_getElem?_getD]
 rcases Nat.lt_or_ge i ws.length with h|h
 ·rw[List.getElem?_eq_getElem h]
  exact(C8k hg i h).2.1
 ·rw[List.getElem?_eq_none h]
  exact Nat.zero_le _
theorem H1u(x i:Nat)(ws:List Nat)(hx:x<18446744073709551616)(hi:i<ws.length)(hg:B7v ws):
  IntKind.i64.wrap (bits BinOp.and IntKind.u64 ((x:Int)/2 ^ min (A3r ws i) 64) (F8i ws (i:Int):Int))=(D8v ws x i:Int):=by
 have h1:=C9p hg i
 have h2:=H1j hg i
 have h3:2 ^ ws.getD i 0≤2 ^ 32:=E2b _ 32 h2
 have h4:0<2 ^ ws.getD i 0:=Nat.two_pow_pos _
 rw[Nat.min_eq_left h1,F2y hi]
 have e:((x:Int)/2 ^ A3r ws i)=((x/2 ^ A3r ws i:Nat):Int):=by simp
 have hd:x/2 ^ A3r ws i≤x:=Nat.div_le_self _ _
 rw[e,u64_and_nat _ _ (by omega) (by omega),Nat.and_two_pow_sub_one_eq_mod]
 have h5:x/2 ^ A3r ws i%2 ^ ws.getD i 0<2 ^ ws.getD i 0:=Nat.mod_lt _ h4
 rw[IntWalk.i64_in _ (by omega)]
 rfl
namespace FDat
def wsD(ws:List Nat):D:=.agg (ws.map fun(w:Nat)=>D.int (w:Int))
def vsD(vs:List Int):D:=.agg (vs.map D.int)
def code(c:Int):D:=.iface 39 (.int c)
def D0e(i:Int)(c:Int):D:=.iface 137 (.agg [.int i,code c])
theorem C0w(x y:D)(h:y.isNil=false):FX 34 [x,y]=some [.iface 137 (.agg [x,y])]:=by
 rw[E3f];simp[h]
section
variable(ws:List Nat)(hg:B7v ws)
theorem B9p:(ws.map fun(w:Nat)=>D.int (w:Int)).length=ws.length:=by simp
theorem F2i{i:Nat}(h:i<ws.length):(ws.map fun(w:Nat)=>D.int (w:Int)).getD i D.nil=.int (ws[i]:Int):=by
 rw[List.getD_eq_getElem?_getD,List.getElem?_map,List.getElem?_eq_getElem h];rfl
include hg in
theorem small:ws.length≤64:=F5l hg
theorem E5m(i:Nat)(h:i≤1000):IntKind.i64.wrap ((i:Int)+1)=((i+1:Nat):Int):=by rw[A1a _ (by omega) (by omega)];omega
include hg in
theorem F4m(n:Nat)(hn:n≤ws.length):∀(k i:Nat),i+k=n→A8e (wsD ws) (.int n) [.int (A3r ws i),.int i]=some [.int (A3r ws n)]
 |0,i,h=>by
  have hi:i=n:=by omega
  subst hi
  have hlen:(((ws.map fun(w:Nat)=>D.int (w:Int)).drop ((0:Int)).toNat).take ((((i:Nat):Int)).toNat-((0:Int)).toNat)).length=i:=by simp;omega
  have hno:¬(i:Int)<((((((ws.map fun(w:Nat)=>D.int (w:Int)).drop ((0:Int)).toNat).take ((((i:Nat):Int)).toNat-((0:Int)).toNat))).length:Nat):Int):=by rw[hlen];omega
  rw[B4d]
  simp only[wsD,D.A0f,D.toInt_int,hno,decide_false,Bool.false_eq_true,if_false]
 |k+1,i,h=>by
  have hs:=small ws hg
  have hlen:(((ws.map fun(w:Nat)=>D.int (w:Int)).drop ((0:Int)).toNat).take ((((n:Nat):Int)).toNat-((0:Int)).toNat)).length=n:=by simp;omega
  have h1:(i:Int)<((((((ws.map fun(w:Nat)=>D.int (w:Int)).drop ((0:Int)).toNat).take ((((n:Nat):Int)).toNat-((0:Int)).toNat))).length:Nat):Int):=by rw[hlen];omega
  have h2:(i:Int)≥0:=by omega
  have hge:(((ws.map fun(w:Nat)=>D.int (w:Int)).drop ((0:Int)).toNat).take ((((n:Nat):Int)).toNat-((0:Int)).toNat)).getD i D.nil=.int (ws[i]'(by omega):Int):=by
   have:(((ws.map fun(w:Nat)=>D.int (w:Int)).drop ((0:Int)).toNat).take ((((n:Nat):Int)).toNat-((0:Int)).toNat)).getD i D.nil=(ws.map fun(w:Nat)=>D.int (w:Int)).getD i D.nil:=by
    simp only[List.getD_eq_getElem?_getD]
    rw[List.getElem?_take,if_pos (by simp;omega)]
    simp
   rw[this,F2i ws (by omega)]
  have hl:=C9p hg (i+1)
  have hsum:IntKind.i64.wrap ((A3r ws i:Int)+(ws[i]'(by omega):Int))=(A3r ws (i+1):Int):=by
   rw[C5e ws i (by omega)]at hl⊢
   rw[A1a _ (by omega) (by omega)];omega
  have ih:=F4m n hn k (i+1) (by omega)
  rw[B4d]
  simp only[wsD,D.A0f,D.toInt_int,h1,h2,decide_true,if_true,Int.toNat_natCast (n:=i),hsum,E5m i (by omega)]at hge⊢
  rw[hge]
  simp only[D.toInt_int,hsum]
  exact ih
include hg in
theorem G2s(i:Nat)(hi:i≤ws.length):FX 128 [wsD ws,.int i]=some [.int (A3r ws i)]:=by
 have h:=F4m ws hg i hi i 0 (by omega)
 have h1:(0:Int)≤(i:Int):=by omega
 have h2:(i:Int)≤((ws.map fun(w:Nat)=>D.int (w:Int)).length:Int):=by rw[B9p];omega
 rw[D3h]
 simp only[wsD,D.toInt_int,D.A0f,h1,h2,decide_true,if_true,Int.le_refl]
 exact h
theorem H0f(z:Nat)(hz:z≤32):arF .shl .u64 1 (z:Int)=IntKind.u64.wrap ((2:Int) ^ z):=by
 have:min z 64=z:=by omega
 simp[arF,IntKind.bits,this]
include hg in
theorem F7b(i:Nat)(hi:i<ws.length):FX 129 [wsD ws,.int i]=some [.int ((2 ^ ws[i]-1:Nat):Int)]:=by
 have h1:¬(i:Int)<0:=by omega
 have h2:¬(i:Int)≥((ws.map fun(w:Nat)=>D.int (w:Int)).length:Int):=by rw[B9p];omega
 have h3:(i:Int)≥0:=by omega
 have h4:(i:Int)<((ws.map fun(w:Nat)=>D.int (w:Int)).length:Int):=by rw[B9p];omega
 have h5:((ws[i]:Nat):Int)≥0:=by omega
 have hw:=(C8k hg i hi).2.1
 rw[D1o]
 simp only[wsD,D.toInt_int,D.A0f,h1,h2,h3,h4,decide_false,decide_true,Bool.false_eq_true,if_false,if_true,Int.toNat_natCast,F2i ws hi,h5]
 rw[H0f _ hw,G4z _ hw]
theorem H0c(x k:Nat)(hk:k≤64):arF .shr .u64 (x:Int) (k:Int)=((x/2 ^ k:Nat):Int):=by
 have h1:min k 64=k:=by omega
 simp only[arF,IntKind.bits,Int.toNat_natCast,h1]
 rw[Int.fdiv_eq_ediv_of_nonneg _ (by exact Int.le_of_lt (Int.pow_pos (by decide)))]
 simp
def A4x(x:Nat)(i:Int):Int:=if i<0∨(ws.length:Int)≤i then 0 else D8v ws x i.toNat
include hg in
theorem get_eq(x:Nat)(hx:x<18446744073709551616)(i:Int):FX 102 [wsD ws,.int x,.int i]=some [.int (A4x ws x i)]:=by
 rw[D4q]
 unfold A4x
 by_cases h1:i<0
 ·simp only[D.toInt_int,h1,decide_true,if_true,true_or]
 by_cases h2:i≥(ws.length:Int)
 ·simp only[wsD,D.toInt_int,D.A0f,B9p,h1,h2,decide_true,decide_false,Bool.false_eq_true,if_true,if_false,or_true]
 obtain⟨j,rfl⟩:∃j:Nat,i=j:=⟨i.toNat,by omega⟩
 have hj:j<ws.length:=by omega
 have hl:=G2s ws hg j (by omega)
 have hm:=F7b ws hg j hj
 have hb:=C9p hg j
 have h3:(A3r ws j:Int)≥0:=by omega
 have hno:¬((j:Int)<0∨(ws.length:Int)≤(j:Int)):=by omega
 rw[if_neg hno]
 simp only[wsD]at hl hm
 simp only[wsD,D.toInt_int,D.A0f,B9p,h1,h2,decide_false,Bool.false_eq_true,if_false,hl,hm,A0b,List.length_cons,List.length_nil,if_true,List.getD_cons_zero,h3,decide_true]
 rw[H0c x _ hb]
 have:=H1u x j ws hx hj hg
 rw[Nat.min_eq_left hb,F2y hj]at this
 have e:((x:Int)/2 ^ A3r ws j)=((x/2 ^ A3r ws j:Nat):Int):=by simp
 rw[e,List.getD_eq_getElem?_getD,List.getElem?_eq_getElem hj]at this
 simp only[Int.toNat_natCast]
 exact congrArg (fun z=>some [D.int z]) this
include hg in
theorem C3b:∀(k i:Nat),i+k=ws.length→B4v (wsD ws) [.int (A3r ws i),.int i]=some [wsD ws,.nil]
 |0,i,h=>by
  have hs:=small ws hg
  have hno:¬(i:Int)<((ws.map fun(w:Nat)=>D.int (w:Int)).length:Int):=by rw[B9p];omega
  have hle:((ws.map fun(w:Nat)=>D.int (w:Int)).length:Int)≤17592186044416:=by rw[B9p];omega
  rw[C2m]
  simp only[wsD,D.A0f,D.toInt_int,hno,hle,decide_false,decide_true,Bool.false_eq_true,if_false,if_true]
 |k+1,i,h=>by
  have hs:=small ws hg
  have hi:i<ws.length:=by omega
  have h1:(i:Int)<((ws.map fun(w:Nat)=>D.int (w:Int)).length:Int):=by rw[B9p];omega
  have h2:(i:Int)≥0:=by omega
  obtain⟨g1,g2,g3⟩:=C8k hg i hi
  have hsum:IntKind.i64.wrap ((A3r ws i:Int)+(ws[i]:Int))=(A3r ws (i+1):Int):=by
   rw[C5e ws i hi,A1a _ (by omega) (by omega)];omega
  have h3:¬((ws[i]:Nat):Int)<1:=by omega
  have h4:¬((ws[i]:Nat):Int)>32:=by omega
  have h5:¬((A3r ws (i+1):Nat):Int)>64:=by rw[C5e ws i hi];omega
  have ih:=C3b k (i+1) (by omega)
  rw[C2m]
  simp only[wsD,D.A0f,D.toInt_int,h1,h2,decide_true,decide_false,if_true,if_false,Int.toNat_natCast,F2i ws hi,hsum,h3,h4,h5,Bool.false_eq_true,E5m i (by omega)]
  exact ih
include hg in
theorem D2s:FX 127 [wsD ws]=some [wsD ws,.nil]:=by
 rw[F4v]
 exact C3b ws hg ws.length 0 (by omega)
theorem H2i{vs:List Int}{i:Nat}(h:i<vs.length):(vs.map D.int).getD i D.nil=.int vs[i]:=by
 rw[List.getD_eq_getElem?_getD,List.getElem?_map,List.getElem?_eq_getElem h];rfl
theorem u64_in{x:Int}(h0:0≤x)(h1:x<18446744073709551616):IntKind.u64.wrap x=x:=by
 simp[IntKind.wrap,IntKind.bits,IntKind.signed];omega
theorem G6q(v k:Nat)(hk:k≤64):arF .shl .u64 (v:Int) (k:Int)=IntKind.u64.wrap ((v:Int)*2 ^ min k 64):=by
 simp[arF,IntKind.bits]
def A4y(vs:List Int):List D:=match A6m ws vs with
 |(w,c,p)=>[.int w,if c=0 then .nil else match p with|some i=>D0e i c|none=>code c]
theorem E7q{vs:List Int}{k:Nat}(h:A6m ws vs=(0,5,some (k:Int))):A4y ws vs=[.int 0,D0e k 5]:=by unfold A4y;rw[h];rfl
include hg in
theorem E7b(vs:List Int)(hl:vs.length=ws.length)(hz:∀z ∈ vs,z≤9223372036854775807):∀(d k:Nat),k+d=vs.length→C1v ws vs k→
  A7n (wsD ws) (vsD vs) [.int (A8l ws (vs.map Int.toNat) k),.int k]=some (A4y ws vs)
 |0,k,h,hm=>by
  have hno:¬(k:Int)<((vs.map D.int).length:Int):=by simp;omega
  have he:=F5x hl hm (by omega)
  rw[B2r]
  simp only[vsD,D.A0f,D.toInt_int,hno,decide_false,Bool.false_eq_true,if_false]
  unfold A4y
  rw[he];rfl
 |d+1,k,h,hm=>by
  have hs:=small ws hg
  have hkv:k<vs.length:=by omega
  have hkw:k<ws.length:=by omega
  have h1:(k:Int)<((vs.map D.int).length:Int):=by simp;omega
  have h2:(k:Int)≥0:=by omega
  have hcode:(D.iface 39 (.int 5)).isNil=false:=rfl
  have hzk:=hz vs[k] (List.getElem_mem hkv)
  rw[B2r]
  simp only[vsD,D.A0f,D.toInt_int,h1,h2,decide_true,if_true,Int.toNat_natCast,H2i hkv]
  by_cases h3:vs[k]<0
  ·rw[E7q ws (D7d hl hm hkw hkv (.inl h3))]
   simp only[h3,decide_true,if_true,C0w _ _ hcode,A0b,List.length_cons,List.length_nil,List.getD_cons_zero]
   rfl
  ·have hmo:=F7b ws hg k hkw
   have hlo:=G2s ws hg k (by omega)
   simp only[h3,decide_false,Bool.false_eq_true,if_false,hmo,A0b,List.length_cons,List.length_nil,List.getD_cons_zero,if_true,D.toInt_int]
   rw[u64_in (by omega) (by omega)]
   by_cases h4:vs[k]>((2 ^ ws[k]-1:Nat):Int)
   ·rw[E7q ws (D7d hl hm hkw hkv (.inr h4))]
    simp only[h4,decide_true,if_true,C0w _ _ hcode,List.length_cons,List.length_nil,List.getD_cons_zero]
    rfl
   ·have h5:(A3r ws k:Int)≥0:=by omega
    have hb:=C9p hg k
    obtain⟨v,hv⟩:∃v:Nat,vs[k]=v:=⟨vs[k].toNat,by omega⟩
    have hle:v≤2 ^ ws[k]-1:=by omega
    have h4':¬(v:Int)>((2 ^ ws[k]-1:Nat):Int):=by rw[←hv];exact h4
    have hpl:=H1o hg k v hkw hle
    have hmid:=E9x hm hkw hkv (by omega) (by omega)
    have hlt:=G4j k hm.2
    have hlt2:A8l ws (vs.map Int.toNat) k<18446744073709551616:=Nat.lt_of_lt_of_le hlt (by
     have:=E2b (A3r ws k) 64 hb
     exact this)
    have hor:=or_val (A8l ws (vs.map Int.toNat) k) v (A3r ws k) hb hlt hpl hlt2
    have hsucc:A8l ws (vs.map Int.toNat) (k+1)=A8l ws (vs.map Int.toNat) k+v*2 ^ A3r ws k:=by
     rw[D6u ws (vs.map Int.toNat) k hkw (by simpa using hkv)]
     simp[hv]
    have ih:=E7b vs hl hz d (k+1) (by omega) hmid
    rw[hsucc]at ih
    simp only[hv,h4',decide_false,Bool.false_eq_true,if_false,hlo,List.length_cons,List.length_nil,List.getD_cons_zero,D.toInt_int,h5,decide_true,if_true,hv,E5m k (by omega)]
    rw[G6q v _ hb]
    have hor':arF .or .u64 (A8l ws (vs.map Int.toNat) k:Int) (IntKind.u64.wrap ((v:Int)*2 ^ min (A3r ws k) 64))=((A8l ws (vs.map Int.toNat) k+v*2 ^ A3r ws k:Nat):Int):=hor
    rw[hor']
    exact ih
include hg in
theorem E5n(vs:List Int)(hz:∀z ∈ vs,z≤9223372036854775807):FX 109 [wsD ws,vsD vs]=some (A4y ws vs):=by
 rw[D1h]
 by_cases hl:vs.length=ws.length
 ·have h1:(((vs.map D.int).length:Int) != ((ws.map fun(w:Nat)=>D.int (w:Int)).length:Int))=false:=by simp[hl]
  have:=E7b ws hg vs hl hz vs.length 0 (by omega) (F1f ws vs)
  simp only[vsD,wsD,D.A0f,h1,Bool.false_eq_true,if_false]at this⊢
  exact this
 ·have h1:(((vs.map D.int).length:Int) != ((ws.map fun(w:Nat)=>D.int (w:Int)).length:Int))=true:=by simp;omega
  simp only[vsD,wsD,D.A0f,h1,if_true]
  unfold A4y A6m
  rw[if_pos hl]
  rfl
end
end FDat
end Go.Proofs.YtglhnofjggpdjaaGreat
namespace Go.Proofs.YtglhnofjggpdjaaGreat.RU
open Go.RowKit Go.Proofs.YtglhnofjggpdjaaGreat.Eng Go.Proofs.YtglhnofjggpdjaaGreat Go.Proofs.YtglhnofjggpdjaaGreat.Dat
set_option linter.unusedVariables false
set_option linter.unusedSimpArgs false
structure Cf where
 c0:Int
 c1:Int
 c2:Int
 c3:Int
 c4:Int
 c5:Int
 c6:Int
def Cf.ds(c:Cf):List D:=[.int c.c0,.int c.c1,.int c.c2,.int c.c3,.int c.c4,.int c.c5,.int c.c6]
def Cf.ok(c:Cf):Prop:=(1≤c.c0∧c.c0≤6)∧(1≤c.c1∧c.c1≤4)∧(1≤c.c2∧c.c2≤3)∧(1≤c.c3∧c.c3≤4)∧(0≤c.c4∧c.c4≤4)∧(1≤c.c5∧c.c5≤4)∧(1≤c.c6∧c.c6≤15)
structure Lim where
 w:ByteArray
 n:Int
 lo:Int
 hi:Int
def Lim.d(e:Lim):D:=.agg [.str e.w,.int e.n,.int e.lo,.int e.hi]
def Lim.ok(e:Lim):Prop:=e.lo≤e.n∧e.n≤e.hi
instance(e:Lim):Decidable e.ok:=by unfold Lim.ok;infer_instance
def A1f:List Lim→Nat→Option (Nat × Lim)
 |[],_=>none
 |e::l,i=>if e.ok then A1f l (i+1)else some (i,e)
def D0e(i:Nat)(e:Lim):D:=.iface 137 (.agg [.int i,.iface 140 (.agg [.str e.w,.iface 39 (.int 5)])])
theorem C0w(x y:D)(h:y.isNil=false):FX 34 [x,y]=some [.iface 137 (.agg [x,y])]:=by
 rw[E3f];simp[h]
theorem F6u(x y:D)(h:y.isNil=false):FX 35 [x,y]=some [.iface 140 (.agg [x,y])]:=by
 rw[F1a];simp[h]
theorem C3b(x0 x1 x2 x3 x4 x5 x6:D)(es:List Lim)(hl:es.length≤100):∀(k i:Nat),i+k=es.length→
  B1m x0 x1 x2 x3 x4 x5 x6 (.agg (es.map Lim.d)) [.int i]=match A1f (es.drop i) i with
   |none=>some [x0,x1,x2,x3,x4,x5,x6,.nil]
   |some (j,e)=>some [.int 0,.int 0,.int 0,.int 0,.int 0,.int 0,.int 0,D0e j e]
 |0,i,h=>by
  have hi:i=es.length:=by omega
  rw[C2q,List.drop_eq_nil_of_le (by omega)]
  simp[hi,A1f]
 |k+1,i,h=>by
  have hlt:i<es.length:=by omega
  have hg:(es.map Lim.d).getD i D.nil=es[i].d:=by rw[List.getD_eq_getElem?_getD,List.getElem?_map,List.getElem?_eq_getElem hlt];rfl
  have ih:=C3b x0 x1 x2 x3 x4 x5 x6 es hl k (i+1) (by omega)
  rw[C2q,List.drop_eq_getElem_cons hlt]
  have hw:IntKind.i64.wrap ((i:Int)+1)=((i+1:Nat):Int):=by rw[wrap_small _ (by omega) (by omega)];omega
  simp only[D.toInt_int,D.A0f,List.length_map,Int.toNat_natCast,hg,hw,A1f]
  have e1:(i:Int)<(es.length:Int):=by omega
  have e2:(i:Int)≥0:=by omega
  simp only[e1,e2,decide_true,if_true,Lim.d,D.A0f,List.getD_cons_succ,List.getD_cons_zero,D.toInt_int]
  have hcode:(D.iface 39 (.int 5)).isNil=false:=rfl
  have hnote:(D.iface 140 (.agg [.str es[i].w,.iface 39 (.int 5)])).isNil=false:=rfl
  by_cases h1:es[i].n<es[i].lo
  ·have:¬es[i].ok:=fun h=>by unfold Lim.ok at h;omega
   simp only[h1,decide_true,if_true,this,if_false,F6u _ _ hcode,A0b,List.length_cons,List.length_nil,List.getD_cons_zero,C0w _ _ hnote,D0e]
  ·by_cases h2:es[i].n>es[i].hi
   ·have:¬es[i].ok:=fun h=>by unfold Lim.ok at h;omega
    simp only[h1,h2,decide_true,decide_false,Bool.false_eq_true,if_true,this,if_false,F6u _ _ hcode,A0b,List.length_cons,List.length_nil,List.getD_cons_zero,C0w _ _ hnote,D0e]
   ·have:es[i].ok:=by unfold Lim.ok;omega
    simp only[h1,h2,decide_false,Bool.false_eq_true,if_false,this,if_true,ih]
def Cf.B3b(c:Cf):List Lim:=[⟨.mk #[112,97,114,116,115],c.c0,1,6⟩,⟨.mk #[99,101,108,108,115],c.c1,1,4⟩,⟨.mk #[110,97,109,101,115],c.c2,1,3⟩,⟨.mk #[98,97,110,100,115],c.c3,1,4⟩,⟨.mk #[112,114,111,98,101,115],c.c4,0,4⟩,⟨.mk #[102,105,108,108,115],c.c5,1,4⟩,⟨.mk #[103,101,110,115],c.c6,1,15⟩]
theorem D2s(c:Cf):FX 22 c.ds=match A1f c.B3b 0 with
   |none=>some (c.ds++[.nil])
   |some (j,e)=>some [.int 0,.int 0,.int 0,.int 0,.int 0,.int 0,.int 0,D0e j e]:=by
 have h:=C3b (.int c.c0) (.int c.c1) (.int c.c2) (.int c.c3) (.int c.c4) (.int c.c5) (.int c.c6) c.B3b (by simp[Cf.B3b]) 7 0 rfl
 have hl:FX 33 c.ds=some [.agg (c.B3b.map Lim.d)]:=by
  unfold Cf.ds
  rw[E3z]
  rfl
 have he:FX 22 c.ds=B1m (.int c.c0) (.int c.c1) (.int c.c2) (.int c.c3) (.int c.c4) (.int c.c5) (.int c.c6) (.agg (c.B3b.map Lim.d)) [.int 0]:=by
  unfold Cf.ds at hl⊢
  rw[F5w,hl]
  rfl
 rw[he]
 exact h
theorem D2x:∀(l:List Lim) (i:Nat),A1f l i=none↔∀e ∈ l,e.ok
 |[],i=>by simp[A1f]
 |e::l,i=>by
  simp only[A1f,List.mem_cons,forall_eq_or_imp]
  by_cases h:e.ok
  ·rw[if_pos h,D2x l];simp[h]
  ·rw[if_neg h];simp[h]
theorem C0m(c:Cf):A1f c.B3b 0=none↔c.ok:=by
 rw[D2x]
 simp[Cf.B3b,Lim.ok,Cf.ok]
end Go.Proofs.YtglhnofjggpdjaaGreat.RU
namespace Go.Proofs.YtglhnofjggpdjaaGreat.P
open Go.RowKit Go.Proofs.YtglhnofjggpdjaaGreat.Eng Go.Proofs.YtglhnofjggpdjaaGreat Go.Proofs.YtglhnofjggpdjaaGreat.Dat Go.Proofs.YtglhnofjggpdjaaGreat.FDat
set_option linter.unusedVariables false
set_option linter.unusedSimpArgs false
set_option maxRecDepth 10000
section
abbrev Cf:=RU.Cf
def In(z:Int):Prop:=-9223372036854775808≤z∧z≤9223372036854775807
theorem In.w{z:Int}(h:In z):IntKind.i64.wrap z=z:=A1a z h.1 h.2
def er(c:Int):D:=if c=0 then .nil else code c
theorem E4r:er 0=.nil:=rfl
theorem D8g(c:Int):(er c).isNil=decide (c=0):=by
 unfold er
 by_cases h:c=0
 ·simp[h,D.isNil]
 ·simp[h,code,D.isNil]
structure St where
 k:Int
 f:Bool
 g:Int
 l:Int
 n:Int
 deriving DecidableEq
def St.ds(s:St):List D:=[.int s.k,.bool s.f,.int s.g,.int s.l,.int s.n]
def fl(f:Bool):Int:=if f then 1 else 0
def St.vs(s:St):List Int:=[s.k,fl s.f,s.g,s.l,s.n]
def St.wf(s:St):Prop:=In s.k∧In s.g∧In s.l∧In s.n
def St.zero:St:=⟨0,false,0,0,0⟩
structure Tm where
 name:Int
 side:Int
 A0k:Int
 least:Int
 A1o:Int
 deriving DecidableEq
def Tm.ds(t:Tm):List D:=[.int t.name,.int t.side,.int t.A0k,.int t.least,.int t.A1o]
def Tm.vs(t:Tm):List Int:=[t.name,t.side,t.A0k,t.least,t.A1o]
def Tm.wf(t:Tm):Prop:=∀z ∈ t.vs,In z
def Tm.sm(t:Tm):Prop:=(0≤t.name∧t.name<16)∧(0≤t.side∧t.side<2)∧(0≤t.A0k∧t.A0k<65536)∧(0≤t.least∧t.least<65536)∧0≤t.A1o∧t.A1o<16777216
def Tm.zero:Tm:=⟨0,0,0,0,0⟩
structure Rc where
 k:Int
 q:Int
 p:Int
 t:Int
 c:Int
 g:Int
 deriving DecidableEq
def Rc.ds(r:Rc):List D:=[.int r.k,.int r.q,.int r.p,.int r.t,.int r.c,.int r.g]
def Rc.vs(r:Rc):List Int:=[r.k,r.q,r.p,r.t,r.c,r.g]
def Rc.wf(r:Rc):Prop:=∀z ∈ r.vs,In z
def Rc.zero:Rc:=⟨0,0,0,0,0,0⟩
def cws:List Nat:=[4,1,8,16,8]
def tws:List Nat:=[4,1,16,16,24]
def rws:List Nat:=[3,16,16,20,5,4]
theorem D9s:B7v cws:=by constructor<;>simp[cws]
theorem E8y:B7v tws:=by constructor<;>simp[tws]
theorem E8r:B7v rws:=by constructor<;>simp[rws]
theorem clay:FX 101 []=some [wsD cws]:=by
 have h:=D2s cws D9s
 rw[E8n]
 have e:(D.agg ((D.int (4:Int))::((D.int (1:Int))::((D.int (8:Int))::((D.int (16:Int))::((D.int (8:Int))::[]))))))=wsD cws:=rfl
 rw[e,h];rfl
theorem tlay:FX 103 []=some [wsD tws]:=by
 have h:=D2s tws E8y
 rw[E4y]
 have e:(D.agg ((D.int (4:Int))::((D.int (1:Int))::((D.int (16:Int))::((D.int (16:Int))::((D.int (24:Int))::[]))))))=wsD tws:=rfl
 rw[e,h];rfl
theorem rlay:FX 108 []=some [wsD rws]:=by
 have h:=D2s rws E8r
 rw[E2y]
 have e:(D.agg ((D.int (3:Int))::((D.int (16:Int))::((D.int (16:Int))::((D.int (20:Int))::((D.int (5:Int))::((D.int (4:Int))::[])))))))=wsD rws:=rfl
 rw[e,h];rfl
def A0l(x:Nat):St:=⟨A4x cws x 0,A4x cws x 1 == 1,A4x cws x 2,A4x cws x 3,A4x cws x 4⟩
def B5e(x:Nat):Tm:=⟨A4x tws x 0,A4x tws x 1,A4x tws x 2,A4x tws x 3,A4x tws x 4⟩
def G9i(x:Nat):Rc:=⟨A4x rws x 0,A4x rws x 1,A4x rws x 2,A4x rws x 3,A4x rws x 4,A4x rws x 5⟩
theorem B3h(ws:List Nat)(x:Nat)(i b:Nat)(hb:ws.getD i 0≤b):0≤A4x ws x i∧A4x ws x i<((2 ^ b:Nat):Int):=by
 unfold A4x
 have hp:0<2 ^ b:=Nat.two_pow_pos b
 split
 ·omega
 ·have h1:D8v ws x ((i:Int).toNat)<2 ^ ws.getD i 0:=by
   unfold D8v
   rw[Int.toNat_natCast]
   exact Nat.mod_lt _ (Nat.two_pow_pos _)
  have h2:2 ^ ws.getD i 0≤2 ^ b:=Nat.pow_le_pow_right (by decide) hb
  omega
theorem B8p(x:Nat):(0≤(A0l x).k∧(A0l x).k<16)∧(0≤(A0l x).g∧(A0l x).g<256)∧(0≤(A0l x).l∧(A0l x).l<65536)∧0≤(A0l x).n∧(A0l x).n<256:=
 ⟨B3h cws x 0 4 (by decide),B3h cws x 2 8 (by decide),B3h cws x 3 16 (by decide),B3h cws x 4 8 (by decide)⟩
theorem B2a(x:Nat):(A0l x).wf:=by
 have:=B8p x
 unfold St.wf In;omega
theorem C6x(x:Nat):(B5e x).sm:=
 ⟨B3h tws x 0 4 (by decide),B3h tws x 1 1 (by decide),B3h tws x 2 16 (by decide),B3h tws x 3 16 (by decide),B3h tws x 4 24 (by decide)⟩
theorem Tm.sm.wf{t:Tm}(h:t.sm):t.wf:=by
 obtain⟨h1,h2,h3,h4,h5⟩:=h
 intro z hz
 simp only[Tm.vs,List.mem_cons,List.not_mem_nil,or_false]at hz
 unfold In;omega
section
variable(x:Nat)(hx:x<18446744073709551616)
include hx
theorem D9h:FX 74 [.int x]=some (A0l x).ds:=by
 have hg:=get_eq cws D9s x hx
 rw[F2s,clay]
 simp only[A0b,List.length_cons,List.length_nil,if_true,List.getD_cons_zero,hg,D.toInt_int]
 rfl
theorem G5t:FX 76 [.int x]=some (B5e x).ds:=by
 have hg:=get_eq tws E8y x hx
 rw[F8o,tlay]
 simp only[A0b,List.length_cons,List.length_nil,if_true,List.getD_cons_zero,hg,D.toInt_int]
 rfl
theorem G4p:FX 117 [.int x]=some (G9i x).ds:=by
 have hg:=get_eq rws E8r x hx
 rw[F6c,rlay]
 simp only[A0b,List.length_cons,List.length_nil,if_true,List.getD_cons_zero,hg,D.toInt_int]
 rfl
end
def B4w(ws:List Nat)(vs:List Int):Option Nat:=match A6m ws vs with
 |(w,c,_)=>if c=0 then some w.toNat else none
def stW(s:St):Option Nat:=if s.k>8 then none else B4w cws s.vs
def tmW(t:Tm):Option Nat:=B4w tws t.vs
def rcW(r:Rc):Option Nat:=if r.k>5 then none else B4w rws r.vs
def Told(o:Option Nat)(r:List D):Prop:=match o with
 |some w=>r=[.int w,.nil]
 |none=>∃e:D,e.isNil=false∧r=[.int 0,e]
theorem G0e{ws:List Nat}{vs:List Int}{w:Int}{p:Option Int}(h:A6m ws vs=(w,0,p)):0≤w:=by
 unfold A6m at h
 split at h
 ·cases h
 ·split at h
  ·cases h
  ·cases h;omega
theorem G5k:∀{ws:List Nat} {vs:List Int} (k:Nat),vs.length=ws.length→A1f ws vs k=none→∃ns:List Nat,vs=ns.map (fun(x:Nat)=>(x:Int))∧Fits ws ns:=by
 intro ws
 induction ws with
 |nil=>intro vs k h _;have:=List.eq_nil_of_length_eq_zero h;subst this;exact⟨[],rfl,trivial⟩
 |cons w ws ih=>
  intro vs k h hb
  cases vs with
  |nil=>simp at h
  |cons v vs=>
   simp only[A1f]at hb
   split at hb
   ·cases hb
   ·rename_i hc
    obtain⟨ns,e,hf⟩:=ih (k+1) (by simpa using h) hb
    have hp:0<2 ^ w:=Nat.two_pow_pos w
    refine⟨v.toNat::ns,?_,?_,hf⟩
    ·rw[List.map_cons,e]
     congr 1
     omega
    ·omega
theorem G6c{ws:List Nat}{vs:List Int}(hl:vs.length=ws.length)(h:(A6m ws vs).2.1=0):∃ns:List Nat,vs=ns.map (fun(n:Nat)=>(n:Int))∧Fits ws ns∧A6m ws vs=((A9x ws ns:Int),0,none):=by
 unfold A6m at h⊢
 rw[if_neg (by omega)]at h⊢
 cases hb:A1f ws vs 0 with
 |some i=>rw[hb]at h;cases h
 |none=>
  obtain⟨ns,e,hf⟩:=G5k 0 hl hb
  have e2:vs.map Int.toNat=ns:=by
   rw[e,List.map_map]
   apply List.ext_getElem
   ·simp
   ·intro j h1 h2;simp
  exact⟨ns,e,hf,by simp only[e2]⟩
theorem G0s{ws:List Nat}{vs:List Int}{w:Nat}(h:B4w ws vs=some w):∃ns:List Nat,vs=ns.map (fun(n:Nat)=>(n:Int))∧Fits ws ns∧w=A9x ws ns:=by
 unfold B4w at h
 rcases hp:A6m ws vs with⟨z,c,q⟩
 rw[hp]at h
 dsimp only at h
 by_cases hc:c=0
 ·subst hc
  have hl:vs.length=ws.length:=by
   rcases Decidable.em (vs.length=ws.length)with h1|h1
   ·exact h1
   ·unfold A6m at hp
    rw[if_pos h1]at hp;cases hp
  obtain⟨ns,e1,e2,e3⟩:=G6c hl (by rw[hp])
  rw[if_pos rfl]at h
  rw[e3]at hp
  cases hp
  cases h
  exact⟨ns,e1,e2,by simp⟩
 ·rw[if_neg hc]at h;cases h
theorem D0p{ws:List Nat}(hg:B7v ws){vs:List Int}{w:Nat}(h:B4w ws vs=some w):w<18446744073709551616:=by
 obtain⟨ns,_,hf,rfl⟩:=G0s h
 have h1:=E3q hf
 have h2:2 ^ ws.sum≤2 ^ 64:=Nat.pow_le_pow_right (by decide) hg.2
 have h3:(2:Nat) ^ 64=18446744073709551616:=by decide
 omega
theorem D0q(ws:List Nat)(vs:List Int):Told (B4w ws vs) (A4y ws vs):=by
 unfold B4w A4y
 rcases h:A6m ws vs with⟨w,c,p⟩
 dsimp only
 by_cases hc:c=0
 ·subst hc
  have:=G0e h
  simp only[if_true,Told]
  rw[Int.toNat_of_nonneg this]
 ·rw[if_neg hc,if_neg hc]
  have hw:w=0:=by
   unfold A6m at h
   split at h
   ·cases h;rfl
   ·split at h
    ·cases h;rfl
    ·cases h;exact absurd rfl hc
  subst hw
  cases p with
  |none=>exact⟨_,rfl,rfl⟩
  |some i=>exact⟨_,rfl,rfl⟩
theorem F6t(s:St)(hs:s.wf):∃r,FX 106 s.ds=some r∧Told (stW s) r:=by
 obtain⟨k,f,g,l,n⟩:=s
 obtain⟨h1,h2,h3,h4⟩:=hs
 unfold St.ds stW
 dsimp only at h1 h2 h3 h4⊢
 rw[F5z,clay]
 by_cases h:k>8
 ·have hcode:(D.iface 39 (.int 5)).isNil=false:=rfl
  simp only[D.toInt_int,h,decide_true,if_true,C0w _ _ hcode,A0b,List.length_cons,List.length_nil,List.getD_cons_zero]
  exact⟨_,rfl,_,rfl,rfl⟩
 ·have hp:=E5n cws D9s [k,fl f,g,l,n] (by
   intro z hz
   simp only[List.mem_cons,List.not_mem_nil,or_false]at hz
   unfold In at h1 h2 h3 h4
   have:fl f≤1:=by unfold fl;split<;>omega
   omega)
  have ht:=D0q cws [k,fl f,g,l,n]
  have hb:(D.agg ((D.int k)::((if f then D.int 1 else D.int 0)::((D.agg ((D.int g)::((D.int l)::((D.int n)::[]))))).toL)))=vsD [k,fl f,g,l,n]:=by cases f<;>rfl
  refine⟨A4y cws [k,fl f,g,l,n],?_,by rw[if_neg h];exact ht⟩
  have hl:(A4y cws [k,fl f,g,l,n])=[(A4y cws [k,fl f,g,l,n]).getD 0 D.nil,(A4y cws [k,fl f,g,l,n]).getD 1 D.nil]:=by
   unfold A4y;rcases A6m cws [k,fl f,g,l,n]with⟨_,_,_⟩;rfl
  have hlen:(A4y cws [k,fl f,g,l,n]).length=2:=by rw[hl];rfl
  cases f
  ·simp only[Bool.false_eq_true,if_false]at hb
   simp only[D.toInt_int,h,decide_false,Bool.false_eq_true,if_false,A0b,List.length_cons,List.length_nil,if_true,List.getD_cons_zero,hb,D.A1b,hp,hlen]
   rw[←hl]
  ·simp only[if_true]at hb
   simp only[D.toInt_int,h,decide_false,Bool.false_eq_true,if_false,A0b,List.length_cons,List.length_nil,if_true,List.getD_cons_zero,hb,D.A1b,hp,hlen]
   rw[←hl]
theorem G9c(t:Tm)(hs:t.wf):∃r,FX 112 t.ds=some r∧Told (tmW t) r:=by
 have hp:=E5n tws E8y t.vs (fun z hz=>(hs z hz).2)
 have ht:=D0q tws t.vs
 refine⟨A4y tws t.vs,?_,ht⟩
 have hb:D.agg (.int t.name::.int t.side::.int t.A0k::.int t.least::.int t.A1o::[])=vsD t.vs:=rfl
 have hl:(A4y tws t.vs)=[(A4y tws t.vs).getD 0 D.nil,(A4y tws t.vs).getD 1 D.nil]:=by
  unfold A4y;rcases A6m tws t.vs with⟨_,_,_⟩;rfl
 have hlen:(A4y tws t.vs).length=2:=by rw[hl];rfl
 unfold Tm.ds
 rw[F2w,tlay]
 simp only[A0b,List.length_cons,List.length_nil,if_true,List.getD_cons_zero,hb,hp,hlen]
 rw[←hl]
theorem G8j(r:Rc)(hs:r.wf):∃z,FX 82 r.ds=some z∧Told (rcW r) z:=by
 have hp:=E5n rws E8r r.vs (fun z hz=>(hs z hz).2)
 have ht:=D0q rws r.vs
 have hb:D.agg (.int r.k::.int r.q::.int r.p::.int r.t::.int r.c::.int r.g::[])=vsD r.vs:=rfl
 have hl:(A4y rws r.vs)=[(A4y rws r.vs).getD 0 D.nil,(A4y rws r.vs).getD 1 D.nil]:=by
  unfold A4y;rcases A6m rws r.vs with⟨_,_,_⟩;rfl
 have hlen:(A4y rws r.vs).length=2:=by rw[hl];rfl
 unfold Rc.ds rcW
 rw[E8a,rlay]
 by_cases h:r.k>5
 ·have hcode:(D.iface 39 (.int 5)).isNil=false:=rfl
  simp only[D.toInt_int,h,decide_true,if_true,C0w _ _ hcode,A0b,List.length_cons,List.length_nil,List.getD_cons_zero]
  exact⟨_,rfl,_,rfl,rfl⟩
 ·refine⟨A4y rws r.vs,?_,by rw[if_neg h];exact ht⟩
  simp only[D.toInt_int,h,decide_false,Bool.false_eq_true,if_false,A0b,List.length_cons,List.length_nil,if_true,List.getD_cons_zero,hb,hp,hlen]
  rw[←hl]
def St.live(s:St):Bool:=decide (1≤s.k)&&decide (s.k≤4)
def St.over(s:St):Bool:=decide (5≤s.k)&&decide (s.k≤8)
def St.loose(s:St):Bool:=s.k == 1 || s.k == 2
def St.held(s:St):Bool:=s.k == 3 || s.k == 4
def St.hold(s:St):St:=if s.k=1 then {s with k:=3} else if s.k=2 then {s with k:=4} else s
def St.A7t(s:St):St:=if s.k=3 then {s with k:=1} else if s.k=4 then {s with k:=2} else s
def St.ended(s:St)(m:Int):St:=if s.l=0 then {s with k:=5,f:=false} else if s.n≥m then {s with k:=8,f:=false} else s
def A8w(s:St)(q m:Int):Int × St:=if s.loose=false then(27,.zero)else if q<1∨q>s.l then(23,.zero)else if s.n≥m then(4,.zero)else(0,St.ended {s with l:=s.l-q,n:=s.n+1} m)
def A9g(s:St)(m:Int):St:=if(St.ended s.A7t m).f then {St.ended s.A7t m with k:=6,f:=false} else St.ended s.A7t m
def A3n(s:St)(q m:Int):Int × St:=if s.held=false then(1,.zero)else if q<0∨q>s.l then(23,.zero)else if q>0 then(if s.n≥m then(4,.zero)else(0,A9g {s with l:=s.l-q,n:=s.n+1} m))else(0,A9g s m)
def A1i(s:St):Int × St:=if s.k=1∨s.k=2 then(0,{s with k:=6})else if s.k=3∨s.k=4 then(0,{s with f:=true})else(29,.zero)
def A1r(s:St):Int × St:=if s.loose=false then(27,.zero)else(0,{s with k:=7})
def A2v(s:St):Int × St:=if s.k=1 then(0,{s with k:=2})else(29,.zero)
def A7k(s:St)(q m:Int):Int × St:=if s.live then(27,.zero)else if s.g≥m then(28,.zero)else if q<1∨q>9999 then(23,.zero)else(0,⟨1,false,s.g+1,q,0⟩)
def A1x(r:Int × St):List D:=r.2.ds++[er r.1]
theorem F0z(k:Int)(x1 x2 x3 x4:D):FX 104 [.int k,x1,x2,x3,x4]=some [.bool (k == 1 || k == 2)]:=by
 rw[F3l]
 by_cases h1:k=1
 ·simp[h1]
 ·by_cases h2:k=2<;>simp[h1,h2]
theorem H0k(k:Int)(x1 x2 x3 x4:D):FX 133 [.int k,x1,x2,x3,x4]=some [.bool (k == 3 || k == 4)]:=by
 rw[F4z]
 by_cases h1:k=3
 ·simp[h1]
 ·by_cases h2:k=4<;>simp[h1,h2]
theorem F7i(k:Int)(x1 x2 x3 x4:D):FX 115 [.int k,x1,x2,x3,x4]=some [.bool (decide (5≤k)&&decide (k≤8))]:=by
 rw[F5j]
 by_cases h1:5≤k
 ·by_cases h2:k≤8<;>simp[h1,h2]
 ·simp[h1]
theorem F6n(k:Int)(x1 x2 x3 x4:D):FX 119 [.int k,x1,x2,x3,x4]=some [.bool (decide (1≤k)&&decide (k≤4))]:=by
 rw[F6b]
 by_cases h1:1≤k
 ·by_cases h2:k≤4<;>simp[h1,h2]
 ·simp[h1]
theorem H0e(s:St):FX 121 s.ds=some s.hold.ds:=by
 unfold St.ds St.hold
 rw[F4u]
 by_cases h1:s.k=1
 ·simp[h1]
 by_cases h2:s.k=2
 ·simp[h1,h2]
 ·simp[h1,h2]
theorem G4b(k:Int)(x1 x2 x3 x4:D):FX 134 [.int k,x1,x2,x3,x4]=some [.int (if k=3 then 1 else if k=4 then 2 else k),x1,x2,x3,x4]:=by
 rw[E7u]
 by_cases h1:k=3
 ·simp[h1]
 by_cases h2:k=4
 ·simp[h1,h2]
 ·simp[h1,h2]
theorem F4b(k:Int)(f:Bool)(g l n m:Int):FX 132 [.int k,.bool f,.int g,.int l,.int n,.int m]=some (St.ended ⟨k,f,g,l,n⟩ m).ds:=by
 unfold St.ds St.ended
 rw[F0o]
 by_cases h1:l=0
 ·simp[h1]
 by_cases h2:n≥m
 ·simp[h1,h2]
 ·simp[h1,h2]
theorem H1l(s:St)(hs:s.wf)(q m:Int)(hm:m≤100):FX 124 (s.ds++[.int q,.int m])=some (A1x (A8w s q m)):=by
 obtain⟨k,f,g,l,n⟩:=s
 obtain⟨h1,h2,h3,h4⟩:=hs
 dsimp only[In]at h1 h2 h3 h4
 unfold St.ds A8w A1x St.loose
 dsimp only[List.cons_append,List.nil_append]
 rw[F5i,F0z]
 simp only[A0b,List.length_cons,List.length_nil,if_true,List.getD_cons_zero,D.A1b,D.toInt_int]
 cases h0:(k == 1 || k == 2)
 ·simp only[Bool.not_false,if_true];rfl
 simp only[Bool.not_true,Bool.false_eq_true,if_false,reduceCtorEq]
 by_cases a1:q<1
 ·simp only[a1,decide_true,if_true,true_or];rfl
 by_cases a2:q>l
 ·simp only[a1,a2,decide_true,decide_false,Bool.false_eq_true,if_false,if_true,or_true];rfl
 by_cases a3:n≥m
 ·simp only[a1,a2,a3,decide_true,decide_false,Bool.false_eq_true,if_false,if_true,or_self];rfl
 rw[A1a (l-q) (by omega) (by omega),A1a (n+1) (by omega) (by omega),F4b]
 simp only[a1,a2,a3,decide_false,Bool.false_eq_true,if_false,or_self,E4r]
 rfl
theorem G0m(s:St)(hs:s.wf)(q m:Int)(hm:m≤100):FX 125 (s.ds++[.int q,.int m])=some (A1x (A3n s q m)):=by
 obtain⟨k,f,g,l,n⟩:=s
 obtain⟨h1,h2,h3,h4⟩:=hs
 dsimp only[In]at h1 h2 h3 h4
 have fin:∀l' n':Int,(A0b (FX 134 [.int k,.bool f,.int g,.int l',.int n']) 5 fun r8=>
      A0b (FX 132 [(r8.getD 0 D.nil),(r8.getD 1 D.nil),(r8.getD 2 D.nil),(r8.getD 3 D.nil),(r8.getD 4 D.nil),.int m]) 5 fun r13=>
      if((r13.getD 1 D.nil)).toBool=true then
      some [(D.int (6:Int)),(D.bool false),(r13.getD 2 D.nil),(r13.getD 3 D.nil),(r13.getD 4 D.nil),D.nil]
      else
      some [(r13.getD 0 D.nil),(r13.getD 1 D.nil),(r13.getD 2 D.nil),(r13.getD 3 D.nil),(r13.getD 4 D.nil),D.nil])=some (A1x (0,A9g ⟨k,f,g,l',n'⟩ m)):=by
  intro l' n'
  have hl:(St.A7t ⟨k,f,g,l',n'⟩)=⟨if k=3 then 1 else if k=4 then 2 else k,f,g,l',n'⟩:=by
   unfold St.A7t
   split
   ·rfl
   ·split<;>rfl
  simp only[G4b,A0b,List.length_cons,List.length_nil,if_true,List.getD_cons_zero,List.getD_cons_succ,F4b]
  unfold A9g A1x
  rw[hl]
  generalize St.ended ⟨if k=3 then 1 else if k=4 then 2 else k,f,g,l',n'⟩ m=z
  obtain⟨k',f',g',l2,n2⟩:=z
  simp only[St.ds,List.length_cons,List.length_nil,if_true,List.getD_cons_zero,List.getD_cons_succ,D.A1b,E4r]
  cases f'
  ·rfl
  ·rfl
 unfold St.ds A3n A1x St.held
 dsimp only[List.cons_append,List.nil_append]
 rw[E4z,H0k]
 simp only[A0b,List.length_cons,List.length_nil,if_true,List.getD_cons_zero,D.A1b,D.toInt_int]at fin⊢
 cases h0:(k == 3 || k == 4)
 ·simp only[Bool.not_false,if_true];rfl
 simp only[Bool.not_true,Bool.false_eq_true,if_false,reduceCtorEq]
 by_cases a1:q<0
 ·simp only[a1,decide_true,if_true,true_or];rfl
 by_cases a2:q>l
 ·simp only[a1,a2,decide_true,decide_false,Bool.false_eq_true,if_false,if_true,or_true];rfl
 by_cases a3:q>0
 ·by_cases a4:n≥m
  ·simp only[a1,a2,a3,a4,decide_true,decide_false,Bool.false_eq_true,if_false,if_true,or_self];rfl
  rw[A1a (l-q) (by omega) (by omega),A1a (n+1) (by omega) (by omega),fin]
  simp only[a1,a2,a3,a4,decide_true,decide_false,Bool.false_eq_true,if_false,if_true,or_self];rfl
 ·rw[fin l n]
  simp only[a1,a2,a3,decide_false,Bool.false_eq_true,if_false,or_self];rfl
theorem G3f(s:St):FX 116 s.ds=some (A1x (A1i s)):=by
 unfold St.ds A1x A1i
 rw[E7z]
 by_cases h1:s.k=1
 ·simp[h1,St.ds,er]
 by_cases h2:s.k=2
 ·simp[h1,h2,St.ds,er]
 by_cases h3:s.k=3
 ·simp[h1,h2,h3,St.ds,er]
 by_cases h4:s.k=4
 ·simp[h1,h2,h3,h4,St.ds,er]
 ·simp[h1,h2,h3,h4,St.ds,er,St.zero,code]
theorem G4s(s:St):FX 77 s.ds=some (A1x (A1r s)):=by
 unfold St.ds A1x A1r St.loose
 rw[E8i,F0z]
 cases h:(s.k == 1 || s.k == 2)
 ·simp[A0b,St.ds,er,St.zero,code]
 ·simp[A0b,St.ds,er,St.zero,code]
theorem F9r(s:St):FX 114 s.ds=some (A1x (A2v s)):=by
 unfold St.ds A1x A2v
 rw[E5p]
 by_cases h1:s.k=1
 ·simp[h1,St.ds,er]
 ·simp[h1,St.ds,er,St.zero,code]
theorem G7z(s:St)(hs:s.wf)(q m:Int)(hm:m≤100):FX 111 (s.ds++[.int q,.int m])=some (A1x (A7k s q m)):=by
 obtain⟨k,f,g,l,n⟩:=s
 obtain⟨h1,h2,h3,h4⟩:=hs
 dsimp only[In]at h1 h2 h3 h4
 unfold St.ds A7k A1x St.live
 dsimp only[List.cons_append,List.nil_append]
 rw[F2k,F6n]
 simp only[A0b,List.length_cons,List.length_nil,if_true,List.getD_cons_zero,D.A1b,D.toInt_int]
 cases h0:(decide (1≤k)&&decide (k≤4))
 ·simp only[Bool.false_eq_true,if_false]
  by_cases a1:g≥m
  ·simp only[a1,decide_true,if_true];rfl
  by_cases a2:q<1
  ·simp only[a1,a2,decide_true,decide_false,Bool.false_eq_true,if_false,if_true,true_or];rfl
  by_cases a3:q>9999
  ·simp only[a1,a2,a3,decide_true,decide_false,Bool.false_eq_true,if_false,if_true,or_true];rfl
  rw[A1a (g+1) (by omega) (by omega)]
  simp only[a1,a2,a3,decide_false,Bool.false_eq_true,if_false,or_self];rfl
 ·simp only[if_true];rfl
def A7s(s:St)(t:Int):Option Rc:=if s.over then some ⟨s.k-3,s.l,s.n,t,0,0⟩else none
def A4l:Option Rc→List D
 |some r=>r.ds++[.bool true]
 |none=>Rc.zero.ds++[.bool false]
theorem H2q(s:St)(t:Int):FX 62 (s.ds++[.int t])=some (A4l (A7s s t)):=by
 unfold St.ds A7s St.over
 dsimp only[List.cons_append,List.nil_append]
 rw[F0g]
 by_cases h1:s.k=5
 ·simp[h1,A4l,Rc.ds]
 by_cases h2:s.k=6
 ·simp[h2,A4l,Rc.ds]
 by_cases h3:s.k=7
 ·simp[h3,A4l,Rc.ds]
 by_cases h4:s.k=8
 ·simp[h4,A4l,Rc.ds]
 ·have:(decide (5≤s.k)&&decide (s.k≤8))=false:=by
   by_cases a:5≤s.k
   ·have:¬s.k≤8:=by omega
    simp[this]
   ·simp[a]
  simp[h1,h2,h3,h4,this,A4l,Rc.zero,Rc.ds]
def Rc.D5o(r:Rc):Bool:=decide (r.k≥2)&&decide (r.k≤5)
theorem G5c(r:Rc):FX 118 r.ds=some [.bool r.D5o]:=by
 unfold Rc.ds Rc.D5o
 rw[E3t]
 by_cases h1:r.k≥2
 ·simp only[D.toInt_int,h1,decide_true,if_true,Bool.true_and]
  rfl
 ·simp only[D.toInt_int,h1,decide_false,Bool.false_eq_true,if_false,Bool.false_and]
def B1b(gen n:Int)(a e:Rc):Rc × Int × Int:=if a.k=1 then({a with c:=0,g:=0},gen,n+1)else if e.D5o=true∧e.p=n then(e,gen+1,0)else(.zero,gen,n)
theorem H1f(gen n:Int)(hg:In (gen+1))(hn:In (n+1))(a e:Rc):FX 91 ([.int gen,.int n]++a.ds++e.ds)=some ((B1b gen n a e).1.ds++[.int (B1b gen n a e).2.1,.int (B1b gen n a e).2.2]):=by
 have he:=G5c e
 unfold Rc.ds at he
 unfold Rc.ds B1b
 dsimp only[List.cons_append,List.nil_append]
 rw[E8f,he]
 simp only[D.toInt_int,hg.w,hn.w,A0b,List.length_cons,List.length_nil,if_true,List.getD_cons_zero,D.A1b]
 by_cases h1:a.k=1
 ·simp[h1,Rc.ds]
 by_cases h2:e.D5o=true
 ·by_cases h3:e.p=n
  ·simp[h1,h2,h3,Rc.ds]
  ·simp[h1,h2,h3,Rc.ds,Rc.zero]
 ·simp[h1,h2,Rc.ds,Rc.zero]
section
variable(c:Cf)(hc:c.ok)
def A0s(c:Cf):Int:=c.c0*c.c1
include hc in
theorem A6z:1≤A0s c∧A0s c≤24:=by
 obtain⟨⟨h1,h2⟩,⟨h3,h4⟩,_⟩:=hc
 have a:c.c0=1∨c.c0=2∨c.c0=3∨c.c0=4∨c.c0=5∨c.c0=6:=by omega
 unfold A0s
 rcases a with a|a|a|a|a|a<;>rw[a]<;>omega
include hc in
theorem all_eq:FX 44 c.ds=some [.int (A0s c)]:=by
 have:=A6z c hc
 unfold RU.Cf.ds
 rw[D5z]
 simp only[D.toInt_int]
 rw[A1a _ (by unfold A0s at this;omega) (by unfold A0s at this;omega)];rfl
def A0r(c:Cf)(part i:Int):Int:=if part<0∨part≥c.c0∨i<0∨i≥c.c1 then -1 else part*c.c1+i
theorem D1w{part i:Int}(h:0≤A0r c part i):(0≤part∧part<c.c0)∧(0≤i∧i<c.c1)∧A0r c part i=part*c.c1+i∧A0r c part i<A0s c:=by
 unfold A0r at h⊢
 split at h
 ·omega
 rename_i hn
 rw[if_neg hn]
 have h1:part+1≤c.c0:=by omega
 have h2:=Int.mul_le_mul_of_nonneg_right h1 (show 0≤c.c1 by omega)
 rw[Int.add_mul,Int.one_mul]at h2
 unfold A0s
 refine⟨by omega,by omega,rfl,by omega⟩
include hc in
theorem F7v(part i:Int):FX 85 (c.ds++[.int part,.int i])=some [.int (A0r c part i)]:=by
 have hb:=D1w c (part:=part) (i:=i)
 have hal:=A6z c hc
 unfold RU.Cf.ds
 dsimp only[List.cons_append,List.nil_append]
 rw[D2l]
 simp only[D.toInt_int]
 unfold A0r at hb⊢
 by_cases h1:part<0
 ·simp[h1]
 by_cases h2:part≥c.c0
 ·simp[h1,h2]
 by_cases h3:i<0
 ·simp[h1,h2,h3]
 by_cases h4:i≥c.c1
 ·simp[h1,h2,h3,h4]
 have hn:¬(part<0∨part≥c.c0∨i<0∨i≥c.c1):=by omega
 rw[if_neg hn]at hb⊢
 have h5:0≤part*c.c1:=Int.mul_nonneg (by omega) (by omega)
 have:=hb (by omega)
 rw[A1a (part*c.c1) (by omega) (by omega),A1a _ (by omega) (by omega)]
 simp only[h1,h2,h3,h4,decide_false,Bool.false_eq_true,if_false]
def A5b(c:Cf)(x:Int):Int:=if x<0∨x≥A0s c then -1 else x/c.c1
include hc in
theorem G7o(x:Int):FX 93 (c.ds++[.int x])=some [.int (A5b c x)]:=by
 have ha:=all_eq c hc
 have hb:=A6z c hc
 obtain⟨_,⟨h3,h4⟩,_⟩:=hc
 unfold RU.Cf.ds at ha⊢
 dsimp only[List.cons_append,List.nil_append]
 rw[D1q,ha]
 unfold A5b
 simp only[D.toInt_int,A0b,List.length_cons,List.length_nil,if_true,List.getD_cons_zero]
 by_cases h1:x<0
 ·simp[h1]
 by_cases h2:x≥A0s c
 ·simp[h1,h2]
 have h5:(c.c1 != 0)=true:=by simp;omega
 have h6:x.tdiv c.c1=x/c.c1:=Int.tdiv_eq_ediv_of_nonneg (by omega)
 have h7:0≤x/c.c1:=Int.ediv_nonneg (by omega) (by omega)
 have h8:x/c.c1≤x:=Int.ediv_le_self _ (by omega)
 rw[h6,A1a _ (by omega) (by omega)]
 simp only[h1,h2,h5,decide_false,Bool.false_eq_true,if_false,if_true,or_self]
def B1d(c:Cf)(p:Int):Int:=if p<1∨p>9999 then -1 else(p-1)*c.c3/9999
include hc in
theorem G2a(p:Int):-1≤B1d c p∧B1d c p<c.c3:=by
 obtain⟨_,_,_,⟨h3,h4⟩,_⟩:=hc
 unfold B1d
 split
 ·omega
 ·have h0:(p-1)*c.c3<9999*c.c3:=Int.mul_lt_mul_of_pos_right (by omega) (by omega)
  have h1:0≤(p-1)*c.c3:=Int.mul_nonneg (by omega) (by omega)
  omega
include hc in
theorem F6y(p:Int):FX 51 (c.ds++[.int p])=some [.int (B1d c p)]:=by
 obtain⟨_,_,_,⟨h3,h4⟩,_⟩:=hc
 unfold RU.Cf.ds
 dsimp only[List.cons_append,List.nil_append]
 rw[D4j]
 unfold B1d
 simp only[D.toInt_int]
 by_cases h1:p<1
 ·simp[h1]
 by_cases h2:p>9999
 ·simp[h1,h2]
 have h0:(p-1)*c.c3≤9998*4:=by
  have:=Int.mul_le_mul (show p-1≤9998 by omega) h4 (by omega) (by omega)
  exact this
 have h5:0≤(p-1)*c.c3:=Int.mul_nonneg (by omega) (by omega)
 rw[A1a (p-1) (by omega) (by omega),A1a ((p-1)*c.c3) (by omega) (by omega),Int.tdiv_eq_ediv_of_nonneg h5,A1a _ (by omega) (by omega)]
 simp only[h1,h2,decide_false,Bool.false_eq_true,if_false,or_self]
def C7q(c:Cf)(name band:Int):Int:=if name<0∨name≥c.c2∨band<0∨band≥c.c3 then -1 else name*c.c3+band
def A6h(c:Cf):Int:=c.c2*c.c3
include hc in
theorem C2z:1≤A6h c∧A6h c≤12:=by
 obtain⟨_,_,⟨h1,h2⟩,⟨h3,h4⟩,_⟩:=hc
 have a:c.c2=1∨c.c2=2∨c.c2=3:=by omega
 unfold A6h
 rcases a with a|a|a<;>rw[a]<;>omega
include hc in
theorem G4n:FX 25 c.ds=some [.int (A6h c)]:=by
 have:=C2z c hc
 unfold RU.Cf.ds
 rw[C9k]
 simp only[D.toInt_int]
 rw[A1a _ (by unfold A6h at this;omega) (by unfold A6h at this;omega)];rfl
include hc in
theorem F1g(name band:Int):FX 105 (c.ds++[.int name,.int band])=some [.int (C7q c name band)]:=by
 have hb:=C2z c hc
 unfold RU.Cf.ds
 dsimp only[List.cons_append,List.nil_append]
 rw[D1k]
 simp only[D.toInt_int]
 unfold C7q
 by_cases h1:name<0
 ·simp[h1]
 by_cases h2:name≥c.c2
 ·simp[h1,h2]
 by_cases h3:band<0
 ·simp[h1,h2,h3]
 by_cases h4:band≥c.c3
 ·simp[h1,h2,h3,h4]
 have h5:0≤name*c.c3:=Int.mul_nonneg (by omega) (by omega)
 have h6:=Int.mul_le_mul_of_nonneg_right (show name+1≤c.c2 by omega) (show 0≤c.c3 by omega)
 rw[Int.add_mul,Int.one_mul]at h6
 unfold A6h at hb
 rw[A1a (name*c.c3) (by omega) (by omega),A1a _ (by omega) (by omega)]
 simp only[h1,h2,h3,h4,decide_false,Bool.false_eq_true,if_false,or_self]
def B1u(c:Cf)(t:Tm):Int:=C7q c t.name (B1d c t.A0k)
include hc in
theorem G2x(t:Tm):FX 78 (c.ds++t.ds)=some [.int (B1u c t)]:=by
 have h1:=F6y c hc t.A0k
 have h2:=F1g c hc t.name (B1d c t.A0k)
 unfold RU.Cf.ds at h1 h2⊢
 unfold Tm.ds
 dsimp only[List.cons_append,List.nil_append]at h1 h2⊢
 rw[E7y,h1]
 simp only[A0b,List.length_cons,List.length_nil,if_true,List.getD_cons_zero,h2]
 rfl
def A7y(c:Cf)(x gen n:Int):Int:=if x<0∨x≥A0s c∨gen<1∨gen>c.c6∨n<0∨n>c.c5 then -1 else A0s c*2+(x*c.c6+gen-1)*(c.c5+1)+n
include hc in
theorem F6o(x gen n:Int):FX 84 (c.ds++[.int x,.int gen,.int n])=some [.int (A7y c x gen n)]:=by
 have ha:=all_eq c hc
 have hb:=A6z c hc
 obtain⟨_,_,_,_,_,⟨h3,h4⟩,h5,h6⟩:=hc
 unfold RU.Cf.ds at ha⊢
 dsimp only[List.cons_append,List.nil_append]
 rw[C9d,ha]
 unfold A7y
 simp only[D.toInt_int,A0b,List.length_cons,List.length_nil,if_true,List.getD_cons_zero]
 by_cases a1:x<0
 ·simp[a1]
 by_cases a2:x≥A0s c
 ·simp[a1,a2]
 by_cases a3:gen<1
 ·simp[a1,a2,a3]
 by_cases a4:gen>c.c6
 ·simp[a1,a2,a3,a4]
 by_cases a5:n<0
 ·simp[a1,a2,a3,a4,a5]
 by_cases a6:n>c.c5
 ·simp[a1,a2,a3,a4,a5,a6]
 have b1:0≤x*c.c6:=Int.mul_nonneg (by omega) (by omega)
 have b2:x*c.c6≤24*15:=Int.mul_le_mul (by omega) (by omega) (by omega) (by omega)
 have b3:0≤(x*c.c6+gen-1)*(c.c5+1):=Int.mul_nonneg (by omega) (by omega)
 have b4:(x*c.c6+gen-1)*(c.c5+1)≤(24*15+15)*5:=Int.mul_le_mul (by omega) (by omega) (by omega) (by omega)
 rw[A1a (A0s c*2) (by omega) (by omega),A1a (x*c.c6) (by omega) (by omega),A1a (x*c.c6+gen) (by omega) (by omega),A1a (x*c.c6+gen-1) (by omega) (by omega),A1a (c.c5+1) (by omega) (by omega),A1a ((x*c.c6+gen-1)*(c.c5+1)) (by omega) (by omega),A1a (A0s c*2+(x*c.c6+gen-1)*(c.c5+1)) (by omega) (by omega),A1a _ (by omega) (by omega)]
 simp only[a1,a2,a3,a4,a5,a6,decide_false,Bool.false_eq_true,if_false,or_self]
end
def F3a(a b:Int):Int:=a+(b-a)/2
theorem H3f(a b:Int)(h:a≤b)(h0:0≤a)(h1:b<65536):FX 131 [.int a,.int b]=some [.int (F3a a b)]:=by
 rw[F4w,F8a]
 have hn:¬b<a:=by omega
 simp only[D.toInt_int,hn,decide_false,Bool.false_eq_true,if_false,A0b,List.length_cons,List.length_nil,if_true,List.getD_cons_zero]
 rw[A1a (b-a) (by omega) (by omega),Int.tdiv_eq_ediv_of_nonneg (by omega),A1a ((b-a)/2) (by omega) (by omega),A1a (a+(b-a)/2) (by omega) (by omega),A1a _ (by omega) (by omega),Int.sub_zero]
 rfl
def A8m(a b buy sell:Tm)(l o:Int):Int × Int:=
 if buy.side≠0∨sell.side≠1∨a.name≠b.name then(0,0)
 else if buy.A0k<sell.A0k∨(if o<l then o else l)<1∨(if o<l then o else l)<(if b.least>a.least then b.least else a.least)then(0,0)
 else(if o<l then o else l,F3a sell.A0k buy.A0k)
def A7f(a b:Tm)(l o:Int):Int × Int:=if a.side=1 then A8m a b b a l o else A8m a b a b l o
theorem G8u(a b:Tm)(ha:a.sm)(hb:b.sm)(l o:Int):FX 123 (a.ds++b.ds++[.int l,.int o])=some [.int (A7f a b l o).1,.int (A7f a b l o).2]:=by
 have key:∀buy sell:Tm,buy.sm→sell.sm→B2l (.int a.name) (.int a.side) (.int a.A0k) (.int a.least) (.int a.A1o) (.int b.name) (.int b.side) (.int b.A0k) (.int b.least) (.int b.A1o) (.int l) (.int o) (buy.ds++sell.ds)=some [.int (A8m a b buy sell l o).1,.int (A8m a b buy sell l o).2]:=by
  intro buy sell h1 h2
  unfold Tm.ds A8m
  dsimp only[List.cons_append,List.nil_append]
  rw[D4s]
  have e:(if(decide ((D.int o).toInt<(D.int l).toInt))=true then D.int o else D.int l)=D.int (if o<l then o else l):=by
   simp only[D.toInt_int]
   by_cases h:o<l
   ·simp[h]
   ·simp[h]
  have e2:(if(decide ((D.int b.least).toInt>(D.int a.least).toInt))=true then D.int b.least else D.int a.least)=D.int (if b.least>a.least then b.least else a.least):=by
   simp only[D.toInt_int]
   by_cases h:b.least>a.least
   ·simp only[h,decide_true,if_true]
   ·simp only[h,decide_false,Bool.false_eq_true,if_false]
  dsimp only
  rw[e,e2]
  generalize (if o<l then o else l)=q
  generalize (if b.least>a.least then b.least else a.least)=m
  simp only[D.toInt_int]
  by_cases a1:buy.side=0
  ·by_cases a2:sell.side=1
   ·by_cases a3:a.name=b.name
    ·have a0:¬(buy.side≠0∨sell.side≠1∨a.name≠b.name):=by simp[a1,a2,a3]
     rw[if_neg a0]
     have s1:(buy.side != 0)=false:=by simp[a1]
     have s2:(sell.side != 1)=false:=by simp[a2]
     have s3:(a.name != b.name)=false:=by simp[a3]
     simp only[s1,s2,s3,Bool.false_eq_true,if_false]
     by_cases a4:buy.A0k<sell.A0k
     ·simp only[a4,decide_true,if_true,true_or]
     by_cases a5:q<1
     ·simp only[a4,a5,decide_true,decide_false,Bool.false_eq_true,if_false,if_true,true_or,or_true]
     by_cases a6:q<m
     ·simp only[a4,a5,a6,decide_true,decide_false,Bool.false_eq_true,if_false,if_true,or_true]
     have:=H3f sell.A0k buy.A0k (by omega) h2.2.2.1.1 h1.2.2.1.2
     simp only[a4,a5,a6,decide_false,Bool.false_eq_true,if_false,or_self,this,A0b,List.length_cons,List.length_nil,if_true,List.getD_cons_zero]
    ·simp[a1,a2,a3]
   ·simp[a1,a2]
  ·simp[a1]
 unfold A7f
 by_cases h:a.side=1
 ·have:=key b a hb ha
  unfold Tm.ds at this⊢
  dsimp only[List.cons_append,List.nil_append]at this⊢
  rw[D1d,if_pos h]
  simp only[D.toInt_int,h,beq_self_eq_true,if_true]at this⊢
  exact this
 ·have:=key a b ha hb
  unfold Tm.ds at this⊢
  dsimp only[List.cons_append,List.nil_append]at this⊢
  have h':(a.side == 1)=false:=by simp[h]
  rw[D1d,if_neg h]
  simp only[D.toInt_int,h',Bool.false_eq_true,if_false]
  exact this
end
def wN(x:Nat):D:=D.int (x:Int)
theorem C8r(x:Nat):(wN x).toInt=(x:Int):=rfl
theorem H3d(x:Nat):(wN x).isNil=false:=rfl
theorem rng{n:Nat}{l:List D}(h:l.length=n):((List.range n).map fun j=>l.getD j D.nil)=l:=by
 subst h
 apply List.ext_getElem
 ·simp
 ·intro i h1 h2
  simp[List.getD_eq_getElem?_getD,List.getElem?_eq_getElem h2]
def St.d(s:St):D:=.agg s.ds
theorem St.len(s:St):s.ds.length=5:=by simp only[St.ds,List.length_cons,List.length_nil]
theorem St.A1l(s:St):s.ds.getD 0 D.nil=.int s.k:=rfl
theorem St.A1j(s:St):s.ds.getD 1 D.nil=.bool s.f:=rfl
theorem St.A1v(s:St):s.ds.getD 2 D.nil=.int s.g:=rfl
theorem St.A2b(s:St):s.ds.getD 3 D.nil=.int s.l:=rfl
theorem St.A1w(s:St):s.ds.getD 4 D.nil=.int s.n:=rfl
def Tm.d(s:Tm):D:=.agg s.ds
theorem Tm.len(s:Tm):s.ds.length=5:=by simp only[Tm.ds,List.length_cons,List.length_nil]
theorem Tm.A1l(s:Tm):s.ds.getD 0 D.nil=.int s.name:=rfl
theorem Tm.A1j(s:Tm):s.ds.getD 1 D.nil=.int s.side:=rfl
theorem Tm.A1v(s:Tm):s.ds.getD 2 D.nil=.int s.A0k:=rfl
theorem Tm.A2b(s:Tm):s.ds.getD 3 D.nil=.int s.least:=rfl
theorem Tm.A1w(s:Tm):s.ds.getD 4 D.nil=.int s.A1o:=rfl
def Rc.d(s:Rc):D:=.agg s.ds
theorem Rc.len(s:Rc):s.ds.length=6:=by simp only[Rc.ds,List.length_cons,List.length_nil]
theorem Rc.A1l(s:Rc):s.ds.getD 0 D.nil=.int s.k:=rfl
theorem Rc.A1j(s:Rc):s.ds.getD 1 D.nil=.int s.q:=rfl
theorem Rc.A1v(s:Rc):s.ds.getD 2 D.nil=.int s.p:=rfl
theorem Rc.A2b(s:Rc):s.ds.getD 3 D.nil=.int s.t:=rfl
theorem Rc.A1w(s:Rc):s.ds.getD 4 D.nil=.int s.c:=rfl
theorem Rc.A3g(s:Rc):s.ds.getD 5 D.nil=.int s.g:=rfl
theorem Cf.len(s:Cf):s.ds.length=7:=by simp only[RU.Cf.ds,List.length_cons,List.length_nil]
theorem Cf.A1l(s:Cf):s.ds.getD 0 D.nil=.int s.c0:=rfl
theorem Cf.A1j(s:Cf):s.ds.getD 1 D.nil=.int s.c1:=rfl
theorem Cf.A1v(s:Cf):s.ds.getD 2 D.nil=.int s.c2:=rfl
theorem Cf.A2b(s:Cf):s.ds.getD 3 D.nil=.int s.c3:=rfl
theorem Cf.A1w(s:Cf):s.ds.getD 4 D.nil=.int s.c4:=rfl
theorem Cf.A3g(s:Cf):s.ds.getD 5 D.nil=.int s.c5:=rfl
theorem Cf.A4q(s:Cf):s.ds.getD 6 D.nil=.int s.c6:=rfl
structure Ask where
 kind:Int
 id:Int
 cell:Int
 tm:Tm
 qty:Int
def Ask.ds(s:Ask):List D:=[.int s.kind,.int s.id,.int s.cell,.int s.tm.name,.int s.tm.side,.int s.tm.A0k,.int s.tm.least,.int s.tm.A1o,.int s.qty]
def Ask.d(s:Ask):D:=.agg s.ds
theorem Ask.len(s:Ask):s.ds.length=9:=by simp only[Ask.ds,List.length_cons,List.length_nil]
theorem Ask.A1l(s:Ask):s.ds.getD 0 D.nil=.int s.kind:=rfl
theorem Ask.A1j(s:Ask):s.ds.getD 1 D.nil=.int s.id:=rfl
theorem Ask.A1v(s:Ask):s.ds.getD 2 D.nil=.int s.cell:=rfl
theorem Ask.A2b(s:Ask):s.ds.getD 3 D.nil=.int s.tm.name:=rfl
theorem Ask.A1w(s:Ask):s.ds.getD 4 D.nil=.int s.tm.side:=rfl
theorem Ask.A3g(s:Ask):s.ds.getD 5 D.nil=.int s.tm.A0k:=rfl
theorem Ask.A4q(s:Ask):s.ds.getD 6 D.nil=.int s.tm.least:=rfl
theorem Ask.A7r(s:Ask):s.ds.getD 7 D.nil=.int s.tm.A1o:=rfl
theorem Ask.A5t(s:Ask):s.ds.getD 8 D.nil=.int s.qty:=rfl
structure Aim where
 way:Int
 x:Int
 gen:Int
 y:Int
 A3s:Int
def Aim.ds(s:Aim):List D:=[.int s.way,.int s.x,.int s.gen,.int s.y,.int s.A3s]
def Aim.d(s:Aim):D:=.agg s.ds
theorem Aim.len(s:Aim):s.ds.length=5:=by simp only[Aim.ds,List.length_cons,List.length_nil]
theorem Aim.A1l(s:Aim):s.ds.getD 0 D.nil=.int s.way:=rfl
theorem Aim.A1j(s:Aim):s.ds.getD 1 D.nil=.int s.x:=rfl
theorem Aim.A1v(s:Aim):s.ds.getD 2 D.nil=.int s.gen:=rfl
theorem Aim.A2b(s:Aim):s.ds.getD 3 D.nil=.int s.y:=rfl
theorem Aim.A1w(s:Aim):s.ds.getD 4 D.nil=.int s.A3s:=rfl
structure A5c where
 kind:Int
 left:Int
 E9p:Int
def A5c.ds(s:A5c):List D:=[.int s.kind,.int s.left,.int s.E9p]
def A5c.d(s:A5c):D:=.agg s.ds
theorem A5c.len(s:A5c):s.ds.length=3:=by simp only[A5c.ds,List.length_cons,List.length_nil]
theorem A5c.A1l(s:A5c):s.ds.getD 0 D.nil=.int s.kind:=rfl
theorem A5c.A1j(s:A5c):s.ds.getD 1 D.nil=.int s.left:=rfl
theorem A5c.A1v(s:A5c):s.ds.getD 2 D.nil=.int s.E9p:=rfl
structure Ev where
 kind:Int
 cell:Int
 gen:Int
 other:Int
 wth:Int
 tm:Tm
 qty:Int
 A0k:Int
 tick:Int
 fin:Int
def Ev.ds(s:Ev):List D:=[.int s.kind,.int s.cell,.int s.gen,.int s.other,.int s.wth,.int s.tm.name,.int s.tm.side,.int s.tm.A0k,.int s.tm.least,.int s.tm.A1o,.int s.qty,.int s.A0k,.int s.tick,.int s.fin]
def Ev.d(s:Ev):D:=.agg s.ds
theorem Ev.len(s:Ev):s.ds.length=14:=by simp only[Ev.ds,List.length_cons,List.length_nil]
theorem Ev.A1l(s:Ev):s.ds.getD 0 D.nil=.int s.kind:=rfl
theorem Ev.A1j(s:Ev):s.ds.getD 1 D.nil=.int s.cell:=rfl
theorem Ev.A1v(s:Ev):s.ds.getD 2 D.nil=.int s.gen:=rfl
theorem Ev.A2b(s:Ev):s.ds.getD 3 D.nil=.int s.other:=rfl
theorem Ev.A1w(s:Ev):s.ds.getD 4 D.nil=.int s.wth:=rfl
theorem Ev.A3g(s:Ev):s.ds.getD 5 D.nil=.int s.tm.name:=rfl
theorem Ev.A4q(s:Ev):s.ds.getD 6 D.nil=.int s.tm.side:=rfl
theorem Ev.A7r(s:Ev):s.ds.getD 7 D.nil=.int s.tm.A0k:=rfl
theorem Ev.A5t(s:Ev):s.ds.getD 8 D.nil=.int s.tm.least:=rfl
theorem Ev.A5u(s:Ev):s.ds.getD 9 D.nil=.int s.tm.A1o:=rfl
theorem Ev.B2n(s:Ev):s.ds.getD 10 D.nil=.int s.qty:=rfl
theorem Ev.A9i(s:Ev):s.ds.getD 11 D.nil=.int s.A0k:=rfl
theorem Ev.A8u(s:Ev):s.ds.getD 12 D.nil=.int s.tick:=rfl
theorem Ev.A9f(s:Ev):s.ds.getD 13 D.nil=.int s.fin:=rfl
structure Cur where
 gen:Int
 n:Int
def Cur.ds(s:Cur):List D:=[.int s.gen,.int s.n]
def Cur.d(s:Cur):D:=.agg s.ds
theorem Cur.len(s:Cur):s.ds.length=2:=by simp only[Cur.ds,List.length_cons,List.length_nil]
theorem Cur.A1l(s:Cur):s.ds.getD 0 D.nil=.int s.gen:=rfl
theorem Cur.A1j(s:Cur):s.ds.getD 1 D.nil=.int s.n:=rfl
structure Qe where
 a:Ask
 ev:Int
def Qe.ds(s:Qe):List D:=[.int s.a.kind,.int s.a.id,.int s.a.cell,.int s.a.tm.name,.int s.a.tm.side,.int s.a.tm.A0k,.int s.a.tm.least,.int s.a.tm.A1o,.int s.a.qty,.int s.ev]
def Qe.d(s:Qe):D:=.agg s.ds
theorem Qe.len(s:Qe):s.ds.length=10:=by simp only[Qe.ds,List.length_cons,List.length_nil]
theorem Qe.A1l(s:Qe):s.ds.getD 0 D.nil=.int s.a.kind:=rfl
theorem Qe.A1j(s:Qe):s.ds.getD 1 D.nil=.int s.a.id:=rfl
theorem Qe.A1v(s:Qe):s.ds.getD 2 D.nil=.int s.a.cell:=rfl
theorem Qe.A2b(s:Qe):s.ds.getD 3 D.nil=.int s.a.tm.name:=rfl
theorem Qe.A1w(s:Qe):s.ds.getD 4 D.nil=.int s.a.tm.side:=rfl
theorem Qe.A3g(s:Qe):s.ds.getD 5 D.nil=.int s.a.tm.A0k:=rfl
theorem Qe.A4q(s:Qe):s.ds.getD 6 D.nil=.int s.a.tm.least:=rfl
theorem Qe.A7r(s:Qe):s.ds.getD 7 D.nil=.int s.a.tm.A1o:=rfl
theorem Qe.A5t(s:Qe):s.ds.getD 8 D.nil=.int s.a.qty:=rfl
theorem Qe.A5u(s:Qe):s.ds.getD 9 D.nil=.int s.ev:=rfl
structure Dr where
 n:Int
 ev:Int
def Dr.ds(s:Dr):List D:=[.int s.n,.int s.ev]
def Dr.d(s:Dr):D:=.agg s.ds
theorem Dr.len(s:Dr):s.ds.length=2:=by simp only[Dr.ds,List.length_cons,List.length_nil]
theorem Dr.A1l(s:Dr):s.ds.getD 0 D.nil=.int s.n:=rfl
theorem Dr.A1j(s:Dr):s.ds.getD 1 D.nil=.int s.ev:=rfl
structure Rep where
 kind:Int
 code:Int
 tick:Int
 id:Int
 cell:Int
 asked:Bool
 rc:Rc
 looks:List A5c
def Rep.ds(s:Rep):List D:=[.int s.kind,.int s.code,.int s.tick,.int s.id,.int s.cell,.bool s.asked,.int s.rc.k,.int s.rc.q,.int s.rc.p,.int s.rc.t,.int s.rc.c,.int s.rc.g,.agg (s.looks.map A5c.d)]
def Rep.d(s:Rep):D:=.agg s.ds
theorem Rep.len(s:Rep):s.ds.length=13:=by simp only[Rep.ds,List.length_cons,List.length_nil]
theorem Rep.A1l(s:Rep):s.ds.getD 0 D.nil=.int s.kind:=rfl
theorem Rep.A1j(s:Rep):s.ds.getD 1 D.nil=.int s.code:=rfl
theorem Rep.A1v(s:Rep):s.ds.getD 2 D.nil=.int s.tick:=rfl
theorem Rep.A2b(s:Rep):s.ds.getD 3 D.nil=.int s.id:=rfl
theorem Rep.A1w(s:Rep):s.ds.getD 4 D.nil=.int s.cell:=rfl
theorem Rep.A3g(s:Rep):s.ds.getD 5 D.nil=.bool s.asked:=rfl
theorem Rep.A4q(s:Rep):s.ds.getD 6 D.nil=.int s.rc.k:=rfl
theorem Rep.A7r(s:Rep):s.ds.getD 7 D.nil=.int s.rc.q:=rfl
theorem Rep.A5t(s:Rep):s.ds.getD 8 D.nil=.int s.rc.p:=rfl
theorem Rep.A5u(s:Rep):s.ds.getD 9 D.nil=.int s.rc.t:=rfl
theorem Rep.B2n(s:Rep):s.ds.getD 10 D.nil=.int s.rc.c:=rfl
theorem Rep.A9i(s:Rep):s.ds.getD 11 D.nil=.int s.rc.g:=rfl
theorem Rep.A8u(s:Rep):s.ds.getD 12 D.nil=.agg (s.looks.map A5c.d):=rfl
structure Out where
 part:Int
 ev:Int
 r:Rep
def Out.ds(s:Out):List D:=[.int s.part,.int s.ev,.int s.r.kind,.int s.r.code,.int s.r.tick,.int s.r.id,.int s.r.cell,.bool s.r.asked,.int s.r.rc.k,.int s.r.rc.q,.int s.r.rc.p,.int s.r.rc.t,.int s.r.rc.c,.int s.r.rc.g,.agg (s.r.looks.map A5c.d)]
def Out.d(s:Out):D:=.agg s.ds
theorem Out.len(s:Out):s.ds.length=15:=by simp only[Out.ds,List.length_cons,List.length_nil]
theorem Out.A1l(s:Out):s.ds.getD 0 D.nil=.int s.part:=rfl
theorem Out.A1j(s:Out):s.ds.getD 1 D.nil=.int s.ev:=rfl
theorem Out.A1v(s:Out):s.ds.getD 2 D.nil=.int s.r.kind:=rfl
theorem Out.A2b(s:Out):s.ds.getD 3 D.nil=.int s.r.code:=rfl
theorem Out.A1w(s:Out):s.ds.getD 4 D.nil=.int s.r.tick:=rfl
theorem Out.A3g(s:Out):s.ds.getD 5 D.nil=.int s.r.id:=rfl
theorem Out.A4q(s:Out):s.ds.getD 6 D.nil=.int s.r.cell:=rfl
theorem Out.A7r(s:Out):s.ds.getD 7 D.nil=.bool s.r.asked:=rfl
theorem Out.A5t(s:Out):s.ds.getD 8 D.nil=.int s.r.rc.k:=rfl
theorem Out.A5u(s:Out):s.ds.getD 9 D.nil=.int s.r.rc.q:=rfl
theorem Out.B2n(s:Out):s.ds.getD 10 D.nil=.int s.r.rc.p:=rfl
theorem Out.A9i(s:Out):s.ds.getD 11 D.nil=.int s.r.rc.t:=rfl
theorem Out.A8u(s:Out):s.ds.getD 12 D.nil=.int s.r.rc.c:=rfl
theorem Out.A9f(s:Out):s.ds.getD 13 D.nil=.int s.r.rc.g:=rfl
theorem Out.B2g(s:Out):s.ds.getD 14 D.nil=.agg (s.r.looks.map A5c.d):=rfl
structure A0a where
 a:Aim
 pc:Int
 wx:Nat
 wy:Nat
 tx:Tm
 ty:Tm
 held:Bool
 made:Bool
 free:Bool
 q:Int
 p:Int
 at_:Int
 fin:Int
 nx:St
 ny:St
def A0a.ds(s:A0a):List D:=[.int s.a.way,.int s.a.x,.int s.a.gen,.int s.a.y,.int s.a.A3s,.int s.pc,wN s.wx,wN s.wy,.int s.tx.name,.int s.tx.side,.int s.tx.A0k,.int s.tx.least,.int s.tx.A1o,.int s.ty.name,.int s.ty.side,.int s.ty.A0k,.int s.ty.least,.int s.ty.A1o,.bool s.held,.bool s.made,.bool s.free,.int s.q,.int s.p,.int s.at_,.int s.fin,.int s.nx.k,.bool s.nx.f,.int s.nx.g,.int s.nx.l,.int s.nx.n,.int s.ny.k,.bool s.ny.f,.int s.ny.g,.int s.ny.l,.int s.ny.n]
theorem A0a.len(s:A0a):s.ds.length=35:=by simp only[A0a.ds,List.length_cons,List.length_nil]
theorem A0a.rng(s:A0a):((List.range 35).map fun j=>s.ds.getD j D.nil)=s.ds:=P.rng s.len
theorem A0a.A1l(s:A0a):s.ds.getD 0 D.nil=.int s.a.way:=rfl
theorem A0a.B7p(s:A0a)(x:Int):s.ds.set 0 (.int x)=A0a.ds {s with a:={s.a with way:=x}}:=rfl
theorem A0a.A1j(s:A0a):s.ds.getD 1 D.nil=.int s.a.x:=rfl
theorem A0a.B2t(s:A0a)(x:Int):s.ds.set 1 (.int x)=A0a.ds {s with a:={s.a with x:=x}}:=rfl
theorem A0a.A1v(s:A0a):s.ds.getD 2 D.nil=.int s.a.gen:=rfl
theorem A0a.B5j(s:A0a)(x:Int):s.ds.set 2 (.int x)=A0a.ds {s with a:={s.a with gen:=x}}:=rfl
theorem A0a.A2b(s:A0a):s.ds.getD 3 D.nil=.int s.a.y:=rfl
theorem A0a.B5m(s:A0a)(x:Int):s.ds.set 3 (.int x)=A0a.ds {s with a:={s.a with y:=x}}:=rfl
theorem A0a.A1w(s:A0a):s.ds.getD 4 D.nil=.int s.a.A3s:=rfl
theorem A0a.A9t(s:A0a)(x:Int):s.ds.set 4 (.int x)=A0a.ds {s with a:={s.a with A3s:=x}}:=rfl
theorem A0a.A3g(s:A0a):s.ds.getD 5 D.nil=.int s.pc:=rfl
theorem A0a.B5h(s:A0a)(x:Int):s.ds.set 5 (.int x)=A0a.ds {s with pc:=x}:=rfl
theorem A0a.A4q(s:A0a):s.ds.getD 6 D.nil=wN s.wx:=rfl
theorem A0a.B7f(s:A0a)(x:Nat):s.ds.set 6 (wN x)=A0a.ds {s with wx:=x}:=rfl
theorem A0a.A7r(s:A0a):s.ds.getD 7 D.nil=wN s.wy:=rfl
theorem A0a.C8p(s:A0a)(x:Nat):s.ds.set 7 (wN x)=A0a.ds {s with wy:=x}:=rfl
theorem A0a.A5t(s:A0a):s.ds.getD 8 D.nil=.int s.tx.name:=rfl
theorem A0a.D9g(s:A0a)(x:Int):s.ds.set 8 (.int x)=A0a.ds {s with tx:={s.tx with name:=x}}:=rfl
theorem A0a.A5u(s:A0a):s.ds.getD 9 D.nil=.int s.tx.side:=rfl
theorem A0a.B6j(s:A0a)(x:Int):s.ds.set 9 (.int x)=A0a.ds {s with tx:={s.tx with side:=x}}:=rfl
theorem A0a.B2n(s:A0a):s.ds.getD 10 D.nil=.int s.tx.A0k:=rfl
theorem A0a.D5n(s:A0a)(x:Int):s.ds.set 10 (.int x)=A0a.ds {s with tx:={s.tx with A0k:=x}}:=rfl
theorem A0a.A9i(s:A0a):s.ds.getD 11 D.nil=.int s.tx.least:=rfl
theorem A0a.C5d(s:A0a)(x:Int):s.ds.set 11 (.int x)=A0a.ds {s with tx:={s.tx with least:=x}}:=rfl
theorem A0a.A8u(s:A0a):s.ds.getD 12 D.nil=.int s.tx.A1o:=rfl
theorem A0a.C5o(s:A0a)(x:Int):s.ds.set 12 (.int x)=A0a.ds {s with tx:={s.tx with A1o:=x}}:=rfl
theorem A0a.A9f(s:A0a):s.ds.getD 13 D.nil=.int s.ty.name:=rfl
theorem A0a.C4o(s:A0a)(x:Int):s.ds.set 13 (.int x)=A0a.ds {s with ty:={s.ty with name:=x}}:=rfl
theorem A0a.B2g(s:A0a):s.ds.getD 14 D.nil=.int s.ty.side:=rfl
theorem A0a.C1b(s:A0a)(x:Int):s.ds.set 14 (.int x)=A0a.ds {s with ty:={s.ty with side:=x}}:=rfl
theorem A0a.B6b(s:A0a):s.ds.getD 15 D.nil=.int s.ty.A0k:=rfl
theorem A0a.C8o(s:A0a)(x:Int):s.ds.set 15 (.int x)=A0a.ds {s with ty:={s.ty with A0k:=x}}:=rfl
theorem A0a.E2h(s:A0a):s.ds.getD 16 D.nil=.int s.ty.least:=rfl
theorem A0a.F9o(s:A0a)(x:Int):s.ds.set 16 (.int x)=A0a.ds {s with ty:={s.ty with least:=x}}:=rfl
theorem A0a.C4l(s:A0a):s.ds.getD 17 D.nil=.int s.ty.A1o:=rfl
theorem A0a.D4v(s:A0a)(x:Int):s.ds.set 17 (.int x)=A0a.ds {s with ty:={s.ty with A1o:=x}}:=rfl
theorem A0a.C9n(s:A0a):s.ds.getD 18 D.nil=.bool s.held:=rfl
theorem A0a.G9l(s:A0a)(x:Bool):s.ds.set 18 (.bool x)=A0a.ds {s with held:=x}:=rfl
theorem A0a.D5e(s:A0a):s.ds.getD 19 D.nil=.bool s.made:=rfl
theorem A0a.F9t(s:A0a)(x:Bool):s.ds.set 19 (.bool x)=A0a.ds {s with made:=x}:=rfl
theorem A0a.C9s(s:A0a):s.ds.getD 20 D.nil=.bool s.free:=rfl
theorem A0a.E1z(s:A0a)(x:Bool):s.ds.set 20 (.bool x)=A0a.ds {s with free:=x}:=rfl
theorem A0a.D0u(s:A0a):s.ds.getD 21 D.nil=.int s.q:=rfl
theorem A0a.E9b(s:A0a)(x:Int):s.ds.set 21 (.int x)=A0a.ds {s with q:=x}:=rfl
theorem A0a.E0t(s:A0a):s.ds.getD 22 D.nil=.int s.p:=rfl
theorem A0a.E9a(s:A0a)(x:Int):s.ds.set 22 (.int x)=A0a.ds {s with p:=x}:=rfl
theorem A0a.D9r(s:A0a):s.ds.getD 23 D.nil=.int s.at_:=rfl
theorem A0a.G0p(s:A0a)(x:Int):s.ds.set 23 (.int x)=A0a.ds {s with at_:=x}:=rfl
theorem A0a.E9m(s:A0a):s.ds.getD 24 D.nil=.int s.fin:=rfl
theorem A0a.F9z(s:A0a)(x:Int):s.ds.set 24 (.int x)=A0a.ds {s with fin:=x}:=rfl
theorem A0a.E8q(s:A0a):s.ds.getD 25 D.nil=.int s.nx.k:=rfl
theorem A0a.E0z(s:A0a)(x:Int):s.ds.set 25 (.int x)=A0a.ds {s with nx:={s.nx with k:=x}}:=rfl
theorem A0a.E8x(s:A0a):s.ds.getD 26 D.nil=.bool s.nx.f:=rfl
theorem A0a.E3i(s:A0a)(x:Bool):s.ds.set 26 (.bool x)=A0a.ds {s with nx:={s.nx with f:=x}}:=rfl
theorem A0a.E9c(s:A0a):s.ds.getD 27 D.nil=.int s.nx.g:=rfl
theorem A0a.E2w(s:A0a)(x:Int):s.ds.set 27 (.int x)=A0a.ds {s with nx:={s.nx with g:=x}}:=rfl
theorem A0a.E9g(s:A0a):s.ds.getD 28 D.nil=.int s.nx.l:=rfl
theorem A0a.E2g(s:A0a)(x:Int):s.ds.set 28 (.int x)=A0a.ds {s with nx:={s.nx with l:=x}}:=rfl
theorem A0a.E9k(s:A0a):s.ds.getD 29 D.nil=.int s.nx.n:=rfl
theorem A0a.D9z(s:A0a)(x:Int):s.ds.set 29 (.int x)=A0a.ds {s with nx:={s.nx with n:=x}}:=rfl
theorem A0a.E9o(s:A0a):s.ds.getD 30 D.nil=.int s.ny.k:=rfl
theorem A0a.E9e(s:A0a)(x:Int):s.ds.set 30 (.int x)=A0a.ds {s with ny:={s.ny with k:=x}}:=rfl
theorem A0a.E9q(s:A0a):s.ds.getD 31 D.nil=.bool s.ny.f:=rfl
theorem A0a.E8u(s:A0a)(x:Bool):s.ds.set 31 (.bool x)=A0a.ds {s with ny:={s.ny with f:=x}}:=rfl
theorem A0a.E9i(s:A0a):s.ds.getD 32 D.nil=.int s.ny.g:=rfl
theorem A0a.E8o(s:A0a)(x:Int):s.ds.set 32 (.int x)=A0a.ds {s with ny:={s.ny with g:=x}}:=rfl
theorem A0a.E9h(s:A0a):s.ds.getD 33 D.nil=.int s.ny.l:=rfl
theorem A0a.E8v(s:A0a)(x:Int):s.ds.set 33 (.int x)=A0a.ds {s with ny:={s.ny with l:=x}}:=rfl
theorem A0a.E1s(s:A0a):s.ds.getD 34 D.nil=.int s.ny.n:=rfl
theorem A0a.E8p(s:A0a)(x:Int):s.ds.set 34 (.int x)=A0a.ds {s with ny:={s.ny with n:=x}}:=rfl
structure PrS where
 a:Ask
 pc:Int
 word:Nat
 st:St
 tries:Int
 done:Int
 at_:Int
 p:D
 n:Int
 A5i:List Aim
 r0:Rc
 r1:Rc
 looks:List A5c
 draw:D
def PrS.ds(s:PrS):List D:=[.int s.a.kind,.int s.a.id,.int s.a.cell,.int s.a.tm.name,.int s.a.tm.side,.int s.a.tm.A0k,.int s.a.tm.least,.int s.a.tm.A1o,.int s.a.qty,.int s.pc,wN s.word,.int s.st.k,.bool s.st.f,.int s.st.g,.int s.st.l,.int s.st.n,.int s.tries,.int s.done,.int s.at_,s.p,.int s.n,.agg (s.A5i.map Aim.d),.int s.r0.k,.int s.r0.q,.int s.r0.p,.int s.r0.t,.int s.r0.c,.int s.r0.g,.int s.r1.k,.int s.r1.q,.int s.r1.p,.int s.r1.t,.int s.r1.c,.int s.r1.g,.agg (s.looks.map A5c.d),s.draw]
theorem PrS.len(s:PrS):s.ds.length=36:=by simp only[PrS.ds,List.length_cons,List.length_nil]
theorem PrS.rng(s:PrS):((List.range 36).map fun j=>s.ds.getD j D.nil)=s.ds:=P.rng s.len
theorem PrS.A1l(s:PrS):s.ds.getD 0 D.nil=.int s.a.kind:=rfl
theorem PrS.B7p(s:PrS)(x:Int):s.ds.set 0 (.int x)=PrS.ds {s with a:={s.a with kind:=x}}:=rfl
theorem PrS.A1j(s:PrS):s.ds.getD 1 D.nil=.int s.a.id:=rfl
theorem PrS.B2t(s:PrS)(x:Int):s.ds.set 1 (.int x)=PrS.ds {s with a:={s.a with id:=x}}:=rfl
theorem PrS.A1v(s:PrS):s.ds.getD 2 D.nil=.int s.a.cell:=rfl
theorem PrS.B5j(s:PrS)(x:Int):s.ds.set 2 (.int x)=PrS.ds {s with a:={s.a with cell:=x}}:=rfl
theorem PrS.A2b(s:PrS):s.ds.getD 3 D.nil=.int s.a.tm.name:=rfl
theorem PrS.B5m(s:PrS)(x:Int):s.ds.set 3 (.int x)=PrS.ds {s with a:={s.a with tm:={s.a.tm with name:=x}}}:=rfl
theorem PrS.A1w(s:PrS):s.ds.getD 4 D.nil=.int s.a.tm.side:=rfl
theorem PrS.A9t(s:PrS)(x:Int):s.ds.set 4 (.int x)=PrS.ds {s with a:={s.a with tm:={s.a.tm with side:=x}}}:=rfl
theorem PrS.A3g(s:PrS):s.ds.getD 5 D.nil=.int s.a.tm.A0k:=rfl
theorem PrS.B5h(s:PrS)(x:Int):s.ds.set 5 (.int x)=PrS.ds {s with a:={s.a with tm:={s.a.tm with A0k:=x}}}:=rfl
theorem PrS.A4q(s:PrS):s.ds.getD 6 D.nil=.int s.a.tm.least:=rfl
theorem PrS.B7f(s:PrS)(x:Int):s.ds.set 6 (.int x)=PrS.ds {s with a:={s.a with tm:={s.a.tm with least:=x}}}:=rfl
theorem PrS.A7r(s:PrS):s.ds.getD 7 D.nil=.int s.a.tm.A1o:=rfl
theorem PrS.C8p(s:PrS)(x:Int):s.ds.set 7 (.int x)=PrS.ds {s with a:={s.a with tm:={s.a.tm with A1o:=x}}}:=rfl
theorem PrS.A5t(s:PrS):s.ds.getD 8 D.nil=.int s.a.qty:=rfl
theorem PrS.D9g(s:PrS)(x:Int):s.ds.set 8 (.int x)=PrS.ds {s with a:={s.a with qty:=x}}:=rfl
theorem PrS.A5u(s:PrS):s.ds.getD 9 D.nil=.int s.pc:=rfl
theorem PrS.B6j(s:PrS)(x:Int):s.ds.set 9 (.int x)=PrS.ds {s with pc:=x}:=rfl
theorem PrS.B2n(s:PrS):s.ds.getD 10 D.nil=wN s.word:=rfl
theorem PrS.D5n(s:PrS)(x:Nat):s.ds.set 10 (wN x)=PrS.ds {s with word:=x}:=rfl
theorem PrS.A9i(s:PrS):s.ds.getD 11 D.nil=.int s.st.k:=rfl
theorem PrS.C5d(s:PrS)(x:Int):s.ds.set 11 (.int x)=PrS.ds {s with st:={s.st with k:=x}}:=rfl
theorem PrS.A8u(s:PrS):s.ds.getD 12 D.nil=.bool s.st.f:=rfl
theorem PrS.C5o(s:PrS)(x:Bool):s.ds.set 12 (.bool x)=PrS.ds {s with st:={s.st with f:=x}}:=rfl
theorem PrS.A9f(s:PrS):s.ds.getD 13 D.nil=.int s.st.g:=rfl
theorem PrS.C4o(s:PrS)(x:Int):s.ds.set 13 (.int x)=PrS.ds {s with st:={s.st with g:=x}}:=rfl
theorem PrS.B2g(s:PrS):s.ds.getD 14 D.nil=.int s.st.l:=rfl
theorem PrS.C1b(s:PrS)(x:Int):s.ds.set 14 (.int x)=PrS.ds {s with st:={s.st with l:=x}}:=rfl
theorem PrS.B6b(s:PrS):s.ds.getD 15 D.nil=.int s.st.n:=rfl
theorem PrS.C8o(s:PrS)(x:Int):s.ds.set 15 (.int x)=PrS.ds {s with st:={s.st with n:=x}}:=rfl
theorem PrS.E2h(s:PrS):s.ds.getD 16 D.nil=.int s.tries:=rfl
theorem PrS.F9o(s:PrS)(x:Int):s.ds.set 16 (.int x)=PrS.ds {s with tries:=x}:=rfl
theorem PrS.C4l(s:PrS):s.ds.getD 17 D.nil=.int s.done:=rfl
theorem PrS.D4v(s:PrS)(x:Int):s.ds.set 17 (.int x)=PrS.ds {s with done:=x}:=rfl
theorem PrS.C9n(s:PrS):s.ds.getD 18 D.nil=.int s.at_:=rfl
theorem PrS.G9l(s:PrS)(x:Int):s.ds.set 18 (.int x)=PrS.ds {s with at_:=x}:=rfl
theorem PrS.D5e(s:PrS):s.ds.getD 19 D.nil=s.p:=rfl
theorem PrS.F9t(s:PrS)(x:D):s.ds.set 19 (x)=PrS.ds {s with p:=x}:=rfl
theorem PrS.C9s(s:PrS):s.ds.getD 20 D.nil=.int s.n:=rfl
theorem PrS.E1z(s:PrS)(x:Int):s.ds.set 20 (.int x)=PrS.ds {s with n:=x}:=rfl
theorem PrS.D0u(s:PrS):s.ds.getD 21 D.nil=.agg (s.A5i.map Aim.d):=rfl
theorem PrS.E9b(s:PrS)(x:List Aim):s.ds.set 21 (.agg (x.map Aim.d))=PrS.ds {s with A5i:=x}:=rfl
theorem PrS.E0t(s:PrS):s.ds.getD 22 D.nil=.int s.r0.k:=rfl
theorem PrS.E9a(s:PrS)(x:Int):s.ds.set 22 (.int x)=PrS.ds {s with r0:={s.r0 with k:=x}}:=rfl
theorem PrS.D9r(s:PrS):s.ds.getD 23 D.nil=.int s.r0.q:=rfl
theorem PrS.G0p(s:PrS)(x:Int):s.ds.set 23 (.int x)=PrS.ds {s with r0:={s.r0 with q:=x}}:=rfl
theorem PrS.E9m(s:PrS):s.ds.getD 24 D.nil=.int s.r0.p:=rfl
theorem PrS.F9z(s:PrS)(x:Int):s.ds.set 24 (.int x)=PrS.ds {s with r0:={s.r0 with p:=x}}:=rfl
theorem PrS.E8q(s:PrS):s.ds.getD 25 D.nil=.int s.r0.t:=rfl
theorem PrS.E0z(s:PrS)(x:Int):s.ds.set 25 (.int x)=PrS.ds {s with r0:={s.r0 with t:=x}}:=rfl
theorem PrS.E8x(s:PrS):s.ds.getD 26 D.nil=.int s.r0.c:=rfl
theorem PrS.E3i(s:PrS)(x:Int):s.ds.set 26 (.int x)=PrS.ds {s with r0:={s.r0 with c:=x}}:=rfl
theorem PrS.E9c(s:PrS):s.ds.getD 27 D.nil=.int s.r0.g:=rfl
theorem PrS.E2w(s:PrS)(x:Int):s.ds.set 27 (.int x)=PrS.ds {s with r0:={s.r0 with g:=x}}:=rfl
theorem PrS.E9g(s:PrS):s.ds.getD 28 D.nil=.int s.r1.k:=rfl
theorem PrS.E2g(s:PrS)(x:Int):s.ds.set 28 (.int x)=PrS.ds {s with r1:={s.r1 with k:=x}}:=rfl
theorem PrS.E9k(s:PrS):s.ds.getD 29 D.nil=.int s.r1.q:=rfl
theorem PrS.D9z(s:PrS)(x:Int):s.ds.set 29 (.int x)=PrS.ds {s with r1:={s.r1 with q:=x}}:=rfl
theorem PrS.E9o(s:PrS):s.ds.getD 30 D.nil=.int s.r1.p:=rfl
theorem PrS.E9e(s:PrS)(x:Int):s.ds.set 30 (.int x)=PrS.ds {s with r1:={s.r1 with p:=x}}:=rfl
theorem PrS.E9q(s:PrS):s.ds.getD 31 D.nil=.int s.r1.t:=rfl
theorem PrS.E8u(s:PrS)(x:Int):s.ds.set 31 (.int x)=PrS.ds {s with r1:={s.r1 with t:=x}}:=rfl
theorem PrS.E9i(s:PrS):s.ds.getD 32 D.nil=.int s.r1.c:=rfl
theorem PrS.E8o(s:PrS)(x:Int):s.ds.set 32 (.int x)=PrS.ds {s with r1:={s.r1 with c:=x}}:=rfl
theorem PrS.E9h(s:PrS):s.ds.getD 33 D.nil=.int s.r1.g:=rfl
theorem PrS.E8v(s:PrS)(x:Int):s.ds.set 33 (.int x)=PrS.ds {s with r1:={s.r1 with g:=x}}:=rfl
theorem PrS.E1s(s:PrS):s.ds.getD 34 D.nil=.agg (s.looks.map A5c.d):=rfl
theorem PrS.E8p(s:PrS)(x:List A5c):s.ds.set 34 (.agg (x.map A5c.d))=PrS.ds {s with looks:=x}:=rfl
theorem PrS.H3w(s:PrS):s.ds.getD 35 D.nil=s.draw:=rfl
structure A0j where
 part:Int
 last:Int
 ids:List Int
 A6k:List Int
 A7i:List Cur
def A0j.ds(s:A0j):List D:=[.int s.part,.int s.last,.agg (s.ids.map D.int),.agg (s.A6k.map D.int),.agg (s.A7i.map Cur.d)]
theorem A0j.len(s:A0j):s.ds.length=5:=by simp only[A0j.ds,List.length_cons,List.length_nil]
theorem A0j.rng(s:A0j):((List.range 5).map fun j=>s.ds.getD j D.nil)=s.ds:=P.rng s.len
theorem A0j.A1l(s:A0j):s.ds.getD 0 D.nil=.int s.part:=rfl
theorem A0j.B7p(s:A0j)(x:Int):s.ds.set 0 (.int x)=A0j.ds {s with part:=x}:=rfl
theorem A0j.A1j(s:A0j):s.ds.getD 1 D.nil=.int s.last:=rfl
theorem A0j.B2t(s:A0j)(x:Int):s.ds.set 1 (.int x)=A0j.ds {s with last:=x}:=rfl
theorem A0j.A1v(s:A0j):s.ds.getD 2 D.nil=.agg (s.ids.map D.int):=rfl
theorem A0j.B5j(s:A0j)(x:List Int):s.ds.set 2 (.agg (x.map D.int))=A0j.ds {s with ids:=x}:=rfl
theorem A0j.A2b(s:A0j):s.ds.getD 3 D.nil=.agg (s.A6k.map D.int):=rfl
theorem A0j.B5m(s:A0j)(x:List Int):s.ds.set 3 (.agg (x.map D.int))=A0j.ds {s with A6k:=x}:=rfl
theorem A0j.A1w(s:A0j):s.ds.getD 4 D.nil=.agg (s.A7i.map Cur.d):=rfl
theorem A0j.A9t(s:A0j)(x:List Cur):s.ds.set 4 (.agg (x.map Cur.d))=A0j.ds {s with A7i:=x}:=rfl
structure A0g where
 s:D
 queue:List Qe
 now:D
 ev:Int
 tape:List Dr
 taken:Int
def A0g.ds(s:A0g):List D:=[s.s,.agg (s.queue.map Qe.d),s.now,.int s.ev,.agg (s.tape.map Dr.d),.int s.taken]
theorem A0g.len(s:A0g):s.ds.length=6:=by simp only[A0g.ds,List.length_cons,List.length_nil]
theorem A0g.rng(s:A0g):((List.range 6).map fun j=>s.ds.getD j D.nil)=s.ds:=P.rng s.len
theorem A0g.A1l(s:A0g):s.ds.getD 0 D.nil=s.s:=rfl
theorem A0g.B7p(s:A0g)(x:D):s.ds.set 0 (x)=A0g.ds {s with s:=x}:=rfl
theorem A0g.A1j(s:A0g):s.ds.getD 1 D.nil=.agg (s.queue.map Qe.d):=rfl
theorem A0g.B2t(s:A0g)(x:List Qe):s.ds.set 1 (.agg (x.map Qe.d))=A0g.ds {s with queue:=x}:=rfl
theorem A0g.A1v(s:A0g):s.ds.getD 2 D.nil=s.now:=rfl
theorem A0g.B5j(s:A0g)(x:D):s.ds.set 2 (x)=A0g.ds {s with now:=x}:=rfl
theorem A0g.A2b(s:A0g):s.ds.getD 3 D.nil=.int s.ev:=rfl
theorem A0g.B5m(s:A0g)(x:Int):s.ds.set 3 (.int x)=A0g.ds {s with ev:=x}:=rfl
theorem A0g.A1w(s:A0g):s.ds.getD 4 D.nil=.agg (s.tape.map Dr.d):=rfl
theorem A0g.A9t(s:A0g)(x:List Dr):s.ds.set 4 (.agg (x.map Dr.d))=A0g.ds {s with tape:=x}:=rfl
theorem A0g.A3g(s:A0g):s.ds.getD 5 D.nil=.int s.taken:=rfl
theorem A0g.B5h(s:A0g)(x:Int):s.ds.set 5 (.int x)=A0g.ds {s with taken:=x}:=rfl
structure A0c where
 w:D
 A0e:List D
 C7b:List D
 D5p:List D
 events:Int
 outs:List Out
 A0i:List Int
 lines:List Int
def A0c.ds(s:A0c):List D:=[s.w,.agg s.A0e,.agg s.C7b,.agg s.D5p,.int s.events,.agg (s.outs.map Out.d),.agg (s.A0i.map D.int),.agg (s.lines.map D.int)]
theorem A0c.len(s:A0c):s.ds.length=8:=by simp only[A0c.ds,List.length_cons,List.length_nil]
theorem A0c.rng(s:A0c):((List.range 8).map fun j=>s.ds.getD j D.nil)=s.ds:=P.rng s.len
theorem A0c.A1l(s:A0c):s.ds.getD 0 D.nil=s.w:=rfl
theorem A0c.B7p(s:A0c)(x:D):s.ds.set 0 (x)=A0c.ds {s with w:=x}:=rfl
theorem A0c.A1j(s:A0c):s.ds.getD 1 D.nil=.agg s.A0e:=rfl
theorem A0c.B2t(s:A0c)(x:List D):s.ds.set 1 (.agg x)=A0c.ds {s with A0e:=x}:=rfl
theorem A0c.A1v(s:A0c):s.ds.getD 2 D.nil=.agg s.C7b:=rfl
theorem A0c.B5j(s:A0c)(x:List D):s.ds.set 2 (.agg x)=A0c.ds {s with C7b:=x}:=rfl
theorem A0c.A2b(s:A0c):s.ds.getD 3 D.nil=.agg s.D5p:=rfl
theorem A0c.B5m(s:A0c)(x:List D):s.ds.set 3 (.agg x)=A0c.ds {s with D5p:=x}:=rfl
theorem A0c.A1w(s:A0c):s.ds.getD 4 D.nil=.int s.events:=rfl
theorem A0c.A9t(s:A0c)(x:Int):s.ds.set 4 (.int x)=A0c.ds {s with events:=x}:=rfl
theorem A0c.A3g(s:A0c):s.ds.getD 5 D.nil=.agg (s.outs.map Out.d):=rfl
theorem A0c.B5h(s:A0c)(x:List Out):s.ds.set 5 (.agg (x.map Out.d))=A0c.ds {s with outs:=x}:=rfl
theorem A0c.A4q(s:A0c):s.ds.getD 6 D.nil=.agg (s.A0i.map D.int):=rfl
theorem A0c.B7f(s:A0c)(x:List Int):s.ds.set 6 (.agg (x.map D.int))=A0c.ds {s with A0i:=x}:=rfl
theorem A0c.A7r(s:A0c):s.ds.getD 7 D.nil=.agg (s.lines.map D.int):=rfl
theorem A0c.C8p(s:A0c)(x:List Int):s.ds.set 7 (.agg (x.map D.int))=A0c.ds {s with lines:=x}:=rfl
structure SwS where
 A3s:Int
 at_:Int
 A7g:Int
 p:D
def SwS.ds(s:SwS):List D:=[.int s.A3s,.int s.at_,.int s.A7g,s.p]
theorem SwS.len(s:SwS):s.ds.length=4:=by simp only[SwS.ds,List.length_cons,List.length_nil]
theorem SwS.rng(s:SwS):((List.range 4).map fun j=>s.ds.getD j D.nil)=s.ds:=P.rng s.len
theorem SwS.A1l(s:SwS):s.ds.getD 0 D.nil=.int s.A3s:=rfl
theorem SwS.B7p(s:SwS)(x:Int):s.ds.set 0 (.int x)=SwS.ds {s with A3s:=x}:=rfl
theorem SwS.A1j(s:SwS):s.ds.getD 1 D.nil=.int s.at_:=rfl
theorem SwS.B2t(s:SwS)(x:Int):s.ds.set 1 (.int x)=SwS.ds {s with at_:=x}:=rfl
theorem SwS.A1v(s:SwS):s.ds.getD 2 D.nil=.int s.A7g:=rfl
theorem SwS.B5j(s:SwS)(x:Int):s.ds.set 2 (.int x)=SwS.ds {s with A7g:=x}:=rfl
theorem SwS.A2b(s:SwS):s.ds.getD 3 D.nil=s.p:=rfl
theorem SwS.B5m(s:SwS)(x:D):s.ds.set 3 (x)=SwS.ds {s with p:=x}:=rfl
structure ReS where
 A3s:Int
 pc:Int
 A7g:Int
 word:Nat
 st:St
 tm:Tm
 done:Bool
 at_:Int
def ReS.ds(s:ReS):List D:=[.int s.A3s,.int s.pc,.int s.A7g,wN s.word,.int s.st.k,.bool s.st.f,.int s.st.g,.int s.st.l,.int s.st.n,.int s.tm.name,.int s.tm.side,.int s.tm.A0k,.int s.tm.least,.int s.tm.A1o,.bool s.done,.int s.at_]
theorem ReS.len(s:ReS):s.ds.length=16:=by simp only[ReS.ds,List.length_cons,List.length_nil]
theorem ReS.rng(s:ReS):((List.range 16).map fun j=>s.ds.getD j D.nil)=s.ds:=P.rng s.len
theorem ReS.A1l(s:ReS):s.ds.getD 0 D.nil=.int s.A3s:=rfl
theorem ReS.B7p(s:ReS)(x:Int):s.ds.set 0 (.int x)=ReS.ds {s with A3s:=x}:=rfl
theorem ReS.A1j(s:ReS):s.ds.getD 1 D.nil=.int s.pc:=rfl
theorem ReS.B2t(s:ReS)(x:Int):s.ds.set 1 (.int x)=ReS.ds {s with pc:=x}:=rfl
theorem ReS.A1v(s:ReS):s.ds.getD 2 D.nil=.int s.A7g:=rfl
theorem ReS.B5j(s:ReS)(x:Int):s.ds.set 2 (.int x)=ReS.ds {s with A7g:=x}:=rfl
theorem ReS.A2b(s:ReS):s.ds.getD 3 D.nil=wN s.word:=rfl
theorem ReS.B5m(s:ReS)(x:Nat):s.ds.set 3 (wN x)=ReS.ds {s with word:=x}:=rfl
theorem ReS.A1w(s:ReS):s.ds.getD 4 D.nil=.int s.st.k:=rfl
theorem ReS.A9t(s:ReS)(x:Int):s.ds.set 4 (.int x)=ReS.ds {s with st:={s.st with k:=x}}:=rfl
theorem ReS.A3g(s:ReS):s.ds.getD 5 D.nil=.bool s.st.f:=rfl
theorem ReS.B5h(s:ReS)(x:Bool):s.ds.set 5 (.bool x)=ReS.ds {s with st:={s.st with f:=x}}:=rfl
theorem ReS.A4q(s:ReS):s.ds.getD 6 D.nil=.int s.st.g:=rfl
theorem ReS.B7f(s:ReS)(x:Int):s.ds.set 6 (.int x)=ReS.ds {s with st:={s.st with g:=x}}:=rfl
theorem ReS.A7r(s:ReS):s.ds.getD 7 D.nil=.int s.st.l:=rfl
theorem ReS.C8p(s:ReS)(x:Int):s.ds.set 7 (.int x)=ReS.ds {s with st:={s.st with l:=x}}:=rfl
theorem ReS.A5t(s:ReS):s.ds.getD 8 D.nil=.int s.st.n:=rfl
theorem ReS.D9g(s:ReS)(x:Int):s.ds.set 8 (.int x)=ReS.ds {s with st:={s.st with n:=x}}:=rfl
theorem ReS.A5u(s:ReS):s.ds.getD 9 D.nil=.int s.tm.name:=rfl
theorem ReS.B6j(s:ReS)(x:Int):s.ds.set 9 (.int x)=ReS.ds {s with tm:={s.tm with name:=x}}:=rfl
theorem ReS.B2n(s:ReS):s.ds.getD 10 D.nil=.int s.tm.side:=rfl
theorem ReS.D5n(s:ReS)(x:Int):s.ds.set 10 (.int x)=ReS.ds {s with tm:={s.tm with side:=x}}:=rfl
theorem ReS.A9i(s:ReS):s.ds.getD 11 D.nil=.int s.tm.A0k:=rfl
theorem ReS.C5d(s:ReS)(x:Int):s.ds.set 11 (.int x)=ReS.ds {s with tm:={s.tm with A0k:=x}}:=rfl
theorem ReS.A8u(s:ReS):s.ds.getD 12 D.nil=.int s.tm.least:=rfl
theorem ReS.C5o(s:ReS)(x:Int):s.ds.set 12 (.int x)=ReS.ds {s with tm:={s.tm with least:=x}}:=rfl
theorem ReS.A9f(s:ReS):s.ds.getD 13 D.nil=.int s.tm.A1o:=rfl
theorem ReS.C4o(s:ReS)(x:Int):s.ds.set 13 (.int x)=ReS.ds {s with tm:={s.tm with A1o:=x}}:=rfl
theorem ReS.B2g(s:ReS):s.ds.getD 14 D.nil=.bool s.done:=rfl
theorem ReS.C1b(s:ReS)(x:Bool):s.ds.set 14 (.bool x)=ReS.ds {s with done:=x}:=rfl
theorem ReS.B6b(s:ReS):s.ds.getD 15 D.nil=.int s.at_:=rfl
theorem ReS.C8o(s:ReS)(x:Int):s.ds.set 15 (.int x)=ReS.ds {s with at_:=x}:=rfl
structure A0h where
 c:Cf
 m:D
 clk:D
 log:List Ev
def A0h.ds(s:A0h):List D:=[.int s.c.c0,.int s.c.c1,.int s.c.c2,.int s.c.c3,.int s.c.c4,.int s.c.c5,.int s.c.c6,s.m,s.clk,.agg (s.log.map Ev.d)]
theorem A0h.len(s:A0h):s.ds.length=10:=by simp only[A0h.ds,List.length_cons,List.length_nil]
theorem A0h.rng(s:A0h):((List.range 10).map fun j=>s.ds.getD j D.nil)=s.ds:=P.rng s.len
theorem A0h.A1l(s:A0h):s.ds.getD 0 D.nil=.int s.c.c0:=rfl
theorem A0h.B7p(s:A0h)(x:Int):s.ds.set 0 (.int x)=A0h.ds {s with c:={s.c with c0:=x}}:=rfl
theorem A0h.A1j(s:A0h):s.ds.getD 1 D.nil=.int s.c.c1:=rfl
theorem A0h.B2t(s:A0h)(x:Int):s.ds.set 1 (.int x)=A0h.ds {s with c:={s.c with c1:=x}}:=rfl
theorem A0h.A1v(s:A0h):s.ds.getD 2 D.nil=.int s.c.c2:=rfl
theorem A0h.B5j(s:A0h)(x:Int):s.ds.set 2 (.int x)=A0h.ds {s with c:={s.c with c2:=x}}:=rfl
theorem A0h.A2b(s:A0h):s.ds.getD 3 D.nil=.int s.c.c3:=rfl
theorem A0h.B5m(s:A0h)(x:Int):s.ds.set 3 (.int x)=A0h.ds {s with c:={s.c with c3:=x}}:=rfl
theorem A0h.A1w(s:A0h):s.ds.getD 4 D.nil=.int s.c.c4:=rfl
theorem A0h.A9t(s:A0h)(x:Int):s.ds.set 4 (.int x)=A0h.ds {s with c:={s.c with c4:=x}}:=rfl
theorem A0h.A3g(s:A0h):s.ds.getD 5 D.nil=.int s.c.c5:=rfl
theorem A0h.B5h(s:A0h)(x:Int):s.ds.set 5 (.int x)=A0h.ds {s with c:={s.c with c5:=x}}:=rfl
theorem A0h.A4q(s:A0h):s.ds.getD 6 D.nil=.int s.c.c6:=rfl
theorem A0h.B7f(s:A0h)(x:Int):s.ds.set 6 (.int x)=A0h.ds {s with c:={s.c with c6:=x}}:=rfl
theorem A0h.A7r(s:A0h):s.ds.getD 7 D.nil=s.m:=rfl
theorem A0h.C8p(s:A0h)(x:D):s.ds.set 7 (x)=A0h.ds {s with m:=x}:=rfl
theorem A0h.A5t(s:A0h):s.ds.getD 8 D.nil=s.clk:=rfl
theorem A0h.D9g(s:A0h)(x:D):s.ds.set 8 (x)=A0h.ds {s with clk:=x}:=rfl
theorem A0h.A5u(s:A0h):s.ds.getD 9 D.nil=.agg (s.log.map Ev.d):=rfl
theorem A0h.B6j(s:A0h)(x:List Ev):s.ds.set 9 (.agg (x.map Ev.d))=A0h.ds {s with log:=x}:=rfl
structure A1c where
 words:List Nat
 s1:D
 s2:D
 s3:D
 s4:D
 s5:D
 s6:D
def A1c.ds(s:A1c):List D:=[.agg (s.words.map wN),s.s1,s.s2,s.s3,s.s4,s.s5,s.s6]
theorem A1c.len(s:A1c):s.ds.length=7:=by simp only[A1c.ds,List.length_cons,List.length_nil]
theorem A1c.rng(s:A1c):((List.range 7).map fun j=>s.ds.getD j D.nil)=s.ds:=P.rng s.len
theorem A1c.A1l(s:A1c):s.ds.getD 0 D.nil=.agg (s.words.map wN):=rfl
theorem A1c.B7p(s:A1c)(x:List Nat):s.ds.set 0 (.agg (x.map wN))=A1c.ds {s with words:=x}:=rfl
theorem A1c.A1j(s:A1c):s.ds.getD 1 D.nil=s.s1:=rfl
theorem A1c.B2t(s:A1c)(x:D):s.ds.set 1 (x)=A1c.ds {s with s1:=x}:=rfl
theorem A1c.A1v(s:A1c):s.ds.getD 2 D.nil=s.s2:=rfl
theorem A1c.B5j(s:A1c)(x:D):s.ds.set 2 (x)=A1c.ds {s with s2:=x}:=rfl
theorem A1c.A2b(s:A1c):s.ds.getD 3 D.nil=s.s3:=rfl
theorem A1c.B5m(s:A1c)(x:D):s.ds.set 3 (x)=A1c.ds {s with s3:=x}:=rfl
theorem A1c.A1w(s:A1c):s.ds.getD 4 D.nil=s.s4:=rfl
theorem A1c.A9t(s:A1c)(x:D):s.ds.set 4 (x)=A1c.ds {s with s4:=x}:=rfl
theorem A1c.A3g(s:A1c):s.ds.getD 5 D.nil=s.s5:=rfl
theorem A1c.B5h(s:A1c)(x:D):s.ds.set 5 (x)=A1c.ds {s with s5:=x}:=rfl
theorem A1c.A4q(s:A1c):s.ds.getD 6 D.nil=s.s6:=rfl
theorem A1c.B7f(s:A1c)(x:D):s.ds.set 6 (x)=A1c.ds {s with s6:=x}:=rfl
structure A7q where
 now:Nat
def A7q.ds(s:A7q):List D:=[wN s.now]
theorem A7q.len(s:A7q):s.ds.length=1:=by simp only[A7q.ds,List.length_cons,List.length_nil]
theorem A7q.rng(s:A7q):((List.range 1).map fun j=>s.ds.getD j D.nil)=s.ds:=P.rng s.len
theorem A7q.A1l(s:A7q):s.ds.getD 0 D.nil=wN s.now:=rfl
theorem A7q.B7p(s:A7q)(x:Nat):s.ds.set 0 (wN x)=A7q.ds {s with now:=x}:=rfl
set_option linter.defProp false in
def A0a.all:=And.intro @A0a.len<|And.intro @A0a.rng<|And.intro @A0a.A1l<|And.intro @A0a.B7p<|And.intro @A0a.A1j<|And.intro @A0a.B2t<|And.intro @A0a.A1v<|And.intro @A0a.B5j<|And.intro @A0a.A2b<|And.intro @A0a.B5m<|And.intro @A0a.A1w<|And.intro @A0a.A9t<|And.intro @A0a.A3g<|And.intro @A0a.B5h<|And.intro @A0a.A4q<|And.intro @A0a.B7f<|And.intro @A0a.A7r<|And.intro @A0a.C8p<|And.intro @A0a.A5t<|And.intro @A0a.D9g<|And.intro @A0a.A5u<|And.intro @A0a.B6j<|And.intro @A0a.B2n<|And.intro @A0a.D5n<|And.intro @A0a.A9i<|And.intro @A0a.C5d<|And.intro @A0a.A8u<|And.intro @A0a.C5o<|And.intro @A0a.A9f<|And.intro @A0a.C4o<|And.intro @A0a.B2g<|And.intro @A0a.C1b<|And.intro @A0a.B6b<|And.intro @A0a.C8o<|And.intro @A0a.E2h<|And.intro @A0a.F9o<|And.intro @A0a.C4l<|And.intro @A0a.D4v<|And.intro @A0a.C9n<|And.intro @A0a.G9l<|And.intro @A0a.D5e<|And.intro @A0a.F9t<|And.intro @A0a.C9s<|And.intro @A0a.E1z<|And.intro @A0a.D0u<|And.intro @A0a.E9b<|And.intro @A0a.E0t<|And.intro @A0a.E9a<|And.intro @A0a.D9r<|And.intro @A0a.G0p<|And.intro @A0a.E9m<|And.intro @A0a.F9z<|And.intro @A0a.E8q<|And.intro @A0a.E0z<|And.intro @A0a.E8x<|And.intro @A0a.E3i<|And.intro @A0a.E9c<|And.intro @A0a.E2w<|And.intro @A0a.E9g<|And.intro @A0a.E2g<|And.intro @A0a.E9k<|And.intro @A0a.D9z<|And.intro @A0a.E9o<|And.intro @A0a.E9e<|And.intro @A0a.E9q<|And.intro @A0a.E8u<|And.intro @A0a.E9i<|And.intro @A0a.E8o<|And.intro @A0a.E9h<|And.intro @A0a.E8v<|And.intro @A0a.E1s<|@A0a.E8p
set_option linter.defProp false in
def A0h.all:=And.intro @A0h.len<|And.intro @A0h.rng<|And.intro @A0h.A1l<|And.intro @A0h.B7p<|And.intro @A0h.A1j<|And.intro @A0h.B2t<|And.intro @A0h.A1v<|And.intro @A0h.B5j<|And.intro @A0h.A2b<|And.intro @A0h.B5m<|And.intro @A0h.A1w<|And.intro @A0h.A9t<|And.intro @A0h.A3g<|And.intro @A0h.B5h<|And.intro @A0h.A4q<|And.intro @A0h.B7f<|And.intro @A0h.A7r<|And.intro @A0h.C8p<|And.intro @A0h.A5t<|And.intro @A0h.D9g<|And.intro @A0h.A5u<|@A0h.B6j
section
theorem A2h{L:List D}{a:Nat}{x:List D}(h:L.getD a D.nil=.agg x):a<L.length:=by
 rcases Nat.lt_or_ge a L.length with h1|h1
 ·exact h1
 ·rw[List.getD_eq_getElem?_getD,List.getElem?_eq_none h1]at h;cases h
theorem A3v{L:List D}{a:Nat}(h:a<L.length)(x:D):(L.set a x).getD a D.nil=x:=by
 simp[List.getD_eq_getElem?_getD,h]
theorem A3j{L:List D}{a b:Nat}(h:a≠b)(x:D):(L.set a x).getD b D.nil=L.getD b D.nil:=by
 simp[List.getD_eq_getElem?_getD,List.getElem?_set,h]
theorem D7i{L:List D}{a:Nat}{x:List D}(h:L.getD a D.nil=.agg x):L.set a (.agg x)=L:=by
 have hl:=A2h h
 rw[List.getD_eq_getElem?_getD,List.getElem?_eq_getElem hl]at h
 have h':L[a]=D.agg x:=h
 rw[←h']
 exact List.set_getElem_self hl
theorem A3f{L:List D}{a b:Nat}{x y:List D}(ha:L.getD a D.nil=.agg x)(hb:L.getD b D.nil=.agg y)(h:x.length≠y.length):a≠b:=by
 intro e
 subst e
 rw[ha]at hb
 cases hb
 exact h rfl
def Fr(L L':List D)(T:Nat→Prop):Prop:=L.length≤L'.length∧∀b,b<L.length→¬T b→L'.getD b D.nil=L.getD b D.nil
theorem Fr.refl(L:List D)(T:Nat→Prop):Fr L L T:=⟨Nat.le_refl _,fun _ _ _=>rfl⟩
theorem Fr.trans{L L1 L2:List D}{T:Nat→Prop}(h:Fr L L1 T)(h':Fr L1 L2 T):Fr L L2 T:=
 ⟨Nat.le_trans h.1 h'.1,fun b hb hn=>(h'.2 b (Nat.lt_of_lt_of_le hb h.1) hn).trans (h.2 b hb hn)⟩
theorem Fr.mono{L L1:List D}{T U:Nat→Prop}(h:Fr L L1 T)(hu:∀b,T b→U b):Fr L L1 U:=⟨h.1,fun b hb hn=>h.2 b hb fun ht=>hn (hu b ht)⟩
theorem Fr.set(L:List D)(a:Nat)(x:D){T:Nat→Prop}(ha:T a):Fr L (L.set a x) T:=
 ⟨by simp,fun b _ hn=>A3j (fun e=>hn (by rw[←e];exact ha)) x⟩
theorem Fr.snoc(L:List D)(x:D)(T:Nat→Prop):Fr L (L++[x]) T:=
 ⟨by simp,fun b hb _=>by simp[List.getD_eq_getElem?_getD,List.getElem?_append_left hb]⟩
theorem Fr.get{L L':List D}{T:Nat→Prop}(h:Fr L L' T){a:Nat}{x:List D}(hx:L.getD a D.nil=.agg x)(ha:¬T a):L'.getD a D.nil=.agg x:=by
 rw[h.2 a (A2h hx) ha,hx]
theorem A6i(L:List D)(x:D):(L++[x]).getD L.length D.nil=x:=by simp[List.getD_eq_getElem?_getD]
theorem C7s{L:List D}{a:Nat}(h:a<L.length)(x:D):(L++[x]).getD a D.nil=L.getD a D.nil:=by
 simp[List.getD_eq_getElem?_getD,List.getElem?_append_left h]
theorem A6d(z:Int):(D.int z).isNil=false:=rfl
theorem B5i:D.nil.isNil=true:=rfl
theorem nilA(l:List D):(D.agg l).isNil=false:=rfl
set_option linter.defProp false in
def HH:=And.intro A6d<|And.intro nilA<|And.intro @H3d<|And.intro B5i<|And.intro Bool.not_false<|And.intro Bool.not_true<|And.intro @if_true.{1}<|And.intro Bool.false_eq_true<|And.intro @if_false.{1}<|And.intro @D.toInt_int<|And.intro @C8r<|And.intro @D.A0f<|And.intro @Int.toNat_natCast<|And.intro @A0q<|And.intro @List.length_cons.{0}<|And.intro @List.length_nil.{0}<|And.intro @List.getD_cons_zero.{0}<|And.intro @List.getD_cons_succ.{0} @D.A1b
def wd(ws:List Nat)(i:Int):Nat:=if i<0 then 0 else ws.getD i.toNat 0
def stw(ws:List Nat)(i:Int)(x:Nat):List Nat:=if i<0 then ws else ws.set i.toNat x
theorem E9n{ws:List Nat}(h:∀x ∈ ws,x<18446744073709551616)(i:Int):wd ws i<18446744073709551616:=by
 unfold wd
 split
 ·decide
 ·rw[List.getD_eq_getElem?_getD]
  rcases Nat.lt_or_ge i.toNat ws.length with h1|h1
  ·rw[List.getElem?_eq_getElem h1];exact h _ (List.getElem_mem h1)
  ·rw[List.getElem?_eq_none h1];decide
theorem F2a{ws:List Nat}(h:∀x ∈ ws,x<18446744073709551616)(i:Int){x:Nat}(hx:x<18446744073709551616):∀y ∈ stw ws i x,y<18446744073709551616:=by
 unfold stw
 split
 ·exact h
 ·intro y hy
  rcases List.mem_or_eq_of_mem_set hy with h1|h1
  ·exact h y h1
  ·subst h1;exact hx
theorem B1x(ws:List Nat)(i:Int)(x:Nat):(stw ws i x).length=ws.length:=by
 unfold stw;split<;>simp
section
variable{L:List D}{m:Nat}{M:A1c}(hm:L.getD m D.nil=.agg M.ds)
include hm
theorem E3e(i:Nat)(hi:i<M.words.length):FX 99 [.int (m:Nat),.int (i:Nat),.agg L]=some [.nil]:=by
 have h1:¬((i:Int)<0):=by omega
 have h2:¬((i:Int)≥(M.words.length:Int)):=by omega
 rw[C5l]
 simp only[A6d,Bool.false_eq_true,if_false,D.toInt_int,D.A0f,Int.toNat_natCast,hm,A1c.A1l,List.length_map,h1,h2,decide_false,Bool.not_false,if_true]
theorem F4k(i:Int)(hi:i<0∨(M.words.length:Int)≤i):∃e:D,e.isNil=false∧FX 99 [.int (m:Nat),.int i,.agg L]=some [e]:=by
 have hcode:(D.iface 39 (.int 5)).isNil=false:=rfl
 rw[C5l]
 simp only[A6d,Bool.false_eq_true,if_false,D.toInt_int,D.A0f,Int.toNat_natCast,hm,A1c.A1l,List.length_map,Bool.not_false,if_true]
 by_cases h1:i<0
 ·refine⟨_,?_,by simp only[h1,decide_true,if_true,C0w _ _ hcode,A0b,List.length_cons,List.length_nil,List.getD_cons_zero];rfl⟩
  rfl
 ·have h2:i≥(M.words.length:Int):=by omega
  refine⟨_,?_,by simp only[h1,h2,decide_false,Bool.false_eq_true,if_false,decide_true,if_true,C0w _ _ hcode,A0b,List.length_cons,List.length_nil,List.getD_cons_zero];rfl⟩
  rfl
theorem C9f(a b c d e:D):∃M':A1c,FX 100 [.int (m:Nat),a,b,c,d,e,.agg L]=some [.agg (L.set m (.agg M'.ds))]∧M'.words=M.words:=by
 refine⟨{M with s1:=.int (IntKind.i64.wrap ((M.s1).toInt+1)),s2:=a,s3:=b,s4:=c,s5:=d,s6:=e},?_,rfl⟩
 rw[D8h]
 simp only[A6d,Bool.false_eq_true,if_false,D.toInt_int,D.A0f,Int.toNat_natCast,hm,Bool.not_false,if_true,A1c.len,A1c.rng,A1c.A1l,A1c.B7p,A1c.A1j,A1c.B2t,A1c.A1v,A1c.B5j,A1c.A2b,A1c.B5m,A1c.A1w,A1c.A9t,A1c.A3g,A1c.B5h,A1c.A4q,A1c.B7f]
theorem E4d(i:Int):∃(e:D) (M':A1c),FX 72 [.int (m:Nat),.int i,.agg L]=some [wN (wd M.words i),e,.agg (L.set m (.agg M'.ds))]∧M'.words=M.words:=by
 by_cases hi:i<0∨(M.words.length:Int)≤i
 ·obtain⟨e,he,h⟩:=F4k hm i hi
  refine⟨e,M,?_,rfl⟩
  have hz:wN (wd M.words i)=.int 0:=by
   unfold wd
   by_cases h1:i<0
   ·rw[if_pos h1];rfl
   ·rw[if_neg h1,List.getD_eq_getElem?_getD,List.getElem?_eq_none (by omega)];rfl
  rw[C3m,h,hz,D7i hm]
  simp only[A0b,List.length_cons,List.length_nil,if_true,List.getD_cons_zero,he,Bool.not_false]
 ·obtain⟨j,rfl⟩:∃j:Nat,i=j:=⟨i.toNat,by omega⟩
  have hj:j<M.words.length:=by omega
  have h1:((j:Int)≥0):=by omega
  have h2:((j:Int)<(M.words.length:Int)):=by omega
  have hg:(M.words.map wN).getD j D.nil=wN (wd M.words j):=by
   rw[List.getD_eq_getElem?_getD,List.getElem?_map,List.getElem?_eq_getElem hj]
   unfold wd
   rw[if_neg (by omega),Int.toNat_natCast,List.getD_eq_getElem?_getD,List.getElem?_eq_getElem hj];rfl
  obtain⟨M',h3,h4⟩:=C9f hm (.int 1) (.int (j:Nat)) (wN (wd M.words j)) (wN (wd M.words j)) (.bool true)
  refine⟨.nil,M',?_,h4⟩
  rw[C3m,E3e hm j hj]
  simp only[A0b,List.length_cons,List.length_nil,if_true,List.getD_cons_zero,B5i,A6d,Bool.not_true,Bool.not_false,Bool.false_eq_true,if_false,D.toInt_int,D.A0f,Int.toNat_natCast,hm,A1c.A1l,List.length_map,h1,h2,decide_true,hg,h3]
theorem F1s(i:Int)(x:Nat):∃(e:D) (M':A1c),FX 83 [.int (m:Nat),.int i,wN x,.agg L]=some [e,.agg (L.set m (.agg M'.ds))]∧M'.words=stw M.words i x:=by
 by_cases hi:i<0∨(M.words.length:Int)≤i
 ·obtain⟨e,he,h⟩:=F4k hm i hi
  refine⟨e,M,?_,?_⟩
  ·rw[C0r,h,D7i hm]
   simp only[A0b,List.length_cons,List.length_nil,if_true,List.getD_cons_zero,he,Bool.not_false]
  ·unfold stw
   by_cases h1:i<0
   ·rw[if_pos h1]
   ·rw[if_neg h1,List.set_eq_of_length_le (by omega)]
 ·obtain⟨j,rfl⟩:∃j:Nat,i=j:=⟨i.toNat,by omega⟩
  have hj:j<M.words.length:=by omega
  have h1:((j:Int)≥0):=by omega
  have h2:((j:Int)<(M.words.length:Int)):=by omega
  have hl:=A2h hm
  obtain⟨M',h3,h4⟩:=C9f hm (.int 2) (.int (j:Nat)) ((M.words.map wN).getD j D.nil) (wN x) (.bool true)
  refine⟨.nil,{M' with words:=M.words.set j x},?_,?_⟩
  ·rw[C0r,E3e hm j hj]
   simp only[A0b,List.length_cons,List.length_nil,if_true,List.getD_cons_zero,B5i,A6d,Bool.not_true,Bool.not_false,Bool.false_eq_true,if_false,D.toInt_int,D.A0f,Int.toNat_natCast,hm,A1c.A1l,List.length_map,h1,h2,decide_true,h3,A3v hl,List.set_set,h4]
   have e1:((M.words.map wN).set j (wN x))=((M.words.set j x).map wN):=(List.map_set ..).symm
   rw[e1,A1c.rng,A1c.B7p]
  ·unfold stw
   rw[if_neg (by omega),Int.toNat_natCast]
def swB(ws:List Nat)(i:Int)(old:Nat):Bool:=decide (0≤i∧i<(ws.length:Int))&&wd ws i == old
omit hm in
theorem H2w{ws:List Nat}{j:Nat}(h:j<ws.length)(old:Nat):swB ws j old=(ws[j] == old):=by
 unfold swB wd
 have h1:(0:Int)≤(j:Int)∧(j:Int)<(ws.length:Int):=by omega
 rw[if_neg (by omega),Int.toNat_natCast,List.getD_eq_getElem?_getD,List.getElem?_eq_getElem h]
 simp[h]
theorem swap_eq(i:Int)(old x:Nat):∃(e:D) (M':A1c),FX 107 [.int (m:Nat),.int i,wN old,wN x,.agg L]=some [.bool (swB M.words i old),e,.agg (L.set m (.agg M'.ds))]∧
  M'.words=if swB M.words i old then stw M.words i x else M.words:=by
 by_cases hi:i<0∨(M.words.length:Int)≤i
 ·obtain⟨e,he,h⟩:=F4k hm i hi
  have hb:swB M.words i old=false:=by
   unfold swB
   have:¬(0≤i∧i<(M.words.length:Int)):=by omega
   simp[this]
  refine⟨e,M,?_,by rw[hb];rfl⟩
  rw[B5k,h,D7i hm,hb]
  simp only[A0b,List.length_cons,List.length_nil,if_true,List.getD_cons_zero,he,Bool.not_false]
 ·obtain⟨j,rfl⟩:∃j:Nat,i=j:=⟨i.toNat,by omega⟩
  have hj:j<M.words.length:=by omega
  have h1:((j:Int)≥0):=by omega
  have h2:((j:Int)<(M.words.length:Int)):=by omega
  have hl:=A2h hm
  have hg:(M.words.map wN).getD j D.nil=wN M.words[j]:=by
   rw[List.getD_eq_getElem?_getD,List.getElem?_map,List.getElem?_eq_getElem hj];rfl
  rw[H2w hj]
  have hb:((wN M.words[j]).toInt == (wN old).toInt)=(M.words[j] == old):=by
   unfold wN
   simp only[D.toInt_int]
   by_cases h:M.words[j]=old
   ·simp[h]
   ·have:¬(M.words[j]:Int)=(old:Int):=by omega
    rw[beq_eq_false_iff_ne.2 h,beq_eq_false_iff_ne.2 this]
  cases hc:(M.words[j] == old)with
  |true=>
   have hM:(L.set m (.agg (A1c.ds {M with words:=M.words.set j x}))).getD m D.nil=.agg (A1c.ds {M with words:=M.words.set j x}):=A3v hl _
   obtain⟨M',h3,h4⟩:=C9f hM (.int 3) (.int (j:Nat)) (wN M.words[j]) (wN x) (.bool true)
   refine⟨.nil,M',?_,?_⟩
   ·rw[B5k,E3e hm j hj]
    have e1:((M.words.map wN).set j (wN x))=((M.words.set j x).map wN):=(List.map_set ..).symm
    simp only[A0b,List.length_cons,List.length_nil,if_true,List.getD_cons_zero,B5i,A6d,Bool.not_true,Bool.not_false,Bool.false_eq_true,if_false,D.toInt_int,D.A0f,Int.toNat_natCast,hm,A1c.A1l,List.length_map,h1,h2,decide_true,hg,hb,hc,e1,A1c.rng,A1c.B7p,h3,List.set_set]
   ·rw[h4,if_pos rfl]
    unfold stw
    rw[if_neg (by omega),Int.toNat_natCast]
  |false=>
   obtain⟨M',h3,h4⟩:=C9f hm (.int 3) (.int (j:Nat)) (wN M.words[j]) (wN M.words[j]) (.bool false)
   refine⟨.nil,M',?_,by rw[h4];rfl⟩
   rw[B5k,E3e hm j hj]
   simp only[A0b,List.length_cons,List.length_nil,if_true,List.getD_cons_zero,B5i,A6d,Bool.not_true,Bool.not_false,Bool.false_eq_true,if_false,D.toInt_int,D.A0f,Int.toNat_natCast,hm,A1c.A1l,List.length_map,h1,h2,decide_true,hg,hb,hc,h3]
end
structure WS where
 c:Cf
 words:List Nat
 now:Nat
 log:List Ev
structure WS.ok(S:WS):Prop where
 c:S.c.ok
 w:∀x ∈ S.words,x<18446744073709551616
 now:S.now≤1000000
 len:S.words.length≤8192
structure InW(L:List D)(w m k:Nat)(S:WS):Prop where
 w:L.getD w D.nil=.agg (A0h.ds ⟨S.c,.int m,.int k,S.log⟩)
 m:∃M:A1c,L.getD m D.nil=.agg M.ds∧M.words=S.words
 k:L.getD k D.nil=.agg (A7q.ds ⟨S.now⟩)
section
variable{L:List D}{w m k:Nat}{S:WS}(W:InW L w m k S)
include W
theorem InW.nwm:w≠m:=by
 obtain⟨M,h,_⟩:=W.m
 exact A3f W.w h (by simp[A0h.len,A1c.len])
theorem InW.nwk:w≠k:=A3f W.w W.k (by simp[A0h.len,A7q.len])
theorem InW.nmk:m≠k:=by
 obtain⟨M,h,_⟩:=W.m
 exact A3f h W.k (by simp[A1c.len,A7q.len])
theorem InW.far{a:Nat}{x:List D}(h:L.getD a D.nil=.agg x)(h1:x.length≠10)(h2:x.length≠7)(h3:x.length≠1):a≠w∧a≠m∧a≠k:=by
 obtain⟨M,hM,_⟩:=W.m
 exact⟨A3f h W.w (by rw[A0h.len];exact h1),A3f h hM (by rw[A1c.len];exact h2),A3f h W.k (by rw[A7q.len];exact h3)⟩
theorem InW.E4v(M':A1c):InW (L.set m (.agg M'.ds)) w m k {S with words:=M'.words}:=by
 obtain⟨M,hM,_⟩:=W.m
 exact⟨by rw[A3j (Ne.symm W.nwm)];exact W.w,⟨M',A3v (A2h hM) _,rfl⟩,by rw[A3j W.nmk];exact W.k⟩
theorem InW.fr{L':List D}{T:Nat→Prop}(h:Fr L L' T)(h1:¬T w)(h2:¬T m)(h3:¬T k):InW L' w m k S:=by
 obtain⟨M,hM,e⟩:=W.m
 exact⟨h.get W.w h1,⟨M,h.get hM h2,e⟩,h.get W.k h3⟩
theorem B6x(h:S.ok):FX 40 [.int (k:Nat),.agg L]=some [wN S.now]:=by
 have:=h.now
 rw[D3e]
 simp only[A6d,Bool.false_eq_true,if_false,D.toInt_int,D.A0f,Int.toNat_natCast,W.k,Bool.not_false,if_true,A7q.A1l,C8r]
 rw[A1a _ (by omega) (by omega)];rfl
def WS.word(S:WS)(x:Int):Nat:=wd S.words (2*x)
def WS.B1g(S:WS)(x:Int):Nat:=wd S.words (2*x+1)
theorem B0m(h:S.ok)(x:Int)(hx:-1000≤x∧x≤1000):∃L',FX 59 [.int (w:Nat),.int x,.agg L]=some (wN (S.word x)::((A0l (S.word x)).ds++[.agg L']))∧InW L' w m k S∧Fr L L' (·=m):=by
 obtain⟨M,hM,hw⟩:=W.m
 obtain⟨e,M',h1,h2⟩:=E4d hM (2*x)
 refine⟨L.set m (.agg M'.ds),?_,?_,Fr.set _ _ _ rfl⟩
 ·have h3:=D9h (wd M.words (2*x)) (E9n (by rw[hw];exact h.w) _)
  rw[D0t]
  simp only[A6d,Bool.not_false,if_true,D.toInt_int,D.A0f,Int.toNat_natCast,W.w,B0k,A0q,List.length_cons,List.length_nil,List.getD_cons_zero,A0h.all]
  rw[A1a (2*x) (by omega) (by omega),h1]
  simp only[A0q,List.length_cons,List.length_nil,List.getD_cons_zero,List.getD_cons_succ,C1g]
  unfold wN
  rw[h3]
  simp only[A0q,St.len,St.A1l,St.A1j,St.A1v,St.A2b,St.A1w]
  rw[hw];rfl
 ·have:=W.E4v M'
  rw[h2,hw]at this
  exact this
theorem D3g(h:S.ok)(x:Int)(hx:-1000≤x∧x≤1000):∃L',FX 60 [.int (w:Nat),.int x,.agg L]=some ((B5e (S.B1g x)).ds++[.agg L'])∧InW L' w m k S∧Fr L L' (·=m):=by
 obtain⟨M,hM,hw⟩:=W.m
 obtain⟨e,M',h1,h2⟩:=E4d hM (2*x+1)
 refine⟨L.set m (.agg M'.ds),?_,?_,Fr.set _ _ _ rfl⟩
 ·have h3:=G5t (wd M.words (2*x+1)) (E9n (by rw[hw];exact h.w) _)
  rw[C8s]
  simp only[A6d,Bool.not_false,if_true,D.toInt_int,D.A0f,Int.toNat_natCast,W.w,B5y,A0q,List.length_cons,List.length_nil,List.getD_cons_zero,A0h.all]
  rw[A1a (2*x) (by omega) (by omega),A1a (2*x+1) (by omega) (by omega),h1]
  simp only[A0q,List.length_cons,List.length_nil,List.getD_cons_zero,List.getD_cons_succ,C1f]
  unfold wN
  rw[h3]
  simp only[A0q,Tm.len,Tm.A1l,Tm.A1j,Tm.A1v,Tm.A2b,Tm.A1w]
  rw[hw];rfl
 ·have:=W.E4v M'
  rw[h2,hw]at this
  exact this
def WS.turn(S:WS)(x:Int)(old:Nat)(s:St):Bool × WS:=match stW s with
 |none=>(false,S)
 |some v=>(swB S.words (2*x) old,if swB S.words (2*x) old then {S with words:=stw S.words (2*x) v} else S)
theorem B7y(h:S.ok)(x:Int)(hx:-1000≤x∧x≤1000)(old:Nat)(s:St)(hs:s.wf):∃L',FX 80 [.int (w:Nat),.int x,wN old,.int s.k,.bool s.f,.int s.g,.int s.l,.int s.n,.agg L]=some [.bool (S.turn x old s).1,.agg L']∧InW L' w m k (S.turn x old s).2∧Fr L L' (·=m):=by
 obtain⟨M,hM,hw⟩:=W.m
 obtain⟨r,h0,ht⟩:=F6t s hs
 unfold St.ds at h0
 rw[D1p,h0]
 unfold WS.turn
 cases hv:stW s with
 |none=>
  rw[hv]at ht
  obtain⟨e,he,rfl⟩:=ht
  refine⟨L,?_,W,Fr.refl _ _⟩
  simp only[A0q,List.length_cons,List.length_nil,List.getD_cons_zero,List.getD_cons_succ,he,Bool.not_false,if_true]
 |some v=>
  rw[hv]at ht
  dsimp only[Told]at ht
  subst ht
  obtain⟨e,M',h1,h2⟩:=swap_eq hM (2*x) old v
  refine⟨L.set m (.agg M'.ds),?_,?_,Fr.set _ _ _ rfl⟩
  ·simp only[B5i,A6d,Bool.not_true,Bool.not_false,if_true,D.toInt_int,D.A0f,Int.toNat_natCast,W.w,B0k,A0q,List.length_cons,List.length_nil,List.getD_cons_zero,List.getD_cons_succ,Bool.false_eq_true,if_false,A0h.all]
   rw[A1a (2*x) (by omega) (by omega)]
   change A0b (FX 107 [.int (m:Nat),.int (2*x),wN old,wN v,.agg L]) 3 _=_
   rw[h1]
   simp only[A0q,List.length_cons,List.length_nil,List.getD_cons_zero,List.getD_cons_succ,C3i,hw]
  ·have:=W.E4v M'
   rw[h2,hw]at this
   dsimp only
   split
   ·rename_i hb;rw[hb]at this;exact this
   ·rename_i hb
    have hb':swB S.words (2*x) old=false:=by simpa using hb
    rw[hb']at this;exact this
def WS.note(S:WS)(x gen n:Int)(r:Rc):WS:=match rcW r with
 |none=>S
 |some v=>{S with words:=stw S.words (A7y S.c x gen n) v}
theorem C2l(h:S.ok)(x gen n:Int)(r:Rc)(hr:r.wf):∃L',FX 63 [.int (w:Nat),.int x,.int gen,.int n,.int r.k,.int r.q,.int r.p,.int r.t,.int r.c,.int r.g,.agg L]=some [.agg L']∧InW L' w m k (S.note x gen n r)∧Fr L L' (·=m):=by
 obtain⟨M,hM,hw⟩:=W.m
 obtain⟨z,h0,ht⟩:=G8j r hr
 unfold Rc.ds at h0
 rw[D1n,h0]
 unfold WS.note
 cases hv:rcW r with
 |none=>
  rw[hv]at ht
  obtain⟨e,he,rfl⟩:=ht
  refine⟨L,?_,W,Fr.refl _ _⟩
  simp only[A0q,List.length_cons,List.length_nil,List.getD_cons_zero,List.getD_cons_succ,he,Bool.false_eq_true,if_false]
 |some v=>
  rw[hv]at ht
  dsimp only[Told]at ht
  subst ht
  have hsl:=F6o S.c h.c x gen n
  unfold RU.Cf.ds at hsl
  dsimp only[List.cons_append,List.nil_append]at hsl
  obtain⟨e,M',h1,h2⟩:=F1s hM (A7y S.c x gen n) v
  refine⟨L.set m (.agg M'.ds),?_,?_,Fr.set _ _ _ rfl⟩
  ·simp only[B5i,A6d,Bool.not_true,Bool.not_false,if_true,D.toInt_int,D.A0f,Int.toNat_natCast,W.w,hsl,A0q,List.length_cons,List.length_nil,List.getD_cons_zero,List.getD_cons_succ,Bool.false_eq_true,if_false,A0h.all]
   change A0b (FX 83 [.int (m:Nat),.int (A7y S.c x gen n),wN v,.agg L]) 2 _=_
   rw[h1]
   simp only[A0q,List.length_cons,List.length_nil,List.getD_cons_zero,List.getD_cons_succ]
  ·have:=W.E4v M'
   rw[h2,hw]at this
   exact this
def WS.tell(S:WS)(e:Ev):WS:={S with log:=S.log++[{e with tick:=S.now}]}
theorem F2v(h:S.ok)(hl:S.log.length≤1000000000)(e:Ev):∃L',FX 81 [.int (w:Nat),.int e.kind,.int e.cell,.int e.gen,.int e.other,.int e.wth,.int e.tm.name,.int e.tm.side,.int e.tm.A0k,.int e.tm.least,.int e.tm.A1o,.int e.qty,.int e.A0k,.int e.tick,.int e.fin,.agg L]=some [.agg L']∧InW L' w m k (S.tell e)∧Fr L L' (·=w):=by
 refine⟨L.set w (.agg (A0h.ds ⟨S.c,.int m,.int k,(S.tell e).log⟩)),?_,?_,Fr.set _ _ _ rfl⟩
 ·have hn:=B6x W h
  have e1:(S.log.map Ev.d++[D.agg [.int e.kind,.int e.cell,.int e.gen,.int e.other,.int e.wth,.int e.tm.name,.int e.tm.side,.int e.tm.A0k,.int e.tm.least,.int e.tm.A1o,.int e.qty,.int e.A0k,wN S.now,.int e.fin]])=(S.tell e).log.map Ev.d:=by
   simp only[WS.tell,Ev.d,Ev.ds,List.map_append,List.map_cons,List.map_nil];rfl
  have e2:(((S.tell e).log.map Ev.d).length:Int)≤1256584717458:=by simp[WS.tell];omega
  rw[D1j]
  simp only[A6d,Bool.not_false,if_true,D.toInt_int,D.A0f,Int.toNat_natCast,W.w,A0q,List.length_cons,List.length_nil,List.getD_cons_zero,hn,A0h.all,e1,e2,decide_true]
 ·have hl:=A2h W.w
  obtain⟨M,hM,hw⟩:=W.m
  exact⟨A3v hl _,⟨M,by rw[A3j W.nwm];exact hM,hw⟩,by rw[A3j W.nwk];exact W.k⟩
end
end
section
set_option linter.unusedSectionVars false
theorem A1x.len(r:Int × St):(A1x r).length=6:=by simp only[A1x,List.length_append,St.len,List.length_cons,List.length_nil]
theorem A1x.A1l(r:Int × St):(A1x r).getD 0 D.nil=.int r.2.k:=rfl
theorem A1x.A1j(r:Int × St):(A1x r).getD 1 D.nil=.bool r.2.f:=rfl
theorem A1x.A1v(r:Int × St):(A1x r).getD 2 D.nil=.int r.2.g:=rfl
theorem A1x.A2b(r:Int × St):(A1x r).getD 3 D.nil=.int r.2.l:=rfl
theorem A1x.A1w(r:Int × St):(A1x r).getD 4 D.nil=.int r.2.n:=rfl
theorem A1x.A3g(r:Int × St):(A1x r).getD 5 D.nil=er r.1:=rfl
set_option linter.defProp false in
def A1x.all:=And.intro @A1x.len<|And.intro @A1x.A1l<|And.intro @A1x.A1j<|And.intro @A1x.A1v<|And.intro @A1x.A2b<|And.intro @A1x.A1w @A1x.A3g
theorem In.lit{z:Int}(h:-1000000000≤z∧z≤1000000000):In z:=by unfold In;omega
theorem In.sub{l q:Int}(hl:In l)(h1:0≤q)(h2:q≤l):In (l-q):=by unfold In at *;omega
theorem In.suc{n m:Int}(hn:In n)(h1:n<m)(h2:m≤100):In (n+1):=by unfold In at *;omega
theorem St.wf.C2s{s:St}(h:s.wf)(k:Int)(f:Bool)(hk:In k):St.wf {s with k:=k,f:=f}:=⟨hk,h.2.1,h.2.2.1,h.2.2.2⟩
theorem St.F0s{s:St}(h:s.wf)(m:Int):(s.ended m).wf:=by
 unfold St.ended
 split
 ·exact h.C2s 5 _ (In.lit (by decide))
 ·split
  ·exact h.C2s 8 _ (In.lit (by decide))
  ·exact h
theorem St.E5g(s:St)(m:Int):(s.ended m).n=s.n∧(s.ended m).g=s.g∧(s.ended m).l=s.l:=by
 unfold St.ended
 split
 ·exact⟨rfl,rfl,rfl⟩
 ·split<;>exact⟨rfl,rfl,rfl⟩
theorem St.G2r{s:St}(h:s.wf):s.A7t.wf:=by
 unfold St.A7t
 split
 ·exact h.C2s 1 _ (In.lit (by decide))
 ·split
  ·exact h.C2s 2 _ (In.lit (by decide))
  ·exact h
theorem St.G8z(s:St):s.A7t.n=s.n∧s.A7t.g=s.g∧s.A7t.l=s.l:=by
 unfold St.A7t
 split
 ·exact⟨rfl,rfl,rfl⟩
 ·split<;>exact⟨rfl,rfl,rfl⟩
theorem St.H0w{s:St}(h:s.wf):s.hold.wf:=by
 unfold St.hold
 split
 ·exact h.C2s 3 _ (In.lit (by decide))
 ·split
  ·exact h.C2s 4 _ (In.lit (by decide))
  ·exact h
theorem St.A9b:St.zero.wf:=⟨In.lit (z:=0) (by decide),In.lit (z:=0) (by decide),In.lit (z:=0) (by decide),In.lit (z:=0) (by decide)⟩
theorem F1k{s:St}(h:s.wf)(m:Int):(A9g s m).wf:=by
 have:=St.F0s (St.G2r h) m
 unfold A9g
 split
 ·exact this.C2s 6 _ (In.lit (by decide))
 ·exact this
theorem D5g(s:St)(m:Int):(A9g s m).n=s.n∧(A9g s m).g=s.g∧(A9g s m).l=s.l:=by
 have h1:=St.E5g s.A7t m
 have h2:=St.G8z s
 unfold A9g
 split
 ·dsimp only;rw[h1.1,h1.2.1,h1.2.2];exact h2
 ·rw[h1.1,h1.2.1,h1.2.2];exact h2
def St.wfn(s:St):Prop:=s.wf∧0≤s.n
theorem F2q{s:St}(h:s.wfn)(q m:Int)(hm:m≤100):(A8w s q m).2.wfn:=by
 obtain⟨⟨h1,h2,h3,h4⟩,h5⟩:=h
 have hz:St.zero.wfn:=⟨St.A9b,by decide⟩
 unfold A8w
 split
 ·exact hz
 split
 ·exact hz
 split
 ·exact hz
 ·refine⟨St.F0s (s:={s with l:=s.l-q,n:=s.n+1}) ⟨h1,h2,h3.sub (q:=q) (by omega) (by omega),h4.suc (m:=m) (by omega) hm⟩ m,?_⟩
  ·show 0≤(St.ended {s with l:=s.l-q,n:=s.n+1} m).n
   rw[(St.E5g _ m).1];dsimp only;omega
theorem D6j{s:St}(h:s.wfn)(q m:Int)(hm:m≤100):(A3n s q m).2.wfn:=by
 obtain⟨⟨h1,h2,h3,h4⟩,h5⟩:=h
 have hz:St.zero.wfn:=⟨St.A9b,by decide⟩
 unfold A3n
 split
 ·exact hz
 split
 ·exact hz
 split
 ·split
  ·exact hz
  ·refine⟨F1k (s:={s with l:=s.l-q,n:=s.n+1}) ⟨h1,h2,h3.sub (q:=q) (by omega) (by omega),h4.suc (m:=m) (by omega) hm⟩ m,?_⟩
   ·show 0≤(A9g {s with l:=s.l-q,n:=s.n+1} m).n
    rw[(D5g _ m).1];dsimp only;omega
 ·exact⟨F1k ⟨h1,h2,h3,h4⟩ m,by show 0≤(A9g s m).n;rw[(D5g s m).1];exact h5⟩
theorem C8n(x:Nat):(A0l x).wfn:=⟨B2a x,(B8p x).2.2.2.1⟩
theorem G1s(a b:Tm)(ha:a.sm)(hb:b.sm)(l o:Int)(hl:In l)(ho:In o):In (A7f a b l o).1∧In (A7f a b l o).2:=by
 have key:∀buy sell:Tm,buy.sm→sell.sm→In (A8m a b buy sell l o).1∧In (A8m a b buy sell l o).2:=by
  intro buy sell h1 h2
  have h0:In 0:=by unfold In;omega
  unfold A8m
  have hq:In (if o<l then o else l):=by
   split
   ·exact ho
   ·exact hl
  generalize (if o<l then o else l)=q at hq
  generalize (if b.least>a.least then b.least else a.least)=mm
  split
  ·exact⟨h0,h0⟩
  ·split
   ·exact⟨h0,h0⟩
   ·constructor
    ·exact hq
    ·show In (F3a sell.A0k buy.A0k)
     have a1:=h1.2.2.1
     have a2:=h2.2.2.1
     unfold F3a In;omega
 unfold A7f
 split
 ·exact key b a hb ha
 ·exact key a b ha hb
structure A0a.ok(P:A0a):Prop where
 wx:P.wx<18446744073709551616
 wy:P.wy<18446744073709551616
 tx:P.tx.sm
 ty:P.ty.sm
 pc:0≤P.pc∧P.pc≤14
 q:In P.q
 p:In P.p
 at_:In P.at_
 fin:In P.fin
 nx:P.nx.wfn
 ny:P.ny.wfn
def B3j(c:Cf)(P:A0a):Bool:=decide (A5b c P.a.x<0) || decide (A5b c P.a.y<0) || A5b c P.a.x == A5b c P.a.y
def C7g(c:Cf)(P:A0a)(s:St):Bool:=if P.a.way=1∨P.a.way=2 then s.k == 1&&s.g == P.a.gen else if P.a.way=3 then s.k == 2&&P.tx.side == 0&&B1u c P.tx == P.a.A3s else false
def D4c(c:Cf)(P:A0a)(s:St):Bool:=if P.a.way=1 then s.k == 1 else if P.a.way=2 then B1u c P.ty == P.a.A3s&&s.k == 2 else if P.a.way=3 then s.k == 2 else false
def C1l(P:A0a)(S:WS):A0a × WS:=if C7g S.c P (A0l P.wx)then({P with held:=(S.turn P.a.x P.wx (A0l P.wx).hold).1},(S.turn P.a.x P.wx (A0l P.wx).hold).2)else(P,S)
def Ev.zero:Ev:=⟨0,0,0,0,0,.zero,0,0,0,0⟩
def B8v(P:A0a)(S:WS)(t:Int × St):A0a × WS:=
 if t.1≠0 then(P,S)else if(S.turn P.a.y P.wy t.2).1=false then(P,S)else
 ({P with made:=true,ny:=t.2,at_:=S.now},(S.turn P.a.y P.wy t.2).2.tell {Ev.zero with kind:=2,cell:=P.a.x,gen:=(A0l P.wx).g,other:=P.a.y,wth:=(A0l P.wy).g,qty:=P.q,A0k:=P.p})
def A3x(P:A0a):Int × Int:=A7f P.tx P.ty (A0l P.wx).l (A0l P.wy).l
def B8s(P:A0a)(S:WS):A0a × WS:=
 if P.held=false∨D4c S.c P (A0l P.wy)=false then(P,S)else
 B8v {P with q:=(A3x P).1,p:=(A3x P).2} S (A8w (A0l P.wy) (A3x P).1 S.c.c5)
def B7j(P:A0a)(S:WS):A0a × WS:=if P.held=true∧P.free=false then({P with wx:=S.word P.a.x},S)else(P,S)
def C0c(P:A0a)(S:WS)(t:Int × St):A0a × WS:=
 if t.1≠0 then(P,S)else if(S.turn P.a.x P.wx t.2).1=false then(P,S)else
 ({P with free:=true,nx:=t.2,fin:=S.now},if t.2.over then(S.turn P.a.x P.wx t.2).2.tell {Ev.zero with kind:=7,cell:=P.a.x,gen:=t.2.g,fin:=t.2.k} else(S.turn P.a.x P.wx t.2).2)
def C5t(P:A0a)(S:WS):A0a × WS:=if P.held=false∨P.free=true then(P,S)else C0c P S (A3n (A0l P.wx) (if P.made then P.q else 0) S.c.c5)
def B5q(P:A0a)(x gen:Int):Rc:=⟨1,P.q,P.p,P.at_,x,gen⟩
def A7o(S:WS)(x gen n:Int):Option Rc→WS
 |some r=>S.note x gen n r
 |none=>S
def A4u(P:A0a)(S:WS):WS:=
 if P.pc=10∧P.made=true then S.note P.a.x P.nx.g (P.nx.n-1) (B5q P P.a.y P.ny.g)
 else if P.pc=11∧P.made=true then S.note P.a.y P.ny.g (P.ny.n-1) (B5q P P.a.x P.nx.g)
 else if P.pc=12∧P.made=true then A7o S P.a.y P.ny.g S.c.c5 (A7s P.ny P.at_)
 else if P.pc=13∧P.held=true then A7o S P.a.x P.nx.g S.c.c5 (A7s P.nx P.fin)
 else S
def A3l(P:A0a)(S:WS):A0a × WS:=
 if P.pc=0 then({P with wx:=S.word P.a.x},S)
 else if P.pc=1 then({P with tx:=B5e (S.B1g P.a.x)},S)
 else if P.pc=2 then C1l P S
 else if P.pc=3 then({P with wy:=S.word P.a.y},S)
 else if P.pc=4 then({P with ty:=B5e (S.B1g P.a.y)},S)
 else if P.pc=5 then B8s P S
 else if P.pc=6∨P.pc=8 then B7j P S
 else if P.pc=7∨P.pc=9 then C5t P S
 else(P,A4u P S)
def A2s(P:A0a)(S:WS):A0a × WS:=if P.pc≥14 then(P,S)else if B3j S.c P then({P with pc:=P.pc+1},S)else({(A3l P S).1 with pc:=P.pc+1},(A3l P S).2)
def A0a.new(a:Aim):A0a:=⟨a,0,0,0,.zero,.zero,false,false,false,0,0,0,0,.zero,.zero⟩
theorem WS.B0a{S:WS}(h:S.ok)(x:Int)(old:Nat)(s:St):(S.turn x old s).2.ok∧(S.turn x old s).2.c=S.c∧(S.turn x old s).2.now=S.now∧(S.turn x old s).2.log=S.log∧((S.turn x old s).1=false→(S.turn x old s).2=S):=by
 unfold WS.turn
 cases hv:stW s with
 |none=>exact⟨h,rfl,rfl,rfl,fun _=>rfl⟩
 |some v=>
  dsimp only
  cases hb:swB S.words (2*x) old with
  |false=>exact⟨h,rfl,rfl,rfl,fun _=>rfl⟩
  |true=>
   refine⟨⟨h.c,F2a h.w _ ?_,h.now,by show(stw S.words (2*x) v).length≤_;rw[B1x];exact h.len⟩,rfl,rfl,rfl,fun h=>by cases h⟩
   unfold stW at hv
   split at hv
   ·cases hv
   ·exact D0p D9s hv
theorem WS.C3o(S:WS)(x:Int)(old:Nat)(s:St):(S.turn x old s).2.words.length=S.words.length:=by
 unfold WS.turn
 cases stW s with
 |none=>rfl
 |some v=>
  dsimp only
  split
  ·exact B1x _ _ _
  ·rfl
theorem WS.F3c(S:WS)(x gen n:Int)(r:Rc):(S.note x gen n r).words.length=S.words.length:=by
 unfold WS.note
 cases rcW r with
 |none=>rfl
 |some v=>exact B1x _ _ _
theorem WS.E5k{S:WS}(h:S.ok)(x gen n:Int)(r:Rc):(S.note x gen n r).ok∧(S.note x gen n r).c=S.c∧(S.note x gen n r).now=S.now∧(S.note x gen n r).log=S.log:=by
 unfold WS.note
 cases hv:rcW r with
 |none=>exact⟨h,rfl,rfl,rfl⟩
 |some v=>
  refine⟨⟨h.c,F2a h.w _ ?_,h.now,by show(stw S.words _ v).length≤_;rw[B1x];exact h.len⟩,rfl,rfl,rfl⟩
  unfold rcW at hv
  split at hv
  ·cases hv
  ·exact D0p E8r hv
theorem WS.C1y{S:WS}(h:S.ok)(e:Ev):(S.tell e).ok:=⟨h.c,h.w,h.now,h.len⟩
theorem WS.C2h{S:WS}(h:S.ok)(x:Int):S.word x<18446744073709551616:=E9n h.w _
theorem H1g{S:WS}(h:S.ok)(x:Int):FX 93 [.int S.c.c0,.int S.c.c1,.int S.c.c2,.int S.c.c3,.int S.c.c4,.int S.c.c5,.int S.c.c6,.int x]=some [.int (A5b S.c x)]:=G7o S.c h.c x
theorem D8a{S:WS}(h:S.ok)(t:Tm):FX 78 [.int S.c.c0,.int S.c.c1,.int S.c.c2,.int S.c.c3,.int S.c.c4,.int S.c.c5,.int S.c.c6,.int t.name,.int t.side,.int t.A0k,.int t.least,.int t.A1o]=some [.int (B1u S.c t)]:=G2x S.c h.c t
theorem H3j(s:St):FX 121 [.int s.k,.bool s.f,.int s.g,.int s.l,.int s.n]=some s.hold.ds:=H0e s
def Did(L L':List D)(a w m k:Nat)(R:A0a × WS):Prop:=InW L' w m k R.2∧L'.getD a D.nil=.agg R.1.ds∧Fr L L' (fun b=>b=a∨b=w∨b=m)
section
variable{L:List D}{a w m k:Nat}{P:A0a}{S:WS}(W:InW L w m k S)(ha:L.getD a D.nil=.agg P.ds)
include W ha
theorem pfar:a≠w∧a≠m∧a≠k:=W.far ha (by rw[A0a.len];decide) (by rw[A0a.len];decide) (by rw[A0a.len];decide)
theorem A4a:Did L L a w m k (P,S):=⟨W,ha,Fr.refl _ _⟩
theorem B6p{L1:List D}{S1:WS}(W1:InW L1 w m k S1)(F:Fr L L1 (fun b=>b=w∨b=m)):Did L L1 a w m k (P,S1):=by
 obtain⟨h1,h2,h3⟩:=pfar W ha
 exact⟨W1,F.get ha (by simp only[h1,h2,or_self,not_false_iff]),F.mono fun b hb=>.inr hb⟩
omit W ha in
theorem B0e{L1:List D}{P1:A0a}{S1:WS}(hd:Did L L1 a w m k (P1,S1))(P2:A0a):Did L (L1.set a (.agg P2.ds)) a w m k (P2,S1):=by
 obtain⟨W1,h1,F⟩:=hd
 obtain⟨g1,g2,g3⟩:=pfar W1 h1
 exact⟨W1.fr (Fr.set L1 a _ (T:=(·=a)) rfl) (Ne.symm g1) (Ne.symm g2) (Ne.symm g3),A3v (A2h h1) _,F.trans (Fr.set L1 a _ (.inl rfl))⟩
theorem D5v:FX 56 [.int (a:Nat),.agg L]=some [.bool (decide (P.pc≥14))]:=by
 rw[B2z]
 simp only[HH,ha,A0a.A3g]
theorem H2e(h:S.ok):FX 70 [.int (a:Nat),.int (w:Nat),.agg L]=some [.bool (B3j S.c P)]:=by
 have h1:=H1g h
 rw[D3c]
 simp only[HH,ha,W.w,A0h.all,A0a.A1j,A0a.A2b,h1]
 unfold B3j
 by_cases a1:A5b S.c P.a.x<0
 ·simp only[a1,decide_true,if_true,Bool.true_or]
 by_cases a2:A5b S.c P.a.y<0
 ·simp only[a1,a2,decide_true,decide_false,Bool.false_eq_true,if_false,if_true,Bool.true_or,Bool.or_true]
 ·simp only[a1,a2,decide_false,Bool.false_eq_true,if_false,Bool.false_or]
theorem G6i(h:S.ok)(s:St):FX 120 [.int (a:Nat),.int (w:Nat),.int s.k,.bool s.f,.int s.g,.int s.l,.int s.n,.agg L]=some [.bool (C7g S.c P s)]:=by
 have h1:=D8a h P.tx
 rw[D1i]
 simp only[HH,ha,W.w,A0h.all,A0a.A1l,A0a.A1v,A0a.A1w,A0a.A5t,A0a.A5u,A0a.B2n,A0a.A9i,A0a.A8u,h1]
 unfold C7g
 by_cases a1:P.a.way=1
 ·by_cases b1:s.k=1
  ·simp[a1,b1]
  ·simp[a1,b1]
 by_cases a2:P.a.way=2
 ·by_cases b1:s.k=1
  ·simp[a2,b1]
  ·simp[a2,b1]
 by_cases a3:P.a.way=3
 ·by_cases b1:s.k=2
  ·by_cases b2:P.tx.side=0
   ·simp[a3,b1,b2]
   ·simp[a3,b1,b2]
  ·simp[a3,b1]
 ·simp[a1,a2,a3]
theorem G7p(h:S.ok)(s:St):FX 122 [.int (a:Nat),.int (w:Nat),.int s.k,.bool s.f,.int s.g,.int s.l,.int s.n,.agg L]=some [.bool (D4c S.c P s)]:=by
 have h1:=D8a h P.ty
 rw[D1m]
 simp only[HH,ha,W.w,A0h.all,A0a.A1l,A0a.A1w,A0a.A9f,A0a.B2g,A0a.B6b,A0a.E2h,A0a.C4l,h1]
 unfold D4c
 by_cases a1:P.a.way=1
 ·simp[a1]
 by_cases a2:P.a.way=2
 ·by_cases b1:B1u S.c P.ty=P.a.A3s
  ·simp[a2,b1]
  ·simp[a2,b1]
 by_cases a3:P.a.way=3
 ·simp[a3]
 ·simp[a1,a2,a3]
theorem G5p(h:S.ok)(hp:P.ok)(hx:-1000≤P.a.x∧P.a.x≤1000):∃L',FX 94 [.int (a:Nat),.int (w:Nat),.agg L]=some [.agg L']∧Did L L' a w m k (C1l P S):=by
 have h1:=D9h P.wx hp.wx
 have h2:=G6i W ha h (A0l P.wx)
 have h3:=H3j (A0l P.wx)
 obtain⟨L1,h4,W1,F1⟩:=B7y W h P.a.x hx P.wx (A0l P.wx).hold (St.H0w (B2a _))
 have d1:=B6p W ha W1 (F1.mono fun b hb=>.inr hb)
 rw[D2q]
 simp only[HH,ha,A0a.A1j,A0a.A4q]
 unfold wN at h4⊢
 rw[h1]
 simp only[HH,St.len,St.A1l,St.A1j,St.A1v,St.A2b,St.A1w,h2]
 unfold C1l
 cases hb:C7g S.c P (A0l P.wx)with
 |false=>exact⟨L,by simp only[HH],A4a W ha⟩
 |true=>
  refine⟨_,?_,B0e d1 {P with held:=(S.turn P.a.x P.wx (A0l P.wx).hold).1}⟩
  simp only[HH,h3,St.len,St.A1l,St.A1j,St.A1v,St.A2b,St.A1w,h4,d1.2.1,A0a.all]
end
end
section
set_option linter.unusedSectionVars false
theorem H0l(a b:Tm)(ha:a.sm)(hb:b.sm)(l o:Int):FX 123 [.int a.name,.int a.side,.int a.A0k,.int a.least,.int a.A1o,.int b.name,.int b.side,.int b.A0k,.int b.least,.int b.A1o,.int l,.int o]=some [.int (A7f a b l o).1,.int (A7f a b l o).2]:=G8u a b ha hb l o
theorem H2j(s:St)(hs:s.wf)(q m:Int)(hm:m≤100):FX 124 [.int s.k,.bool s.f,.int s.g,.int s.l,.int s.n,.int q,.int m]=some (A1x (A8w s q m)):=H1l s hs q m hm
theorem G3c(s:St)(hs:s.wf)(q m:Int)(hm:m≤100):FX 125 [.int s.k,.bool s.f,.int s.g,.int s.l,.int s.n,.int q,.int m]=some (A1x (A3n s q m)):=G0m s hs q m hm
theorem E9l(s:St)(t:Int):FX 62 [.int s.k,.bool s.f,.int s.g,.int s.l,.int s.n,.int t]=some (A4l (A7s s t)):=H2q s t
theorem C7w{L:List D}{w m k:Nat}{S:WS}(W:InW L w m k S)(h:S.ok)(hl:S.log.length≤1000000000)(kind cell gen other wth qty A0k fin:Int):
  ∃L',FX 81 [.int (w:Nat),.int kind,.int cell,.int gen,.int other,.int wth,.int 0,.int 0,.int 0,.int 0,.int 0,.int qty,.int A0k,.int 0,.int fin,.agg L]=some [.agg L']∧
   InW L' w m k (S.tell {Ev.zero with kind:=kind,cell:=cell,gen:=gen,other:=other,wth:=wth,qty:=qty,A0k:=A0k,fin:=fin})∧Fr L L' (·=w):=
 F2v W h hl {Ev.zero with kind:=kind,cell:=cell,gen:=gen,other:=other,wth:=wth,qty:=qty,A0k:=A0k,fin:=fin}
theorem D7o{L L1 L2:List D}{a w m k:Nat}{P:A0a}{S1 S2:WS}(d:Did L L1 a w m k (P,S1))(W2:InW L2 w m k S2)(F:Fr L1 L2 (fun b=>b=w∨b=m)):Did L L2 a w m k (P,S2):=by
 have:=B6p d.1 d.2.1 W2 F
 exact⟨this.1,this.2.1,d.2.2.trans this.2.2⟩
theorem F2j(x:Nat)(hx:x<18446744073709551616):FX 74 [wN x]=some (A0l x).ds:=D9h x hx
theorem E2n{c:Int}(h:c=0):(er c).isNil=true:=by rw[D8g];simp[h]
theorem E0c{c:Int}(h:c≠0):(er c).isNil=false:=by rw[D8g];simp[h]
theorem A8z{c:Cf}(h:c.ok):1≤c.c5∧c.c5≤4:=h.2.2.2.2.2.1
section
variable{L:List D}{a w m k:Nat}{P:A0a}{S:WS}(W:InW L w m k S)(ha:L.getD a D.nil=.agg P.ds)(h:S.ok)(hp:P.ok)(hl:S.log.length≤1000000000)
include W ha h hp
theorem G8b(hx:-1000≤P.a.x∧P.a.x≤1000):∃L',FX 96 [.int (a:Nat),.int (w:Nat),.agg L]=some [.agg L']∧Did L L' a w m k (B7j P S):=by
 obtain⟨L1,h4,W1,F1⟩:=B0m W h P.a.x hx
 have d1:=B6p W ha W1 (F1.mono fun b hb=>.inr hb)
 rw[D2i]
 simp only[HH,ha,A0a.A1j,A0a.C9n,A0a.C9s]
 by_cases b1:P.held=true
 ·by_cases b2:P.free=true
  ·have e:B7j P S=(P,S):=if_neg (by simp[b2])
   rw[e]
   exact⟨L,by simp only[HH,b1,b2],A4a W ha⟩
  ·have e:B7j P S=({P with wx:=S.word P.a.x},S):=if_pos ⟨b1,by simpa using b2⟩
   rw[e]
   refine⟨_,?_,B0e d1 _⟩
   have b2':P.free=false:=by simpa using b2
   have e:(List.getD ((A0l (S.word P.a.x)).ds++[D.agg L1]) 5 D.nil)=D.agg L1:=rfl
   simp only[HH,h4,List.cons_append,List.length_append,St.len,b1,b2',e,d1.2.1,A0a.all]
 ·have e:B7j P S=(P,S):=if_neg (by simp[b1])
  have b1':P.held=false:=by simpa using b1
  rw[e]
  exact⟨L,by simp only[HH,b1'],A4a W ha⟩
include hl
theorem G5m(hx:-1000≤P.a.y∧P.a.y≤1000):∃L',FX 95 [.int (a:Nat),.int (w:Nat),.agg L]=some [.agg L']∧Did L L' a w m k (B8s P S):=by
 have h1:=F2j P.wx hp.wx
 have h2:=F2j P.wy hp.wy
 have h3:=G7p W ha h (A0l P.wy)
 have h4:=H0l P.tx P.ty hp.tx hp.ty (A0l P.wx).l (A0l P.wy).l
 obtain⟨f,hfF⟩:∃f,f=A3x P:=⟨_,rfl⟩
 have hfM:A7f P.tx P.ty (A0l P.wx).l (A0l P.wy).l=f:=hfF.symm
 rw[hfM]at h4
 have hf:=A8z h.c
 rw[D2n]
 simp only[HH,ha,A0a.A1j,A0a.A2b,A0a.A4q,A0a.A7r,A0a.A5t,A0a.A5u,A0a.B2n,A0a.A9i,A0a.A8u,A0a.A9f,A0a.B2g,A0a.B6b,A0a.E2h,A0a.C4l,A0a.C9n,h1,St.len,St.A1l,St.A1j,St.A1v,St.A2b,St.A1w,h2,h3,h4]
 by_cases b0:P.held=false∨D4c S.c P (A0l P.wy)=false
 ·have e:B8s P S=(P,S):=if_pos b0
  rw[e]
  rcases b0 with b1|b1
  ·exact⟨L,by simp only[HH,b1],A4a W ha⟩
  ·by_cases b2:P.held=true
   ·exact⟨L,by simp only[HH,b1,b2],A4a W ha⟩
   ·have b2':P.held=false:=by simpa using b2
    exact⟨L,by simp only[HH,b2'],A4a W ha⟩
 have b1:P.held=true:=by simp only[not_or]at b0;simpa using b0.1
 have b2:D4c S.c P (A0l P.wy)=true:=by simp only[not_or]at b0;simpa using b0.2
 obtain⟨P2,hP2⟩:∃P2:A0a,P2={P with q:=f.1,p:=f.2}:=⟨_,rfl⟩
 have e:B8s P S=B8v P2 S (A8w (A0l P.wy) f.1 S.c.c5):=by rw[hP2,hfF];exact if_neg b0
 rw[e]
 have d2:=B0e (A4a W ha) P2
 have h5:=H2j (A0l P.wy) (B2a _) f.1 S.c.c5 (by omega)
 simp only[HH,b2,A0a.rng,A0a.E9b,A0a.E9a,←hP2]
 rw[if_neg (show ¬(!P.held)=true by rw[b1];decide)]
 simp only[d2.1.w,D.A0f,A0h.A3g,h5,A0q,A1x.len]
 have ht:=F2q (C8n P.wy) f.1 S.c.c5 (by omega)
 generalize A8w (A0l P.wy) f.1 S.c.c5=t at*
 by_cases b3:t.1=0
 ·simp only[HH,A1x.all,E2n b3]
  have b3':¬t.1≠0:=by simpa using b3
  have hw2:P2.wy=P.wy:=by rw[hP2]
  have hy2:P2.a.y=P.a.y:=by rw[hP2]
  obtain⟨L3,h6,W3,F3⟩:=B7y d2.1 h P.a.y hx P.wy t.2 ht.1
  have d3:Did L L3 a w m k (P2,(S.turn P.a.y P.wy t.2).2):=D7o d2 W3 (F3.mono fun b hb=>.inr hb)
  obtain⟨o1,o2,o3,o4,o5⟩:=S.B0a h P.a.y P.wy t.2
  simp only[h6,HH]
  by_cases b4:(S.turn P.a.y P.wy t.2).1=false
  ·have e:B8v P2 S t=(P2,S):=by
    unfold B8v
    rw[if_neg b3',hw2,hy2,if_pos b4]
   rw[e]
   rw[o5 b4]at d3
   exact⟨L3,by simp only[HH,b4],d3⟩
  ·have b4':(S.turn P.a.y P.wy t.2).1=true:=by simpa using b4
   have e:B8v P2 S t=({P2 with made:=true,ny:=t.2,at_:=S.now},(S.turn P.a.y P.wy t.2).2.tell {Ev.zero with kind:=2,cell:=P2.a.x,gen:=(A0l P2.wx).g,other:=P2.a.y,wth:=(A0l P2.wy).g,qty:=P2.q,A0k:=P2.p}):=by
    unfold B8v
    rw[if_neg b3',hw2,hy2,if_neg b4]
   rw[e]
   have d4:=B0e d3 {P2 with made:=true,ny:=t.2,at_:=S.now}
   obtain⟨L5,h7,W5,F5⟩:=C7w d4.1 o1 (by rw[o4];exact hl) 2 P2.a.x (A0l P2.wx).g P2.a.y (A0l P2.wy).g P2.q P2.p 0
   have hw1:(A0l P2.wx).g=(A0l P.wx).g:=by rw[hP2]
   have hw3:(A0l P2.wy).g=(A0l P.wy).g:=by rw[hP2]
   rw[hw1,hw3]at h7
   have h8:=B6x W3 o1
   rw[o3]at h8
   refine⟨L5,?_,D7o d4 W5 (F5.mono fun b hb=>.inl hb)⟩
   simp only[HH,b4',W3.w,A0h.A5t,h8,C3w,d3.2.1,A0a.A1j,A0a.A2b,A0a.D0u,A0a.E0t,A0a.rng,A0a.F9t,A0a.E9e,A0a.E8u,A0a.E8o,A0a.E8v,A0a.E8p]
   have e9:(A0a.ds {P2 with made:=true,ny:=t.2}).set 23 (wN S.now)=A0a.ds {P2 with made:=true,ny:=t.2,at_:=S.now}:=rfl
   have e10:({k:=t.2.k,f:=t.2.f,g:=t.2.g,l:=t.2.l,n:=t.2.n}:St)=t.2:=rfl
   simp only[e10,e9,h7,HH]
 ·have e:B8v P2 S t=(P2,S):=if_pos b3
  rw[e]
  exact⟨_,by simp only[HH,A1x.all,E0c b3],d2⟩
end
end
section
set_option linter.unusedSectionVars false
theorem G6x(t:Tm)(x:D):t.ds++[x]=[.int t.name,.int t.side,.int t.A0k,.int t.least,.int t.A1o,x]:=rfl
theorem F1h(s:St)(x:D):s.ds++[x]=[.int s.k,.bool s.f,.int s.g,.int s.l,.int s.n,x]:=rfl
theorem A4l.len(o:Option Rc):(A4l o).length=7:=by
 cases o<;>simp only[A4l,List.length_append,Rc.len,List.length_cons,List.length_nil]
theorem D4x{s:St}(hs:s.wf){t:Int}(ht:In t){r:Rc}(h:A7s s t=some r):r.wf:=by
 unfold A7s at h
 split at h
 ·rename_i ho
  cases h
  have hk:5≤s.k∧s.k≤8:=by unfold St.over at ho;simpa using ho
  obtain⟨h1,h2,h3,h4⟩:=hs
  intro z hz
  simp only[Rc.vs,List.mem_cons,List.not_mem_nil,or_false]at hz
  rcases hz with rfl|rfl|rfl|rfl|rfl|rfl
  ·exact In.lit (by omega)
  ·exact h3
  ·exact h4
  ·exact ht
  ·exact In.lit (by decide)
  ·exact In.lit (by decide)
 ·cases h
structure Kept(P:A0a)(S:WS)(R:A0a × WS):Prop where
 p:R.1.ok
 s:R.2.ok
 c:R.2.c=S.c
 now:R.2.now=S.now
 log:R.2.log.length≤S.log.length+1
 pc:R.1.pc=P.pc
 a:R.1.a=P.a
 len:R.2.words.length=S.words.length
section
variable{P:A0a}{S:WS}(h:S.ok)(hp:P.ok)
include h hp
theorem B0p:Kept P S (P,S):=⟨hp,h,rfl,rfl,Nat.le_succ _,rfl,rfl,rfl⟩
theorem G9q:In (S.now:Int):=In.lit (by have:=h.now;omega)
theorem G2u:Kept P S (C1l P S):=by
 obtain⟨o1,o2,o3,o4,o5⟩:=S.B0a h P.a.x P.wx (A0l P.wx).hold
 unfold C1l
 split
 ·exact⟨⟨hp.wx,hp.wy,hp.tx,hp.ty,hp.pc,hp.q,hp.p,hp.at_,hp.fin,hp.nx,hp.ny⟩,o1,o2,o3,by rw[o4];omega,rfl,rfl,S.C3o _ _ _⟩
 ·exact B0p h hp
theorem G3b:Kept P S (B8s P S):=by
 have hf:=A8z h.c
 unfold B8s
 split
 ·exact B0p h hp
 ·have hm:=G1s P.tx P.ty hp.tx hp.ty (A0l P.wx).l (A0l P.wy).l (B2a _).2.2.1 (B2a _).2.2.1
  have hm':In (A3x P).1∧In (A3x P).2:=hm
  have ht:=F2q (C8n P.wy) (A3x P).1 S.c.c5 (by omega)
  generalize A3x P=f at*
  generalize A8w (A0l P.wy) f.1 S.c.c5=t at*
  obtain⟨o1,o2,o3,o4,o5⟩:=S.B0a h P.a.y P.wy t.2
  have hp2:A0a.ok {P with q:=f.1,p:=f.2}:=⟨hp.wx,hp.wy,hp.tx,hp.ty,hp.pc,hm'.1,hm'.2,hp.at_,hp.fin,hp.nx,hp.ny⟩
  unfold B8v
  split
  ·exact⟨hp2,h,rfl,rfl,Nat.le_succ _,rfl,rfl,rfl⟩
  ·split
   ·exact⟨hp2,h,rfl,rfl,Nat.le_succ _,rfl,rfl,rfl⟩
   ·exact⟨⟨hp.wx,hp.wy,hp.tx,hp.ty,hp.pc,hm'.1,hm'.2,G9q h hp,hp.fin,hp.nx,ht⟩,WS.C1y o1 _,o2,o3,by simp only[WS.tell,List.length_append,o4,List.length_cons,List.length_nil];omega,rfl,rfl,S.C3o _ _ _⟩
theorem G1w:Kept P S (B7j P S):=by
 unfold B7j
 split
 ·exact⟨⟨WS.C2h h _,hp.wy,hp.tx,hp.ty,hp.pc,hp.q,hp.p,hp.at_,hp.fin,hp.nx,hp.ny⟩,h,rfl,rfl,Nat.le_succ _,rfl,rfl,rfl⟩
 ·exact B0p h hp
theorem G5d:Kept P S (C5t P S):=by
 have hf:=A8z h.c
 unfold C5t
 split
 ·exact B0p h hp
 ·have ht:=D6j (C8n P.wx) (if P.made then P.q else 0) S.c.c5 (by omega)
  generalize A3n (A0l P.wx) (if P.made then P.q else 0) S.c.c5=t at*
  obtain⟨o1,o2,o3,o4,o5⟩:=S.B0a h P.a.x P.wx t.2
  unfold C0c
  split
  ·exact B0p h hp
  ·split
   ·exact B0p h hp
   ·have hq:A0a.ok {P with free:=true,nx:=t.2,fin:=S.now}:=⟨hp.wx,hp.wy,hp.tx,hp.ty,hp.pc,hp.q,hp.p,hp.at_,G9q h hp,ht,hp.ny⟩
    split
    ·exact⟨hq,WS.C1y o1 _,o2,o3,by simp only[WS.tell,List.length_append,o4,List.length_cons,List.length_nil];omega,rfl,rfl,S.C3o _ _ _⟩
    ·exact⟨hq,o1,o2,o3,by dsimp only;rw[o4];omega,rfl,rfl,S.C3o _ _ _⟩
theorem G4r:Kept P S (P,A4u P S):=by
 have key:∀x g n r,Kept P S (P,S.note x g n r):=by
  intro x g n r
  obtain⟨o1,o2,o3,o4⟩:=WS.E5k h x g n r
  exact⟨hp,o1,o2,o3,by dsimp only;rw[o4];omega,rfl,rfl,S.F3c _ _ _ _⟩
 have key2:∀x g n o,Kept P S (P,A7o S x g n o):=by
  intro x g n o
  cases o with
  |none=>exact B0p h hp
  |some r=>exact key _ _ _ _
 unfold A4u
 split
 ·exact key _ _ _ _
 split
 ·exact key _ _ _ _
 split
 ·exact key2 _ _ _ _
 split
 ·exact key2 _ _ _ _
 ·exact B0p h hp
theorem E1n:Kept P S (A3l P S):=by
 unfold A3l
 split
 ·exact⟨⟨WS.C2h h _,hp.wy,hp.tx,hp.ty,hp.pc,hp.q,hp.p,hp.at_,hp.fin,hp.nx,hp.ny⟩,h,rfl,rfl,Nat.le_succ _,rfl,rfl,rfl⟩
 split
 ·exact⟨⟨hp.wx,hp.wy,C6x _,hp.ty,hp.pc,hp.q,hp.p,hp.at_,hp.fin,hp.nx,hp.ny⟩,h,rfl,rfl,Nat.le_succ _,rfl,rfl,rfl⟩
 split
 ·exact G2u h hp
 split
 ·exact⟨⟨hp.wx,WS.C2h h _,hp.tx,hp.ty,hp.pc,hp.q,hp.p,hp.at_,hp.fin,hp.nx,hp.ny⟩,h,rfl,rfl,Nat.le_succ _,rfl,rfl,rfl⟩
 split
 ·exact⟨⟨hp.wx,hp.wy,hp.tx,C6x _,hp.pc,hp.q,hp.p,hp.at_,hp.fin,hp.nx,hp.ny⟩,h,rfl,rfl,Nat.le_succ _,rfl,rfl,rfl⟩
 split
 ·exact G3b h hp
 split
 ·exact G1w h hp
 split
 ·exact G5d h hp
 ·exact G4r h hp
end
structure H4g(P:A0a)(S:WS)(R:A0a × WS):Prop where
 p:R.1.ok
 s:R.2.ok
 c:R.2.c=S.c
 now:R.2.now=S.now
 log:R.2.log.length≤S.log.length+1
 a:R.1.a=P.a
 len:R.2.words.length=S.words.length
theorem C7z{P:A0a}{S:WS}(h:S.ok)(hp:P.ok):H4g P S (A2s P S):=by
 unfold A2s
 split
 ·exact⟨hp,h,rfl,rfl,Nat.le_succ _,rfl,rfl⟩
 ·rename_i hc
  have hpc:0≤P.pc+1∧P.pc+1≤14:=by have:=hp.pc;omega
  split
  ·exact⟨⟨hp.wx,hp.wy,hp.tx,hp.ty,hpc,hp.q,hp.p,hp.at_,hp.fin,hp.nx,hp.ny⟩,h,rfl,rfl,Nat.le_succ _,rfl,rfl⟩
  ·have kk:=E1n h hp
   obtain⟨q,s,e1,e2,e3,e4,e5,e6⟩:=kk
   exact⟨⟨q.wx,q.wy,q.tx,q.ty,hpc,q.q,q.p,q.at_,q.fin,q.nx,q.ny⟩,s,e1,e2,e3,e5,e6⟩
theorem A0a.B9l(a:Aim):(A0a.new a).ok:=by
 have z:In 0:=In.lit (by decide)
 have t:Tm.zero.sm:=by unfold Tm.sm Tm.zero;decide
 exact⟨by show 0<_;decide,by show 0<_;decide,t,t,by show 0≤(0:Int)∧(0:Int)≤14;decide,z,z,z,z,⟨St.A9b,Int.le_refl 0⟩,⟨St.A9b,Int.le_refl 0⟩⟩
section
variable{L:List D}{a w m k:Nat}{P:A0a}{S:WS}(W:InW L w m k S)(ha:L.getD a D.nil=.agg P.ds)(h:S.ok)(hp:P.ok)
include W ha h hp
theorem H1k(hl:S.log.length≤1000000000)(hx:-1000≤P.a.x∧P.a.x≤1000):∃L',FX 97 [.int (a:Nat),.int (w:Nat),.agg L]=some [.agg L']∧Did L L' a w m k (C5t P S):=by
 have h1:=F2j P.wx hp.wx
 have hf:=A8z h.c
 rw[D6f]
 simp only[HH,ha,A0a.C9n,A0a.D5e,A0a.C9s,A0a.D0u]
 by_cases b0:P.held=false∨P.free=true
 ·have e:C5t P S=(P,S):=if_pos b0
  rw[e]
  rcases b0 with b1|b1
  ·exact⟨L,by simp only[HH,b1],A4a W ha⟩
  ·by_cases b2:P.held=true
   ·exact⟨L,by simp only[HH,b1,b2],A4a W ha⟩
   ·have b2':P.held=false:=by simpa using b2
    exact⟨L,by simp only[HH,b2'],A4a W ha⟩
 have b1:P.held=true:=by simp only[not_or]at b0;simpa using b0.1
 have b2:P.free=false:=by simp only[not_or]at b0;simpa using b0.2
 obtain⟨q,hq⟩:∃q:Int,q=if P.made then P.q else 0:=⟨_,rfl⟩
 have e:C5t P S=C0c P S (A3n (A0l P.wx) q S.c.c5):=by rw[hq];exact if_neg b0
 rw[e]
 have h5:=G3c (A0l P.wx) (B2a _) q S.c.c5 (by omega)
 rw[if_neg (show ¬(!P.held)=true by rw[b1];decide),if_neg (show ¬P.free=true by rw[b2];decide)]
 have eJ:(if P.made=true then A5a (.int (a:Nat)) (.int (w:Nat)) (.agg L) [.agg L,.int P.q]else A5a (.int (a:Nat)) (.int (w:Nat)) (.agg L) [.agg L,.int 0])=A5a (.int (a:Nat)) (.int (w:Nat)) (.agg L) [.agg L,.int q]:=by
  rw[hq]
  split<;>rfl
 rw[eJ,C6b]
 simp only[HH,ha,A0a.A1j,A0a.A4q,h1,St.len,St.A1l,St.A1j,St.A1v,St.A2b,St.A1w,W.w,A0h.A3g,h5,A1x.len]
 have ht:=D6j (C8n P.wx) q S.c.c5 (by omega)
 generalize A3n (A0l P.wx) q S.c.c5=t at*
 by_cases b3:t.1=0
 ·simp only[HH,A1x.all,E2n b3]
  have b3':¬t.1≠0:=by simpa using b3
  obtain⟨L3,h6,W3,F3⟩:=B7y W h P.a.x hx P.wx t.2 ht.1
  have d3:Did L L3 a w m k (P,(S.turn P.a.x P.wx t.2).2):=B6p W ha W3 (F3.mono fun b hb=>.inr hb)
  obtain⟨o1,o2,o3,o4,o5⟩:=S.B0a h P.a.x P.wx t.2
  simp only[h6,HH]
  by_cases b4:(S.turn P.a.x P.wx t.2).1=false
  ·have e:C0c P S t=(P,S):=by
    unfold C0c
    rw[if_neg b3',if_pos b4]
   rw[e]
   rw[o5 b4]at d3
   exact⟨L3,by simp only[HH,b4],d3⟩
  ·have b4':(S.turn P.a.x P.wx t.2).1=true:=by simpa using b4
   have d4:=B0e d3 {P with free:=true,nx:=t.2,fin:=S.now}
   have h8:=B6x W3 o1
   rw[o3]at h8
   have h9:=F7i t.2.k (.bool t.2.f) (.int t.2.g) (.int t.2.l) (.int t.2.n)
   have e9:(A0a.ds {P with free:=true,nx:=t.2}).set 24 (wN S.now)=A0a.ds {P with free:=true,nx:=t.2,fin:=S.now}:=rfl
   have e10:({k:=t.2.k,f:=t.2.f,g:=t.2.g,l:=t.2.l,n:=t.2.n}:St)=t.2:=rfl
   by_cases b5:t.2.over=true
   ·have e:C0c P S t=({P with free:=true,nx:=t.2,fin:=S.now},(S.turn P.a.x P.wx t.2).2.tell {Ev.zero with kind:=7,cell:=P.a.x,gen:=t.2.g,fin:=t.2.k}):=by
     unfold C0c
     rw[if_neg b3',if_neg b4,if_pos b5]
    rw[e]
    obtain⟨L5,h7,W5,F5⟩:=C7w d4.1 o1 (by rw[o4];exact hl) 7 P.a.x t.2.g 0 0 0 0 t.2.k
    have b5':(decide (5≤t.2.k)&&decide (t.2.k≤8))=true:=b5
    refine⟨L5,?_,D7o d4 W5 (F5.mono fun b hb=>.inl hb)⟩
    simp only[HH,b4',W3.w,A0h.A5t,h8,B4m,d3.2.1,A0a.A1j,A0a.rng,A0a.E1z,A0a.E0z,A0a.E3i,A0a.E2w,A0a.E2g,A0a.D9z,h9,b5']
    simp only[e10,e9,h7,HH]
   ·have e:C0c P S t=({P with free:=true,nx:=t.2,fin:=S.now},(S.turn P.a.x P.wx t.2).2):=by
     unfold C0c
     rw[if_neg b3',if_neg b4,if_neg b5]
    rw[e]
    have b6:t.2.over=false:=by simpa using b5
    have b5':(decide (5≤t.2.k)&&decide (t.2.k≤8))=false:=b6
    refine⟨_,?_,d4⟩
    simp only[HH,b4',W3.w,A0h.A5t,h8,B4m,d3.2.1,A0a.A1j,A0a.rng,A0a.E1z,A0a.E0z,A0a.E3i,A0a.E2w,A0a.E2g,A0a.D9z,h9,b5']
    simp only[e10,e9,HH]
 ·have e:C0c P S t=(P,S):=if_pos b3
  rw[e]
  exact⟨_,by simp only[HH,A1x.all,E0c b3],A4a W ha⟩
theorem D9v(x g:Int):FX 126 [.int (a:Nat),.int x,.int g,.agg L]=some (B5q P x g).ds:=by
 rw[C3k]
 simp only[HH,ha,A0a.D0u,A0a.E0t,A0a.D9r]
 rfl
theorem E3h(x g:Int)(hx:In x)(hg:In g):(B5q P x g).wf:=by
 intro z hz
 simp only[B5q,Rc.vs,List.mem_cons,List.not_mem_nil,or_false]at hz
 rcases hz with rfl|rfl|rfl|rfl|rfl|rfl
 ·exact In.lit (by decide)
 ·exact hp.q
 ·exact hp.p
 ·exact hp.at_
 ·exact hx
 ·exact hg
theorem F6s(x g:Int)(o:Option Rc)(ho:∀r,o=some r→r.wf):∃L',(if((A4l o).getD 6 D.nil).toBool=true then A0b (FX 63 [.int (w:Nat),.int x,.int g,.int S.c.c5,(A4l o).getD 0 D.nil,(A4l o).getD 1 D.nil,(A4l o).getD 2 D.nil,(A4l o).getD 3 D.nil,(A4l o).getD 4 D.nil,(A4l o).getD 5 D.nil,.agg L]) 1 fun r11=>some [r11.getD 0 D.nil]else some [.agg L])=some [.agg L']∧Did L L' a w m k (P,A7o S x g S.c.c5 o):=by
 cases o with
 |none=>exact⟨L,rfl,A4a W ha⟩
 |some r=>
  obtain⟨L1,n1,W1,F1⟩:=C2l W h x g S.c.c5 r (ho r rfl)
  refine⟨L1,?_,B6p W ha W1 (F1.mono fun b hb=>.inr hb)⟩
  show A0b (FX 63 [.int (w:Nat),.int x,.int g,.int S.c.c5,.int r.k,.int r.q,.int r.p,.int r.t,.int r.c,.int r.g,.agg L]) 1 (fun r11=>some [r11.getD 0 D.nil])=_
  rw[n1];rfl
theorem G5z(hx:In P.a.x)(hy:In P.a.y):∃L',FX 98 [.int (a:Nat),.int (w:Nat),.agg L]=some [.agg L']∧Did L L' a w m k (P,A4u P S):=by
 have hnx:In (P.nx.n-1):=by have:=hp.nx.1.2.2.2;have:=hp.nx.2;unfold In at *;omega
 have hny:In (P.ny.n-1):=by have:=hp.ny.1.2.2.2;have:=hp.ny.2;unfold In at *;omega
 have fr1:=D9v W ha h hp P.a.y P.ny.g
 have fr2:=D9v W ha h hp P.a.x P.nx.g
 obtain⟨L1,n1,W1,F1⟩:=C2l W h P.a.x P.nx.g (P.nx.n-1) (B5q P P.a.y P.ny.g) (E3h W ha h hp _ _ hy hp.ny.1.2.1)
 obtain⟨L2,n2,W2,F2⟩:=C2l W h P.a.y P.ny.g (P.ny.n-1) (B5q P P.a.x P.nx.g) (E3h W ha h hp _ _ hx hp.nx.1.2.1)
 have d1:=B6p W ha W1 (F1.mono fun b hb=>.inr hb)
 have d2:=B6p W ha W2 (F2.mono fun b hb=>.inr hb)
 have e1:=E9l P.ny P.at_
 have e2:=E9l P.nx P.fin
 obtain⟨L3,n3,d3⟩:=F6s W ha h hp P.a.y P.ny.g (A7s P.ny P.at_) fun r hr=>D4x hp.ny.1 hp.at_ hr
 obtain⟨L4,n4,d4⟩:=F6s W ha h hp P.a.x P.nx.g (A7s P.nx P.fin) fun r hr=>D4x hp.nx.1 hp.fin hr
 rw[D4e]
 simp only[HH,ha,A0a.A3g,A0a.D5e,C4h,C4g,C4f,C4a,A0a.A1j,A0a.A2b,A0a.C9n,A0a.D9r,A0a.E9m,A0a.E8q,A0a.E8x,A0a.E9c,A0a.E9g,A0a.E9k,A0a.E9o,A0a.E9q,A0a.E9i,A0a.E9h,A0a.E1s,fr1,fr2,hnx.w,hny.w,Rc.len,Rc.A1l,Rc.A1j,Rc.A1v,Rc.A2b,Rc.A1w,Rc.A3g,n1,n2,e1,e2,A4l.len,W.w,A0h.A3g]
 simp only[n3,n4]
 by_cases c0:P.pc=10
 ·by_cases c1:P.made=true
  ·have e:A4u P S=_:=if_pos ⟨c0,c1⟩
   rw[e];exact⟨L1,by simp[c0,c1],d1⟩
  ·have e:A4u P S=S:=by simp[A4u,c0,c1]
   rw[e];exact⟨L,by simp[c0,c1],A4a W ha⟩
 by_cases c2:P.pc=11
 ·by_cases c1:P.made=true
  ·have e:A4u P S=S.note P.a.y P.ny.g (P.ny.n-1) (B5q P P.a.x P.nx.g):=by simp[A4u,c2,c1]
   rw[e];exact⟨L2,by simp[c2,c1],d2⟩
  ·have e:A4u P S=S:=by simp[A4u,c2,c1]
   rw[e];exact⟨L,by simp[c2,c1],A4a W ha⟩
 by_cases c3:P.pc=12
 ·by_cases c1:P.made=true
  ·have e:A4u P S=A7o S P.a.y P.ny.g S.c.c5 (A7s P.ny P.at_):=by simp[A4u,c3,c1]
   rw[e];exact⟨L3,by simp[c3,c1],d3⟩
  ·have e:A4u P S=S:=by simp[A4u,c3,c1]
   rw[e];exact⟨L,by simp[c3,c1],A4a W ha⟩
 by_cases c4:P.pc=13
 ·by_cases c1:P.held=true
  ·have e:A4u P S=A7o S P.a.x P.nx.g S.c.c5 (A7s P.nx P.fin):=by simp[A4u,c4,c1]
   rw[e];exact⟨L4,by simp[c4,c1],d4⟩
  ·have e:A4u P S=S:=by simp[A4u,c4,c1]
   rw[e];exact⟨L,by simp[c4,c1],A4a W ha⟩
 ·have e:A4u P S=S:=by simp[A4u,c0,c2,c3,c4]
  rw[e];exact⟨L,by simp[c0,c2,c3,c4],A4a W ha⟩
theorem G6h(hl:S.log.length≤1000000000)(hx:-1000≤P.a.x∧P.a.x≤1000)(hy:-1000≤P.a.y∧P.a.y≤1000):∃L',FX 71 [.int (a:Nat),.int (w:Nat),.agg L]=some [.agg L']∧Did L L' a w m k (A3l P S):=by
 obtain⟨L0,n0,W0,F0⟩:=B0m W h P.a.x hx
 obtain⟨L1,n1,W1,F1⟩:=D3g W h P.a.x hx
 obtain⟨L2,n2,d2⟩:=G5p W ha h hp hx
 obtain⟨L3,n3,W3,F3⟩:=B0m W h P.a.y hy
 obtain⟨L4,n4,W4,F4⟩:=D3g W h P.a.y hy
 obtain⟨L5,n5,d5⟩:=G5m W ha h hp hl hy
 obtain⟨L6,n6,d6⟩:=G8b W ha h hp hx
 obtain⟨L7,n7,d7⟩:=H1k W ha h hp hl hx
 obtain⟨L8,n8,d8⟩:=G5z W ha h hp (In.lit (by omega)) (In.lit (by omega))
 have d0:=B6p W ha W0 (F0.mono fun b hb=>.inr hb)
 have d1:=B6p W ha W1 (F1.mono fun b hb=>.inr hb)
 have d3:=B6p W ha W3 (F3.mono fun b hb=>.inr hb)
 have d4:=B6p W ha W4 (F4.mono fun b hb=>.inr hb)
 rw[D1s]
 simp only[HH,ha,A0a.A1j,A0a.A2b,A0a.A3g,n0,n1,n2,n3,n4,n5,n6,n7,n8]
 by_cases c0:P.pc=0
 ·have e:A3l P S=_:=if_pos c0
  rw[e]
  refine⟨_,?_,B0e d0 _⟩
  have e2:(List.getD ((A0l (S.word P.a.x)).ds++[D.agg L0]) 5 D.nil)=D.agg L0:=rfl
  simp only[c0,beq_self_eq_true,HH,List.length_append,St.len,e2,d0.2.1,A0a.all]
 by_cases c1:P.pc=1
 ·have e:A3l P S=({P with tx:=B5e (S.B1g P.a.x)},S):=by unfold A3l;rw[if_neg c0,if_pos c1]
  rw[e]
  refine⟨_,?_,B0e d1 _⟩
  have i0:(P.pc == 0)=false:=beq_eq_false_iff_ne.2 c0
  have i1:(P.pc == 1)=true:=beq_iff_eq.2 c1
  simp only[i0,i1,G6x,HH,d1.2.1,A0a.all]
 by_cases c2:P.pc=2
 ·have e:A3l P S=C1l P S:=by unfold A3l;rw[if_neg c0,if_neg c1,if_pos c2]
  rw[e]
  exact⟨L2,by simp[c2,A0b],d2⟩
 by_cases c3:P.pc=3
 ·have e:A3l P S=({P with wy:=S.word P.a.y},S):=by unfold A3l;rw[if_neg c0,if_neg c1,if_neg c2,if_pos c3]
  rw[e]
  refine⟨_,?_,B0e d3 _⟩
  have e2:(List.getD ((A0l (S.word P.a.y)).ds++[D.agg L3]) 5 D.nil)=D.agg L3:=rfl
  have i0:((3:Int) == 0)=false:=rfl
  have i1:((3:Int) == 1)=false:=rfl
  have i2:((3:Int) == 2)=false:=rfl
  simp only[c3,i0,i1,i2,beq_self_eq_true,HH,List.length_append,St.len,e2,d3.2.1,A0a.all]
 by_cases c4:P.pc=4
 ·have e:A3l P S=({P with ty:=B5e (S.B1g P.a.y)},S):=by unfold A3l;rw[if_neg c0,if_neg c1,if_neg c2,if_neg c3,if_pos c4]
  rw[e]
  refine⟨_,?_,B0e d4 _⟩
  have i0:(P.pc == 0)=false:=beq_eq_false_iff_ne.2 c0
  have i1:(P.pc == 1)=false:=beq_eq_false_iff_ne.2 c1
  have i2:(P.pc == 2)=false:=beq_eq_false_iff_ne.2 c2
  have i3:(P.pc == 3)=false:=beq_eq_false_iff_ne.2 c3
  have i4:(P.pc == 4)=true:=beq_iff_eq.2 c4
  simp only[i0,i1,i2,i3,i4,G6x,HH,d4.2.1,A0a.all]
 by_cases c5:P.pc=5
 ·have e:A3l P S=B8s P S:=by unfold A3l;rw[if_neg c0,if_neg c1,if_neg c2,if_neg c3,if_neg c4,if_pos c5]
  rw[e]
  exact⟨L5,by simp[c5,A0b],d5⟩
 by_cases c6:P.pc=6∨P.pc=8
 ·have e:A3l P S=B7j P S:=by unfold A3l;rw[if_neg c0,if_neg c1,if_neg c2,if_neg c3,if_neg c4,if_neg c5,if_pos c6]
  rw[e]
  rcases c6 with c6|c6
  ·exact⟨L6,by simp[c6,A0b],d6⟩
  ·exact⟨L6,by simp[c6,A0b],d6⟩
 by_cases c7:P.pc=7∨P.pc=9
 ·have e:A3l P S=C5t P S:=by unfold A3l;rw[if_neg c0,if_neg c1,if_neg c2,if_neg c3,if_neg c4,if_neg c5,if_neg c6,if_pos c7]
  rw[e]
  rcases c7 with c7|c7
  ·exact⟨L7,by simp[c7,A0b],d7⟩
  ·exact⟨L7,by simp[c7,A0b],d7⟩
 ·have e:A3l P S=(P,A4u P S):=by unfold A3l;rw[if_neg c0,if_neg c1,if_neg c2,if_neg c3,if_neg c4,if_neg c5,if_neg c6,if_neg c7]
  rw[e]
  simp only[not_or]at c6 c7
  exact⟨L8,by simp[c0,c1,c2,c3,c4,c5,c6,c7,A0b],d8⟩
theorem F2p(hl:S.log.length≤1000000000):∃L',FX 58 [.int (a:Nat),.int (w:Nat),.agg L]=some [.agg L']∧Did L L' a w m k (A2s P S):=by
 have n1:=D5v W ha
 have n2:=H2e W ha h
 have hpc:In (P.pc+1):=In.lit (by have:=hp.pc;omega)
 have hal:=A6z S.c h.c
 rw[D4f]
 simp only[HH,n1,n2]
 by_cases c0:P.pc≥14
 ·have e:A2s P S=(P,S):=if_pos c0
  rw[e]
  exact⟨L,by simp only[c0,decide_true,if_true],A4a W ha⟩
 by_cases c1:B3j S.c P=true
 ·have e:A2s P S=({P with pc:=P.pc+1},S):=by unfold A2s;rw[if_neg c0,if_pos c1]
  rw[e]
  refine⟨_,?_,B0e (A4a W ha) _⟩
  simp only[c0,c1,decide_false,HH,ha,A0a.A3g,hpc.w,A0a.rng,A0a.B5h]
 ·have e:A2s P S=({(A3l P S).1 with pc:=P.pc+1},(A3l P S).2):=by unfold A2s;rw[if_neg c0,if_neg c1]
  rw[e]
  have c1':B3j S.c P=false:=by simpa using c1
  have hxy:(0≤P.a.x∧P.a.x<24)∧(0≤P.a.y∧P.a.y<24):=by
   unfold B3j at c1'
   simp only[Bool.or_eq_false_iff,decide_eq_false_iff_not]at c1'
   obtain⟨⟨o1,o2⟩,_⟩:=c1'
   unfold A5b at o1 o2
   constructor
   ·rcases Decidable.em (P.a.x<0∨P.a.x≥A0s S.c)with o|o
    ·rw[if_pos o]at o1;omega
    ·omega
   ·rcases Decidable.em (P.a.y<0∨P.a.y≥A0s S.c)with o|o
    ·rw[if_pos o]at o2;omega
    ·omega
  obtain⟨L1,n3,d1⟩:=G6h W ha h hp hl (by omega) (by omega)
  have hpc2:=(E1n h hp).pc
  refine⟨_,?_,B0e (P1:=(A3l P S).1) d1 _⟩
  simp only[c0,c1',decide_false,HH,n3,d1.2.1,A0a.A3g,hpc2,hpc.w,A0a.rng,A0a.B5h]
end
end
section
set_option linter.unusedSectionVars false
def C7m(c:Cf)(t:Tm)(qty now:Int):Int:=
 if t.name<0∨t.name≥c.c2 then 22
 else if t.side≠0∧t.side≠1 then 1
 else if qty<1∨qty>9999 then 23
 else if t.A0k<1∨t.A0k>9999 then 24
 else if t.least<1∨t.least>qty then 25
 else if t.A1o≤now∨t.A1o>1000000 then 26
 else 0
theorem G8i(c:Cf)(t:Tm)(qty now:Int):FX 130 (c.ds++t.ds++[.int qty,.int now])=some [er (C7m c t qty now)]:=by
 unfold RU.Cf.ds Tm.ds C7m
 dsimp only[List.cons_append,List.nil_append]
 rw[E8m]
 simp only[D.toInt_int]
 by_cases a0:t.name<0
 ·simp only[a0,decide_true,if_true,B2q,D.A1b,true_or];rfl
 by_cases a1:t.name≥c.c2
 ·simp only[a0,a1,decide_true,decide_false,Bool.false_eq_true,if_false,if_true,B2q,D.A1b,or_true];rfl
 simp only[a0,a1,decide_false,Bool.false_eq_true,if_false,or_self,B2q,D3u,D2v,D3k,D.toInt_int,D.A1b]
 have fin:(if(decide (t.least<1))=true then(some [D.iface 39 (D.int 25)]:Option (List D))else if(decide (t.least>qty))=true then some [D.iface 39 (D.int 25)]else if(decide (t.A1o≤now))=true then some [D.iface 39 (D.int 26)]else if(decide (t.A1o>1000000))=true then some [D.iface 39 (D.int 26)]else some [D.nil])=some [er (if t.least<1∨t.least>qty then 25 else if t.A1o≤now∨t.A1o>1000000 then 26 else 0)]:=by
  by_cases b1:t.least<1
  ·simp only[b1,decide_true,if_true,true_or];rfl
  by_cases b2:t.least>qty
  ·simp only[b1,b2,decide_true,decide_false,Bool.false_eq_true,if_false,if_true,or_true];rfl
  by_cases b3:t.A1o≤now
  ·simp only[b1,b2,b3,decide_true,decide_false,Bool.false_eq_true,if_false,if_true,true_or,or_self];rfl
  by_cases b4:t.A1o>1000000
  ·simp only[b1,b2,b3,b4,decide_true,decide_false,Bool.false_eq_true,if_false,if_true,or_true,or_self];rfl
  ·simp only[b1,b2,b3,b4,decide_false,Bool.false_eq_true,if_false,or_self];rfl
 by_cases a2:t.side=0
 ·have i2:(t.side != 0)=false:=by simp[a2]
  have i3:¬(t.side≠0∧t.side≠1):=by simp[a2]
  simp only[i2,i3,Bool.false_eq_true,if_false]
  by_cases a4:qty<1
  ·simp only[a4,decide_true,if_true,true_or];rfl
  by_cases a5:qty>9999
  ·simp only[a4,a5,decide_true,decide_false,Bool.false_eq_true,if_false,if_true,or_true];rfl
  simp only[a4,a5,decide_false,Bool.false_eq_true,if_false,or_self]
  by_cases a6:t.A0k<1
  ·simp only[a6,decide_true,if_true,true_or];rfl
  by_cases a7:t.A0k>9999
  ·simp only[a6,a7,decide_true,decide_false,Bool.false_eq_true,if_false,if_true,or_true];rfl
  simp only[a6,a7,decide_false,Bool.false_eq_true,if_false,or_self]
  exact fin
 ·have i2:(t.side != 0)=true:=by simp[a2]
  simp only[i2,if_true]
  by_cases a3:t.side=1
  ·have i3:(t.side != 1)=false:=by simp[a3]
   have i4:¬(t.side≠0∧t.side≠1):=by simp[a3]
   simp only[i3,i4,Bool.false_eq_true,if_false]
   by_cases a4:qty<1
   ·simp only[a4,decide_true,if_true,true_or];rfl
   by_cases a5:qty>9999
   ·simp only[a4,a5,decide_true,decide_false,Bool.false_eq_true,if_false,if_true,or_true];rfl
   simp only[a4,a5,decide_false,Bool.false_eq_true,if_false,or_self]
   by_cases a6:t.A0k<1
   ·simp only[a6,decide_true,if_true,true_or];rfl
   by_cases a7:t.A0k>9999
   ·simp only[a6,a7,decide_true,decide_false,Bool.false_eq_true,if_false,if_true,or_true];rfl
   simp only[a6,a7,decide_false,Bool.false_eq_true,if_false,or_self]
   exact fin
  ·have i3:(t.side != 1)=true:=by simp[a3]
   have i4:(t.side≠0∧t.side≠1):=⟨a2,a3⟩
   rw[if_pos i3,if_pos i4];rfl
def upL(n:Nat):List Int:=(List.range n).map fun(i:Nat)=>(i:Int)
def C1h(t:Int)(n:Nat):List Int:=(List.range n).map fun(i:Nat)=>t-1-(i:Int)
def B1l(c:Cf)(side A0k:Int):List Int:=
 if B1d c A0k<0 then[]else if side=0 then upL (B1d c A0k+1).toNat else if side=1 then C1h c.c3 (c.c3-B1d c A0k).toNat else[]
section
variable(c:Cf)(hc:c.ok)
include hc
theorem F7c(x7 x8:D)(b:Int)(hb:0≤b)(hb4:b<4):∀(d j:Nat),(j+d:Int)=b+1→A6b (.int c.c0) (.int c.c1) (.int c.c2) (.int c.c3) (.int c.c4) (.int c.c5) (.int c.c6) x7 x8 (.int b) [.int (j:Nat),.agg ((upL j).map D.int)]=some [.agg ((upL (b+1).toNat).map D.int)]
 |0,j,h=>by
  have h1:¬(j:Int)≤b:=by omega
  have h2:(b+1).toNat=j:=by omega
  rw[B0n,h2]
  simp only[D.toInt_int,h1,decide_false,Bool.false_eq_true,if_false]
 |d+1,j,h=>by
  have h1:(j:Int)≤b:=by omega
  have ih:=F7c x7 x8 b hb hb4 d (j+1) (by omega)
  have e:(upL j).map D.int++[D.int (j:Nat)]=(upL (j+1)).map D.int:=by simp[upL,List.range_succ]
  have hl:(((upL (j+1)).map D.int).length:Int)≤17592186044416:=by simp[upL];omega
  rw[B0n]
  simp only[D.toInt_int,D.A0f,e,h1,hl,decide_true,if_true]
  rw[A1a _ (by omega) (by omega)]
  exact ih
theorem E6w(x7 x8:D)(b:Int)(hb:0≤b)(hb4:b<c.c3):∀(d j:Nat),(j+d:Int)=c.c3-b→A6a (.int c.c0) (.int c.c1) (.int c.c2) (.int c.c3) (.int c.c4) (.int c.c5) (.int c.c6) x7 x8 (.int b) [.int (c.c3-1-(j:Nat)),.agg ((C1h c.c3 j).map D.int)]=some [.agg ((C1h c.c3 (c.c3-b).toNat).map D.int)]
 |0,j,h=>by
  have h1:¬(c.c3-1-(j:Int))≥b:=by omega
  have h2:(c.c3-b).toNat=j:=by omega
  rw[B0q,h2]
  simp only[D.toInt_int,h1,decide_false,Bool.false_eq_true,if_false]
 |d+1,j,h=>by
  have h3:=hc.2.2.2.1
  have h1:(c.c3-1-(j:Int))≥b:=by omega
  have ih:=E6w x7 x8 b hb hb4 d (j+1) (by omega)
  have e:(C1h c.c3 j).map D.int++[D.int (c.c3-1-(j:Nat))]=(C1h c.c3 (j+1)).map D.int:=by simp[C1h,List.range_succ]
  have hl:(((C1h c.c3 (j+1)).map D.int).length:Int)≤17592186044416:=by simp[C1h];omega
  rw[B0q]
  simp only[D.toInt_int,D.A0f,e,h1,hl,decide_true,if_true]
  rw[A1a _ (by omega) (by omega)]
  have e2:c.c3-1-(j:Int)-1=c.c3-1-((j+1:Nat):Int):=by omega
  rw[e2]
  exact ih
theorem F2m(side A0k:Int):FX 46 (c.ds++[.int side,.int A0k])=some [.agg ((B1l c side A0k).map D.int)]:=by
 have hb:=F6y c hc A0k
 have hbb:=G2a c hc A0k
 have h3:=hc.2.2.2.1
 unfold RU.Cf.ds at hb⊢
 dsimp only[List.cons_append,List.nil_append]at hb⊢
 rw[C6i,hb]
 simp only[HH]
 unfold B1l
 by_cases a1:B1d c A0k<0
 ·simp only[a1,decide_true,if_true];rfl
 by_cases a2:side=0
 ·have:=F7c c hc (.int side) (.int A0k) (B1d c A0k) (by omega) (by omega) (B1d c A0k+1).toNat 0 (by omega)
  simp only[a1,a2,decide_false,beq_self_eq_true,HH]at this⊢
  exact this
 by_cases a3:side=1
 ·have:=E6w c hc (.int side) (.int A0k) (B1d c A0k) (by omega) (by omega) (c.c3-B1d c A0k).toNat 0 (by omega)
  have i2:((1:Int) == 0)=false:=rfl
  have i3:¬(1:Int)=0:=by decide
  have e:c.c3-1-((0:Nat):Int)=c.c3-1:=by omega
  rw[e]at this
  simp only[a1,a3,i2,i3,decide_false,beq_self_eq_true,HH]at this⊢
  rw[A1a _ (by omega) (by omega)]
  exact this
 ·have i2:(side == 0)=false:=by simp[a2]
  have i3:(side == 1)=false:=by simp[a3]
  simp only[a1,a2,a3,i2,i3,decide_false,HH];rfl
theorem E7f(side A0k:Int):(B1l c side A0k).length≤4:=by
 have hbb:=G2a c hc A0k
 have h3:=hc.2.2.2.1
 unfold B1l
 split
 ·decide
 split
 ·simp[upL];omega
 split
 ·simp[C1h];omega
 ·decide
def B3r(c:Cf)(x gen name b:Int)(n:Nat):List Aim:=(List.range n).map fun(y:Nat)=>⟨2,x,gen,(y:Int),C7q c name b⟩
def A6q(c:Cf)(x gen name:Int)(bs:List Int):List Aim:=bs.flatMap fun b=>B3r c x gen name b (A0s c).toNat
def B1o(x gen:Int)(n:Nat):List Aim:=List.replicate n ⟨1,x,gen,-1,0⟩
def C0t(c:Cf)(x gen:Int)(t:Tm):List Aim:=B1o x gen c.c4.toNat++A6q c x gen t.name (B1l c t.side t.A0k)
theorem E1m(x gen name:Int)(bs:List Int):(A6q c x gen name bs).length=bs.length*(A0s c).toNat:=by
 induction bs with
 |nil=>simp[A6q]
 |cons b bs ih=>
  have:A6q c x gen name (b::bs)=B3r c x gen name b (A0s c).toNat++A6q c x gen name bs:=by simp[A6q]
  rw[this,List.length_append,ih]
  simp[B3r,Nat.add_mul,Nat.add_comm]
theorem G6k(x gen:Int)(t:Tm):(C0t c x gen t).length≤100:=by
 have h1:=E7f c hc t.side t.A0k
 have h2:=A6z c hc
 have h4:=hc.2.2.2.2.1
 have h5:(B1l c t.side t.A0k).length*(A0s c).toNat≤4*24:=Nat.mul_le_mul h1 (by omega)
 rw[C0t,List.length_append,E1m c hc]
 simp only[B1o,List.length_replicate]
 omega
theorem G9j(x gen:Int)(t:Tm)(x14 x15 x16 x18:D)(i:Int)(b:Int)(hx16:((x16).toL).getD i.toNat D.nil=.int b)(g0 g1:Eng.Fn)(pre:List Aim)(hp:pre.length≤1000):∀(d j:Nat),(j+d:Int)=A0s c→
  B4x (.int c.c0) (.int c.c1) (.int c.c2) (.int c.c3) (.int c.c4) (.int c.c5) (.int c.c6) (.int x) (.int gen) (.int t.name) (.int t.side) (.int t.A0k) (.int t.least) (.int t.A1o) x14 x15 x16 (.int i) x18 (.int (A0s c)) g0 g1 [.int (j:Nat),.agg ((pre++B3r c x gen t.name b j).map Aim.d)]=g1 [.int (IntKind.i64.wrap (i+1)),.agg ((pre++B3r c x gen t.name b (A0s c).toNat).map Aim.d)]
 |0,j,h=>by
  have h1:¬(j:Int)<A0s c:=by omega
  have h2:(A0s c).toNat=j:=by omega
  rw[C3d,h2]
  simp only[D.toInt_int,h1,decide_false,Bool.false_eq_true,if_false]
 |d+1,j,h=>by
  have hal:=A6z c hc
  have h1:(j:Int)<A0s c:=by omega
  have ih:=G9j x gen t x14 x15 x16 x18 i b hx16 g0 g1 pre hp d (j+1) (by omega)
  have hs:FX 105 [.int c.c0,.int c.c1,.int c.c2,.int c.c3,.int c.c4,.int c.c5,.int c.c6,.int t.name,.int b]=some [.int (C7q c t.name b)]:=F1g c hc t.name b
  have e:(pre++B3r c x gen t.name b j).map Aim.d++[D.agg [.int 2,.int x,.int gen,.int (j:Nat),.int (C7q c t.name b)]]=(pre++B3r c x gen t.name b (j+1)).map Aim.d:=by
   simp[B3r,List.range_succ,Aim.d,Aim.ds]
  have hl:(((pre++B3r c x gen t.name b (j+1)).map Aim.d).length:Int)≤3518437208883:=by simp[B3r];omega
  rw[C3d]
  simp only[D.toInt_int,h1,decide_true,if_true,hx16,hs,A0q,List.length_cons,List.length_nil,List.getD_cons_zero,D.A0f,e,hl]
  rw[A1a _ (by omega) (by omega)]
  exact ih
theorem H0a(x gen:Int)(t:Tm)(x14 x15:D)(g0:Eng.Fn)(bs:List Int)(hbs:bs.length≤4)(pre:List Aim)(hp:pre.length≤10):∀(d j:Nat),j+d=bs.length→
  B1q (.int c.c0) (.int c.c1) (.int c.c2) (.int c.c3) (.int c.c4) (.int c.c5) (.int c.c6) (.int x) (.int gen) (.int t.name) (.int t.side) (.int t.A0k) (.int t.least) (.int t.A1o) x14 x15 (.agg (bs.map D.int)) g0 [.int (j:Nat),.agg ((pre++A6q c x gen t.name (bs.take j)).map Aim.d)]=some [.agg ((pre++A6q c x gen t.name bs).map Aim.d)]
 |0,j,h=>by
  have h1:¬(j:Int)<(bs.length:Int):=by omega
  rw[C2o,List.take_of_length_le (by omega)]
  simp only[D.toInt_int,D.A0f,List.length_map,h1,decide_false,Bool.false_eq_true,if_false]
 |d+1,j,h=>by
  have hal:=A6z c hc
  have hj:j<bs.length:=by omega
  have h1:(j:Int)<(bs.length:Int):=by omega
  have h2:(j:Int)≥0:=by omega
  have ha:FX 44 [.int c.c0,.int c.c1,.int c.c2,.int c.c3,.int c.c4,.int c.c5,.int c.c6]=some [.int (A0s c)]:=all_eq c hc
  have ih:=H0a x gen t x14 x15 g0 bs hbs pre hp d (j+1) (by omega)
  have hg:((D.agg (bs.map D.int)).toL).getD (j:Int).toNat D.nil=.int bs[j]:=by
   rw[D.A0f,Int.toNat_natCast,List.getD_eq_getElem?_getD,List.getElem?_map,List.getElem?_eq_getElem hj];rfl
  have hlen:(pre++A6q c x gen t.name (bs.take j)).length≤1000:=by
   rw[List.length_append,E1m c hc]
   have:(bs.take j).length*(A0s c).toNat≤4*24:=Nat.mul_le_mul (by simp;omega) (by omega)
   omega
  have a3:=G9j c hc x gen t x14 x15 (.agg (bs.map D.int)) (.agg ((pre++A6q c x gen t.name (bs.take j)).map Aim.d)) (j:Nat) bs[j] hg g0
   (B1q (.int c.c0) (.int c.c1) (.int c.c2) (.int c.c3) (.int c.c4) (.int c.c5) (.int c.c6) (.int x) (.int gen) (.int t.name) (.int t.side) (.int t.A0k) (.int t.least) (.int t.A1o) x14 x15 (.agg (bs.map D.int)) g0)
   (pre++A6q c x gen t.name (bs.take j)) hlen (A0s c).toNat 0 (by omega)
  have e0:(pre++A6q c x gen t.name (bs.take j))++B3r c x gen t.name bs[j] 0=pre++A6q c x gen t.name (bs.take j):=by simp[B3r]
  have e1:(pre++A6q c x gen t.name (bs.take j))++B3r c x gen t.name bs[j] (A0s c).toNat=pre++A6q c x gen t.name (bs.take (j+1)):=by
   rw[List.take_succ_eq_append_getElem hj]
   simp only[A6q,List.flatMap_append,List.flatMap_cons,List.flatMap_nil,List.append_nil,List.append_assoc]
  rw[e0,e1,A1a _ (by omega) (by omega)]at a3
  rw[C2o]
  simp only[D.toInt_int,D.A0f,List.length_map,h1,h2,decide_true,if_true,ha,A0q,List.length_cons,List.length_nil,List.getD_cons_zero]
  exact a3.trans ih
theorem G9z(x gen:Int)(t:Tm):∀(d j:Nat),(j+d:Int)=c.c4→
  B1k (.int c.c0) (.int c.c1) (.int c.c2) (.int c.c3) (.int c.c4) (.int c.c5) (.int c.c6) (.int x) (.int gen) (.int t.name) (.int t.side) (.int t.A0k) (.int t.least) (.int t.A1o) [.int (j:Nat),.agg ((B1o x gen j).map Aim.d)]=some [.agg ((C0t c x gen t).map Aim.d)]
 |0,j,h=>by
  have h4:=hc.2.2.2.2.1
  have h1:¬(j:Int)<c.c4:=by omega
  have h2:c.c4.toNat=j:=by omega
  have hcr:FX 46 [.int c.c0,.int c.c1,.int c.c2,.int c.c3,.int c.c4,.int c.c5,.int c.c6,.int t.side,.int t.A0k]=some [.agg ((B1l c t.side t.A0k).map D.int)]:=F2m c hc t.side t.A0k
  have a2:=fun x14 x15 g0=>H0a c hc x gen t x14 x15 g0 (B1l c t.side t.A0k) (E7f c hc _ _) (B1o x gen j) (by simp[B1o];omega) (B1l c t.side t.A0k).length 0 (by omega)
  rw[C3s]
  simp only[D.toInt_int,h1,decide_false,Bool.false_eq_true,if_false,hcr,A0q,List.length_cons,List.length_nil,List.getD_cons_zero]
  have e0:B1o x gen j++A6q c x gen t.name (List.take 0 (B1l c t.side t.A0k))=B1o x gen j:=by simp[A6q]
  simp only[e0]at a2
  unfold C0t
  rw[h2]
  exact a2 _ _ _
 |d+1,j,h=>by
  have h4:=hc.2.2.2.2.1
  have h1:(j:Int)<c.c4:=by omega
  have ih:=G9z x gen t d (j+1) (by omega)
  have e:(B1o x gen j).map Aim.d++[D.agg [.int 1,.int x,.int gen,.int (-1),.int 0]]=(B1o x gen (j+1)).map Aim.d:=by
   simp[B1o,List.replicate_succ',Aim.d,Aim.ds]
  have hl:(((B1o x gen (j+1)).map Aim.d).length:Int)≤3518437208883:=by simp[B1o];omega
  rw[C3s]
  simp only[D.toInt_int,h1,decide_true,if_true,D.A0f,e,hl]
  rw[A1a _ (by omega) (by omega)]
  exact ih
theorem H1t(x gen:Int)(t:Tm):FX 113 [.int c.c0,.int c.c1,.int c.c2,.int c.c3,.int c.c4,.int c.c5,.int c.c6,.int x,.int gen,.int t.name,.int t.side,.int t.A0k,.int t.least,.int t.A1o]=some [.agg ((C0t c x gen t).map Aim.d)]:=by
 have h4:=hc.2.2.2.2.1
 rw[F6f]
 exact G9z c hc x gen t c.c4.toNat 0 (by omega)
end
def B3l(n m:Int):Int:=if m<1 then 0 else n%m
theorem H1v(n m:Int)(hn:In n)(hm:1≤m∧m≤1000):FX 43 [.int n,.int m]=some [.int (B3l n m)]:=by
 have h1:¬m<1:=by omega
 have h2:(m != 0)=true:=by simp;omega
 have h3:0≤n%m:=Int.emod_nonneg _ (by omega)
 have h4:n%m<m:=Int.emod_lt_of_pos _ (by omega)
 have h5:=Int.tmod_eq_emod (a:=n) (b:=m)
 rw[F6d]
 unfold B3l
 simp only[D.toInt_int,h1,decide_false,Bool.false_eq_true,if_false,h2,if_true]
 by_cases h6:n.tmod m<0
 ·simp only[h6,decide_true,if_true]
  have h7:n.tmod m+m=n%m:=by
   rw[h5]at h6⊢
   split at h6
   ·omega
   ·split
    ·omega
    ·rw[Int.natAbs_of_nonneg (by omega)]at*
     omega
  rw[h7,A1a _ (by omega) (by omega)]
 ·simp only[h6,decide_false,Bool.false_eq_true,if_false]
  have h7:n.tmod m=n%m:=by
   rw[h5]at h6⊢
   split
   ·omega
   ·rename_i hh
    rw[if_neg hh]at h6
    omega
  rw[h7]
def B7b(now n:Int):Int:=if n≤0 then now else if n>1000000∨now>1000000-n then 1000000 else now+n
end
section
set_option linter.unusedSectionVars false
def Rep.zero:Rep:=⟨0,0,0,0,0,false,.zero,[]⟩
def codeF(pr:PrS)(S:WS)(c:Int):Rep:=⟨pr.a.kind,c,S.now,pr.a.id,pr.a.cell,false,.zero,[]⟩
def A6x(pr:PrS)(se:A0j)(S:WS):Int:=
 if pr.a.id≤se.last∨pr.a.id>1000000 then 20 else if A0r S.c se.part pr.a.cell<0 then 21 else C7m S.c pr.a.tm pr.a.qty S.now
def WS.put(S:WS)(i:Int)(v:Nat):WS:={S with words:=stw S.words i v}
structure Stp where
 r:Option Rep
 pr:PrS
 se:A0j
 S:WS
def A1u(x:Int)(pr:PrS)(se:A0j)(S:WS):Stp:=
 if pr.pc=0 then(if A6x pr se S≠0 then⟨some (codeF pr S (A6x pr se S)),pr,se,S⟩else⟨none,{pr with pc:=pr.pc+1},se,S⟩)
 else if pr.pc=1 then
  (if(A7k (A0l (S.word x)) pr.a.qty S.c.c6).1≠0 then⟨some (codeF pr S (A7k (A0l (S.word x)) pr.a.qty S.c.c6).1),pr,se,S⟩
  else⟨none,{pr with st:=(A7k (A0l (S.word x)) pr.a.qty S.c.c6).2,pc:=pr.pc+1},se,S⟩)
 else if pr.pc=2 then⟨none,{pr with pc:=pr.pc+1},se,S.put (2*x+1) ((tmW pr.a.tm).getD 0)⟩
 else if pr.pc=3 then
  ⟨none,{pr with A5i:=C0t S.c x pr.st.g pr.a.tm,pc:=pr.pc+1},{se with last:=pr.a.id,ids:=se.ids.set pr.a.cell.toNat pr.a.id,A6k:=se.A6k.set pr.a.cell.toNat pr.st.g},
   (S.put (2*x) ((stW pr.st).getD 0)).tell {Ev.zero with kind:=1,cell:=x,gen:=pr.st.g,tm:=pr.a.tm,qty:=pr.a.qty}⟩
 else⟨none,{pr with pc:=pr.pc+1},se,S⟩
def A1n(x:Int)(pr:PrS)(S:WS):Bool × PrS × WS:=
 if pr.tries≥2*(S.c.c5+1)then(false,pr,S)
 else if pr.done>0 then(true,{pr with tries:=pr.tries+1},S)
 else if(pr.tries+1)%2=1 then(true,{pr with tries:=pr.tries+1,word:=S.word x,st:=A0l (S.word x)},S)
 else if pr.st.over then(true,{pr with tries:=pr.tries+1,done:=1},S)
 else if(A2v pr.st).1≠0 then(true,{pr with tries:=pr.tries+1},S)
 else if(S.turn x pr.word (A2v pr.st).2).1 then(true,{pr with tries:=pr.tries+1,done:=1},(S.turn x pr.word (A2v pr.st).2).2.tell {Ev.zero with kind:=6,cell:=x,gen:=(A2v pr.st).2.g})
 else(true,{pr with tries:=pr.tries+1},S)
def atL(l:List Int)(i:Int):Int:=l.getD i.toNat 0
def B6n(pr:PrS)(se:A0j):Int:=if atL se.ids pr.a.cell=pr.a.id∧pr.a.id>0 then atL se.A6k pr.a.cell else 0
def A3h(x:Int)(pr:PrS)(se:A0j)(S:WS):PrS × WS:=
 if pr.done>0 then(pr,S)
 else if B6n pr se=0∨pr.st.g≠B6n pr se∨(A1i pr.st).1≠0 then({pr with done:=3},S)
 else if pr.st.f then({pr with done:=2},S)
 else if(S.turn x pr.word (A1i pr.st).2).1=false then(pr,S)
 else if(A1i pr.st).2.f then({pr with at_:=S.now,done:=2},(S.turn x pr.word (A1i pr.st).2).2.tell {Ev.zero with kind:=4,cell:=x,gen:=B6n pr se})
 else({pr with at_:=S.now,done:=1,st:=(A1i pr.st).2},(S.turn x pr.word (A1i pr.st).2).2.tell {Ev.zero with kind:=3,cell:=x,gen:=B6n pr se})
def F9e(d:Int):Int:=if d=0 then 27 else if d=3 then 29 else 0
def A8g(R:PrS × WS)(se:A0j)(pc:Int):Stp:=⟨none,{R.1 with pc:=pc},se,R.2⟩
def A1m(x:Int)(pr:PrS)(se:A0j)(S:WS):Stp:=
 if pr.pc=0 then(if x<0 then⟨some (codeF pr S 21),pr,se,S⟩else A8g (pr,S) se (pr.pc+1))
 else if pr.pc=1∨pr.pc=3∨pr.pc=5 then A8g (if pr.done=0 then {pr with word:=S.word x,st:=A0l (S.word x)} else pr,S) se (pr.pc+1)
 else if pr.pc=2∨pr.pc=4∨pr.pc=6 then A8g (A3h x pr se S) se (pr.pc+1)
 else if pr.pc=7 then A8g (pr,if pr.done=1 then A7o S x pr.st.g S.c.c5 (A7s pr.st pr.at_)else S) se (pr.pc+1)
 else⟨some {codeF pr S (F9e pr.done)with asked:=pr.done == 2},pr,se,S⟩
def B6g(S:WS)(i:Int):Rc:=if i<0 then .zero else G9i (wd S.words i)
def A6g(se:A0j)(i:Int):Cur:=se.A7i.getD i.toNat ⟨0,0⟩
def A2m(x:Int)(pr:PrS)(se:A0j)(S:WS):Stp:=
 if x<0 then⟨some (codeF pr S 21),pr,se,S⟩
 else if pr.pc=0 then⟨none,{pr with pc:=pr.pc+1},se,S⟩
 else if pr.pc=1 then(if(A6g se pr.a.cell).n<S.c.c5 then⟨none,{pr with r0:=B6g S (A7y S.c x (A6g se pr.a.cell).gen (A6g se pr.a.cell).n),pc:=pr.pc+1},se,S⟩else⟨none,{pr with pc:=pr.pc+1},se,S⟩)
 else if pr.pc=2 then⟨none,{pr with r1:=B6g S (A7y S.c x (A6g se pr.a.cell).gen S.c.c5),pc:=pr.pc+1},se,S⟩
 else⟨some {codeF pr S 0 with rc:=(B1b (A6g se pr.a.cell).gen (A6g se pr.a.cell).n pr.r0 pr.r1).1},pr,{se with A7i:=se.A7i.set pr.a.cell.toNat ⟨(B1b (A6g se pr.a.cell).gen (A6g se pr.a.cell).n pr.r0 pr.r1).2.1,(B1b (A6g se pr.a.cell).gen (A6g se pr.a.cell).n pr.r0 pr.r1).2.2⟩},S⟩
def E1d(s:St):A5c:=⟨if s.live then 1 else s.k,s.l,s.n⟩
def A2j(pr:PrS)(se:A0j)(S:WS):Stp:=
 if pr.pc>S.c.c1 then⟨some {codeF pr S 0 with looks:=pr.looks},pr,se,S⟩
 else if pr.pc>0 then⟨none,{pr with looks:=pr.looks++[E1d (A0l (S.word (A0r S.c se.part (pr.pc-1))))],pc:=pr.pc+1},se,S⟩
 else⟨none,{pr with pc:=pr.pc+1},se,S⟩
structure Hs(L:List D)(a s w m k:Nat)(pr:PrS)(se:A0j)(S:WS):Prop where
 W:InW L w m k S
 a:L.getD a D.nil=.agg pr.ds
 s:L.getD s D.nil=.agg se.ds
def FrS(L L':List D)(a s w m:Nat):Prop:=Fr L L' (fun b=>b=a∨b=s∨b=w∨b=m)
section
variable{L:List D}{a s w m k:Nat}{pr:PrS}{se:A0j}{S:WS}(H:Hs L a s w m k pr se S)
include H
theorem Hs.far:a≠w∧a≠m∧a≠k∧s≠w∧s≠m∧s≠k∧a≠s:=by
 obtain⟨h1,h2,h3⟩:=H.W.far H.a (by rw[PrS.len];decide) (by rw[PrS.len];decide) (by rw[PrS.len];decide)
 obtain⟨h4,h5,h6⟩:=H.W.far H.s (by rw[A0j.len];decide) (by rw[A0j.len];decide) (by rw[A0j.len];decide)
 exact⟨h1,h2,h3,h4,h5,h6,A3f H.a H.s (by rw[PrS.len,A0j.len];decide)⟩
theorem Hs.A7v(pr':PrS):Hs (L.set a (.agg pr'.ds)) a s w m k pr' se S:=by
 obtain⟨h1,h2,h3,h4,h5,h6,h7⟩:=H.far
 exact⟨H.W.fr (Fr.set L a _ (T:=(·=a)) rfl) (Ne.symm h1) (Ne.symm h2) (Ne.symm h3),A3v (A2h H.a) _,by rw[A3j h7];exact H.s⟩
theorem Hs.setS(se':A0j):Hs (L.set s (.agg se'.ds)) a s w m k pr se' S:=by
 obtain⟨h1,h2,h3,h4,h5,h6,h7⟩:=H.far
 exact⟨H.W.fr (Fr.set L s _ (T:=(·=s)) rfl) (Ne.symm h4) (Ne.symm h5) (Ne.symm h6),by rw[A3j (Ne.symm h7)];exact H.a,A3v (A2h H.s) _⟩
theorem Hs.A9r{L1:List D}{S1:WS}(W1:InW L1 w m k S1)(F:Fr L L1 (fun b=>b=w∨b=m)):Hs L1 a s w m k pr se S1∧FrS L L1 a s w m:=by
 obtain⟨h1,h2,h3,h4,h5,h6,h7⟩:=H.far
 exact⟨⟨W1,F.get H.a (by simp only[h1,h2,or_self,not_false_iff]),F.get H.s (by simp only[h4,h5,or_self,not_false_iff])⟩,F.mono fun b hb=>.inr (.inr hb)⟩
omit H
theorem A5e(x:D):FrS L (L.set a x) a s w m:=Fr.set L a x (.inl rfl)
theorem G9u(x:D):FrS L (L.set s x) a s w m:=Fr.set L s x (.inr (.inl rfl))
theorem A9v:FrS L L a s w m:=Fr.refl _ _
include H
theorem B3p(h:S.ok)(c:Int):FX 69 [.int (a:Nat),.int (w:Nat),.int c,.agg L]=some ((codeF pr S c).ds++[.bool true]):=by
 have h1:=B6x H.W h
 rw[C7n]
 simp only[HH,H.a,H.W.w,A0h.A5t,h1,PrS.A1l,PrS.A1j,PrS.A1v]
 rfl
theorem G2d(h:S.ok):FX 110 [.int (a:Nat),.int (w:Nat),.int (s:Nat),.agg L]=some [.int (A6x pr se S)]:=by
 have h1:=B6x H.W h
 have h2:FX 85 [.int S.c.c0,.int S.c.c1,.int S.c.c2,.int S.c.c3,.int S.c.c4,.int S.c.c5,.int S.c.c6,.int se.part,.int pr.a.cell]=some [.int (A0r S.c se.part pr.a.cell)]:=F7v S.c h.c _ _
 have h3:FX 130 [.int S.c.c0,.int S.c.c1,.int S.c.c2,.int S.c.c3,.int S.c.c4,.int S.c.c5,.int S.c.c6,.int pr.a.tm.name,.int pr.a.tm.side,.int pr.a.tm.A0k,.int pr.a.tm.least,.int pr.a.tm.A1o,.int pr.a.qty,wN S.now]=some [er (C7m S.c pr.a.tm pr.a.qty S.now)]:=G8i S.c pr.a.tm pr.a.qty S.now
 rw[C5v]
 simp only[HH,H.a,H.s,H.W.w,A0h.all,h1,PrS.A1j,PrS.A1v,PrS.A2b,PrS.A1w,PrS.A3g,PrS.A4q,PrS.A7r,PrS.A5t,A0j.A1l,A0j.A1j,h2,h3]
 unfold A6x
 by_cases a1:pr.a.id≤se.last
 ·simp only[a1,decide_true,if_true,true_or]
 by_cases a2:pr.a.id>1000000
 ·simp only[a1,a2,decide_true,decide_false,Bool.false_eq_true,if_false,if_true,or_true]
 by_cases a3:A0r S.c se.part pr.a.cell<0
 ·simp only[a1,a2,a3,decide_true,decide_false,Bool.false_eq_true,if_false,if_true,or_self]
 simp only[a1,a2,a3,decide_false,Bool.false_eq_true,if_false,or_self]
 generalize C7m S.c pr.a.tm pr.a.qty S.now=e
 by_cases a4:e=0
 ·subst a4;simp[E4r,D.isIf]
 ·unfold er code;simp[a4,D.isIf,D.inner]
end
def A5s(r:Option Rep)(L:List D):List D:=match r with
 |some r=>r.ds++[.bool true,.agg L]
 |none=>Rep.zero.ds++[.bool false,.agg L]
end
section
set_option linter.unusedSectionVars false
theorem Told.fst{o:Option Nat}{r:List D}(h:Told o r):r.getD 0 D.nil=wN (o.getD 0)∧r.length=2:=by
 cases o with
 |none=>obtain⟨e,_,rfl⟩:=h;exact⟨rfl,rfl⟩
 |some w=>dsimp only[Told]at h;subst h;exact⟨rfl,rfl⟩
theorem G3z{s:St}:(stW s).getD 0<18446744073709551616:=by
 cases h:stW s with
 |none=>decide
 |some v=>
  unfold stW at h
  split at h
  ·cases h
  ·exact D0p D9s h
theorem H2z{t:Tm}:(tmW t).getD 0<18446744073709551616:=by
 cases h:tmW t with
 |none=>decide
 |some v=>exact D0p E8y h
theorem WS.F2c{S:WS}(h:S.ok)(i:Int){v:Nat}(hv:v<18446744073709551616):(S.put i v).ok:=⟨h.c,F2a h.w i hv,h.now,by show(stw S.words i v).length≤_;rw[B1x];exact h.len⟩
theorem F7f{L:List D}{w m k:Nat}{S:WS}(W:InW L w m k S)(i:Int)(v:Nat):∃(e:D) (L':List D),FX 83 [.int (m:Nat),.int i,wN v,.agg L]=some [e,.agg L']∧InW L' w m k (S.put i v)∧Fr L L' (fun b=>b=w∨b=m):=by
 obtain⟨M,hM,hw⟩:=W.m
 obtain⟨e,M',h1,h2⟩:=F1s hM i v
 refine⟨e,_,h1,?_,Fr.set _ _ _ (.inr rfl)⟩
 have:=W.E4v M'
 rw[h2,hw]at this
 exact this
theorem H1h(s:St)(hs:s.wf)(q m:Int)(hm:m≤100):FX 111 [.int s.k,.bool s.f,.int s.g,.int s.l,.int s.n,.int q,.int m]=some (A1x (A7k s q m)):=G7z s hs q m hm
theorem G1y(s:St):FX 114 [.int s.k,.bool s.f,.int s.g,.int s.l,.int s.n]=some (A1x (A2v s)):=F9r s
theorem H2x(s:St):FX 115 [.int s.k,.bool s.f,.int s.g,.int s.l,.int s.n]=some [.bool s.over]:=F7i s.k _ _ _ _
theorem F6r(c:Int):(er c).isIf 39=decide (c≠0):=by
 unfold er
 by_cases h:c=0
 ·simp[h,D.isIf]
 ·simp[h,code,D.isIf]
theorem G5q{c:Int}(h:c≠0):(er c).inner=.int c:=by
 unfold er;rw[if_neg h];rfl
theorem C3p{c:Cf}(h:c.ok):1≤c.c6∧c.c6≤15:=h.2.2.2.2.2.2
theorem C8c(l:List Int):(l.map D.int).length=l.length:=List.length_map ..
theorem D8p(l:List Int)(i:Nat)(x:Int):(l.map D.int).set i (.int x)=(l.set i x).map D.int:=(List.map_set ..).symm
theorem F1z{l:List Int}{i:Int}(h0:0≤i)(h1:i<l.length):(l.map D.int).getD i.toNat D.nil=.int (atL l i):=by
 have h:i.toNat<l.length:=by omega
 unfold atL
 rw[List.getD_eq_getElem?_getD,List.getElem?_map,List.getElem?_eq_getElem h,List.getD_eq_getElem?_getD,List.getElem?_eq_getElem h];rfl
theorem Rep.app(r:Rep)(d L:D):some [r.ds.getD 0 D.nil,r.ds.getD 1 D.nil,r.ds.getD 2 D.nil,r.ds.getD 3 D.nil,r.ds.getD 4 D.nil,r.ds.getD 5 D.nil,r.ds.getD 6 D.nil,r.ds.getD 7 D.nil,r.ds.getD 8 D.nil,r.ds.getD 9 D.nil,r.ds.getD 10 D.nil,r.ds.getD 11 D.nil,r.ds.getD 12 D.nil,d,L]=some (r.ds++[d,L]):=rfl
theorem Rep.A9f(r:Rep)(d:D):(r.ds++[d]).getD 13 D.nil=d:=rfl
theorem Rep.G9x(r:Rep)(d:D):(r.ds++[d]).length=14:=rfl
theorem C2c(r:Rep)(L:D):(A0b (some (r.ds++[.bool true])) 14 fun r6=>some [(r6.getD 0 D.nil),(r6.getD 1 D.nil),(r6.getD 2 D.nil),(r6.getD 3 D.nil),(r6.getD 4 D.nil),(r6.getD 5 D.nil),(r6.getD 6 D.nil),(r6.getD 7 D.nil),(r6.getD 8 D.nil),(r6.getD 9 D.nil),(r6.getD 10 D.nil),(r6.getD 11 D.nil),(r6.getD 12 D.nil),(r6.getD 13 D.nil),L])=some (r.ds++[.bool true,L]):=rfl
section
variable{L:List D}{a s w m k:Nat}{pr:PrS}{se:A0j}{S:WS}(H:Hs L a s w m k pr se S)(h:S.ok)(hpc:In (pr.pc+1))
include H h hpc
theorem D4k{L1:List D}{pr1:PrS}{se1:A0j}{S1:WS}(H1:Hs L1 a s w m k pr1 se1 S1)(hp:pr1.pc=pr.pc)(x0 x1 x2 x3:D):A2w (.int (a:Nat)) x0 x1 x2 x3 [.agg L1]=some (A5s none (L1.set a (.agg (PrS.ds {pr1 with pc:=pr.pc+1})))):=by
 rw[B9x]
 simp only[HH,H1.a,PrS.A5u,hp,hpc.w,PrS.rng,PrS.B6j]
 rfl
theorem G2b(hl:S.log.length≤1000000000)(x:Int)(hx:-1000≤x∧x≤1000)(hst:pr.st.wf)(htm:pr.a.tm.wf)
  (hc:pr.pc=3→0≤pr.a.cell∧pr.a.cell<se.ids.length∧pr.a.cell<se.A6k.length):
  ∃L',FX 86 [.int (a:Nat),.int (w:Nat),.int (s:Nat),.int x,.agg L]=some (A5s (A1u x pr se S).r L')∧
   Hs L' a s w m k (A1u x pr se S).pr (A1u x pr se S).se (A1u x pr se S).S∧FrS L L' a s w m:=by
 have h1:=G2d H h
 have hg:=C3p h.c
 rw[C6g]
 simp only[HH,H.a,H.s,H.W.w,A0h.all,PrS.A5u,h1]
 by_cases c0:pr.pc=0
 ·have i0:(pr.pc == 0)=true:=beq_iff_eq.2 c0
  simp only[i0,if_true]
  by_cases c1:A6x pr se S=0
  ·have e:A1u x pr se S=⟨none,{pr with pc:=pr.pc+1},se,S⟩:=by unfold A1u;rw[if_pos c0,if_neg (by simpa using c1)]
   rw[e]
   have i1:(A6x pr se S != 0)=false:=by simp[c1]
   simp only[i1,Bool.false_eq_true,if_false]
   exact⟨_,D4k H h hpc H rfl _ _ _ _,H.A7v _,A5e _⟩
  ·have e:A1u x pr se S=⟨some (codeF pr S (A6x pr se S)),pr,se,S⟩:=by unfold A1u;rw[if_pos c0,if_pos c1]
   rw[e]
   have i1:(A6x pr se S != 0)=true:=by simp[c1]
   simp only[i1,if_true,B3p H h,C2c]
   exact⟨L,rfl,H,A9v⟩
 have i0:(pr.pc == 0)=false:=beq_eq_false_iff_ne.2 c0
 simp only[i0,Bool.false_eq_true,if_false]
 by_cases c1:pr.pc=1
 ·have i1:(pr.pc == 1)=true:=beq_iff_eq.2 c1
  simp only[i1,if_true]
  obtain⟨L1,n1,W1,F1⟩:=B0m H.W h x hx
  obtain⟨H1,G1⟩:=H.A9r W1 (F1.mono fun b hb=>.inr hb)
  have h2:=H1h (A0l (S.word x)) (B2a _) pr.a.qty S.c.c6 (by omega)
  rw[F1h]at n1
  simp only[n1,HH,H1.a,H1.W.w,PrS.A5t,A0h.A4q,h2,A1x.len,A1x.all]
  by_cases c2:(A7k (A0l (S.word x)) pr.a.qty S.c.c6).1=0
  ·have e:A1u x pr se S=⟨none,{pr with st:=(A7k (A0l (S.word x)) pr.a.qty S.c.c6).2,pc:=pr.pc+1},se,S⟩:=by
    unfold A1u;rw[if_neg c0,if_pos c1,if_neg (by simpa using c2)]
   rw[e]
   generalize A7k (A0l (S.word x)) pr.a.qty S.c.c6=t at*
   have i2:(er t.1).isIf 39=false:=by rw[F6r];simp[c2]
   simp only[i2,Bool.false_eq_true,if_false,PrS.rng,PrS.C5d,PrS.C5o,PrS.C4o,PrS.C1b,PrS.C8o]
   have H2:=H1.A7v {pr with st:=t.2}
   refine⟨_,D4k H h hpc H2 rfl _ _ _ _,H2.A7v {pr with st:=t.2,pc:=pr.pc+1},(G1.trans (A5e _)).trans (A5e _)⟩
  ·have e:A1u x pr se S=⟨some (codeF pr S (A7k (A0l (S.word x)) pr.a.qty S.c.c6).1),pr,se,S⟩:=by
    unfold A1u;rw[if_neg c0,if_pos c1,if_pos c2]
   rw[e]
   generalize A7k (A0l (S.word x)) pr.a.qty S.c.c6=t at*
   have i2:(er t.1).isIf 39=true:=by rw[F6r];simp[c2]
   simp only[i2,if_true,G5q c2,B3p H1 h,C2c]
   exact⟨L1,rfl,H1,G1⟩
 have i1:(pr.pc == 1)=false:=beq_eq_false_iff_ne.2 c1
 simp only[i1,Bool.false_eq_true,if_false]
 by_cases c2:pr.pc=2
 ·have i2:(pr.pc == 2)=true:=beq_iff_eq.2 c2
  have e:A1u x pr se S=⟨none,{pr with pc:=pr.pc+1},se,S.put (2*x+1) ((tmW pr.a.tm).getD 0)⟩:=by unfold A1u;rw[if_neg c0,if_neg c1,if_pos c2]
  rw[e]
  obtain⟨r,n1,ht⟩:=G9c pr.a.tm htm
  obtain⟨ht1,ht2⟩:=ht.fst
  unfold Tm.ds at n1
  obtain⟨e2,L1,n2,W1,F1⟩:=F7f H.W (2*x+1) ((tmW pr.a.tm).getD 0)
  obtain⟨H1,G1⟩:=H.A9r W1 F1
  simp only[i2,HH,PrS.A2b,PrS.A1w,PrS.A3g,PrS.A4q,PrS.A7r,n1,ht2,ht1,B5y]
  rw[A1a (2*x) (by omega) (by omega),A1a (2*x+1) (by omega) (by omega),n2]
  simp only[HH]
  exact⟨_,D4k H h hpc H1 rfl _ _ _ _,H1.A7v {pr with pc:=pr.pc+1},G1.trans (A5e _)⟩
 have i2:(pr.pc == 2)=false:=beq_eq_false_iff_ne.2 c2
 simp only[i2,Bool.false_eq_true,if_false]
 by_cases c3:pr.pc=3
 ·have i3:(pr.pc == 3)=true:=beq_iff_eq.2 c3
  obtain⟨b1,b2,b3⟩:=hc c3
  have e:A1u x pr se S=⟨none,{pr with A5i:=C0t S.c x pr.st.g pr.a.tm,pc:=pr.pc+1},{se with last:=pr.a.id,ids:=se.ids.set pr.a.cell.toNat pr.a.id,A6k:=se.A6k.set pr.a.cell.toNat pr.st.g},
   (S.put (2*x) ((stW pr.st).getD 0)).tell {Ev.zero with kind:=1,cell:=x,gen:=pr.st.g,tm:=pr.a.tm,qty:=pr.a.qty}⟩:=by unfold A1u;rw[if_neg c0,if_neg c1,if_neg c2,if_pos c3]
  rw[e]
  obtain⟨r,n1,ht⟩:=F6t pr.st hst
  obtain⟨ht1,ht2⟩:=ht.fst
  unfold St.ds at n1
  obtain⟨e2,L1,n2,W1,F1⟩:=F7f H.W (2*x) ((stW pr.st).getD 0)
  obtain⟨H1,G1⟩:=H.A9r W1 F1
  have ok1:(S.put (2*x) ((stW pr.st).getD 0)).ok:=WS.F2c h _ G3z
  obtain⟨L2,n3,W2,F2⟩:∃L',FX 81 [.int (w:Nat),.int 1,.int x,.int pr.st.g,.int 0,.int 0,.int pr.a.tm.name,.int pr.a.tm.side,.int pr.a.tm.A0k,.int pr.a.tm.least,.int pr.a.tm.A1o,.int pr.a.qty,.int 0,.int 0,.int 0,.agg L1]=some [.agg L']∧
    InW L' w m k ((S.put (2*x) ((stW pr.st).getD 0)).tell {Ev.zero with kind:=1,cell:=x,gen:=pr.st.g,tm:=pr.a.tm,qty:=pr.a.qty})∧Fr L1 L' (·=w):=
   F2v H1.W ok1 hl {Ev.zero with kind:=1,cell:=x,gen:=pr.st.g,tm:=pr.a.tm,qty:=pr.a.qty}
  obtain⟨H2,G2⟩:=H1.A9r W2 (F2.mono fun b hb=>.inl hb)
  obtain⟨se',hse⟩:∃se':A0j,se'={se with last:=pr.a.id,ids:=se.ids.set pr.a.cell.toNat pr.a.id,A6k:=se.A6k.set pr.a.cell.toNat pr.st.g}:=⟨_,rfl⟩
  have H3:=H2.setS se'
  have n4:=H1t S.c h.c x pr.st.g pr.a.tm
  simp only[i3,HH,PrS.A1j,PrS.A1v,PrS.A2b,PrS.A1w,PrS.A3g,PrS.A4q,PrS.A7r,PrS.A5t,PrS.A9i,PrS.A8u,PrS.A9f,PrS.B2g,PrS.B6b,n1,ht2,ht1,B0k]
  rw[A1a (2*x) (by omega) (by omega),n2]
  simp only[HH,H1.a,PrS.A1j,PrS.A1v,PrS.A2b,PrS.A1w,PrS.A3g,PrS.A4q,PrS.A7r,PrS.A5t,PrS.A9i,PrS.A8u,PrS.A9f,PrS.B2g,PrS.B6b,n3,H2.a,H2.s,A0j.rng,A0j.A1v,A0j.A2b,A0j.B2t,D8p,A0j.B5j,A0j.B5m,C8c,←hse,H3.W.w,H3.a,A0h.all,WS.tell,WS.put,n4,PrS.rng,PrS.E9b]
  have j1:pr.a.cell≥0:=b1
  simp only[j1,b2,b3,decide_true,if_true]
  have H4:=H3.A7v {pr with A5i:=C0t S.c x pr.st.g pr.a.tm}
  exact⟨_,D4k H h hpc H4 rfl _ _ _ _,H4.A7v {pr with A5i:=C0t S.c x pr.st.g pr.a.tm,pc:=pr.pc+1},((((G1.trans G2).trans (G9u _)).trans (A5e _)).trans (A5e _))⟩
 ·have i3:(pr.pc == 3)=false:=beq_eq_false_iff_ne.2 c3
  have e:A1u x pr se S=⟨none,{pr with pc:=pr.pc+1},se,S⟩:=by unfold A1u;rw[if_neg c0,if_neg c1,if_neg c2,if_neg c3]
  rw[e]
  simp only[i3,Bool.false_eq_true,if_false]
  exact⟨_,D4k H h hpc H rfl _ _ _ _,H.A7v _,A5e _⟩
end
end
section
set_option linter.unusedSectionVars false
theorem G8r(s:St):FX 116 [.int s.k,.bool s.f,.int s.g,.int s.l,.int s.n]=some (A1x (A1i s)):=G3f s
theorem F4t{s:St}(h:s.wf):(A2v s).2.wf:=by
 unfold A2v
 split
 ·exact h.C2s 2 _ (In.lit (by decide))
 ·exact St.A9b
theorem D9q{s:St}(h:s.wf):(A1i s).2.wf:=by
 unfold A1i
 split
 ·exact h.C2s 6 _ (In.lit (by decide))
 ·split
  ·exact h.C2s s.k _ h.1
  ·exact St.A9b
section
variable{L:List D}{a s w m k:Nat}{pr:PrS}{se:A0j}{S:WS}(H:Hs L a s w m k pr se S)(h:S.ok)
include H h
theorem G8o(hl:S.log.length≤1000000000)(x:Int)(hx:-1000≤x∧x≤1000)(hst:pr.st.wf)(hwd:pr.word<18446744073709551616)(htr:0≤pr.tries∧pr.tries≤1000):
  ∃L',FX 88 [.int (a:Nat),.int (w:Nat),.int x,.agg L]=some [.bool (A1n x pr S).1,.agg L']∧
   Hs L' a s w m k (A1n x pr S).2.1 se (A1n x pr S).2.2∧FrS L L' a s w m:=by
 have hf:=A8z h.c
 rw[C6r]
 simp only[HH,H.a,H.W.w,A0h.A3g,PrS.B2n,PrS.A9i,PrS.A8u,PrS.A9f,PrS.B2g,PrS.B6b,PrS.E2h,PrS.C4l]
 rw[A1a (S.c.c5+1) (by omega) (by omega),A1a (2*(S.c.c5+1)) (by omega) (by omega),A1a (pr.tries+1) (by omega) (by omega)]
 simp only[PrS.rng,PrS.F9o,PrS.D4v]
 by_cases c0:pr.tries≥2*(S.c.c5+1)
 ·have e:A1n x pr S=(false,pr,S):=by unfold A1n;rw[if_pos c0]
  rw[e]
  simp only[c0,decide_true,if_true]
  exact⟨L,rfl,H,A9v⟩
 simp only[c0,decide_false,Bool.false_eq_true,if_false]
 obtain⟨p1,hp1⟩:∃p1:PrS,p1={pr with tries:=pr.tries+1}:=⟨_,rfl⟩
 have H1:=H.A7v p1
 have G1:FrS L (L.set a (.agg p1.ds)) a s w m:=A5e _
 by_cases c1:pr.done>0
 ·have e:A1n x pr S=(true,p1,S):=by unfold A1n;rw[if_neg c0,if_pos c1,hp1]
  rw[e]
  simp only[c1,decide_true,if_true]
  refine⟨_,?_,H1,G1⟩
  rw[hp1]
 simp only[c1,decide_false,Bool.false_eq_true,if_false]
 have ht:Int.tmod (pr.tries+1) 2=(pr.tries+1)%2:=Int.tmod_eq_emod_of_nonneg (by omega)
 rw[ht]
 by_cases c2:(pr.tries+1)%2=1
 ·have e:A1n x pr S=(true,{p1 with word:=S.word x,st:=A0l (S.word x)},S):=by unfold A1n;rw[if_neg c0,if_neg c1,if_pos c2,hp1]
  rw[e]
  have i2:((pr.tries+1)%2 == 1)=true:=beq_iff_eq.2 c2
  obtain⟨L1,n1,W1,F1⟩:=B0m H1.W h x hx
  obtain⟨H2,G2⟩:=H1.A9r W1 (F1.mono fun b hb=>.inr hb)
  rw[F1h]at n1
  simp only[i2,if_true,←hp1,n1,HH,H2.a,PrS.rng,PrS.D5n,PrS.C5d,PrS.C5o,PrS.C4o,PrS.C1b,PrS.C8o]
  exact⟨_,rfl,H2.A7v {p1 with word:=S.word x,st:=A0l (S.word x)},(G1.trans G2).trans (A5e _)⟩
 have i2:((pr.tries+1)%2 == 1)=false:=beq_eq_false_iff_ne.2 c2
 simp only[i2,Bool.false_eq_true,if_false]
 have n2:=G1y pr.st
 have n3:=H2x pr.st
 simp only[n2,n3,HH,A1x.len,A1x.all]
 by_cases c3:pr.st.over=true
 ·have e:A1n x pr S=(true,{p1 with done:=1},S):=by unfold A1n;rw[if_neg c0,if_neg c1,if_neg c2,if_pos c3,hp1]
  rw[e]
  simp only[c3,if_true]
  refine⟨_,?_,H.A7v {p1 with done:=1},A5e _⟩
  rw[hp1]
 simp only[c3,if_false]
 by_cases c4:(A2v pr.st).1=0
 ·simp only[E2n c4,if_true,←hp1]
  obtain⟨L1,n4,W1,F1⟩:=B7y H1.W h x hx pr.word (A2v pr.st).2 (F4t hst)
  obtain⟨H2,G2⟩:=H1.A9r W1 (F1.mono fun b hb=>.inr hb)
  obtain⟨o1,o2,o3,o4,o5⟩:=S.B0a h x pr.word (A2v pr.st).2
  simp only[n4,HH]
  by_cases c5:(S.turn x pr.word (A2v pr.st).2).1=true
  ·have e:A1n x pr S=(true,{p1 with done:=1},(S.turn x pr.word (A2v pr.st).2).2.tell {Ev.zero with kind:=6,cell:=x,gen:=(A2v pr.st).2.g}):=by
    unfold A1n;rw[if_neg c0,if_neg c1,if_neg c2,if_neg c3,if_neg (by simpa using c4),if_pos c5,hp1]
   rw[e]
   have H3:=H2.A7v {p1 with done:=1}
   obtain⟨L5,n5,W5,F5⟩:=C7w H3.W o1 (by rw[o4];exact hl) 6 x (A2v pr.st).2.g 0 0 0 0 0
   obtain⟨H4,G4⟩:=H3.A9r W5 (F5.mono fun b hb=>.inl hb)
   simp only[c5,if_true,H2.a,HH,PrS.rng,PrS.D4v,n5]
   exact⟨L5,rfl,H4,((G1.trans G2).trans (A5e _)).trans G4⟩
  ·have e:A1n x pr S=(true,p1,S):=by
    unfold A1n;rw[if_neg c0,if_neg c1,if_neg c2,if_neg c3,if_neg (by simpa using c4),if_neg c5,hp1]
   rw[e]
   simp only[c5,if_false]
   rw[o5 (by simpa using c5)]at H2
   exact⟨L1,rfl,H2,G1.trans G2⟩
 ·have e:A1n x pr S=(true,p1,S):=by unfold A1n;rw[if_neg c0,if_neg c1,if_neg c2,if_neg c3,if_pos c4,hp1]
  rw[e]
  simp only[E0c c4,Bool.false_eq_true,if_false]
  refine⟨_,?_,H1,G1⟩
  rw[hp1]
theorem G8a(hl:S.log.length≤1000000000)(x:Int)(hx:-1000≤x∧x≤1000)(hst:pr.st.wf)(hwd:pr.word<18446744073709551616)
  (hc:0≤pr.a.cell∧pr.a.cell<se.ids.length∧pr.a.cell<se.A6k.length):
  ∃L',FX 89 [.int (a:Nat),.int (w:Nat),.int (s:Nat),.int x,.agg L]=some [.agg L']∧
   Hs L' a s w m k (A3h x pr se S).1 se (A3h x pr se S).2∧FrS L L' a s w m:=by
 obtain⟨b1,b2,b3⟩:=hc
 have b1':pr.a.cell≥0:=b1
 have g1:=F1z b1 b2
 have g2:=F1z b1 b3
 have n1:=G8r pr.st
 rw[C6n]
 simp only[HH,H.a,H.s,PrS.A1j,PrS.A1v,A0j.A1v,A0j.A2b,b1',b2,b3,decide_true,C8c,g1,g2]
 have hJ:∀J:List D→Option (List D),(if(atL se.ids pr.a.cell == pr.a.id)=true then(if decide (pr.a.id>0)=true then J [.agg L,.int (atL se.A6k pr.a.cell)]else J [.agg L,.int 0])else J [.agg L,.int 0])=J [.agg L,.int (B6n pr se)]:=by
  intro J
  unfold B6n
  by_cases d1:atL se.ids pr.a.cell=pr.a.id
  ·have i1:(atL se.ids pr.a.cell == pr.a.id)=true:=beq_iff_eq.2 d1
   by_cases d2:pr.a.id>0
   ·rw[if_pos i1,if_pos (by simpa using d2),if_pos ⟨d1,d2⟩]
   ·rw[if_pos i1,if_neg (by simpa using d2),if_neg (fun hh=>d2 hh.2)]
  ·have i1:¬(atL se.ids pr.a.cell == pr.a.id)=true:=by simpa using d1
   rw[if_neg i1,if_neg (fun hh=>d1 hh.1)]
 rw[hJ,C0i]
 generalize hgen:B6n pr se=gen
 simp only[HH,H.a,PrS.A9i,PrS.A8u,PrS.A9f,PrS.B2g,PrS.B6b,PrS.C4l,n1,A1x.len]
 by_cases c0:pr.done>0
 ·have e:A3h x pr se S=(pr,S):=by unfold A3h;rw[if_pos c0]
  rw[e]
  simp only[c0,decide_true,if_true]
  exact⟨L,rfl,H,A9v⟩
 simp only[c0,decide_false,Bool.false_eq_true,if_false,A1x.all]
 have hJ2:∀J:List D→Option (List D),(if(gen == 0)=true then J [.agg L,.bool true]else if(pr.st.g != gen)=true then J [.agg L,.bool true]else J [.agg L,.bool (!(er (A1i pr.st).1).isNil)])=J [.agg L,.bool (decide (gen=0∨pr.st.g≠gen∨(A1i pr.st).1≠0))]:=by
  intro J
  by_cases d1:gen=0
  ·simp[d1]
  by_cases d2:pr.st.g=gen
  ·rw[D8g]
   simp[d1,d2]
  ·simp[d1,d2]
 rw[hJ2,C0h]
 simp only[HH,H.a,PrS.B2n,PrS.A8u,PrS.rng,PrS.D4v]
 by_cases c1:gen=0∨pr.st.g≠gen∨(A1i pr.st).1≠0
 ·have e:A3h x pr se S=({pr with done:=3},S):=by unfold A3h;rw[if_neg c0,hgen,if_pos c1]
  rw[e]
  simp only[c1,decide_true,if_true]
  exact⟨_,rfl,H.A7v _,A5e _⟩
 simp only[c1,decide_false,Bool.false_eq_true,if_false]
 by_cases c2:pr.st.f=true
 ·have e:A3h x pr se S=({pr with done:=2},S):=by unfold A3h;rw[if_neg c0,hgen,if_neg c1,if_pos c2]
  rw[e]
  simp only[c2,if_true]
  refine⟨_,?_,H.A7v _,A5e _⟩
  rfl
 simp only[c2,if_false]
 obtain⟨L1,n4,W1,F1⟩:=B7y H.W h x hx pr.word (A1i pr.st).2 (D9q hst)
 obtain⟨H2,G2⟩:=H.A9r W1 (F1.mono fun b hb=>.inr hb)
 obtain⟨o1,o2,o3,o4,o5⟩:=S.B0a h x pr.word (A1i pr.st).2
 simp only[n4,HH]
 by_cases c3:(S.turn x pr.word (A1i pr.st).2).1=false
 ·have e:A3h x pr se S=(pr,S):=by unfold A3h;rw[if_neg c0,hgen,if_neg c1,if_neg c2,if_pos c3]
  rw[e]
  simp only[c3,Bool.false_eq_true,if_false]
  rw[o5 c3]at H2
  exact⟨L1,rfl,H2,G2⟩
 have c3':(S.turn x pr.word (A1i pr.st).2).1=true:=by simpa using c3
 have n5:=B6x H2.W o1
 rw[o3]at n5
 have hset:∀(z:PrS),z.ds.set 18 (wN S.now)=PrS.ds {z with at_:=S.now}:=fun _=>rfl
 simp only[c3',if_true,H2.W.w,H2.a,HH,A0h.A5t,n5,PrS.rng,hset,PrS.D4v,C0d]
 by_cases c4:(A1i pr.st).2.f=true
 ·have e:A3h x pr se S=({pr with at_:=S.now,done:=2},(S.turn x pr.word (A1i pr.st).2).2.tell {Ev.zero with kind:=4,cell:=x,gen:=gen}):=by
   unfold A3h;rw[if_neg c0,hgen,if_neg c1,if_neg c2,if_neg c3,if_pos c4]
  rw[e]
  have H3:=H2.A7v {pr with at_:=S.now,done:=2}
  obtain⟨L5,n6,W5,F5⟩:=C7w H3.W o1 (by rw[o4];exact hl) 4 x gen 0 0 0 0 0
  obtain⟨H4,G4⟩:=H3.A9r W5 (F5.mono fun b hb=>.inl hb)
  simp only[c4,if_true,n6,HH]
  exact⟨L5,rfl,H4,(G2.trans (A5e _)).trans G4⟩
 ·have e:A3h x pr se S=({pr with at_:=S.now,done:=1,st:=(A1i pr.st).2},(S.turn x pr.word (A1i pr.st).2).2.tell {Ev.zero with kind:=3,cell:=x,gen:=gen}):=by
   unfold A3h;rw[if_neg c0,hgen,if_neg c1,if_neg c2,if_neg c3,if_neg c4]
  rw[e]
  have H3:=H2.A7v {pr with at_:=S.now,done:=1,st:=(A1i pr.st).2}
  obtain⟨L5,n6,W5,F5⟩:=C7w H3.W o1 (by rw[o4];exact hl) 3 x gen 0 0 0 0 0
  obtain⟨H4,G4⟩:=H3.A9r W5 (F5.mono fun b hb=>.inl hb)
  have e10:({k:=(A1i pr.st).2.k,f:=(A1i pr.st).2.f,g:=(A1i pr.st).2.g,l:=(A1i pr.st).2.l,n:=(A1i pr.st).2.n}:St)=(A1i pr.st).2:=rfl
  rw[if_neg c4]
  simp only[PrS.rng,PrS.C5d,PrS.C5o,PrS.C4o,PrS.C1b,PrS.C8o,e10,n6,HH]
  exact⟨L5,rfl,H4,(G2.trans (A5e _)).trans G4⟩
end
end
section
set_option linter.unusedSectionVars false
theorem D0h{α:Type}(c:Prop)[Decidable c](x:α):(if c then x else x)=x:=by split<;>rfl
theorem E2r{S:WS}(h:S.ok)(part i:Int):FX 85 [.int S.c.c0,.int S.c.c1,.int S.c.c2,.int S.c.c3,.int S.c.c4,.int S.c.c5,.int S.c.c6,.int part,.int i]=some [.int (A0r S.c part i)]:=F7v S.c h.c _ _
theorem E5b{c:Cf}(hc:c.ok)(part i:Int):-1000≤A0r c part i∧A0r c part i≤1000:=by
 have h1:=A6z c hc
 rcases Decidable.em (0≤A0r c part i)with h|h
 ·have:=D1w c h;omega
 ·have:A0r c part i=-1:=by
   rcases Decidable.em (part<0∨part≥c.c0∨i<0∨i≥c.c1)with h2|h2
   ·exact if_pos h2
   ·exfalso
    have e:A0r c part i=part*c.c1+i:=if_neg h2
    have:=Int.mul_nonneg (show 0≤part by omega) (show 0≤c.c1 by omega)
    omega
  omega
section
variable{L:List D}{a s w m k:Nat}{pr:PrS}{se:A0j}{S:WS}(H:Hs L a s w m k pr se S)(h:S.ok)(hpc:In (pr.pc+1))
include H h hpc
theorem B8o{L1:List D}{pr1:PrS}{S1:WS}(H1:Hs L1 a s w m k pr1 se S1)(hp:pr1.pc=pr.pc)(x1 x2 x3 x4:D):A3o (.int (a:Nat)) x1 x2 x3 x4 [.agg L1]=some (A5s none (L1.set a (.agg (PrS.ds {pr1 with pc:=pr.pc+1})))):=by
 rw[B8n]
 simp only[HH,H1.a,PrS.A5u,hp,hpc.w,PrS.rng,PrS.B6j]
 rfl
theorem B3d{L1:List D}{pr1:PrS}{S1:WS}(H1:Hs L1 a s w m k pr1 se S1)(G:FrS L L1 a s w m):∃L',some (A5s none (L1.set a (.agg (PrS.ds {pr1 with pc:=pr.pc+1}))))=some (A5s (A8g (pr1,S1) se (pr.pc+1)).r L')∧Hs L' a s w m k (A8g (pr1,S1) se (pr.pc+1)).pr (A8g (pr1,S1) se (pr.pc+1)).se (A8g (pr1,S1) se (pr.pc+1)).S∧FrS L L' a s w m:=
 ⟨_,rfl,H1.A7v _,G.trans (A5e _)⟩
omit hpc in
theorem G8q(x:Int):(A3h x pr se S).1.pc=pr.pc:=by
 unfold A3h
 split
 ·rfl
 split
 ·rfl
 split
 ·rfl
 split
 ·rfl
 split<;>rfl
theorem F8z(hl:S.log.length≤1000000000)(hst:pr.st.wf)(hwd:pr.word<18446744073709551616)(hat:In pr.at_)(hd:0≤pr.done∧pr.done≤3)
  (hc:pr.pc≠0→0≤pr.a.cell∧pr.a.cell<se.ids.length∧pr.a.cell<se.A6k.length):
  ∃L',FX 66 [.int (a:Nat),.int (w:Nat),.int (s:Nat),.agg L]=some (A5s (A1m (A0r S.c se.part pr.a.cell) pr se S).r L')∧
   Hs L' a s w m k (A1m (A0r S.c se.part pr.a.cell) pr se S).pr (A1m (A0r S.c se.part pr.a.cell) pr se S).se (A1m (A0r S.c se.part pr.a.cell) pr se S).S∧FrS L L' a s w m:=by
 have n0:=E2r h se.part pr.a.cell
 have hx:=E5b h.c se.part pr.a.cell
 rw[C4b]
 simp only[HH,H.a,H.s,H.W.w,A0h.all,PrS.A1v,PrS.A5u,A0j.A1l,n0]
 generalize hxx:A0r S.c se.part pr.a.cell=x at*
 by_cases c0:pr.pc=0
 ·have i0:(pr.pc == 0)=true:=beq_iff_eq.2 c0
  simp only[i0,if_true]
  by_cases c1:x<0
  ·have e:A1m x pr se S=⟨some (codeF pr S 21),pr,se,S⟩:=by unfold A1m;rw[if_pos c0,if_pos c1]
   rw[e]
   simp only[c1,decide_true,if_true,B3p H h,C2c]
   exact⟨L,rfl,H,A9v⟩
  ·have e:A1m x pr se S=A8g (pr,S) se (pr.pc+1):=by unfold A1m;rw[if_pos c0,if_neg c1]
   rw[e]
   simp only[c1,decide_false,Bool.false_eq_true,if_false]
   rw[B8o H h hpc H rfl]
   exact B3d H h hpc H A9v
 have i0:(pr.pc == 0)=false:=beq_eq_false_iff_ne.2 c0
 simp only[i0,Bool.false_eq_true,if_false]
 have hJ:∀J:List D→Option (List D),(if(pr.pc == 1)=true then J [.agg L,.bool (pr.pc == 1)]else if(pr.pc == 3)=true then J [.agg L,.bool (pr.pc == 3)]else J [.agg L,.bool (pr.pc == 5)])=J [.agg L,.bool (decide (pr.pc=1∨pr.pc=3∨pr.pc=5))]:=by
  intro J
  by_cases d1:pr.pc=1
  ·simp[d1]
  by_cases d2:pr.pc=3
  ·simp[d2]
  ·simp[d1,d2]
   rfl
 rw[hJ,B8k]
 simp only[HH,H.a,PrS.A5u,PrS.C4l]
 by_cases c1:pr.pc=1∨pr.pc=3∨pr.pc=5
 ·have e:A1m x pr se S=A8g (if pr.done=0 then {pr with word:=S.word x,st:=A0l (S.word x)} else pr,S) se (pr.pc+1):=by unfold A1m;rw[if_neg c0,if_pos c1]
  rw[e]
  simp only[c1,decide_true,if_true]
  by_cases c2:pr.done=0
  ·have i2:(pr.done == 0)=true:=beq_iff_eq.2 c2
   obtain⟨L1,n1,W1,F1⟩:=B0m H.W h x hx
   obtain⟨H1,G1⟩:=H.A9r W1 (F1.mono fun b hb=>.inr hb)
   rw[F1h]at n1
   rw[if_pos c2]
   simp only[i2,if_true,n1,HH,H1.a,PrS.rng,PrS.D5n,PrS.C5d,PrS.C5o,PrS.C4o,PrS.C1b,PrS.C8o]
   have H2:=H1.A7v {pr with word:=S.word x,st:=A0l (S.word x)}
   rw[B8o H h hpc H2 rfl]
   exact B3d H h hpc H2 (G1.trans (A5e _))
  ·have i2:(pr.done == 0)=false:=beq_eq_false_iff_ne.2 c2
   rw[if_neg c2]
   simp only[i2,Bool.false_eq_true,if_false]
   rw[B8o H h hpc H rfl]
   exact B3d H h hpc H A9v
 simp only[c1,decide_false,Bool.false_eq_true,if_false]
 have hJ2:∀J:List D→Option (List D),(if(pr.pc == 2)=true then J [.agg L,.bool (pr.pc == 2)]else if(pr.pc == 4)=true then J [.agg L,.bool (pr.pc == 4)]else J [.agg L,.bool (pr.pc == 6)])=J [.agg L,.bool (decide (pr.pc=2∨pr.pc=4∨pr.pc=6))]:=by
  intro J
  by_cases d1:pr.pc=2
  ·simp[d1]
  by_cases d2:pr.pc=4
  ·simp[d2]
  ·simp[d1,d2]
   rfl
 rw[hJ2,B8d]
 simp only[HH,H.a,PrS.A5u,PrS.A9i,PrS.A8u,PrS.A9f,PrS.B2g,PrS.B6b,PrS.C4l,PrS.C9n]
 by_cases c2:pr.pc=2∨pr.pc=4∨pr.pc=6
 ·have e:A1m x pr se S=A8g (A3h x pr se S) se (pr.pc+1):=by unfold A1m;rw[if_neg c0,if_neg c1,if_pos c2]
  rw[e]
  obtain⟨L1,n1,H1,G1⟩:=G8a H h hl x hx hst hwd (hc c0)
  simp only[c2,decide_true,if_true,n1,HH]
  rw[B8o H h hpc H1 (G8q H h x)]
  exact B3d H h hpc H1 G1
 simp only[c2,decide_false,Bool.false_eq_true,if_false]
 by_cases c3:pr.pc=7
 ·have i3:(pr.pc == 7)=true:=beq_iff_eq.2 c3
  have e:A1m x pr se S=A8g (pr,if pr.done=1 then A7o S x pr.st.g S.c.c5 (A7s pr.st pr.at_)else S) se (pr.pc+1):=by unfold A1m;rw[if_neg c0,if_neg c1,if_neg c2,if_pos c3]
  rw[e]
  simp only[i3,if_true,E9l,A0q,A4l.len,H.W.w,D.A0f,A0h.A3g]
  by_cases c4:pr.done=1
  ·have i4:(pr.done == 1)=true:=beq_iff_eq.2 c4
   rw[if_pos c4]
   simp only[i4,if_true]
   cases ho:A7s pr.st pr.at_ with
   |none=>
    have e1:((A4l none).getD 6 D.nil).toBool=false:=rfl
    simp only[e1,Bool.false_eq_true,if_false]
    rw[B8o H h hpc H rfl]
    exact B3d H h hpc H A9v
   |some r=>
    have e1:((A4l (some r)).getD 6 D.nil).toBool=true:=rfl
    simp only[e1,if_true]
    obtain⟨L1,n1,W1,F1⟩:=C2l H.W h x pr.st.g S.c.c5 r (D4x hst hat ho)
    obtain⟨H1,G1⟩:=H.A9r W1 (F1.mono fun b hb=>.inr hb)
    have n1':FX 63 [.int (w:Nat),.int x,.int pr.st.g,.int S.c.c5,(A4l (some r)).getD 0 D.nil,(A4l (some r)).getD 1 D.nil,(A4l (some r)).getD 2 D.nil,(A4l (some r)).getD 3 D.nil,(A4l (some r)).getD 4 D.nil,(A4l (some r)).getD 5 D.nil,.agg L]=some [.agg L1]:=n1
    simp only[n1',HH]
    rw[B8o H h hpc H1 rfl]
    exact B3d H h hpc H1 G1
  ·have i4:(pr.done == 1)=false:=beq_eq_false_iff_ne.2 c4
   rw[if_neg c4]
   simp only[i4,Bool.false_eq_true,if_false]
   rw[B8o H h hpc H rfl,D0h _ _]
   exact B3d H h hpc H A9v
 ·have i3:(pr.pc == 7)=false:=beq_eq_false_iff_ne.2 c3
  have e:A1m x pr se S=⟨some {codeF pr S (F9e pr.done)with asked:=pr.done == 2},pr,se,S⟩:=by unfold A1m;rw[if_neg c0,if_neg c1,if_neg c2,if_neg c3]
  rw[e]
  have d1:pr.done≥0:=hd.1
  have d2:pr.done<4:=by omega
  have hg:([D.int 27,D.int 0,D.int 0,D.int 29]:List D).getD pr.done.toNat D.nil=.int (F9e pr.done):=by
   have:pr.done=0∨pr.done=1∨pr.done=2∨pr.done=3:=by omega
   rcases this with e|e|e|e<;>rw[e]<;>rfl
  simp only[i3,Bool.false_eq_true,if_false,d1,d2,decide_true,if_true,hg,B3p H h]
  exact⟨L,rfl,H,A9v⟩
end
end
section
set_option linter.unusedSectionVars false
theorem H1b(x:Nat)(hx:x<18446744073709551616):FX 117 [wN x]=some (G9i x).ds:=G4p x hx
theorem rapp(r:Rc)(x:D):r.ds++[x]=[.int r.k,.int r.q,.int r.p,.int r.t,.int r.c,.int r.g,x]:=rfl
theorem F3v{S:WS}(h:S.ok)(x gen n:Int):FX 84 [.int S.c.c0,.int S.c.c1,.int S.c.c2,.int S.c.c3,.int S.c.c4,.int S.c.c5,.int S.c.c6,.int x,.int gen,.int n]=some [.int (A7y S.c x gen n)]:=F6o S.c h.c x gen n
theorem G1j{L:List D}{w m k:Nat}{S:WS}(W:InW L w m k S)(h:S.ok)(i:Int):∃L',FX 90 [.int (w:Nat),.int i,.agg L]=some ((B6g S i).ds++[.agg L'])∧InW L' w m k S∧Fr L L' (fun b=>b=w∨b=m):=by
 rw[F5b]
 unfold B6g
 by_cases c0:i<0
 ·refine⟨L,?_,W,Fr.refl _ _⟩
  rw[if_pos c0]
  simp only[D.toInt_int,c0,decide_true,if_true]
  rfl
 ·obtain⟨M,hM,hw⟩:=W.m
  obtain⟨e,M',h1,h2⟩:=E4d hM i
  refine⟨L.set m (.agg M'.ds),?_,?_,Fr.set _ _ _ (.inr rfl)⟩
  ·rw[if_neg c0]
   have hr:=H1b (wd M.words i) (E9n (by rw[hw];exact h.w) _)
   rw[hw]at h1 hr
   simp only[c0,decide_false,HH,W.w,A0h.A7r,h1,hr,Rc.len,Rc.A1l,Rc.A1j,Rc.A1v,Rc.A2b,Rc.A1w,Rc.A3g]
   rfl
  ·have:=W.E4v M'
   rw[h2,hw]at this
   exact this
theorem H1y{se:A0j}{i:Int}(h0:0≤i)(h1:i<se.A7i.length):(se.A7i.map Cur.d).getD i.toNat D.nil=.agg [.int (A6g se i).gen,.int (A6g se i).n]:=by
 have h:i.toNat<se.A7i.length:=by omega
 unfold A6g
 rw[List.getD_eq_getElem?_getD,List.getElem?_map,List.getElem?_eq_getElem h,List.getD_eq_getElem?_getD,List.getElem?_eq_getElem h];rfl
section
variable{L:List D}{a s w m k:Nat}{pr:PrS}{se:A0j}{S:WS}(H:Hs L a s w m k pr se S)(h:S.ok)(hpc:In (pr.pc+1))
include H h hpc
theorem G9d(hc:0≤A0r S.c se.part pr.a.cell→0≤pr.a.cell∧pr.a.cell<se.A7i.length)(hg:In ((A6g se pr.a.cell).gen+1))(hn:In ((A6g se pr.a.cell).n+1)):
  ∃L',FX 67 [.int (a:Nat),.int (w:Nat),.int (s:Nat),.agg L]=some (A5s (A2m (A0r S.c se.part pr.a.cell) pr se S).r L')∧
   Hs L' a s w m k (A2m (A0r S.c se.part pr.a.cell) pr se S).pr (A2m (A0r S.c se.part pr.a.cell) pr se S).se (A2m (A0r S.c se.part pr.a.cell) pr se S).S∧FrS L L' a s w m:=by
 have n0:=E2r h se.part pr.a.cell
 rw[C6l]
 simp only[HH,H.a,H.s,H.W.w,A0h.all,PrS.A1v,PrS.A5u,A0j.A1l,A0j.A1w,n0]
 generalize hxx:A0r S.c se.part pr.a.cell=x at*
 by_cases cx:x<0
 ·have e:A2m x pr se S=⟨some (codeF pr S 21),pr,se,S⟩:=by unfold A2m;rw[if_pos cx]
  rw[e]
  simp only[cx,decide_true,if_true,B3p H h,C2c]
  exact⟨L,rfl,H,A9v⟩
 obtain⟨b1,b2⟩:=hc (by omega)
 have b1':pr.a.cell≥0:=b1
 have g1:=H1y (se:=se) b1 b2
 have hlen:(se.A7i.map Cur.d).length=se.A7i.length:=List.length_map ..
 simp only[cx,decide_false,Bool.false_eq_true,if_false,hlen,b1',b2,decide_true,if_true,g1,HH]
 generalize hcur:A6g se pr.a.cell=cur at*
 by_cases c0:pr.pc=0
 ·have i0:(pr.pc == 0)=true:=beq_iff_eq.2 c0
  have e:A2m x pr se S=⟨none,{pr with pc:=pr.pc+1},se,S⟩:=by unfold A2m;rw[if_neg cx,if_pos c0]
  rw[e]
  simp only[i0,if_true,hpc.w,PrS.rng,PrS.B6j]
  exact⟨_,rfl,H.A7v _,A5e _⟩
 have i0:(pr.pc == 0)=false:=beq_eq_false_iff_ne.2 c0
 simp only[i0,Bool.false_eq_true,if_false]
 by_cases c1:pr.pc=1
 ·have i1:(pr.pc == 1)=true:=beq_iff_eq.2 c1
  simp only[i1,if_true,C0g,HH,H.a,H.s,H.W.w,A0h.all,PrS.A1v,PrS.A5u,A0j.A1w,g1]
  by_cases c2:cur.n<S.c.c5
  ·have e:A2m x pr se S=⟨none,{pr with r0:=B6g S (A7y S.c x cur.gen cur.n),pc:=pr.pc+1},se,S⟩:=by unfold A2m;rw[if_neg cx,if_neg c0,if_pos c1,hcur,if_pos c2]
   rw[e]
   obtain⟨L1,n1,W1,F1⟩:=G1j H.W h (A7y S.c x cur.gen cur.n)
   obtain⟨H1,G1⟩:=H.A9r W1 F1
   rw[rapp]at n1
   have n2:=F3v h x cur.gen cur.n
   simp only[c2,decide_true,if_true,n2,n1,HH,C0a,H1.a,PrS.rng,PrS.E9a,PrS.G0p,PrS.F9z,PrS.E0z,PrS.E3i,PrS.E2w,PrS.A5u,hpc.w,PrS.B6j]
   exact⟨_,rfl,H1.A7v {pr with r0:=B6g S (A7y S.c x cur.gen cur.n),pc:=pr.pc+1},G1.trans (A5e _)⟩
  ·have e:A2m x pr se S=⟨none,{pr with pc:=pr.pc+1},se,S⟩:=by unfold A2m;rw[if_neg cx,if_neg c0,if_pos c1,hcur,if_neg c2]
   rw[e]
   simp only[c2,decide_false,Bool.false_eq_true,if_false,hpc.w,PrS.rng,PrS.B6j]
   exact⟨_,rfl,H.A7v _,A5e _⟩
 have i1:(pr.pc == 1)=false:=beq_eq_false_iff_ne.2 c1
 simp only[i1,Bool.false_eq_true,if_false]
 by_cases c2:pr.pc=2
 ·have i2:(pr.pc == 2)=true:=beq_iff_eq.2 c2
  have e:A2m x pr se S=⟨none,{pr with r1:=B6g S (A7y S.c x cur.gen S.c.c5),pc:=pr.pc+1},se,S⟩:=by unfold A2m;rw[if_neg cx,if_neg c0,if_neg c1,if_pos c2,hcur]
  rw[e]
  obtain⟨L1,n1,W1,F1⟩:=G1j H.W h (A7y S.c x cur.gen S.c.c5)
  obtain⟨H1,G1⟩:=H.A9r W1 F1
  rw[rapp]at n1
  have n2:=F3v h x cur.gen S.c.c5
  simp only[i2,if_true,n2,n1,HH,C0k,H1.a,PrS.rng,PrS.E2g,PrS.D9z,PrS.E9e,PrS.E8u,PrS.E8o,PrS.E8v,PrS.A5u,hpc.w,PrS.B6j]
  exact⟨_,rfl,H1.A7v {pr with r1:=B6g S (A7y S.c x cur.gen S.c.c5),pc:=pr.pc+1},G1.trans (A5e _)⟩
 ·have i2:(pr.pc == 2)=false:=beq_eq_false_iff_ne.2 c2
  have e:A2m x pr se S=⟨some {codeF pr S 0 with rc:=(B1b cur.gen cur.n pr.r0 pr.r1).1},pr,{se with A7i:=se.A7i.set pr.a.cell.toNat ⟨(B1b cur.gen cur.n pr.r0 pr.r1).2.1,(B1b cur.gen cur.n pr.r0 pr.r1).2.2⟩},S⟩:=by unfold A2m;rw[if_neg cx,if_neg c0,if_neg c1,if_neg c2,hcur]
  rw[e]
  have n3:FX 91 [.int cur.gen,.int cur.n,.int pr.r0.k,.int pr.r0.q,.int pr.r0.p,.int pr.r0.t,.int pr.r0.c,.int pr.r0.g,.int pr.r1.k,.int pr.r1.q,.int pr.r1.p,.int pr.r1.t,.int pr.r1.c,.int pr.r1.g]=some ((B1b cur.gen cur.n pr.r0 pr.r1).1.ds++[.int (B1b cur.gen cur.n pr.r0 pr.r1).2.1,.int (B1b cur.gen cur.n pr.r0 pr.r1).2.2]):=H1f cur.gen cur.n hg hn pr.r0 pr.r1
  generalize B1b cur.gen cur.n pr.r0 pr.r1=nx at*
  have r2:∀(r:Rc) (x y:D),r.ds++[x,y]=[.int r.k,.int r.q,.int r.p,.int r.t,.int r.c,.int r.g,x,y]:=fun _ _ _=>rfl
  rw[r2]at n3
  have hset:(se.A7i.map Cur.d).set pr.a.cell.toNat (.agg [.int nx.2.1,.int nx.2.2])=(se.A7i.set pr.a.cell.toNat ⟨nx.2.1,nx.2.2⟩).map Cur.d:=by rw[List.map_set];rfl
  simp only[i2,Bool.false_eq_true,if_false,B3p H h,A0q,Rep.G9x,if_true,PrS.E0t,PrS.D9r,PrS.E9m,PrS.E8q,PrS.E8x,PrS.E9c,PrS.E9g,PrS.E9k,PrS.E9o,PrS.E9q,PrS.E9i,PrS.E9h,n3,HH,B9y,H.s,H.a,PrS.A1v,A0j.A1w,A0j.rng,hset,A0j.A9t]
  exact⟨_,rfl,H.setS {se with A7i:=se.A7i.set pr.a.cell.toNat ⟨nx.2.1,nx.2.2⟩},G9u _⟩
theorem look_eq(s:St):FX 92 [.int s.k,.bool s.f,.int s.g,.int s.l,.int s.n]=some (E1d s).ds:=by
 have h1:=F6n s.k (.bool s.f) (.int s.g) (.int s.l) (.int s.n)
 rw[F5c,h1]
 simp only[HH]
 unfold E1d
 have e:s.live=(decide (1≤s.k)&&decide (s.k≤4)):=rfl
 rw[←e]
 cases s.live<;>rfl
theorem G8h(hlk:pr.looks.length≤1000)(hpc0:0≤pr.pc):
  ∃L',FX 68 [.int (a:Nat),.int (w:Nat),.int (s:Nat),.agg L]=some (A5s (A2j pr se S).r L')∧
   ((A2j pr se S).r=none→Hs L' a s w m k (A2j pr se S).pr (A2j pr se S).se (A2j pr se S).S)∧InW L' w m k S∧L'.getD s D.nil=.agg se.ds∧FrS L L' a s w m:=by
 obtain⟨f1,f2,f3,f4,f5,f6,f7⟩:=H.far
 rw[C7p]
 simp only[HH,H.a,H.s,H.W.w,A0h.all,PrS.A5u,PrS.E1s,A0j.A1l]
 by_cases c0:pr.pc>S.c.c1
 ·have e:A2j pr se S=⟨some {codeF pr S 0 with looks:=pr.looks},pr,se,S⟩:=by unfold A2j;rw[if_pos c0]
  rw[e]
  have hnil:∀l:List D,(D.agg l).isNil=false:=fun _=>rfl
  simp only[c0,decide_true,if_true,B3p H h,A0q,Rep.G9x,hnil,Bool.not_false]
  refine⟨_,rfl,(fun hh=>nomatch hh),?_,?_,A5e _⟩
  ·exact H.W.fr (Fr.set L a _ (T:=(·=a)) rfl) (Ne.symm f1) (Ne.symm f2) (Ne.symm f3)
  ·rw[A3j f7];exact H.s
 simp only[c0,decide_false,Bool.false_eq_true,if_false]
 by_cases c1:pr.pc>0
 ·have e:A2j pr se S=⟨none,{pr with looks:=pr.looks++[E1d (A0l (S.word (A0r S.c se.part (pr.pc-1))))],pc:=pr.pc+1},se,S⟩:=by unfold A2j;rw[if_neg c0,if_pos c1]
  rw[e]
  have hc1:=h.c.2.1
  rw[A1a (pr.pc-1) (by omega) (by omega)]
  have n0:=E2r h se.part (pr.pc-1)
  have hx:=E5b h.c se.part (pr.pc-1)
  obtain⟨L1,n1,W1,F1⟩:=B0m H.W h (A0r S.c se.part (pr.pc-1)) hx
  obtain⟨H1,G1⟩:=H.A9r W1 (F1.mono fun b hb=>.inr hb)
  rw[F1h]at n1
  have n2:=look_eq H h hpc (A0l (S.word (A0r S.c se.part (pr.pc-1))))
  generalize E1d (A0l (S.word (A0r S.c se.part (pr.pc-1))))=lk at*
  have n2':lk.ds=[.int lk.kind,.int lk.left,.int lk.E9p]:=rfl
  rw[n2']at n2
  have hap:pr.looks.map A5c.d++[D.agg [.int lk.kind,.int lk.left,.int lk.E9p]]=(pr.looks++[lk]).map A5c.d:=by simp[A5c.d,A5c.ds]
  have hle:(((pr.looks++[lk]).map A5c.d).length:Int)≤5864062014805:=by simp;omega
  have hnil:∀l:List D,(D.agg l).isNil=false:=fun _=>rfl
  simp only[c1,decide_true,if_true,n0,n1,HH,C0n,C0e,H1.a,PrS.E1s,hnil,n2,hap,hle,PrS.rng,PrS.E8p,PrS.A5u,hpc.w,PrS.B6j]
  have H2:=H1.A7v {pr with looks:=pr.looks++[lk],pc:=pr.pc+1}
  exact⟨_,rfl,fun _=>H2,H2.W,H2.s,G1.trans (A5e _)⟩
 ·have e:A2j pr se S=⟨none,{pr with pc:=pr.pc+1},se,S⟩:=by unfold A2j;rw[if_neg c0,if_neg c1]
  rw[e]
  simp only[c1,decide_false,Bool.false_eq_true,if_false,hpc.w,PrS.rng,PrS.B6j]
  have H2:=H.A7v {pr with pc:=pr.pc+1}
  exact⟨_,rfl,fun _=>H2,H2.W,H2.s,A5e _⟩
end
end
section
set_option linter.unusedSectionVars false
structure InA(L:List D)(a s z l w m k:Nat)(pr:PrS)(se:A0j)(ss:A0g)(po:A0c)(S:WS):Prop where
 H:Hs L a s w m k pr se S
 z:L.getD z D.nil=.agg ss.ds
 l:L.getD l D.nil=.agg po.ds
def Own(a q s z l w m:Nat)(b:Nat):Prop:=b=a∨b=q∨b=s∨b=z∨b=l∨b=w∨b=m
def FrA(L L':List D)(a q s z l w m:Nat):Prop:=Fr L L' (Own a q s z l w m)
section
variable{L:List D}{a s z l w m k:Nat}{pr:PrS}{se:A0j}{ss:A0g}{po:A0c}{S:WS}(A:InA L a s z l w m k pr se ss po S)
include A
theorem InA.fz:z≠a∧z≠s∧z≠w∧z≠m∧z≠k∧z≠l:=by
 obtain⟨h1,h2,h3⟩:=A.H.W.far A.z (by rw[A0g.len];decide) (by rw[A0g.len];decide) (by rw[A0g.len];decide)
 exact⟨A3f A.z A.H.a (by rw[PrS.len,A0g.len];decide),A3f A.z A.H.s (by rw[A0j.len,A0g.len];decide),h1,h2,h3,A3f A.z A.l (by rw[A0g.len,A0c.len];decide)⟩
theorem InA.fl:l≠a∧l≠s∧l≠w∧l≠m∧l≠k:=by
 obtain⟨h1,h2,h3⟩:=A.H.W.far A.l (by rw[A0c.len];decide) (by rw[A0c.len];decide) (by rw[A0c.len];decide)
 exact⟨A3f A.l A.H.a (by rw[PrS.len,A0c.len];decide),A3f A.l A.H.s (by rw[A0j.len,A0c.len];decide),h1,h2,h3⟩
theorem InA.step{L1:List D}{pr1:PrS}{se1:A0j}{S1:WS}(H1:Hs L1 a s w m k pr1 se1 S1)(G:FrS L L1 a s w m):InA L1 a s z l w m k pr1 se1 ss po S1:=by
 obtain⟨h1,h2,h3,h4,h5,h6⟩:=A.fz
 obtain⟨g1,g2,g3,g4,g5⟩:=A.fl
 exact⟨H1,G.get A.z (by simp only[h1,h2,h3,h4,or_self,not_false_iff]),G.get A.l (by simp only[g1,g2,g3,g4,or_self,not_false_iff])⟩
theorem InA.G8c(ss':A0g):InA (L.set z (.agg ss'.ds)) a s z l w m k pr se ss' po S:=by
 obtain⟨h1,h2,h3,h4,h5,h6⟩:=A.fz
 exact⟨⟨A.H.W.fr (Fr.set L z _ (T:=(·=z)) rfl) (Ne.symm h3) (Ne.symm h4) (Ne.symm h5),by rw[A3j h1];exact A.H.a,by rw[A3j h2];exact A.H.s⟩,A3v (A2h A.z) _,by rw[A3j h6];exact A.l⟩
theorem InA.B6f(po':A0c):InA (L.set l (.agg po'.ds)) a s z l w m k pr se ss po' S:=by
 obtain⟨h1,h2,h3,h4,h5,h6⟩:=A.fz
 obtain⟨g1,g2,g3,g4,g5⟩:=A.fl
 exact⟨⟨A.H.W.fr (Fr.set L l _ (T:=(·=l)) rfl) (Ne.symm g3) (Ne.symm g4) (Ne.symm g5),by rw[A3j g1];exact A.H.a,by rw[A3j g2];exact A.H.s⟩,by rw[A3j (Ne.symm h6)];exact A.z,A3v (A2h A.l) _⟩
theorem InA.snoc(x:D):InA (L++[x]) a s z l w m k pr se ss po S:=by
 have hf:Fr L (L++[x]) (fun _=>False):=Fr.snoc L x _
 exact⟨⟨A.H.W.fr hf not_false not_false not_false,hf.get A.H.a not_false,hf.get A.H.s not_false⟩,hf.get A.z not_false,hf.get A.l not_false⟩
omit A
theorem FrA.ofS{L L':List D}{a q s z l w m:Nat}(G:FrS L L' a s w m):FrA L L' a q s z l w m:=G.mono fun b hb=>by
 unfold Own
 rcases hb with h|h|h|h
 ·exact .inl h
 ·exact .inr (.inr (.inl h))
 ·exact .inr (.inr (.inr (.inr (.inr (.inl h)))))
 ·exact .inr (.inr (.inr (.inr (.inr (.inr h)))))
end
def PP(L:List D)(q:Nat)(ptr:D)(o:Option A0a):Prop:=match o with
 |none=>ptr=.nil
 |some P=>ptr=.int (q:Nat)∧L.getD q D.nil=.agg P.ds
def A7z:Option A0a→Bool
 |none=>true
 |some P=>decide (P.pc≥14)
def A4m(z l:Nat):D:=.iface 53 (.agg [.iface 83 (.agg [.int (z:Nat)]),.iface 25 (.agg [.int (l:Nat)])])
def atT(t:List Dr)(i:Int):Dr:=t.getD i.toNat ⟨0,0⟩
def takeN(ss:A0g)(po:A0c):Option Int × A0g × A0c:=
 if ss.taken=ss.tape.length then(none,ss,po)else(some (atT ss.tape ss.taken).n,{ss with taken:=ss.taken+1},{po with A0i:=po.A0i.set (atT ss.tape ss.taken).ev.toNat ss.ev})
structure B0h(ss:A0g)(po:A0c):Prop where
 t:0≤ss.taken∧ss.taken≤ss.tape.length∧ss.tape.length≤100000000
 e:∀d ∈ ss.tape,0≤d.ev∧d.ev<po.A0i.length
theorem G8d{L:List D}{a s z l w m k:Nat}{pr:PrS}{se:A0j}{ss:A0g}{po:A0c}{S:WS}(A:InA L a s z l w m k pr se ss po S)(ht:B0h ss po):
  ∃L',FX 54 [.int (z:Nat),.int (l:Nat),.agg L]=some [.int ((takeN ss po).1.getD 0),.bool (takeN ss po).1.isSome,.agg L']∧InA L' a s z l w m k pr se (takeN ss po).2.1 (takeN ss po).2.2 S∧Fr L L' (fun b=>b=z∨b=l):=by
 obtain⟨⟨t1,t2,t3⟩,te⟩:=ht
 have hlen:(ss.tape.map Dr.d).length=ss.tape.length:=List.length_map ..
 rw[C6t]
 simp only[HH,A.z,A0g.A2b,A0g.A1w,A0g.A3g,hlen]
 unfold takeN
 by_cases c0:ss.taken=ss.tape.length
 ·have i0:(ss.taken == (ss.tape.length:Int))=true:=beq_iff_eq.2 c0
  rw[if_pos c0]
  simp only[i0,if_true]
  exact⟨L,rfl,A,Fr.refl _ _⟩
 ·have i0:(ss.taken == (ss.tape.length:Int))=false:=beq_eq_false_iff_ne.2 c0
  rw[if_neg c0]
  have hlt:ss.taken.toNat<ss.tape.length:=by omega
  have hmem:atT ss.tape ss.taken ∈ ss.tape:=by
   unfold atT
   rw[List.getD_eq_getElem?_getD,List.getElem?_eq_getElem hlt]
   exact List.getElem_mem hlt
  obtain⟨e1,e2⟩:=te _ hmem
  have hg:(ss.tape.map Dr.d).getD ss.taken.toNat D.nil=.agg [.int (atT ss.tape ss.taken).n,.int (atT ss.tape ss.taken).ev]:=by
   unfold atT
   rw[List.getD_eq_getElem?_getD,List.getElem?_map,List.getElem?_eq_getElem hlt,List.getD_eq_getElem?_getD,List.getElem?_eq_getElem hlt];rfl
  generalize atT ss.tape ss.taken=d at*
  have j1:ss.taken≥0:=t1
  have j2:ss.taken<(ss.tape.length:Int):=by omega
  have j3:d.ev≥0:=e1
  have A1:=A.G8c {ss with taken:=ss.taken+1}
  have A2:=A1.B6f {po with A0i:=po.A0i.set d.ev.toNat ss.ev}
  refine⟨_,?_,A2,(Fr.set L z _ (.inl rfl)).trans (Fr.set _ l _ (.inr rfl))⟩
  simp only[i0,Bool.false_eq_true,if_false,j1,j2,decide_true,if_true,hg,HH,A0g.rng]
  rw[A1a _ (by omega) (by omega)]
  simp only[A0g.B5h,A1.l,HH,A0c.A4q,C8c,j3,e2,decide_true,A0c.rng,D8p,A0c.B7f]
  rfl
structure Tr where
 b:Bool
 n:Int
 o:Option A0a
 ss:A0g
 po:A0c
 S:WS
def atA(t:List Aim)(i:Int):Aim:=t.getD i.toNat ⟨0,0,0,0,0⟩
def A2a(n:Int)(o:Option A0a)(ss:A0g)(po:A0c)(S:WS):Tr:=match o with
 |none=>⟨false,n,none,ss,po,S⟩
 |some P=>if P.pc≥14 then⟨false,n,some P,ss,po,S⟩else⟨true,n,some (A2s P S).1,ss,po,(A2s P S).2⟩
def E1j(ai:Aim):Option Int→Aim
 |none=>ai
 |some v=>{ai with y:=v}
def A1p(pr:PrS)(o:Option A0a)(ss:A0g)(po:A0c)(S:WS):Tr:=
 if A7z o=true∧pr.n<pr.A5i.length then
  (if(atA pr.A5i pr.n).way=1 then A2a (pr.n+1) (some (A0a.new (E1j (atA pr.A5i pr.n) (takeN ss po).1))) (takeN ss po).2.1 (takeN ss po).2.2 S
  else A2a (pr.n+1) (some (A0a.new (atA pr.A5i pr.n))) ss po S)
 else A2a pr.n o ss po S
section
variable{L:List D}{a s z l w m k q:Nat}{pr:PrS}{se:A0j}{ss:A0g}{po:A0c}{S:WS}{o:Option A0a}(A:InA L a s z l w m k pr se ss po S)(h:S.ok)(hp:PP L q pr.p o)
include A h hp
theorem F0f:FX 56 [pr.p,.agg L]=some [.bool (A7z o)]:=by
 cases o with
 |none=>
  dsimp only[PP]at hp
  rw[hp,B2z]
  simp only[HH];rfl
 |some P=>
  obtain⟨e1,e2⟩:=hp
  rw[e1,D5v A.H.W e2];rfl
theorem F7p(ho:∀P,o=some P→P.ok)(hl:S.log.length≤1000000000)(x2:D):
  ∃L',A4g (.int (a:Nat)) (.int (w:Nat)) x2 [.agg L]=some [.bool (A2a pr.n o ss po S).b,.agg L']∧
   InA L' a s z l w m k pr se ss po (A2a pr.n o ss po S).S∧PP L' q pr.p (A2a pr.n o ss po S).o∧FrA L L' a q s z l w m:=by
 have n1:=F0f A h hp
 rw[C1c]
 simp only[HH,A.H.a,PrS.D5e,n1]
 cases o with
 |none=>
  simp only[A7z,if_true]
  exact⟨L,rfl,A,hp,Fr.refl _ _⟩
 |some P=>
  obtain⟨e1,e2⟩:=hp
  unfold A2a
  by_cases c0:P.pc≥14
  ·have i0:A7z (some P)=true:=by simp only[A7z,c0,decide_true]
   simp only[i0,if_true,if_pos c0]
   exact⟨L,rfl,A,⟨e1,e2⟩,Fr.refl _ _⟩
  ·have i0:A7z (some P)=false:=by simp only[A7z,c0,decide_false]
   obtain⟨L1,n2,d1,d2,d3⟩:=F2p A.H.W e2 h (ho P rfl) hl
   simp only[i0,Bool.false_eq_true,if_false,if_neg c0,e1,n2,HH]
   have hq:q≠a∧q≠s∧q≠z∧q≠l:=⟨A3f e2 A.H.a (by rw[A0a.len,PrS.len];decide),A3f e2 A.H.s (by rw[A0a.len,A0j.len];decide),A3f e2 A.z (by rw[A0a.len,A0g.len];decide),A3f e2 A.l (by rw[A0a.len,A0c.len];decide)⟩
   obtain⟨q1,q2,q3,q4⟩:=hq
   obtain⟨f1,f2,f3,f4,f5,f6,f7⟩:=A.H.far
   obtain⟨g1,g2,g3,g4,g5,g6⟩:=A.fz
   obtain⟨k1,k2,k3,k4,k5⟩:=A.fl
   refine⟨L1,rfl,⟨⟨d1,d3.get A.H.a ?_,d3.get A.H.s ?_⟩,d3.get A.z ?_,d3.get A.l ?_⟩,⟨rfl,d2⟩,d3.mono fun b hb=>?_⟩
   ·simp only[Ne.symm q1,f1,f2,or_self,not_false_iff]
   ·simp only[Ne.symm q2,f4,f5,or_self,not_false_iff]
   ·simp only[Ne.symm q3,g3,g4,or_self,not_false_iff]
   ·simp only[Ne.symm q4,k3,k4,or_self,not_false_iff]
   ·unfold Own
    rcases hb with hb|hb|hb
    ·exact .inr (.inl hb)
    ·exact .inr (.inr (.inr (.inr (.inr (.inl hb)))))
    ·exact .inr (.inr (.inr (.inr (.inr (.inr hb)))))
end
end
section
set_option linter.unusedSectionVars false
theorem F2o(ai:Aim)(L:List D):FX 57 [.int ai.way,.int ai.x,.int ai.gen,.int ai.y,.int ai.A3s,.agg L]=some [.int (L.length:Nat),.agg (L++[D.agg (A0a.new ai).ds])]:=by
 rw[F1w]
 simp only[D.A0f]
 rfl
theorem PP.ext{L L':List D}{q:Nat}{ptr:D}{o:Option A0a}(hp:PP L q ptr o)(he:∀P,o=some P→L'.getD q D.nil=L.getD q D.nil):PP L' q ptr o:=by
 cases o with
 |none=>exact hp
 |some P=>exact⟨hp.1,by rw[he P rfl];exact hp.2⟩
section
variable{L:List D}{a s z l w m k q:Nat}{pr:PrS}{se:A0j}{ss:A0g}{po:A0c}{S:WS}{o:Option A0a}(A:InA L a s z l w m k pr se ss po S)(h:S.ok)
include A h
theorem F6v(ai:Aim)(hl:S.log.length≤1000000000)(hn:In (pr.n+1))(x0 x2 x3 x4 y2:D):
  ∃L' q',A4f (.int (a:Nat)) x0 x2 x3 x4 (A4g (.int (a:Nat)) (.int (w:Nat)) y2) [.int ai.way,.int ai.x,.int ai.gen,.int ai.y,.int ai.A3s,.agg L]=some [.bool (A2a (pr.n+1) (some (A0a.new ai)) ss po S).b,.agg L']∧
   InA L' a s z l w m k {pr with p:=.int (q':Nat),n:=pr.n+1} se ss po (A2a (pr.n+1) (some (A0a.new ai)) ss po S).S∧PP L' q' (.int (q':Nat)) (A2a (pr.n+1) (some (A0a.new ai)) ss po S).o∧
   Fr L L' (Own a q' s z l w m)∧L.length≤q':=by
 have A1:=A.snoc (D.agg (A0a.new ai).ds)
 obtain⟨p1,hp1⟩:∃p1:PrS,p1={pr with p:=.int (L.length:Nat),n:=pr.n+1}:=⟨_,rfl⟩
 have H2:=A1.H.A7v p1
 have A2:InA ((L++[D.agg (A0a.new ai).ds]).set a (.agg p1.ds)) a s z l w m k p1 se ss po S:=A1.step H2 (A5e _)
 have hne:a≠L.length:=by have:=A2h A.H.a;omega
 have hpp:PP ((L++[D.agg (A0a.new ai).ds]).set a (.agg p1.ds)) L.length p1.p (some (A0a.new ai)):=by
  rw[hp1]
  exact⟨rfl,by rw[A3j hne];exact A6i L _⟩
 obtain⟨L',n1,A3,hp3,F3⟩:=F7p A2 h hpp (fun P e=>by cases e;exact A0a.B9l ai) hl y2
 have hn1:p1.n=pr.n+1:=by rw[hp1]
 have hpt:p1.p=.int (L.length:Nat):=by rw[hp1]
 rw[hn1]at n1 A3 hp3
 rw[hpt]at hp3
 refine⟨L',L.length,?_,by rw[hp1]at A3;exact A3,hp3,?_,Nat.le_refl _⟩
 ·rw[C0s,F2o]
  have hset:∀x:PrS,x.ds.set 19 (.int (L.length:Nat))=PrS.ds {x with p:=.int (L.length:Nat)}:=fun _=>rfl
  simp only[HH,A1.H.a,PrS.rng,hset,PrS.C9s,hn.w,PrS.E1z,←hp1]
  exact n1
 ·have F1:Fr L (L++[D.agg (A0a.new ai).ds]) (Own a L.length s z l w m):=Fr.snoc L _ _
  exact(F1.trans (Fr.set _ a _ (.inl rfl))).trans F3
theorem H2f{i:Int}(h0:0≤i)(h1:i<pr.A5i.length):(pr.A5i.map Aim.d).getD i.toNat D.nil=.agg (atA pr.A5i i).ds:=by
 have hh:i.toNat<pr.A5i.length:=by omega
 unfold atA
 rw[List.getD_eq_getElem?_getD,List.getElem?_map,List.getElem?_eq_getElem hh,List.getD_eq_getElem?_getD,List.getElem?_eq_getElem hh];rfl
theorem H0s(hp:PP L q pr.p o)(hd:pr.draw=A4m z l)(ho:∀P,o=some P→P.ok)(hl:S.log.length≤1000000000)(hn:0≤pr.n∧pr.n≤100000)(ht:B0h ss po):
  ∃L' q' ptr,FX 87 [.int (a:Nat),.int (w:Nat),.agg L]=some [.bool (A1p pr o ss po S).b,.agg L']∧
   InA L' a s z l w m k {pr with p:=ptr,n:=(A1p pr o ss po S).n} se (A1p pr o ss po S).ss (A1p pr o ss po S).po (A1p pr o ss po S).S∧PP L' q' ptr (A1p pr o ss po S).o∧
   FrA L L' a q s z l w m∧(q'=q∨L.length≤q'):=by
 have n1:=F0f A h hp
 have hin:In (pr.n+1):=In.lit (by omega)
 have hlen:(pr.A5i.map Aim.d).length=pr.A5i.length:=List.length_map ..
 have hJ:∀J:List D→Option (List D),(if A7z o=true then J [.agg L,.bool (decide (pr.n<(pr.A5i.length:Int)))]else J [.agg L,.bool false])=J [.agg L,.bool (decide (A7z o=true∧pr.n<(pr.A5i.length:Int)))]:=by
  intro J
  cases A7z o<;>simp
 rw[C9y]
 simp only[HH,A.H.a,PrS.D5e,PrS.C9s,PrS.D0u,n1,hlen]
 rw[hJ,C1n]
 simp only[HH,A.H.a,PrS.C9s,PrS.D0u,PrS.H3w,hlen]
 unfold A1p
 by_cases c0:A7z o=true∧pr.n<(pr.A5i.length:Int)
 ·obtain⟨c1,c2⟩:=c0
  have j0:pr.n≥0:=hn.1
  have g1:=H2f A h hn.1 c2
  generalize atA pr.A5i pr.n=ai at*
  have e1:∀x y:D,(D.iface 53 (.agg [x,y])).isIf 53=true:=fun _ _=>by simp[D.isIf]
  have e2:∀x:D,(D.iface 83 x).isIf 83=true:=fun _=>by simp[D.isIf]
  have e3:∀x:D,(D.iface 25 x).isIf 25=true:=fun _=>by simp[D.isIf]
  have e4:∀(t:Nat) (x:D),(D.iface t x).inner=x:=fun _ _=>rfl
  rw[if_pos (⟨c1,c2⟩:A7z o=true∧pr.n<(pr.A5i.length:Int))]
  simp only[c1,c2,and_self,decide_true,if_true,j0,g1,HH,Aim.len,Aim.A1l,Aim.A1j,Aim.A1v,Aim.A2b,Aim.A1w]
  by_cases c3:ai.way=1
  ·have i3:(ai.way == 1)=true:=beq_iff_eq.2 c3
   rw[if_pos c3]
   obtain⟨L1,n2,A1,F1⟩:=G8d A ht
   have e5:((((0:Nat)+1+1:Nat):Int) == 2)=true:=rfl
   have F1':FrA L L1 a q s z l w m:=F1.mono fun b hb=>by
    unfold Own
    rcases hb with hb|hb
    ·exact .inr (.inr (.inr (.inl hb)))
    ·exact .inr (.inr (.inr (.inr (.inl hb))))
   simp only[i3,if_true,hd,A4m,e1,e2,e3,e4,e5,HH,C7y,n2]
   have fin:∀v:Aim,∃L' q' ptr,A4f (.int (a:Nat)) (.int (w:Nat)) (.agg L) (.agg L) (.bool true) (A4g (.int (a:Nat)) (.int (w:Nat)) (.agg L)) [.int v.way,.int v.x,.int v.gen,.int v.y,.int v.A3s,.agg L1]=some [.bool (A2a (pr.n+1) (some (A0a.new v)) (takeN ss po).2.1 (takeN ss po).2.2 S).b,.agg L']∧
     InA L' a s z l w m k {pr with p:=ptr,n:=(A2a (pr.n+1) (some (A0a.new v)) (takeN ss po).2.1 (takeN ss po).2.2 S).n} se (A2a (pr.n+1) (some (A0a.new v)) (takeN ss po).2.1 (takeN ss po).2.2 S).ss (A2a (pr.n+1) (some (A0a.new v)) (takeN ss po).2.1 (takeN ss po).2.2 S).po (A2a (pr.n+1) (some (A0a.new v)) (takeN ss po).2.1 (takeN ss po).2.2 S).S∧
     PP L' q' ptr (A2a (pr.n+1) (some (A0a.new v)) (takeN ss po).2.1 (takeN ss po).2.2 S).o∧FrA L L' a q s z l w m∧(q'=q∨L.length≤q'):=by
    intro v
    obtain⟨L2,q2,n3,A2,P2,F2,hq2⟩:=F6v A1 h v hl hin (.int (w:Nat)) (.agg L) (.agg L) (.bool true) (.agg L)
    refine⟨L2,q2,.int (q2:Nat),n3,?_,P2,?_,.inr (Nat.le_trans F1.1 hq2)⟩
    ·have hr:(A2a (pr.n+1) (some (A0a.new v)) (takeN ss po).2.1 (takeN ss po).2.2 S).n=pr.n+1∧(A2a (pr.n+1) (some (A0a.new v)) (takeN ss po).2.1 (takeN ss po).2.2 S).ss=(takeN ss po).2.1∧(A2a (pr.n+1) (some (A0a.new v)) (takeN ss po).2.1 (takeN ss po).2.2 S).po=(takeN ss po).2.2:=by
      unfold A2a
      dsimp only
      split<;>exact⟨rfl,rfl,rfl⟩
     rw[hr.1,hr.2.1,hr.2.2]
     exact A2
    ·refine F1'.trans ⟨F2.1,fun b hb hn=>F2.2 b hb fun ho=>hn ?_⟩
     unfold Own at ho⊢
     rcases ho with ho|ho|ho
     ·exact .inl ho
     ·omega
     ·exact .inr (.inr ho)
   simp only[hd,A4m]at fin
   cases hv:(takeN ss po).1 with
   |none=>
    simp only[Option.isSome_none,Bool.false_eq_true,if_false,E1j]
    exact fin ai
   |some v=>
    simp only[Option.isSome_some,if_true,E1j,Option.getD_some]
    exact fin {ai with y:=v}
  ·have i3:(ai.way == 1)=false:=beq_eq_false_iff_ne.2 c3
   rw[if_neg c3]
   simp only[i3,Bool.false_eq_true,if_false]
   obtain⟨L2,q2,n3,A2,P2,F2,hq2⟩:=F6v A h ai hl hin (.int (w:Nat)) (.agg L) (.agg L) (.bool true) (.agg L)
   refine⟨L2,q2,.int (q2:Nat),n3,?_,P2,?_,.inr hq2⟩
   ·have hr:(A2a (pr.n+1) (some (A0a.new ai)) ss po S).n=pr.n+1∧(A2a (pr.n+1) (some (A0a.new ai)) ss po S).ss=ss∧(A2a (pr.n+1) (some (A0a.new ai)) ss po S).po=po:=by
     unfold A2a
     dsimp only
     split<;>exact⟨rfl,rfl,rfl⟩
    rw[hr.1,hr.2.1,hr.2.2]
    exact A2
   ·refine⟨F2.1,fun b hb hn=>F2.2 b hb fun ho=>hn ?_⟩
    unfold Own at ho⊢
    rcases ho with ho|ho|ho
    ·exact .inl ho
    ·omega
    ·exact .inr (.inr ho)
 ·rw[if_neg c0]
  simp only[c0,decide_false,Bool.false_eq_true,if_false]
  obtain⟨L',n2,A2,P2,F2⟩:=F7p A h hp ho hl (.agg L)
  have hr:(A2a pr.n o ss po S).n=pr.n∧(A2a pr.n o ss po S).ss=ss∧(A2a pr.n o ss po S).po=po:=by
   unfold A2a
   cases o with
   |none=>exact⟨rfl,rfl,rfl⟩
   |some P=>dsimp only;split<;>exact⟨rfl,rfl,rfl⟩
  refine⟨L',q,pr.p,n2,?_,P2,F2,.inl rfl⟩
  rw[hr.1,hr.2.1,hr.2.2]
  exact A2
end
end
section
set_option linter.unusedSectionVars false
theorem B0b{α:Type}{x:α}{p:Prop}(h:some x=none):p:=by cases h
def PrS.at(pr:PrS)(p d:D):PrS:={pr with p:=p,draw:=d}
def Stp.at(x:Stp)(p d:D):Stp:={x with pr:=x.pr.at p d}
theorem G4u(x:Int)(pr:PrS)(se:A0j)(S:WS)(p d:D):A1u x (pr.at p d) se S=(A1u x pr se S).at p d:=by
 unfold A1u
 simp only[apply_ite (fun z=>Stp.at z p d)]
 rfl
theorem G6j(x:Int)(pr:PrS)(S:WS)(p d:D):A1n x (pr.at p d) S=((A1n x pr S).1,(A1n x pr S).2.1.at p d,(A1n x pr S).2.2):=by
 unfold A1n
 simp only[apply_ite (fun z:Bool × PrS × WS=>(z.1,z.2.1.at p d,z.2.2))]
 rfl
theorem G7e(x:Int)(pr:PrS)(se:A0j)(S:WS)(p d:D):A3h x (pr.at p d) se S=((A3h x pr se S).1.at p d,(A3h x pr se S).2):=by
 unfold A3h
 simp only[apply_ite (fun z:PrS × WS=>(z.1.at p d,z.2))]
 rfl
theorem F9s(x:Int)(pr:PrS)(se:A0j)(S:WS)(p d:D):A1m x (pr.at p d) se S=(A1m x pr se S).at p d:=by
 unfold A1m
 rw[G7e]
 simp only[apply_ite (fun z=>Stp.at z p d)]
 have e:(if(pr.at p d).done=0 then {pr.at p d with word:=S.word x,st:=A0l (S.word x)} else pr.at p d)=(if pr.done=0 then {pr with word:=S.word x,st:=A0l (S.word x)} else pr).at p d:=by
  rw[apply_ite (fun z=>PrS.at z p d)];rfl
 rw[e]
 rfl
theorem G8t(x:Int)(pr:PrS)(se:A0j)(S:WS)(p d:D):A2m x (pr.at p d) se S=(A2m x pr se S).at p d:=by
 unfold A2m
 simp only[apply_ite (fun z=>Stp.at z p d)]
 rfl
theorem G6d(pr:PrS)(se:A0j)(S:WS)(p d:D):A2j (pr.at p d) se S=(A2j pr se S).at p d:=by
 unfold A2j
 simp only[apply_ite (fun z=>Stp.at z p d)]
 rfl
theorem H1c(pr:PrS)(o:Option A0a)(ss:A0g)(po:A0c)(S:WS)(p d:D):A1p (pr.at p d) o ss po S=A1p pr o ss po S:=rfl
theorem F2t(pr:PrS)(S:WS)(c:Int)(p d:D):codeF (pr.at p d) S c=codeF pr S c:=rfl
structure StA where
 r:Option Rep
 pr:PrS
 o:Option A0a
 se:A0j
 ss:A0g
 po:A0c
 S:WS
def Stp.on(x:Stp)(o:Option A0a)(ss:A0g)(po:A0c):StA:=⟨x.r,x.pr,o,x.se,ss,po,x.S⟩
def B1t(x:Int)(pr:PrS)(se:A0j)(T:Tr):StA:=
 if T.b then⟨none,{pr with n:=T.n},T.o,se,T.ss,T.po,T.S⟩
 else if(A1n x {pr with n:=T.n} T.S).1 then⟨none,(A1n x {pr with n:=T.n} T.S).2.1,T.o,se,T.ss,T.po,(A1n x {pr with n:=T.n} T.S).2.2⟩
 else⟨some (codeF pr (A1n x {pr with n:=T.n} T.S).2.2 0),(A1n x {pr with n:=T.n} T.S).2.1,T.o,se,T.ss,T.po,(A1n x {pr with n:=T.n} T.S).2.2⟩
def A9c(x:Int)(pr:PrS)(o:Option A0a)(se:A0j)(ss:A0g)(po:A0c)(S:WS):StA:=
 if pr.pc<4 then(A1u x pr se S).on o ss po else B1t x pr se (A1p pr o ss po S)
def A2z(pr:PrS)(o:Option A0a)(se:A0j)(ss:A0g)(po:A0c)(S:WS):StA:=
 if pr.a.kind=1 then A9c (A0r S.c se.part pr.a.cell) pr o se ss po S
 else if pr.a.kind=2 then(A1m (A0r S.c se.part pr.a.cell) pr se S).on o ss po
 else if pr.a.kind=3 then(A2m (A0r S.c se.part pr.a.cell) pr se S).on o ss po
 else if pr.a.kind=4 then(A2j pr se S).on o ss po
 else⟨some (codeF pr S 6),pr,o,se,ss,po,S⟩
structure A4k(pr:PrS)(o:Option A0a)(se:A0j)(S:WS):Prop where
 word:pr.word<18446744073709551616
 st:pr.st.wf
 tm:pr.a.tm.wf
 at_:In pr.at_
 done:0≤pr.done∧pr.done≤3
 tries:0≤pr.tries∧pr.tries≤1000
 pc:0≤pr.pc∧pr.pc≤8
 n:0≤pr.n∧pr.n≤100
 A5i:pr.A5i.length≤100
 looks:(pr.looks.length:Int)≤pr.pc
 cell:pr.pc≠0→pr.a.kind=1∨pr.a.kind=2→0≤A0r S.c se.part pr.a.cell
 r0:pr.r0.k=1→(A6g se pr.a.cell).n<S.c.c5
 r1:pr.r1.D5o=true→(A6g se pr.a.cell).gen≤S.c.c6
 o:∀P,o=some P→P.ok
structure B6e(se:A0j)(c:Cf):Prop where
 ids:(se.ids.length:Int)=c.c1
 A6k:(se.A6k.length:Int)=c.c1
 A7i:(se.A7i.length:Int)=c.c1
 cur:∀x ∈ se.A7i,(0≤x.gen∧x.gen≤c.c6+1)∧0≤x.n∧x.n≤c.c5
theorem B6e.at_{se:A0j}{c:Cf}(h:B6e se c)(i:Int)(hc:c.ok):(0≤(A6g se i).gen∧(A6g se i).gen≤c.c6+1)∧0≤(A6g se i).n∧(A6g se i).n≤c.c5:=by
 have h1:=A8z hc
 have h2:=C3p hc
 unfold A6g
 rw[List.getD_eq_getElem?_getD]
 rcases Nat.lt_or_ge i.toNat se.A7i.length with hi|hi
 ·rw[List.getElem?_eq_getElem hi];exact h.cur _ (List.getElem_mem hi)
 ·rw[List.getElem?_eq_none hi];dsimp only[Option.getD_none];omega
structure InB(L:List D)(s z l w m k:Nat)(se:A0j)(ss:A0g)(po:A0c)(S:WS):Prop where
 W:InW L w m k S
 s:L.getD s D.nil=.agg se.ds
 z:L.getD z D.nil=.agg ss.ds
 l:L.getD l D.nil=.agg po.ds
theorem InA.B{L:List D}{a s z l w m k:Nat}{pr:PrS}{se:A0j}{ss:A0g}{po:A0c}{S:WS}(A:InA L a s z l w m k pr se ss po S):InB L s z l w m k se ss po S:=⟨A.H.W,A.H.s,A.z,A.l⟩
theorem B9s(r:Option Rep)(L:List D):(A0b (some (A5s r L)) 15 fun r4=>some [(r4.getD 0 D.nil),(r4.getD 1 D.nil),(r4.getD 2 D.nil),(r4.getD 3 D.nil),(r4.getD 4 D.nil),(r4.getD 5 D.nil),(r4.getD 6 D.nil),(r4.getD 7 D.nil),(r4.getD 8 D.nil),(r4.getD 9 D.nil),(r4.getD 10 D.nil),(r4.getD 11 D.nil),(r4.getD 12 D.nil),(r4.getD 13 D.nil),(r4.getD 14 D.nil)])=some (A5s r L):=by
 cases r<;>rfl
theorem G3l{pr:PrS}{o:Option A0a}{ss:A0g}{po:A0c}{S:WS}(h:S.ok)(ho:∀P,o=some P→P.ok):(A1p pr o ss po S).S.ok∧(A1p pr o ss po S).S.c=S.c∧((A1p pr o ss po S).b=false→(A1p pr o ss po S).S=S):=by
 have key:∀(n:Int) (o:Option A0a) (ss:A0g) (po:A0c),(∀P,o=some P→P.ok)→(A2a n o ss po S).S.ok∧(A2a n o ss po S).S.c=S.c∧((A2a n o ss po S).b=false→(A2a n o ss po S).S=S):=by
  intro n o ss po ho
  unfold A2a
  cases o with
  |none=>exact⟨h,rfl,fun _=>rfl⟩
  |some P=>
   dsimp only
   split
   ·exact⟨h,rfl,fun _=>rfl⟩
   ·have kk:=C7z h (ho P rfl)
    exact⟨kk.s,kk.c,fun hh=>nomatch hh⟩
 unfold A1p
 split
 ·split
  ·exact key _ _ _ _ fun P e=>by cases e;exact A0a.B9l _
  ·exact key _ _ _ _ fun P e=>by cases e;exact A0a.B9l _
 ·exact key _ _ _ _ ho
theorem G7n{S:WS}(h:S.ok)(x:Int)(pr:PrS):(A1n x pr S).2.2.ok:=by
 obtain⟨o1,_⟩:=S.B0a h x pr.word (A2v pr.st).2
 unfold A1n
 split
 ·exact h
 split
 ·exact h
 split
 ·exact h
 split
 ·exact h
 split
 ·exact h
 split
 ·exact WS.C1y o1 _
 ·exact h
theorem H1d(x:Int)(pr:PrS)(S:WS):(A1n x pr S).2.1.a=pr.a:=by
 unfold A1n
 split
 ·rfl
 split
 ·rfl
 split
 ·rfl
 split
 ·rfl
 split
 ·rfl
 split<;>rfl
section
variable{L:List D}{a s z l w m k q:Nat}{ptr:D}{pr:PrS}{se:A0j}{ss:A0g}{po:A0c}{S:WS}{o:Option A0a}
 (A:InA L a s z l w m k (pr.at ptr (A4m z l)) se ss po S) (hp:PP L q ptr o) (h:S.ok) (hk:A4k pr o se S) (hse:B6e se S.c) (hl:S.log.length≤1000000000) (ht:B0h ss po)
def G6r(L L':List D)(a q s z l w m k:Nat)(q':Nat)(ptr':D)(R:StA):Prop:=
 InB L' s z l w m k R.se R.ss R.po R.S∧(R.r=none→L'.getD a D.nil=.agg (R.pr.at ptr' (A4m z l)).ds∧PP L' q' ptr' R.o)∧FrA L L' a q s z l w m∧(q'=q∨L.length≤q')
include A hp
theorem E2a{L1:List D}{X:Stp}(H1:Hs L1 a s w m k (X.at ptr (A4m z l)).pr (X.at ptr (A4m z l)).se (X.at ptr (A4m z l)).S)(G:FrS L L1 a s w m):G6r L L1 a q s z l w m k q ptr (X.on o ss po):=by
 have A1:=A.step H1 G
 refine⟨A1.B,fun _=>⟨H1.a,hp.ext fun P hP=>?_⟩,.ofS G,.inl rfl⟩
 subst hP
 obtain⟨_,e2⟩:=hp
 obtain⟨d1,d2,d3⟩:=A.H.W.far e2 (by rw[A0a.len];decide) (by rw[A0a.len];decide) (by rw[A0a.len];decide)
 have d4:=A3f e2 A.H.a (by rw[A0a.len,PrS.len];decide)
 have d5:=A3f e2 A.H.s (by rw[A0a.len,A0j.len];decide)
 exact G.2 q (A2h e2) (by simp only[d1,d2,d4,d5,or_self,not_false_iff])
include h hk hse hl ht
theorem G0i(hkd:pr.a.kind=1):∃L' q' ptr',FX 65 [.int (a:Nat),.int (w:Nat),.int (s:Nat),.agg L]=some (A5s (A9c (A0r S.c se.part pr.a.cell) pr o se ss po S).r L')∧G6r L L' a q s z l w m k q' ptr' (A9c (A0r S.c se.part pr.a.cell) pr o se ss po S):=by
 have n0:=E2r h se.part pr.a.cell
 have hx:=E5b h.c se.part pr.a.cell
 have hcb:0≤A0r S.c se.part pr.a.cell→0≤pr.a.cell∧pr.a.cell<S.c.c1:=fun hh=>(D1w S.c hh).2.1
 have hcell:=hk.cell
 have i1:=hse.ids
 have i2:=hse.A6k
 rw[C3y]
 simp only[HH,A.H.a,A.H.s,A.H.W.w,A0h.all,PrS.A1v,PrS.A5u,A0j.A1l]
 have e0:(pr.at ptr (A4m z l)).a.cell=pr.a.cell:=rfl
 have e1:(pr.at ptr (A4m z l)).pc=pr.pc:=rfl
 rw[e0,e1,n0]
 simp only[HH]
 generalize hxx:A0r S.c se.part pr.a.cell=x at*
 unfold A9c
 by_cases c0:pr.pc<4
 ·rw[if_pos c0]
  simp only[c0,decide_true,if_true]
  have hb:=G2b A.H h (In.lit (by have:=hk.pc;rw[e1];omega)) hl x hx hk.st hk.tm (fun e3=>by
   rw[e1]at e3
   have h1:=hcell (by omega) (.inl hkd)
   have h2:=hcb (by omega)
   rw[e0]
   omega)
  rw[G4u]at hb
  obtain⟨L1,n1,H1,G1⟩:=hb
  have hr:((A1u x pr se S).at ptr (A4m z l)).r=(A1u x pr se S).r:=rfl
  rw[hr]at n1
  rw[n1,B9s]
  exact⟨L1,q,ptr,rfl,E2a A hp H1 G1⟩
 ·rw[if_neg c0]
  simp only[c0,decide_false,Bool.false_eq_true,if_false]
  have htr:=H0s (pr:=pr.at ptr (A4m z l)) A h hp rfl hk.o hl (by have:=hk.n;exact⟨this.1,Int.le_trans this.2 (by decide)⟩) ht
  rw[H1c]at htr
  obtain⟨L1,q1,p1,n1,A1,P1,F1,hq1⟩:=htr
  have hT:(A1p pr o ss po S).S.ok∧(A1p pr o ss po S).S.c=S.c∧((A1p pr o ss po S).b=false→(A1p pr o ss po S).S=S):=G3l h hk.o
  generalize A1p pr o ss po S=T at*
  obtain⟨t1,t2,t3⟩:=hT
  rw[n1]
  simp only[HH]
  unfold B1t
  by_cases c1:T.b=true
  ·rw[if_pos c1]
   simp only[c1,if_true]
   exact⟨L1,q1,p1,rfl,A1.B,fun _=>⟨A1.H.a,P1⟩,F1,hq1⟩
  ·rw[if_neg c1]
   have c1':T.b=false:=by simpa using c1
   have t4:=t3 c1'
   have hre:=G8o (pr:=PrS.at {pr with n:=T.n} p1 (A4m z l)) A1.H t1 (by rw[t4];exact hl) x hx hk.st hk.word hk.tries
   rw[G6j]at hre
   obtain⟨L2,n2,H2,G2⟩:=hre
   have hq2:PP L2 q1 p1 T.o:=by
    refine P1.ext fun P hP=>?_
    rw[hP]at P1
    obtain⟨_,e2⟩:=P1
    obtain⟨d1,d2,d3⟩:=A1.H.W.far e2 (by rw[A0a.len];decide) (by rw[A0a.len];decide) (by rw[A0a.len];decide)
    have d4:=A3f e2 A1.H.a (by rw[A0a.len,PrS.len];decide)
    have d5:=A3f e2 A1.H.s (by rw[A0a.len,A0j.len];decide)
    exact G2.2 q1 (A2h e2) (by simp only[d1,d2,d4,d5,or_self,not_false_iff])
   have A2:=A1.step H2 G2
   have F2:FrA L L2 a q s z l w m:=F1.trans (FrA.ofS G2)
   have cR:=F2t (A1n x {pr with n:=T.n} T.S).2.1 (A1n x {pr with n:=T.n} T.S).2.2 0 p1 (A4m z l)
   have okR:(A1n x {pr with n:=T.n} T.S).2.2.ok:=G7n t1 _ _
   have aR:(A1n x {pr with n:=T.n} T.S).2.1.a=pr.a:=H1d _ _ _
   simp only[c1',Bool.false_eq_true,if_false,n2,HH]
   generalize A1n x {pr with n:=T.n} T.S=R at*
   by_cases c2:R.1=true
   ·rw[if_pos c2]
    simp only[c2,if_true]
    exact⟨L2,q1,p1,rfl,A2.B,fun _=>⟨H2.a,hq2⟩,F2,hq1⟩
   ·rw[if_neg c2]
    have c2':R.1=false:=by simpa using c2
    have hcd:=B3p H2 okR 0
    have eC:codeF pr R.2.2 0=codeF R.2.1 R.2.2 0:=by unfold codeF;rw[aR]
    simp only[c2',Bool.false_eq_true,if_false,hcd,C2c,cR,eC]
    exact⟨L2,q1,p1,rfl,A2.B,fun hh=>B0b hh,F2,hq1⟩
theorem G3a:∃L' q' ptr',FX 55 [.int (a:Nat),.int (w:Nat),.int (s:Nat),.agg L]=some (A5s (A2z pr o se ss po S).r L')∧G6r L L' a q s z l w m k q' ptr' (A2z pr o se ss po S):=by
 have hcb:0≤A0r S.c se.part pr.a.cell→0≤pr.a.cell∧pr.a.cell<S.c.c1:=fun hh=>(D1w S.c hh).2.1
 have hcell:=hk.cell
 have i1:=hse.ids
 have i2:=hse.A6k
 have i3:=hse.A7i
 have e0:(pr.at ptr (A4m z l)).a=pr.a:=rfl
 have e1:(pr.at ptr (A4m z l)).pc=pr.pc:=rfl
 have hpc:In ((pr.at ptr (A4m z l)).pc+1):=In.lit (by have:=hk.pc;rw[e1];omega)
 rw[C6o]
 simp only[HH,A.H.a,PrS.A1l]
 rw[e0]
 unfold A2z
 by_cases c1:pr.a.kind=1
 ·have j1:(pr.a.kind == 1)=true:=beq_iff_eq.2 c1
  rw[if_pos c1]
  obtain⟨L1,q1,p1,n1,d1⟩:=G0i A hp h hk hse hl ht c1
  simp only[j1,if_true,n1,B9s]
  exact⟨L1,q1,p1,rfl,d1⟩
 have j1:(pr.a.kind == 1)=false:=beq_eq_false_iff_ne.2 c1
 rw[if_neg c1]
 simp only[j1,Bool.false_eq_true,if_false]
 by_cases c2:pr.a.kind=2
 ·have j2:(pr.a.kind == 2)=true:=beq_iff_eq.2 c2
  rw[if_pos c2]
  have hb:=F8z A.H h hpc hl hk.st hk.word hk.at_ hk.done (fun e3=>by
   have h1:=hcell e3 (.inr c2)
   have h2:=hcb h1
   rw[e0]
   omega)
  rw[e0,F9s]at hb
  obtain⟨L1,n1,H1,G1⟩:=hb
  have hr:((A1m (A0r S.c se.part pr.a.cell) pr se S).at ptr (A4m z l)).r=(A1m (A0r S.c se.part pr.a.cell) pr se S).r:=rfl
  rw[hr]at n1
  simp only[j2,if_true,n1,B9s]
  exact⟨L1,q,ptr,rfl,E2a A hp H1 G1⟩
 have j2:(pr.a.kind == 2)=false:=beq_eq_false_iff_ne.2 c2
 rw[if_neg c2]
 simp only[j2,Bool.false_eq_true,if_false]
 by_cases c3:pr.a.kind=3
 ·have j3:(pr.a.kind == 3)=true:=beq_iff_eq.2 c3
  rw[if_pos c3]
  have hcu:=hse.at_ pr.a.cell h.c
  have hf:=A8z h.c
  have hg:=C3p h.c
  have hb:=G9d A.H h hpc (fun e3=>by rw[e0];rw[e0]at e3;have:=hcb e3;omega) (In.lit (by rw[e0];omega)) (In.lit (by rw[e0];omega))
  rw[e0,G8t]at hb
  obtain⟨L1,n1,H1,G1⟩:=hb
  have hr:((A2m (A0r S.c se.part pr.a.cell) pr se S).at ptr (A4m z l)).r=(A2m (A0r S.c se.part pr.a.cell) pr se S).r:=rfl
  rw[hr]at n1
  simp only[j3,if_true,n1,B9s]
  exact⟨L1,q,ptr,rfl,E2a A hp H1 G1⟩
 have j3:(pr.a.kind == 3)=false:=beq_eq_false_iff_ne.2 c3
 rw[if_neg c3]
 simp only[j3,Bool.false_eq_true,if_false]
 by_cases c4:pr.a.kind=4
 ·have j4:(pr.a.kind == 4)=true:=beq_iff_eq.2 c4
  rw[if_pos c4]
  have hlk:=hk.looks
  have hpc0:=hk.pc
  have hb:=G8h A.H h hpc (by show pr.looks.length≤1000;omega) hpc0.1
  rw[G6d]at hb
  obtain⟨L1,n1,H1,W1,s1,G1⟩:=hb
  have hr:((A2j pr se S).at ptr (A4m z l)).r=(A2j pr se S).r:=rfl
  rw[hr]at n1 H1
  simp only[j4,if_true,n1,B9s]
  have vS:(A2j pr se S).S=S∧(A2j pr se S).se=se:=by
   unfold A2j
   split
   ·exact⟨rfl,rfl⟩
   ·split<;>exact⟨rfl,rfl⟩
  obtain⟨h1,h2,h3,h4,h5,h6⟩:=A.fz
  obtain⟨g1,g2,g3,g4,g5⟩:=A.fl
  refine⟨L1,q,ptr,rfl,?_,fun hh=>?_,.ofS G1,.inl rfl⟩
  ·show InB L1 s z l w m k (A2j pr se S).se ss po (A2j pr se S).S
   rw[vS.1,vS.2]
   exact⟨W1,s1,G1.get A.z (by simp only[h1,h2,h3,h4,or_self,not_false_iff]),G1.get A.l (by simp only[g1,g2,g3,g4,or_self,not_false_iff])⟩
  ·exact(E2a A hp (X:=A2j pr se S) (H1 hh) G1).2.1 hh
 ·have j4:(pr.a.kind == 4)=false:=beq_eq_false_iff_ne.2 c4
  rw[if_neg c4]
  have hcd:=B3p A.H h 6
  rw[F2t]at hcd
  simp only[j4,Bool.false_eq_true,if_false,hcd,C2c]
  exact⟨L,q,ptr,rfl,A.B,fun hh=>B0b hh,Fr.refl _ _,.inl rfl⟩
end
end
end Go.Proofs.YtglhnofjggpdjaaGreat.P
