import Derived.Test.YtngflpppkicnaaaGreatEngX
import Derived.Laws.BitsAllLaws
import Derived.Test.YtngflpppkicnaaaGreatAllE
namespace Go.Proofs.YtngflpppkicnaaaGreat.Dat
open Go.Proofs.YtngflpppkicnaaaGreat.Eng
set_option linter.unusedVariables false
set_option linter.unusedSimpArgs false
section
theorem wrap_small(x:Int)(h1:-9223372036854775808≤x)(h2:x≤9223372036854775807):IntKind.i64.wrap x=x:=by
 simp[IntKind.wrap,IntKind.bits,IntKind.signed];omega
theorem A0t(x:Int)(h1:-9223372036854775808≤x)(h2:x≤9223372036854775807):IntKind.i64.wrap x=x:=by
 simp[IntKind.wrap,IntKind.bits,IntKind.signed];omega
end
end Go.Proofs.YtngflpppkicnaaaGreat.Dat
namespace Go.Proofs.YtngflpppkicnaaaGreat
set_option linter.unusedVariables false
set_option linter.unusedSimpArgs false
section
def B6q(ws:List Nat):Prop:=(∀w ∈ ws,1≤w∧w≤32)∧ws.sum≤64
def A3p(ws:List Nat)(i:Nat):Nat:=(ws.take i).sum
def D8k(ws:List Nat)(x i:Nat):Nat:=x/2 ^ A3p ws i%2 ^ ws.getD i 0
def B0a:List Nat→List Nat→Nat
 |w::ws,v::vs=>v+2 ^ w*B0a ws vs
 |_,_=>0
def B5x:List Nat→Nat→List Nat
 |[],_=>[]
 |w::ws,x=>x%2 ^ w::B5x ws (x/2 ^ w)
def Fits:List Nat→List Nat→Prop
 |[],[]=>True
 |w::ws,v::vs=>v<2 ^ w∧Fits ws vs
 |_,_=>False
theorem C7d:∀(ws:List Nat) (x:Nat),(B5x ws x).length=ws.length
 |[],_=>rfl
 |w::ws,x=>by simp[B5x,C7d ws]
theorem E4v:∀{ws vs:List Nat},Fits ws vs→B0a ws vs<2 ^ ws.sum
 |[],[],_=>by simp[B0a]
 |w::ws,v::vs,h=>by
  simp only[B0a,List.sum_cons,Nat.pow_add]
  have h1:=E4v h.2
  have h2:=h.1
  calc v+2 ^ w*B0a ws vs<2 ^ w+2 ^ w*B0a ws vs:=by omega
   _=2 ^ w*(B0a ws vs+1):=by rw[Nat.mul_add,Nat.mul_one,Nat.add_comm]
   _≤2 ^ w*2 ^ ws.sum:=Nat.mul_le_mul_left _ h1
theorem D6g:∀{ws vs:List Nat},Fits ws vs→B5x ws (B0a ws vs)=vs
 |[],[],_=>rfl
 |w::ws,v::vs,h=>by
  have h1:=D6g h.2
  have h2:=h.1
  simp only[B0a,B5x]
  rw[Nat.add_mul_mod_self_left,Nat.mod_eq_of_lt h2,Nat.add_mul_div_left _ _ (Nat.two_pow_pos w),Nat.div_eq_of_lt h2,Nat.zero_add,h1]
theorem E5z(w:Nat)(ws:List Nat)(i:Nat):A3p (w::ws) (i+1)=w+A3p ws i:=by simp[A3p]
theorem C5n(ws:List Nat)(i:Nat)(h:i<ws.length):A3p ws (i+1)=A3p ws i+ws[i]:=by
 unfold A3p
 rw[List.take_succ_eq_append_getElem h,List.sum_append]
 simp
theorem F7g(ws:List Nat)(i:Nat):A3p ws i≤ws.sum:=by
 unfold A3p
 have h:ws.sum=(ws.take i).sum+(ws.drop i).sum:=by rw[←List.sum_append,List.take_append_drop]
 omega
theorem D6r:∀(ws:List Nat) (x i:Nat) (h:i<ws.length),D8k ws x i=(B5x ws x)[i]'(by rw[C7d];exact h)
 |w::ws,x,0,_=>by simp[D8k,B5x,A3p]
 |w::ws,x,i+1,h=>by
  have hi:i<ws.length:=by simpa using h
  have:=D6r ws (x/2 ^ w) i hi
  simp only[B5x,List.getElem_cons_succ]
  rw[←this]
  unfold D8k
  rw[E5z,Nat.pow_add,Nat.div_div_eq_div_mul]
  rfl
def A8m(ws vs:List Nat)(k:Nat):Nat:=B0a (ws.take k) (vs.take k)
theorem G4o{ws vs:List Nat}(k:Nat)(h:Fits (ws.take k) (vs.take k)):A8m ws vs k<2 ^ A3p ws k:=E4v h
theorem D6u:∀(ws vs:List Nat) (k:Nat) (hw:k<ws.length) (hv:k<vs.length),A8m ws vs (k+1)=A8m ws vs k+vs[k]*2 ^ A3p ws k
 |w::ws,v::vs,0,_,_=>by simp[A8m,B0a,A3p]
 |w::ws,v::vs,k+1,hw,hv=>by
  have ih:=D6u ws vs k (by simpa using hw) (by simpa using hv)
  unfold A8m at ih⊢
  simp only[List.take_succ_cons,B0a,List.getElem_cons_succ]at ih⊢
  rw[ih,E5z,Nat.pow_add,Nat.mul_add,←Nat.add_assoc]
  congr 1
  rw[←Nat.mul_assoc,←Nat.mul_assoc,Nat.mul_comm (2 ^ w)]
theorem F9r{ws vs:List Nat}(h:vs.length=ws.length):A8m ws vs ws.length=B0a ws vs:=by
 unfold A8m
 rw[List.take_length,←h,List.take_length]
theorem H3m(a v k:Nat)(h:a<2 ^ k):a ||| v*2 ^ k=a+v*2 ^ k:=by
 rw[Nat.or_comm,nat_join k _ _ (Nat.mul_mod_left _ _) h,Nat.add_comm]
theorem E0h(n m:Nat)(h:n≤m):2 ^ n≤2 ^ m:=Nat.pow_le_pow_right (by decide) h
theorem C9a{ws:List Nat}(h:B6q ws)(i:Nat)(hi:i<ws.length):1≤ws[i]∧ws[i]≤32∧A3p ws i+ws[i]≤64:=by
 have h1:=h.1 _ (List.getElem_mem hi)
 have h2:=C5n ws i hi
 have h3:=F7g ws (i+1)
 have h4:=h.2
 omega
theorem D0c{ws:List Nat}(h:B6q ws)(i:Nat):A3p ws i≤64:=Nat.le_trans (F7g ws i) h.2
theorem F4v{ws:List Nat}(h:B6q ws):ws.length≤64:=by
 have:∀l:List Nat,(∀w ∈ l,1≤w∧w≤32)→l.length≤l.sum:=by
  intro l
  induction l with
  |nil=>intro _;simp
  |cons a r ih=>
   intro hl
   have h1:=ih (fun w hw=>hl w (List.mem_cons_of_mem _ hw))
   have h2:=hl a List.mem_cons_self
   simp only[List.length_cons,List.sum_cons]
   omega
 exact Nat.le_trans (this ws h.1) h.2
end
end Go.Proofs.YtngflpppkicnaaaGreat
namespace Go.Proofs.YtngflpppkicnaaaGreat
open Go.Proofs.YtngflpppkicnaaaGreat.Eng Go.Proofs.YtngflpppkicnaaaGreat.Dat
set_option linter.unusedVariables false
set_option linter.unusedSimpArgs false
set_option linter.unusedSectionVars false
def A1e:List Nat→List Int→Nat→Option Nat
 |w::ws,v::vs,k=>if v<0∨((2 ^ w-1:Nat):Int)<v then some k else A1e ws vs (k+1)
 |_,_,_=>none
def A6q(ws:List Nat)(vs:List Int):Int × Int × Option Int:=
 if vs.length≠ws.length then(0,1,none)
 else match A1e ws vs 0 with
  |some i=>(0,5,some (i:Int))
  |none=>(B0a ws (vs.map Int.toNat),0,none)
theorem D1l:∀(ws:List Nat) (vs:List Int) (k j:Nat) (hw:k<ws.length) (hv:k<vs.length),
  A1e (ws.drop k) (vs.drop k) j=if vs[k]<0∨((2 ^ ws[k]-1:Nat):Int)<vs[k]then some j else A1e (ws.drop (k+1)) (vs.drop (k+1)) (j+1):=by
 intro ws vs k j hw hv
 rw[List.drop_eq_getElem_cons hw,List.drop_eq_getElem_cons hv]
 rfl
theorem F2n(ws:List Nat)(vs:List Int)(j:Nat):A1e (ws.drop ws.length) vs j=none:=by
 rw[List.drop_length]
 rfl
theorem H1q(v k:Nat)(hk:k≤64)(h:v*2 ^ k<18446744073709551616):IntKind.u64.wrap ((v:Int)*2 ^ min k 64)=((v*2 ^ k:Nat):Int):=by
 rw[Nat.min_eq_left hk]
 have e:((v:Int)*2 ^ k)=((v*2 ^ k:Nat):Int):=by simp
 rw[e,IntWalk.u64_in _ (by omega)]
theorem or_val(a v k:Nat)(hk:k≤64)(ha:a<2 ^ k)(h:v*2 ^ k<18446744073709551616)(ha2:a<18446744073709551616):
  bits BinOp.or IntKind.u64 (a:Int) (IntKind.u64.wrap ((v:Int)*2 ^ min k 64))=((a+v*2 ^ k:Nat):Int):=by
 rw[H1q v k hk h,u64_or_nat _ _ ha2 h,H3m a v k ha]
theorem H2j{ws:List Nat}(hg:B6q ws)(k v:Nat)(hk:k<ws.length)(hv:v≤2 ^ ws[k]-1):v*2 ^ A3p ws k<18446744073709551616:=by
 have h1:=C9a hg k hk
 have h2:0<2 ^ ws[k]:=Nat.two_pow_pos _
 have h3:v*2 ^ A3p ws k<2 ^ ws[k]*2 ^ A3p ws k:=Nat.mul_lt_mul_of_pos_right (by omega) (Nat.two_pow_pos _)
 rw[←Nat.pow_add]at h3
 have h4:2 ^ (ws[k]+A3p ws k)≤2 ^ 64:=E0h _ _ (by omega)
 omega
theorem E5o:∀{ws:List Nat} {vs:List Nat} (k:Nat) (hw:k<ws.length) (hv:k<vs.length),Fits (ws.take k) (vs.take k)→vs[k]<2 ^ ws[k]→Fits (ws.take (k+1)) (vs.take (k+1))
 |w::ws,v::vs,0,_,_,_,h=>by simpa[Fits]using h
 |w::ws,v::vs,k+1,hw,hv,hf,h=>by
  simp only[List.take_succ_cons,Fits]at hf⊢
  exact⟨hf.1,E5o k (by simpa using hw) (by simpa using hv) hf.2 (by simpa using h)⟩
def C2m(ws:List Nat)(vs:List Int)(k:Nat):Prop:=
 A1e ws vs 0=A1e (ws.drop k) (vs.drop k) k∧Fits (ws.take k) ((vs.map Int.toNat).take k)
theorem F0e(ws:List Nat)(vs:List Int):C2m ws vs 0:=⟨by simp,trivial⟩
theorem F2i{ws:List Nat}{vs:List Int}{k:Nat}(h:C2m ws vs k)(hw:k<ws.length)(hv:k<vs.length)(h0:0≤vs[k])(h1:vs[k]≤((2 ^ ws[k]-1:Nat):Int)):C2m ws vs (k+1):=by
 refine⟨?_,?_⟩
 ·rw[h.1,D1l ws vs k k hw hv,if_neg (by omega)]
 ·refine E5o k hw (by simpa using hv) h.2 ?_
  have h2:0<2 ^ ws[k]:=Nat.two_pow_pos _
  rw[List.getElem_map]
  omega
theorem D6v{ws:List Nat}{vs:List Int}{k:Nat}(hl:vs.length=ws.length)(h:C2m ws vs k)(hw:k<ws.length)(hv:k<vs.length)(hb:vs[k]<0∨((2 ^ ws[k]-1:Nat):Int)<vs[k]):A6q ws vs=(0,5,some (k:Int)):=by
 unfold A6q
 rw[if_neg (by omega),h.1,D1l ws vs k k hw hv,if_pos hb]
theorem F5d{ws:List Nat}{vs:List Int}{k:Nat}(hl:vs.length=ws.length)(h:C2m ws vs k)(hk:k=ws.length):A6q ws vs=((A8m ws (vs.map Int.toNat) k:Int),0,none):=by
 unfold A6q
 rw[if_neg (by omega),h.1]
 subst hk
 rw[F2n,F9r (by simpa using hl)]
def G0s(ws:List Nat)(i:Int):Nat:=if 0≤i∧i<ws.length then 2 ^ ws.getD i.toNat 0-1 else 0
theorem G7q(z:Nat)(hz:z≤32):IntKind.u64.wrap (IntKind.u64.wrap ((2:Int) ^ z)-1)=((2 ^ z-1:Nat):Int):=by
 have h1:2 ^ z≤2 ^ 32:=E0h z 32 hz
 have h2:0<2 ^ z:=Nat.two_pow_pos z
 have e:((2:Int) ^ z)=((2 ^ z:Nat):Int):=by simp
 rw[e,IntWalk.u64_in ((2 ^ z:Nat):Int) (by omega),IntWalk.u64_in _ (by omega)]
 omega
theorem F3p{ws:List Nat}{i:Nat}(hi:i<ws.length):G0s ws (i:Int)=2 ^ ws.getD i 0-1:=by
 unfold G0s
 rw[if_pos (by omega),Int.toNat_natCast]
theorem H2h{ws:List Nat}(hg:B6q ws)(i:Nat):ws.getD i 0≤32:=by
 rw[List.getD_eq_getElem?_getD]
 rcases Nat.lt_or_ge i ws.length with h|h
 ·rw[List.getElem?_eq_getElem h]
  exact(C9a hg i h).2.1
 ·rw[List.getElem?_eq_none h]
  exact Nat.zero_le _
theorem H2m(x i:Nat)(ws:List Nat)(hx:x<18446744073709551616)(hi:i<ws.length)(hg:B6q ws):
  IntKind.i64.wrap (bits BinOp.and IntKind.u64 ((x:Int)/2 ^ min (A3p ws i) 64) (G0s ws (i:Int):Int))=(D8k ws x i:Int):=by
 have h1:=D0c hg i
 have h2:=H2h hg i
 have h3:2 ^ ws.getD i 0≤2 ^ 32:=E0h _ 32 h2
 have h4:0<2 ^ ws.getD i 0:=Nat.two_pow_pos _
 rw[Nat.min_eq_left h1,F3p hi]
 have e:((x:Int)/2 ^ A3p ws i)=((x/2 ^ A3p ws i:Nat):Int):=by simp
 have hd:x/2 ^ A3p ws i≤x:=Nat.div_le_self _ _
 rw[e,u64_and_nat _ _ (by omega) (by omega),Nat.and_two_pow_sub_one_eq_mod]
 have h5:x/2 ^ A3p ws i%2 ^ ws.getD i 0<2 ^ ws.getD i 0:=Nat.mod_lt _ h4
 rw[IntWalk.i64_in _ (by omega)]
 rfl
namespace FDat
def wsD(ws:List Nat):D:=.agg (ws.map fun(w:Nat)=>D.int (w:Int))
def vsD(vs:List Int):D:=.agg (vs.map D.int)
def code(c:Int):D:=.iface 45 (.int c)
def C8m(i:Int)(c:Int):D:=.iface 169 (.agg [.int i,code c])
theorem C1e(x y:D)(h:y.isNil=false):FX 59 [x,y]=some [.iface 169 (.agg [x,y])]:=by
 rw[E0n];simp[h]
section
variable(ws:List Nat)(hg:B6q ws)
theorem C0e:(ws.map fun(w:Nat)=>D.int (w:Int)).length=ws.length:=by simp
theorem F2b{i:Nat}(h:i<ws.length):(ws.map fun(w:Nat)=>D.int (w:Int)).getD i D.nil=.int (ws[i]:Int):=by
 rw[List.getD_eq_getElem?_getD,List.getElem?_map,List.getElem?_eq_getElem h];rfl
include hg in
theorem small:ws.length≤64:=F4v hg
theorem E5f(i:Nat)(h:i≤1000):IntKind.i64.wrap ((i:Int)+1)=((i+1:Nat):Int):=by rw[A0t _ (by omega) (by omega)];omega
include hg in
theorem F3l(n:Nat)(hn:n≤ws.length):∀(k i:Nat),i+k=n→A7z (wsD ws) (.int n) [.int (A3p ws i),.int i]=some [.int (A3p ws n)]
 |0,i,h=>by
  have hi:i=n:=by omega
  subst hi
  have hlen:(((ws.map fun(w:Nat)=>D.int (w:Int)).drop ((0:Int)).toNat).take ((((i:Nat):Int)).toNat-((0:Int)).toNat)).length=i:=by simp;omega
  have hno:¬(i:Int)<((((((ws.map fun(w:Nat)=>D.int (w:Int)).drop ((0:Int)).toNat).take ((((i:Nat):Int)).toNat-((0:Int)).toNat))).length:Nat):Int):=by rw[hlen];omega
  rw[B3y]
  simp only[wsD,D.A0h,D.toInt_int,hno,decide_false,Bool.false_eq_true,if_false]
 |k+1,i,h=>by
  have hs:=small ws hg
  have hlen:(((ws.map fun(w:Nat)=>D.int (w:Int)).drop ((0:Int)).toNat).take ((((n:Nat):Int)).toNat-((0:Int)).toNat)).length=n:=by simp;omega
  have h1:(i:Int)<((((((ws.map fun(w:Nat)=>D.int (w:Int)).drop ((0:Int)).toNat).take ((((n:Nat):Int)).toNat-((0:Int)).toNat))).length:Nat):Int):=by rw[hlen];omega
  have h2:(i:Int)≥0:=by omega
  have hge:(((ws.map fun(w:Nat)=>D.int (w:Int)).drop ((0:Int)).toNat).take ((((n:Nat):Int)).toNat-((0:Int)).toNat)).getD i D.nil=.int (ws[i]'(by omega):Int):=by
   have:(((ws.map fun(w:Nat)=>D.int (w:Int)).drop ((0:Int)).toNat).take ((((n:Nat):Int)).toNat-((0:Int)).toNat)).getD i D.nil=(ws.map fun(w:Nat)=>D.int (w:Int)).getD i D.nil:=by
    simp only[List.getD_eq_getElem?_getD]
    rw[List.getElem?_take,if_pos (by simp;omega)]
    simp
   rw[this,F2b ws (by omega)]
  have hl:=D0c hg (i+1)
  have hsum:IntKind.i64.wrap ((A3p ws i:Int)+(ws[i]'(by omega):Int))=(A3p ws (i+1):Int):=by
   rw[C5n ws i (by omega)]at hl⊢
   rw[A0t _ (by omega) (by omega)];omega
  have ih:=F3l n hn k (i+1) (by omega)
  rw[B3y]
  simp only[wsD,D.A0h,D.toInt_int,h1,h2,decide_true,if_true,Int.toNat_natCast (n:=i),hsum,E5f i (by omega)]at hge⊢
  rw[hge]
  simp only[D.toInt_int,hsum]
  exact ih
include hg in
theorem G3z(i:Nat)(hi:i≤ws.length):FX 90 [wsD ws,.int i]=some [.int (A3p ws i)]:=by
 have h:=F3l ws hg i hi i 0 (by omega)
 have h1:(0:Int)≤(i:Int):=by omega
 have h2:(i:Int)≤((ws.map fun(w:Nat)=>D.int (w:Int)).length:Int):=by rw[C0e];omega
 rw[D3e]
 simp only[wsD,D.toInt_int,D.A0h,h1,h2,decide_true,if_true,Int.le_refl]
 exact h
theorem H0s(z:Nat)(hz:z≤32):arF .shl .u64 1 (z:Int)=IntKind.u64.wrap ((2:Int) ^ z):=by
 have:min z 64=z:=by omega
 simp[arF,IntKind.bits,this]
include hg in
theorem F7c(i:Nat)(hi:i<ws.length):FX 91 [wsD ws,.int i]=some [.int ((2 ^ ws[i]-1:Nat):Int)]:=by
 have h1:¬(i:Int)<0:=by omega
 have h2:¬(i:Int)≥((ws.map fun(w:Nat)=>D.int (w:Int)).length:Int):=by rw[C0e];omega
 have h3:(i:Int)≥0:=by omega
 have h4:(i:Int)<((ws.map fun(w:Nat)=>D.int (w:Int)).length:Int):=by rw[C0e];omega
 have h5:((ws[i]:Nat):Int)≥0:=by omega
 have hw:=(C9a hg i hi).2.1
 rw[D1u]
 simp only[wsD,D.toInt_int,D.A0h,h1,h2,h3,h4,decide_false,decide_true,Bool.false_eq_true,if_false,if_true,Int.toNat_natCast,F2b ws hi,h5]
 rw[H0s _ hw,G7q _ hw]
theorem H2f(x k:Nat)(hk:k≤64):arF .shr .u64 (x:Int) (k:Int)=((x/2 ^ k:Nat):Int):=by
 have h1:min k 64=k:=by omega
 simp only[arF,IntKind.bits,Int.toNat_natCast,h1]
 rw[Int.fdiv_eq_ediv_of_nonneg _ (by exact Int.le_of_lt (Int.pow_pos (by decide)))]
 simp
def A5a(x:Nat)(i:Int):Int:=if i<0∨(ws.length:Int)≤i then 0 else D8k ws x i.toNat
include hg in
theorem get_eq(x:Nat)(hx:x<18446744073709551616)(i:Int):FX 68 [wsD ws,.int x,.int i]=some [.int (A5a ws x i)]:=by
 rw[D2u]
 unfold A5a
 by_cases h1:i<0
 ·simp only[D.toInt_int,h1,decide_true,if_true,true_or]
 by_cases h2:i≥(ws.length:Int)
 ·simp only[wsD,D.toInt_int,D.A0h,C0e,h1,h2,decide_true,decide_false,Bool.false_eq_true,if_true,if_false,or_true]
 obtain⟨j,rfl⟩:∃j:Nat,i=j:=⟨i.toNat,by omega⟩
 have hj:j<ws.length:=by omega
 have hl:=G3z ws hg j (by omega)
 have hm:=F7c ws hg j hj
 have hb:=D0c hg j
 have h3:(A3p ws j:Int)≥0:=by omega
 have hno:¬((j:Int)<0∨(ws.length:Int)≤(j:Int)):=by omega
 rw[if_neg hno]
 simp only[wsD]at hl hm
 simp only[wsD,D.toInt_int,D.A0h,C0e,h1,h2,decide_false,Bool.false_eq_true,if_false,hl,hm,A0b,List.length_cons,List.length_nil,if_true,List.getD_cons_zero,h3,decide_true]
 rw[H2f x _ hb]
 have:=H2m x j ws hx hj hg
 rw[Nat.min_eq_left hb,F3p hj]at this
 have e:((x:Int)/2 ^ A3p ws j)=((x/2 ^ A3p ws j:Nat):Int):=by simp
 rw[e,List.getD_eq_getElem?_getD,List.getElem?_eq_getElem hj]at this
 simp only[Int.toNat_natCast]
 exact congrArg (fun z=>some [D.int z]) this
include hg in
theorem C3c:∀(k i:Nat),i+k=ws.length→B4z (wsD ws) [.int (A3p ws i),.int i]=some [wsD ws,.nil]
 |0,i,h=>by
  have hs:=small ws hg
  have hno:¬(i:Int)<((ws.map fun(w:Nat)=>D.int (w:Int)).length:Int):=by rw[C0e];omega
  have hle:((ws.map fun(w:Nat)=>D.int (w:Int)).length:Int)≤17592186044416:=by rw[C0e];omega
  rw[C3a]
  simp only[wsD,D.A0h,D.toInt_int,hno,hle,decide_false,decide_true,Bool.false_eq_true,if_false,if_true]
 |k+1,i,h=>by
  have hs:=small ws hg
  have hi:i<ws.length:=by omega
  have h1:(i:Int)<((ws.map fun(w:Nat)=>D.int (w:Int)).length:Int):=by rw[C0e];omega
  have h2:(i:Int)≥0:=by omega
  obtain⟨g1,g2,g3⟩:=C9a hg i hi
  have hsum:IntKind.i64.wrap ((A3p ws i:Int)+(ws[i]:Int))=(A3p ws (i+1):Int):=by
   rw[C5n ws i hi,A0t _ (by omega) (by omega)];omega
  have h3:¬((ws[i]:Nat):Int)<1:=by omega
  have h4:¬((ws[i]:Nat):Int)>32:=by omega
  have h5:¬((A3p ws (i+1):Nat):Int)>64:=by rw[C5n ws i hi];omega
  have ih:=C3c k (i+1) (by omega)
  rw[C3a]
  simp only[wsD,D.A0h,D.toInt_int,h1,h2,decide_true,decide_false,if_true,if_false,Int.toNat_natCast,F2b ws hi,hsum,h3,h4,h5,Bool.false_eq_true,E5f i (by omega)]
  exact ih
include hg in
theorem D4g:FX 89 [wsD ws]=some [wsD ws,.nil]:=by
 rw[F6h]
 exact C3c ws hg ws.length 0 (by omega)
theorem H3h{vs:List Int}{i:Nat}(h:i<vs.length):(vs.map D.int).getD i D.nil=.int vs[i]:=by
 rw[List.getD_eq_getElem?_getD,List.getElem?_map,List.getElem?_eq_getElem h];rfl
theorem u64_in{x:Int}(h0:0≤x)(h1:x<18446744073709551616):IntKind.u64.wrap x=x:=by
 simp[IntKind.wrap,IntKind.bits,IntKind.signed];omega
theorem G7r(v k:Nat)(hk:k≤64):arF .shl .u64 (v:Int) (k:Int)=IntKind.u64.wrap ((v:Int)*2 ^ min k 64):=by
 simp[arF,IntKind.bits]
def A5c(vs:List Int):List D:=match A6q ws vs with
 |(w,c,p)=>[.int w,if c=0 then .nil else match p with|some i=>C8m i c|none=>code c]
theorem E5x{vs:List Int}{k:Nat}(h:A6q ws vs=(0,5,some (k:Int))):A5c ws vs=[.int 0,C8m k 5]:=by unfold A5c;rw[h];rfl
include hg in
theorem E6p(vs:List Int)(hl:vs.length=ws.length)(hz:∀z ∈ vs,z≤9223372036854775807):∀(d k:Nat),k+d=vs.length→C2m ws vs k→
  A7s (wsD ws) (vsD vs) [.int (A8m ws (vs.map Int.toNat) k),.int k]=some (A5c ws vs)
 |0,k,h,hm=>by
  have hno:¬(k:Int)<((vs.map D.int).length:Int):=by simp;omega
  have he:=F5d hl hm (by omega)
  rw[B2v]
  simp only[vsD,D.A0h,D.toInt_int,hno,decide_false,Bool.false_eq_true,if_false]
  unfold A5c
  rw[he];rfl
 |d+1,k,h,hm=>by
  have hs:=small ws hg
  have hkv:k<vs.length:=by omega
  have hkw:k<ws.length:=by omega
  have h1:(k:Int)<((vs.map D.int).length:Int):=by simp;omega
  have h2:(k:Int)≥0:=by omega
  have hcode:(D.iface 45 (.int 5)).isNil=false:=rfl
  have hzk:=hz vs[k] (List.getElem_mem hkv)
  rw[B2v]
  simp only[vsD,D.A0h,D.toInt_int,h1,h2,decide_true,if_true,Int.toNat_natCast,H3h hkv]
  by_cases h3:vs[k]<0
  ·rw[E5x ws (D6v hl hm hkw hkv (.inl h3))]
   simp only[h3,decide_true,if_true,C1e _ _ hcode,A0b,List.length_cons,List.length_nil,List.getD_cons_zero]
   rfl
  ·have hmo:=F7c ws hg k hkw
   have hlo:=G3z ws hg k (by omega)
   simp only[h3,decide_false,Bool.false_eq_true,if_false,hmo,A0b,List.length_cons,List.length_nil,List.getD_cons_zero,if_true,D.toInt_int]
   rw[u64_in (by omega) (by omega)]
   by_cases h4:vs[k]>((2 ^ ws[k]-1:Nat):Int)
   ·rw[E5x ws (D6v hl hm hkw hkv (.inr h4))]
    simp only[h4,decide_true,if_true,C1e _ _ hcode,List.length_cons,List.length_nil,List.getD_cons_zero]
    rfl
   ·have h5:(A3p ws k:Int)≥0:=by omega
    have hb:=D0c hg k
    obtain⟨v,hv⟩:∃v:Nat,vs[k]=v:=⟨vs[k].toNat,by omega⟩
    have hle:v≤2 ^ ws[k]-1:=by omega
    have h4':¬(v:Int)>((2 ^ ws[k]-1:Nat):Int):=by rw[←hv];exact h4
    have hpl:=H2j hg k v hkw hle
    have hmid:=F2i hm hkw hkv (by omega) (by omega)
    have hlt:=G4o k hm.2
    have hlt2:A8m ws (vs.map Int.toNat) k<18446744073709551616:=Nat.lt_of_lt_of_le hlt (by
     have:=E0h (A3p ws k) 64 hb
     exact this)
    have hor:=or_val (A8m ws (vs.map Int.toNat) k) v (A3p ws k) hb hlt hpl hlt2
    have hsucc:A8m ws (vs.map Int.toNat) (k+1)=A8m ws (vs.map Int.toNat) k+v*2 ^ A3p ws k:=by
     rw[D6u ws (vs.map Int.toNat) k hkw (by simpa using hkv)]
     simp[hv]
    have ih:=E6p vs hl hz d (k+1) (by omega) hmid
    rw[hsucc]at ih
    simp only[hv,h4',decide_false,Bool.false_eq_true,if_false,hlo,List.length_cons,List.length_nil,List.getD_cons_zero,D.toInt_int,h5,decide_true,if_true,hv,E5f k (by omega)]
    rw[G7r v _ hb]
    have hor':arF .or .u64 (A8m ws (vs.map Int.toNat) k:Int) (IntKind.u64.wrap ((v:Int)*2 ^ min (A3p ws k) 64))=((A8m ws (vs.map Int.toNat) k+v*2 ^ A3p ws k:Nat):Int):=hor
    rw[hor']
    exact ih
include hg in
theorem E4z(vs:List Int)(hz:∀z ∈ vs,z≤9223372036854775807):FX 159 [wsD ws,vsD vs]=some (A5c ws vs):=by
 rw[D1s]
 by_cases hl:vs.length=ws.length
 ·have h1:(((vs.map D.int).length:Int) != ((ws.map fun(w:Nat)=>D.int (w:Int)).length:Int))=false:=by simp[hl]
  have:=E6p ws hg vs hl hz vs.length 0 (by omega) (F0e ws vs)
  simp only[vsD,wsD,D.A0h,h1,Bool.false_eq_true,if_false]at this⊢
  exact this
 ·have h1:(((vs.map D.int).length:Int) != ((ws.map fun(w:Nat)=>D.int (w:Int)).length:Int))=true:=by simp;omega
  simp only[vsD,wsD,D.A0h,h1,if_true]
  unfold A5c A6q
  rw[if_pos hl]
  rfl
end
end FDat
end Go.Proofs.YtngflpppkicnaaaGreat
namespace Go.Proofs.YtngflpppkicnaaaGreat.RU
open Go.RowKit Go.Proofs.YtngflpppkicnaaaGreat.Eng Go.Proofs.YtngflpppkicnaaaGreat Go.Proofs.YtngflpppkicnaaaGreat.Dat
set_option linter.unusedVariables false
set_option linter.unusedSimpArgs false
section
structure Cf where
 c0:Int
 c1:Int
 c2:Int
 c3:Int
 c4:Int
 c5:Int
 c6:Int
def Cf.ds(c:Cf):List D:=[.int c.c0,.int c.c1,.int c.c2,.int c.c3,.int c.c4,.int c.c5,.int c.c6]
def Cf.ok(c:Cf):Prop:=(1≤c.c0∧c.c0≤6)∧(1≤c.c1∧c.c1≤4)∧(1≤c.c2∧c.c2≤3)∧(1≤c.c3∧c.c3≤4)∧(0≤c.c4∧c.c4≤4)∧(1≤c.c5∧c.c5≤4)∧(1≤c.c6∧c.c6≤15)
structure Lim where
 w:ByteArray
 n:Int
 lo:Int
 hi:Int
def Lim.d(e:Lim):D:=.agg [.str e.w,.int e.n,.int e.lo,.int e.hi]
def Lim.ok(e:Lim):Prop:=e.lo≤e.n∧e.n≤e.hi
instance(e:Lim):Decidable e.ok:=by unfold Lim.ok;infer_instance
def A1e:List Lim→Nat→Option (Nat × Lim)
 |[],_=>none
 |e::l,i=>if e.ok then A1e l (i+1)else some (i,e)
def C8m(i:Nat)(e:Lim):D:=.iface 169 (.agg [.int i,.iface 233 (.agg [.str e.w,.iface 45 (.int 5)])])
theorem C1e(x y:D)(h:y.isNil=false):FX 59 [x,y]=some [.iface 169 (.agg [x,y])]:=by
 rw[E0n];simp[h]
theorem F7s(x y:D)(h:y.isNil=false):FX 105 [x,y]=some [.iface 233 (.agg [x,y])]:=by
 rw[F3u];simp[h]
theorem C3c(x0 x1 x2 x3 x4 x5 x6:D)(es:List Lim)(hl:es.length≤100):∀(k i:Nat),i+k=es.length→
  B2b x0 x1 x2 x3 x4 x5 x6 (.agg (es.map Lim.d)) [.int i]=match A1e (es.drop i) i with
   |none=>some [x0,x1,x2,x3,x4,x5,x6,.nil]
   |some (j,e)=>some [.int 0,.int 0,.int 0,.int 0,.int 0,.int 0,.int 0,C8m j e]
 |0,i,h=>by
  have hi:i=es.length:=by omega
  rw[C2r,List.drop_eq_nil_of_le (by omega)]
  simp[hi,A1e]
 |k+1,i,h=>by
  have hlt:i<es.length:=by omega
  have hg:(es.map Lim.d).getD i D.nil=es[i].d:=by rw[List.getD_eq_getElem?_getD,List.getElem?_map,List.getElem?_eq_getElem hlt];rfl
  have ih:=C3c x0 x1 x2 x3 x4 x5 x6 es hl k (i+1) (by omega)
  rw[C2r,List.drop_eq_getElem_cons hlt]
  have hw:IntKind.i64.wrap ((i:Int)+1)=((i+1:Nat):Int):=by rw[wrap_small _ (by omega) (by omega)];omega
  simp only[D.toInt_int,D.A0h,List.length_map,Int.toNat_natCast,hg,hw,A1e]
  have e1:(i:Int)<(es.length:Int):=by omega
  have e2:(i:Int)≥0:=by omega
  simp only[e1,e2,decide_true,if_true,Lim.d,D.A0h,List.getD_cons_succ,List.getD_cons_zero,D.toInt_int]
  have hcode:(D.iface 45 (.int 5)).isNil=false:=rfl
  have hnote:(D.iface 233 (.agg [.str es[i].w,.iface 45 (.int 5)])).isNil=false:=rfl
  by_cases h1:es[i].n<es[i].lo
  ·have:¬es[i].ok:=fun h=>by unfold Lim.ok at h;omega
   simp only[h1,decide_true,if_true,this,if_false,F7s _ _ hcode,A0b,List.length_cons,List.length_nil,List.getD_cons_zero,C1e _ _ hnote,C8m]
  ·by_cases h2:es[i].n>es[i].hi
   ·have:¬es[i].ok:=fun h=>by unfold Lim.ok at h;omega
    simp only[h1,h2,decide_true,decide_false,Bool.false_eq_true,if_true,this,if_false,F7s _ _ hcode,A0b,List.length_cons,List.length_nil,List.getD_cons_zero,C1e _ _ hnote,C8m]
   ·have:es[i].ok:=by unfold Lim.ok;omega
    simp only[h1,h2,decide_false,Bool.false_eq_true,if_false,this,if_true,ih]
def Cf.B3c(c:Cf):List Lim:=[⟨.mk #[112,97,114,116,115],c.c0,1,6⟩,⟨.mk #[99,101,108,108,115],c.c1,1,4⟩,⟨.mk #[110,97,109,101,115],c.c2,1,3⟩,⟨.mk #[98,97,110,100,115],c.c3,1,4⟩,⟨.mk #[112,114,111,98,101,115],c.c4,0,4⟩,⟨.mk #[102,105,108,108,115],c.c5,1,4⟩,⟨.mk #[103,101,110,115],c.c6,1,15⟩]
theorem D4g(c:Cf):FX 83 c.ds=match A1e c.B3c 0 with
   |none=>some (c.ds++[.nil])
   |some (j,e)=>some [.int 0,.int 0,.int 0,.int 0,.int 0,.int 0,.int 0,C8m j e]:=by
 have h:=C3c (.int c.c0) (.int c.c1) (.int c.c2) (.int c.c3) (.int c.c4) (.int c.c5) (.int c.c6) c.B3c (by simp[Cf.B3c]) 7 0 rfl
 have hl:FX 104 c.ds=some [.agg (c.B3c.map Lim.d)]:=by
  unfold Cf.ds
  rw[E4j]
  rfl
 have he:FX 83 c.ds=B2b (.int c.c0) (.int c.c1) (.int c.c2) (.int c.c3) (.int c.c4) (.int c.c5) (.int c.c6) (.agg (c.B3c.map Lim.d)) [.int 0]:=by
  unfold Cf.ds at hl⊢
  rw[F4u,hl]
  rfl
 rw[he]
 exact h
theorem D2p:∀(l:List Lim) (i:Nat),A1e l i=none↔∀e ∈ l,e.ok
 |[],i=>by simp[A1e]
 |e::l,i=>by
  simp only[A1e,List.mem_cons,forall_eq_or_imp]
  by_cases h:e.ok
  ·rw[if_pos h,D2p l];simp[h]
  ·rw[if_neg h];simp[h]
theorem C0o(c:Cf):A1e c.B3c 0=none↔c.ok:=by
 rw[D2p]
 simp[Cf.B3c,Lim.ok,Cf.ok]
end
end Go.Proofs.YtngflpppkicnaaaGreat.RU
namespace Go.Proofs.YtngflpppkicnaaaGreat.P
open Go.RowKit Go.Proofs.YtngflpppkicnaaaGreat.Eng Go.Proofs.YtngflpppkicnaaaGreat Go.Proofs.YtngflpppkicnaaaGreat.Dat Go.Proofs.YtngflpppkicnaaaGreat.FDat
set_option linter.unusedVariables false
set_option linter.unusedSimpArgs false
set_option maxRecDepth 10000
section
abbrev Cf:=RU.Cf
def In(z:Int):Prop:=-9223372036854775808≤z∧z≤9223372036854775807
theorem In.w{z:Int}(h:In z):IntKind.i64.wrap z=z:=A0t z h.1 h.2
def er(c:Int):D:=if c=0 then .nil else code c
theorem E4i:er 0=.nil:=rfl
theorem D8q(c:Int):(er c).isNil=decide (c=0):=by
 unfold er
 by_cases h:c=0
 ·simp[h,D.isNil]
 ·simp[h,code,D.isNil]
structure St where
 k:Int
 f:Bool
 g:Int
 l:Int
 n:Int
 deriving DecidableEq
def St.ds(s:St):List D:=[.int s.k,.bool s.f,.int s.g,.int s.l,.int s.n]
def fl(f:Bool):Int:=if f then 1 else 0
def St.vs(s:St):List Int:=[s.k,fl s.f,s.g,s.l,s.n]
def St.wf(s:St):Prop:=In s.k∧In s.g∧In s.l∧In s.n
def St.zero:St:=⟨0,false,0,0,0⟩
structure Tm where
 name:Int
 side:Int
 A0j:Int
 least:Int
 A1l:Int
 deriving DecidableEq
def Tm.ds(t:Tm):List D:=[.int t.name,.int t.side,.int t.A0j,.int t.least,.int t.A1l]
def Tm.vs(t:Tm):List Int:=[t.name,t.side,t.A0j,t.least,t.A1l]
def Tm.wf(t:Tm):Prop:=∀z ∈ t.vs,In z
def Tm.sm(t:Tm):Prop:=(0≤t.name∧t.name<16)∧(0≤t.side∧t.side<2)∧(0≤t.A0j∧t.A0j<65536)∧(0≤t.least∧t.least<65536)∧0≤t.A1l∧t.A1l<16777216
def Tm.zero:Tm:=⟨0,0,0,0,0⟩
structure Rc where
 k:Int
 q:Int
 p:Int
 t:Int
 c:Int
 g:Int
 deriving DecidableEq
def Rc.ds(r:Rc):List D:=[.int r.k,.int r.q,.int r.p,.int r.t,.int r.c,.int r.g]
def Rc.vs(r:Rc):List Int:=[r.k,r.q,r.p,r.t,r.c,r.g]
def Rc.wf(r:Rc):Prop:=∀z ∈ r.vs,In z
def Rc.zero:Rc:=⟨0,0,0,0,0,0⟩
def cws:List Nat:=[4,1,8,16,8]
def tws:List Nat:=[4,1,16,16,24]
def rws:List Nat:=[3,16,16,20,5,4]
theorem E1s:B6q cws:=by constructor<;>simp[cws]
theorem E8z:B6q tws:=by constructor<;>simp[tws]
theorem E8p:B6q rws:=by constructor<;>simp[rws]
theorem clay:FX 67 []=some [wsD cws]:=by
 have h:=D4g cws E1s
 rw[E7w]
 have e:(D.agg ((D.int (4:Int))::((D.int (1:Int))::((D.int (8:Int))::((D.int (16:Int))::((D.int (8:Int))::[]))))))=wsD cws:=rfl
 rw[e,h];rfl
theorem tlay:FX 69 []=some [wsD tws]:=by
 have h:=D4g tws E8z
 rw[E3u]
 have e:(D.agg ((D.int (4:Int))::((D.int (1:Int))::((D.int (16:Int))::((D.int (16:Int))::((D.int (24:Int))::[]))))))=wsD tws:=rfl
 rw[e,h];rfl
theorem rlay:FX 158 []=some [wsD rws]:=by
 have h:=D4g rws E8p
 rw[E0l]
 have e:(D.agg ((D.int (3:Int))::((D.int (16:Int))::((D.int (16:Int))::((D.int (20:Int))::((D.int (5:Int))::((D.int (4:Int))::[])))))))=wsD rws:=rfl
 rw[e,h];rfl
def A0i(x:Nat):St:=⟨A5a cws x 0,A5a cws x 1 == 1,A5a cws x 2,A5a cws x 3,A5a cws x 4⟩
def B4g(x:Nat):Tm:=⟨A5a tws x 0,A5a tws x 1,A5a tws x 2,A5a tws x 3,A5a tws x 4⟩
def G7z(x:Nat):Rc:=⟨A5a rws x 0,A5a rws x 1,A5a rws x 2,A5a rws x 3,A5a rws x 4,A5a rws x 5⟩
theorem B3n(ws:List Nat)(x:Nat)(i b:Nat)(hb:ws.getD i 0≤b):0≤A5a ws x i∧A5a ws x i<((2 ^ b:Nat):Int):=by
 unfold A5a
 have hp:0<2 ^ b:=Nat.two_pow_pos b
 split
 ·omega
 ·have h1:D8k ws x ((i:Int).toNat)<2 ^ ws.getD i 0:=by
   unfold D8k
   rw[Int.toNat_natCast]
   exact Nat.mod_lt _ (Nat.two_pow_pos _)
  have h2:2 ^ ws.getD i 0≤2 ^ b:=Nat.pow_le_pow_right (by decide) hb
  omega
theorem B3l(x:Nat):(0≤(A0i x).k∧(A0i x).k<16)∧(0≤(A0i x).g∧(A0i x).g<256)∧(0≤(A0i x).l∧(A0i x).l<65536)∧0≤(A0i x).n∧(A0i x).n<256:=
 ⟨B3n cws x 0 4 (by decide),B3n cws x 2 8 (by decide),B3n cws x 3 16 (by decide),B3n cws x 4 8 (by decide)⟩
theorem B2d(x:Nat):(A0i x).wf:=by
 have:=B3l x
 unfold St.wf In;omega
theorem C7b(x:Nat):(B4g x).sm:=
 ⟨B3n tws x 0 4 (by decide),B3n tws x 1 1 (by decide),B3n tws x 2 16 (by decide),B3n tws x 3 16 (by decide),B3n tws x 4 24 (by decide)⟩
theorem Tm.sm.wf{t:Tm}(h:t.sm):t.wf:=by
 obtain⟨h1,h2,h3,h4,h5⟩:=h
 intro z hz
 simp only[Tm.vs,List.mem_cons,List.not_mem_nil,or_false]at hz
 unfold In;omega
section
variable(x:Nat)(hx:x<18446744073709551616)
include hx
theorem D0j:FX 39 [.int x]=some (A0i x).ds:=by
 have hg:=get_eq cws E1s x hx
 rw[F2f,clay]
 simp only[A0b,List.length_cons,List.length_nil,if_true,List.getD_cons_zero,hg,D.toInt_int]
 rfl
theorem F1x:FX 41 [.int x]=some (B4g x).ds:=by
 have hg:=get_eq tws E8z x hx
 rw[F8j,tlay]
 simp only[A0b,List.length_cons,List.length_nil,if_true,List.getD_cons_zero,hg,D.toInt_int]
 rfl
theorem G2g:FX 167 [.int x]=some (G7z x).ds:=by
 have hg:=get_eq rws E8p x hx
 rw[F5h,rlay]
 simp only[A0b,List.length_cons,List.length_nil,if_true,List.getD_cons_zero,hg,D.toInt_int]
 rfl
end
def B4t(ws:List Nat)(vs:List Int):Option Nat:=match A6q ws vs with
 |(w,c,_)=>if c=0 then some w.toNat else none
def stW(s:St):Option Nat:=if s.k>8 then none else B4t cws s.vs
def tmW(t:Tm):Option Nat:=B4t tws t.vs
def rcW(r:Rc):Option Nat:=if r.k>5 then none else B4t rws r.vs
def Told(o:Option Nat)(r:List D):Prop:=match o with
 |some w=>r=[.int w,.nil]
 |none=>∃e:D,e.isNil=false∧r=[.int 0,e]
theorem G0t{ws:List Nat}{vs:List Int}{w:Int}{p:Option Int}(h:A6q ws vs=(w,0,p)):0≤w:=by
 unfold A6q at h
 split at h
 ·cases h
 ·split at h
  ·cases h
  ·cases h;omega
theorem G6o:∀{ws:List Nat} {vs:List Int} (k:Nat),vs.length=ws.length→A1e ws vs k=none→∃ns:List Nat,vs=ns.map (fun(x:Nat)=>(x:Int))∧Fits ws ns:=by
 intro ws
 induction ws with
 |nil=>intro vs k h _;have:=List.eq_nil_of_length_eq_zero h;subst this;exact⟨[],rfl,trivial⟩
 |cons w ws ih=>
  intro vs k h hb
  cases vs with
  |nil=>simp at h
  |cons v vs=>
   simp only[A1e]at hb
   split at hb
   ·cases hb
   ·rename_i hc
    obtain⟨ns,e,hf⟩:=ih (k+1) (by simpa using h) hb
    have hp:0<2 ^ w:=Nat.two_pow_pos w
    refine⟨v.toNat::ns,?_,?_,hf⟩
    ·rw[List.map_cons,e]
     congr 1
     omega
    ·omega
theorem G6f{ws:List Nat}{vs:List Int}(hl:vs.length=ws.length)(h:(A6q ws vs).2.1=0):∃ns:List Nat,vs=ns.map (fun(n:Nat)=>(n:Int))∧Fits ws ns∧A6q ws vs=((B0a ws ns:Int),0,none):=by
 unfold A6q at h⊢
 rw[if_neg (by omega)]at h⊢
 cases hb:A1e ws vs 0 with
 |some i=>rw[hb]at h;cases h
 |none=>
  obtain⟨ns,e,hf⟩:=G6o 0 hl hb
  have e2:vs.map Int.toNat=ns:=by
   rw[e,List.map_map]
   apply List.ext_getElem
   ·simp
   ·intro j h1 h2;simp
  exact⟨ns,e,hf,by simp only[e2]⟩
theorem F9a{ws:List Nat}{vs:List Int}{w:Nat}(h:B4t ws vs=some w):∃ns:List Nat,vs=ns.map (fun(n:Nat)=>(n:Int))∧Fits ws ns∧w=B0a ws ns:=by
 unfold B4t at h
 rcases hp:A6q ws vs with⟨z,c,q⟩
 rw[hp]at h
 dsimp only at h
 by_cases hc:c=0
 ·subst hc
  have hl:vs.length=ws.length:=by
   rcases Decidable.em (vs.length=ws.length)with h1|h1
   ·exact h1
   ·unfold A6q at hp
    rw[if_pos h1]at hp;cases hp
  obtain⟨ns,e1,e2,e3⟩:=G6f hl (by rw[hp])
  rw[if_pos rfl]at h
  rw[e3]at hp
  cases hp
  cases h
  exact⟨ns,e1,e2,by simp⟩
 ·rw[if_neg hc]at h;cases h
theorem C8w{ws:List Nat}(hg:B6q ws){vs:List Int}{w:Nat}(h:B4t ws vs=some w):w<18446744073709551616:=by
 obtain⟨ns,_,hf,rfl⟩:=F9a h
 have h1:=E4v hf
 have h2:2 ^ ws.sum≤2 ^ 64:=Nat.pow_le_pow_right (by decide) hg.2
 have h3:(2:Nat) ^ 64=18446744073709551616:=by decide
 omega
theorem D0h(ws:List Nat)(vs:List Int):Told (B4t ws vs) (A5c ws vs):=by
 unfold B4t A5c
 rcases h:A6q ws vs with⟨w,c,p⟩
 dsimp only
 by_cases hc:c=0
 ·subst hc
  have:=G0t h
  simp only[if_true,Told]
  rw[Int.toNat_of_nonneg this]
 ·rw[if_neg hc,if_neg hc]
  have hw:w=0:=by
   unfold A6q at h
   split at h
   ·cases h;rfl
   ·split at h
    ·cases h;rfl
    ·cases h;exact absurd rfl hc
  subst hw
  cases p with
  |none=>exact⟨_,rfl,rfl⟩
  |some i=>exact⟨_,rfl,rfl⟩
theorem F6m(s:St)(hs:s.wf):∃r,FX 156 s.ds=some r∧Told (stW s) r:=by
 obtain⟨k,f,g,l,n⟩:=s
 obtain⟨h1,h2,h3,h4⟩:=hs
 unfold St.ds stW
 dsimp only at h1 h2 h3 h4⊢
 rw[F5r,clay]
 by_cases h:k>8
 ·have hcode:(D.iface 45 (.int 5)).isNil=false:=rfl
  simp only[D.toInt_int,h,decide_true,if_true,C1e _ _ hcode,A0b,List.length_cons,List.length_nil,List.getD_cons_zero]
  exact⟨_,rfl,_,rfl,rfl⟩
 ·have hp:=E4z cws E1s [k,fl f,g,l,n] (by
   intro z hz
   simp only[List.mem_cons,List.not_mem_nil,or_false]at hz
   unfold In at h1 h2 h3 h4
   have:fl f≤1:=by unfold fl;split<;>omega
   omega)
  have ht:=D0h cws [k,fl f,g,l,n]
  have hb:(D.agg ((D.int k)::((if f then D.int 1 else D.int 0)::((D.agg ((D.int g)::((D.int l)::((D.int n)::[]))))).toL)))=vsD [k,fl f,g,l,n]:=by cases f<;>rfl
  refine⟨A5c cws [k,fl f,g,l,n],?_,by rw[if_neg h];exact ht⟩
  have hl:(A5c cws [k,fl f,g,l,n])=[(A5c cws [k,fl f,g,l,n]).getD 0 D.nil,(A5c cws [k,fl f,g,l,n]).getD 1 D.nil]:=by
   unfold A5c;rcases A6q cws [k,fl f,g,l,n]with⟨_,_,_⟩;rfl
  have hlen:(A5c cws [k,fl f,g,l,n]).length=2:=by rw[hl];rfl
  cases f
  ·simp only[Bool.false_eq_true,if_false]at hb
   simp only[D.toInt_int,h,decide_false,Bool.false_eq_true,if_false,A0b,List.length_cons,List.length_nil,if_true,List.getD_cons_zero,hb,D.A0y,hp,hlen]
   rw[←hl]
  ·simp only[if_true]at hb
   simp only[D.toInt_int,h,decide_false,Bool.false_eq_true,if_false,A0b,List.length_cons,List.length_nil,if_true,List.getD_cons_zero,hb,D.A0y,hp,hlen]
   rw[←hl]
theorem G6r(t:Tm)(hs:t.wf):∃r,FX 162 t.ds=some r∧Told (tmW t) r:=by
 have hp:=E4z tws E8z t.vs (fun z hz=>(hs z hz).2)
 have ht:=D0h tws t.vs
 refine⟨A5c tws t.vs,?_,ht⟩
 have hb:D.agg (.int t.name::.int t.side::.int t.A0j::.int t.least::.int t.A1l::[])=vsD t.vs:=rfl
 have hl:(A5c tws t.vs)=[(A5c tws t.vs).getD 0 D.nil,(A5c tws t.vs).getD 1 D.nil]:=by
  unfold A5c;rcases A6q tws t.vs with⟨_,_,_⟩;rfl
 have hlen:(A5c tws t.vs).length=2:=by rw[hl];rfl
 unfold Tm.ds
 rw[F3w,tlay]
 simp only[A0b,List.length_cons,List.length_nil,if_true,List.getD_cons_zero,hb,hp,hlen]
 rw[←hl]
theorem G8n(r:Rc)(hs:r.wf):∃z,FX 135 r.ds=some z∧Told (rcW r) z:=by
 have hp:=E4z rws E8p r.vs (fun z hz=>(hs z hz).2)
 have ht:=D0h rws r.vs
 have hb:D.agg (.int r.k::.int r.q::.int r.p::.int r.t::.int r.c::.int r.g::[])=vsD r.vs:=rfl
 have hl:(A5c rws r.vs)=[(A5c rws r.vs).getD 0 D.nil,(A5c rws r.vs).getD 1 D.nil]:=by
  unfold A5c;rcases A6q rws r.vs with⟨_,_,_⟩;rfl
 have hlen:(A5c rws r.vs).length=2:=by rw[hl];rfl
 unfold Rc.ds rcW
 rw[E7v,rlay]
 by_cases h:r.k>5
 ·have hcode:(D.iface 45 (.int 5)).isNil=false:=rfl
  simp only[D.toInt_int,h,decide_true,if_true,C1e _ _ hcode,A0b,List.length_cons,List.length_nil,List.getD_cons_zero]
  exact⟨_,rfl,_,rfl,rfl⟩
 ·refine⟨A5c rws r.vs,?_,by rw[if_neg h];exact ht⟩
  simp only[D.toInt_int,h,decide_false,Bool.false_eq_true,if_false,A0b,List.length_cons,List.length_nil,if_true,List.getD_cons_zero,hb,hp,hlen]
  rw[←hl]
def St.live(s:St):Bool:=decide (1≤s.k)&&decide (s.k≤4)
def St.over(s:St):Bool:=decide (5≤s.k)&&decide (s.k≤8)
def St.loose(s:St):Bool:=s.k == 1 || s.k == 2
def St.held(s:St):Bool:=s.k == 3 || s.k == 4
def St.hold(s:St):St:=if s.k=1 then {s with k:=3} else if s.k=2 then {s with k:=4} else s
def St.A6w(s:St):St:=if s.k=3 then {s with k:=1} else if s.k=4 then {s with k:=2} else s
def St.ended(s:St)(m:Int):St:=if s.l=0 then {s with k:=5,f:=false} else if s.n≥m then {s with k:=8,f:=false} else s
def A6v(s:St)(q m:Int):Int × St:=if s.loose=false then(27,.zero)else if q<1∨q>s.l then(23,.zero)else if s.n≥m then(4,.zero)else(0,St.ended {s with l:=s.l-q,n:=s.n+1} m)
def A6b(s:St)(m:Int):St:=if(St.ended s.A6w m).f then {St.ended s.A6w m with k:=6,f:=false} else St.ended s.A6w m
def A1q(s:St)(q m:Int):Int × St:=if s.held=false then(1,.zero)else if q<0∨q>s.l then(23,.zero)else if q>0 then(if s.n≥m then(4,.zero)else(0,A6b {s with l:=s.l-q,n:=s.n+1} m))else(0,A6b s m)
def A1k(s:St):Int × St:=if s.k=1∨s.k=2 then(0,{s with k:=6})else if s.k=3∨s.k=4 then(0,{s with f:=true})else(29,.zero)
def A1t(s:St):Int × St:=if s.loose=false then(27,.zero)else(0,{s with k:=7})
def A2z(s:St):Int × St:=if s.k=1 then(0,{s with k:=2})else(29,.zero)
def A7o(s:St)(q m:Int):Int × St:=if s.live then(27,.zero)else if s.g≥m then(28,.zero)else if q<1∨q>9999 then(23,.zero)else(0,⟨1,false,s.g+1,q,0⟩)
def A2b(r:Int × St):List D:=r.2.ds++[er r.1]
theorem F1w(k:Int)(x1 x2 x3 x4:D):FX 154 [.int k,x1,x2,x3,x4]=some [.bool (k == 1 || k == 2)]:=by
 rw[F2v]
 by_cases h1:k=1
 ·simp[h1]
 ·by_cases h2:k=2<;>simp[h1,h2]
theorem F7h(k:Int)(x1 x2 x3 x4:D):FX 48 [.int k,x1,x2,x3,x4]=some [.bool (k == 3 || k == 4)]:=by
 rw[F5m]
 by_cases h1:k=3
 ·simp[h1]
 ·by_cases h2:k=4<;>simp[h1,h2]
theorem F6t(k:Int)(x1 x2 x3 x4:D):FX 165 [.int k,x1,x2,x3,x4]=some [.bool (decide (5≤k)&&decide (k≤8))]:=by
 rw[F5k]
 by_cases h1:5≤k
 ·by_cases h2:k≤8<;>simp[h1,h2]
 ·simp[h1]
theorem F6n(k:Int)(x1 x2 x3 x4:D):FX 169 [.int k,x1,x2,x3,x4]=some [.bool (decide (1≤k)&&decide (k≤4))]:=by
 rw[F4r]
 by_cases h1:1≤k
 ·by_cases h2:k≤4<;>simp[h1,h2]
 ·simp[h1]
theorem H1r(s:St):FX 171 s.ds=some s.hold.ds:=by
 unfold St.ds St.hold
 rw[F5x]
 by_cases h1:s.k=1
 ·simp[h1]
 by_cases h2:s.k=2
 ·simp[h1,h2]
 ·simp[h1,h2]
theorem G2w(k:Int)(x1 x2 x3 x4:D):FX 177 [.int k,x1,x2,x3,x4]=some [.int (if k=3 then 1 else if k=4 then 2 else k),x1,x2,x3,x4]:=by
 rw[E7q]
 by_cases h1:k=3
 ·simp[h1]
 by_cases h2:k=4
 ·simp[h1,h2]
 ·simp[h1,h2]
theorem E9x(k:Int)(f:Bool)(g l n m:Int):FX 176 [.int k,.bool f,.int g,.int l,.int n,.int m]=some (St.ended ⟨k,f,g,l,n⟩ m).ds:=by
 unfold St.ds St.ended
 rw[F2z]
 by_cases h1:l=0
 ·simp[h1]
 by_cases h2:n≥m
 ·simp[h1,h2]
 ·simp[h1,h2]
theorem H2q(s:St)(hs:s.wf)(q m:Int)(hm:m≤100):FX 173 (s.ds++[.int q,.int m])=some (A2b (A6v s q m)):=by
 obtain⟨k,f,g,l,n⟩:=s
 obtain⟨h1,h2,h3,h4⟩:=hs
 dsimp only[In]at h1 h2 h3 h4
 unfold St.ds A6v A2b St.loose
 dsimp only[List.cons_append,List.nil_append]
 rw[F6f,F1w]
 simp only[A0b,List.length_cons,List.length_nil,if_true,List.getD_cons_zero,D.A0y,D.toInt_int]
 cases h0:(k == 1 || k == 2)
 ·simp only[Bool.not_false,if_true];rfl
 simp only[Bool.not_true,Bool.false_eq_true,if_false,reduceCtorEq]
 by_cases a1:q<1
 ·simp only[a1,decide_true,if_true,true_or];rfl
 by_cases a2:q>l
 ·simp only[a1,a2,decide_true,decide_false,Bool.false_eq_true,if_false,if_true,or_true];rfl
 by_cases a3:n≥m
 ·simp only[a1,a2,a3,decide_true,decide_false,Bool.false_eq_true,if_false,if_true,or_self];rfl
 rw[A0t (l-q) (by omega) (by omega),A0t (n+1) (by omega) (by omega),E9x]
 simp only[a1,a2,a3,decide_false,Bool.false_eq_true,if_false,or_self,E4i]
 rfl
theorem G0z(s:St)(hs:s.wf)(q m:Int)(hm:m≤100):FX 174 (s.ds++[.int q,.int m])=some (A2b (A1q s q m)):=by
 obtain⟨k,f,g,l,n⟩:=s
 obtain⟨h1,h2,h3,h4⟩:=hs
 dsimp only[In]at h1 h2 h3 h4
 have fin:∀l' n':Int,(A0b (FX 177 [.int k,.bool f,.int g,.int l',.int n']) 5 fun r8=>
      A0b (FX 176 [(r8.getD 0 D.nil),(r8.getD 1 D.nil),(r8.getD 2 D.nil),(r8.getD 3 D.nil),(r8.getD 4 D.nil),.int m]) 5 fun r13=>
      if((r13.getD 1 D.nil)).toBool=true then
      some [(D.int (6:Int)),(D.bool false),(r13.getD 2 D.nil),(r13.getD 3 D.nil),(r13.getD 4 D.nil),D.nil]
      else
      some [(r13.getD 0 D.nil),(r13.getD 1 D.nil),(r13.getD 2 D.nil),(r13.getD 3 D.nil),(r13.getD 4 D.nil),D.nil])=some (A2b (0,A6b ⟨k,f,g,l',n'⟩ m)):=by
  intro l' n'
  have hl:(St.A6w ⟨k,f,g,l',n'⟩)=⟨if k=3 then 1 else if k=4 then 2 else k,f,g,l',n'⟩:=by
   unfold St.A6w
   split
   ·rfl
   ·split<;>rfl
  simp only[G2w,A0b,List.length_cons,List.length_nil,if_true,List.getD_cons_zero,List.getD_cons_succ,E9x]
  unfold A6b A2b
  rw[hl]
  generalize St.ended ⟨if k=3 then 1 else if k=4 then 2 else k,f,g,l',n'⟩ m=z
  obtain⟨k',f',g',l2,n2⟩:=z
  simp only[St.ds,List.length_cons,List.length_nil,if_true,List.getD_cons_zero,List.getD_cons_succ,D.A0y,E4i]
  cases f'
  ·rfl
  ·rfl
 unfold St.ds A1q A2b St.held
 dsimp only[List.cons_append,List.nil_append]
 rw[E3s,F7h]
 simp only[A0b,List.length_cons,List.length_nil,if_true,List.getD_cons_zero,D.A0y,D.toInt_int]at fin⊢
 cases h0:(k == 3 || k == 4)
 ·simp only[Bool.not_false,if_true];rfl
 simp only[Bool.not_true,Bool.false_eq_true,if_false,reduceCtorEq]
 by_cases a1:q<0
 ·simp only[a1,decide_true,if_true,true_or];rfl
 by_cases a2:q>l
 ·simp only[a1,a2,decide_true,decide_false,Bool.false_eq_true,if_false,if_true,or_true];rfl
 by_cases a3:q>0
 ·by_cases a4:n≥m
  ·simp only[a1,a2,a3,a4,decide_true,decide_false,Bool.false_eq_true,if_false,if_true,or_self];rfl
  rw[A0t (l-q) (by omega) (by omega),A0t (n+1) (by omega) (by omega),fin]
  simp only[a1,a2,a3,a4,decide_true,decide_false,Bool.false_eq_true,if_false,if_true,or_self];rfl
 ·rw[fin l n]
  simp only[a1,a2,a3,decide_false,Bool.false_eq_true,if_false,or_self];rfl
theorem G3s(s:St):FX 166 s.ds=some (A2b (A1k s)):=by
 unfold St.ds A2b A1k
 rw[E8d]
 by_cases h1:s.k=1
 ·simp[h1,St.ds,er]
 by_cases h2:s.k=2
 ·simp[h1,h2,St.ds,er]
 by_cases h3:s.k=3
 ·simp[h1,h2,h3,St.ds,er]
 by_cases h4:s.k=4
 ·simp[h1,h2,h3,h4,St.ds,er]
 ·simp[h1,h2,h3,h4,St.ds,er,St.zero,code]
theorem G1x(s:St):FX 130 s.ds=some (A2b (A1t s)):=by
 unfold St.ds A2b A1t St.loose
 rw[E7p,F1w]
 cases h:(s.k == 1 || s.k == 2)
 ·simp[A0b,St.ds,er,St.zero,code]
 ·simp[A0b,St.ds,er,St.zero,code]
theorem G0u(s:St):FX 164 s.ds=some (A2b (A2z s)):=by
 unfold St.ds A2b A2z
 rw[E3x]
 by_cases h1:s.k=1
 ·simp[h1,St.ds,er]
 ·simp[h1,St.ds,er,St.zero,code]
theorem G5q(s:St)(hs:s.wf)(q m:Int)(hm:m≤100):FX 161 (s.ds++[.int q,.int m])=some (A2b (A7o s q m)):=by
 obtain⟨k,f,g,l,n⟩:=s
 obtain⟨h1,h2,h3,h4⟩:=hs
 dsimp only[In]at h1 h2 h3 h4
 unfold St.ds A7o A2b St.live
 dsimp only[List.cons_append,List.nil_append]
 rw[F2c,F6n]
 simp only[A0b,List.length_cons,List.length_nil,if_true,List.getD_cons_zero,D.A0y,D.toInt_int]
 cases h0:(decide (1≤k)&&decide (k≤4))
 ·simp only[Bool.false_eq_true,if_false]
  by_cases a1:g≥m
  ·simp only[a1,decide_true,if_true];rfl
  by_cases a2:q<1
  ·simp only[a1,a2,decide_true,decide_false,Bool.false_eq_true,if_false,if_true,true_or];rfl
  by_cases a3:q>9999
  ·simp only[a1,a2,a3,decide_true,decide_false,Bool.false_eq_true,if_false,if_true,or_true];rfl
  rw[A0t (g+1) (by omega) (by omega)]
  simp only[a1,a2,a3,decide_false,Bool.false_eq_true,if_false,or_self];rfl
 ·simp only[if_true];rfl
def A7v(s:St)(t:Int):Option Rc:=if s.over then some ⟨s.k-3,s.l,s.n,t,0,0⟩else none
def A4j:Option Rc→List D
 |some r=>r.ds++[.bool true]
 |none=>Rc.zero.ds++[.bool false]
theorem H3x(s:St)(t:Int):FX 119 (s.ds++[.int t])=some (A4j (A7v s t)):=by
 unfold St.ds A7v St.over
 dsimp only[List.cons_append,List.nil_append]
 rw[F2k]
 by_cases h1:s.k=5
 ·simp[h1,A4j,Rc.ds]
 by_cases h2:s.k=6
 ·simp[h2,A4j,Rc.ds]
 by_cases h3:s.k=7
 ·simp[h3,A4j,Rc.ds]
 by_cases h4:s.k=8
 ·simp[h4,A4j,Rc.ds]
 ·have:(decide (5≤s.k)&&decide (s.k≤8))=false:=by
   by_cases a:5≤s.k
   ·have:¬s.k≤8:=by omega
    simp[this]
   ·simp[a]
  simp[h1,h2,h3,h4,this,A4j,Rc.zero,Rc.ds]
def Rc.D5t(r:Rc):Bool:=decide (r.k≥2)&&decide (r.k≤5)
theorem G5e(r:Rc):FX 168 r.ds=some [.bool r.D5t]:=by
 unfold Rc.ds Rc.D5t
 rw[E3n]
 by_cases h1:r.k≥2
 ·simp only[D.toInt_int,h1,decide_true,if_true,Bool.true_and]
  rfl
 ·simp only[D.toInt_int,h1,decide_false,Bool.false_eq_true,if_false,Bool.false_and]
def B1b(gen n:Int)(a e:Rc):Rc × Int × Int:=if a.k=1 then({a with c:=0,g:=0},gen,n+1)else if e.D5t=true∧e.p=n then(e,gen+1,0)else(.zero,gen,n)
theorem H2k(gen n:Int)(hg:In (gen+1))(hn:In (n+1))(a e:Rc):FX 145 ([.int gen,.int n]++a.ds++e.ds)=some ((B1b gen n a e).1.ds++[.int (B1b gen n a e).2.1,.int (B1b gen n a e).2.2]):=by
 have he:=G5e e
 unfold Rc.ds at he
 unfold Rc.ds B1b
 dsimp only[List.cons_append,List.nil_append]
 rw[E7k,he]
 simp only[D.toInt_int,hg.w,hn.w,A0b,List.length_cons,List.length_nil,if_true,List.getD_cons_zero,D.A0y]
 by_cases h1:a.k=1
 ·simp[h1,Rc.ds]
 by_cases h2:e.D5t=true
 ·by_cases h3:e.p=n
  ·simp[h1,h2,h3,Rc.ds]
  ·simp[h1,h2,h3,Rc.ds,Rc.zero]
 ·simp[h1,h2,Rc.ds,Rc.zero]
section
variable(c:Cf)(hc:c.ok)
def A0p(c:Cf):Int:=c.c0*c.c1
include hc in
theorem A5b:1≤A0p c∧A0p c≤24:=by
 obtain⟨⟨h1,h2⟩,⟨h3,h4⟩,_⟩:=hc
 have a:c.c0=1∨c.c0=2∨c.c0=3∨c.c0=4∨c.c0=5∨c.c0=6:=by omega
 unfold A0p
 rcases a with a|a|a|a|a|a<;>rw[a]<;>omega
include hc in
theorem all_eq:FX 38 c.ds=some [.int (A0p c)]:=by
 have:=A5b c hc
 unfold RU.Cf.ds
 rw[D6a]
 simp only[D.toInt_int]
 rw[A0t _ (by unfold A0p at this;omega) (by unfold A0p at this;omega)];rfl
def A0o(c:Cf)(part i:Int):Int:=if part<0∨part≥c.c0∨i<0∨i≥c.c1 then -1 else part*c.c1+i
theorem D3s{part i:Int}(h:0≤A0o c part i):(0≤part∧part<c.c0)∧(0≤i∧i<c.c1)∧A0o c part i=part*c.c1+i∧A0o c part i<A0p c:=by
 unfold A0o at h⊢
 split at h
 ·omega
 rename_i hn
 rw[if_neg hn]
 have h1:part+1≤c.c0:=by omega
 have h2:=Int.mul_le_mul_of_nonneg_right h1 (show 0≤c.c1 by omega)
 rw[Int.add_mul,Int.one_mul]at h2
 unfold A0p
 refine⟨by omega,by omega,rfl,by omega⟩
include hc in
theorem F7m(part i:Int):FX 139 (c.ds++[.int part,.int i])=some [.int (A0o c part i)]:=by
 have hb:=D3s c (part:=part) (i:=i)
 have hal:=A5b c hc
 unfold RU.Cf.ds
 dsimp only[List.cons_append,List.nil_append]
 rw[D2l]
 simp only[D.toInt_int]
 unfold A0o at hb⊢
 by_cases h1:part<0
 ·simp[h1]
 by_cases h2:part≥c.c0
 ·simp[h1,h2]
 by_cases h3:i<0
 ·simp[h1,h2,h3]
 by_cases h4:i≥c.c1
 ·simp[h1,h2,h3,h4]
 have hn:¬(part<0∨part≥c.c0∨i<0∨i≥c.c1):=by omega
 rw[if_neg hn]at hb⊢
 have h5:0≤part*c.c1:=Int.mul_nonneg (by omega) (by omega)
 have:=hb (by omega)
 rw[A0t (part*c.c1) (by omega) (by omega),A0t _ (by omega) (by omega)]
 simp only[h1,h2,h3,h4,decide_false,Bool.false_eq_true,if_false]
def A5f(c:Cf)(x:Int):Int:=if x<0∨x≥A0p c then -1 else x/c.c1
include hc in
theorem G6z(x:Int):FX 97 (c.ds++[.int x])=some [.int (A5f c x)]:=by
 have ha:=all_eq c hc
 have hb:=A5b c hc
 obtain⟨_,⟨h3,h4⟩,_⟩:=hc
 unfold RU.Cf.ds at ha⊢
 dsimp only[List.cons_append,List.nil_append]
 rw[D1n,ha]
 unfold A5f
 simp only[D.toInt_int,A0b,List.length_cons,List.length_nil,if_true,List.getD_cons_zero]
 by_cases h1:x<0
 ·simp[h1]
 by_cases h2:x≥A0p c
 ·simp[h1,h2]
 have h5:(c.c1 != 0)=true:=by simp;omega
 have h6:x.tdiv c.c1=x/c.c1:=Int.tdiv_eq_ediv_of_nonneg (by omega)
 have h7:0≤x/c.c1:=Int.ediv_nonneg (by omega) (by omega)
 have h8:x/c.c1≤x:=Int.ediv_le_self _ (by omega)
 rw[h6,A0t _ (by omega) (by omega)]
 simp only[h1,h2,h5,decide_false,Bool.false_eq_true,if_false,if_true,or_self]
def B0w(c:Cf)(p:Int):Int:=if p<1∨p>9999 then -1 else(p-1)*c.c3/9999
include hc in
theorem G1z(p:Int):-1≤B0w c p∧B0w c p<c.c3:=by
 obtain⟨_,_,_,⟨h3,h4⟩,_⟩:=hc
 unfold B0w
 split
 ·omega
 ·have h0:(p-1)*c.c3<9999*c.c3:=Int.mul_lt_mul_of_pos_right (by omega) (by omega)
  have h1:0≤(p-1)*c.c3:=Int.mul_nonneg (by omega) (by omega)
  omega
include hc in
theorem F7t(p:Int):FX 96 (c.ds++[.int p])=some [.int (B0w c p)]:=by
 obtain⟨_,_,_,⟨h3,h4⟩,_⟩:=hc
 unfold RU.Cf.ds
 dsimp only[List.cons_append,List.nil_append]
 rw[D3f]
 unfold B0w
 simp only[D.toInt_int]
 by_cases h1:p<1
 ·simp[h1]
 by_cases h2:p>9999
 ·simp[h1,h2]
 have h0:(p-1)*c.c3≤9998*4:=by
  have:=Int.mul_le_mul (show p-1≤9998 by omega) h4 (by omega) (by omega)
  exact this
 have h5:0≤(p-1)*c.c3:=Int.mul_nonneg (by omega) (by omega)
 rw[A0t (p-1) (by omega) (by omega),A0t ((p-1)*c.c3) (by omega) (by omega),Int.tdiv_eq_ediv_of_nonneg h5,A0t _ (by omega) (by omega)]
 simp only[h1,h2,decide_false,Bool.false_eq_true,if_false,or_self]
def C7f(c:Cf)(name band:Int):Int:=if name<0∨name≥c.c2∨band<0∨band≥c.c3 then -1 else name*c.c3+band
def A4b(c:Cf):Int:=c.c2*c.c3
include hc in
theorem B1c:1≤A4b c∧A4b c≤12:=by
 obtain⟨_,_,⟨h1,h2⟩,⟨h3,h4⟩,_⟩:=hc
 have a:c.c2=1∨c.c2=2∨c.c2=3:=by omega
 unfold A4b
 rcases a with a|a|a<;>rw[a]<;>omega
include hc in
theorem E6c:FX 43 c.ds=some [.int (A4b c)]:=by
 have:=B1c c hc
 unfold RU.Cf.ds
 rw[D0k]
 simp only[D.toInt_int]
 rw[A0t _ (by unfold A4b at this;omega) (by unfold A4b at this;omega)];rfl
include hc in
theorem F0v(name band:Int):FX 155 (c.ds++[.int name,.int band])=some [.int (C7f c name band)]:=by
 have hb:=B1c c hc
 unfold RU.Cf.ds
 dsimp only[List.cons_append,List.nil_append]
 rw[D1q]
 simp only[D.toInt_int]
 unfold C7f
 by_cases h1:name<0
 ·simp[h1]
 by_cases h2:name≥c.c2
 ·simp[h1,h2]
 by_cases h3:band<0
 ·simp[h1,h2,h3]
 by_cases h4:band≥c.c3
 ·simp[h1,h2,h3,h4]
 have h5:0≤name*c.c3:=Int.mul_nonneg (by omega) (by omega)
 have h6:=Int.mul_le_mul_of_nonneg_right (show name+1≤c.c2 by omega) (show 0≤c.c3 by omega)
 rw[Int.add_mul,Int.one_mul]at h6
 unfold A4b at hb
 rw[A0t (name*c.c3) (by omega) (by omega),A0t _ (by omega) (by omega)]
 simp only[h1,h2,h3,h4,decide_false,Bool.false_eq_true,if_false,or_self]
def B2h(c:Cf)(t:Tm):Int:=C7f c t.name (B0w c t.A0j)
include hc in
theorem G1q(t:Tm):FX 131 (c.ds++t.ds)=some [.int (B2h c t)]:=by
 have h1:=F7t c hc t.A0j
 have h2:=F0v c hc t.name (B0w c t.A0j)
 unfold RU.Cf.ds at h1 h2⊢
 unfold Tm.ds
 dsimp only[List.cons_append,List.nil_append]at h1 h2⊢
 rw[E7t,h1]
 simp only[A0b,List.length_cons,List.length_nil,if_true,List.getD_cons_zero,h2]
 rfl
def A6s(c:Cf)(x gen n:Int):Int:=if x<0∨x≥A0p c∨gen<1∨gen>c.c6∨n<0∨n>c.c5 then -1 else A0p c*2+(x*c.c6+gen-1)*(c.c5+1)+n
include hc in
theorem F7b(x gen n:Int):FX 137 (c.ds++[.int x,.int gen,.int n])=some [.int (A6s c x gen n)]:=by
 have ha:=all_eq c hc
 have hb:=A5b c hc
 obtain⟨_,_,_,_,_,⟨h3,h4⟩,h5,h6⟩:=hc
 unfold RU.Cf.ds at ha⊢
 dsimp only[List.cons_append,List.nil_append]
 rw[C9b,ha]
 unfold A6s
 simp only[D.toInt_int,A0b,List.length_cons,List.length_nil,if_true,List.getD_cons_zero]
 by_cases a1:x<0
 ·simp[a1]
 by_cases a2:x≥A0p c
 ·simp[a1,a2]
 by_cases a3:gen<1
 ·simp[a1,a2,a3]
 by_cases a4:gen>c.c6
 ·simp[a1,a2,a3,a4]
 by_cases a5:n<0
 ·simp[a1,a2,a3,a4,a5]
 by_cases a6:n>c.c5
 ·simp[a1,a2,a3,a4,a5,a6]
 have b1:0≤x*c.c6:=Int.mul_nonneg (by omega) (by omega)
 have b2:x*c.c6≤24*15:=Int.mul_le_mul (by omega) (by omega) (by omega) (by omega)
 have b3:0≤(x*c.c6+gen-1)*(c.c5+1):=Int.mul_nonneg (by omega) (by omega)
 have b4:(x*c.c6+gen-1)*(c.c5+1)≤(24*15+15)*5:=Int.mul_le_mul (by omega) (by omega) (by omega) (by omega)
 rw[A0t (A0p c*2) (by omega) (by omega),A0t (x*c.c6) (by omega) (by omega),A0t (x*c.c6+gen) (by omega) (by omega),A0t (x*c.c6+gen-1) (by omega) (by omega),A0t (c.c5+1) (by omega) (by omega),A0t ((x*c.c6+gen-1)*(c.c5+1)) (by omega) (by omega),A0t (A0p c*2+(x*c.c6+gen-1)*(c.c5+1)) (by omega) (by omega),A0t _ (by omega) (by omega)]
 simp only[a1,a2,a3,a4,a5,a6,decide_false,Bool.false_eq_true,if_false,or_self]
end
def F2s(a b:Int):Int:=a+(b-a)/2
theorem H3v(a b:Int)(h:a≤b)(h0:0≤a)(h1:b<65536):FX 121 [.int a,.int b]=some [.int (F2s a b)]:=by
 rw[F4z,F9z]
 have hn:¬b<a:=by omega
 simp only[D.toInt_int,hn,decide_false,Bool.false_eq_true,if_false,A0b,List.length_cons,List.length_nil,if_true,List.getD_cons_zero]
 rw[A0t (b-a) (by omega) (by omega),Int.tdiv_eq_ediv_of_nonneg (by omega),A0t ((b-a)/2) (by omega) (by omega),A0t (a+(b-a)/2) (by omega) (by omega),A0t _ (by omega) (by omega),Int.sub_zero]
 rfl
def A8o(a b buy sell:Tm)(l o:Int):Int × Int:=
 if buy.side≠0∨sell.side≠1∨a.name≠b.name then(0,0)
 else if buy.A0j<sell.A0j∨(if o<l then o else l)<1∨(if o<l then o else l)<(if b.least>a.least then b.least else a.least)then(0,0)
 else(if o<l then o else l,F2s sell.A0j buy.A0j)
def A7q(a b:Tm)(l o:Int):Int × Int:=if a.side=1 then A8o a b b a l o else A8o a b a b l o
theorem G8f(a b:Tm)(ha:a.sm)(hb:b.sm)(l o:Int):FX 103 (a.ds++b.ds++[.int l,.int o])=some [.int (A7q a b l o).1,.int (A7q a b l o).2]:=by
 have key:∀buy sell:Tm,buy.sm→sell.sm→B2o (.int a.name) (.int a.side) (.int a.A0j) (.int a.least) (.int a.A1l) (.int b.name) (.int b.side) (.int b.A0j) (.int b.least) (.int b.A1l) (.int l) (.int o) (buy.ds++sell.ds)=some [.int (A8o a b buy sell l o).1,.int (A8o a b buy sell l o).2]:=by
  intro buy sell h1 h2
  unfold Tm.ds A8o
  dsimp only[List.cons_append,List.nil_append]
  rw[D4q]
  have e:(if(decide ((D.int o).toInt<(D.int l).toInt))=true then D.int o else D.int l)=D.int (if o<l then o else l):=by
   simp only[D.toInt_int]
   by_cases h:o<l
   ·simp[h]
   ·simp[h]
  have e2:(if(decide ((D.int b.least).toInt>(D.int a.least).toInt))=true then D.int b.least else D.int a.least)=D.int (if b.least>a.least then b.least else a.least):=by
   simp only[D.toInt_int]
   by_cases h:b.least>a.least
   ·simp only[h,decide_true,if_true]
   ·simp only[h,decide_false,Bool.false_eq_true,if_false]
  dsimp only
  rw[e,e2]
  generalize (if o<l then o else l)=q
  generalize (if b.least>a.least then b.least else a.least)=m
  simp only[D.toInt_int]
  by_cases a1:buy.side=0
  ·by_cases a2:sell.side=1
   ·by_cases a3:a.name=b.name
    ·have a0:¬(buy.side≠0∨sell.side≠1∨a.name≠b.name):=by simp[a1,a2,a3]
     rw[if_neg a0]
     have s1:(buy.side != 0)=false:=by simp[a1]
     have s2:(sell.side != 1)=false:=by simp[a2]
     have s3:(a.name != b.name)=false:=by simp[a3]
     simp only[s1,s2,s3,Bool.false_eq_true,if_false]
     by_cases a4:buy.A0j<sell.A0j
     ·simp only[a4,decide_true,if_true,true_or]
     by_cases a5:q<1
     ·simp only[a4,a5,decide_true,decide_false,Bool.false_eq_true,if_false,if_true,true_or,or_true]
     by_cases a6:q<m
     ·simp only[a4,a5,a6,decide_true,decide_false,Bool.false_eq_true,if_false,if_true,or_true]
     have:=H3v sell.A0j buy.A0j (by omega) h2.2.2.1.1 h1.2.2.1.2
     simp only[a4,a5,a6,decide_false,Bool.false_eq_true,if_false,or_self,this,A0b,List.length_cons,List.length_nil,if_true,List.getD_cons_zero]
    ·simp[a1,a2,a3]
   ·simp[a1,a2]
  ·simp[a1]
 unfold A7q
 by_cases h:a.side=1
 ·have:=key b a hb ha
  unfold Tm.ds at this⊢
  dsimp only[List.cons_append,List.nil_append]at this⊢
  rw[D1h,if_pos h]
  simp only[D.toInt_int,h,beq_self_eq_true,if_true]at this⊢
  exact this
 ·have:=key a b ha hb
  unfold Tm.ds at this⊢
  dsimp only[List.cons_append,List.nil_append]at this⊢
  have h':(a.side == 1)=false:=by simp[h]
  rw[D1h,if_neg h]
  simp only[D.toInt_int,h',Bool.false_eq_true,if_false]
  exact this
end
section
def wN(x:Nat):D:=D.int (x:Int)
theorem C9o(x:Nat):(wN x).toInt=(x:Int):=rfl
theorem H3w(x:Nat):(wN x).isNil=false:=rfl
theorem rng{n:Nat}{l:List D}(h:l.length=n):((List.range n).map fun j=>l.getD j D.nil)=l:=by
 subst h
 apply List.ext_getElem
 ·simp
 ·intro i h1 h2
  simp[List.getD_eq_getElem?_getD,List.getElem?_eq_getElem h2]
def St.d(s:St):D:=.agg s.ds
theorem St.len(s:St):s.ds.length=5:=by simp only[St.ds,List.length_cons,List.length_nil]
theorem St.A1i(s:St):s.ds.getD 0 D.nil=.int s.k:=rfl
theorem St.A1h(s:St):s.ds.getD 1 D.nil=.bool s.f:=rfl
theorem St.A1p(s:St):s.ds.getD 2 D.nil=.int s.g:=rfl
theorem St.A1v(s:St):s.ds.getD 3 D.nil=.int s.l:=rfl
theorem St.A1u(s:St):s.ds.getD 4 D.nil=.int s.n:=rfl
def Tm.d(s:Tm):D:=.agg s.ds
theorem Tm.len(s:Tm):s.ds.length=5:=by simp only[Tm.ds,List.length_cons,List.length_nil]
theorem Tm.A1i(s:Tm):s.ds.getD 0 D.nil=.int s.name:=rfl
theorem Tm.A1h(s:Tm):s.ds.getD 1 D.nil=.int s.side:=rfl
theorem Tm.A1p(s:Tm):s.ds.getD 2 D.nil=.int s.A0j:=rfl
theorem Tm.A1v(s:Tm):s.ds.getD 3 D.nil=.int s.least:=rfl
theorem Tm.A1u(s:Tm):s.ds.getD 4 D.nil=.int s.A1l:=rfl
def Rc.d(s:Rc):D:=.agg s.ds
theorem Rc.len(s:Rc):s.ds.length=6:=by simp only[Rc.ds,List.length_cons,List.length_nil]
theorem Rc.A1i(s:Rc):s.ds.getD 0 D.nil=.int s.k:=rfl
theorem Rc.A1h(s:Rc):s.ds.getD 1 D.nil=.int s.q:=rfl
theorem Rc.A1p(s:Rc):s.ds.getD 2 D.nil=.int s.p:=rfl
theorem Rc.A1v(s:Rc):s.ds.getD 3 D.nil=.int s.t:=rfl
theorem Rc.A1u(s:Rc):s.ds.getD 4 D.nil=.int s.c:=rfl
theorem Rc.A3b(s:Rc):s.ds.getD 5 D.nil=.int s.g:=rfl
theorem Cf.len(s:Cf):s.ds.length=7:=by simp only[RU.Cf.ds,List.length_cons,List.length_nil]
theorem Cf.A1i(s:Cf):s.ds.getD 0 D.nil=.int s.c0:=rfl
theorem Cf.A1h(s:Cf):s.ds.getD 1 D.nil=.int s.c1:=rfl
theorem Cf.A1p(s:Cf):s.ds.getD 2 D.nil=.int s.c2:=rfl
theorem Cf.A1v(s:Cf):s.ds.getD 3 D.nil=.int s.c3:=rfl
theorem Cf.A1u(s:Cf):s.ds.getD 4 D.nil=.int s.c4:=rfl
theorem Cf.A3b(s:Cf):s.ds.getD 5 D.nil=.int s.c5:=rfl
theorem Cf.A4n(s:Cf):s.ds.getD 6 D.nil=.int s.c6:=rfl
structure Ask where
 kind:Int
 id:Int
 cell:Int
 tm:Tm
 qty:Int
def Ask.ds(s:Ask):List D:=[.int s.kind,.int s.id,.int s.cell,.int s.tm.name,.int s.tm.side,.int s.tm.A0j,.int s.tm.least,.int s.tm.A1l,.int s.qty]
def Ask.d(s:Ask):D:=.agg s.ds
theorem Ask.len(s:Ask):s.ds.length=9:=by simp only[Ask.ds,List.length_cons,List.length_nil]
theorem Ask.A1i(s:Ask):s.ds.getD 0 D.nil=.int s.kind:=rfl
theorem Ask.A1h(s:Ask):s.ds.getD 1 D.nil=.int s.id:=rfl
theorem Ask.A1p(s:Ask):s.ds.getD 2 D.nil=.int s.cell:=rfl
theorem Ask.A1v(s:Ask):s.ds.getD 3 D.nil=.int s.tm.name:=rfl
theorem Ask.A1u(s:Ask):s.ds.getD 4 D.nil=.int s.tm.side:=rfl
theorem Ask.A3b(s:Ask):s.ds.getD 5 D.nil=.int s.tm.A0j:=rfl
theorem Ask.A4n(s:Ask):s.ds.getD 6 D.nil=.int s.tm.least:=rfl
theorem Ask.A7y(s:Ask):s.ds.getD 7 D.nil=.int s.tm.A1l:=rfl
theorem Ask.A6o(s:Ask):s.ds.getD 8 D.nil=.int s.qty:=rfl
structure Aim where
 way:Int
 x:Int
 gen:Int
 y:Int
 A3r:Int
def Aim.ds(s:Aim):List D:=[.int s.way,.int s.x,.int s.gen,.int s.y,.int s.A3r]
def Aim.d(s:Aim):D:=.agg s.ds
theorem Aim.len(s:Aim):s.ds.length=5:=by simp only[Aim.ds,List.length_cons,List.length_nil]
theorem Aim.A1i(s:Aim):s.ds.getD 0 D.nil=.int s.way:=rfl
theorem Aim.A1h(s:Aim):s.ds.getD 1 D.nil=.int s.x:=rfl
theorem Aim.A1p(s:Aim):s.ds.getD 2 D.nil=.int s.gen:=rfl
theorem Aim.A1v(s:Aim):s.ds.getD 3 D.nil=.int s.y:=rfl
theorem Aim.A1u(s:Aim):s.ds.getD 4 D.nil=.int s.A3r:=rfl
structure A5h where
 kind:Int
 left:Int
 E8s:Int
def A5h.ds(s:A5h):List D:=[.int s.kind,.int s.left,.int s.E8s]
def A5h.d(s:A5h):D:=.agg s.ds
theorem A5h.len(s:A5h):s.ds.length=3:=by simp only[A5h.ds,List.length_cons,List.length_nil]
theorem A5h.A1i(s:A5h):s.ds.getD 0 D.nil=.int s.kind:=rfl
theorem A5h.A1h(s:A5h):s.ds.getD 1 D.nil=.int s.left:=rfl
theorem A5h.A1p(s:A5h):s.ds.getD 2 D.nil=.int s.E8s:=rfl
structure Ev where
 kind:Int
 cell:Int
 gen:Int
 other:Int
 wth:Int
 tm:Tm
 qty:Int
 A0j:Int
 tick:Int
 fin:Int
def Ev.ds(s:Ev):List D:=[.int s.kind,.int s.cell,.int s.gen,.int s.other,.int s.wth,.int s.tm.name,.int s.tm.side,.int s.tm.A0j,.int s.tm.least,.int s.tm.A1l,.int s.qty,.int s.A0j,.int s.tick,.int s.fin]
def Ev.d(s:Ev):D:=.agg s.ds
theorem Ev.len(s:Ev):s.ds.length=14:=by simp only[Ev.ds,List.length_cons,List.length_nil]
theorem Ev.A1i(s:Ev):s.ds.getD 0 D.nil=.int s.kind:=rfl
theorem Ev.A1h(s:Ev):s.ds.getD 1 D.nil=.int s.cell:=rfl
theorem Ev.A1p(s:Ev):s.ds.getD 2 D.nil=.int s.gen:=rfl
theorem Ev.A1v(s:Ev):s.ds.getD 3 D.nil=.int s.other:=rfl
theorem Ev.A1u(s:Ev):s.ds.getD 4 D.nil=.int s.wth:=rfl
theorem Ev.A3b(s:Ev):s.ds.getD 5 D.nil=.int s.tm.name:=rfl
theorem Ev.A4n(s:Ev):s.ds.getD 6 D.nil=.int s.tm.side:=rfl
theorem Ev.A7y(s:Ev):s.ds.getD 7 D.nil=.int s.tm.A0j:=rfl
theorem Ev.A6o(s:Ev):s.ds.getD 8 D.nil=.int s.tm.least:=rfl
theorem Ev.A6z(s:Ev):s.ds.getD 9 D.nil=.int s.tm.A1l:=rfl
theorem Ev.B4s(s:Ev):s.ds.getD 10 D.nil=.int s.qty:=rfl
theorem Ev.B1j(s:Ev):s.ds.getD 11 D.nil=.int s.A0j:=rfl
theorem Ev.A9y(s:Ev):s.ds.getD 12 D.nil=.int s.tick:=rfl
theorem Ev.B0x(s:Ev):s.ds.getD 13 D.nil=.int s.fin:=rfl
structure Cur where
 gen:Int
 n:Int
def Cur.ds(s:Cur):List D:=[.int s.gen,.int s.n]
def Cur.d(s:Cur):D:=.agg s.ds
theorem Cur.len(s:Cur):s.ds.length=2:=by simp only[Cur.ds,List.length_cons,List.length_nil]
theorem Cur.A1i(s:Cur):s.ds.getD 0 D.nil=.int s.gen:=rfl
theorem Cur.A1h(s:Cur):s.ds.getD 1 D.nil=.int s.n:=rfl
structure Qe where
 a:Ask
 ev:Int
def Qe.ds(s:Qe):List D:=[.int s.a.kind,.int s.a.id,.int s.a.cell,.int s.a.tm.name,.int s.a.tm.side,.int s.a.tm.A0j,.int s.a.tm.least,.int s.a.tm.A1l,.int s.a.qty,.int s.ev]
def Qe.d(s:Qe):D:=.agg s.ds
theorem Qe.len(s:Qe):s.ds.length=10:=by simp only[Qe.ds,List.length_cons,List.length_nil]
theorem Qe.A1i(s:Qe):s.ds.getD 0 D.nil=.int s.a.kind:=rfl
theorem Qe.A1h(s:Qe):s.ds.getD 1 D.nil=.int s.a.id:=rfl
theorem Qe.A1p(s:Qe):s.ds.getD 2 D.nil=.int s.a.cell:=rfl
theorem Qe.A1v(s:Qe):s.ds.getD 3 D.nil=.int s.a.tm.name:=rfl
theorem Qe.A1u(s:Qe):s.ds.getD 4 D.nil=.int s.a.tm.side:=rfl
theorem Qe.A3b(s:Qe):s.ds.getD 5 D.nil=.int s.a.tm.A0j:=rfl
theorem Qe.A4n(s:Qe):s.ds.getD 6 D.nil=.int s.a.tm.least:=rfl
theorem Qe.A7y(s:Qe):s.ds.getD 7 D.nil=.int s.a.tm.A1l:=rfl
theorem Qe.A6o(s:Qe):s.ds.getD 8 D.nil=.int s.a.qty:=rfl
theorem Qe.A6z(s:Qe):s.ds.getD 9 D.nil=.int s.ev:=rfl
structure Dr where
 n:Int
 ev:Int
def Dr.ds(s:Dr):List D:=[.int s.n,.int s.ev]
def Dr.d(s:Dr):D:=.agg s.ds
theorem Dr.len(s:Dr):s.ds.length=2:=by simp only[Dr.ds,List.length_cons,List.length_nil]
theorem Dr.A1i(s:Dr):s.ds.getD 0 D.nil=.int s.n:=rfl
theorem Dr.A1h(s:Dr):s.ds.getD 1 D.nil=.int s.ev:=rfl
structure Rep where
 kind:Int
 code:Int
 tick:Int
 id:Int
 cell:Int
 asked:Bool
 rc:Rc
 looks:List A5h
def Rep.ds(s:Rep):List D:=[.int s.kind,.int s.code,.int s.tick,.int s.id,.int s.cell,.bool s.asked,.int s.rc.k,.int s.rc.q,.int s.rc.p,.int s.rc.t,.int s.rc.c,.int s.rc.g,.agg (s.looks.map A5h.d)]
def Rep.d(s:Rep):D:=.agg s.ds
theorem Rep.len(s:Rep):s.ds.length=13:=by simp only[Rep.ds,List.length_cons,List.length_nil]
theorem Rep.A1i(s:Rep):s.ds.getD 0 D.nil=.int s.kind:=rfl
theorem Rep.A1h(s:Rep):s.ds.getD 1 D.nil=.int s.code:=rfl
theorem Rep.A1p(s:Rep):s.ds.getD 2 D.nil=.int s.tick:=rfl
theorem Rep.A1v(s:Rep):s.ds.getD 3 D.nil=.int s.id:=rfl
theorem Rep.A1u(s:Rep):s.ds.getD 4 D.nil=.int s.cell:=rfl
theorem Rep.A3b(s:Rep):s.ds.getD 5 D.nil=.bool s.asked:=rfl
theorem Rep.A4n(s:Rep):s.ds.getD 6 D.nil=.int s.rc.k:=rfl
theorem Rep.A7y(s:Rep):s.ds.getD 7 D.nil=.int s.rc.q:=rfl
theorem Rep.A6o(s:Rep):s.ds.getD 8 D.nil=.int s.rc.p:=rfl
theorem Rep.A6z(s:Rep):s.ds.getD 9 D.nil=.int s.rc.t:=rfl
theorem Rep.B4s(s:Rep):s.ds.getD 10 D.nil=.int s.rc.c:=rfl
theorem Rep.B1j(s:Rep):s.ds.getD 11 D.nil=.int s.rc.g:=rfl
theorem Rep.A9y(s:Rep):s.ds.getD 12 D.nil=.agg (s.looks.map A5h.d):=rfl
structure Out where
 part:Int
 ev:Int
 r:Rep
def Out.ds(s:Out):List D:=[.int s.part,.int s.ev,.int s.r.kind,.int s.r.code,.int s.r.tick,.int s.r.id,.int s.r.cell,.bool s.r.asked,.int s.r.rc.k,.int s.r.rc.q,.int s.r.rc.p,.int s.r.rc.t,.int s.r.rc.c,.int s.r.rc.g,.agg (s.r.looks.map A5h.d)]
def Out.d(s:Out):D:=.agg s.ds
theorem Out.len(s:Out):s.ds.length=15:=by simp only[Out.ds,List.length_cons,List.length_nil]
theorem Out.A1i(s:Out):s.ds.getD 0 D.nil=.int s.part:=rfl
theorem Out.A1h(s:Out):s.ds.getD 1 D.nil=.int s.ev:=rfl
theorem Out.A1p(s:Out):s.ds.getD 2 D.nil=.int s.r.kind:=rfl
theorem Out.A1v(s:Out):s.ds.getD 3 D.nil=.int s.r.code:=rfl
theorem Out.A1u(s:Out):s.ds.getD 4 D.nil=.int s.r.tick:=rfl
theorem Out.A3b(s:Out):s.ds.getD 5 D.nil=.int s.r.id:=rfl
theorem Out.A4n(s:Out):s.ds.getD 6 D.nil=.int s.r.cell:=rfl
theorem Out.A7y(s:Out):s.ds.getD 7 D.nil=.bool s.r.asked:=rfl
theorem Out.A6o(s:Out):s.ds.getD 8 D.nil=.int s.r.rc.k:=rfl
theorem Out.A6z(s:Out):s.ds.getD 9 D.nil=.int s.r.rc.q:=rfl
theorem Out.B4s(s:Out):s.ds.getD 10 D.nil=.int s.r.rc.p:=rfl
theorem Out.B1j(s:Out):s.ds.getD 11 D.nil=.int s.r.rc.t:=rfl
theorem Out.A9y(s:Out):s.ds.getD 12 D.nil=.int s.r.rc.c:=rfl
theorem Out.B0x(s:Out):s.ds.getD 13 D.nil=.int s.r.rc.g:=rfl
theorem Out.B3t(s:Out):s.ds.getD 14 D.nil=.agg (s.r.looks.map A5h.d):=rfl
structure A0a where
 a:Aim
 pc:Int
 wx:Nat
 wy:Nat
 tx:Tm
 ty:Tm
 held:Bool
 made:Bool
 free:Bool
 q:Int
 p:Int
 at_:Int
 fin:Int
 nx:St
 ny:St
def A0a.ds(s:A0a):List D:=[.int s.a.way,.int s.a.x,.int s.a.gen,.int s.a.y,.int s.a.A3r,.int s.pc,wN s.wx,wN s.wy,.int s.tx.name,.int s.tx.side,.int s.tx.A0j,.int s.tx.least,.int s.tx.A1l,.int s.ty.name,.int s.ty.side,.int s.ty.A0j,.int s.ty.least,.int s.ty.A1l,.bool s.held,.bool s.made,.bool s.free,.int s.q,.int s.p,.int s.at_,.int s.fin,.int s.nx.k,.bool s.nx.f,.int s.nx.g,.int s.nx.l,.int s.nx.n,.int s.ny.k,.bool s.ny.f,.int s.ny.g,.int s.ny.l,.int s.ny.n]
theorem A0a.len(s:A0a):s.ds.length=35:=by simp only[A0a.ds,List.length_cons,List.length_nil]
theorem A0a.rng(s:A0a):((List.range 35).map fun j=>s.ds.getD j D.nil)=s.ds:=P.rng s.len
theorem A0a.A1i(s:A0a):s.ds.getD 0 D.nil=.int s.a.way:=rfl
theorem A0a.B6g(s:A0a)(x:Int):s.ds.set 0 (.int x)=A0a.ds {s with a:={s.a with way:=x}}:=rfl
theorem A0a.A1h(s:A0a):s.ds.getD 1 D.nil=.int s.a.x:=rfl
theorem A0a.B2x(s:A0a)(x:Int):s.ds.set 1 (.int x)=A0a.ds {s with a:={s.a with x:=x}}:=rfl
theorem A0a.A1p(s:A0a):s.ds.getD 2 D.nil=.int s.a.gen:=rfl
theorem A0a.B5b(s:A0a)(x:Int):s.ds.set 2 (.int x)=A0a.ds {s with a:={s.a with gen:=x}}:=rfl
theorem A0a.A1v(s:A0a):s.ds.getD 3 D.nil=.int s.a.y:=rfl
theorem A0a.B5c(s:A0a)(x:Int):s.ds.set 3 (.int x)=A0a.ds {s with a:={s.a with y:=x}}:=rfl
theorem A0a.A1u(s:A0a):s.ds.getD 4 D.nil=.int s.a.A3r:=rfl
theorem A0a.A9v(s:A0a)(x:Int):s.ds.set 4 (.int x)=A0a.ds {s with a:={s.a with A3r:=x}}:=rfl
theorem A0a.A3b(s:A0a):s.ds.getD 5 D.nil=.int s.pc:=rfl
theorem A0a.B5d(s:A0a)(x:Int):s.ds.set 5 (.int x)=A0a.ds {s with pc:=x}:=rfl
theorem A0a.A4n(s:A0a):s.ds.getD 6 D.nil=wN s.wx:=rfl
theorem A0a.B6f(s:A0a)(x:Nat):s.ds.set 6 (wN x)=A0a.ds {s with wx:=x}:=rfl
theorem A0a.A7y(s:A0a):s.ds.getD 7 D.nil=wN s.wy:=rfl
theorem A0a.D0t(s:A0a)(x:Nat):s.ds.set 7 (wN x)=A0a.ds {s with wy:=x}:=rfl
theorem A0a.A6o(s:A0a):s.ds.getD 8 D.nil=.int s.tx.name:=rfl
theorem A0a.D9e(s:A0a)(x:Int):s.ds.set 8 (.int x)=A0a.ds {s with tx:={s.tx with name:=x}}:=rfl
theorem A0a.A6z(s:A0a):s.ds.getD 9 D.nil=.int s.tx.side:=rfl
theorem A0a.B7d(s:A0a)(x:Int):s.ds.set 9 (.int x)=A0a.ds {s with tx:={s.tx with side:=x}}:=rfl
theorem A0a.B4s(s:A0a):s.ds.getD 10 D.nil=.int s.tx.A0j:=rfl
theorem A0a.D5g(s:A0a)(x:Int):s.ds.set 10 (.int x)=A0a.ds {s with tx:={s.tx with A0j:=x}}:=rfl
theorem A0a.B1j(s:A0a):s.ds.getD 11 D.nil=.int s.tx.least:=rfl
theorem A0a.C4s(s:A0a)(x:Int):s.ds.set 11 (.int x)=A0a.ds {s with tx:={s.tx with least:=x}}:=rfl
theorem A0a.A9y(s:A0a):s.ds.getD 12 D.nil=.int s.tx.A1l:=rfl
theorem A0a.C5o(s:A0a)(x:Int):s.ds.set 12 (.int x)=A0a.ds {s with tx:={s.tx with A1l:=x}}:=rfl
theorem A0a.B0x(s:A0a):s.ds.getD 13 D.nil=.int s.ty.name:=rfl
theorem A0a.C4n(s:A0a)(x:Int):s.ds.set 13 (.int x)=A0a.ds {s with ty:={s.ty with name:=x}}:=rfl
theorem A0a.B3t(s:A0a):s.ds.getD 14 D.nil=.int s.ty.side:=rfl
theorem A0a.C1o(s:A0a)(x:Int):s.ds.set 14 (.int x)=A0a.ds {s with ty:={s.ty with side:=x}}:=rfl
theorem A0a.B7f(s:A0a):s.ds.getD 15 D.nil=.int s.ty.A0j:=rfl
theorem A0a.C8x(s:A0a)(x:Int):s.ds.set 15 (.int x)=A0a.ds {s with ty:={s.ty with A0j:=x}}:=rfl
theorem A0a.D9u(s:A0a):s.ds.getD 16 D.nil=.int s.ty.least:=rfl
theorem A0a.G1c(s:A0a)(x:Int):s.ds.set 16 (.int x)=A0a.ds {s with ty:={s.ty with least:=x}}:=rfl
theorem A0a.C4q(s:A0a):s.ds.getD 17 D.nil=.int s.ty.A1l:=rfl
theorem A0a.D5l(s:A0a)(x:Int):s.ds.set 17 (.int x)=A0a.ds {s with ty:={s.ty with A1l:=x}}:=rfl
theorem A0a.D0p(s:A0a):s.ds.getD 18 D.nil=.bool s.held:=rfl
theorem A0a.H0e(s:A0a)(x:Bool):s.ds.set 18 (.bool x)=A0a.ds {s with held:=x}:=rfl
theorem A0a.D5v(s:A0a):s.ds.getD 19 D.nil=.bool s.made:=rfl
theorem A0a.F8c(s:A0a)(x:Bool):s.ds.set 19 (.bool x)=A0a.ds {s with made:=x}:=rfl
theorem A0a.C8n(s:A0a):s.ds.getD 20 D.nil=.bool s.free:=rfl
theorem A0a.D9t(s:A0a)(x:Bool):s.ds.set 20 (.bool x)=A0a.ds {s with free:=x}:=rfl
theorem A0a.D0f(s:A0a):s.ds.getD 21 D.nil=.int s.q:=rfl
theorem A0a.E9i(s:A0a)(x:Int):s.ds.set 21 (.int x)=A0a.ds {s with q:=x}:=rfl
theorem A0a.E0z(s:A0a):s.ds.getD 22 D.nil=.int s.p:=rfl
theorem A0a.E8m(s:A0a)(x:Int):s.ds.set 22 (.int x)=A0a.ds {s with p:=x}:=rfl
theorem A0a.D9v(s:A0a):s.ds.getD 23 D.nil=.int s.at_:=rfl
theorem A0a.F9d(s:A0a)(x:Int):s.ds.set 23 (.int x)=A0a.ds {s with at_:=x}:=rfl
theorem A0a.E8j(s:A0a):s.ds.getD 24 D.nil=.int s.fin:=rfl
theorem A0a.F9j(s:A0a)(x:Int):s.ds.set 24 (.int x)=A0a.ds {s with fin:=x}:=rfl
theorem A0a.E9f(s:A0a):s.ds.getD 25 D.nil=.int s.nx.k:=rfl
theorem A0a.E2l(s:A0a)(x:Int):s.ds.set 25 (.int x)=A0a.ds {s with nx:={s.nx with k:=x}}:=rfl
theorem A0a.E9h(s:A0a):s.ds.getD 26 D.nil=.bool s.nx.f:=rfl
theorem A0a.D9r(s:A0a)(x:Bool):s.ds.set 26 (.bool x)=A0a.ds {s with nx:={s.nx with f:=x}}:=rfl
theorem A0a.E9n(s:A0a):s.ds.getD 27 D.nil=.int s.nx.g:=rfl
theorem A0a.E1l(s:A0a)(x:Int):s.ds.set 27 (.int x)=A0a.ds {s with nx:={s.nx with g:=x}}:=rfl
theorem A0a.E8f(s:A0a):s.ds.getD 28 D.nil=.int s.nx.l:=rfl
theorem A0a.E0u(s:A0a)(x:Int):s.ds.set 28 (.int x)=A0a.ds {s with nx:={s.nx with l:=x}}:=rfl
theorem A0a.E8n(s:A0a):s.ds.getD 29 D.nil=.int s.nx.n:=rfl
theorem A0a.E0d(s:A0a)(x:Int):s.ds.set 29 (.int x)=A0a.ds {s with nx:={s.nx with n:=x}}:=rfl
theorem A0a.E8u(s:A0a):s.ds.getD 30 D.nil=.int s.ny.k:=rfl
theorem A0a.E9g(s:A0a)(x:Int):s.ds.set 30 (.int x)=A0a.ds {s with ny:={s.ny with k:=x}}:=rfl
theorem A0a.E8e(s:A0a):s.ds.getD 31 D.nil=.bool s.ny.f:=rfl
theorem A0a.E8k(s:A0a)(x:Bool):s.ds.set 31 (.bool x)=A0a.ds {s with ny:={s.ny with f:=x}}:=rfl
theorem A0a.E8g(s:A0a):s.ds.getD 32 D.nil=.int s.ny.g:=rfl
theorem A0a.E8q(s:A0a)(x:Int):s.ds.set 32 (.int x)=A0a.ds {s with ny:={s.ny with g:=x}}:=rfl
theorem A0a.E9j(s:A0a):s.ds.getD 33 D.nil=.int s.ny.l:=rfl
theorem A0a.E9k(s:A0a)(x:Int):s.ds.set 33 (.int x)=A0a.ds {s with ny:={s.ny with l:=x}}:=rfl
theorem A0a.E0c(s:A0a):s.ds.getD 34 D.nil=.int s.ny.n:=rfl
theorem A0a.E8v(s:A0a)(x:Int):s.ds.set 34 (.int x)=A0a.ds {s with ny:={s.ny with n:=x}}:=rfl
structure PrS where
 a:Ask
 pc:Int
 word:Nat
 st:St
 tries:Int
 done:Int
 at_:Int
 p:D
 n:Int
 A3o:List Aim
 r0:Rc
 r1:Rc
 looks:List A5h
 draw:D
def PrS.ds(s:PrS):List D:=[.int s.a.kind,.int s.a.id,.int s.a.cell,.int s.a.tm.name,.int s.a.tm.side,.int s.a.tm.A0j,.int s.a.tm.least,.int s.a.tm.A1l,.int s.a.qty,.int s.pc,wN s.word,.int s.st.k,.bool s.st.f,.int s.st.g,.int s.st.l,.int s.st.n,.int s.tries,.int s.done,.int s.at_,s.p,.int s.n,.agg (s.A3o.map Aim.d),.int s.r0.k,.int s.r0.q,.int s.r0.p,.int s.r0.t,.int s.r0.c,.int s.r0.g,.int s.r1.k,.int s.r1.q,.int s.r1.p,.int s.r1.t,.int s.r1.c,.int s.r1.g,.agg (s.looks.map A5h.d),s.draw]
theorem PrS.len(s:PrS):s.ds.length=36:=by simp only[PrS.ds,List.length_cons,List.length_nil]
theorem PrS.rng(s:PrS):((List.range 36).map fun j=>s.ds.getD j D.nil)=s.ds:=P.rng s.len
theorem PrS.A1i(s:PrS):s.ds.getD 0 D.nil=.int s.a.kind:=rfl
theorem PrS.B6g(s:PrS)(x:Int):s.ds.set 0 (.int x)=PrS.ds {s with a:={s.a with kind:=x}}:=rfl
theorem PrS.A1h(s:PrS):s.ds.getD 1 D.nil=.int s.a.id:=rfl
theorem PrS.B2x(s:PrS)(x:Int):s.ds.set 1 (.int x)=PrS.ds {s with a:={s.a with id:=x}}:=rfl
theorem PrS.A1p(s:PrS):s.ds.getD 2 D.nil=.int s.a.cell:=rfl
theorem PrS.B5b(s:PrS)(x:Int):s.ds.set 2 (.int x)=PrS.ds {s with a:={s.a with cell:=x}}:=rfl
theorem PrS.A1v(s:PrS):s.ds.getD 3 D.nil=.int s.a.tm.name:=rfl
theorem PrS.B5c(s:PrS)(x:Int):s.ds.set 3 (.int x)=PrS.ds {s with a:={s.a with tm:={s.a.tm with name:=x}}}:=rfl
theorem PrS.A1u(s:PrS):s.ds.getD 4 D.nil=.int s.a.tm.side:=rfl
theorem PrS.A9v(s:PrS)(x:Int):s.ds.set 4 (.int x)=PrS.ds {s with a:={s.a with tm:={s.a.tm with side:=x}}}:=rfl
theorem PrS.A3b(s:PrS):s.ds.getD 5 D.nil=.int s.a.tm.A0j:=rfl
theorem PrS.B5d(s:PrS)(x:Int):s.ds.set 5 (.int x)=PrS.ds {s with a:={s.a with tm:={s.a.tm with A0j:=x}}}:=rfl
theorem PrS.A4n(s:PrS):s.ds.getD 6 D.nil=.int s.a.tm.least:=rfl
theorem PrS.B6f(s:PrS)(x:Int):s.ds.set 6 (.int x)=PrS.ds {s with a:={s.a with tm:={s.a.tm with least:=x}}}:=rfl
theorem PrS.A7y(s:PrS):s.ds.getD 7 D.nil=.int s.a.tm.A1l:=rfl
theorem PrS.D0t(s:PrS)(x:Int):s.ds.set 7 (.int x)=PrS.ds {s with a:={s.a with tm:={s.a.tm with A1l:=x}}}:=rfl
theorem PrS.A6o(s:PrS):s.ds.getD 8 D.nil=.int s.a.qty:=rfl
theorem PrS.D9e(s:PrS)(x:Int):s.ds.set 8 (.int x)=PrS.ds {s with a:={s.a with qty:=x}}:=rfl
theorem PrS.A6z(s:PrS):s.ds.getD 9 D.nil=.int s.pc:=rfl
theorem PrS.B7d(s:PrS)(x:Int):s.ds.set 9 (.int x)=PrS.ds {s with pc:=x}:=rfl
theorem PrS.B4s(s:PrS):s.ds.getD 10 D.nil=wN s.word:=rfl
theorem PrS.D5g(s:PrS)(x:Nat):s.ds.set 10 (wN x)=PrS.ds {s with word:=x}:=rfl
theorem PrS.B1j(s:PrS):s.ds.getD 11 D.nil=.int s.st.k:=rfl
theorem PrS.C4s(s:PrS)(x:Int):s.ds.set 11 (.int x)=PrS.ds {s with st:={s.st with k:=x}}:=rfl
theorem PrS.A9y(s:PrS):s.ds.getD 12 D.nil=.bool s.st.f:=rfl
theorem PrS.C5o(s:PrS)(x:Bool):s.ds.set 12 (.bool x)=PrS.ds {s with st:={s.st with f:=x}}:=rfl
theorem PrS.B0x(s:PrS):s.ds.getD 13 D.nil=.int s.st.g:=rfl
theorem PrS.C4n(s:PrS)(x:Int):s.ds.set 13 (.int x)=PrS.ds {s with st:={s.st with g:=x}}:=rfl
theorem PrS.B3t(s:PrS):s.ds.getD 14 D.nil=.int s.st.l:=rfl
theorem PrS.C1o(s:PrS)(x:Int):s.ds.set 14 (.int x)=PrS.ds {s with st:={s.st with l:=x}}:=rfl
theorem PrS.B7f(s:PrS):s.ds.getD 15 D.nil=.int s.st.n:=rfl
theorem PrS.C8x(s:PrS)(x:Int):s.ds.set 15 (.int x)=PrS.ds {s with st:={s.st with n:=x}}:=rfl
theorem PrS.D9u(s:PrS):s.ds.getD 16 D.nil=.int s.tries:=rfl
theorem PrS.G1c(s:PrS)(x:Int):s.ds.set 16 (.int x)=PrS.ds {s with tries:=x}:=rfl
theorem PrS.C4q(s:PrS):s.ds.getD 17 D.nil=.int s.done:=rfl
theorem PrS.D5l(s:PrS)(x:Int):s.ds.set 17 (.int x)=PrS.ds {s with done:=x}:=rfl
theorem PrS.D0p(s:PrS):s.ds.getD 18 D.nil=.int s.at_:=rfl
theorem PrS.H0e(s:PrS)(x:Int):s.ds.set 18 (.int x)=PrS.ds {s with at_:=x}:=rfl
theorem PrS.D5v(s:PrS):s.ds.getD 19 D.nil=s.p:=rfl
theorem PrS.F8c(s:PrS)(x:D):s.ds.set 19 (x)=PrS.ds {s with p:=x}:=rfl
theorem PrS.C8n(s:PrS):s.ds.getD 20 D.nil=.int s.n:=rfl
theorem PrS.D9t(s:PrS)(x:Int):s.ds.set 20 (.int x)=PrS.ds {s with n:=x}:=rfl
theorem PrS.D0f(s:PrS):s.ds.getD 21 D.nil=.agg (s.A3o.map Aim.d):=rfl
theorem PrS.E9i(s:PrS)(x:List Aim):s.ds.set 21 (.agg (x.map Aim.d))=PrS.ds {s with A3o:=x}:=rfl
theorem PrS.E0z(s:PrS):s.ds.getD 22 D.nil=.int s.r0.k:=rfl
theorem PrS.E8m(s:PrS)(x:Int):s.ds.set 22 (.int x)=PrS.ds {s with r0:={s.r0 with k:=x}}:=rfl
theorem PrS.D9v(s:PrS):s.ds.getD 23 D.nil=.int s.r0.q:=rfl
theorem PrS.F9d(s:PrS)(x:Int):s.ds.set 23 (.int x)=PrS.ds {s with r0:={s.r0 with q:=x}}:=rfl
theorem PrS.E8j(s:PrS):s.ds.getD 24 D.nil=.int s.r0.p:=rfl
theorem PrS.F9j(s:PrS)(x:Int):s.ds.set 24 (.int x)=PrS.ds {s with r0:={s.r0 with p:=x}}:=rfl
theorem PrS.E9f(s:PrS):s.ds.getD 25 D.nil=.int s.r0.t:=rfl
theorem PrS.E2l(s:PrS)(x:Int):s.ds.set 25 (.int x)=PrS.ds {s with r0:={s.r0 with t:=x}}:=rfl
theorem PrS.E9h(s:PrS):s.ds.getD 26 D.nil=.int s.r0.c:=rfl
theorem PrS.D9r(s:PrS)(x:Int):s.ds.set 26 (.int x)=PrS.ds {s with r0:={s.r0 with c:=x}}:=rfl
theorem PrS.E9n(s:PrS):s.ds.getD 27 D.nil=.int s.r0.g:=rfl
theorem PrS.E1l(s:PrS)(x:Int):s.ds.set 27 (.int x)=PrS.ds {s with r0:={s.r0 with g:=x}}:=rfl
theorem PrS.E8f(s:PrS):s.ds.getD 28 D.nil=.int s.r1.k:=rfl
theorem PrS.E0u(s:PrS)(x:Int):s.ds.set 28 (.int x)=PrS.ds {s with r1:={s.r1 with k:=x}}:=rfl
theorem PrS.E8n(s:PrS):s.ds.getD 29 D.nil=.int s.r1.q:=rfl
theorem PrS.E0d(s:PrS)(x:Int):s.ds.set 29 (.int x)=PrS.ds {s with r1:={s.r1 with q:=x}}:=rfl
theorem PrS.E8u(s:PrS):s.ds.getD 30 D.nil=.int s.r1.p:=rfl
theorem PrS.E9g(s:PrS)(x:Int):s.ds.set 30 (.int x)=PrS.ds {s with r1:={s.r1 with p:=x}}:=rfl
theorem PrS.E8e(s:PrS):s.ds.getD 31 D.nil=.int s.r1.t:=rfl
theorem PrS.E8k(s:PrS)(x:Int):s.ds.set 31 (.int x)=PrS.ds {s with r1:={s.r1 with t:=x}}:=rfl
theorem PrS.E8g(s:PrS):s.ds.getD 32 D.nil=.int s.r1.c:=rfl
theorem PrS.E8q(s:PrS)(x:Int):s.ds.set 32 (.int x)=PrS.ds {s with r1:={s.r1 with c:=x}}:=rfl
theorem PrS.E9j(s:PrS):s.ds.getD 33 D.nil=.int s.r1.g:=rfl
theorem PrS.E9k(s:PrS)(x:Int):s.ds.set 33 (.int x)=PrS.ds {s with r1:={s.r1 with g:=x}}:=rfl
theorem PrS.E0c(s:PrS):s.ds.getD 34 D.nil=.agg (s.looks.map A5h.d):=rfl
theorem PrS.E8v(s:PrS)(x:List A5h):s.ds.set 34 (.agg (x.map A5h.d))=PrS.ds {s with looks:=x}:=rfl
theorem PrS.H4e(s:PrS):s.ds.getD 35 D.nil=s.draw:=rfl
structure A0k where
 part:Int
 last:Int
 ids:List Int
 A9s:List Int
 A7j:List Cur
def A0k.ds(s:A0k):List D:=[.int s.part,.int s.last,.agg (s.ids.map D.int),.agg (s.A9s.map D.int),.agg (s.A7j.map Cur.d)]
theorem A0k.len(s:A0k):s.ds.length=5:=by simp only[A0k.ds,List.length_cons,List.length_nil]
theorem A0k.rng(s:A0k):((List.range 5).map fun j=>s.ds.getD j D.nil)=s.ds:=P.rng s.len
theorem A0k.A1i(s:A0k):s.ds.getD 0 D.nil=.int s.part:=rfl
theorem A0k.B6g(s:A0k)(x:Int):s.ds.set 0 (.int x)=A0k.ds {s with part:=x}:=rfl
theorem A0k.A1h(s:A0k):s.ds.getD 1 D.nil=.int s.last:=rfl
theorem A0k.B2x(s:A0k)(x:Int):s.ds.set 1 (.int x)=A0k.ds {s with last:=x}:=rfl
theorem A0k.A1p(s:A0k):s.ds.getD 2 D.nil=.agg (s.ids.map D.int):=rfl
theorem A0k.B5b(s:A0k)(x:List Int):s.ds.set 2 (.agg (x.map D.int))=A0k.ds {s with ids:=x}:=rfl
theorem A0k.A1v(s:A0k):s.ds.getD 3 D.nil=.agg (s.A9s.map D.int):=rfl
theorem A0k.B5c(s:A0k)(x:List Int):s.ds.set 3 (.agg (x.map D.int))=A0k.ds {s with A9s:=x}:=rfl
theorem A0k.A1u(s:A0k):s.ds.getD 4 D.nil=.agg (s.A7j.map Cur.d):=rfl
theorem A0k.A9v(s:A0k)(x:List Cur):s.ds.set 4 (.agg (x.map Cur.d))=A0k.ds {s with A7j:=x}:=rfl
structure A0g where
 s:D
 queue:List Qe
 now:D
 ev:Int
 tape:List Dr
 taken:Int
def A0g.ds(s:A0g):List D:=[s.s,.agg (s.queue.map Qe.d),s.now,.int s.ev,.agg (s.tape.map Dr.d),.int s.taken]
theorem A0g.len(s:A0g):s.ds.length=6:=by simp only[A0g.ds,List.length_cons,List.length_nil]
theorem A0g.rng(s:A0g):((List.range 6).map fun j=>s.ds.getD j D.nil)=s.ds:=P.rng s.len
theorem A0g.A1i(s:A0g):s.ds.getD 0 D.nil=s.s:=rfl
theorem A0g.B6g(s:A0g)(x:D):s.ds.set 0 (x)=A0g.ds {s with s:=x}:=rfl
theorem A0g.A1h(s:A0g):s.ds.getD 1 D.nil=.agg (s.queue.map Qe.d):=rfl
theorem A0g.B2x(s:A0g)(x:List Qe):s.ds.set 1 (.agg (x.map Qe.d))=A0g.ds {s with queue:=x}:=rfl
theorem A0g.A1p(s:A0g):s.ds.getD 2 D.nil=s.now:=rfl
theorem A0g.B5b(s:A0g)(x:D):s.ds.set 2 (x)=A0g.ds {s with now:=x}:=rfl
theorem A0g.A1v(s:A0g):s.ds.getD 3 D.nil=.int s.ev:=rfl
theorem A0g.B5c(s:A0g)(x:Int):s.ds.set 3 (.int x)=A0g.ds {s with ev:=x}:=rfl
theorem A0g.A1u(s:A0g):s.ds.getD 4 D.nil=.agg (s.tape.map Dr.d):=rfl
theorem A0g.A9v(s:A0g)(x:List Dr):s.ds.set 4 (.agg (x.map Dr.d))=A0g.ds {s with tape:=x}:=rfl
theorem A0g.A3b(s:A0g):s.ds.getD 5 D.nil=.int s.taken:=rfl
theorem A0g.B5d(s:A0g)(x:Int):s.ds.set 5 (.int x)=A0g.ds {s with taken:=x}:=rfl
structure A0d where
 w:D
 A0c:List D
 C3k:List D
 D0g:List D
 events:Int
 outs:List Out
 A0z:List Int
 lines:List Int
def A0d.ds(s:A0d):List D:=[s.w,.agg s.A0c,.agg s.C3k,.agg s.D0g,.int s.events,.agg (s.outs.map Out.d),.agg (s.A0z.map D.int),.agg (s.lines.map D.int)]
theorem A0d.len(s:A0d):s.ds.length=8:=by simp only[A0d.ds,List.length_cons,List.length_nil]
theorem A0d.rng(s:A0d):((List.range 8).map fun j=>s.ds.getD j D.nil)=s.ds:=P.rng s.len
theorem A0d.A1i(s:A0d):s.ds.getD 0 D.nil=s.w:=rfl
theorem A0d.B6g(s:A0d)(x:D):s.ds.set 0 (x)=A0d.ds {s with w:=x}:=rfl
theorem A0d.A1h(s:A0d):s.ds.getD 1 D.nil=.agg s.A0c:=rfl
theorem A0d.B2x(s:A0d)(x:List D):s.ds.set 1 (.agg x)=A0d.ds {s with A0c:=x}:=rfl
theorem A0d.A1p(s:A0d):s.ds.getD 2 D.nil=.agg s.C3k:=rfl
theorem A0d.B5b(s:A0d)(x:List D):s.ds.set 2 (.agg x)=A0d.ds {s with C3k:=x}:=rfl
theorem A0d.A1v(s:A0d):s.ds.getD 3 D.nil=.agg s.D0g:=rfl
theorem A0d.B5c(s:A0d)(x:List D):s.ds.set 3 (.agg x)=A0d.ds {s with D0g:=x}:=rfl
theorem A0d.A1u(s:A0d):s.ds.getD 4 D.nil=.int s.events:=rfl
theorem A0d.A9v(s:A0d)(x:Int):s.ds.set 4 (.int x)=A0d.ds {s with events:=x}:=rfl
theorem A0d.A3b(s:A0d):s.ds.getD 5 D.nil=.agg (s.outs.map Out.d):=rfl
theorem A0d.B5d(s:A0d)(x:List Out):s.ds.set 5 (.agg (x.map Out.d))=A0d.ds {s with outs:=x}:=rfl
theorem A0d.A4n(s:A0d):s.ds.getD 6 D.nil=.agg (s.A0z.map D.int):=rfl
theorem A0d.B6f(s:A0d)(x:List Int):s.ds.set 6 (.agg (x.map D.int))=A0d.ds {s with A0z:=x}:=rfl
theorem A0d.A7y(s:A0d):s.ds.getD 7 D.nil=.agg (s.lines.map D.int):=rfl
theorem A0d.D0t(s:A0d)(x:List Int):s.ds.set 7 (.agg (x.map D.int))=A0d.ds {s with lines:=x}:=rfl
structure SwS where
 A3r:Int
 at_:Int
 A7k:Int
 p:D
def SwS.ds(s:SwS):List D:=[.int s.A3r,.int s.at_,.int s.A7k,s.p]
theorem SwS.len(s:SwS):s.ds.length=4:=by simp only[SwS.ds,List.length_cons,List.length_nil]
theorem SwS.rng(s:SwS):((List.range 4).map fun j=>s.ds.getD j D.nil)=s.ds:=P.rng s.len
theorem SwS.A1i(s:SwS):s.ds.getD 0 D.nil=.int s.A3r:=rfl
theorem SwS.B6g(s:SwS)(x:Int):s.ds.set 0 (.int x)=SwS.ds {s with A3r:=x}:=rfl
theorem SwS.A1h(s:SwS):s.ds.getD 1 D.nil=.int s.at_:=rfl
theorem SwS.B2x(s:SwS)(x:Int):s.ds.set 1 (.int x)=SwS.ds {s with at_:=x}:=rfl
theorem SwS.A1p(s:SwS):s.ds.getD 2 D.nil=.int s.A7k:=rfl
theorem SwS.B5b(s:SwS)(x:Int):s.ds.set 2 (.int x)=SwS.ds {s with A7k:=x}:=rfl
theorem SwS.A1v(s:SwS):s.ds.getD 3 D.nil=s.p:=rfl
theorem SwS.B5c(s:SwS)(x:D):s.ds.set 3 (x)=SwS.ds {s with p:=x}:=rfl
structure ReS where
 A3r:Int
 pc:Int
 A7k:Int
 word:Nat
 st:St
 tm:Tm
 done:Bool
 at_:Int
def ReS.ds(s:ReS):List D:=[.int s.A3r,.int s.pc,.int s.A7k,wN s.word,.int s.st.k,.bool s.st.f,.int s.st.g,.int s.st.l,.int s.st.n,.int s.tm.name,.int s.tm.side,.int s.tm.A0j,.int s.tm.least,.int s.tm.A1l,.bool s.done,.int s.at_]
theorem ReS.len(s:ReS):s.ds.length=16:=by simp only[ReS.ds,List.length_cons,List.length_nil]
theorem ReS.rng(s:ReS):((List.range 16).map fun j=>s.ds.getD j D.nil)=s.ds:=P.rng s.len
theorem ReS.A1i(s:ReS):s.ds.getD 0 D.nil=.int s.A3r:=rfl
theorem ReS.B6g(s:ReS)(x:Int):s.ds.set 0 (.int x)=ReS.ds {s with A3r:=x}:=rfl
theorem ReS.A1h(s:ReS):s.ds.getD 1 D.nil=.int s.pc:=rfl
theorem ReS.B2x(s:ReS)(x:Int):s.ds.set 1 (.int x)=ReS.ds {s with pc:=x}:=rfl
theorem ReS.A1p(s:ReS):s.ds.getD 2 D.nil=.int s.A7k:=rfl
theorem ReS.B5b(s:ReS)(x:Int):s.ds.set 2 (.int x)=ReS.ds {s with A7k:=x}:=rfl
theorem ReS.A1v(s:ReS):s.ds.getD 3 D.nil=wN s.word:=rfl
theorem ReS.B5c(s:ReS)(x:Nat):s.ds.set 3 (wN x)=ReS.ds {s with word:=x}:=rfl
theorem ReS.A1u(s:ReS):s.ds.getD 4 D.nil=.int s.st.k:=rfl
theorem ReS.A9v(s:ReS)(x:Int):s.ds.set 4 (.int x)=ReS.ds {s with st:={s.st with k:=x}}:=rfl
theorem ReS.A3b(s:ReS):s.ds.getD 5 D.nil=.bool s.st.f:=rfl
theorem ReS.B5d(s:ReS)(x:Bool):s.ds.set 5 (.bool x)=ReS.ds {s with st:={s.st with f:=x}}:=rfl
theorem ReS.A4n(s:ReS):s.ds.getD 6 D.nil=.int s.st.g:=rfl
theorem ReS.B6f(s:ReS)(x:Int):s.ds.set 6 (.int x)=ReS.ds {s with st:={s.st with g:=x}}:=rfl
theorem ReS.A7y(s:ReS):s.ds.getD 7 D.nil=.int s.st.l:=rfl
theorem ReS.D0t(s:ReS)(x:Int):s.ds.set 7 (.int x)=ReS.ds {s with st:={s.st with l:=x}}:=rfl
theorem ReS.A6o(s:ReS):s.ds.getD 8 D.nil=.int s.st.n:=rfl
theorem ReS.D9e(s:ReS)(x:Int):s.ds.set 8 (.int x)=ReS.ds {s with st:={s.st with n:=x}}:=rfl
theorem ReS.A6z(s:ReS):s.ds.getD 9 D.nil=.int s.tm.name:=rfl
theorem ReS.B7d(s:ReS)(x:Int):s.ds.set 9 (.int x)=ReS.ds {s with tm:={s.tm with name:=x}}:=rfl
theorem ReS.B4s(s:ReS):s.ds.getD 10 D.nil=.int s.tm.side:=rfl
theorem ReS.D5g(s:ReS)(x:Int):s.ds.set 10 (.int x)=ReS.ds {s with tm:={s.tm with side:=x}}:=rfl
theorem ReS.B1j(s:ReS):s.ds.getD 11 D.nil=.int s.tm.A0j:=rfl
theorem ReS.C4s(s:ReS)(x:Int):s.ds.set 11 (.int x)=ReS.ds {s with tm:={s.tm with A0j:=x}}:=rfl
theorem ReS.A9y(s:ReS):s.ds.getD 12 D.nil=.int s.tm.least:=rfl
theorem ReS.C5o(s:ReS)(x:Int):s.ds.set 12 (.int x)=ReS.ds {s with tm:={s.tm with least:=x}}:=rfl
theorem ReS.B0x(s:ReS):s.ds.getD 13 D.nil=.int s.tm.A1l:=rfl
theorem ReS.C4n(s:ReS)(x:Int):s.ds.set 13 (.int x)=ReS.ds {s with tm:={s.tm with A1l:=x}}:=rfl
theorem ReS.B3t(s:ReS):s.ds.getD 14 D.nil=.bool s.done:=rfl
theorem ReS.C1o(s:ReS)(x:Bool):s.ds.set 14 (.bool x)=ReS.ds {s with done:=x}:=rfl
theorem ReS.B7f(s:ReS):s.ds.getD 15 D.nil=.int s.at_:=rfl
theorem ReS.C8x(s:ReS)(x:Int):s.ds.set 15 (.int x)=ReS.ds {s with at_:=x}:=rfl
structure A0f where
 c:Cf
 m:D
 clk:D
 log:List Ev
def A0f.ds(s:A0f):List D:=[.int s.c.c0,.int s.c.c1,.int s.c.c2,.int s.c.c3,.int s.c.c4,.int s.c.c5,.int s.c.c6,s.m,s.clk,.agg (s.log.map Ev.d)]
theorem A0f.len(s:A0f):s.ds.length=10:=by simp only[A0f.ds,List.length_cons,List.length_nil]
theorem A0f.rng(s:A0f):((List.range 10).map fun j=>s.ds.getD j D.nil)=s.ds:=P.rng s.len
theorem A0f.A1i(s:A0f):s.ds.getD 0 D.nil=.int s.c.c0:=rfl
theorem A0f.B6g(s:A0f)(x:Int):s.ds.set 0 (.int x)=A0f.ds {s with c:={s.c with c0:=x}}:=rfl
theorem A0f.A1h(s:A0f):s.ds.getD 1 D.nil=.int s.c.c1:=rfl
theorem A0f.B2x(s:A0f)(x:Int):s.ds.set 1 (.int x)=A0f.ds {s with c:={s.c with c1:=x}}:=rfl
theorem A0f.A1p(s:A0f):s.ds.getD 2 D.nil=.int s.c.c2:=rfl
theorem A0f.B5b(s:A0f)(x:Int):s.ds.set 2 (.int x)=A0f.ds {s with c:={s.c with c2:=x}}:=rfl
theorem A0f.A1v(s:A0f):s.ds.getD 3 D.nil=.int s.c.c3:=rfl
theorem A0f.B5c(s:A0f)(x:Int):s.ds.set 3 (.int x)=A0f.ds {s with c:={s.c with c3:=x}}:=rfl
theorem A0f.A1u(s:A0f):s.ds.getD 4 D.nil=.int s.c.c4:=rfl
theorem A0f.A9v(s:A0f)(x:Int):s.ds.set 4 (.int x)=A0f.ds {s with c:={s.c with c4:=x}}:=rfl
theorem A0f.A3b(s:A0f):s.ds.getD 5 D.nil=.int s.c.c5:=rfl
theorem A0f.B5d(s:A0f)(x:Int):s.ds.set 5 (.int x)=A0f.ds {s with c:={s.c with c5:=x}}:=rfl
theorem A0f.A4n(s:A0f):s.ds.getD 6 D.nil=.int s.c.c6:=rfl
theorem A0f.B6f(s:A0f)(x:Int):s.ds.set 6 (.int x)=A0f.ds {s with c:={s.c with c6:=x}}:=rfl
theorem A0f.A7y(s:A0f):s.ds.getD 7 D.nil=s.m:=rfl
theorem A0f.D0t(s:A0f)(x:D):s.ds.set 7 (x)=A0f.ds {s with m:=x}:=rfl
theorem A0f.A6o(s:A0f):s.ds.getD 8 D.nil=s.clk:=rfl
theorem A0f.D9e(s:A0f)(x:D):s.ds.set 8 (x)=A0f.ds {s with clk:=x}:=rfl
theorem A0f.A6z(s:A0f):s.ds.getD 9 D.nil=.agg (s.log.map Ev.d):=rfl
theorem A0f.B7d(s:A0f)(x:List Ev):s.ds.set 9 (.agg (x.map Ev.d))=A0f.ds {s with log:=x}:=rfl
structure A1a where
 words:List Nat
 s1:D
 s2:D
 s3:D
 s4:D
 s5:D
 s6:D
def A1a.ds(s:A1a):List D:=[.agg (s.words.map wN),s.s1,s.s2,s.s3,s.s4,s.s5,s.s6]
theorem A1a.len(s:A1a):s.ds.length=7:=by simp only[A1a.ds,List.length_cons,List.length_nil]
theorem A1a.rng(s:A1a):((List.range 7).map fun j=>s.ds.getD j D.nil)=s.ds:=P.rng s.len
theorem A1a.A1i(s:A1a):s.ds.getD 0 D.nil=.agg (s.words.map wN):=rfl
theorem A1a.B6g(s:A1a)(x:List Nat):s.ds.set 0 (.agg (x.map wN))=A1a.ds {s with words:=x}:=rfl
theorem A1a.A1h(s:A1a):s.ds.getD 1 D.nil=s.s1:=rfl
theorem A1a.B2x(s:A1a)(x:D):s.ds.set 1 (x)=A1a.ds {s with s1:=x}:=rfl
theorem A1a.A1p(s:A1a):s.ds.getD 2 D.nil=s.s2:=rfl
theorem A1a.B5b(s:A1a)(x:D):s.ds.set 2 (x)=A1a.ds {s with s2:=x}:=rfl
theorem A1a.A1v(s:A1a):s.ds.getD 3 D.nil=s.s3:=rfl
theorem A1a.B5c(s:A1a)(x:D):s.ds.set 3 (x)=A1a.ds {s with s3:=x}:=rfl
theorem A1a.A1u(s:A1a):s.ds.getD 4 D.nil=s.s4:=rfl
theorem A1a.A9v(s:A1a)(x:D):s.ds.set 4 (x)=A1a.ds {s with s4:=x}:=rfl
theorem A1a.A3b(s:A1a):s.ds.getD 5 D.nil=s.s5:=rfl
theorem A1a.B5d(s:A1a)(x:D):s.ds.set 5 (x)=A1a.ds {s with s5:=x}:=rfl
theorem A1a.A4n(s:A1a):s.ds.getD 6 D.nil=s.s6:=rfl
theorem A1a.B6f(s:A1a)(x:D):s.ds.set 6 (x)=A1a.ds {s with s6:=x}:=rfl
structure A7w where
 now:Nat
def A7w.ds(s:A7w):List D:=[wN s.now]
theorem A7w.len(s:A7w):s.ds.length=1:=by simp only[A7w.ds,List.length_cons,List.length_nil]
theorem A7w.rng(s:A7w):((List.range 1).map fun j=>s.ds.getD j D.nil)=s.ds:=P.rng s.len
theorem A7w.A1i(s:A7w):s.ds.getD 0 D.nil=wN s.now:=rfl
theorem A7w.B6g(s:A7w)(x:Nat):s.ds.set 0 (wN x)=A7w.ds {s with now:=x}:=rfl
set_option linter.defProp false in
def A0a.all:=And.intro @A0a.len<|And.intro @A0a.rng<|And.intro @A0a.A1i<|And.intro @A0a.B6g<|And.intro @A0a.A1h<|And.intro @A0a.B2x<|And.intro @A0a.A1p<|And.intro @A0a.B5b<|And.intro @A0a.A1v<|And.intro @A0a.B5c<|And.intro @A0a.A1u<|And.intro @A0a.A9v<|And.intro @A0a.A3b<|And.intro @A0a.B5d<|And.intro @A0a.A4n<|And.intro @A0a.B6f<|And.intro @A0a.A7y<|And.intro @A0a.D0t<|And.intro @A0a.A6o<|And.intro @A0a.D9e<|And.intro @A0a.A6z<|And.intro @A0a.B7d<|And.intro @A0a.B4s<|And.intro @A0a.D5g<|And.intro @A0a.B1j<|And.intro @A0a.C4s<|And.intro @A0a.A9y<|And.intro @A0a.C5o<|And.intro @A0a.B0x<|And.intro @A0a.C4n<|And.intro @A0a.B3t<|And.intro @A0a.C1o<|And.intro @A0a.B7f<|And.intro @A0a.C8x<|And.intro @A0a.D9u<|And.intro @A0a.G1c<|And.intro @A0a.C4q<|And.intro @A0a.D5l<|And.intro @A0a.D0p<|And.intro @A0a.H0e<|And.intro @A0a.D5v<|And.intro @A0a.F8c<|And.intro @A0a.C8n<|And.intro @A0a.D9t<|And.intro @A0a.D0f<|And.intro @A0a.E9i<|And.intro @A0a.E0z<|And.intro @A0a.E8m<|And.intro @A0a.D9v<|And.intro @A0a.F9d<|And.intro @A0a.E8j<|And.intro @A0a.F9j<|And.intro @A0a.E9f<|And.intro @A0a.E2l<|And.intro @A0a.E9h<|And.intro @A0a.D9r<|And.intro @A0a.E9n<|And.intro @A0a.E1l<|And.intro @A0a.E8f<|And.intro @A0a.E0u<|And.intro @A0a.E8n<|And.intro @A0a.E0d<|And.intro @A0a.E8u<|And.intro @A0a.E9g<|And.intro @A0a.E8e<|And.intro @A0a.E8k<|And.intro @A0a.E8g<|And.intro @A0a.E8q<|And.intro @A0a.E9j<|And.intro @A0a.E9k<|And.intro @A0a.E0c<|@A0a.E8v
set_option linter.defProp false in
def A0f.all:=And.intro @A0f.len<|And.intro @A0f.rng<|And.intro @A0f.A1i<|And.intro @A0f.B6g<|And.intro @A0f.A1h<|And.intro @A0f.B2x<|And.intro @A0f.A1p<|And.intro @A0f.B5b<|And.intro @A0f.A1v<|And.intro @A0f.B5c<|And.intro @A0f.A1u<|And.intro @A0f.A9v<|And.intro @A0f.A3b<|And.intro @A0f.B5d<|And.intro @A0f.A4n<|And.intro @A0f.B6f<|And.intro @A0f.A7y<|And.intro @A0f.D0t<|And.intro @A0f.A6o<|And.intro @A0f.D9e<|And.intro @A0f.A6z<|@A0f.B7d
end
section
theorem A2j{L:List D}{a:Nat}{x:List D}(h:L.getD a D.nil=.agg x):a<L.length:=by
 rcases Nat.lt_or_ge a L.length with h1|h1
 ·exact h1
 ·rw[List.getD_eq_getElem?_getD,List.getElem?_eq_none h1]at h;cases h
theorem A3m{L:List D}{a:Nat}(h:a<L.length)(x:D):(L.set a x).getD a D.nil=x:=by
 simp[List.getD_eq_getElem?_getD,h]
theorem A3d{L:List D}{a b:Nat}(h:a≠b)(x:D):(L.set a x).getD b D.nil=L.getD b D.nil:=by
 simp[List.getD_eq_getElem?_getD,List.getElem?_set,h]
theorem D8j{L:List D}{a:Nat}{x:List D}(h:L.getD a D.nil=.agg x):L.set a (.agg x)=L:=by
 have hl:=A2j h
 rw[List.getD_eq_getElem?_getD,List.getElem?_eq_getElem hl]at h
 have h':L[a]=D.agg x:=h
 rw[←h']
 exact List.set_getElem_self hl
theorem A3k{L:List D}{a b:Nat}{x y:List D}(ha:L.getD a D.nil=.agg x)(hb:L.getD b D.nil=.agg y)(h:x.length≠y.length):a≠b:=by
 intro e
 subst e
 rw[ha]at hb
 cases hb
 exact h rfl
def Fr(L L':List D)(T:Nat→Prop):Prop:=L.length≤L'.length∧∀b,b<L.length→¬T b→L'.getD b D.nil=L.getD b D.nil
theorem Fr.refl(L:List D)(T:Nat→Prop):Fr L L T:=⟨Nat.le_refl _,fun _ _ _=>rfl⟩
theorem Fr.trans{L L1 L2:List D}{T:Nat→Prop}(h:Fr L L1 T)(h':Fr L1 L2 T):Fr L L2 T:=
 ⟨Nat.le_trans h.1 h'.1,fun b hb hn=>(h'.2 b (Nat.lt_of_lt_of_le hb h.1) hn).trans (h.2 b hb hn)⟩
theorem Fr.mono{L L1:List D}{T U:Nat→Prop}(h:Fr L L1 T)(hu:∀b,T b→U b):Fr L L1 U:=⟨h.1,fun b hb hn=>h.2 b hb fun ht=>hn (hu b ht)⟩
theorem Fr.set(L:List D)(a:Nat)(x:D){T:Nat→Prop}(ha:T a):Fr L (L.set a x) T:=
 ⟨by simp,fun b _ hn=>A3d (fun e=>hn (by rw[←e];exact ha)) x⟩
theorem Fr.snoc(L:List D)(x:D)(T:Nat→Prop):Fr L (L++[x]) T:=
 ⟨by simp,fun b hb _=>by simp[List.getD_eq_getElem?_getD,List.getElem?_append_left hb]⟩
theorem Fr.get{L L':List D}{T:Nat→Prop}(h:Fr L L' T){a:Nat}{x:List D}(hx:L.getD a D.nil=.agg x)(ha:¬T a):L'.getD a D.nil=.agg x:=by
 rw[h.2 a (A2j hx) ha,hx]
theorem A5m(L:List D)(x:D):(L++[x]).getD L.length D.nil=x:=by simp[List.getD_eq_getElem?_getD]
theorem C6u{L:List D}{a:Nat}(h:a<L.length)(x:D):(L++[x]).getD a D.nil=L.getD a D.nil:=by
 simp[List.getD_eq_getElem?_getD,List.getElem?_append_left h]
theorem A6f(z:Int):(D.int z).isNil=false:=rfl
theorem B4c:D.nil.isNil=true:=rfl
theorem G7u(l:List D):(D.agg l).isNil=false:=rfl
set_option linter.defProp false in
def HH:=And.intro A6f<|And.intro G7u<|And.intro @H3w<|And.intro B4c<|And.intro Bool.not_false<|And.intro Bool.not_true<|And.intro @if_true.{1}<|And.intro Bool.false_eq_true<|And.intro @if_false.{1}<|And.intro @D.toInt_int<|And.intro @C9o<|And.intro @D.A0h<|And.intro @Int.toNat_natCast<|And.intro @A0l<|And.intro @List.length_cons.{0}<|And.intro @List.length_nil.{0}<|And.intro @List.getD_cons_zero.{0}<|And.intro @List.getD_cons_succ.{0} @D.A0y
def wd(ws:List Nat)(i:Int):Nat:=if i<0 then 0 else ws.getD i.toNat 0
def stw(ws:List Nat)(i:Int)(x:Nat):List Nat:=if i<0 then ws else ws.set i.toNat x
theorem E2f{ws:List Nat}(h:∀x ∈ ws,x<18446744073709551616)(i:Int):wd ws i<18446744073709551616:=by
 unfold wd
 split
 ·decide
 ·rw[List.getD_eq_getElem?_getD]
  rcases Nat.lt_or_ge i.toNat ws.length with h1|h1
  ·rw[List.getElem?_eq_getElem h1];exact h _ (List.getElem_mem h1)
  ·rw[List.getElem?_eq_none h1];decide
theorem F1n{ws:List Nat}(h:∀x ∈ ws,x<18446744073709551616)(i:Int){x:Nat}(hx:x<18446744073709551616):∀y ∈ stw ws i x,y<18446744073709551616:=by
 unfold stw
 split
 ·exact h
 ·intro y hy
  rcases List.mem_or_eq_of_mem_set hy with h1|h1
  ·exact h y h1
  ·subst h1;exact hx
theorem B2j(ws:List Nat)(i:Int)(x:Nat):(stw ws i x).length=ws.length:=by
 unfold stw;split<;>simp
section
variable{L:List D}{m:Nat}{M:A1a}(hm:L.getD m D.nil=.agg M.ds)
include hm
theorem E0b(i:Nat)(hi:i<M.words.length):FX 152 [.int (m:Nat),.int (i:Nat),.agg L]=some [.nil]:=by
 have h1:¬((i:Int)<0):=by omega
 have h2:¬((i:Int)≥(M.words.length:Int)):=by omega
 rw[C5r]
 simp only[A6f,Bool.false_eq_true,if_false,D.toInt_int,D.A0h,Int.toNat_natCast,hm,A1a.A1i,List.length_map,h1,h2,decide_false,Bool.not_false,if_true]
theorem F1d(i:Int)(hi:i<0∨(M.words.length:Int)≤i):∃e:D,e.isNil=false∧FX 152 [.int (m:Nat),.int i,.agg L]=some [e]:=by
 have hcode:(D.iface 45 (.int 5)).isNil=false:=rfl
 rw[C5r]
 simp only[A6f,Bool.false_eq_true,if_false,D.toInt_int,D.A0h,Int.toNat_natCast,hm,A1a.A1i,List.length_map,Bool.not_false,if_true]
 by_cases h1:i<0
 ·refine⟨_,?_,by simp only[h1,decide_true,if_true,C1e _ _ hcode,A0b,List.length_cons,List.length_nil,List.getD_cons_zero];rfl⟩
  rfl
 ·have h2:i≥(M.words.length:Int):=by omega
  refine⟨_,?_,by simp only[h1,h2,decide_false,Bool.false_eq_true,if_false,decide_true,if_true,C1e _ _ hcode,A0b,List.length_cons,List.length_nil,List.getD_cons_zero];rfl⟩
  rfl
theorem D1f(a b c d e:D):∃M':A1a,FX 153 [.int (m:Nat),a,b,c,d,e,.agg L]=some [.agg (L.set m (.agg M'.ds))]∧M'.words=M.words:=by
 refine⟨{M with s1:=.int (IntKind.i64.wrap ((M.s1).toInt+1)),s2:=a,s3:=b,s4:=c,s5:=d,s6:=e},?_,rfl⟩
 rw[D8w]
 simp only[A6f,Bool.false_eq_true,if_false,D.toInt_int,D.A0h,Int.toNat_natCast,hm,Bool.not_false,if_true,A1a.len,A1a.rng,A1a.A1i,A1a.B6g,A1a.A1h,A1a.B2x,A1a.A1p,A1a.B5b,A1a.A1v,A1a.B5c,A1a.A1u,A1a.A9v,A1a.A3b,A1a.B5d,A1a.A4n,A1a.B6f]
theorem E3f(i:Int):∃(e:D) (M':A1a),FX 129 [.int (m:Nat),.int i,.agg L]=some [wN (wd M.words i),e,.agg (L.set m (.agg M'.ds))]∧M'.words=M.words:=by
 by_cases hi:i<0∨(M.words.length:Int)≤i
 ·obtain⟨e,he,h⟩:=F1d hm i hi
  refine⟨e,M,?_,rfl⟩
  have hz:wN (wd M.words i)=.int 0:=by
   unfold wd
   by_cases h1:i<0
   ·rw[if_pos h1];rfl
   ·rw[if_neg h1,List.getD_eq_getElem?_getD,List.getElem?_eq_none (by omega)];rfl
  rw[C3g,h,hz,D8j hm]
  simp only[A0b,List.length_cons,List.length_nil,if_true,List.getD_cons_zero,he,Bool.not_false]
 ·obtain⟨j,rfl⟩:∃j:Nat,i=j:=⟨i.toNat,by omega⟩
  have hj:j<M.words.length:=by omega
  have h1:((j:Int)≥0):=by omega
  have h2:((j:Int)<(M.words.length:Int)):=by omega
  have hg:(M.words.map wN).getD j D.nil=wN (wd M.words j):=by
   rw[List.getD_eq_getElem?_getD,List.getElem?_map,List.getElem?_eq_getElem hj]
   unfold wd
   rw[if_neg (by omega),Int.toNat_natCast,List.getD_eq_getElem?_getD,List.getElem?_eq_getElem hj];rfl
  obtain⟨M',h3,h4⟩:=D1f hm (.int 1) (.int (j:Nat)) (wN (wd M.words j)) (wN (wd M.words j)) (.bool true)
  refine⟨.nil,M',?_,h4⟩
  rw[C3g,E0b hm j hj]
  simp only[A0b,List.length_cons,List.length_nil,if_true,List.getD_cons_zero,B4c,A6f,Bool.not_true,Bool.not_false,Bool.false_eq_true,if_false,D.toInt_int,D.A0h,Int.toNat_natCast,hm,A1a.A1i,List.length_map,h1,h2,decide_true,hg,h3]
theorem F3f(i:Int)(x:Nat):∃(e:D) (M':A1a),FX 136 [.int (m:Nat),.int i,wN x,.agg L]=some [e,.agg (L.set m (.agg M'.ds))]∧M'.words=stw M.words i x:=by
 by_cases hi:i<0∨(M.words.length:Int)≤i
 ·obtain⟨e,he,h⟩:=F1d hm i hi
  refine⟨e,M,?_,?_⟩
  ·rw[C0y,h,D8j hm]
   simp only[A0b,List.length_cons,List.length_nil,if_true,List.getD_cons_zero,he,Bool.not_false]
  ·unfold stw
   by_cases h1:i<0
   ·rw[if_pos h1]
   ·rw[if_neg h1,List.set_eq_of_length_le (by omega)]
 ·obtain⟨j,rfl⟩:∃j:Nat,i=j:=⟨i.toNat,by omega⟩
  have hj:j<M.words.length:=by omega
  have h1:((j:Int)≥0):=by omega
  have h2:((j:Int)<(M.words.length:Int)):=by omega
  have hl:=A2j hm
  obtain⟨M',h3,h4⟩:=D1f hm (.int 2) (.int (j:Nat)) ((M.words.map wN).getD j D.nil) (wN x) (.bool true)
  refine⟨.nil,{M' with words:=M.words.set j x},?_,?_⟩
  ·rw[C0y,E0b hm j hj]
   simp only[A0b,List.length_cons,List.length_nil,if_true,List.getD_cons_zero,B4c,A6f,Bool.not_true,Bool.not_false,Bool.false_eq_true,if_false,D.toInt_int,D.A0h,Int.toNat_natCast,hm,A1a.A1i,List.length_map,h1,h2,decide_true,h3,A3m hl,List.set_set,h4]
   have e1:((M.words.map wN).set j (wN x))=((M.words.set j x).map wN):=(List.map_set ..).symm
   rw[e1,A1a.rng,A1a.B6g]
  ·unfold stw
   rw[if_neg (by omega),Int.toNat_natCast]
def swB(ws:List Nat)(i:Int)(old:Nat):Bool:=decide (0≤i∧i<(ws.length:Int))&&wd ws i == old
omit hm in
theorem H3e{ws:List Nat}{j:Nat}(h:j<ws.length)(old:Nat):swB ws j old=(ws[j] == old):=by
 unfold swB wd
 have h1:(0:Int)≤(j:Int)∧(j:Int)<(ws.length:Int):=by omega
 rw[if_neg (by omega),Int.toNat_natCast,List.getD_eq_getElem?_getD,List.getElem?_eq_getElem h]
 simp[h]
theorem swap_eq(i:Int)(old x:Nat):∃(e:D) (M':A1a),FX 157 [.int (m:Nat),.int i,wN old,wN x,.agg L]=some [.bool (swB M.words i old),e,.agg (L.set m (.agg M'.ds))]∧
  M'.words=if swB M.words i old then stw M.words i x else M.words:=by
 by_cases hi:i<0∨(M.words.length:Int)≤i
 ·obtain⟨e,he,h⟩:=F1d hm i hi
  have hb:swB M.words i old=false:=by
   unfold swB
   have:¬(0≤i∧i<(M.words.length:Int)):=by omega
   simp[this]
  refine⟨e,M,?_,by rw[hb];rfl⟩
  rw[B5j,h,D8j hm,hb]
  simp only[A0b,List.length_cons,List.length_nil,if_true,List.getD_cons_zero,he,Bool.not_false]
 ·obtain⟨j,rfl⟩:∃j:Nat,i=j:=⟨i.toNat,by omega⟩
  have hj:j<M.words.length:=by omega
  have h1:((j:Int)≥0):=by omega
  have h2:((j:Int)<(M.words.length:Int)):=by omega
  have hl:=A2j hm
  have hg:(M.words.map wN).getD j D.nil=wN M.words[j]:=by
   rw[List.getD_eq_getElem?_getD,List.getElem?_map,List.getElem?_eq_getElem hj];rfl
  rw[H3e hj]
  have hb:((wN M.words[j]).toInt == (wN old).toInt)=(M.words[j] == old):=by
   unfold wN
   simp only[D.toInt_int]
   by_cases h:M.words[j]=old
   ·simp[h]
   ·have:¬(M.words[j]:Int)=(old:Int):=by omega
    rw[beq_eq_false_iff_ne.2 h,beq_eq_false_iff_ne.2 this]
  cases hc:(M.words[j] == old)with
  |true=>
   have hM:(L.set m (.agg (A1a.ds {M with words:=M.words.set j x}))).getD m D.nil=.agg (A1a.ds {M with words:=M.words.set j x}):=A3m hl _
   obtain⟨M',h3,h4⟩:=D1f hM (.int 3) (.int (j:Nat)) (wN M.words[j]) (wN x) (.bool true)
   refine⟨.nil,M',?_,?_⟩
   ·rw[B5j,E0b hm j hj]
    have e1:((M.words.map wN).set j (wN x))=((M.words.set j x).map wN):=(List.map_set ..).symm
    simp only[A0b,List.length_cons,List.length_nil,if_true,List.getD_cons_zero,B4c,A6f,Bool.not_true,Bool.not_false,Bool.false_eq_true,if_false,D.toInt_int,D.A0h,Int.toNat_natCast,hm,A1a.A1i,List.length_map,h1,h2,decide_true,hg,hb,hc,e1,A1a.rng,A1a.B6g,h3,List.set_set]
   ·rw[h4,if_pos rfl]
    unfold stw
    rw[if_neg (by omega),Int.toNat_natCast]
  |false=>
   obtain⟨M',h3,h4⟩:=D1f hm (.int 3) (.int (j:Nat)) (wN M.words[j]) (wN M.words[j]) (.bool false)
   refine⟨.nil,M',?_,by rw[h4];rfl⟩
   rw[B5j,E0b hm j hj]
   simp only[A0b,List.length_cons,List.length_nil,if_true,List.getD_cons_zero,B4c,A6f,Bool.not_true,Bool.not_false,Bool.false_eq_true,if_false,D.toInt_int,D.A0h,Int.toNat_natCast,hm,A1a.A1i,List.length_map,h1,h2,decide_true,hg,hb,hc,h3]
end
structure WS where
 c:Cf
 words:List Nat
 now:Nat
 log:List Ev
structure WS.ok(S:WS):Prop where
 c:S.c.ok
 w:∀x ∈ S.words,x<18446744073709551616
 now:S.now≤1000000
 len:S.words.length≤8192
structure InW(L:List D)(w m k:Nat)(S:WS):Prop where
 w:L.getD w D.nil=.agg (A0f.ds ⟨S.c,.int m,.int k,S.log⟩)
 m:∃M:A1a,L.getD m D.nil=.agg M.ds∧M.words=S.words
 k:L.getD k D.nil=.agg (A7w.ds ⟨S.now⟩)
section
variable{L:List D}{w m k:Nat}{S:WS}(W:InW L w m k S)
include W
theorem InW.nwm:w≠m:=by
 obtain⟨M,h,_⟩:=W.m
 exact A3k W.w h (by simp[A0f.len,A1a.len])
theorem InW.nwk:w≠k:=A3k W.w W.k (by simp[A0f.len,A7w.len])
theorem InW.nmk:m≠k:=by
 obtain⟨M,h,_⟩:=W.m
 exact A3k h W.k (by simp[A1a.len,A7w.len])
theorem InW.far{a:Nat}{x:List D}(h:L.getD a D.nil=.agg x)(h1:x.length≠10)(h2:x.length≠7)(h3:x.length≠1):a≠w∧a≠m∧a≠k:=by
 obtain⟨M,hM,_⟩:=W.m
 exact⟨A3k h W.w (by rw[A0f.len];exact h1),A3k h hM (by rw[A1a.len];exact h2),A3k h W.k (by rw[A7w.len];exact h3)⟩
theorem InW.E5i(M':A1a):InW (L.set m (.agg M'.ds)) w m k {S with words:=M'.words}:=by
 obtain⟨M,hM,_⟩:=W.m
 exact⟨by rw[A3d (Ne.symm W.nwm)];exact W.w,⟨M',A3m (A2j hM) _,rfl⟩,by rw[A3d W.nmk];exact W.k⟩
theorem InW.fr{L':List D}{T:Nat→Prop}(h:Fr L L' T)(h1:¬T w)(h2:¬T m)(h3:¬T k):InW L' w m k S:=by
 obtain⟨M,hM,e⟩:=W.m
 exact⟨h.get W.w h1,⟨M,h.get hM h2,e⟩,h.get W.k h3⟩
theorem B6p(h:S.ok):FX 72 [.int (k:Nat),.agg L]=some [wN S.now]:=by
 have:=h.now
 rw[D4s]
 simp only[A6f,Bool.false_eq_true,if_false,D.toInt_int,D.A0h,Int.toNat_natCast,W.k,Bool.not_false,if_true,A7w.A1i,C9o]
 rw[A0t _ (by omega) (by omega)];rfl
def WS.word(S:WS)(x:Int):Nat:=wd S.words (2*x)
def WS.A7t(S:WS)(x:Int):Nat:=wd S.words (2*x+1)
theorem B0s(h:S.ok)(x:Int)(hx:-1000≤x∧x≤1000):∃L',FX 116 [.int (w:Nat),.int x,.agg L]=some (wN (S.word x)::((A0i (S.word x)).ds++[.agg L']))∧InW L' w m k S∧Fr L L' (·=m):=by
 obtain⟨M,hM,hw⟩:=W.m
 obtain⟨e,M',h1,h2⟩:=E3f hM (2*x)
 refine⟨L.set m (.agg M'.ds),?_,?_,Fr.set _ _ _ rfl⟩
 ·have h3:=D0j (wd M.words (2*x)) (E2f (by rw[hw];exact h.w) _)
  rw[C9l]
  simp only[A6f,Bool.not_false,if_true,D.toInt_int,D.A0h,Int.toNat_natCast,W.w,A7u,A0l,List.length_cons,List.length_nil,List.getD_cons_zero,A0f.all]
  rw[A0t (2*x) (by omega) (by omega),h1]
  simp only[A0l,List.length_cons,List.length_nil,List.getD_cons_zero,List.getD_cons_succ,C1v]
  unfold wN
  rw[h3]
  simp only[A0l,St.len,St.A1i,St.A1h,St.A1p,St.A1v,St.A1u]
  rw[hw];rfl
 ·have:=W.E5i M'
  rw[h2,hw]at this
  exact this
theorem D2b(h:S.ok)(x:Int)(hx:-1000≤x∧x≤1000):∃L',FX 117 [.int (w:Nat),.int x,.agg L]=some ((B4g (S.A7t x)).ds++[.agg L'])∧InW L' w m k S∧Fr L L' (·=m):=by
 obtain⟨M,hM,hw⟩:=W.m
 obtain⟨e,M',h1,h2⟩:=E3f hM (2*x+1)
 refine⟨L.set m (.agg M'.ds),?_,?_,Fr.set _ _ _ rfl⟩
 ·have h3:=F1x (wd M.words (2*x+1)) (E2f (by rw[hw];exact h.w) _)
  rw[C9x]
  simp only[A6f,Bool.not_false,if_true,D.toInt_int,D.A0h,Int.toNat_natCast,W.w,B0h,A0l,List.length_cons,List.length_nil,List.getD_cons_zero,A0f.all]
  rw[A0t (2*x) (by omega) (by omega),A0t (2*x+1) (by omega) (by omega),h1]
  simp only[A0l,List.length_cons,List.length_nil,List.getD_cons_zero,List.getD_cons_succ,C1a]
  unfold wN
  rw[h3]
  simp only[A0l,Tm.len,Tm.A1i,Tm.A1h,Tm.A1p,Tm.A1v,Tm.A1u]
  rw[hw];rfl
 ·have:=W.E5i M'
  rw[h2,hw]at this
  exact this
def WS.turn(S:WS)(x:Int)(old:Nat)(s:St):Bool × WS:=match stW s with
 |none=>(false,S)
 |some v=>(swB S.words (2*x) old,if swB S.words (2*x) old then {S with words:=stw S.words (2*x) v} else S)
theorem B8g(h:S.ok)(x:Int)(hx:-1000≤x∧x≤1000)(old:Nat)(s:St)(hs:s.wf):∃L',FX 133 [.int (w:Nat),.int x,wN old,.int s.k,.bool s.f,.int s.g,.int s.l,.int s.n,.agg L]=some [.bool (S.turn x old s).1,.agg L']∧InW L' w m k (S.turn x old s).2∧Fr L L' (·=m):=by
 obtain⟨M,hM,hw⟩:=W.m
 obtain⟨r,h0,ht⟩:=F6m s hs
 unfold St.ds at h0
 rw[D1o,h0]
 unfold WS.turn
 cases hv:stW s with
 |none=>
  rw[hv]at ht
  obtain⟨e,he,rfl⟩:=ht
  refine⟨L,?_,W,Fr.refl _ _⟩
  simp only[A0l,List.length_cons,List.length_nil,List.getD_cons_zero,List.getD_cons_succ,he,Bool.not_false,if_true]
 |some v=>
  rw[hv]at ht
  dsimp only[Told]at ht
  subst ht
  obtain⟨e,M',h1,h2⟩:=swap_eq hM (2*x) old v
  refine⟨L.set m (.agg M'.ds),?_,?_,Fr.set _ _ _ rfl⟩
  ·simp only[B4c,A6f,Bool.not_true,Bool.not_false,if_true,D.toInt_int,D.A0h,Int.toNat_natCast,W.w,A7u,A0l,List.length_cons,List.length_nil,List.getD_cons_zero,List.getD_cons_succ,Bool.false_eq_true,if_false,A0f.all]
   rw[A0t (2*x) (by omega) (by omega)]
   change A0b (FX 157 [.int (m:Nat),.int (2*x),wN old,wN v,.agg L]) 3 _=_
   rw[h1]
   simp only[A0l,List.length_cons,List.length_nil,List.getD_cons_zero,List.getD_cons_succ,C2q,hw]
  ·have:=W.E5i M'
   rw[h2,hw]at this
   dsimp only
   split
   ·rename_i hb;rw[hb]at this;exact this
   ·rename_i hb
    have hb':swB S.words (2*x) old=false:=by simpa using hb
    rw[hb']at this;exact this
def WS.note(S:WS)(x gen n:Int)(r:Rc):WS:=match rcW r with
 |none=>S
 |some v=>{S with words:=stw S.words (A6s S.c x gen n) v}
theorem C2y(h:S.ok)(x gen n:Int)(r:Rc)(hr:r.wf):∃L',FX 120 [.int (w:Nat),.int x,.int gen,.int n,.int r.k,.int r.q,.int r.p,.int r.t,.int r.c,.int r.g,.agg L]=some [.agg L']∧InW L' w m k (S.note x gen n r)∧Fr L L' (·=m):=by
 obtain⟨M,hM,hw⟩:=W.m
 obtain⟨z,h0,ht⟩:=G8n r hr
 unfold Rc.ds at h0
 rw[D1t,h0]
 unfold WS.note
 cases hv:rcW r with
 |none=>
  rw[hv]at ht
  obtain⟨e,he,rfl⟩:=ht
  refine⟨L,?_,W,Fr.refl _ _⟩
  simp only[A0l,List.length_cons,List.length_nil,List.getD_cons_zero,List.getD_cons_succ,he,Bool.false_eq_true,if_false]
 |some v=>
  rw[hv]at ht
  dsimp only[Told]at ht
  subst ht
  have hsl:=F7b S.c h.c x gen n
  unfold RU.Cf.ds at hsl
  dsimp only[List.cons_append,List.nil_append]at hsl
  obtain⟨e,M',h1,h2⟩:=F3f hM (A6s S.c x gen n) v
  refine⟨L.set m (.agg M'.ds),?_,?_,Fr.set _ _ _ rfl⟩
  ·simp only[B4c,A6f,Bool.not_true,Bool.not_false,if_true,D.toInt_int,D.A0h,Int.toNat_natCast,W.w,hsl,A0l,List.length_cons,List.length_nil,List.getD_cons_zero,List.getD_cons_succ,Bool.false_eq_true,if_false,A0f.all]
   change A0b (FX 136 [.int (m:Nat),.int (A6s S.c x gen n),wN v,.agg L]) 2 _=_
   rw[h1]
   simp only[A0l,List.length_cons,List.length_nil,List.getD_cons_zero,List.getD_cons_succ]
  ·have:=W.E5i M'
   rw[h2,hw]at this
   exact this
def WS.tell(S:WS)(e:Ev):WS:={S with log:=S.log++[{e with tick:=S.now}]}
theorem E9r(h:S.ok)(hl:S.log.length≤1000000000)(e:Ev):∃L',FX 134 [.int (w:Nat),.int e.kind,.int e.cell,.int e.gen,.int e.other,.int e.wth,.int e.tm.name,.int e.tm.side,.int e.tm.A0j,.int e.tm.least,.int e.tm.A1l,.int e.qty,.int e.A0j,.int e.tick,.int e.fin,.agg L]=some [.agg L']∧InW L' w m k (S.tell e)∧Fr L L' (·=w):=by
 refine⟨L.set w (.agg (A0f.ds ⟨S.c,.int m,.int k,(S.tell e).log⟩)),?_,?_,Fr.set _ _ _ rfl⟩
 ·have hn:=B6p W h
  have e1:(S.log.map Ev.d++[D.agg [.int e.kind,.int e.cell,.int e.gen,.int e.other,.int e.wth,.int e.tm.name,.int e.tm.side,.int e.tm.A0j,.int e.tm.least,.int e.tm.A1l,.int e.qty,.int e.A0j,wN S.now,.int e.fin]])=(S.tell e).log.map Ev.d:=by
   simp only[WS.tell,Ev.d,Ev.ds,List.map_append,List.map_cons,List.map_nil];rfl
  have e2:(((S.tell e).log.map Ev.d).length:Int)≤1256584717458:=by simp[WS.tell];omega
  rw[D1w]
  simp only[A6f,Bool.not_false,if_true,D.toInt_int,D.A0h,Int.toNat_natCast,W.w,A0l,List.length_cons,List.length_nil,List.getD_cons_zero,hn,A0f.all,e1,e2,decide_true]
 ·have hl:=A2j W.w
  obtain⟨M,hM,hw⟩:=W.m
  exact⟨A3m hl _,⟨M,by rw[A3d W.nwm];exact hM,hw⟩,by rw[A3d W.nwk];exact W.k⟩
end
end
section
set_option linter.unusedSectionVars false
theorem A2b.len(r:Int × St):(A2b r).length=6:=by simp only[A2b,List.length_append,St.len,List.length_cons,List.length_nil]
theorem A2b.A1i(r:Int × St):(A2b r).getD 0 D.nil=.int r.2.k:=rfl
theorem A2b.A1h(r:Int × St):(A2b r).getD 1 D.nil=.bool r.2.f:=rfl
theorem A2b.A1p(r:Int × St):(A2b r).getD 2 D.nil=.int r.2.g:=rfl
theorem A2b.A1v(r:Int × St):(A2b r).getD 3 D.nil=.int r.2.l:=rfl
theorem A2b.A1u(r:Int × St):(A2b r).getD 4 D.nil=.int r.2.n:=rfl
theorem A2b.A3b(r:Int × St):(A2b r).getD 5 D.nil=er r.1:=rfl
set_option linter.defProp false in
def A2b.all:=And.intro @A2b.len<|And.intro @A2b.A1i<|And.intro @A2b.A1h<|And.intro @A2b.A1p<|And.intro @A2b.A1v<|And.intro @A2b.A1u @A2b.A3b
theorem In.lit{z:Int}(h:-1000000000≤z∧z≤1000000000):In z:=by unfold In;omega
theorem In.sub{l q:Int}(hl:In l)(h1:0≤q)(h2:q≤l):In (l-q):=by unfold In at *;omega
theorem In.suc{n m:Int}(hn:In n)(h1:n<m)(h2:m≤100):In (n+1):=by unfold In at *;omega
theorem St.wf.C3l{s:St}(h:s.wf)(k:Int)(f:Bool)(hk:In k):St.wf {s with k:=k,f:=f}:=⟨hk,h.2.1,h.2.2.1,h.2.2.2⟩
theorem St.F3q{s:St}(h:s.wf)(m:Int):(s.ended m).wf:=by
 unfold St.ended
 split
 ·exact h.C3l 5 _ (In.lit (by decide))
 ·split
  ·exact h.C3l 8 _ (In.lit (by decide))
  ·exact h
theorem St.E4g(s:St)(m:Int):(s.ended m).n=s.n∧(s.ended m).g=s.g∧(s.ended m).l=s.l:=by
 unfold St.ended
 split
 ·exact⟨rfl,rfl,rfl⟩
 ·split<;>exact⟨rfl,rfl,rfl⟩
theorem St.G1m{s:St}(h:s.wf):s.A6w.wf:=by
 unfold St.A6w
 split
 ·exact h.C3l 1 _ (In.lit (by decide))
 ·split
  ·exact h.C3l 2 _ (In.lit (by decide))
  ·exact h
theorem St.G6e(s:St):s.A6w.n=s.n∧s.A6w.g=s.g∧s.A6w.l=s.l:=by
 unfold St.A6w
 split
 ·exact⟨rfl,rfl,rfl⟩
 ·split<;>exact⟨rfl,rfl,rfl⟩
theorem St.H1z{s:St}(h:s.wf):s.hold.wf:=by
 unfold St.hold
 split
 ·exact h.C3l 3 _ (In.lit (by decide))
 ·split
  ·exact h.C3l 4 _ (In.lit (by decide))
  ·exact h
theorem St.A9c:St.zero.wf:=⟨In.lit (z:=0) (by decide),In.lit (z:=0) (by decide),In.lit (z:=0) (by decide),In.lit (z:=0) (by decide)⟩
theorem F4p{s:St}(h:s.wf)(m:Int):(A6b s m).wf:=by
 have:=St.F3q (St.G1m h) m
 unfold A6b
 split
 ·exact this.C3l 6 _ (In.lit (by decide))
 ·exact this
theorem C8a(s:St)(m:Int):(A6b s m).n=s.n∧(A6b s m).g=s.g∧(A6b s m).l=s.l:=by
 have h1:=St.E4g s.A6w m
 have h2:=St.G6e s
 unfold A6b
 split
 ·dsimp only;rw[h1.1,h1.2.1,h1.2.2];exact h2
 ·rw[h1.1,h1.2.1,h1.2.2];exact h2
def St.wfn(s:St):Prop:=s.wf∧0≤s.n
theorem F2m{s:St}(h:s.wfn)(q m:Int)(hm:m≤100):(A6v s q m).2.wfn:=by
 obtain⟨⟨h1,h2,h3,h4⟩,h5⟩:=h
 have hz:St.zero.wfn:=⟨St.A9c,by decide⟩
 unfold A6v
 split
 ·exact hz
 split
 ·exact hz
 split
 ·exact hz
 ·refine⟨St.F3q (s:={s with l:=s.l-q,n:=s.n+1}) ⟨h1,h2,h3.sub (q:=q) (by omega) (by omega),h4.suc (m:=m) (by omega) hm⟩ m,?_⟩
  ·show 0≤(St.ended {s with l:=s.l-q,n:=s.n+1} m).n
   rw[(St.E4g _ m).1];dsimp only;omega
theorem D6n{s:St}(h:s.wfn)(q m:Int)(hm:m≤100):(A1q s q m).2.wfn:=by
 obtain⟨⟨h1,h2,h3,h4⟩,h5⟩:=h
 have hz:St.zero.wfn:=⟨St.A9c,by decide⟩
 unfold A1q
 split
 ·exact hz
 split
 ·exact hz
 split
 ·split
  ·exact hz
  ·refine⟨F4p (s:={s with l:=s.l-q,n:=s.n+1}) ⟨h1,h2,h3.sub (q:=q) (by omega) (by omega),h4.suc (m:=m) (by omega) hm⟩ m,?_⟩
   ·show 0≤(A6b {s with l:=s.l-q,n:=s.n+1} m).n
    rw[(C8a _ m).1];dsimp only;omega
 ·exact⟨F4p ⟨h1,h2,h3,h4⟩ m,by show 0≤(A6b s m).n;rw[(C8a s m).1];exact h5⟩
theorem D0r(x:Nat):(A0i x).wfn:=⟨B2d x,(B3l x).2.2.2.1⟩
theorem G3i(a b:Tm)(ha:a.sm)(hb:b.sm)(l o:Int)(hl:In l)(ho:In o):In (A7q a b l o).1∧In (A7q a b l o).2:=by
 have key:∀buy sell:Tm,buy.sm→sell.sm→In (A8o a b buy sell l o).1∧In (A8o a b buy sell l o).2:=by
  intro buy sell h1 h2
  have h0:In 0:=by unfold In;omega
  unfold A8o
  have hq:In (if o<l then o else l):=by
   split
   ·exact ho
   ·exact hl
  generalize (if o<l then o else l)=q at hq
  generalize (if b.least>a.least then b.least else a.least)=mm
  split
  ·exact⟨h0,h0⟩
  ·split
   ·exact⟨h0,h0⟩
   ·constructor
    ·exact hq
    ·show In (F2s sell.A0j buy.A0j)
     have a1:=h1.2.2.1
     have a2:=h2.2.2.1
     unfold F2s In;omega
 unfold A7q
 split
 ·exact key b a hb ha
 ·exact key a b ha hb
structure A0a.ok(P:A0a):Prop where
 wx:P.wx<18446744073709551616
 wy:P.wy<18446744073709551616
 tx:P.tx.sm
 ty:P.ty.sm
 pc:0≤P.pc∧P.pc≤14
 q:In P.q
 p:In P.p
 at_:In P.at_
 fin:In P.fin
 nx:P.nx.wfn
 ny:P.ny.wfn
def B0b(c:Cf)(P:A0a):Bool:=decide (A5f c P.a.x<0) || decide (A5f c P.a.y<0) || A5f c P.a.x == A5f c P.a.y
def C7j(c:Cf)(P:A0a)(s:St):Bool:=if P.a.way=1∨P.a.way=2 then s.k == 1&&s.g == P.a.gen else if P.a.way=3 then s.k == 2&&P.tx.side == 0&&B2h c P.tx == P.a.A3r else false
def D2f(c:Cf)(P:A0a)(s:St):Bool:=if P.a.way=1 then s.k == 1 else if P.a.way=2 then B2h c P.ty == P.a.A3r&&s.k == 2 else if P.a.way=3 then s.k == 2 else false
def B9h(P:A0a)(S:WS):A0a × WS:=if C7j S.c P (A0i P.wx)then({P with held:=(S.turn P.a.x P.wx (A0i P.wx).hold).1},(S.turn P.a.x P.wx (A0i P.wx).hold).2)else(P,S)
def Ev.zero:Ev:=⟨0,0,0,0,0,.zero,0,0,0,0⟩
def B9b(P:A0a)(S:WS)(t:Int × St):A0a × WS:=
 if t.1≠0 then(P,S)else if(S.turn P.a.y P.wy t.2).1=false then(P,S)else
 ({P with made:=true,ny:=t.2,at_:=S.now},(S.turn P.a.y P.wy t.2).2.tell {Ev.zero with kind:=2,cell:=P.a.x,gen:=(A0i P.wx).g,other:=P.a.y,wth:=(A0i P.wy).g,qty:=P.q,A0j:=P.p})
def A2c(P:A0a):Int × Int:=A7q P.tx P.ty (A0i P.wx).l (A0i P.wy).l
def B7s(P:A0a)(S:WS):A0a × WS:=
 if P.held=false∨D2f S.c P (A0i P.wy)=false then(P,S)else
 B9b {P with q:=(A2c P).1,p:=(A2c P).2} S (A6v (A0i P.wy) (A2c P).1 S.c.c5)
def B4r(P:A0a)(S:WS):A0a × WS:=if P.held=true∧P.free=false then({P with wx:=S.word P.a.x},S)else(P,S)
def C0r(P:A0a)(S:WS)(t:Int × St):A0a × WS:=
 if t.1≠0 then(P,S)else if(S.turn P.a.x P.wx t.2).1=false then(P,S)else
 ({P with free:=true,nx:=t.2,fin:=S.now},if t.2.over then(S.turn P.a.x P.wx t.2).2.tell {Ev.zero with kind:=7,cell:=P.a.x,gen:=t.2.g,fin:=t.2.k} else(S.turn P.a.x P.wx t.2).2)
def B5g(P:A0a)(S:WS):A0a × WS:=if P.held=false∨P.free=true then(P,S)else C0r P S (A1q (A0i P.wx) (if P.made then P.q else 0) S.c.c5)
def B5s(P:A0a)(x gen:Int):Rc:=⟨1,P.q,P.p,P.at_,x,gen⟩
def A7h(S:WS)(x gen n:Int):Option Rc→WS
 |some r=>S.note x gen n r
 |none=>S
def A4i(P:A0a)(S:WS):WS:=
 if P.pc=10∧P.made=true then S.note P.a.x P.nx.g (P.nx.n-1) (B5s P P.a.y P.ny.g)
 else if P.pc=11∧P.made=true then S.note P.a.y P.ny.g (P.ny.n-1) (B5s P P.a.x P.nx.g)
 else if P.pc=12∧P.made=true then A7h S P.a.y P.ny.g S.c.c5 (A7v P.ny P.at_)
 else if P.pc=13∧P.held=true then A7h S P.a.x P.nx.g S.c.c5 (A7v P.nx P.fin)
 else S
def A3h(P:A0a)(S:WS):A0a × WS:=
 if P.pc=0 then({P with wx:=S.word P.a.x},S)
 else if P.pc=1 then({P with tx:=B4g (S.A7t P.a.x)},S)
 else if P.pc=2 then B9h P S
 else if P.pc=3 then({P with wy:=S.word P.a.y},S)
 else if P.pc=4 then({P with ty:=B4g (S.A7t P.a.y)},S)
 else if P.pc=5 then B7s P S
 else if P.pc=6∨P.pc=8 then B4r P S
 else if P.pc=7∨P.pc=9 then B5g P S
 else(P,A4i P S)
def A1c(P:A0a)(S:WS):A0a × WS:=if P.pc≥14 then(P,S)else if B0b S.c P then({P with pc:=P.pc+1},S)else({(A3h P S).1 with pc:=P.pc+1},(A3h P S).2)
def A0a.new(a:Aim):A0a:=⟨a,0,0,0,.zero,.zero,false,false,false,0,0,0,0,.zero,.zero⟩
theorem WS.B0f{S:WS}(h:S.ok)(x:Int)(old:Nat)(s:St):(S.turn x old s).2.ok∧(S.turn x old s).2.c=S.c∧(S.turn x old s).2.now=S.now∧(S.turn x old s).2.log=S.log∧((S.turn x old s).1=false→(S.turn x old s).2=S):=by
 unfold WS.turn
 cases hv:stW s with
 |none=>exact⟨h,rfl,rfl,rfl,fun _=>rfl⟩
 |some v=>
  dsimp only
  cases hb:swB S.words (2*x) old with
  |false=>exact⟨h,rfl,rfl,rfl,fun _=>rfl⟩
  |true=>
   refine⟨⟨h.c,F1n h.w _ ?_,h.now,by show(stw S.words (2*x) v).length≤_;rw[B2j];exact h.len⟩,rfl,rfl,rfl,fun h=>by cases h⟩
   unfold stW at hv
   split at hv
   ·cases hv
   ·exact C8w E1s hv
theorem WS.C3o(S:WS)(x:Int)(old:Nat)(s:St):(S.turn x old s).2.words.length=S.words.length:=by
 unfold WS.turn
 cases stW s with
 |none=>rfl
 |some v=>
  dsimp only
  split
  ·exact B2j _ _ _
  ·rfl
theorem WS.F1f(S:WS)(x gen n:Int)(r:Rc):(S.note x gen n r).words.length=S.words.length:=by
 unfold WS.note
 cases rcW r with
 |none=>rfl
 |some v=>exact B2j _ _ _
theorem WS.E5d{S:WS}(h:S.ok)(x gen n:Int)(r:Rc):(S.note x gen n r).ok∧(S.note x gen n r).c=S.c∧(S.note x gen n r).now=S.now∧(S.note x gen n r).log=S.log:=by
 unfold WS.note
 cases hv:rcW r with
 |none=>exact⟨h,rfl,rfl,rfl⟩
 |some v=>
  refine⟨⟨h.c,F1n h.w _ ?_,h.now,by show(stw S.words _ v).length≤_;rw[B2j];exact h.len⟩,rfl,rfl,rfl⟩
  unfold rcW at hv
  split at hv
  ·cases hv
  ·exact C8w E8p hv
theorem WS.C2h{S:WS}(h:S.ok)(e:Ev):(S.tell e).ok:=⟨h.c,h.w,h.now,h.len⟩
theorem WS.B8e{S:WS}(h:S.ok)(x:Int):S.word x<18446744073709551616:=E2f h.w _
theorem WS.G6j{S:WS}(h:S.ok)(x:Int):S.A7t x<18446744073709551616:=E2f h.w _
theorem H0x{S:WS}(h:S.ok)(x:Int):FX 97 [.int S.c.c0,.int S.c.c1,.int S.c.c2,.int S.c.c3,.int S.c.c4,.int S.c.c5,.int S.c.c6,.int x]=some [.int (A5f S.c x)]:=G6z S.c h.c x
theorem D8b{S:WS}(h:S.ok)(t:Tm):FX 131 [.int S.c.c0,.int S.c.c1,.int S.c.c2,.int S.c.c3,.int S.c.c4,.int S.c.c5,.int S.c.c6,.int t.name,.int t.side,.int t.A0j,.int t.least,.int t.A1l]=some [.int (B2h S.c t)]:=G1q S.c h.c t
theorem H3q(s:St):FX 171 [.int s.k,.bool s.f,.int s.g,.int s.l,.int s.n]=some s.hold.ds:=H1r s
def Did(L L':List D)(a w m k:Nat)(R:A0a × WS):Prop:=InW L' w m k R.2∧L'.getD a D.nil=.agg R.1.ds∧Fr L L' (fun b=>b=a∨b=w∨b=m)
section
variable{L:List D}{a w m k:Nat}{P:A0a}{S:WS}(W:InW L w m k S)(ha:L.getD a D.nil=.agg P.ds)
include W ha
theorem pfar:a≠w∧a≠m∧a≠k:=W.far ha (by rw[A0a.len];decide) (by rw[A0a.len];decide) (by rw[A0a.len];decide)
theorem A4c:Did L L a w m k (P,S):=⟨W,ha,Fr.refl _ _⟩
theorem B6u{L1:List D}{S1:WS}(W1:InW L1 w m k S1)(F:Fr L L1 (fun b=>b=w∨b=m)):Did L L1 a w m k (P,S1):=by
 obtain⟨h1,h2,h3⟩:=pfar W ha
 exact⟨W1,F.get ha (by simp only[h1,h2,or_self,not_false_iff]),F.mono fun b hb=>.inr hb⟩
omit W ha in
theorem B0e{L1:List D}{P1:A0a}{S1:WS}(hd:Did L L1 a w m k (P1,S1))(P2:A0a):Did L (L1.set a (.agg P2.ds)) a w m k (P2,S1):=by
 obtain⟨W1,h1,F⟩:=hd
 obtain⟨g1,g2,g3⟩:=pfar W1 h1
 exact⟨W1.fr (Fr.set L1 a _ (T:=(·=a)) rfl) (Ne.symm g1) (Ne.symm g2) (Ne.symm g3),A3m (A2j h1) _,F.trans (Fr.set L1 a _ (.inl rfl))⟩
theorem D5m:FX 70 [.int (a:Nat),.agg L]=some [.bool (decide (P.pc≥14))]:=by
 rw[A7n]
 simp only[HH,ha,A0a.A3b]
theorem H1u(h:S.ok):FX 127 [.int (a:Nat),.int (w:Nat),.agg L]=some [.bool (B0b S.c P)]:=by
 have h1:=H0x h
 rw[D2z]
 simp only[HH,ha,W.w,A0f.all,A0a.A1h,A0a.A1v,h1]
 unfold B0b
 by_cases a1:A5f S.c P.a.x<0
 ·simp only[a1,decide_true,if_true,Bool.true_or]
 by_cases a2:A5f S.c P.a.y<0
 ·simp only[a1,a2,decide_true,decide_false,Bool.false_eq_true,if_false,if_true,Bool.true_or,Bool.or_true]
 ·simp only[a1,a2,decide_false,Bool.false_eq_true,if_false,Bool.false_or]
theorem G5l(h:S.ok)(s:St):FX 170 [.int (a:Nat),.int (w:Nat),.int s.k,.bool s.f,.int s.g,.int s.l,.int s.n,.agg L]=some [.bool (C7j S.c P s)]:=by
 have h1:=D8b h P.tx
 rw[D1m]
 simp only[HH,ha,W.w,A0f.all,A0a.A1i,A0a.A1p,A0a.A1u,A0a.A6o,A0a.A6z,A0a.B4s,A0a.B1j,A0a.A9y,h1]
 unfold C7j
 by_cases a1:P.a.way=1
 ·by_cases b1:s.k=1
  ·simp[a1,b1]
  ·simp[a1,b1]
 by_cases a2:P.a.way=2
 ·by_cases b1:s.k=1
  ·simp[a2,b1]
  ·simp[a2,b1]
 by_cases a3:P.a.way=3
 ·by_cases b1:s.k=2
  ·by_cases b2:P.tx.side=0
   ·simp[a3,b1,b2]
   ·simp[a3,b1,b2]
  ·simp[a3,b1]
 ·simp[a1,a2,a3]
theorem G7y(h:S.ok)(s:St):FX 172 [.int (a:Nat),.int (w:Nat),.int s.k,.bool s.f,.int s.g,.int s.l,.int s.n,.agg L]=some [.bool (D2f S.c P s)]:=by
 have h1:=D8b h P.ty
 rw[D1v]
 simp only[HH,ha,W.w,A0f.all,A0a.A1i,A0a.A1u,A0a.B0x,A0a.B3t,A0a.B7f,A0a.D9u,A0a.C4q,h1]
 unfold D2f
 by_cases a1:P.a.way=1
 ·simp[a1]
 by_cases a2:P.a.way=2
 ·by_cases b1:B2h S.c P.ty=P.a.A3r
  ·simp[a2,b1]
  ·simp[a2,b1]
 by_cases a3:P.a.way=3
 ·simp[a3]
 ·simp[a1,a2,a3]
theorem G9i(h:S.ok)(hp:P.ok)(hx:-1000≤P.a.x∧P.a.x≤1000):∃L',FX 147 [.int (a:Nat),.int (w:Nat),.agg L]=some [.agg L']∧Did L L' a w m k (B9h P S):=by
 have h1:=D0j P.wx hp.wx
 have h2:=G5l W ha h (A0i P.wx)
 have h3:=H3q (A0i P.wx)
 obtain⟨L1,h4,W1,F1⟩:=B8g W h P.a.x hx P.wx (A0i P.wx).hold (St.H1z (B2d _))
 have d1:=B6u W ha W1 (F1.mono fun b hb=>.inr hb)
 rw[D2o]
 simp only[HH,ha,A0a.A1h,A0a.A4n]
 unfold wN at h4⊢
 rw[h1]
 simp only[HH,St.len,St.A1i,St.A1h,St.A1p,St.A1v,St.A1u,h2]
 unfold B9h
 cases hb:C7j S.c P (A0i P.wx)with
 |false=>exact⟨L,by simp only[HH],A4c W ha⟩
 |true=>
  refine⟨_,?_,B0e d1 {P with held:=(S.turn P.a.x P.wx (A0i P.wx).hold).1}⟩
  simp only[HH,h3,St.len,St.A1i,St.A1h,St.A1p,St.A1v,St.A1u,h4,d1.2.1,A0a.all]
end
end
section
set_option linter.unusedSectionVars false
theorem H2d(a b:Tm)(ha:a.sm)(hb:b.sm)(l o:Int):FX 103 [.int a.name,.int a.side,.int a.A0j,.int a.least,.int a.A1l,.int b.name,.int b.side,.int b.A0j,.int b.least,.int b.A1l,.int l,.int o]=some [.int (A7q a b l o).1,.int (A7q a b l o).2]:=G8f a b ha hb l o
theorem H3d(s:St)(hs:s.wf)(q m:Int)(hm:m≤100):FX 173 [.int s.k,.bool s.f,.int s.g,.int s.l,.int s.n,.int q,.int m]=some (A2b (A6v s q m)):=H2q s hs q m hm
theorem G3o(s:St)(hs:s.wf)(q m:Int)(hm:m≤100):FX 174 [.int s.k,.bool s.f,.int s.g,.int s.l,.int s.n,.int q,.int m]=some (A2b (A1q s q m)):=G0z s hs q m hm
theorem E9m(s:St)(t:Int):FX 119 [.int s.k,.bool s.f,.int s.g,.int s.l,.int s.n,.int t]=some (A4j (A7v s t)):=H3x s t
theorem C6v{L:List D}{w m k:Nat}{S:WS}(W:InW L w m k S)(h:S.ok)(hl:S.log.length≤1000000000)(kind cell gen other wth qty A0j fin:Int):
  ∃L',FX 134 [.int (w:Nat),.int kind,.int cell,.int gen,.int other,.int wth,.int 0,.int 0,.int 0,.int 0,.int 0,.int qty,.int A0j,.int 0,.int fin,.agg L]=some [.agg L']∧
   InW L' w m k (S.tell {Ev.zero with kind:=kind,cell:=cell,gen:=gen,other:=other,wth:=wth,qty:=qty,A0j:=A0j,fin:=fin})∧Fr L L' (·=w):=
 E9r W h hl {Ev.zero with kind:=kind,cell:=cell,gen:=gen,other:=other,wth:=wth,qty:=qty,A0j:=A0j,fin:=fin}
theorem D7w{L L1 L2:List D}{a w m k:Nat}{P:A0a}{S1 S2:WS}(d:Did L L1 a w m k (P,S1))(W2:InW L2 w m k S2)(F:Fr L1 L2 (fun b=>b=w∨b=m)):Did L L2 a w m k (P,S2):=by
 have:=B6u d.1 d.2.1 W2 F
 exact⟨this.1,this.2.1,d.2.2.trans this.2.2⟩
theorem E9w(x:Nat)(hx:x<18446744073709551616):FX 39 [wN x]=some (A0i x).ds:=D0j x hx
theorem E1w{c:Int}(h:c=0):(er c).isNil=true:=by rw[D8q];simp[h]
theorem E2c{c:Int}(h:c≠0):(er c).isNil=false:=by rw[D8q];simp[h]
theorem A9b{c:Cf}(h:c.ok):1≤c.c5∧c.c5≤4:=h.2.2.2.2.2.1
section
variable{L:List D}{a w m k:Nat}{P:A0a}{S:WS}(W:InW L w m k S)(ha:L.getD a D.nil=.agg P.ds)(h:S.ok)(hp:P.ok)(hl:S.log.length≤1000000000)
include W ha h hp
theorem G7m(hx:-1000≤P.a.x∧P.a.x≤1000):∃L',FX 149 [.int (a:Nat),.int (w:Nat),.agg L]=some [.agg L']∧Did L L' a w m k (B4r P S):=by
 obtain⟨L1,h4,W1,F1⟩:=B0s W h P.a.x hx
 have d1:=B6u W ha W1 (F1.mono fun b hb=>.inr hb)
 rw[D2c]
 simp only[HH,ha,A0a.A1h,A0a.D0p,A0a.C8n]
 by_cases b1:P.held=true
 ·by_cases b2:P.free=true
  ·have e:B4r P S=(P,S):=if_neg (by simp[b2])
   rw[e]
   exact⟨L,by simp only[HH,b1,b2],A4c W ha⟩
  ·have e:B4r P S=({P with wx:=S.word P.a.x},S):=if_pos ⟨b1,by simpa using b2⟩
   rw[e]
   refine⟨_,?_,B0e d1 _⟩
   have b2':P.free=false:=by simpa using b2
   have e:(List.getD ((A0i (S.word P.a.x)).ds++[D.agg L1]) 5 D.nil)=D.agg L1:=rfl
   simp only[HH,h4,List.cons_append,List.length_append,St.len,b1,b2',e,d1.2.1,A0a.all]
 ·have e:B4r P S=(P,S):=if_neg (by simp[b1])
  have b1':P.held=false:=by simpa using b1
  rw[e]
  exact⟨L,by simp only[HH,b1'],A4c W ha⟩
include hl
theorem G6p(hx:-1000≤P.a.y∧P.a.y≤1000):∃L',FX 148 [.int (a:Nat),.int (w:Nat),.agg L]=some [.agg L']∧Did L L' a w m k (B7s P S):=by
 have h1:=E9w P.wx hp.wx
 have h2:=E9w P.wy hp.wy
 have h3:=G7y W ha h (A0i P.wy)
 have h4:=H2d P.tx P.ty hp.tx hp.ty (A0i P.wx).l (A0i P.wy).l
 obtain⟨f,hfF⟩:∃f,f=A2c P:=⟨_,rfl⟩
 have hfM:A7q P.tx P.ty (A0i P.wx).l (A0i P.wy).l=f:=hfF.symm
 rw[hfM]at h4
 have hf:=A9b h.c
 rw[D3d]
 simp only[HH,ha,A0a.A1h,A0a.A1v,A0a.A4n,A0a.A7y,A0a.A6o,A0a.A6z,A0a.B4s,A0a.B1j,A0a.A9y,A0a.B0x,A0a.B3t,A0a.B7f,A0a.D9u,A0a.C4q,A0a.D0p,h1,St.len,St.A1i,St.A1h,St.A1p,St.A1v,St.A1u,h2,h3,h4]
 by_cases b0:P.held=false∨D2f S.c P (A0i P.wy)=false
 ·have e:B7s P S=(P,S):=if_pos b0
  rw[e]
  rcases b0 with b1|b1
  ·exact⟨L,by simp only[HH,b1],A4c W ha⟩
  ·by_cases b2:P.held=true
   ·exact⟨L,by simp only[HH,b1,b2],A4c W ha⟩
   ·have b2':P.held=false:=by simpa using b2
    exact⟨L,by simp only[HH,b2'],A4c W ha⟩
 have b1:P.held=true:=by simp only[not_or]at b0;simpa using b0.1
 have b2:D2f S.c P (A0i P.wy)=true:=by simp only[not_or]at b0;simpa using b0.2
 obtain⟨P2,hP2⟩:∃P2:A0a,P2={P with q:=f.1,p:=f.2}:=⟨_,rfl⟩
 have e:B7s P S=B9b P2 S (A6v (A0i P.wy) f.1 S.c.c5):=by rw[hP2,hfF];exact if_neg b0
 rw[e]
 have d2:=B0e (A4c W ha) P2
 have h5:=H3d (A0i P.wy) (B2d _) f.1 S.c.c5 (by omega)
 simp only[HH,b2,A0a.rng,A0a.E9i,A0a.E8m,←hP2]
 rw[if_neg (show ¬(!P.held)=true by rw[b1];decide)]
 simp only[d2.1.w,D.A0h,A0f.A3b,h5,A0l,A2b.len]
 have ht:=F2m (D0r P.wy) f.1 S.c.c5 (by omega)
 generalize A6v (A0i P.wy) f.1 S.c.c5=t at*
 by_cases b3:t.1=0
 ·simp only[HH,A2b.all,E1w b3]
  have b3':¬t.1≠0:=by simpa using b3
  have hw2:P2.wy=P.wy:=by rw[hP2]
  have hy2:P2.a.y=P.a.y:=by rw[hP2]
  obtain⟨L3,h6,W3,F3⟩:=B8g d2.1 h P.a.y hx P.wy t.2 ht.1
  have d3:Did L L3 a w m k (P2,(S.turn P.a.y P.wy t.2).2):=D7w d2 W3 (F3.mono fun b hb=>.inr hb)
  obtain⟨o1,o2,o3,o4,o5⟩:=S.B0f h P.a.y P.wy t.2
  simp only[h6,HH]
  by_cases b4:(S.turn P.a.y P.wy t.2).1=false
  ·have e:B9b P2 S t=(P2,S):=by
    unfold B9b
    rw[if_neg b3',hw2,hy2,if_pos b4]
   rw[e]
   rw[o5 b4]at d3
   exact⟨L3,by simp only[HH,b4],d3⟩
  ·have b4':(S.turn P.a.y P.wy t.2).1=true:=by simpa using b4
   have e:B9b P2 S t=({P2 with made:=true,ny:=t.2,at_:=S.now},(S.turn P.a.y P.wy t.2).2.tell {Ev.zero with kind:=2,cell:=P2.a.x,gen:=(A0i P2.wx).g,other:=P2.a.y,wth:=(A0i P2.wy).g,qty:=P2.q,A0j:=P2.p}):=by
    unfold B9b
    rw[if_neg b3',hw2,hy2,if_neg b4]
   rw[e]
   have d4:=B0e d3 {P2 with made:=true,ny:=t.2,at_:=S.now}
   obtain⟨L5,h7,W5,F5⟩:=C6v d4.1 o1 (by rw[o4];exact hl) 2 P2.a.x (A0i P2.wx).g P2.a.y (A0i P2.wy).g P2.q P2.p 0
   have hw1:(A0i P2.wx).g=(A0i P.wx).g:=by rw[hP2]
   have hw3:(A0i P2.wy).g=(A0i P.wy).g:=by rw[hP2]
   rw[hw1,hw3]at h7
   have h8:=B6p W3 o1
   rw[o3]at h8
   refine⟨L5,?_,D7w d4 W5 (F5.mono fun b hb=>.inl hb)⟩
   simp only[HH,b4',W3.w,A0f.A6o,h8,C4j,d3.2.1,A0a.A1h,A0a.A1v,A0a.D0f,A0a.E0z,A0a.rng,A0a.F8c,A0a.E9g,A0a.E8k,A0a.E8q,A0a.E9k,A0a.E8v]
   have e9:(A0a.ds {P2 with made:=true,ny:=t.2}).set 23 (wN S.now)=A0a.ds {P2 with made:=true,ny:=t.2,at_:=S.now}:=rfl
   have e10:({k:=t.2.k,f:=t.2.f,g:=t.2.g,l:=t.2.l,n:=t.2.n}:St)=t.2:=rfl
   simp only[e10,e9,h7,HH]
 ·have e:B9b P2 S t=(P2,S):=if_pos b3
  rw[e]
  exact⟨_,by simp only[HH,A2b.all,E2c b3],d2⟩
end
end
section
set_option linter.unusedSectionVars false
theorem G9b(t:Tm)(x:D):t.ds++[x]=[.int t.name,.int t.side,.int t.A0j,.int t.least,.int t.A1l,x]:=rfl
theorem E9v(s:St)(x:D):s.ds++[x]=[.int s.k,.bool s.f,.int s.g,.int s.l,.int s.n,x]:=rfl
theorem A4j.len(o:Option Rc):(A4j o).length=7:=by
 cases o<;>simp only[A4j,List.length_append,Rc.len,List.length_cons,List.length_nil]
theorem D5e{s:St}(hs:s.wf){t:Int}(ht:In t){r:Rc}(h:A7v s t=some r):r.wf:=by
 unfold A7v at h
 split at h
 ·rename_i ho
  cases h
  have hk:5≤s.k∧s.k≤8:=by unfold St.over at ho;simpa using ho
  obtain⟨h1,h2,h3,h4⟩:=hs
  intro z hz
  simp only[Rc.vs,List.mem_cons,List.not_mem_nil,or_false]at hz
  rcases hz with rfl|rfl|rfl|rfl|rfl|rfl
  ·exact In.lit (by omega)
  ·exact h3
  ·exact h4
  ·exact ht
  ·exact In.lit (by decide)
  ·exact In.lit (by decide)
 ·cases h
structure Kept(P:A0a)(S:WS)(R:A0a × WS):Prop where
 p:R.1.ok
 s:R.2.ok
 c:R.2.c=S.c
 now:R.2.now=S.now
 log:R.2.log.length≤S.log.length+1
 pc:R.1.pc=P.pc
 a:R.1.a=P.a
 len:R.2.words.length=S.words.length
section
variable{P:A0a}{S:WS}(h:S.ok)(hp:P.ok)
include h hp
theorem B0n:Kept P S (P,S):=⟨hp,h,rfl,rfl,Nat.le_succ _,rfl,rfl,rfl⟩
theorem H0d:In (S.now:Int):=In.lit (by have:=h.now;omega)
theorem G1y:Kept P S (B9h P S):=by
 obtain⟨o1,o2,o3,o4,o5⟩:=S.B0f h P.a.x P.wx (A0i P.wx).hold
 unfold B9h
 split
 ·exact⟨⟨hp.wx,hp.wy,hp.tx,hp.ty,hp.pc,hp.q,hp.p,hp.at_,hp.fin,hp.nx,hp.ny⟩,o1,o2,o3,by rw[o4];omega,rfl,rfl,S.C3o _ _ _⟩
 ·exact B0n h hp
theorem G3v:Kept P S (B7s P S):=by
 have hf:=A9b h.c
 unfold B7s
 split
 ·exact B0n h hp
 ·have hm:=G3i P.tx P.ty hp.tx hp.ty (A0i P.wx).l (A0i P.wy).l (B2d _).2.2.1 (B2d _).2.2.1
  have hm':In (A2c P).1∧In (A2c P).2:=hm
  have ht:=F2m (D0r P.wy) (A2c P).1 S.c.c5 (by omega)
  generalize A2c P=f at*
  generalize A6v (A0i P.wy) f.1 S.c.c5=t at*
  obtain⟨o1,o2,o3,o4,o5⟩:=S.B0f h P.a.y P.wy t.2
  have hp2:A0a.ok {P with q:=f.1,p:=f.2}:=⟨hp.wx,hp.wy,hp.tx,hp.ty,hp.pc,hm'.1,hm'.2,hp.at_,hp.fin,hp.nx,hp.ny⟩
  unfold B9b
  split
  ·exact⟨hp2,h,rfl,rfl,Nat.le_succ _,rfl,rfl,rfl⟩
  ·split
   ·exact⟨hp2,h,rfl,rfl,Nat.le_succ _,rfl,rfl,rfl⟩
   ·exact⟨⟨hp.wx,hp.wy,hp.tx,hp.ty,hp.pc,hm'.1,hm'.2,H0d h hp,hp.fin,hp.nx,ht⟩,WS.C2h o1 _,o2,o3,by simp only[WS.tell,List.length_append,o4,List.length_cons,List.length_nil];omega,rfl,rfl,S.C3o _ _ _⟩
theorem G3u:Kept P S (B4r P S):=by
 unfold B4r
 split
 ·exact⟨⟨WS.B8e h _,hp.wy,hp.tx,hp.ty,hp.pc,hp.q,hp.p,hp.at_,hp.fin,hp.nx,hp.ny⟩,h,rfl,rfl,Nat.le_succ _,rfl,rfl,rfl⟩
 ·exact B0n h hp
theorem G6d:Kept P S (B5g P S):=by
 have hf:=A9b h.c
 unfold B5g
 split
 ·exact B0n h hp
 ·have ht:=D6n (D0r P.wx) (if P.made then P.q else 0) S.c.c5 (by omega)
  generalize A1q (A0i P.wx) (if P.made then P.q else 0) S.c.c5=t at*
  obtain⟨o1,o2,o3,o4,o5⟩:=S.B0f h P.a.x P.wx t.2
  unfold C0r
  split
  ·exact B0n h hp
  ·split
   ·exact B0n h hp
   ·have hq:A0a.ok {P with free:=true,nx:=t.2,fin:=S.now}:=⟨hp.wx,hp.wy,hp.tx,hp.ty,hp.pc,hp.q,hp.p,hp.at_,H0d h hp,ht,hp.ny⟩
    split
    ·exact⟨hq,WS.C2h o1 _,o2,o3,by simp only[WS.tell,List.length_append,o4,List.length_cons,List.length_nil];omega,rfl,rfl,S.C3o _ _ _⟩
    ·exact⟨hq,o1,o2,o3,by dsimp only;rw[o4];omega,rfl,rfl,S.C3o _ _ _⟩
theorem G4g:Kept P S (P,A4i P S):=by
 have key:∀x g n r,Kept P S (P,S.note x g n r):=by
  intro x g n r
  obtain⟨o1,o2,o3,o4⟩:=WS.E5d h x g n r
  exact⟨hp,o1,o2,o3,by dsimp only;rw[o4];omega,rfl,rfl,S.F1f _ _ _ _⟩
 have key2:∀x g n o,Kept P S (P,A7h S x g n o):=by
  intro x g n o
  cases o with
  |none=>exact B0n h hp
  |some r=>exact key _ _ _ _
 unfold A4i
 split
 ·exact key _ _ _ _
 split
 ·exact key _ _ _ _
 split
 ·exact key2 _ _ _ _
 split
 ·exact key2 _ _ _ _
 ·exact B0n h hp
theorem E0q:Kept P S (A3h P S):=by
 unfold A3h
 split
 ·exact⟨⟨WS.B8e h _,hp.wy,hp.tx,hp.ty,hp.pc,hp.q,hp.p,hp.at_,hp.fin,hp.nx,hp.ny⟩,h,rfl,rfl,Nat.le_succ _,rfl,rfl,rfl⟩
 split
 ·exact⟨⟨hp.wx,hp.wy,C7b _,hp.ty,hp.pc,hp.q,hp.p,hp.at_,hp.fin,hp.nx,hp.ny⟩,h,rfl,rfl,Nat.le_succ _,rfl,rfl,rfl⟩
 split
 ·exact G1y h hp
 split
 ·exact⟨⟨hp.wx,WS.B8e h _,hp.tx,hp.ty,hp.pc,hp.q,hp.p,hp.at_,hp.fin,hp.nx,hp.ny⟩,h,rfl,rfl,Nat.le_succ _,rfl,rfl,rfl⟩
 split
 ·exact⟨⟨hp.wx,hp.wy,hp.tx,C7b _,hp.pc,hp.q,hp.p,hp.at_,hp.fin,hp.nx,hp.ny⟩,h,rfl,rfl,Nat.le_succ _,rfl,rfl,rfl⟩
 split
 ·exact G3v h hp
 split
 ·exact G3u h hp
 split
 ·exact G6d h hp
 ·exact G4g h hp
end
structure H4n(P:A0a)(S:WS)(R:A0a × WS):Prop where
 p:R.1.ok
 s:R.2.ok
 c:R.2.c=S.c
 now:R.2.now=S.now
 log:R.2.log.length≤S.log.length+1
 a:R.1.a=P.a
 len:R.2.words.length=S.words.length
theorem D0x{P:A0a}{S:WS}(h:S.ok)(hp:P.ok):H4n P S (A1c P S):=by
 unfold A1c
 split
 ·exact⟨hp,h,rfl,rfl,Nat.le_succ _,rfl,rfl⟩
 ·rename_i hc
  have hpc:0≤P.pc+1∧P.pc+1≤14:=by have:=hp.pc;omega
  split
  ·exact⟨⟨hp.wx,hp.wy,hp.tx,hp.ty,hpc,hp.q,hp.p,hp.at_,hp.fin,hp.nx,hp.ny⟩,h,rfl,rfl,Nat.le_succ _,rfl,rfl⟩
  ·have kk:=E0q h hp
   obtain⟨q,s,e1,e2,e3,e4,e5,e6⟩:=kk
   exact⟨⟨q.wx,q.wy,q.tx,q.ty,hpc,q.q,q.p,q.at_,q.fin,q.nx,q.ny⟩,s,e1,e2,e3,e5,e6⟩
theorem A0a.C0d(a:Aim):(A0a.new a).ok:=by
 have z:In 0:=In.lit (by decide)
 have t:Tm.zero.sm:=by unfold Tm.sm Tm.zero;decide
 exact⟨by show 0<_;decide,by show 0<_;decide,t,t,by show 0≤(0:Int)∧(0:Int)≤14;decide,z,z,z,z,⟨St.A9c,Int.le_refl 0⟩,⟨St.A9c,Int.le_refl 0⟩⟩
section
variable{L:List D}{a w m k:Nat}{P:A0a}{S:WS}(W:InW L w m k S)(ha:L.getD a D.nil=.agg P.ds)(h:S.ok)(hp:P.ok)
include W ha h hp
theorem H0r(hl:S.log.length≤1000000000)(hx:-1000≤P.a.x∧P.a.x≤1000):∃L',FX 150 [.int (a:Nat),.int (w:Nat),.agg L]=some [.agg L']∧Did L L' a w m k (B5g P S):=by
 have h1:=E9w P.wx hp.wx
 have hf:=A9b h.c
 rw[D5z]
 simp only[HH,ha,A0a.D0p,A0a.D5v,A0a.C8n,A0a.D0f]
 by_cases b0:P.held=false∨P.free=true
 ·have e:B5g P S=(P,S):=if_pos b0
  rw[e]
  rcases b0 with b1|b1
  ·exact⟨L,by simp only[HH,b1],A4c W ha⟩
  ·by_cases b2:P.held=true
   ·exact⟨L,by simp only[HH,b1,b2],A4c W ha⟩
   ·have b2':P.held=false:=by simpa using b2
    exact⟨L,by simp only[HH,b2'],A4c W ha⟩
 have b1:P.held=true:=by simp only[not_or]at b0;simpa using b0.1
 have b2:P.free=false:=by simp only[not_or]at b0;simpa using b0.2
 obtain⟨q,hq⟩:∃q:Int,q=if P.made then P.q else 0:=⟨_,rfl⟩
 have e:B5g P S=C0r P S (A1q (A0i P.wx) q S.c.c5):=by rw[hq];exact if_neg b0
 rw[e]
 have h5:=G3o (A0i P.wx) (B2d _) q S.c.c5 (by omega)
 rw[if_neg (show ¬(!P.held)=true by rw[b1];decide),if_neg (show ¬P.free=true by rw[b2];decide)]
 have eJ:(if P.made=true then A5d (.int (a:Nat)) (.int (w:Nat)) (.agg L) [.agg L,.int P.q]else A5d (.int (a:Nat)) (.int (w:Nat)) (.agg L) [.agg L,.int 0])=A5d (.int (a:Nat)) (.int (w:Nat)) (.agg L) [.agg L,.int q]:=by
  rw[hq]
  split<;>rfl
 rw[eJ,C6j]
 simp only[HH,ha,A0a.A1h,A0a.A4n,h1,St.len,St.A1i,St.A1h,St.A1p,St.A1v,St.A1u,W.w,A0f.A3b,h5,A2b.len]
 have ht:=D6n (D0r P.wx) q S.c.c5 (by omega)
 generalize A1q (A0i P.wx) q S.c.c5=t at*
 by_cases b3:t.1=0
 ·simp only[HH,A2b.all,E1w b3]
  have b3':¬t.1≠0:=by simpa using b3
  obtain⟨L3,h6,W3,F3⟩:=B8g W h P.a.x hx P.wx t.2 ht.1
  have d3:Did L L3 a w m k (P,(S.turn P.a.x P.wx t.2).2):=B6u W ha W3 (F3.mono fun b hb=>.inr hb)
  obtain⟨o1,o2,o3,o4,o5⟩:=S.B0f h P.a.x P.wx t.2
  simp only[h6,HH]
  by_cases b4:(S.turn P.a.x P.wx t.2).1=false
  ·have e:C0r P S t=(P,S):=by
    unfold C0r
    rw[if_neg b3',if_pos b4]
   rw[e]
   rw[o5 b4]at d3
   exact⟨L3,by simp only[HH,b4],d3⟩
  ·have b4':(S.turn P.a.x P.wx t.2).1=true:=by simpa using b4
   have d4:=B0e d3 {P with free:=true,nx:=t.2,fin:=S.now}
   have h8:=B6p W3 o1
   rw[o3]at h8
   have h9:=F6t t.2.k (.bool t.2.f) (.int t.2.g) (.int t.2.l) (.int t.2.n)
   have e9:(A0a.ds {P with free:=true,nx:=t.2}).set 24 (wN S.now)=A0a.ds {P with free:=true,nx:=t.2,fin:=S.now}:=rfl
   have e10:({k:=t.2.k,f:=t.2.f,g:=t.2.g,l:=t.2.l,n:=t.2.n}:St)=t.2:=rfl
   by_cases b5:t.2.over=true
   ·have e:C0r P S t=({P with free:=true,nx:=t.2,fin:=S.now},(S.turn P.a.x P.wx t.2).2.tell {Ev.zero with kind:=7,cell:=P.a.x,gen:=t.2.g,fin:=t.2.k}):=by
     unfold C0r
     rw[if_neg b3',if_neg b4,if_pos b5]
    rw[e]
    obtain⟨L5,h7,W5,F5⟩:=C6v d4.1 o1 (by rw[o4];exact hl) 7 P.a.x t.2.g 0 0 0 0 t.2.k
    have b5':(decide (5≤t.2.k)&&decide (t.2.k≤8))=true:=b5
    refine⟨L5,?_,D7w d4 W5 (F5.mono fun b hb=>.inl hb)⟩
    simp only[HH,b4',W3.w,A0f.A6o,h8,B4h,d3.2.1,A0a.A1h,A0a.rng,A0a.D9t,A0a.E2l,A0a.D9r,A0a.E1l,A0a.E0u,A0a.E0d,h9,b5']
    simp only[e10,e9,h7,HH]
   ·have e:C0r P S t=({P with free:=true,nx:=t.2,fin:=S.now},(S.turn P.a.x P.wx t.2).2):=by
     unfold C0r
     rw[if_neg b3',if_neg b4,if_neg b5]
    rw[e]
    have b6:t.2.over=false:=by simpa using b5
    have b5':(decide (5≤t.2.k)&&decide (t.2.k≤8))=false:=b6
    refine⟨_,?_,d4⟩
    simp only[HH,b4',W3.w,A0f.A6o,h8,B4h,d3.2.1,A0a.A1h,A0a.rng,A0a.D9t,A0a.E2l,A0a.D9r,A0a.E1l,A0a.E0u,A0a.E0d,h9,b5']
    simp only[e10,e9,HH]
 ·have e:C0r P S t=(P,S):=if_pos b3
  rw[e]
  exact⟨_,by simp only[HH,A2b.all,E2c b3],A4c W ha⟩
theorem E0f(x g:Int):FX 175 [.int (a:Nat),.int x,.int g,.agg L]=some (B5s P x g).ds:=by
 rw[C2w]
 simp only[HH,ha,A0a.D0f,A0a.E0z,A0a.D9v]
 rfl
theorem E2z(x g:Int)(hx:In x)(hg:In g):(B5s P x g).wf:=by
 intro z hz
 simp only[B5s,Rc.vs,List.mem_cons,List.not_mem_nil,or_false]at hz
 rcases hz with rfl|rfl|rfl|rfl|rfl|rfl
 ·exact In.lit (by decide)
 ·exact hp.q
 ·exact hp.p
 ·exact hp.at_
 ·exact hx
 ·exact hg
theorem F6x(x g:Int)(o:Option Rc)(ho:∀r,o=some r→r.wf):∃L',(if((A4j o).getD 6 D.nil).toBool=true then A0b (FX 120 [.int (w:Nat),.int x,.int g,.int S.c.c5,(A4j o).getD 0 D.nil,(A4j o).getD 1 D.nil,(A4j o).getD 2 D.nil,(A4j o).getD 3 D.nil,(A4j o).getD 4 D.nil,(A4j o).getD 5 D.nil,.agg L]) 1 fun r11=>some [r11.getD 0 D.nil]else some [.agg L])=some [.agg L']∧Did L L' a w m k (P,A7h S x g S.c.c5 o):=by
 cases o with
 |none=>exact⟨L,rfl,A4c W ha⟩
 |some r=>
  obtain⟨L1,n1,W1,F1⟩:=C2y W h x g S.c.c5 r (ho r rfl)
  refine⟨L1,?_,B6u W ha W1 (F1.mono fun b hb=>.inr hb)⟩
  show A0b (FX 120 [.int (w:Nat),.int x,.int g,.int S.c.c5,.int r.k,.int r.q,.int r.p,.int r.t,.int r.c,.int r.g,.agg L]) 1 (fun r11=>some [r11.getD 0 D.nil])=_
  rw[n1];rfl
theorem G7o(hx:In P.a.x)(hy:In P.a.y):∃L',FX 151 [.int (a:Nat),.int (w:Nat),.agg L]=some [.agg L']∧Did L L' a w m k (P,A4i P S):=by
 have hnx:In (P.nx.n-1):=by have:=hp.nx.1.2.2.2;have:=hp.nx.2;unfold In at *;omega
 have hny:In (P.ny.n-1):=by have:=hp.ny.1.2.2.2;have:=hp.ny.2;unfold In at *;omega
 have fr1:=E0f W ha h hp P.a.y P.ny.g
 have fr2:=E0f W ha h hp P.a.x P.nx.g
 obtain⟨L1,n1,W1,F1⟩:=C2y W h P.a.x P.nx.g (P.nx.n-1) (B5s P P.a.y P.ny.g) (E2z W ha h hp _ _ hy hp.ny.1.2.1)
 obtain⟨L2,n2,W2,F2⟩:=C2y W h P.a.y P.ny.g (P.ny.n-1) (B5s P P.a.x P.nx.g) (E2z W ha h hp _ _ hx hp.nx.1.2.1)
 have d1:=B6u W ha W1 (F1.mono fun b hb=>.inr hb)
 have d2:=B6u W ha W2 (F2.mono fun b hb=>.inr hb)
 have e1:=E9m P.ny P.at_
 have e2:=E9m P.nx P.fin
 obtain⟨L3,n3,d3⟩:=F6x W ha h hp P.a.y P.ny.g (A7v P.ny P.at_) fun r hr=>D5e hp.ny.1 hp.at_ hr
 obtain⟨L4,n4,d4⟩:=F6x W ha h hp P.a.x P.nx.g (A7v P.nx P.fin) fun r hr=>D5e hp.nx.1 hp.fin hr
 rw[D3j]
 simp only[HH,ha,A0a.A3b,A0a.D5v,C4h,C4b,C3y,C4a,A0a.A1h,A0a.A1v,A0a.D0p,A0a.D9v,A0a.E8j,A0a.E9f,A0a.E9h,A0a.E9n,A0a.E8f,A0a.E8n,A0a.E8u,A0a.E8e,A0a.E8g,A0a.E9j,A0a.E0c,fr1,fr2,hnx.w,hny.w,Rc.len,Rc.A1i,Rc.A1h,Rc.A1p,Rc.A1v,Rc.A1u,Rc.A3b,n1,n2,e1,e2,A4j.len,W.w,A0f.A3b]
 simp only[n3,n4]
 by_cases c0:P.pc=10
 ·by_cases c1:P.made=true
  ·have e:A4i P S=_:=if_pos ⟨c0,c1⟩
   rw[e];exact⟨L1,by simp[c0,c1],d1⟩
  ·have e:A4i P S=S:=by simp[A4i,c0,c1]
   rw[e];exact⟨L,by simp[c0,c1],A4c W ha⟩
 by_cases c2:P.pc=11
 ·by_cases c1:P.made=true
  ·have e:A4i P S=S.note P.a.y P.ny.g (P.ny.n-1) (B5s P P.a.x P.nx.g):=by simp[A4i,c2,c1]
   rw[e];exact⟨L2,by simp[c2,c1],d2⟩
  ·have e:A4i P S=S:=by simp[A4i,c2,c1]
   rw[e];exact⟨L,by simp[c2,c1],A4c W ha⟩
 by_cases c3:P.pc=12
 ·by_cases c1:P.made=true
  ·have e:A4i P S=A7h S P.a.y P.ny.g S.c.c5 (A7v P.ny P.at_):=by simp[A4i,c3,c1]
   rw[e];exact⟨L3,by simp[c3,c1],d3⟩
  ·have e:A4i P S=S:=by simp[A4i,c3,c1]
   rw[e];exact⟨L,by simp[c3,c1],A4c W ha⟩
 by_cases c4:P.pc=13
 ·by_cases c1:P.held=true
  ·have e:A4i P S=A7h S P.a.x P.nx.g S.c.c5 (A7v P.nx P.fin):=by simp[A4i,c4,c1]
   rw[e];exact⟨L4,by simp[c4,c1],d4⟩
  ·have e:A4i P S=S:=by simp[A4i,c4,c1]
   rw[e];exact⟨L,by simp[c4,c1],A4c W ha⟩
 ·have e:A4i P S=S:=by simp[A4i,c0,c2,c3,c4]
  rw[e];exact⟨L,by simp[c0,c2,c3,c4],A4c W ha⟩
theorem G8d(hl:S.log.length≤1000000000)(hx:-1000≤P.a.x∧P.a.x≤1000)(hy:-1000≤P.a.y∧P.a.y≤1000):∃L',FX 128 [.int (a:Nat),.int (w:Nat),.agg L]=some [.agg L']∧Did L L' a w m k (A3h P S):=by
 obtain⟨L0,n0,W0,F0⟩:=B0s W h P.a.x hx
 obtain⟨L1,n1,W1,F1⟩:=D2b W h P.a.x hx
 obtain⟨L2,n2,d2⟩:=G9i W ha h hp hx
 obtain⟨L3,n3,W3,F3⟩:=B0s W h P.a.y hy
 obtain⟨L4,n4,W4,F4⟩:=D2b W h P.a.y hy
 obtain⟨L5,n5,d5⟩:=G6p W ha h hp hl hy
 obtain⟨L6,n6,d6⟩:=G7m W ha h hp hx
 obtain⟨L7,n7,d7⟩:=H0r W ha h hp hl hx
 obtain⟨L8,n8,d8⟩:=G7o W ha h hp (In.lit (by omega)) (In.lit (by omega))
 have d0:=B6u W ha W0 (F0.mono fun b hb=>.inr hb)
 have d1:=B6u W ha W1 (F1.mono fun b hb=>.inr hb)
 have d3:=B6u W ha W3 (F3.mono fun b hb=>.inr hb)
 have d4:=B6u W ha W4 (F4.mono fun b hb=>.inr hb)
 rw[D3v]
 simp only[HH,ha,A0a.A1h,A0a.A1v,A0a.A3b,n0,n1,n2,n3,n4,n5,n6,n7,n8]
 by_cases c0:P.pc=0
 ·have e:A3h P S=_:=if_pos c0
  rw[e]
  refine⟨_,?_,B0e d0 _⟩
  have e2:(List.getD ((A0i (S.word P.a.x)).ds++[D.agg L0]) 5 D.nil)=D.agg L0:=rfl
  simp only[c0,beq_self_eq_true,HH,List.length_append,St.len,e2,d0.2.1,A0a.all]
 by_cases c1:P.pc=1
 ·have e:A3h P S=({P with tx:=B4g (S.A7t P.a.x)},S):=by unfold A3h;rw[if_neg c0,if_pos c1]
  rw[e]
  refine⟨_,?_,B0e d1 _⟩
  have i0:(P.pc == 0)=false:=beq_eq_false_iff_ne.2 c0
  have i1:(P.pc == 1)=true:=beq_iff_eq.2 c1
  simp only[i0,i1,G9b,HH,d1.2.1,A0a.all]
 by_cases c2:P.pc=2
 ·have e:A3h P S=B9h P S:=by unfold A3h;rw[if_neg c0,if_neg c1,if_pos c2]
  rw[e]
  exact⟨L2,by simp[c2,A0b],d2⟩
 by_cases c3:P.pc=3
 ·have e:A3h P S=({P with wy:=S.word P.a.y},S):=by unfold A3h;rw[if_neg c0,if_neg c1,if_neg c2,if_pos c3]
  rw[e]
  refine⟨_,?_,B0e d3 _⟩
  have e2:(List.getD ((A0i (S.word P.a.y)).ds++[D.agg L3]) 5 D.nil)=D.agg L3:=rfl
  have i0:((3:Int) == 0)=false:=rfl
  have i1:((3:Int) == 1)=false:=rfl
  have i2:((3:Int) == 2)=false:=rfl
  simp only[c3,i0,i1,i2,beq_self_eq_true,HH,List.length_append,St.len,e2,d3.2.1,A0a.all]
 by_cases c4:P.pc=4
 ·have e:A3h P S=({P with ty:=B4g (S.A7t P.a.y)},S):=by unfold A3h;rw[if_neg c0,if_neg c1,if_neg c2,if_neg c3,if_pos c4]
  rw[e]
  refine⟨_,?_,B0e d4 _⟩
  have i0:(P.pc == 0)=false:=beq_eq_false_iff_ne.2 c0
  have i1:(P.pc == 1)=false:=beq_eq_false_iff_ne.2 c1
  have i2:(P.pc == 2)=false:=beq_eq_false_iff_ne.2 c2
  have i3:(P.pc == 3)=false:=beq_eq_false_iff_ne.2 c3
  have i4:(P.pc == 4)=true:=beq_iff_eq.2 c4
  simp only[i0,i1,i2,i3,i4,G9b,HH,d4.2.1,A0a.all]
 by_cases c5:P.pc=5
 ·have e:A3h P S=B7s P S:=by unfold A3h;rw[if_neg c0,if_neg c1,if_neg c2,if_neg c3,if_neg c4,if_pos c5]
  rw[e]
  exact⟨L5,by simp[c5,A0b],d5⟩
 by_cases c6:P.pc=6∨P.pc=8
 ·have e:A3h P S=B4r P S:=by unfold A3h;rw[if_neg c0,if_neg c1,if_neg c2,if_neg c3,if_neg c4,if_neg c5,if_pos c6]
  rw[e]
  rcases c6 with c6|c6
  ·exact⟨L6,by simp[c6,A0b],d6⟩
  ·exact⟨L6,by simp[c6,A0b],d6⟩
 by_cases c7:P.pc=7∨P.pc=9
 ·have e:A3h P S=B5g P S:=by unfold A3h;rw[if_neg c0,if_neg c1,if_neg c2,if_neg c3,if_neg c4,if_neg c5,if_neg c6,if_pos c7]
  rw[e]
  rcases c7 with c7|c7
  ·exact⟨L7,by simp[c7,A0b],d7⟩
  ·exact⟨L7,by simp[c7,A0b],d7⟩
 ·have e:A3h P S=(P,A4i P S):=by unfold A3h;rw[if_neg c0,if_neg c1,if_neg c2,if_neg c3,if_neg c4,if_neg c5,if_neg c6,if_neg c7]
  rw[e]
  simp only[not_or]at c6 c7
  exact⟨L8,by simp[c0,c1,c2,c3,c4,c5,c6,c7,A0b],d8⟩
theorem F1m(hl:S.log.length≤1000000000):∃L',FX 115 [.int (a:Nat),.int (w:Nat),.agg L]=some [.agg L']∧Did L L' a w m k (A1c P S):=by
 have n1:=D5m W ha
 have n2:=H1u W ha h
 have hpc:In (P.pc+1):=In.lit (by have:=hp.pc;omega)
 have hal:=A5b S.c h.c
 rw[D2h]
 simp only[HH,n1,n2]
 by_cases c0:P.pc≥14
 ·have e:A1c P S=(P,S):=if_pos c0
  rw[e]
  exact⟨L,by simp only[c0,decide_true,if_true],A4c W ha⟩
 by_cases c1:B0b S.c P=true
 ·have e:A1c P S=({P with pc:=P.pc+1},S):=by unfold A1c;rw[if_neg c0,if_pos c1]
  rw[e]
  refine⟨_,?_,B0e (A4c W ha) _⟩
  simp only[c0,c1,decide_false,HH,ha,A0a.A3b,hpc.w,A0a.rng,A0a.B5d]
 ·have e:A1c P S=({(A3h P S).1 with pc:=P.pc+1},(A3h P S).2):=by unfold A1c;rw[if_neg c0,if_neg c1]
  rw[e]
  have c1':B0b S.c P=false:=by simpa using c1
  have hxy:(0≤P.a.x∧P.a.x<24)∧(0≤P.a.y∧P.a.y<24):=by
   unfold B0b at c1'
   simp only[Bool.or_eq_false_iff,decide_eq_false_iff_not]at c1'
   obtain⟨⟨o1,o2⟩,_⟩:=c1'
   unfold A5f at o1 o2
   constructor
   ·rcases Decidable.em (P.a.x<0∨P.a.x≥A0p S.c)with o|o
    ·rw[if_pos o]at o1;omega
    ·omega
   ·rcases Decidable.em (P.a.y<0∨P.a.y≥A0p S.c)with o|o
    ·rw[if_pos o]at o2;omega
    ·omega
  obtain⟨L1,n3,d1⟩:=G8d W ha h hp hl (by omega) (by omega)
  have hpc2:=(E0q h hp).pc
  refine⟨_,?_,B0e (P1:=(A3h P S).1) d1 _⟩
  simp only[c0,c1',decide_false,HH,n3,d1.2.1,A0a.A3b,hpc2,hpc.w,A0a.rng,A0a.B5d]
end
end
section
set_option linter.unusedSectionVars false
def C7s(c:Cf)(t:Tm)(qty now:Int):Int:=
 if t.name<0∨t.name≥c.c2 then 22
 else if t.side≠0∧t.side≠1 then 1
 else if qty<1∨qty>9999 then 23
 else if t.A0j<1∨t.A0j>9999 then 24
 else if t.least<1∨t.least>qty then 25
 else if t.A1l≤now∨t.A1l>1000000 then 26
 else 0
theorem G6s(c:Cf)(t:Tm)(qty now:Int):FX 99 (c.ds++t.ds++[.int qty,.int now])=some [er (C7s c t qty now)]:=by
 unfold RU.Cf.ds Tm.ds C7s
 dsimp only[List.cons_append,List.nil_append]
 rw[E8c]
 simp only[D.toInt_int]
 by_cases a0:t.name<0
 ·simp only[a0,decide_true,if_true,B2t,D.A0y,true_or];rfl
 by_cases a1:t.name≥c.c2
 ·simp only[a0,a1,decide_true,decide_false,Bool.false_eq_true,if_false,if_true,B2t,D.A0y,or_true];rfl
 simp only[a0,a1,decide_false,Bool.false_eq_true,if_false,or_self,B2t,D3l,D4t,D4c,D.toInt_int,D.A0y]
 have fin:(if(decide (t.least<1))=true then(some [D.iface 45 (D.int 25)]:Option (List D))else if(decide (t.least>qty))=true then some [D.iface 45 (D.int 25)]else if(decide (t.A1l≤now))=true then some [D.iface 45 (D.int 26)]else if(decide (t.A1l>1000000))=true then some [D.iface 45 (D.int 26)]else some [D.nil])=some [er (if t.least<1∨t.least>qty then 25 else if t.A1l≤now∨t.A1l>1000000 then 26 else 0)]:=by
  by_cases b1:t.least<1
  ·simp only[b1,decide_true,if_true,true_or];rfl
  by_cases b2:t.least>qty
  ·simp only[b1,b2,decide_true,decide_false,Bool.false_eq_true,if_false,if_true,or_true];rfl
  by_cases b3:t.A1l≤now
  ·simp only[b1,b2,b3,decide_true,decide_false,Bool.false_eq_true,if_false,if_true,true_or,or_self];rfl
  by_cases b4:t.A1l>1000000
  ·simp only[b1,b2,b3,b4,decide_true,decide_false,Bool.false_eq_true,if_false,if_true,or_true,or_self];rfl
  ·simp only[b1,b2,b3,b4,decide_false,Bool.false_eq_true,if_false,or_self];rfl
 by_cases a2:t.side=0
 ·have i2:(t.side != 0)=false:=by simp[a2]
  have i3:¬(t.side≠0∧t.side≠1):=by simp[a2]
  simp only[i2,i3,Bool.false_eq_true,if_false]
  by_cases a4:qty<1
  ·simp only[a4,decide_true,if_true,true_or];rfl
  by_cases a5:qty>9999
  ·simp only[a4,a5,decide_true,decide_false,Bool.false_eq_true,if_false,if_true,or_true];rfl
  simp only[a4,a5,decide_false,Bool.false_eq_true,if_false,or_self]
  by_cases a6:t.A0j<1
  ·simp only[a6,decide_true,if_true,true_or];rfl
  by_cases a7:t.A0j>9999
  ·simp only[a6,a7,decide_true,decide_false,Bool.false_eq_true,if_false,if_true,or_true];rfl
  simp only[a6,a7,decide_false,Bool.false_eq_true,if_false,or_self]
  exact fin
 ·have i2:(t.side != 0)=true:=by simp[a2]
  simp only[i2,if_true]
  by_cases a3:t.side=1
  ·have i3:(t.side != 1)=false:=by simp[a3]
   have i4:¬(t.side≠0∧t.side≠1):=by simp[a3]
   simp only[i3,i4,Bool.false_eq_true,if_false]
   by_cases a4:qty<1
   ·simp only[a4,decide_true,if_true,true_or];rfl
   by_cases a5:qty>9999
   ·simp only[a4,a5,decide_true,decide_false,Bool.false_eq_true,if_false,if_true,or_true];rfl
   simp only[a4,a5,decide_false,Bool.false_eq_true,if_false,or_self]
   by_cases a6:t.A0j<1
   ·simp only[a6,decide_true,if_true,true_or];rfl
   by_cases a7:t.A0j>9999
   ·simp only[a6,a7,decide_true,decide_false,Bool.false_eq_true,if_false,if_true,or_true];rfl
   simp only[a6,a7,decide_false,Bool.false_eq_true,if_false,or_self]
   exact fin
  ·have i3:(t.side != 1)=true:=by simp[a3]
   have i4:(t.side≠0∧t.side≠1):=⟨a2,a3⟩
   rw[if_pos i3,if_pos i4];rfl
def upL(n:Nat):List Int:=(List.range n).map fun(i:Nat)=>(i:Int)
def C1y(t:Int)(n:Nat):List Int:=(List.range n).map fun(i:Nat)=>t-1-(i:Int)
def B1w(c:Cf)(side A0j:Int):List Int:=
 if B0w c A0j<0 then[]else if side=0 then upL (B0w c A0j+1).toNat else if side=1 then C1y c.c3 (c.c3-B0w c A0j).toNat else[]
section
variable(c:Cf)(hc:c.ok)
include hc
theorem F7p(x7 x8:D)(b:Int)(hb:0≤b)(hb4:b<4):∀(d j:Nat),(j+d:Int)=b+1→A6e (.int c.c0) (.int c.c1) (.int c.c2) (.int c.c3) (.int c.c4) (.int c.c5) (.int c.c6) x7 x8 (.int b) [.int (j:Nat),.agg ((upL j).map D.int)]=some [.agg ((upL (b+1).toNat).map D.int)]
 |0,j,h=>by
  have h1:¬(j:Int)≤b:=by omega
  have h2:(b+1).toNat=j:=by omega
  rw[B0q,h2]
  simp only[D.toInt_int,h1,decide_false,Bool.false_eq_true,if_false]
 |d+1,j,h=>by
  have h1:(j:Int)≤b:=by omega
  have ih:=F7p x7 x8 b hb hb4 d (j+1) (by omega)
  have e:(upL j).map D.int++[D.int (j:Nat)]=(upL (j+1)).map D.int:=by simp[upL,List.range_succ]
  have hl:(((upL (j+1)).map D.int).length:Int)≤17592186044416:=by simp[upL];omega
  rw[B0q]
  simp only[D.toInt_int,D.A0h,e,h1,hl,decide_true,if_true]
  rw[A0t _ (by omega) (by omega)]
  exact ih
theorem E6s(x7 x8:D)(b:Int)(hb:0≤b)(hb4:b<c.c3):∀(d j:Nat),(j+d:Int)=c.c3-b→A6g (.int c.c0) (.int c.c1) (.int c.c2) (.int c.c3) (.int c.c4) (.int c.c5) (.int c.c6) x7 x8 (.int b) [.int (c.c3-1-(j:Nat)),.agg ((C1y c.c3 j).map D.int)]=some [.agg ((C1y c.c3 (c.c3-b).toNat).map D.int)]
 |0,j,h=>by
  have h1:¬(c.c3-1-(j:Int))≥b:=by omega
  have h2:(c.c3-b).toNat=j:=by omega
  rw[B0r,h2]
  simp only[D.toInt_int,h1,decide_false,Bool.false_eq_true,if_false]
 |d+1,j,h=>by
  have h3:=hc.2.2.2.1
  have h1:(c.c3-1-(j:Int))≥b:=by omega
  have ih:=E6s x7 x8 b hb hb4 d (j+1) (by omega)
  have e:(C1y c.c3 j).map D.int++[D.int (c.c3-1-(j:Nat))]=(C1y c.c3 (j+1)).map D.int:=by simp[C1y,List.range_succ]
  have hl:(((C1y c.c3 (j+1)).map D.int).length:Int)≤17592186044416:=by simp[C1y];omega
  rw[B0r]
  simp only[D.toInt_int,D.A0h,e,h1,hl,decide_true,if_true]
  rw[A0t _ (by omega) (by omega)]
  have e2:c.c3-1-(j:Int)-1=c.c3-1-((j+1:Nat):Int):=by omega
  rw[e2]
  exact ih
theorem F2e(side A0j:Int):FX 76 (c.ds++[.int side,.int A0j])=some [.agg ((B1w c side A0j).map D.int)]:=by
 have hb:=F7t c hc A0j
 have hbb:=G1z c hc A0j
 have h3:=hc.2.2.2.1
 unfold RU.Cf.ds at hb⊢
 dsimp only[List.cons_append,List.nil_append]at hb⊢
 rw[C5v,hb]
 simp only[HH]
 unfold B1w
 by_cases a1:B0w c A0j<0
 ·simp only[a1,decide_true,if_true];rfl
 by_cases a2:side=0
 ·have:=F7p c hc (.int side) (.int A0j) (B0w c A0j) (by omega) (by omega) (B0w c A0j+1).toNat 0 (by omega)
  simp only[a1,a2,decide_false,beq_self_eq_true,HH]at this⊢
  exact this
 by_cases a3:side=1
 ·have:=E6s c hc (.int side) (.int A0j) (B0w c A0j) (by omega) (by omega) (c.c3-B0w c A0j).toNat 0 (by omega)
  have i2:((1:Int) == 0)=false:=rfl
  have i3:¬(1:Int)=0:=by decide
  have e:c.c3-1-((0:Nat):Int)=c.c3-1:=by omega
  rw[e]at this
  simp only[a1,a3,i2,i3,decide_false,beq_self_eq_true,HH]at this⊢
  rw[A0t _ (by omega) (by omega)]
  exact this
 ·have i2:(side == 0)=false:=by simp[a2]
  have i3:(side == 1)=false:=by simp[a3]
  simp only[a1,a2,a3,i2,i3,decide_false,HH];rfl
theorem E6t(side A0j:Int):(B1w c side A0j).length≤4:=by
 have hbb:=G1z c hc A0j
 have h3:=hc.2.2.2.1
 unfold B1w
 split
 ·decide
 split
 ·simp[upL];omega
 split
 ·simp[C1y];omega
 ·decide
def B3e(c:Cf)(x gen name b:Int)(n:Nat):List Aim:=(List.range n).map fun(y:Nat)=>⟨2,x,gen,(y:Int),C7f c name b⟩
def A6y(c:Cf)(x gen name:Int)(bs:List Int):List Aim:=bs.flatMap fun b=>B3e c x gen name b (A0p c).toNat
def B1v(x gen:Int)(n:Nat):List Aim:=List.replicate n ⟨1,x,gen,-1,0⟩
def C1t(c:Cf)(x gen:Int)(t:Tm):List Aim:=B1v x gen c.c4.toNat++A6y c x gen t.name (B1w c t.side t.A0j)
theorem E2j(x gen name:Int)(bs:List Int):(A6y c x gen name bs).length=bs.length*(A0p c).toNat:=by
 induction bs with
 |nil=>simp[A6y]
 |cons b bs ih=>
  have:A6y c x gen name (b::bs)=B3e c x gen name b (A0p c).toNat++A6y c x gen name bs:=by simp[A6y]
  rw[this,List.length_append,ih]
  simp[B3e,Nat.add_mul,Nat.add_comm]
theorem F3g(x gen:Int)(t:Tm):(C1t c x gen t).length≤100:=by
 have h1:=E6t c hc t.side t.A0j
 have h2:=A5b c hc
 have h4:=hc.2.2.2.2.1
 have h5:(B1w c t.side t.A0j).length*(A0p c).toNat≤4*24:=Nat.mul_le_mul h1 (by omega)
 rw[C1t,List.length_append,E2j c hc]
 simp only[B1v,List.length_replicate]
 omega
theorem G9w(x gen:Int)(t:Tm)(x14 x15 x16 x18:D)(i:Int)(b:Int)(hx16:((x16).toL).getD i.toNat D.nil=.int b)(g0 g1:Eng.Fn)(pre:List Aim)(hp:pre.length≤1000):∀(d j:Nat),(j+d:Int)=A0p c→
  B4w (.int c.c0) (.int c.c1) (.int c.c2) (.int c.c3) (.int c.c4) (.int c.c5) (.int c.c6) (.int x) (.int gen) (.int t.name) (.int t.side) (.int t.A0j) (.int t.least) (.int t.A1l) x14 x15 x16 (.int i) x18 (.int (A0p c)) g0 g1 [.int (j:Nat),.agg ((pre++B3e c x gen t.name b j).map Aim.d)]=g1 [.int (IntKind.i64.wrap (i+1)),.agg ((pre++B3e c x gen t.name b (A0p c).toNat).map Aim.d)]
 |0,j,h=>by
  have h1:¬(j:Int)<A0p c:=by omega
  have h2:(A0p c).toNat=j:=by omega
  rw[C2n,h2]
  simp only[D.toInt_int,h1,decide_false,Bool.false_eq_true,if_false]
 |d+1,j,h=>by
  have hal:=A5b c hc
  have h1:(j:Int)<A0p c:=by omega
  have ih:=G9w x gen t x14 x15 x16 x18 i b hx16 g0 g1 pre hp d (j+1) (by omega)
  have hs:FX 155 [.int c.c0,.int c.c1,.int c.c2,.int c.c3,.int c.c4,.int c.c5,.int c.c6,.int t.name,.int b]=some [.int (C7f c t.name b)]:=F0v c hc t.name b
  have e:(pre++B3e c x gen t.name b j).map Aim.d++[D.agg [.int 2,.int x,.int gen,.int (j:Nat),.int (C7f c t.name b)]]=(pre++B3e c x gen t.name b (j+1)).map Aim.d:=by
   simp[B3e,List.range_succ,Aim.d,Aim.ds]
  have hl:(((pre++B3e c x gen t.name b (j+1)).map Aim.d).length:Int)≤3518437208883:=by simp[B3e];omega
  rw[C2n]
  simp only[D.toInt_int,h1,decide_true,if_true,hx16,hs,A0l,List.length_cons,List.length_nil,List.getD_cons_zero,D.A0h,e,hl]
  rw[A0t _ (by omega) (by omega)]
  exact ih
theorem H0g(x gen:Int)(t:Tm)(x14 x15:D)(g0:Eng.Fn)(bs:List Int)(hbs:bs.length≤4)(pre:List Aim)(hp:pre.length≤10):∀(d j:Nat),j+d=bs.length→
  B1y (.int c.c0) (.int c.c1) (.int c.c2) (.int c.c3) (.int c.c4) (.int c.c5) (.int c.c6) (.int x) (.int gen) (.int t.name) (.int t.side) (.int t.A0j) (.int t.least) (.int t.A1l) x14 x15 (.agg (bs.map D.int)) g0 [.int (j:Nat),.agg ((pre++A6y c x gen t.name (bs.take j)).map Aim.d)]=some [.agg ((pre++A6y c x gen t.name bs).map Aim.d)]
 |0,j,h=>by
  have h1:¬(j:Int)<(bs.length:Int):=by omega
  rw[C3s,List.take_of_length_le (by omega)]
  simp only[D.toInt_int,D.A0h,List.length_map,h1,decide_false,Bool.false_eq_true,if_false]
 |d+1,j,h=>by
  have hal:=A5b c hc
  have hj:j<bs.length:=by omega
  have h1:(j:Int)<(bs.length:Int):=by omega
  have h2:(j:Int)≥0:=by omega
  have ha:FX 38 [.int c.c0,.int c.c1,.int c.c2,.int c.c3,.int c.c4,.int c.c5,.int c.c6]=some [.int (A0p c)]:=all_eq c hc
  have ih:=H0g x gen t x14 x15 g0 bs hbs pre hp d (j+1) (by omega)
  have hg:((D.agg (bs.map D.int)).toL).getD (j:Int).toNat D.nil=.int bs[j]:=by
   rw[D.A0h,Int.toNat_natCast,List.getD_eq_getElem?_getD,List.getElem?_map,List.getElem?_eq_getElem hj];rfl
  have hlen:(pre++A6y c x gen t.name (bs.take j)).length≤1000:=by
   rw[List.length_append,E2j c hc]
   have:(bs.take j).length*(A0p c).toNat≤4*24:=Nat.mul_le_mul (by simp;omega) (by omega)
   omega
  have a3:=G9w c hc x gen t x14 x15 (.agg (bs.map D.int)) (.agg ((pre++A6y c x gen t.name (bs.take j)).map Aim.d)) (j:Nat) bs[j] hg g0
   (B1y (.int c.c0) (.int c.c1) (.int c.c2) (.int c.c3) (.int c.c4) (.int c.c5) (.int c.c6) (.int x) (.int gen) (.int t.name) (.int t.side) (.int t.A0j) (.int t.least) (.int t.A1l) x14 x15 (.agg (bs.map D.int)) g0)
   (pre++A6y c x gen t.name (bs.take j)) hlen (A0p c).toNat 0 (by omega)
  have e0:(pre++A6y c x gen t.name (bs.take j))++B3e c x gen t.name bs[j] 0=pre++A6y c x gen t.name (bs.take j):=by simp[B3e]
  have e1:(pre++A6y c x gen t.name (bs.take j))++B3e c x gen t.name bs[j] (A0p c).toNat=pre++A6y c x gen t.name (bs.take (j+1)):=by
   rw[List.take_succ_eq_append_getElem hj]
   simp only[A6y,List.flatMap_append,List.flatMap_cons,List.flatMap_nil,List.append_nil,List.append_assoc]
  rw[e0,e1,A0t _ (by omega) (by omega)]at a3
  rw[C3s]
  simp only[D.toInt_int,D.A0h,List.length_map,h1,h2,decide_true,if_true,ha,A0l,List.length_cons,List.length_nil,List.getD_cons_zero]
  exact a3.trans ih
theorem G9t(x gen:Int)(t:Tm):∀(d j:Nat),(j+d:Int)=c.c4→
  B1z (.int c.c0) (.int c.c1) (.int c.c2) (.int c.c3) (.int c.c4) (.int c.c5) (.int c.c6) (.int x) (.int gen) (.int t.name) (.int t.side) (.int t.A0j) (.int t.least) (.int t.A1l) [.int (j:Nat),.agg ((B1v x gen j).map Aim.d)]=some [.agg ((C1t c x gen t).map Aim.d)]
 |0,j,h=>by
  have h4:=hc.2.2.2.2.1
  have h1:¬(j:Int)<c.c4:=by omega
  have h2:c.c4.toNat=j:=by omega
  have hcr:FX 76 [.int c.c0,.int c.c1,.int c.c2,.int c.c3,.int c.c4,.int c.c5,.int c.c6,.int t.side,.int t.A0j]=some [.agg ((B1w c t.side t.A0j).map D.int)]:=F2e c hc t.side t.A0j
  have a2:=fun x14 x15 g0=>H0g c hc x gen t x14 x15 g0 (B1w c t.side t.A0j) (E6t c hc _ _) (B1v x gen j) (by simp[B1v];omega) (B1w c t.side t.A0j).length 0 (by omega)
  rw[C3r]
  simp only[D.toInt_int,h1,decide_false,Bool.false_eq_true,if_false,hcr,A0l,List.length_cons,List.length_nil,List.getD_cons_zero]
  have e0:B1v x gen j++A6y c x gen t.name (List.take 0 (B1w c t.side t.A0j))=B1v x gen j:=by simp[A6y]
  simp only[e0]at a2
  unfold C1t
  rw[h2]
  exact a2 _ _ _
 |d+1,j,h=>by
  have h4:=hc.2.2.2.2.1
  have h1:(j:Int)<c.c4:=by omega
  have ih:=G9t x gen t d (j+1) (by omega)
  have e:(B1v x gen j).map Aim.d++[D.agg [.int 1,.int x,.int gen,.int (-1),.int 0]]=(B1v x gen (j+1)).map Aim.d:=by
   simp[B1v,List.replicate_succ',Aim.d,Aim.ds]
  have hl:(((B1v x gen (j+1)).map Aim.d).length:Int)≤3518437208883:=by simp[B1v];omega
  rw[C3r]
  simp only[D.toInt_int,h1,decide_true,if_true,D.A0h,e,hl]
  rw[A0t _ (by omega) (by omega)]
  exact ih
theorem H0m(x gen:Int)(t:Tm):FX 163 [.int c.c0,.int c.c1,.int c.c2,.int c.c3,.int c.c4,.int c.c5,.int c.c6,.int x,.int gen,.int t.name,.int t.side,.int t.A0j,.int t.least,.int t.A1l]=some [.agg ((C1t c x gen t).map Aim.d)]:=by
 have h4:=hc.2.2.2.2.1
 rw[F5s]
 exact G9t c hc x gen t c.c4.toNat 0 (by omega)
end
def C1n(n m:Int):Int:=if m<1 then 0 else n%m
theorem H2c(n m:Int)(hn:In n)(hm:1≤m∧m≤1000):FX 75 [.int n,.int m]=some [.int (C1n n m)]:=by
 have h1:¬m<1:=by omega
 have h2:(m != 0)=true:=by simp;omega
 have h3:0≤n%m:=Int.emod_nonneg _ (by omega)
 have h4:n%m<m:=Int.emod_lt_of_pos _ (by omega)
 have h5:=Int.tmod_eq_emod (a:=n) (b:=m)
 rw[F6b]
 unfold C1n
 simp only[D.toInt_int,h1,decide_false,Bool.false_eq_true,if_false,h2,if_true]
 by_cases h6:n.tmod m<0
 ·simp only[h6,decide_true,if_true]
  have h7:n.tmod m+m=n%m:=by
   rw[h5]at h6⊢
   split at h6
   ·omega
   ·split
    ·omega
    ·rw[Int.natAbs_of_nonneg (by omega)]at*
     omega
  rw[h7,A0t _ (by omega) (by omega)]
 ·simp only[h6,decide_false,Bool.false_eq_true,if_false]
  have h7:n.tmod m=n%m:=by
   rw[h5]at h6⊢
   split
   ·omega
   ·rename_i hh
    rw[if_neg hh]at h6
    omega
  rw[h7]
def B7a(now n:Int):Int:=if n≤0 then now else if n>1000000∨now>1000000-n then 1000000 else now+n
end
section
set_option linter.unusedSectionVars false
def Rep.zero:Rep:=⟨0,0,0,0,0,false,.zero,[]⟩
def codeF(pr:PrS)(S:WS)(c:Int):Rep:=⟨pr.a.kind,c,S.now,pr.a.id,pr.a.cell,false,.zero,[]⟩
def A8i(pr:PrS)(se:A0k)(S:WS):Int:=
 if pr.a.id≤se.last∨pr.a.id>1000000 then 20 else if A0o S.c se.part pr.a.cell<0 then 21 else C7s S.c pr.a.tm pr.a.qty S.now
def WS.put(S:WS)(i:Int)(v:Nat):WS:={S with words:=stw S.words i v}
structure Stp where
 r:Option Rep
 pr:PrS
 se:A0k
 S:WS
def A1s(x:Int)(pr:PrS)(se:A0k)(S:WS):Stp:=
 if pr.pc=0 then(if A8i pr se S≠0 then⟨some (codeF pr S (A8i pr se S)),pr,se,S⟩else⟨none,{pr with pc:=pr.pc+1},se,S⟩)
 else if pr.pc=1 then
  (if(A7o (A0i (S.word x)) pr.a.qty S.c.c6).1≠0 then⟨some (codeF pr S (A7o (A0i (S.word x)) pr.a.qty S.c.c6).1),pr,se,S⟩
  else⟨none,{pr with st:=(A7o (A0i (S.word x)) pr.a.qty S.c.c6).2,pc:=pr.pc+1},se,S⟩)
 else if pr.pc=2 then⟨none,{pr with pc:=pr.pc+1},se,S.put (2*x+1) ((tmW pr.a.tm).getD 0)⟩
 else if pr.pc=3 then
  ⟨none,{pr with A3o:=C1t S.c x pr.st.g pr.a.tm,pc:=pr.pc+1},{se with last:=pr.a.id,ids:=se.ids.set pr.a.cell.toNat pr.a.id,A9s:=se.A9s.set pr.a.cell.toNat pr.st.g},
   (S.put (2*x) ((stW pr.st).getD 0)).tell {Ev.zero with kind:=1,cell:=x,gen:=pr.st.g,tm:=pr.a.tm,qty:=pr.a.qty}⟩
 else⟨none,{pr with pc:=pr.pc+1},se,S⟩
def A1f(x:Int)(pr:PrS)(S:WS):Bool × PrS × WS:=
 if pr.tries≥2*(S.c.c5+1)then(false,pr,S)
 else if pr.done>0 then(true,{pr with tries:=pr.tries+1},S)
 else if(pr.tries+1)%2=1 then(true,{pr with tries:=pr.tries+1,word:=S.word x,st:=A0i (S.word x)},S)
 else if pr.st.over then(true,{pr with tries:=pr.tries+1,done:=1},S)
 else if(A2z pr.st).1≠0 then(true,{pr with tries:=pr.tries+1},S)
 else if(S.turn x pr.word (A2z pr.st).2).1 then(true,{pr with tries:=pr.tries+1,done:=1},(S.turn x pr.word (A2z pr.st).2).2.tell {Ev.zero with kind:=6,cell:=x,gen:=(A2z pr.st).2.g})
 else(true,{pr with tries:=pr.tries+1},S)
def atL(l:List Int)(i:Int):Int:=l.getD i.toNat 0
def B6y(pr:PrS)(se:A0k):Int:=if atL se.ids pr.a.cell=pr.a.id∧pr.a.id>0 then atL se.A9s pr.a.cell else 0
def A3j(x:Int)(pr:PrS)(se:A0k)(S:WS):PrS × WS:=
 if pr.done>0 then(pr,S)
 else if B6y pr se=0∨pr.st.g≠B6y pr se∨(A1k pr.st).1≠0 then({pr with done:=3},S)
 else if pr.st.f then({pr with done:=2},S)
 else if(S.turn x pr.word (A1k pr.st).2).1=false then(pr,S)
 else if(A1k pr.st).2.f then({pr with at_:=S.now,done:=2},(S.turn x pr.word (A1k pr.st).2).2.tell {Ev.zero with kind:=4,cell:=x,gen:=B6y pr se})
 else({pr with at_:=S.now,done:=1,st:=(A1k pr.st).2},(S.turn x pr.word (A1k pr.st).2).2.tell {Ev.zero with kind:=3,cell:=x,gen:=B6y pr se})
def F9c(d:Int):Int:=if d=0 then 27 else if d=3 then 29 else 0
def A8f(R:PrS × WS)(se:A0k)(pc:Int):Stp:=⟨none,{R.1 with pc:=pc},se,R.2⟩
def A1n(x:Int)(pr:PrS)(se:A0k)(S:WS):Stp:=
 if pr.pc=0 then(if x<0 then⟨some (codeF pr S 21),pr,se,S⟩else A8f (pr,S) se (pr.pc+1))
 else if pr.pc=1∨pr.pc=3∨pr.pc=5 then A8f (if pr.done=0 then {pr with word:=S.word x,st:=A0i (S.word x)} else pr,S) se (pr.pc+1)
 else if pr.pc=2∨pr.pc=4∨pr.pc=6 then A8f (A3j x pr se S) se (pr.pc+1)
 else if pr.pc=7 then A8f (pr,if pr.done=1 then A7h S x pr.st.g S.c.c5 (A7v pr.st pr.at_)else S) se (pr.pc+1)
 else⟨some {codeF pr S (F9c pr.done)with asked:=pr.done == 2},pr,se,S⟩
def B6v(S:WS)(i:Int):Rc:=if i<0 then .zero else G7z (wd S.words i)
def A6c(se:A0k)(i:Int):Cur:=se.A7j.getD i.toNat ⟨0,0⟩
def A2q(x:Int)(pr:PrS)(se:A0k)(S:WS):Stp:=
 if x<0 then⟨some (codeF pr S 21),pr,se,S⟩
 else if pr.pc=0 then⟨none,{pr with pc:=pr.pc+1},se,S⟩
 else if pr.pc=1 then(if(A6c se pr.a.cell).n<S.c.c5 then⟨none,{pr with r0:=B6v S (A6s S.c x (A6c se pr.a.cell).gen (A6c se pr.a.cell).n),pc:=pr.pc+1},se,S⟩else⟨none,{pr with pc:=pr.pc+1},se,S⟩)
 else if pr.pc=2 then⟨none,{pr with r1:=B6v S (A6s S.c x (A6c se pr.a.cell).gen S.c.c5),pc:=pr.pc+1},se,S⟩
 else⟨some {codeF pr S 0 with rc:=(B1b (A6c se pr.a.cell).gen (A6c se pr.a.cell).n pr.r0 pr.r1).1},pr,{se with A7j:=se.A7j.set pr.a.cell.toNat ⟨(B1b (A6c se pr.a.cell).gen (A6c se pr.a.cell).n pr.r0 pr.r1).2.1,(B1b (A6c se pr.a.cell).gen (A6c se pr.a.cell).n pr.r0 pr.r1).2.2⟩},S⟩
def D9q(s:St):A5h:=⟨if s.live then 1 else s.k,s.l,s.n⟩
def A2k(pr:PrS)(se:A0k)(S:WS):Stp:=
 if pr.pc>S.c.c1 then⟨some {codeF pr S 0 with looks:=pr.looks},pr,se,S⟩
 else if pr.pc>0 then⟨none,{pr with looks:=pr.looks++[D9q (A0i (S.word (A0o S.c se.part (pr.pc-1))))],pc:=pr.pc+1},se,S⟩
 else⟨none,{pr with pc:=pr.pc+1},se,S⟩
structure Hs(L:List D)(a s w m k:Nat)(pr:PrS)(se:A0k)(S:WS):Prop where
 W:InW L w m k S
 a:L.getD a D.nil=.agg pr.ds
 s:L.getD s D.nil=.agg se.ds
def FrS(L L':List D)(a s w m:Nat):Prop:=Fr L L' (fun b=>b=a∨b=s∨b=w∨b=m)
section
variable{L:List D}{a s w m k:Nat}{pr:PrS}{se:A0k}{S:WS}(H:Hs L a s w m k pr se S)
include H
theorem Hs.far:a≠w∧a≠m∧a≠k∧s≠w∧s≠m∧s≠k∧a≠s:=by
 obtain⟨h1,h2,h3⟩:=H.W.far H.a (by rw[PrS.len];decide) (by rw[PrS.len];decide) (by rw[PrS.len];decide)
 obtain⟨h4,h5,h6⟩:=H.W.far H.s (by rw[A0k.len];decide) (by rw[A0k.len];decide) (by rw[A0k.len];decide)
 exact⟨h1,h2,h3,h4,h5,h6,A3k H.a H.s (by rw[PrS.len,A0k.len];decide)⟩
theorem Hs.A8d(pr':PrS):Hs (L.set a (.agg pr'.ds)) a s w m k pr' se S:=by
 obtain⟨h1,h2,h3,h4,h5,h6,h7⟩:=H.far
 exact⟨H.W.fr (Fr.set L a _ (T:=(·=a)) rfl) (Ne.symm h1) (Ne.symm h2) (Ne.symm h3),A3m (A2j H.a) _,by rw[A3d h7];exact H.s⟩
theorem Hs.setS(se':A0k):Hs (L.set s (.agg se'.ds)) a s w m k pr se' S:=by
 obtain⟨h1,h2,h3,h4,h5,h6,h7⟩:=H.far
 exact⟨H.W.fr (Fr.set L s _ (T:=(·=s)) rfl) (Ne.symm h4) (Ne.symm h5) (Ne.symm h6),by rw[A3d (Ne.symm h7)];exact H.a,A3m (A2j H.s) _⟩
theorem Hs.A9r{L1:List D}{S1:WS}(W1:InW L1 w m k S1)(F:Fr L L1 (fun b=>b=w∨b=m)):Hs L1 a s w m k pr se S1∧FrS L L1 a s w m:=by
 obtain⟨h1,h2,h3,h4,h5,h6,h7⟩:=H.far
 exact⟨⟨W1,F.get H.a (by simp only[h1,h2,or_self,not_false_iff]),F.get H.s (by simp only[h4,h5,or_self,not_false_iff])⟩,F.mono fun b hb=>.inr (.inr hb)⟩
omit H
theorem A5i(x:D):FrS L (L.set a x) a s w m:=Fr.set L a x (.inl rfl)
theorem G9v(x:D):FrS L (L.set s x) a s w m:=Fr.set L s x (.inr (.inl rfl))
theorem A9p:FrS L L a s w m:=Fr.refl _ _
include H
theorem B3p(h:S.ok)(c:Int):FX 126 [.int (a:Nat),.int (w:Nat),.int c,.agg L]=some ((codeF pr S c).ds++[.bool true]):=by
 have h1:=B6p H.W h
 rw[C8b]
 simp only[HH,H.a,H.W.w,A0f.A6o,h1,PrS.A1i,PrS.A1h,PrS.A1p]
 rfl
theorem G3q(h:S.ok):FX 160 [.int (a:Nat),.int (w:Nat),.int (s:Nat),.agg L]=some [.int (A8i pr se S)]:=by
 have h1:=B6p H.W h
 have h2:FX 139 [.int S.c.c0,.int S.c.c1,.int S.c.c2,.int S.c.c3,.int S.c.c4,.int S.c.c5,.int S.c.c6,.int se.part,.int pr.a.cell]=some [.int (A0o S.c se.part pr.a.cell)]:=F7m S.c h.c _ _
 have h3:FX 99 [.int S.c.c0,.int S.c.c1,.int S.c.c2,.int S.c.c3,.int S.c.c4,.int S.c.c5,.int S.c.c6,.int pr.a.tm.name,.int pr.a.tm.side,.int pr.a.tm.A0j,.int pr.a.tm.least,.int pr.a.tm.A1l,.int pr.a.qty,wN S.now]=some [er (C7s S.c pr.a.tm pr.a.qty S.now)]:=G6s S.c pr.a.tm pr.a.qty S.now
 rw[C6c]
 simp only[HH,H.a,H.s,H.W.w,A0f.all,h1,PrS.A1h,PrS.A1p,PrS.A1v,PrS.A1u,PrS.A3b,PrS.A4n,PrS.A7y,PrS.A6o,A0k.A1i,A0k.A1h,h2,h3]
 unfold A8i
 by_cases a1:pr.a.id≤se.last
 ·simp only[a1,decide_true,if_true,true_or]
 by_cases a2:pr.a.id>1000000
 ·simp only[a1,a2,decide_true,decide_false,Bool.false_eq_true,if_false,if_true,or_true]
 by_cases a3:A0o S.c se.part pr.a.cell<0
 ·simp only[a1,a2,a3,decide_true,decide_false,Bool.false_eq_true,if_false,if_true,or_self]
 simp only[a1,a2,a3,decide_false,Bool.false_eq_true,if_false,or_self]
 generalize C7s S.c pr.a.tm pr.a.qty S.now=e
 by_cases a4:e=0
 ·subst a4;simp[E4i,D.isIf]
 ·unfold er code;simp[a4,D.isIf,D.inner]
end
def A5v(r:Option Rep)(L:List D):List D:=match r with
 |some r=>r.ds++[.bool true,.agg L]
 |none=>Rep.zero.ds++[.bool false,.agg L]
end
section
set_option linter.unusedSectionVars false
theorem Told.fst{o:Option Nat}{r:List D}(h:Told o r):r.getD 0 D.nil=wN (o.getD 0)∧r.length=2:=by
 cases o with
 |none=>obtain⟨e,_,rfl⟩:=h;exact⟨rfl,rfl⟩
 |some w=>dsimp only[Told]at h;subst h;exact⟨rfl,rfl⟩
theorem G2e{s:St}:(stW s).getD 0<18446744073709551616:=by
 cases h:stW s with
 |none=>decide
 |some v=>
  unfold stW at h
  split at h
  ·cases h
  ·exact C8w E1s h
theorem H3p{t:Tm}:(tmW t).getD 0<18446744073709551616:=by
 cases h:tmW t with
 |none=>decide
 |some v=>exact C8w E8z h
theorem WS.F1b{S:WS}(h:S.ok)(i:Int){v:Nat}(hv:v<18446744073709551616):(S.put i v).ok:=⟨h.c,F1n h.w i hv,h.now,by show(stw S.words i v).length≤_;rw[B2j];exact h.len⟩
theorem F7j{L:List D}{w m k:Nat}{S:WS}(W:InW L w m k S)(i:Int)(v:Nat):∃(e:D) (L':List D),FX 136 [.int (m:Nat),.int i,wN v,.agg L]=some [e,.agg L']∧InW L' w m k (S.put i v)∧Fr L L' (fun b=>b=w∨b=m):=by
 obtain⟨M,hM,hw⟩:=W.m
 obtain⟨e,M',h1,h2⟩:=F3f hM i v
 refine⟨e,_,h1,?_,Fr.set _ _ _ (.inr rfl)⟩
 have:=W.E5i M'
 rw[h2,hw]at this
 exact this
theorem H1t(s:St)(hs:s.wf)(q m:Int)(hm:m≤100):FX 161 [.int s.k,.bool s.f,.int s.g,.int s.l,.int s.n,.int q,.int m]=some (A2b (A7o s q m)):=G5q s hs q m hm
theorem G3h(s:St):FX 164 [.int s.k,.bool s.f,.int s.g,.int s.l,.int s.n]=some (A2b (A2z s)):=G0u s
theorem H3f(s:St):FX 165 [.int s.k,.bool s.f,.int s.g,.int s.l,.int s.n]=some [.bool s.over]:=F6t s.k _ _ _ _
theorem F7l(c:Int):(er c).isIf 45=decide (c≠0):=by
 unfold er
 by_cases h:c=0
 ·simp[h,D.isIf]
 ·simp[h,code,D.isIf]
theorem G6y{c:Int}(h:c≠0):(er c).inner=.int c:=by
 unfold er;rw[if_neg h];rfl
theorem C2v{c:Cf}(h:c.ok):1≤c.c6∧c.c6≤15:=h.2.2.2.2.2.2
theorem C8r(l:List Int):(l.map D.int).length=l.length:=List.length_map ..
theorem D8g(l:List Int)(i:Nat)(x:Int):(l.map D.int).set i (.int x)=(l.set i x).map D.int:=(List.map_set ..).symm
theorem F0d{l:List Int}{i:Int}(h0:0≤i)(h1:i<l.length):(l.map D.int).getD i.toNat D.nil=.int (atL l i):=by
 have h:i.toNat<l.length:=by omega
 unfold atL
 rw[List.getD_eq_getElem?_getD,List.getElem?_map,List.getElem?_eq_getElem h,List.getD_eq_getElem?_getD,List.getElem?_eq_getElem h];rfl
theorem Rep.app(r:Rep)(d L:D):some [r.ds.getD 0 D.nil,r.ds.getD 1 D.nil,r.ds.getD 2 D.nil,r.ds.getD 3 D.nil,r.ds.getD 4 D.nil,r.ds.getD 5 D.nil,r.ds.getD 6 D.nil,r.ds.getD 7 D.nil,r.ds.getD 8 D.nil,r.ds.getD 9 D.nil,r.ds.getD 10 D.nil,r.ds.getD 11 D.nil,r.ds.getD 12 D.nil,d,L]=some (r.ds++[d,L]):=rfl
theorem Rep.B0x(r:Rep)(d:D):(r.ds++[d]).getD 13 D.nil=d:=rfl
theorem Rep.H0h(r:Rep)(d:D):(r.ds++[d]).length=14:=rfl
theorem C2d(r:Rep)(L:D):(A0b (some (r.ds++[.bool true])) 14 fun r6=>some [(r6.getD 0 D.nil),(r6.getD 1 D.nil),(r6.getD 2 D.nil),(r6.getD 3 D.nil),(r6.getD 4 D.nil),(r6.getD 5 D.nil),(r6.getD 6 D.nil),(r6.getD 7 D.nil),(r6.getD 8 D.nil),(r6.getD 9 D.nil),(r6.getD 10 D.nil),(r6.getD 11 D.nil),(r6.getD 12 D.nil),(r6.getD 13 D.nil),L])=some (r.ds++[.bool true,L]):=rfl
section
variable{L:List D}{a s w m k:Nat}{pr:PrS}{se:A0k}{S:WS}(H:Hs L a s w m k pr se S)(h:S.ok)(hpc:In (pr.pc+1))
include H h hpc
theorem D4e{L1:List D}{pr1:PrS}{se1:A0k}{S1:WS}(H1:Hs L1 a s w m k pr1 se1 S1)(hp:pr1.pc=pr.pc)(x0 x1 x2 x3:D):A3a (.int (a:Nat)) x0 x1 x2 x3 [.agg L1]=some (A5v none (L1.set a (.agg (PrS.ds {pr1 with pc:=pr.pc+1})))):=by
 rw[B9l]
 simp only[HH,H1.a,PrS.A6z,hp,hpc.w,PrS.rng,PrS.B7d]
 rfl
theorem G2y(hl:S.log.length≤1000000000)(x:Int)(hx:-1000≤x∧x≤1000)(hst:pr.st.wf)(htm:pr.a.tm.wf)
  (hc:pr.pc=3→0≤pr.a.cell∧pr.a.cell<se.ids.length∧pr.a.cell<se.A9s.length):
  ∃L',FX 140 [.int (a:Nat),.int (w:Nat),.int (s:Nat),.int x,.agg L]=some (A5v (A1s x pr se S).r L')∧
   Hs L' a s w m k (A1s x pr se S).pr (A1s x pr se S).se (A1s x pr se S).S∧FrS L L' a s w m:=by
 have h1:=G3q H h
 have hg:=C2v h.c
 rw[C5t]
 simp only[HH,H.a,H.s,H.W.w,A0f.all,PrS.A6z,h1]
 by_cases c0:pr.pc=0
 ·have i0:(pr.pc == 0)=true:=beq_iff_eq.2 c0
  simp only[i0,if_true]
  by_cases c1:A8i pr se S=0
  ·have e:A1s x pr se S=⟨none,{pr with pc:=pr.pc+1},se,S⟩:=by unfold A1s;rw[if_pos c0,if_neg (by simpa using c1)]
   rw[e]
   have i1:(A8i pr se S != 0)=false:=by simp[c1]
   simp only[i1,Bool.false_eq_true,if_false]
   exact⟨_,D4e H h hpc H rfl _ _ _ _,H.A8d _,A5i _⟩
  ·have e:A1s x pr se S=⟨some (codeF pr S (A8i pr se S)),pr,se,S⟩:=by unfold A1s;rw[if_pos c0,if_pos c1]
   rw[e]
   have i1:(A8i pr se S != 0)=true:=by simp[c1]
   simp only[i1,if_true,B3p H h,C2d]
   exact⟨L,rfl,H,A9p⟩
 have i0:(pr.pc == 0)=false:=beq_eq_false_iff_ne.2 c0
 simp only[i0,Bool.false_eq_true,if_false]
 by_cases c1:pr.pc=1
 ·have i1:(pr.pc == 1)=true:=beq_iff_eq.2 c1
  simp only[i1,if_true]
  obtain⟨L1,n1,W1,F1⟩:=B0s H.W h x hx
  obtain⟨H1,G1⟩:=H.A9r W1 (F1.mono fun b hb=>.inr hb)
  have h2:=H1t (A0i (S.word x)) (B2d _) pr.a.qty S.c.c6 (by omega)
  rw[E9v]at n1
  simp only[n1,HH,H1.a,H1.W.w,PrS.A6o,A0f.A4n,h2,A2b.len,A2b.all]
  by_cases c2:(A7o (A0i (S.word x)) pr.a.qty S.c.c6).1=0
  ·have e:A1s x pr se S=⟨none,{pr with st:=(A7o (A0i (S.word x)) pr.a.qty S.c.c6).2,pc:=pr.pc+1},se,S⟩:=by
    unfold A1s;rw[if_neg c0,if_pos c1,if_neg (by simpa using c2)]
   rw[e]
   generalize A7o (A0i (S.word x)) pr.a.qty S.c.c6=t at*
   have i2:(er t.1).isIf 45=false:=by rw[F7l];simp[c2]
   simp only[i2,Bool.false_eq_true,if_false,PrS.rng,PrS.C4s,PrS.C5o,PrS.C4n,PrS.C1o,PrS.C8x]
   have H2:=H1.A8d {pr with st:=t.2}
   refine⟨_,D4e H h hpc H2 rfl _ _ _ _,H2.A8d {pr with st:=t.2,pc:=pr.pc+1},(G1.trans (A5i _)).trans (A5i _)⟩
  ·have e:A1s x pr se S=⟨some (codeF pr S (A7o (A0i (S.word x)) pr.a.qty S.c.c6).1),pr,se,S⟩:=by
    unfold A1s;rw[if_neg c0,if_pos c1,if_pos c2]
   rw[e]
   generalize A7o (A0i (S.word x)) pr.a.qty S.c.c6=t at*
   have i2:(er t.1).isIf 45=true:=by rw[F7l];simp[c2]
   simp only[i2,if_true,G6y c2,B3p H1 h,C2d]
   exact⟨L1,rfl,H1,G1⟩
 have i1:(pr.pc == 1)=false:=beq_eq_false_iff_ne.2 c1
 simp only[i1,Bool.false_eq_true,if_false]
 by_cases c2:pr.pc=2
 ·have i2:(pr.pc == 2)=true:=beq_iff_eq.2 c2
  have e:A1s x pr se S=⟨none,{pr with pc:=pr.pc+1},se,S.put (2*x+1) ((tmW pr.a.tm).getD 0)⟩:=by unfold A1s;rw[if_neg c0,if_neg c1,if_pos c2]
  rw[e]
  obtain⟨r,n1,ht⟩:=G6r pr.a.tm htm
  obtain⟨ht1,ht2⟩:=ht.fst
  unfold Tm.ds at n1
  obtain⟨e2,L1,n2,W1,F1⟩:=F7j H.W (2*x+1) ((tmW pr.a.tm).getD 0)
  obtain⟨H1,G1⟩:=H.A9r W1 F1
  simp only[i2,HH,PrS.A1v,PrS.A1u,PrS.A3b,PrS.A4n,PrS.A7y,n1,ht2,ht1,B0h]
  rw[A0t (2*x) (by omega) (by omega),A0t (2*x+1) (by omega) (by omega),n2]
  simp only[HH]
  exact⟨_,D4e H h hpc H1 rfl _ _ _ _,H1.A8d {pr with pc:=pr.pc+1},G1.trans (A5i _)⟩
 have i2:(pr.pc == 2)=false:=beq_eq_false_iff_ne.2 c2
 simp only[i2,Bool.false_eq_true,if_false]
 by_cases c3:pr.pc=3
 ·have i3:(pr.pc == 3)=true:=beq_iff_eq.2 c3
  obtain⟨b1,b2,b3⟩:=hc c3
  have e:A1s x pr se S=⟨none,{pr with A3o:=C1t S.c x pr.st.g pr.a.tm,pc:=pr.pc+1},{se with last:=pr.a.id,ids:=se.ids.set pr.a.cell.toNat pr.a.id,A9s:=se.A9s.set pr.a.cell.toNat pr.st.g},
   (S.put (2*x) ((stW pr.st).getD 0)).tell {Ev.zero with kind:=1,cell:=x,gen:=pr.st.g,tm:=pr.a.tm,qty:=pr.a.qty}⟩:=by unfold A1s;rw[if_neg c0,if_neg c1,if_neg c2,if_pos c3]
  rw[e]
  obtain⟨r,n1,ht⟩:=F6m pr.st hst
  obtain⟨ht1,ht2⟩:=ht.fst
  unfold St.ds at n1
  obtain⟨e2,L1,n2,W1,F1⟩:=F7j H.W (2*x) ((stW pr.st).getD 0)
  obtain⟨H1,G1⟩:=H.A9r W1 F1
  have ok1:(S.put (2*x) ((stW pr.st).getD 0)).ok:=WS.F1b h _ G2e
  obtain⟨L2,n3,W2,F2⟩:∃L',FX 134 [.int (w:Nat),.int 1,.int x,.int pr.st.g,.int 0,.int 0,.int pr.a.tm.name,.int pr.a.tm.side,.int pr.a.tm.A0j,.int pr.a.tm.least,.int pr.a.tm.A1l,.int pr.a.qty,.int 0,.int 0,.int 0,.agg L1]=some [.agg L']∧
    InW L' w m k ((S.put (2*x) ((stW pr.st).getD 0)).tell {Ev.zero with kind:=1,cell:=x,gen:=pr.st.g,tm:=pr.a.tm,qty:=pr.a.qty})∧Fr L1 L' (·=w):=
   E9r H1.W ok1 hl {Ev.zero with kind:=1,cell:=x,gen:=pr.st.g,tm:=pr.a.tm,qty:=pr.a.qty}
  obtain⟨H2,G2⟩:=H1.A9r W2 (F2.mono fun b hb=>.inl hb)
  obtain⟨se',hse⟩:∃se':A0k,se'={se with last:=pr.a.id,ids:=se.ids.set pr.a.cell.toNat pr.a.id,A9s:=se.A9s.set pr.a.cell.toNat pr.st.g}:=⟨_,rfl⟩
  have H3:=H2.setS se'
  have n4:=H0m S.c h.c x pr.st.g pr.a.tm
  simp only[i3,HH,PrS.A1h,PrS.A1p,PrS.A1v,PrS.A1u,PrS.A3b,PrS.A4n,PrS.A7y,PrS.A6o,PrS.B1j,PrS.A9y,PrS.B0x,PrS.B3t,PrS.B7f,n1,ht2,ht1,A7u]
  rw[A0t (2*x) (by omega) (by omega),n2]
  simp only[HH,H1.a,PrS.A1h,PrS.A1p,PrS.A1v,PrS.A1u,PrS.A3b,PrS.A4n,PrS.A7y,PrS.A6o,PrS.B1j,PrS.A9y,PrS.B0x,PrS.B3t,PrS.B7f,n3,H2.a,H2.s,A0k.rng,A0k.A1p,A0k.A1v,A0k.B2x,D8g,A0k.B5b,A0k.B5c,C8r,←hse,H3.W.w,H3.a,A0f.all,WS.tell,WS.put,n4,PrS.rng,PrS.E9i]
  have j1:pr.a.cell≥0:=b1
  simp only[j1,b2,b3,decide_true,if_true]
  have H4:=H3.A8d {pr with A3o:=C1t S.c x pr.st.g pr.a.tm}
  exact⟨_,D4e H h hpc H4 rfl _ _ _ _,H4.A8d {pr with A3o:=C1t S.c x pr.st.g pr.a.tm,pc:=pr.pc+1},((((G1.trans G2).trans (G9v _)).trans (A5i _)).trans (A5i _))⟩
 ·have i3:(pr.pc == 3)=false:=beq_eq_false_iff_ne.2 c3
  have e:A1s x pr se S=⟨none,{pr with pc:=pr.pc+1},se,S⟩:=by unfold A1s;rw[if_neg c0,if_neg c1,if_neg c2,if_neg c3]
  rw[e]
  simp only[i3,Bool.false_eq_true,if_false]
  exact⟨_,D4e H h hpc H rfl _ _ _ _,H.A8d _,A5i _⟩
end
end
section
set_option linter.unusedSectionVars false
theorem G8z(s:St):FX 166 [.int s.k,.bool s.f,.int s.g,.int s.l,.int s.n]=some (A2b (A1k s)):=G3s s
theorem F4x{s:St}(h:s.wf):(A2z s).2.wf:=by
 unfold A2z
 split
 ·exact h.C3l 2 _ (In.lit (by decide))
 ·exact St.A9c
theorem E1o{s:St}(h:s.wf):(A1k s).2.wf:=by
 unfold A1k
 split
 ·exact h.C3l 6 _ (In.lit (by decide))
 ·split
  ·exact h.C3l s.k _ h.1
  ·exact St.A9c
section
variable{L:List D}{a s w m k:Nat}{pr:PrS}{se:A0k}{S:WS}(H:Hs L a s w m k pr se S)(h:S.ok)
include H h
theorem G7w(hl:S.log.length≤1000000000)(x:Int)(hx:-1000≤x∧x≤1000)(hst:pr.st.wf)(hwd:pr.word<18446744073709551616)(htr:0≤pr.tries∧pr.tries≤1000):
  ∃L',FX 142 [.int (a:Nat),.int (w:Nat),.int x,.agg L]=some [.bool (A1f x pr S).1,.agg L']∧
   Hs L' a s w m k (A1f x pr S).2.1 se (A1f x pr S).2.2∧FrS L L' a s w m:=by
 have hf:=A9b h.c
 rw[C7l]
 simp only[HH,H.a,H.W.w,A0f.A3b,PrS.B4s,PrS.B1j,PrS.A9y,PrS.B0x,PrS.B3t,PrS.B7f,PrS.D9u,PrS.C4q]
 rw[A0t (S.c.c5+1) (by omega) (by omega),A0t (2*(S.c.c5+1)) (by omega) (by omega),A0t (pr.tries+1) (by omega) (by omega)]
 simp only[PrS.rng,PrS.G1c,PrS.D5l]
 by_cases c0:pr.tries≥2*(S.c.c5+1)
 ·have e:A1f x pr S=(false,pr,S):=by unfold A1f;rw[if_pos c0]
  rw[e]
  simp only[c0,decide_true,if_true]
  exact⟨L,rfl,H,A9p⟩
 simp only[c0,decide_false,Bool.false_eq_true,if_false]
 obtain⟨p1,hp1⟩:∃p1:PrS,p1={pr with tries:=pr.tries+1}:=⟨_,rfl⟩
 have H1:=H.A8d p1
 have G1:FrS L (L.set a (.agg p1.ds)) a s w m:=A5i _
 by_cases c1:pr.done>0
 ·have e:A1f x pr S=(true,p1,S):=by unfold A1f;rw[if_neg c0,if_pos c1,hp1]
  rw[e]
  simp only[c1,decide_true,if_true]
  refine⟨_,?_,H1,G1⟩
  rw[hp1]
 simp only[c1,decide_false,Bool.false_eq_true,if_false]
 have ht:Int.tmod (pr.tries+1) 2=(pr.tries+1)%2:=Int.tmod_eq_emod_of_nonneg (by omega)
 rw[ht]
 by_cases c2:(pr.tries+1)%2=1
 ·have e:A1f x pr S=(true,{p1 with word:=S.word x,st:=A0i (S.word x)},S):=by unfold A1f;rw[if_neg c0,if_neg c1,if_pos c2,hp1]
  rw[e]
  have i2:((pr.tries+1)%2 == 1)=true:=beq_iff_eq.2 c2
  obtain⟨L1,n1,W1,F1⟩:=B0s H1.W h x hx
  obtain⟨H2,G2⟩:=H1.A9r W1 (F1.mono fun b hb=>.inr hb)
  rw[E9v]at n1
  simp only[i2,if_true,←hp1,n1,HH,H2.a,PrS.rng,PrS.D5g,PrS.C4s,PrS.C5o,PrS.C4n,PrS.C1o,PrS.C8x]
  exact⟨_,rfl,H2.A8d {p1 with word:=S.word x,st:=A0i (S.word x)},(G1.trans G2).trans (A5i _)⟩
 have i2:((pr.tries+1)%2 == 1)=false:=beq_eq_false_iff_ne.2 c2
 simp only[i2,Bool.false_eq_true,if_false]
 have n2:=G3h pr.st
 have n3:=H3f pr.st
 simp only[n2,n3,HH,A2b.len,A2b.all]
 by_cases c3:pr.st.over=true
 ·have e:A1f x pr S=(true,{p1 with done:=1},S):=by unfold A1f;rw[if_neg c0,if_neg c1,if_neg c2,if_pos c3,hp1]
  rw[e]
  simp only[c3,if_true]
  refine⟨_,?_,H.A8d {p1 with done:=1},A5i _⟩
  rw[hp1]
 simp only[c3,if_false]
 by_cases c4:(A2z pr.st).1=0
 ·simp only[E1w c4,if_true,←hp1]
  obtain⟨L1,n4,W1,F1⟩:=B8g H1.W h x hx pr.word (A2z pr.st).2 (F4x hst)
  obtain⟨H2,G2⟩:=H1.A9r W1 (F1.mono fun b hb=>.inr hb)
  obtain⟨o1,o2,o3,o4,o5⟩:=S.B0f h x pr.word (A2z pr.st).2
  simp only[n4,HH]
  by_cases c5:(S.turn x pr.word (A2z pr.st).2).1=true
  ·have e:A1f x pr S=(true,{p1 with done:=1},(S.turn x pr.word (A2z pr.st).2).2.tell {Ev.zero with kind:=6,cell:=x,gen:=(A2z pr.st).2.g}):=by
    unfold A1f;rw[if_neg c0,if_neg c1,if_neg c2,if_neg c3,if_neg (by simpa using c4),if_pos c5,hp1]
   rw[e]
   have H3:=H2.A8d {p1 with done:=1}
   obtain⟨L5,n5,W5,F5⟩:=C6v H3.W o1 (by rw[o4];exact hl) 6 x (A2z pr.st).2.g 0 0 0 0 0
   obtain⟨H4,G4⟩:=H3.A9r W5 (F5.mono fun b hb=>.inl hb)
   simp only[c5,if_true,H2.a,HH,PrS.rng,PrS.D5l,n5]
   exact⟨L5,rfl,H4,((G1.trans G2).trans (A5i _)).trans G4⟩
  ·have e:A1f x pr S=(true,p1,S):=by
    unfold A1f;rw[if_neg c0,if_neg c1,if_neg c2,if_neg c3,if_neg (by simpa using c4),if_neg c5,hp1]
   rw[e]
   simp only[c5,if_false]
   rw[o5 (by simpa using c5)]at H2
   exact⟨L1,rfl,H2,G1.trans G2⟩
 ·have e:A1f x pr S=(true,p1,S):=by unfold A1f;rw[if_neg c0,if_neg c1,if_neg c2,if_neg c3,if_pos c4,hp1]
  rw[e]
  simp only[E2c c4,Bool.false_eq_true,if_false]
  refine⟨_,?_,H1,G1⟩
  rw[hp1]
theorem G8e(hl:S.log.length≤1000000000)(x:Int)(hx:-1000≤x∧x≤1000)(hst:pr.st.wf)(hwd:pr.word<18446744073709551616)
  (hc:0≤pr.a.cell∧pr.a.cell<se.ids.length∧pr.a.cell<se.A9s.length):
  ∃L',FX 143 [.int (a:Nat),.int (w:Nat),.int (s:Nat),.int x,.agg L]=some [.agg L']∧
   Hs L' a s w m k (A3j x pr se S).1 se (A3j x pr se S).2∧FrS L L' a s w m:=by
 obtain⟨b1,b2,b3⟩:=hc
 have b1':pr.a.cell≥0:=b1
 have g1:=F0d b1 b2
 have g2:=F0d b1 b3
 have n1:=G8z pr.st
 rw[C7e]
 simp only[HH,H.a,H.s,PrS.A1h,PrS.A1p,A0k.A1p,A0k.A1v,b1',b2,b3,decide_true,C8r,g1,g2]
 have hJ:∀J:List D→Option (List D),(if(atL se.ids pr.a.cell == pr.a.id)=true then(if decide (pr.a.id>0)=true then J [.agg L,.int (atL se.A9s pr.a.cell)]else J [.agg L,.int 0])else J [.agg L,.int 0])=J [.agg L,.int (B6y pr se)]:=by
  intro J
  unfold B6y
  by_cases d1:atL se.ids pr.a.cell=pr.a.id
  ·have i1:(atL se.ids pr.a.cell == pr.a.id)=true:=beq_iff_eq.2 d1
   by_cases d2:pr.a.id>0
   ·rw[if_pos i1,if_pos (by simpa using d2),if_pos ⟨d1,d2⟩]
   ·rw[if_pos i1,if_neg (by simpa using d2),if_neg (fun hh=>d2 hh.2)]
  ·have i1:¬(atL se.ids pr.a.cell == pr.a.id)=true:=by simpa using d1
   rw[if_neg i1,if_neg (fun hh=>d1 hh.1)]
 rw[hJ,C0j]
 generalize hgen:B6y pr se=gen
 simp only[HH,H.a,PrS.B1j,PrS.A9y,PrS.B0x,PrS.B3t,PrS.B7f,PrS.C4q,n1,A2b.len]
 by_cases c0:pr.done>0
 ·have e:A3j x pr se S=(pr,S):=by unfold A3j;rw[if_pos c0]
  rw[e]
  simp only[c0,decide_true,if_true]
  exact⟨L,rfl,H,A9p⟩
 simp only[c0,decide_false,Bool.false_eq_true,if_false,A2b.all]
 have hJ2:∀J:List D→Option (List D),(if(gen == 0)=true then J [.agg L,.bool true]else if(pr.st.g != gen)=true then J [.agg L,.bool true]else J [.agg L,.bool (!(er (A1k pr.st).1).isNil)])=J [.agg L,.bool (decide (gen=0∨pr.st.g≠gen∨(A1k pr.st).1≠0))]:=by
  intro J
  by_cases d1:gen=0
  ·simp[d1]
  by_cases d2:pr.st.g=gen
  ·rw[D8q]
   simp[d1,d2]
  ·simp[d1,d2]
 rw[hJ2,C0k]
 simp only[HH,H.a,PrS.B4s,PrS.A9y,PrS.rng,PrS.D5l]
 by_cases c1:gen=0∨pr.st.g≠gen∨(A1k pr.st).1≠0
 ·have e:A3j x pr se S=({pr with done:=3},S):=by unfold A3j;rw[if_neg c0,hgen,if_pos c1]
  rw[e]
  simp only[c1,decide_true,if_true]
  exact⟨_,rfl,H.A8d _,A5i _⟩
 simp only[c1,decide_false,Bool.false_eq_true,if_false]
 by_cases c2:pr.st.f=true
 ·have e:A3j x pr se S=({pr with done:=2},S):=by unfold A3j;rw[if_neg c0,hgen,if_neg c1,if_pos c2]
  rw[e]
  simp only[c2,if_true]
  refine⟨_,?_,H.A8d _,A5i _⟩
  rfl
 simp only[c2,if_false]
 obtain⟨L1,n4,W1,F1⟩:=B8g H.W h x hx pr.word (A1k pr.st).2 (E1o hst)
 obtain⟨H2,G2⟩:=H.A9r W1 (F1.mono fun b hb=>.inr hb)
 obtain⟨o1,o2,o3,o4,o5⟩:=S.B0f h x pr.word (A1k pr.st).2
 simp only[n4,HH]
 by_cases c3:(S.turn x pr.word (A1k pr.st).2).1=false
 ·have e:A3j x pr se S=(pr,S):=by unfold A3j;rw[if_neg c0,hgen,if_neg c1,if_neg c2,if_pos c3]
  rw[e]
  simp only[c3,Bool.false_eq_true,if_false]
  rw[o5 c3]at H2
  exact⟨L1,rfl,H2,G2⟩
 have c3':(S.turn x pr.word (A1k pr.st).2).1=true:=by simpa using c3
 have n5:=B6p H2.W o1
 rw[o3]at n5
 have hset:∀(z:PrS),z.ds.set 18 (wN S.now)=PrS.ds {z with at_:=S.now}:=fun _=>rfl
 simp only[c3',if_true,H2.W.w,H2.a,HH,A0f.A6o,n5,PrS.rng,hset,PrS.D5l,C0w]
 by_cases c4:(A1k pr.st).2.f=true
 ·have e:A3j x pr se S=({pr with at_:=S.now,done:=2},(S.turn x pr.word (A1k pr.st).2).2.tell {Ev.zero with kind:=4,cell:=x,gen:=gen}):=by
   unfold A3j;rw[if_neg c0,hgen,if_neg c1,if_neg c2,if_neg c3,if_pos c4]
  rw[e]
  have H3:=H2.A8d {pr with at_:=S.now,done:=2}
  obtain⟨L5,n6,W5,F5⟩:=C6v H3.W o1 (by rw[o4];exact hl) 4 x gen 0 0 0 0 0
  obtain⟨H4,G4⟩:=H3.A9r W5 (F5.mono fun b hb=>.inl hb)
  simp only[c4,if_true,n6,HH]
  exact⟨L5,rfl,H4,(G2.trans (A5i _)).trans G4⟩
 ·have e:A3j x pr se S=({pr with at_:=S.now,done:=1,st:=(A1k pr.st).2},(S.turn x pr.word (A1k pr.st).2).2.tell {Ev.zero with kind:=3,cell:=x,gen:=gen}):=by
   unfold A3j;rw[if_neg c0,hgen,if_neg c1,if_neg c2,if_neg c3,if_neg c4]
  rw[e]
  have H3:=H2.A8d {pr with at_:=S.now,done:=1,st:=(A1k pr.st).2}
  obtain⟨L5,n6,W5,F5⟩:=C6v H3.W o1 (by rw[o4];exact hl) 3 x gen 0 0 0 0 0
  obtain⟨H4,G4⟩:=H3.A9r W5 (F5.mono fun b hb=>.inl hb)
  have e10:({k:=(A1k pr.st).2.k,f:=(A1k pr.st).2.f,g:=(A1k pr.st).2.g,l:=(A1k pr.st).2.l,n:=(A1k pr.st).2.n}:St)=(A1k pr.st).2:=rfl
  rw[if_neg c4]
  simp only[PrS.rng,PrS.C4s,PrS.C5o,PrS.C4n,PrS.C1o,PrS.C8x,e10,n6,HH]
  exact⟨L5,rfl,H4,(G2.trans (A5i _)).trans G4⟩
end
end
section
set_option linter.unusedSectionVars false
theorem C9m{α:Type}(c:Prop)[Decidable c](x:α):(if c then x else x)=x:=by split<;>rfl
theorem E0i{S:WS}(h:S.ok)(part i:Int):FX 139 [.int S.c.c0,.int S.c.c1,.int S.c.c2,.int S.c.c3,.int S.c.c4,.int S.c.c5,.int S.c.c6,.int part,.int i]=some [.int (A0o S.c part i)]:=F7m S.c h.c _ _
theorem E4y{c:Cf}(hc:c.ok)(part i:Int):-1000≤A0o c part i∧A0o c part i≤1000:=by
 have h1:=A5b c hc
 rcases Decidable.em (0≤A0o c part i)with h|h
 ·have:=D3s c h;omega
 ·have:A0o c part i=-1:=by
   rcases Decidable.em (part<0∨part≥c.c0∨i<0∨i≥c.c1)with h2|h2
   ·exact if_pos h2
   ·exfalso
    have e:A0o c part i=part*c.c1+i:=if_neg h2
    have:=Int.mul_nonneg (show 0≤part by omega) (show 0≤c.c1 by omega)
    omega
  omega
section
variable{L:List D}{a s w m k:Nat}{pr:PrS}{se:A0k}{S:WS}(H:Hs L a s w m k pr se S)(h:S.ok)(hpc:In (pr.pc+1))
include H h hpc
theorem B8u{L1:List D}{pr1:PrS}{S1:WS}(H1:Hs L1 a s w m k pr1 se S1)(hp:pr1.pc=pr.pc)(x1 x2 x3 x4:D):A3n (.int (a:Nat)) x1 x2 x3 x4 [.agg L1]=some (A5v none (L1.set a (.agg (PrS.ds {pr1 with pc:=pr.pc+1})))):=by
 rw[B8p]
 simp only[HH,H1.a,PrS.A6z,hp,hpc.w,PrS.rng,PrS.B7d]
 rfl
theorem B3d{L1:List D}{pr1:PrS}{S1:WS}(H1:Hs L1 a s w m k pr1 se S1)(G:FrS L L1 a s w m):∃L',some (A5v none (L1.set a (.agg (PrS.ds {pr1 with pc:=pr.pc+1}))))=some (A5v (A8f (pr1,S1) se (pr.pc+1)).r L')∧Hs L' a s w m k (A8f (pr1,S1) se (pr.pc+1)).pr (A8f (pr1,S1) se (pr.pc+1)).se (A8f (pr1,S1) se (pr.pc+1)).S∧FrS L L' a s w m:=
 ⟨_,rfl,H1.A8d _,G.trans (A5i _)⟩
omit hpc in
theorem G5x(x:Int):(A3j x pr se S).1.pc=pr.pc:=by
 unfold A3j
 split
 ·rfl
 split
 ·rfl
 split
 ·rfl
 split
 ·rfl
 split<;>rfl
theorem F8k(hl:S.log.length≤1000000000)(hst:pr.st.wf)(hwd:pr.word<18446744073709551616)(hat:In pr.at_)(hd:0≤pr.done∧pr.done≤3)
  (hc:pr.pc≠0→0≤pr.a.cell∧pr.a.cell<se.ids.length∧pr.a.cell<se.A9s.length):
  ∃L',FX 123 [.int (a:Nat),.int (w:Nat),.int (s:Nat),.agg L]=some (A5v (A1n (A0o S.c se.part pr.a.cell) pr se S).r L')∧
   Hs L' a s w m k (A1n (A0o S.c se.part pr.a.cell) pr se S).pr (A1n (A0o S.c se.part pr.a.cell) pr se S).se (A1n (A0o S.c se.part pr.a.cell) pr se S).S∧FrS L L' a s w m:=by
 have n0:=E0i h se.part pr.a.cell
 have hx:=E4y h.c se.part pr.a.cell
 rw[C3z]
 simp only[HH,H.a,H.s,H.W.w,A0f.all,PrS.A1p,PrS.A6z,A0k.A1i,n0]
 generalize hxx:A0o S.c se.part pr.a.cell=x at*
 by_cases c0:pr.pc=0
 ·have i0:(pr.pc == 0)=true:=beq_iff_eq.2 c0
  simp only[i0,if_true]
  by_cases c1:x<0
  ·have e:A1n x pr se S=⟨some (codeF pr S 21),pr,se,S⟩:=by unfold A1n;rw[if_pos c0,if_pos c1]
   rw[e]
   simp only[c1,decide_true,if_true,B3p H h,C2d]
   exact⟨L,rfl,H,A9p⟩
  ·have e:A1n x pr se S=A8f (pr,S) se (pr.pc+1):=by unfold A1n;rw[if_pos c0,if_neg c1]
   rw[e]
   simp only[c1,decide_false,Bool.false_eq_true,if_false]
   rw[B8u H h hpc H rfl]
   exact B3d H h hpc H A9p
 have i0:(pr.pc == 0)=false:=beq_eq_false_iff_ne.2 c0
 simp only[i0,Bool.false_eq_true,if_false]
 have hJ:∀J:List D→Option (List D),(if(pr.pc == 1)=true then J [.agg L,.bool (pr.pc == 1)]else if(pr.pc == 3)=true then J [.agg L,.bool (pr.pc == 3)]else J [.agg L,.bool (pr.pc == 5)])=J [.agg L,.bool (decide (pr.pc=1∨pr.pc=3∨pr.pc=5))]:=by
  intro J
  by_cases d1:pr.pc=1
  ·simp[d1]
  by_cases d2:pr.pc=3
  ·simp[d2]
  ·simp[d1,d2]
   rfl
 rw[hJ,B8k]
 simp only[HH,H.a,PrS.A6z,PrS.C4q]
 by_cases c1:pr.pc=1∨pr.pc=3∨pr.pc=5
 ·have e:A1n x pr se S=A8f (if pr.done=0 then {pr with word:=S.word x,st:=A0i (S.word x)} else pr,S) se (pr.pc+1):=by unfold A1n;rw[if_neg c0,if_pos c1]
  rw[e]
  simp only[c1,decide_true,if_true]
  by_cases c2:pr.done=0
  ·have i2:(pr.done == 0)=true:=beq_iff_eq.2 c2
   obtain⟨L1,n1,W1,F1⟩:=B0s H.W h x hx
   obtain⟨H1,G1⟩:=H.A9r W1 (F1.mono fun b hb=>.inr hb)
   rw[E9v]at n1
   rw[if_pos c2]
   simp only[i2,if_true,n1,HH,H1.a,PrS.rng,PrS.D5g,PrS.C4s,PrS.C5o,PrS.C4n,PrS.C1o,PrS.C8x]
   have H2:=H1.A8d {pr with word:=S.word x,st:=A0i (S.word x)}
   rw[B8u H h hpc H2 rfl]
   exact B3d H h hpc H2 (G1.trans (A5i _))
  ·have i2:(pr.done == 0)=false:=beq_eq_false_iff_ne.2 c2
   rw[if_neg c2]
   simp only[i2,Bool.false_eq_true,if_false]
   rw[B8u H h hpc H rfl]
   exact B3d H h hpc H A9p
 simp only[c1,decide_false,Bool.false_eq_true,if_false]
 have hJ2:∀J:List D→Option (List D),(if(pr.pc == 2)=true then J [.agg L,.bool (pr.pc == 2)]else if(pr.pc == 4)=true then J [.agg L,.bool (pr.pc == 4)]else J [.agg L,.bool (pr.pc == 6)])=J [.agg L,.bool (decide (pr.pc=2∨pr.pc=4∨pr.pc=6))]:=by
  intro J
  by_cases d1:pr.pc=2
  ·simp[d1]
  by_cases d2:pr.pc=4
  ·simp[d2]
  ·simp[d1,d2]
   rfl
 rw[hJ2,B8f]
 simp only[HH,H.a,PrS.A6z,PrS.B1j,PrS.A9y,PrS.B0x,PrS.B3t,PrS.B7f,PrS.C4q,PrS.D0p]
 by_cases c2:pr.pc=2∨pr.pc=4∨pr.pc=6
 ·have e:A1n x pr se S=A8f (A3j x pr se S) se (pr.pc+1):=by unfold A1n;rw[if_neg c0,if_neg c1,if_pos c2]
  rw[e]
  obtain⟨L1,n1,H1,G1⟩:=G8e H h hl x hx hst hwd (hc c0)
  simp only[c2,decide_true,if_true,n1,HH]
  rw[B8u H h hpc H1 (G5x H h x)]
  exact B3d H h hpc H1 G1
 simp only[c2,decide_false,Bool.false_eq_true,if_false]
 by_cases c3:pr.pc=7
 ·have i3:(pr.pc == 7)=true:=beq_iff_eq.2 c3
  have e:A1n x pr se S=A8f (pr,if pr.done=1 then A7h S x pr.st.g S.c.c5 (A7v pr.st pr.at_)else S) se (pr.pc+1):=by unfold A1n;rw[if_neg c0,if_neg c1,if_neg c2,if_pos c3]
  rw[e]
  simp only[i3,if_true,E9m,A0l,A4j.len,H.W.w,D.A0h,A0f.A3b]
  by_cases c4:pr.done=1
  ·have i4:(pr.done == 1)=true:=beq_iff_eq.2 c4
   rw[if_pos c4]
   simp only[i4,if_true]
   cases ho:A7v pr.st pr.at_ with
   |none=>
    have e1:((A4j none).getD 6 D.nil).toBool=false:=rfl
    simp only[e1,Bool.false_eq_true,if_false]
    rw[B8u H h hpc H rfl]
    exact B3d H h hpc H A9p
   |some r=>
    have e1:((A4j (some r)).getD 6 D.nil).toBool=true:=rfl
    simp only[e1,if_true]
    obtain⟨L1,n1,W1,F1⟩:=C2y H.W h x pr.st.g S.c.c5 r (D5e hst hat ho)
    obtain⟨H1,G1⟩:=H.A9r W1 (F1.mono fun b hb=>.inr hb)
    have n1':FX 120 [.int (w:Nat),.int x,.int pr.st.g,.int S.c.c5,(A4j (some r)).getD 0 D.nil,(A4j (some r)).getD 1 D.nil,(A4j (some r)).getD 2 D.nil,(A4j (some r)).getD 3 D.nil,(A4j (some r)).getD 4 D.nil,(A4j (some r)).getD 5 D.nil,.agg L]=some [.agg L1]:=n1
    simp only[n1',HH]
    rw[B8u H h hpc H1 rfl]
    exact B3d H h hpc H1 G1
  ·have i4:(pr.done == 1)=false:=beq_eq_false_iff_ne.2 c4
   rw[if_neg c4]
   simp only[i4,Bool.false_eq_true,if_false]
   rw[B8u H h hpc H rfl,C9m _ _]
   exact B3d H h hpc H A9p
 ·have i3:(pr.pc == 7)=false:=beq_eq_false_iff_ne.2 c3
  have e:A1n x pr se S=⟨some {codeF pr S (F9c pr.done)with asked:=pr.done == 2},pr,se,S⟩:=by unfold A1n;rw[if_neg c0,if_neg c1,if_neg c2,if_neg c3]
  rw[e]
  have d1:pr.done≥0:=hd.1
  have d2:pr.done<4:=by omega
  have hg:([D.int 27,D.int 0,D.int 0,D.int 29]:List D).getD pr.done.toNat D.nil=.int (F9c pr.done):=by
   have:pr.done=0∨pr.done=1∨pr.done=2∨pr.done=3:=by omega
   rcases this with e|e|e|e<;>rw[e]<;>rfl
  simp only[i3,Bool.false_eq_true,if_false,d1,d2,decide_true,if_true,hg,B3p H h]
  exact⟨L,rfl,H,A9p⟩
end
end
section
set_option linter.unusedSectionVars false
theorem H0i(x:Nat)(hx:x<18446744073709551616):FX 167 [wN x]=some (G7z x).ds:=G2g x hx
theorem rapp(r:Rc)(x:D):r.ds++[x]=[.int r.k,.int r.q,.int r.p,.int r.t,.int r.c,.int r.g,x]:=rfl
theorem F1e{S:WS}(h:S.ok)(x gen n:Int):FX 137 [.int S.c.c0,.int S.c.c1,.int S.c.c2,.int S.c.c3,.int S.c.c4,.int S.c.c5,.int S.c.c6,.int x,.int gen,.int n]=some [.int (A6s S.c x gen n)]:=F7b S.c h.c x gen n
theorem G1l{L:List D}{w m k:Nat}{S:WS}(W:InW L w m k S)(h:S.ok)(i:Int):∃L',FX 144 [.int (w:Nat),.int i,.agg L]=some ((B6v S i).ds++[.agg L'])∧InW L' w m k S∧Fr L L' (fun b=>b=w∨b=m):=by
 rw[F5i]
 unfold B6v
 by_cases c0:i<0
 ·refine⟨L,?_,W,Fr.refl _ _⟩
  rw[if_pos c0]
  simp only[D.toInt_int,c0,decide_true,if_true]
  rfl
 ·obtain⟨M,hM,hw⟩:=W.m
  obtain⟨e,M',h1,h2⟩:=E3f hM i
  refine⟨L.set m (.agg M'.ds),?_,?_,Fr.set _ _ _ (.inr rfl)⟩
  ·rw[if_neg c0]
   have hr:=H0i (wd M.words i) (E2f (by rw[hw];exact h.w) _)
   rw[hw]at h1 hr
   simp only[c0,decide_false,HH,W.w,A0f.A7y,h1,hr,Rc.len,Rc.A1i,Rc.A1h,Rc.A1p,Rc.A1v,Rc.A1u,Rc.A3b]
   rfl
  ·have:=W.E5i M'
   rw[h2,hw]at this
   exact this
theorem H2b{se:A0k}{i:Int}(h0:0≤i)(h1:i<se.A7j.length):(se.A7j.map Cur.d).getD i.toNat D.nil=.agg [.int (A6c se i).gen,.int (A6c se i).n]:=by
 have h:i.toNat<se.A7j.length:=by omega
 unfold A6c
 rw[List.getD_eq_getElem?_getD,List.getElem?_map,List.getElem?_eq_getElem h,List.getD_eq_getElem?_getD,List.getElem?_eq_getElem h];rfl
section
variable{L:List D}{a s w m k:Nat}{pr:PrS}{se:A0k}{S:WS}(H:Hs L a s w m k pr se S)(h:S.ok)(hpc:In (pr.pc+1))
include H h hpc
theorem G5f(hc:0≤A0o S.c se.part pr.a.cell→0≤pr.a.cell∧pr.a.cell<se.A7j.length)(hg:In ((A6c se pr.a.cell).gen+1))(hn:In ((A6c se pr.a.cell).n+1)):
  ∃L',FX 124 [.int (a:Nat),.int (w:Nat),.int (s:Nat),.agg L]=some (A5v (A2q (A0o S.c se.part pr.a.cell) pr se S).r L')∧
   Hs L' a s w m k (A2q (A0o S.c se.part pr.a.cell) pr se S).pr (A2q (A0o S.c se.part pr.a.cell) pr se S).se (A2q (A0o S.c se.part pr.a.cell) pr se S).S∧FrS L L' a s w m:=by
 have n0:=E0i h se.part pr.a.cell
 rw[C7z]
 simp only[HH,H.a,H.s,H.W.w,A0f.all,PrS.A1p,PrS.A6z,A0k.A1i,A0k.A1u,n0]
 generalize hxx:A0o S.c se.part pr.a.cell=x at*
 by_cases cx:x<0
 ·have e:A2q x pr se S=⟨some (codeF pr S 21),pr,se,S⟩:=by unfold A2q;rw[if_pos cx]
  rw[e]
  simp only[cx,decide_true,if_true,B3p H h,C2d]
  exact⟨L,rfl,H,A9p⟩
 obtain⟨b1,b2⟩:=hc (by omega)
 have b1':pr.a.cell≥0:=b1
 have g1:=H2b (se:=se) b1 b2
 have hlen:(se.A7j.map Cur.d).length=se.A7j.length:=List.length_map ..
 simp only[cx,decide_false,Bool.false_eq_true,if_false,hlen,b1',b2,decide_true,if_true,g1,HH]
 generalize hcur:A6c se pr.a.cell=cur at*
 by_cases c0:pr.pc=0
 ·have i0:(pr.pc == 0)=true:=beq_iff_eq.2 c0
  have e:A2q x pr se S=⟨none,{pr with pc:=pr.pc+1},se,S⟩:=by unfold A2q;rw[if_neg cx,if_pos c0]
  rw[e]
  simp only[i0,if_true,hpc.w,PrS.rng,PrS.B7d]
  exact⟨_,rfl,H.A8d _,A5i _⟩
 have i0:(pr.pc == 0)=false:=beq_eq_false_iff_ne.2 c0
 simp only[i0,Bool.false_eq_true,if_false]
 by_cases c1:pr.pc=1
 ·have i1:(pr.pc == 1)=true:=beq_iff_eq.2 c1
  simp only[i1,if_true,C0p,HH,H.a,H.s,H.W.w,A0f.all,PrS.A1p,PrS.A6z,A0k.A1u,g1]
  by_cases c2:cur.n<S.c.c5
  ·have e:A2q x pr se S=⟨none,{pr with r0:=B6v S (A6s S.c x cur.gen cur.n),pc:=pr.pc+1},se,S⟩:=by unfold A2q;rw[if_neg cx,if_neg c0,if_pos c1,hcur,if_pos c2]
   rw[e]
   obtain⟨L1,n1,W1,F1⟩:=G1l H.W h (A6s S.c x cur.gen cur.n)
   obtain⟨H1,G1⟩:=H.A9r W1 F1
   rw[rapp]at n1
   have n2:=F1e h x cur.gen cur.n
   simp only[c2,decide_true,if_true,n2,n1,HH,C0s,H1.a,PrS.rng,PrS.E8m,PrS.F9d,PrS.F9j,PrS.E2l,PrS.D9r,PrS.E1l,PrS.A6z,hpc.w,PrS.B7d]
   exact⟨_,rfl,H1.A8d {pr with r0:=B6v S (A6s S.c x cur.gen cur.n),pc:=pr.pc+1},G1.trans (A5i _)⟩
  ·have e:A2q x pr se S=⟨none,{pr with pc:=pr.pc+1},se,S⟩:=by unfold A2q;rw[if_neg cx,if_neg c0,if_pos c1,hcur,if_neg c2]
   rw[e]
   simp only[c2,decide_false,Bool.false_eq_true,if_false,hpc.w,PrS.rng,PrS.B7d]
   exact⟨_,rfl,H.A8d _,A5i _⟩
 have i1:(pr.pc == 1)=false:=beq_eq_false_iff_ne.2 c1
 simp only[i1,Bool.false_eq_true,if_false]
 by_cases c2:pr.pc=2
 ·have i2:(pr.pc == 2)=true:=beq_iff_eq.2 c2
  have e:A2q x pr se S=⟨none,{pr with r1:=B6v S (A6s S.c x cur.gen S.c.c5),pc:=pr.pc+1},se,S⟩:=by unfold A2q;rw[if_neg cx,if_neg c0,if_neg c1,if_pos c2,hcur]
  rw[e]
  obtain⟨L1,n1,W1,F1⟩:=G1l H.W h (A6s S.c x cur.gen S.c.c5)
  obtain⟨H1,G1⟩:=H.A9r W1 F1
  rw[rapp]at n1
  have n2:=F1e h x cur.gen S.c.c5
  simp only[i2,if_true,n2,n1,HH,C0q,H1.a,PrS.rng,PrS.E0u,PrS.E0d,PrS.E9g,PrS.E8k,PrS.E8q,PrS.E9k,PrS.A6z,hpc.w,PrS.B7d]
  exact⟨_,rfl,H1.A8d {pr with r1:=B6v S (A6s S.c x cur.gen S.c.c5),pc:=pr.pc+1},G1.trans (A5i _)⟩
 ·have i2:(pr.pc == 2)=false:=beq_eq_false_iff_ne.2 c2
  have e:A2q x pr se S=⟨some {codeF pr S 0 with rc:=(B1b cur.gen cur.n pr.r0 pr.r1).1},pr,{se with A7j:=se.A7j.set pr.a.cell.toNat ⟨(B1b cur.gen cur.n pr.r0 pr.r1).2.1,(B1b cur.gen cur.n pr.r0 pr.r1).2.2⟩},S⟩:=by unfold A2q;rw[if_neg cx,if_neg c0,if_neg c1,if_neg c2,hcur]
  rw[e]
  have n3:FX 145 [.int cur.gen,.int cur.n,.int pr.r0.k,.int pr.r0.q,.int pr.r0.p,.int pr.r0.t,.int pr.r0.c,.int pr.r0.g,.int pr.r1.k,.int pr.r1.q,.int pr.r1.p,.int pr.r1.t,.int pr.r1.c,.int pr.r1.g]=some ((B1b cur.gen cur.n pr.r0 pr.r1).1.ds++[.int (B1b cur.gen cur.n pr.r0 pr.r1).2.1,.int (B1b cur.gen cur.n pr.r0 pr.r1).2.2]):=H2k cur.gen cur.n hg hn pr.r0 pr.r1
  generalize B1b cur.gen cur.n pr.r0 pr.r1=nx at*
  have r2:∀(r:Rc) (x y:D),r.ds++[x,y]=[.int r.k,.int r.q,.int r.p,.int r.t,.int r.c,.int r.g,x,y]:=fun _ _ _=>rfl
  rw[r2]at n3
  have hset:(se.A7j.map Cur.d).set pr.a.cell.toNat (.agg [.int nx.2.1,.int nx.2.2])=(se.A7j.set pr.a.cell.toNat ⟨nx.2.1,nx.2.2⟩).map Cur.d:=by rw[List.map_set];rfl
  simp only[i2,Bool.false_eq_true,if_false,B3p H h,A0l,Rep.H0h,if_true,PrS.E0z,PrS.D9v,PrS.E8j,PrS.E9f,PrS.E9h,PrS.E9n,PrS.E8f,PrS.E8n,PrS.E8u,PrS.E8e,PrS.E8g,PrS.E9j,n3,HH,C0i,H.s,H.a,PrS.A1p,A0k.A1u,A0k.rng,hset,A0k.A9v]
  exact⟨_,rfl,H.setS {se with A7j:=se.A7j.set pr.a.cell.toNat ⟨nx.2.1,nx.2.2⟩},G9v _⟩
theorem look_eq(s:St):FX 146 [.int s.k,.bool s.f,.int s.g,.int s.l,.int s.n]=some (D9q s).ds:=by
 have h1:=F6n s.k (.bool s.f) (.int s.g) (.int s.l) (.int s.n)
 rw[F5o,h1]
 simp only[HH]
 unfold D9q
 have e:s.live=(decide (1≤s.k)&&decide (s.k≤4)):=rfl
 rw[←e]
 cases s.live<;>rfl
theorem G7a(hlk:pr.looks.length≤1000)(hpc0:0≤pr.pc):
  ∃L',FX 125 [.int (a:Nat),.int (w:Nat),.int (s:Nat),.agg L]=some (A5v (A2k pr se S).r L')∧
   ((A2k pr se S).r=none→Hs L' a s w m k (A2k pr se S).pr (A2k pr se S).se (A2k pr se S).S)∧InW L' w m k S∧L'.getD s D.nil=.agg se.ds∧FrS L L' a s w m:=by
 obtain⟨f1,f2,f3,f4,f5,f6,f7⟩:=H.far
 rw[C7n]
 simp only[HH,H.a,H.s,H.W.w,A0f.all,PrS.A6z,PrS.E0c,A0k.A1i]
 by_cases c0:pr.pc>S.c.c1
 ·have e:A2k pr se S=⟨some {codeF pr S 0 with looks:=pr.looks},pr,se,S⟩:=by unfold A2k;rw[if_pos c0]
  rw[e]
  have hnil:∀l:List D,(D.agg l).isNil=false:=fun _=>rfl
  simp only[c0,decide_true,if_true,B3p H h,A0l,Rep.H0h,hnil,Bool.not_false]
  refine⟨_,rfl,(fun hh=>nomatch hh),?_,?_,A5i _⟩
  ·exact H.W.fr (Fr.set L a _ (T:=(·=a)) rfl) (Ne.symm f1) (Ne.symm f2) (Ne.symm f3)
  ·rw[A3d f7];exact H.s
 simp only[c0,decide_false,Bool.false_eq_true,if_false]
 by_cases c1:pr.pc>0
 ·have e:A2k pr se S=⟨none,{pr with looks:=pr.looks++[D9q (A0i (S.word (A0o S.c se.part (pr.pc-1))))],pc:=pr.pc+1},se,S⟩:=by unfold A2k;rw[if_neg c0,if_pos c1]
  rw[e]
  have hc1:=h.c.2.1
  rw[A0t (pr.pc-1) (by omega) (by omega)]
  have n0:=E0i h se.part (pr.pc-1)
  have hx:=E4y h.c se.part (pr.pc-1)
  obtain⟨L1,n1,W1,F1⟩:=B0s H.W h (A0o S.c se.part (pr.pc-1)) hx
  obtain⟨H1,G1⟩:=H.A9r W1 (F1.mono fun b hb=>.inr hb)
  rw[E9v]at n1
  have n2:=look_eq H h hpc (A0i (S.word (A0o S.c se.part (pr.pc-1))))
  generalize D9q (A0i (S.word (A0o S.c se.part (pr.pc-1))))=lk at*
  have n2':lk.ds=[.int lk.kind,.int lk.left,.int lk.E8s]:=rfl
  rw[n2']at n2
  have hap:pr.looks.map A5h.d++[D.agg [.int lk.kind,.int lk.left,.int lk.E8s]]=(pr.looks++[lk]).map A5h.d:=by simp[A5h.d,A5h.ds]
  have hle:(((pr.looks++[lk]).map A5h.d).length:Int)≤5864062014805:=by simp;omega
  have hnil:∀l:List D,(D.agg l).isNil=false:=fun _=>rfl
  simp only[c1,decide_true,if_true,n0,n1,HH,C0m,C0u,H1.a,PrS.E0c,hnil,n2,hap,hle,PrS.rng,PrS.E8v,PrS.A6z,hpc.w,PrS.B7d]
  have H2:=H1.A8d {pr with looks:=pr.looks++[lk],pc:=pr.pc+1}
  exact⟨_,rfl,fun _=>H2,H2.W,H2.s,G1.trans (A5i _)⟩
 ·have e:A2k pr se S=⟨none,{pr with pc:=pr.pc+1},se,S⟩:=by unfold A2k;rw[if_neg c0,if_neg c1]
  rw[e]
  simp only[c1,decide_false,Bool.false_eq_true,if_false,hpc.w,PrS.rng,PrS.B7d]
  have H2:=H.A8d {pr with pc:=pr.pc+1}
  exact⟨_,rfl,fun _=>H2,H2.W,H2.s,A5i _⟩
end
end
section
set_option linter.unusedSectionVars false
structure InA(L:List D)(a s z l w m k:Nat)(pr:PrS)(se:A0k)(ss:A0g)(po:A0d)(S:WS):Prop where
 H:Hs L a s w m k pr se S
 z:L.getD z D.nil=.agg ss.ds
 l:L.getD l D.nil=.agg po.ds
def Own(a q s z l w m:Nat)(b:Nat):Prop:=b=a∨b=q∨b=s∨b=z∨b=l∨b=w∨b=m
def FrA(L L':List D)(a q s z l w m:Nat):Prop:=Fr L L' (Own a q s z l w m)
section
variable{L:List D}{a s z l w m k:Nat}{pr:PrS}{se:A0k}{ss:A0g}{po:A0d}{S:WS}(A:InA L a s z l w m k pr se ss po S)
include A
theorem InA.fz:z≠a∧z≠s∧z≠w∧z≠m∧z≠k∧z≠l:=by
 obtain⟨h1,h2,h3⟩:=A.H.W.far A.z (by rw[A0g.len];decide) (by rw[A0g.len];decide) (by rw[A0g.len];decide)
 exact⟨A3k A.z A.H.a (by rw[PrS.len,A0g.len];decide),A3k A.z A.H.s (by rw[A0k.len,A0g.len];decide),h1,h2,h3,A3k A.z A.l (by rw[A0g.len,A0d.len];decide)⟩
theorem InA.fl:l≠a∧l≠s∧l≠w∧l≠m∧l≠k:=by
 obtain⟨h1,h2,h3⟩:=A.H.W.far A.l (by rw[A0d.len];decide) (by rw[A0d.len];decide) (by rw[A0d.len];decide)
 exact⟨A3k A.l A.H.a (by rw[PrS.len,A0d.len];decide),A3k A.l A.H.s (by rw[A0k.len,A0d.len];decide),h1,h2,h3⟩
theorem InA.step{L1:List D}{pr1:PrS}{se1:A0k}{S1:WS}(H1:Hs L1 a s w m k pr1 se1 S1)(G:FrS L L1 a s w m):InA L1 a s z l w m k pr1 se1 ss po S1:=by
 obtain⟨h1,h2,h3,h4,h5,h6⟩:=A.fz
 obtain⟨g1,g2,g3,g4,g5⟩:=A.fl
 exact⟨H1,G.get A.z (by simp only[h1,h2,h3,h4,or_self,not_false_iff]),G.get A.l (by simp only[g1,g2,g3,g4,or_self,not_false_iff])⟩
theorem InA.G5v(ss':A0g):InA (L.set z (.agg ss'.ds)) a s z l w m k pr se ss' po S:=by
 obtain⟨h1,h2,h3,h4,h5,h6⟩:=A.fz
 exact⟨⟨A.H.W.fr (Fr.set L z _ (T:=(·=z)) rfl) (Ne.symm h3) (Ne.symm h4) (Ne.symm h5),by rw[A3d h1];exact A.H.a,by rw[A3d h2];exact A.H.s⟩,A3m (A2j A.z) _,by rw[A3d h6];exact A.l⟩
theorem InA.B7q(po':A0d):InA (L.set l (.agg po'.ds)) a s z l w m k pr se ss po' S:=by
 obtain⟨h1,h2,h3,h4,h5,h6⟩:=A.fz
 obtain⟨g1,g2,g3,g4,g5⟩:=A.fl
 exact⟨⟨A.H.W.fr (Fr.set L l _ (T:=(·=l)) rfl) (Ne.symm g3) (Ne.symm g4) (Ne.symm g5),by rw[A3d g1];exact A.H.a,by rw[A3d g2];exact A.H.s⟩,by rw[A3d (Ne.symm h6)];exact A.z,A3m (A2j A.l) _⟩
theorem InA.snoc(x:D):InA (L++[x]) a s z l w m k pr se ss po S:=by
 have hf:Fr L (L++[x]) (fun _=>False):=Fr.snoc L x _
 exact⟨⟨A.H.W.fr hf not_false not_false not_false,hf.get A.H.a not_false,hf.get A.H.s not_false⟩,hf.get A.z not_false,hf.get A.l not_false⟩
omit A
theorem FrA.ofS{L L':List D}{a q s z l w m:Nat}(G:FrS L L' a s w m):FrA L L' a q s z l w m:=G.mono fun b hb=>by
 unfold Own
 rcases hb with h|h|h|h
 ·exact .inl h
 ·exact .inr (.inr (.inl h))
 ·exact .inr (.inr (.inr (.inr (.inr (.inl h)))))
 ·exact .inr (.inr (.inr (.inr (.inr (.inr h)))))
end
def PP(L:List D)(q:Nat)(ptr:D)(o:Option A0a):Prop:=match o with
 |none=>ptr=.nil
 |some P=>ptr=.int (q:Nat)∧L.getD q D.nil=.agg P.ds
def A4l:Option A0a→Bool
 |none=>true
 |some P=>decide (P.pc≥14)
def A4m(z l:Nat):D:=.iface 111 (.agg [.iface 151 (.agg [.int (z:Nat)]),.iface 25 (.agg [.int (l:Nat)])])
def atT(t:List Dr)(i:Int):Dr:=t.getD i.toNat ⟨0,0⟩
def takeN(ss:A0g)(po:A0d):Option Int × A0g × A0d:=
 if ss.taken=ss.tape.length then(none,ss,po)else(some (atT ss.tape ss.taken).n,{ss with taken:=ss.taken+1},{po with A0z:=po.A0z.set (atT ss.tape ss.taken).ev.toNat ss.ev})
structure B0i(ss:A0g)(po:A0d):Prop where
 t:0≤ss.taken∧ss.taken≤ss.tape.length∧ss.tape.length≤100000000
 e:∀d ∈ ss.tape,0≤d.ev∧d.ev<po.A0z.length
theorem G7h{L:List D}{a s z l w m k:Nat}{pr:PrS}{se:A0k}{ss:A0g}{po:A0d}{S:WS}(A:InA L a s z l w m k pr se ss po S)(ht:B0i ss po):
  ∃L',FX 112 [.int (z:Nat),.int (l:Nat),.agg L]=some [.int ((takeN ss po).1.getD 0),.bool (takeN ss po).1.isSome,.agg L']∧InA L' a s z l w m k pr se (takeN ss po).2.1 (takeN ss po).2.2 S∧Fr L L' (fun b=>b=z∨b=l):=by
 obtain⟨⟨t1,t2,t3⟩,te⟩:=ht
 have hlen:(ss.tape.map Dr.d).length=ss.tape.length:=List.length_map ..
 rw[C7k]
 simp only[HH,A.z,A0g.A1v,A0g.A1u,A0g.A3b,hlen]
 unfold takeN
 by_cases c0:ss.taken=ss.tape.length
 ·have i0:(ss.taken == (ss.tape.length:Int))=true:=beq_iff_eq.2 c0
  rw[if_pos c0]
  simp only[i0,if_true]
  exact⟨L,rfl,A,Fr.refl _ _⟩
 ·have i0:(ss.taken == (ss.tape.length:Int))=false:=beq_eq_false_iff_ne.2 c0
  rw[if_neg c0]
  have hlt:ss.taken.toNat<ss.tape.length:=by omega
  have hmem:atT ss.tape ss.taken ∈ ss.tape:=by
   unfold atT
   rw[List.getD_eq_getElem?_getD,List.getElem?_eq_getElem hlt]
   exact List.getElem_mem hlt
  obtain⟨e1,e2⟩:=te _ hmem
  have hg:(ss.tape.map Dr.d).getD ss.taken.toNat D.nil=.agg [.int (atT ss.tape ss.taken).n,.int (atT ss.tape ss.taken).ev]:=by
   unfold atT
   rw[List.getD_eq_getElem?_getD,List.getElem?_map,List.getElem?_eq_getElem hlt,List.getD_eq_getElem?_getD,List.getElem?_eq_getElem hlt];rfl
  generalize atT ss.tape ss.taken=d at*
  have j1:ss.taken≥0:=t1
  have j2:ss.taken<(ss.tape.length:Int):=by omega
  have j3:d.ev≥0:=e1
  have A1:=A.G5v {ss with taken:=ss.taken+1}
  have A2:=A1.B7q {po with A0z:=po.A0z.set d.ev.toNat ss.ev}
  refine⟨_,?_,A2,(Fr.set L z _ (.inl rfl)).trans (Fr.set _ l _ (.inr rfl))⟩
  simp only[i0,Bool.false_eq_true,if_false,j1,j2,decide_true,if_true,hg,HH,A0g.rng]
  rw[A0t _ (by omega) (by omega)]
  simp only[A0g.B5d,A1.l,HH,A0d.A4n,C8r,j3,e2,decide_true,A0d.rng,D8g,A0d.B6f]
  rfl
structure Tr where
 b:Bool
 n:Int
 o:Option A0a
 ss:A0g
 po:A0d
 S:WS
def atA(t:List Aim)(i:Int):Aim:=t.getD i.toNat ⟨0,0,0,0,0⟩
def A2d(n:Int)(o:Option A0a)(ss:A0g)(po:A0d)(S:WS):Tr:=match o with
 |none=>⟨false,n,none,ss,po,S⟩
 |some P=>if P.pc≥14 then⟨false,n,some P,ss,po,S⟩else⟨true,n,some (A1c P S).1,ss,po,(A1c P S).2⟩
def E2t(ai:Aim):Option Int→Aim
 |none=>ai
 |some v=>{ai with y:=v}
def A1y(pr:PrS)(o:Option A0a)(ss:A0g)(po:A0d)(S:WS):Tr:=
 if A4l o=true∧pr.n<pr.A3o.length then
  (if(atA pr.A3o pr.n).way=1 then A2d (pr.n+1) (some (A0a.new (E2t (atA pr.A3o pr.n) (takeN ss po).1))) (takeN ss po).2.1 (takeN ss po).2.2 S
  else A2d (pr.n+1) (some (A0a.new (atA pr.A3o pr.n))) ss po S)
 else A2d pr.n o ss po S
section
variable{L:List D}{a s z l w m k q:Nat}{pr:PrS}{se:A0k}{ss:A0g}{po:A0d}{S:WS}{o:Option A0a}(A:InA L a s z l w m k pr se ss po S)(h:S.ok)(hp:PP L q pr.p o)
include A h hp
theorem F2o:FX 70 [pr.p,.agg L]=some [.bool (A4l o)]:=by
 cases o with
 |none=>
  dsimp only[PP]at hp
  rw[hp,A7n]
  simp only[HH];rfl
 |some P=>
  obtain⟨e1,e2⟩:=hp
  rw[e1,D5m A.H.W e2];rfl
theorem F7q(ho:∀P,o=some P→P.ok)(hl:S.log.length≤1000000000)(x2:D):
  ∃L',A4f (.int (a:Nat)) (.int (w:Nat)) x2 [.agg L]=some [.bool (A2d pr.n o ss po S).b,.agg L']∧
   InA L' a s z l w m k pr se ss po (A2d pr.n o ss po S).S∧PP L' q pr.p (A2d pr.n o ss po S).o∧FrA L L' a q s z l w m:=by
 have n1:=F2o A h hp
 rw[C2a]
 simp only[HH,A.H.a,PrS.D5v,n1]
 cases o with
 |none=>
  simp only[A4l,if_true]
  exact⟨L,rfl,A,hp,Fr.refl _ _⟩
 |some P=>
  obtain⟨e1,e2⟩:=hp
  unfold A2d
  by_cases c0:P.pc≥14
  ·have i0:A4l (some P)=true:=by simp only[A4l,c0,decide_true]
   simp only[i0,if_true,if_pos c0]
   exact⟨L,rfl,A,⟨e1,e2⟩,Fr.refl _ _⟩
  ·have i0:A4l (some P)=false:=by simp only[A4l,c0,decide_false]
   obtain⟨L1,n2,d1,d2,d3⟩:=F1m A.H.W e2 h (ho P rfl) hl
   simp only[i0,Bool.false_eq_true,if_false,if_neg c0,e1,n2,HH]
   have hq:q≠a∧q≠s∧q≠z∧q≠l:=⟨A3k e2 A.H.a (by rw[A0a.len,PrS.len];decide),A3k e2 A.H.s (by rw[A0a.len,A0k.len];decide),A3k e2 A.z (by rw[A0a.len,A0g.len];decide),A3k e2 A.l (by rw[A0a.len,A0d.len];decide)⟩
   obtain⟨q1,q2,q3,q4⟩:=hq
   obtain⟨f1,f2,f3,f4,f5,f6,f7⟩:=A.H.far
   obtain⟨g1,g2,g3,g4,g5,g6⟩:=A.fz
   obtain⟨k1,k2,k3,k4,k5⟩:=A.fl
   refine⟨L1,rfl,⟨⟨d1,d3.get A.H.a ?_,d3.get A.H.s ?_⟩,d3.get A.z ?_,d3.get A.l ?_⟩,⟨rfl,d2⟩,d3.mono fun b hb=>?_⟩
   ·simp only[Ne.symm q1,f1,f2,or_self,not_false_iff]
   ·simp only[Ne.symm q2,f4,f5,or_self,not_false_iff]
   ·simp only[Ne.symm q3,g3,g4,or_self,not_false_iff]
   ·simp only[Ne.symm q4,k3,k4,or_self,not_false_iff]
   ·unfold Own
    rcases hb with hb|hb|hb
    ·exact .inr (.inl hb)
    ·exact .inr (.inr (.inr (.inr (.inr (.inl hb)))))
    ·exact .inr (.inr (.inr (.inr (.inr (.inr hb)))))
end
end
section
set_option linter.unusedSectionVars false
theorem F3t(ai:Aim)(L:List D):FX 114 [.int ai.way,.int ai.x,.int ai.gen,.int ai.y,.int ai.A3r,.agg L]=some [.int (L.length:Nat),.agg (L++[D.agg (A0a.new ai).ds])]:=by
 rw[F1u]
 simp only[D.A0h]
 rfl
theorem PP.ext{L L':List D}{q:Nat}{ptr:D}{o:Option A0a}(hp:PP L q ptr o)(he:∀P,o=some P→L'.getD q D.nil=L.getD q D.nil):PP L' q ptr o:=by
 cases o with
 |none=>exact hp
 |some P=>exact⟨hp.1,by rw[he P rfl];exact hp.2⟩
section
variable{L:List D}{a s z l w m k q:Nat}{pr:PrS}{se:A0k}{ss:A0g}{po:A0d}{S:WS}{o:Option A0a}(A:InA L a s z l w m k pr se ss po S)(h:S.ok)
include A h
theorem F6l(ai:Aim)(hl:S.log.length≤1000000000)(hn:In (pr.n+1))(x0 x2 x3 x4 y2:D):
  ∃L' q',A4e (.int (a:Nat)) x0 x2 x3 x4 (A4f (.int (a:Nat)) (.int (w:Nat)) y2) [.int ai.way,.int ai.x,.int ai.gen,.int ai.y,.int ai.A3r,.agg L]=some [.bool (A2d (pr.n+1) (some (A0a.new ai)) ss po S).b,.agg L']∧
   InA L' a s z l w m k {pr with p:=.int (q':Nat),n:=pr.n+1} se ss po (A2d (pr.n+1) (some (A0a.new ai)) ss po S).S∧PP L' q' (.int (q':Nat)) (A2d (pr.n+1) (some (A0a.new ai)) ss po S).o∧
   Fr L L' (Own a q' s z l w m)∧L.length≤q':=by
 have A1:=A.snoc (D.agg (A0a.new ai).ds)
 obtain⟨p1,hp1⟩:∃p1:PrS,p1={pr with p:=.int (L.length:Nat),n:=pr.n+1}:=⟨_,rfl⟩
 have H2:=A1.H.A8d p1
 have A2:InA ((L++[D.agg (A0a.new ai).ds]).set a (.agg p1.ds)) a s z l w m k p1 se ss po S:=A1.step H2 (A5i _)
 have hne:a≠L.length:=by have:=A2j A.H.a;omega
 have hpp:PP ((L++[D.agg (A0a.new ai).ds]).set a (.agg p1.ds)) L.length p1.p (some (A0a.new ai)):=by
  rw[hp1]
  exact⟨rfl,by rw[A3d hne];exact A5m L _⟩
 obtain⟨L',n1,A3,hp3,F3⟩:=F7q A2 h hpp (fun P e=>by cases e;exact A0a.C0d ai) hl y2
 have hn1:p1.n=pr.n+1:=by rw[hp1]
 have hpt:p1.p=.int (L.length:Nat):=by rw[hp1]
 rw[hn1]at n1 A3 hp3
 rw[hpt]at hp3
 refine⟨L',L.length,?_,by rw[hp1]at A3;exact A3,hp3,?_,Nat.le_refl _⟩
 ·rw[C1w,F3t]
  have hset:∀x:PrS,x.ds.set 19 (.int (L.length:Nat))=PrS.ds {x with p:=.int (L.length:Nat)}:=fun _=>rfl
  simp only[HH,A1.H.a,PrS.rng,hset,PrS.C8n,hn.w,PrS.D9t,←hp1]
  exact n1
 ·have F1:Fr L (L++[D.agg (A0a.new ai).ds]) (Own a L.length s z l w m):=Fr.snoc L _ _
  exact(F1.trans (Fr.set _ a _ (.inl rfl))).trans F3
theorem H0t{i:Int}(h0:0≤i)(h1:i<pr.A3o.length):(pr.A3o.map Aim.d).getD i.toNat D.nil=.agg (atA pr.A3o i).ds:=by
 have hh:i.toNat<pr.A3o.length:=by omega
 unfold atA
 rw[List.getD_eq_getElem?_getD,List.getElem?_map,List.getElem?_eq_getElem hh,List.getD_eq_getElem?_getD,List.getElem?_eq_getElem hh];rfl
theorem H2g(hp:PP L q pr.p o)(hd:pr.draw=A4m z l)(ho:∀P,o=some P→P.ok)(hl:S.log.length≤1000000000)(hn:0≤pr.n∧pr.n≤100000)(ht:B0i ss po):
  ∃L' q' ptr,FX 141 [.int (a:Nat),.int (w:Nat),.agg L]=some [.bool (A1y pr o ss po S).b,.agg L']∧
   InA L' a s z l w m k {pr with p:=ptr,n:=(A1y pr o ss po S).n} se (A1y pr o ss po S).ss (A1y pr o ss po S).po (A1y pr o ss po S).S∧PP L' q' ptr (A1y pr o ss po S).o∧
   FrA L L' a q s z l w m∧(q'=q∨L.length≤q'):=by
 have n1:=F2o A h hp
 have hin:In (pr.n+1):=In.lit (by omega)
 have hlen:(pr.A3o.map Aim.d).length=pr.A3o.length:=List.length_map ..
 have hJ:∀J:List D→Option (List D),(if A4l o=true then J [.agg L,.bool (decide (pr.n<(pr.A3o.length:Int)))]else J [.agg L,.bool false])=J [.agg L,.bool (decide (A4l o=true∧pr.n<(pr.A3o.length:Int)))]:=by
  intro J
  cases A4l o<;>simp
 rw[C8t]
 simp only[HH,A.H.a,PrS.D5v,PrS.C8n,PrS.D0f,n1,hlen]
 rw[hJ,C1u]
 simp only[HH,A.H.a,PrS.C8n,PrS.D0f,PrS.H4e,hlen]
 unfold A1y
 by_cases c0:A4l o=true∧pr.n<(pr.A3o.length:Int)
 ·obtain⟨c1,c2⟩:=c0
  have j0:pr.n≥0:=hn.1
  have g1:=H0t A h hn.1 c2
  generalize atA pr.A3o pr.n=ai at*
  have e1:∀x y:D,(D.iface 111 (.agg [x,y])).isIf 111=true:=fun _ _=>by simp[D.isIf]
  have e2:∀x:D,(D.iface 151 x).isIf 151=true:=fun _=>by simp[D.isIf]
  have e3:∀x:D,(D.iface 25 x).isIf 25=true:=fun _=>by simp[D.isIf]
  have e4:∀(t:Nat) (x:D),(D.iface t x).inner=x:=fun _ _=>rfl
  rw[if_pos (⟨c1,c2⟩:A4l o=true∧pr.n<(pr.A3o.length:Int))]
  simp only[c1,c2,and_self,decide_true,if_true,j0,g1,HH,Aim.len,Aim.A1i,Aim.A1h,Aim.A1p,Aim.A1v,Aim.A1u]
  by_cases c3:ai.way=1
  ·have i3:(ai.way == 1)=true:=beq_iff_eq.2 c3
   rw[if_pos c3]
   obtain⟨L1,n2,A1,F1⟩:=G7h A ht
   have e5:((((0:Nat)+1+1:Nat):Int) == 2)=true:=rfl
   have F1':FrA L L1 a q s z l w m:=F1.mono fun b hb=>by
    unfold Own
    rcases hb with hb|hb
    ·exact .inr (.inr (.inr (.inl hb)))
    ·exact .inr (.inr (.inr (.inr (.inl hb))))
   simp only[i3,if_true,hd,A4m,e1,e2,e3,e4,e5,HH,D0u,n2]
   have fin:∀v:Aim,∃L' q' ptr,A4e (.int (a:Nat)) (.int (w:Nat)) (.agg L) (.agg L) (.bool true) (A4f (.int (a:Nat)) (.int (w:Nat)) (.agg L)) [.int v.way,.int v.x,.int v.gen,.int v.y,.int v.A3r,.agg L1]=some [.bool (A2d (pr.n+1) (some (A0a.new v)) (takeN ss po).2.1 (takeN ss po).2.2 S).b,.agg L']∧
     InA L' a s z l w m k {pr with p:=ptr,n:=(A2d (pr.n+1) (some (A0a.new v)) (takeN ss po).2.1 (takeN ss po).2.2 S).n} se (A2d (pr.n+1) (some (A0a.new v)) (takeN ss po).2.1 (takeN ss po).2.2 S).ss (A2d (pr.n+1) (some (A0a.new v)) (takeN ss po).2.1 (takeN ss po).2.2 S).po (A2d (pr.n+1) (some (A0a.new v)) (takeN ss po).2.1 (takeN ss po).2.2 S).S∧
     PP L' q' ptr (A2d (pr.n+1) (some (A0a.new v)) (takeN ss po).2.1 (takeN ss po).2.2 S).o∧FrA L L' a q s z l w m∧(q'=q∨L.length≤q'):=by
    intro v
    obtain⟨L2,q2,n3,A2,P2,F2,hq2⟩:=F6l A1 h v hl hin (.int (w:Nat)) (.agg L) (.agg L) (.bool true) (.agg L)
    refine⟨L2,q2,.int (q2:Nat),n3,?_,P2,?_,.inr (Nat.le_trans F1.1 hq2)⟩
    ·have hr:(A2d (pr.n+1) (some (A0a.new v)) (takeN ss po).2.1 (takeN ss po).2.2 S).n=pr.n+1∧(A2d (pr.n+1) (some (A0a.new v)) (takeN ss po).2.1 (takeN ss po).2.2 S).ss=(takeN ss po).2.1∧(A2d (pr.n+1) (some (A0a.new v)) (takeN ss po).2.1 (takeN ss po).2.2 S).po=(takeN ss po).2.2:=by
      unfold A2d
      dsimp only
      split<;>exact⟨rfl,rfl,rfl⟩
     rw[hr.1,hr.2.1,hr.2.2]
     exact A2
    ·refine F1'.trans ⟨F2.1,fun b hb hn=>F2.2 b hb fun ho=>hn ?_⟩
     unfold Own at ho⊢
     rcases ho with ho|ho|ho
     ·exact .inl ho
     ·omega
     ·exact .inr (.inr ho)
   simp only[hd,A4m]at fin
   cases hv:(takeN ss po).1 with
   |none=>
    simp only[Option.isSome_none,Bool.false_eq_true,if_false,E2t]
    exact fin ai
   |some v=>
    simp only[Option.isSome_some,if_true,E2t,Option.getD_some]
    exact fin {ai with y:=v}
  ·have i3:(ai.way == 1)=false:=beq_eq_false_iff_ne.2 c3
   rw[if_neg c3]
   simp only[i3,Bool.false_eq_true,if_false]
   obtain⟨L2,q2,n3,A2,P2,F2,hq2⟩:=F6l A h ai hl hin (.int (w:Nat)) (.agg L) (.agg L) (.bool true) (.agg L)
   refine⟨L2,q2,.int (q2:Nat),n3,?_,P2,?_,.inr hq2⟩
   ·have hr:(A2d (pr.n+1) (some (A0a.new ai)) ss po S).n=pr.n+1∧(A2d (pr.n+1) (some (A0a.new ai)) ss po S).ss=ss∧(A2d (pr.n+1) (some (A0a.new ai)) ss po S).po=po:=by
     unfold A2d
     dsimp only
     split<;>exact⟨rfl,rfl,rfl⟩
    rw[hr.1,hr.2.1,hr.2.2]
    exact A2
   ·refine⟨F2.1,fun b hb hn=>F2.2 b hb fun ho=>hn ?_⟩
    unfold Own at ho⊢
    rcases ho with ho|ho|ho
    ·exact .inl ho
    ·omega
    ·exact .inr (.inr ho)
 ·rw[if_neg c0]
  simp only[c0,decide_false,Bool.false_eq_true,if_false]
  obtain⟨L',n2,A2,P2,F2⟩:=F7q A h hp ho hl (.agg L)
  have hr:(A2d pr.n o ss po S).n=pr.n∧(A2d pr.n o ss po S).ss=ss∧(A2d pr.n o ss po S).po=po:=by
   unfold A2d
   cases o with
   |none=>exact⟨rfl,rfl,rfl⟩
   |some P=>dsimp only;split<;>exact⟨rfl,rfl,rfl⟩
  refine⟨L',q,pr.p,n2,?_,P2,F2,.inl rfl⟩
  rw[hr.1,hr.2.1,hr.2.2]
  exact A2
end
end
section
set_option linter.unusedSectionVars false
theorem B0c{α:Type}{x:α}{p:Prop}(h:some x=none):p:=by cases h
def PrS.at(pr:PrS)(p d:D):PrS:={pr with p:=p,draw:=d}
def Stp.at(x:Stp)(p d:D):Stp:={x with pr:=x.pr.at p d}
theorem G1k(x:Int)(pr:PrS)(se:A0k)(S:WS)(p d:D):A1s x (pr.at p d) se S=(A1s x pr se S).at p d:=by
 unfold A1s
 simp only[apply_ite (fun z=>Stp.at z p d)]
 rfl
theorem G8g(x:Int)(pr:PrS)(S:WS)(p d:D):A1f x (pr.at p d) S=((A1f x pr S).1,(A1f x pr S).2.1.at p d,(A1f x pr S).2.2):=by
 unfold A1f
 simp only[apply_ite (fun z:Bool × PrS × WS=>(z.1,z.2.1.at p d,z.2.2))]
 rfl
theorem G8j(x:Int)(pr:PrS)(se:A0k)(S:WS)(p d:D):A3j x (pr.at p d) se S=((A3j x pr se S).1.at p d,(A3j x pr se S).2):=by
 unfold A3j
 simp only[apply_ite (fun z:PrS × WS=>(z.1.at p d,z.2))]
 rfl
theorem G0x(x:Int)(pr:PrS)(se:A0k)(S:WS)(p d:D):A1n x (pr.at p d) se S=(A1n x pr se S).at p d:=by
 unfold A1n
 rw[G8j]
 simp only[apply_ite (fun z=>Stp.at z p d)]
 have e:(if(pr.at p d).done=0 then {pr.at p d with word:=S.word x,st:=A0i (S.word x)} else pr.at p d)=(if pr.done=0 then {pr with word:=S.word x,st:=A0i (S.word x)} else pr).at p d:=by
  rw[apply_ite (fun z=>PrS.at z p d)];rfl
 rw[e]
 rfl
theorem G8y(x:Int)(pr:PrS)(se:A0k)(S:WS)(p d:D):A2q x (pr.at p d) se S=(A2q x pr se S).at p d:=by
 unfold A2q
 simp only[apply_ite (fun z=>Stp.at z p d)]
 rfl
theorem G7b(pr:PrS)(se:A0k)(S:WS)(p d:D):A2k (pr.at p d) se S=(A2k pr se S).at p d:=by
 unfold A2k
 simp only[apply_ite (fun z=>Stp.at z p d)]
 rfl
theorem H1s(pr:PrS)(o:Option A0a)(ss:A0g)(po:A0d)(S:WS)(p d:D):A1y (pr.at p d) o ss po S=A1y pr o ss po S:=rfl
theorem F0h(pr:PrS)(S:WS)(c:Int)(p d:D):codeF (pr.at p d) S c=codeF pr S c:=rfl
structure StA where
 r:Option Rep
 pr:PrS
 o:Option A0a
 se:A0k
 ss:A0g
 po:A0d
 S:WS
def Stp.on(x:Stp)(o:Option A0a)(ss:A0g)(po:A0d):StA:=⟨x.r,x.pr,o,x.se,ss,po,x.S⟩
def B3j(x:Int)(pr:PrS)(se:A0k)(T:Tr):StA:=
 if T.b then⟨none,{pr with n:=T.n},T.o,se,T.ss,T.po,T.S⟩
 else if(A1f x {pr with n:=T.n} T.S).1 then⟨none,(A1f x {pr with n:=T.n} T.S).2.1,T.o,se,T.ss,T.po,(A1f x {pr with n:=T.n} T.S).2.2⟩
 else⟨some (codeF pr (A1f x {pr with n:=T.n} T.S).2.2 0),(A1f x {pr with n:=T.n} T.S).2.1,T.o,se,T.ss,T.po,(A1f x {pr with n:=T.n} T.S).2.2⟩
def B0l(x:Int)(pr:PrS)(o:Option A0a)(se:A0k)(ss:A0g)(po:A0d)(S:WS):StA:=
 if pr.pc<4 then(A1s x pr se S).on o ss po else B3j x pr se (A1y pr o ss po S)
def A3u(pr:PrS)(o:Option A0a)(se:A0k)(ss:A0g)(po:A0d)(S:WS):StA:=
 if pr.a.kind=1 then B0l (A0o S.c se.part pr.a.cell) pr o se ss po S
 else if pr.a.kind=2 then(A1n (A0o S.c se.part pr.a.cell) pr se S).on o ss po
 else if pr.a.kind=3 then(A2q (A0o S.c se.part pr.a.cell) pr se S).on o ss po
 else if pr.a.kind=4 then(A2k pr se S).on o ss po
 else⟨some (codeF pr S 6),pr,o,se,ss,po,S⟩
structure A4g(pr:PrS)(o:Option A0a)(se:A0k)(S:WS):Prop where
 word:pr.word<18446744073709551616
 st:pr.st.wf
 tm:pr.a.tm.wf
 at_:In pr.at_
 done:0≤pr.done∧pr.done≤3
 tries:0≤pr.tries∧pr.tries≤1000
 pc:0≤pr.pc∧pr.pc≤8
 n:0≤pr.n∧pr.n≤100
 A3o:pr.A3o.length≤100
 looks:(pr.looks.length:Int)≤pr.pc
 cell:pr.pc≠0→pr.a.kind=1∨pr.a.kind=2→0≤A0o S.c se.part pr.a.cell
 r0:pr.r0.k=1→(A6c se pr.a.cell).n<S.c.c5
 r1:pr.r1.D5t=true→(A6c se pr.a.cell).gen≤S.c.c6
 o:∀P,o=some P→P.ok
structure B6m(se:A0k)(c:Cf):Prop where
 ids:(se.ids.length:Int)=c.c1
 A9s:(se.A9s.length:Int)=c.c1
 A7j:(se.A7j.length:Int)=c.c1
 cur:∀x ∈ se.A7j,(0≤x.gen∧x.gen≤c.c6+1)∧0≤x.n∧x.n≤c.c5
theorem B6m.at_{se:A0k}{c:Cf}(h:B6m se c)(i:Int)(hc:c.ok):(0≤(A6c se i).gen∧(A6c se i).gen≤c.c6+1)∧0≤(A6c se i).n∧(A6c se i).n≤c.c5:=by
 have h1:=A9b hc
 have h2:=C2v hc
 unfold A6c
 rw[List.getD_eq_getElem?_getD]
 rcases Nat.lt_or_ge i.toNat se.A7j.length with hi|hi
 ·rw[List.getElem?_eq_getElem hi];exact h.cur _ (List.getElem_mem hi)
 ·rw[List.getElem?_eq_none hi];dsimp only[Option.getD_none];omega
structure InB(L:List D)(s z l w m k:Nat)(se:A0k)(ss:A0g)(po:A0d)(S:WS):Prop where
 W:InW L w m k S
 s:L.getD s D.nil=.agg se.ds
 z:L.getD z D.nil=.agg ss.ds
 l:L.getD l D.nil=.agg po.ds
theorem InA.B{L:List D}{a s z l w m k:Nat}{pr:PrS}{se:A0k}{ss:A0g}{po:A0d}{S:WS}(A:InA L a s z l w m k pr se ss po S):InB L s z l w m k se ss po S:=⟨A.H.W,A.H.s,A.z,A.l⟩
theorem B9y(r:Option Rep)(L:List D):(A0b (some (A5v r L)) 15 fun r4=>some [(r4.getD 0 D.nil),(r4.getD 1 D.nil),(r4.getD 2 D.nil),(r4.getD 3 D.nil),(r4.getD 4 D.nil),(r4.getD 5 D.nil),(r4.getD 6 D.nil),(r4.getD 7 D.nil),(r4.getD 8 D.nil),(r4.getD 9 D.nil),(r4.getD 10 D.nil),(r4.getD 11 D.nil),(r4.getD 12 D.nil),(r4.getD 13 D.nil),(r4.getD 14 D.nil)])=some (A5v r L):=by
 cases r<;>rfl
theorem G3k{pr:PrS}{o:Option A0a}{ss:A0g}{po:A0d}{S:WS}(h:S.ok)(ho:∀P,o=some P→P.ok):(A1y pr o ss po S).S.ok∧(A1y pr o ss po S).S.c=S.c∧((A1y pr o ss po S).b=false→(A1y pr o ss po S).S=S):=by
 have key:∀(n:Int) (o:Option A0a) (ss:A0g) (po:A0d),(∀P,o=some P→P.ok)→(A2d n o ss po S).S.ok∧(A2d n o ss po S).S.c=S.c∧((A2d n o ss po S).b=false→(A2d n o ss po S).S=S):=by
  intro n o ss po ho
  unfold A2d
  cases o with
  |none=>exact⟨h,rfl,fun _=>rfl⟩
  |some P=>
   dsimp only
   split
   ·exact⟨h,rfl,fun _=>rfl⟩
   ·have kk:=D0x h (ho P rfl)
    exact⟨kk.s,kk.c,fun hh=>nomatch hh⟩
 unfold A1y
 split
 ·split
  ·exact key _ _ _ _ fun P e=>by cases e;exact A0a.C0d _
  ·exact key _ _ _ _ fun P e=>by cases e;exact A0a.C0d _
 ·exact key _ _ _ _ ho
theorem G5w{S:WS}(h:S.ok)(x:Int)(pr:PrS):(A1f x pr S).2.2.ok:=by
 obtain⟨o1,_⟩:=S.B0f h x pr.word (A2z pr.st).2
 unfold A1f
 split
 ·exact h
 split
 ·exact h
 split
 ·exact h
 split
 ·exact h
 split
 ·exact h
 split
 ·exact WS.C2h o1 _
 ·exact h
theorem H1m(x:Int)(pr:PrS)(S:WS):(A1f x pr S).2.1.a=pr.a:=by
 unfold A1f
 split
 ·rfl
 split
 ·rfl
 split
 ·rfl
 split
 ·rfl
 split
 ·rfl
 split<;>rfl
section
variable{L:List D}{a s z l w m k q:Nat}{ptr:D}{pr:PrS}{se:A0k}{ss:A0g}{po:A0d}{S:WS}{o:Option A0a}
 (A:InA L a s z l w m k (pr.at ptr (A4m z l)) se ss po S) (hp:PP L q ptr o) (h:S.ok) (hk:A4g pr o se S) (hse:B6m se S.c) (hl:S.log.length≤1000000000) (ht:B0i ss po)
def G6k(L L':List D)(a q s z l w m k:Nat)(q':Nat)(ptr':D)(R:StA):Prop:=
 InB L' s z l w m k R.se R.ss R.po R.S∧(R.r=none→L'.getD a D.nil=.agg (R.pr.at ptr' (A4m z l)).ds∧PP L' q' ptr' R.o)∧FrA L L' a q s z l w m∧(q'=q∨L.length≤q')
include A hp
theorem E0m{L1:List D}{X:Stp}(H1:Hs L1 a s w m k (X.at ptr (A4m z l)).pr (X.at ptr (A4m z l)).se (X.at ptr (A4m z l)).S)(G:FrS L L1 a s w m):G6k L L1 a q s z l w m k q ptr (X.on o ss po):=by
 have A1:=A.step H1 G
 refine⟨A1.B,fun _=>⟨H1.a,hp.ext fun P hP=>?_⟩,.ofS G,.inl rfl⟩
 subst hP
 obtain⟨_,e2⟩:=hp
 obtain⟨d1,d2,d3⟩:=A.H.W.far e2 (by rw[A0a.len];decide) (by rw[A0a.len];decide) (by rw[A0a.len];decide)
 have d4:=A3k e2 A.H.a (by rw[A0a.len,PrS.len];decide)
 have d5:=A3k e2 A.H.s (by rw[A0a.len,A0k.len];decide)
 exact G.2 q (A2j e2) (by simp only[d1,d2,d4,d5,or_self,not_false_iff])
include h hk hse hl ht
theorem F9u(hkd:pr.a.kind=1):∃L' q' ptr',FX 122 [.int (a:Nat),.int (w:Nat),.int (s:Nat),.agg L]=some (A5v (B0l (A0o S.c se.part pr.a.cell) pr o se ss po S).r L')∧G6k L L' a q s z l w m k q' ptr' (B0l (A0o S.c se.part pr.a.cell) pr o se ss po S):=by
 have n0:=E0i h se.part pr.a.cell
 have hx:=E4y h.c se.part pr.a.cell
 have hcb:0≤A0o S.c se.part pr.a.cell→0≤pr.a.cell∧pr.a.cell<S.c.c1:=fun hh=>(D3s S.c hh).2.1
 have hcell:=hk.cell
 have i1:=hse.ids
 have i2:=hse.A9s
 rw[C4k]
 simp only[HH,A.H.a,A.H.s,A.H.W.w,A0f.all,PrS.A1p,PrS.A6z,A0k.A1i]
 have e0:(pr.at ptr (A4m z l)).a.cell=pr.a.cell:=rfl
 have e1:(pr.at ptr (A4m z l)).pc=pr.pc:=rfl
 rw[e0,e1,n0]
 simp only[HH]
 generalize hxx:A0o S.c se.part pr.a.cell=x at*
 unfold B0l
 by_cases c0:pr.pc<4
 ·rw[if_pos c0]
  simp only[c0,decide_true,if_true]
  have hb:=G2y A.H h (In.lit (by have:=hk.pc;rw[e1];omega)) hl x hx hk.st hk.tm (fun e3=>by
   rw[e1]at e3
   have h1:=hcell (by omega) (.inl hkd)
   have h2:=hcb (by omega)
   rw[e0]
   omega)
  rw[G1k]at hb
  obtain⟨L1,n1,H1,G1⟩:=hb
  have hr:((A1s x pr se S).at ptr (A4m z l)).r=(A1s x pr se S).r:=rfl
  rw[hr]at n1
  rw[n1,B9y]
  exact⟨L1,q,ptr,rfl,E0m A hp H1 G1⟩
 ·rw[if_neg c0]
  simp only[c0,decide_false,Bool.false_eq_true,if_false]
  have htr:=H2g (pr:=pr.at ptr (A4m z l)) A h hp rfl hk.o hl (by have:=hk.n;exact⟨this.1,Int.le_trans this.2 (by decide)⟩) ht
  rw[H1s]at htr
  obtain⟨L1,q1,p1,n1,A1,P1,F1,hq1⟩:=htr
  have hT:(A1y pr o ss po S).S.ok∧(A1y pr o ss po S).S.c=S.c∧((A1y pr o ss po S).b=false→(A1y pr o ss po S).S=S):=G3k h hk.o
  generalize A1y pr o ss po S=T at*
  obtain⟨t1,t2,t3⟩:=hT
  rw[n1]
  simp only[HH]
  unfold B3j
  by_cases c1:T.b=true
  ·rw[if_pos c1]
   simp only[c1,if_true]
   exact⟨L1,q1,p1,rfl,A1.B,fun _=>⟨A1.H.a,P1⟩,F1,hq1⟩
  ·rw[if_neg c1]
   have c1':T.b=false:=by simpa using c1
   have t4:=t3 c1'
   have hre:=G7w (pr:=PrS.at {pr with n:=T.n} p1 (A4m z l)) A1.H t1 (by rw[t4];exact hl) x hx hk.st hk.word hk.tries
   rw[G8g]at hre
   obtain⟨L2,n2,H2,G2⟩:=hre
   have hq2:PP L2 q1 p1 T.o:=by
    refine P1.ext fun P hP=>?_
    rw[hP]at P1
    obtain⟨_,e2⟩:=P1
    obtain⟨d1,d2,d3⟩:=A1.H.W.far e2 (by rw[A0a.len];decide) (by rw[A0a.len];decide) (by rw[A0a.len];decide)
    have d4:=A3k e2 A1.H.a (by rw[A0a.len,PrS.len];decide)
    have d5:=A3k e2 A1.H.s (by rw[A0a.len,A0k.len];decide)
    exact G2.2 q1 (A2j e2) (by simp only[d1,d2,d4,d5,or_self,not_false_iff])
   have A2:=A1.step H2 G2
   have F2:FrA L L2 a q s z l w m:=F1.trans (FrA.ofS G2)
   have cR:=F0h (A1f x {pr with n:=T.n} T.S).2.1 (A1f x {pr with n:=T.n} T.S).2.2 0 p1 (A4m z l)
   have okR:(A1f x {pr with n:=T.n} T.S).2.2.ok:=G5w t1 _ _
   have aR:(A1f x {pr with n:=T.n} T.S).2.1.a=pr.a:=H1m _ _ _
   simp only[c1',Bool.false_eq_true,if_false,n2,HH]
   generalize A1f x {pr with n:=T.n} T.S=R at*
   by_cases c2:R.1=true
   ·rw[if_pos c2]
    simp only[c2,if_true]
    exact⟨L2,q1,p1,rfl,A2.B,fun _=>⟨H2.a,hq2⟩,F2,hq1⟩
   ·rw[if_neg c2]
    have c2':R.1=false:=by simpa using c2
    have hcd:=B3p H2 okR 0
    have eC:codeF pr R.2.2 0=codeF R.2.1 R.2.2 0:=by unfold codeF;rw[aR]
    simp only[c2',Bool.false_eq_true,if_false,hcd,C2d,cR,eC]
    exact⟨L2,q1,p1,rfl,A2.B,fun hh=>B0c hh,F2,hq1⟩
theorem G2p:∃L' q' ptr',FX 113 [.int (a:Nat),.int (w:Nat),.int (s:Nat),.agg L]=some (A5v (A3u pr o se ss po S).r L')∧G6k L L' a q s z l w m k q' ptr' (A3u pr o se ss po S):=by
 have hcb:0≤A0o S.c se.part pr.a.cell→0≤pr.a.cell∧pr.a.cell<S.c.c1:=fun hh=>(D3s S.c hh).2.1
 have hcell:=hk.cell
 have i1:=hse.ids
 have i2:=hse.A9s
 have i3:=hse.A7j
 have e0:(pr.at ptr (A4m z l)).a=pr.a:=rfl
 have e1:(pr.at ptr (A4m z l)).pc=pr.pc:=rfl
 have hpc:In ((pr.at ptr (A4m z l)).pc+1):=In.lit (by have:=hk.pc;rw[e1];omega)
 rw[C7m]
 simp only[HH,A.H.a,PrS.A1i]
 rw[e0]
 unfold A3u
 by_cases c1:pr.a.kind=1
 ·have j1:(pr.a.kind == 1)=true:=beq_iff_eq.2 c1
  rw[if_pos c1]
  obtain⟨L1,q1,p1,n1,d1⟩:=F9u A hp h hk hse hl ht c1
  simp only[j1,if_true,n1,B9y]
  exact⟨L1,q1,p1,rfl,d1⟩
 have j1:(pr.a.kind == 1)=false:=beq_eq_false_iff_ne.2 c1
 rw[if_neg c1]
 simp only[j1,Bool.false_eq_true,if_false]
 by_cases c2:pr.a.kind=2
 ·have j2:(pr.a.kind == 2)=true:=beq_iff_eq.2 c2
  rw[if_pos c2]
  have hb:=F8k A.H h hpc hl hk.st hk.word hk.at_ hk.done (fun e3=>by
   have h1:=hcell e3 (.inr c2)
   have h2:=hcb h1
   rw[e0]
   omega)
  rw[e0,G0x]at hb
  obtain⟨L1,n1,H1,G1⟩:=hb
  have hr:((A1n (A0o S.c se.part pr.a.cell) pr se S).at ptr (A4m z l)).r=(A1n (A0o S.c se.part pr.a.cell) pr se S).r:=rfl
  rw[hr]at n1
  simp only[j2,if_true,n1,B9y]
  exact⟨L1,q,ptr,rfl,E0m A hp H1 G1⟩
 have j2:(pr.a.kind == 2)=false:=beq_eq_false_iff_ne.2 c2
 rw[if_neg c2]
 simp only[j2,Bool.false_eq_true,if_false]
 by_cases c3:pr.a.kind=3
 ·have j3:(pr.a.kind == 3)=true:=beq_iff_eq.2 c3
  rw[if_pos c3]
  have hcu:=hse.at_ pr.a.cell h.c
  have hf:=A9b h.c
  have hg:=C2v h.c
  have hb:=G5f A.H h hpc (fun e3=>by rw[e0];rw[e0]at e3;have:=hcb e3;omega) (In.lit (by rw[e0];omega)) (In.lit (by rw[e0];omega))
  rw[e0,G8y]at hb
  obtain⟨L1,n1,H1,G1⟩:=hb
  have hr:((A2q (A0o S.c se.part pr.a.cell) pr se S).at ptr (A4m z l)).r=(A2q (A0o S.c se.part pr.a.cell) pr se S).r:=rfl
  rw[hr]at n1
  simp only[j3,if_true,n1,B9y]
  exact⟨L1,q,ptr,rfl,E0m A hp H1 G1⟩
 have j3:(pr.a.kind == 3)=false:=beq_eq_false_iff_ne.2 c3
 rw[if_neg c3]
 simp only[j3,Bool.false_eq_true,if_false]
 by_cases c4:pr.a.kind=4
 ·have j4:(pr.a.kind == 4)=true:=beq_iff_eq.2 c4
  rw[if_pos c4]
  have hlk:=hk.looks
  have hpc0:=hk.pc
  have hb:=G7a A.H h hpc (by show pr.looks.length≤1000;omega) hpc0.1
  rw[G7b]at hb
  obtain⟨L1,n1,H1,W1,s1,G1⟩:=hb
  have hr:((A2k pr se S).at ptr (A4m z l)).r=(A2k pr se S).r:=rfl
  rw[hr]at n1 H1
  simp only[j4,if_true,n1,B9y]
  have vS:(A2k pr se S).S=S∧(A2k pr se S).se=se:=by
   unfold A2k
   split
   ·exact⟨rfl,rfl⟩
   ·split<;>exact⟨rfl,rfl⟩
  obtain⟨h1,h2,h3,h4,h5,h6⟩:=A.fz
  obtain⟨g1,g2,g3,g4,g5⟩:=A.fl
  refine⟨L1,q,ptr,rfl,?_,fun hh=>?_,.ofS G1,.inl rfl⟩
  ·show InB L1 s z l w m k (A2k pr se S).se ss po (A2k pr se S).S
   rw[vS.1,vS.2]
   exact⟨W1,s1,G1.get A.z (by simp only[h1,h2,h3,h4,or_self,not_false_iff]),G1.get A.l (by simp only[g1,g2,g3,g4,or_self,not_false_iff])⟩
  ·exact(E0m A hp (X:=A2k pr se S) (H1 hh) G1).2.1 hh
 ·have j4:(pr.a.kind == 4)=false:=beq_eq_false_iff_ne.2 c4
  rw[if_neg c4]
  have hcd:=B3p A.H h 6
  rw[F0h]at hcd
  simp only[j4,Bool.false_eq_true,if_false,hcd,C2d]
  exact⟨L,q,ptr,rfl,A.B,fun hh=>B0c hh,Fr.refl _ _,.inl rfl⟩
end
end
end Go.Proofs.YtngflpppkicnaaaGreat.P
