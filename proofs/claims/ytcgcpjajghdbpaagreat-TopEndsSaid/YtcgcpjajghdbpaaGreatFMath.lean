import Derived.Laws.BitsAllLaws
namespace Go.Proofs.YtcgcpjajghdbpaaGreat
set_option linter.unusedVariables false
set_option linter.unusedSimpArgs false
def GoodW(ws:List Nat):Prop:=(∀w ∈ ws,1≤w∧w≤32)∧ws.sum≤64
def lowN(ws:List Nat)(i:Nat):Nat:=(ws.take i).sum
def getN(ws:List Nat)(x i:Nat):Nat:=x/2 ^ lowN ws i%2 ^ ws.getD i 0
def packN:List Nat→List Nat→Nat
 |w::ws,v::vs=>v+2 ^ w*packN ws vs
 |_,_=>0
def fieldsN:List Nat→Nat→List Nat
 |[],_=>[]
 |w::ws,x=>x%2 ^ w::fieldsN ws (x/2 ^ w)
def Fits:List Nat→List Nat→Prop
 |[],[]=>True
 |w::ws,v::vs=>v<2 ^ w∧Fits ws vs
 |_,_=>False
theorem B3f:∀(ws:List Nat) (x:Nat),(fieldsN ws x).length=ws.length
 |[],_=>rfl
 |w::ws,x=>by simp[fieldsN,B3f ws]
theorem C3e:∀{ws vs:List Nat},Fits ws vs→packN ws vs<2 ^ ws.sum
 |[],[],_=>by simp[packN]
 |w::ws,v::vs,h=>by
  simp only[packN,List.sum_cons,Nat.pow_add]
  have h1:=C3e h.2
  have h2:=h.1
  calc v+2 ^ w*packN ws vs<2 ^ w+2 ^ w*packN ws vs:=by omega
   _=2 ^ w*(packN ws vs+1):=by rw[Nat.mul_add,Nat.mul_one,Nat.add_comm]
   _≤2 ^ w*2 ^ ws.sum:=Nat.mul_le_mul_left _ h1
theorem B9q:∀{ws vs:List Nat},Fits ws vs→fieldsN ws (packN ws vs)=vs
 |[],[],_=>rfl
 |w::ws,v::vs,h=>by
  have h1:=B9q h.2
  have h2:=h.1
  simp only[packN,fieldsN]
  rw[Nat.add_mul_mod_self_left,Nat.mod_eq_of_lt h2,Nat.add_mul_div_left _ _ (Nat.two_pow_pos w),Nat.div_eq_of_lt h2,Nat.zero_add,h1]
theorem C5a(w:Nat)(ws:List Nat)(i:Nat):lowN (w::ws) (i+1)=w+lowN ws i:=by simp[lowN]
theorem B1l(ws:List Nat)(i:Nat)(h:i<ws.length):lowN ws (i+1)=lowN ws i+ws[i]:=by
 unfold lowN
 rw[List.take_succ_eq_append_getElem h,List.sum_append]
 simp
theorem D2f(ws:List Nat)(i:Nat):lowN ws i≤ws.sum:=by
 unfold lowN
 have h:ws.sum=(ws.take i).sum+(ws.drop i).sum:=by rw[←List.sum_append,List.take_append_drop]
 omega
theorem B9p:∀(ws:List Nat) (x i:Nat) (h:i<ws.length),getN ws x i=(fieldsN ws x)[i]'(by rw[B3f];exact h)
 |w::ws,x,0,_=>by simp[getN,fieldsN,lowN]
 |w::ws,x,i+1,h=>by
  have hi:i<ws.length:=by simpa using h
  have:=B9p ws (x/2 ^ w) i hi
  simp only[fieldsN,List.getElem_cons_succ]
  rw[←this]
  unfold getN
  rw[C5a,Nat.pow_add,Nat.div_div_eq_div_mul]
  rfl
def packTo(ws vs:List Nat)(k:Nat):Nat:=packN (ws.take k) (vs.take k)
theorem D6i{ws vs:List Nat}(k:Nat)(h:Fits (ws.take k) (vs.take k)):packTo ws vs k<2 ^ lowN ws k:=C3e h
theorem B9j:∀(ws vs:List Nat) (k:Nat) (hw:k<ws.length) (hv:k<vs.length),packTo ws vs (k+1)=packTo ws vs k+vs[k]*2 ^ lowN ws k
 |w::ws,v::vs,0,_,_=>by simp[packTo,packN,lowN]
 |w::ws,v::vs,k+1,hw,hv=>by
  have ih:=B9j ws vs k (by simpa using hw) (by simpa using hv)
  unfold packTo at ih⊢
  simp only[List.take_succ_cons,packN,List.getElem_cons_succ]at ih⊢
  rw[ih,C5a,Nat.pow_add,Nat.mul_add,←Nat.add_assoc]
  congr 1
  rw[←Nat.mul_assoc,←Nat.mul_assoc,Nat.mul_comm (2 ^ w)]
theorem D3q{ws vs:List Nat}(h:vs.length=ws.length):packTo ws vs ws.length=packN ws vs:=by
 unfold packTo
 rw[List.take_length,←h,List.take_length]
theorem E3w(a v k:Nat)(h:a<2 ^ k):a ||| v*2 ^ k=a+v*2 ^ k:=by
 rw[Nat.or_comm,nat_join k _ _ (Nat.mul_mod_left _ _) h,Nat.add_comm]
theorem C2f(n m:Nat)(h:n≤m):2 ^ n≤2 ^ m:=Nat.pow_le_pow_right (by decide) h
theorem B4n{ws:List Nat}(h:GoodW ws)(i:Nat)(hi:i<ws.length):1≤ws[i]∧ws[i]≤32∧lowN ws i+ws[i]≤64:=by
 have h1:=h.1 _ (List.getElem_mem hi)
 have h2:=B1l ws i hi
 have h3:=D2f ws (i+1)
 have h4:=h.2
 omega
theorem B4d{ws:List Nat}(h:GoodW ws)(i:Nat):lowN ws i≤64:=Nat.le_trans (D2f ws i) h.2
theorem D0g{ws:List Nat}(h:GoodW ws):ws.length≤64:=by
 have:∀l:List Nat,(∀w ∈ l,1≤w∧w≤32)→l.length≤l.sum:=by
  intro l
  induction l with
  |nil=>intro _;simp
  |cons a r ih=>
   intro hl
   have h1:=ih (fun w hw=>hl w (List.mem_cons_of_mem _ hw))
   have h2:=hl a List.mem_cons_self
   simp only[List.length_cons,List.sum_cons]
   omega
 exact Nat.le_trans (this ws h.1) h.2
end Go.Proofs.YtcgcpjajghdbpaaGreat
