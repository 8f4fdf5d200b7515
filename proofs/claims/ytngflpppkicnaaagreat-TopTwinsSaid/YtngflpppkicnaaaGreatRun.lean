import Derived.Test.YtngflpppkicnaaaGreatEngX
namespace Go.Proofs.YtngflpppkicnaaaGreat.Eng
set_option linter.unusedVariables false
set_option linter.unusedSimpArgs false
abbrev O:=Option (List D)
def roN(n:Nat)(k:Nat→O):O:=match n with|0=>k 0|m+1=>k (m+1)
theorem roN_eq(n:Nat)(k:Nat→O):roN n k=k n:=by cases n<;>rfl
def roI(n:Int)(k:Int→O):O:=match n with|.ofNat m=>roN m fun m=>k (.ofNat m)|.negSucc m=>roN m fun m=>k (.negSucc m)
theorem roI_eq(n:Int)(k:Int→O):roI n k=k n:=by cases n<;>simp only[roI,roN_eq]
def roL{α:Type}(f:α→(α→O)→O):List α→(List α→O)→O
 |[],k=>k []
 |x::xs,k=>f x fun x'=>roL f xs fun xs'=>k (x'::xs')
theorem roL_eq{α:Type}{f:α→(α→O)→O}(hf:∀x k,f x k=k x):∀(l:List α) (k:List α→O),roL f l k=k l
 |[],k=>rfl
 |x::xs,k=>by simp only[roL,hf,roL_eq hf xs]
def roD:Nat→D→(D→O)→O
 |0,d,k=>k d
 |n+1,.int x,k=>roI x fun x=>k (.int x)
 |n+1,.bool true,k=>k (.bool true)
 |n+1,.bool false,k=>k (.bool false)
 |n+1,.str s,k=>k (.str s)
 |n+1,.agg l,k=>roL (roD n) l fun l=>k (.agg l)
 |n+1,.iface t d,k=>roN t fun t=>roD n d fun d=>k (.iface t d)
 |n+1,.nil,k=>k .nil
theorem roD_eq:∀(n:Nat) (d:D) (k:D→O),roD n d k=k d
 |0,d,k=>rfl
 |n+1,.int x,k=>by simp only[roD,roI_eq]
 |n+1,.bool true,k=>rfl
 |n+1,.bool false,k=>rfl
 |n+1,.str s,k=>rfl
 |n+1,.agg l,k=>by simp only[roD,roL_eq (roD_eq n)]
 |n+1,.iface t d,k=>by simp only[roD,roN_eq,roD_eq n]
 |n+1,.nil,k=>rfl
def roDs(l:List D)(k:List D→O):O:=roL (roD 12) l k
theorem roDs_eq(l:List D)(k:List D→O):roDs l k=k l:=roL_eq (roD_eq 12) l k
def eqL{α:Type}(f:α→α→Bool):List α→List α→Bool
 |[],[]=>true
 |x::xs,y::ys=>f x y&&eqL f xs ys
 |_,_=>false
theorem eqL_eq{α:Type}{f:α→α→Bool}(hf:∀x y,f x y=true→x=y):∀{l m:List α},eqL f l m=true→l=m
 |[],[],_=>rfl
 |x::xs,y::ys,h=>by
  simp only[eqL,Bool.and_eq_true]at h
  rw[hf x y h.1,eqL_eq hf h.2]
 |[],_::_,h=>by cases h
 |_::_,[],h=>by cases h
def eqD:Nat→D→D→Bool
 |0,_,_=>false
 |n+1,.int x,.int y=>decide (x=y)
 |n+1,.bool x,.bool y=>decide (x=y)
 |n+1,.str x,.str y=>decide (x.data=y.data)
 |n+1,.agg l,.agg m=>eqL (eqD n) l m
 |n+1,.iface t d,.iface u e=>decide (t=u)&&eqD n d e
 |n+1,.nil,.nil=>true
 |_,_,_=>false
theorem eqD_eq:∀(n:Nat) (x y:D),eqD n x y=true→x=y:=by
 intro n
 induction n with
 |zero=>intro x y h;cases h
 |succ n ih=>
  intro x y h
  cases x<;>cases y<;>first|(simp only[eqD,decide_eq_true_eq]at h;subst h;rfl)|(cases h;done)|skip
  ·rename_i s t
   simp only[eqD,decide_eq_true_eq]at h
   cases s;cases t;simp only at h;rw[h]
  ·simp only[eqD]at h
   rw[eqL_eq ih h]
  ·simp only[eqD,Bool.and_eq_true,decide_eq_true_eq]at h
   obtain⟨rfl,h⟩:=h
   rw[ih _ _ h]
  ·rfl
abbrev Kn:=List D→(List D→O)→O
def loopC(G:Kn→Kn):Nat→Kn
 |0=>fun _ _=>none
 |n+1=>G (loopC G n)
def evC(Fs:Nat→Kn)(fuel:Nat):T→List Kn→List D→(List D→O)→O
 |.ret es,_,ρ,k=>roDs (es.map (den ρ)) k
 |.ite c a b,L,ρ,k=>match (den ρ c).toBool with|true=>evC Fs fuel a L ρ k|false=>evC Fs fuel b L ρ k
 |.need c t,L,ρ,k=>match (den ρ c).toBool with|true=>evC Fs fuel t L ρ k|false=>none
 |.call f args m t,L,ρ,k=>roDs (args.map (den ρ)) fun ds=>Fs f ds fun r=>match decide (r.length=m)with|true=>evC Fs fuel t L (ρ++r) k|false=>none
 |.any a b,L,ρ,k=>evC Fs fuel a L ρ fun r=>evC Fs fuel b L ρ fun q=>match eqL (eqD 12) r q with|true=>k r|false=>none
 |.loop es body,L,ρ,k=>roDs (es.map (den ρ)) fun ds=>loopC (fun g xs k=>evC Fs fuel body (L++[g]) (ρ++xs) k) fuel ds k
 |.again l es,L,ρ,k=>match L[l]? with
  |some g=>roDs (es.map (den ρ)) fun ds=>g ds k
  |none=>none
 |.jp body t,L,ρ,k=>evC Fs fuel t (L++[fun xs k=>evC Fs fuel body L (ρ++xs) k]) ρ k
 |.fail _,_,_,_=>none
 |.stop _,_,_,_=>none
def KnOk(g:Kn)(f:Eng.Fn):Prop:=∀xs k r,g xs k=some r→∃q,f xs=some q∧k q=some r
theorem loopC_ok{G:Kn→Kn}{H:Eng.Fn→Eng.Fn}(h:∀g f,KnOk g f→KnOk (G g) (H f)):∀n,KnOk (loopC G n) (loopN H n)
 |0=>fun xs k r h=>by cases h
 |n+1=>h _ _ (loopC_ok h n)
def KnL(L:List Kn)(M:List Eng.Fn):Prop:=L.length=M.length∧∀(i:Nat) (g:Kn) (f:Eng.Fn),L[i]?=some g→M[i]?=some f→KnOk g f
theorem KnL.snoc{L:List Kn}{M:List Eng.Fn}(h:KnL L M){g:Kn}{f:Eng.Fn}(hg:KnOk g f):KnL (L++[g]) (M++[f]):=by
 refine⟨by simp[h.1],fun i a b ha hb=>?_⟩
 rcases Nat.lt_trichotomy i L.length with hi|hi|hi
 ·rw[List.getElem?_append_left hi]at ha
  rw[List.getElem?_append_left (by rw[←h.1];exact hi)]at hb
  exact h.2 i a b ha hb
 ·subst hi
  rw[List.getElem?_append_right (Nat.le_refl _),Nat.sub_self]at ha
  rw[List.getElem?_append_right (by rw[h.1];exact Nat.le_refl _),←h.1,Nat.sub_self]at hb
  cases ha;cases hb;exact hg
 ·rw[List.getElem?_eq_none (by simp;omega)]at ha
  cases ha
theorem evC_ok{Fs:Nat→Kn}{Gs:Nat→Eng.Fn}(hF:∀f,KnOk (Fs f) (Gs f)){n:Nat}:∀(t:T) {L:List Kn} {M:List Eng.Fn} {ρ:List D},KnL L M→∀k r,evC Fs n t L ρ k=some r→∃q,eval Gs n t M ρ=some q∧k q=some r:=by
 intro t
 induction t with
 |ret es=>intro L M ρ hL k r h;simp only[evC,roDs_eq]at h;exact⟨_,rfl,h⟩
 |ite c a b iha ihb=>
  intro L M ρ hL k r h
  simp only[evC]at h
  simp only[eval]
  split at h
  ·rename_i hc;rw[hc];simp only[if_true];exact iha hL k r h
  ·rename_i hc;rw[hc];simp only[Bool.false_eq_true,if_false];exact ihb hL k r h
 |need c t ih=>
  intro L M ρ hL k r h
  simp only[evC]at h
  simp only[eval]
  split at h
  ·rename_i hc;rw[hc];simp only[if_true];exact ih hL k r h
  ·cases h
 |call f args m t ih=>
  intro L M ρ hL k r h
  simp only[evC,roDs_eq]at h
  obtain⟨q,h1,h2⟩:=hF f _ _ _ h
  simp only[eval,h1]
  split at h2
  ·rename_i hm
   rw[if_pos (of_decide_eq_true hm)]
   exact ih hL k r h2
  ·cases h2
 |any a b iha ihb=>
  intro L M ρ hL k r h
  simp only[evC]at h
  obtain⟨q,h1,h2⟩:=iha hL _ _ h
  obtain⟨p,h3,h4⟩:=ihb hL _ _ h2
  split at h4
  ·rename_i he
   have:=eqL_eq (eqD_eq 12) he
   subst this
   exact⟨q,by simp only[eval];exact both_mk h1 h3,h4⟩
  ·cases h4
 |loop es body ih=>
  intro L M ρ hL k r h
  simp only[evC,roDs_eq]at h
  simp only[eval]
  exact loopC_ok (G:=fun g xs k=>evC Fs n body (L++[g]) (ρ++xs) k) (H:=fun g xs=>eval Gs n body (M++[g]) (ρ++xs)) (fun g f hg xs k r q=>ih (hL.snoc hg) k r q) n _ k r h
 |again l es=>
  intro L M ρ hL k r h
  simp only[evC]at h
  simp only[eval]
  split at h
  ·rename_i g hg
   rw[roDs_eq]at h
   have hlt:=(List.getElem?_eq_some_iff.1 hg).1
   have hm:M[l]?=some (M[l]'(by rw[←hL.1];exact hlt)):=List.getElem?_eq_getElem _
   rw[hm]
   exact hL.2 l _ _ hg hm _ _ _ h
  ·cases h
 |jp body t ihb iht=>
  intro L M ρ hL k r h
  simp only[evC]at h
  simp only[eval]
  exact iht (hL.snoc (fun xs k r q=>ihb hL k r q)) k r h
 |fail w=>intro L M ρ hL k r h;cases h
 |stop w=>intro L M ρ hL k r h;cases h
section
variable(prog:List (Nat × T))
def tabC:Nat→Nat→Kn
 |0=>fun _ _ _=>none
 |n+1=>fun f ds k=>match prog.lookup f with|some t=>evC (tabC n) n t [] ds k|none=>none
variable{prog}
theorem tabC_ok(base:Nat→Eng.Fn):∀n f,KnOk (tabC prog n f) (tab base prog n f)
 |0,f=>fun xs k r h=>by cases h
 |n+1,f=>fun xs k r h=>by
  simp only[tabC]at h
  split at h
  ·rename_i t ht
   simp only[tab,ht]
   exact evC_ok (tabC_ok base n) t ⟨rfl,fun i g f h=>by cases h⟩ k r h
  ·cases h
theorem fix_runK{base:Nat→Eng.Fn}(n:Nat){f:Nat}{ds r:List D}{k:List D→O}(h:tabC prog n f ds k=some r):∃q,Fix base prog f ds=some q∧k q=some r:=by
 obtain⟨q,h1,h2⟩:=tabC_ok base n f ds k r h
 exact⟨q,(lim_some (c:=fun n=>tab base prog n f) (fun n m h=>tab_chain base prog n m h f)).2 ⟨n,h1⟩,h2⟩
theorem fix_run{base:Nat→Eng.Fn}(n:Nat){f:Nat}{ds r:List D}(h:tabC prog n f ds some=some r):Fix base prog f ds=some r:=by
 obtain⟨q,h1,h2⟩:=tabC_ok base n f ds some r h
 cases h2
 exact(lim_some (c:=fun n=>tab base prog n f) (fun n m h=>tab_chain base prog n m h f)).2 ⟨n,h1⟩
end
end Go.Proofs.YtngflpppkicnaaaGreat.Eng
