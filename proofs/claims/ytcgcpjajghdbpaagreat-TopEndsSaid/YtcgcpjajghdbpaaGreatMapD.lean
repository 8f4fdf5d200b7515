import Derived.Test.YtcgcpjajghdbpaaGreatDat
namespace Go.Proofs.YtcgcpjajghdbpaaGreat.MapD
open Go.Proofs.YtcgcpjajghdbpaaGreat.Eng Go.Proofs.YtcgcpjajghdbpaaGreat
set_option linter.unusedVariables false
set_option linter.unusedSimpArgs false
section
variable{α:Type}[DecidableEq α](f:α→D)(ks:List Nat)
def ent(p:α × D):D:=.agg [f p.1,p.2]
def ents(l:List (α × D)):List D:=l.map (ent f)
def val:List (α × D)→α→Option D
 |[],_=>none
 |p::l,k=>if k=p.1 then some p.2 else val l k
def put:List (α × D)→α→D→List (α × D)
 |[],k,v=>[(k,v)]
 |p::l,k,v=>if k=p.1 then(k,v)::l else p::put l k v
variable{f ks}
theorem mget_ents(hf:∀a b,keq ks (f a) (f b)=decide (a=b)):∀(l:List (α × D)) (k:α) (z:D),mgetD ks (ents f l) (f k) z=(val l k).getD z
 |[],k,z=>rfl
 |p::l,k,z=>by
  show mgetD ks (ent f p::ents f l) (f k) z=_
  rw[A5x]
  simp only[ent,D.toL_agg,List.getD_cons_zero,List.getD_cons_succ,hf,decide_eq_true_eq,val]
  split
  ·rfl
  ·exact mget_ents hf l k z
theorem mput_ents(hf:∀a b,keq ks (f a) (f b)=decide (a=b)):∀(l:List (α × D)) (k:α) (v:D),mputD ks (ents f l) (f k) v=ents f (put l k v)
 |[],k,v=>rfl
 |p::l,k,v=>by
  show mputD ks (ent f p::ents f l) (f k) v=_
  rw[C5w]
  simp only[ent,D.toL_agg,List.getD_cons_zero,hf,decide_eq_true_eq,put]
  split
  ·rfl
  ·rw[mput_ents hf l k v];rfl
theorem val_put:∀(l:List (α × D)) (k k':α) (v:D),val (put l k v) k'=if k'=k then some v else val l k'
 |[],k,k',v=>rfl
 |p::l,k,k',v=>by
  simp only[put]
  by_cases h:k=p.1
  ·rw[if_pos h]
   simp only[val]
   by_cases e:k'=k
   ·rw[if_pos e,if_pos e]
   ·rw[if_neg e,if_neg e,if_neg (by rw[←h];exact e)]
  ·rw[if_neg h]
   simp only[val]
   by_cases e:k'=p.1
   ·rw[if_pos e,if_neg (by rw[e];exact fun q=>h q.symm),if_pos e]
   ·rw[if_neg e,val_put l k k' v,if_neg e]
end
theorem keq_pair(a b:Int × Int):keq [0,0] (.agg [.int a.1,.int a.2]) (.agg [.int b.1,.int b.2])=decide (a=b):=by
 obtain⟨a1,a2⟩:=a
 obtain⟨b1,b2⟩:=b
 simp only[keq,keqL,kcell,cellOf,List.length_cons,List.length_nil,Bool.and_true]
 simp only[show ¬(0+1+1:Nat)=1 by decide,if_false,D.toL_agg,List.getD_cons_zero,List.getD_cons_succ,D.toInt_int]
 by_cases h1:a1=b1<;>by_cases h2:a2=b2<;>simp[h1,h2]
end Go.Proofs.YtcgcpjajghdbpaaGreat.MapD
