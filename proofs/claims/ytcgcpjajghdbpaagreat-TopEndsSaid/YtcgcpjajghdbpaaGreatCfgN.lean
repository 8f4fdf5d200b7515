import Derived.Test.YtcgcpjajghdbpaaGreatAllE
import Derived.Test.YtcgcpjajghdbpaaGreatDat
namespace Go.Proofs.YtcgcpjajghdbpaaGreat.RU
open Go.RowKit Go.Proofs.YtcgcpjajghdbpaaGreat.Eng Go.Proofs.YtcgcpjajghdbpaaGreat Go.Proofs.YtcgcpjajghdbpaaGreat.Dat
set_option linter.unusedVariables false
set_option linter.unusedSimpArgs false
structure Cf where
 c0:Int
 c1:Int
 c2:Int
 c3:Int
 c4:Int
 c5:Int
 c6:Int
def Cf.ds(c:Cf):List D:=[.int c.c0,.int c.c1,.int c.c2,.int c.c3,.int c.c4,.int c.c5,.int c.c6]
def Cf.ok(c:Cf):Prop:=(1≤c.c0∧c.c0≤6)∧(1≤c.c1∧c.c1≤4)∧(1≤c.c2∧c.c2≤3)∧(1≤c.c3∧c.c3≤4)∧(0≤c.c4∧c.c4≤4)∧(1≤c.c5∧c.c5≤4)∧(1≤c.c6∧c.c6≤15)
structure Lim where
 w:ByteArray
 n:Int
 lo:Int
 hi:Int
def Lim.d(e:Lim):D:=.agg [.str e.w,.int e.n,.int e.lo,.int e.hi]
def Lim.ok(e:Lim):Prop:=e.lo≤e.n∧e.n≤e.hi
instance(e:Lim):Decidable e.ok:=by unfold Lim.ok;infer_instance
def firstBad:List Lim→Nat→Option (Nat × Lim)
 |[],_=>none
 |e::l,i=>if e.ok then firstBad l (i+1)else some (i,e)
def errAt(i:Nat)(e:Lim):D:=.iface 136 (.agg [.int i,.iface 139 (.agg [.str e.w,.iface 94 (.int 5)])])
theorem at_eq(x y:D)(h:y.isNil=false):FX 29 [x,y]=some [.iface 136 (.agg [x,y])]:=by
 rw[C2u];simp[h]
theorem D1w(x y:D)(h:y.isNil=false):FX 30 [x,y]=some [.iface 139 (.agg [x,y])]:=by
 rw[C9y];simp[h]
theorem B0o(x0 x1 x2 x3 x4 x5 x6:D)(es:List Lim)(hl:es.length≤100):∀(k i:Nat),i+k=es.length→
  A3s x0 x1 x2 x3 x4 x5 x6 (.agg (es.map Lim.d)) [.int i]=match firstBad (es.drop i) i with
   |none=>some [x0,x1,x2,x3,x4,x5,x6,.nil]
   |some (j,e)=>some [.int 0,.int 0,.int 0,.int 0,.int 0,.int 0,.int 0,errAt j e]
 |0,i,h=>by
  have hi:i=es.length:=by omega
  rw[B0n,List.drop_eq_nil_of_le (by omega)]
  simp[hi,firstBad]
 |k+1,i,h=>by
  have hlt:i<es.length:=by omega
  have hg:(es.map Lim.d).getD i D.nil=es[i].d:=by rw[List.getD_eq_getElem?_getD,List.getElem?_map,List.getElem?_eq_getElem hlt];rfl
  have ih:=B0o x0 x1 x2 x3 x4 x5 x6 es hl k (i+1) (by omega)
  rw[B0n,List.drop_eq_getElem_cons hlt]
  have hw:IntKind.i64.wrap ((i:Int)+1)=((i+1:Nat):Int):=by rw[D4j _ (by omega) (by omega)];omega
  simp only[D.toInt_int,D.toL_agg,List.length_map,Int.toNat_natCast,hg,hw,firstBad]
  have e1:(i:Int)<(es.length:Int):=by omega
  have e2:(i:Int)≥0:=by omega
  simp only[e1,e2,decide_true,if_true,Lim.d,D.toL_agg,List.getD_cons_succ,List.getD_cons_zero,D.toInt_int]
  have hcode:(D.iface 94 (.int 5)).isNil=false:=rfl
  have hnote:(D.iface 139 (.agg [.str es[i].w,.iface 94 (.int 5)])).isNil=false:=rfl
  by_cases h1:es[i].n<es[i].lo
  ·have:¬es[i].ok:=fun h=>by unfold Lim.ok at h;omega
   simp only[h1,decide_true,if_true,this,if_false,D1w _ _ hcode,bindC,List.length_cons,List.length_nil,List.getD_cons_zero,at_eq _ _ hnote,errAt]
  ·by_cases h2:es[i].n>es[i].hi
   ·have:¬es[i].ok:=fun h=>by unfold Lim.ok at h;omega
    simp only[h1,h2,decide_true,decide_false,Bool.false_eq_true,if_true,this,if_false,D1w _ _ hcode,bindC,List.length_cons,List.length_nil,List.getD_cons_zero,at_eq _ _ hnote,errAt]
   ·have:es[i].ok:=by unfold Lim.ok;omega
    simp only[h1,h2,decide_false,Bool.false_eq_true,if_false,this,if_true,ih]
def Cf.lims(c:Cf):List Lim:=[⟨.mk #[112,97,114,116,115],c.c0,1,6⟩,⟨.mk #[99,101,108,108,115],c.c1,1,4⟩,⟨.mk #[110,97,109,101,115],c.c2,1,3⟩,⟨.mk #[98,97,110,100,115],c.c3,1,4⟩,⟨.mk #[112,114,111,98,101,115],c.c4,0,4⟩,⟨.mk #[102,105,108,108,115],c.c5,1,4⟩,⟨.mk #[103,101,110,115],c.c6,1,15⟩]
theorem new_eq(c:Cf):FX 17 c.ds=match firstBad c.lims 0 with
   |none=>some (c.ds++[.nil])
   |some (j,e)=>some [.int 0,.int 0,.int 0,.int 0,.int 0,.int 0,.int 0,errAt j e]:=by
 have h:=B0o (.int c.c0) (.int c.c1) (.int c.c2) (.int c.c3) (.int c.c4) (.int c.c5) (.int c.c6) c.lims (by simp[Cf.lims]) 7 0 rfl
 have hl:FX 28 c.ds=some [.agg (c.lims.map Lim.d)]:=by
  unfold Cf.ds
  rw[C4h]
  rfl
 have he:FX 17 c.ds=A3s (.int c.c0) (.int c.c1) (.int c.c2) (.int c.c3) (.int c.c4) (.int c.c5) (.int c.c6) (.agg (c.lims.map Lim.d)) [.int 0]:=by
  unfold Cf.ds at hl⊢
  rw[D1i,hl]
  rfl
 rw[he]
 exact h
theorem B8b:∀(l:List Lim) (i:Nat),firstBad l i=none↔∀e ∈ l,e.ok
 |[],i=>by simp[firstBad]
 |e::l,i=>by
  simp only[firstBad,List.mem_cons,forall_eq_or_imp]
  by_cases h:e.ok
  ·rw[if_pos h,B8b l];simp[h]
  ·rw[if_neg h];simp[h]
theorem firstBad_none(c:Cf):firstBad c.lims 0=none↔c.ok:=by
 rw[B8b]
 simp[Cf.lims,Lim.ok,Cf.ok]
end Go.Proofs.YtcgcpjajghdbpaaGreat.RU
