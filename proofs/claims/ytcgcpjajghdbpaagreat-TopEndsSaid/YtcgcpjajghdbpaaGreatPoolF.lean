import Derived.Test.YtcgcpjajghdbpaaGreatPoolE
namespace Go.Proofs.YtcgcpjajghdbpaaGreat.P
open Go.RowKit Go.Proofs.YtcgcpjajghdbpaaGreat.Eng Go.Proofs.YtcgcpjajghdbpaaGreat Go.Proofs.YtcgcpjajghdbpaaGreat.Dat Go.Proofs.YtcgcpjajghdbpaaGreat.FDat
set_option linter.unusedVariables false
set_option linter.unusedSimpArgs false
set_option linter.unusedSectionVars false
set_option maxRecDepth 10000
def checkF(c:Cf)(t:Tm)(qty now:Int):Int:=
 if t.name<0∨t.name≥c.c2 then 22
 else if t.side≠0∧t.side≠1 then 1
 else if qty<1∨qty>9999 then 23
 else if t.price<1∨t.price>9999 then 24
 else if t.least<1∨t.least>qty then 25
 else if t.till≤now∨t.till>1000000 then 26
 else 0
theorem E1f(c:Cf)(t:Tm)(qty now:Int):FX 127 (c.ds++t.ds++[.int qty,.int now])=some [er (checkF c t qty now)]:=by
 unfold RU.Cf.ds Tm.ds checkF
 dsimp only[List.cons_append,List.nil_append]
 rw[C6f]
 simp only[D.toInt_int]
 by_cases a0:t.name<0
 ·simp only[a0,decide_true,if_true,A4i,D.toBool_bool,true_or];rfl
 by_cases a1:t.name≥c.c2
 ·simp only[a0,a1,decide_true,decide_false,Bool.false_eq_true,if_false,if_true,A4i,D.toBool_bool,or_true];rfl
 simp only[a0,a1,decide_false,Bool.false_eq_true,if_false,or_self,A4i,B7s,B8e,B6u,D.toInt_int,D.toBool_bool]
 have fin:(if(decide (t.least<1))=true then(some [D.iface 94 (D.int 25)]:Option (List D))else if(decide (t.least>qty))=true then some [D.iface 94 (D.int 25)]else if(decide (t.till≤now))=true then some [D.iface 94 (D.int 26)]else if(decide (t.till>1000000))=true then some [D.iface 94 (D.int 26)]else some [D.nil])=some [er (if t.least<1∨t.least>qty then 25 else if t.till≤now∨t.till>1000000 then 26 else 0)]:=by
  by_cases b1:t.least<1
  ·simp only[b1,decide_true,if_true,true_or];rfl
  by_cases b2:t.least>qty
  ·simp only[b1,b2,decide_true,decide_false,Bool.false_eq_true,if_false,if_true,or_true];rfl
  by_cases b3:t.till≤now
  ·simp only[b1,b2,b3,decide_true,decide_false,Bool.false_eq_true,if_false,if_true,true_or,or_self];rfl
  by_cases b4:t.till>1000000
  ·simp only[b1,b2,b3,b4,decide_true,decide_false,Bool.false_eq_true,if_false,if_true,or_true,or_self];rfl
  ·simp only[b1,b2,b3,b4,decide_false,Bool.false_eq_true,if_false,or_self];rfl
 by_cases a2:t.side=0
 ·have i2:(t.side != 0)=false:=by simp[a2]
  have i3:¬(t.side≠0∧t.side≠1):=by simp[a2]
  simp only[i2,i3,Bool.false_eq_true,if_false]
  by_cases a4:qty<1
  ·simp only[a4,decide_true,if_true,true_or];rfl
  by_cases a5:qty>9999
  ·simp only[a4,a5,decide_true,decide_false,Bool.false_eq_true,if_false,if_true,or_true];rfl
  simp only[a4,a5,decide_false,Bool.false_eq_true,if_false,or_self]
  by_cases a6:t.price<1
  ·simp only[a6,decide_true,if_true,true_or];rfl
  by_cases a7:t.price>9999
  ·simp only[a6,a7,decide_true,decide_false,Bool.false_eq_true,if_false,if_true,or_true];rfl
  simp only[a6,a7,decide_false,Bool.false_eq_true,if_false,or_self]
  exact fin
 ·have i2:(t.side != 0)=true:=by simp[a2]
  simp only[i2,if_true]
  by_cases a3:t.side=1
  ·have i3:(t.side != 1)=false:=by simp[a3]
   have i4:¬(t.side≠0∧t.side≠1):=by simp[a3]
   simp only[i3,i4,Bool.false_eq_true,if_false]
   by_cases a4:qty<1
   ·simp only[a4,decide_true,if_true,true_or];rfl
   by_cases a5:qty>9999
   ·simp only[a4,a5,decide_true,decide_false,Bool.false_eq_true,if_false,if_true,or_true];rfl
   simp only[a4,a5,decide_false,Bool.false_eq_true,if_false,or_self]
   by_cases a6:t.price<1
   ·simp only[a6,decide_true,if_true,true_or];rfl
   by_cases a7:t.price>9999
   ·simp only[a6,a7,decide_true,decide_false,Bool.false_eq_true,if_false,if_true,or_true];rfl
   simp only[a6,a7,decide_false,Bool.false_eq_true,if_false,or_self]
   exact fin
  ·have i3:(t.side != 1)=true:=by simp[a3]
   have i4:(t.side≠0∧t.side≠1):=⟨a2,a3⟩
   rw[if_pos i3,if_pos i4];rfl
def upL(n:Nat):List Int:=(List.range n).map fun(i:Nat)=>(i:Int)
def downL(t:Int)(n:Nat):List Int:=(List.range n).map fun(i:Nat)=>t-1-(i:Int)
def crossF(c:Cf)(side price:Int):List Int:=
 if bandF c price<0 then[]else if side=0 then upL (bandF c price+1).toNat else if side=1 then downL c.c3 (c.c3-bandF c price).toNat else[]
section
variable(c:Cf)(hc:c.ok)
include hc
theorem D2l(x7 x8:D)(b:Int)(hb:0≤b)(hb4:b<4):∀(d j:Nat),(j+d:Int)=b+1→A1q (.int c.c0) (.int c.c1) (.int c.c2) (.int c.c3) (.int c.c4) (.int c.c5) (.int c.c6) x7 x8 (.int b) [.int (j:Nat),.agg ((upL j).map D.int)]=some [.agg ((upL (b+1).toNat).map D.int)]
 |0,j,h=>by
  have h1:¬(j:Int)≤b:=by omega
  have h2:(b+1).toNat=j:=by omega
  rw[A3e,h2]
  simp only[D.toInt_int,h1,decide_false,Bool.false_eq_true,if_false]
 |d+1,j,h=>by
  have h1:(j:Int)≤b:=by omega
  have ih:=D2l x7 x8 b hb hb4 d (j+1) (by omega)
  have e:(upL j).map D.int++[D.int (j:Nat)]=(upL (j+1)).map D.int:=by simp[upL,List.range_succ]
  have hl:(((upL (j+1)).map D.int).length:Int)≤17592186044416:=by simp[upL];omega
  rw[A3e]
  simp only[D.toInt_int,D.toL_agg,e,h1,hl,decide_true,if_true]
  rw[i64w _ (by omega) (by omega)]
  exact ih
theorem C5d(x7 x8:D)(b:Int)(hb:0≤b)(hb4:b<c.c3):∀(d j:Nat),(j+d:Int)=c.c3-b→A1s (.int c.c0) (.int c.c1) (.int c.c2) (.int c.c3) (.int c.c4) (.int c.c5) (.int c.c6) x7 x8 (.int b) [.int (c.c3-1-(j:Nat)),.agg ((downL c.c3 j).map D.int)]=some [.agg ((downL c.c3 (c.c3-b).toNat).map D.int)]
 |0,j,h=>by
  have h1:¬(c.c3-1-(j:Int))≥b:=by omega
  have h2:(c.c3-b).toNat=j:=by omega
  rw[A3b,h2]
  simp only[D.toInt_int,h1,decide_false,Bool.false_eq_true,if_false]
 |d+1,j,h=>by
  have h3:=hc.2.2.2.1
  have h1:(c.c3-1-(j:Int))≥b:=by omega
  have ih:=C5d x7 x8 b hb hb4 d (j+1) (by omega)
  have e:(downL c.c3 j).map D.int++[D.int (c.c3-1-(j:Nat))]=(downL c.c3 (j+1)).map D.int:=by simp[downL,List.range_succ]
  have hl:(((downL c.c3 (j+1)).map D.int).length:Int)≤17592186044416:=by simp[downL];omega
  rw[A3b]
  simp only[D.toInt_int,D.toL_agg,e,h1,hl,decide_true,if_true]
  rw[i64w _ (by omega) (by omega)]
  have e2:c.c3-1-(j:Int)-1=c.c3-1-((j+1:Nat):Int):=by omega
  rw[e2]
  exact ih
theorem C7u(side price:Int):FX 41 (c.ds++[.int side,.int price])=some [.agg ((crossF c side price).map D.int)]:=by
 have hb:=D2x c hc price
 have hbb:=D8f c hc price
 have h3:=hc.2.2.2.1
 unfold RU.Cf.ds at hb⊢
 dsimp only[List.cons_append,List.nil_append]at hb⊢
 rw[B2q,hb]
 simp only[HH]
 unfold crossF
 by_cases a1:bandF c price<0
 ·simp only[a1,decide_true,if_true];rfl
 by_cases a2:side=0
 ·have:=D2l c hc (.int side) (.int price) (bandF c price) (by omega) (by omega) (bandF c price+1).toNat 0 (by omega)
  simp only[a1,a2,decide_false,beq_self_eq_true,HH]at this⊢
  exact this
 by_cases a3:side=1
 ·have:=C5d c hc (.int side) (.int price) (bandF c price) (by omega) (by omega) (c.c3-bandF c price).toNat 0 (by omega)
  have i2:((1:Int) == 0)=false:=rfl
  have i3:¬(1:Int)=0:=by decide
  have e:c.c3-1-((0:Nat):Int)=c.c3-1:=by omega
  rw[e]at this
  simp only[a1,a3,i2,i3,decide_false,beq_self_eq_true,HH]at this⊢
  rw[i64w _ (by omega) (by omega)]
  exact this
 ·have i2:(side == 0)=false:=by simp[a2]
  have i3:(side == 1)=false:=by simp[a3]
  simp only[a1,a2,a3,i2,i3,decide_false,HH];rfl
theorem C5y(side price:Int):(crossF c side price).length≤4:=by
 have hbb:=D8f c hc price
 have h3:=hc.2.2.2.1
 unfold crossF
 split
 ·decide
 split
 ·simp[upL];omega
 split
 ·simp[downL];omega
 ·decide
def scanL(c:Cf)(x gen name b:Int)(n:Nat):List Aim:=(List.range n).map fun(y:Nat)=>⟨2,x,gen,(y:Int),shardF c name b⟩
def scansL(c:Cf)(x gen name:Int)(bs:List Int):List Aim:=bs.flatMap fun b=>scanL c x gen name b (allF c).toNat
def probeL(x gen:Int)(n:Nat):List Aim:=List.replicate n ⟨1,x,gen,-1,0⟩
def aimsF(c:Cf)(x gen:Int)(t:Tm):List Aim:=probeL x gen c.c4.toNat++scansL c x gen t.name (crossF c t.side t.price)
theorem C1h(x gen name:Int)(bs:List Int):(scansL c x gen name bs).length=bs.length*(allF c).toNat:=by
 induction bs with
 |nil=>simp[scansL]
 |cons b bs ih=>
  have:scansL c x gen name (b::bs)=scanL c x gen name b (allF c).toNat++scansL c x gen name bs:=by simp[scansL]
  rw[this,List.length_append,ih]
  simp[scanL,Nat.add_mul,Nat.add_comm]
theorem D8r(x gen:Int)(t:Tm):(aimsF c x gen t).length≤100:=by
 have h1:=C5y c hc t.side t.price
 have h2:=all_b c hc
 have h4:=hc.2.2.2.2.1
 have h5:(crossF c t.side t.price).length*(allF c).toNat≤4*24:=Nat.mul_le_mul h1 (by omega)
 rw[aimsF,List.length_append,C1h c hc]
 simp only[probeL,List.length_replicate]
 omega
theorem aims3(x gen:Int)(t:Tm)(x14 x15 x16 x18:D)(i:Int)(b:Int)(hx16:((x16).toL).getD i.toNat D.nil=.int b)(g0 g1:Eng.Fn)(pre:List Aim)(hp:pre.length≤1000):∀(d j:Nat),(j+d:Int)=allF c→
  A5k (.int c.c0) (.int c.c1) (.int c.c2) (.int c.c3) (.int c.c4) (.int c.c5) (.int c.c6) (.int x) (.int gen) (.int t.name) (.int t.side) (.int t.price) (.int t.least) (.int t.till) x14 x15 x16 (.int i) x18 (.int (allF c)) g0 g1 [.int (j:Nat),.agg ((pre++scanL c x gen t.name b j).map Aim.d)]=g1 [.int (IntKind.i64.wrap (i+1)),.agg ((pre++scanL c x gen t.name b (allF c).toNat).map Aim.d)]
 |0,j,h=>by
  have h1:¬(j:Int)<allF c:=by omega
  have h2:(allF c).toNat=j:=by omega
  rw[B0g,h2]
  simp only[D.toInt_int,h1,decide_false,Bool.false_eq_true,if_false]
 |d+1,j,h=>by
  have hal:=all_b c hc
  have h1:(j:Int)<allF c:=by omega
  have ih:=aims3 x gen t x14 x15 x16 x18 i b hx16 g0 g1 pre hp d (j+1) (by omega)
  have hs:FX 102 [.int c.c0,.int c.c1,.int c.c2,.int c.c3,.int c.c4,.int c.c5,.int c.c6,.int t.name,.int b]=some [.int (shardF c t.name b)]:=C9d c hc t.name b
  have e:(pre++scanL c x gen t.name b j).map Aim.d++[D.agg [.int 2,.int x,.int gen,.int (j:Nat),.int (shardF c t.name b)]]=(pre++scanL c x gen t.name b (j+1)).map Aim.d:=by
   simp[scanL,List.range_succ,Aim.d,Aim.ds]
  have hl:(((pre++scanL c x gen t.name b (j+1)).map Aim.d).length:Int)≤3518437208883:=by simp[scanL];omega
  rw[B0g]
  simp only[D.toInt_int,h1,decide_true,if_true,hx16,hs,A0b,List.length_cons,List.length_nil,List.getD_cons_zero,D.toL_agg,e,hl]
  rw[i64w _ (by omega) (by omega)]
  exact ih
theorem aims2(x gen:Int)(t:Tm)(x14 x15:D)(g0:Eng.Fn)(bs:List Int)(hbs:bs.length≤4)(pre:List Aim)(hp:pre.length≤10):∀(d j:Nat),j+d=bs.length→
  A3q (.int c.c0) (.int c.c1) (.int c.c2) (.int c.c3) (.int c.c4) (.int c.c5) (.int c.c6) (.int x) (.int gen) (.int t.name) (.int t.side) (.int t.price) (.int t.least) (.int t.till) x14 x15 (.agg (bs.map D.int)) g0 [.int (j:Nat),.agg ((pre++scansL c x gen t.name (bs.take j)).map Aim.d)]=some [.agg ((pre++scansL c x gen t.name bs).map Aim.d)]
 |0,j,h=>by
  have h1:¬(j:Int)<(bs.length:Int):=by omega
  rw[B0f,List.take_of_length_le (by omega)]
  simp only[D.toInt_int,D.toL_agg,List.length_map,h1,decide_false,Bool.false_eq_true,if_false]
 |d+1,j,h=>by
  have hal:=all_b c hc
  have hj:j<bs.length:=by omega
  have h1:(j:Int)<(bs.length:Int):=by omega
  have h2:(j:Int)≥0:=by omega
  have ha:FX 39 [.int c.c0,.int c.c1,.int c.c2,.int c.c3,.int c.c4,.int c.c5,.int c.c6]=some [.int (allF c)]:=B2v c hc
  have ih:=aims2 x gen t x14 x15 g0 bs hbs pre hp d (j+1) (by omega)
  have hg:((D.agg (bs.map D.int)).toL).getD (j:Int).toNat D.nil=.int bs[j]:=by
   rw[D.toL_agg,Int.toNat_natCast,List.getD_eq_getElem?_getD,List.getElem?_map,List.getElem?_eq_getElem hj];rfl
  have hlen:(pre++scansL c x gen t.name (bs.take j)).length≤1000:=by
   rw[List.length_append,C1h c hc]
   have:(bs.take j).length*(allF c).toNat≤4*24:=Nat.mul_le_mul (by simp;omega) (by omega)
   omega
  have a3:=aims3 c hc x gen t x14 x15 (.agg (bs.map D.int)) (.agg ((pre++scansL c x gen t.name (bs.take j)).map Aim.d)) (j:Nat) bs[j] hg g0
   (A3q (.int c.c0) (.int c.c1) (.int c.c2) (.int c.c3) (.int c.c4) (.int c.c5) (.int c.c6) (.int x) (.int gen) (.int t.name) (.int t.side) (.int t.price) (.int t.least) (.int t.till) x14 x15 (.agg (bs.map D.int)) g0)
   (pre++scansL c x gen t.name (bs.take j)) hlen (allF c).toNat 0 (by omega)
  have e0:(pre++scansL c x gen t.name (bs.take j))++scanL c x gen t.name bs[j] 0=pre++scansL c x gen t.name (bs.take j):=by simp[scanL]
  have e1:(pre++scansL c x gen t.name (bs.take j))++scanL c x gen t.name bs[j] (allF c).toNat=pre++scansL c x gen t.name (bs.take (j+1)):=by
   rw[List.take_succ_eq_append_getElem hj]
   simp only[scansL,List.flatMap_append,List.flatMap_cons,List.flatMap_nil,List.append_nil,List.append_assoc]
  rw[e0,e1,i64w _ (by omega) (by omega)]at a3
  rw[B0f]
  simp only[D.toInt_int,D.toL_agg,List.length_map,h1,h2,decide_true,if_true,ha,A0b,List.length_cons,List.length_nil,List.getD_cons_zero]
  exact a3.trans ih
theorem aims1(x gen:Int)(t:Tm):∀(d j:Nat),(j+d:Int)=c.c4→
  A3r (.int c.c0) (.int c.c1) (.int c.c2) (.int c.c3) (.int c.c4) (.int c.c5) (.int c.c6) (.int x) (.int gen) (.int t.name) (.int t.side) (.int t.price) (.int t.least) (.int t.till) [.int (j:Nat),.agg ((probeL x gen j).map Aim.d)]=some [.agg ((aimsF c x gen t).map Aim.d)]
 |0,j,h=>by
  have h4:=hc.2.2.2.2.1
  have h1:¬(j:Int)<c.c4:=by omega
  have h2:c.c4.toNat=j:=by omega
  have hcr:FX 41 [.int c.c0,.int c.c1,.int c.c2,.int c.c3,.int c.c4,.int c.c5,.int c.c6,.int t.side,.int t.price]=some [.agg ((crossF c t.side t.price).map D.int)]:=C7u c hc t.side t.price
  have a2:=fun x14 x15 g0=>aims2 c hc x gen t x14 x15 g0 (crossF c t.side t.price) (C5y c hc _ _) (probeL x gen j) (by simp[probeL];omega) (crossF c t.side t.price).length 0 (by omega)
  rw[B0s]
  simp only[D.toInt_int,h1,decide_false,Bool.false_eq_true,if_false,hcr,A0b,List.length_cons,List.length_nil,List.getD_cons_zero]
  have e0:probeL x gen j++scansL c x gen t.name (List.take 0 (crossF c t.side t.price))=probeL x gen j:=by simp[scansL]
  simp only[e0]at a2
  unfold aimsF
  rw[h2]
  exact a2 _ _ _
 |d+1,j,h=>by
  have h4:=hc.2.2.2.2.1
  have h1:(j:Int)<c.c4:=by omega
  have ih:=aims1 x gen t d (j+1) (by omega)
  have e:(probeL x gen j).map Aim.d++[D.agg [.int 1,.int x,.int gen,.int (-1),.int 0]]=(probeL x gen (j+1)).map Aim.d:=by
   simp[probeL,List.replicate_succ',Aim.d,Aim.ds]
  have hl:(((probeL x gen (j+1)).map Aim.d).length:Int)≤3518437208883:=by simp[probeL];omega
  rw[B0s]
  simp only[D.toInt_int,h1,decide_true,if_true,D.toL_agg,e,hl]
  rw[i64w _ (by omega) (by omega)]
  exact ih
theorem E1t(x gen:Int)(t:Tm):FX 110 [.int c.c0,.int c.c1,.int c.c2,.int c.c3,.int c.c4,.int c.c5,.int c.c6,.int x,.int gen,.int t.name,.int t.side,.int t.price,.int t.least,.int t.till]=some [.agg ((aimsF c x gen t).map Aim.d)]:=by
 have h4:=hc.2.2.2.2.1
 rw[D0e]
 exact aims1 c hc x gen t c.c4.toNat 0 (by omega)
end
def pickF(n m:Int):Int:=if m<1 then 0 else n%m
theorem E3k(n m:Int)(hn:In n)(hm:1≤m∧m≤1000):FX 38 [.int n,.int m]=some [.int (pickF n m)]:=by
 have h1:¬m<1:=by omega
 have h2:(m != 0)=true:=by simp;omega
 have h3:0≤n%m:=Int.emod_nonneg _ (by omega)
 have h4:n%m<m:=Int.emod_lt_of_pos _ (by omega)
 have h5:=Int.tmod_eq_emod (a:=n) (b:=m)
 rw[D0j]
 unfold pickF
 simp only[D.toInt_int,h1,decide_false,Bool.false_eq_true,if_false,h2,if_true]
 by_cases h6:n.tmod m<0
 ·simp only[h6,decide_true,if_true]
  have h7:n.tmod m+m=n%m:=by
   rw[h5]at h6⊢
   split at h6
   ·omega
   ·split
    ·omega
    ·rw[Int.natAbs_of_nonneg (by omega)]at*
     omega
  rw[h7,i64w _ (by omega) (by omega)]
 ·simp only[h6,decide_false,Bool.false_eq_true,if_false]
  have h7:n.tmod m=n%m:=by
   rw[h5]at h6⊢
   split
   ·omega
   ·rename_i hh
    rw[if_neg hh]at h6
    omega
  rw[h7]
def addF(now n:Int):Int:=if n≤0 then now else if n>1000000∨now>1000000-n then 1000000 else now+n
end Go.Proofs.YtcgcpjajghdbpaaGreat.P
