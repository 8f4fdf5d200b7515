import Derived.Test.YtcgcpjajghdbpaaGreatPoolY
namespace Go.Proofs.YtcgcpjajghdbpaaGreat.P
open Go.RowKit Go.Proofs.YtcgcpjajghdbpaaGreat.Eng Go.Proofs.YtcgcpjajghdbpaaGreat Go.Proofs.YtcgcpjajghdbpaaGreat.Dat Go.Proofs.YtcgcpjajghdbpaaGreat.FDat
set_option linter.unusedVariables false
set_option linter.unusedSimpArgs false
set_option linter.unusedSectionVars false
set_option maxRecDepth 10000
theorem D5h{l:List D}(h:((l.length:Int) == 0)=true):l=[]:=by
 have:(l.length:Int)=0:=by simpa using h
 exact List.eq_nil_of_length_eq_zero (by omega)
theorem D6h(l:List D)(h:l.length≤1000000):FX 11 [.agg l]=some [.agg l]:=by
 rw[A3y]
 simp only[D.toL_agg]
 have h1:(l.length:Int)≤1256584717458:=by omega
 simp only[h1,decide_true,if_true]
 split
 ·rename_i h0
  rw[D5h h0,C5n]
 ·rfl
def repliesF(P:Pool)(part:Int):List Rep:=(P.outs.filter fun o=>o.part == part).map Out.r
section
variable{G L:List D}{lab:Nat→Nat}{pl w m k:Nat}{za swa rea:List Nat}{P:Pool}{n:Nat}(E:Enc G L lab pl w m k za swa rea P)(hP:PoolOk P n)(hn:n≤1000000)
include E hP hn
theorem E3g:FX 42 [.int (pl:Nat),.agg L]=some [.agg (P.outs.map Out.d)]:=by
 have ho:=hP.outs
 have g5:(P.raw (.int (w:Nat)) (ptrL za) (ptrL swa) (ptrL rea)).outs=P.outs:=rfl
 have h1:((P.outs.map Out.d).length:Int)≤1034834473200:=by simp;omega
 rw[B7h]
 simp only[HH,E.pool,PoolS.get5,g5,h1,decide_true]
 split
 ·rename_i h0
  rw[D5h h0,C5n]
 ·rfl
theorem D4k(part:Int):FX 26 [.int (pl:Nat),.int part,.agg L]=some [.agg ((repliesF P part).map Rep.d)]:=by
 have ho:=hP.outs
 have key:∀(d j:Nat),j+d=P.outs.length→A1h (.int (pl:Nat)) (.int part) (.agg L) (.agg (P.outs.map Out.d)) [.int (j:Nat),.agg ((((P.outs.take j).filter fun o=>o.part == part).map Out.r).map Rep.d)]=some [.agg ((repliesF P part).map Rep.d)]:=by
  intro d
  induction d with
  |zero=>
   intro j hj
   have h1:¬(j:Int)<((P.outs.map Out.d).length:Int):=by simp;omega
   rw[A3p,List.take_of_length_le (by omega)]
   simp only[D.toInt_int,D.toL_agg,h1,decide_false,Bool.false_eq_true,if_false]
   rfl
  |succ d ih=>
   intro j hj
   have hlt:j<P.outs.length:=by omega
   have h1:(j:Int)<((P.outs.map Out.d).length:Int):=by simp;omega
   have h2:(j:Int)≥0:=by omega
   have hg:(P.outs.map Out.d).getD j D.nil=.agg (P.outs[j]).ds:=by
    rw[List.getD_eq_getElem?_getD,List.getElem?_map,List.getElem?_eq_getElem hlt];rfl
   have ih':=ih (j+1) (by omega)
   have htk:P.outs.take (j+1)=P.outs.take j++[P.outs[j]]:=List.take_succ_eq_append_getElem hlt
   rw[htk,List.filter_append]at ih'
   have hlen:((P.outs.take j).filter fun o=>o.part == part).length≤P.outs.length:=Nat.le_trans (List.length_filter_le ..) (by simp;omega)
   generalize P.outs[j]=o at*
   rw[A3p]
   simp only[D.toInt_int,D.toL_agg,h1,h2,decide_true,if_true,Int.toNat_natCast,hg,Out.len,Out.get0,Out.get1,Out.get2,Out.get3,Out.get4,Out.get5,Out.get6,Out.get7,Out.get8,Out.get9,Out.get10,Out.get11,Out.get12,Out.get13,Out.get14]
   rw[i64w _ (by omega) (by omega)]
   cases hb:(o.part == part)with
   |true=>
    have e1:[o].filter (fun o=>o.part == part)=[o]:=by simp[hb]
    rw[e1]at ih'
    have e2:((((P.outs.take j).filter fun o=>o.part == part).map Out.r).map Rep.d)++[D.agg [.int o.r.kind,.int o.r.code,.int o.r.tick,.int o.r.id,.int o.r.cell,.bool o.r.asked,.int o.r.rc.k,.int o.r.rc.q,.int o.r.rc.p,.int o.r.rc.t,.int o.r.rc.c,.int o.r.rc.g,.agg (o.r.looks.map Look.d)]]=((((P.outs.take j).filter fun o=>o.part == part)++[o]).map Out.r).map Rep.d:=by
     rw[List.map_append,List.map_append];rfl
    have e3:((((((P.outs.take j).filter fun o=>o.part == part)++[o]).map Out.r).map Rep.d).length:Int)≤1172812402961:=by simp;omega
    simp only[if_true,e2,e3,decide_true]
    exact ih'
   |false=>
    have e1:[o].filter (fun o=>o.part == part)=[]:=by simp[hb]
    rw[e1,List.append_nil]at ih'
    simp only[Bool.false_eq_true,if_false]
    exact ih'
 have:=key P.outs.length 0 (by omega)
 rw[B3e,E3g E hP hn]
 simp only[A0b,List.length_cons,List.length_nil,List.getD_cons_zero]
 exact this
theorem D5b:FX 7 [.int (pl:Nat),.agg L]=some [.agg (P.S.log.map Ev.d)]:=by
 have hl:=hP.log
 have g0:(P.raw (.int (w:Nat)) (ptrL za) (ptrL swa) (ptrL rea)).w=.int (w:Nat):=rfl
 rw[B3w]
 simp only[HH,E.pool,PoolS.get0,g0,E.W.w,WorldS.get9]
 rw[D6h _ (by simp;omega)]
 simp only[HH]
end
theorem E2j(es:List PEv)(hes:es.length≤100000):FX 15 [.agg (es.map PEv.d)]=some [.agg (es.map PEv.d)]:=by
 have key:∀(d j:Nat),j+d=es.length→A5l (.agg (es.map PEv.d)) [.int (j:Nat),.agg ((es.take j).map PEv.d)]=some [.agg (es.map PEv.d)]:=by
  intro d
  induction d with
  |zero=>
   intro j hj
   have h1:¬(j:Int)<((es.map PEv.d).length:Int):=by simp;omega
   rw[A9y,List.take_of_length_le (by omega)]
   simp only[D.toInt_int,D.toL_agg,h1,decide_false,Bool.false_eq_true,if_false]
  |succ d ih=>
   intro j hj
   have hlt:j<es.length:=by omega
   have h1:(j:Int)<((es.map PEv.d).length:Int):=by simp;omega
   have h2:(j:Int)≥0:=by omega
   have ih':=ih (j+1) (by omega)
   have htk:es.take (j+1)=es.take j++[es[j]]:=List.take_succ_eq_append_getElem hlt
   rw[htk]at ih'
   obtain⟨g0,g1,g2,g3,g4,g5,g6,g7,g8,g9,g10,g11⟩:=PEv.gets es[j]
   have e2:(es.take j).map PEv.d++[D.agg [.int es[j].kind,.int es[j].who,.int es[j].n,.int es[j].ask.kind,.int es[j].ask.id,.int es[j].ask.cell,.int es[j].ask.tm.name,.int es[j].ask.tm.side,.int es[j].ask.tm.price,.int es[j].ask.tm.least,.int es[j].ask.tm.till,.int es[j].ask.qty]]=(es.take j++[es[j]]).map PEv.d:=by rw[List.map_append];rfl
   have e3:(((es.take j++[es[j]]).map PEv.d).length:Int)≤1466015503701:=by simp;omega
   rw[A9y]
   simp only[D.toInt_int,D.toL_agg,h1,h2,decide_true,if_true,Int.toNat_natCast,D2w hlt,g0,g1,g2,g3,g4,g5,g6,g7,g8,g9,g10,g11,D4p,D3w,A0b,List.length_cons,List.length_nil,List.getD_cons_zero,List.getD_cons_succ,e2,e3]
   rw[i64w _ (by omega) (by omega)]
   exact ih'
 rw[D0l]
 exact key es.length 0 (by omega)
theorem Enc.fr{G L:List D}{lab:Nat→Nat}{pl w m k:Nat}{za swa rea:List Nat}{P:Pool}(E:Enc G L lab pl w m k za swa rea P):Fr G L (fun _=>False):=⟨E.gl,fun b hb _=>(E.pre b hb).2⟩
theorem E3b(c:Cf)(hc:c.ok)(es:List PEv)(hes:es.length≤10000)(hw:∀e ∈ es,e.wf)(mx:Int)(hmx:(es.length:Int)≤mx)(L:List D):
  ∃L' lab pl w m k za swa rea,FX 9 [.int c.c0,.int c.c1,.int c.c2,.int c.c3,.int c.c4,.int c.c5,.int c.c6,.agg (es.map PEv.d),.int mx,.agg L]=some [.int (pl:Nat),.agg L']∧Enc L L' lab pl w m k za swa rea (runP (newP c) es)∧PoolAt (runP (newP c) es) es.length:=by
 obtain⟨L1,lab1,pl,w,m,k,za,swa,rea,n1,E1⟩:=D2n c hc L
 obtain⟨L2,lab2,n2,E2,P2⟩:=A4l E1 (B8p c hc) es hw (by omega)
 have h1:¬((es.map PEv.d).length:Int)>mx:=by simp;omega
 refine⟨L2,lab2,pl,w,m,k,za,swa,rea,?_,E2,by rw[Nat.zero_add]at P2;exact P2⟩
 rw[D1k]
 simp only[n1,A0b,List.length_cons,List.length_nil,List.getD_cons_zero,List.getD_cons_succ,nilI,nilN,Bool.not_true,Bool.false_eq_true,if_false,D.toInt_int,D.toL_agg,h1,decide_false,E2j es (by omega),n2]
end Go.Proofs.YtcgcpjajghdbpaaGreat.P
