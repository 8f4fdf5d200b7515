import Derived.Test.YtngflpppkicnaaaGreatPoolY
namespace Go.Proofs.YtngflpppkicnaaaGreat.P
open Go.RowKit Go.Proofs.YtngflpppkicnaaaGreat.Eng Go.Proofs.YtngflpppkicnaaaGreat Go.Proofs.YtngflpppkicnaaaGreat.Dat Go.Proofs.YtngflpppkicnaaaGreat.FDat
set_option linter.unusedVariables false
set_option linter.unusedSimpArgs false
set_option linter.unusedSectionVars false
set_option maxRecDepth 10000
theorem nil_of{l:List D}(h:((l.length:Int) == 0)=true):l=[]:=by
 have:(l.length:Int)=0:=by simpa using h
 exact List.eq_nil_of_length_eq_zero (by omega)
theorem cloneW_eq(l:List D)(h:l.length≤100000):FX 36 [.agg l]=some [.agg l]:=by
 rw[E_slices_Clone_uint64_uint64]
 simp only[D.toL_agg]
 have h1:(l.length:Int)≤17592186044416:=by omega
 simp only[h1,decide_true,if_true]
 split
 ·rename_i h0
  rw[nil_of h0,both_self]
 ·rfl
theorem cloneE_eq(l:List D)(h:l.length≤1000000):FX 33 [.agg l]=some [.agg l]:=by
 rw[E_slices_Clone_trace_Event_trace_Event]
 simp only[D.toL_agg]
 have h1:(l.length:Int)≤1256584717458:=by omega
 simp only[h1,decide_true,if_true]
 split
 ·rename_i h0
  rw[nil_of h0,both_self]
 ·rfl
def repliesF(P:Pool)(part:Int):List Rep:=(P.outs.filter fun o=>o.part == part).map Out.r
section
variable{G L:List D}{lab:Nat→Nat}{pl w m k:Nat}{za swa rea:List Nat}{P:Pool}{n:Nat}(E:Enc G L lab pl w m k za swa rea P)(hP:PoolOk P n)(hn:n≤1000000)
include E hP hn
theorem words_eq':FX 17 [.int (m:Nat),.agg L]=some [.agg (P.S.words.map wN)]:=by
 obtain⟨M,hM,hw⟩:=E.W.m
 have hl:=hP.S.len
 rw[E_p_mem_Mem_Words]
 simp only[HH,hM,MemS.get0,hw]
 rw[cloneW_eq _ (by simp;omega)]
 simp only[HH]
theorem outs_eq:FX 14 [.int (pl:Nat),.agg L]=some [.agg (P.outs.map Out.d)]:=by
 have ho:=hP.outs
 have g5:(P.raw (.int (w:Nat)) (ptrL za) (ptrL swa) (ptrL rea)).outs=P.outs:=rfl
 have h1:((P.outs.map Out.d).length:Int)≤1034834473200:=by simp;omega
 rw[E_p_pool_Pool_Outs]
 simp only[HH,E.pool,PoolS.get5,g5,h1,decide_true]
 split
 ·rename_i h0
  rw[nil_of h0,both_self]
 ·rfl
theorem replies_eq(part:Int):FX 19 [.int (pl:Nat),.int part,.agg L]=some [.agg ((repliesF P part).map Rep.d)]:=by
 have ho:=hP.outs
 have key:∀(d j:Nat),j+d=P.outs.length→W_p_pool_Pool_Replies_1 (.int (pl:Nat)) (.int part) (.agg L) (.agg (P.outs.map Out.d)) [.int (j:Nat),.agg ((((P.outs.take j).filter fun o=>o.part == part).map Out.r).map Rep.d)]=some [.agg ((repliesF P part).map Rep.d)]:=by
  intro d
  induction d with
  |zero=>
   intro j hj
   have h1:¬(j:Int)<((P.outs.map Out.d).length:Int):=by simp;omega
   rw[W_p_pool_Pool_Replies_1_eq,List.take_of_length_le (by omega)]
   simp only[D.toInt_int,D.toL_agg,h1,decide_false,Bool.false_eq_true,if_false]
   rfl
  |succ d ih=>
   intro j hj
   have hlt:j<P.outs.length:=by omega
   have h1:(j:Int)<((P.outs.map Out.d).length:Int):=by simp;omega
   have h2:(j:Int)≥0:=by omega
   have hg:(P.outs.map Out.d).getD j D.nil=.agg (P.outs[j]).ds:=by
    rw[List.getD_eq_getElem?_getD,List.getElem?_map,List.getElem?_eq_getElem hlt];rfl
   have ih':=ih (j+1) (by omega)
   have htk:P.outs.take (j+1)=P.outs.take j++[P.outs[j]]:=List.take_succ_eq_append_getElem hlt
   rw[htk,List.filter_append]at ih'
   have hlen:((P.outs.take j).filter fun o=>o.part == part).length≤P.outs.length:=Nat.le_trans (List.length_filter_le ..) (by simp;omega)
   generalize P.outs[j]=o at*
   rw[W_p_pool_Pool_Replies_1_eq]
   simp only[D.toInt_int,D.toL_agg,h1,h2,decide_true,if_true,Int.toNat_natCast,hg,Out.len,Out.get0,Out.get1,Out.get2,Out.get3,Out.get4,Out.get5,Out.get6,Out.get7,Out.get8,Out.get9,Out.get10,Out.get11,Out.get12,Out.get13,Out.get14]
   rw[i64w _ (by omega) (by omega)]
   cases hb:(o.part == part)with
   |true=>
    have e1:[o].filter (fun o=>o.part == part)=[o]:=by simp[hb]
    rw[e1]at ih'
    have e2:((((P.outs.take j).filter fun o=>o.part == part).map Out.r).map Rep.d)++[D.agg [.int o.r.kind,.int o.r.code,.int o.r.tick,.int o.r.id,.int o.r.cell,.bool o.r.asked,.int o.r.rc.k,.int o.r.rc.q,.int o.r.rc.p,.int o.r.rc.t,.int o.r.rc.c,.int o.r.rc.g,.agg (o.r.looks.map Look.d)]]=((((P.outs.take j).filter fun o=>o.part == part)++[o]).map Out.r).map Rep.d:=by
     rw[List.map_append,List.map_append];rfl
    have e3:((((((P.outs.take j).filter fun o=>o.part == part)++[o]).map Out.r).map Rep.d).length:Int)≤1172812402961:=by simp;omega
    simp only[if_true,e2,e3,decide_true]
    exact ih'
   |false=>
    have e1:[o].filter (fun o=>o.part == part)=[]:=by simp[hb]
    rw[e1,List.append_nil]at ih'
    simp only[Bool.false_eq_true,if_false]
    exact ih'
 have:=key P.outs.length 0 (by omega)
 rw[E_p_pool_Pool_Replies,outs_eq E hP hn]
 simp only[bindC_some,List.length_cons,List.length_nil,List.getD_cons_zero]
 exact this
theorem events_eq:FX 13 [.int (pl:Nat),.agg L]=some [.agg (P.S.log.map Ev.d)]:=by
 have hl:=hP.log
 have g0:(P.raw (.int (w:Nat)) (ptrL za) (ptrL swa) (ptrL rea)).w=.int (w:Nat):=rfl
 rw[E_p_pool_Pool_Events]
 simp only[HH,E.pool,PoolS.get0,g0,E.W.w,WorldS.get9]
 rw[cloneE_eq _ (by simp;omega)]
 simp only[HH]
end
theorem same_eq(r:Rep)(hr:r.looks.length≤1000):FX 37 [.int r.kind,.int r.code,.int r.tick,.int r.id,.int r.cell,.bool r.asked,.int r.rc.k,.int r.rc.q,.int r.rc.p,.int r.rc.t,.int r.rc.c,.int r.rc.g,.agg (r.looks.map Look.d),.int r.kind,.int r.code,.int r.tick,.int r.id,.int r.cell,.bool r.asked,.int r.rc.k,.int r.rc.q,.int r.rc.p,.int r.rc.t,.int r.rc.c,.int r.rc.g,.agg (r.looks.map Look.d)]=some [.bool true]:=by
 have key:∀(d j:Nat),j+d=r.looks.length→W_seat_Same_1 (.int r.kind) (.int r.code) (.int r.tick) (.int r.id) (.int r.cell) (.bool r.asked) (.int r.rc.k) (.int r.rc.q) (.int r.rc.p) (.int r.rc.t) (.int r.rc.c) (.int r.rc.g) (.agg (r.looks.map Look.d)) (.int r.kind) (.int r.code) (.int r.tick) (.int r.id) (.int r.cell) (.bool r.asked) (.int r.rc.k) (.int r.rc.q) (.int r.rc.p) (.int r.rc.t) (.int r.rc.c) (.int r.rc.g) (.agg (r.looks.map Look.d)) [.int (j:Nat)]=some [.bool true]:=by
  intro d
  induction d with
  |zero=>
   intro j hj
   have h1:¬(j:Int)<((r.looks.map Look.d).length:Int):=by simp;omega
   rw[W_seat_Same_1_eq]
   simp only[D.toInt_int,D.toL_agg,D.toBool_bool,h1,decide_false,Bool.false_eq_true,if_false,beq_self_eq_true,if_true,Bool.and_self]
  |succ d ih=>
   intro j hj
   have h1:(j:Int)<((r.looks.map Look.d).length:Int):=by simp;omega
   have h2:(j:Int)≥0:=by omega
   rw[W_seat_Same_1_eq]
   simp only[D.toInt_int,D.toL_agg,h1,h2,decide_true,if_true,beq_self_eq_true,Bool.and_self,Bool.not_true,Bool.false_eq_true,if_false]
   rw[i64w _ (by omega) (by omega)]
   exact ih (j+1) (by omega)
 rw[E_seat_Same]
 have h0:(((r.looks.map Look.d).length:Int) != ((r.looks.map Look.d).length:Int))=false:=by simp
 simp only[D.toL_agg,h0,Bool.false_eq_true,if_false]
 exact key r.looks.length 0 (by omega)
theorem sames_eq(l:List Rep)(hl:l.length≤1000000)(hr:∀r ∈ l,r.looks.length≤1000):FX 18 [.agg (l.map Rep.d),.agg (l.map Rep.d)]=some [.bool true]:=by
 have key:∀(d j:Nat),j+d=l.length→W_law13_Same_1 (.agg (l.map Rep.d)) (.agg (l.map Rep.d)) [.int (j:Nat)]=some [.bool true]:=by
  intro d
  induction d with
  |zero=>
   intro j hj
   have h1:¬(j:Int)<((l.map Rep.d).length:Int):=by simp;omega
   rw[W_law13_Same_1_eq]
   simp only[D.toInt_int,D.toL_agg,h1,decide_false,Bool.false_eq_true,if_false]
  |succ d ih=>
   intro j hj
   have hlt:j<l.length:=by omega
   have h1:(j:Int)<((l.map Rep.d).length:Int):=by simp;omega
   have h2:(j:Int)≥0:=by omega
   have hg:(l.map Rep.d).getD j D.nil=.agg (l[j]).ds:=by
    rw[List.getD_eq_getElem?_getD,List.getElem?_map,List.getElem?_eq_getElem hlt];rfl
   have hs:=same_eq l[j] (hr _ (List.getElem_mem hlt))
   rw[W_law13_Same_1_eq]
   simp only[D.toInt_int,D.toL_agg,h1,h2,decide_true,if_true,Int.toNat_natCast,hg,Rep.len,Rep.get0,Rep.get1,Rep.get2,Rep.get3,Rep.get4,Rep.get5,Rep.get6,Rep.get7,Rep.get8,Rep.get9,Rep.get10,Rep.get11,Rep.get12,hs,bindC_some,List.length_cons,List.length_nil,List.getD_cons_zero,D.toBool_bool,Bool.not_true,Bool.false_eq_true,if_false]
   rw[i64w _ (by omega) (by omega)]
   exact ih (j+1) (by omega)
 rw[E_law13_Same]
 have h0:(((l.map Rep.d).length:Int) != ((l.map Rep.d).length:Int))=false:=by simp
 simp only[D.toL_agg,h0,Bool.false_eq_true,if_false]
 exact key l.length 0 (by omega)
theorem log_eq(l:List D)(hl:l.length≤1000000):FX 16 [.agg l,.agg l]=some [.bool true]:=by
 have key:∀(d j:Nat),j+d=l.length→W_gloamingtop_log_1 (.agg l) (.agg l) [.int (j:Nat)]=some [.bool true]:=by
  intro d
  induction d with
  |zero=>
   intro j hj
   have h1:¬(j:Int)<(l.length:Int):=by omega
   rw[W_gloamingtop_log_1_eq]
   simp only[D.toInt_int,D.toL_agg,h1,decide_false,Bool.false_eq_true,if_false]
  |succ d ih=>
   intro j hj
   have h1:(j:Int)<(l.length:Int):=by omega
   have h2:(j:Int)≥0:=by omega
   rw[W_gloamingtop_log_1_eq]
   simp only[D.toInt_int,D.toL_agg,h1,h2,decide_true,if_true,beq_self_eq_true,Bool.and_self,Bool.not_true,Bool.false_eq_true,if_false]
   rw[i64w _ (by omega) (by omega)]
   exact ih (j+1) (by omega)
 rw[E_gloamingtop_log]
 have h0:((l.length:Int) != (l.length:Int))=false:=by simp
 simp only[D.toL_agg,h0,Bool.false_eq_true,if_false]
 exact key l.length 0 (by omega)
theorem all_eq'(es:List PEv)(hes:es.length≤100000):FX 65 [.agg (es.map PEv.d)]=some [.agg (es.map PEv.d)]:=by
 have key:∀(d j:Nat),j+d=es.length→W_law13_All_1 (.agg (es.map PEv.d)) [.int (j:Nat),.agg ((es.take j).map PEv.d)]=some [.agg (es.map PEv.d)]:=by
  intro d
  induction d with
  |zero=>
   intro j hj
   have h1:¬(j:Int)<((es.map PEv.d).length:Int):=by simp;omega
   rw[W_law13_All_1_eq,List.take_of_length_le (by omega)]
   simp only[D.toInt_int,D.toL_agg,h1,decide_false,Bool.false_eq_true,if_false]
  |succ d ih=>
   intro j hj
   have hlt:j<es.length:=by omega
   have h1:(j:Int)<((es.map PEv.d).length:Int):=by simp;omega
   have h2:(j:Int)≥0:=by omega
   have ih':=ih (j+1) (by omega)
   have htk:es.take (j+1)=es.take j++[es[j]]:=List.take_succ_eq_append_getElem hlt
   rw[htk]at ih'
   obtain⟨g0,g1,g2,g3,g4,g5,g6,g7,g8,g9,g10,g11⟩:=PEv.gets es[j]
   have e2:(es.take j).map PEv.d++[D.agg [.int es[j].kind,.int es[j].who,.int es[j].n,.int es[j].ask.kind,.int es[j].ask.id,.int es[j].ask.cell,.int es[j].ask.tm.name,.int es[j].ask.tm.side,.int es[j].ask.tm.price,.int es[j].ask.tm.least,.int es[j].ask.tm.till,.int es[j].ask.qty]]=(es.take j++[es[j]]).map PEv.d:=by rw[List.map_append];rfl
   have e3:(((es.take j++[es[j]]).map PEv.d).length:Int)≤1466015503701:=by simp;omega
   rw[W_law13_All_1_eq]
   simp only[D.toInt_int,D.toL_agg,h1,h2,decide_true,if_true,Int.toNat_natCast,pev_get hlt,g0,g1,g2,g3,g4,g5,g6,g7,g8,g9,g10,g11,E_law13_To,E_law11_To,bindC_some,List.length_cons,List.length_nil,List.getD_cons_zero,List.getD_cons_succ,e2,e3]
   rw[i64w _ (by omega) (by omega)]
   exact ih'
 rw[E_law13_All]
 exact key es.length 0 (by omega)
theorem Enc.fr{G L:List D}{lab:Nat→Nat}{pl w m k:Nat}{za swa rea:List Nat}{P:Pool}(E:Enc G L lab pl w m k za swa rea P):Fr G L (fun _=>False):=⟨E.gl,fun b hb _=>(E.pre b hb).2⟩
theorem prun_eq(c:Cf)(hc:c.ok)(es:List PEv)(hes:es.length≤10000)(hw:∀e ∈ es,e.wf)(mx:Int)(hmx:(es.length:Int)≤mx)(L:List D):
  ∃L' lab pl w m k za swa rea,FX 31 [.int c.c0,.int c.c1,.int c.c2,.int c.c3,.int c.c4,.int c.c5,.int c.c6,.agg (es.map PEv.d),.int mx,.agg L]=some [.int (pl:Nat),.agg L']∧Enc L L' lab pl w m k za swa rea (runP (newP c) es)∧PoolAt (runP (newP c) es) es.length:=by
 obtain⟨L1,lab1,pl,w,m,k,za,swa,rea,n1,E1⟩:=pnew_eq c hc L
 obtain⟨L2,lab2,n2,E2,P2⟩:=run_eq E1 (pnew_at c hc) es hw (by omega)
 have h1:¬((es.map PEv.d).length:Int)>mx:=by simp;omega
 refine⟨L2,lab2,pl,w,m,k,za,swa,rea,?_,E2,by rw[Nat.zero_add]at P2;exact P2⟩
 rw[E_law13_Run]
 simp only[n1,bindC_some,List.length_cons,List.length_nil,List.getD_cons_zero,List.getD_cons_succ,nilI,nilN,Bool.not_true,Bool.false_eq_true,if_false,D.toInt_int,D.toL_agg,h1,decide_false,all_eq' es (by omega),n2]
end Go.Proofs.YtngflpppkicnaaaGreat.P
