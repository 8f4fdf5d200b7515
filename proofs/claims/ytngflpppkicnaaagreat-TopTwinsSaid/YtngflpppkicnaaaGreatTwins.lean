import Derived.Test.YtngflpppkicnaaaGreatPoolAw
import Derived.Test.YtngflpppkicnaaaGreatCfgR
import Derived.Test.YtngflpppkicnaaaGreatOpenS
import Derived.Test.YtngflpppkicnaaaGreatProg
namespace Go.Proofs.YtngflpppkicnaaaGreat.P
open Go.RowKit Go.Proofs.YtngflpppkicnaaaGreat.Eng Go.Proofs.YtngflpppkicnaaaGreat Go.Proofs.YtngflpppkicnaaaGreat.Dat Go.Proofs.YtngflpppkicnaaaGreat.FDat
set_option linter.unusedVariables false
set_option linter.unusedSimpArgs false
set_option linter.unusedSectionVars false
set_option maxRecDepth 10000
theorem may10_eq(c:Cf):FX 30 [.int c.c0,.int c.c1,.int c.c2,.int c.c3,.int c.c4,.int c.c5,.int c.c6]=some [.bool (RU.firstBad c.lims 0).isNone]:=by
 have h:FX 62 [.int c.c0,.int c.c1,.int c.c2,.int c.c3,.int c.c4,.int c.c5,.int c.c6]=some [.int (match RU.firstBad c.lims 0 with|none=>-1|some (j,_)=>j)]:=RU.check_step c
 rw[E_ref10_May,h]
 simp only[bindC_some,List.length_cons,List.length_nil,List.getD_cons_zero,D.toInt_int]
 cases RU.firstBad c.lims 0 with
 |none=>rfl
 |some x=>
  obtain⟨j,e⟩:=x
  have:¬((j:Int)<0):=by omega
  simp[this]
theorem may_ok'{c:Cf}(hc:c.ok):(RU.firstBad c.lims 0).isNone=true:=by rw[(RU.firstBad_none c).2 hc];rfl
theorem may_not{c:Cf}(hc:¬c.ok):(RU.firstBad c.lims 0).isNone=false:=by
 cases h:RU.firstBad c.lims 0 with
 |none=>exact absurd ((RU.firstBad_none c).1 h) hc
 |some x=>rfl
theorem tmay_eq(c:Cf)(l:List D)(n:Int):FX 12 [.int c.c0,.int c.c1,.int c.c2,.int c.c3,.int c.c4,.int c.c5,.int c.c6,.agg l,.int n]=some [.bool ((RU.firstBad c.lims 0).isNone&&decide ((l.length:Int)≤n))]:=by
 rw[E_gloamingtop_may,may10_eq]
 simp only[bindC_some,List.length_cons,List.length_nil,List.getD_cons_zero,D.toBool_bool,D.toL_agg,D.toInt_int]
 cases (RU.firstBad c.lims 0).isNone
 ·rfl
 ·simp only[if_true,Bool.true_and];rfl
theorem tawake_eq(L:List D):∃L',FX 11 [.agg L]=some [.bool true,.agg L']∧Fr L L' (fun _=>False):=by
 obtain⟨L',h,F⟩:=Awake_ok L
 refine⟨L',?_,F⟩
 rw[E_gloamingtop_awake,h]
 simp only[bindC_some,List.length_cons,List.length_nil,List.getD_cons_zero,List.getD_cons_succ]
theorem trun_eq(c:Cf)(hc:c.ok)(es:List PEv)(mx:Int)(hes:(es.length:Int)≤mx)(hmx:mx≤10000)(hw:∀e ∈ es,e.wf)(L:List D):
  ∃L' lab pl w m k za swa rea,FX 10 [.int c.c0,.int c.c1,.int c.c2,.int c.c3,.int c.c4,.int c.c5,.int c.c6,.agg (es.map PEv.d),.int mx,.agg L]=some [.int (pl:Nat),.agg L']∧Enc L L' lab pl w m k za swa rea (runP (newP c) es)∧PoolAt (runP (newP c) es) es.length:=by
 obtain⟨L',lab,pl,w,m,k,za,swa,rea,h,E,P⟩:=prun_eq c hc es (by omega) hw mx hes L
 have h1:¬((es.map PEv.d).length:Int)>mx:=by simp;omega
 refine⟨L',lab,pl,w,m,k,za,swa,rea,?_,E,P⟩
 rw[E_gloamingtop_run,may10_eq,may_ok' hc]
 simp only[bindC_some,List.length_cons,List.length_nil,List.getD_cons_zero,List.getD_cons_succ,D.toBool_bool,Bool.not_true,Bool.false_eq_true,if_false,D.toL_agg,D.toInt_int,h1,decide_false,h]
theorem Enc.far{G L L':List D}{lab:Nat→Nat}{pl w m k:Nat}{za swa rea:List Nat}{P:Pool}(E:Enc G L lab pl w m k za swa rea P)(F:Fr L L' (fun _=>False)):Enc G L' (labN lab 0 L) pl w m k za swa rea P:=
 E.base F (E.W.fr F not_false not_false not_false) (F.get E.pool not_false) (fun b _ h=>h.elim) rfl rfl rfl
theorem run_c(c:Cf)(es:List PEv):∀P:Pool,P.S.c=c→(∀n,PoolAt P n→n+es.length≤100000→(∀e ∈ es,e.wf)→(runP P es).S.c=c):=by
 induction es with
 |nil=>intro P h n _ _ _;exact h
 |cons e es ih=>
  intro P h n hP hn hw
  have hP1:=do_ok hP (by simp at hn;omega) e (hw e (List.mem_cons_self ..))
  refine ih _ ?_ (n+1) hP1 (by simp at hn;omega) (fun e' he=>hw e' (List.mem_cons_of_mem _ he))
  show(doP P e).2.S.c=c
  unfold doP
  split
  ·exact h
  split
  ·have:=(pick_ok (got_ok hP.ok) (by simp at hn;omega) e.who).w.c
   show(pickP P.got e.who).2.S.c=c
   rw[this];exact h
  split
  ·split
   ·split<;>exact h
   split
   ·split<;>exact h
   ·exact h
  ·exact h
theorem twins(c:Cf)(es:List PEv)(hw:∀e ∈ es,e.wf):FX 5 [.int c.c0,.int c.c1,.int c.c2,.int c.c3,.int c.c4,.int c.c5,.int c.c6,.agg (es.map PEv.d)]=some [.bool true]:=by
 rw[E_gloamingtop_TopTwins,tmay_eq]
 simp only[bindC_some,List.length_cons,List.length_nil,List.getD_cons_zero,D.toBool_bool,List.length_map]
 by_cases hm:c.ok∧(es.length:Int)≤900
 ·obtain⟨hc,hes⟩:=hm
  rw[may_ok' hc]
  simp only[hes,decide_true,Bool.and_self,Bool.not_true,Bool.false_eq_true,if_false]
  obtain⟨L1,lab1,p1,w1,m1,k1,z1,s1,r1,n1,E1,P1⟩:=trun_eq c hc es 900 hes (by decide) hw []
  obtain⟨L2,lab2,p2,w2,m2,k2,z2,s2,r2,n2,E2,P2⟩:=trun_eq c hc es 900 hes (by decide) hw L1
  obtain⟨L3,n3,F3⟩:=tawake_eq L2
  have E1':=E1.far E2.fr
  have E1'':=E1'.far F3
  have E2'':=E2.far F3
  have hPc:=run_c c es (newP c) rfl 0 (pnew_at c hc) (by omega) hw
  generalize runP (newP c) es=P at*
  have a0:∀w za sa ra,(P.raw w za sa ra).w=w:=fun _ _ _ _=>rfl
  have v1:=words_eq' E1' P1.ok (by omega)
  have v2:=words_eq' E2 P2.ok (by omega)
  have hwl:=P1.ok.S.len
  have hc0:=hc.1
  simp only[n1,n2,bindC_some,List.length_cons,List.length_nil,List.getD_cons_zero,List.getD_cons_succ,J_gloamingtop_TopTwins_1_eq,nilI,Bool.false_eq_true,if_false,Bool.not_false,if_true,D.toL_agg,D.toInt_int,Int.toNat_natCast,E1'.pool,E2.pool,PoolS.get0,a0,E1'.W.w,E2.W.w,WorldS.get7,v1,v2,bne_self_eq_false]
  have loop3:∀(x8 x13 x14 x15:D) (g0:Eng.Fn) (d j:Nat),(j+d:Int)=c.c0→W_gloamingtop_TopTwins_3 (.int c.c0) (.int c.c1) (.int c.c2) (.int c.c3) (.int c.c4) (.int c.c5) (.int c.c6) (.agg (es.map PEv.d)) x8 (.int (p1:Nat)) (.agg L1) (.int (p2:Nat)) (.agg L2) x13 x14 x15 g0 [.int (j:Nat)]=some [.bool true]:=by
   intro x8 x13 x14 x15 g0 d
   induction d with
   |zero=>
    intro j hj
    have h1:¬(j:Int)<c.c0:=by omega
    have e1:=events_eq E1'' P1.ok (by omega)
    have e2:=events_eq E2'' P2.ok (by omega)
    have e3:=log_eq (P.S.log.map Ev.d) (by have:=P1.ok.log;simp;omega)
    rw[W_gloamingtop_TopTwins_3_eq]
    simp only[D.toInt_int,h1,decide_false,Bool.false_eq_true,if_false,n3,bindC_some,List.length_cons,List.length_nil,List.getD_cons_zero,List.getD_cons_succ,D.toBool_bool,if_true,e1,e2,e3]
   |succ d ih=>
    intro j hj
    have h1:(j:Int)<c.c0:=by omega
    have q1:=replies_eq E1' P1.ok (by omega) (j:Nat)
    have q2:=replies_eq E2 P2.ok (by omega) (j:Nat)
    have hrl:(repliesF P (j:Nat)).length≤1000000:=by
     have:=P1.ok.outs
     have h3:=List.length_filter_le (fun o:Out=>o.part == ((j:Nat):Int)) P.outs
     simp[repliesF];omega
    have q3:=sames_eq (repliesF P (j:Nat)) hrl (fun r hr=>by
     obtain⟨o,ho,rfl⟩:=List.mem_map.1 hr
     have:=P1.ok.reps o (List.mem_filter.1 ho).1
     omega)
    rw[W_gloamingtop_TopTwins_3_eq]
    simp only[D.toInt_int,h1,decide_true,if_true,q1,q2,bindC_some,List.length_cons,List.length_nil,List.getD_cons_zero,q3,D.toBool_bool,Bool.not_true,Bool.false_eq_true,if_false]
    rw[i64w _ (by omega) (by omega)]
    exact ih (j+1) (by omega)
  have loop2:∀(x8:D) (d j:Nat),j+d=P.S.words.length→W_gloamingtop_TopTwins_2 (.int c.c0) (.int c.c1) (.int c.c2) (.int c.c3) (.int c.c4) (.int c.c5) (.int c.c6) (.agg (es.map PEv.d)) x8 (.int (p1:Nat)) (.agg L1) (.int (p2:Nat)) (.agg L2) (.agg (P.S.words.map wN)) (.agg (P.S.words.map wN)) [.int (j:Nat)]=some [.bool true]:=by
   intro x8 d
   induction d with
   |zero=>
    intro j hj
    have h1:¬(j:Int)<((P.S.words.map wN).length:Int):=by simp;omega
    rw[W_gloamingtop_TopTwins_2_eq]
    simp only[D.toInt_int,D.toL_agg,h1,decide_false,Bool.false_eq_true,if_false]
    exact loop3 _ _ _ _ _ c.c0.toNat 0 (by omega)
   |succ d ih=>
    intro j hj
    have h1:(j:Int)<((P.S.words.map wN).length:Int):=by simp;omega
    have h2:(j:Int)≥0:=by omega
    rw[W_gloamingtop_TopTwins_2_eq]
    simp only[D.toInt_int,D.toL_agg,h1,h2,decide_true,if_true,bne_self_eq_false,Bool.false_eq_true,if_false]
    rw[i64w _ (by omega) (by omega)]
    exact ih (j+1) (by omega)
  exact loop2 _ P.S.words.length 0 (by omega)
 ·have hb:((RU.firstBad c.lims 0).isNone&&decide ((es.length:Int)≤900))=false:=by
   by_cases hc:c.ok
   ·have:¬(es.length:Int)≤900:=fun h=>hm ⟨hc,h⟩
    simp[this]
   ·rw[may_not hc];rfl
  obtain⟨L',h,_⟩:=tawake_eq []
  rw[hb]
  simp only[Bool.not_false,if_true,h,bindC_some,List.length_cons,List.length_nil,List.getD_cons_zero]
theorem In.of{x:Int}(h:(Lit.int .i64 x).wf=true):In x:=by
 unfold In
 simp[Lit.wf,IntKind.min,IntKind.max,IntKind.bits,IntKind.signed]at h
 omega
def i12:List Ty:=[.int .i64,.int .i64,.int .i64,.int .i64,.int .i64,.int .i64,.int .i64,.int .i64,.int .i64,.int .i64,.int .i64,.int .i64]
theorem ev_of{ys:List D}(h:Open.AllF Tryz.prog i12 ys):∃e:PEv,D.agg ys=e.d∧e.wf:=by
 obtain⟨_,_,rfl,h0,_,_,rfl,h1,_,_,rfl,h2,_,_,rfl,h3,_,_,rfl,h4,_,_,rfl,h5,_,_,rfl,h6,_,_,rfl,h7,_,_,rfl,h8,_,_,rfl,h9,_,_,rfl,h10,_,_,rfl,h11,h⟩:=h
 obtain⟨a0,rfl,v0⟩:=h0.toInt
 obtain⟨a1,rfl,v1⟩:=h1.toInt
 obtain⟨a2,rfl,v2⟩:=h2.toInt
 obtain⟨a3,rfl,v3⟩:=h3.toInt
 obtain⟨a4,rfl,v4⟩:=h4.toInt
 obtain⟨a5,rfl,v5⟩:=h5.toInt
 obtain⟨a6,rfl,v6⟩:=h6.toInt
 obtain⟨a7,rfl,v7⟩:=h7.toInt
 obtain⟨a8,rfl,v8⟩:=h8.toInt
 obtain⟨a9,rfl,v9⟩:=h9.toInt
 obtain⟨a10,rfl,v10⟩:=h10.toInt
 obtain⟨a11,rfl,v11⟩:=h11.toInt
 have h:_=[]:=h
 subst h
 refine⟨⟨a0,a1,a2,⟨a3,a4,a5,⟨a6,a7,a8,a9,a10⟩,a11⟩⟩,rfl,.of v1,.of v2,fun z hz=>?_⟩
 simp only[Tm.vs,List.mem_cons,List.not_mem_nil,or_false]at hz
 rcases hz with rfl|rfl|rfl|rfl|rfl
 ·exact .of v6
 ·exact .of v7
 ·exact .of v8
 ·exact .of v9
 ·exact .of v10
theorem cf_of{x0:List D}(h:Open.AllF Tryz.prog [.int .i64,.int .i64,.int .i64,.int .i64,.int .i64,.int .i64,.int .i64] x0):∃c:Cf,x0=[.int c.c0,.int c.c1,.int c.c2,.int c.c3,.int c.c4,.int c.c5,.int c.c6]:=by
 obtain⟨_,_,rfl,h0,_,_,rfl,h1,_,_,rfl,h2,_,_,rfl,h3,_,_,rfl,h4,_,_,rfl,h5,_,_,rfl,h6,h⟩:=h
 obtain⟨a0,rfl,v0⟩:=h0.toInt
 obtain⟨a1,rfl,v1⟩:=h1.toInt
 obtain⟨a2,rfl,v2⟩:=h2.toInt
 obtain⟨a3,rfl,v3⟩:=h3.toInt
 obtain⟨a4,rfl,v4⟩:=h4.toInt
 obtain⟨a5,rfl,v5⟩:=h5.toInt
 obtain⟨a6,rfl,v6⟩:=h6.toInt
 have h:_=[]:=h
 subst h
 exact⟨⟨a0,a1,a2,a3,a4,a5,a6⟩,rfl⟩
theorem twins_law(x0:List D)(x1:D)(w0:Open.AllF Tryz.prog [.int .i64,.int .i64,.int .i64,.int .i64,.int .i64,.int .i64,.int .i64] x0)(w1:Open.Wf Tryz.prog (.slice 58) x1):FX 5 (x0++[x1])=some [.bool true]:=by
 obtain⟨c,rfl⟩:=cf_of w0
 obtain⟨es,rfl,_,hw⟩:=w1.structs (f:=PEv.d) (Q:=PEv.wf) (ts:=i12) (by kernel_rfl) (by decide) (fun ys hy=>ev_of hy)
 exact twins c es hw
end Go.Proofs.YtngflpppkicnaaaGreat.P
