import Derived.Test.YtcgcpjajghdbpaaGreatPoolAw
import Derived.Test.YtcgcpjajghdbpaaGreatCfgR
import Derived.Test.YtcgcpjajghdbpaaGreatOpenS
import Derived.Test.YtcgcpjajghdbpaaGreatProg
namespace Go.Proofs.YtcgcpjajghdbpaaGreat.P
open Go.RowKit Go.Proofs.YtcgcpjajghdbpaaGreat.Eng Go.Proofs.YtcgcpjajghdbpaaGreat Go.Proofs.YtcgcpjajghdbpaaGreat.Dat Go.Proofs.YtcgcpjajghdbpaaGreat.FDat
set_option linter.unusedVariables false
set_option linter.unusedSimpArgs false
set_option linter.unusedSectionVars false
set_option maxRecDepth 10000
theorem C0e(c:Cf):FX 8 [.int c.c0,.int c.c1,.int c.c2,.int c.c3,.int c.c4,.int c.c5,.int c.c6]=some [.bool (RU.firstBad c.lims 0).isNone]:=by
 have h:FX 12 [.int c.c0,.int c.c1,.int c.c2,.int c.c3,.int c.c4,.int c.c5,.int c.c6]=some [.int (match RU.firstBad c.lims 0 with|none=>-1|some (j,_)=>j)]:=RU.check_step c
 rw[D0m,h]
 simp only[A0b,List.length_cons,List.length_nil,List.getD_cons_zero,D.toInt_int]
 cases RU.firstBad c.lims 0 with
 |none=>rfl
 |some x=>
  obtain⟨j,e⟩:=x
  have:¬((j:Int)<0):=by omega
  simp[this]
theorem D2g{c:Cf}(hc:c.ok):(RU.firstBad c.lims 0).isNone=true:=by rw[(RU.firstBad_none c).2 hc];rfl
theorem D2d{c:Cf}(hc:¬c.ok):(RU.firstBad c.lims 0).isNone=false:=by
 cases h:RU.firstBad c.lims 0 with
 |none=>exact absurd ((RU.firstBad_none c).1 h) hc
 |some x=>rfl
theorem E1y(c:Cf)(l:List D)(n:Int):FX 6 [.int c.c0,.int c.c1,.int c.c2,.int c.c3,.int c.c4,.int c.c5,.int c.c6,.agg l,.int n]=some [.bool ((RU.firstBad c.lims 0).isNone&&decide ((l.length:Int)≤n))]:=by
 rw[B8v,C0e]
 simp only[A0b,List.length_cons,List.length_nil,List.getD_cons_zero,D.toBool_bool,D.toL_agg,D.toInt_int]
 cases (RU.firstBad c.lims 0).isNone
 ·rfl
 ·simp only[if_true,Bool.true_and];rfl
theorem C4u(L:List D):∃L',FX 5 [.agg L]=some [.bool true,.agg L']∧Fr L L' (fun _=>False):=by
 obtain⟨L',h,F⟩:=E0o L
 refine⟨L',?_,F⟩
 rw[B5y,h]
 simp only[A0b,List.length_cons,List.length_nil,List.getD_cons_zero,List.getD_cons_succ]
theorem E2v(c:Cf)(hc:c.ok)(es:List PEv)(mx:Int)(hes:(es.length:Int)≤mx)(hmx:mx≤10000)(hw:∀e ∈ es,e.wf)(L:List D):
  ∃L' lab pl w m k za swa rea,FX 4 [.int c.c0,.int c.c1,.int c.c2,.int c.c3,.int c.c4,.int c.c5,.int c.c6,.agg (es.map PEv.d),.int mx,.agg L]=some [.int (pl:Nat),.agg L']∧Enc L L' lab pl w m k za swa rea (runP (newP c) es)∧PoolAt (runP (newP c) es) es.length:=by
 obtain⟨L',lab,pl,w,m,k,za,swa,rea,h,E,P⟩:=E3b c hc es (by omega) hw mx hes L
 have h1:¬((es.map PEv.d).length:Int)>mx:=by simp;omega
 refine⟨L',lab,pl,w,m,k,za,swa,rea,?_,E,P⟩
 rw[A8w,C0e,D2g hc]
 simp only[A0b,List.length_cons,List.length_nil,List.getD_cons_zero,List.getD_cons_succ,D.toBool_bool,Bool.not_true,Bool.false_eq_true,if_false,D.toL_agg,D.toInt_int,h1,decide_false,h]
theorem E3r{c:Cf}{es:List PEv}(hm:¬(c.ok∧(es.length:Int)≤900)):((RU.firstBad c.lims 0).isNone&&decide ((es.length:Int)≤900))=false:=by
 by_cases hc:c.ok
 ·have:¬(es.length:Int)≤900:=fun h=>hm ⟨hc,h⟩
  simp[this]
 ·rw[D2d hc];rfl
theorem E2o(c:Cf)(es:List PEv)(hm:¬(c.ok∧(es.length:Int)≤900))(L:List D):
  FX 4 [.int c.c0,.int c.c1,.int c.c2,.int c.c3,.int c.c4,.int c.c5,.int c.c6,.agg (es.map PEv.d),.int 900,.agg L]=some [.nil,.agg L]:=by
 rw[A8w,C0e]
 by_cases hc:c.ok
 ·have h1:((es.map PEv.d).length:Int)>900:=by have:¬(es.length:Int)≤900:=fun h=>hm ⟨hc,h⟩;simp;omega
  simp only[D2g hc,A0b,List.length_cons,List.length_nil,List.getD_cons_zero,D.toBool_bool,Bool.not_true,Bool.false_eq_true,if_false,D.toL_agg,D.toInt_int,h1,decide_true,if_true]
 ·simp only[D2d hc,A0b,List.length_cons,List.length_nil,List.getD_cons_zero,D.toBool_bool,Bool.not_false,if_true]
theorem Enc.far{G L L':List D}{lab:Nat→Nat}{pl w m k:Nat}{za swa rea:List Nat}{P:Pool}(E:Enc G L lab pl w m k za swa rea P)(F:Fr L L' (fun _=>False)):Enc G L' (labN lab 0 L) pl w m k za swa rea P:=
 E.base F (E.W.fr F not_false not_false not_false) (F.get E.pool not_false) (fun b _ h=>h.elim) rfl rfl rfl
theorem run_c(c:Cf)(es:List PEv):∀P:Pool,P.S.c=c→(∀n,PoolAt P n→n+es.length≤100000→(∀e ∈ es,e.wf)→(runP P es).S.c=c):=by
 induction es with
 |nil=>intro P h n _ _ _;exact h
 |cons e es ih=>
  intro P h n hP hn hw
  have hP1:=do_ok hP (by simp at hn;omega) e (hw e (List.mem_cons_self ..))
  refine ih _ ?_ (n+1) hP1 (by simp at hn;omega) (fun e' he=>hw e' (List.mem_cons_of_mem _ he))
  show(doP P e).2.S.c=c
  unfold doP
  split
  ·exact h
  split
  ·have:=(B8n (B7x hP.ok) (by simp at hn;omega) e.who).w.c
   show(pickP P.got e.who).2.S.c=c
   rw[this];exact h
  split
  ·split
   ·split<;>exact h
   split
   ·split<;>exact h
   ·exact h
  ·exact h
theorem In.of{x:Int}(h:(Lit.int .i64 x).wf=true):In x:=by
 unfold In
 simp[Lit.wf,IntKind.min,IntKind.max,IntKind.bits,IntKind.signed]at h
 omega
def i12:List Ty:=[.int .i64,.int .i64,.int .i64,.int .i64,.int .i64,.int .i64,.int .i64,.int .i64,.int .i64,.int .i64,.int .i64,.int .i64]
theorem ev_of{ys:List D}(h:Open.AllF Tryz.prog i12 ys):∃e:PEv,D.agg ys=e.d∧e.wf:=by
 obtain⟨_,_,rfl,h0,_,_,rfl,h1,_,_,rfl,h2,_,_,rfl,h3,_,_,rfl,h4,_,_,rfl,h5,_,_,rfl,h6,_,_,rfl,h7,_,_,rfl,h8,_,_,rfl,h9,_,_,rfl,h10,_,_,rfl,h11,h⟩:=h
 obtain⟨a0,rfl,v0⟩:=h0.toInt
 obtain⟨a1,rfl,v1⟩:=h1.toInt
 obtain⟨a2,rfl,v2⟩:=h2.toInt
 obtain⟨a3,rfl,v3⟩:=h3.toInt
 obtain⟨a4,rfl,v4⟩:=h4.toInt
 obtain⟨a5,rfl,v5⟩:=h5.toInt
 obtain⟨a6,rfl,v6⟩:=h6.toInt
 obtain⟨a7,rfl,v7⟩:=h7.toInt
 obtain⟨a8,rfl,v8⟩:=h8.toInt
 obtain⟨a9,rfl,v9⟩:=h9.toInt
 obtain⟨a10,rfl,v10⟩:=h10.toInt
 obtain⟨a11,rfl,v11⟩:=h11.toInt
 have h:_=[]:=h
 subst h
 refine⟨⟨a0,a1,a2,⟨a3,a4,a5,⟨a6,a7,a8,a9,a10⟩,a11⟩⟩,rfl,.of v1,.of v2,fun z hz=>?_⟩
 simp only[Tm.vs,List.mem_cons,List.not_mem_nil,or_false]at hz
 rcases hz with rfl|rfl|rfl|rfl|rfl
 ·exact .of v6
 ·exact .of v7
 ·exact .of v8
 ·exact .of v9
 ·exact .of v10
theorem cf_of{x0:List D}(h:Open.AllF Tryz.prog [.int .i64,.int .i64,.int .i64,.int .i64,.int .i64,.int .i64,.int .i64] x0):∃c:Cf,x0=[.int c.c0,.int c.c1,.int c.c2,.int c.c3,.int c.c4,.int c.c5,.int c.c6]:=by
 obtain⟨_,_,rfl,h0,_,_,rfl,h1,_,_,rfl,h2,_,_,rfl,h3,_,_,rfl,h4,_,_,rfl,h5,_,_,rfl,h6,h⟩:=h
 obtain⟨a0,rfl,v0⟩:=h0.toInt
 obtain⟨a1,rfl,v1⟩:=h1.toInt
 obtain⟨a2,rfl,v2⟩:=h2.toInt
 obtain⟨a3,rfl,v3⟩:=h3.toInt
 obtain⟨a4,rfl,v4⟩:=h4.toInt
 obtain⟨a5,rfl,v5⟩:=h5.toInt
 obtain⟨a6,rfl,v6⟩:=h6.toInt
 have h:_=[]:=h
 subst h
 exact⟨⟨a0,a1,a2,a3,a4,a5,a6⟩,rfl⟩
end Go.Proofs.YtcgcpjajghdbpaaGreat.P
