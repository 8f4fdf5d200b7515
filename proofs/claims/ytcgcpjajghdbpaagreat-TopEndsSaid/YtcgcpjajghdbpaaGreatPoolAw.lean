import Derived.Test.YtcgcpjajghdbpaaGreatPoolZ
import Derived.Test.YtcgcpjajghdbpaaGreatRun
import Derived.KernelRfl
namespace Go.Proofs.YtcgcpjajghdbpaaGreat.P
open Go.RowKit Go.Proofs.YtcgcpjajghdbpaaGreat.Eng Go.Proofs.YtcgcpjajghdbpaaGreat Go.Proofs.YtcgcpjajghdbpaaGreat.Dat Go.Proofs.YtcgcpjajghdbpaaGreat.FDat
set_option linter.unusedVariables false
set_option linter.unusedSimpArgs false
set_option linter.unusedSectionVars false
set_option maxRecDepth 10000
def exC:Cf:=⟨2,1,1,1,0,1,1⟩
theorem B8k:exC.ok:=by unfold RU.Cf.ok exC;decide
def exLine:PEv:=⟨1,0,0,⟨1,1,0,⟨0,0,5,1,9⟩,4⟩⟩
def exPick:PEv:=⟨3,0,0,⟨0,0,0,.zero,0⟩⟩
theorem In.z(z:Int)(h:decide (-1000≤z)&&decide (z≤1000)=true):In z:=by
 simp only[Bool.and_eq_true,decide_eq_true_eq]at h
 exact In.lit (by omega)
theorem C5x:exLine.wf:=⟨.z _ rfl,.z _ rfl,fun z hz=>by
 simp only[Tm.vs,exLine,List.mem_cons,List.not_mem_nil,or_false]at hz
 rcases hz with rfl|rfl|rfl|rfl|rfl<;>exact .z _ rfl⟩
theorem B8d:exPick.wf:=⟨.z _ rfl,.z _ rfl,fun z hz=>by
 simp only[Tm.vs,exPick,Tm.zero,List.mem_cons,List.not_mem_nil,or_false]at hz
 rcases hz with rfl|rfl|rfl|rfl|rfl<;>exact .z _ rfl⟩
def picks:Nat→Bool × Pool→Bool × Pool
 |0,x=>x
 |n+1,(ok,P)=>picks n (ok&&(doP P exPick).1,(doP P exPick).2)
def idleS(x:Sess):Bool:=(match x.now with|none=>true|some _=>false)&&x.queue.isEmpty
def restsF(P:Pool)(i:Int):Bool:=if i<0 then true else if i≥P.sess.length then true else match P.sess[i.toNat]? with
 |some x=>idleS x
 |none=>true
def oneOk:List Rep→Bool
 |[r]=>r.code == 0
 |_=>false
def awakeF:Bool:=(picks 37 (doP (newP exC) exLine)).1&&oneOk (repliesF (picks 37 (doP (newP exC) exLine)).2 0)&&restsF (picks 37 (doP (newP exC) exLine)).2 0&&!(doP (picks 37 (doP (newP exC) exLine)).2 exPick).1
section
variable{G L:List D}{lab:Nat→Nat}{pl w m k:Nat}{za swa rea:List Nat}{P:Pool}{n:Nat}(E:Enc G L lab pl w m k za swa rea P)
include E
theorem E0w(i:Int):FX 27 [.int (pl:Nat),.int i,.agg L]=some [.bool (restsF P i)]:=by
 have e1:(ptrL za).length=P.sess.length:=by rw[←E.zl];simp[ptrL]
 have g1:(P.raw (.int (w:Nat)) (ptrL za) (ptrL swa) (ptrL rea)).sess=ptrL za:=rfl
 rw[B7w]
 simp only[HH,E.pool,PoolS.get1,g1,e1]
 unfold restsF
 by_cases c0:i<0
 ·simp only[c0,decide_true,if_true]
 by_cases c1:i≥P.sess.length
 ·simp only[c0,c1,decide_true,decide_false,Bool.false_eq_true,if_false,if_true]
 have hlt:i.toNat<P.sess.length:=by omega
 obtain⟨x,hx⟩:∃x,P.sess[i.toNat]?=some x:=⟨_,List.getElem?_eq_getElem hlt⟩
 obtain⟨z,hz⟩:∃z,za[i.toNat]?=some z:=⟨_,List.getElem?_eq_getElem (by rw[E.zl];exact hlt)⟩
 obtain⟨s,a,q,now,h1,h2,h3,_⟩:=E.ss _ x z hx hz
 have j1:i≥0:=by omega
 have j2:i<(P.sess.length:Int):=by omega
 have y1:(x.raw (.int (s:Nat)) now).now=now:=rfl
 have y2:(x.raw (.int (s:Nat)) now).queue=x.queue:=rfl
 have hqlen:(x.queue.map Qe.d).length=x.queue.length:=List.length_map ..
 simp only[c0,c1,decide_false,Bool.false_eq_true,if_false,j1,j2,decide_true,if_true,B3n hz,HH,h1,SessS.get1,SessS.get2,y1,y2,hqlen,hx]
 unfold idleS
 cases hn:x.now with
 |some y=>
  obtain⟨pr,o⟩:=y
  rw[hn]at h3
  rw[h3.1]
  simp only[nilI,Bool.false_eq_true,if_false,Bool.false_and]
 |none=>
  rw[hn]at h3
  dsimp only at h3
  rw[h3]
  simp only[nilN,if_true,Bool.true_and]
  cases x.queue with
  |nil=>rfl
  |cons q t=>
   have:(((q::t).length:Int) == 0)=false:=by simp only[List.length_cons];exact beq_eq_false_iff_ne.2 (by omega)
   rw[this];rfl
end
theorem E0k:FX 25 [.int 2,.int 1,.int 1,.int 1,.int 0,.int 1,.int 1,.int 1,.int 1,.int 0,.int 0,.int 0,.int 5,.int 1,.int 9,.int 4]=some [.int 37]:=by
 have ha:FX 39 [.int 2,.int 1,.int 1,.int 1,.int 0,.int 1,.int 1]=some [.int (allF exC)]:=B2v exC B8k
 have hb:FX 41 [.int 2,.int 1,.int 1,.int 1,.int 0,.int 1,.int 1,.int 0,.int 5]=some [.agg ((crossF exC 0 5).map D.int)]:=C7u exC B8k 0 5
 have h1:allF exC=2:=rfl
 have h2:(crossF exC 0 5).map D.int=[.int 0]:=rfl
 rw[C8v,ha,hb,h1,h2]
 simp only[HH,beq_self_eq_true]
 rfl
theorem C2o{G:List D}{pl w m k:Nat}{za swa rea:List Nat}(x0 x1 x2 x3 x4 x5 x6 x7 x8 x10 x11 x12 x13:D):∀(d j n:Nat) (ok:Bool) (L:List D) (lab:Nat→Nat) (P:Pool),j+d=37→Enc G L lab pl w m k za swa rea P→PoolAt P n→n+d≤1000→
  ∃L' lab' n',A1c x0 x1 x2 x3 x4 x5 x6 x7 x8 (.int (pl:Nat)) x10 x11 x12 x13 (.int 37) [.bool ok,.int (j:Nat),.agg L]=A1c x0 x1 x2 x3 x4 x5 x6 x7 x8 (.int (pl:Nat)) x10 x11 x12 x13 (.int 37) [.bool (picks d (ok,P)).1,.int 37,.agg L']∧
   Enc G L' lab' pl w m k za swa rea (picks d (ok,P)).2∧PoolAt (picks d (ok,P)).2 n'∧n'≤1000
 |0,j,n,ok,L,lab,P,h,E,hP,hn=>by
  have:j=37:=by omega
  subst this
  exact⟨L,lab,n,rfl,E,hP,by omega⟩
 |d+1,j,n,ok,L,lab,P,h,E,hP,hn=>by
  have h1:(j:Int)<37:=by omega
  obtain⟨L1,lab1,n1,E1⟩:=do_eq E hP (by omega) exPick B8d
  have P1:=do_ok hP (by omega) exPick B8d
  obtain⟨L2,lab2,n2,e2,E2,P2,hn2⟩:=C2o x0 x1 x2 x3 x4 x5 x6 x7 x8 x10 x11 x12 x13 d (j+1) (n+1) (ok&&(doP P exPick).1) L1 lab1 _ (by omega) E1 P1 (by omega)
  refine⟨L2,lab2,n2,?_,E2,P2,hn2⟩
  have n1':FX 23 [.int (pl:Nat),.int 3,.int 0,.int 0,.int 0,.int 0,.int 0,.int 0,.int 0,.int 0,.int 0,.int 0,.int 0,.agg L]=some [.bool (doP P exPick).1,.agg L1]:=n1
  rw[A7z]
  simp only[D.toInt_int,h1,decide_true,if_true,n1',A0b,List.length_cons,List.length_nil,List.getD_cons_zero,List.getD_cons_succ,D.toBool_bool]
  rw[i64w _ (by omega) (by omega)]
  cases hb:(doP P exPick).1 with
  |true=>
   rw[hb,Bool.and_true]at e2
   simp only[if_true]
   show _=A1c x0 x1 x2 x3 x4 x5 x6 x7 x8 (.int (pl:Nat)) x10 x11 x12 x13 (.int 37) [.bool (picks d (ok&&(doP P exPick).1,(doP P exPick).2)).1,.int 37,.agg L2]
   rw[hb,Bool.and_true]
   exact e2
  |false=>
   rw[hb,Bool.and_false]at e2
   simp only[Bool.false_eq_true,if_false]
   show _=A1c x0 x1 x2 x3 x4 x5 x6 x7 x8 (.int (pl:Nat)) x10 x11 x12 x13 (.int 37) [.bool (picks d (ok&&(doP P exPick).1,(doP P exPick).2)).1,.int 37,.agg L2]
   rw[hb,Bool.and_false]
   exact e2
theorem D7d(L:List D):∃L',FX 16 [.agg L]=some [.bool awakeF,.agg L']∧Fr L L' (fun _=>False):=by
 obtain⟨L1,lab1,pl,w,m,k,za,swa,rea,n1,E1⟩:=D2n exC B8k L
 have P1:=B8p exC B8k
 have n0:=C4j exC B8k
 obtain⟨L2,lab2,n2,E2⟩:=do_eq E1 P1 (by omega) exLine C5x
 have P2:=do_ok P1 (by omega) exLine C5x
 have n0':FX 17 [.int 2,.int 1,.int 1,.int 1,.int 0,.int 1,.int 1]=some [.int 2,.int 1,.int 1,.int 1,.int 0,.int 1,.int 1,.nil]:=n0
 have n1':FX 13 [.int 2,.int 1,.int 1,.int 1,.int 0,.int 1,.int 1,.agg L]=some [.int (pl:Nat),.nil,.agg L1]:=n1
 have n2':FX 23 [.int (pl:Nat),.int 1,.int 0,.int 0,.int 1,.int 1,.int 0,.int 0,.int 0,.int 5,.int 1,.int 9,.int 4,.agg L1]=some [.bool (doP (newP exC) exLine).1,.agg L2]:=n2
 have key:=fun x0 x1 x2 x3 x4 x5 x6 x7 x8 x10 x11 x12 x13=>C2o x0 x1 x2 x3 x4 x5 x6 x7 x8 x10 x11 x12 x13 37 0 1 (doP (newP exC) exLine).1 L2 lab2 (doP (newP exC) exLine).2 (by omega) E2 P2 (by omega)
 obtain⟨L3,lab3,n3,e3,E3,P3,hn3⟩:=key (.agg L) (.int 2) (.int 1) (.int 1) (.int 1) (.int 0) (.int 1) (.int 1) .nil .nil (.agg L1) (.bool (doP (newP exC) exLine).1) (.agg L2)
 have hpair:(((doP (newP exC) exLine).1,(doP (newP exC) exLine).2):Bool × Pool)=doP (newP exC) exLine:=rfl
 rw[hpair]at e3 E3 P3
 have hw:∃L',A1c (.agg L) (.int 2) (.int 1) (.int 1) (.int 1) (.int 0) (.int 1) (.int 1) .nil (.int (pl:Nat)) .nil (.agg L1) (.bool (doP (newP exC) exLine).1) (.agg L2) (.int 37) [.bool (picks 37 (doP (newP exC) exLine)).1,.int 37,.agg L3]=some [.bool awakeF,.agg L']∧Fr L L' (fun _=>False):=by
  unfold awakeF
  generalize picks 37 (doP (newP exC) exLine)=R at*
  have r1:=D4k E3 P3.ok (by omega) 0
  have r2:=E0w E3 0
  obtain⟨L4,lab4,n4,E4⟩:=do_eq E3 P3 (by omega) exPick B8d
  have n4':FX 23 [.int (pl:Nat),.int 3,.int 0,.int 0,.int 0,.int 0,.int 0,.int 0,.int 0,.int 0,.int 0,.int 0,.int 0,.agg L3]=some [.bool (doP R.2 exPick).1,.agg L4]:=n4
  have hno:¬(37:Int)<37:=by decide
  rw[A7z]
  simp only[D.toInt_int,hno,decide_false,Bool.false_eq_true,if_false,r1,A0b,List.length_cons,List.length_nil,List.getD_cons_zero,D.toBool_bool,D.toL_agg]
  cases hR:R.1 with
  |false=>exact⟨L3,by simp,E3.fr⟩
  |true=>
   generalize repliesF R.2 0=rs at*
   match rs with
   |[]=>exact⟨L3,by simp[oneOk],E3.fr⟩
   |[r]=>
    have hc:(([r].map Rep.d).getD (0:Int).toNat D.nil)=.agg r.ds:=rfl
    have hl1:((([r].map Rep.d).length:Int) == 1)=true:=rfl
    have hl2:(0:Int)<(([r].map Rep.d).length:Int):=by simp
    simp only[if_true,hl1,hl2,decide_true,hc,D.toL_agg,Rep.get1,D.toInt_int,r2,A0b,List.length_cons,List.length_nil,List.getD_cons_zero,List.getD_cons_succ,D.toBool_bool,oneOk]
    cases hcd:(r.code == 0)with
    |false=>exact⟨L3,by simp,E3.fr⟩
    |true=>
     cases hid:restsF R.2 0 with
     |false=>exact⟨L3,by simp,E3.fr⟩
     |true=>
      simp only[if_true,n4',A0b,List.length_cons,List.length_nil,List.getD_cons_zero,List.getD_cons_succ,D.toBool_bool]
      exact⟨L4,by simp,E4.fr⟩
   |r::r'::t=>
    have hl1:((((r::r'::t).map Rep.d).length:Int) == 1)=false:=by simp only[List.map_cons,List.length_cons];exact beq_eq_false_iff_ne.2 (by omega)
    exact⟨L3,by simp only[if_true,hl1,Bool.false_eq_true,if_false];simp[oneOk],E3.fr⟩
 obtain⟨L',e4,F4⟩:=hw
 refine⟨L',?_,F4⟩
 rw[C6b,n0',n1']
 simp only[A0b,List.length_cons,List.length_nil,List.getD_cons_zero,List.getD_cons_succ,nilN,nilI,Bool.not_true,Bool.false_eq_true,if_false,n2',E0k]
 exact e3.trans e4
theorem D1m:awakeF=true:=by kernel_rfl
theorem E1p(L:List D):∃L',FX 16 [.agg L]=some [.bool true,.agg L']∧Fr L L' (fun _=>False):=by
 obtain⟨L',h,F⟩:=D7d L
 rw[D1m]at h
 exact⟨L',h,F⟩
theorem E0o(L:List D):∃L',FX 10 [.agg L]=some [.bool true,.agg L']∧Fr L L' (fun _=>False):=by
 obtain⟨L',h,F⟩:=E1p L
 refine⟨L',?_,F⟩
 rw[C6o,h]
 simp only[A0b,List.length_cons,List.length_nil,List.getD_cons_zero,List.getD_cons_succ]
end Go.Proofs.YtcgcpjajghdbpaaGreat.P
