import Derived.Test.YtcgcpjajghdbpaaGreatPoolU
namespace Go.Proofs.YtcgcpjajghdbpaaGreat.P
open Go.RowKit Go.Proofs.YtcgcpjajghdbpaaGreat.Eng Go.Proofs.YtcgcpjajghdbpaaGreat Go.Proofs.YtcgcpjajghdbpaaGreat.Dat Go.Proofs.YtcgcpjajghdbpaaGreat.FDat
set_option linter.unusedVariables false
set_option linter.unusedSimpArgs false
set_option linter.unusedSectionVars false
set_option maxRecDepth 10000
def WS.tick(S:WS)(n:Int):WS:={S with now:=(addF S.now n).toNat}
theorem D6p{now n:Int}(h:0≤now∧now≤1000000):0≤addF now n∧addF now n≤1000000:=by
 unfold addF
 split
 ·exact h
 ·split<;>omega
theorem u64i{x:Int}(h0:0≤x)(h1:x≤9223372036854775807):IntKind.u64.wrap x=x:=u64_in h0 (by omega)
theorem E4i(now n:Int)(h:0≤now∧now≤1000000)(hn:0<n∧n≤9223372036854775807):FX 43 [.int 1000000,.agg [.int now,.int n]]=some [.int (addF now n)]:=by
 have a1:¬now>1000000:=by omega
 have a2:¬(0:Int)>1000000-now:=by omega
 have e0:((0:Int)<2)=True:=by simp
 rw[D0x,A5p]
 simp only[D.toInt_int,D.toL_agg,List.length_cons,List.length_nil,Int.toNat_zero,List.getD_cons_zero]
 have i1:(0:Int)<((0+1+1:Nat):Int):=by decide
 have i2:(0:Int)≥0:=by decide
 simp only[i1,i2,a1,decide_true,decide_false,if_true,Bool.false_eq_true,if_false]
 rw[u64i (x:=1000000-now) (by omega) (by omega),u64i (x:=0+now) (by omega) (by omega),i64w (0+1) (by decide) (by decide)]
 simp only[a2,decide_false,Bool.false_eq_true,if_false]
 rw[A5p]
 simp only[D.toInt_int,D.toL_agg,List.length_cons,List.length_nil]
 have i3:(0+1:Int)<((0+1+1:Nat):Int):=by decide
 have i4:(0+1:Int)≥0:=by decide
 have i5:[D.int now,D.int n].getD (0+1:Int).toNat D.nil=.int n:=rfl
 simp only[i3,i4,i5,decide_true,if_true,D.toInt_int]
 have eA:addF now n=if n>1000000∨now>1000000-n then 1000000 else now+n:=if_neg (by omega)
 rw[eA]
 by_cases c1:n>1000000
 ·simp only[c1,decide_true,if_true,true_or]
 rw[u64i (x:=1000000-n) (by omega) (by omega)]
 by_cases c2:now>1000000-n
 ·have c2':0+now>1000000-n:=by omega
  simp only[c1,c2,c2',decide_true,decide_false,Bool.false_eq_true,if_false,if_true,or_true]
 have c2':¬0+now>1000000-n:=by omega
 simp only[c1,c2,c2',decide_false,Bool.false_eq_true,if_false,or_self]
 rw[u64i (x:=0+now+n) (by omega) (by omega),i64w (0+1+1) (by decide) (by decide),A5p]
 simp only[D.toInt_int,D.toL_agg,List.length_cons,List.length_nil]
 have i6:¬(1+1:Int)<((0+1+1:Nat):Int):=by decide
 have i7:¬(1000000:Int)<now+n:=by omega
 simp only[Int.zero_add]
 simp only[i6,i7,decide_false,Bool.false_eq_true,if_false]
section
variable{L:List D}{w m k:Nat}{S:WS}(W:InW L w m k S)(h:S.ok)
include W h
theorem InW.setK(v:Nat):InW (L.set k (.agg (ClkS.ds ⟨v⟩))) w m k {S with now:=v}:=by
 obtain⟨M,hM,e⟩:=W.m
 exact⟨by rw[A0s (Ne.symm W.nwk)];exact W.w,⟨M,by rw[A0s (Ne.symm W.nmk)];exact hM,e⟩,A0w (lt_of W.k) _⟩
theorem go_eq(n:Int)(hn:In n):∃L',FX 36 [.int (k:Nat),.agg [.int n],.agg L]=some [wN (S.tick n).now,.agg L']∧InW L' w m k (S.tick n)∧Fr L L' (·=k):=by
 have hb:=D6p (now:=S.now) (n:=n) (by have:=h.now;omega)
 have hnow:=h.now
 have i1:(0:Int)<((0+1:Nat):Int):=by decide
 have i2:(0:Int)≥0:=by decide
 have i3:¬(0+1:Int)<((0+1:Nat):Int):=by decide
 rw[B8t]
 simp only[nilI,Bool.false_eq_true,if_false]
 rw[A2q]
 simp only[D.toInt_int,D.toL_agg,List.length_cons,List.length_nil,Int.toNat_zero,List.getD_cons_zero,i1,i2,decide_true,if_true,Int.toNat_natCast,W.k,nilI,Bool.not_false,ClkS.get0]
 rw[i64w (0+1) (by decide) (by decide)]
 by_cases c0:n>0
 ·unfold In at hn
  rw[u64i (x:=n) (by omega) (by omega)]
  have ha:=E4i S.now n (by omega) ⟨by omega,hn.2⟩
  have hs:(ClkS.mk S.now).ds.set 0 (.int (addF S.now n))=(ClkS.mk (addF S.now n).toNat).ds:=by
   have e:(((addF S.now n).toNat:Nat):Int)=addF S.now n:=Int.toNat_of_nonneg hb.1
   unfold ClkS.ds wN
   dsimp only[List.set]
   rw[e]
  have W1:=InW.setK W h (addF S.now n).toNat
  unfold wN at ha⊢
  simp only[c0,decide_true,if_true,ha,A0b,List.length_cons,List.length_nil,List.getD_cons_zero,ClkS.rng,hs]
  rw[A2q]
  simp only[D.toInt_int,D.toL_agg,List.length_cons,List.length_nil,i3,decide_false,Bool.false_eq_true,if_false,Int.toNat_natCast,W1.k,nilI,Bool.not_false,if_true,ClkS.get0,B4h]
  rw[i64w _ (by omega) (by omega)]
  exact⟨_,rfl,W1,Fr.set L k _ rfl⟩
 ·have e:addF S.now n=S.now:=if_pos (by omega)
  have et:S.tick n=S:=by unfold WS.tick;rw[e];rfl
  simp only[c0,decide_false,Bool.false_eq_true,if_false]
  rw[A2q,et]
  simp only[D.toInt_int,D.toL_agg,List.length_cons,List.length_nil,i3,decide_false,Bool.false_eq_true,if_false,Int.toNat_natCast,W.k,nilI,Bool.not_false,if_true,ClkS.get0,B4h]
  rw[i64w _ (by omega) (by omega)]
  exact⟨L,rfl,W,Fr.refl _ _⟩
end
structure PEv where
 kind:Int
 who:Int
 n:Int
 ask:Ask
def PEv.ds(e:PEv):List D:=[.int e.kind,.int e.who,.int e.n]++e.ask.ds
def PEv.d(e:PEv):D:=.agg e.ds
def PEv.wf(e:PEv):Prop:=In e.who∧In e.n∧e.ask.tm.wf
def Pool.got(P:Pool):Pool:={P with uses:=P.uses++[-1]}
def Pool.on(P:Pool):Pool:={P with events:=P.events+1}
def lineP(P:Pool)(i:Nat)(x:Sess)(a:Ask):Pool:={P with sess:=P.sess.set i {x with queue:=x.queue++[⟨a,P.events⟩]},lines:=P.lines++[P.events]}
def drawP(P:Pool)(i:Nat)(x:Sess)(n:Int):Pool:={P with sess:=P.sess.set i {x with tape:=x.tape++[⟨pickF n (allF P.S.c),P.events⟩]}}
def tickP(P:Pool)(n:Int):Pool:={P with S:=P.S.tick n}
def doP(P:Pool)(e:PEv):Bool × Pool:=
 if e.kind=2 then(decide (((P.S.tick e.n).now:Int)>(P.S.now:Int)),(tickP P.got e.n).on)
 else if e.kind=3 then((pickP P.got e.who).1,(pickP P.got e.who).2.on)
 else if 0≤e.who∧e.who<P.sess.length then
  (if e.kind=1 then(match P.sess[e.who.toNat]? with
   |some x=>(true,(lineP P.got e.who.toNat x e.ask).on)
   |none=>(false,P.got.on))
  else if e.kind=4 then(match P.sess[e.who.toNat]? with
   |some x=>(true,(drawP P.got e.who.toNat x e.n).on)
   |none=>(false,P.got.on))
  else(false,P.got.on))
 else(false,P.got.on)
theorem Enc.base{G L L':List D}{lab:Nat→Nat}{pl w m k:Nat}{za swa rea:List Nat}{P P':Pool}{T:Nat→Prop}(E:Enc G L lab pl w m k za swa rea P)(F:Fr L L' T)
  (W':InW L' w m k P'.S) (hp:L'.getD pl D.nil=.agg (P'.raw (.int (w:Nat)) (ptrL za) (ptrL swa) (ptrL rea)).ds) (hT:∀b,b<L.length→T b→lab b=0)
  (h1:P'.sess=P.sess) (h2:P'.sw=P.sw) (h3:P'.re=P.re):Enc G L' (labN lab 0 L) pl w m k za swa rea P':=by
 have hno:∀n,n≠0→∀b,b<L.length→lab b=n→¬T b:=fun n n2 b hb hl ht=>by
  have:=hT b hb ht;omega
 refine⟨W',hp,lab0 E F W' hp _,by rw[h1];exact E.zl,by rw[h2];exact E.swl,by rw[h3];exact E.rel,fun j y zj hy hzj=>?_,fun j y zj hy hzj=>?_,fun j y zj hy hzj=>?_,(E.pre' F 0 fun b hb ht=>by have:=hT b hb ht;omega).1,(E.pre' F 0 fun b hb ht=>by have:=hT b hb ht;omega).2⟩
 ·rw[h1]at hy;exact(E.ss j y zj hy hzj).fr F (hno _ (by omega))
 ·rw[h2]at hy;exact(E.sw j y zj hy hzj).fr F (hno _ (by omega))
 ·rw[h3]at hy;exact(E.re j y zj hy hzj).fr F (hno _ (by omega))
theorem Enc.setP{G L:List D}{lab:Nat→Nat}{pl w m k:Nat}{za swa rea:List Nat}{P:Pool}(E:Enc G L lab pl w m k za swa rea P)(P':Pool)(hS:P'.S=P.S)(h1:P'.sess=P.sess)(h2:P'.sw=P.sw)(h3:P'.re=P.re):
  Enc G (L.set pl (.agg (P'.raw (.int (w:Nat)) (ptrL za) (ptrL swa) (ptrL rea)).ds)) (labN lab 0 L) pl w m k za swa rea P':=by
 obtain⟨f1,f2,f3⟩:=E.W.far E.pool (by rw[PoolS.len];decide) (by rw[PoolS.len];decide) (by rw[PoolS.len];decide)
 have F:Fr L (L.set pl (.agg (P'.raw (.int (w:Nat)) (ptrL za) (ptrL swa) (ptrL rea)).ds)) (·=pl):=Fr.set L pl _ rfl
 refine E.base F ?_ (A0w (lt_of E.pool) _) (fun b _ hb=>by subst hb;exact E.l0.1) h1 h2 h3
 rw[hS]
 exact E.W.fr F (Ne.symm f1) (Ne.symm f2) (Ne.symm f3)
theorem B1t(l:List Int)(x:Int):l.map D.int++[.int x]=(l++[x]).map D.int:=by simp
end Go.Proofs.YtcgcpjajghdbpaaGreat.P
