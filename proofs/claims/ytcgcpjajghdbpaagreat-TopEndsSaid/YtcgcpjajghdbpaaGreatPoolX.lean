import Derived.Test.YtcgcpjajghdbpaaGreatPoolW
namespace Go.Proofs.YtcgcpjajghdbpaaGreat.P
open Go.RowKit Go.Proofs.YtcgcpjajghdbpaaGreat.Eng Go.Proofs.YtcgcpjajghdbpaaGreat Go.Proofs.YtcgcpjajghdbpaaGreat.Dat Go.Proofs.YtcgcpjajghdbpaaGreat.FDat
set_option linter.unusedVariables false
set_option linter.unusedSimpArgs false
set_option linter.unusedSectionVars false
set_option maxRecDepth 10000
def runP(P:Pool)(es:List PEv):Pool:=es.foldl (fun P e=>(doP P e).2) P
theorem D2w{es:List PEv}{j:Nat}(h:j<es.length):(es.map PEv.d).getD j D.nil=.agg (es[j]).ds:=by
 rw[List.getD_eq_getElem?_getD,List.getElem?_map,List.getElem?_eq_getElem h];rfl
theorem PEv.gets(e:PEv):e.ds.getD 0 D.nil=.int e.kind∧e.ds.getD 1 D.nil=.int e.who∧e.ds.getD 2 D.nil=.int e.n∧e.ds.getD 3 D.nil=.int e.ask.kind∧e.ds.getD 4 D.nil=.int e.ask.id∧e.ds.getD 5 D.nil=.int e.ask.cell∧e.ds.getD 6 D.nil=.int e.ask.tm.name∧e.ds.getD 7 D.nil=.int e.ask.tm.side∧e.ds.getD 8 D.nil=.int e.ask.tm.price∧e.ds.getD 9 D.nil=.int e.ask.tm.least∧e.ds.getD 10 D.nil=.int e.ask.tm.till∧e.ds.getD 11 D.nil=.int e.ask.qty:=
 ⟨rfl,rfl,rfl,rfl,rfl,rfl,rfl,rfl,rfl,rfl,rfl,rfl⟩
theorem C8i{G:List D}{pl w m k:Nat}{za swa rea:List Nat}(es:List PEv)(hes:es.length≤100000)(hw:∀e ∈ es,e.wf)(x2:D):∀(d j n:Nat) (L:List D) (lab:Nat→Nat) (P:Pool),j+d=es.length→Enc G L lab pl w m k za swa rea P→PoolAt P n→n+d≤1000000→
  ∃L' lab',A2j (.int (pl:Nat)) (.agg (es.map PEv.d)) x2 [.int (j:Nat),.agg L]=some [.agg L']∧Enc G L' lab' pl w m k za swa rea (runP P (es.drop j))∧PoolAt (runP P (es.drop j)) (n+d)
 |0,j,n,L,lab,P,h,E,hP,hn=>by
  have h1:¬(j:Int)<((es.map PEv.d).length:Int):=by simp;omega
  rw[A5d,List.drop_eq_nil_of_le (by omega)]
  simp only[D.toInt_int,D.toL_agg,h1,decide_false,Bool.false_eq_true,if_false]
  exact⟨L,lab,rfl,E,hP⟩
 |d+1,j,n,L,lab,P,h,E,hP,hn=>by
  have hj:j<es.length:=by omega
  have h1:(j:Int)<((es.map PEv.d).length:Int):=by simp;omega
  have h2:(j:Int)≥0:=by omega
  have hwj:=hw es[j] (List.getElem_mem hj)
  obtain⟨L1,lab1,n1,E1⟩:=do_eq E hP (by omega) es[j] hwj
  have P1:=do_ok hP (by omega) es[j] hwj
  obtain⟨L2,lab2,n2,E2,P2⟩:=C8i es hes hw x2 d (j+1) (n+1) L1 lab1 _ (by omega) E1 P1 (by omega)
  obtain⟨g0,g1,g2,g3,g4,g5,g6,g7,g8,g9,g10,g11⟩:=PEv.gets es[j]
  have e1:n+1+d=n+(d+1):=by omega
  rw[A5d,List.drop_eq_getElem_cons hj]
  simp only[D.toInt_int,D.toL_agg,h1,h2,decide_true,if_true,Int.toNat_natCast,D2w hj,g0,g1,g2,g3,g4,g5,g6,g7,g8,g9,g10,g11,n1,A0b,List.length_cons,List.length_nil,List.getD_cons_zero,List.getD_cons_succ]
  rw[i64w _ (by omega) (by omega)]
  rw[e1]at P2
  exact⟨L2,lab2,n2,E2,P2⟩
theorem A4l{G L:List D}{lab:Nat→Nat}{pl w m k:Nat}{za swa rea:List Nat}{P:Pool}{n:Nat}(E:Enc G L lab pl w m k za swa rea P)(hP:PoolAt P n)(es:List PEv)(hw:∀e ∈ es,e.wf)(hn:n+es.length≤100000):
  ∃L' lab',FX 14 [.int (pl:Nat),.agg (es.map PEv.d),.agg L]=some [.agg L']∧Enc G L' lab' pl w m k za swa rea (runP P es)∧PoolAt (runP P es) (n+es.length):=by
 rw[B8y]
 exact C8i es (by omega) hw _ es.length 0 n L lab P (by omega) E hP (by omega)
def newSeatN(i:Int)(j:Nat):SeatS:=⟨i,0,List.replicate j 0,List.replicate j 0,List.replicate j ⟨1,0⟩⟩
def newSess(c:Cf)(i:Int):Sess:=⟨newSeatN i c.c1.toNat,[],none,-1,[],0⟩
def wordsF(c:Cf):Int:=allF c*2+allF c*c.c6*(c.c5+1)
def newS(c:Cf):WS:=⟨c,List.replicate (wordsF c).toNat 0,0,[]⟩
def newSw(i:Int):SwS × Option PairS:=(⟨i,0,0,.nil⟩,none)
def newRe(i:Int):ReS:=⟨i,0,0,0,.zero,.zero,false,0⟩
def newP(c:Cf):Pool:=⟨newS c,(List.range c.c0.toNat).map fun(i:Nat)=>newSess c i,(List.range (shardsF c).toNat).map fun(i:Nat)=>newSw i,(List.range (shardsF c).toNat).map fun(i:Nat)=>newRe i,0,[],[],[]⟩
theorem D9o(L:List D)(x y:D):(L++[x]).set L.length y=L++[y]:=by simp
section
variable(c:Cf)(hc:c.ok)
include hc
theorem C2v(i:Int)(L:List D):∀(d j:Nat),(j+d:Int)=c.c1→
  A6s (.int c.c0) (.int c.c1) (.int c.c2) (.int c.c3) (.int c.c4) (.int c.c5) (.int c.c6) (.int i) (.agg L) [.int (j:Nat),.agg (L++[.agg (newSeatN i j).ds])]=some [.int (L.length:Nat),.agg (L++[.agg (newSeatN i c.c1.toNat).ds])]
 |0,j,h=>by
  have h1:¬(j:Int)<c.c1:=by omega
  have h2:c.c1.toNat=j:=by omega
  rw[B2g,h2]
  simp only[D.toInt_int,D.toL_agg,h1,decide_false,Bool.false_eq_true,if_false]
 |d+1,j,h=>by
  have hc1:=hc.2.1
  have h1:(j:Int)<c.c1:=by omega
  have ih:=C2v i L d (j+1) (by omega)
  have e1:(List.replicate j (0:Int)).map D.int++[D.int 0]=(List.replicate (j+1) (0:Int)).map D.int:=by simp[List.replicate_succ']
  have e2:(List.replicate j (⟨1,0⟩:Cur)).map Cur.d++[D.agg [.int 1,.int 0]]=(List.replicate (j+1) (⟨1,0⟩:Cur)).map Cur.d:=by simp[List.replicate_succ',Cur.d,Cur.ds]
  have l1:(((List.replicate (j+1) (0:Int)).map D.int).length:Int)≤17592186044416:=by simp;omega
  have l2:(((List.replicate (j+1) (⟨1,0⟩:Cur)).map Cur.d).length:Int)≤8796093022208:=by simp;omega
  have g2:(newSeatN i j).ids=List.replicate j 0:=rfl
  have g3:(newSeatN i j).gens=List.replicate j 0:=rfl
  have g4:(newSeatN i j).curs=List.replicate j ⟨1,0⟩:=rfl
  rw[B2g]
  simp only[D.toInt_int,D.toL_agg,h1,decide_true,if_true,Int.toNat_natCast,A1u,SeatS.get2,SeatS.get3,SeatS.get4,g2,g3,g4,e1,l1,C3t,A0b,List.length_cons,List.length_nil,List.getD_cons_zero,List.getD_cons_succ,e2,l2,C1a]
  rw[i64w _ (by omega) (by omega)]
  have hs:(((List.range 5).map fun j'=>(((List.range 5).map fun j'=>(((List.range 5).map fun j'=>(newSeatN i j).ds.getD j' D.nil).set 2 (.agg ((List.replicate (j+1) (0:Int)).map D.int))).getD j' D.nil).set 3 (.agg ((List.replicate (j+1) (0:Int)).map D.int))).getD j' D.nil).set 4 (.agg ((List.replicate (j+1) (⟨1,0⟩:Cur)).map Cur.d)))=(newSeatN i (j+1)).ds:=rfl
  rw[hs,D9o]
  exact ih
theorem D8o(i:Int)(L:List D):FX 19 [.int c.c0,.int c.c1,.int c.c2,.int c.c3,.int c.c4,.int c.c5,.int c.c6,.int i,.agg L]=some [.int (L.length:Nat),.agg (L++[.agg (newSeatN i c.c1.toNat).ds])]:=by
 have hc1:=hc.2.1
 rw[D3p]
 exact C2v c hc i L c.c1.toNat 0 (by omega)
theorem C4l:0≤wordsF c∧wordsF c≤8192∧0≤allF c*c.c6∧allF c*c.c6≤360∧0≤allF c*c.c6*(c.c5+1)∧allF c*c.c6*(c.c5+1)≤1800:=by
 have hal:=all_b c hc
 have hf:=A2k hc
 have hg:=A9z hc
 have b1:0≤allF c*c.c6:=Int.mul_nonneg (by omega) (by omega)
 have b2:allF c*c.c6≤24*15:=Int.mul_le_mul (by omega) (by omega) (by omega) (by omega)
 have b3:0≤allF c*c.c6*(c.c5+1):=Int.mul_nonneg b1 (by omega)
 have b4:allF c*c.c6*(c.c5+1)≤360*5:=Int.mul_le_mul b2 (by omega) (by omega) (by omega)
 unfold wordsF
 omega
theorem E0p:FX 32 [.int c.c0,.int c.c1,.int c.c2,.int c.c3,.int c.c4,.int c.c5,.int c.c6]=some [.int (wordsF c)]:=by
 have hal:=all_b c hc
 have hf:=A2k hc
 obtain⟨w1,w2,w3,w4,w5,w6⟩:=C4l c hc
 have ha:FX 39 [.int c.c0,.int c.c1,.int c.c2,.int c.c3,.int c.c4,.int c.c5,.int c.c6]=some [.int (allF c)]:=B2v c hc
 rw[B5x]
 simp only[ha,A0b,List.length_cons,List.length_nil,List.getD_cons_zero,D.toInt_int]
 rw[i64w (allF c*2) (by omega) (by omega),i64w (allF c*c.c6) (by omega) (by omega),i64w (c.c5+1) (by omega) (by omega),i64w (allF c*c.c6*(c.c5+1)) (by omega) (by omega),i64w _ (by unfold wordsF at w1;omega) (by unfold wordsF at w2;omega)]
 rfl
theorem C4j:FX 17 [.int c.c0,.int c.c1,.int c.c2,.int c.c3,.int c.c4,.int c.c5,.int c.c6]=some [.int c.c0,.int c.c1,.int c.c2,.int c.c3,.int c.c4,.int c.c5,.int c.c6,.nil]:=by
 have h:=RU.new_eq c
 rw[(RU.firstBad_none c).2 hc]at h
 exact h
theorem E2g(L:List D):∃L',FX 18 [.int c.c0,.int c.c1,.int c.c2,.int c.c3,.int c.c4,.int c.c5,.int c.c6,.agg L]=some [.int (L.length+2:Nat),.nil,.agg L']∧L'.length=L.length+3∧InW L' (L.length+2) L.length (L.length+1) (newS c)∧Fr L L' (fun _=>False):=by
 obtain⟨w1,w2,_⟩:=C4l c hc
 have h1:=C4j c hc
 have h2:=E0p c hc
 have c1:¬wordsF c<0:=by omega
 have c2:¬wordsF c>8192:=by omega
 have c3:wordsF c≥0:=w1
 have c4:wordsF c≤17592186044416:=by omega
 obtain⟨M,hM⟩:∃M:MemS,M=⟨List.replicate (wordsF c).toNat 0,.int 0,.int 0,.int 0,.int 0,.int 0,.bool false⟩:=⟨_,rfl⟩
 have hmd:D.agg [D.agg (List.replicate (wordsF c).toNat (D.int 0)),.int 0,.int 0,.int 0,.int 0,.int 0,.bool false]=D.agg M.ds:=by
  rw[hM]
  unfold MemS.ds
  rw[List.map_replicate];rfl
 refine⟨((L++[.agg M.ds])++[.agg [.int 0]])++[.agg (WorldS.ds ⟨c,.int (L.length:Nat),.int (L.length+1:Nat),[]⟩)],?_,by simp,?_,((Fr.snoc L _ _).trans (Fr.snoc _ _ _)).trans (Fr.snoc _ _ _)⟩
 ·rw[D3j,h1]
  simp only[A0b,List.length_cons,List.length_nil,List.getD_cons_zero,List.getD_cons_succ,nilN,Bool.not_true,Bool.false_eq_true,if_false,h2,D6w,D.toInt_int,D.toL_agg,c1,c2,c3,c4,decide_false,decide_true,if_true,hmd,List.length_append]
  rfl
 ·have hcl:∀{x y:D} {a:Nat},a<L.length+2→((L++[x])++[y]++[D.agg (WorldS.ds ⟨c,.int (L.length:Nat),.int (L.length+1:Nat),[]⟩)]).getD a D.nil=((L++[x])++[y]).getD a D.nil:=fun h=>B2x (by simp;omega) _
  refine⟨?_,⟨M,?_,by rw[hM];rfl⟩,?_⟩
  ·have:=A1u ((L++[D.agg M.ds])++[D.agg [.int 0]]) (.agg (WorldS.ds ⟨c,.int (L.length:Nat),.int (L.length+1:Nat),[]⟩))
   have e:((L++[D.agg M.ds])++[D.agg [.int 0]]).length=L.length+2:=by simp
   rw[e]at this
   exact this
  ·rw[hcl (a:=L.length) (by omega),B2x (by simp)]
   exact A1u L _
  ·rw[hcl (a:=L.length+1) (by omega)]
   have:=A1u (L++[D.agg M.ds]) (D.agg [.int 0])
   have e:(L++[D.agg M.ds]).length=L.length+1:=by simp
   rw[e]at this
   exact this
end
end Go.Proofs.YtcgcpjajghdbpaaGreat.P
