import Derived.Test.YtcgcpjajghdbpaaGreatPoolL
namespace Go.Proofs.YtcgcpjajghdbpaaGreat.P
open Go.RowKit Go.Proofs.YtcgcpjajghdbpaaGreat.Eng Go.Proofs.YtcgcpjajghdbpaaGreat Go.Proofs.YtcgcpjajghdbpaaGreat.Dat Go.Proofs.YtcgcpjajghdbpaaGreat.FDat
set_option linter.unusedVariables false
set_option linter.unusedSimpArgs false
set_option linter.unusedSectionVars false
set_option maxRecDepth 10000
theorem C8g(ai:Aim)(L:List D):FX 54 [.int ai.way,.int ai.x,.int ai.gen,.int ai.y,.int ai.shard,.agg L]=some [.int (L.length:Nat),.agg (L++[D.agg (PairS.new ai).ds])]:=by
 rw[C8a]
 simp only[D.toL_agg]
 rfl
theorem PP.ext{L L':List D}{q:Nat}{ptr:D}{o:Option PairS}(hp:PP L q ptr o)(he:∀P,o=some P→L'.getD q D.nil=L.getD q D.nil):PP L' q ptr o:=by
 cases o with
 |none=>exact hp
 |some P=>exact⟨hp.1,by rw[he P rfl];exact hp.2⟩
section
variable{L:List D}{a s z l w m k q:Nat}{pr:PrS}{se:SeatS}{ss:SessS}{po:PoolS}{S:WS}{o:Option PairS}(A:InA L a s z l w m k pr se ss po S)(h:S.ok)
include A h
theorem D1y(ai:Aim)(hl:S.log.length≤1000000000)(hn:In (pr.n+1))(x0 x2 x3 x4 y2:D):
  ∃L' q',A1b (.int (a:Nat)) x0 x2 x3 x4 (A1a (.int (a:Nat)) (.int (w:Nat)) y2) [.int ai.way,.int ai.x,.int ai.gen,.int ai.y,.int ai.shard,.agg L]=some [.bool (runO (pr.n+1) (some (PairS.new ai)) ss po S).b,.agg L']∧
   InA L' a s z l w m k {pr with p:=.int (q':Nat),n:=pr.n+1} se ss po (runO (pr.n+1) (some (PairS.new ai)) ss po S).S∧PP L' q' (.int (q':Nat)) (runO (pr.n+1) (some (PairS.new ai)) ss po S).o∧
   Fr L L' (Own a q' s z l w m)∧L.length≤q':=by
 have A1:=A.snoc (D.agg (PairS.new ai).ds)
 obtain⟨p1,hp1⟩:∃p1:PrS,p1={pr with p:=.int (L.length:Nat),n:=pr.n+1}:=⟨_,rfl⟩
 have H2:=A1.H.setA p1
 have A2:InA ((L++[D.agg (PairS.new ai).ds]).set a (.agg p1.ds)) a s z l w m k p1 se ss po S:=A1.step H2 (frs_a _)
 have hne:a≠L.length:=by have:=lt_of A.H.a;omega
 have hpp:PP ((L++[D.agg (PairS.new ai).ds]).set a (.agg p1.ds)) L.length p1.p (some (PairS.new ai)):=by
  rw[hp1]
  exact⟨rfl,by rw[A0s hne];exact A1u L _⟩
 obtain⟨L',n1,A3,hp3,F3⟩:=D2c A2 h hpp (fun P e=>by cases e;exact PairS.new_ok ai) hl y2
 have hn1:p1.n=pr.n+1:=by rw[hp1]
 have hpt:p1.p=.int (L.length:Nat):=by rw[hp1]
 rw[hn1]at n1 A3 hp3
 rw[hpt]at hp3
 refine⟨L',L.length,?_,by rw[hp1]at A3;exact A3,hp3,?_,Nat.le_refl _⟩
 ·rw[A9h,C8g]
  have hset:∀x:PrS,x.ds.set 19 (.int (L.length:Nat))=PrS.ds {x with p:=.int (L.length:Nat)}:=fun _=>rfl
  simp only[HH,A1.H.a,PrS.rng,hset,PrS.get20,hn.w,PrS.set20,←hp1]
  exact n1
 ·have F1:Fr L (L++[D.agg (PairS.new ai).ds]) (Own a L.length s z l w m):=Fr.snoc L _ _
  exact(F1.trans (Fr.set _ a _ (.inl rfl))).trans F3
theorem E2b{i:Int}(h0:0≤i)(h1:i<pr.aims.length):(pr.aims.map Aim.d).getD i.toNat D.nil=.agg (atA pr.aims i).ds:=by
 have hh:i.toNat<pr.aims.length:=by omega
 unfold atA
 rw[List.getD_eq_getElem?_getD,List.getElem?_map,List.getElem?_eq_getElem hh,List.getD_eq_getElem?_getD,List.getElem?_eq_getElem hh];rfl
theorem E1z(hp:PP L q pr.p o)(hd:pr.draw=drawD z l)(ho:∀P,o=some P→P.ok)(hl:S.log.length≤1000000000)(hn:0≤pr.n∧pr.n≤100000)(ht:TapeOk ss po):
  ∃L' q' ptr,FX 84 [.int (a:Nat),.int (w:Nat),.agg L]=some [.bool (tryP pr o ss po S).b,.agg L']∧
   InA L' a s z l w m k {pr with p:=ptr,n:=(tryP pr o ss po S).n} se (tryP pr o ss po S).ss (tryP pr o ss po S).po (tryP pr o ss po S).S∧PP L' q' ptr (tryP pr o ss po S).o∧
   FrA L L' a q s z l w m∧(q'=q∨L.length≤q'):=by
 have n1:=C8o A h hp
 have hin:In (pr.n+1):=In.lit (by omega)
 have hlen:(pr.aims.map Aim.d).length=pr.aims.length:=List.length_map ..
 have hJ:∀J:List D→Option (List D),(if doneO o=true then J [.agg L,.bool (decide (pr.n<(pr.aims.length:Int)))]else J [.agg L,.bool false])=J [.agg L,.bool (decide (doneO o=true∧pr.n<(pr.aims.length:Int)))]:=by
  intro J
  cases doneO o<;>simp
 rw[B4t]
 simp only[HH,A.H.a,PrS.get19,PrS.get20,PrS.get21,n1,hlen]
 rw[hJ,A9d]
 simp only[HH,A.H.a,PrS.get20,PrS.get21,PrS.get35,hlen]
 unfold tryP
 by_cases c0:doneO o=true∧pr.n<(pr.aims.length:Int)
 ·obtain⟨c1,c2⟩:=c0
  have j0:pr.n≥0:=hn.1
  have g1:=E2b A h hn.1 c2
  generalize atA pr.aims pr.n=ai at*
  have e1:∀x y:D,(D.iface 50 (.agg [x,y])).isIf 50=true:=fun _ _=>by simp[D.isIf]
  have e2:∀x:D,(D.iface 69 x).isIf 69=true:=fun _=>by simp[D.isIf]
  have e3:∀x:D,(D.iface 25 x).isIf 25=true:=fun _=>by simp[D.isIf]
  have e4:∀(t:Nat) (x:D),(D.iface t x).inner=x:=fun _ _=>rfl
  rw[if_pos (⟨c1,c2⟩:doneO o=true∧pr.n<(pr.aims.length:Int))]
  simp only[c1,c2,and_self,decide_true,if_true,j0,g1,HH,Aim.len,Aim.get0,Aim.get1,Aim.get2,Aim.get3,Aim.get4]
  by_cases c3:ai.way=1
  ·have i3:(ai.way == 1)=true:=beq_iff_eq.2 c3
   rw[if_pos c3]
   obtain⟨L1,n2,A1,F1⟩:=D9r A ht
   have e5:((((0:Nat)+1+1:Nat):Int) == 2)=true:=rfl
   have F1':FrA L L1 a q s z l w m:=F1.mono fun b hb=>by
    unfold Own
    rcases hb with hb|hb
    ·exact .inr (.inr (.inr (.inl hb)))
    ·exact .inr (.inr (.inr (.inr (.inl hb))))
   simp only[i3,if_true,hd,drawD,e1,e2,e3,e4,e5,HH,B4l,n2]
   have fin:∀v:Aim,∃L' q' ptr,A1b (.int (a:Nat)) (.int (w:Nat)) (.agg L) (.agg L) (.bool true) (A1a (.int (a:Nat)) (.int (w:Nat)) (.agg L)) [.int v.way,.int v.x,.int v.gen,.int v.y,.int v.shard,.agg L1]=some [.bool (runO (pr.n+1) (some (PairS.new v)) (takeN ss po).2.1 (takeN ss po).2.2 S).b,.agg L']∧
     InA L' a s z l w m k {pr with p:=ptr,n:=(runO (pr.n+1) (some (PairS.new v)) (takeN ss po).2.1 (takeN ss po).2.2 S).n} se (runO (pr.n+1) (some (PairS.new v)) (takeN ss po).2.1 (takeN ss po).2.2 S).ss (runO (pr.n+1) (some (PairS.new v)) (takeN ss po).2.1 (takeN ss po).2.2 S).po (runO (pr.n+1) (some (PairS.new v)) (takeN ss po).2.1 (takeN ss po).2.2 S).S∧
     PP L' q' ptr (runO (pr.n+1) (some (PairS.new v)) (takeN ss po).2.1 (takeN ss po).2.2 S).o∧FrA L L' a q s z l w m∧(q'=q∨L.length≤q'):=by
    intro v
    obtain⟨L2,q2,n3,A2,P2,F2,hq2⟩:=D1y A1 h v hl hin (.int (w:Nat)) (.agg L) (.agg L) (.bool true) (.agg L)
    refine⟨L2,q2,.int (q2:Nat),n3,?_,P2,?_,.inr (Nat.le_trans F1.1 hq2)⟩
    ·have hr:(runO (pr.n+1) (some (PairS.new v)) (takeN ss po).2.1 (takeN ss po).2.2 S).n=pr.n+1∧(runO (pr.n+1) (some (PairS.new v)) (takeN ss po).2.1 (takeN ss po).2.2 S).ss=(takeN ss po).2.1∧(runO (pr.n+1) (some (PairS.new v)) (takeN ss po).2.1 (takeN ss po).2.2 S).po=(takeN ss po).2.2:=by
      unfold runO
      dsimp only
      split<;>exact⟨rfl,rfl,rfl⟩
     rw[hr.1,hr.2.1,hr.2.2]
     exact A2
    ·refine F1'.trans ⟨F2.1,fun b hb hn=>F2.2 b hb fun ho=>hn ?_⟩
     unfold Own at ho⊢
     rcases ho with ho|ho|ho
     ·exact .inl ho
     ·omega
     ·exact .inr (.inr ho)
   simp only[hd,drawD]at fin
   cases hv:(takeN ss po).1 with
   |none=>
    simp only[Option.isSome_none,Bool.false_eq_true,if_false,newAim]
    exact fin ai
   |some v=>
    simp only[Option.isSome_some,if_true,newAim,Option.getD_some]
    exact fin {ai with y:=v}
  ·have i3:(ai.way == 1)=false:=beq_eq_false_iff_ne.2 c3
   rw[if_neg c3]
   simp only[i3,Bool.false_eq_true,if_false]
   obtain⟨L2,q2,n3,A2,P2,F2,hq2⟩:=D1y A h ai hl hin (.int (w:Nat)) (.agg L) (.agg L) (.bool true) (.agg L)
   refine⟨L2,q2,.int (q2:Nat),n3,?_,P2,?_,.inr hq2⟩
   ·have hr:(runO (pr.n+1) (some (PairS.new ai)) ss po S).n=pr.n+1∧(runO (pr.n+1) (some (PairS.new ai)) ss po S).ss=ss∧(runO (pr.n+1) (some (PairS.new ai)) ss po S).po=po:=by
     unfold runO
     dsimp only
     split<;>exact⟨rfl,rfl,rfl⟩
    rw[hr.1,hr.2.1,hr.2.2]
    exact A2
   ·refine⟨F2.1,fun b hb hn=>F2.2 b hb fun ho=>hn ?_⟩
    unfold Own at ho⊢
    rcases ho with ho|ho|ho
    ·exact .inl ho
    ·omega
    ·exact .inr (.inr ho)
 ·rw[if_neg c0]
  simp only[c0,decide_false,Bool.false_eq_true,if_false]
  obtain⟨L',n2,A2,P2,F2⟩:=D2c A h hp ho hl (.agg L)
  have hr:(runO pr.n o ss po S).n=pr.n∧(runO pr.n o ss po S).ss=ss∧(runO pr.n o ss po S).po=po:=by
   unfold runO
   cases o with
   |none=>exact⟨rfl,rfl,rfl⟩
   |some P=>dsimp only;split<;>exact⟨rfl,rfl,rfl⟩
  refine⟨L',q,pr.p,n2,?_,P2,F2,.inl rfl⟩
  rw[hr.1,hr.2.1,hr.2.2]
  exact A2
end
end Go.Proofs.YtcgcpjajghdbpaaGreat.P
