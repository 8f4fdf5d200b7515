import Derived.Test.YtcgcpjajghdbpaaGreatInvF
import Derived.Test.YtcgcpjajghdbpaaGreatTop
import Derived.Test.YtcgcpjajghdbpaaGreatMapD
namespace Go.Proofs.YtcgcpjajghdbpaaGreat.P
open Go.RowKit Go.Proofs.YtcgcpjajghdbpaaGreat.Eng Go.Proofs.YtcgcpjajghdbpaaGreat Go.Proofs.YtcgcpjajghdbpaaGreat.Dat Go.Proofs.YtcgcpjajghdbpaaGreat.FDat
set_option linter.unusedVariables false
set_option linter.unusedSimpArgs false
set_option linter.unusedSectionVars false
set_option maxRecDepth 10000
def fk(p:Int × Int):D:=.agg [.int p.1,.int p.2]
abbrev Mp:=List ((Int × Int) × D)
structure MM(G:LG)(mt ml mo:Mp):Prop where
 tm:∀x g,(MapD.val mt (x,g)).getD (.agg [.int 0,.int 0,.int 0,.int 0,.int 0])=.agg (G.tm x g).ds
 lf:∀x g,(MapD.val ml (x,g)).getD (.int 0)=.int (G.lf x g)
 ov:∀x g,(MapD.val mo (x,g)).getD (.bool false)=.bool (G.ov x g)
theorem mg(l:Mp)(x g:Int)(z:D):mgetD [0,0] (MapD.ents fk l) (.agg [.int x,.int g]) z=(MapD.val l (x,g)).getD z:=MapD.mget_ents (f:=fk) (fun a b=>MapD.keq_pair a b) l (x,g) z
theorem mp(l:Mp)(x g:Int)(v:D):mputD [0,0] (MapD.ents fk l) (.agg [.int x,.int g]) v=MapD.ents fk (MapD.put l (x,g) v):=MapD.mput_ents (f:=fk) (fun a b=>MapD.keq_pair a b) l (x,g) v
theorem C8n(l:Mp)(x g a b:Int)(v z:D):(MapD.val (MapD.put l (x,g) v) (a,b)).getD z=if a=x∧b=g then v else(MapD.val l (a,b)).getD z:=by
 rw[MapD.val_put]
 by_cases h:a=x∧b=g
 ·rw[if_pos h,if_pos (by rw[h.1,h.2])];rfl
 ·rw[if_neg h,if_neg (fun e=>h ⟨congrArg Prod.fst e,congrArg Prod.snd e⟩)]
variable{G:LG}{mt ml mo:Mp}
theorem MM.pt(M:MM G mt ml mo)(x g:Int)(t:Tm):MM {G with tm:=up2 G.tm x g t} (MapD.put mt (x,g) (.agg t.ds)) ml mo:=
 ⟨fun a b=>by rw[C8n,M.tm];unfold up2;dsimp only;split<;>rfl,M.lf,M.ov⟩
theorem MM.pl(M:MM G mt ml mo)(x g q:Int):MM {G with lf:=up2 G.lf x g q} mt (MapD.put ml (x,g) (.int q)) mo:=
 ⟨M.tm,fun a b=>by rw[C8n,M.lf];unfold up2;dsimp only;split<;>rfl,M.ov⟩
theorem MM.po(M:MM G mt ml mo)(x g:Int):MM {G with ov:=up2 G.ov x g true} mt ml (MapD.put mo (x,g) (.bool true)):=
 ⟨M.tm,M.lf,fun a b=>by rw[C8n,M.ov];unfold up2;dsimp only;split<;>rfl⟩
theorem dsTm(t:Tm):[D.int t.name,.int t.side,.int t.price,.int t.least,.int t.till]=t.ds:=rfl
theorem A7v{a b:Int}(h:a≠b):(a == b)=false:=by simpa using h
theorem A9x{a b:Int}(h:a=b):(a != b)=false:=by simp[h]
theorem D2e{a b:Int}(h:a≠b):(a != b)=true:=by simpa using h
theorem C3o{a b:Int}(h:0≤a):Int.tdiv a b=a/b:=Int.tdiv_eq_ediv_of_nonneg h
theorem D6c(c:Cf)(hc:c.ok)(evs:List Ev)(hl:evs.length≤1000000)(x7 x8:D)(L:List D):∀(d j:Nat) (G:LG) (mt ml mo:Mp),j+d=evs.length→MM G mt ml mo→AllOk c G (evs.drop j)→
  A0h (.int c.c0) (.int c.c1) (.int c.c2) (.int c.c3) (.int c.c4) (.int c.c5) (.int c.c6) x7 x8 (.agg L) (.agg (evs.map Ev.d)) [.int (j:Nat),.agg (MapD.ents fk mt),.agg (MapD.ents fk ml),.agg (MapD.ents fk mo)]=some [.bool true]:=by
 intro d
 induction d with
 |zero=>
  intro j G mt ml mo hj M _
  have h1:¬(j:Int)<((evs.map Ev.d).length:Int):=by simp;omega
  obtain⟨L',n3,_⟩:=C4u L
  rw[A3o]
  simp only[D.toInt_int,D.toL_agg,h1,decide_false,Bool.false_eq_true,if_false,n3,A0b,List.length_cons,List.length_nil,List.getD_cons_zero]
 |succ d ih=>
  intro j G mt ml mo hj M hA
  have hlt:j<evs.length:=by omega
  have h1:(j:Int)<((evs.map Ev.d).length:Int):=by simp;omega
  have h2:(j:Int)≥0:=by omega
  have hg:(evs.map Ev.d).getD j D.nil=.agg (evs[j]).ds:=by
   rw[List.getD_eq_getElem?_getD,List.getElem?_map,List.getElem?_eq_getElem hlt];rfl
  rw[List.drop_eq_getElem_cons hlt]at hA
  obtain⟨hE,hA⟩:=hA
  generalize evs[j]=e at*
  have hw:IntKind.i64.wrap ((j:Int)+1)=((j+1:Nat):Int):=by rw[i64w _ (by omega) (by omega)];omega
  have nx:=fun G' mt ml mo (M':MM G' mt ml mo) (hs:stepL G e=G')=>ih (j+1) G' mt ml mo (by omega) M' (by rw[←hs];exact hA)
  rw[A3o]
  simp only[D.toInt_int,D.toL_agg,h1,h2,decide_true,if_true,Int.toNat_natCast,hg,Ev.len,Ev.get0,Ev.get1,Ev.get2,Ev.get3,Ev.get4,Ev.get5,Ev.get6,Ev.get7,Ev.get8,Ev.get9,Ev.get10,Ev.get11,Ev.get12,Ev.get13,mg,mp,M.tm,M.lf,M.ov,Tm.get0,Tm.get1,Tm.get2,Tm.get3,Tm.get4,D.toBool_bool,hw]
  by_cases k1:e.kind=1
  ·simp only[k1,beq_self_eq_true,if_true,A8q,D.toInt_int,D.toL_agg,Int.toNat_natCast,hg,Ev.len,Ev.get0,Ev.get1,Ev.get2,Ev.get3,Ev.get4,Ev.get5,Ev.get6,Ev.get7,Ev.get8,Ev.get9,Ev.get10,Ev.get11,Ev.get12,Ev.get13,mp,hw,dsTm]
   exact nx _ _ _ _ ((M.pt e.cell e.gen e.tm).pl e.cell e.gen e.qty) (by unfold stepL;rw[if_pos k1])
  simp only[A7v k1,Bool.false_eq_true,if_false]
  by_cases k2:e.kind=2
  ·simp only[k2,beq_self_eq_true,if_true]
   have F:=hE.fill k2
   have hc1:=hc.2.1
   have hal:=all_b c hc
   obtain⟨⟨p1,p2⟩,p3,p4⟩:=F.pos
   have d1:0≤e.cell/c.c1:=Int.ediv_nonneg p1 (by omega)
   have d2:e.cell/c.c1≤e.cell:=Int.ediv_le_self _ p1
   have d3:0≤e.other/c.c1:=Int.ediv_nonneg p3 (by omega)
   have d4:e.other/c.c1≤e.other:=Int.ediv_le_self _ p3
   have w1:IntKind.i64.wrap (Int.tdiv e.cell c.c1)=e.cell/c.c1:=by rw[C3o p1,i64w _ (by omega) (by omega)]
   have w2:IntKind.i64.wrap (Int.tdiv e.other c.c1)=e.other/c.c1:=by rw[C3o p3,i64w _ (by omega) (by omega)]
   have w3:∀a b:Int,(0≤a∧a<65536)→(0≤b∧b<65536)→IntKind.i64.wrap (Int.tdiv (IntKind.i64.wrap (a+b)) 2)=(a+b)/2:=by
    intro a b ha hb
    rw[i64w (a+b) (by omega) (by omega),C3o (by omega),i64w _ (by omega) (by omega)]
   have hne:e.other≠e.cell:=fun q=>F.own (by rw[q])
   have c0:c.c1≠0:=by omega
   have l1:=F.least
   have l2:=F.left
   have l3:=F.lb
   have w4:IntKind.i64.wrap (G.lf e.cell e.gen-e.qty)=G.lf e.cell e.gen-e.qty:=i64w _ (by omega) (by omega)
   have w5:IntKind.i64.wrap (G.lf e.other e.wth-e.qty)=G.lf e.other e.wth-e.qty:=i64w _ (by omega) (by omega)
   have M1:=M.pl e.cell e.gen (G.lf e.cell e.gen-e.qty)
   have lo:(up2 G.lf e.cell e.gen (G.lf e.cell e.gen-e.qty)) e.other e.wth=G.lf e.other e.wth:=B0k _ _ _ _ hne _
   have M2:=M1.pl e.other e.wth (G.lf e.other e.wth-e.qty)
   have fin:=nx _ _ _ _ M2 (by
    unfold stepL;rw[if_neg k1,if_pos k2]
    have:subL (subL G.lf e.cell e.gen e.qty) e.other e.wth e.qty=up2 (up2 G.lf e.cell e.gen (G.lf e.cell e.gen-e.qty)) e.other e.wth (G.lf e.other e.wth-e.qty):=by
     unfold subL;rw[lo]
    rw[this])
   have q1:¬e.qty<(G.tm e.cell e.gen).least:=by omega
   have q2:¬e.qty<(G.tm e.other e.wth).least:=by omega
   have q3:¬e.qty<1:=by omega
   have q4:¬e.qty>G.lf e.cell e.gen:=by omega
   have q5:¬e.qty>G.lf e.other e.wth:=by omega
   have f:=F.fair
   by_cases hs:(G.tm e.cell e.gen).side=1
   ·rw[if_pos hs,if_pos hs]at f
    obtain⟨f1,f2,f3,f4,f5,f6⟩:=f
    have g1:¬e.price>(G.tm e.other e.wth).price:=by omega
    have g2:¬e.price<(G.tm e.cell e.gen).price:=by omega
    simp only[hs,beq_self_eq_true,if_true,F.ov1,F.ov2,Bool.false_eq_true,if_false,D2e c0,w1,w2,A7v F.own,A9x f1,A9x f3,bne_self_eq_false,g1,g2,decide_false,w3 _ _ F.nn.2 F.nn.1,A9x f6,q1,q2,q3,q4,q5,w4,M1.lf,lo,D.toInt_int,w5]
    exact fin
   ·rw[if_neg hs,if_neg hs]at f
    obtain⟨f1,f2,f3,f4,f5,f6⟩:=f
    have g1:¬e.price>(G.tm e.cell e.gen).price:=by omega
    have g2:¬e.price<(G.tm e.other e.wth).price:=by omega
    simp only[A7v hs,if_true,F.ov1,F.ov2,Bool.false_eq_true,if_false,D2e c0,w1,w2,A7v F.own,A9x f1,A9x f2,A9x f3,g1,g2,decide_false,w3 _ _ F.nn.1 F.nn.2,A9x f6,q1,q2,q3,q4,q5,w4,M1.lf,lo,D.toInt_int,w5]
    exact fin
  simp only[A7v k2,Bool.false_eq_true,if_false]
  by_cases k5:e.kind=5
  ·obtain⟨v1,v2⟩:=hE.exp k5
   have v3:¬e.tick<(G.tm e.cell e.gen).till:=by omega
   simp only[k5,beq_self_eq_true,if_true,v1,Bool.false_eq_true,if_false,v3,decide_false]
   exact nx _ _ _ _ (M.po e.cell e.gen) (by unfold stepL;rw[if_neg k1,if_neg k2,if_pos (.inl k5)])
  simp only[A7v k5,Bool.false_eq_true,if_false]
  by_cases k3:e.kind=3
  ·have v1:=hE.fin (.inl k3)
   simp only[k3,beq_self_eq_true,if_true,v1,Bool.false_eq_true,if_false]
   exact nx _ _ _ _ (M.po e.cell e.gen) (by unfold stepL;rw[if_neg k1,if_neg k2,if_pos (.inr (.inl k3))])
  simp only[A7v k3,Bool.false_eq_true,if_false]
  by_cases k7:e.kind=7
  ·have v1:=hE.fin (.inr k7)
   simp only[k7,beq_self_eq_true,if_true,v1,Bool.false_eq_true,if_false]
   exact nx _ _ _ _ (M.po e.cell e.gen) (by unfold stepL;rw[if_neg k1,if_neg k2,if_pos (.inr (.inr k7))])
  simp only[A7v k7,Bool.false_eq_true,if_false]
  exact nx _ _ _ _ M (by unfold stepL;rw[if_neg k1,if_neg k2,if_neg (by omega)])
theorem ends(c:Cf)(es:List PEv)(hw:∀e ∈ es,e.wf):FX 3 [.int c.c0,.int c.c1,.int c.c2,.int c.c3,.int c.c4,.int c.c5,.int c.c6,.agg (es.map PEv.d)]=some [.bool true]:=by
 rw[B3l]
 by_cases hm:c.ok∧(es.length:Int)≤900
 ·obtain⟨hc,hes⟩:=hm
  obtain⟨L1,lab1,p1,w1,m1,k1,z1,s1,r1,n1,E1,P1⟩:=E2v c hc es 900 hes (by decide) hw []
  have hPc:=run_c c es (newP c) rfl 0 (B8p c hc) (by omega) hw
  have hA:=E3v c hc es (by omega) hw
  rw[hPc]at hA
  generalize runP (newP c) es=P at*
  have v:=D5b E1 P1.ok (by omega)
  simp only[n1,A0b,List.length_cons,List.length_nil,List.getD_cons_zero,List.getD_cons_succ,nilI,Bool.false_eq_true,if_false,v]
  exact D6c c hc P.S.log (by have:=P1.ok.log;omega) _ _ _ P.S.log.length 0 LG.zero [] [] [] (by omega) ⟨fun _ _=>rfl,fun _ _=>rfl,fun _ _=>rfl⟩ hA
 ·obtain⟨L',h,_⟩:=C4u []
  rw[E2o c es hm []]
  simp only[A0b,List.length_cons,List.length_nil,List.getD_cons_zero,List.getD_cons_succ,nilN,if_true,h,D.toBool_bool,E1y,List.length_map,E3r hm,Bool.not_false]
theorem ends_law(x0:List D)(x1:D)(w0:Open.AllF Tryz.prog [.int .i64,.int .i64,.int .i64,.int .i64,.int .i64,.int .i64,.int .i64] x0)(w1:Open.Wf Tryz.prog (.slice 89) x1):FX 3 (x0++[x1])=some [.bool true]:=by
 obtain⟨c,rfl⟩:=cf_of w0
 obtain⟨es,rfl,_,hw⟩:=w1.structs (f:=PEv.d) (Q:=PEv.wf) (ts:=i12) (by kernel_rfl) (by decide) (fun ys hy=>ev_of hy)
 exact ends c es hw
end Go.Proofs.YtcgcpjajghdbpaaGreat.P
