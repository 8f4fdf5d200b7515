import Derived.Test.YtcgcpjajghdbpaaGreatPoolA
namespace Go.Proofs.YtcgcpjajghdbpaaGreat.P
open Go.RowKit Go.Proofs.YtcgcpjajghdbpaaGreat.Eng Go.Proofs.YtcgcpjajghdbpaaGreat Go.Proofs.YtcgcpjajghdbpaaGreat.Dat Go.Proofs.YtcgcpjajghdbpaaGreat.FDat
set_option linter.unusedVariables false
set_option linter.unusedSimpArgs false
def wN(x:Nat):D:=D.int (x:Int)
theorem B4h(x:Nat):(wN x).toInt=(x:Int):=rfl
theorem E3z(x:Nat):(wN x).isNil=false:=rfl
theorem rng{n:Nat}{l:List D}(h:l.length=n):((List.range n).map fun j=>l.getD j D.nil)=l:=by
 subst h
 apply List.ext_getElem
 ·simp
 ·intro i h1 h2
  simp[List.getD_eq_getElem?_getD,List.getElem?_eq_getElem h2]
def St.d(s:St):D:=.agg s.ds
theorem St.len(s:St):s.ds.length=5:=by simp only[St.ds,List.length_cons,List.length_nil]
theorem St.get0(s:St):s.ds.getD 0 D.nil=.int s.k:=rfl
theorem St.get1(s:St):s.ds.getD 1 D.nil=.bool s.f:=rfl
theorem St.get2(s:St):s.ds.getD 2 D.nil=.int s.g:=rfl
theorem St.get3(s:St):s.ds.getD 3 D.nil=.int s.l:=rfl
theorem St.get4(s:St):s.ds.getD 4 D.nil=.int s.n:=rfl
def Tm.d(s:Tm):D:=.agg s.ds
theorem Tm.len(s:Tm):s.ds.length=5:=by simp only[Tm.ds,List.length_cons,List.length_nil]
theorem Tm.get0(s:Tm):s.ds.getD 0 D.nil=.int s.name:=rfl
theorem Tm.get1(s:Tm):s.ds.getD 1 D.nil=.int s.side:=rfl
theorem Tm.get2(s:Tm):s.ds.getD 2 D.nil=.int s.price:=rfl
theorem Tm.get3(s:Tm):s.ds.getD 3 D.nil=.int s.least:=rfl
theorem Tm.get4(s:Tm):s.ds.getD 4 D.nil=.int s.till:=rfl
def Rc.d(s:Rc):D:=.agg s.ds
theorem Rc.len(s:Rc):s.ds.length=6:=by simp only[Rc.ds,List.length_cons,List.length_nil]
theorem Rc.get0(s:Rc):s.ds.getD 0 D.nil=.int s.k:=rfl
theorem Rc.get1(s:Rc):s.ds.getD 1 D.nil=.int s.q:=rfl
theorem Rc.get2(s:Rc):s.ds.getD 2 D.nil=.int s.p:=rfl
theorem Rc.get3(s:Rc):s.ds.getD 3 D.nil=.int s.t:=rfl
theorem Rc.get4(s:Rc):s.ds.getD 4 D.nil=.int s.c:=rfl
theorem Rc.get5(s:Rc):s.ds.getD 5 D.nil=.int s.g:=rfl
theorem Cf.len(s:Cf):s.ds.length=7:=by simp only[RU.Cf.ds,List.length_cons,List.length_nil]
theorem Cf.get0(s:Cf):s.ds.getD 0 D.nil=.int s.c0:=rfl
theorem Cf.get1(s:Cf):s.ds.getD 1 D.nil=.int s.c1:=rfl
theorem Cf.get2(s:Cf):s.ds.getD 2 D.nil=.int s.c2:=rfl
theorem Cf.get3(s:Cf):s.ds.getD 3 D.nil=.int s.c3:=rfl
theorem Cf.get4(s:Cf):s.ds.getD 4 D.nil=.int s.c4:=rfl
theorem Cf.get5(s:Cf):s.ds.getD 5 D.nil=.int s.c5:=rfl
theorem Cf.get6(s:Cf):s.ds.getD 6 D.nil=.int s.c6:=rfl
structure Ask where
 kind:Int
 id:Int
 cell:Int
 tm:Tm
 qty:Int
def Ask.ds(s:Ask):List D:=[.int s.kind,.int s.id,.int s.cell,.int s.tm.name,.int s.tm.side,.int s.tm.price,.int s.tm.least,.int s.tm.till,.int s.qty]
def Ask.d(s:Ask):D:=.agg s.ds
theorem Ask.len(s:Ask):s.ds.length=9:=by simp only[Ask.ds,List.length_cons,List.length_nil]
theorem Ask.get0(s:Ask):s.ds.getD 0 D.nil=.int s.kind:=rfl
theorem Ask.get1(s:Ask):s.ds.getD 1 D.nil=.int s.id:=rfl
theorem Ask.get2(s:Ask):s.ds.getD 2 D.nil=.int s.cell:=rfl
theorem Ask.get3(s:Ask):s.ds.getD 3 D.nil=.int s.tm.name:=rfl
theorem Ask.get4(s:Ask):s.ds.getD 4 D.nil=.int s.tm.side:=rfl
theorem Ask.get5(s:Ask):s.ds.getD 5 D.nil=.int s.tm.price:=rfl
theorem Ask.get6(s:Ask):s.ds.getD 6 D.nil=.int s.tm.least:=rfl
theorem Ask.get7(s:Ask):s.ds.getD 7 D.nil=.int s.tm.till:=rfl
theorem Ask.get8(s:Ask):s.ds.getD 8 D.nil=.int s.qty:=rfl
structure Aim where
 way:Int
 x:Int
 gen:Int
 y:Int
 shard:Int
def Aim.ds(s:Aim):List D:=[.int s.way,.int s.x,.int s.gen,.int s.y,.int s.shard]
def Aim.d(s:Aim):D:=.agg s.ds
theorem Aim.len(s:Aim):s.ds.length=5:=by simp only[Aim.ds,List.length_cons,List.length_nil]
theorem Aim.get0(s:Aim):s.ds.getD 0 D.nil=.int s.way:=rfl
theorem Aim.get1(s:Aim):s.ds.getD 1 D.nil=.int s.x:=rfl
theorem Aim.get2(s:Aim):s.ds.getD 2 D.nil=.int s.gen:=rfl
theorem Aim.get3(s:Aim):s.ds.getD 3 D.nil=.int s.y:=rfl
theorem Aim.get4(s:Aim):s.ds.getD 4 D.nil=.int s.shard:=rfl
structure Look where
 kind:Int
 left:Int
 fills:Int
def Look.ds(s:Look):List D:=[.int s.kind,.int s.left,.int s.fills]
def Look.d(s:Look):D:=.agg s.ds
theorem Look.len(s:Look):s.ds.length=3:=by simp only[Look.ds,List.length_cons,List.length_nil]
theorem Look.get0(s:Look):s.ds.getD 0 D.nil=.int s.kind:=rfl
theorem Look.get1(s:Look):s.ds.getD 1 D.nil=.int s.left:=rfl
theorem Look.get2(s:Look):s.ds.getD 2 D.nil=.int s.fills:=rfl
structure Ev where
 kind:Int
 cell:Int
 gen:Int
 other:Int
 wth:Int
 tm:Tm
 qty:Int
 price:Int
 tick:Int
 fin:Int
def Ev.ds(s:Ev):List D:=[.int s.kind,.int s.cell,.int s.gen,.int s.other,.int s.wth,.int s.tm.name,.int s.tm.side,.int s.tm.price,.int s.tm.least,.int s.tm.till,.int s.qty,.int s.price,.int s.tick,.int s.fin]
def Ev.d(s:Ev):D:=.agg s.ds
theorem Ev.len(s:Ev):s.ds.length=14:=by simp only[Ev.ds,List.length_cons,List.length_nil]
theorem Ev.get0(s:Ev):s.ds.getD 0 D.nil=.int s.kind:=rfl
theorem Ev.get1(s:Ev):s.ds.getD 1 D.nil=.int s.cell:=rfl
theorem Ev.get2(s:Ev):s.ds.getD 2 D.nil=.int s.gen:=rfl
theorem Ev.get3(s:Ev):s.ds.getD 3 D.nil=.int s.other:=rfl
theorem Ev.get4(s:Ev):s.ds.getD 4 D.nil=.int s.wth:=rfl
theorem Ev.get5(s:Ev):s.ds.getD 5 D.nil=.int s.tm.name:=rfl
theorem Ev.get6(s:Ev):s.ds.getD 6 D.nil=.int s.tm.side:=rfl
theorem Ev.get7(s:Ev):s.ds.getD 7 D.nil=.int s.tm.price:=rfl
theorem Ev.get8(s:Ev):s.ds.getD 8 D.nil=.int s.tm.least:=rfl
theorem Ev.get9(s:Ev):s.ds.getD 9 D.nil=.int s.tm.till:=rfl
theorem Ev.get10(s:Ev):s.ds.getD 10 D.nil=.int s.qty:=rfl
theorem Ev.get11(s:Ev):s.ds.getD 11 D.nil=.int s.price:=rfl
theorem Ev.get12(s:Ev):s.ds.getD 12 D.nil=.int s.tick:=rfl
theorem Ev.get13(s:Ev):s.ds.getD 13 D.nil=.int s.fin:=rfl
structure Cur where
 gen:Int
 n:Int
def Cur.ds(s:Cur):List D:=[.int s.gen,.int s.n]
def Cur.d(s:Cur):D:=.agg s.ds
theorem Cur.len(s:Cur):s.ds.length=2:=by simp only[Cur.ds,List.length_cons,List.length_nil]
theorem Cur.get0(s:Cur):s.ds.getD 0 D.nil=.int s.gen:=rfl
theorem Cur.get1(s:Cur):s.ds.getD 1 D.nil=.int s.n:=rfl
structure Qe where
 a:Ask
 ev:Int
def Qe.ds(s:Qe):List D:=[.int s.a.kind,.int s.a.id,.int s.a.cell,.int s.a.tm.name,.int s.a.tm.side,.int s.a.tm.price,.int s.a.tm.least,.int s.a.tm.till,.int s.a.qty,.int s.ev]
def Qe.d(s:Qe):D:=.agg s.ds
theorem Qe.len(s:Qe):s.ds.length=10:=by simp only[Qe.ds,List.length_cons,List.length_nil]
theorem Qe.get0(s:Qe):s.ds.getD 0 D.nil=.int s.a.kind:=rfl
theorem Qe.get1(s:Qe):s.ds.getD 1 D.nil=.int s.a.id:=rfl
theorem Qe.get2(s:Qe):s.ds.getD 2 D.nil=.int s.a.cell:=rfl
theorem Qe.get3(s:Qe):s.ds.getD 3 D.nil=.int s.a.tm.name:=rfl
theorem Qe.get4(s:Qe):s.ds.getD 4 D.nil=.int s.a.tm.side:=rfl
theorem Qe.get5(s:Qe):s.ds.getD 5 D.nil=.int s.a.tm.price:=rfl
theorem Qe.get6(s:Qe):s.ds.getD 6 D.nil=.int s.a.tm.least:=rfl
theorem Qe.get7(s:Qe):s.ds.getD 7 D.nil=.int s.a.tm.till:=rfl
theorem Qe.get8(s:Qe):s.ds.getD 8 D.nil=.int s.a.qty:=rfl
theorem Qe.get9(s:Qe):s.ds.getD 9 D.nil=.int s.ev:=rfl
structure Dr where
 n:Int
 ev:Int
def Dr.ds(s:Dr):List D:=[.int s.n,.int s.ev]
def Dr.d(s:Dr):D:=.agg s.ds
theorem Dr.len(s:Dr):s.ds.length=2:=by simp only[Dr.ds,List.length_cons,List.length_nil]
theorem Dr.get0(s:Dr):s.ds.getD 0 D.nil=.int s.n:=rfl
theorem Dr.get1(s:Dr):s.ds.getD 1 D.nil=.int s.ev:=rfl
structure Rep where
 kind:Int
 code:Int
 tick:Int
 id:Int
 cell:Int
 asked:Bool
 rc:Rc
 looks:List Look
def Rep.ds(s:Rep):List D:=[.int s.kind,.int s.code,.int s.tick,.int s.id,.int s.cell,.bool s.asked,.int s.rc.k,.int s.rc.q,.int s.rc.p,.int s.rc.t,.int s.rc.c,.int s.rc.g,.agg (s.looks.map Look.d)]
def Rep.d(s:Rep):D:=.agg s.ds
theorem Rep.len(s:Rep):s.ds.length=13:=by simp only[Rep.ds,List.length_cons,List.length_nil]
theorem Rep.get0(s:Rep):s.ds.getD 0 D.nil=.int s.kind:=rfl
theorem Rep.get1(s:Rep):s.ds.getD 1 D.nil=.int s.code:=rfl
theorem Rep.get2(s:Rep):s.ds.getD 2 D.nil=.int s.tick:=rfl
theorem Rep.get3(s:Rep):s.ds.getD 3 D.nil=.int s.id:=rfl
theorem Rep.get4(s:Rep):s.ds.getD 4 D.nil=.int s.cell:=rfl
theorem Rep.get5(s:Rep):s.ds.getD 5 D.nil=.bool s.asked:=rfl
theorem Rep.get6(s:Rep):s.ds.getD 6 D.nil=.int s.rc.k:=rfl
theorem Rep.get7(s:Rep):s.ds.getD 7 D.nil=.int s.rc.q:=rfl
theorem Rep.get8(s:Rep):s.ds.getD 8 D.nil=.int s.rc.p:=rfl
theorem Rep.get9(s:Rep):s.ds.getD 9 D.nil=.int s.rc.t:=rfl
theorem Rep.get10(s:Rep):s.ds.getD 10 D.nil=.int s.rc.c:=rfl
theorem Rep.get11(s:Rep):s.ds.getD 11 D.nil=.int s.rc.g:=rfl
theorem Rep.get12(s:Rep):s.ds.getD 12 D.nil=.agg (s.looks.map Look.d):=rfl
structure Out where
 part:Int
 ev:Int
 r:Rep
def Out.ds(s:Out):List D:=[.int s.part,.int s.ev,.int s.r.kind,.int s.r.code,.int s.r.tick,.int s.r.id,.int s.r.cell,.bool s.r.asked,.int s.r.rc.k,.int s.r.rc.q,.int s.r.rc.p,.int s.r.rc.t,.int s.r.rc.c,.int s.r.rc.g,.agg (s.r.looks.map Look.d)]
def Out.d(s:Out):D:=.agg s.ds
theorem Out.len(s:Out):s.ds.length=15:=by simp only[Out.ds,List.length_cons,List.length_nil]
theorem Out.get0(s:Out):s.ds.getD 0 D.nil=.int s.part:=rfl
theorem Out.get1(s:Out):s.ds.getD 1 D.nil=.int s.ev:=rfl
theorem Out.get2(s:Out):s.ds.getD 2 D.nil=.int s.r.kind:=rfl
theorem Out.get3(s:Out):s.ds.getD 3 D.nil=.int s.r.code:=rfl
theorem Out.get4(s:Out):s.ds.getD 4 D.nil=.int s.r.tick:=rfl
theorem Out.get5(s:Out):s.ds.getD 5 D.nil=.int s.r.id:=rfl
theorem Out.get6(s:Out):s.ds.getD 6 D.nil=.int s.r.cell:=rfl
theorem Out.get7(s:Out):s.ds.getD 7 D.nil=.bool s.r.asked:=rfl
theorem Out.get8(s:Out):s.ds.getD 8 D.nil=.int s.r.rc.k:=rfl
theorem Out.get9(s:Out):s.ds.getD 9 D.nil=.int s.r.rc.q:=rfl
theorem Out.get10(s:Out):s.ds.getD 10 D.nil=.int s.r.rc.p:=rfl
theorem Out.get11(s:Out):s.ds.getD 11 D.nil=.int s.r.rc.t:=rfl
theorem Out.get12(s:Out):s.ds.getD 12 D.nil=.int s.r.rc.c:=rfl
theorem Out.get13(s:Out):s.ds.getD 13 D.nil=.int s.r.rc.g:=rfl
theorem Out.get14(s:Out):s.ds.getD 14 D.nil=.agg (s.r.looks.map Look.d):=rfl
structure PairS where
 a:Aim
 pc:Int
 wx:Nat
 wy:Nat
 tx:Tm
 ty:Tm
 held:Bool
 made:Bool
 free:Bool
 q:Int
 p:Int
 at_:Int
 fin:Int
 nx:St
 ny:St
def PairS.ds(s:PairS):List D:=[.int s.a.way,.int s.a.x,.int s.a.gen,.int s.a.y,.int s.a.shard,.int s.pc,wN s.wx,wN s.wy,.int s.tx.name,.int s.tx.side,.int s.tx.price,.int s.tx.least,.int s.tx.till,.int s.ty.name,.int s.ty.side,.int s.ty.price,.int s.ty.least,.int s.ty.till,.bool s.held,.bool s.made,.bool s.free,.int s.q,.int s.p,.int s.at_,.int s.fin,.int s.nx.k,.bool s.nx.f,.int s.nx.g,.int s.nx.l,.int s.nx.n,.int s.ny.k,.bool s.ny.f,.int s.ny.g,.int s.ny.l,.int s.ny.n]
theorem PairS.len(s:PairS):s.ds.length=35:=by simp only[PairS.ds,List.length_cons,List.length_nil]
theorem PairS.rng(s:PairS):((List.range 35).map fun j=>s.ds.getD j D.nil)=s.ds:=P.rng s.len
theorem PairS.get0(s:PairS):s.ds.getD 0 D.nil=.int s.a.way:=rfl
theorem PairS.set0(s:PairS)(x:Int):s.ds.set 0 (.int x)=PairS.ds {s with a:={s.a with way:=x}}:=rfl
theorem PairS.get1(s:PairS):s.ds.getD 1 D.nil=.int s.a.x:=rfl
theorem PairS.set1(s:PairS)(x:Int):s.ds.set 1 (.int x)=PairS.ds {s with a:={s.a with x:=x}}:=rfl
theorem PairS.get2(s:PairS):s.ds.getD 2 D.nil=.int s.a.gen:=rfl
theorem PairS.set2(s:PairS)(x:Int):s.ds.set 2 (.int x)=PairS.ds {s with a:={s.a with gen:=x}}:=rfl
theorem PairS.get3(s:PairS):s.ds.getD 3 D.nil=.int s.a.y:=rfl
theorem PairS.set3(s:PairS)(x:Int):s.ds.set 3 (.int x)=PairS.ds {s with a:={s.a with y:=x}}:=rfl
theorem PairS.get4(s:PairS):s.ds.getD 4 D.nil=.int s.a.shard:=rfl
theorem PairS.set4(s:PairS)(x:Int):s.ds.set 4 (.int x)=PairS.ds {s with a:={s.a with shard:=x}}:=rfl
theorem PairS.get5(s:PairS):s.ds.getD 5 D.nil=.int s.pc:=rfl
theorem PairS.set5(s:PairS)(x:Int):s.ds.set 5 (.int x)=PairS.ds {s with pc:=x}:=rfl
theorem PairS.get6(s:PairS):s.ds.getD 6 D.nil=wN s.wx:=rfl
theorem PairS.set6(s:PairS)(x:Nat):s.ds.set 6 (wN x)=PairS.ds {s with wx:=x}:=rfl
theorem PairS.get7(s:PairS):s.ds.getD 7 D.nil=wN s.wy:=rfl
theorem PairS.set7(s:PairS)(x:Nat):s.ds.set 7 (wN x)=PairS.ds {s with wy:=x}:=rfl
theorem PairS.get8(s:PairS):s.ds.getD 8 D.nil=.int s.tx.name:=rfl
theorem PairS.set8(s:PairS)(x:Int):s.ds.set 8 (.int x)=PairS.ds {s with tx:={s.tx with name:=x}}:=rfl
theorem PairS.get9(s:PairS):s.ds.getD 9 D.nil=.int s.tx.side:=rfl
theorem PairS.set9(s:PairS)(x:Int):s.ds.set 9 (.int x)=PairS.ds {s with tx:={s.tx with side:=x}}:=rfl
theorem PairS.get10(s:PairS):s.ds.getD 10 D.nil=.int s.tx.price:=rfl
theorem PairS.set10(s:PairS)(x:Int):s.ds.set 10 (.int x)=PairS.ds {s with tx:={s.tx with price:=x}}:=rfl
theorem PairS.get11(s:PairS):s.ds.getD 11 D.nil=.int s.tx.least:=rfl
theorem PairS.set11(s:PairS)(x:Int):s.ds.set 11 (.int x)=PairS.ds {s with tx:={s.tx with least:=x}}:=rfl
theorem PairS.get12(s:PairS):s.ds.getD 12 D.nil=.int s.tx.till:=rfl
theorem PairS.set12(s:PairS)(x:Int):s.ds.set 12 (.int x)=PairS.ds {s with tx:={s.tx with till:=x}}:=rfl
theorem PairS.get13(s:PairS):s.ds.getD 13 D.nil=.int s.ty.name:=rfl
theorem PairS.set13(s:PairS)(x:Int):s.ds.set 13 (.int x)=PairS.ds {s with ty:={s.ty with name:=x}}:=rfl
theorem PairS.get14(s:PairS):s.ds.getD 14 D.nil=.int s.ty.side:=rfl
theorem PairS.set14(s:PairS)(x:Int):s.ds.set 14 (.int x)=PairS.ds {s with ty:={s.ty with side:=x}}:=rfl
theorem PairS.get15(s:PairS):s.ds.getD 15 D.nil=.int s.ty.price:=rfl
theorem PairS.set15(s:PairS)(x:Int):s.ds.set 15 (.int x)=PairS.ds {s with ty:={s.ty with price:=x}}:=rfl
theorem PairS.get16(s:PairS):s.ds.getD 16 D.nil=.int s.ty.least:=rfl
theorem PairS.set16(s:PairS)(x:Int):s.ds.set 16 (.int x)=PairS.ds {s with ty:={s.ty with least:=x}}:=rfl
theorem PairS.get17(s:PairS):s.ds.getD 17 D.nil=.int s.ty.till:=rfl
theorem PairS.set17(s:PairS)(x:Int):s.ds.set 17 (.int x)=PairS.ds {s with ty:={s.ty with till:=x}}:=rfl
theorem PairS.get18(s:PairS):s.ds.getD 18 D.nil=.bool s.held:=rfl
theorem PairS.set18(s:PairS)(x:Bool):s.ds.set 18 (.bool x)=PairS.ds {s with held:=x}:=rfl
theorem PairS.get19(s:PairS):s.ds.getD 19 D.nil=.bool s.made:=rfl
theorem PairS.set19(s:PairS)(x:Bool):s.ds.set 19 (.bool x)=PairS.ds {s with made:=x}:=rfl
theorem PairS.get20(s:PairS):s.ds.getD 20 D.nil=.bool s.free:=rfl
theorem PairS.set20(s:PairS)(x:Bool):s.ds.set 20 (.bool x)=PairS.ds {s with free:=x}:=rfl
theorem PairS.get21(s:PairS):s.ds.getD 21 D.nil=.int s.q:=rfl
theorem PairS.set21(s:PairS)(x:Int):s.ds.set 21 (.int x)=PairS.ds {s with q:=x}:=rfl
theorem PairS.get22(s:PairS):s.ds.getD 22 D.nil=.int s.p:=rfl
theorem PairS.set22(s:PairS)(x:Int):s.ds.set 22 (.int x)=PairS.ds {s with p:=x}:=rfl
theorem PairS.get23(s:PairS):s.ds.getD 23 D.nil=.int s.at_:=rfl
theorem PairS.set23(s:PairS)(x:Int):s.ds.set 23 (.int x)=PairS.ds {s with at_:=x}:=rfl
theorem PairS.get24(s:PairS):s.ds.getD 24 D.nil=.int s.fin:=rfl
theorem PairS.set24(s:PairS)(x:Int):s.ds.set 24 (.int x)=PairS.ds {s with fin:=x}:=rfl
theorem PairS.get25(s:PairS):s.ds.getD 25 D.nil=.int s.nx.k:=rfl
theorem PairS.set25(s:PairS)(x:Int):s.ds.set 25 (.int x)=PairS.ds {s with nx:={s.nx with k:=x}}:=rfl
theorem PairS.get26(s:PairS):s.ds.getD 26 D.nil=.bool s.nx.f:=rfl
theorem PairS.set26(s:PairS)(x:Bool):s.ds.set 26 (.bool x)=PairS.ds {s with nx:={s.nx with f:=x}}:=rfl
theorem PairS.get27(s:PairS):s.ds.getD 27 D.nil=.int s.nx.g:=rfl
theorem PairS.set27(s:PairS)(x:Int):s.ds.set 27 (.int x)=PairS.ds {s with nx:={s.nx with g:=x}}:=rfl
theorem PairS.get28(s:PairS):s.ds.getD 28 D.nil=.int s.nx.l:=rfl
theorem PairS.set28(s:PairS)(x:Int):s.ds.set 28 (.int x)=PairS.ds {s with nx:={s.nx with l:=x}}:=rfl
theorem PairS.get29(s:PairS):s.ds.getD 29 D.nil=.int s.nx.n:=rfl
theorem PairS.set29(s:PairS)(x:Int):s.ds.set 29 (.int x)=PairS.ds {s with nx:={s.nx with n:=x}}:=rfl
theorem PairS.get30(s:PairS):s.ds.getD 30 D.nil=.int s.ny.k:=rfl
theorem PairS.set30(s:PairS)(x:Int):s.ds.set 30 (.int x)=PairS.ds {s with ny:={s.ny with k:=x}}:=rfl
theorem PairS.get31(s:PairS):s.ds.getD 31 D.nil=.bool s.ny.f:=rfl
theorem PairS.set31(s:PairS)(x:Bool):s.ds.set 31 (.bool x)=PairS.ds {s with ny:={s.ny with f:=x}}:=rfl
theorem PairS.get32(s:PairS):s.ds.getD 32 D.nil=.int s.ny.g:=rfl
theorem PairS.set32(s:PairS)(x:Int):s.ds.set 32 (.int x)=PairS.ds {s with ny:={s.ny with g:=x}}:=rfl
theorem PairS.get33(s:PairS):s.ds.getD 33 D.nil=.int s.ny.l:=rfl
theorem PairS.set33(s:PairS)(x:Int):s.ds.set 33 (.int x)=PairS.ds {s with ny:={s.ny with l:=x}}:=rfl
theorem PairS.get34(s:PairS):s.ds.getD 34 D.nil=.int s.ny.n:=rfl
theorem PairS.set34(s:PairS)(x:Int):s.ds.set 34 (.int x)=PairS.ds {s with ny:={s.ny with n:=x}}:=rfl
structure PrS where
 a:Ask
 pc:Int
 word:Nat
 st:St
 tries:Int
 done:Int
 at_:Int
 p:D
 n:Int
 aims:List Aim
 r0:Rc
 r1:Rc
 looks:List Look
 draw:D
def PrS.ds(s:PrS):List D:=[.int s.a.kind,.int s.a.id,.int s.a.cell,.int s.a.tm.name,.int s.a.tm.side,.int s.a.tm.price,.int s.a.tm.least,.int s.a.tm.till,.int s.a.qty,.int s.pc,wN s.word,.int s.st.k,.bool s.st.f,.int s.st.g,.int s.st.l,.int s.st.n,.int s.tries,.int s.done,.int s.at_,s.p,.int s.n,.agg (s.aims.map Aim.d),.int s.r0.k,.int s.r0.q,.int s.r0.p,.int s.r0.t,.int s.r0.c,.int s.r0.g,.int s.r1.k,.int s.r1.q,.int s.r1.p,.int s.r1.t,.int s.r1.c,.int s.r1.g,.agg (s.looks.map Look.d),s.draw]
theorem PrS.len(s:PrS):s.ds.length=36:=by simp only[PrS.ds,List.length_cons,List.length_nil]
theorem PrS.rng(s:PrS):((List.range 36).map fun j=>s.ds.getD j D.nil)=s.ds:=P.rng s.len
theorem PrS.get0(s:PrS):s.ds.getD 0 D.nil=.int s.a.kind:=rfl
theorem PrS.set0(s:PrS)(x:Int):s.ds.set 0 (.int x)=PrS.ds {s with a:={s.a with kind:=x}}:=rfl
theorem PrS.get1(s:PrS):s.ds.getD 1 D.nil=.int s.a.id:=rfl
theorem PrS.set1(s:PrS)(x:Int):s.ds.set 1 (.int x)=PrS.ds {s with a:={s.a with id:=x}}:=rfl
theorem PrS.get2(s:PrS):s.ds.getD 2 D.nil=.int s.a.cell:=rfl
theorem PrS.set2(s:PrS)(x:Int):s.ds.set 2 (.int x)=PrS.ds {s with a:={s.a with cell:=x}}:=rfl
theorem PrS.get3(s:PrS):s.ds.getD 3 D.nil=.int s.a.tm.name:=rfl
theorem PrS.set3(s:PrS)(x:Int):s.ds.set 3 (.int x)=PrS.ds {s with a:={s.a with tm:={s.a.tm with name:=x}}}:=rfl
theorem PrS.get4(s:PrS):s.ds.getD 4 D.nil=.int s.a.tm.side:=rfl
theorem PrS.set4(s:PrS)(x:Int):s.ds.set 4 (.int x)=PrS.ds {s with a:={s.a with tm:={s.a.tm with side:=x}}}:=rfl
theorem PrS.get5(s:PrS):s.ds.getD 5 D.nil=.int s.a.tm.price:=rfl
theorem PrS.set5(s:PrS)(x:Int):s.ds.set 5 (.int x)=PrS.ds {s with a:={s.a with tm:={s.a.tm with price:=x}}}:=rfl
theorem PrS.get6(s:PrS):s.ds.getD 6 D.nil=.int s.a.tm.least:=rfl
theorem PrS.set6(s:PrS)(x:Int):s.ds.set 6 (.int x)=PrS.ds {s with a:={s.a with tm:={s.a.tm with least:=x}}}:=rfl
theorem PrS.get7(s:PrS):s.ds.getD 7 D.nil=.int s.a.tm.till:=rfl
theorem PrS.set7(s:PrS)(x:Int):s.ds.set 7 (.int x)=PrS.ds {s with a:={s.a with tm:={s.a.tm with till:=x}}}:=rfl
theorem PrS.get8(s:PrS):s.ds.getD 8 D.nil=.int s.a.qty:=rfl
theorem PrS.set8(s:PrS)(x:Int):s.ds.set 8 (.int x)=PrS.ds {s with a:={s.a with qty:=x}}:=rfl
theorem PrS.get9(s:PrS):s.ds.getD 9 D.nil=.int s.pc:=rfl
theorem PrS.set9(s:PrS)(x:Int):s.ds.set 9 (.int x)=PrS.ds {s with pc:=x}:=rfl
theorem PrS.get10(s:PrS):s.ds.getD 10 D.nil=wN s.word:=rfl
theorem PrS.set10(s:PrS)(x:Nat):s.ds.set 10 (wN x)=PrS.ds {s with word:=x}:=rfl
theorem PrS.get11(s:PrS):s.ds.getD 11 D.nil=.int s.st.k:=rfl
theorem PrS.set11(s:PrS)(x:Int):s.ds.set 11 (.int x)=PrS.ds {s with st:={s.st with k:=x}}:=rfl
theorem PrS.get12(s:PrS):s.ds.getD 12 D.nil=.bool s.st.f:=rfl
theorem PrS.set12(s:PrS)(x:Bool):s.ds.set 12 (.bool x)=PrS.ds {s with st:={s.st with f:=x}}:=rfl
theorem PrS.get13(s:PrS):s.ds.getD 13 D.nil=.int s.st.g:=rfl
theorem PrS.set13(s:PrS)(x:Int):s.ds.set 13 (.int x)=PrS.ds {s with st:={s.st with g:=x}}:=rfl
theorem PrS.get14(s:PrS):s.ds.getD 14 D.nil=.int s.st.l:=rfl
theorem PrS.set14(s:PrS)(x:Int):s.ds.set 14 (.int x)=PrS.ds {s with st:={s.st with l:=x}}:=rfl
theorem PrS.get15(s:PrS):s.ds.getD 15 D.nil=.int s.st.n:=rfl
theorem PrS.set15(s:PrS)(x:Int):s.ds.set 15 (.int x)=PrS.ds {s with st:={s.st with n:=x}}:=rfl
theorem PrS.get16(s:PrS):s.ds.getD 16 D.nil=.int s.tries:=rfl
theorem PrS.set16(s:PrS)(x:Int):s.ds.set 16 (.int x)=PrS.ds {s with tries:=x}:=rfl
theorem PrS.get17(s:PrS):s.ds.getD 17 D.nil=.int s.done:=rfl
theorem PrS.set17(s:PrS)(x:Int):s.ds.set 17 (.int x)=PrS.ds {s with done:=x}:=rfl
theorem PrS.get18(s:PrS):s.ds.getD 18 D.nil=.int s.at_:=rfl
theorem PrS.set18(s:PrS)(x:Int):s.ds.set 18 (.int x)=PrS.ds {s with at_:=x}:=rfl
theorem PrS.get19(s:PrS):s.ds.getD 19 D.nil=s.p:=rfl
theorem PrS.set19(s:PrS)(x:D):s.ds.set 19 (x)=PrS.ds {s with p:=x}:=rfl
theorem PrS.get20(s:PrS):s.ds.getD 20 D.nil=.int s.n:=rfl
theorem PrS.set20(s:PrS)(x:Int):s.ds.set 20 (.int x)=PrS.ds {s with n:=x}:=rfl
theorem PrS.get21(s:PrS):s.ds.getD 21 D.nil=.agg (s.aims.map Aim.d):=rfl
theorem PrS.set21(s:PrS)(x:List Aim):s.ds.set 21 (.agg (x.map Aim.d))=PrS.ds {s with aims:=x}:=rfl
theorem PrS.get22(s:PrS):s.ds.getD 22 D.nil=.int s.r0.k:=rfl
theorem PrS.set22(s:PrS)(x:Int):s.ds.set 22 (.int x)=PrS.ds {s with r0:={s.r0 with k:=x}}:=rfl
theorem PrS.get23(s:PrS):s.ds.getD 23 D.nil=.int s.r0.q:=rfl
theorem PrS.set23(s:PrS)(x:Int):s.ds.set 23 (.int x)=PrS.ds {s with r0:={s.r0 with q:=x}}:=rfl
theorem PrS.get24(s:PrS):s.ds.getD 24 D.nil=.int s.r0.p:=rfl
theorem PrS.set24(s:PrS)(x:Int):s.ds.set 24 (.int x)=PrS.ds {s with r0:={s.r0 with p:=x}}:=rfl
theorem PrS.get25(s:PrS):s.ds.getD 25 D.nil=.int s.r0.t:=rfl
theorem PrS.set25(s:PrS)(x:Int):s.ds.set 25 (.int x)=PrS.ds {s with r0:={s.r0 with t:=x}}:=rfl
theorem PrS.get26(s:PrS):s.ds.getD 26 D.nil=.int s.r0.c:=rfl
theorem PrS.set26(s:PrS)(x:Int):s.ds.set 26 (.int x)=PrS.ds {s with r0:={s.r0 with c:=x}}:=rfl
theorem PrS.get27(s:PrS):s.ds.getD 27 D.nil=.int s.r0.g:=rfl
theorem PrS.set27(s:PrS)(x:Int):s.ds.set 27 (.int x)=PrS.ds {s with r0:={s.r0 with g:=x}}:=rfl
theorem PrS.get28(s:PrS):s.ds.getD 28 D.nil=.int s.r1.k:=rfl
theorem PrS.set28(s:PrS)(x:Int):s.ds.set 28 (.int x)=PrS.ds {s with r1:={s.r1 with k:=x}}:=rfl
theorem PrS.get29(s:PrS):s.ds.getD 29 D.nil=.int s.r1.q:=rfl
theorem PrS.set29(s:PrS)(x:Int):s.ds.set 29 (.int x)=PrS.ds {s with r1:={s.r1 with q:=x}}:=rfl
theorem PrS.get30(s:PrS):s.ds.getD 30 D.nil=.int s.r1.p:=rfl
theorem PrS.set30(s:PrS)(x:Int):s.ds.set 30 (.int x)=PrS.ds {s with r1:={s.r1 with p:=x}}:=rfl
theorem PrS.get31(s:PrS):s.ds.getD 31 D.nil=.int s.r1.t:=rfl
theorem PrS.set31(s:PrS)(x:Int):s.ds.set 31 (.int x)=PrS.ds {s with r1:={s.r1 with t:=x}}:=rfl
theorem PrS.get32(s:PrS):s.ds.getD 32 D.nil=.int s.r1.c:=rfl
theorem PrS.set32(s:PrS)(x:Int):s.ds.set 32 (.int x)=PrS.ds {s with r1:={s.r1 with c:=x}}:=rfl
theorem PrS.get33(s:PrS):s.ds.getD 33 D.nil=.int s.r1.g:=rfl
theorem PrS.set33(s:PrS)(x:Int):s.ds.set 33 (.int x)=PrS.ds {s with r1:={s.r1 with g:=x}}:=rfl
theorem PrS.get34(s:PrS):s.ds.getD 34 D.nil=.agg (s.looks.map Look.d):=rfl
theorem PrS.set34(s:PrS)(x:List Look):s.ds.set 34 (.agg (x.map Look.d))=PrS.ds {s with looks:=x}:=rfl
theorem PrS.get35(s:PrS):s.ds.getD 35 D.nil=s.draw:=rfl
structure SeatS where
 part:Int
 last:Int
 ids:List Int
 gens:List Int
 curs:List Cur
def SeatS.ds(s:SeatS):List D:=[.int s.part,.int s.last,.agg (s.ids.map D.int),.agg (s.gens.map D.int),.agg (s.curs.map Cur.d)]
theorem SeatS.len(s:SeatS):s.ds.length=5:=by simp only[SeatS.ds,List.length_cons,List.length_nil]
theorem SeatS.rng(s:SeatS):((List.range 5).map fun j=>s.ds.getD j D.nil)=s.ds:=P.rng s.len
theorem SeatS.get0(s:SeatS):s.ds.getD 0 D.nil=.int s.part:=rfl
theorem SeatS.set0(s:SeatS)(x:Int):s.ds.set 0 (.int x)=SeatS.ds {s with part:=x}:=rfl
theorem SeatS.get1(s:SeatS):s.ds.getD 1 D.nil=.int s.last:=rfl
theorem SeatS.set1(s:SeatS)(x:Int):s.ds.set 1 (.int x)=SeatS.ds {s with last:=x}:=rfl
theorem SeatS.get2(s:SeatS):s.ds.getD 2 D.nil=.agg (s.ids.map D.int):=rfl
theorem SeatS.set2(s:SeatS)(x:List Int):s.ds.set 2 (.agg (x.map D.int))=SeatS.ds {s with ids:=x}:=rfl
theorem SeatS.get3(s:SeatS):s.ds.getD 3 D.nil=.agg (s.gens.map D.int):=rfl
theorem SeatS.set3(s:SeatS)(x:List Int):s.ds.set 3 (.agg (x.map D.int))=SeatS.ds {s with gens:=x}:=rfl
theorem SeatS.get4(s:SeatS):s.ds.getD 4 D.nil=.agg (s.curs.map Cur.d):=rfl
theorem SeatS.set4(s:SeatS)(x:List Cur):s.ds.set 4 (.agg (x.map Cur.d))=SeatS.ds {s with curs:=x}:=rfl
structure SessS where
 s:D
 queue:List Qe
 now:D
 ev:Int
 tape:List Dr
 taken:Int
def SessS.ds(s:SessS):List D:=[s.s,.agg (s.queue.map Qe.d),s.now,.int s.ev,.agg (s.tape.map Dr.d),.int s.taken]
theorem SessS.len(s:SessS):s.ds.length=6:=by simp only[SessS.ds,List.length_cons,List.length_nil]
theorem SessS.rng(s:SessS):((List.range 6).map fun j=>s.ds.getD j D.nil)=s.ds:=P.rng s.len
theorem SessS.get0(s:SessS):s.ds.getD 0 D.nil=s.s:=rfl
theorem SessS.set0(s:SessS)(x:D):s.ds.set 0 (x)=SessS.ds {s with s:=x}:=rfl
theorem SessS.get1(s:SessS):s.ds.getD 1 D.nil=.agg (s.queue.map Qe.d):=rfl
theorem SessS.set1(s:SessS)(x:List Qe):s.ds.set 1 (.agg (x.map Qe.d))=SessS.ds {s with queue:=x}:=rfl
theorem SessS.get2(s:SessS):s.ds.getD 2 D.nil=s.now:=rfl
theorem SessS.set2(s:SessS)(x:D):s.ds.set 2 (x)=SessS.ds {s with now:=x}:=rfl
theorem SessS.get3(s:SessS):s.ds.getD 3 D.nil=.int s.ev:=rfl
theorem SessS.set3(s:SessS)(x:Int):s.ds.set 3 (.int x)=SessS.ds {s with ev:=x}:=rfl
theorem SessS.get4(s:SessS):s.ds.getD 4 D.nil=.agg (s.tape.map Dr.d):=rfl
theorem SessS.set4(s:SessS)(x:List Dr):s.ds.set 4 (.agg (x.map Dr.d))=SessS.ds {s with tape:=x}:=rfl
theorem SessS.get5(s:SessS):s.ds.getD 5 D.nil=.int s.taken:=rfl
theorem SessS.set5(s:SessS)(x:Int):s.ds.set 5 (.int x)=SessS.ds {s with taken:=x}:=rfl
structure PoolS where
 w:D
 sess:List D
 sweeps:List D
 reaps:List D
 events:Int
 outs:List Out
 uses:List Int
 lines:List Int
def PoolS.ds(s:PoolS):List D:=[s.w,.agg s.sess,.agg s.sweeps,.agg s.reaps,.int s.events,.agg (s.outs.map Out.d),.agg (s.uses.map D.int),.agg (s.lines.map D.int)]
theorem PoolS.len(s:PoolS):s.ds.length=8:=by simp only[PoolS.ds,List.length_cons,List.length_nil]
theorem PoolS.rng(s:PoolS):((List.range 8).map fun j=>s.ds.getD j D.nil)=s.ds:=P.rng s.len
theorem PoolS.get0(s:PoolS):s.ds.getD 0 D.nil=s.w:=rfl
theorem PoolS.set0(s:PoolS)(x:D):s.ds.set 0 (x)=PoolS.ds {s with w:=x}:=rfl
theorem PoolS.get1(s:PoolS):s.ds.getD 1 D.nil=.agg s.sess:=rfl
theorem PoolS.set1(s:PoolS)(x:List D):s.ds.set 1 (.agg x)=PoolS.ds {s with sess:=x}:=rfl
theorem PoolS.get2(s:PoolS):s.ds.getD 2 D.nil=.agg s.sweeps:=rfl
theorem PoolS.set2(s:PoolS)(x:List D):s.ds.set 2 (.agg x)=PoolS.ds {s with sweeps:=x}:=rfl
theorem PoolS.get3(s:PoolS):s.ds.getD 3 D.nil=.agg s.reaps:=rfl
theorem PoolS.set3(s:PoolS)(x:List D):s.ds.set 3 (.agg x)=PoolS.ds {s with reaps:=x}:=rfl
theorem PoolS.get4(s:PoolS):s.ds.getD 4 D.nil=.int s.events:=rfl
theorem PoolS.set4(s:PoolS)(x:Int):s.ds.set 4 (.int x)=PoolS.ds {s with events:=x}:=rfl
theorem PoolS.get5(s:PoolS):s.ds.getD 5 D.nil=.agg (s.outs.map Out.d):=rfl
theorem PoolS.set5(s:PoolS)(x:List Out):s.ds.set 5 (.agg (x.map Out.d))=PoolS.ds {s with outs:=x}:=rfl
theorem PoolS.get6(s:PoolS):s.ds.getD 6 D.nil=.agg (s.uses.map D.int):=rfl
theorem PoolS.set6(s:PoolS)(x:List Int):s.ds.set 6 (.agg (x.map D.int))=PoolS.ds {s with uses:=x}:=rfl
theorem PoolS.get7(s:PoolS):s.ds.getD 7 D.nil=.agg (s.lines.map D.int):=rfl
theorem PoolS.set7(s:PoolS)(x:List Int):s.ds.set 7 (.agg (x.map D.int))=PoolS.ds {s with lines:=x}:=rfl
structure SwS where
 shard:Int
 at_:Int
 passes:Int
 p:D
def SwS.ds(s:SwS):List D:=[.int s.shard,.int s.at_,.int s.passes,s.p]
theorem SwS.len(s:SwS):s.ds.length=4:=by simp only[SwS.ds,List.length_cons,List.length_nil]
theorem SwS.rng(s:SwS):((List.range 4).map fun j=>s.ds.getD j D.nil)=s.ds:=P.rng s.len
theorem SwS.get0(s:SwS):s.ds.getD 0 D.nil=.int s.shard:=rfl
theorem SwS.set0(s:SwS)(x:Int):s.ds.set 0 (.int x)=SwS.ds {s with shard:=x}:=rfl
theorem SwS.get1(s:SwS):s.ds.getD 1 D.nil=.int s.at_:=rfl
theorem SwS.set1(s:SwS)(x:Int):s.ds.set 1 (.int x)=SwS.ds {s with at_:=x}:=rfl
theorem SwS.get2(s:SwS):s.ds.getD 2 D.nil=.int s.passes:=rfl
theorem SwS.set2(s:SwS)(x:Int):s.ds.set 2 (.int x)=SwS.ds {s with passes:=x}:=rfl
theorem SwS.get3(s:SwS):s.ds.getD 3 D.nil=s.p:=rfl
theorem SwS.set3(s:SwS)(x:D):s.ds.set 3 (x)=SwS.ds {s with p:=x}:=rfl
structure ReS where
 shard:Int
 pc:Int
 passes:Int
 word:Nat
 st:St
 tm:Tm
 done:Bool
 at_:Int
def ReS.ds(s:ReS):List D:=[.int s.shard,.int s.pc,.int s.passes,wN s.word,.int s.st.k,.bool s.st.f,.int s.st.g,.int s.st.l,.int s.st.n,.int s.tm.name,.int s.tm.side,.int s.tm.price,.int s.tm.least,.int s.tm.till,.bool s.done,.int s.at_]
theorem ReS.len(s:ReS):s.ds.length=16:=by simp only[ReS.ds,List.length_cons,List.length_nil]
theorem ReS.rng(s:ReS):((List.range 16).map fun j=>s.ds.getD j D.nil)=s.ds:=P.rng s.len
theorem ReS.get0(s:ReS):s.ds.getD 0 D.nil=.int s.shard:=rfl
theorem ReS.set0(s:ReS)(x:Int):s.ds.set 0 (.int x)=ReS.ds {s with shard:=x}:=rfl
theorem ReS.get1(s:ReS):s.ds.getD 1 D.nil=.int s.pc:=rfl
theorem ReS.set1(s:ReS)(x:Int):s.ds.set 1 (.int x)=ReS.ds {s with pc:=x}:=rfl
theorem ReS.get2(s:ReS):s.ds.getD 2 D.nil=.int s.passes:=rfl
theorem ReS.set2(s:ReS)(x:Int):s.ds.set 2 (.int x)=ReS.ds {s with passes:=x}:=rfl
theorem ReS.get3(s:ReS):s.ds.getD 3 D.nil=wN s.word:=rfl
theorem ReS.set3(s:ReS)(x:Nat):s.ds.set 3 (wN x)=ReS.ds {s with word:=x}:=rfl
theorem ReS.get4(s:ReS):s.ds.getD 4 D.nil=.int s.st.k:=rfl
theorem ReS.set4(s:ReS)(x:Int):s.ds.set 4 (.int x)=ReS.ds {s with st:={s.st with k:=x}}:=rfl
theorem ReS.get5(s:ReS):s.ds.getD 5 D.nil=.bool s.st.f:=rfl
theorem ReS.set5(s:ReS)(x:Bool):s.ds.set 5 (.bool x)=ReS.ds {s with st:={s.st with f:=x}}:=rfl
theorem ReS.get6(s:ReS):s.ds.getD 6 D.nil=.int s.st.g:=rfl
theorem ReS.set6(s:ReS)(x:Int):s.ds.set 6 (.int x)=ReS.ds {s with st:={s.st with g:=x}}:=rfl
theorem ReS.get7(s:ReS):s.ds.getD 7 D.nil=.int s.st.l:=rfl
theorem ReS.set7(s:ReS)(x:Int):s.ds.set 7 (.int x)=ReS.ds {s with st:={s.st with l:=x}}:=rfl
theorem ReS.get8(s:ReS):s.ds.getD 8 D.nil=.int s.st.n:=rfl
theorem ReS.set8(s:ReS)(x:Int):s.ds.set 8 (.int x)=ReS.ds {s with st:={s.st with n:=x}}:=rfl
theorem ReS.get9(s:ReS):s.ds.getD 9 D.nil=.int s.tm.name:=rfl
theorem ReS.set9(s:ReS)(x:Int):s.ds.set 9 (.int x)=ReS.ds {s with tm:={s.tm with name:=x}}:=rfl
theorem ReS.get10(s:ReS):s.ds.getD 10 D.nil=.int s.tm.side:=rfl
theorem ReS.set10(s:ReS)(x:Int):s.ds.set 10 (.int x)=ReS.ds {s with tm:={s.tm with side:=x}}:=rfl
theorem ReS.get11(s:ReS):s.ds.getD 11 D.nil=.int s.tm.price:=rfl
theorem ReS.set11(s:ReS)(x:Int):s.ds.set 11 (.int x)=ReS.ds {s with tm:={s.tm with price:=x}}:=rfl
theorem ReS.get12(s:ReS):s.ds.getD 12 D.nil=.int s.tm.least:=rfl
theorem ReS.set12(s:ReS)(x:Int):s.ds.set 12 (.int x)=ReS.ds {s with tm:={s.tm with least:=x}}:=rfl
theorem ReS.get13(s:ReS):s.ds.getD 13 D.nil=.int s.tm.till:=rfl
theorem ReS.set13(s:ReS)(x:Int):s.ds.set 13 (.int x)=ReS.ds {s with tm:={s.tm with till:=x}}:=rfl
theorem ReS.get14(s:ReS):s.ds.getD 14 D.nil=.bool s.done:=rfl
theorem ReS.set14(s:ReS)(x:Bool):s.ds.set 14 (.bool x)=ReS.ds {s with done:=x}:=rfl
theorem ReS.get15(s:ReS):s.ds.getD 15 D.nil=.int s.at_:=rfl
theorem ReS.set15(s:ReS)(x:Int):s.ds.set 15 (.int x)=ReS.ds {s with at_:=x}:=rfl
structure WorldS where
 c:Cf
 m:D
 clk:D
 log:List Ev
def WorldS.ds(s:WorldS):List D:=[.int s.c.c0,.int s.c.c1,.int s.c.c2,.int s.c.c3,.int s.c.c4,.int s.c.c5,.int s.c.c6,s.m,s.clk,.agg (s.log.map Ev.d)]
theorem WorldS.len(s:WorldS):s.ds.length=10:=by simp only[WorldS.ds,List.length_cons,List.length_nil]
theorem WorldS.rng(s:WorldS):((List.range 10).map fun j=>s.ds.getD j D.nil)=s.ds:=P.rng s.len
theorem WorldS.get0(s:WorldS):s.ds.getD 0 D.nil=.int s.c.c0:=rfl
theorem WorldS.set0(s:WorldS)(x:Int):s.ds.set 0 (.int x)=WorldS.ds {s with c:={s.c with c0:=x}}:=rfl
theorem WorldS.get1(s:WorldS):s.ds.getD 1 D.nil=.int s.c.c1:=rfl
theorem WorldS.set1(s:WorldS)(x:Int):s.ds.set 1 (.int x)=WorldS.ds {s with c:={s.c with c1:=x}}:=rfl
theorem WorldS.get2(s:WorldS):s.ds.getD 2 D.nil=.int s.c.c2:=rfl
theorem WorldS.set2(s:WorldS)(x:Int):s.ds.set 2 (.int x)=WorldS.ds {s with c:={s.c with c2:=x}}:=rfl
theorem WorldS.get3(s:WorldS):s.ds.getD 3 D.nil=.int s.c.c3:=rfl
theorem WorldS.set3(s:WorldS)(x:Int):s.ds.set 3 (.int x)=WorldS.ds {s with c:={s.c with c3:=x}}:=rfl
theorem WorldS.get4(s:WorldS):s.ds.getD 4 D.nil=.int s.c.c4:=rfl
theorem WorldS.set4(s:WorldS)(x:Int):s.ds.set 4 (.int x)=WorldS.ds {s with c:={s.c with c4:=x}}:=rfl
theorem WorldS.get5(s:WorldS):s.ds.getD 5 D.nil=.int s.c.c5:=rfl
theorem WorldS.set5(s:WorldS)(x:Int):s.ds.set 5 (.int x)=WorldS.ds {s with c:={s.c with c5:=x}}:=rfl
theorem WorldS.get6(s:WorldS):s.ds.getD 6 D.nil=.int s.c.c6:=rfl
theorem WorldS.set6(s:WorldS)(x:Int):s.ds.set 6 (.int x)=WorldS.ds {s with c:={s.c with c6:=x}}:=rfl
theorem WorldS.get7(s:WorldS):s.ds.getD 7 D.nil=s.m:=rfl
theorem WorldS.set7(s:WorldS)(x:D):s.ds.set 7 (x)=WorldS.ds {s with m:=x}:=rfl
theorem WorldS.get8(s:WorldS):s.ds.getD 8 D.nil=s.clk:=rfl
theorem WorldS.set8(s:WorldS)(x:D):s.ds.set 8 (x)=WorldS.ds {s with clk:=x}:=rfl
theorem WorldS.get9(s:WorldS):s.ds.getD 9 D.nil=.agg (s.log.map Ev.d):=rfl
theorem WorldS.set9(s:WorldS)(x:List Ev):s.ds.set 9 (.agg (x.map Ev.d))=WorldS.ds {s with log:=x}:=rfl
structure MemS where
 words:List Nat
 s1:D
 s2:D
 s3:D
 s4:D
 s5:D
 s6:D
def MemS.ds(s:MemS):List D:=[.agg (s.words.map wN),s.s1,s.s2,s.s3,s.s4,s.s5,s.s6]
theorem MemS.len(s:MemS):s.ds.length=7:=by simp only[MemS.ds,List.length_cons,List.length_nil]
theorem MemS.rng(s:MemS):((List.range 7).map fun j=>s.ds.getD j D.nil)=s.ds:=P.rng s.len
theorem MemS.get0(s:MemS):s.ds.getD 0 D.nil=.agg (s.words.map wN):=rfl
theorem MemS.set0(s:MemS)(x:List Nat):s.ds.set 0 (.agg (x.map wN))=MemS.ds {s with words:=x}:=rfl
theorem MemS.get1(s:MemS):s.ds.getD 1 D.nil=s.s1:=rfl
theorem MemS.set1(s:MemS)(x:D):s.ds.set 1 (x)=MemS.ds {s with s1:=x}:=rfl
theorem MemS.get2(s:MemS):s.ds.getD 2 D.nil=s.s2:=rfl
theorem MemS.set2(s:MemS)(x:D):s.ds.set 2 (x)=MemS.ds {s with s2:=x}:=rfl
theorem MemS.get3(s:MemS):s.ds.getD 3 D.nil=s.s3:=rfl
theorem MemS.set3(s:MemS)(x:D):s.ds.set 3 (x)=MemS.ds {s with s3:=x}:=rfl
theorem MemS.get4(s:MemS):s.ds.getD 4 D.nil=s.s4:=rfl
theorem MemS.set4(s:MemS)(x:D):s.ds.set 4 (x)=MemS.ds {s with s4:=x}:=rfl
theorem MemS.get5(s:MemS):s.ds.getD 5 D.nil=s.s5:=rfl
theorem MemS.set5(s:MemS)(x:D):s.ds.set 5 (x)=MemS.ds {s with s5:=x}:=rfl
theorem MemS.get6(s:MemS):s.ds.getD 6 D.nil=s.s6:=rfl
theorem MemS.set6(s:MemS)(x:D):s.ds.set 6 (x)=MemS.ds {s with s6:=x}:=rfl
structure ClkS where
 now:Nat
def ClkS.ds(s:ClkS):List D:=[wN s.now]
theorem ClkS.len(s:ClkS):s.ds.length=1:=by simp only[ClkS.ds,List.length_cons,List.length_nil]
theorem ClkS.rng(s:ClkS):((List.range 1).map fun j=>s.ds.getD j D.nil)=s.ds:=P.rng s.len
theorem ClkS.get0(s:ClkS):s.ds.getD 0 D.nil=wN s.now:=rfl
theorem ClkS.set0(s:ClkS)(x:Nat):s.ds.set 0 (wN x)=ClkS.ds {s with now:=x}:=rfl
set_option linter.defProp false in
def PairS.all:=And.intro @PairS.len<|And.intro @PairS.rng<|And.intro @PairS.get0<|And.intro @PairS.set0<|And.intro @PairS.get1<|And.intro @PairS.set1<|And.intro @PairS.get2<|And.intro @PairS.set2<|And.intro @PairS.get3<|And.intro @PairS.set3<|And.intro @PairS.get4<|And.intro @PairS.set4<|And.intro @PairS.get5<|And.intro @PairS.set5<|And.intro @PairS.get6<|And.intro @PairS.set6<|And.intro @PairS.get7<|And.intro @PairS.set7<|And.intro @PairS.get8<|And.intro @PairS.set8<|And.intro @PairS.get9<|And.intro @PairS.set9<|And.intro @PairS.get10<|And.intro @PairS.set10<|And.intro @PairS.get11<|And.intro @PairS.set11<|And.intro @PairS.get12<|And.intro @PairS.set12<|And.intro @PairS.get13<|And.intro @PairS.set13<|And.intro @PairS.get14<|And.intro @PairS.set14<|And.intro @PairS.get15<|And.intro @PairS.set15<|And.intro @PairS.get16<|And.intro @PairS.set16<|And.intro @PairS.get17<|And.intro @PairS.set17<|And.intro @PairS.get18<|And.intro @PairS.set18<|And.intro @PairS.get19<|And.intro @PairS.set19<|And.intro @PairS.get20<|And.intro @PairS.set20<|And.intro @PairS.get21<|And.intro @PairS.set21<|And.intro @PairS.get22<|And.intro @PairS.set22<|And.intro @PairS.get23<|And.intro @PairS.set23<|And.intro @PairS.get24<|And.intro @PairS.set24<|And.intro @PairS.get25<|And.intro @PairS.set25<|And.intro @PairS.get26<|And.intro @PairS.set26<|And.intro @PairS.get27<|And.intro @PairS.set27<|And.intro @PairS.get28<|And.intro @PairS.set28<|And.intro @PairS.get29<|And.intro @PairS.set29<|And.intro @PairS.get30<|And.intro @PairS.set30<|And.intro @PairS.get31<|And.intro @PairS.set31<|And.intro @PairS.get32<|And.intro @PairS.set32<|And.intro @PairS.get33<|And.intro @PairS.set33<|And.intro @PairS.get34<|@PairS.set34
set_option linter.defProp false in
def WorldS.all:=And.intro @WorldS.len<|And.intro @WorldS.rng<|And.intro @WorldS.get0<|And.intro @WorldS.set0<|And.intro @WorldS.get1<|And.intro @WorldS.set1<|And.intro @WorldS.get2<|And.intro @WorldS.set2<|And.intro @WorldS.get3<|And.intro @WorldS.set3<|And.intro @WorldS.get4<|And.intro @WorldS.set4<|And.intro @WorldS.get5<|And.intro @WorldS.set5<|And.intro @WorldS.get6<|And.intro @WorldS.set6<|And.intro @WorldS.get7<|And.intro @WorldS.set7<|And.intro @WorldS.get8<|And.intro @WorldS.set8<|And.intro @WorldS.get9<|@WorldS.set9
end Go.Proofs.YtcgcpjajghdbpaaGreat.P
