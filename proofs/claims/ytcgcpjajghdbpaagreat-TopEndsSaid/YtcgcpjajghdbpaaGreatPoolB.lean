import Derived.Test.YtcgcpjajghdbpaaGreatPoolS
namespace Go.Proofs.YtcgcpjajghdbpaaGreat.P
open Go.RowKit Go.Proofs.YtcgcpjajghdbpaaGreat.Eng Go.Proofs.YtcgcpjajghdbpaaGreat Go.Proofs.YtcgcpjajghdbpaaGreat.Dat Go.Proofs.YtcgcpjajghdbpaaGreat.FDat
set_option linter.unusedVariables false
set_option linter.unusedSimpArgs false
set_option maxRecDepth 10000
theorem lt_of{L:List D}{a:Nat}{x:List D}(h:L.getD a D.nil=.agg x):a<L.length:=by
 rcases Nat.lt_or_ge a L.length with h1|h1
 ·exact h1
 ·rw[List.getD_eq_getElem?_getD,List.getElem?_eq_none h1]at h;cases h
theorem A0w{L:List D}{a:Nat}(h:a<L.length)(x:D):(L.set a x).getD a D.nil=x:=by
 simp[List.getD_eq_getElem?_getD,h]
theorem A0s{L:List D}{a b:Nat}(h:a≠b)(x:D):(L.set a x).getD b D.nil=L.getD b D.nil:=by
 simp[List.getD_eq_getElem?_getD,List.getElem?_set,h]
theorem C0f{L:List D}{a:Nat}{x:List D}(h:L.getD a D.nil=.agg x):L.set a (.agg x)=L:=by
 have hl:=lt_of h
 rw[List.getD_eq_getElem?_getD,List.getElem?_eq_getElem hl]at h
 have h':L[a]=D.agg x:=h
 rw[←h']
 exact List.set_getElem_self hl
theorem ne_of{L:List D}{a b:Nat}{x y:List D}(ha:L.getD a D.nil=.agg x)(hb:L.getD b D.nil=.agg y)(h:x.length≠y.length):a≠b:=by
 intro e
 subst e
 rw[ha]at hb
 cases hb
 exact h rfl
def Fr(L L':List D)(T:Nat→Prop):Prop:=L.length≤L'.length∧∀b,b<L.length→¬T b→L'.getD b D.nil=L.getD b D.nil
theorem Fr.refl(L:List D)(T:Nat→Prop):Fr L L T:=⟨Nat.le_refl _,fun _ _ _=>rfl⟩
theorem Fr.trans{L L1 L2:List D}{T:Nat→Prop}(h:Fr L L1 T)(h':Fr L1 L2 T):Fr L L2 T:=
 ⟨Nat.le_trans h.1 h'.1,fun b hb hn=>(h'.2 b (Nat.lt_of_lt_of_le hb h.1) hn).trans (h.2 b hb hn)⟩
theorem Fr.mono{L L1:List D}{T U:Nat→Prop}(h:Fr L L1 T)(hu:∀b,T b→U b):Fr L L1 U:=⟨h.1,fun b hb hn=>h.2 b hb fun ht=>hn (hu b ht)⟩
theorem Fr.set(L:List D)(a:Nat)(x:D){T:Nat→Prop}(ha:T a):Fr L (L.set a x) T:=
 ⟨by simp,fun b _ hn=>A0s (fun e=>hn (by rw[←e];exact ha)) x⟩
theorem Fr.snoc(L:List D)(x:D)(T:Nat→Prop):Fr L (L++[x]) T:=
 ⟨by simp,fun b hb _=>by simp[List.getD_eq_getElem?_getD,List.getElem?_append_left hb]⟩
theorem Fr.get{L L':List D}{T:Nat→Prop}(h:Fr L L' T){a:Nat}{x:List D}(hx:L.getD a D.nil=.agg x)(ha:¬T a):L'.getD a D.nil=.agg x:=by
 rw[h.2 a (lt_of hx) ha,hx]
theorem A1u(L:List D)(x:D):(L++[x]).getD L.length D.nil=x:=by simp[List.getD_eq_getElem?_getD]
theorem B2x{L:List D}{a:Nat}(h:a<L.length)(x:D):(L++[x]).getD a D.nil=L.getD a D.nil:=by
 simp[List.getD_eq_getElem?_getD,List.getElem?_append_left h]
theorem nilI(z:Int):(D.int z).isNil=false:=rfl
theorem nilN:D.nil.isNil=true:=rfl
theorem nilA(l:List D):(D.agg l).isNil=false:=rfl
set_option linter.defProp false in
def HH:=And.intro nilI<|And.intro nilA<|And.intro @E3z<|And.intro nilN<|And.intro Bool.not_false<|And.intro Bool.not_true<|And.intro @if_true.{1}<|And.intro Bool.false_eq_true<|And.intro @if_false.{1}<|And.intro @D.toInt_int<|And.intro @B4h<|And.intro @D.toL_agg<|And.intro @Int.toNat_natCast<|And.intro @A0b<|And.intro @List.length_cons.{0}<|And.intro @List.length_nil.{0}<|And.intro @List.getD_cons_zero.{0}<|And.intro @List.getD_cons_succ.{0} @D.toBool_bool
def wd(ws:List Nat)(i:Int):Nat:=if i<0 then 0 else ws.getD i.toNat 0
def stw(ws:List Nat)(i:Int)(x:Nat):List Nat:=if i<0 then ws else ws.set i.toNat x
theorem wd_lt{ws:List Nat}(h:∀x ∈ ws,x<18446744073709551616)(i:Int):wd ws i<18446744073709551616:=by
 unfold wd
 split
 ·decide
 ·rw[List.getD_eq_getElem?_getD]
  rcases Nat.lt_or_ge i.toNat ws.length with h1|h1
  ·rw[List.getElem?_eq_getElem h1];exact h _ (List.getElem_mem h1)
  ·rw[List.getElem?_eq_none h1];decide
theorem C8z{ws:List Nat}(h:∀x ∈ ws,x<18446744073709551616)(i:Int){x:Nat}(hx:x<18446744073709551616):∀y ∈ stw ws i x,y<18446744073709551616:=by
 unfold stw
 split
 ·exact h
 ·intro y hy
  rcases List.mem_or_eq_of_mem_set hy with h1|h1
  ·exact h y h1
  ·subst h1;exact hx
theorem A3t(ws:List Nat)(i:Int)(x:Nat):(stw ws i x).length=ws.length:=by
 unfold stw;split<;>simp
section
variable{L:List D}{m:Nat}{M:MemS}(hm:L.getD m D.nil=.agg M.ds)
include hm
theorem C1r(i:Nat)(hi:i<M.words.length):FX 96 [.int (m:Nat),.int (i:Nat),.agg L]=some [.nil]:=by
 have h1:¬((i:Int)<0):=by omega
 have h2:¬((i:Int)≥(M.words.length:Int)):=by omega
 rw[B2b]
 simp only[nilI,Bool.false_eq_true,if_false,D.toInt_int,D.toL_agg,Int.toNat_natCast,hm,MemS.get0,List.length_map,h1,h2,decide_false,Bool.not_false,if_true]
theorem C7c(i:Int)(hi:i<0∨(M.words.length:Int)≤i):∃e:D,e.isNil=false∧FX 96 [.int (m:Nat),.int i,.agg L]=some [e]:=by
 have hcode:(D.iface 94 (.int 5)).isNil=false:=rfl
 rw[B2b]
 simp only[nilI,Bool.false_eq_true,if_false,D.toInt_int,D.toL_agg,Int.toNat_natCast,hm,MemS.get0,List.length_map,Bool.not_false,if_true]
 by_cases h1:i<0
 ·refine⟨_,?_,by simp only[h1,decide_true,if_true,at_eq _ _ hcode,bindC,List.length_cons,List.length_nil,List.getD_cons_zero];rfl⟩
  rfl
 ·have h2:i≥(M.words.length:Int):=by omega
  refine⟨_,?_,by simp only[h1,h2,decide_false,Bool.false_eq_true,if_false,decide_true,if_true,at_eq _ _ hcode,bindC,List.length_cons,List.length_nil,List.getD_cons_zero];rfl⟩
  rfl
theorem B4v(a b c d e:D):∃M':MemS,FX 97 [.int (m:Nat),a,b,c,d,e,.agg L]=some [.agg (L.set m (.agg M'.ds))]∧M'.words=M.words:=by
 refine⟨{M with s1:=.int (IntKind.i64.wrap ((M.s1).toInt+1)),s2:=a,s3:=b,s4:=c,s5:=d,s6:=e},?_,rfl⟩
 rw[C0q]
 simp only[nilI,Bool.false_eq_true,if_false,D.toInt_int,D.toL_agg,Int.toNat_natCast,hm,Bool.not_false,if_true,MemS.len,MemS.rng,MemS.get0,MemS.set0,MemS.get1,MemS.set1,MemS.get2,MemS.set2,MemS.get3,MemS.set3,MemS.get4,MemS.set4,MemS.get5,MemS.set5,MemS.get6,MemS.set6]
theorem C3g(i:Int):∃(e:D) (M':MemS),FX 69 [.int (m:Nat),.int i,.agg L]=some [wN (wd M.words i),e,.agg (L.set m (.agg M'.ds))]∧M'.words=M.words:=by
 by_cases hi:i<0∨(M.words.length:Int)≤i
 ·obtain⟨e,he,h⟩:=C7c hm i hi
  refine⟨e,M,?_,rfl⟩
  have hz:wN (wd M.words i)=.int 0:=by
   unfold wd
   by_cases h1:i<0
   ·rw[if_pos h1];rfl
   ·rw[if_neg h1,List.getD_eq_getElem?_getD,List.getElem?_eq_none (by omega)];rfl
  rw[B0i,h,hz,C0f hm]
  simp only[bindC,List.length_cons,List.length_nil,if_true,List.getD_cons_zero,he,Bool.not_false]
 ·obtain⟨j,rfl⟩:∃j:Nat,i=j:=⟨i.toNat,by omega⟩
  have hj:j<M.words.length:=by omega
  have h1:((j:Int)≥0):=by omega
  have h2:((j:Int)<(M.words.length:Int)):=by omega
  have hg:(M.words.map wN).getD j D.nil=wN (wd M.words j):=by
   rw[List.getD_eq_getElem?_getD,List.getElem?_map,List.getElem?_eq_getElem hj]
   unfold wd
   rw[if_neg (by omega),Int.toNat_natCast,List.getD_eq_getElem?_getD,List.getElem?_eq_getElem hj];rfl
  obtain⟨M',h3,h4⟩:=B4v hm (.int 1) (.int (j:Nat)) (wN (wd M.words j)) (wN (wd M.words j)) (.bool true)
  refine⟨.nil,M',?_,h4⟩
  rw[B0i,C1r hm j hj]
  simp only[bindC,List.length_cons,List.length_nil,if_true,List.getD_cons_zero,nilN,nilI,Bool.not_true,Bool.not_false,Bool.false_eq_true,if_false,D.toInt_int,D.toL_agg,Int.toNat_natCast,hm,MemS.get0,List.length_map,h1,h2,decide_true,hg,h3]
theorem C9n(i:Int)(x:Nat):∃(e:D) (M':MemS),FX 80 [.int (m:Nat),.int i,wN x,.agg L]=some [e,.agg (L.set m (.agg M'.ds))]∧M'.words=stw M.words i x:=by
 by_cases hi:i<0∨(M.words.length:Int)≤i
 ·obtain⟨e,he,h⟩:=C7c hm i hi
  refine⟨e,M,?_,?_⟩
  ·rw[A8x,h,C0f hm]
   simp only[bindC,List.length_cons,List.length_nil,if_true,List.getD_cons_zero,he,Bool.not_false]
  ·unfold stw
   by_cases h1:i<0
   ·rw[if_pos h1]
   ·rw[if_neg h1,List.set_eq_of_length_le (by omega)]
 ·obtain⟨j,rfl⟩:∃j:Nat,i=j:=⟨i.toNat,by omega⟩
  have hj:j<M.words.length:=by omega
  have h1:((j:Int)≥0):=by omega
  have h2:((j:Int)<(M.words.length:Int)):=by omega
  have hl:=lt_of hm
  obtain⟨M',h3,h4⟩:=B4v hm (.int 2) (.int (j:Nat)) ((M.words.map wN).getD j D.nil) (wN x) (.bool true)
  refine⟨.nil,{M' with words:=M.words.set j x},?_,?_⟩
  ·rw[A8x,C1r hm j hj]
   simp only[bindC,List.length_cons,List.length_nil,if_true,List.getD_cons_zero,nilN,nilI,Bool.not_true,Bool.not_false,Bool.false_eq_true,if_false,D.toInt_int,D.toL_agg,Int.toNat_natCast,hm,MemS.get0,List.length_map,h1,h2,decide_true,h3,A0w hl,List.set_set,h4]
   have e1:((M.words.map wN).set j (wN x))=((M.words.set j x).map wN):=(List.map_set ..).symm
   rw[e1,MemS.rng,MemS.set0]
  ·unfold stw
   rw[if_neg (by omega),Int.toNat_natCast]
def swB(ws:List Nat)(i:Int)(old:Nat):Bool:=decide (0≤i∧i<(ws.length:Int))&&wd ws i == old
omit hm in
theorem E4l{ws:List Nat}{j:Nat}(h:j<ws.length)(old:Nat):swB ws j old=(ws[j] == old):=by
 unfold swB wd
 have h1:(0:Int)≤(j:Int)∧(j:Int)<(ws.length:Int):=by omega
 rw[if_neg (by omega),Int.toNat_natCast,List.getD_eq_getElem?_getD,List.getElem?_eq_getElem h]
 simp[h]
theorem E2y(i:Int)(old x:Nat):∃(e:D) (M':MemS),FX 104 [.int (m:Nat),.int i,wN old,wN x,.agg L]=some [.bool (swB M.words i old),e,.agg (L.set m (.agg M'.ds))]∧
  M'.words=if swB M.words i old then stw M.words i x else M.words:=by
 by_cases hi:i<0∨(M.words.length:Int)≤i
 ·obtain⟨e,he,h⟩:=C7c hm i hi
  have hb:swB M.words i old=false:=by
   unfold swB
   have:¬(0≤i∧i<(M.words.length:Int)):=by omega
   simp[this]
  refine⟨e,M,?_,by rw[hb];rfl⟩
  rw[A5o,h,C0f hm,hb]
  simp only[bindC,List.length_cons,List.length_nil,if_true,List.getD_cons_zero,he,Bool.not_false]
 ·obtain⟨j,rfl⟩:∃j:Nat,i=j:=⟨i.toNat,by omega⟩
  have hj:j<M.words.length:=by omega
  have h1:((j:Int)≥0):=by omega
  have h2:((j:Int)<(M.words.length:Int)):=by omega
  have hl:=lt_of hm
  have hg:(M.words.map wN).getD j D.nil=wN M.words[j]:=by
   rw[List.getD_eq_getElem?_getD,List.getElem?_map,List.getElem?_eq_getElem hj];rfl
  rw[E4l hj]
  have hb:((wN M.words[j]).toInt == (wN old).toInt)=(M.words[j] == old):=by
   unfold wN
   simp only[D.toInt_int]
   by_cases h:M.words[j]=old
   ·simp[h]
   ·have:¬(M.words[j]:Int)=(old:Int):=by omega
    rw[beq_eq_false_iff_ne.2 h,beq_eq_false_iff_ne.2 this]
  cases hc:(M.words[j] == old)with
  |true=>
   have hM:(L.set m (.agg (MemS.ds {M with words:=M.words.set j x}))).getD m D.nil=.agg (MemS.ds {M with words:=M.words.set j x}):=A0w hl _
   obtain⟨M',h3,h4⟩:=B4v hM (.int 3) (.int (j:Nat)) (wN M.words[j]) (wN x) (.bool true)
   refine⟨.nil,M',?_,?_⟩
   ·rw[A5o,C1r hm j hj]
    have e1:((M.words.map wN).set j (wN x))=((M.words.set j x).map wN):=(List.map_set ..).symm
    simp only[bindC,List.length_cons,List.length_nil,if_true,List.getD_cons_zero,nilN,nilI,Bool.not_true,Bool.not_false,Bool.false_eq_true,if_false,D.toInt_int,D.toL_agg,Int.toNat_natCast,hm,MemS.get0,List.length_map,h1,h2,decide_true,hg,hb,hc,e1,MemS.rng,MemS.set0,h3,List.set_set]
   ·rw[h4,if_pos rfl]
    unfold stw
    rw[if_neg (by omega),Int.toNat_natCast]
  |false=>
   obtain⟨M',h3,h4⟩:=B4v hm (.int 3) (.int (j:Nat)) (wN M.words[j]) (wN M.words[j]) (.bool false)
   refine⟨.nil,M',?_,by rw[h4];rfl⟩
   rw[A5o,C1r hm j hj]
   simp only[bindC,List.length_cons,List.length_nil,if_true,List.getD_cons_zero,nilN,nilI,Bool.not_true,Bool.not_false,Bool.false_eq_true,if_false,D.toInt_int,D.toL_agg,Int.toNat_natCast,hm,MemS.get0,List.length_map,h1,h2,decide_true,hg,hb,hc,h3]
end
structure WS where
 c:Cf
 words:List Nat
 now:Nat
 log:List Ev
structure WS.ok(S:WS):Prop where
 c:S.c.ok
 w:∀x ∈ S.words,x<18446744073709551616
 now:S.now≤1000000
 len:S.words.length≤8192
structure InW(L:List D)(w m k:Nat)(S:WS):Prop where
 w:L.getD w D.nil=.agg (WorldS.ds ⟨S.c,.int m,.int k,S.log⟩)
 m:∃M:MemS,L.getD m D.nil=.agg M.ds∧M.words=S.words
 k:L.getD k D.nil=.agg (ClkS.ds ⟨S.now⟩)
section
variable{L:List D}{w m k:Nat}{S:WS}(W:InW L w m k S)
include W
theorem InW.nwm:w≠m:=by
 obtain⟨M,h,_⟩:=W.m
 exact ne_of W.w h (by simp[WorldS.len,MemS.len])
theorem InW.nwk:w≠k:=ne_of W.w W.k (by simp[WorldS.len,ClkS.len])
theorem InW.nmk:m≠k:=by
 obtain⟨M,h,_⟩:=W.m
 exact ne_of h W.k (by simp[MemS.len,ClkS.len])
theorem InW.far{a:Nat}{x:List D}(h:L.getD a D.nil=.agg x)(h1:x.length≠10)(h2:x.length≠7)(h3:x.length≠1):a≠w∧a≠m∧a≠k:=by
 obtain⟨M,hM,_⟩:=W.m
 exact⟨ne_of h W.w (by rw[WorldS.len];exact h1),ne_of h hM (by rw[MemS.len];exact h2),ne_of h W.k (by rw[ClkS.len];exact h3)⟩
theorem InW.setM(M':MemS):InW (L.set m (.agg M'.ds)) w m k {S with words:=M'.words}:=by
 obtain⟨M,hM,_⟩:=W.m
 exact⟨by rw[A0s (Ne.symm W.nwm)];exact W.w,⟨M',A0w (lt_of hM) _,rfl⟩,by rw[A0s W.nmk];exact W.k⟩
theorem InW.fr{L':List D}{T:Nat→Prop}(h:Fr L L' T)(h1:¬T w)(h2:¬T m)(h3:¬T k):InW L' w m k S:=by
 obtain⟨M,hM,e⟩:=W.m
 exact⟨h.get W.w h1,⟨M,h.get hM h2,e⟩,h.get W.k h3⟩
theorem A7a(h:S.ok):FX 35 [.int (k:Nat),.agg L]=some [wN S.now]:=by
 have:=h.now
 rw[B7b]
 simp only[nilI,Bool.false_eq_true,if_false,D.toInt_int,D.toL_agg,Int.toNat_natCast,W.k,Bool.not_false,if_true,ClkS.get0,B4h]
 rw[i64w _ (by omega) (by omega)];rfl
def WS.word(S:WS)(x:Int):Nat:=wd S.words (2*x)
def WS.tword(S:WS)(x:Int):Nat:=wd S.words (2*x+1)
theorem A3a(h:S.ok)(x:Int)(hx:-1000≤x∧x≤1000):∃L',FX 56 [.int (w:Nat),.int x,.agg L]=some (wN (S.word x)::((stOf (S.word x)).ds++[.agg L']))∧InW L' w m k S∧Fr L L' (·=m):=by
 obtain⟨M,hM,hw⟩:=W.m
 obtain⟨e,M',h1,h2⟩:=C3g hM (2*x)
 refine⟨L.set m (.agg M'.ds),?_,?_,Fr.set _ _ _ rfl⟩
 ·have h3:=C0i (wd M.words (2*x)) (wd_lt (by rw[hw];exact h.w) _)
  rw[B4e]
  simp only[nilI,Bool.not_false,if_true,D.toInt_int,D.toL_agg,Int.toNat_natCast,W.w,A2v,A0b,List.length_cons,List.length_nil,List.getD_cons_zero,WorldS.all]
  rw[i64w (2*x) (by omega) (by omega),h1]
  simp only[A0b,List.length_cons,List.length_nil,List.getD_cons_zero,List.getD_cons_succ,A9f]
  unfold wN
  rw[h3]
  simp only[A0b,St.len,St.get0,St.get1,St.get2,St.get3,St.get4]
  rw[hw];rfl
 ·have:=W.setM M'
  rw[h2,hw]at this
  exact this
theorem B6h(h:S.ok)(x:Int)(hx:-1000≤x∧x≤1000):∃L',FX 57 [.int (w:Nat),.int x,.agg L]=some ((tmOf (S.tword x)).ds++[.agg L'])∧InW L' w m k S∧Fr L L' (·=m):=by
 obtain⟨M,hM,hw⟩:=W.m
 obtain⟨e,M',h1,h2⟩:=C3g hM (2*x+1)
 refine⟨L.set m (.agg M'.ds),?_,?_,Fr.set _ _ _ rfl⟩
 ·have h3:=E0c (wd M.words (2*x+1)) (wd_lt (by rw[hw];exact h.w) _)
  rw[B4s]
  simp only[nilI,Bool.not_false,if_true,D.toInt_int,D.toL_agg,Int.toNat_natCast,W.w,A5u,A0b,List.length_cons,List.length_nil,List.getD_cons_zero,WorldS.all]
  rw[i64w (2*x) (by omega) (by omega),i64w (2*x+1) (by omega) (by omega),h1]
  simp only[A0b,List.length_cons,List.length_nil,List.getD_cons_zero,List.getD_cons_succ,A9m]
  unfold wN
  rw[h3]
  simp only[A0b,Tm.len,Tm.get0,Tm.get1,Tm.get2,Tm.get3,Tm.get4]
  rw[hw];rfl
 ·have:=W.setM M'
  rw[h2,hw]at this
  exact this
def WS.turn(S:WS)(x:Int)(old:Nat)(s:St):Bool × WS:=match stW s with
 |none=>(false,S)
 |some v=>(swB S.words (2*x) old,if swB S.words (2*x) old then {S with words:=stw S.words (2*x) v} else S)
theorem A7i(h:S.ok)(x:Int)(hx:-1000≤x∧x≤1000)(old:Nat)(s:St)(hs:s.wf):∃L',FX 77 [.int (w:Nat),.int x,wN old,.int s.k,.bool s.f,.int s.g,.int s.l,.int s.n,.agg L]=some [.bool (S.turn x old s).1,.agg L']∧InW L' w m k (S.turn x old s).2∧Fr L L' (·=m):=by
 obtain⟨M,hM,hw⟩:=W.m
 obtain⟨r,h0,ht⟩:=D1z s hs
 unfold St.ds at h0
 rw[B5w,h0]
 unfold WS.turn
 cases hv:stW s with
 |none=>
  rw[hv]at ht
  obtain⟨e,he,rfl⟩:=ht
  refine⟨L,?_,W,Fr.refl _ _⟩
  simp only[A0b,List.length_cons,List.length_nil,List.getD_cons_zero,List.getD_cons_succ,he,Bool.not_false,if_true]
 |some v=>
  rw[hv]at ht
  dsimp only[Told]at ht
  subst ht
  obtain⟨e,M',h1,h2⟩:=E2y hM (2*x) old v
  refine⟨L.set m (.agg M'.ds),?_,?_,Fr.set _ _ _ rfl⟩
  ·simp only[nilN,nilI,Bool.not_true,Bool.not_false,if_true,D.toInt_int,D.toL_agg,Int.toNat_natCast,W.w,A2v,A0b,List.length_cons,List.length_nil,List.getD_cons_zero,List.getD_cons_succ,Bool.false_eq_true,if_false,WorldS.all]
   rw[i64w (2*x) (by omega) (by omega)]
   change bindC (FX 104 [.int (m:Nat),.int (2*x),wN old,wN v,.agg L]) 3 _=_
   rw[h1]
   simp only[A0b,List.length_cons,List.length_nil,List.getD_cons_zero,List.getD_cons_succ,B0j,hw]
  ·have:=W.setM M'
   rw[h2,hw]at this
   dsimp only
   split
   ·rename_i hb;rw[hb]at this;exact this
   ·rename_i hb
    have hb':swB S.words (2*x) old=false:=by simpa using hb
    rw[hb']at this;exact this
def WS.note(S:WS)(x gen n:Int)(r:Rc):WS:=match rcW r with
 |none=>S
 |some v=>{S with words:=stw S.words (slotF S.c x gen n) v}
theorem B0m(h:S.ok)(x gen n:Int)(r:Rc)(hr:r.wf):∃L',FX 60 [.int (w:Nat),.int x,.int gen,.int n,.int r.k,.int r.q,.int r.p,.int r.t,.int r.c,.int r.g,.agg L]=some [.agg L']∧InW L' w m k (S.note x gen n r)∧Fr L L' (·=m):=by
 obtain⟨M,hM,hw⟩:=W.m
 obtain⟨z,h0,ht⟩:=D9a r hr
 unfold Rc.ds at h0
 rw[B5t,h0]
 unfold WS.note
 cases hv:rcW r with
 |none=>
  rw[hv]at ht
  obtain⟨e,he,rfl⟩:=ht
  refine⟨L,?_,W,Fr.refl _ _⟩
  simp only[A0b,List.length_cons,List.length_nil,List.getD_cons_zero,List.getD_cons_succ,he,Bool.false_eq_true,if_false]
 |some v=>
  rw[hv]at ht
  dsimp only[Told]at ht
  subst ht
  have hsl:=D2h S.c h.c x gen n
  unfold RU.Cf.ds at hsl
  dsimp only[List.cons_append,List.nil_append]at hsl
  obtain⟨e,M',h1,h2⟩:=C9n hM (slotF S.c x gen n) v
  refine⟨L.set m (.agg M'.ds),?_,?_,Fr.set _ _ _ rfl⟩
  ·simp only[nilN,nilI,Bool.not_true,Bool.not_false,if_true,D.toInt_int,D.toL_agg,Int.toNat_natCast,W.w,hsl,A0b,List.length_cons,List.length_nil,List.getD_cons_zero,List.getD_cons_succ,Bool.false_eq_true,if_false,WorldS.all]
   change bindC (FX 80 [.int (m:Nat),.int (slotF S.c x gen n),wN v,.agg L]) 2 _=_
   rw[h1]
   simp only[A0b,List.length_cons,List.length_nil,List.getD_cons_zero,List.getD_cons_succ]
  ·have:=W.setM M'
   rw[h2,hw]at this
   exact this
def WS.tell(S:WS)(e:Ev):WS:={S with log:=S.log++[{e with tick:=S.now}]}
theorem C9r(h:S.ok)(hl:S.log.length≤1000000000)(e:Ev):∃L',FX 78 [.int (w:Nat),.int e.kind,.int e.cell,.int e.gen,.int e.other,.int e.wth,.int e.tm.name,.int e.tm.side,.int e.tm.price,.int e.tm.least,.int e.tm.till,.int e.qty,.int e.price,.int e.tick,.int e.fin,.agg L]=some [.agg L']∧InW L' w m k (S.tell e)∧Fr L L' (·=w):=by
 refine⟨L.set w (.agg (WorldS.ds ⟨S.c,.int m,.int k,(S.tell e).log⟩)),?_,?_,Fr.set _ _ _ rfl⟩
 ·have hn:=A7a W h
  have e1:(S.log.map Ev.d++[D.agg [.int e.kind,.int e.cell,.int e.gen,.int e.other,.int e.wth,.int e.tm.name,.int e.tm.side,.int e.tm.price,.int e.tm.least,.int e.tm.till,.int e.qty,.int e.price,wN S.now,.int e.fin]])=(S.tell e).log.map Ev.d:=by
   simp only[WS.tell,Ev.d,Ev.ds,List.map_append,List.map_cons,List.map_nil];rfl
  have e2:(((S.tell e).log.map Ev.d).length:Int)≤1256584717458:=by simp[WS.tell];omega
  rw[B5v]
  simp only[nilI,Bool.not_false,if_true,D.toInt_int,D.toL_agg,Int.toNat_natCast,W.w,A0b,List.length_cons,List.length_nil,List.getD_cons_zero,hn,WorldS.all,e1,e2,decide_true]
 ·have hl:=lt_of W.w
  obtain⟨M,hM,hw⟩:=W.m
  exact⟨A0w hl _,⟨M,by rw[A0s W.nwm];exact hM,hw⟩,by rw[A0s W.nwk];exact W.k⟩
end
end Go.Proofs.YtcgcpjajghdbpaaGreat.P
