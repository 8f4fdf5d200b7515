import Derived.Test.YtcgcpjajghdbpaaGreatPoolO
namespace Go.Proofs.YtcgcpjajghdbpaaGreat.P
open Go.RowKit Go.Proofs.YtcgcpjajghdbpaaGreat.Eng Go.Proofs.YtcgcpjajghdbpaaGreat Go.Proofs.YtcgcpjajghdbpaaGreat.Dat Go.Proofs.YtcgcpjajghdbpaaGreat.FDat
set_option linter.unusedVariables false
set_option linter.unusedSimpArgs false
set_option linter.unusedSectionVars false
set_option maxRecDepth 10000
structure KeepW(S S':WS):Prop where
 ok:S'.ok
 c:S'.c=S.c
 now:S'.now=S.now
 log:S'.log.length≤S.log.length+1
 len:S'.words.length=S.words.length
theorem KeepW.rfl'{S:WS}(h:S.ok):KeepW S S:=⟨h,rfl,rfl,Nat.le_succ _,rfl⟩
theorem B2e{S:WS}(h:S.ok)(x:Int)(old:Nat)(s:St)(e:Ev):KeepW S ((S.turn x old s).2.tell e):=by
 obtain⟨o1,o2,o3,o4,_⟩:=S.turn_ok h x old s
 exact⟨WS.tell_ok o1 _,o2,o3,by simp only[WS.tell,List.length_append,o4,List.length_cons,List.length_nil];omega,S.turn_len _ _ _⟩
theorem C1l{S:WS}(h:S.ok)(x g n:Int)(o:Option Rc):KeepW S (noteE S x g n o):=by
 cases o with
 |none=>exact .rfl' h
 |some r=>
  obtain⟨o1,o2,o3,o4⟩:=WS.note_ok h x g n r
  exact⟨o1,o2,o3,by show(S.note x g n r).log.length≤_;rw[o4];omega,S.note_len _ _ _ _⟩
structure KeepP(pr:PrS)(o:Option PairS)(se:SeatS)(S:WS)(X:Stp):Prop where
 w:KeepW S X.S
 seat:SeatOk X.se S.c
 part:X.se.part=se.part
 prog:X.r=none→ProgOk X.pr o X.se X.S∧X.pr.a=pr.a
section
variable{pr:PrS}{o:Option PairS}{se:SeatS}{S:WS}(h:S.ok)(hk:ProgOk pr o se S)(hse:SeatOk se S.c)
include h hk hse
theorem D1d(h0:pcheckF pr se S=0):0≤cellF S.c se.part pr.a.cell:=by
 unfold pcheckF at h0
 split at h0
 ·cases h0
 ·split at h0
  ·cases h0
  ·omega
theorem A5z(hp:pr.pc≤7):0≤pr.pc+1∧pr.pc+1≤8:=by have:=hk.pc;omega
theorem B4b:(pr.looks.length:Int)≤pr.pc+1:=by have:=hk.looks;omega
theorem D3t(hk1:pr.a.kind=1)(hp:pr.pc≤7):KeepP pr o se S (beginP (cellF S.c se.part pr.a.cell) pr se S):=by
 obtain⟨k1,k2,k3,k4,k5,k6,k7,k8,k9,k10,k11,k12,k13,k14⟩:=hk
 have hk':ProgOk pr o se S:=⟨k1,k2,k3,k4,k5,k6,k7,k8,k9,k10,k11,k12,k13,k14⟩
 have hpn:=A5z h hk' hse hp
 have hln:=B4b h hk' hse
 have hg:=A9z h.c
 have hcell:pr.pc≠0→0≤cellF S.c se.part pr.a.cell:=fun hh=>k11 hh (.inl hk1)
 unfold beginP
 split
 ·split
  ·exact⟨.rfl' h,hse,rfl,fun hh=>A2w hh⟩
  ·rename_i h0
   have hcc:=D1d h hk' hse (by simpa using h0)
   exact⟨.rfl' h,hse,rfl,fun _=>⟨⟨k1,k2,k3,k4,k5,k6,hpn,k8,k9,hln,fun _ _=>hcc,k12,k13,k14⟩,rfl⟩⟩
 rename_i hn0
 have hc0:=hcell hn0
 split
 ·split
  ·exact⟨.rfl' h,hse,rfl,fun hh=>A2w hh⟩
  ·rename_i h0
   have hb:(beginF (stOf (S.word (cellF S.c se.part pr.a.cell))) pr.a.qty S.c.c6).2.wf:=by
    have hs:=A9u (S.word (cellF S.c se.part pr.a.cell))
    unfold beginF
    split
    ·exact St.zero_wf
    split
    ·exact St.zero_wf
    split
    ·exact St.zero_wf
    ·have g1:In ((stOf (S.word (cellF S.c se.part pr.a.cell))).g+1):=In.lit (by omega)
     have g2:In pr.a.qty:=In.lit (by omega)
     exact⟨In.lit (z:=1) (by decide),g1,g2,In.lit (z:=0) (by decide)⟩
   exact⟨.rfl' h,hse,rfl,fun _=>⟨⟨k1,hb,k3,k4,k5,k6,hpn,k8,k9,hln,fun _ _=>hc0,k12,k13,k14⟩,rfl⟩⟩
 split
 ·exact⟨⟨WS.put_ok h _ E4g,rfl,rfl,Nat.le_succ _,A3t _ _ _⟩,hse,rfl,fun _=>⟨⟨k1,k2,k3,k4,k5,k6,hpn,k8,k9,hln,fun _ _=>hc0,k12,k13,k14⟩,rfl⟩⟩
 split
 ·refine⟨⟨WS.tell_ok (WS.put_ok h _ D6t) _,rfl,rfl,by simp[WS.tell,WS.put],A3t _ _ _⟩,⟨by simpa using hse.ids,by simpa using hse.gens,hse.curs,hse.cur⟩,rfl,fun _=>⟨⟨k1,k2,k3,k4,k5,k6,hpn,k8,D8r S.c h.c _ _ _,hln,fun _ _=>hc0,k12,k13,k14⟩,rfl⟩⟩
 ·exact⟨.rfl' h,hse,rfl,fun _=>⟨⟨k1,k2,k3,k4,k5,k6,hpn,k8,k9,hln,fun _ _=>hc0,k12,k13,k14⟩,rfl⟩⟩
theorem D6y(x:Int):KeepW S (turnP x pr se S).2∧(turnP x pr se S).1.pc=pr.pc∧(turnP x pr se S).1.a=pr.a∧ProgOk (turnP x pr se S).1 o se S:=by
 obtain⟨k1,k2,k3,k4,k5,k6,k7,k8,k9,k10,k11,k12,k13,k14⟩:=hk
 have hk':ProgOk pr o se S:=⟨k1,k2,k3,k4,k5,k6,k7,k8,k9,k10,k11,k12,k13,k14⟩
 have hnow:In (S.now:Int):=In.lit (by have:=h.now;omega)
 have d1:(0:Int)≤1∧(1:Int)≤3:=by decide
 have d2:(0:Int)≤2∧(2:Int)≤3:=by decide
 have d3:(0:Int)≤3∧(3:Int)≤3:=by decide
 unfold turnP
 split
 ·exact⟨.rfl' h,rfl,rfl,hk'⟩
 split
 ·exact⟨.rfl' h,rfl,rfl,⟨k1,k2,k3,k4,d3,k6,k7,k8,k9,k10,k11,k12,k13,k14⟩⟩
 split
 ·exact⟨.rfl' h,rfl,rfl,⟨k1,k2,k3,k4,d2,k6,k7,k8,k9,k10,k11,k12,k13,k14⟩⟩
 split
 ·exact⟨.rfl' h,rfl,rfl,hk'⟩
 split
 ·exact⟨B2e h _ _ _ _,rfl,rfl,⟨k1,k2,k3,hnow,d2,k6,k7,k8,k9,k10,k11,k12,k13,k14⟩⟩
 ·exact⟨B2e h _ _ _ _,rfl,rfl,⟨k1,C2z k2,k3,hnow,d1,k6,k7,k8,k9,k10,k11,k12,k13,k14⟩⟩
theorem B1z{R:PrS × WS}(hR:KeepW S R.2)(hpc:R.1.pc=pr.pc)(ha:R.1.a=pr.a)(hP:ProgOk R.1 o se S)(hp:pr.pc≤7)(hc:pr.a.kind=1∨pr.a.kind=2→0≤cellF S.c se.part pr.a.cell):KeepP pr o se S (nextP R se (pr.pc+1)):=by
 obtain⟨k1,k2,k3,k4,k5,k6,k7,k8,k9,k10,k11,k12,k13,k14⟩:=hP
 refine⟨hR,hse,rfl,fun _=>⟨?_,ha⟩⟩
 show ProgOk {R.1 with pc:=pr.pc+1} o se R.2
 rw[hpc]at k10
 refine⟨k1,k2,k3,k4,k5,k6,A5z h hk hse hp,k8,k9,by show(R.1.looks.length:Int)≤pr.pc+1;omega,fun _ hh=>?_,by rw[hR.c];exact k12,by rw[hR.c];exact k13,k14⟩
 show 0≤cellF R.2.c se.part R.1.a.cell
 rw[hR.c,ha]
 exact hc (by rw[←ha];exact hh)
theorem D1s(hk2:pr.a.kind=2):KeepP pr o se S (cancelP (cellF S.c se.part pr.a.cell) pr se S):=by
 have hpc:=hk.pc
 have hcell:pr.pc≠0→0≤cellF S.c se.part pr.a.cell:=fun hh=>hk.cell hh (.inr hk2)
 unfold cancelP
 split
 ·split
  ·exact⟨.rfl' h,hse,rfl,fun hh=>A2w hh⟩
  ·exact B1z h hk hse (R:=(pr,S)) (.rfl' h) rfl rfl hk (by omega) fun _=>by omega
 rename_i hn0
 have hc0:=hcell hn0
 split
 ·have hR:ProgOk (if pr.done=0 then {pr with word:=S.word (cellF S.c se.part pr.a.cell),st:=stOf (S.word (cellF S.c se.part pr.a.cell))} else pr) o se S∧(if pr.done=0 then {pr with word:=S.word (cellF S.c se.part pr.a.cell),st:=stOf (S.word (cellF S.c se.part pr.a.cell))} else pr).pc=pr.pc∧(if pr.done=0 then {pr with word:=S.word (cellF S.c se.part pr.a.cell),st:=stOf (S.word (cellF S.c se.part pr.a.cell))} else pr).a=pr.a:=by
   obtain⟨k1,k2,k3,k4,k5,k6,k7,k8,k9,k10,k11,k12,k13,k14⟩:=hk
   split
   ·exact⟨⟨WS.word_lt h _,A3w _,k3,k4,k5,k6,k7,k8,k9,k10,k11,k12,k13,k14⟩,rfl,rfl⟩
   ·exact⟨⟨k1,k2,k3,k4,k5,k6,k7,k8,k9,k10,k11,k12,k13,k14⟩,rfl,rfl⟩
  exact B1z h hk hse (.rfl' h) hR.2.1 hR.2.2 hR.1 (by omega) fun _=>hc0
 split
 ·obtain⟨t1,t2,t3,t4⟩:=D6y h hk hse (cellF S.c se.part pr.a.cell)
  exact B1z h hk hse t1 t2 t3 t4 (by omega) fun _=>hc0
 split
 ·have hR:KeepW S (if pr.done=1 then noteE S (cellF S.c se.part pr.a.cell) pr.st.g S.c.c5 (endF pr.st pr.at_)else S):=by
   split
   ·exact C1l h _ _ _ _
   ·exact .rfl' h
  exact B1z h hk hse hR rfl rfl hk (by omega) fun _=>hc0
 ·exact⟨.rfl' h,hse,rfl,fun hh=>A2w hh⟩
theorem E2p{i:Int}(hi:(slotP S i).k=1∨(slotP S i).isEnd=true):0≤i:=by
 rcases Decidable.em (i<0)with h0|h0
 ·have e:slotP S i=.zero:=if_pos h0
  rw[e]at hi
  rcases hi with hi|hi<;>cases hi
 ·omega
theorem D8b{c:Cf}{x g n:Int}(h0:0≤slotF c x g n):g≤c.c6:=by
 rcases Decidable.em (x<0∨x≥allF c∨g<1∨g>c.c6∨n<0∨n>c.c5)with h1|h1
 ·have e:slotF c x g n=-1:=if_pos h1
  omega
 ·omega
theorem D6k(hk3:pr.a.kind=3):KeepP pr o se S (pollP (cellF S.c se.part pr.a.cell) pr se S):=by
 obtain⟨k1,k2,k3,k4,k5,k6,k7,k8,k9,k10,k11,k12,k13,k14⟩:=hk
 have hk':ProgOk pr o se S:=⟨k1,k2,k3,k4,k5,k6,k7,k8,k9,k10,k11,k12,k13,k14⟩
 have hln:=B4b h hk' hse
 have hno:¬(pr.a.kind=1∨pr.a.kind=2):=by omega
 have cu:=hse.at_ pr.a.cell h.c
 unfold pollP
 split
 ·exact⟨.rfl' h,hse,rfl,fun hh=>A2w hh⟩
 split
 ·exact⟨.rfl' h,hse,rfl,fun _=>⟨⟨k1,k2,k3,k4,k5,k6,A5z h hk' hse (by omega),k8,k9,hln,fun _ hh=>absurd hh hno,k12,k13,k14⟩,rfl⟩⟩
 split
 ·split
  ·rename_i hlt
   exact⟨.rfl' h,hse,rfl,fun _=>⟨⟨k1,k2,k3,k4,k5,k6,A5z h hk' hse (by omega),k8,k9,hln,fun _ hh=>absurd hh hno,fun _=>hlt,k13,k14⟩,rfl⟩⟩
  ·exact⟨.rfl' h,hse,rfl,fun _=>⟨⟨k1,k2,k3,k4,k5,k6,A5z h hk' hse (by omega),k8,k9,hln,fun _ hh=>absurd hh hno,k12,k13,k14⟩,rfl⟩⟩
 split
 ·exact⟨.rfl' h,hse,rfl,fun _=>⟨⟨k1,k2,k3,k4,k5,k6,A5z h hk' hse (by omega),k8,k9,hln,fun _ hh=>absurd hh hno,k12,fun he=>D8b h hk' hse (E2p h hk' hse (.inr he)),k14⟩,rfl⟩⟩
 ·refine⟨.rfl' h,⟨hse.ids,hse.gens,by simpa using hse.curs,fun z hz=>?_⟩,rfl,fun hh=>A2w hh⟩
  rcases List.mem_or_eq_of_mem_set hz with hz|hz
  ·exact hse.cur z hz
  ·subst hz
   have hf:=A2k h.c
   have hg:=A9z h.c
   unfold nextF
   split
   ·rename_i h1
    have:=k12 h1
    dsimp only;omega
   ·split
    ·rename_i h1 h2
     have:=k13 h2.1
     dsimp only;omega
    ·dsimp only;omega
theorem D6g(hk4:pr.a.kind=4):KeepP pr o se S (viewP pr se S):=by
 obtain⟨k1,k2,k3,k4,k5,k6,k7,k8,k9,k10,k11,k12,k13,k14⟩:=hk
 have hk':ProgOk pr o se S:=⟨k1,k2,k3,k4,k5,k6,k7,k8,k9,k10,k11,k12,k13,k14⟩
 have hno:¬(pr.a.kind=1∨pr.a.kind=2):=by omega
 have hc1:=h.c.2.1
 unfold viewP
 split
 ·exact⟨.rfl' h,hse,rfl,fun hh=>A2w hh⟩
 split
 ·exact⟨.rfl' h,hse,rfl,fun _=>⟨⟨k1,k2,k3,k4,k5,k6,A5z h hk' hse (by omega),k8,k9,by simp only[List.length_append,List.length_cons,List.length_nil];omega,fun _ hh=>absurd hh hno,k12,k13,k14⟩,rfl⟩⟩
 ·exact⟨.rfl' h,hse,rfl,fun _=>⟨⟨k1,k2,k3,k4,k5,k6,A5z h hk' hse (by omega),k8,k9,B4b h hk' hse,fun _ hh=>absurd hh hno,k12,k13,k14⟩,rfl⟩⟩
theorem D5d(x:Int):KeepW S (restP x pr S).2.2∧((restP x pr S).1=true→ProgOk (restP x pr S).2.1 o se S∧(restP x pr S).2.1.a=pr.a):=by
 obtain⟨k1,k2,k3,k4,k5,k6,k7,k8,k9,k10,k11,k12,k13,k14⟩:=hk
 have hf:=A2k h.c
 unfold restP
 split
 ·exact⟨.rfl' h,fun hh=>by cases hh⟩
 have ht:0≤pr.tries+1∧pr.tries+1≤1000:=by omega
 have d1:(0:Int)≤1∧(1:Int)≤3:=by decide
 split
 ·exact⟨.rfl' h,fun _=>⟨⟨k1,k2,k3,k4,k5,ht,k7,k8,k9,k10,k11,k12,k13,k14⟩,rfl⟩⟩
 split
 ·exact⟨.rfl' h,fun _=>⟨⟨WS.word_lt h _,A3w _,k3,k4,k5,ht,k7,k8,k9,k10,k11,k12,k13,k14⟩,rfl⟩⟩
 split
 ·exact⟨.rfl' h,fun _=>⟨⟨k1,k2,k3,k4,d1,ht,k7,k8,k9,k10,k11,k12,k13,k14⟩,rfl⟩⟩
 split
 ·exact⟨.rfl' h,fun _=>⟨⟨k1,k2,k3,k4,k5,ht,k7,k8,k9,k10,k11,k12,k13,k14⟩,rfl⟩⟩
 split
 ·exact⟨B2e h _ _ _ _,fun _=>⟨⟨k1,k2,k3,k4,d1,ht,k7,k8,k9,k10,k11,k12,k13,k14⟩,rfl⟩⟩
 ·exact⟨.rfl' h,fun _=>⟨⟨k1,k2,k3,k4,k5,ht,k7,k8,k9,k10,k11,k12,k13,k14⟩,rfl⟩⟩
end
structure KeepT(ss:SessS)(po:PoolS)(ss':SessS)(po':PoolS):Prop where
 tape:TapeOk ss' po'
 e1:ss'={ss with taken:=ss'.taken}
 e2:po'={po with uses:=po'.uses}
 len:po'.uses.length=po.uses.length
theorem KeepT.rfl'{ss:SessS}{po:PoolS}(h:TapeOk ss po):KeepT ss po ss po:=⟨h,rfl,rfl,rfl⟩
theorem D3o{ss:SessS}{po:PoolS}(h:TapeOk ss po):KeepT ss po (takeN ss po).2.1 (takeN ss po).2.2:=by
 unfold takeN
 split
 ·exact .rfl' h
 ·rename_i hn
  obtain⟨⟨t1,t2,t3⟩,te⟩:=h
  exact⟨⟨⟨by dsimp only;omega,by dsimp only;omega,t3⟩,fun d hd=>by have:=te d hd;simpa using this⟩,rfl,rfl,by simp⟩
structure KeepR(n0:Int)(S:WS)(T:Tr):Prop where
 w:KeepW S T.S
 o:∀P,T.o=some P→P.ok
 n:T.n=n0
theorem E1j{n:Int}{o:Option PairS}{ss:SessS}{po:PoolS}{S:WS}(h:S.ok)(ho:∀P,o=some P→P.ok):KeepR n S (runO n o ss po S)∧(runO n o ss po S).ss=ss∧(runO n o ss po S).po=po:=by
 unfold runO
 cases o with
 |none=>exact⟨⟨.rfl' h,fun P hP=>(by cases hP),rfl⟩,rfl,rfl⟩
 |some P=>
  dsimp only
  split
  ·exact⟨⟨.rfl' h,ho,rfl⟩,rfl,rfl⟩
  ·obtain⟨q1,q2,q3,q4,q5,q6,q7⟩:=B5a h (ho P rfl)
   exact⟨⟨⟨q2,q3,q4,q5,q7⟩,fun P' hP=>(by cases hP;exact q1),rfl⟩,rfl,rfl⟩
theorem E0t{pr:PrS}{o:Option PairS}{se:SeatS}{ss:SessS}{po:PoolS}{S:WS}(h:S.ok)(hk:ProgOk pr o se S)(ht:TapeOk ss po):
  KeepW S (tryP pr o ss po S).S∧(∀P,(tryP pr o ss po S).o=some P→P.ok)∧(0≤(tryP pr o ss po S).n∧(tryP pr o ss po S).n≤100)∧KeepT ss po (tryP pr o ss po S).ss (tryP pr o ss po S).po∧((tryP pr o ss po S).b=false→(tryP pr o ss po S).S=S):=by
 have hb:=D7p (pr:=pr) (ss:=ss) (po:=po) h hk.o
 have hn:=hk.n
 have ha:=hk.aims
 have key:∀(n':Int) (o':Option PairS) (ss':SessS) (po':PoolS),(∀P,o'=some P→P.ok)→(0≤n'∧n'≤100)→KeepT ss po ss' po'→tryP pr o ss po S=runO n' o' ss' po' S→
   KeepW S (tryP pr o ss po S).S∧(∀P,(tryP pr o ss po S).o=some P→P.ok)∧(0≤(tryP pr o ss po S).n∧(tryP pr o ss po S).n≤100)∧KeepT ss po (tryP pr o ss po S).ss (tryP pr o ss po S).po∧((tryP pr o ss po S).b=false→(tryP pr o ss po S).S=S):=by
  intro n' o' ss' po' h1 h2 h3 e
  rw[e]at hb⊢
  obtain⟨⟨r1,r2,r3⟩,r4,r5⟩:=E1j (n:=n') (ss:=ss') (po:=po') h h1
  exact⟨r1,r2,by rw[r3];exact h2,by rw[r4,r5];exact h3,hb.2.2⟩
 by_cases c0:doneO o=true∧pr.n<pr.aims.length
 ·by_cases c1:(atA pr.aims pr.n).way=1
  ·exact key (pr.n+1) (some (PairS.new (newAim (atA pr.aims pr.n) (takeN ss po).1))) _ _ (fun P e=>by cases e;exact PairS.new_ok _) (by omega) (D3o ht) (by unfold tryP;rw[if_pos c0,if_pos c1])
  ·exact key (pr.n+1) (some (PairS.new (atA pr.aims pr.n))) _ _ (fun P e=>by cases e;exact PairS.new_ok _) (by omega) (.rfl' ht) (by unfold tryP;rw[if_pos c0,if_neg c1])
 ·exact key _ _ _ _ hk.o hn (.rfl' ht) (by unfold tryP;rw[if_neg c0])
theorem D5s{pr:PrS}{o:Option PairS}{se:SeatS}{ss:SessS}{po:PoolS}{S:WS}(hk:ProgOk pr o se S){r:Rep}(h:(stepA pr o se ss po S).r=some r):r.looks.length≤8:=by
 have hc:∀c,some (codeF pr S c)=some r→r.looks.length≤8:=fun c e=>by cases e;exact Nat.zero_le _
 unfold stepA at h
 split at h
 ·unfold submitA at h
  split at h
  ·have h':(beginP (cellF S.c se.part pr.a.cell) pr se S).r=some r:=h
   unfold beginP at h'
   split at h'
   ·split at h'
    ·exact hc _ h'
    ·cases h'
   split at h'
   ·split at h'
    ·exact hc _ h'
    ·cases h'
   split at h'
   ·cases h'
   split at h'<;>cases h'
  ·unfold submitR at h
   split at h
   ·cases h
   split at h
   ·cases h
   ·cases h;exact Nat.zero_le _
 split at h
 ·have h':(cancelP (cellF S.c se.part pr.a.cell) pr se S).r=some r:=h
  unfold cancelP at h'
  split at h'
  ·split at h'
   ·exact hc _ h'
   ·cases h'
  split at h'
  ·cases h'
  split at h'
  ·cases h'
  split at h'
  ·cases h'
  ·cases h';exact Nat.zero_le _
 split at h
 ·have h':(pollP (cellF S.c se.part pr.a.cell) pr se S).r=some r:=h
  unfold pollP at h'
  split at h'
  ·exact hc _ h'
  split at h'
  ·cases h'
  split at h'
  ·split at h'<;>cases h'
  split at h'
  ·cases h'
  ·cases h';exact Nat.zero_le _
 split at h
 ·have h':(viewP pr se S).r=some r:=h
  unfold viewP at h'
  split at h'
  ·cases h'
   have h1:=hk.looks
   have h2:=hk.pc
   show pr.looks.length≤8
   omega
  split at h'<;>cases h'
 ·exact hc _ h
structure KeepA(pr:PrS)(se:SeatS)(ss:SessS)(po:PoolS)(S:WS)(R:StA):Prop where
 w:KeepW S R.S
 seat:SeatOk R.se S.c
 part:R.se.part=se.part
 t:KeepT ss po R.ss R.po
 prog:R.r=none→ProgOk R.pr R.o R.se R.S∧R.pr.a=pr.a
theorem KeepP.A{pr:PrS}{o:Option PairS}{se:SeatS}{ss:SessS}{po:PoolS}{S:WS}{X:Stp}(h:KeepP pr o se S X)(ht:TapeOk ss po):KeepA pr se ss po S (X.on o ss po):=⟨h.w,h.seat,h.part,.rfl' ht,h.prog⟩
theorem C0z{pr:PrS}{o:Option PairS}{se:SeatS}{ss:SessS}{po:PoolS}{S:WS}(h:S.ok)(hk:ProgOk pr o se S)(hse:SeatOk se S.c)(ht:TapeOk ss po):KeepA pr se ss po S (stepA pr o se ss po S):=by
 unfold stepA
 split
 ·rename_i c1
  unfold submitA
  split
  ·exact(D3t h hk hse c1 (by omega)).A ht
  ·rename_i c4
   obtain⟨t1,t2,t3,t4,t5⟩:=E0t (ss:=ss) (po:=po) h hk ht
   generalize tryP pr o ss po S=T at*
   unfold submitR
   have hk':∀S',S'.c=S.c→ProgOk {pr with n:=T.n} T.o se S':=by
    intro S' hS
    obtain⟨k1,k2,k3,k4,k5,k6,k7,k8,k9,k10,k11,k12,k13,k14⟩:=hk
    exact⟨k1,k2,k3,k4,k5,k6,k7,t3,k9,k10,by rw[hS];exact k11,by rw[hS];exact k12,by rw[hS];exact k13,t2⟩
   split
   ·exact⟨t1,hse,rfl,t4,fun _=>⟨hk' _ t1.c,rfl⟩⟩
   ·rename_i hb
    have e:=t5 (by simpa using hb)
    rw[e]
    obtain⟨r1,r2⟩:=D5d (o:=T.o) h (hk' S rfl) hse (cellF S.c se.part pr.a.cell)
    split
    ·rename_i hr
     refine⟨r1,hse,rfl,t4,fun _=>?_⟩
     obtain⟨⟨k1,k2,k3,k4,k5,k6,k7,k8,k9,k10,k11,k12,k13,k14⟩,r4⟩:=r2 hr
     exact⟨⟨k1,k2,k3,k4,k5,k6,k7,k8,k9,k10,by rw[r1.c];exact k11,by rw[r1.c];exact k12,by rw[r1.c];exact k13,k14⟩,r4⟩
    ·exact⟨r1,hse,rfl,t4,fun hh=>A2w hh⟩
 split
 ·rename_i c2
  exact(D1s h hk hse c2).A ht
 split
 ·rename_i c3
  exact(D6k h hk hse c3).A ht
 split
 ·rename_i c4
  exact(D6g h hk hse c4).A ht
 ·exact⟨.rfl' h,hse,rfl,.rfl' ht,fun hh=>A2w hh⟩
end Go.Proofs.YtcgcpjajghdbpaaGreat.P
