import Derived.WalkKit
import Derived.Lib.Hide
import Derived.Lib.SmallJoins
import Derived.ProofKit
import Derived.Maps.AppendAt
import Derived.Deep.AppendLies
import Derived.RegionTactic
import Derived.OwnWalk
import Derived.Laws.OwnMore
import Derived.Deep.Draws
open Go.Builtin renaming append_→a0,firstCells→a1,lenOf→a2
namespace Go.Proofs.YtckanieeocdpbaaGreat
theorem Q0{c:Prop}{h:Decidable c}(n:¬c){α:Sort _}{t e:α}:ite c t e=e:=if_neg n
theorem Q3{c:Prop}{h:Decidable c}(n:c){α:Sort _}{t e:α}:ite c t e=t:=if_pos n
theorem Q4{α:Sort _}{h:Decidable False}(t e:α):ite False t e=e:=if_false t e
theorem Q5{α:Sort _}{h:Decidable True}(t e:α):ite True t e=t:=if_true t e
theorem Q6(h:Decidable True):decide True=true:=decide_true h
theorem Q7(h:Decidable False):decide False=false:=decide_false h
theorem Q8{α:Type _}[BEq α][LawfulBEq α]{a b:α}:(a==b)=false↔a≠b:=beq_eq_false_iff_ne
theorem Q9{p:Prop}[Decidable p]:(decide p=true)=p:=decide_eq_true_eq
theorem QA{p:Prop}[Decidable p]:decide p=true→p:=of_decide_eq_true
theorem QB{α:Type _}[BEq α][LawfulBEq α]{a b:α}:a==b↔a=b:=beq_iff_eq
theorem QC(p:Prop):(p∨p)=p:=or_self p
open Go.RowKit Go.Joins Go.ChangeShapes Go.WideShapes Go.Deep
section
theorem G7j{b n m:Nat}(hm:n=m)(h:(⟨b+1-m,0,none⟩:Addr)=⟨0,0,none⟩):b<n:=by
 have:=congrArg Addr.block h
 simp only at this
 omega
theorem far{W w1:World}(hb:Below W.heap.size W w1):(∀b o m,W.heap.size=m→(⟨b+1-m,0,none⟩:Addr)=⟨0,0,none⟩→w1.cell? ⟨b,o,none⟩=W.cell? ⟨b,o,none⟩)∧(∀b o m,W.heap.size=m→(⟨b+1-m,0,none⟩:Addr)=⟨0,0,none⟩→w1.frozen? ⟨b,o,none⟩=W.frozen? ⟨b,o,none⟩)∧W.heap.size≤w1.heap.size:=
 ⟨fun b o _ hm h=>hb.cell (p:=⟨b,o,none⟩) (G7j hm h),fun b o _ hm h=>hb.frozen (p:=⟨b,o,none⟩) (G7j hm h),hb.size⟩
section
variable{H:Type}{enc:TypeId × Value→H}{P:Program}{w:World}{base:Nat}{spare:Nat→Bool}{held:Bool}
end
end
section
open Go.RowKit
structure Chg(S:List Nat)(w w':World):Prop where
 os:w'.os=w.os
 tape:w'.tape=w.tape
 output:w'.output=w.output
 size:w.heap.size≤w'.heap.size
 block:∀k,k<w.heap.size→k ∉ S→w'.heap[k]?=w.heap[k]?
section
variable{S T:List Nat}{a b c w w1:World}
theorem H2k(S:List Nat)(w:World):Chg S w w:=⟨rfl,rfl,rfl,Nat.le_refl _,fun _ _ _=>rfl⟩
theorem F1w(h:Below a.heap.size a b):Chg S a b:=⟨h.os,h.tape,h.output,h.size,fun k hk _=>h.block k hk⟩
theorem D5r(h:Chg [] a b):Below a.heap.size a b:=⟨h.os,h.tape,h.output,h.size,fun k hk=>h.block k hk (by simp)⟩
theorem D5p(h:Chg S a b)(k:Chg T b c)(hT:∀x ∈ T,x ∈ S∨a.heap.size≤x):Chg S a c:=
 ⟨k.os.trans h.os,k.tape.trans h.tape,k.output.trans h.output,Nat.le_trans h.size k.size,fun i hi hn=>
  (k.block i (Nat.lt_of_lt_of_le hi h.size) (fun hm=>(hT i hm).elim hn (fun hx=>by omega))).trans (h.block i hi hn)⟩
theorem B9p(h:Chg S a b)(k:Below b.heap.size b c):Chg S a c:=D5p h (F1w (S:=[]) k) (by simp)
theorem F5d{row:Option Nat}(h:a.grownBy b row):Chg row.toList a b:=
 ⟨h.os,h.tape,h.output,h.size,fun k hk hn=>h.block k hk (fun e=>hn (by simp[←e]))⟩
theorem G3z{row:Option Nat}(h:Chg S a b)(k:b.grownBy c row)(hT:∀x,row=some x→x ∈ S∨a.heap.size≤x):Chg S a c:=
 D5p h (F5d k) (fun x hx=>hT x (by simpa using hx))
def Blk(w:World)(g:Nat)(t:TypeId)(cs:Array Value):Prop:=w.heap[g]?=some (.cells cs t (0,0))
variable{g:Nat}{t:TypeId}{cs:Array Value}
theorem H7l(h:Blk w g t cs):g<w.heap.size:=by
 unfold Blk at h
 rcases Nat.lt_or_ge g w.heap.size with hlt|hge
 ·exact hlt
 ·rw[Array.getElem?_eq_none hge]at h
  cases h
theorem G7g(h:Blk w g t cs):(∀o,w.cell? ⟨g,o,none⟩=cs[o]?)∧(∀o,w.frozen? ⟨g,o,none⟩=false)∧g<w.heap.size:=
 ⟨fun o=>cell_of_row w g o cs t (0,0) h,fun _=>by unfold Blk at h;simp[World.frozen?,h],H7l h⟩
def Row(w:World)(A:Option Addr)(xs:List Value):Prop:=xs=[]∨∃b off,A=some ⟨b,off,none⟩∧∀i v,xs[i]?=some v→w.cell? ⟨b,off+i,none⟩=some v
variable{A:Option Addr}{xs:List Value}
theorem C8m{n:Nat}(h:Blk w n t cs)(e:cs.toList=xs):Row w (some ⟨n,0,none⟩) xs:=
 .inr ⟨n,0,rfl,fun i v hv=>by rw[Nat.zero_add,(G7g h).1];subst e;simpa using hv⟩
end
section
variable{P:Program}(w:World)
theorem D8j(base:Nat)(t ty e:TypeId)(i:TypeInfo)(size:Nat)(ht:P.underlying t=some (.slice e))(hi:P.info? e=some i)
  (v:Value) (n:Nat) (xs:List Value) (hown:w.ownsRow base e size v n xs) (c:Nat):(a0 #[t,t] ty #[v,.slice none 0 c]).run P w=.ok v w:=by
 rcases hown.2 with⟨rfl,rfl⟩|⟨g,cap,cur,rfl,_,_,hnc,_⟩
 ·simp[a0,run_underlying ht,sizeOf,typeInfo,hi,a2,a1]
 ·simp[a0,run_underlying ht,sizeOf,typeInfo,hi,a2,a1,hnc,storeCells]
theorem A4y(b off i:Nat):(⟨b,off,none⟩:Addr).add i=⟨b,off+i,none⟩:=by unfold Addr.add;split<;>simp_all
theorem E6g(base:Nat)(t ty e:TypeId)(i:TypeInfo)(z:Value)(size bytes:Nat)(ht:P.underlying t=some (.slice e))(hi:P.info? e=some i)(hz:i.zero=some z)
  (hsize:i.size=size) (hby:i.bytes=bytes) (hzs:z.cells.size=size) (hsz:0<size)
  (v:Value) (n:Nat) (xs:List Value) (hown:w.ownsRow base e size v n xs)
  (A:Option Addr) (m c:Nat) (news:List Value) (hl:news.length=m*size) (hr:Row w A news) (h1:∀u ∈ news,u.oneCell'=true)
  (h63:n+m≤maxLen) (hbytes:(n+m)*bytes≤140737488355328) (hbase:base≤w.heap.size):
  ∃v' w',(a0 #[t,t] ty #[v,.slice A m c]).run P w=.ok v' w'∧w'.ownsRow base e size v' (n+m) (xs++news)∧w.grownBy w' v.ownBlock∧
   (v'=.slice none 0 0↔v=.slice none 0 0∧m=0)∧(v'.ownBlock=v.ownBlock∨v'.ownBlock=some w.heap.size):=by
 rcases A with _|ad
 ·have hn:news=[]:=by
   rcases hr with h|⟨_,_,h,_⟩
   ·exact h
   ·cases h
  subst hn
  have hm:m=0:=by
   rcases Nat.mul_eq_zero.1 (show m*size=0 by simpa using hl.symm)with h|h
   ·exact h
   ·omega
  subst hm
  exact⟨v,w,D8j w base t ty e i size ht hi v n xs hown c,by simpa using hown,World.grownBy.refl w _,by simp,.inl rfl⟩
 ·have hcells:∀j u,news[j]?=some u→w.cell? (ad.add j)=some u:=by
   intro j u hu
   rcases hr with h|⟨b,off,h,hc⟩
   ·subst h
    simp at hu
   ·injection h with h
    subst h
    rw[A4y]
    exact hc j u hu
  obtain⟨v',w',hrun,h2,h3,h4,h5⟩:=run_append_own_at (P:=P) w base t ty e i z size bytes ht hi hz hsize hby hzs hsz v n xs hown ad m c news hl hcells h1 h63 hbytes hbase
  exact⟨v',w',hrun,h2,h3,h4,h5⟩
end
end
end Go.Proofs.YtckanieeocdpbaaGreat
