import Derived.Test.YtcgcpjajghdbpaaGreatCfgN
namespace Go.Proofs.YtcgcpjajghdbpaaGreat.RU
open Go.RowKit Go.Proofs.YtcgcpjajghdbpaaGreat.Eng Go.Proofs.YtcgcpjajghdbpaaGreat Go.Proofs.YtcgcpjajghdbpaaGreat.Dat
set_option linter.unusedVariables false
set_option linter.unusedSimpArgs false
theorem check_step(c:Cf):FX 12 c.ds=some [.int (match firstBad c.lims 0 with|none=>-1|some (j,_)=>j)]:=by
 have s7:A2n (.int c.c0) (.int c.c1) (.int c.c2) (.int c.c3) (.int c.c4) (.int c.c5) (.int c.c6) [.int 7]=some [.int (-1)]:=by rw[A0x];simp
 have w1:IntKind.i64.wrap 1=1:=rfl
 have w2:IntKind.i64.wrap 2=2:=rfl
 have w3:IntKind.i64.wrap 3=3:=rfl
 have w4:IntKind.i64.wrap 4=4:=rfl
 have w5:IntKind.i64.wrap 5=5:=rfl
 have w6:IntKind.i64.wrap 6=6:=rfl
 have w7:IntKind.i64.wrap 7=7:=rfl
 have s6:=A0x (.int c.c0) (.int c.c1) (.int c.c2) (.int c.c3) (.int c.c4) (.int c.c5) (.int c.c6) (.int 6)
 have s5:=A0x (.int c.c0) (.int c.c1) (.int c.c2) (.int c.c3) (.int c.c4) (.int c.c5) (.int c.c6) (.int 5)
 have s4:=A0x (.int c.c0) (.int c.c1) (.int c.c2) (.int c.c3) (.int c.c4) (.int c.c5) (.int c.c6) (.int 4)
 have s3:=A0x (.int c.c0) (.int c.c1) (.int c.c2) (.int c.c3) (.int c.c4) (.int c.c5) (.int c.c6) (.int 3)
 have s2:=A0x (.int c.c0) (.int c.c1) (.int c.c2) (.int c.c3) (.int c.c4) (.int c.c5) (.int c.c6) (.int 2)
 have s1:=A0x (.int c.c0) (.int c.c1) (.int c.c2) (.int c.c3) (.int c.c4) (.int c.c5) (.int c.c6) (.int 1)
 have s0:=A0x (.int c.c0) (.int c.c1) (.int c.c2) (.int c.c3) (.int c.c4) (.int c.c5) (.int c.c6) (.int 0)
 simp[w1,w2,w3,w4,w5,w6,w7]at s0 s1 s2 s3 s4 s5 s6
 have he:FX 12 c.ds=A2n (.int c.c0) (.int c.c1) (.int c.c2) (.int c.c3) (.int c.c4) (.int c.c5) (.int c.c6) [.int 0]:=by
  unfold Cf.ds;rw[C6s]
 rw[he,s0,s1,s2,s3,s4,s5,s6,s7]
 have hgo:∀(n lo hi:Int) (i:Nat) (w:ByteArray) (l:List Lim) (r:Option (List D)),(r=some [.int (match firstBad l (i+1)with|none=>-1|some (j,_)=>j)])→
   (if n<lo then some [D.int (i:Int)]else if hi<n then some [D.int (i:Int)]else r)=some [.int (match firstBad (⟨w,n,lo,hi⟩::l) i with|none=>-1|some (j,_)=>j)]:=by
  intro n lo hi i w l r hr
  simp only[firstBad,Lim.ok]
  by_cases h1:n<lo
  ·have:¬(lo≤n∧n≤hi):=by omega
   simp only[h1,this,if_true,if_false]
  ·rw[if_neg h1]
   by_cases h2:hi<n
   ·have:¬(lo≤n∧n≤hi):=by omega
    simp only[h2,this,if_true,if_false]
   ·have:lo≤n∧n≤hi:=by omega
    simp only[h2,this,if_true,if_false,hr,and_self]
 exact hgo _ _ _ 0 _ _ _ (hgo _ _ _ 1 _ _ _ (hgo _ _ _ 2 _ _ _ (hgo _ _ _ 3 _ _ _ (hgo _ _ _ 4 _ _ _ (hgo _ _ _ 5 _ _ _ (hgo _ _ _ 6 _ _ _ rfl))))))
end Go.Proofs.YtcgcpjajghdbpaaGreat.RU
