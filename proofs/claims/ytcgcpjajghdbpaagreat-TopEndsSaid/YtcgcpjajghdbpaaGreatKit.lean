import Derived.WalkKit
import Derived.Lib.Hide
import Derived.Lib.SmallJoins
import Derived.ProofKit
namespace Go.Proofs.YtcgcpjajghdbpaaGreat
open Go.RowKit Go.Joins Go.ChangeShapes Go.WideShapes Go.Deep
theorem D5k{b n m:Nat}(hm:n=m)(h:(⟨b+1-m,0,none⟩:Addr)=⟨0,0,none⟩):b<n:=by
 have:=congrArg Addr.block h
 simp only at this
 omega
theorem far{W w1:World}(hb:Below W.heap.size W w1):(∀b o m,W.heap.size=m→(⟨b+1-m,0,none⟩:Addr)=⟨0,0,none⟩→w1.cell? ⟨b,o,none⟩=W.cell? ⟨b,o,none⟩)∧(∀b o m,W.heap.size=m→(⟨b+1-m,0,none⟩:Addr)=⟨0,0,none⟩→w1.frozen? ⟨b,o,none⟩=W.frozen? ⟨b,o,none⟩)∧W.heap.size≤w1.heap.size:=
 ⟨fun b o _ hm h=>hb.cell (p:=⟨b,o,none⟩) (D5k hm h),fun b o _ hm h=>hb.frozen (p:=⟨b,o,none⟩) (D5k hm h),hb.size⟩
section
variable{H:Type}{enc:TypeId × Value→H}{P:Program}{w:World}{base:Nat}{spare:Nat→Bool}{held:Bool}
end
end Go.Proofs.YtcgcpjajghdbpaaGreat
