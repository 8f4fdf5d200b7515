import Derived.Test.YtcgcpjajghdbpaaGreatEngX
namespace Go.Proofs.YtcgcpjajghdbpaaGreat.Eng
set_option linter.unusedVariables false
set_option linter.unusedSimpArgs false
abbrev O:=Option (List D)
abbrev Kn:=List D→(List D→O)→O
def KnOk(g:Kn)(f:Eng.Fn):Prop:=∀xs k r,g xs k=some r→∃q,f xs=some q∧k q=some r
def KnL(L:List Kn)(M:List Eng.Fn):Prop:=L.length=M.length∧∀(i:Nat) (g:Kn) (f:Eng.Fn),L[i]?=some g→M[i]?=some f→KnOk g f
theorem KnL.snoc{L:List Kn}{M:List Eng.Fn}(h:KnL L M){g:Kn}{f:Eng.Fn}(hg:KnOk g f):KnL (L++[g]) (M++[f]):=by
 refine⟨by simp[h.1],fun i a b ha hb=>?_⟩
 rcases Nat.lt_trichotomy i L.length with hi|hi|hi
 ·rw[List.getElem?_append_left hi]at ha
  rw[List.getElem?_append_left (by rw[←h.1];exact hi)]at hb
  exact h.2 i a b ha hb
 ·subst hi
  rw[List.getElem?_append_right (Nat.le_refl _),Nat.sub_self]at ha
  rw[List.getElem?_append_right (by rw[h.1];exact Nat.le_refl _),←h.1,Nat.sub_self]at hb
  cases ha;cases hb;exact hg
 ·rw[List.getElem?_eq_none (by simp;omega)]at ha
  cases ha
section
variable(prog:List (Nat × T))
variable{prog}
end
end Go.Proofs.YtcgcpjajghdbpaaGreat.Eng
