import Derived.Test.YtckanieeocdpbaaGreatRows
import Derived.Test.YtckanieeocdpbaaGreatOpenS
import Derived.Test.YtckanieeocdpbaaGreatAllOk
import Derived.Test.YtckanieeocdpbaaGreatCancels
import Derived.WalkKit
import Derived.ProofKit
import Derived.OpenShut
import Derived.ShutString
import Derived.ChangeOld
import Derived.Below
import Derived.Lib.SmallJoins
import Derived.SizedLaws
open Go.DataW renaming weights_mem_each→a0,trod_lt→a3
open List renaming all_eq_true→a4
namespace Go.Proofs.YtckanieeocdpbaaGreat.topCancels
open Go.ChangeShapes Go.WideShapes Go.ChangeAt Go.RowKit Go.Joins Go.Deep
open Go.ChangeMaps (open_string shut_string)
open Go.Proofs.YtckanieeocdpbaaGreat.Eng Go.Proofs.YtckanieeocdpbaaGreat.Open
set_option linter.unusedVariables false
theorem own:ownKnob Tryz.prog.godebug=none:=by kernel_rfl
theorem laidOut:laidOutB Tryz.prog=true:=by kernel_rfl
theorem hsig:Eng.B6c Tryz.prog cfg 3=some ([.agg [.int .i64,.int .i64,.int .i64,.int .i64,.int .i64,.int .i64,.int .i64],.one (.slice 130),.one (.int .u8)],[.one .bool],3):=by kernel_rfl
set_option maxRecDepth 100000 in
theorem lifted(os:Os)(started:os.Started)(H:Type)(enc:TypeId × Value→H):
  ReturnsInHanded {} Tryz.checked os 3 .any (Rows.topCancelsSpec.pre6 enc Tryz.prog Tryz.f3 Rows.topCancelsRow.domain false) (Rows.topCancelsSpec.post enc Tryz.prog Tryz.f3 false true false false):=by
 refine returnsInHanded_of_change_sized (C:=Tryz.checked) own started (by kernel_rfl) Tryz.func3
  (ChangeSpec.witness6 (enc:=enc) (C:=Tryz.checked) false ⟨#[],#[.agg #[.int .i64 0,.int .i64 0,.int .i64 0,.int .i64 0,.int .i64 0,.int .i64 0,.int .i64 0],.slice none 0 0,.int .u8 0],[]⟩ 8 (by kernel_rfl) (by kernel_rfl) (by kernel_rfl) (by kernel_rfl)) ?_
 intro W base args ds gs before hval0 hW hcnd hsz0 _
 have hsz:(DataW.weightsEach Tryz.prog (Tryz.f3.params.toList++Rows.topCancelsSpec.plain.varTypes Tryz.prog) (ds++gs)).all (·≤reachBytes)=true:=hsz0
 have hval:∀(j:Nat) t v,Tryz.f3.params[j]?=some t→args[j]?=some v→Value.okWide Tryz.prog W .any base t v:=hval0
 have hW':=hW
 obtain⟨p,q,hA0,hV,rfl,hfz,hnd⟩:=hW
 have hA:DataW.TrodAll enc Tryz.prog W 0 (fun _=>true) true Tryz.f3.params.toList args.toList ds p:=hA0
 rw[Tryz.params3]at hA hval hsz
 obtain⟨v0,vs0,d0,ds0,p0,q0,hargs,rfl,rfl,h0,r0⟩:=trodAll_cons hA
 obtain⟨v1,vs1,d1,ds1,p1,q1,rfl,rfl,rfl,h1,r1⟩:=trodAll_cons r0
 obtain⟨v2,vs2,d2,ds2,p2,q2,rfl,rfl,rfl,h2,r2⟩:=trodAll_cons r1
 obtain⟨rfl,rfl,rfl⟩:=trodAll_nil r2
 obtain rfl:args=#[v0,v1,v2]:=by cases args;simp_all
 obtain⟨rfl,rfl⟩:=trodVars_none hV
 have k0:=h0
 have lt0:∀x ∈ p0,x.block<W.heap.size:=by obtain⟨m,hm⟩:=k0;exact a3 m _ _ _ hm
 have k1:=h1
 have lt1:∀x ∈ p1,x.block<W.heap.size:=by obtain⟨m,hm⟩:=k1;exact a3 m _ _ _ hm
 have k2:=h2
 have lt2:∀x ∈ p2,x.block<W.heap.size:=by obtain⟨m,hm⟩:=k2;exact a3 m _ _ _ hm
 obtain⟨c0,rfl,_⟩:=okWide_struct Tryz.underlying23 (hval 0 23 v0 rfl rfl)
 obtain⟨x0,rd0,wf0⟩:=G3x (γ:=[]) (hc:=cfg.hc) (t:=23) (ts:=[.int .i64,.int .i64,.int .i64,.int .i64,.int .i64,.int .i64,.int .i64]) (by kernel_rfl) k0 (fun n hn=>by have hq:=a4.1 hsz n (a0 (j:=0) (t:=23) (d:=d0) rfl rfl n hn);simpa using hq)
 obtain⟨a1,len1,cap1,rfl⟩:=okWide_slice Tryz.underlying24 (hval 1 24 v1 rfl rfl)
 obtain⟨x1,rd1,wf1⟩:=F1y (γ:=[]) (hc:=cfg.hc) (t:=24) (u:=.slice 130) (by kernel_rfl) rfl k1 (fun n hn=>by have hq:=a4.1 hsz n (a0 (j:=1) (t:=24) (d:=d1) rfl rfl n hn);simpa using hq)
 obtain⟨a2,rfl⟩:=okWide_int Tryz.underlying5 (hval 2 5 v2 rfl rfl)
 obtain⟨x2,rd2,wf2⟩:=F1y (γ:=[]) (hc:=cfg.hc) (t:=5) (u:=.int .u8) (by kernel_rfl) rfl k2 (fun n hn=>by have hq:=a4.1 hsz n (a0 (j:=2) (t:=5) (d:=d2) rfl rfl n hn);simpa using hq)
 clear hA0 hval0
 refine(Eng.G7s (cf:=cfg) (H7n 3 _ _ _ _ [.bool true] hsig (P.F8k x0 x1 x2 wf0 wf1 wf2)) (by omega) rfl (H1o rd0 (F4n rd1 (F4n rd2 G8h)))).mono fun e W' ⟨he,bel⟩=>?_
 subst he
 exact⟨_,rfl,_,_,_,[],_,[],hW',trodAll_mk1 (shut_bool Tryz.underlying4 _),(trodAll_cons_mk (Below.trod laidOut (by kernel_rfl) (of_decide_eq_true (by kernel_rfl)) k0 bel lt0) (trodAll_cons_mk (Below.trod laidOut (by kernel_rfl) (of_decide_eq_true (by kernel_rfl)) k1 bel lt1) (trodAll_cons_mk (Below.trod laidOut (by kernel_rfl) (of_decide_eq_true (by kernel_rfl)) k2 bel lt2) trodAll_mk0))),rfl,bel.frame _,fun h=>by cases h⟩
theorem over:Rows.topCancelsRow.holds Tryz.pinned (OpenSpec.ofChange Rows.topCancelsSpec):=
 OpenClaim.holds_of_wide 3 Tryz.f3 rfl rfl rfl rfl rfl rfl rfl ⟨rfl,rfl,rfl,rfl,rfl⟩ rfl rfl rfl rfl rfl (by kernel_rfl) Tryz.func3 (by kernel_rfl)
  (of_decide_eq_true (by kernel_rfl)) (by unfold Func.isWrapper;first|(rw[if_pos (by decide +kernel)];kernel_rfl)|(rw[if_neg (by decide +kernel)];exact⟨rfl,rfl⟩))
  (fun os started H enc _=>lifted os started H enc)
theorem proved:Rows.TopCancelsSaid:=over
#print axioms proved
end Go.Proofs.YtckanieeocdpbaaGreat.topCancels
