import Derived.Test.YtglhnofjggpdjaaGreatRows
import Derived.Test.YtglhnofjggpdjaaGreatOpenS
import Derived.Test.YtglhnofjggpdjaaGreatAllOk
import Derived.Test.YtglhnofjggpdjaaGreatQuotas
import Derived.WalkKit
import Derived.ProofKit
import Derived.OpenShut
import Derived.ShutString
import Derived.ChangeOld
import Derived.Below
import Derived.Lib.SmallJoins
import Derived.SizedLaws
namespace Go.Proofs.YtglhnofjggpdjaaGreat.topQuotas
open Go.ChangeShapes Go.WideShapes Go.ChangeAt Go.RowKit Go.Joins Go.Deep
open Go.ChangeMaps (open_string shut_string)
open Go.Proofs.YtglhnofjggpdjaaGreat.Eng Go.Proofs.YtglhnofjggpdjaaGreat.Open
set_option linter.unusedVariables false
theorem own:ownKnob Tryz.prog.godebug=none:=by kernel_rfl
theorem laidOut:laidOutB Tryz.prog=true:=by kernel_rfl
theorem hsig:Eng.B4t Tryz.prog cfg 3=some ([.agg [.int .i64,.int .i64,.int .i64,.int .i64,.int .i64,.int .i64,.int .i64],.one (.slice 52)],[.one .bool],3):=by kernel_rfl
set_option maxRecDepth 100000 in
theorem lifted(os:Os)(started:os.Started)(H:Type)(enc:TypeId × Value→H):
  ReturnsInHanded {} Tryz.checked os 3 .any (Rows.topQuotasSpec.pre6 enc Tryz.prog Tryz.f3 Rows.topQuotasRow.domain false) (Rows.topQuotasSpec.post enc Tryz.prog Tryz.f3 false true false false):=by
 refine returnsInHanded_of_change_sized (C:=Tryz.checked) own started (by kernel_rfl) Tryz.func3
  (ChangeSpec.witness6 (enc:=enc) (C:=Tryz.checked) false ⟨#[],#[.agg #[.int .i64 0,.int .i64 0,.int .i64 0,.int .i64 0,.int .i64 0,.int .i64 0,.int .i64 0],.slice none 0 0],[]⟩ 8 (by kernel_rfl) (by kernel_rfl) (by kernel_rfl) (by kernel_rfl)) ?_
 intro W base args ds gs before hval0 hW hcnd hsz0 _
 have hsz:(DataW.weightsEach Tryz.prog (Tryz.f3.params.toList++Rows.topQuotasSpec.plain.varTypes Tryz.prog) (ds++gs)).all (·≤reachBytes)=true:=hsz0
 have hval:∀(j:Nat) t v,Tryz.f3.params[j]?=some t→args[j]?=some v→Value.okWide Tryz.prog W .any base t v:=hval0
 have hW':=hW
 obtain⟨p,q,hA0,hV,rfl,hfz,hnd⟩:=hW
 have hA:DataW.TrodAll enc Tryz.prog W 0 (fun _=>true) true Tryz.f3.params.toList args.toList ds p:=hA0
 rw[Tryz.params3]at hA hval hsz
 obtain⟨v0,vs0,d0,ds0,p0,q0,hargs,rfl,rfl,h0,r0⟩:=trodAll_cons hA
 obtain⟨v1,vs1,d1,ds1,p1,q1,rfl,rfl,rfl,h1,r1⟩:=trodAll_cons r0
 obtain⟨rfl,rfl,rfl⟩:=trodAll_nil r1
 obtain rfl:args=#[v0,v1]:=by cases args;simp_all
 obtain⟨rfl,rfl⟩:=trodVars_none hV
 have k0:=h0
 have lt0:∀x ∈ p0,x.block<W.heap.size:=by obtain⟨m,hm⟩:=k0;exact DataW.trod_lt m _ _ _ hm
 have k1:=h1
 have lt1:∀x ∈ p1,x.block<W.heap.size:=by obtain⟨m,hm⟩:=k1;exact DataW.trod_lt m _ _ _ hm
 obtain⟨c0,rfl,_⟩:=okWide_struct Tryz.underlying23 (hval 0 23 v0 rfl rfl)
 obtain⟨x0,rd0,wf0⟩:=G4k (γ:=[]) (hc:=cfg.hc) (t:=23) (ts:=[.int .i64,.int .i64,.int .i64,.int .i64,.int .i64,.int .i64,.int .i64]) (by kernel_rfl) k0 (fun n hn=>by have hq:=List.all_eq_true.1 hsz n (DataW.weights_mem_each (j:=0) (t:=23) (d:=d0) rfl rfl n hn);simpa using hq)
 obtain⟨a1,len1,cap1,rfl⟩:=okWide_slice Tryz.underlying24 (hval 1 24 v1 rfl rfl)
 obtain⟨x1,rd1,wf1⟩:=G6e (γ:=[]) (hc:=cfg.hc) (t:=24) (u:=.slice 52) (by kernel_rfl) rfl k1 (fun n hn=>by have hq:=List.all_eq_true.1 hsz n (DataW.weights_mem_each (j:=1) (t:=24) (d:=d1) rfl rfl n hn);simpa using hq)
 clear hA0 hval0
 refine(Eng.G1o (cf:=cfg) (H2k 3 _ _ _ _ [.bool true] hsig (P.F8d x0 x1 wf0 wf1)) (by omega) rfl (G7s rd0 (G9b rd1 G6m))).mono fun e W' ⟨he,bel⟩=>?_
 subst he
 exact⟨_,rfl,_,_,_,[],_,[],hW',trodAll_mk1 (shut_bool Tryz.underlying4 _),(trodAll_cons_mk (Below.trod laidOut (by kernel_rfl) (of_decide_eq_true (by kernel_rfl)) k0 bel lt0) (trodAll_cons_mk (Below.trod laidOut (by kernel_rfl) (of_decide_eq_true (by kernel_rfl)) k1 bel lt1) trodAll_mk0)),rfl,bel.frame _,fun h=>by cases h⟩
theorem over:Rows.topQuotasRow.holds Tryz.pinned (OpenSpec.ofChange Rows.topQuotasSpec):=
 OpenClaim.holds_of_wide 3 Tryz.f3 rfl rfl rfl rfl rfl rfl rfl ⟨rfl,rfl,rfl,rfl,rfl⟩ rfl rfl rfl rfl rfl (by kernel_rfl) Tryz.func3 (by kernel_rfl)
  (of_decide_eq_true (by kernel_rfl)) (by unfold Func.isWrapper;first|(rw[if_pos (by decide +kernel)];kernel_rfl)|(rw[if_neg (by decide +kernel)];exact⟨rfl,rfl⟩))
  (fun os started H enc _=>lifted os started H enc)
theorem proved:Rows.TopQuotasSaid:=over
#print axioms proved
end Go.Proofs.YtglhnofjggpdjaaGreat.topQuotas
