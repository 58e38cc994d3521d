/- StmtgenFrame, proved for every input. The texts before this one are pressed by a program: short names, no comments. -/
import Derived.Test.YtnobahchcongnaaGreatF52
import Derived.Test.YtnobahchcongnaaGreatF53
import Derived.ShutString
import Derived.ChangeOld
set_option maxRecDepth 100000
set_option maxHeartbeats 25600000
namespace Go.Proofs.YtnobahchcongnaaGreat.stmtgenFrame
set_option linter.unusedSimpArgs false
set_option linter.unusedVariables false
open Go.ChangeShapes Go.WideShapes Go.ChangeAt Go.RowKit
open Go.ChangeMaps (open_string shut_string)
set_option linter.unusedVariables false
theorem own:ownKnob Tryz.prog.godebug=none:=by kernel_rfl
theorem laidOut:laidOutB Tryz.prog=true:=by kernel_rfl
theorem lifted (os:Os) (started:os.Started) (H:Type) (enc:TypeId × Value->H) :
 ReturnsInHanded {} Tryz.checked os 3 .any (Rows.stmtgenFrameSpec.pre6 enc Tryz.prog Tryz.f3 Rows.stmtgenFrameRow.domain false) (Rows.stmtgenFrameSpec.post enc Tryz.prog Tryz.f3 false true false false):=by
 have e:Rows.stmtgenFrameSpec.pre6 enc Tryz.prog Tryz.f3 Rows.stmtgenFrameRow.domain false=λw args=>(Rows.stmtgenFrameSpec.pre enc Tryz.prog Tryz.f3 Rows.stmtgenFrameRow.domain false w args/\True)/\sizedMet enc Tryz.prog Tryz.f3 (OpenSpec.ofChange Rows.stmtgenFrameSpec) false w args:=by
  funext w args;rw[and_true];rfl
 rw[e];refine returnsInHanded_of_change_and (C:=Tryz.checked) (X:=λ_ _=>True) (λ_ _ _ _ h=>h) own started (by kernel_rfl) Tryz.func3 (by
  have hw:=ChangeSpec.witness6 (enc:=enc) (C:=Tryz.checked) (os:=os) (f:=3) (fn:=Tryz.f3) (s:=Rows.stmtgenFrameSpec) (conds:=Rows.stmtgenFrameRow.domain) (apart:=false) false ⟨#[],#[.agg #[.slice none 0 0,.slice none 0 0,.int .u8 0,.int .i64 0,.string ⟨#[]⟩,.slice none 0 0],.int .i64 0],[]⟩ 8 (by kernel_rfl) (by kernel_rfl) (by kernel_rfl) (by kernel_rfl);obtain⟨w,tape,i,h1,h2,h3,h4,h5,h6⟩:=hw;exact⟨w,tape,i,h1,h2,h3,h4,⟨⟨h5.1,trivial⟩,h5.2⟩,h6⟩) ?_
 intro W base args ds gs before hval0 hW _ hwt _ _;have hval:∀ (j:Nat) t v,Tryz.f3.params[j]? = some t->args[j]? = some v->Value.okWide Tryz.prog W .any base t v:=hval0;have hW':=hW;obtain⟨p,q,Gt,hV,rfl,hfz,hnd⟩:=hW;have hA:DataW.TrodAll enc Tryz.prog W 0 (λ_=>true) true Tryz.f3.params.toList args.toList ds p:=Gt;rw[Tryz.params3]at hA hval hwt;obtain⟨v0,kK,d0,ds0,p0,q0,hargs,rfl,rfl,h0,r0⟩:=trodAll_cons hA;obtain⟨v1,vs1,d1,ds1,p1,q1,rfl,rfl,rfl,h1,r1⟩:=trodAll_cons r0;obtain⟨rfl,rfl,rfl⟩:=trodAll_nil r1;obtain rfl:args=#[v0,v1]:=by cases args;simp_all
 obtain⟨rfl,rfl⟩:=trodVars_none hV;obtain⟨cs0,rfl,adF⟩:=okWide_struct Tryz.underlying28 (hval 0 28 v0 rfl rfl);obtain⟨n1,rfl,rfl,rfl,w1⟩:=open_int Tryz.underlying3 (hval 1 3 v1 rfl rfl) h1;have k0:=h0;have lt0:∀ x∈p0,x.block<W.heap.size:=by obtain⟨m,hm⟩:=k0;exact DataW.trod_lt m _ _ _ hm
 simp only[List.cons_append,List.nil_append,List.append_nil,DataW.weightsEach,List.all_append,Bool.and_eq_true]at hwt;obtain⟨f0,g0⟩:=h0;obtain⟨pr,hpr,BF⟩:=YK f0 _ _ g0 hwt.1;have hxv:Value.agg cs0=pr.val:=by
  obtain⟨vs,vv,ps,pv,⟨k,n,s,kv,l⟩⟩:=pr;have:cs0.toList=[vv,pv,.int .u8 k,.int .i64 n,.string s,kv]:=hpr;rw[Array.toList_inj.1 (show cs0.toList=#[vv,pv,.int .u8 k,.int .i64 n,.string s,kv].toList from this)];rfl
 rw[hxv];clear Gt hval0;refine(YG pr n1 W BF (J3 w1)).mono λe W' ⟨he,hg⟩ => ?_;subst he;have VA:Below W.heap.size W W':=⟨hg.os,hg.tape,hg.output,hg.size,λj hj=>hg.block j hj (λh=>h)⟩;rw[hxv]at hW';exact⟨_,rfl,_,_,_,[],_,[],hW',trodAll_mk1 (shut_bool Tryz.underlying4 _),(trodAll_cons_mk (hxv ▸ Below.trod laidOut (by kernel_rfl) (of_decide_eq_true (by kernel_rfl)) k0 VA lt0) (trodAll_cons_mk (shut_int Tryz.underlying3 w1) trodAll_mk0)),rfl,VA.frame _,λh=>by cases h⟩
theorem over:Rows.stmtgenFrameRow.holds Tryz.pinned (OpenSpec.ofChange Rows.stmtgenFrameSpec) :=
 OpenClaim.holds_of_wide 3 Tryz.f3 rfl rfl rfl rfl rfl rfl rfl ⟨rfl,rfl,rfl,rfl,rfl⟩ rfl rfl rfl rfl rfl (by kernel_rfl) Tryz.func3 (by kernel_rfl)
  (of_decide_eq_true (by kernel_rfl)) (by unfold Func.isWrapper;first|(rw[if_pos (by decide +kernel)];kernel_rfl)|(rw[if_neg (by decide +kernel)];exact⟨rfl,rfl⟩))
  (λos started H enc _=>lifted os started H enc)
theorem proved:Rows.StmtgenFrameSaid:=over
#print axioms proved
end Go.Proofs.YtnobahchcongnaaGreat.stmtgenFrame
