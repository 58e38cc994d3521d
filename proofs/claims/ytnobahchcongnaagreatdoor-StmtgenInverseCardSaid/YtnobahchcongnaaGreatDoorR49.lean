/- StmtgenInverse, proved for every input: the call returns true and every argument reads as before; the listed table isa.table is tied to the program's text (the card). No condition beyond the row's own. -/
import Derived.Test.YtnobahchcongnaaGreatDoorCards
import Derived.Test.YtnobahchcongnaaGreatDoorR48
import Derived.ChangeOld
import Derived.Handed
import Derived.HandedShaped
import Derived.SevenTiedAt
set_option maxRecDepth 100000
set_option maxHeartbeats 25600000
namespace Go.Proofs.YtnobahchcongnaaGreatDoor.stmtgenInverse
set_option linter.unusedSimpArgs false
set_option linter.unusedVariables false
open Go.ChangeShapes Go.WideShapes Go.ChangeAt Go.RowKit
set_option linter.unusedVariables false
theorem own:ownKnob Tryz.prog.godebug=none:=by kernel_rfl
theorem laidOut:laidOutB Tryz.prog=true:=by kernel_rfl
theorem contract (H:Type) (enc:TypeId × Value->H) (W:World) (base:Nat) (args:Array Value) (ds gs:List (DataW H)) (before:List MemPlace)
 (hval0:∀ (j:Nat) t v,Tryz.f4.params[j]? = some t->args[j]? = some v->Value.okWide Tryz.prog W .any base t v)
 (hW:DataW.Whole enc Tryz.prog Tryz.f4.params.toList Rows.stmtgenInverseSpec.vars false W args.toList ds gs before)
 (hwt:(DataW.weightsEach Tryz.prog (Tryz.f4.params.toList ++ Rows.stmtgenInverseSpec.plain.varTypes Tryz.prog) (ds ++ gs)).all (· <= reachBytes)=true) (hL:laidMetH Tryz.prog Ca W) :
 Calls Tryz.prog 4 args W λe W'=>∃ v,e = .returned v/\Rows.stmtgenInverseSpec.post enc Tryz.prog Tryz.f4 false true false false W args v W':=by
 have hval:∀ (j:Nat) t v,Tryz.f4.params[j]? = some t->args[j]? = some v->Value.okWide Tryz.prog W .any base t v:=hval0;have hW':=hW;obtain⟨p,q,Jg,hV,rfl,hfz,hnd⟩:=hW;have hA:DataW.TrodAll enc Tryz.prog W 0 (λ_=>true) true Tryz.f4.params.toList args.toList ds p:=Jg;rw[Tryz.params4]at hA hval hwt;obtain⟨v0,kR,d0,ds0,p0,q0,hargs,rfl,rfl,h0,r0⟩:=trodAll_cons hA;obtain⟨v1,vs1,d1,ds1,p1,q1,rfl,rfl,rfl,h1,r1⟩:=trodAll_cons r0;obtain⟨v2,vs2,d2,ds2,p2,q2,rfl,rfl,rfl,h2,r2⟩:=trodAll_cons r1;obtain⟨rfl,rfl,rfl⟩:=trodAll_nil r2;obtain rfl:args=#[v0,v1,v2]:=by cases args;simp_all
 obtain⟨rfl,rfl⟩:=trodVars_none hV;have ht:=Ye hL;obtain⟨cs0,rfl,Ue⟩:=okWide_struct Tryz.underlying24 (hval 0 24 v0 rfl rfl);obtain⟨cs1,rfl,hcs1⟩:=okWide_struct Tryz.underlying27 (hval 1 27 v1 rfl rfl);obtain⟨a2,Nc,cap2,rfl⟩:=okWide_slice Tryz.underlying28 (hval 2 28 v2 rfl rfl);have k0:=h0;have k1:=h1;have k2:=h2;have lt0:∀ x∈p0,x.block<W.heap.size:=by obtain⟨m,hm⟩:=k0;exact DataW.trod_lt m _ _ _ hm
 have lt1:∀ x∈p1,x.block<W.heap.size:=by obtain⟨m,hm⟩:=k1;exact DataW.trod_lt m _ _ _ hm
 have lt2:∀ x∈p2,x.block<W.heap.size:=by obtain⟨m,hm⟩:=k2;exact DataW.trod_lt m _ _ _ hm
 simp only[List.cons_append,List.nil_append,List.append_nil,DataW.weightsEach,List.all_append,Bool.and_eq_true]at hwt;obtain⟨f0,g0⟩:=h0;obtain⟨f1,g1⟩:=h1;obtain⟨f2,g2⟩:=h2;obtain⟨x,hx,hxa⟩:=KX _ f0 _ _ (Nat.le_refl _) g0 hwt.1;obtain⟨sv,fr,hfr,hfa,acy⟩:=Y8 f1 _ _ g1 hwt.2.1;obtain⟨pv,procs,hp,nS⟩:=Y9 f2 _ _ g2 hwt.2.2.1;have hpv:pv = .slice a2 Nc cap2:=by simpa[Value.cells]using hp.symm
 subst hpv;have hxv:Value.agg cs0=x.val:=by
  obtain⟨k,n,s,kv,l⟩:=x;have:cs0.toList=ae.cells (.mk k n s kv l):=hx;rw[Array.toList_inj.1 (show cs0.toList=#[.int .u8 k,.int .i64 n,.string s,kv].toList from this)];rfl
 have Pd:Value.agg cs1 = .agg #[sv,.int .i64 fr.cells,.int .i64 fr.stacks]:=by
  have:cs1.toList=[sv,.int .i64 fr.cells,.int .i64 fr.stacks]:=hfr;rw[Array.toList_inj.1 (show cs1.toList=#[sv,.int .i64 fr.cells,.int .i64 fr.stacks].toList from this)]
 rw[hxv,Pd];clear Jg hval0;refine(Yd W x _ _ fr procs ht hxa hfa acy nS).mono λe W' ⟨he,hg⟩ => ?_;subst he;have J4:Below W.heap.size W W':=⟨hg.os,hg.tape,hg.output,hg.size,λj hj=>hg.block j hj (λh=>h)⟩;rw[hxv,Pd]at hW';exact⟨_,rfl,_,_,_,[],_,[],hW',trodAll_mk1 (shut_bool Tryz.underlying4 _),(trodAll_cons_mk (hxv ▸ Below.trod laidOut (by kernel_rfl) (of_decide_eq_true (by kernel_rfl)) k0 J4 lt0) (trodAll_cons_mk (Pd ▸ Below.trod laidOut (by kernel_rfl) (of_decide_eq_true (by kernel_rfl)) k1 J4 lt1) (trodAll_cons_mk (Below.trod laidOut (by kernel_rfl) (of_decide_eq_true (by kernel_rfl)) k2 J4 lt2) trodAll_mk0))),rfl,J4.frame _,λh=>by cases h⟩
theorem lifted (os:Os) (started:os.Started) (H:Type) (enc:TypeId × Value->H) :
 ReturnsInHanded {} Tryz.checked os 4 .any (λw args=>(Rows.stmtgenInverseSpec.pre enc Tryz.prog Tryz.f4 [] false w args/\laidMetH Tryz.prog Ca w)/\sizedMet enc Tryz.prog Tryz.f4 (OpenSpec.ofChange Rows.stmtgenInverseSpec) false w args)
  (Rows.stmtgenInverseSpec.post enc Tryz.prog Tryz.f4 false true false false):=by
 refine returnsInHanded_of_change_and (C:=Tryz.checked) (X:=λw _=>laidMetH Tryz.prog Ca w) (λ_ _ _ hh h=>h.of_heap hh) own started (by kernel_rfl) Tryz.func4
  (ChangeSpec.witness_shaped (enc:=enc) (C:=Tryz.checked) (os:=os) (X:=λw _=>laidMetH Tryz.prog Ca w) false (World.doorLaid Tryz.prog 400 os) #[.agg #[.int .u8 0,.int .i64 0,.string ⟨#[]⟩,.slice none 0 0],.agg #[.slice none 0 0,.int .i64 0,.int .i64 0],.slice none 0 0] 8 rfl (World.shaped_of_RefB (by kernel_rfl) (by kernel_rfl)) (by kernel_rfl) (by kernel_rfl) (by kernel_rfl) (_8 os _)) ?_
 intro W base args ds gs before hval hW _ hwt hL _;exact contract H enc W base args ds gs before hval hW hwt hL
theorem over:Rows.StmtgenInverseSaid :=
 OpenClaim.holds_of_wide 4 Tryz.f4 rfl rfl rfl rfl rfl rfl rfl ⟨rfl,rfl,rfl,rfl,rfl⟩ rfl rfl rfl rfl rfl (by kernel_rfl) Tryz.func4 (by kernel_rfl)
  (of_decide_eq_true (by kernel_rfl)) (by unfold Func.isWrapper;first|(rw[if_pos (by decide +kernel)];kernel_rfl)|(rw[if_neg (by decide +kernel)];exact⟨rfl,rfl⟩))
  (λos started H enc _=>lifted os started H enc)
theorem proved:Rows.StmtgenInverseCardSaid :=
 Claim7.holds_tied_plain_at .later [] [.data] true Rows.stmtgenInverseCard.stood.harness false
  over (λ_ h=>by cases h) (by kernel_rfl) (λ_ h=>by cases h) stmtgenInverse_row_tie rfl ⟨rfl,rfl⟩ (by kernel_rfl) rfl
  (λf fn hf hfn=>by
   obtain rfl : f = 4 := Option.some.inj ((show Tryz.prog.funcNamed "backstep/backsteplaw28.StmtgenInverse" = some 4 by kernel_rfl).symm.trans hf) |>.symm
   obtain rfl:fn=Tryz.f4:=(Option.some.inj (Tryz.func4.symm.trans hfn)).symm;exact⟨by kernel_rfl,λj t ht=>by
    rw[Tryz.params4]at ht;have hm:t∈[24,27,28]:=by simpa using Array.mem_of_getElem? ht
    have hall:([24,27,28].all λu => !Tryz.prog.wantsStandIn u)=true:=by kernel_rfl
    exact(show Tryz.prog.wantsStandIn t=false by simpa using List.all_eq_true.1 hall t hm)⟩)
  (by kernel_rfl)
#print axioms proved
end Go.Proofs.YtnobahchcongnaaGreatDoor.stmtgenInverse
