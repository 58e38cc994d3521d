/- StmtgenConcat, proved for every input: the call returns true and every argument reads as before; the listed table isa.table is tied to the program's text (the card). No condition beyond the row's own. -/
import Derived.Test.YtnobahchcongnaaGreatDoorCards
import Derived.Test.YtnobahchcongnaaGreatDoorQ52
import Derived.ChangeOld
import Derived.Handed
import Derived.HandedShaped
import Derived.SevenTiedAt
set_option maxRecDepth 100000
set_option maxHeartbeats 25600000
namespace Go.Proofs.YtnobahchcongnaaGreatDoor.stmtgenConcat
set_option linter.unusedSimpArgs false
set_option linter.unusedVariables false
open Go.ChangeShapes Go.WideShapes Go.ChangeAt Go.RowKit
set_option linter.unusedVariables false
theorem own:ownKnob Tryz.prog.godebug=none:=by kernel_rfl
theorem laidOut:laidOutB Tryz.prog=true:=by kernel_rfl
theorem contract (H:Type) (enc:TypeId × Value→H) (W:World) (base:Nat) (args:Array Value) (ds gs:List (DataW H)) (before:List MemPlace)
 (hval0:∀ (j:Nat) t v,Tryz.f3.params[j]? = some t→args[j]? = some v→Value.okWide Tryz.prog W .any base t v)
 (hW:DataW.Whole enc Tryz.prog Tryz.f3.params.toList Rows.stmtgenConcatSpec.vars false W args.toList ds gs before)
 (hwt:(DataW.weightsEach Tryz.prog (Tryz.f3.params.toList ++ Rows.stmtgenConcatSpec.plain.varTypes Tryz.prog) (ds ++ gs)).all (· ≤ reachBytes)=true) (hL:laidMetH Tryz.prog zY W) :
 Calls Tryz.prog 3 args W fun e W'=>∃ v,e = .returned v∧Rows.stmtgenConcatSpec.post enc Tryz.prog Tryz.f3 false true false false W args v W':=by
 have hval:∀ (j:Nat) t v,Tryz.f3.params[j]? = some t→args[j]? = some v→Value.okWide Tryz.prog W .any base t v:=hval0;have hW':=hW;obtain ⟨p,q,F7,hV,rfl,hfz,hnd⟩:=hW;have hA:DataW.TrodAll enc Tryz.prog W 0 (fun _=>true) true Tryz.f3.params.toList args.toList ds p:=F7;rw [Tryz.params3] at hA hval hwt;obtain ⟨v0,jX,d0,ds0,p0,q0,hargs,rfl,rfl,h0,r0⟩:=trodAll_cons hA;obtain ⟨v1,vs1,d1,ds1,p1,q1,rfl,rfl,rfl,h1,r1⟩:=trodAll_cons r0;obtain ⟨v2,vs2,d2,ds2,p2,q2,rfl,rfl,rfl,h2,r2⟩:=trodAll_cons r1;obtain ⟨v3,vs3,d3,ds3,p3,q3,rfl,rfl,rfl,h3,r3⟩:=trodAll_cons r2;obtain ⟨rfl,rfl,rfl⟩:=trodAll_nil r3;obtain rfl:args=#[v0,v1,v2,v3]:=by cases args;simp_all
 obtain ⟨rfl,rfl⟩:=trodVars_none hV;have ht:=Vm hL;obtain ⟨cs0,rfl,acM⟩:=okWide_struct Tryz.underlying24 (hval 0 24 v0 rfl rfl);obtain ⟨cs1,rfl,hcs1⟩:=okWide_struct Tryz.underlying27 (hval 1 27 v1 rfl rfl);obtain ⟨a2,_J,cap2,rfl⟩:=okWide_slice Tryz.underlying28 (hval 2 28 v2 rfl rfl);obtain ⟨n3,rfl⟩:=okWide_int Tryz.underlying5 (hval 3 5 v3 rfl rfl);have k0:=h0;have k1:=h1;have k2:=h2;have k3:=h3;have lt0:∀ x∈p0,x.block<W.heap.size:=by obtain ⟨m,hm⟩:=k0;exact DataW.trod_lt m _ _ _ hm
 have lt1:∀ x∈p1,x.block<W.heap.size:=by obtain ⟨m,hm⟩:=k1;exact DataW.trod_lt m _ _ _ hm
 have lt2:∀ x∈p2,x.block<W.heap.size:=by obtain ⟨m,hm⟩:=k2;exact DataW.trod_lt m _ _ _ hm
 have lt3:∀ x∈p3,x.block<W.heap.size:=by obtain ⟨m,hm⟩:=k3;exact DataW.trod_lt m _ _ _ hm
 simp only [List.cons_append,List.nil_append,List.append_nil,DataW.weightsEach,List.all_append,Bool.and_eq_true] at hwt;obtain ⟨f0,g0⟩:=h0;obtain ⟨f1,g1⟩:=h1;obtain ⟨f2,g2⟩:=h2;obtain ⟨x,hx,hxa⟩:=IB _ f0 _ _ (Nat.le_refl _) g0 hwt.1;obtain ⟨sv,fr,hfr,hfa,_O⟩:=Wd f1 _ _ g1 hwt.2.1;obtain ⟨pv,procs,hp,mW⟩:=We f2 _ _ g2 hwt.2.2.1;have hpv:pv = .slice a2 _J cap2:=by simpa [Value.cells] using hp.symm
 subst hpv;have hxv:Value.agg cs0=x.val:=by
  obtain ⟨k,n,s,kv,l⟩:=x;have:cs0.toList=ae.cells (.mk k n s kv l):=hx;rw [Array.toList_inj.1 (show cs0.toList=#[.int .u8 k,.int .i64 n,.string s,kv].toList from this)];rfl
 have LZ:Value.agg cs1 = .agg #[sv,.int .i64 fr.cells,.int .i64 fr.stacks]:=by
  have:cs1.toList=[sv,.int .i64 fr.cells,.int .i64 fr.stacks]:=hfr;rw [Array.toList_inj.1 (show cs1.toList=#[sv,.int .i64 fr.cells,.int .i64 fr.stacks].toList from this)]
 rw [hxv,LZ];obtain ⟨f3,g3⟩:=h3;obtain ⟨n',e',_,Ug⟩:=DataW.trod_int Tryz.underlying5 g3;have hn':n'=n3:=by simpa [Value.cells] using e'.symm
 subst hn';have Ui:=P9 Ug;clear F7 hval0;refine (Vl W x _ _ fr procs n' ht hxa hfa _O mW Ui.1 Ui.2).mono fun e W' ⟨he,hg⟩ => ?_;subst he;have DV:Below W.heap.size W W':=⟨hg.os,hg.tape,hg.output,hg.size,fun j hj=>hg.block j hj (fun h=>h)⟩;rw [hxv,LZ] at hW';exact ⟨_,rfl,_,_,_,[],_,[],hW',trodAll_mk1 (shut_bool Tryz.underlying4 _),(trodAll_cons_mk (hxv ▸ Below.trod laidOut (by kernel_rfl) (of_decide_eq_true (by kernel_rfl)) k0 DV lt0) (trodAll_cons_mk (LZ ▸ Below.trod laidOut (by kernel_rfl) (of_decide_eq_true (by kernel_rfl)) k1 DV lt1) (trodAll_cons_mk (Below.trod laidOut (by kernel_rfl) (of_decide_eq_true (by kernel_rfl)) k2 DV lt2) (trodAll_cons_mk (Below.trod laidOut (by kernel_rfl) (of_decide_eq_true (by kernel_rfl)) k3 DV lt3) trodAll_mk0)))),rfl,DV.frame _,fun h=>by cases h⟩
theorem lifted (os:Os) (started:os.Started) (H:Type) (enc:TypeId × Value→H) :
 ReturnsInHanded {} Tryz.checked os 3 .any (fun w args=>(Rows.stmtgenConcatSpec.pre enc Tryz.prog Tryz.f3 [] false w args∧laidMetH Tryz.prog zY w)∧sizedMet enc Tryz.prog Tryz.f3 (OpenSpec.ofChange Rows.stmtgenConcatSpec) false w args)
  (Rows.stmtgenConcatSpec.post enc Tryz.prog Tryz.f3 false true false false):=by
 refine returnsInHanded_of_change_and (C:=Tryz.checked) (X:=fun w _=>laidMetH Tryz.prog zY w) (fun _ _ _ hh h=>h.of_heap hh) own started (by kernel_rfl) Tryz.func3
  (ChangeSpec.witness_shaped (enc:=enc) (C:=Tryz.checked) (os:=os) (X:=fun w _=>laidMetH Tryz.prog zY w) false (World.doorLaid Tryz.prog 400 os) #[.agg #[.int .u8 0,.int .i64 0,.string ⟨#[]⟩,.slice none 0 0],.agg #[.slice none 0 0,.int .i64 0,.int .i64 0],.slice none 0 0,.int .u8 0] 8 rfl (World.shaped_of_RefB (by kernel_rfl) (by kernel_rfl)) (by kernel_rfl) (by kernel_rfl) (by kernel_rfl) (Ye os _)) ?_
 intro W base args ds gs before hval hW _ hwt hL _;exact contract H enc W base args ds gs before hval hW hwt hL
theorem over:Rows.StmtgenConcatSaid :=
 OpenClaim.holds_of_wide 3 Tryz.f3 rfl rfl rfl rfl rfl rfl rfl ⟨rfl,rfl,rfl,rfl,rfl⟩ rfl rfl rfl rfl rfl (by kernel_rfl) Tryz.func3 (by kernel_rfl)
  (of_decide_eq_true (by kernel_rfl)) (by unfold Func.isWrapper;first | (rw [if_pos (by decide +kernel)];kernel_rfl) | (rw [if_neg (by decide +kernel)];exact ⟨rfl,rfl⟩))
  (fun os started H enc _=>lifted os started H enc)
theorem proved:Rows.StmtgenConcatCardSaid :=
 Claim7.holds_tied_plain_at .later [] [.data] true Rows.stmtgenConcatCard.stood.harness false
  over (fun _ h=>by cases h) (by kernel_rfl) (fun _ h=>by cases h) stmtgenConcat_row_tie rfl ⟨rfl,rfl⟩ (by kernel_rfl) rfl
  (fun f fn hf hfn=>by
   obtain rfl : f = 3 := Option.some.inj ((show Tryz.prog.funcNamed "backstep/backsteplaw28.StmtgenConcat" = some 3 by kernel_rfl).symm.trans hf) |>.symm
   obtain rfl:fn=Tryz.f3:=(Option.some.inj (Tryz.func3.symm.trans hfn)).symm;exact ⟨by kernel_rfl,fun j t ht=>by
    rw [Tryz.params3] at ht;have hm:t∈[24,27,28,5]:=by simpa using Array.mem_of_getElem? ht
    have hall:([24,27,28,5].all fun u => !Tryz.prog.wantsStandIn u)=true:=by kernel_rfl
    exact (show Tryz.prog.wantsStandIn t=false by simpa using List.all_eq_true.1 hall t hm)⟩)
  (by kernel_rfl)
#print axioms proved
end Go.Proofs.YtnobahchcongnaaGreatDoor.stmtgenConcat
