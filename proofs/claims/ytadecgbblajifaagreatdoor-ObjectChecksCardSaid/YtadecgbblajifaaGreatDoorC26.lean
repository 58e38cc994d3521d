import Derived.Test.YtadecgbblajifaaGreatDoorC25
import Derived.ChangeOld
import Derived.Handed
set_option linter.unusedSimpArgs false
set_option linter.unusedVariables false
set_option maxRecDepth 100000
set_option maxHeartbeats 25600000
namespace Go.Proofs.YtadecgbblajifaaGreatDoor
section
open Go.RowKit Go.Deep Go.Instr
theorem Tryz.CG:Tryz.prog.cellsOf 69=5:=by kernel_rfl
theorem Tryz.CJ:Tryz.prog.cellsOf 67=2:=by kernel_rfl
theorem Tryz.KY:Tryz.prog.cellsOf 39=7:=by kernel_rfl
theorem Tryz.J9:Tryz.prog.cellsOf 34=1:=by kernel_rfl
theorem Tryz.Ka:Tryz.prog.cellsOf 35=1:=by kernel_rfl
theorem Tryz.Ju:Tryz.prog.cellsOf 37=2:=by kernel_rfl
theorem Tryz.Kb:Tryz.prog.bytesOf 89=40:=by kernel_rfl
section
variable {H:Type} {enc:TypeId × Value->H} {W:World}
set_option maxRecDepth 100000 in
theorem KZ (fuel:Nat) (cs:List Value) (y:DataW H × List MemPlace) (h:DataW.trod enc Tryz.prog W 0 (λ_=>true) true fuel 69 cs=some y) (_:Wt 69 y.1):∃ a:Ins,cs=a.cells/\Ey a:=by
 obtain⟨xs,m,rfl,rfl,hcl,hxl,hf⟩:=DataW.trod_struct Tryz.underlying69 h
 rw[Tryz.CG]at hcl
 match cs,hcl with
 | [c0,c1,c2,c3,c4],_ =>
  match xs,hxl with
  | [x0,x1,x2,x3,x4],_ =>
   have f0:=hf 0 _ rfl
   have f1:=hf 1 _ rfl
   have f2:=hf 2 _ rfl
   have f3:=hf 3 _ rfl
   have f4:=hf 4 _ rfl
   simp[Tryz.mU,Tryz.uB]at f0 f1 f2 f3 f4
   obtain⟨a,e0,_,ha⟩:=DataW.trod_int Tryz.underlying5 f0
   obtain⟨b,e1,_,hb⟩:=DataW.trod_int Tryz.underlying3 f1
   obtain⟨c,e2,_,hc⟩:=DataW.trod_int Tryz.underlying3 f2
   obtain⟨d,e3,_,hd⟩:=DataW.trod_int Tryz.underlying3 f3
   obtain⟨e,e4,_,he⟩:=DataW.trod_int Tryz.underlying3 f4
   simp at e0 e1 e2 e3 e4
   subst e0 e1 e2 e3 e4
   exact⟨⟨a,b,c,d,e⟩,rfl,EH ha,jh hb,jh hc,jh hd,jh he⟩
set_option maxRecDepth 100000 in
theorem K3 (fuel:Nat) (cs:List Value) (y:DataW H × List MemPlace) (h:DataW.trod enc Tryz.prog W 0 (λ_=>true) true fuel 67 cs=some y) (_:Wt 67 y.1):∃ a:bC,cs=a.cells/\(a.name.size<=9223372036854775807/\In64 a.at'):=by
 obtain⟨xs,m,rfl,rfl,hcl,hxl,hf⟩:=DataW.trod_struct Tryz.underlying67 h
 rw[Tryz.CJ]at hcl
 match cs,hcl with
 | [c0,c1],_ =>
  match xs,hxl with
  | [x0,x1],_ =>
   have f0:=hf 0 _ rfl
   have f1:=hf 1 _ rfl
   simp[Tryz.mU,Tryz.oQ]at f0 f1
   obtain⟨a,e0,_,ha⟩:=DataW.trod_int Tryz.underlying3 f0
   obtain⟨s,e1,_,hs⟩:=DataW.trod_string Tryz.underlying9 f1
   simp at e0 e1
   subst e0 e1
   exact⟨⟨a,s⟩,rfl,by unfold maxLen at hs;exact hs,jh ha⟩
set_option maxRecDepth 100000 in
theorem K4 (fuel:Nat) (cs:List Value) (y:DataW H × List MemPlace) (h:DataW.trod enc Tryz.prog W 0 (λ_=>true) true fuel 39 cs=some y) (hw:Wt 39 y.1):∃ o:gu,cs=o.cells/\jq W o:=by
 obtain⟨xs,m,rfl,rfl,hcl,hxl,hf⟩:=DataW.trod_struct Tryz.underlying39 h
 rw[Tryz.KY]at hcl
 match cs,hcl with
 | [c0,c1,c2,c3,c4,c5,c6],_ =>
  match xs,hxl with
  | [x0,x1,x2,x3],_ =>
   have f0:=hf 0 _ rfl
   have f1:=hf 1 _ rfl
   have f2:=hf 2 _ rfl
   have f3:=hf 3 _ rfl
   simp[Tryz.oQ,Tryz.BQ,Tryz.Bw,Tryz.Ju]at f0 f1 f2 f3
   simp only[Wt,DataW.weights,Tryz.underlying39,List.map_cons,List.map_nil,DataW.weightsEach,List.all_append,Bool.and_eq_true]at hw
   obtain⟨_,hw1,hw2,hw3,_⟩:=hw
   obtain⟨s,e0,_,hs⟩:=DataW.trod_string Tryz.underlying9 f0
   obtain⟨pv,ps,e1,hp,hpo,_⟩:=open_row aH.cells 3 Tryz.underlying22 Tryz.xO (by decide) (λ_=>rfl) _ CF f1 hw1
   obtain⟨PS,m2,rfl,rfl,QJ,OD,hf2⟩:=DataW.trod_struct Tryz.underlying33 f2
   obtain⟨PT,m3,-,rfl,QK,OE,hf3⟩:=DataW.trod_struct Tryz.underlying37 f3
   match PS,OD with
   | [u0,u1,u2],_ =>
    match PT,OE with
    | [t0,t1],_ =>
     have g0:=hf2 0 _ rfl
     have g1:=hf2 1 _ rfl
     have g2:=hf2 2 _ rfl
     have k0:=hf3 0 _ rfl
     have k1:=hf3 1 _ rfl
     simp[Tryz.mU,Tryz.Bv,Tryz.J9,Tryz.Ka]at g0 g1 g2 k0 k1
     simp only[DataW.weights,Tryz.underlying33,List.map_cons,List.map_nil,DataW.weightsEach,List.all_append,Bool.and_eq_true]at hw2
     simp only[DataW.weights,Tryz.underlying37,List.map_cons,List.map_nil,DataW.weightsEach,List.all_append,Bool.and_eq_true]at hw3
     obtain⟨sv,ss,e2,hsl,hso,hsb⟩:=open_row ay.cells 4 Tryz.underlying31 Tryz.xq (by decide) (λ_=>rfl) _ BU g0 hw2.1
     obtain⟨cl,e3,_,OG⟩:=DataW.trod_int Tryz.underlying3 g1
     obtain⟨st,e4,_,OH⟩:=DataW.trod_int Tryz.underlying3 g2
     obtain⟨cv,co,e5,hco,OI,_⟩:=open_row Ins.cells 5 Tryz.underlying34 Tryz.CG (by decide) (λ_=>rfl) _ KZ k0 hw3.1
     obtain⟨rv,rf,e6,hrf,OJ,_⟩:=open_row bC.cells 2 Tryz.underlying35 Tryz.CJ (by decide) (λ_=>rfl) _ K3 k1 hw3.2.1
     simp at e0 e1 e2 e3 e4 e5 e6
     subst e0 e1 e2 e3 e4 e5 e6
     rw[Tryz.Kb]at hsb
     unfold reachBytes at hsb
     exact⟨⟨⟨s,ps,ss,cl,st,co,rf⟩,c1,c2,c5,c6⟩,rfl,⟨by unfold maxLen at hs;exact hs,hpo,hso,jh OG,jh OH,OI,OJ,by simp only;omega⟩,hp,hsl,hco,hrf⟩
end
end
end Go.Proofs.YtadecgbblajifaaGreatDoor
namespace Go.Proofs.YtadecgbblajifaaGreatDoor.objectChecks
open Go.ChangeShapes Go.WideShapes Go.ChangeAt Go.RowKit Go.Deep
theorem own:ownKnob Tryz.prog.godebug=none:=by kernel_rfl
theorem laidOut:laidOutB Tryz.prog=true:=by kernel_rfl
set_option maxRecDepth 100000 in
theorem contract (H:Type) (enc:TypeId × Value->H) (W:World) (base:Nat) (args:Array Value) (ds gs:List (DataW H)) (before:List MemPlace)
 (hval0:∀ (j:Nat) t v,Tryz.f4.params[j]? = some t->args[j]? = some v->Value.okWide Tryz.prog W .any base t v)
 (hW:DataW.Whole enc Tryz.prog Tryz.f4.params.toList Rows.objectChecksSpec.vars false W args.toList ds gs before)
 (hwt:(DataW.weightsEach Tryz.prog (Tryz.f4.params.toList ++ Rows.objectChecksSpec.plain.varTypes Tryz.prog) (ds ++ gs)).all (· <= reachBytes)=true) (hL:laidMetH Tryz.prog kI W) :
 Calls Tryz.prog 4 args W λe W'=>∃ v,e = .returned v/\Rows.objectChecksSpec.post enc Tryz.prog Tryz.f4 false true false false W args v W':=by
 have hval:∀ (j:Nat) t v,Tryz.f4.params[j]? = some t->args[j]? = some v->Value.okWide Tryz.prog W .any base t v:=hval0
 have hW':=hW
 obtain⟨p,q,Ic,hV,rfl,hfz,hnd⟩:=hW
 have hA:DataW.TrodAll enc Tryz.prog W 0 (λ_=>true) true Tryz.f4.params.toList args.toList ds p:=Ic
 rw[Tryz.params4]at hA hval hwt
 obtain⟨v0,Rf,d0,ds0,p0,q0,hargs,rfl,rfl,h0,r0⟩:=trodAll_cons hA
 obtain⟨rfl,rfl,rfl⟩:=trodAll_nil r0
 obtain rfl:args=#[v0]:=by cases args;simp_all
 obtain⟨rfl,rfl⟩:=trodVars_none hV
 obtain⟨cs0,rfl,QL⟩:=okWide_struct Tryz.underlying39 (hval 0 39 v0 rfl rfl)
 have k0:=h0
 have PU:∀ x∈p0,x.block<W.heap.size:=by obtain⟨m,hm⟩:=k0;exact DataW.trod_lt m _ _ _ hm
 simp only[List.cons_append,List.nil_append,List.append_nil,DataW.weightsEach,List.all_append,Bool.and_eq_true]at hwt
 obtain⟨f0,g0⟩:=h0
 obtain⟨o,ho,hoa⟩:=K4 f0 _ _ g0 hwt.1
 obtain rfl:cs0=#[.string o.d.name,o.pv,o.sv,.int .i64 o.d.cells,.int .i64 o.d.stacks,o.cv,o.rv]:=Array.toList_inj.1 ho
 clear Ic hval0
 refine(DV.IG o W hoa (KW hL) (KX hL)).mono λe W' ⟨he,h2,h3,h4⟩ => ?_
 have hg:Mv (λ_=>False) W W':=⟨h4.os,h4.tape,h4.output,h3,λb hb _=>h2 b hb⟩
 subst he
 have Ie:Below W.heap.size W W':=⟨hg.os,hg.tape,hg.output,hg.size,λj hj=>hg.block j hj (λh=>h)⟩
 exact⟨_,rfl,_,_,_,[],_,[],hW',trodAll_mk1 (shut_bool Tryz.underlying4 _),(trodAll_cons_mk (Below.trod laidOut (by kernel_rfl) (of_decide_eq_true (by kernel_rfl)) k0 Ie PU) trodAll_mk0),rfl,Ie.frame _,λh=>by cases h⟩
set_option maxRecDepth 100000 in
theorem lifted (os:Os) (started:os.Started) (H:Type) (enc:TypeId × Value->H) :
 ReturnsInHanded {} Tryz.checked os 4 .any (λw args=>(Rows.objectChecksSpec.pre enc Tryz.prog Tryz.f4 [] false w args/\laidMetH Tryz.prog kI w)/\sizedMet enc Tryz.prog Tryz.f4 (OpenSpec.ofChange Rows.objectChecksSpec) false w args)
  (Rows.objectChecksSpec.post enc Tryz.prog Tryz.f4 false true false false):=by
 refine returnsInHanded_of_change_and (C:=Tryz.checked) (X:=λw _=>laidMetH Tryz.prog kI w) (λ_ _ _ hh h=>h.of_heap hh) own started (by kernel_rfl) Tryz.func4
  (ChangeSpec.witness_shaped (enc:=enc) (C:=Tryz.checked) (os:=os) (X:=λw _=>laidMetH Tryz.prog kI w) false (World.doorLaid Tryz.prog 400 os) #[.agg #[.string ⟨#[]⟩,.slice none 0 0,.slice none 0 0,.int .i64 0,.int .i64 0,.slice none 0 0,.slice none 0 0]] 8 rfl (World.shaped_of_RefB (by kernel_rfl) (by kernel_rfl)) (by kernel_rfl) (by kernel_rfl) (by kernel_rfl) (KV os _)) ?_
 intro W base args ds gs before hval hW _ hwt hL _
 exact contract H enc W base args ds gs before hval hW hwt hL
end Go.Proofs.YtadecgbblajifaaGreatDoor.objectChecks
namespace Go.Proofs.YtadecgbblajifaaGreatDoor
end Go.Proofs.YtadecgbblajifaaGreatDoor
