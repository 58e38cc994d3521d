import Derived.Test.YtnobahchcongnaaGreatDoorR16
set_option linter.unusedSimpArgs false
set_option linter.unusedVariables false
set_option maxRecDepth 100000
set_option maxHeartbeats 25600000
namespace Go.Proofs.YtnobahchcongnaaGreatDoor
open Go.RowKit Go.Instr
theorem Q7 (f:ax) (e:Tree) (use:aB):aD f e use=ah (kF (bW f e) (bR use.code ((bW f e).length+1))):=rfl
theorem GG (w:World) (G:Nat) (sv pv:Value) (f:ax) (procs:List ak) (hg:gX w G sv pv f procs) (x:ae) (uv:Value) (use:aB) (hx:aR w x) (hu:ay w uv use) (he:aN x.t=true) (hs:bK f x.t=true) (hc0:0<=f.cells) (hc1:f.cells<=1000) (hd:iL x.t<=10000) (hlen:(bW f x.t).length<=200000) (mX:use.code.length<=200000) :
 Calls Tryz.prog 100 #[.pointer (some ⟨G,0,none⟩),x.val,uv] w (bP w (aD f x.t use)):=by
 obtain⟨fa,fc,rfl,hfc,hfl⟩:=hg.fr.row.form;obtain⟨pa,pc,rfl,-,-⟩:=hg.pr.row.form;obtain⟨k,n,s,kv,l⟩:=x;obtain⟨ka,kc,rfl,-,-⟩:=hx.form;obtain⟨ua,uc,ra,rc,rfl,hr1,hr2⟩:=hu;obtain⟨us,rs⟩:=use;simp only at hr1 hr2 mX ⊢;have HCM:=ł (λ(y:World) (hy:Grow w y)=>PL (.mk k n s (.slice ka l.length kc) l) (.slice fa f.slots.length fc) f y (hg.fr.later hy) (hx.later hy) he hs hc0 hc1 hd (by omega));have sU:=ł (λ(y:World) (hy:Grow w y) (uv:Value) (us:List Ins) (hu:az 5 Ins.cells y uv us) (mX:us.length<=300000)=>Qp (.mk k n s (.slice ka l.length kc) l) (.slice fa f.slots.length fc) uv f us y (hg.fr.later hy) (hx.later hy) hu he hs hc0 hc1 hd (by omega) mX);have HW:=ł (Q7 f (ae.t (.mk k n s (.slice ka l.length kc) l)) ⟨us,rs⟩);have gK:=ł hr1;have aM:=ł hg;have aF:=ł (show(((w.alloc (.cells #[.int .u8 k,.int .i64 n,.string s,.slice ka l.length kc] 24)).alloc (.cells #[.slice ua us.length uc,.slice ra rs.length rc] 34)).alloc (.cells #[.slice none 0 0,.slice none 0 0] 34)).heap[w.heap.size]? = some (.cells #[.int .u8 k,.int .i64 n,.string s,.slice ka l.length kc] 24 (0,0))from aS (aS (heap_alloc_new w _) _) _);have wu:=ł (show(((w.alloc (.cells #[.int .u8 k,.int .i64 n,.string s,.slice ka l.length kc] 24)).alloc (.cells #[.slice ua us.length uc,.slice ra rs.length rc] 34)).alloc (.cells #[.slice none 0 0,.slice none 0 0] 34)).heap[w.heap.size+1]? = some (.cells #[.slice ua us.length uc,.slice ra rs.length rc] 34 (0,0))from aS (by have:=heap_alloc_new (w.alloc (.cells #[.int .u8 k,.int .i64 n,.string s,.slice ka l.length kc] 24)) (.cells #[.slice ua us.length uc,.slice ra rs.length rc] 34);rwa[World.size_alloc]at this) _);have aZ:=ł (show(((w.alloc (.cells #[.int .u8 k,.int .i64 n,.string s,.slice ka l.length kc] 24)).alloc (.cells #[.slice ua us.length uc,.slice ra rs.length rc] 34)).alloc (.cells #[.slice none 0 0,.slice none 0 0] 34)).heap[w.heap.size+1+1]? = some (.cells #[.slice none 0 0,.slice none 0 0] 34 (0,0))from by have:=heap_alloc_new ((w.alloc (.cells #[.int .u8 k,.int .i64 n,.string s,.slice ka l.length kc] 24)).alloc (.cells #[.slice ua us.length uc,.slice ra rs.length rc] 34)) (.cells #[.slice none 0 0,.slice none 0 0] 34);rwa[World.size_alloc,World.size_alloc]at this);have aH:=ł (show Grow w (((w.alloc (.cells #[.int .u8 k,.int .i64 n,.string s,.slice ka l.length kc] 24)).alloc (.cells #[.slice ua us.length uc,.slice ra rs.length rc] 34)).alloc (.cells #[.slice none 0 0,.slice none 0 0] 34))from(((Mv.refl _ w).alloc _).alloc _).alloc _);have hls:us.length<=200000:=mX;clear hg hx hr1 hr2 he hs hd mX;generalize bW f (ae.t (.mk k n s (.slice ka l.length kc) l))=A at *;simp only[ae.val]at HCM sU ⊢
 go_enter Tryz.func100,Tryz.ntmps100
 go_upto_region 1 with fail;generalize (((w.alloc (.cells #[.int .u8 k,.int .i64 n,.string s,.slice ka l.length kc] 24)).alloc (.cells #[.slice ua us.length uc,.slice ra rs.length rc] 34)).alloc (.cells #[.slice none 0 0,.slice none 0 0] 34))=w3 at *;have HK:=ł (λ(y:World) (hy:Grow w3 y)=>And.intro (aM.out.later (gtr aH.out hy)) (And.intro (ai aF.out hy) (And.intro (ai wu.out hy) (And.intro (ai aZ.out hy) (And.intro (gK.out.later (gtr aH.out hy)) trivial)))));have HCM:=ł (λ(y:World) (hy:Grow w3 y)=>HCM.out y (gtr aH.out hy));have HX:=ł (HK.out w3 (Mv.refl _ _));obtain⟨⟨q0,q1,q2⟩,q3,q4⟩:=bJ HX.out.1.blk;have Vt:=lt_of_block HX.out.1.blk;clear aF wu aZ gK;go_wp2_with fail;clear q0 q1 q2 q3 q4 Vt HX;refine wg 51 [some 17,some 18,some 19,some 20,some 21,some 22,some 16,some 23,some 24,some 7,some 8] [[],[],[1],[2],[3],[0,4],[5],[6],[6],[7],[8]] [] [.c (ae.val (.mk k n s (.slice ka l.length kc) l)),.c (.pointer (some ⟨G,0,none⟩)),.c (.pointer (some ⟨G,0,none⟩)),.c (.pointer (some ⟨G,0,none⟩)),.c (.agg #[.slice fa f.slots.length fc,.int .i64 f.cells,.int .i64 f.stacks]),.p (λv y=>∃ ca cc,v = .tuple #[.slice ca (A).length cc,.int .i64 0]/\az 5 Ins.cells y (.slice ca (A).length cc) (A)),.p (λv y=>∃ ca cc,v = .tuple #[.slice ca (A).length cc,.int .i64 0]/\az 5 Ins.cells y (.slice ca (A).length cc) (A)),.p (λv y=>∃ ca cc,v = .slice ca (A).length cc/\az 5 Ins.cells y (.slice ca (A).length cc) (A)),.c (.int .i64 0),.p (λv y=>∃ ca cc,v = .slice ca (A).length cc/\az 5 Ins.cells y (.slice ca (A).length cc) (A)),.c (.int .i64 0)] ⟨⟨(λv x y hg h=>by obtain⟨ca,cc,hv,hr⟩:=h;exact⟨ca,cc,hv,hr.later hg⟩),λ_=>wS⟩,⟨(λv x y hg h=>by obtain⟨ca,cc,hv,hr⟩:=h;exact⟨ca,cc,hv,hr.later hg⟩),λ_=>wS⟩,⟨(λv x y hg h=>by obtain⟨ca,cc,hv,hr⟩:=h;exact⟨ca,cc,hv,hr.later hg⟩),λ_=>wS⟩,⟨(λv x y hg h=>by obtain⟨ca,cc,hv,hr⟩:=h;exact⟨ca,cc,hv,hr.later hg⟩),λ_=>wS⟩,trivial⟩ (dP rfl) ?steps ?done
 case steps =>
  refine⟨?s0,?s1,?s2,?s3,?s4,?s5,?s6,?s7,?s8,?s9,?s10,trivial⟩
  case s0 =>
   refine ok HK (λvs x hG HX hP => ?_);obtain⟨⟨n0,n1⟩,n2,n3⟩:=aC HX.out.2.1;simp only[zS];go_simp;exact gc
  case s1|s10 =>
   refine oo (λvs x hP => ?_);simp only[zS];go_simp;exact gc
  case s2|s3|s4 =>
   refine ok HK (λvs x hG HX hP => ?_);obtain⟨⟨q0,q1,q2⟩,q3,q4⟩:=bJ HX.out.1.blk;simp only[zS];go_simp;exact gc
  case s5 =>
   refine ok HK (λvs x hG HX hP => ?_);have h0:vs 0=_:=pq hP 0;have HC:=ł (HCM.out x hG);simp only[ae.val]at h0;simp only[zS,h0];go_simp;refine(HC.out).mono ?_;rintro e y ⟨v,rfl,hrs⟩;obtain⟨va,vc,rfl⟩:=gF hrs.row;exact⟨_,rfl,aW hrs.g ⟨va,vc,rfl,fI (λ_=>rfl) hrs.row⟩⟩
  case s6 =>
   refine oo (λvs x hP => ?_);obtain⟨iX,iY,h5,r5⟩:=pq hP 5;simp only[zS,h5];go_simp;exact gk ⟨iX,iY,rfl,r5⟩
  case s7 =>
   refine oo (λvs x hP => ?_);obtain⟨uG,uH,h6,r6⟩:=pq hP 6;simp only[zS,h6];go_simp;exact gk ⟨uG,uH,rfl,r6⟩
  case s8 =>
   refine oo (λvs x hP => ?_);obtain⟨uG,uH,h6,r6⟩:=pq hP 6;simp only[zS,h6];go_simp;exact gc
  case s9 =>
   refine oo (λvs x hP => ?_);obtain⟨iZ,je,h7,r7⟩:=pq hP 7;simp only[zS,h7];go_simp;exact gk ⟨iZ,je,rfl,r7⟩
 case done =>
 intro vs w4 hE;have hG:=hE.grow;obtain⟨iX,iY,h5,r5⟩:=hE.val 5;obtain⟨uG,uH,h6,r6⟩:=hE.val 6;obtain⟨iZ,je,h7,r7⟩:=hE.val 7;obtain⟨gp,gq,h9,r9⟩:=hE.val 9;simp only[zS,Nat.reduceAdd,h5,h6,h7,h9];have aP:=ł (gtr aH.out hG);have aY:=ł (Du HK.out hG);have Jy:=ł (λ(y:World) (hy:Grow w4 y) (uv:Value) (Vu:List Ins) (hu:az 5 Ins.cells y uv Vu)=>sU.out y (gtr aP.out hy) uv Vu hu);clear hE hG HK HCM sU;go_wp2_with fail;refine wg 51 [some 28,some 29,some 30,some 31,some 32,some 33,some 34,some 35,some 36,some 37,some 38,some 39,some 27,some 40,some 41,some 9,some 8] [[],[],[1],[2],[3],[],[5],[],[7],[8],[6,9],[0,4,10],[11],[12],[12],[13],[14]] [] [.c (ae.val (.mk k n s (.slice ka l.length kc) l)),.c (.pointer (some ⟨G,0,none⟩)),.c (.pointer (some ⟨G,0,none⟩)),.c (.pointer (some ⟨G,0,none⟩)),.c (.agg #[.slice fa f.slots.length fc,.int .i64 f.cells,.int .i64 f.stacks]),.c (.pointer (some ⟨w.heap.size+1,0,none⟩)),.c (.slice ua us.length uc),.c (.slice gp A.length gq),.c (.int .i64 A.length),.c (.int .i64 (A.length+1)),.p (λv y=>∃ ca cc,v = .slice ca (bR us (A.length+1)).length cc/\az 5 Ins.cells y (.slice ca (bR us (A.length+1)).length cc) (bR us (A.length+1))),.p (λv y=>∃ ca cc,v = .tuple #[.slice ca (kF A (bR us (A.length+1))).length cc,.int .i64 0]/\az 5 Ins.cells y (.slice ca (kF A (bR us (A.length+1))).length cc) (kF A (bR us (A.length+1)))),.p (λv y=>∃ ca cc,v = .tuple #[.slice ca (kF A (bR us (A.length+1))).length cc,.int .i64 0]/\az 5 Ins.cells y (.slice ca (kF A (bR us (A.length+1))).length cc) (kF A (bR us (A.length+1)))),.p (λv y=>∃ ca cc,v = .slice ca (kF A (bR us (A.length+1))).length cc/\az 5 Ins.cells y (.slice ca (kF A (bR us (A.length+1))).length cc) (kF A (bR us (A.length+1)))),.c (.int .i64 0),.p (λv y=>∃ ca cc,v = .slice ca (kF A (bR us (A.length+1))).length cc/\az 5 Ins.cells y (.slice ca (kF A (bR us (A.length+1))).length cc) (kF A (bR us (A.length+1)))),.c (.int .i64 0)] ⟨⟨(λv x y hg h=>by obtain⟨ca,cc,hv,hr⟩:=h;exact⟨ca,cc,hv,hr.later hg⟩),λ_=>wS⟩,⟨(λv x y hg h=>by obtain⟨ca,cc,hv,hr⟩:=h;exact⟨ca,cc,hv,hr.later hg⟩),λ_=>wS⟩,⟨(λv x y hg h=>by obtain⟨ca,cc,hv,hr⟩:=h;exact⟨ca,cc,hv,hr.later hg⟩),λ_=>wS⟩,⟨(λv x y hg h=>by obtain⟨ca,cc,hv,hr⟩:=h;exact⟨ca,cc,hv,hr.later hg⟩),λ_=>wS⟩,⟨(λv x y hg h=>by obtain⟨ca,cc,hv,hr⟩:=h;exact⟨ca,cc,hv,hr.later hg⟩),λ_=>wS⟩,trivial⟩ (dP rfl) ?steps ?done
 case steps =>
  refine⟨?s0,?s1,?s2,?s3,?s4,?s5,?s6,?s7,?s8,?s9,?s10,?s11,?s12,?s13,?s14,?s15,?s16,trivial⟩
  case s0 =>
   refine ok aY (λvs x hG HX hP => ?_);obtain⟨⟨n0,n1⟩,n2,n3⟩:=aC HX.out.2.1;simp only[zS];go_simp;exact gc
  case s1|s5|s7|s8|s16 =>
   refine oo (λvs x hP => ?_);simp only[zS];go_simp;exact gc
  case s2|s3|s4 =>
   refine ok aY (λvs x hG HX hP => ?_);obtain⟨⟨q0,q1,q2⟩,q3,q4⟩:=bJ HX.out.1.blk;simp only[zS];go_simp;exact gc
  case s6 =>
   refine ok aY (λvs x hG HX hP => ?_);obtain⟨u0,u1⟩:=aA HX.out.2.2.1;simp only[zS];go_simp;exact gc
  case s9 =>
   refine ok aY (λvs x hG HX hP => ?_);have hw:IntKind.i64.wrap ((A.length:Int)+1)=A.length+1:=IntWalk.i64_in _ (by omega);simp only[zS];go_simp;exact gc
  case s10 =>
   refine ok aY (λvs x hG HX hP => ?_);have HC:=ł (KJ (.slice ua us.length uc) us (A.length+1) x HX.out.2.2.2.2.1 (by omega));simp only[zS];go_simp;refine(HC.out).mono ?_;rintro e y ⟨v,rfl,hrs⟩;obtain⟨va,vc,rfl⟩:=gF hrs.row;exact⟨_,rfl,aW hrs.g ⟨va,vc,rfl,fI (λ_=>rfl) hrs.row⟩⟩
  case s11 =>
   refine ok aY (λvs x hG HX hP => ?_);have h0:vs 0=_:=pq hP 0;obtain⟨qP,qQ,h10,Vv⟩:=pq hP 10;have HC:=ł (Jy.out x hG _ _ Vv (by rw[tq];omega));simp only[ae.val]at h0;simp only[zS,h0,h10];go_simp;refine(HC.out).mono ?_;rintro e y ⟨v,rfl,hrs⟩;obtain⟨va,vc,rfl⟩:=gF hrs.row;exact⟨_,rfl,aW hrs.g ⟨va,vc,rfl,fI (λ_=>rfl) hrs.row⟩⟩
  case s12 =>
   refine oo (λvs x hP => ?_);obtain⟨gZ,ig,h11,Vw⟩:=pq hP 11;simp only[zS,h11];go_simp;exact gk ⟨gZ,ig,rfl,Vw⟩
  case s13 =>
   refine oo (λvs x hP => ?_);obtain⟨Mm,Mo,h12,NT⟩:=pq hP 12;simp only[zS,h12];go_simp;exact gk ⟨Mm,Mo,rfl,NT⟩
  case s14 =>
   refine oo (λvs x hP => ?_);obtain⟨Mm,Mo,h12,NT⟩:=pq hP 12;simp only[zS,h12];go_simp;exact gc
  case s15 =>
   refine oo (λvs x hP => ?_);obtain⟨IJ,IK,lu,Vx⟩:=pq hP 13;simp only[zS,lu];go_simp;exact gk ⟨IJ,IK,rfl,Vx⟩
 case done =>
 intro vs w5 hE;have hG:=hE.grow;obtain⟨qP,qQ,h10,Vv⟩:=hE.val 10;obtain⟨gZ,ig,h11,Vw⟩:=hE.val 11;obtain⟨Mm,Mo,h12,NT⟩:=hE.val 12;obtain⟨IJ,IK,lu,Vx⟩:=hE.val 13;obtain⟨Ct,Cu,rz,r15⟩:=hE.val 15;simp only[zS,Nat.reduceAdd,h10,h11,h12,lu,rz];have aU:=ł (gtr aP.out hG);have bE:=ł (aY.out _ hG);have eX:=ł (show ay w5 (.agg #[.slice Ct (kF A (bR us (A.length+1))).length Cu,.slice none 0 0]) (aD f (ae.t (.mk k n s (.slice ka l.length kc) l)) ⟨us,rs⟩)from by rw[HW.out];exact ay.mk r15 (az.nil _ _ _));obtain⟨hs,hm⟩:=set2 bE.out.2.2.2.1 (.slice Ct (kF A (bR us (A.length+1))).length Cu) (.slice none 0 0);obtain⟨r0,r1⟩:=aA bE.out.2.2.2.1;have rt:=aG bE.out.2.2.2.1;have HS:=ł hs;have HM:=ł hm;have bB:=ł (eX.out.box bE.out.2.2.2.1 hm);have aJ:=ł (show Grow w _ from Mv.trans aU.out hm (λb e => .inr (by omega)));clear hE hG aY Jy hs hm eX;generalize kF A (bR us (A.length+1))=wl at *;go_wp2_with fail;obtain⟨t0,t1⟩:=aA HS.out;exact bodyPost_ret (v := .agg #[.slice Ct wl.length Cu,.slice none 0 0]) (by simp[results,Tryz.results100,go_sem,t0,t1]) rfl ⟨_,rfl,bB.out,aJ.out⟩
theorem GH (w:World) (G:Nat) (sv pv:Value) (f:ax) (procs:List ak) (hg:gX w G sv pv f procs) (x:ae) (hx:aR w x) (he:aN x.t=true) (hs:bK f x.t=true) (hc0:0<=f.cells) (hc1:f.cells<=1000) (hd:iL x.t<=10000) (hlen:(bW f x.t).length<=200000) :
 Calls Tryz.prog 107 #[.pointer (some ⟨G,0,none⟩),x.val] w (bP w (dW f x.t)):=by
 obtain⟨fa,fc,rfl,hfc,hfl⟩:=hg.fr.row.form;obtain⟨pa,pc,rfl,-,-⟩:=hg.pr.row.form;have sU:=ł (λ(y:World) (hy:Grow w y) (uv:Value) (hu:ay y uv (ah [⟨9,0,4,5,17⟩]))=>GG y G _ _ f procs (hg.later hy) x uv _ (hx.later hy) hu he hs hc0 hc1 hd hlen (by simp[ah]));obtain⟨k,n,s,kv,l⟩:=x;obtain⟨ka,kc,rfl,-,-⟩:=hx.form;have aM:=ł hg;obtain⟨aF,aZ,HG2⟩:=a2 w (.cells #[.int .u8 k,.int .i64 n,.string s,.slice ka l.length kc] 24) (.cells #[.slice none 0 0,.slice none 0 0] 34);clear hg hx he hs hd hlen;simp only[ae.val]at sU ⊢
 go_enter Tryz.func107,Tryz.ntmps107
 go_wp2_with fail;generalize ((w.alloc (.cells #[.int .u8 k,.int .i64 n,.string s,.slice ka l.length kc] 24)).alloc (.cells #[.slice none 0 0,.slice none 0 0] 34))=w2 at *;have HK:=ł (λ(y:World) (hy:Grow w2 y)=>And.intro (aM.out.later (gtr HG2.out hy)) (ai aF.out hy));have Jy:=ł (λ(y:World) (hy:Grow w2 y)=>sU.out y (gtr HG2.out hy));refine wg 12 [some 5,some 6,some 7,some 8,some 9,some 10,some 11,none] [[],[],[],[2],[3],[4],[0,1,5],[6]] [2,4] [.c (.pointer (some ⟨G,0,none⟩)),.c (ae.val (.mk k n s (.slice ka l.length kc) l)),.p (λv y=>∃ g,v = .slice (some ⟨g,0,none⟩) 4 4/\y.heap[g]? = some (.cells #[.int .i64 0,.int .i64 4,.int .i64 5,.int .i64 17] 3 (0,0))),.c (.agg #[.int .u8 9,.int .i64 0,.int .i64 4,.int .i64 5,.int .i64 17]),.p (λv y=>∃ g,v = .slice (some ⟨g,0,none⟩) 1 1/\az 5 Ins.cells y (.slice (some ⟨g,0,none⟩) 1 1) ([⟨9,0,4,5,17⟩]:List Ins)),.p (λv y=>ay y v (ah [⟨9,0,4,5,17⟩])),.p (λv y=>ay y v (dW f (ae.t (.mk k n s (.slice ka l.length kc) l)))),.rs (w.heap.size+1) 6 #[.slice none 0 0,.slice none 0 0] 34] ⟨sH,sR,sP,sP,trivial⟩ (iT (n:=7) rfl rfl (aZ.out)) ?steps ?done
 case steps =>
  refine⟨?s0,?s1,?s2,?s3,?s4,?s5,?s6,?s7,trivial⟩
  case s0 =>
   refine oo (λvs x hP => ?_);simp only[zS];go_simp;exact gc
  case s1 =>
   refine ok HK (λvs x hG HX hP => ?_);obtain⟨⟨n0,n1⟩,n2,n3⟩:=aC HX.out.2;simp only[zS];go_simp;exact gc
  case s2 =>
   refine oo (λvs x hP => ?_);simp only[zS];go_simp;exact gl ⟨_,rfl,heap_alloc_new x _⟩
  case s3 =>
   refine ok HK (λvs x hG HX hP => ?_);obtain⟨g2,h2,b2⟩:=pq hP 2;have HC:=ł (J6 9 (0) (4) (5) (17) g2 _ x b2);simp only[zS,h2];go_simp;refine(HC.out).mono ?_;rintro e y ⟨rfl,hg⟩;exact⟨_,rfl,aX hg rfl⟩
  case s4 =>
   refine oo (λvs x hP => ?_);simp only[zS];go_simp;exact gl ⟨_,rfl,az.bO (f:=Ins.cells) (l:=([⟨9,0,4,5,17⟩]:List Ins)) (λ_=>rfl) (heap_alloc_new x _) rfl (by simp)⟩
  case s5 =>
   refine ok HK (λvs x hG HX hP => ?_);obtain⟨g4,h4,b4⟩:=pq hP 4;have HC:=ł (iJ _ _ x b4);simp only[zS,h4];go_simp;refine(HC.out).mono ?_;rintro e y ⟨v,rfl,hp,hg⟩;exact⟨_,rfl,aW hg hp⟩
  case s6 =>
   refine ok HK (λvs x hG HX hP => ?_);have h1:vs 1=_:=pq hP 1;have p5:=pq hP 5;have NU:=p5;obtain⟨iX,iY,kN,kP,h5,c5,f5⟩:=p5;rw[h5]at NU;have HC:=ł (Jy.out x hG _ NU);simp only[ae.val]at h1;simp only[zS,h1,h5];go_simp;refine(HC.out).mono ?_;rintro e y ⟨v,rfl,hp,hg⟩;exact⟨_,rfl,aW hg hp⟩
  case s7 =>
   refine iU (λvs x hb hv => ?_);obtain⟨uG,uH,Bc,Bd,h6,c6,f6⟩:=hv;obtain⟨c0,c1⟩:=aA hb;have zt:=aG hb;simp only[zS,h6];go_simp;exact set2 hb _ _
 case done =>
 intro vs w3 hE;have p5:=hE.val 5;have NU:=p5;obtain⟨iX,iY,kN,kP,h5,c5,f5⟩:=p5;obtain⟨uG,uH,Bc,Bd,h6,c6,f6⟩:=hE.val 6;have b7:=hE.res 7;simp only[zS,h6]at b7;simp only[zS,Nat.reduceAdd,h5,h6];have HM:=ł (hE.last 7);have aJ:=ł (show Grow w w3 from Mv.trans HG2.out HM.out (λb e => .inr (by omega)));have bB:=ł (show ay w3 (.agg #[.slice uG (dW f (ae.t (.mk k n s (.slice ka l.length kc) l))).code.length uH,.slice Bc (dW f (ae.t (.mk k n s (.slice ka l.length kc) l))).refs.length Bd]) (dW f (ae.t (.mk k n s (.slice ka l.length kc) l)))from⟨uG,uH,Bc,Bd,rfl,c6,f6⟩);have HB:=ł b7;clear hE b7 HM c6 f6;simp only[bG]at HB;go_wp2_with fail;obtain⟨t0,t1⟩:=aA HB.out;exact bodyPost_ret (v := .agg #[.slice uG (dW f (ae.t (.mk k n s (.slice ka l.length kc) l))).code.length uH,.slice Bc (dW f (ae.t (.mk k n s (.slice ka l.length kc) l))).refs.length Bd]) (by simp[results,Tryz.results107,go_sem,t0,t1]) rfl ⟨_,rfl,bB.out,aJ.out⟩
attribute [local go_sem ↓] ni
theorem Tryz.aan:(Tryz.prog.info? 78).map (λi=>(i.zero,i.size,i.bytes))=some (some (.agg #[.int .i64 0,.string ⟨#[]⟩]),2,24):=by kernel_rfl
theorem Tryz.aao:Elem Tryz.prog 32 78 2 24:=Elem.of Tryz.underlying32 Tryz.aan rfl (by decide) (by decide)
abbrev nU (w:World) (base:Nat) (v:Value) (l:List aV):Prop:=w.ownsRow base 78 2 v l.length (flat aV.cells l)
theorem RH {l:List aV} : ∀ x∈l,∀ u∈x.cells,u.oneCell'=true:=by
 intro x _ u hu;simp[aV.cells]at hu;rcases hu with rfl|rfl <;> rfl
theorem Ht {w:World} {X:Nat} {a b:Value} {t:TypeId} (h:w.heap[X]? = some (.cells #[a,b] t (0,0))) (p:Value) :
 (w.setCell ⟨X,0,none⟩ p).heap[X]? = some (.cells #[p,b] t (0,0))/\Mv (λb=>b=X) w (w.setCell ⟨X,0,none⟩ p) :=
 ⟨by have h1:=block_setCell (p:=⟨X,0,none⟩) h rfl p;simpa using h1,(Mv.refl (λb=>b=X) w).setCell (.inl rfl) _⟩
theorem Ll {w:World} {X:Nat} {a b:Value} {t:TypeId} (h:w.heap[X]? = some (.cells #[a,b] t (0,0))) (p:Value) :
 (w.setCell ⟨X,1,none⟩ p).heap[X]? = some (.cells #[a,p] t (0,0))/\Mv (λb=>b=X) w (w.setCell ⟨X,1,none⟩ p) :=
 ⟨by have h1:=block_setCell (p:=⟨X,1,none⟩) h rfl p;simpa using h1,(Mv.refl (λb=>b=X) w).setCell (.inl rfl) _⟩
structure jm (w:World) (x:World) (cv rv:Value) (code:List Ins) (refs:List aV):Prop where
 g:Grow w x
 blk:x.heap[w.heap.size+1]? = some (.cells #[cv,rv] 34 (0,0))
 res:x.heap[w.heap.size]? = some (.cells #[.slice none 0 0,.slice none 0 0] 34 (0,0))
 row:dO x w.heap.size cv code
 fA:nU x w.heap.size rv refs
theorem jm.grow {w x y:World} {cv rv:Value} {code:List Ins} {refs:List aV} (h:jm w x cv rv code refs) (hm:Grow x y):jm w y cv rv code refs :=
 ⟨gtr h.g hm,ai h.blk hm,ai h.res hm,bg h.row hm (λ_ _ e=>e),bg h.fA hm (λ_ _ e=>e)⟩
theorem jm.drew {w x:World} {cv rv:Value} {code:List Ins} {refs:List aV} (h:jm w x cv rv code refs):jm w x.drew cv rv code refs:=⟨Mv.drew h.g,h.blk,h.res,h.row,h.fA⟩
theorem dK {α:Type} {f:α->List Value} {n e base:Nat} {w:World} {v:Value} {l:List α} {g:Nat} {cs:Array Value} {t:TypeId} {z:Nat × Nat} (h:w.ownsRow base e n v l.length (flat f l)) (hb:w.heap[g]? = some (.cells cs t z)) (ht:t≠e):v.ownBlock≠some g:=by
 intro e';rcases h.2 with⟨rfl,_⟩|⟨g',cap,cur,rfl,_,hg,_⟩
 · simp[Value.ownBlock]at e'
 · simp[Value.ownBlock]at e';subst e';rw[hb]at hg;simp only[Option.some.injEq,Obj.cells.injEq]at hg;exact ht hg.2.1
def Am (w y:World) (cv rv:Value) (refs:List aV):Prop:=Grow w y/\y.heap[w.heap.size+1]? = some (.cells #[cv,rv] 34 (0,0))/\y.heap[w.heap.size]? = some (.cells #[.slice none 0 0,.slice none 0 0] 34 (0,0))/\nU y w.heap.size rv refs
theorem jm.app {w x y:World} {cv rv:Value} {code:List Ins} {refs:List aV} (h:jm w x cv rv code refs) (hm:Mv (λb=>cv.ownBlock=some b) x y):Am w y cv rv refs :=
 ⟨h.g.trans hm (λb e => .inr (h.row.lt b e).1),by rw[hm.block _ (lt_of_block h.blk) (λe=>dK h.row h.blk (by decide) e)];exact h.blk,by rw[hm.block _ (lt_of_block h.res) (λe=>dK h.row h.res (by decide) e)];exact h.res,bg h.fA hm (λg hg e=>BN h.fA h.row (by decide) g hg e)⟩
theorem Am.grow {w x y:World} {cv rv:Value} {refs:List aV} (h:Am w x cv rv refs) (hm:Grow x y):Am w y cv rv refs:=⟨gtr h.1 hm,ai h.2.1 hm,ai h.2.2.1 hm,bg h.2.2.2 hm (λ_ _ e=>e)⟩
theorem Am.store {w y:World} {cv rv v:Value} {code:List Ins} {refs:List aV} (h:Am w y cv rv refs) (hr:dO y w.heap.size v code):jm w (y.setCell ⟨w.heap.size+1,0,none⟩ v) v rv code refs:=by
 obtain⟨h1,h2,h3,h4⟩:=h;obtain⟨hb,hm⟩:=Ht h2 v;exact⟨h1.trans hm (λb e => .inr (by omega)),hb,by rw[hm.block _ (lt_of_block h3) (λe=>by omega)];exact h3,bg hr hm (λg hg e=>by subst e;exact dK hr h2 (by decide) hg),bg h4 hm (λg hg e=>by subst e;exact dK h4 h2 (by decide) hg)⟩
theorem jm.IL {w x y:World} {cv rv v:Value} {code:List Ins} {refs refs':List aV} (h:jm w x cv rv code refs) (hm:Mv (λb=>rv.ownBlock=some b) x y) (hr:nU y w.heap.size v refs'):jm w (y.setCell ⟨w.heap.size+1,1,none⟩ v) cv v code refs':=by
 have h2:y.heap[w.heap.size+1]? = some (.cells #[cv,rv] 34 (0,0)):=by rw[hm.block _ (lt_of_block h.blk) (λe=>dK h.fA h.blk (by decide) e)];exact h.blk
 have h3:y.heap[w.heap.size]? = some (.cells #[.slice none 0 0,.slice none 0 0] 34 (0,0)):=by rw[hm.block _ (lt_of_block h.res) (λe=>dK h.fA h.res (by decide) e)];exact h.res
 have h4:dO y w.heap.size cv code:=bg h.row hm (λg hg e=>BN h.row h.fA (by decide) g hg e);obtain⟨hb,hm'⟩:=Ll h2 v;exact⟨(h.g.trans hm (λb e => .inr (h.fA.lt b e).1)).trans hm' (λb e => .inr (by omega)),hb,by rw[hm'.block _ (lt_of_block h3) (λe=>by omega)];exact h3,bg h4 hm' (λg hg e=>by subst e;exact dK h4 h2 (by decide) hg),bg hr hm' (λg hg e=>by subst e;exact dK hr h2 (by decide) hg)⟩
def YJ (X XB:Nat) (cv rv qv:Value) (n:Int) (sh:List Ins) (w:World) (vN:List Ins) (refs:List aV):Nat->List Value->World->Prop
 |0,[v],_=>v = .pointer (some ⟨X,0,none⟩)
 |1,[v],_=>v=cv
 |2,[v],_=>v = .pointer (some ⟨XB,0,none⟩)
 |3,[v],_=>v=qv
 |4,[v],_=>v = .int .i64 n
 |5,[v],x=>∃ a c,v = .slice a sh.length c/\az 5 Ins.cells x (.slice a sh.length c) sh
 |6,[v],x=>∃ a c,v = .slice a vN.length c/\dO x w.heap.size (.slice a vN.length c) vN/\Am w x cv rv refs
 |7,[v],_=>v = .pointer (some ⟨X,0,none⟩)
 |8,_,x=>∃ a c,jm w x (.slice a vN.length c) rv vN refs
 |_,_,_=>True
section
variable {X XB:Nat} {cv rv qv:Value} {n:Int} {sh:List Ins} {w x y:World} {vN:List Ins} {refs:List aV}
theorem YJ.grow (h:Grow x y):∀ j l,YJ X XB cv rv qv n sh w vN refs j l x->YJ X XB cv rv qv n sh w vN refs j l y:=by
 intro j l hy;unfold YJ at hy ⊢;split <;> first
  |(obtain⟨a,c,h1,h2⟩:=hy;exact⟨a,c,h1,h2.later h⟩)
  |(obtain⟨a,c,h1,h2,h3⟩:=hy;exact⟨a,c,h1,bg h2 h (λ_ _ e=>e),h3.grow h⟩)
  |(obtain⟨a,c,h1⟩:=hy;exact⟨a,c,h1.grow h⟩)
  |exact hy
  |trivial
theorem YJ.keep:∀ j l,¬ j=5->¬ j=6->¬ j=8->YJ X XB cv rv qv n sh w vN refs j l x->YJ X XB cv rv qv n sh w vN refs j l y:=by
 intro j l h5 h6 h8 hy;unfold YJ at hy ⊢;split <;> first
  |exact absurd rfl h5
  |exact absurd rfl h6
  |exact absurd rfl h8
  |exact hy
  |trivial
end
theorem yA (p q:aB):(eF p q).code=p.code ++ bR q.code p.code.length:=rfl
theorem Gp (p q:aB):(eF p q).refs=p.refs ++ q.refs.map λr=>r.shift p.code.length:=rfl
theorem P5 (l:List aB) (k:Nat) (h:k<l.length):aL (l.take (k+1))=eF (aL (l.take k)) l[k]:=by
 rw[List.take_succ_eq_append_getElem h];simp only[aL,List.foldl_append,List.foldl_cons,List.foldl_nil]
theorem Lm (v:Value) (x:aV) (xs:List aV) (base:Nat) (w:World) (hrow:nU w base v xs) (hb:base<=w.heap.size) (hlen:xs.length<=900000) :
 ∃ a' c' w2,(qG Tryz.prog 32 32 v (.slice (some ⟨w.heap.size,0,none⟩) 1 1) (w.alloc (.cells #[.int .i64 x.at',.string x.name] 78)) /\
  nA Tryz.prog 32 32 v (.slice (some ⟨w.heap.size,0,none⟩) 1 1) (w.alloc (.cells #[.int .i64 x.at',.string x.name] 78)) = .slice a' (xs.length+1) c'/\appW Tryz.prog 32 32 v (.slice (some ⟨w.heap.size,0,none⟩) 1 1) (w.alloc (.cells #[.int .i64 x.at',.string x.name] 78))=w2) /\
  nU w2 base (.slice a' (xs.length+1) c') (xs ++ [x])/\Mv (λb=>v.ownBlock=some b) w w2:=by
 have hs:az 2 aV.cells (w.alloc (.cells #[.int .i64 x.at',.string x.name] 78)) (.slice (some ⟨w.heap.size,0,none⟩) 1 1) [x]:=az.bO (f:=aV.cells) (l:=[x]) (λ_=>rfl) (heap_alloc_new w _) (by simp[flat,aV.cells]) (by simp);obtain⟨a',c',w2,⟨hok,hv,hw⟩,hrow2,bz,hnew⟩:=qA Tryz.aao (f:=aV.cells) (λ_=>rfl) v _ xs [x] base _ (bg hrow (((Mv.refl (λ_=>False) w).alloc _)) (λ_ _ e=>e)) hs RH (by simp;omega) (by simp;omega);exact⟨a',c',w2,⟨hok,hv,hw⟩,hrow2,((Mv.refl _ w).alloc _).trans bz (λx e => .inl e)⟩
def aO (l:List aB):Nat:=(l.map λp=>p.code.length).sum
def bV (l:List aB):Nat:=(l.map λp=>p.refs.length).sum
theorem dI (l:List aB):(aL l).code.length=aO l/\(aL l).refs.length=bV l:=by
 have h:∀ (l:List aB) (p:aB),(l.foldl eF p).code.length=p.code.length+aO l/\(l.foldl eF p).refs.length=p.refs.length+bV l:=by
  intro l
  induction l with
  |nil=>intro p;simp[aO,bV]
  |cons q l ih =>
   intro p;simp only[List.foldl_cons];rw[(ih _).1,(ih _).2,yA,Gp];simp[aO,bV,tq];omega
 have:=h l cB
 simpa[aL,cB]using this
theorem P6 (l:List aB) (k:Nat) (h:k<l.length):aO (l.take k)+l[k].code.length<=aO l/\bV (l.take k)+l[k].refs.length<=bV l:=by
 have e:l.take k ++ l[k] :: l.drop (k+1)=l:=by rw[← List.drop_eq_getElem_cons h,List.take_append_drop]
 have h1:aO (l.take k ++ l[k] :: l.drop (k+1))=aO (l.take k)+(l[k].code.length+aO (l.drop (k+1))):=by simp only[aO,List.map_append,List.map_cons,List.sum_append,List.sum_cons]
 have h2:bV (l.take k ++ l[k] :: l.drop (k+1))=bV (l.take k)+(l[k].refs.length+bV (l.drop (k+1))):=by simp only[bV,List.map_append,List.map_cons,List.sum_append,List.sum_cons]
 rw[e]at h1 h2;omega
theorem yE (v:Value) (ps:List aB) (w:World) (h:iG w v ps) (hlc:aO ps<=200000) (hlr:bV ps<=200000) (hlp:ps.length<=200000) :
 Calls Tryz.prog 23 #[v] w λe w'=>∃ v',e = .returned v'/\qz w.heap.size w' v' (aL ps)/\Grow w w':=by
 obtain⟨pa,pc,rfl,-,-⟩:=h.form;have uI:=ł h;have pG:=ł (show jm w ((w.alloc (.cells #[.slice none 0 0,.slice none 0 0] 34)).alloc (.cells #[.slice none 0 0,.slice none 0 0] 34)) (.slice none 0 0) (.slice none 0 0) [] []from
  ⟨((Mv.refl _ w).alloc _).alloc _,by have:=heap_alloc_new (w.alloc (.cells #[.slice none 0 0,.slice none 0 0] 34)) (.cells #[.slice none 0 0,.slice none 0 0] 34);rwa[World.size_alloc]at this,aS (heap_alloc_new w _) _,World.ownsRow_nil _ _ _ _,World.ownsRow_nil _ _ _ _⟩)
 clear h
 go_enter Tryz.func23,Tryz.ntmps23
 go_wp2_with fail;generalize (w.alloc (.cells #[.slice none 0 0,.slice none 0 0] 34)).alloc (.cells #[.slice none 0 0,.slice none 0 0] 34)=w1 at *
 go_loopw [11] (λt wr=>∃ (k:Nat) (cv rv:Value),t = .int .i64 k/\k<=ps.length/\jm w wr cv rv (aL (ps.take k)).code (aL (ps.take k)).refs) (λt _=>ps.length - (intOf t).toNat)
 case atStart=>exact⟨0,_,_,rfl,Nat.zero_le _,pG.out⟩
 obtain⟨k,cv,rv,rfl,hk,hst⟩:=hrel;have Fg:=ł (dI (ps.take k));have uJ:=ł (λhlt=>P6 ps k hlt);have rA:=ł (λhlt=>P5 ps k hlt);have NV:=ł (λ(e:k=ps.length)=>show aL (ps.take k)=aL ps from by rw[e,List.take_length]);generalize aL (ps.take k)=pk at *;obtain⟨cs,rs⟩:=pk;obtain⟨na,nc,pQ⟩:=gF hst.row;obtain⟨ma,mc,hmv⟩:=gF hst.fA;subst pQ hmv;simp only at hst;have HST:=ł hst;clear hst pG;by_cases hlt:k<ps.length
 · have hq:∃ qa jo ra rcc b off cap',Value.slice pa ps.length pc = .slice (some ⟨b,off,none⟩) ps.length cap'/\(wr.cell? ⟨b,off+k * 2,none⟩=some (.slice qa ps[k].code.length jo)/\wr.cell? ⟨b,off+k * 2+1,none⟩=some (.slice ra ps[k].refs.length rcc))/\az 5 Ins.cells w (.slice qa ps[k].code.length jo) ps[k].code/\az 2 aV.cells w (.slice ra ps[k].refs.length rcc) ps[k].refs:=by
    obtain⟨vs,h1,h2,h3⟩:=uI.out;have hvk:k<vs.length:=by omega
    obtain⟨b,off,cap',e,_,hc⟩:=(h2.later HST.out.g).at hvk;obtain⟨qa,jo,ra,rcc,hv,hr1,hr2⟩:=h3 k hvk hlt;simp only[Value.agg.injEq,Array.mk.injEq,List.cons.injEq,and_true]at hv;obtain⟨e1,e2⟩:=hv;refine⟨qa,jo,ra,rcc,b,off,cap',by rw[e,h1],⟨?_,?_⟩,hr1,hr2⟩
    · have:=hc 0 _ rfl;rw[← e1];simpa[rW]using this
    · have:=hc 1 _ rfl;rw[← e2];simpa[rW]using this
   obtain⟨qa,jo,ra,rcc,b,off,cap',e,⟨c0,c1⟩,hr1,hr2⟩:=hq;simp only[Value.slice.injEq,true_and]at e;obtain⟨rfl,rfl⟩:=e;have hbl:b<wr.heap.size:=World.block_lt_of_cell? wr _ c0;have ht:=uJ.out hlt;have hj:=Fg.out;have HJ2:=ł (rA.out hlt);generalize ps[k]=q at *;obtain⟨qc,qr⟩:=q;simp only at hr1 hr2 ht hj c0 c1;have ll:qc.length<=300000:=by omega
   have abz:cs.length+qc.length<=200000:=by omega
   have abA:rs.length+qr.length<=200000:=by omega
   have HR1:=ł hr1;have HR2:=ł hr2;have hg2:Grow wr (wr.alloc (.cells #[.slice qa qc.length jo,.slice ra qr.length rcc] 34)):=(Mv.refl _ wr).alloc _;have bA:=ł (HST.out.grow hg2);have fC:=ł (heap_alloc_new wr (.cells #[.slice qa qc.length jo,.slice ra qr.length rcc] 34));obtain⟨k0,k1⟩:=aA HST.out.blk;have Jz:=lt_of_block HST.out.blk;have NW:w.heap.size+1≠wr.heap.size:=by omega
   have hor:∀ g,Value.ownBlock (.slice na cs.length nc)=some g->g<wr.heap.size:=λg hg=>(HST.out.row.lt g hg).2;have zF:=ł hor;have dR:=ł hg2;clear hg2 hor hr1 hr2 ht hj rA uJ Fg HST;go_wp2_with fail;clear k0 k1 c0 c1;have Ao:wr.heap.size<(wr.alloc (.cells #[.slice qa qc.length jo,.slice ra qr.length rcc] 34)).heap.size:=by simp
   generalize wr.alloc (.cells #[.slice qa qc.length jo,.slice ra qr.length rcc] 34)=w2 at *;have HST:=bA;have lW:=ł (λ(x:World) (hx:Mv (λb=>b=w.heap.size+1\/Value.ownBlock (.slice na cs.length nc)=some b) w2.drew x)=>(show x.heap[wr.heap.size]? = _ from(hx.block wr.heap.size Ao (λe=>by rcases e with e|e;exact NW e.symm;have:=zF.out _ e;omega)).trans fC.out));have Fh:=ł (λ(x:World) (hx:Grow w x)=>HR1.out.later hx);refine rJ (by kernel_rfl) 48 [some 18,some 19,some 20,some 21,some 22,some 23,some 24,some 25,none] [[],[0],[],[2],[],[3,4],[1,5,5],[0,1,2,3,4,5,6],[7,6,6,0,1,2,3,4,5,6]] [[],[0],[],[2],[],[3,4],[1,5],[],[7,6]] [[0],[1],[2],[3],[4],[5],[6],[7],[8]] [[],[],[],[],[],[6],[8],[],[]] rfl (by kernel_rfl) (Mv (λb=>b=w.heap.size+1\/Value.ownBlock (.slice na cs.length nc)=some b)) (λ_=>Mv.refl _ _) (λx y z h1 h2=>h1.trans h2 (λ_ e => .inl e)) (YJ (w.heap.size+1) wr.heap.size (.slice na cs.length nc) (.slice ma rs.length mc) (.slice qa qc.length jo) cs.length (bR qc cs.length) w (cs ++ bR qc cs.length) rs) (λ_ x=>jm w x (.slice na cs.length nc) (.slice ma rs.length mc) cs rs) [[6]] ?z0 ?steps ?done
   case z0=>intro z hz;exact HST.out.drew
   case steps =>
    refine⟨?s0,?s1,?s2,?s3,?s4,?s5,?s6,?s7,?s8,trivial⟩
    case s0|s2|s4 =>
     intro vs x hx hY hZ;clear hY hZ;simp only[zR];go_simp;exact⟨Mv.refl _ _,by intros;assumption,rfl,by intros;assumption⟩
    case s1 =>
     intro vs x hx hY hZ;have h0:vs 0 = .pointer (some ⟨w.heap.size+1,0,none⟩):=hY 0 (by simp) (by simp);obtain⟨k0,k1⟩:=aA (hZ 0 (by simp) (by simp)).blk;clear hY hZ;simp only[zR,h0];go_simp;exact⟨Mv.refl _ _,by intros;assumption,rfl,by intros;assumption⟩
    case s3 =>
     intro vs x hx hY hZ;have h2:vs 2 = .pointer (some ⟨wr.heap.size,0,none⟩):=hY 2 (by simp) (by simp);obtain⟨k0,k1⟩:=aA (lW.out x hx);clear hY hZ;simp only[zR,h2];go_simp;exact⟨Mv.refl _ _,by intros;assumption,rfl,by intros;assumption⟩
    case s5 =>
     intro vs x hx hY hZ;have h3:vs 3 = .slice qa qc.length jo:=hY 3 (by simp) (by simp);have h4:vs 4 = .int .i64 cs.length:=hY 4 (by simp) (by simp);have HC:=ł (KJ (.slice qa qc.length jo) qc cs.length x (Fh.out x (hZ 0 (by simp) (by simp)).g) ll);clear hY hZ;simp only[zR,h3,h4];go_simp;refine HC.out.mono ?_;rintro e y ⟨v,rfl,hrs⟩;obtain⟨va,vc,rfl⟩:=gF hrs.row;have hgr:=hrs.g;exact⟨_,rfl,hgr.mono (λ_ e=>e.elim),(by first|exact λh=>jm.grow h hgr|(intros;exact jm.grow (by assumption) hgr)),⟨va,vc,rfl,fI (λ_=>rfl) hrs.row⟩,by intros;exact YJ.grow hgr _ _ (by assumption)⟩
    case s6 =>
     intro vs x hx hY hZ;have h1:vs 1 = .slice na cs.length nc:=hY 1 (by simp) (by simp);obtain⟨sa,sc,(h5:vs 5=_),hrow⟩:=hY 5 (by simp) (by simp);have hst:=hZ 0 (by simp) (by simp);obtain⟨a',c',w2,⟨hok,hv,hw⟩,hrow2,bz,hown2⟩:=qA Tryz.Hm (f:=Ins.cells) (λ_=>rfl) _ _ cs _ _ x hst.row hrow Ho hst.g.size (by rw[tq];omega);have HJ:=ł (hst.app bz);have HR2:=ł hrow2;have dM:=ł bz;clear hY hZ hst hrow hrow2 bz hown2;simp only[zR,h1,h5];go_simp;exact⟨dM.out.mono (λ_ e => .inl (.inr e)),⟨a',c',by rw[List.length_append];rfl,by have:=HR2.out;rw[← List.length_append]at this;exact this,HJ.out⟩,λj l=>by intros;refine YJ.keep j l ?_ ?_ ?_ (by assumption) <;> (intro e;subst e;first|contradiction|simp_all)⟩
    case s7 =>
     intro vs x hx hY hZ;clear hY hZ;simp only[zR];go_simp;exact⟨Mv.refl _ _,rfl,by intros;assumption⟩
    case s8 =>
     intro vs x hx hY hZ;have h7:vs 7 = .pointer (some ⟨w.heap.size+1,0,none⟩):=hY 7 (by simp) (by simp);obtain⟨a',c',(h6:vs 6=_),hrow,hj⟩:=hY 6 (by simp) (by simp);rw[List.length_append]at h6 hrow;have HS:=ł (hj.store hrow);obtain⟨k0,k1⟩:=aA hj.2.1;have zt:=aG hj.2.1;have dM:=ł (Ht hj.2.1 (vs 6));rw[h6]at dM;clear hY hZ hrow hj;simp only[zR,h7,h6];go_simp;exact⟨dM.out.2.mono (λ_ e => .inl (.inl e)),⟨a',c',by rw[List.length_append];exact HS.out⟩,λj l=>by intros;refine YJ.keep j l ?_ ?_ ?_ (by assumption) <;> (intro e;subst e;first|contradiction|simp_all)⟩
   case done =>
   intro vs wy hxy hY _;obtain⟨a',c',hst'⟩:=hY 8 (by decide) rfl;simp only[List.length_cons,List.length_nil,Nat.zero_add,Nat.reduceAdd];rw[show List.range 9=[0,1,2,3,4,5,6,7,8]from rfl];simp only[zR];clear hY;have cZ:=ł (lW.out wy hxy);have mH:=ł hst';clear hst' hxy lW HST Fh fC bA zF dR;have hc2:(cs ++ bR qc cs.length).length=cs.length+qc.length:=by rw[List.length_append,tq]
   generalize hcc:cs ++ bR qc cs.length=c2 at *;have rC:=ł hcc;have Be:=ł hc2;clear hcc hc2;obtain⟨k0,k1⟩:=aA cZ.out;have hlB:=lt_of_block cZ.out;go_wp2_with fail;clear k0 k1 hlB;obtain⟨wo,hwo⟩:∃ wo:World,wo=wy:=⟨_,rfl⟩;subst hwo
   go_loopw [29] (λt wr2=>∃ (j:Nat) (rv':Value),t = .int .i64 j/\j<=qr.length/\jm w wr2 (.slice a' c2.length c') rv' c2 (rs ++ (qr.take j).map λr=>r.shift cs.length)) (λt _=>qr.length - (intOf t).toNat)
   case atStart=>exact⟨0,_,rfl,Nat.zero_le _,by simpa using mH.out⟩
   obtain⟨j,rv',rfl,hjl,hst⟩:=hrel;have mG:=ł (λhlt:j<qr.length=>show rs ++ (qr.take (j+1)).map (λr=>r.shift cs.length)=(rs ++ (qr.take j).map λr=>r.shift cs.length) ++ [qr[j].shift cs.length]from by
    rw[List.take_succ_eq_append_getElem hlt,List.map_append,List.append_assoc];rfl)
   have uE:=ł (λ(e:j=qr.length)=>show rs ++ (qr.take j).map (λr=>r.shift cs.length)=rs ++ qr.map λr=>r.shift cs.length from by rw[e,List.take_length]);have hrl:(rs ++ (qr.take j).map λr=>r.shift cs.length).length<=200000:=by simp;omega
   generalize (rs ++ (qr.take j).map λr=>r.shift cs.length)=r2 at *;obtain⟨eH,eO,zG⟩:=gF hst.fA;subst zG;have fD:=ł hst;clear hst;by_cases hjt:j<qr.length
   · obtain⟨b2,Tn,cap2,e,_,uf⟩:=(HR2.out.later fD.out.g).at hjt;simp only[Value.slice.injEq,true_and]at e;obtain⟨rfl,rfl⟩:=e;have c0:=uf 0 _ rfl;have c1:=uf 1 _ rfl;have qO:=ł (mG.out hjt);have Bf:=ł (show qr[j].shift cs.length=⟨wrap64 (qr[j].at'+cs.length),qr[j].name⟩from rfl);generalize qr[j]=r at *;obtain⟨r0,r1⟩:=r;simp only[Nat.add_zero]at c0 c1 Bf;have hb2:b2<wr.heap.size:=World.block_lt_of_cell? _ _ c0;clear uf mG;have gM:=ł (fD.out.grow ((Mv.refl _ wr).alloc (.cells #[.int .i64 r0,.string r1] 78)));obtain⟨a4,c4,w4,⟨hok,hv,hw⟩,hrow4,kW⟩:=Lm _ ⟨wrap64 (r0+cs.length),r1⟩ r2 _ _ gM.out.fA gM.out.g.size (by omega);have mF:=ł (gM.out.IL kW hrow4);have h2:w4.heap[w.heap.size+1]? = some (.cells #[.slice a' c2.length c',.slice eH r2.length eO] 34 (0,0)):=by rw[kW.block _ (lt_of_block gM.out.blk) (λe=>dK gM.out.fA gM.out.blk (by decide) e)];exact gM.out.blk
     obtain⟨k0,k1⟩:=aA fD.out.blk;obtain⟨m0,m1⟩:=aA h2;have zt:=aG h2;have abB:=lt_of_block fD.out.blk;rw[World.size_alloc]at hok hv hw;clear hrow4 kW h2 fD;go_wp2_with fail
     go_roundw
     case rel=>exact⟨j+1,_,by go_num,by omega,by rw[qO.out,Bf.out];simpa using mF.out⟩
     case measure=>(simp[intOf] <;> omega)
   · have HF:=ł (uE.out (by omega));go_wp2_with fail
     go_roundw
     case rel=>exact⟨k+1,_,_,by go_num,by omega,by rw[HJ2.out,yA,Gp];simp only;rw[rC.out,← HF.out];exact fD.out⟩
     case measure=>(simp[intOf] <;> omega)
 · have HE:=ł (NV.out (by omega));obtain⟨k0,k1⟩:=aA HST.out.blk;obtain⟨m0,m1⟩:=aA HST.out.res;have hl1:=lt_of_block HST.out.blk;have hl2:=lt_of_block HST.out.res;have zt:=aG HST.out.res;obtain⟨hs,hm⟩:=set2 HST.out.res (.slice na cs.length nc) (.slice ma rs.length mc);have HS:=ł hs;have aJ:=ł (show Grow w _ from Mv.trans HST.out.g hm (λb e => .inr (by omega)));have Fj:=ł (show qz w.heap.size _ (.agg #[.slice na cs.length nc,.slice ma rs.length mc]) (aL ps)from by
    rw[← HE.out];exact⟨na,nc,ma,mc,rfl,bg HST.out.row hm (λg hg e=>by subst e;exact dK HST.out.row HST.out.res (by decide) hg),(fI (λ_=>rfl) (bg HST.out.fA hm (λg hg e=>by subst e;exact dK HST.out.fA HST.out.res (by decide) hg)))⟩)
   clear hs hm HST;go_wp2_with fail;obtain⟨t0,t1⟩:=aA HS.out;exact bodyPost_ret (v := .agg #[.slice na cs.length nc,.slice ma rs.length mc]) (by simp[results,Tryz.results23,go_sem,t0,t1]) rfl ⟨_,rfl,Fj.out,aJ.out⟩
end Go.Proofs.YtnobahchcongnaaGreatDoor
