import Derived.Test.YtnobahchcongnaaGreatF17
set_option linter.unusedSimpArgs false
set_option linter.unusedVariables false
set_option maxRecDepth 100000
set_option maxHeartbeats 25600000
namespace Go.Proofs.YtnobahchcongnaaGreat
open Go.RowKit Go.Instr
theorem PK (f:az) (e:Tree) (use:aI):aH f e use=ah (ky (eP f e) (dG use.code ((eP f e).length+1))):=rfl
theorem EE (w:World) (G:Nat) (sv pv:Value) (f:az) (procs:List ak) (hg:gD w G sv pv f procs) (x:ae) (uv:Value) (use:aI) (hx:aS w x) (hu:ay w uv use) (he:aM x.t=true) (hs:bO f x.t=true) (hc0:0<=f.cells) (hc1:f.cells<=1000) (hd:iJ x.t<=10000) (hlen:(eP f x.t).length<=200000) (mZ:use.code.length<=200000) :
 Calls Tryz.prog 103 #[.pointer (some ⟨G,0,none⟩),x.val,uv] w (bQ w (aH f x.t use)):=by
 obtain⟨fa,fc,rfl,hfc,hfl⟩:=hg.fr.row.form;obtain⟨pa,pc,rfl,-,-⟩:=hg.pr.row.form;obtain⟨k,n,s,kv,l⟩:=x;obtain⟨ka,kc,rfl,-,-⟩:=hx.form;obtain⟨ua,uc,ra,rc,rfl,hr1,hr2⟩:=hu;obtain⟨us,rs⟩:=use;simp only at hr1 hr2 mZ ⊢;have HCM:=ł (λ(y:World) (hy:Grow w y)=>NL (.mk k n s (.slice ka l.length kc) l) (.slice fa f.slots.length fc) f y (hg.fr.later hy) (hx.later hy) he hs hc0 hc1 hd (by omega));have rW:=ł (λ(y:World) (hy:Grow w y) (uv:Value) (us:List Ins) (hu:ax 5 Ins.cells y uv us) (mZ:us.length<=300000)=>OP (.mk k n s (.slice ka l.length kc) l) (.slice fa f.slots.length fc) uv f us y (hg.fr.later hy) (hx.later hy) hu he hs hc0 hc1 hd (by omega) mZ);have HW:=ł (PK f (ae.t (.mk k n s (.slice ka l.length kc) l)) ⟨us,rs⟩);have gU:=ł hr1;have aK:=ł hg;have aJ:=ł (show(((w.alloc (.cells #[.int .u8 k,.int .i64 n,.string s,.slice ka l.length kc] 26)).alloc (.cells #[.slice ua us.length uc,.slice ra rs.length rc] 45)).alloc (.cells #[.slice none 0 0,.slice none 0 0] 45)).heap[w.heap.size]? = some (.cells #[.int .u8 k,.int .i64 n,.string s,.slice ka l.length kc] 26 (0,0))from aO (aO (heap_alloc_new w _) _) _);have vw:=ł (show(((w.alloc (.cells #[.int .u8 k,.int .i64 n,.string s,.slice ka l.length kc] 26)).alloc (.cells #[.slice ua us.length uc,.slice ra rs.length rc] 45)).alloc (.cells #[.slice none 0 0,.slice none 0 0] 45)).heap[w.heap.size+1]? = some (.cells #[.slice ua us.length uc,.slice ra rs.length rc] 45 (0,0))from aO (by have:=heap_alloc_new (w.alloc (.cells #[.int .u8 k,.int .i64 n,.string s,.slice ka l.length kc] 26)) (.cells #[.slice ua us.length uc,.slice ra rs.length rc] 45);rwa[World.size_alloc]at this) _);have bB:=ł (show(((w.alloc (.cells #[.int .u8 k,.int .i64 n,.string s,.slice ka l.length kc] 26)).alloc (.cells #[.slice ua us.length uc,.slice ra rs.length rc] 45)).alloc (.cells #[.slice none 0 0,.slice none 0 0] 45)).heap[w.heap.size+1+1]? = some (.cells #[.slice none 0 0,.slice none 0 0] 45 (0,0))from by have:=heap_alloc_new ((w.alloc (.cells #[.int .u8 k,.int .i64 n,.string s,.slice ka l.length kc] 26)).alloc (.cells #[.slice ua us.length uc,.slice ra rs.length rc] 45)) (.cells #[.slice none 0 0,.slice none 0 0] 45);rwa[World.size_alloc,World.size_alloc]at this);have aG:=ł (show Grow w (((w.alloc (.cells #[.int .u8 k,.int .i64 n,.string s,.slice ka l.length kc] 26)).alloc (.cells #[.slice ua us.length uc,.slice ra rs.length rc] 45)).alloc (.cells #[.slice none 0 0,.slice none 0 0] 45))from(((Mv.refl _ w).alloc _).alloc _).alloc _);have hls:us.length<=200000:=mZ;clear hg hx hr1 hr2 he hs hd mZ;generalize eP f (ae.t (.mk k n s (.slice ka l.length kc) l))=A at *;simp only[ae.val]at HCM rW ⊢
 go_enter Tryz.func103,Tryz.ntmps103
 go_upto_region 1 with fail;generalize (((w.alloc (.cells #[.int .u8 k,.int .i64 n,.string s,.slice ka l.length kc] 26)).alloc (.cells #[.slice ua us.length uc,.slice ra rs.length rc] 45)).alloc (.cells #[.slice none 0 0,.slice none 0 0] 45))=w3 at *;have HK:=ł (λ(y:World) (hy:Grow w3 y)=>And.intro (aK.out.later (gtr aG.out hy)) (And.intro (ai aJ.out hy) (And.intro (ai vw.out hy) (And.intro (ai bB.out hy) (And.intro (gU.out.later (gtr aG.out hy)) trivial)))));have HCM:=ł (λ(y:World) (hy:Grow w3 y)=>HCM.out y (gtr aG.out hy));have HX:=ł (HK.out w3 (Mv.refl _ _));obtain⟨⟨q0,q1,q2⟩,q3,q4⟩:=bR HX.out.1.blk;have Ud:=lt_of_block HX.out.1.blk;clear aJ vw bB gU;go_wp2_with fail;clear q0 q1 q2 q3 q4 Ud HX;refine wg 51 [some 17,some 18,some 19,some 20,some 21,some 22,some 16,some 23,some 24,some 7,some 8] [[],[],[1],[2],[3],[0,4],[5],[6],[6],[7],[8]] [] [.c (ae.val (.mk k n s (.slice ka l.length kc) l)),.c (.pointer (some ⟨G,0,none⟩)),.c (.pointer (some ⟨G,0,none⟩)),.c (.pointer (some ⟨G,0,none⟩)),.c (.agg #[.slice fa f.slots.length fc,.int .i64 f.cells,.int .i64 f.stacks]),.p (λv y=>∃ ca cc,v = .tuple #[.slice ca (A).length cc,.int .i64 0]/\ax 5 Ins.cells y (.slice ca (A).length cc) (A)),.p (λv y=>∃ ca cc,v = .tuple #[.slice ca (A).length cc,.int .i64 0]/\ax 5 Ins.cells y (.slice ca (A).length cc) (A)),.p (λv y=>∃ ca cc,v = .slice ca (A).length cc/\ax 5 Ins.cells y (.slice ca (A).length cc) (A)),.c (.int .i64 0),.p (λv y=>∃ ca cc,v = .slice ca (A).length cc/\ax 5 Ins.cells y (.slice ca (A).length cc) (A)),.c (.int .i64 0)] ⟨⟨(λv x y hg h=>by obtain⟨ca,cc,hv,hr⟩:=h;exact⟨ca,cc,hv,hr.later hg⟩),λ_=>mg⟩,⟨(λv x y hg h=>by obtain⟨ca,cc,hv,hr⟩:=h;exact⟨ca,cc,hv,hr.later hg⟩),λ_=>mg⟩,⟨(λv x y hg h=>by obtain⟨ca,cc,hv,hr⟩:=h;exact⟨ca,cc,hv,hr.later hg⟩),λ_=>mg⟩,⟨(λv x y hg h=>by obtain⟨ca,cc,hv,hr⟩:=h;exact⟨ca,cc,hv,hr.later hg⟩),λ_=>mg⟩,trivial⟩ (cz rfl) ?steps ?done
 case steps =>
  refine⟨?s0,?s1,?s2,?s3,?s4,?s5,?s6,?s7,?s8,?s9,?s10,trivial⟩
  case s0 =>
   refine ok HK (λvs x hG HX hP => ?_);obtain⟨⟨n0,n1⟩,n2,n3⟩:=aF HX.out.2.1;simp only[zS];go_simp;exact gc
  case s1|s10 =>
   refine oo (λvs x hP => ?_);simp only[zS];go_simp;exact gc
  case s2|s3|s4 =>
   refine ok HK (λvs x hG HX hP => ?_);obtain⟨⟨q0,q1,q2⟩,q3,q4⟩:=bR HX.out.1.blk;simp only[zS];go_simp;exact gc
  case s5 =>
   refine ok HK (λvs x hG HX hP => ?_);have h0:vs 0=_:=pq hP 0;have HC:=ł (HCM.out x hG);simp only[ae.val]at h0;simp only[zS,h0];go_simp;refine(HC.out).mono ?_;rintro e y ⟨v,rfl,hrs⟩;obtain⟨va,vc,rfl⟩:=gy hrs.row;exact⟨_,rfl,aZ hrs.g ⟨va,vc,rfl,iF (λ_=>rfl) hrs.row⟩⟩
  case s6 =>
   refine oo (λvs x hP => ?_);obtain⟨iV,iW,h5,r5⟩:=pq hP 5;simp only[zS,h5];go_simp;exact gk ⟨iV,iW,rfl,r5⟩
  case s7 =>
   refine oo (λvs x hP => ?_);obtain⟨tO,tQ,h6,r6⟩:=pq hP 6;simp only[zS,h6];go_simp;exact gk ⟨tO,tQ,rfl,r6⟩
  case s8 =>
   refine oo (λvs x hP => ?_);obtain⟨tO,tQ,h6,r6⟩:=pq hP 6;simp only[zS,h6];go_simp;exact gc
  case s9 =>
   refine oo (λvs x hP => ?_);obtain⟨iX,iY,h7,r7⟩:=pq hP 7;simp only[zS,h7];go_simp;exact gk ⟨iX,iY,rfl,r7⟩
 case done =>
 intro vs w4 hE;have hG:=hE.grow;obtain⟨iV,iW,h5,r5⟩:=hE.val 5;obtain⟨tO,tQ,h6,r6⟩:=hE.val 6;obtain⟨iX,iY,h7,r7⟩:=hE.val 7;obtain⟨fK,fM,h9,r9⟩:=hE.val 9;simp only[zS,Nat.reduceAdd,h5,h6,h7,h9];have aN:=ł (gtr aG.out hG);have aW:=ł (BR HK.out hG);have GN:=ł (λ(y:World) (hy:Grow w4 y) (uv:Value) (Ue:List Ins) (hu:ax 5 Ins.cells y uv Ue)=>rW.out y (gtr aN.out hy) uv Ue hu);clear hE hG HK HCM rW;go_wp2_with fail;refine wg 51 [some 28,some 29,some 30,some 31,some 32,some 33,some 34,some 35,some 36,some 37,some 38,some 39,some 27,some 40,some 41,some 9,some 8] [[],[],[1],[2],[3],[],[5],[],[7],[8],[6,9],[0,4,10],[11],[12],[12],[13],[14]] [] [.c (ae.val (.mk k n s (.slice ka l.length kc) l)),.c (.pointer (some ⟨G,0,none⟩)),.c (.pointer (some ⟨G,0,none⟩)),.c (.pointer (some ⟨G,0,none⟩)),.c (.agg #[.slice fa f.slots.length fc,.int .i64 f.cells,.int .i64 f.stacks]),.c (.pointer (some ⟨w.heap.size+1,0,none⟩)),.c (.slice ua us.length uc),.c (.slice fK A.length fM),.c (.int .i64 A.length),.c (.int .i64 (A.length+1)),.p (λv y=>∃ ca cc,v = .slice ca (dG us (A.length+1)).length cc/\ax 5 Ins.cells y (.slice ca (dG us (A.length+1)).length cc) (dG us (A.length+1))),.p (λv y=>∃ ca cc,v = .tuple #[.slice ca (ky A (dG us (A.length+1))).length cc,.int .i64 0]/\ax 5 Ins.cells y (.slice ca (ky A (dG us (A.length+1))).length cc) (ky A (dG us (A.length+1)))),.p (λv y=>∃ ca cc,v = .tuple #[.slice ca (ky A (dG us (A.length+1))).length cc,.int .i64 0]/\ax 5 Ins.cells y (.slice ca (ky A (dG us (A.length+1))).length cc) (ky A (dG us (A.length+1)))),.p (λv y=>∃ ca cc,v = .slice ca (ky A (dG us (A.length+1))).length cc/\ax 5 Ins.cells y (.slice ca (ky A (dG us (A.length+1))).length cc) (ky A (dG us (A.length+1)))),.c (.int .i64 0),.p (λv y=>∃ ca cc,v = .slice ca (ky A (dG us (A.length+1))).length cc/\ax 5 Ins.cells y (.slice ca (ky A (dG us (A.length+1))).length cc) (ky A (dG us (A.length+1)))),.c (.int .i64 0)] ⟨⟨(λv x y hg h=>by obtain⟨ca,cc,hv,hr⟩:=h;exact⟨ca,cc,hv,hr.later hg⟩),λ_=>mg⟩,⟨(λv x y hg h=>by obtain⟨ca,cc,hv,hr⟩:=h;exact⟨ca,cc,hv,hr.later hg⟩),λ_=>mg⟩,⟨(λv x y hg h=>by obtain⟨ca,cc,hv,hr⟩:=h;exact⟨ca,cc,hv,hr.later hg⟩),λ_=>mg⟩,⟨(λv x y hg h=>by obtain⟨ca,cc,hv,hr⟩:=h;exact⟨ca,cc,hv,hr.later hg⟩),λ_=>mg⟩,⟨(λv x y hg h=>by obtain⟨ca,cc,hv,hr⟩:=h;exact⟨ca,cc,hv,hr.later hg⟩),λ_=>mg⟩,trivial⟩ (cz rfl) ?steps ?done
 case steps =>
  refine⟨?s0,?s1,?s2,?s3,?s4,?s5,?s6,?s7,?s8,?s9,?s10,?s11,?s12,?s13,?s14,?s15,?s16,trivial⟩
  case s0 =>
   refine ok aW (λvs x hG HX hP => ?_);obtain⟨⟨n0,n1⟩,n2,n3⟩:=aF HX.out.2.1;simp only[zS];go_simp;exact gc
  case s1|s5|s7|s8|s16 =>
   refine oo (λvs x hP => ?_);simp only[zS];go_simp;exact gc
  case s2|s3|s4 =>
   refine ok aW (λvs x hG HX hP => ?_);obtain⟨⟨q0,q1,q2⟩,q3,q4⟩:=bR HX.out.1.blk;simp only[zS];go_simp;exact gc
  case s6 =>
   refine ok aW (λvs x hG HX hP => ?_);obtain⟨u0,u1⟩:=aC HX.out.2.2.1;simp only[zS];go_simp;exact gc
  case s9 =>
   refine ok aW (λvs x hG HX hP => ?_);have hw:IntKind.i64.wrap ((A.length:Int)+1)=A.length+1:=IntWalk.i64_in _ (by omega);simp only[zS];go_simp;exact gc
  case s10 =>
   refine ok aW (λvs x hG HX hP => ?_);have HC:=ł (Jr (.slice ua us.length uc) us (A.length+1) x HX.out.2.2.2.2.1 (by omega));simp only[zS];go_simp;refine(HC.out).mono ?_;rintro e y ⟨v,rfl,hrs⟩;obtain⟨va,vc,rfl⟩:=gy hrs.row;exact⟨_,rfl,aZ hrs.g ⟨va,vc,rfl,iF (λ_=>rfl) hrs.row⟩⟩
  case s11 =>
   refine ok aW (λvs x hG HX hP => ?_);have h0:vs 0=_:=pq hP 0;obtain⟨qC,qD,h10,Uf⟩:=pq hP 10;have HC:=ł (GN.out x hG _ _ Uf (by rw[xI];omega));simp only[ae.val]at h0;simp only[zS,h0,h10];go_simp;refine(HC.out).mono ?_;rintro e y ⟨v,rfl,hrs⟩;obtain⟨va,vc,rfl⟩:=gy hrs.row;exact⟨_,rfl,aZ hrs.g ⟨va,vc,rfl,iF (λ_=>rfl) hrs.row⟩⟩
  case s12 =>
   refine oo (λvs x hP => ?_);obtain⟨gH,gI,h11,Ug⟩:=pq hP 11;simp only[zS,h11];go_simp;exact gk ⟨gH,gI,rfl,Ug⟩
  case s13 =>
   refine oo (λvs x hP => ?_);obtain⟨KS,KT,h12,Mh⟩:=pq hP 12;simp only[zS,h12];go_simp;exact gk ⟨KS,KT,rfl,Mh⟩
  case s14 =>
   refine oo (λvs x hP => ?_);obtain⟨KS,KT,h12,Mh⟩:=pq hP 12;simp only[zS,h12];go_simp;exact gc
  case s15 =>
   refine oo (λvs x hP => ?_);obtain⟨FU,FV,lg,Uh⟩:=pq hP 13;simp only[zS,lg];go_simp;exact gk ⟨FU,FV,rfl,Uh⟩
 case done =>
 intro vs w5 hE;have hG:=hE.grow;obtain⟨qC,qD,h10,Uf⟩:=hE.val 10;obtain⟨gH,gI,h11,Ug⟩:=hE.val 11;obtain⟨KS,KT,h12,Mh⟩:=hE.val 12;obtain⟨FU,FV,lg,Uh⟩:=hE.val 13;obtain⟨AZ,A7,qU,r15⟩:=hE.val 15;simp only[zS,Nat.reduceAdd,h10,h11,h12,lg,qU];have aT:=ł (gtr aN.out hG);have bG:=ł (aW.out _ hG);have gX:=ł (show ay w5 (.agg #[.slice AZ (ky A (dG us (A.length+1))).length A7,.slice none 0 0]) (aH f (ae.t (.mk k n s (.slice ka l.length kc) l)) ⟨us,rs⟩)from by rw[HW.out];exact ay.mk r15 (ax.nil _ _ _));obtain⟨hs,hm⟩:=set2 bG.out.2.2.2.1 (.slice AZ (ky A (dG us (A.length+1))).length A7) (.slice none 0 0);obtain⟨r0,r1⟩:=aC bG.out.2.2.2.1;have rt:=aD bG.out.2.2.2.1;have HS:=ł hs;have HM:=ł hm;have bC:=ł (gX.out.box bG.out.2.2.2.1 hm);have aQ:=ł (show Grow w _ from Mv.trans aT.out hm (λb e => .inr (by omega)));clear hE hG aW GN hs hm gX;generalize ky A (dG us (A.length+1))=wl at *;go_wp2_with fail;obtain⟨t0,t1⟩:=aC HS.out;exact bodyPost_ret (v := .agg #[.slice AZ wl.length A7,.slice none 0 0]) (by simp[results,Tryz.results103,go_sem,t0,t1]) rfl ⟨_,rfl,bC.out,aQ.out⟩
theorem EF (w:World) (G:Nat) (sv pv:Value) (f:az) (procs:List ak) (hg:gD w G sv pv f procs) (x:ae) (hx:aS w x) (he:aM x.t=true) (hs:bO f x.t=true) (hc0:0<=f.cells) (hc1:f.cells<=1000) (hd:iJ x.t<=10000) (hlen:(eP f x.t).length<=200000) :
 Calls Tryz.prog 110 #[.pointer (some ⟨G,0,none⟩),x.val] w (bQ w (eU f x.t)):=by
 obtain⟨fa,fc,rfl,hfc,hfl⟩:=hg.fr.row.form;obtain⟨pa,pc,rfl,-,-⟩:=hg.pr.row.form;have rW:=ł (λ(y:World) (hy:Grow w y) (uv:Value) (hu:ay y uv (ah [⟨9,0,4,5,17⟩]))=>EE y G _ _ f procs (hg.later hy) x uv _ (hx.later hy) hu he hs hc0 hc1 hd hlen (by simp[ah]));obtain⟨k,n,s,kv,l⟩:=x;obtain⟨ka,kc,rfl,-,-⟩:=hx.form;have aK:=ł hg;obtain⟨aJ,bB,HG2⟩:=a2 w (.cells #[.int .u8 k,.int .i64 n,.string s,.slice ka l.length kc] 26) (.cells #[.slice none 0 0,.slice none 0 0] 45);clear hg hx he hs hd hlen;simp only[ae.val]at rW ⊢
 go_enter Tryz.func110,Tryz.ntmps110
 go_wp2_with fail;generalize ((w.alloc (.cells #[.int .u8 k,.int .i64 n,.string s,.slice ka l.length kc] 26)).alloc (.cells #[.slice none 0 0,.slice none 0 0] 45))=w2 at *;have HK:=ł (λ(y:World) (hy:Grow w2 y)=>And.intro (aK.out.later (gtr HG2.out hy)) (ai aJ.out hy));have GN:=ł (λ(y:World) (hy:Grow w2 y)=>rW.out y (gtr HG2.out hy));refine wg 12 [some 5,some 6,some 7,some 8,some 9,some 10,some 11,none] [[],[],[],[2],[3],[4],[0,1,5],[6]] [2,4] [.c (.pointer (some ⟨G,0,none⟩)),.c (ae.val (.mk k n s (.slice ka l.length kc) l)),.p (λv y=>∃ g,v = .slice (some ⟨g,0,none⟩) 4 4/\y.heap[g]? = some (.cells #[.int .i64 0,.int .i64 4,.int .i64 5,.int .i64 17] 3 (0,0))),.c (.agg #[.int .u8 9,.int .i64 0,.int .i64 4,.int .i64 5,.int .i64 17]),.p (λv y=>∃ g,v = .slice (some ⟨g,0,none⟩) 1 1/\ax 5 Ins.cells y (.slice (some ⟨g,0,none⟩) 1 1) ([⟨9,0,4,5,17⟩]:List Ins)),.p (λv y=>ay y v (ah [⟨9,0,4,5,17⟩])),.p (λv y=>ay y v (eU f (ae.t (.mk k n s (.slice ka l.length kc) l)))),.rs (w.heap.size+1) 6 #[.slice none 0 0,.slice none 0 0] 45] ⟨sH,sR,sP,sP,trivial⟩ (iP (n:=7) rfl rfl (bB.out)) ?steps ?done
 case steps =>
  refine⟨?s0,?s1,?s2,?s3,?s4,?s5,?s6,?s7,trivial⟩
  case s0 =>
   refine oo (λvs x hP => ?_);simp only[zS];go_simp;exact gc
  case s1 =>
   refine ok HK (λvs x hG HX hP => ?_);obtain⟨⟨n0,n1⟩,n2,n3⟩:=aF HX.out.2;simp only[zS];go_simp;exact gc
  case s2 =>
   refine oo (λvs x hP => ?_);simp only[zS];go_simp;exact gl ⟨_,rfl,heap_alloc_new x _⟩
  case s3 =>
   refine ok HK (λvs x hG HX hP => ?_);obtain⟨g2,h2,b2⟩:=pq hP 2;have HC:=ł (Im 9 (0) (4) (5) (17) g2 _ x b2);simp only[zS,h2];go_simp;refine(HC.out).mono ?_;rintro e y ⟨rfl,hg⟩;exact⟨_,rfl,bu hg rfl⟩
  case s4 =>
   refine oo (λvs x hP => ?_);simp only[zS];go_simp;exact gl ⟨_,rfl,ax.bN (f:=Ins.cells) (l:=([⟨9,0,4,5,17⟩]:List Ins)) (λ_=>rfl) (heap_alloc_new x _) rfl (by simp)⟩
  case s5 =>
   refine ok HK (λvs x hG HX hP => ?_);obtain⟨g4,h4,b4⟩:=pq hP 4;have HC:=ł (iG _ _ x b4);simp only[zS,h4];go_simp;refine(HC.out).mono ?_;rintro e y ⟨v,rfl,hp,hg⟩;exact⟨_,rfl,aZ hg hp⟩
  case s6 =>
   refine ok HK (λvs x hG HX hP => ?_);have h1:vs 1=_:=pq hP 1;have p5:=pq hP 5;have Mi:=p5;obtain⟨iV,iW,kH,kI,h5,c5,f5⟩:=p5;rw[h5]at Mi;have HC:=ł (GN.out x hG _ Mi);simp only[ae.val]at h1;simp only[zS,h1,h5];go_simp;refine(HC.out).mono ?_;rintro e y ⟨v,rfl,hp,hg⟩;exact⟨_,rfl,aZ hg hp⟩
  case s7 =>
   refine iQ (λvs x hb hv => ?_);obtain⟨tO,tQ,zU,zV,h6,c6,f6⟩:=hv;obtain⟨c0,c1⟩:=aC hb;have zt:=aD hb;simp only[zS,h6];go_simp;exact set2 hb _ _
 case done =>
 intro vs w3 hE;have p5:=hE.val 5;have Mi:=p5;obtain⟨iV,iW,kH,kI,h5,c5,f5⟩:=p5;obtain⟨tO,tQ,zU,zV,h6,c6,f6⟩:=hE.val 6;have b7:=hE.res 7;simp only[zS,h6]at b7;simp only[zS,Nat.reduceAdd,h5,h6];have HM:=ł (hE.last 7);have aQ:=ł (show Grow w w3 from Mv.trans HG2.out HM.out (λb e => .inr (by omega)));have bC:=ł (show ay w3 (.agg #[.slice tO (eU f (ae.t (.mk k n s (.slice ka l.length kc) l))).code.length tQ,.slice zU (eU f (ae.t (.mk k n s (.slice ka l.length kc) l))).refs.length zV]) (eU f (ae.t (.mk k n s (.slice ka l.length kc) l)))from⟨tO,tQ,zU,zV,rfl,c6,f6⟩);have HB:=ł b7;clear hE b7 HM c6 f6;simp only[bJ]at HB;go_wp2_with fail;obtain⟨t0,t1⟩:=aC HB.out;exact bodyPost_ret (v := .agg #[.slice tO (eU f (ae.t (.mk k n s (.slice ka l.length kc) l))).code.length tQ,.slice zU (eU f (ae.t (.mk k n s (.slice ka l.length kc) l))).refs.length zV]) (by simp[results,Tryz.results110,go_sem,t0,t1]) rfl ⟨_,rfl,bC.out,aQ.out⟩
end Go.Proofs.YtnobahchcongnaaGreat
