import Derived.Test.YtnobahchcongnaaGreatF22
set_option linter.unusedSimpArgs false
set_option linter.unusedVariables false
set_option maxRecDepth 100000
set_option maxHeartbeats 25600000
namespace Go.Proofs.YtnobahchcongnaaGreat
open Go.RowKit Go.Instr
theorem X8 (v:Value) (n c:Nat) (w:World) (h:∃ a,v = .slice a n c):Calls Tryz.prog 104 #[v] w λe w'=>e = .returned (.agg #[v,.slice none 0 0])/\Grow w w':=by
 obtain⟨va,rfl⟩:=h
 go_enter Tryz.func104,Tryz.ntmps104
 go_wp2_with fail;exact bodyPost_ret (v := .agg #[.slice va n c,.slice none 0 0]) (by simp[results,Tryz.results104,go_sem]) rfl ⟨rfl,(Mv.refl _ _).alloc _⟩
theorem VK {w:World} {base g:Nat} {cs:Array Value} {l:List Ins} (hb:w.heap[g]? = some (.cells cs 60 (0,0))) (hcs:cs.toList=flat Ins.cells l) (hg:base<=g) (hl:l.length<=1000000):dN w base (.slice (some ⟨g,0,none⟩) l.length l.length) l:=by
 have hsz:cs.size=l.length * 5:=by rw[← Array.length_toList,hcs,pY _ 5 (λ_=>rfl)]
 refine⟨by rw[pY _ 5 (λ_=>rfl)],.inr ⟨g,l.length,cs,rfl,hg,hb,Nat.le_refl _,by simp only[maxLen];omega,hsz,?_⟩⟩;rw[hcs,List.take_of_length_le (by rw[pY _ 5 (λ_=>rfl)];exact Nat.le_refl _)]
theorem X9 (w:World) (G:Nat) (sv pv:Value) (f:az) (procs:List ak) (hg:gD w G sv pv f procs) (p q:ae) (hp:aS w p) (hq:aS w q) :
 Calls Tryz.prog 106 #[.pointer (some ⟨G,0,none⟩),p.val,q.val] w (bQ w (eH f p.t q.t)):=by
 obtain⟨fa,fc,rfl,hfc,hfl⟩:=hg.fr.row.form;obtain⟨yD,yE,rfl,-,-⟩:=hg.pr.row.form;obtain⟨pk,pn,ps,pv,pl⟩:=p;obtain⟨pa,pc,rfl,-,-⟩:=hp.form;obtain⟨qk,qn,qs,qv,ql⟩:=q;obtain⟨qa,qc,rfl,-,-⟩:=hq.form;have aK:=ł hg;have bY:=ł hp;have qX:=ł hq;have GV:=ł (show Ins.val (gQ f (ae.t (.mk pk pn ps (.slice pa pl.length pc) pl)) 6 5) = .agg #[.int .u8 11,.int .i64 6,.int .i64 5,.int .i64 ((au f ps 2).getD noSlot).at',.int .i64 ((au f ps 2).getD noSlot).len]from rfl);have Uj:=ł (show Ins.val (gQ f (ae.t (.mk qk qn qs (.slice qa ql.length qc) ql)) 6 4) = .agg #[.int .u8 11,.int .i64 6,.int .i64 4,.int .i64 ((au f qs 2).getD noSlot).at',.int .i64 ((au f qs 2).getD noSlot).len]from rfl);have Ml:=ł (show ps≠qs->eH f (ae.t (.mk pk pn ps (.slice pa pl.length pc) pl)) (ae.t (.mk qk qn qs (.slice qa ql.length qc) ql))=ah [⟨11,6,5,((au f ps 2).getD noSlot).at',((au f ps 2).getD noSlot).len⟩,⟨11,6,4,((au f qs 2).getD noSlot).at',((au f qs 2).getD noSlot).len⟩,⟨11,6,5,((au f ps 2).getD noSlot).at',((au f ps 2).getD noSlot).len⟩]from λh=>by
  unfold eH;exact if_pos h)
 have dQ:=ł (show ps=qs->eH f (ae.t (.mk pk pn ps (.slice pa pl.length pc) pl)) (ae.t (.mk qk qn qs (.slice qa ql.length qc) ql))=nU (ah [⟨11,6,5,((au f ps 2).getD noSlot).at',((au f ps 2).getD noSlot).len⟩,⟨11,6,5,((au f ps 2).getD noSlot).at',((au f ps 2).getD noSlot).len⟩,⟨9,7,5,4,16⟩,⟨24,7,0,0,0⟩,⟨11,6,5,((au f ps 2).getD noSlot).at',((au f ps 2).getD noSlot).len⟩,⟨11,6,4,((au f qs 2).getD noSlot).at',((au f qs 2).getD noSlot).len⟩,⟨11,6,5,((au f ps 2).getD noSlot).at',((au f ps 2).getD noSlot).len⟩,⟨27,7,0,0,0⟩,⟨9,7,5,4,16⟩,⟨11,6,5,((au f ps 2).getD noSlot).at',((au f ps 2).getD noSlot).len⟩,⟨11,6,5,((au f ps 2).getD noSlot).at',((au f ps 2).getD noSlot).len⟩]) 3 7 from λh=>by
  unfold eH;exact if_neg (λh'=>h' h))
 generalize ((au f ps 2).getD noSlot)=sp at *;generalize ((au f qs 2).getD noSlot)=sq at *;have aJ:=ł (show(((w.alloc (.cells #[.int .u8 pk,.int .i64 pn,.string ps,.slice pa pl.length pc] 26)).alloc (.cells #[.int .u8 qk,.int .i64 qn,.string qs,.slice qa ql.length qc] 26)).alloc (.cells #[.slice none 0 0,.slice none 0 0] 45)).heap[w.heap.size]? = some (.cells #[.int .u8 pk,.int .i64 pn,.string ps,.slice pa pl.length pc] 26 (0,0))from aO (aO (heap_alloc_new w _) _) _);have dV:=ł (show(((w.alloc (.cells #[.int .u8 pk,.int .i64 pn,.string ps,.slice pa pl.length pc] 26)).alloc (.cells #[.int .u8 qk,.int .i64 qn,.string qs,.slice qa ql.length qc] 26)).alloc (.cells #[.slice none 0 0,.slice none 0 0] 45)).heap[w.heap.size+1]? = some (.cells #[.int .u8 qk,.int .i64 qn,.string qs,.slice qa ql.length qc] 26 (0,0))from aO (by have:=heap_alloc_new (w.alloc (.cells #[.int .u8 pk,.int .i64 pn,.string ps,.slice pa pl.length pc] 26)) (.cells #[.int .u8 qk,.int .i64 qn,.string qs,.slice qa ql.length qc] 26);rwa[World.size_alloc]at this) _);have jH:=ł (show(((w.alloc (.cells #[.int .u8 pk,.int .i64 pn,.string ps,.slice pa pl.length pc] 26)).alloc (.cells #[.int .u8 qk,.int .i64 qn,.string qs,.slice qa ql.length qc] 26)).alloc (.cells #[.slice none 0 0,.slice none 0 0] 45)).heap[w.heap.size+1+1]? = some (.cells #[.slice none 0 0,.slice none 0 0] 45 (0,0))from by have:=heap_alloc_new ((w.alloc (.cells #[.int .u8 pk,.int .i64 pn,.string ps,.slice pa pl.length pc] 26)).alloc (.cells #[.int .u8 qk,.int .i64 qn,.string qs,.slice qa ql.length qc] 26)) (.cells #[.slice none 0 0,.slice none 0 0] 45);rwa[World.size_alloc,World.size_alloc]at this);have aG:=ł (show Grow w (((w.alloc (.cells #[.int .u8 pk,.int .i64 pn,.string ps,.slice pa pl.length pc] 26)).alloc (.cells #[.int .u8 qk,.int .i64 qn,.string qs,.slice qa ql.length qc] 26)).alloc (.cells #[.slice none 0 0,.slice none 0 0] 45))from(((Mv.refl _ w).alloc _).alloc _).alloc _);clear hg hp hq;generalize eH f (ae.t (.mk pk pn ps (.slice pa pl.length pc) pl)) (ae.t (.mk qk qn qs (.slice qa ql.length qc) ql))=XC at *;simp only[ae.val]
 go_enter Tryz.func106,Tryz.ntmps106
 go_wp2_with fail;generalize (((w.alloc (.cells #[.int .u8 pk,.int .i64 pn,.string ps,.slice pa pl.length pc] 26)).alloc (.cells #[.int .u8 qk,.int .i64 qn,.string qs,.slice qa ql.length qc] 26)).alloc (.cells #[.slice none 0 0,.slice none 0 0] 45))=w3 at *;have HK:=ł (λ(y:World) (hy:Grow w3 y)=>And.intro (aK.out.later (gtr aG.out hy)) (And.intro (ai aJ.out hy) (And.intro (ai dV.out hy) (And.intro (bY.out.later (gtr aG.out hy)) (qX.out.later (gtr aG.out hy))))));refine wg 47 [some 11,some 12,some 13,some 14,some 15,some 16,some 7,some 8,none,none] [[],[],[0,1],[],[],[3,4],[],[],[6,2],[7,5]] [] [.c (.pointer (some ⟨G,0,none⟩)),.c (.agg #[.int .u8 pk,.int .i64 pn,.string ps,.slice pa pl.length pc]),.c (.agg #[.int .u8 11,.int .i64 6,.int .i64 5,.int .i64 sp.at',.int .i64 sp.len]),.c (.pointer (some ⟨G,0,none⟩)),.c (.agg #[.int .u8 qk,.int .i64 qn,.string qs,.slice qa ql.length qc]),.c (.agg #[.int .u8 11,.int .i64 6,.int .i64 4,.int .i64 sq.at',.int .i64 sq.len]),.al 8 2 #[.int .u8 0,.int .i64 0,.int .i64 0,.int .i64 0,.int .i64 0] 60,.al 9 5 #[.int .u8 0,.int .i64 0,.int .i64 0,.int .i64 0,.int .i64 0] 60,.st 6,.st 7] trivial (cz rfl) ?steps ?done
 case steps =>
  refine⟨?s0,?s1,?s2,?s3,?s4,?s5,?s6,?s7,?s8,?s9,trivial⟩
  case s0|s3 =>
   refine oo (λvs x hP => ?_);simp only[zS];go_simp;exact gc
  case s1 =>
   refine ok HK (λvs x hG HX hP => ?_);obtain⟨⟨n0,n1⟩,n2,n3⟩:=aF (HX.out.2.1);simp only[zS];go_simp;exact gc
  case s2 =>
   refine ok HK (λvs x hG HX hP => ?_);have HC:=ł (ED x G _ _ f procs HX.out.1 (.mk pk pn ps (.slice pa pl.length pc) pl) 6 5 (HX.out.2.2.2.1));simp only[ae.val,GV.out]at HC;simp only[zS];go_simp;refine(HC.out).mono ?_;rintro e y ⟨rfl,hg⟩;exact⟨_,rfl,bu hg rfl⟩
  case s4 =>
   refine ok HK (λvs x hG HX hP => ?_);obtain⟨⟨n0,n1⟩,n2,n3⟩:=aF (HX.out.2.2.1);simp only[zS];go_simp;exact gc
  case s5 =>
   refine ok HK (λvs x hG HX hP => ?_);have HC:=ł (ED x G _ _ f procs HX.out.1 (.mk qk qn qs (.slice qa ql.length qc) ql) 6 4 (HX.out.2.2.2.2));simp only[ae.val,Uj.out]at HC;simp only[zS];go_simp;refine(HC.out).mono ?_;rintro e y ⟨rfl,hg⟩;exact⟨_,rfl,bu hg rfl⟩
  case s6|s7 =>
   refine oz (λvs x => ?_);simp only[zS];go_simp;exact⟨rfl,rfl⟩
  case s8 =>
   refine os (λvs x g hg hb hv => ?_);have h2:vs 2=_:=hv;obtain⟨⟨c0,c1,c2⟩,c3,c4⟩:=bR hb;have zt:=aD hb;simp only[zS,hg,h2];go_simp;exact kC hb _ _ _ _ _
  case s9 =>
   refine os (λvs x g hg hb hv => ?_);have h5:vs 5=_:=hv;obtain⟨⟨c0,c1,c2⟩,c3,c4⟩:=bR hb;have zt:=aD hb;simp only[zS,hg,h5];go_simp;exact kC hb _ _ _ _ _
 case done =>
 intro vs w4 hE;have hG:=hE.grow;obtain⟨g6,a6,l6,m6,b6⟩:=hE.box 6;obtain⟨g7,a7,l7,m7,b7⟩:=hE.box 7;simp only[zS]at b6;simp only[zS]at b7;simp only[zS,Nat.reduceAdd,a6,a7];have gJ:=ł b6;have yF:=ł b7;simp only[bJ]at gJ yF;have aN:=ł (gtr aG.out hG);have bB:=ł (ai jH.out hG);obtain⟨⟨n0,n1⟩,n2,n3⟩:=aF (ai aJ.out hG);obtain⟨⟨o0,o1⟩,o2,o3⟩:=aF (ai dV.out hG);have hl1:=lt_of_block (ai aJ.out hG);have hl2:=lt_of_block (ai dV.out hG);have aW:=ł (λ(y:World) (hy:Grow w4 y)=>And.intro (ai gJ.out hy) (And.intro (ai yF.out hy) trivial));clear hE hG b6 b7 HK aJ dV jH bY qX aK GV Uj;by_cases hnm:ps=qs
 · have GX:=ł (dQ.out hnm);clear Ml dQ;subst hnm;have kJ:(ps.toList == ps.toList)=true:=by simp
   go_upto_region 4 with fail;clear n0 n1 n2 n3 o0 o1 o2 o3 hl1 hl2 kJ;refine fI 47 [some 27,some 28,some 9,none] [[],[0],[],[2,1]] [0] [.p (λv y=>∃ g,v = .slice (some ⟨g,0,none⟩) 4 4/\y.heap[g]? = some (.cells #[.int .i64 7,.int .i64 5,.int .i64 4,.int .i64 16] 3 (0,0))),.c (.agg #[.int .u8 9,.int .i64 7,.int .i64 5,.int .i64 4,.int .i64 16]),.al 3 1 #[.int .u8 0,.int .i64 0,.int .i64 0,.int .i64 0,.int .i64 0] 60,.st 2] ⟨sH,trivial⟩ (cz rfl) ?steps ?done
   case steps =>
    refine⟨?s0,?s1,?s2,?s3,trivial⟩
    case s0 =>
     refine oo (λvs x hP => ?_);simp only[zS];go_simp;exact gl ⟨_,rfl,heap_alloc_new x _⟩
    case s1 =>
     refine ok0 aW (λvs x hG HX hP => ?_);obtain⟨g0,h0,b0⟩:=pq hP 0;have HC:=ł (Im 9 (7) (5) (4) (16) g0 _ x b0);simp only[zS,h0];go_simp;refine(HC.out).mono ?_;rintro e y ⟨rfl,hg⟩;exact⟨_,rfl,bu hg rfl⟩
    case s2 =>
     refine oz (λvs x => ?_);simp only[zS];go_simp;exact⟨rfl,rfl⟩
    case s3 =>
     refine os (λvs x g hg hb hv => ?_);have h1:vs 1=_:=hv;obtain⟨⟨c0,c1,c2⟩,c3,c4⟩:=bR hb;have zt:=aD hb;simp only[zS,hg,h1];go_simp;exact kC hb _ _ _ _ _
   case done =>
   intro vs w5 hE;have hG:=hE.jU;obtain⟨g2,a2,l2,m2,b2⟩:=hE.box 2;simp only[zS]at b2;simp only[zS,Nat.reduceAdd,a2];have HB2:=ł b2;simp only[bJ]at HB2;have aT:=ł (gtr aN.out hG);have kD:=ł (ai bB.out hG);have bG:=ł (λ(y:World) (hy:Grow w5 y)=>And.intro (ai gJ.out (gtr hG hy)) (And.intro (ai yF.out (gtr hG hy)) (And.intro trivial (ai HB2.out hy))));clear hE b2 aW;go_upto_region 5 with fail;refine wg 47 [some 29,some 30,some 31,some 32,some 33,some 34,some 35,some 36,some 37,some 38,some 39,some 40,some 41,some 42,some 43,some 10,none] [[],[],[],[],[3],[],[],[],[],[8],[],[],[],[0,1,2,4,5,6,7,9,10,11,12],[13],[],[15,14]] [3,8,13] [.c (.agg #[.int .u8 11,.int .i64 6,.int .i64 5,.int .i64 sp.at',.int .i64 sp.len]),.c (.agg #[.int .u8 11,.int .i64 6,.int .i64 5,.int .i64 sp.at',.int .i64 sp.len]),.c (.agg #[.int .u8 9,.int .i64 7,.int .i64 5,.int .i64 4,.int .i64 16]),.p (λv y=>∃ g,v = .slice (some ⟨g,0,none⟩) 2 2/\y.heap[g]? = some (.cells #[.int .i64 7,.int .i64 0] 3 (0,0))),.c (.agg #[.int .u8 24,.int .i64 7,.int .i64 0,.int .i64 0,.int .i64 0]),.c (.agg #[.int .u8 11,.int .i64 6,.int .i64 5,.int .i64 sp.at',.int .i64 sp.len]),.c (.agg #[.int .u8 11,.int .i64 6,.int .i64 4,.int .i64 sq.at',.int .i64 sq.len]),.c (.agg #[.int .u8 11,.int .i64 6,.int .i64 5,.int .i64 sp.at',.int .i64 sp.len]),.p (λv y=>∃ g,v = .slice (some ⟨g,0,none⟩) 2 2/\y.heap[g]? = some (.cells #[.int .i64 7,.int .i64 0] 3 (0,0))),.c (.agg #[.int .u8 27,.int .i64 7,.int .i64 0,.int .i64 0,.int .i64 0]),.c (.agg #[.int .u8 9,.int .i64 7,.int .i64 5,.int .i64 4,.int .i64 16]),.c (.agg #[.int .u8 11,.int .i64 6,.int .i64 5,.int .i64 sp.at',.int .i64 sp.len]),.c (.agg #[.int .u8 11,.int .i64 6,.int .i64 5,.int .i64 sp.at',.int .i64 sp.len]),.p (λv y=>∃ g,v = .slice (some ⟨g,0,none⟩) 11 11/\w.heap.size<=g/\y.heap[g]? = some (.cells #[.int .u8 11,.int .i64 6,.int .i64 5,.int .i64 sp.at',.int .i64 sp.len,.int .u8 11,.int .i64 6,.int .i64 5,.int .i64 sp.at',.int .i64 sp.len,.int .u8 9,.int .i64 7,.int .i64 5,.int .i64 4,.int .i64 16,.int .u8 24,.int .i64 7,.int .i64 0,.int .i64 0,.int .i64 0,.int .u8 11,.int .i64 6,.int .i64 5,.int .i64 sp.at',.int .i64 sp.len,.int .u8 11,.int .i64 6,.int .i64 4,.int .i64 sq.at',.int .i64 sq.len,.int .u8 11,.int .i64 6,.int .i64 5,.int .i64 sp.at',.int .i64 sp.len,.int .u8 27,.int .i64 7,.int .i64 0,.int .i64 0,.int .i64 0,.int .u8 9,.int .i64 7,.int .i64 5,.int .i64 4,.int .i64 16,.int .u8 11,.int .i64 6,.int .i64 5,.int .i64 sp.at',.int .i64 sp.len,.int .u8 11,.int .i64 6,.int .i64 5,.int .i64 sp.at',.int .i64 sp.len] 60 (0,0))),.p (λv y=>∃ g,v = .agg #[.slice (some ⟨g,0,none⟩) 11 11,.slice none 0 0]/\w.heap.size<=g/\y.heap[g]? = some (.cells #[.int .u8 11,.int .i64 6,.int .i64 5,.int .i64 sp.at',.int .i64 sp.len,.int .u8 11,.int .i64 6,.int .i64 5,.int .i64 sp.at',.int .i64 sp.len,.int .u8 9,.int .i64 7,.int .i64 5,.int .i64 4,.int .i64 16,.int .u8 24,.int .i64 7,.int .i64 0,.int .i64 0,.int .i64 0,.int .u8 11,.int .i64 6,.int .i64 5,.int .i64 sp.at',.int .i64 sp.len,.int .u8 11,.int .i64 6,.int .i64 4,.int .i64 sq.at',.int .i64 sq.len,.int .u8 11,.int .i64 6,.int .i64 5,.int .i64 sp.at',.int .i64 sp.len,.int .u8 27,.int .i64 7,.int .i64 0,.int .i64 0,.int .i64 0,.int .u8 9,.int .i64 7,.int .i64 5,.int .i64 4,.int .i64 16,.int .u8 11,.int .i64 6,.int .i64 5,.int .i64 sp.at',.int .i64 sp.len,.int .u8 11,.int .i64 6,.int .i64 5,.int .i64 sp.at',.int .i64 sp.len] 60 (0,0))),.al 16 14 #[.slice none 0 0,.slice none 0 0] 45,.st 15] ⟨sH,sH,⟨(λv x y hg h=>by obtain⟨g,hv,hsz,hb⟩:=h;exact⟨g,hv,hsz,ai hb hg⟩),by simp⟩,⟨(λv x y hg h=>by obtain⟨g,hv,hsz,hb⟩:=h;exact⟨g,hv,hsz,ai hb hg⟩),λ_=>(λz hz g' v x y hb hm h=>by simp[Kd.zero,Sp.k]at hz;subst hz;obtain⟨g,hv,hsz,hr⟩:=h;exact⟨g,hv,hsz,by rw[hm.block g (lt_of_block hr) (λe=>by rw[e,hb]at hr;simp at hr)];exact hr⟩)⟩,trivial⟩ (cz rfl) ?steps ?done
   case steps =>
    refine⟨?s0,?s1,?s2,?s3,?s4,?s5,?s6,?s7,?s8,?s9,?s10,?s11,?s12,?s13,?s14,?s15,?s16,trivial⟩
    case s0|s1|s5|s7|s11|s12 =>
     refine ok bG (λvs x hG HX hP => ?_);obtain⟨⟨i0,i1,i2⟩,i3,i4⟩:=bR HX.out.1;simp only[zS];go_simp;exact gc
    case s2|s10 =>
     refine ok bG (λvs x hG HX hP => ?_);obtain⟨⟨i0,i1,i2⟩,i3,i4⟩:=bR HX.out.2.2.2;simp only[zS];go_simp;exact gc
    case s3|s8 =>
     refine oo (λvs x hP => ?_);simp only[zS];go_simp;exact gl ⟨_,rfl,heap_alloc_new x _⟩
    case s4 =>
     refine ok bG (λvs x hG HX hP => ?_);obtain⟨g3,h3,b3⟩:=pq hP 3;have HC:=ł (fO 24 (7) (0) g3 _ x b3);simp only[zS,h3];go_simp;refine(HC.out).mono ?_;rintro e y ⟨rfl,hg⟩;exact⟨_,rfl,bu hg rfl⟩
    case s6 =>
     refine ok bG (λvs x hG HX hP => ?_);obtain⟨⟨i0,i1,i2⟩,i3,i4⟩:=bR HX.out.2.1;simp only[zS];go_simp;exact gc
    case s9 =>
     refine ok bG (λvs x hG HX hP => ?_);obtain⟨g8,h8,b8⟩:=pq hP 8;have HC:=ł (fO 27 (7) (0) g8 _ x b8);simp only[zS,h8];go_simp;refine(HC.out).mono ?_;rintro e y ⟨rfl,hg⟩;exact⟨_,rfl,bu hg rfl⟩
    case s13 =>
     refine ok bG (λvs x hG HX hP => ?_);have hsz:=(gtr aT.out hG).size;simp only[zS];go_simp;exact gl ⟨_,rfl,by omega,heap_alloc_new x _⟩
    case s14 =>
     refine ok bG (λvs x hG HX hP => ?_);obtain⟨g13,lg,z13,b13⟩:=pq hP 13;have HC:=ł (X8 (.slice (some ⟨g13,0,none⟩) 11 11) 11 11 x ⟨_,rfl⟩);simp only[zS,lg];go_simp;refine(HC.out).mono ?_;rintro e y ⟨rfl,hg⟩;exact⟨_,rfl,aZ hg ⟨g13,rfl,z13,ai b13 hg⟩⟩
    case s15 =>
     refine oz (λvs x => ?_);simp only[zS];go_simp;exact⟨rfl,rfl⟩
    case s16 =>
     refine os (λvs x g hg hb hv => ?_);obtain⟨zg,lh,Uk,A8⟩:=hv;obtain⟨c0,c1⟩:=aC hb;have zt:=aD hb;simp only[zS,hg,lh];go_simp;exact set2 hb _ _
   case done =>
   intro vs w6 hE;have hG:=hE.grow;obtain⟨zg,lh,Uk,A8⟩:=hE.val 14;obtain⟨g15,a15,l15,m15,b15⟩:=hE.box 15;simp only[zS,lh]at b15;simp only[zS,Nat.reduceAdd,lh,a15];have CB:=ł b15;simp only[bJ]at CB;have dw:=ł (gtr aT.out hG);have uN:=ł (ai kD.out hG);have hrow:=VK (base:=w.heap.size) (l:=([⟨11,6,5,sp.at',sp.len⟩,⟨11,6,5,sp.at',sp.len⟩,⟨9,7,5,4,16⟩,⟨24,7,0,0,0⟩,⟨11,6,5,sp.at',sp.len⟩,⟨11,6,4,sq.at',sq.len⟩,⟨11,6,5,sp.at',sp.len⟩,⟨27,7,0,0,0⟩,⟨9,7,5,4,16⟩,⟨11,6,5,sp.at',sp.len⟩,⟨11,6,5,sp.at',sp.len⟩]:List Ins)) A8 rfl Uk (by simp);have hne1:zg≠g15:=λe=>by have:=A8;rw[e,CB.out]at this;simp at this
   have hne2:zg≠w.heap.size+1+1:=λe=>by have:=A8;rw[e,uN.out]at this;simp at this
   have adf:=lt_of_block A8;have iB:=ł (PN w.heap.size zg 11 ([⟨11,6,5,sp.at',sp.len⟩,⟨11,6,5,sp.at',sp.len⟩,⟨9,7,5,4,16⟩,⟨24,7,0,0,0⟩,⟨11,6,5,sp.at',sp.len⟩,⟨11,6,4,sq.at',sq.len⟩,⟨11,6,5,sp.at',sp.len⟩,⟨27,7,0,0,0⟩,⟨9,7,5,4,16⟩,⟨11,6,5,sp.at',sp.len⟩,⟨11,6,5,sp.at',sp.len⟩]:List Ins) none 0 0 3 7 w6 hrow (by simp) (by simp) (by decide) (by simp));obtain⟨k0,k1⟩:=aC CB.out;have hlb:=lt_of_block CB.out;clear hE hG b15 A8 hrow bG;go_wp2_with fail;refine iB.out.mono ?_;rintro e w7 ⟨rfl,Gy,GY⟩;have Mm:w7.heap[g15]? = _:=(GY.block g15 hlb (λe=>hne1 e.symm)).trans CB.out;have DW:w7.heap[w.heap.size+1+1]? = _:=(GY.block _ (lt_of_block uN.out) (λe=>hne2 e.symm)).trans uN.out;obtain⟨m0,m1⟩:=aC Mm;obtain⟨r0,r1⟩:=aC DW;have rt:=aD DW;have adg:=lt_of_block Mm;have adh:=lt_of_block DW;obtain⟨hs,hm⟩:=set2 DW (.slice (some ⟨zg,0,none⟩) 11 11) (.slice none 0 0);have HS:=ł hs;have aQ:=ł (show Grow w _ from Mv.trans (Mv.trans dw.out GY (λb e => .inr (by omega))) hm (λb e => .inr (by omega)));have Ul:=bM Gy hm (λg hg e=>by subst e;simp[Value.ownBlock]at hg;exact hne2 hg);have gX:=ł (show ay _ (.agg #[.slice (some ⟨zg,0,none⟩) 11 11,.slice none 0 0]) XC from by
    rw[GX.out];exact⟨_,_,_,_,rfl,iF (λ_=>rfl) Ul,ax.nil _ _ _⟩)
   clear hs hm Gy Ul Mm DW GY iB k0 k1;go_wp2_with fail;obtain⟨t0,t1⟩:=aC HS.out;exact bodyPost_ret (v := .agg #[.slice (some ⟨zg,0,none⟩) 11 11,.slice none 0 0]) (by simp[results,Tryz.results106,go_sem,t0,t1]) rfl ⟨_,rfl,gX.out,aQ.out⟩
 · have wQ:=Ml.out hnm;clear Ml dQ;subst wQ;have kJ:(ps.toList == qs.toList)=false:=by rw[y7];simpa[bytes_beq]using hnm
   go_upto_region 3 with fail;clear n0 n1 n2 n3 o0 o1 o2 o3 hl1 hl2 kJ;refine fI 47 [some 22,some 23,some 24,some 25,some 26,none] [[],[],[],[0,1,2],[3],[4]] [3] [.c (.agg #[.int .u8 11,.int .i64 6,.int .i64 5,.int .i64 sp.at',.int .i64 sp.len]),.c (.agg #[.int .u8 11,.int .i64 6,.int .i64 4,.int .i64 sq.at',.int .i64 sq.len]),.c (.agg #[.int .u8 11,.int .i64 6,.int .i64 5,.int .i64 sp.at',.int .i64 sp.len]),.p (λv y=>∃ g,v = .slice (some ⟨g,0,none⟩) 3 3/\ax 5 Ins.cells y (.slice (some ⟨g,0,none⟩) 3 3) ([⟨11,6,5,sp.at',sp.len⟩,⟨11,6,4,sq.at',sq.len⟩,⟨11,6,5,sp.at',sp.len⟩]:List Ins)),.p (λv y=>ay y v (ah ([⟨11,6,5,sp.at',sp.len⟩,⟨11,6,4,sq.at',sq.len⟩,⟨11,6,5,sp.at',sp.len⟩]:List Ins))),.rs (w.heap.size+1+1) 4 #[.slice none 0 0,.slice none 0 0] 45] ⟨sR,sP,trivial⟩ (iP (n:=5) rfl rfl (bB.out)) ?steps ?done
   case steps =>
    refine⟨?s0,?s1,?s2,?s3,?s4,?s5,trivial⟩
    case s0|s2 =>
     refine ok0 aW (λvs x hG HX hP => ?_);obtain⟨⟨i0,i1,i2⟩,i3,i4⟩:=bR HX.out.1;simp only[zS];go_simp;exact gc
    case s1 =>
     refine ok0 aW (λvs x hG HX hP => ?_);obtain⟨⟨i0,i1,i2⟩,i3,i4⟩:=bR HX.out.2.1;simp only[zS];go_simp;exact gc
    case s3 =>
     refine oo (λvs x hP => ?_);simp only[zS];go_simp;exact gl ⟨_,rfl,ax.bN (f:=Ins.cells) (l:=([⟨11,6,5,sp.at',sp.len⟩,⟨11,6,4,sq.at',sq.len⟩,⟨11,6,5,sp.at',sp.len⟩]:List Ins)) (λ_=>rfl) (heap_alloc_new x _) rfl (by simp)⟩
    case s4 =>
     refine ok0 aW (λvs x hG HX hP => ?_);obtain⟨g3,h3,b3⟩:=pq hP 3;have HC:=ł (iG _ _ x b3);simp only[zS,h3];go_simp;refine(HC.out).mono ?_;rintro e y ⟨v,rfl,hp,hg⟩;exact⟨_,rfl,aZ hg hp⟩
    case s5 =>
     refine iQ (λvs x hb hv => ?_);obtain⟨jL,jM,nk,nu,h4,c4,f4⟩:=hv;obtain⟨c0,c1⟩:=aC hb;have zt:=aD hb;simp only[zS,h4];go_simp;exact set2 hb _ _
   case done =>
   intro vs w5 hE;obtain⟨jL,jM,nk,nu,h4,c4,f4⟩:=hE.val 4;have b5:=hE.res 5;simp only[zS,h4]at b5;simp only[zS,Nat.reduceAdd,h4];have HM:=ł (hE.uJ 5);have aQ:=ł (show Grow w w5 from Mv.trans aN.out HM.out (λb e => .inr (by omega)));have bC:=ł (show ay w5 (.agg #[.slice jL (ah ([⟨11,6,5,sp.at',sp.len⟩,⟨11,6,4,sq.at',sq.len⟩,⟨11,6,5,sp.at',sp.len⟩]:List Ins)).code.length jM,.slice nk (ah ([⟨11,6,5,sp.at',sp.len⟩,⟨11,6,4,sq.at',sq.len⟩,⟨11,6,5,sp.at',sp.len⟩]:List Ins)).refs.length nu]) (ah ([⟨11,6,5,sp.at',sp.len⟩,⟨11,6,4,sq.at',sq.len⟩,⟨11,6,5,sp.at',sp.len⟩]:List Ins))from⟨jL,jM,nk,nu,rfl,c4,f4⟩);have HB:=ł b5;clear hE b5 HM c4 f4;simp only[bJ]at HB;go_wp2_with fail;obtain⟨t0,t1⟩:=aC HB.out;exact bodyPost_ret (v := .agg #[.slice jL (ah ([⟨11,6,5,sp.at',sp.len⟩,⟨11,6,4,sq.at',sq.len⟩,⟨11,6,5,sp.at',sp.len⟩]:List Ins)).code.length jM,.slice nk (ah ([⟨11,6,5,sp.at',sp.len⟩,⟨11,6,4,sq.at',sq.len⟩,⟨11,6,5,sp.at',sp.len⟩]:List Ins)).refs.length nu]) (by simp[results,Tryz.results106,go_sem,t0,t1]) rfl ⟨_,rfl,bC.out,aQ.out⟩
end Go.Proofs.YtnobahchcongnaaGreat
