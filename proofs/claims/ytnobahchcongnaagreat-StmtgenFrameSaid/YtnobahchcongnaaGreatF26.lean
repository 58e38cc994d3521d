import Derived.Test.YtnobahchcongnaaGreatF25
set_option linter.unusedSimpArgs false
set_option linter.unusedVariables false
set_option maxRecDepth 100000
set_option maxHeartbeats 25600000
namespace Go.Proofs.YtnobahchcongnaaGreat
open Go.RowKit Go.Instr
theorem W9 (w:World) (G:Nat) (sv pv:Value) (f:az) (procs:List ak) (hg:gD w G sv pv f procs) (k n:Int) (s:ByteArray) (kv:Value) (l:List ae) (hx:aS w (.mk k n s kv l)) (hl:2<l.length) (he1:nG f (l[0]).t) (he2:nG f (l[2]).t) (hc0:0<=f.cells) (hc1:f.cells<=1000)
 (hbk:∀ z,Grow w z->Calls Tryz.prog 30 #[.pointer (some ⟨G,0,none⟩),(l[1]).val] z (bQ z (aV f (procs.map ak.d) (l[1]).t))) (hbl:(aV f (procs.map ak.d) (l[1]).t).code.length<=70000/\(aV f (procs.map ak.d) (l[1]).t).refs.length<=70000) :
 Calls Tryz.prog 88 #[.pointer (some ⟨G,0,none⟩),ae.val (.mk k n s kv l)] w (bQ w (vS f s (l[0]).t (aV f (procs.map ak.d) (l[1]).t) (l[2]).t)):=by
 obtain⟨fa,fc,rfl,hfc,hfl⟩:=hg.fr.row.form;obtain⟨yD,yE,rfl,-,-⟩:=hg.pr.row.form;have h0:0<l.length:=by omega
 obtain⟨kb,ko,kc,bF,-,-⟩:=hx.row.2.2.2.1.at h0;subst bF;have hk0:=dO hx 0 h0;have hk1:=dO hx 1 (by omega);have hk2:=dO hx 2 hl;simp only[Nat.zero_mul,Nat.one_mul,Nat.add_zero,Nat.reduceMul]at hk0 hk1 hk2;have fD:=ł hl;generalize l[0]=pp at *;generalize l[1]=bb at *;generalize l[2]=ee at *;have zZ:=ł (xK w G _ _ f procs hg pp hk0.at_ he1 hc0 hc1);have zX:=ł (xK w G _ _ f procs hg ee hk2.at_ he2 hc0 hc1);have DY:=ł hbk;obtain⟨pk,pn,ps,pv,pl⟩:=pp;obtain⟨pa,pc,rfl,-,-⟩:=hk0.at_.form;obtain⟨bk,bn,bs,bv,bl⟩:=bb;obtain⟨ba,bc,rfl,-,-⟩:=hk1.at_.form;obtain⟨ek,en,es,ev,el⟩:=ee;obtain⟨ea,ec,rfl,-,-⟩:=hk2.at_.form;simp only[ae.val]at zZ zX DY ⊢;have aK:=ł hg;have jD:=ł hk0;have lV:=ł hk1;have DZ:=ł hk2;have iA:=ł (show bH [aH f (ae.t (.mk pk pn ps (.slice pa pl.length pc) pl)) (ah ([⟨10,5,aj f s 1,0,0⟩,⟨21,5,16,0,0⟩,⟨3,5,4,0,0⟩,⟨10,5,aj f s 1,0,0⟩]:List Ins)),aV f (procs.map ak.d) (ae.t (.mk bk bn bs (.slice ba bl.length bc) bl)),aH f (ae.t (.mk ek en es (.slice ea el.length ec) el)) (ah ([⟨10,5,aj f s 1,0,0⟩,⟨3,5,4,0,0⟩,⟨21,5,16,0,0⟩,⟨10,5,aj f s 1,0,0⟩]:List Ins))]<=200000/\bX [aH f (ae.t (.mk pk pn ps (.slice pa pl.length pc) pl)) (ah ([⟨10,5,aj f s 1,0,0⟩,⟨21,5,16,0,0⟩,⟨3,5,4,0,0⟩,⟨10,5,aj f s 1,0,0⟩]:List Ins)),aV f (procs.map ak.d) (ae.t (.mk bk bn bs (.slice ba bl.length bc) bl)),aH f (ae.t (.mk ek en es (.slice ea el.length ec) el)) (ah ([⟨10,5,aj f s 1,0,0⟩,⟨3,5,4,0,0⟩,⟨21,5,16,0,0⟩,⟨10,5,aj f s 1,0,0⟩]:List Ins))]<=200000 from by
  have h1:=mP f (ae.t (.mk pk pn ps (.slice pa pl.length pc) pl)) (ah ([⟨10,5,aj f s 1,0,0⟩,⟨21,5,16,0,0⟩,⟨3,5,4,0,0⟩,⟨10,5,aj f s 1,0,0⟩]:List Ins));have h2:=mP f (ae.t (.mk ek en es (.slice ea el.length ec) el)) (ah ([⟨10,5,aj f s 1,0,0⟩,⟨3,5,4,0,0⟩,⟨21,5,16,0,0⟩,⟨10,5,aj f s 1,0,0⟩]:List Ins));have h3:=he1.l;have h4:=he2.l;have h5:=hbl.1;have h6:=hbl.2;simp only[bH,bX,List.map_cons,List.map_nil,List.sum_cons,List.sum_nil,h1.1,h1.2,h2.1,h2.2];simp only[ah,List.length_cons,List.length_nil]
  omega)
 have lQ:=ł (show vS f s (ae.t (.mk pk pn ps (.slice pa pl.length pc) pl)) (aV f (procs.map ak.d) (ae.t (.mk bk bn bs (.slice ba bl.length bc) bl))) (ae.t (.mk ek en es (.slice ea el.length ec) el))=aP [aH f (ae.t (.mk pk pn ps (.slice pa pl.length pc) pl)) (ah ([⟨10,5,aj f s 1,0,0⟩,⟨21,5,16,0,0⟩,⟨3,5,4,0,0⟩,⟨10,5,aj f s 1,0,0⟩]:List Ins)),aV f (procs.map ak.d) (ae.t (.mk bk bn bs (.slice ba bl.length bc) bl)),aH f (ae.t (.mk ek en es (.slice ea el.length ec) el)) (ah ([⟨10,5,aj f s 1,0,0⟩,⟨3,5,4,0,0⟩,⟨21,5,16,0,0⟩,⟨10,5,aj f s 1,0,0⟩]:List Ins))]from rfl);generalize vS f s (ae.t (.mk pk pn ps (.slice pa pl.length pc) pl)) (aV f (procs.map ak.d) (ae.t (.mk bk bn bs (.slice ba bl.length bc) bl))) (ae.t (.mk ek en es (.slice ea el.length ec) el))=LC at *;have hlc:=lQ.out;subst hlc;obtain⟨aJ,bB,HG2⟩:=a2 w (.cells #[.int .u8 k,.int .i64 n,.string s,.slice (some ⟨kb,ko,none⟩) l.length kc] 26) (.cells #[.slice none 0 0,.slice none 0 0] 45);clear hg hx hk0 hk1 hk2 he1 he2 hbk hbl h0 hl lQ
 go_enter Tryz.func88,Tryz.ntmps88
 go_upto_region 1 with fail;generalize ((w.alloc (.cells #[.int .u8 k,.int .i64 n,.string s,.slice (some ⟨kb,ko,none⟩) l.length kc] 26)).alloc (.cells #[.slice none 0 0,.slice none 0 0] 45))=w2 at *;have HK:=ł (λ(y:World) (hy:Grow w2 y)=>And.intro (aK.out.later (gtr HG2.out hy)) (ai aJ.out hy));refine fI 50 [some 8,some 9,some 10,some 11,some 12,some 13,some 5,none] [[],[],[1],[0,2],[3],[4],[],[6,5]] [4] [.c (.pointer (some ⟨G,0,none⟩)),.c (.pointer (some ⟨w.heap.size,2,none⟩)),.c (.string s),.c (.int .i64 (aj f s 1)),.p (λv y=>∃ g,v = .slice (some ⟨g,0,none⟩) 2 2/\y.heap[g]? = some (.cells #[.int .i64 5,.int .i64 (aj f s 1)] 3 (0,0))),.c (.agg #[.int .u8 10,.int .i64 5,.int .i64 (aj f s 1),.int .i64 0,.int .i64 0]),.al 7 5 #[.int .u8 0,.int .i64 0,.int .i64 0,.int .i64 0,.int .i64 0] 60,.st 6] ⟨sH,trivial⟩ (cz rfl) ?steps ?done
 case steps =>
  refine⟨?s0,?s1,?s2,?s3,?s4,?s5,?s6,?s7,trivial⟩
  case s0|s1 =>
   refine oo (λvs x hP => ?_);simp only[zS];go_simp;exact gc
  case s2 =>
   refine ok0 HK (λvs x hG HX hP => ?_);obtain⟨⟨n0,n1⟩,n2,n3⟩:=aF (HX.out.2);simp only[zS];go_simp;exact gc
  case s3 =>
   refine ok0 HK (λvs x hG HX hP => ?_);have HC:=ł (uG x G _ _ f procs HX.out.1 s 1);simp only[zS];go_simp;refine(HC.out).mono ?_;rintro e y ⟨rfl,hg⟩;exact⟨_,rfl,bu hg rfl⟩
  case s4 =>
   refine oo (λvs x hP => ?_);simp only[zS];go_simp;exact gl ⟨_,rfl,heap_alloc_new x _⟩
  case s5 =>
   refine ok0 HK (λvs x hG HX hP => ?_);obtain⟨g4,h4,b4⟩:=pq hP 4;have HC:=ł (fO 10 (5) ((aj f s 1)) g4 _ x b4);simp only[zS,h4];go_simp;refine(HC.out).mono ?_;rintro e y ⟨rfl,hg⟩;exact⟨_,rfl,bu hg rfl⟩
  case s6 =>
   refine oz (λvs x => ?_);simp only[zS];go_simp;exact⟨rfl,rfl⟩
  case s7 =>
   refine os (λvs x g hg hb hv => ?_);have h5:vs 5=_:=hv;obtain⟨⟨c0,c1,c2⟩,c3,c4⟩:=bR hb;have zt:=aD hb;simp only[zS,hg,h5];go_simp;exact kC hb _ _ _ _ _
 case done =>
 intro vs w3 hE;have hG:=hE.jU;obtain⟨g6,a6,l6,m6,b6⟩:=hE.box 6;simp only[zS]at b6;simp only[zS,Nat.reduceAdd,a6];have HM:=ł b6;simp only[bJ]at HM;have aG:=ł (gtr HG2.out hG);have KW:=ł hG;clear hE hG b6;go_upto_region 2 with fail;refine fI 50 [some 14,some 15,some 6,none] [[],[0],[],[2,1]] [0] [.p (λv y=>∃ g,v = .slice (some ⟨g,0,none⟩) 2 2/\y.heap[g]? = some (.cells #[.int .i64 5,.int .i64 16] 3 (0,0))),.c (.agg #[.int .u8 21,.int .i64 5,.int .i64 16,.int .i64 0,.int .i64 0]),.al 3 1 #[.int .u8 0,.int .i64 0,.int .i64 0,.int .i64 0,.int .i64 0] 60,.st 2] ⟨sH,trivial⟩ (cz rfl) ?steps ?done
 case steps =>
  refine⟨?s0,?s1,?s2,?s3,trivial⟩
  case s0 =>
   refine oo (λvs x hP => ?_);simp only[zS];go_simp;exact gl ⟨_,rfl,heap_alloc_new x _⟩
  case s1 =>
   refine om (λvs x hG hP => ?_);obtain⟨g0,h0,b0⟩:=pq hP 0;have HC:=ł (fO 21 (5) (16) g0 _ x b0);simp only[zS,h0];go_simp;refine(HC.out).mono ?_;rintro e y ⟨rfl,hg⟩;exact⟨_,rfl,bu hg rfl⟩
  case s2 =>
   refine oz (λvs x => ?_);simp only[zS];go_simp;exact⟨rfl,rfl⟩
  case s3 =>
   refine os (λvs x g hg hb hv => ?_);have h1:vs 1=_:=hv;obtain⟨⟨c0,c1,c2⟩,c3,c4⟩:=bR hb;have zt:=aD hb;simp only[zS,hg,h1];go_simp;exact kC hb _ _ _ _ _
 case done =>
 intro vs w4 hE;have hG:=hE.jU;obtain⟨g2,a2,l2,m2,b2⟩:=hE.box 2;simp only[zS]at b2;simp only[zS,Nat.reduceAdd,a2];have HZ:=ł b2;simp only[bJ]at HZ;have qF:=ł hG;have aN:=ł (gtr aG.out hG);clear hE hG b2;go_upto_region 3 with fail;refine fI 50 [some 16,some 17,some 7,none] [[],[0],[],[2,1]] [0] [.p (λv y=>∃ g,v = .slice (some ⟨g,0,none⟩) 2 2/\y.heap[g]? = some (.cells #[.int .i64 5,.int .i64 4] 3 (0,0))),.c (.agg #[.int .u8 3,.int .i64 5,.int .i64 4,.int .i64 0,.int .i64 0]),.al 3 1 #[.int .u8 0,.int .i64 0,.int .i64 0,.int .i64 0,.int .i64 0] 60,.st 2] ⟨sH,trivial⟩ (cz rfl) ?steps ?done
 case steps =>
  refine⟨?s0,?s1,?s2,?s3,trivial⟩
  case s0 =>
   refine oo (λvs x hP => ?_);simp only[zS];go_simp;exact gl ⟨_,rfl,heap_alloc_new x _⟩
  case s1 =>
   refine om (λvs x hG hP => ?_);obtain⟨g0,h0,b0⟩:=pq hP 0;have HC:=ł (fO 3 (5) (4) g0 _ x b0);simp only[zS,h0];go_simp;refine(HC.out).mono ?_;rintro e y ⟨rfl,hg⟩;exact⟨_,rfl,bu hg rfl⟩
  case s2 =>
   refine oz (λvs x => ?_);simp only[zS];go_simp;exact⟨rfl,rfl⟩
  case s3 =>
   refine os (λvs x g hg hb hv => ?_);have h1:vs 1=_:=hv;obtain⟨⟨c0,c1,c2⟩,c3,c4⟩:=bR hb;have zt:=aD hb;simp only[zS,hg,h1];go_simp;exact kC hb _ _ _ _ _
 case done =>
 intro vs w5 hE;have hG:=hE.jU;obtain⟨g2,a2,l2,m2,b2⟩:=hE.box 2;simp only[zS]at b2;simp only[zS,Nat.reduceAdd,a2];have HXB:=ł b2;simp only[bJ]at HXB;have Ry:=ł hG;have aT:=ł (gtr aN.out hG);have Rz:=ł (gtr KW.out (gtr qF.out hG));have kD:=ł (ai bB.out Rz.out);have bG:=ł (λ(y:World) (hy:Grow w5 y)=>And.intro (ai aJ.out (gtr Rz.out hy)) (And.intro (ai HM.out (gtr qF.out (gtr Ry.out hy))) (And.intro (ai HZ.out (gtr Ry.out hy)) (And.intro (ai HXB.out hy) (And.intro (jD.out.later (gtr aT.out hy)) (And.intro (lV.out.later (gtr aT.out hy)) (DZ.out.later (gtr aT.out hy))))))));clear hE hG b2 HK;go_upto_region 4 with fail;refine wg 50 [some 18,some 19,some 20,some 21,some 22,some 23,some 24,some 25,some 26,some 27,some 28,some 29,some 30,some 31,some 32,some 33,some 34,some 35,some 36,some 37,some 38,some 39,some 40,some 41,some 42,some 43,some 44,some 45,some 46,some 47,some 48,some 49,none] [[],[],[1],[2],[3],[],[],[],[],[5,6,7,8],[9],[0,4,10],[],[],[13],[14],[15],[12,16],[],[],[19],[20],[21],[],[],[],[],[23,24,25,26],[27],[18,22,28],[11,17,29],[30],[31]] [9,27,30] [.c (.pointer (some ⟨G,0,none⟩)),.c (.pointer (some ⟨w.heap.size,3,none⟩)),.c (.slice (some ⟨kb,ko,none⟩) l.length kc),.c (.pointer (some ⟨kb,ko,none⟩)),.c (.agg #[.int .u8 pk,.int .i64 pn,.string ps,.slice pa pl.length pc]),.c (.agg #[.int .u8 10,.int .i64 5,.int .i64 (aj f s 1),.int .i64 0,.int .i64 0]),.c (.agg #[.int .u8 21,.int .i64 5,.int .i64 16,.int .i64 0,.int .i64 0]),.c (.agg #[.int .u8 3,.int .i64 5,.int .i64 4,.int .i64 0,.int .i64 0]),.c (.agg #[.int .u8 10,.int .i64 5,.int .i64 (aj f s 1),.int .i64 0,.int .i64 0]),.p (λv y=>∃ g,v = .slice (some ⟨g,0,none⟩) 4 4/\ax 5 Ins.cells y (.slice (some ⟨g,0,none⟩) 4 4) ([⟨10,5,aj f s 1,0,0⟩,⟨21,5,16,0,0⟩,⟨3,5,4,0,0⟩,⟨10,5,aj f s 1,0,0⟩]:List Ins)),.p (λv y=>ay y v (ah ([⟨10,5,aj f s 1,0,0⟩,⟨21,5,16,0,0⟩,⟨3,5,4,0,0⟩,⟨10,5,aj f s 1,0,0⟩]:List Ins))),.p (λv y=>ay y v (aH f (ae.t (.mk pk pn ps (.slice pa pl.length pc) pl)) (ah ([⟨10,5,aj f s 1,0,0⟩,⟨21,5,16,0,0⟩,⟨3,5,4,0,0⟩,⟨10,5,aj f s 1,0,0⟩]:List Ins)))),.c (.pointer (some ⟨G,0,none⟩)),.c (.pointer (some ⟨w.heap.size,3,none⟩)),.c (.slice (some ⟨kb,ko,none⟩) l.length kc),.c (.pointer (some ⟨kb,(ko+4),none⟩)),.c (.agg #[.int .u8 bk,.int .i64 bn,.string bs,.slice ba bl.length bc]),.p (λv y=>ay y v (aV f (procs.map ak.d) (ae.t (.mk bk bn bs (.slice ba bl.length bc) bl)))),.c (.pointer (some ⟨G,0,none⟩)),.c (.pointer (some ⟨w.heap.size,3,none⟩)),.c (.slice (some ⟨kb,ko,none⟩) l.length kc),.c (.pointer (some ⟨kb,(ko+8),none⟩)),.c (.agg #[.int .u8 ek,.int .i64 en,.string es,.slice ea el.length ec]),.c (.agg #[.int .u8 10,.int .i64 5,.int .i64 (aj f s 1),.int .i64 0,.int .i64 0]),.c (.agg #[.int .u8 3,.int .i64 5,.int .i64 4,.int .i64 0,.int .i64 0]),.c (.agg #[.int .u8 21,.int .i64 5,.int .i64 16,.int .i64 0,.int .i64 0]),.c (.agg #[.int .u8 10,.int .i64 5,.int .i64 (aj f s 1),.int .i64 0,.int .i64 0]),.p (λv y=>∃ g,v = .slice (some ⟨g,0,none⟩) 4 4/\ax 5 Ins.cells y (.slice (some ⟨g,0,none⟩) 4 4) ([⟨10,5,aj f s 1,0,0⟩,⟨3,5,4,0,0⟩,⟨21,5,16,0,0⟩,⟨10,5,aj f s 1,0,0⟩]:List Ins)),.p (λv y=>ay y v (ah ([⟨10,5,aj f s 1,0,0⟩,⟨3,5,4,0,0⟩,⟨21,5,16,0,0⟩,⟨10,5,aj f s 1,0,0⟩]:List Ins))),.p (λv y=>ay y v (aH f (ae.t (.mk ek en es (.slice ea el.length ec) el)) (ah ([⟨10,5,aj f s 1,0,0⟩,⟨3,5,4,0,0⟩,⟨21,5,16,0,0⟩,⟨10,5,aj f s 1,0,0⟩]:List Ins)))),.p (λv y=>∃ g,v = .slice (some ⟨g,0,none⟩) 3 3/\iw y (.slice (some ⟨g,0,none⟩) 3 3) [aH f (ae.t (.mk pk pn ps (.slice pa pl.length pc) pl)) (ah ([⟨10,5,aj f s 1,0,0⟩,⟨21,5,16,0,0⟩,⟨3,5,4,0,0⟩,⟨10,5,aj f s 1,0,0⟩]:List Ins)),aV f (procs.map ak.d) (ae.t (.mk bk bn bs (.slice ba bl.length bc) bl)),aH f (ae.t (.mk ek en es (.slice ea el.length ec) el)) (ah ([⟨10,5,aj f s 1,0,0⟩,⟨3,5,4,0,0⟩,⟨21,5,16,0,0⟩,⟨10,5,aj f s 1,0,0⟩]:List Ins))]),.p (λv y=>ay y v (aP [aH f (ae.t (.mk pk pn ps (.slice pa pl.length pc) pl)) (ah ([⟨10,5,aj f s 1,0,0⟩,⟨21,5,16,0,0⟩,⟨3,5,4,0,0⟩,⟨10,5,aj f s 1,0,0⟩]:List Ins)),aV f (procs.map ak.d) (ae.t (.mk bk bn bs (.slice ba bl.length bc) bl)),aH f (ae.t (.mk ek en es (.slice ea el.length ec) el)) (ah ([⟨10,5,aj f s 1,0,0⟩,⟨3,5,4,0,0⟩,⟨21,5,16,0,0⟩,⟨10,5,aj f s 1,0,0⟩]:List Ins))])),.rs (w.heap.size+1) 31 #[.slice none 0 0,.slice none 0 0] 45] (by exact⟨sR,sP,sP,sP,sR,sP,sP,sQ,sP,trivial⟩) (iP (n:=32) rfl rfl (kD.out)) ?steps ?done
 case steps =>
  refine⟨?s0,?s1,?s2,?s3,?s4,?s5,?s6,?s7,?s8,?s9,?s10,?s11,?s12,?s13,?s14,?s15,?s16,?s17,?s18,?s19,?s20,?s21,?s22,?s23,?s24,?s25,?s26,?s27,?s28,?s29,?s30,?s31,?s32,trivial⟩
  case s0|s1|s12|s13|s18|s19 =>
   refine oo (λvs x hP => ?_);simp only[zS];go_simp;exact gc
  case s2|s14|s20 =>
   refine ok bG (λvs x hG HX hP => ?_);obtain⟨⟨n0,n1⟩,n2,n3⟩:=aF (HX.out.1);simp only[zS];go_simp;exact gc
  case s3 =>
   refine ok bG (λvs x hG HX hP => ?_);have hbd:0<l.length:=by have:=fD.out;omega
   simp only[zS];go_simp;exact gc
  case s4 =>
   refine ok bG (λvs x hG HX hP => ?_);obtain⟨⟨d0,d1⟩,d2,d3⟩:=(HX.out.2.2.2.2.1).four;simp only[zS];go_simp;exact gc
  case s5|s8|s23|s26 =>
   refine ok bG (λvs x hG HX hP => ?_);obtain⟨⟨i0,i1,i2⟩,i3,i4⟩:=bR HX.out.2.1;simp only[zS];go_simp;exact gc
  case s6|s25 =>
   refine ok bG (λvs x hG HX hP => ?_);obtain⟨⟨i0,i1,i2⟩,i3,i4⟩:=bR HX.out.2.2.1;simp only[zS];go_simp;exact gc
  case s7|s24 =>
   refine ok bG (λvs x hG HX hP => ?_);obtain⟨⟨i0,i1,i2⟩,i3,i4⟩:=bR HX.out.2.2.2.1;simp only[zS];go_simp;exact gc
  case s9 =>
   refine oo (λvs x hP => ?_);simp only[zS];go_simp;exact gl ⟨_,rfl,ax.bN (f:=Ins.cells) (l:=([⟨10,5,aj f s 1,0,0⟩,⟨21,5,16,0,0⟩,⟨3,5,4,0,0⟩,⟨10,5,aj f s 1,0,0⟩]:List Ins)) (λ_=>rfl) (heap_alloc_new x _) rfl (by simp)⟩
  case s10 =>
   refine ok bG (λvs x hG HX hP => ?_);obtain⟨g9,h9,b9⟩:=pq hP 9;have HC:=ł (iG _ _ x b9);simp only[zS,h9];go_simp;refine(HC.out).mono ?_;rintro e y ⟨v,rfl,hp,hg⟩;exact⟨_,rfl,aZ hg hp⟩
  case s11 =>
   refine ok bG (λvs x hG HX hP => ?_);have z8:=pq hP 10;have FW:=z8;obtain⟨qC,qD,sS,sU,h10,c10,f10⟩:=z8;rw[h10]at FW;have HC:=ł (zZ.out x (gtr aT.out hG) _ _ FW (by simp[ah]));simp only[zS,h10];go_simp;refine(HC.out).mono ?_;rintro e y ⟨v,rfl,hp,hg⟩;exact⟨_,rfl,aZ hg hp⟩
  case s15 =>
   refine ok bG (λvs x hG HX hP => ?_);have hbd:(1:Int)<(l.length:Nat):=by have:=fD.out;omega
   simp only[zS];go_simp;exact gc
  case s16 =>
   refine ok bG (λvs x hG HX hP => ?_);obtain⟨⟨d0,d1⟩,d2,d3⟩:=(HX.out.2.2.2.2.2.1).four;simp only[zS];go_simp;exact gc
  case s17 =>
   refine ok bG (λvs x hG HX hP => ?_);have HC:=ł (DY.out x (gtr aT.out hG));simp only[zS];go_simp;refine(HC.out).mono ?_;rintro e y ⟨v,rfl,hp,hg⟩;exact⟨_,rfl,aZ hg hp⟩
  case s21 =>
   refine ok bG (λvs x hG HX hP => ?_);have hbd:(2:Int)<(l.length:Nat):=by have:=fD.out;omega
   simp only[zS];go_simp;exact gc
  case s22 =>
   refine ok bG (λvs x hG HX hP => ?_);obtain⟨⟨d0,d1⟩,d2,d3⟩:=(HX.out.2.2.2.2.2.2).four;simp only[zS];go_simp;exact gc
  case s27 =>
   refine oo (λvs x hP => ?_);simp only[zS];go_simp;exact gl ⟨_,rfl,ax.bN (f:=Ins.cells) (l:=([⟨10,5,aj f s 1,0,0⟩,⟨3,5,4,0,0⟩,⟨21,5,16,0,0⟩,⟨10,5,aj f s 1,0,0⟩]:List Ins)) (λ_=>rfl) (heap_alloc_new x _) rfl (by simp)⟩
  case s28 =>
   refine ok bG (λvs x hG HX hP => ?_);obtain⟨D5,h27,tY⟩:=pq hP 27;have HC:=ł (iG _ _ x tY);simp only[zS,h27];go_simp;refine(HC.out).mono ?_;rintro e y ⟨v,rfl,hp,hg⟩;exact⟨_,rfl,aZ hg hp⟩
  case s29 =>
   refine ok bG (λvs x hG HX hP => ?_);have p28:=pq hP 28;have FX:=p28;obtain⟨_0,_1,ra28,rc28,D6,c28,f28⟩:=p28;rw[D6]at FX;have HC:=ł (zX.out x (gtr aT.out hG) _ _ FX (by simp[ah]));simp only[zS,D6];go_simp;refine(HC.out).mono ?_;rintro e y ⟨v,rfl,hp,hg⟩;exact⟨_,rfl,aZ hg hp⟩
  case s30 =>
   refine ok bG (λvs x hG HX hP => ?_);have D7:=pq hP 11;have FY:=D7;obtain⟨gH,gI,jw,jy,h11,c11,f11⟩:=D7;rw[h11]at FY;have qY:=pq hP 17;have wD:=qY;obtain⟨nY,nZ,pE,pF,jO,c17,f17⟩:=qY;rw[jO]at wD;have p29:=pq hP 29;have FZ:=p29;obtain⟨RA,RB,ra29,rc29,Aa,c29,f29⟩:=p29;rw[Aa]at FZ;simp only[zS,h11,jO,Aa];go_simp;exact gl ⟨_,rfl,sw (vs:=[(.slice gH (aH f (ae.t (.mk pk pn ps (.slice pa pl.length pc) pl)) (ah ([⟨10,5,aj f s 1,0,0⟩,⟨21,5,16,0,0⟩,⟨3,5,4,0,0⟩,⟨10,5,aj f s 1,0,0⟩]:List Ins))).code.length gI,.slice jw (aH f (ae.t (.mk pk pn ps (.slice pa pl.length pc) pl)) (ah ([⟨10,5,aj f s 1,0,0⟩,⟨21,5,16,0,0⟩,⟨3,5,4,0,0⟩,⟨10,5,aj f s 1,0,0⟩]:List Ins))).refs.length jy),(.slice nY (aV f (procs.map ak.d) (ae.t (.mk bk bn bs (.slice ba bl.length bc) bl))).code.length nZ,.slice pE (aV f (procs.map ak.d) (ae.t (.mk bk bn bs (.slice ba bl.length bc) bl))).refs.length pF),(.slice RA (aH f (ae.t (.mk ek en es (.slice ea el.length ec) el)) (ah ([⟨10,5,aj f s 1,0,0⟩,⟨3,5,4,0,0⟩,⟨21,5,16,0,0⟩,⟨10,5,aj f s 1,0,0⟩]:List Ins))).code.length RB,.slice ra29 (aH f (ae.t (.mk ek en es (.slice ea el.length ec) el)) (ah ([⟨10,5,aj f s 1,0,0⟩,⟨3,5,4,0,0⟩,⟨21,5,16,0,0⟩,⟨10,5,aj f s 1,0,0⟩]:List Ins))).refs.length rc29)]) (heap_alloc_new x _) rfl ⟨ay.later (FY) ((Mv.refl _ _).alloc _),ay.later (wD) ((Mv.refl _ _).alloc _),ay.later (FZ) ((Mv.refl _ _).alloc _),trivial⟩⟩
  case s31 =>
   refine ok bG (λvs x hG HX hP => ?_);obtain⟨g30,Ab,b30⟩:=pq hP 30;have HC:=ł (xJ _ _ x b30 iA.out.1 iA.out.2 (by simp));simp only[zS,Ab];go_simp;refine(HC.out).mono ?_;rintro e y ⟨v,rfl,hp,hg⟩;exact⟨_,rfl,aZ hg hp.at⟩
  case s32 =>
   refine iQ (λvs x hb hv => ?_);obtain⟨F3,F4,ra31,rc31,h31,c31,f31⟩:=hv;obtain⟨c0,c1⟩:=aC hb;have zt:=aD hb;simp only[zS,h31];go_simp;exact set2 hb _ _
 case done =>
 intro vs w6 hE;have z8:=hE.val 10;have FW:=z8;obtain⟨qC,qD,sS,sU,h10,c10,f10⟩:=z8;rw[h10]at FW;have D7:=hE.val 11;have FY:=D7;obtain⟨gH,gI,jw,jy,h11,c11,f11⟩:=D7;rw[h11]at FY;have qY:=hE.val 17;have wD:=qY;obtain⟨nY,nZ,pE,pF,jO,c17,f17⟩:=qY;rw[jO]at wD;have p28:=hE.val 28;have FX:=p28;obtain⟨_0,_1,ra28,rc28,D6,c28,f28⟩:=p28;rw[D6]at FX;have p29:=hE.val 29;have FZ:=p29;obtain⟨RA,RB,ra29,rc29,Aa,c29,f29⟩:=p29;rw[Aa]at FZ;obtain⟨F3,F4,ra31,rc31,h31,c31,f31⟩:=hE.val 31;have b32:=hE.res 32;simp only[zS,h31]at b32;simp only[zS,Nat.reduceAdd,h10,h11,jO,D6,Aa,h31];have HM:=ł (hE.last 32);have aQ:=ł (show Grow w w6 from Mv.trans aT.out HM.out (λb e => .inr (by omega)));have bC:=ł (show ay w6 (.agg #[.slice F3 (aP [aH f (ae.t (.mk pk pn ps (.slice pa pl.length pc) pl)) (ah ([⟨10,5,aj f s 1,0,0⟩,⟨21,5,16,0,0⟩,⟨3,5,4,0,0⟩,⟨10,5,aj f s 1,0,0⟩]:List Ins)),aV f (procs.map ak.d) (ae.t (.mk bk bn bs (.slice ba bl.length bc) bl)),aH f (ae.t (.mk ek en es (.slice ea el.length ec) el)) (ah ([⟨10,5,aj f s 1,0,0⟩,⟨3,5,4,0,0⟩,⟨21,5,16,0,0⟩,⟨10,5,aj f s 1,0,0⟩]:List Ins))]).code.length F4,.slice ra31 (aP [aH f (ae.t (.mk pk pn ps (.slice pa pl.length pc) pl)) (ah ([⟨10,5,aj f s 1,0,0⟩,⟨21,5,16,0,0⟩,⟨3,5,4,0,0⟩,⟨10,5,aj f s 1,0,0⟩]:List Ins)),aV f (procs.map ak.d) (ae.t (.mk bk bn bs (.slice ba bl.length bc) bl)),aH f (ae.t (.mk ek en es (.slice ea el.length ec) el)) (ah ([⟨10,5,aj f s 1,0,0⟩,⟨3,5,4,0,0⟩,⟨21,5,16,0,0⟩,⟨10,5,aj f s 1,0,0⟩]:List Ins))]).refs.length rc31]) (aP [aH f (ae.t (.mk pk pn ps (.slice pa pl.length pc) pl)) (ah ([⟨10,5,aj f s 1,0,0⟩,⟨21,5,16,0,0⟩,⟨3,5,4,0,0⟩,⟨10,5,aj f s 1,0,0⟩]:List Ins)),aV f (procs.map ak.d) (ae.t (.mk bk bn bs (.slice ba bl.length bc) bl)),aH f (ae.t (.mk ek en es (.slice ea el.length ec) el)) (ah ([⟨10,5,aj f s 1,0,0⟩,⟨3,5,4,0,0⟩,⟨21,5,16,0,0⟩,⟨10,5,aj f s 1,0,0⟩]:List Ins))])from⟨F3,F4,ra31,rc31,rfl,c31,f31⟩);have HB:=ł b32;clear hE b32 HM c31 f31;simp only[bJ]at HB;go_wp2_with fail;obtain⟨t0,t1⟩:=aC HB.out;exact bodyPost_ret (v := .agg #[.slice F3 (aP [aH f (ae.t (.mk pk pn ps (.slice pa pl.length pc) pl)) (ah ([⟨10,5,aj f s 1,0,0⟩,⟨21,5,16,0,0⟩,⟨3,5,4,0,0⟩,⟨10,5,aj f s 1,0,0⟩]:List Ins)),aV f (procs.map ak.d) (ae.t (.mk bk bn bs (.slice ba bl.length bc) bl)),aH f (ae.t (.mk ek en es (.slice ea el.length ec) el)) (ah ([⟨10,5,aj f s 1,0,0⟩,⟨3,5,4,0,0⟩,⟨21,5,16,0,0⟩,⟨10,5,aj f s 1,0,0⟩]:List Ins))]).code.length F4,.slice ra31 (aP [aH f (ae.t (.mk pk pn ps (.slice pa pl.length pc) pl)) (ah ([⟨10,5,aj f s 1,0,0⟩,⟨21,5,16,0,0⟩,⟨3,5,4,0,0⟩,⟨10,5,aj f s 1,0,0⟩]:List Ins)),aV f (procs.map ak.d) (ae.t (.mk bk bn bs (.slice ba bl.length bc) bl)),aH f (ae.t (.mk ek en es (.slice ea el.length ec) el)) (ah ([⟨10,5,aj f s 1,0,0⟩,⟨3,5,4,0,0⟩,⟨21,5,16,0,0⟩,⟨10,5,aj f s 1,0,0⟩]:List Ins))]).refs.length rc31]) (by simp[results,Tryz.results88,go_sem,t0,t1]) rfl ⟨_,rfl,bC.out,aQ.out⟩
theorem Xa (w:World) (G:Nat) (sv pv:Value) (f:az) (procs:List ak) (hg:gD w G sv pv f procs) (k n:Int) (s:ByteArray) (kv:Value) (l:List ae) (hx:aS w (.mk k n s kv l)) (hl:0<l.length)
 (hbk:∀ z,Grow w z->Calls Tryz.prog 30 #[.pointer (some ⟨G,0,none⟩),(l[0]).val] z (bQ z (aV f (procs.map ak.d) (l[0]).t))) (hbl:(aV f (procs.map ak.d) (l[0]).t).code.length<=70000/\(aV f (procs.map ak.d) (l[0]).t).refs.length<=70000) :
 Calls Tryz.prog 89 #[.pointer (some ⟨G,0,none⟩),ae.val (.mk k n s kv l)] w (bQ w (vL f s (aV f (procs.map ak.d) (l[0]).t))):=by
 obtain⟨fa,fc,rfl,hfc,hfl⟩:=hg.fr.row.form;obtain⟨yD,yE,rfl,-,-⟩:=hg.pr.row.form;obtain⟨kb,ko,kc,bF,-,-⟩:=hx.row.2.2.2.1.at hl;subst bF;have hk0:=dO hx 0 hl;simp only[Nat.zero_mul,Nat.add_zero]at hk0;have fD:=ł hl;generalize l[0]=bb at *;have DY:=ł hbk;obtain⟨bk,bn,bs,bv,bl⟩:=bb;obtain⟨ba,bc,rfl,-,-⟩:=hk0.at_.form;simp only[ae.val]at DY ⊢;have aK:=ł hg;have jD:=ł hk0;have iA:=ł (show bH [ah ([⟨15,5,aj f s 3,0,0⟩,⟨21,5,16,0,0⟩,⟨15,5,aj f s 3,0,0⟩]:List Ins),aV f (procs.map ak.d) (ae.t (.mk bk bn bs (.slice ba bl.length bc) bl)),ah ([⟨15,5,aj f s 3,0,0⟩,⟨21,5,16,0,0⟩,⟨15,5,aj f s 3,0,0⟩]:List Ins)]<=200000/\bX [ah ([⟨15,5,aj f s 3,0,0⟩,⟨21,5,16,0,0⟩,⟨15,5,aj f s 3,0,0⟩]:List Ins),aV f (procs.map ak.d) (ae.t (.mk bk bn bs (.slice ba bl.length bc) bl)),ah ([⟨15,5,aj f s 3,0,0⟩,⟨21,5,16,0,0⟩,⟨15,5,aj f s 3,0,0⟩]:List Ins)]<=200000 from by
  have h5:=hbl.1;have h6:=hbl.2;simp only[bH,bX,List.map_cons,List.map_nil,List.sum_cons,List.sum_nil];simp only[ah,List.length_cons,List.length_nil]
  omega)
 have lQ:=ł (show vL f s (aV f (procs.map ak.d) (ae.t (.mk bk bn bs (.slice ba bl.length bc) bl)))=aP [ah ([⟨15,5,aj f s 3,0,0⟩,⟨21,5,16,0,0⟩,⟨15,5,aj f s 3,0,0⟩]:List Ins),aV f (procs.map ak.d) (ae.t (.mk bk bn bs (.slice ba bl.length bc) bl)),ah ([⟨15,5,aj f s 3,0,0⟩,⟨21,5,16,0,0⟩,⟨15,5,aj f s 3,0,0⟩]:List Ins)]from rfl);generalize vL f s (aV f (procs.map ak.d) (ae.t (.mk bk bn bs (.slice ba bl.length bc) bl)))=LC at *;have hlc:=lQ.out;subst hlc;obtain⟨aJ,bB,HG2⟩:=a2 w (.cells #[.int .u8 k,.int .i64 n,.string s,.slice (some ⟨kb,ko,none⟩) l.length kc] 26) (.cells #[.slice none 0 0,.slice none 0 0] 45);clear hg hx hk0 hbk hbl hl lQ
 go_enter Tryz.func89,Tryz.ntmps89
 go_upto_region 1 with fail;generalize ((w.alloc (.cells #[.int .u8 k,.int .i64 n,.string s,.slice (some ⟨kb,ko,none⟩) l.length kc] 26)).alloc (.cells #[.slice none 0 0,.slice none 0 0] 45))=w2 at *;have HK:=ł (λ(y:World) (hy:Grow w2 y)=>And.intro (aK.out.later (gtr HG2.out hy)) (ai aJ.out hy));refine fI 29 [some 7,some 8,some 9,some 10,some 11,some 12,some 5,none] [[],[],[1],[0,2],[3],[4],[],[6,5]] [4] [.c (.pointer (some ⟨G,0,none⟩)),.c (.pointer (some ⟨w.heap.size,2,none⟩)),.c (.string s),.c (.int .i64 (aj f s 3)),.p (λv y=>∃ g,v = .slice (some ⟨g,0,none⟩) 2 2/\y.heap[g]? = some (.cells #[.int .i64 5,.int .i64 (aj f s 3)] 3 (0,0))),.c (.agg #[.int .u8 15,.int .i64 5,.int .i64 (aj f s 3),.int .i64 0,.int .i64 0]),.al 7 5 #[.int .u8 0,.int .i64 0,.int .i64 0,.int .i64 0,.int .i64 0] 60,.st 6] ⟨sH,trivial⟩ (cz rfl) ?steps ?done
 case steps =>
  refine⟨?s0,?s1,?s2,?s3,?s4,?s5,?s6,?s7,trivial⟩
  case s0|s1 =>
   refine oo (λvs x hP => ?_);simp only[zS];go_simp;exact gc
  case s2 =>
   refine ok0 HK (λvs x hG HX hP => ?_);obtain⟨⟨n0,n1⟩,n2,n3⟩:=aF (HX.out.2);simp only[zS];go_simp;exact gc
  case s3 =>
   refine ok0 HK (λvs x hG HX hP => ?_);have HC:=ł (uG x G _ _ f procs HX.out.1 s 3);simp only[zS];go_simp;refine(HC.out).mono ?_;rintro e y ⟨rfl,hg⟩;exact⟨_,rfl,bu hg rfl⟩
  case s4 =>
   refine oo (λvs x hP => ?_);simp only[zS];go_simp;exact gl ⟨_,rfl,heap_alloc_new x _⟩
  case s5 =>
   refine ok0 HK (λvs x hG HX hP => ?_);obtain⟨g4,h4,b4⟩:=pq hP 4;have HC:=ł (fO 15 (5) ((aj f s 3)) g4 _ x b4);simp only[zS,h4];go_simp;refine(HC.out).mono ?_;rintro e y ⟨rfl,hg⟩;exact⟨_,rfl,bu hg rfl⟩
  case s6 =>
   refine oz (λvs x => ?_);simp only[zS];go_simp;exact⟨rfl,rfl⟩
  case s7 =>
   refine os (λvs x g hg hb hv => ?_);have h5:vs 5=_:=hv;obtain⟨⟨c0,c1,c2⟩,c3,c4⟩:=bR hb;have zt:=aD hb;simp only[zS,hg,h5];go_simp;exact kC hb _ _ _ _ _
 case done =>
 intro vs w3 hE;have hG:=hE.jU;obtain⟨g6,a6,l6,m6,b6⟩:=hE.box 6;simp only[zS]at b6;simp only[zS,Nat.reduceAdd,a6];have HM:=ł b6;simp only[bJ]at HM;have aG:=ł (gtr HG2.out hG);have KW:=ł hG;have bL:=ł (λ(y:World) (hy:Grow w3 y)=>ai HM.out hy);clear hE hG b6;go_upto_region 2 with fail;refine wg 29 [some 13,some 14,some 15,some 16,some 17,some 18,some 6,none] [[],[],[1],[],[0,2,3],[4],[],[6,5]] [1,4] [.c (.agg #[.int .u8 15,.int .i64 5,.int .i64 (aj f s 3),.int .i64 0,.int .i64 0]),.p (λv y=>∃ g,v = .slice (some ⟨g,0,none⟩) 2 2/\y.heap[g]? = some (.cells #[.int .i64 5,.int .i64 16] 3 (0,0))),.c (.agg #[.int .u8 21,.int .i64 5,.int .i64 16,.int .i64 0,.int .i64 0]),.c (.agg #[.int .u8 15,.int .i64 5,.int .i64 (aj f s 3),.int .i64 0,.int .i64 0]),.p (λv y=>∃ g,v = .slice (some ⟨g,0,none⟩) 3 3/\ax 5 Ins.cells y (.slice (some ⟨g,0,none⟩) 3 3) ([⟨15,5,aj f s 3,0,0⟩,⟨21,5,16,0,0⟩,⟨15,5,aj f s 3,0,0⟩]:List Ins)),.p (λv y=>ay y v (ah ([⟨15,5,aj f s 3,0,0⟩,⟨21,5,16,0,0⟩,⟨15,5,aj f s 3,0,0⟩]:List Ins))),.al 7 5 #[.slice none 0 0,.slice none 0 0] 45,.st 6] ⟨sH,sR,sP,trivial⟩ (cz rfl) ?steps ?done
 case steps =>
  refine⟨?s0,?s1,?s2,?s3,?s4,?s5,?s6,?s7,trivial⟩
  case s0|s3 =>
   refine ok bL (λvs x hG HX hP => ?_);obtain⟨⟨i0,i1,i2⟩,i3,i4⟩:=bR HX.out;simp only[zS];go_simp;exact gc
  case s1 =>
   refine oo (λvs x hP => ?_);simp only[zS];go_simp;exact gl ⟨_,rfl,heap_alloc_new x _⟩
  case s2 =>
   refine ok bL (λvs x hG HX hP => ?_);obtain⟨g1,h1,b1⟩:=pq hP 1;have HC:=ł (fO 21 (5) (16) g1 _ x b1);simp only[zS,h1];go_simp;refine(HC.out).mono ?_;rintro e y ⟨rfl,hg⟩;exact⟨_,rfl,bu hg rfl⟩
  case s4 =>
   refine oo (λvs x hP => ?_);simp only[zS];go_simp;exact gl ⟨_,rfl,ax.bN (f:=Ins.cells) (l:=([⟨15,5,aj f s 3,0,0⟩,⟨21,5,16,0,0⟩,⟨15,5,aj f s 3,0,0⟩]:List Ins)) (λ_=>rfl) (heap_alloc_new x _) rfl (by simp)⟩
  case s5 =>
   refine ok bL (λvs x hG HX hP => ?_);obtain⟨g4,h4,b4⟩:=pq hP 4;have HC:=ł (iG _ _ x b4);simp only[zS,h4];go_simp;refine(HC.out).mono ?_;rintro e y ⟨v,rfl,hp,hg⟩;exact⟨_,rfl,aZ hg hp⟩
  case s6 =>
   refine oz (λvs x => ?_);simp only[zS];go_simp;exact⟨rfl,rfl⟩
  case s7 =>
   refine os (λvs x g hg hb hv => ?_);obtain⟨iV,iW,kH,kI,h5,c5,f5⟩:=hv;obtain⟨c0,c1⟩:=aC hb;have zt:=aD hb;simp only[zS,hg,h5];go_simp;exact set2 hb _ _
 case done =>
 intro vs w4 hE;have hG:=hE.grow;obtain⟨iV,iW,kH,kI,h5,c5,f5⟩:=hE.val 5;obtain⟨g6,a6,l6,m6,b6⟩:=hE.box 6;simp only[zS,h5]at b6;simp only[zS,Nat.reduceAdd,h5,a6];have lU:=ł b6;simp only[bJ]at lU;have oM:=ł (show ay w4 (.agg #[.slice iV (ah ([⟨15,5,aj f s 3,0,0⟩,⟨21,5,16,0,0⟩,⟨15,5,aj f s 3,0,0⟩]:List Ins)).code.length iW,.slice kH (ah ([⟨15,5,aj f s 3,0,0⟩,⟨21,5,16,0,0⟩,⟨15,5,aj f s 3,0,0⟩]:List Ins)).refs.length kI]) (ah ([⟨15,5,aj f s 3,0,0⟩,⟨21,5,16,0,0⟩,⟨15,5,aj f s 3,0,0⟩]:List Ins))from⟨iV,iW,kH,kI,rfl,c5,f5⟩);have RD:=ł (gtr KW.out hG);have aN:=ł (gtr aG.out hG);have jg:=ł (ai bB.out RD.out);have aW:=ł (λ(y:World) (hy:Grow w4 y)=>And.intro (ai aJ.out (gtr RD.out hy)) (And.intro (ai lU.out hy) (And.intro (oM.out.later hy) (jD.out.later (gtr aN.out hy)))));clear hE hG b6 c5 f5 HK bL;go_upto_region 3 with fail;refine wg 29 [some 19,some 20,some 21,some 22,some 23,some 24,some 25,some 26,some 27,some 28,none] [[],[],[],[2],[3],[4],[1,5],[],[0,6,7],[8],[9]] [8] [.c (.agg #[.slice iV (ah ([⟨15,5,aj f s 3,0,0⟩,⟨21,5,16,0,0⟩,⟨15,5,aj f s 3,0,0⟩]:List Ins)).code.length iW,.slice kH (ah ([⟨15,5,aj f s 3,0,0⟩,⟨21,5,16,0,0⟩,⟨15,5,aj f s 3,0,0⟩]:List Ins)).refs.length kI]),.c (.pointer (some ⟨G,0,none⟩)),.c (.pointer (some ⟨w.heap.size,3,none⟩)),.c (.slice (some ⟨kb,ko,none⟩) l.length kc),.c (.pointer (some ⟨kb,ko,none⟩)),.c (.agg #[.int .u8 bk,.int .i64 bn,.string bs,.slice ba bl.length bc]),.p (λv y=>ay y v (aV f (procs.map ak.d) (ae.t (.mk bk bn bs (.slice ba bl.length bc) bl)))),.c (.agg #[.slice iV (ah ([⟨15,5,aj f s 3,0,0⟩,⟨21,5,16,0,0⟩,⟨15,5,aj f s 3,0,0⟩]:List Ins)).code.length iW,.slice kH (ah ([⟨15,5,aj f s 3,0,0⟩,⟨21,5,16,0,0⟩,⟨15,5,aj f s 3,0,0⟩]:List Ins)).refs.length kI]),.p (λv y=>∃ g,v = .slice (some ⟨g,0,none⟩) 3 3/\iw y (.slice (some ⟨g,0,none⟩) 3 3) [ah ([⟨15,5,aj f s 3,0,0⟩,⟨21,5,16,0,0⟩,⟨15,5,aj f s 3,0,0⟩]:List Ins),aV f (procs.map ak.d) (ae.t (.mk bk bn bs (.slice ba bl.length bc) bl)),ah ([⟨15,5,aj f s 3,0,0⟩,⟨21,5,16,0,0⟩,⟨15,5,aj f s 3,0,0⟩]:List Ins)]),.p (λv y=>ay y v (aP [ah ([⟨15,5,aj f s 3,0,0⟩,⟨21,5,16,0,0⟩,⟨15,5,aj f s 3,0,0⟩]:List Ins),aV f (procs.map ak.d) (ae.t (.mk bk bn bs (.slice ba bl.length bc) bl)),ah ([⟨15,5,aj f s 3,0,0⟩,⟨21,5,16,0,0⟩,⟨15,5,aj f s 3,0,0⟩]:List Ins)])),.rs (w.heap.size+1) 9 #[.slice none 0 0,.slice none 0 0] 45] ⟨sP,sQ,sP,trivial⟩ (iP (n:=10) rfl rfl (jg.out)) ?steps ?done
 case steps =>
  refine⟨?s0,?s1,?s2,?s3,?s4,?s5,?s6,?s7,?s8,?s9,?s10,trivial⟩
  case s0|s7 =>
   refine ok aW (λvs x hG HX hP => ?_);obtain⟨i0,i1⟩:=aC HX.out.2.1;simp only[zS];go_simp;exact gc
  case s1|s2 =>
   refine oo (λvs x hP => ?_);simp only[zS];go_simp;exact gc
  case s3 =>
   refine ok aW (λvs x hG HX hP => ?_);obtain⟨⟨n0,n1⟩,n2,n3⟩:=aF (HX.out.1);simp only[zS];go_simp;exact gc
  case s4 =>
   refine ok aW (λvs x hG HX hP => ?_);have hbd:0<l.length:=by have:=fD.out;omega
   simp only[zS];go_simp;exact gc
  case s5 =>
   refine ok aW (λvs x hG HX hP => ?_);obtain⟨⟨d0,d1⟩,d2,d3⟩:=(HX.out.2.2.2).four;simp only[zS];go_simp;exact gc
  case s6 =>
   refine ok aW (λvs x hG HX hP => ?_);have HC:=ł (DY.out x (gtr aN.out hG));simp only[zS];go_simp;refine(HC.out).mono ?_;rintro e y ⟨v,rfl,hp,hg⟩;exact⟨_,rfl,aZ hg hp⟩
  case s8 =>
   refine ok aW (λvs x hG HX hP => ?_);have p6:=pq hP 6;have G6:=p6;obtain⟨tO,tQ,zU,zV,h6,c6,f6⟩:=p6;rw[h6]at G6;simp only[zS,h6];go_simp;exact gl ⟨_,rfl,sw (vs:=[(.slice iV (ah ([⟨15,5,aj f s 3,0,0⟩,⟨21,5,16,0,0⟩,⟨15,5,aj f s 3,0,0⟩]:List Ins)).code.length iW,.slice kH (ah ([⟨15,5,aj f s 3,0,0⟩,⟨21,5,16,0,0⟩,⟨15,5,aj f s 3,0,0⟩]:List Ins)).refs.length kI),(.slice tO (aV f (procs.map ak.d) (ae.t (.mk bk bn bs (.slice ba bl.length bc) bl))).code.length tQ,.slice zU (aV f (procs.map ak.d) (ae.t (.mk bk bn bs (.slice ba bl.length bc) bl))).refs.length zV),(.slice iV (ah ([⟨15,5,aj f s 3,0,0⟩,⟨21,5,16,0,0⟩,⟨15,5,aj f s 3,0,0⟩]:List Ins)).code.length iW,.slice kH (ah ([⟨15,5,aj f s 3,0,0⟩,⟨21,5,16,0,0⟩,⟨15,5,aj f s 3,0,0⟩]:List Ins)).refs.length kI)]) (heap_alloc_new x _) rfl ⟨ay.later (HX.out.2.2.1) ((Mv.refl _ _).alloc _),ay.later (G6) ((Mv.refl _ _).alloc _),ay.later (HX.out.2.2.1) ((Mv.refl _ _).alloc _),trivial⟩⟩
  case s9 =>
   refine ok aW (λvs x hG HX hP => ?_);obtain⟨g8,h8,b8⟩:=pq hP 8;have HC:=ł (xJ _ _ x b8 iA.out.1 iA.out.2 (by simp));simp only[zS,h8];go_simp;refine(HC.out).mono ?_;rintro e y ⟨v,rfl,hp,hg⟩;exact⟨_,rfl,aZ hg hp.at⟩
  case s10 =>
   refine iQ (λvs x hb hv => ?_);obtain⟨fK,fM,gq,gu,h9,c9,f9⟩:=hv;obtain⟨c0,c1⟩:=aC hb;have zt:=aD hb;simp only[zS,h9];go_simp;exact set2 hb _ _
 case done =>
 intro vs w5 hE;have p6:=hE.val 6;have G6:=p6;obtain⟨tO,tQ,zU,zV,h6,c6,f6⟩:=p6;rw[h6]at G6;obtain⟨fK,fM,gq,gu,h9,c9,f9⟩:=hE.val 9;have b10:=hE.res 10;simp only[zS,h9]at b10;simp only[zS,Nat.reduceAdd,h6,h9];have HM:=ł (hE.last 10);have aQ:=ł (show Grow w w5 from Mv.trans aN.out HM.out (λb e => .inr (by omega)));have bC:=ł (show ay w5 (.agg #[.slice fK (aP [ah ([⟨15,5,aj f s 3,0,0⟩,⟨21,5,16,0,0⟩,⟨15,5,aj f s 3,0,0⟩]:List Ins),aV f (procs.map ak.d) (ae.t (.mk bk bn bs (.slice ba bl.length bc) bl)),ah ([⟨15,5,aj f s 3,0,0⟩,⟨21,5,16,0,0⟩,⟨15,5,aj f s 3,0,0⟩]:List Ins)]).code.length fM,.slice gq (aP [ah ([⟨15,5,aj f s 3,0,0⟩,⟨21,5,16,0,0⟩,⟨15,5,aj f s 3,0,0⟩]:List Ins),aV f (procs.map ak.d) (ae.t (.mk bk bn bs (.slice ba bl.length bc) bl)),ah ([⟨15,5,aj f s 3,0,0⟩,⟨21,5,16,0,0⟩,⟨15,5,aj f s 3,0,0⟩]:List Ins)]).refs.length gu]) (aP [ah ([⟨15,5,aj f s 3,0,0⟩,⟨21,5,16,0,0⟩,⟨15,5,aj f s 3,0,0⟩]:List Ins),aV f (procs.map ak.d) (ae.t (.mk bk bn bs (.slice ba bl.length bc) bl)),ah ([⟨15,5,aj f s 3,0,0⟩,⟨21,5,16,0,0⟩,⟨15,5,aj f s 3,0,0⟩]:List Ins)])from⟨fK,fM,gq,gu,rfl,c9,f9⟩);have HB:=ł b10;clear hE b10 HM c9 f9;simp only[bJ]at HB;go_wp2_with fail;obtain⟨t0,t1⟩:=aC HB.out;exact bodyPost_ret (v := .agg #[.slice fK (aP [ah ([⟨15,5,aj f s 3,0,0⟩,⟨21,5,16,0,0⟩,⟨15,5,aj f s 3,0,0⟩]:List Ins),aV f (procs.map ak.d) (ae.t (.mk bk bn bs (.slice ba bl.length bc) bl)),ah ([⟨15,5,aj f s 3,0,0⟩,⟨21,5,16,0,0⟩,⟨15,5,aj f s 3,0,0⟩]:List Ins)]).code.length fM,.slice gq (aP [ah ([⟨15,5,aj f s 3,0,0⟩,⟨21,5,16,0,0⟩,⟨15,5,aj f s 3,0,0⟩]:List Ins),aV f (procs.map ak.d) (ae.t (.mk bk bn bs (.slice ba bl.length bc) bl)),ah ([⟨15,5,aj f s 3,0,0⟩,⟨21,5,16,0,0⟩,⟨15,5,aj f s 3,0,0⟩]:List Ins)]).refs.length gu]) (by simp[results,Tryz.results89,go_sem,t0,t1]) rfl ⟨_,rfl,bC.out,aQ.out⟩
end Go.Proofs.YtnobahchcongnaaGreat
