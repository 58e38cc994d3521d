import Derived.Test.YtnobahchcongnaaGreatF29
set_option linter.unusedSimpArgs false
set_option linter.unusedVariables false
set_option maxRecDepth 100000
set_option maxHeartbeats 25600000
namespace Go.Proofs.YtnobahchcongnaaGreat
open Go.RowKit Go.Instr
theorem Yc (w:World) (G:Nat) (sv pv:Value) (f:az) (procs:List ak) (hg:gD w G sv pv f procs) (k n:Int) (s:ByteArray) (kv:Value) (l:List ae) (hx:aS w (.mk k n s kv l)) (hl:3<l.length) (he1:nG f (l[0]).t) (he2:nG f (l[3]).t) (hc0:0<=f.cells) (hc1:f.cells<=1000)
 (hbk1:∀ z,Grow w z->Calls Tryz.prog 30 #[.pointer (some ⟨G,0,none⟩),(l[1]).val] z (bQ z (aV f (procs.map ak.d) (l[1]).t))) (hbk2:∀ z,Grow w z->Calls Tryz.prog 30 #[.pointer (some ⟨G,0,none⟩),(l[2]).val] z (bQ z (aV f (procs.map ak.d) (l[2]).t)))
 (hbl:(aV f (procs.map ak.d) (l[1]).t).code.length+(aV f (procs.map ak.d) (l[2]).t).code.length<=70000/\(aV f (procs.map ak.d) (l[1]).t).refs.length+(aV f (procs.map ak.d) (l[2]).t).refs.length<=70000) :
 Calls Tryz.prog 87 #[.pointer (some ⟨G,0,none⟩),ae.val (.mk k n s kv l)] w (bQ w (vV f (l[0]).t (aV f (procs.map ak.d) (l[1]).t) (aV f (procs.map ak.d) (l[2]).t) (l[3]).t)):=by
 obtain⟨fa,fc,rfl,hfc,hfl⟩:=hg.fr.row.form;obtain⟨yD,yE,rfl,-,-⟩:=hg.pr.row.form;have h0:0<l.length:=by omega
 obtain⟨kb,ko,kc,bF,-,-⟩:=hx.row.2.2.2.1.at h0;subst bF;have hk0:=dO hx 0 h0;have hk1:=dO hx 1 (by omega);have hk2:=dO hx 2 (by omega);have hk3:=dO hx 3 hl;simp only[Nat.zero_mul,Nat.one_mul,Nat.add_zero,Nat.reduceMul]at hk0 hk1 hk2 hk3;have fD:=ł hl;generalize l[0]=pp at *;generalize l[1]=bb at *;generalize l[2]=dd at *;generalize l[3]=ee at *;have HT1:=ł (λ(z:World) (hz:Grow w z)=>EF z G _ _ f procs (hg.later hz) pp (hk0.at_.later hz) he1.e he1.s hc0 hc1 he1.d (Nat.le_trans he1.l (by decide)));have HT2:=ł (λ(z:World) (hz:Grow w z)=>EF z G _ _ f procs (hg.later hz) ee (hk3.at_.later hz) he2.e he2.s hc0 hc1 he2.d (Nat.le_trans he2.l (by decide)));have HB1:=ł hbk1;have HB2:=ł hbk2;obtain⟨pk,pn,ps,pv,pl⟩:=pp;obtain⟨pa,pc,rfl,-,-⟩:=hk0.at_.form;obtain⟨bk,bn,bs,bv,bl⟩:=bb;obtain⟨ba,bc,rfl,-,-⟩:=hk1.at_.form;obtain⟨dk,dn,ds,dv,dl⟩:=dd;obtain⟨da,dc,rfl,-,-⟩:=hk2.at_.form;obtain⟨ek,en,es,ev,el⟩:=ee;obtain⟨ea,ec,rfl,-,-⟩:=hk3.at_.form;simp only[ae.val]at HT1 HT2 HB1 HB2 ⊢;have jD:=ł hk0;have lV:=ł hk1;have DZ:=ł hk2;have KX:=ł hk3;have hln:(eU f (ae.t (.mk pk pn ps (.slice pa pl.length pc) pl))).code.length=2 * (eP f (ae.t (.mk pk pn ps (.slice pa pl.length pc) pl))).length+3/\(eU f (ae.t (.mk ek en es (.slice ea el.length ec) el))).code.length=2 * (eP f (ae.t (.mk ek en es (.slice ea el.length ec) el))).length+3:=⟨by rw[eU,(mP _ _ _).1];rfl,by rw[eU,(mP _ _ _).1];rfl⟩;have hrn:(eU f (ae.t (.mk pk pn ps (.slice pa pl.length pc) pl))).refs.length=0/\(eU f (ae.t (.mk ek en es (.slice ea el.length ec) el))).refs.length=0:=⟨rfl,rfl⟩;have KY:=he1.l;have KZ:=he2.l;obtain⟨K3,K4⟩:=hbl;have CL:=ł (show ∀ PA PB PD PE,PA=eU f (ae.t (.mk pk pn ps (.slice pa pl.length pc) pl))->PB=aV f (procs.map ak.d) (ae.t (.mk bk bn bs (.slice ba bl.length bc) bl))->PD=aV f (procs.map ak.d) (ae.t (.mk dk dn ds (.slice da dl.length dc) dl))->PE=eU f (ae.t (.mk ek en es (.slice ea el.length ec) el))->vV f (ae.t (.mk pk pn ps (.slice pa pl.length pc) pl)) (aV f (procs.map ak.d) (ae.t (.mk bk bn bs (.slice ba bl.length bc) bl))) (aV f (procs.map ak.d) (ae.t (.mk dk dn ds (.slice da dl.length dc) dl))) (ae.t (.mk ek en es (.slice ea el.length ec) el))=nU (nU (aP [ah ([⟨6,0,1,0,0⟩,⟨26,0,0,0,0⟩]:List Ins),PA,ah ([⟨21,0,15,0,0⟩]:List Ins),PB,ah ([⟨21,0,15,0,0⟩]:List Ins),PE,ah ([⟨24,0,0,0,0⟩]:List Ins),PD,ah ([⟨22,0,0,0,0⟩,⟨25,0,0,0,0⟩,⟨6,0,1,0,0⟩]:List Ins)]) 1 (4+(PA).code.length+(PB).code.length+(PE).code.length+1+(PD).code.length)) (4+(PA).code.length+(PB).code.length+(PE).code.length) ((4+(PA).code.length+(PB).code.length+(PE).code.length+1+(PD).code.length)+1)from by rintro _ _ _ _ rfl rfl rfl rfl;rfl);generalize vV f (ae.t (.mk pk pn ps (.slice pa pl.length pc) pl)) (aV f (procs.map ak.d) (ae.t (.mk bk bn bs (.slice ba bl.length bc) bl))) (aV f (procs.map ak.d) (ae.t (.mk dk dn ds (.slice da dl.length dc) dl))) (ae.t (.mk ek en es (.slice ea el.length ec) el))=XC at *;have K5:=ł (CL.out _ _ _ _ rfl rfl rfl rfl);clear CL;generalize eU f (ae.t (.mk pk pn ps (.slice pa pl.length pc) pl))=PA at *;generalize eU f (ae.t (.mk ek en es (.slice ea el.length ec) el))=PE at *;generalize aV f (procs.map ak.d) (ae.t (.mk bk bn bs (.slice ba bl.length bc) bl))=PB at *;generalize aV f (procs.map ak.d) (ae.t (.mk dk dn ds (.slice da dl.length dc) dl))=PD at *;have qV:=ł (show bH [ah ([⟨6,0,1,0,0⟩,⟨26,0,0,0,0⟩]:List Ins),PA,ah ([⟨21,0,15,0,0⟩]:List Ins),PB,ah ([⟨21,0,15,0,0⟩]:List Ins),PE,ah ([⟨24,0,0,0,0⟩]:List Ins),PD,ah ([⟨22,0,0,0,0⟩,⟨25,0,0,0,0⟩,⟨6,0,1,0,0⟩]:List Ins)]=2+(PA).code.length+1+(PB).code.length+1+(PE).code.length+1+(PD).code.length+3 from by
  simp only[bH,List.map_cons,List.map_nil,List.sum_cons,List.sum_nil,ah,List.length_cons,List.length_nil];omega)
 have iA:=ł (show bH [ah ([⟨6,0,1,0,0⟩,⟨26,0,0,0,0⟩]:List Ins),PA,ah ([⟨21,0,15,0,0⟩]:List Ins),PB,ah ([⟨21,0,15,0,0⟩]:List Ins),PE,ah ([⟨24,0,0,0,0⟩]:List Ins),PD,ah ([⟨22,0,0,0,0⟩,⟨25,0,0,0,0⟩,⟨6,0,1,0,0⟩]:List Ins)]<=200000/\bX [ah ([⟨6,0,1,0,0⟩,⟨26,0,0,0,0⟩]:List Ins),PA,ah ([⟨21,0,15,0,0⟩]:List Ins),PB,ah ([⟨21,0,15,0,0⟩]:List Ins),PE,ah ([⟨24,0,0,0,0⟩]:List Ins),PD,ah ([⟨22,0,0,0,0⟩,⟨25,0,0,0,0⟩,⟨6,0,1,0,0⟩]:List Ins)]<=200000 from by
  rw[qV.out];simp only[bX,List.map_cons,List.map_nil,List.sum_cons,List.sum_nil,ah,List.length_cons,List.length_nil]
  omega)
 have jP:=ł (show(PA).code.length<=50000/\(PB).code.length+(PD).code.length<=70000/\(PE).code.length<=50000 from by omega);obtain⟨aJ,bB,HG2⟩:=a2 w (.cells #[.int .u8 k,.int .i64 n,.string s,.slice (some ⟨kb,ko,none⟩) l.length kc] 26) (.cells #[.slice none 0 0,.slice none 0 0] 45);clear hg hx hk0 hk1 hk2 hk3 he1 he2 hbk1 hbk2 K3 K4 h0 hl hln hrn KY KZ
 go_enter Tryz.func87,Tryz.ntmps87
 go_upto_region 1 with fail;generalize ((w.alloc (.cells #[.int .u8 k,.int .i64 n,.string s,.slice (some ⟨kb,ko,none⟩) l.length kc] 26)).alloc (.cells #[.slice none 0 0,.slice none 0 0] 45))=w2 at *;refine fI 97 [some 14,some 15,some 16,some 17,some 5,some 6,none,none] [[],[0],[],[2],[],[],[4,1],[5,3]] [0,2] [.p (λv y=>∃ g,v = .slice (some ⟨g,0,none⟩) 2 2/\y.heap[g]? = some (.cells #[.int .i64 0,.int .i64 15] 3 (0,0))),.c (.agg #[.int .u8 21,.int .i64 0,.int .i64 15,.int .i64 0,.int .i64 0]),.p (λv y=>∃ g,v = .slice (some ⟨g,0,none⟩) 2 2/\y.heap[g]? = some (.cells #[.int .i64 0,.int .i64 1] 3 (0,0))),.c (.agg #[.int .u8 6,.int .i64 0,.int .i64 1,.int .i64 0,.int .i64 0]),.al 6 1 #[.int .u8 0,.int .i64 0,.int .i64 0,.int .i64 0,.int .i64 0] 60,.al 7 3 #[.int .u8 0,.int .i64 0,.int .i64 0,.int .i64 0,.int .i64 0] 60,.st 4,.st 5] ⟨sH,sH,trivial⟩ (cz rfl) ?steps ?done
 case steps =>
  refine⟨?s0,?s1,?s2,?s3,?s4,?s5,?s6,?s7,trivial⟩
  case s0|s2 =>
   refine oo (λvs x hP => ?_);simp only[zS];go_simp;exact gl ⟨_,rfl,heap_alloc_new x _⟩
  case s1 =>
   refine om (λvs x hG hP => ?_);obtain⟨g0,h0,b0⟩:=pq hP 0;have HC:=ł (fO 21 (0) (15) g0 _ x b0);simp only[zS,h0];go_simp;refine(HC.out).mono ?_;rintro e y ⟨rfl,hg⟩;exact⟨_,rfl,bu hg rfl⟩
  case s3 =>
   refine om (λvs x hG hP => ?_);obtain⟨g2,h2,b2⟩:=pq hP 2;have HC:=ł (fO 6 (0) (1) g2 _ x b2);simp only[zS,h2];go_simp;refine(HC.out).mono ?_;rintro e y ⟨rfl,hg⟩;exact⟨_,rfl,bu hg rfl⟩
  case s4|s5 =>
   refine oz (λvs x => ?_);simp only[zS];go_simp;exact⟨rfl,rfl⟩
  case s6 =>
   refine os (λvs x g hg hb hv => ?_);have h1:vs 1=_:=hv;obtain⟨⟨c0,c1,c2⟩,c3,c4⟩:=bR hb;have zt:=aD hb;simp only[zS,hg,h1];go_simp;exact kC hb _ _ _ _ _
  case s7 =>
   refine os (λvs x g hg hb hv => ?_);have h3:vs 3=_:=hv;obtain⟨⟨c0,c1,c2⟩,c3,c4⟩:=bR hb;have zt:=aD hb;simp only[zS,hg,h3];go_simp;exact kC hb _ _ _ _ _
 case done =>
 intro vs w3 hE;have hG:=hE.jU;obtain⟨g4,a4,l4,m4,b4⟩:=hE.box 4;obtain⟨g5,a5,l5,m5,b5⟩:=hE.box 5;simp only[zS]at b4;simp only[zS]at b5;simp only[zS,Nat.reduceAdd,a4,a5];have HZ:=ł b4;have HT:=ł b5;simp only[bJ]at HZ HT;have aG:=ł (gtr HG2.out hG);have sO:=ł (ai bB.out hG);have bL:=ł (λ(y:World) (hy:Grow w3 y)=>And.intro (ai aJ.out (gtr hG hy)) (And.intro (jD.out.later (gtr aG.out hy)) (And.intro (lV.out.later (gtr aG.out hy)) (And.intro (DZ.out.later (gtr aG.out hy)) (KX.out.later (gtr aG.out hy))))));clear hE hG b4 b5 aJ bB;go_upto_region 2 with fail;refine wg 97 [some 18,some 19,some 20,some 21,some 22,some 23,some 24,some 25,some 26,some 27,some 28,some 29,some 30,some 31,some 32,some 33,some 34,some 35,some 36,some 37,some 38,some 39,some 40,some 41,some 7,some 8,some 9,some 10,none,none,none,none] [[],[],[1],[2],[3],[0,4],[],[],[7],[8],[9],[6,10],[],[],[13],[14],[15],[12,16],[],[],[19],[20],[21],[18,22],[],[],[],[],[24,5],[25,11],[26,17],[27,23]] [] [.c (.pointer (some ⟨G,0,none⟩)),.c (.pointer (some ⟨w.heap.size,3,none⟩)),.c (.slice (some ⟨kb,ko,none⟩) l.length kc),.c (.pointer (some ⟨kb,ko,none⟩)),.c (.agg #[.int .u8 pk,.int .i64 pn,.string ps,.slice pa pl.length pc]),.p (λv y=>ay y v (PA)),.c (.pointer (some ⟨G,0,none⟩)),.c (.pointer (some ⟨w.heap.size,3,none⟩)),.c (.slice (some ⟨kb,ko,none⟩) l.length kc),.c (.pointer (some ⟨kb,(ko+4),none⟩)),.c (.agg #[.int .u8 bk,.int .i64 bn,.string bs,.slice ba bl.length bc]),.p (λv y=>ay y v (PB)),.c (.pointer (some ⟨G,0,none⟩)),.c (.pointer (some ⟨w.heap.size,3,none⟩)),.c (.slice (some ⟨kb,ko,none⟩) l.length kc),.c (.pointer (some ⟨kb,(ko+8),none⟩)),.c (.agg #[.int .u8 dk,.int .i64 dn,.string ds,.slice da dl.length dc]),.p (λv y=>ay y v (PD)),.c (.pointer (some ⟨G,0,none⟩)),.c (.pointer (some ⟨w.heap.size,3,none⟩)),.c (.slice (some ⟨kb,ko,none⟩) l.length kc),.c (.pointer (some ⟨kb,(ko+12),none⟩)),.c (.agg #[.int .u8 ek,.int .i64 en,.string es,.slice ea el.length ec]),.p (λv y=>ay y v (PE)),.al 28 5 #[.slice none 0 0,.slice none 0 0] 45,.al 29 11 #[.slice none 0 0,.slice none 0 0] 45,.al 30 17 #[.slice none 0 0,.slice none 0 0] 45,.al 31 23 #[.slice none 0 0,.slice none 0 0] 45,.st 24,.st 25,.st 26,.st 27] ⟨sP,sP,sP,sP,trivial⟩ (cz rfl) ?steps ?done
 case steps =>
  refine⟨?s0,?s1,?s2,?s3,?s4,?s5,?s6,?s7,?s8,?s9,?s10,?s11,?s12,?s13,?s14,?s15,?s16,?s17,?s18,?s19,?s20,?s21,?s22,?s23,?s24,?s25,?s26,?s27,?s28,?s29,?s30,?s31,trivial⟩
  case s0|s1|s6|s7|s12|s13|s18|s19 =>
   refine oo (λvs x hP => ?_);simp only[zS];go_simp;exact gc
  case s2|s8|s14|s20 =>
   refine ok bL (λvs x hG HX hP => ?_);obtain⟨⟨n0,n1⟩,n2,n3⟩:=aF (HX.out.1);simp only[zS];go_simp;exact gc
  case s3 =>
   refine ok bL (λvs x hG HX hP => ?_);have hbd:0<l.length:=by have:=fD.out;omega
   simp only[zS];go_simp;exact gc
  case s4 =>
   refine ok bL (λvs x hG HX hP => ?_);obtain⟨⟨d0,d1⟩,d2,d3⟩:=(HX.out.2.1).four;simp only[zS];go_simp;exact gc
  case s5 =>
   refine ok bL (λvs x hG HX hP => ?_);have HC:=ł (HT1.out x (gtr aG.out hG));simp only[zS];go_simp;refine(HC.out).mono ?_;rintro e y ⟨v,rfl,hp,hg⟩;exact⟨_,rfl,aZ hg hp⟩
  case s9 =>
   refine ok bL (λvs x hG HX hP => ?_);have hbd:(1:Int)<(l.length:Nat):=by have:=fD.out;omega
   simp only[zS];go_simp;exact gc
  case s10 =>
   refine ok bL (λvs x hG HX hP => ?_);obtain⟨⟨d0,d1⟩,d2,d3⟩:=(HX.out.2.2.1).four;simp only[zS];go_simp;exact gc
  case s11 =>
   refine ok bL (λvs x hG HX hP => ?_);have HC:=ł (HB1.out x (gtr aG.out hG));simp only[zS];go_simp;refine(HC.out).mono ?_;rintro e y ⟨v,rfl,hp,hg⟩;exact⟨_,rfl,aZ hg hp⟩
  case s15 =>
   refine ok bL (λvs x hG HX hP => ?_);have hbd:(2:Int)<(l.length:Nat):=by have:=fD.out;omega
   simp only[zS];go_simp;exact gc
  case s16 =>
   refine ok bL (λvs x hG HX hP => ?_);obtain⟨⟨d0,d1⟩,d2,d3⟩:=(HX.out.2.2.2.1).four;simp only[zS];go_simp;exact gc
  case s17 =>
   refine ok bL (λvs x hG HX hP => ?_);have HC:=ł (HB2.out x (gtr aG.out hG));simp only[zS];go_simp;refine(HC.out).mono ?_;rintro e y ⟨v,rfl,hp,hg⟩;exact⟨_,rfl,aZ hg hp⟩
  case s21 =>
   refine ok bL (λvs x hG HX hP => ?_);have hbd:(3:Int)<(l.length:Nat):=by have:=fD.out;omega
   simp only[zS];go_simp;exact gc
  case s22 =>
   refine ok bL (λvs x hG HX hP => ?_);obtain⟨⟨d0,d1⟩,d2,d3⟩:=(HX.out.2.2.2.2).four;simp only[zS];go_simp;exact gc
  case s23 =>
   refine ok bL (λvs x hG HX hP => ?_);have HC:=ł (HT2.out x (gtr aG.out hG));simp only[zS];go_simp;refine(HC.out).mono ?_;rintro e y ⟨v,rfl,hp,hg⟩;exact⟨_,rfl,aZ hg hp⟩
  case s24|s25|s26|s27 =>
   refine oz (λvs x => ?_);simp only[zS];go_simp;exact⟨rfl,rfl⟩
  case s28 =>
   refine os (λvs x g hg hb hv => ?_);obtain⟨iV,iW,kH,kI,h5,c5,f5⟩:=hv;obtain⟨c0,c1⟩:=aC hb;have zt:=aD hb;simp only[zS,hg,h5];go_simp;exact set2 hb _ _
  case s29 =>
   refine os (λvs x g hg hb hv => ?_);obtain⟨gH,gI,jw,jy,h11,c11,f11⟩:=hv;obtain⟨c0,c1⟩:=aC hb;have zt:=aD hb;simp only[zS,hg,h11];go_simp;exact set2 hb _ _
  case s30 =>
   refine os (λvs x g hg hb hv => ?_);obtain⟨nY,nZ,pE,pF,jO,c17,f17⟩:=hv;obtain⟨c0,c1⟩:=aC hb;have zt:=aD hb;simp only[zS,hg,jO];go_simp;exact set2 hb _ _
  case s31 =>
   refine os (λvs x g hg hb hv => ?_);obtain⟨rP,rQ,sV,sW,h23,c23,f23⟩:=hv;obtain⟨c0,c1⟩:=aC hb;have zt:=aD hb;simp only[zS,hg,h23];go_simp;exact set2 hb _ _
 case done =>
 intro vs w4 hE;have hG:=hE.grow;obtain⟨iV,iW,kH,kI,h5,c5,f5⟩:=hE.val 5;obtain⟨gH,gI,jw,jy,h11,c11,f11⟩:=hE.val 11;obtain⟨nY,nZ,pE,pF,jO,c17,f17⟩:=hE.val 17;obtain⟨rP,rQ,sV,sW,h23,c23,f23⟩:=hE.val 23;obtain⟨g24,a24,l24,m24,uf⟩:=hE.box 24;obtain⟨MC,a25,l25,m25,Ad⟩:=hE.box 25;obtain⟨rY,a26,l26,m26,ug⟩:=hE.box 26;obtain⟨D5,a27,l27,m27,tY⟩:=hE.box 27;simp only[zS,h5]at uf;simp only[zS,h11]at Ad;simp only[zS,jO]at ug;simp only[zS,h23]at tY;simp only[zS,Nat.reduceAdd,h5,h11,jO,h23,a24,a25,a26,a27];have wG:=ł uf;have wH:=ł Ad;have wI:=ł ug;have wJ:=ł tY;simp only[bJ]at wG wH wI wJ;have oM:=ł (show ay w4 (.agg #[.slice iV (PA).code.length iW,.slice kH (PA).refs.length kI]) (PA)from⟨iV,iW,kH,kI,rfl,c5,f5⟩);have CO:=ł (show ay w4 (.agg #[.slice gH (PB).code.length gI,.slice jw (PB).refs.length jy]) (PB)from⟨gH,gI,jw,jy,rfl,c11,f11⟩);have CP:=ł (show ay w4 (.agg #[.slice nY (PD).code.length nZ,.slice pE (PD).refs.length pF]) (PD)from⟨nY,nZ,pE,pF,rfl,c17,f17⟩);have CQ:=ł (show ay w4 (.agg #[.slice rP (PE).code.length rQ,.slice sV (PE).refs.length sW]) (PE)from⟨rP,rQ,sV,sW,rfl,c23,f23⟩);have aN:=ł (gtr aG.out hG);have jg:=ł (ai sO.out hG);have aW:=ł (λ(y:World) (hy:Grow w4 y)=>And.intro (ai HZ.out (gtr hG hy)) (And.intro (ai HT.out (gtr hG hy)) (And.intro (ai wG.out hy) (And.intro (ai wH.out hy) (And.intro (ai wI.out hy) (And.intro (ai wJ.out hy) (And.intro (oM.out.later hy) (And.intro (CO.out.later hy) (And.intro (CP.out.later hy) (CQ.out.later hy))))))))));clear hE hG uf Ad ug tY c5 f5 c11 f11 c17 f17 c23 f23 bL HT1 HT2 HB1 HB2;go_upto_region 3 with fail;refine wg 97 [some 42,some 43,some 44,some 45,some 46,some 47,some 48,some 49,some 50,some 51,some 52,some 53,some 54,some 55,some 56,some 57,some 58,some 59,some 60,some 61,some 62,some 63,some 64,some 65,some 66,some 67,some 68,some 69,some 11,none] [[],[],[1],[0,2],[3],[],[],[6],[7],[],[],[10],[11],[],[],[14],[15],[16],[],[],[19],[],[21],[],[20,22,23],[24],[4,5,8,9,12,13,17,18,25],[26],[],[28,27]] [1,3,7,11,14,16,19,21,24,26] [.c (.agg #[.int .u8 6,.int .i64 0,.int .i64 1,.int .i64 0,.int .i64 0]),.p (λv y=>∃ g,v = .slice (some ⟨g,0,none⟩) 2 2/\y.heap[g]? = some (.cells #[.int .i64 0,.int .i64 0] 3 (0,0))),.c (.agg #[.int .u8 26,.int .i64 0,.int .i64 0,.int .i64 0,.int .i64 0]),.p (λv y=>∃ g,v = .slice (some ⟨g,0,none⟩) 2 2/\ax 5 Ins.cells y (.slice (some ⟨g,0,none⟩) 2 2) ([⟨6,0,1,0,0⟩,⟨26,0,0,0,0⟩]:List Ins)),.p (λv y=>ay y v (ah ([⟨6,0,1,0,0⟩,⟨26,0,0,0,0⟩]:List Ins))),.c (.agg #[.slice iV (PA).code.length iW,.slice kH (PA).refs.length kI]),.c (.agg #[.int .u8 21,.int .i64 0,.int .i64 15,.int .i64 0,.int .i64 0]),.p (λv y=>∃ g,v = .slice (some ⟨g,0,none⟩) 1 1/\ax 5 Ins.cells y (.slice (some ⟨g,0,none⟩) 1 1) ([⟨21,0,15,0,0⟩]:List Ins)),.p (λv y=>ay y v (ah ([⟨21,0,15,0,0⟩]:List Ins))),.c (.agg #[.slice gH (PB).code.length gI,.slice jw (PB).refs.length jy]),.c (.agg #[.int .u8 21,.int .i64 0,.int .i64 15,.int .i64 0,.int .i64 0]),.p (λv y=>∃ g,v = .slice (some ⟨g,0,none⟩) 1 1/\ax 5 Ins.cells y (.slice (some ⟨g,0,none⟩) 1 1) ([⟨21,0,15,0,0⟩]:List Ins)),.p (λv y=>ay y v (ah ([⟨21,0,15,0,0⟩]:List Ins))),.c (.agg #[.slice rP (PE).code.length rQ,.slice sV (PE).refs.length sW]),.p (λv y=>∃ g,v = .slice (some ⟨g,0,none⟩) 2 2/\y.heap[g]? = some (.cells #[.int .i64 0,.int .i64 0] 3 (0,0))),.c (.agg #[.int .u8 24,.int .i64 0,.int .i64 0,.int .i64 0,.int .i64 0]),.p (λv y=>∃ g,v = .slice (some ⟨g,0,none⟩) 1 1/\ax 5 Ins.cells y (.slice (some ⟨g,0,none⟩) 1 1) ([⟨24,0,0,0,0⟩]:List Ins)),.p (λv y=>ay y v (ah ([⟨24,0,0,0,0⟩]:List Ins))),.c (.agg #[.slice nY (PD).code.length nZ,.slice pE (PD).refs.length pF]),.p (λv y=>∃ g,v = .slice (some ⟨g,0,none⟩) 1 1/\y.heap[g]? = some (.cells #[.int .i64 0] 3 (0,0))),.c (.agg #[.int .u8 22,.int .i64 0,.int .i64 0,.int .i64 0,.int .i64 0]),.p (λv y=>∃ g,v = .slice (some ⟨g,0,none⟩) 1 1/\y.heap[g]? = some (.cells #[.int .i64 0] 3 (0,0))),.c (.agg #[.int .u8 25,.int .i64 0,.int .i64 0,.int .i64 0,.int .i64 0]),.c (.agg #[.int .u8 6,.int .i64 0,.int .i64 1,.int .i64 0,.int .i64 0]),.p (λv y=>∃ g,v = .slice (some ⟨g,0,none⟩) 3 3/\ax 5 Ins.cells y (.slice (some ⟨g,0,none⟩) 3 3) ([⟨22,0,0,0,0⟩,⟨25,0,0,0,0⟩,⟨6,0,1,0,0⟩]:List Ins)),.p (λv y=>ay y v (ah ([⟨22,0,0,0,0⟩,⟨25,0,0,0,0⟩,⟨6,0,1,0,0⟩]:List Ins))),.p (λv y=>∃ g,v = .slice (some ⟨g,0,none⟩) 9 9/\iw y (.slice (some ⟨g,0,none⟩) 9 9) [ah ([⟨6,0,1,0,0⟩,⟨26,0,0,0,0⟩]:List Ins),PA,ah ([⟨21,0,15,0,0⟩]:List Ins),PB,ah ([⟨21,0,15,0,0⟩]:List Ins),PE,ah ([⟨24,0,0,0,0⟩]:List Ins),PD,ah ([⟨22,0,0,0,0⟩,⟨25,0,0,0,0⟩,⟨6,0,1,0,0⟩]:List Ins)]),.p (λv y=>pX w.heap.size y v (aP [ah ([⟨6,0,1,0,0⟩,⟨26,0,0,0,0⟩]:List Ins),PA,ah ([⟨21,0,15,0,0⟩]:List Ins),PB,ah ([⟨21,0,15,0,0⟩]:List Ins),PE,ah ([⟨24,0,0,0,0⟩]:List Ins),PD,ah ([⟨22,0,0,0,0⟩,⟨25,0,0,0,0⟩,⟨6,0,1,0,0⟩]:List Ins)])),.al 29 27 #[.slice none 0 0,.slice none 0 0] 45,.st 28] ⟨sH,sR,sP,sR,sP,sR,sP,sH,sR,sP,sH,sH,sR,sP,sQ,⟨(λv x y hg h=>h.later hg),λ_=>(λz hz g v x y hb hm h=>by simp[Kd.zero,Sp.k]at hz;subst hz;exact h.box hb hm)⟩,trivial⟩ (cz rfl) ?steps ?done
 case steps =>
  refine⟨?s0,?s1,?s2,?s3,?s4,?s5,?s6,?s7,?s8,?s9,?s10,?s11,?s12,?s13,?s14,?s15,?s16,?s17,?s18,?s19,?s20,?s21,?s22,?s23,?s24,?s25,?s26,?s27,?s28,?s29,trivial⟩
  case s0|s23 =>
   refine ok aW (λvs x hG HX hP => ?_);obtain⟨⟨i0,i1,i2⟩,i3,i4⟩:=bR HX.out.2.1;simp only[zS];go_simp;exact gc
  case s1|s14|s19|s21 =>
   refine oo (λvs x hP => ?_);simp only[zS];go_simp;exact gl ⟨_,rfl,heap_alloc_new x _⟩
  case s2 =>
   refine ok aW (λvs x hG HX hP => ?_);obtain⟨g1,h1,b1⟩:=pq hP 1;have HC:=ł (fO 26 (0) (0) g1 _ x b1);simp only[zS,h1];go_simp;refine(HC.out).mono ?_;rintro e y ⟨rfl,hg⟩;exact⟨_,rfl,bu hg rfl⟩
  case s3 =>
   refine oo (λvs x hP => ?_);simp only[zS];go_simp;exact gl ⟨_,rfl,ax.bN (f:=Ins.cells) (l:=([⟨6,0,1,0,0⟩,⟨26,0,0,0,0⟩]:List Ins)) (λ_=>rfl) (heap_alloc_new x _) rfl (by simp)⟩
  case s4 =>
   refine ok aW (λvs x hG HX hP => ?_);obtain⟨g3,h3,b3⟩:=pq hP 3;have HC:=ł (iG _ _ x b3);simp only[zS,h3];go_simp;refine(HC.out).mono ?_;rintro e y ⟨v,rfl,hp,hg⟩;exact⟨_,rfl,aZ hg hp⟩
  case s5 =>
   refine ok aW (λvs x hG HX hP => ?_);obtain⟨i0,i1⟩:=aC HX.out.2.2.1;simp only[zS];go_simp;exact gc
  case s6|s10 =>
   refine ok aW (λvs x hG HX hP => ?_);obtain⟨⟨i0,i1,i2⟩,i3,i4⟩:=bR HX.out.1;simp only[zS];go_simp;exact gc
  case s7|s11 =>
   refine oo (λvs x hP => ?_);simp only[zS];go_simp;exact gl ⟨_,rfl,ax.bN (f:=Ins.cells) (l:=([⟨21,0,15,0,0⟩]:List Ins)) (λ_=>rfl) (heap_alloc_new x _) rfl (by simp)⟩
  case s8 =>
   refine ok aW (λvs x hG HX hP => ?_);obtain⟨g7,h7,b7⟩:=pq hP 7;have HC:=ł (iG _ _ x b7);simp only[zS,h7];go_simp;refine(HC.out).mono ?_;rintro e y ⟨v,rfl,hp,hg⟩;exact⟨_,rfl,aZ hg hp⟩
  case s9 =>
   refine ok aW (λvs x hG HX hP => ?_);obtain⟨i0,i1⟩:=aC HX.out.2.2.2.1;simp only[zS];go_simp;exact gc
  case s12 =>
   refine ok aW (λvs x hG HX hP => ?_);obtain⟨g11,h11,b11⟩:=pq hP 11;have HC:=ł (iG _ _ x b11);simp only[zS,h11];go_simp;refine(HC.out).mono ?_;rintro e y ⟨v,rfl,hp,hg⟩;exact⟨_,rfl,aZ hg hp⟩
  case s13 =>
   refine ok aW (λvs x hG HX hP => ?_);obtain⟨i0,i1⟩:=aC HX.out.2.2.2.2.2.1;simp only[zS];go_simp;exact gc
  case s15 =>
   refine ok aW (λvs x hG HX hP => ?_);obtain⟨g14,lh,b14⟩:=pq hP 14;have HC:=ł (fO 24 (0) (0) g14 _ x b14);simp only[zS,lh];go_simp;refine(HC.out).mono ?_;rintro e y ⟨rfl,hg⟩;exact⟨_,rfl,bu hg rfl⟩
  case s16 =>
   refine oo (λvs x hP => ?_);simp only[zS];go_simp;exact gl ⟨_,rfl,ax.bN (f:=Ins.cells) (l:=([⟨24,0,0,0,0⟩]:List Ins)) (λ_=>rfl) (heap_alloc_new x _) rfl (by simp)⟩
  case s17 =>
   refine ok aW (λvs x hG HX hP => ?_);obtain⟨g16,h16,b16⟩:=pq hP 16;have HC:=ł (iG _ _ x b16);simp only[zS,h16];go_simp;refine(HC.out).mono ?_;rintro e y ⟨v,rfl,hp,hg⟩;exact⟨_,rfl,aZ hg hp⟩
  case s18 =>
   refine ok aW (λvs x hG HX hP => ?_);obtain⟨i0,i1⟩:=aC HX.out.2.2.2.2.1;simp only[zS];go_simp;exact gc
  case s20 =>
   refine ok aW (λvs x hG HX hP => ?_);obtain⟨g19,h19,b19⟩:=pq hP 19;have HC:=ł (vK 22 (0) g19 _ x b19);simp only[zS,h19];go_simp;refine(HC.out).mono ?_;rintro e y ⟨rfl,hg⟩;exact⟨_,rfl,bu hg rfl⟩
  case s22 =>
   refine ok aW (λvs x hG HX hP => ?_);obtain⟨g21,h21,b21⟩:=pq hP 21;have HC:=ł (vK 25 (0) g21 _ x b21);simp only[zS,h21];go_simp;refine(HC.out).mono ?_;rintro e y ⟨rfl,hg⟩;exact⟨_,rfl,bu hg rfl⟩
  case s24 =>
   refine oo (λvs x hP => ?_);simp only[zS];go_simp;exact gl ⟨_,rfl,ax.bN (f:=Ins.cells) (l:=([⟨22,0,0,0,0⟩,⟨25,0,0,0,0⟩,⟨6,0,1,0,0⟩]:List Ins)) (λ_=>rfl) (heap_alloc_new x _) rfl (by simp)⟩
  case s25 =>
   refine ok aW (λvs x hG HX hP => ?_);obtain⟨g24,ME,uf⟩:=pq hP 24;have HC:=ł (iG _ _ x uf);simp only[zS,ME];go_simp;refine(HC.out).mono ?_;rintro e y ⟨v,rfl,hp,hg⟩;exact⟨_,rfl,aZ hg hp⟩
  case s26 =>
   refine ok aW (λvs x hG HX hP => ?_);have p4:=pq hP 4;have G8:=p4;obtain⟨RJ,RL,RN,RO,h4,c4,f4⟩:=p4;rw[h4]at G8;have p8:=pq hP 8;have jE:=p8;obtain⟨CR,CS,CU,CV,h8,c8,f8⟩:=p8;rw[h8]at jE;have xh:=pq hP 12;have F6:=xh;obtain⟨QX,QY,QZ,Q0,h12,c12,f12⟩:=xh;rw[h12]at F6;have qY:=pq hP 17;have wD:=qY;obtain⟨Q3,Q4,Q5,Q6,jO,c17,f17⟩:=qY;rw[jO]at wD;have p25:=pq hP 25;have wK:=p25;obtain⟨Cm,Cn,Co,Cq,uh,MF,f25⟩:=p25;rw[uh]at wK;simp only[zS,h4,h8,h12,jO,uh];go_simp;exact gl ⟨_,rfl,sw (vs:=[(.slice RJ (ah ([⟨6,0,1,0,0⟩,⟨26,0,0,0,0⟩]:List Ins)).code.length RL,.slice RN (ah ([⟨6,0,1,0,0⟩,⟨26,0,0,0,0⟩]:List Ins)).refs.length RO),(.slice iV (PA).code.length iW,.slice kH (PA).refs.length kI),(.slice CR (ah ([⟨21,0,15,0,0⟩]:List Ins)).code.length CS,.slice CU (ah ([⟨21,0,15,0,0⟩]:List Ins)).refs.length CV),(.slice gH (PB).code.length gI,.slice jw (PB).refs.length jy),(.slice QX (ah ([⟨21,0,15,0,0⟩]:List Ins)).code.length QY,.slice QZ (ah ([⟨21,0,15,0,0⟩]:List Ins)).refs.length Q0),(.slice rP (PE).code.length rQ,.slice sV (PE).refs.length sW),(.slice Q3 (ah ([⟨24,0,0,0,0⟩]:List Ins)).code.length Q4,.slice Q5 (ah ([⟨24,0,0,0,0⟩]:List Ins)).refs.length Q6),(.slice nY (PD).code.length nZ,.slice pE (PD).refs.length pF),(.slice Cm (ah ([⟨22,0,0,0,0⟩,⟨25,0,0,0,0⟩,⟨6,0,1,0,0⟩]:List Ins)).code.length Cn,.slice Co (ah ([⟨22,0,0,0,0⟩,⟨25,0,0,0,0⟩,⟨6,0,1,0,0⟩]:List Ins)).refs.length Cq)]) (heap_alloc_new x _) rfl ⟨ay.later (G8) ((Mv.refl _ _).alloc _),ay.later (HX.out.2.2.2.2.2.2.1) ((Mv.refl _ _).alloc _),ay.later (jE) ((Mv.refl _ _).alloc _),ay.later (HX.out.2.2.2.2.2.2.2.1) ((Mv.refl _ _).alloc _),ay.later (F6) ((Mv.refl _ _).alloc _),ay.later (HX.out.2.2.2.2.2.2.2.2.2) ((Mv.refl _ _).alloc _),ay.later (wD) ((Mv.refl _ _).alloc _),ay.later (HX.out.2.2.2.2.2.2.2.2.1) ((Mv.refl _ _).alloc _),ay.later (wK) ((Mv.refl _ _).alloc _),trivial⟩⟩
  case s27 =>
   refine ok aW (λvs x hG HX hP => ?_);obtain⟨rY,MG,ug⟩:=pq hP 26;have HC:=ł (OV _ _ x ug iA.out.1 iA.out.2 (by simp));have K6:=(gtr aN.out hG).size;simp only[zS,MG];go_simp;refine(HC.out).mono ?_;rintro e y ⟨v,rfl,hp,hg⟩;exact⟨_,rfl,aZ hg (hp.low K6)⟩
  case s28 =>
   refine oz (λvs x => ?_);simp only[zS];go_simp;exact⟨rfl,rfl⟩
  case s29 =>
   refine os (λvs x g hg hb hv => ?_);obtain⟨Kt,mU,mV,mW,h27,Ae,f27⟩:=hv;obtain⟨c0,c1⟩:=aC hb;have zt:=aD hb;simp only[zS,hg,h27];go_simp;exact set2 hb _ _
 case done =>
 intro vs w5 hE;have hG:=hE.grow;have p4:=hE.val 4;have G8:=p4;obtain⟨RJ,RL,RN,RO,h4,c4,f4⟩:=p4;rw[h4]at G8;have p8:=hE.val 8;have jE:=p8;obtain⟨CR,CS,CU,CV,h8,c8,f8⟩:=p8;rw[h8]at jE;have xh:=hE.val 12;have F6:=xh;obtain⟨QX,QY,QZ,Q0,h12,c12,f12⟩:=xh;rw[h12]at F6;have qY:=hE.val 17;have wD:=qY;obtain⟨Q3,Q4,Q5,Q6,jO,c17,f17⟩:=qY;rw[jO]at wD;have p25:=hE.val 25;have wK:=p25;obtain⟨Cm,Cn,Co,Cq,uh,MF,f25⟩:=p25;rw[uh]at wK;obtain⟨Kt,mU,mV,mW,h27,Ae,f27⟩:=hE.val 27;obtain⟨xm,a28,l28,m28,Af⟩:=hE.box 28;simp only[zS,h27]at Af;simp only[zS,Nat.reduceAdd,h4,h8,h12,jO,uh,h27,a28];have ui:=ł Af;simp only[bJ]at ui;have aT:=ł (gtr aN.out hG);have kD:=ł (ai jg.out hG);have gU:=ł Ae;have zo:=ł f27;have Ku:=ł (ai wG.out hG);have Kv:=ł (ai wH.out hG);have yU:=ł (ai wI.out hG);have Kw:=ł (ai wJ.out hG);have hjl:=(iH [ah ([⟨6,0,1,0,0⟩,⟨26,0,0,0,0⟩]:List Ins),PA,ah ([⟨21,0,15,0,0⟩]:List Ins),PB,ah ([⟨21,0,15,0,0⟩]:List Ins),PE,ah ([⟨24,0,0,0,0⟩]:List Ins),PD,ah ([⟨22,0,0,0,0⟩,⟨25,0,0,0,0⟩,⟨6,0,1,0,0⟩]:List Ins)]).1;rw[qV.out]at hjl;obtain⟨hb1,hb2,hb4⟩:=jP.out;clear hE hG Af Ae f27 aW wG wH wI wJ oM CO CP CQ HZ HT iA qV jP;generalize (PA).code.length=n5 at *;generalize (PB).code.length=n11 at *;generalize (PD).code.length=n17 at *;generalize (PE).code.length=n23 at *;generalize aP [ah ([⟨6,0,1,0,0⟩,⟨26,0,0,0,0⟩]:List Ins),PA,ah ([⟨21,0,15,0,0⟩]:List Ins),PB,ah ([⟨21,0,15,0,0⟩]:List Ins),PE,ah ([⟨24,0,0,0,0⟩]:List Ins),PD,ah ([⟨22,0,0,0,0⟩,⟨25,0,0,0,0⟩,⟨6,0,1,0,0⟩]:List Ins)]=JC at *;have hROW:=gU.out;obtain⟨qx,yV⟩:=JC;unfold dN at hROW;unfold rE at zo;simp only at hjl hROW;generalize hjn:qx.length=jn at hjl ui hROW;have wL:=zo.out;simp only at wL;generalize hjr:yV.length=jr at ui wL;have Ky:=ł (show w5.ownsRow w.heap.size 129 2 (.slice mV jr mW) jr (flat cO.cells yV)from wL);clear wL zo;rcases hROW.2 with⟨he',CW⟩|⟨g,jc,cur,he',hbase,hgb,Kz,KA,hcsz,htk⟩
 · exfalso;omega
 simp only[Value.slice.injEq,true_and]at he';obtain⟨K7,CW⟩:=he';subst K7 CW;have hne1:g≠xm:=λe=>by
  have:=hgb;rw[e,ui.out]at this;simp only[Option.some.injEq,Obj.cells.injEq]at this;exact absurd this.2.1 (by decide)
 have hne2:g≠w.heap.size+1:=λe=>by
  have:=hgb;rw[e,kD.out]at this;simp only[Option.some.injEq,Obj.cells.injEq]at this;exact absurd this.2.1 (by decide)
 have CX:g≠rY:=λe=>by
  have:=hgb;rw[e,yU.out]at this;simp only[Option.some.injEq,Obj.cells.injEq]at this;exact absurd this.2.1 (by decide)
 have Ec:=ł hROW;clear hgb hcsz htk Kz KA cur hROW gU;generalize CY:4+n5+n11+n23=i12 at *;have CZ:=ł CY;generalize C8:i12+1+n17=i13 at *;have K8:=ł C8;have hib:i12<=400000/\i13<=500000:=by omega
 have KC:i12+1<jn/\i13+1<jn/\i12<i13/\1<=i12:=by omega
 obtain⟨_3,_4⟩:=hib;obtain⟨_5,_6,_7,_8⟩:=KC;have _9:jn<=300000:=by omega
 clear CY C8 hjl;have bG:=ł (λ(y:World) (hy:Grow w5 y)=>And.intro (ai Ku.out hy) (And.intro (ai Kv.out hy) (And.intro (ai yU.out hy) (ai Kw.out hy))));go_upto_region 4 with fail;refine fI 97 [some 70,some 71,some 72,some 73,some 74,some 75,some 76,some 77,some 78,some 79,some 80,some 81,some 12] [[],[0],[1],[2],[],[4],[5],[3,6],[],[8],[9],[7,10],[11]] [] [.c (.pointer (some ⟨g24,0,none⟩)),.c (.slice iV n5 iW),.c (.int .i64 n5),.c (.int .i64 (4+(n5:Int))),.c (.pointer (some ⟨MC,0,none⟩)),.c (.slice gH n11 gI),.c (.int .i64 n11),.c (.int .i64 (4+(n5:Int)+n11)),.c (.pointer (some ⟨D5,0,none⟩)),.c (.slice rP n23 rQ),.c (.int .i64 n23),.c (.int .i64 i12),.c (.int .i64 i12)] trivial (cz rfl) ?steps ?done
 case steps =>
  refine⟨?s0,?s1,?s2,?s3,?s4,?s5,?s6,?s7,?s8,?s9,?s10,?s11,?s12,trivial⟩
  case s0|s2|s4|s6|s8|s10|s12 =>
   refine oo (λvs x hP => ?_);simp only[zS];go_simp;exact gc
  case s1 =>
   refine ok0 bG (λvs x hG HX hP => ?_);obtain⟨i0,i1⟩:=aC HX.out.1;simp only[zS];go_simp;exact gc
  case s3 =>
   refine ok0 bG (λvs x hG HX hP => ?_);have hw:=IntWalk.i64_in (4+(n5:Int)) (by omega);simp only[zS];go_simp;exact gc
  case s5 =>
   refine ok0 bG (λvs x hG HX hP => ?_);obtain⟨i0,i1⟩:=aC HX.out.2.1;simp only[zS];go_simp;exact gc
  case s7 =>
   refine ok0 bG (λvs x hG HX hP => ?_);have hw:=IntWalk.i64_in (4+(n5:Int)+n11) (by omega);simp only[zS];go_simp;exact gc
  case s9 =>
   refine ok0 bG (λvs x hG HX hP => ?_);obtain⟨i0,i1⟩:=aC HX.out.2.2.2;simp only[zS];go_simp;exact gc
  case s11 =>
   refine ok0 bG (λvs x hG HX hP => ?_);have hw:=IntWalk.i64_in (4+(n5:Int)+n11+n23) (by omega);simp only[zS];go_simp;exact bu (Mv.refl _ _) (by rw[← CZ.out];simp)
 case done =>
 intro vs w6 hE;have hG:=hE.jU;simp only[zS,Nat.reduceAdd];have fE:=ł (BR bG.out hG);have K9:=ł hG;clear hE hG;go_upto_region 5 with fail;refine fI 97 [some 82,some 83,some 84,some 85,some 86,some 87,some 13] [[],[0],[],[2],[3],[1,4],[5]] [] [.c (.int .i64 i12),.c (.int .i64 ((i12:Int)+1)),.c (.pointer (some ⟨rY,0,none⟩)),.c (.slice nY n17 nZ),.c (.int .i64 n17),.c (.int .i64 i13),.c (.int .i64 i13)] trivial (cz rfl) ?steps ?done
 case steps =>
  refine⟨?s0,?s1,?s2,?s3,?s4,?s5,?s6,trivial⟩
  case s0|s2|s4|s6 =>
   refine oo (λvs x hP => ?_);simp only[zS];go_simp;exact gc
  case s1 =>
   refine ok0 fE (λvs x hG HX hP => ?_);have hw:=IntWalk.i64_in ((i12:Int)+1) (by omega);simp only[zS];go_simp;exact gc
  case s3 =>
   refine ok0 fE (λvs x hG HX hP => ?_);obtain⟨i0,i1⟩:=aC HX.out.2.2.1;simp only[zS];go_simp;exact gc
  case s5 =>
   refine ok0 fE (λvs x hG HX hP => ?_);have hw:=IntWalk.i64_in ((i12:Int)+1+n17) (by omega);simp only[zS];go_simp;exact bu (Mv.refl _ _) (by rw[← K8.out,← CZ.out];simp)
 case done =>
 intro vs w7 hE;have hG:=hE.jU;simp only[zS,Nat.reduceAdd];have qI:=ł (gtr K9.out hG);have Lb:=ł (gtr aT.out qI.out);have lJ:=ł (show w7.heap[xm]? = _/\w7.heap[w.heap.size+1]? = _/\w7.heap[rY]? = _ from⟨ai ui.out qI.out,ai kD.out qI.out,ai yU.out qI.out⟩);have Lc:=ł (show dN w7 w.heap.size (.slice (some ⟨g,0,none⟩) jn mU) qx from bM (by have:=Ec.out;rw[hjn];exact this) qI.out (λ_ _ e=>e));have Ld:=ł (show Mv (λb=>b=g) w5 w7 from qI.out.mono (λ_ e=>e.elim));clear hE hG bG fE;have kJ:=EI w.heap.size g mU jn qx mV jr mW 1 i13 w7 Lc.out (by omega) (by omega) (by omega) (by omega) (by omega);rw[show((1:Nat):Int)=1 from rfl]at kJ;have iB:=ł kJ;clear kJ;obtain⟨k0,k1⟩:=aC lJ.out.1;obtain⟨k2,k3⟩:=aC lJ.out.2.2;have hlb:=lt_of_block lJ.out.1;have zq:=lt_of_block lJ.out.2.2;go_wp2_with fail;refine iB.out.mono ?_;rintro e w8 ⟨rfl,hr,hm⟩;have Le:=ł hr;have lK:=ł (show w8.heap[xm]? = _/\w8.heap[w.heap.size+1]? = _/\w8.heap[rY]? = _ from⟨(hm.block _ hlb (λe=>hne1 e.symm)).trans lJ.out.1,(hm.block _ (lt_of_block lJ.out.2.1) (λe=>hne2 e.symm)).trans lJ.out.2.1,(hm.block _ (lt_of_block lJ.out.2.2) (λe=>CX e.symm)).trans lJ.out.2.2⟩);have Lf:=ł (show Grow w w8 from Mv.trans Lb.out hm (λb e => .inr (by omega)));have C9:=ł (Mv.trans Ld.out hm (λb e => .inl e));clear hr hm k0 k1 k2 k3 hlb zq iB
 have aaa:(sK qx 1 i13).length=jn:=by rw[OW];exact hjn
 generalize Da:sK qx 1 i13=MH at *;have Lg:=ł Da;clear Da;have kJ:=EI w.heap.size g mU jn MH mV jr mW i12 (i13+1) w8 Le.out (by omega) (by omega) (by omega) (by omega) (by omega);rw[show((i13+1:Nat):Int)=(i13:Int)+1 from by omega]at kJ;have iB:=ł kJ;clear kJ;obtain⟨k0,k1⟩:=aC lK.out.1;obtain⟨k2,k3⟩:=aC lK.out.2.2;have hlb:=lt_of_block lK.out.1;have zq:=lt_of_block lK.out.2.2;go_wp2_with fail;refine iB.out.mono ?_;rintro e w9 ⟨rfl,hr,hm⟩;have Lh:=ł hr;have qJ:=ł (show w9.heap[xm]? = _/\w9.heap[w.heap.size+1]? = _/\w9.heap[rY]? = _ from⟨(hm.block _ hlb (λe=>hne1 e.symm)).trans lK.out.1,(hm.block _ (lt_of_block lK.out.2.1) (λe=>hne2 e.symm)).trans lK.out.2.1,(hm.block _ (lt_of_block lK.out.2.2) (λe=>CX e.symm)).trans lK.out.2.2⟩);have Li:=ł (show Grow w w9 from Mv.trans Lf.out hm (λb e => .inr (by omega)));have Lj:=ł (Mv.trans C9.out hm (λb e => .inl e));clear hr hm k0 k1 k2 k3 hlb zq iB
 obtain⟨k0,k1⟩:=aC qJ.out.1;obtain⟨r0,r1⟩:=aC qJ.out.2.1;have rt:=aD qJ.out.2.1;have hlb:=lt_of_block qJ.out.1;have hlr:=lt_of_block qJ.out.2.1;obtain⟨hs,hm⟩:=set2 qJ.out.2.1 (.slice (some ⟨g,0,none⟩) jn mU) (.slice mV jr mW);have HS:=ł hs;have aQ:=ł (show Grow w _ from Mv.trans Li.out hm (λb e => .inr (by omega)));have gX:=ł (show ay _ (.agg #[.slice (some ⟨g,0,none⟩) jn mU,.slice mV jr mW]) XC from by
  rw[K5.out,Fw,Fw];have MI:=bM Lh.out hm (λq hq e=>by subst e;simp[Value.ownBlock]at hq;exact hne2 hq);refine ay.mk (iF (λ_=>rfl) (by rw[Lg.out];exact MI)) ?_;have zI:dN w5 w.heap.size (.slice (some ⟨g,0,none⟩) jn mU) qx:=by unfold dN;rw[hjn];exact Ec.out
  have Ag:rE w5 w.heap.size (.slice mV jr mW) yV:=by unfold rE;rw[hjr];exact Ky.out
  exact iF (λ_=>rfl) (bM (bM Ag Lj.out (λq hq e=>by subst e;exact Ev (f:=cO.cells) (h:=Ins.cells) Ag zI (by decide) _ hq rfl)) hm (λq hq e=>by subst e;exact eO Ag kD.out (by decide) hq)))
 clear hs hm;go_wp2_with fail;obtain⟨t0,t1⟩:=aC HS.out;exact bodyPost_ret (v := .agg #[.slice (some ⟨g,0,none⟩) jn mU,.slice mV jr mW]) (by simp[results,Tryz.results87,go_sem,t0,t1]) rfl ⟨_,rfl,gX.out,aQ.out⟩
end Go.Proofs.YtnobahchcongnaaGreat
