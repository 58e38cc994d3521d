import Derived.Test.YtnobahchcongnaaGreatDoorQ32
set_option linter.unusedSimpArgs false
set_option linter.unusedVariables false
set_option maxRecDepth 100000
set_option maxHeartbeats 25600000
namespace Go.Proofs.YtnobahchcongnaaGreatDoor
open Go.RowKit Go.Instr
theorem U8 (w:World) (G:Nat) (sv pv:Value) (f:az) (procs:List aj) (hg:gm w G sv pv f procs) (k n:Int) (s:ByteArray) (kv:Value) (l:List ae) (hx:aV w (.mk k n s kv l)) (hl:3<l.length) (he1:mH f (l[0]).t) (he2:mH f (l[3]).t) (hc0:0≤f.cells) (hc1:f.cells≤1000)
 (hbk1:∀ z,Grow w z→Calls Tryz.prog 22 #[.pointer (some ⟨G,0,none⟩),(l[1]).val] z (bN z (aR f (procs.map aj.d) (l[1]).t))) (hbk2:∀ z,Grow w z→Calls Tryz.prog 22 #[.pointer (some ⟨G,0,none⟩),(l[2]).val] z (bN z (aR f (procs.map aj.d) (l[2]).t)))
 (hbl:(aR f (procs.map aj.d) (l[1]).t).code.length+(aR f (procs.map aj.d) (l[2]).t).code.length≤70000∧(aR f (procs.map aj.d) (l[1]).t).refs.length+(aR f (procs.map aj.d) (l[2]).t).refs.length≤70000) :
 Calls Tryz.prog 83 #[.pointer (some ⟨G,0,none⟩),ae.val (.mk k n s kv l)] w (bN w (qF f (l[0]).t (aR f (procs.map aj.d) (l[1]).t) (aR f (procs.map aj.d) (l[2]).t) (l[3]).t)):=by
 obtain ⟨fa,fc,rfl,hfc,hfl⟩:=hg.fr.row.form;obtain ⟨xN,xO,rfl,-,-⟩:=hg.pr.row.form;have h0:0<l.length:=by omega
 obtain ⟨kb,ko,kc,cz,-,-⟩:=hx.row.2.2.2.1.at h0;subst cz;have hk0:=eY hx 0 h0;have hk1:=eY hx 1 (by omega);have hk2:=eY hx 2 (by omega);have hk3:=eY hx 3 hl;simp only [Nat.zero_mul,Nat.one_mul,Nat.add_zero,Nat.reduceMul] at hk0 hk1 hk2 hk3;have fH:=ł hl;generalize l[0]=pp at *;generalize l[1]=bb at *;generalize l[2]=dd at *;generalize l[3]=ee at *;have HT1:=ł (fun (z:World) (hz:Grow w z)=>En z G _ _ f procs (hg.later hz) pp (hk0.at_.later hz) he1.e he1.s hc0 hc1 he1.d (Nat.le_trans he1.l (by decide)));have HT2:=ł (fun (z:World) (hz:Grow w z)=>En z G _ _ f procs (hg.later hz) ee (hk3.at_.later hz) he2.e he2.s hc0 hc1 he2.d (Nat.le_trans he2.l (by decide)));have HB1:=ł hbk1;have HB2:=ł hbk2;obtain ⟨pk,pn,ps,pv,pl⟩:=pp;obtain ⟨pa,pc,rfl,-,-⟩:=hk0.at_.form;obtain ⟨bk,bn,bs,bv,bl⟩:=bb;obtain ⟨ba,bc,rfl,-,-⟩:=hk1.at_.form;obtain ⟨dk,dn,ds,dv,dl⟩:=dd;obtain ⟨da,dc,rfl,-,-⟩:=hk2.at_.form;obtain ⟨ek,en,es,ev,el⟩:=ee;obtain ⟨ea,ec,rfl,-,-⟩:=hk3.at_.form;simp only [ae.val] at HT1 HT2 HB1 HB2 ⊢;have ji:=ł hk0;have nO:=ł hk1;have Dh:=ł hk2;have JP:=ł hk3;have hln:(ed f (ae.t (.mk pk pn ps (.slice pa pl.length pc) pl))).code.length=2 * (dC f (ae.t (.mk pk pn ps (.slice pa pl.length pc) pl))).length+3∧(ed f (ae.t (.mk ek en es (.slice ea el.length ec) el))).code.length=2 * (dC f (ae.t (.mk ek en es (.slice ea el.length ec) el))).length+3:=⟨by rw [ed,(kK _ _ _).1];rfl,by rw [ed,(kK _ _ _).1];rfl⟩;have hrn:(ed f (ae.t (.mk pk pn ps (.slice pa pl.length pc) pl))).refs.length=0∧(ed f (ae.t (.mk ek en es (.slice ea el.length ec) el))).refs.length=0:=⟨rfl,rfl⟩;have JQ:=he1.l;have JR:=he2.l;obtain ⟨Fy,JS⟩:=hbl;have Cc:=ł (show ∀ PA PB PD PE,PA=ed f (ae.t (.mk pk pn ps (.slice pa pl.length pc) pl))→PB=aR f (procs.map aj.d) (ae.t (.mk bk bn bs (.slice ba bl.length bc) bl))→PD=aR f (procs.map aj.d) (ae.t (.mk dk dn ds (.slice da dl.length dc) dl))→PE=ed f (ae.t (.mk ek en es (.slice ea el.length ec) el))→qF f (ae.t (.mk pk pn ps (.slice pa pl.length pc) pl)) (aR f (procs.map aj.d) (ae.t (.mk bk bn bs (.slice ba bl.length bc) bl))) (aR f (procs.map aj.d) (ae.t (.mk dk dn ds (.slice da dl.length dc) dl))) (ae.t (.mk ek en es (.slice ea el.length ec) el))=fU (fU (aK [ah ([⟨21,0,15,0,0⟩]:List Ins),PA,ah ([⟨23,0,0,0,0⟩,⟨6,0,1,0,0⟩]:List Ins),PB,ah ([⟨6,0,1,0,0⟩,⟨22,0,0,0,0⟩,⟨25,0,0,0,0⟩]:List Ins),PD,ah ([⟨27,0,0,0,0⟩]:List Ins),PE,ah ([⟨21,0,15,0,0⟩]:List Ins)]) (1+(PA).code.length) ((1+(PA).code.length+3+(PB).code.length)+1)) (1+(PA).code.length+3+(PB).code.length) ((1+(PA).code.length+3+(PB).code.length)+2+(PD).code.length) from by rintro _ _ _ _ rfl rfl rfl rfl;rfl);generalize qF f (ae.t (.mk pk pn ps (.slice pa pl.length pc) pl)) (aR f (procs.map aj.d) (ae.t (.mk bk bn bs (.slice ba bl.length bc) bl))) (aR f (procs.map aj.d) (ae.t (.mk dk dn ds (.slice da dl.length dc) dl))) (ae.t (.mk ek en es (.slice ea el.length ec) el))=XC at *;have JU:=ł (Cc.out _ _ _ _ rfl rfl rfl rfl);clear Cc;generalize ed f (ae.t (.mk pk pn ps (.slice pa pl.length pc) pl))=PA at *;generalize ed f (ae.t (.mk ek en es (.slice ea el.length ec) el))=PE at *;generalize aR f (procs.map aj.d) (ae.t (.mk bk bn bs (.slice ba bl.length bc) bl))=PB at *;generalize aR f (procs.map aj.d) (ae.t (.mk dk dn ds (.slice da dl.length dc) dl))=PD at *;have pY:=ł (show aP [ah ([⟨21,0,15,0,0⟩]:List Ins),PA,ah ([⟨23,0,0,0,0⟩,⟨6,0,1,0,0⟩]:List Ins),PB,ah ([⟨6,0,1,0,0⟩,⟨22,0,0,0,0⟩,⟨25,0,0,0,0⟩]:List Ins),PD,ah ([⟨27,0,0,0,0⟩]:List Ins),PE,ah ([⟨21,0,15,0,0⟩]:List Ins)]=1+(PA).code.length+2+(PB).code.length+3+(PD).code.length+1+(PE).code.length+1 from by
  simp only [aP,List.map_cons,List.map_nil,List.sum_cons,List.sum_nil,ah,List.length_cons,List.length_nil];omega)
 have gM:=ł (show aP [ah ([⟨21,0,15,0,0⟩]:List Ins),PA,ah ([⟨23,0,0,0,0⟩,⟨6,0,1,0,0⟩]:List Ins),PB,ah ([⟨6,0,1,0,0⟩,⟨22,0,0,0,0⟩,⟨25,0,0,0,0⟩]:List Ins),PD,ah ([⟨27,0,0,0,0⟩]:List Ins),PE,ah ([⟨21,0,15,0,0⟩]:List Ins)]≤200000∧bS [ah ([⟨21,0,15,0,0⟩]:List Ins),PA,ah ([⟨23,0,0,0,0⟩,⟨6,0,1,0,0⟩]:List Ins),PB,ah ([⟨6,0,1,0,0⟩,⟨22,0,0,0,0⟩,⟨25,0,0,0,0⟩]:List Ins),PD,ah ([⟨27,0,0,0,0⟩]:List Ins),PE,ah ([⟨21,0,15,0,0⟩]:List Ins)]≤200000 from by
  rw [pY.out];simp only [bS,List.map_cons,List.map_nil,List.sum_cons,List.sum_nil,ah,List.length_cons,List.length_nil]
  omega)
 have mV:=ł (show (PA).code.length≤50000∧(PB).code.length+(PD).code.length≤70000∧(PE).code.length≤50000 from by omega);obtain ⟨aL,bC,HG2⟩:=a2 w (.cells #[.int .u8 k,.int .i64 n,.string s,.slice (some ⟨kb,ko,none⟩) l.length kc] 24) (.cells #[.slice none 0 0,.slice none 0 0] 34);clear hg hx hk0 hk1 hk2 hk3 he1 he2 hbk1 hbk2 Fy JS h0 hl hln hrn JQ JR
 go_enter Tryz.func83,Tryz.ntmps83
 go_upto_region 1 with fail;generalize ((w.alloc (.cells #[.int .u8 k,.int .i64 n,.string s,.slice (some ⟨kb,ko,none⟩) l.length kc] 24)).alloc (.cells #[.slice none 0 0,.slice none 0 0] 34))=w2 at *;refine fJ 95 [some 14,some 15,some 16,some 17,some 5,some 6,none,none] [[],[0],[],[2],[],[],[4,1],[5,3]] [0,2] [.p (fun v y=>∃ g,v = .slice (some ⟨g,0,none⟩) 2 2∧y.heap[g]? = some (.cells #[.int .i64 0,.int .i64 15] 3 (0,0))),.c (.agg #[.int .u8 21,.int .i64 0,.int .i64 15,.int .i64 0,.int .i64 0]),.p (fun v y=>∃ g,v = .slice (some ⟨g,0,none⟩) 2 2∧y.heap[g]? = some (.cells #[.int .i64 0,.int .i64 1] 3 (0,0))),.c (.agg #[.int .u8 6,.int .i64 0,.int .i64 1,.int .i64 0,.int .i64 0]),.al 6 1 #[.int .u8 0,.int .i64 0,.int .i64 0,.int .i64 0,.int .i64 0] 57,.al 7 3 #[.int .u8 0,.int .i64 0,.int .i64 0,.int .i64 0,.int .i64 0] 57,.st 4,.st 5] ⟨sH,sH,trivial⟩ (dJ rfl) ?steps ?done
 case steps =>
  refine ⟨?s0,?s1,?s2,?s3,?s4,?s5,?s6,?s7,trivial⟩
  case s0 | s2 =>
   refine oo (fun vs x hP => ?_);simp only [zS];go_simp;exact gl ⟨_,rfl,heap_alloc_new x _⟩
  case s1 =>
   refine nD (fun vs x hG hP => ?_);obtain ⟨g0,h0,b0⟩:=pq hP 0;have HC:=ł (fO 21 (0) (15) g0 _ x b0);simp only [zS,h0];go_simp;refine (HC.out).mono ?_;rintro e y ⟨rfl,hg⟩;exact ⟨_,rfl,bz hg rfl⟩
  case s3 =>
   refine nD (fun vs x hG hP => ?_);obtain ⟨g2,h2,b2⟩:=pq hP 2;have HC:=ł (fO 6 (0) (1) g2 _ x b2);simp only [zS,h2];go_simp;refine (HC.out).mono ?_;rintro e y ⟨rfl,hg⟩;exact ⟨_,rfl,bz hg rfl⟩
  case s4 | s5 =>
   refine oz (fun vs x => ?_);simp only [zS];go_simp;exact ⟨rfl,rfl⟩
  case s6 =>
   refine os (fun vs x g hg hb hv => ?_);have h1:vs 1=_:=hv;obtain ⟨⟨c0,c1,c2⟩,c3,c4⟩:=bR hb;have zt:=aJ hb;simp only [zS,hg,h1];go_simp;exact jQ hb _ _ _ _ _
  case s7 =>
   refine os (fun vs x g hg hb hv => ?_);have h3:vs 3=_:=hv;obtain ⟨⟨c0,c1,c2⟩,c3,c4⟩:=bR hb;have zt:=aJ hb;simp only [zS,hg,h3];go_simp;exact jQ hb _ _ _ _ _
 case done =>
 intro vs w3 hE;have hG:=hE.jI;obtain ⟨g4,a4,l4,m4,b4⟩:=hE.box 4;obtain ⟨g5,a5,l5,m5,b5⟩:=hE.box 5;simp only [zS] at b4;simp only [zS] at b5;simp only [zS,Nat.reduceAdd,a4,a5];have HZ:=ł b4;have HT:=ł b5;simp only [bI] at HZ HT;have aG:=ł (gtr HG2.out hG);have Aq:=ł (ai bC.out hG);have dI:=ł (fun (y:World) (hy:Grow w3 y)=>And.intro (ai aL.out (gtr hG hy)) (And.intro (ji.out.later (gtr aG.out hy)) (And.intro (nO.out.later (gtr aG.out hy)) (And.intro (Dh.out.later (gtr aG.out hy)) (JP.out.later (gtr aG.out hy))))));clear hE hG b4 b5 aL bC;go_upto_region 2 with fail;refine wg 95 [some 18,some 19,some 20,some 21,some 22,some 23,some 24,some 25,some 26,some 27,some 28,some 29,some 30,some 31,some 32,some 33,some 34,some 35,some 36,some 37,some 38,some 39,some 40,some 41,some 7,some 8,some 9,some 10,none,none,none,none] [[],[],[1],[2],[3],[0,4],[],[],[7],[8],[9],[6,10],[],[],[13],[14],[15],[12,16],[],[],[19],[20],[21],[18,22],[],[],[],[],[24,5],[25,11],[26,17],[27,23]] [] [.c (.pointer (some ⟨G,0,none⟩)),.c (.pointer (some ⟨w.heap.size,3,none⟩)),.c (.slice (some ⟨kb,ko,none⟩) l.length kc),.c (.pointer (some ⟨kb,ko,none⟩)),.c (.agg #[.int .u8 pk,.int .i64 pn,.string ps,.slice pa pl.length pc]),.p (fun v y=>ay y v (PA)),.c (.pointer (some ⟨G,0,none⟩)),.c (.pointer (some ⟨w.heap.size,3,none⟩)),.c (.slice (some ⟨kb,ko,none⟩) l.length kc),.c (.pointer (some ⟨kb,(ko+4),none⟩)),.c (.agg #[.int .u8 bk,.int .i64 bn,.string bs,.slice ba bl.length bc]),.p (fun v y=>ay y v (PB)),.c (.pointer (some ⟨G,0,none⟩)),.c (.pointer (some ⟨w.heap.size,3,none⟩)),.c (.slice (some ⟨kb,ko,none⟩) l.length kc),.c (.pointer (some ⟨kb,(ko+8),none⟩)),.c (.agg #[.int .u8 dk,.int .i64 dn,.string ds,.slice da dl.length dc]),.p (fun v y=>ay y v (PD)),.c (.pointer (some ⟨G,0,none⟩)),.c (.pointer (some ⟨w.heap.size,3,none⟩)),.c (.slice (some ⟨kb,ko,none⟩) l.length kc),.c (.pointer (some ⟨kb,(ko+12),none⟩)),.c (.agg #[.int .u8 ek,.int .i64 en,.string es,.slice ea el.length ec]),.p (fun v y=>ay y v (PE)),.al 28 5 #[.slice none 0 0,.slice none 0 0] 34,.al 29 11 #[.slice none 0 0,.slice none 0 0] 34,.al 30 17 #[.slice none 0 0,.slice none 0 0] 34,.al 31 23 #[.slice none 0 0,.slice none 0 0] 34,.st 24,.st 25,.st 26,.st 27] ⟨sP,sP,sP,sP,trivial⟩ (dJ rfl) ?steps ?done
 case steps =>
  refine ⟨?s0,?s1,?s2,?s3,?s4,?s5,?s6,?s7,?s8,?s9,?s10,?s11,?s12,?s13,?s14,?s15,?s16,?s17,?s18,?s19,?s20,?s21,?s22,?s23,?s24,?s25,?s26,?s27,?s28,?s29,?s30,?s31,trivial⟩
  case s0 | s1 | s6 | s7 | s12 | s13 | s18 | s19 =>
   refine oo (fun vs x hP => ?_);simp only [zS];go_simp;exact gc
  case s2 | s8 | s14 | s20 =>
   refine ok dI (fun vs x hG HX hP => ?_);obtain ⟨⟨n0,n1⟩,n2,n3⟩:=aF (HX.out.1);simp only [zS];go_simp;exact gc
  case s3 =>
   refine ok dI (fun vs x hG HX hP => ?_);have hbd:0<l.length:=by have:=fH.out;omega
   simp only [zS];go_simp;exact gc
  case s4 =>
   refine ok dI (fun vs x hG HX hP => ?_);obtain ⟨⟨d0,d1⟩,d2,d3⟩:=(HX.out.2.1).four;simp only [zS];go_simp;exact gc
  case s5 =>
   refine ok dI (fun vs x hG HX hP => ?_);have HC:=ł (HT1.out x (gtr aG.out hG));simp only [zS];go_simp;refine (HC.out).mono ?_;rintro e y ⟨v,rfl,hp,hg⟩;exact ⟨_,rfl,aY hg hp⟩
  case s9 =>
   refine ok dI (fun vs x hG HX hP => ?_);have hbd:(1:Int)<(l.length:Nat):=by have:=fH.out;omega
   simp only [zS];go_simp;exact gc
  case s10 =>
   refine ok dI (fun vs x hG HX hP => ?_);obtain ⟨⟨d0,d1⟩,d2,d3⟩:=(HX.out.2.2.1).four;simp only [zS];go_simp;exact gc
  case s11 =>
   refine ok dI (fun vs x hG HX hP => ?_);have HC:=ł (HB1.out x (gtr aG.out hG));simp only [zS];go_simp;refine (HC.out).mono ?_;rintro e y ⟨v,rfl,hp,hg⟩;exact ⟨_,rfl,aY hg hp⟩
  case s15 =>
   refine ok dI (fun vs x hG HX hP => ?_);have hbd:(2:Int)<(l.length:Nat):=by have:=fH.out;omega
   simp only [zS];go_simp;exact gc
  case s16 =>
   refine ok dI (fun vs x hG HX hP => ?_);obtain ⟨⟨d0,d1⟩,d2,d3⟩:=(HX.out.2.2.2.1).four;simp only [zS];go_simp;exact gc
  case s17 =>
   refine ok dI (fun vs x hG HX hP => ?_);have HC:=ł (HB2.out x (gtr aG.out hG));simp only [zS];go_simp;refine (HC.out).mono ?_;rintro e y ⟨v,rfl,hp,hg⟩;exact ⟨_,rfl,aY hg hp⟩
  case s21 =>
   refine ok dI (fun vs x hG HX hP => ?_);have hbd:(3:Int)<(l.length:Nat):=by have:=fH.out;omega
   simp only [zS];go_simp;exact gc
  case s22 =>
   refine ok dI (fun vs x hG HX hP => ?_);obtain ⟨⟨d0,d1⟩,d2,d3⟩:=(HX.out.2.2.2.2).four;simp only [zS];go_simp;exact gc
  case s23 =>
   refine ok dI (fun vs x hG HX hP => ?_);have HC:=ł (HT2.out x (gtr aG.out hG));simp only [zS];go_simp;refine (HC.out).mono ?_;rintro e y ⟨v,rfl,hp,hg⟩;exact ⟨_,rfl,aY hg hp⟩
  case s24 | s25 | s26 | s27 =>
   refine oz (fun vs x => ?_);simp only [zS];go_simp;exact ⟨rfl,rfl⟩
  case s28 =>
   refine os (fun vs x g hg hb hv => ?_);obtain ⟨iA,iB,jU,jV,h5,c5,f5⟩:=hv;obtain ⟨c0,c1⟩:=aB hb;have zt:=aJ hb;simp only [zS,hg,h5];go_simp;exact set2 hb _ _
  case s29 =>
   refine os (fun vs x g hg hb hv => ?_);obtain ⟨gq,gu,jb,jd,h11,c11,f11⟩:=hv;obtain ⟨c0,c1⟩:=aB hb;have zt:=aJ hb;simp only [zS,hg,h11];go_simp;exact set2 hb _ _
  case s30 =>
   refine os (fun vs x g hg hb hv => ?_);obtain ⟨ny,nz,oD,oF,jC,c17,f17⟩:=hv;obtain ⟨c0,c1⟩:=aB hb;have zt:=aJ hb;simp only [zS,hg,jC];go_simp;exact set2 hb _ _
  case s31 =>
   refine os (fun vs x g hg hb hv => ?_);obtain ⟨qY,qZ,sj,su,h23,c23,f23⟩:=hv;obtain ⟨c0,c1⟩:=aB hb;have zt:=aJ hb;simp only [zS,hg,h23];go_simp;exact set2 hb _ _
 case done =>
 intro vs w4 hE;have hG:=hE.grow;obtain ⟨iA,iB,jU,jV,h5,c5,f5⟩:=hE.val 5;obtain ⟨gq,gu,jb,jd,h11,c11,f11⟩:=hE.val 11;obtain ⟨ny,nz,oD,oF,jC,c17,f17⟩:=hE.val 17;obtain ⟨qY,qZ,sj,su,h23,c23,f23⟩:=hE.val 23;obtain ⟨g24,a24,l24,m24,tH⟩:=hE.box 24;obtain ⟨K7,a25,l25,m25,zA⟩:=hE.box 25;obtain ⟨rF,a26,l26,m26,tJ⟩:=hE.box 26;obtain ⟨Di,a27,l27,m27,tq⟩:=hE.box 27;simp only [zS,h5] at tH;simp only [zS,h11] at zA;simp only [zS,jC] at tJ;simp only [zS,h23] at tq;simp only [zS,Nat.reduceAdd,h5,h11,jC,h23,a24,a25,a26,a27];have vP:=ł tH;have vQ:=ł zA;have vR:=ł tJ;have vS:=ł tq;simp only [bI] at vP vQ vR vS;have uN:=ł (show ay w4 (.agg #[.slice iA (PA).code.length iB,.slice jU (PA).refs.length jV]) (PA) from ⟨iA,iB,jU,jV,rfl,c5,f5⟩);have Ce:=ł (show ay w4 (.agg #[.slice gq (PB).code.length gu,.slice jb (PB).refs.length jd]) (PB) from ⟨gq,gu,jb,jd,rfl,c11,f11⟩);have Cf:=ł (show ay w4 (.agg #[.slice ny (PD).code.length nz,.slice oD (PD).refs.length oF]) (PD) from ⟨ny,nz,oD,oF,rfl,c17,f17⟩);have Cg:=ł (show ay w4 (.agg #[.slice qY (PE).code.length qZ,.slice sj (PE).refs.length su]) (PE) from ⟨qY,qZ,sj,su,rfl,c23,f23⟩);have aN:=ł (gtr aG.out hG);have ku:=ł (ai Aq.out hG);have bf:=ł (fun (y:World) (hy:Grow w4 y)=>And.intro (ai HZ.out (gtr hG hy)) (And.intro (ai HT.out (gtr hG hy)) (And.intro (ai vP.out hy) (And.intro (ai vQ.out hy) (And.intro (ai vR.out hy) (And.intro (ai vS.out hy) (And.intro (uN.out.later hy) (And.intro (Ce.out.later hy) (And.intro (Cf.out.later hy) (Cg.out.later hy))))))))));clear hE hG tH zA tJ tq c5 f5 c11 f11 c17 f17 c23 f23 dI HT1 HT2 HB1 HB2;go_upto_region 3 with fail;refine wg 95 [some 42,some 43,some 44,some 45,some 46,some 47,some 48,some 49,some 50,some 51,some 52,some 53,some 54,some 55,some 56,some 57,some 58,some 59,some 60,some 61,some 62,some 63,some 64,some 65,some 66,some 67,some 68,some 69,some 11,none] [[],[0],[1],[],[],[4],[],[5,6],[7],[],[],[],[11],[],[13],[10,12,14],[15],[],[],[18],[19],[20],[],[],[23],[24],[2,3,8,9,16,17,21,22,25],[26],[],[28,27]] [1,4,7,11,13,15,18,20,24,26] [.c (.agg #[.int .u8 21,.int .i64 0,.int .i64 15,.int .i64 0,.int .i64 0]),.p (fun v y=>∃ g,v = .slice (some ⟨g,0,none⟩) 1 1∧ax 5 Ins.cells y (.slice (some ⟨g,0,none⟩) 1 1) ([⟨21,0,15,0,0⟩]:List Ins)),.p (fun v y=>ay y v (ah ([⟨21,0,15,0,0⟩]:List Ins))),.c (.agg #[.slice iA (PA).code.length iB,.slice jU (PA).refs.length jV]),.p (fun v y=>∃ g,v = .slice (some ⟨g,0,none⟩) 2 2∧y.heap[g]? = some (.cells #[.int .i64 0,.int .i64 0] 3 (0,0))),.c (.agg #[.int .u8 23,.int .i64 0,.int .i64 0,.int .i64 0,.int .i64 0]),.c (.agg #[.int .u8 6,.int .i64 0,.int .i64 1,.int .i64 0,.int .i64 0]),.p (fun v y=>∃ g,v = .slice (some ⟨g,0,none⟩) 2 2∧ax 5 Ins.cells y (.slice (some ⟨g,0,none⟩) 2 2) ([⟨23,0,0,0,0⟩,⟨6,0,1,0,0⟩]:List Ins)),.p (fun v y=>ay y v (ah ([⟨23,0,0,0,0⟩,⟨6,0,1,0,0⟩]:List Ins))),.c (.agg #[.slice gq (PB).code.length gu,.slice jb (PB).refs.length jd]),.c (.agg #[.int .u8 6,.int .i64 0,.int .i64 1,.int .i64 0,.int .i64 0]),.p (fun v y=>∃ g,v = .slice (some ⟨g,0,none⟩) 1 1∧y.heap[g]? = some (.cells #[.int .i64 0] 3 (0,0))),.c (.agg #[.int .u8 22,.int .i64 0,.int .i64 0,.int .i64 0,.int .i64 0]),.p (fun v y=>∃ g,v = .slice (some ⟨g,0,none⟩) 1 1∧y.heap[g]? = some (.cells #[.int .i64 0] 3 (0,0))),.c (.agg #[.int .u8 25,.int .i64 0,.int .i64 0,.int .i64 0,.int .i64 0]),.p (fun v y=>∃ g,v = .slice (some ⟨g,0,none⟩) 3 3∧ax 5 Ins.cells y (.slice (some ⟨g,0,none⟩) 3 3) ([⟨6,0,1,0,0⟩,⟨22,0,0,0,0⟩,⟨25,0,0,0,0⟩]:List Ins)),.p (fun v y=>ay y v (ah ([⟨6,0,1,0,0⟩,⟨22,0,0,0,0⟩,⟨25,0,0,0,0⟩]:List Ins))),.c (.agg #[.slice ny (PD).code.length nz,.slice oD (PD).refs.length oF]),.p (fun v y=>∃ g,v = .slice (some ⟨g,0,none⟩) 2 2∧y.heap[g]? = some (.cells #[.int .i64 0,.int .i64 0] 3 (0,0))),.c (.agg #[.int .u8 27,.int .i64 0,.int .i64 0,.int .i64 0,.int .i64 0]),.p (fun v y=>∃ g,v = .slice (some ⟨g,0,none⟩) 1 1∧ax 5 Ins.cells y (.slice (some ⟨g,0,none⟩) 1 1) ([⟨27,0,0,0,0⟩]:List Ins)),.p (fun v y=>ay y v (ah ([⟨27,0,0,0,0⟩]:List Ins))),.c (.agg #[.slice qY (PE).code.length qZ,.slice sj (PE).refs.length su]),.c (.agg #[.int .u8 21,.int .i64 0,.int .i64 15,.int .i64 0,.int .i64 0]),.p (fun v y=>∃ g,v = .slice (some ⟨g,0,none⟩) 1 1∧ax 5 Ins.cells y (.slice (some ⟨g,0,none⟩) 1 1) ([⟨21,0,15,0,0⟩]:List Ins)),.p (fun v y=>ay y v (ah ([⟨21,0,15,0,0⟩]:List Ins))),.p (fun v y=>∃ g,v = .slice (some ⟨g,0,none⟩) 9 9∧gG y (.slice (some ⟨g,0,none⟩) 9 9) [ah ([⟨21,0,15,0,0⟩]:List Ins),PA,ah ([⟨23,0,0,0,0⟩,⟨6,0,1,0,0⟩]:List Ins),PB,ah ([⟨6,0,1,0,0⟩,⟨22,0,0,0,0⟩,⟨25,0,0,0,0⟩]:List Ins),PD,ah ([⟨27,0,0,0,0⟩]:List Ins),PE,ah ([⟨21,0,15,0,0⟩]:List Ins)]),.p (fun v y=>oN w.heap.size y v (aK [ah ([⟨21,0,15,0,0⟩]:List Ins),PA,ah ([⟨23,0,0,0,0⟩,⟨6,0,1,0,0⟩]:List Ins),PB,ah ([⟨6,0,1,0,0⟩,⟨22,0,0,0,0⟩,⟨25,0,0,0,0⟩]:List Ins),PD,ah ([⟨27,0,0,0,0⟩]:List Ins),PE,ah ([⟨21,0,15,0,0⟩]:List Ins)])),.al 29 27 #[.slice none 0 0,.slice none 0 0] 34,.st 28] ⟨sR,sP,sH,sR,sP,sH,sH,sR,sP,sH,sR,sP,sR,sP,sQ,⟨(fun v x y hg h=>h.later hg),fun _=>(fun z hz g v x y hb hm h=>by simp [Kd.zero,Sp.k] at hz;subst hz;exact h.box hb hm)⟩,trivial⟩ (dJ rfl) ?steps ?done
 case steps =>
  refine ⟨?s0,?s1,?s2,?s3,?s4,?s5,?s6,?s7,?s8,?s9,?s10,?s11,?s12,?s13,?s14,?s15,?s16,?s17,?s18,?s19,?s20,?s21,?s22,?s23,?s24,?s25,?s26,?s27,?s28,?s29,trivial⟩
  case s0 | s23 =>
   refine ok bf (fun vs x hG HX hP => ?_);obtain ⟨⟨i0,i1,i2⟩,i3,i4⟩:=bR HX.out.1;simp only [zS];go_simp;exact gc
  case s1 | s24 =>
   refine oo (fun vs x hP => ?_);simp only [zS];go_simp;exact gl ⟨_,rfl,ax.bH (f:=Ins.cells) (l:=([⟨21,0,15,0,0⟩]:List Ins)) (fun _=>rfl) (heap_alloc_new x _) rfl (by simp)⟩
  case s2 =>
   refine ok bf (fun vs x hG HX hP => ?_);obtain ⟨g1,h1,b1⟩:=pq hP 1;have HC:=ł (gQ _ _ x b1);simp only [zS,h1];go_simp;refine (HC.out).mono ?_;rintro e y ⟨v,rfl,hp,hg⟩;exact ⟨_,rfl,aY hg hp⟩
  case s3 =>
   refine ok bf (fun vs x hG HX hP => ?_);obtain ⟨i0,i1⟩:=aB HX.out.2.2.1;simp only [zS];go_simp;exact gc
  case s4 | s11 | s13 | s18 =>
   refine oo (fun vs x hP => ?_);simp only [zS];go_simp;exact gl ⟨_,rfl,heap_alloc_new x _⟩
  case s5 =>
   refine ok bf (fun vs x hG HX hP => ?_);obtain ⟨g4,h4,b4⟩:=pq hP 4;have HC:=ł (fO 23 (0) (0) g4 _ x b4);simp only [zS,h4];go_simp;refine (HC.out).mono ?_;rintro e y ⟨rfl,hg⟩;exact ⟨_,rfl,bz hg rfl⟩
  case s6 | s10 =>
   refine ok bf (fun vs x hG HX hP => ?_);obtain ⟨⟨i0,i1,i2⟩,i3,i4⟩:=bR HX.out.2.1;simp only [zS];go_simp;exact gc
  case s7 =>
   refine oo (fun vs x hP => ?_);simp only [zS];go_simp;exact gl ⟨_,rfl,ax.bH (f:=Ins.cells) (l:=([⟨23,0,0,0,0⟩,⟨6,0,1,0,0⟩]:List Ins)) (fun _=>rfl) (heap_alloc_new x _) rfl (by simp)⟩
  case s8 =>
   refine ok bf (fun vs x hG HX hP => ?_);obtain ⟨g7,h7,b7⟩:=pq hP 7;have HC:=ł (gQ _ _ x b7);simp only [zS,h7];go_simp;refine (HC.out).mono ?_;rintro e y ⟨v,rfl,hp,hg⟩;exact ⟨_,rfl,aY hg hp⟩
  case s9 =>
   refine ok bf (fun vs x hG HX hP => ?_);obtain ⟨i0,i1⟩:=aB HX.out.2.2.2.1;simp only [zS];go_simp;exact gc
  case s12 =>
   refine ok bf (fun vs x hG HX hP => ?_);obtain ⟨g11,h11,b11⟩:=pq hP 11;have HC:=ł (uR 22 (0) g11 _ x b11);simp only [zS,h11];go_simp;refine (HC.out).mono ?_;rintro e y ⟨rfl,hg⟩;exact ⟨_,rfl,bz hg rfl⟩
  case s14 =>
   refine ok bf (fun vs x hG HX hP => ?_);obtain ⟨g13,kE,b13⟩:=pq hP 13;have HC:=ł (uR 25 (0) g13 _ x b13);simp only [zS,kE];go_simp;refine (HC.out).mono ?_;rintro e y ⟨rfl,hg⟩;exact ⟨_,rfl,bz hg rfl⟩
  case s15 =>
   refine oo (fun vs x hP => ?_);simp only [zS];go_simp;exact gl ⟨_,rfl,ax.bH (f:=Ins.cells) (l:=([⟨6,0,1,0,0⟩,⟨22,0,0,0,0⟩,⟨25,0,0,0,0⟩]:List Ins)) (fun _=>rfl) (heap_alloc_new x _) rfl (by simp)⟩
  case s16 =>
   refine ok bf (fun vs x hG HX hP => ?_);obtain ⟨g15,pW,b15⟩:=pq hP 15;have HC:=ł (gQ _ _ x b15);simp only [zS,pW];go_simp;refine (HC.out).mono ?_;rintro e y ⟨v,rfl,hp,hg⟩;exact ⟨_,rfl,aY hg hp⟩
  case s17 =>
   refine ok bf (fun vs x hG HX hP => ?_);obtain ⟨i0,i1⟩:=aB HX.out.2.2.2.2.1;simp only [zS];go_simp;exact gc
  case s19 =>
   refine ok bf (fun vs x hG HX hP => ?_);obtain ⟨g18,h18,b18⟩:=pq hP 18;have HC:=ł (fO 27 (0) (0) g18 _ x b18);simp only [zS,h18];go_simp;refine (HC.out).mono ?_;rintro e y ⟨rfl,hg⟩;exact ⟨_,rfl,bz hg rfl⟩
  case s20 =>
   refine oo (fun vs x hP => ?_);simp only [zS];go_simp;exact gl ⟨_,rfl,ax.bH (f:=Ins.cells) (l:=([⟨27,0,0,0,0⟩]:List Ins)) (fun _=>rfl) (heap_alloc_new x _) rfl (by simp)⟩
  case s21 =>
   refine ok bf (fun vs x hG HX hP => ?_);obtain ⟨g20,h20,b20⟩:=pq hP 20;have HC:=ł (gQ _ _ x b20);simp only [zS,h20];go_simp;refine (HC.out).mono ?_;rintro e y ⟨v,rfl,hp,hg⟩;exact ⟨_,rfl,aY hg hp⟩
  case s22 =>
   refine ok bf (fun vs x hG HX hP => ?_);obtain ⟨i0,i1⟩:=aB HX.out.2.2.2.2.2.1;simp only [zS];go_simp;exact gc
  case s25 =>
   refine ok bf (fun vs x hG HX hP => ?_);obtain ⟨g24,K8,tH⟩:=pq hP 24;have HC:=ł (gQ _ _ x tH);simp only [zS,K8];go_simp;refine (HC.out).mono ?_;rintro e y ⟨v,rfl,hp,hg⟩;exact ⟨_,rfl,aY hg hp⟩
  case s26 =>
   refine ok bf (fun vs x hG HX hP => ?_);have p2:=pq hP 2;have GK:=p2;obtain ⟨QK,QL,QM,QN,h2,c2,f2⟩:=p2;rw [h2] at GK;have p8:=pq hP 8;have jk:=p8;obtain ⟨Ch,Ci,Cj,Ck,h8,c8,f8⟩:=p8;rw [h8] at jk;have p16:=pq hP 16;have yN:=p16;obtain ⟨PR,PS,PT,PU,h16,c16,f16⟩:=p16;rw [h16] at yN;have Dr:=pq hP 21;have FX:=Dr;obtain ⟨PV,PW,PY,PZ,h21,c21,f21⟩:=Dr;rw [h21] at FX;have p25:=pq hP 25;have vT:=p25;obtain ⟨BF,BG,BH,BI,tK,K9,f25⟩:=p25;rw [tK] at vT;simp only [zS,h2,h8,h16,h21,tK];go_simp;exact gl ⟨_,rfl,qB (vs:=[(.slice QK (ah ([⟨21,0,15,0,0⟩]:List Ins)).code.length QL,.slice QM (ah ([⟨21,0,15,0,0⟩]:List Ins)).refs.length QN),(.slice iA (PA).code.length iB,.slice jU (PA).refs.length jV),(.slice Ch (ah ([⟨23,0,0,0,0⟩,⟨6,0,1,0,0⟩]:List Ins)).code.length Ci,.slice Cj (ah ([⟨23,0,0,0,0⟩,⟨6,0,1,0,0⟩]:List Ins)).refs.length Ck),(.slice gq (PB).code.length gu,.slice jb (PB).refs.length jd),(.slice PR (ah ([⟨6,0,1,0,0⟩,⟨22,0,0,0,0⟩,⟨25,0,0,0,0⟩]:List Ins)).code.length PS,.slice PT (ah ([⟨6,0,1,0,0⟩,⟨22,0,0,0,0⟩,⟨25,0,0,0,0⟩]:List Ins)).refs.length PU),(.slice ny (PD).code.length nz,.slice oD (PD).refs.length oF),(.slice PV (ah ([⟨27,0,0,0,0⟩]:List Ins)).code.length PW,.slice PY (ah ([⟨27,0,0,0,0⟩]:List Ins)).refs.length PZ),(.slice qY (PE).code.length qZ,.slice sj (PE).refs.length su),(.slice BF (ah ([⟨21,0,15,0,0⟩]:List Ins)).code.length BG,.slice BH (ah ([⟨21,0,15,0,0⟩]:List Ins)).refs.length BI)]) (heap_alloc_new x _) rfl ⟨ay.later (GK) ((Mv.refl _ _).alloc _),ay.later (HX.out.2.2.2.2.2.2.1) ((Mv.refl _ _).alloc _),ay.later (jk) ((Mv.refl _ _).alloc _),ay.later (HX.out.2.2.2.2.2.2.2.1) ((Mv.refl _ _).alloc _),ay.later (yN) ((Mv.refl _ _).alloc _),ay.later (HX.out.2.2.2.2.2.2.2.2.1) ((Mv.refl _ _).alloc _),ay.later (FX) ((Mv.refl _ _).alloc _),ay.later (HX.out.2.2.2.2.2.2.2.2.2) ((Mv.refl _ _).alloc _),ay.later (vT) ((Mv.refl _ _).alloc _),trivial⟩⟩
  case s27 =>
   refine ok bf (fun vs x hG HX hP => ?_);obtain ⟨rF,La,tJ⟩:=pq hP 26;have HC:=ł (Nu _ _ x tJ gM.out.1 gM.out.2 (by simp));have JV:=(gtr aN.out hG).size;simp only [zS,La];go_simp;refine (HC.out).mono ?_;rintro e y ⟨v,rfl,hp,hg⟩;exact ⟨_,rfl,aY hg (hp.low JV)⟩
  case s28 =>
   refine oz (fun vs x => ?_);simp only [zS];go_simp;exact ⟨rfl,rfl⟩
  case s29 =>
   refine os (fun vs x g hg hb hv => ?_);obtain ⟨Jo,lU,lV,lW,h27,zB,f27⟩:=hv;obtain ⟨c0,c1⟩:=aB hb;have zt:=aJ hb;simp only [zS,hg,h27];go_simp;exact set2 hb _ _
 case done =>
 intro vs w5 hE;have hG:=hE.grow;have p2:=hE.val 2;have GK:=p2;obtain ⟨QK,QL,QM,QN,h2,c2,f2⟩:=p2;rw [h2] at GK;have p8:=hE.val 8;have jk:=p8;obtain ⟨Ch,Ci,Cj,Ck,h8,c8,f8⟩:=p8;rw [h8] at jk;have p16:=hE.val 16;have yN:=p16;obtain ⟨PR,PS,PT,PU,h16,c16,f16⟩:=p16;rw [h16] at yN;have Dr:=hE.val 21;have FX:=Dr;obtain ⟨PV,PW,PY,PZ,h21,c21,f21⟩:=Dr;rw [h21] at FX;have p25:=hE.val 25;have vT:=p25;obtain ⟨BF,BG,BH,BI,tK,K9,f25⟩:=p25;rw [tK] at vT;obtain ⟨Jo,lU,lV,lW,h27,zB,f27⟩:=hE.val 27;obtain ⟨wF,a28,l28,m28,zC⟩:=hE.box 28;simp only [zS,h27] at zC;simp only [zS,Nat.reduceAdd,h2,h8,h16,h21,tK,h27,a28];have tL:=ł zC;simp only [bI] at tL;have aS:=ł (gtr aN.out hG);have jR:=ł (ai ku.out hG);have iZ:=ł zB;have yL:=ł f27;have Jp:=ł (ai vP.out hG);have Jq:=ł (ai vQ.out hG);have yt:=ł (ai vR.out hG);have Jr:=ł (ai vS.out hG);have hjl:=(dY [ah ([⟨21,0,15,0,0⟩]:List Ins),PA,ah ([⟨23,0,0,0,0⟩,⟨6,0,1,0,0⟩]:List Ins),PB,ah ([⟨6,0,1,0,0⟩,⟨22,0,0,0,0⟩,⟨25,0,0,0,0⟩]:List Ins),PD,ah ([⟨27,0,0,0,0⟩]:List Ins),PE,ah ([⟨21,0,15,0,0⟩]:List Ins)]).1;rw [pY.out] at hjl;obtain ⟨hb1,hb2,hb4⟩:=mV.out;clear hE hG zC zB f27 bf vP vQ vR vS uN Ce Cf Cg HZ HT gM pY mV;generalize (PA).code.length=n5 at *;generalize (PB).code.length=n11 at *;generalize (PD).code.length=n17 at *;generalize (PE).code.length=n23 at *;generalize aK [ah ([⟨21,0,15,0,0⟩]:List Ins),PA,ah ([⟨23,0,0,0,0⟩,⟨6,0,1,0,0⟩]:List Ins),PB,ah ([⟨6,0,1,0,0⟩,⟨22,0,0,0,0⟩,⟨25,0,0,0,0⟩]:List Ins),PD,ah ([⟨27,0,0,0,0⟩]:List Ins),PE,ah ([⟨21,0,15,0,0⟩]:List Ins)]=JC at *;have hROW:=iZ.out;obtain ⟨o8,yu⟩:=JC;unfold dZ at hROW;unfold qJ at yL;simp only at hjl hROW;generalize hjn:o8.length=jn at hjl tL hROW;have vU:=yL.out;simp only at vU;generalize hjr:yu.length=jr at tL vU;have Js:=ł (show w5.ownsRow w.heap.size 78 2 (.slice lV jr lW) jr (flat bD.cells yu) from vU);clear vU yL;rcases hROW.2 with ⟨he',Cm⟩ | ⟨g,jc,cur,he',hbase,hgb,Jt,Ju,hcsz,htk⟩
 · exfalso;omega
 simp only [Value.slice.injEq,true_and] at he';obtain ⟨JW,Cm⟩:=he';subst JW Cm;have hne1:g≠wF:=fun e=>by
  have:=hgb;rw [e,tL.out] at this;simp only [Option.some.injEq,Obj.cells.injEq] at this;exact absurd this.2.1 (by decide)
 have hne2:g≠w.heap.size+1:=fun e=>by
  have:=hgb;rw [e,jR.out] at this;simp only [Option.some.injEq,Obj.cells.injEq] at this;exact absurd this.2.1 (by decide)
 have Cn:g≠rF:=fun e=>by
  have:=hgb;rw [e,yt.out] at this;simp only [Option.some.injEq,Obj.cells.injEq] at this;exact absurd this.2.1 (by decide)
 have Dn:=ł hROW;clear hgb hcsz htk Jt Ju cur hROW iZ;generalize Co:1+n5=i12 at *;have Cq:=ł Co;generalize Cr:i12+3+n11=i13 at *;have JX:=ł Cr;have hib:i12≤400000∧i13≤500000:=by omega
 have Jv:i12+1<jn∧i13+2+n17<jn∧i12<i13∧1≤i12:=by omega
 obtain ⟨ZI,ZJ⟩:=hib;obtain ⟨ZK,ZL,ZM,ZN⟩:=Jv;have ZO:jn≤300000:=by omega
 clear Co Cr hjl;have bK:=ł (fun (y:World) (hy:Grow w5 y)=>And.intro (ai Jp.out hy) (And.intro (ai Jq.out hy) (And.intro (ai yt.out hy) (ai Jr.out hy))));go_upto_region 4 with fail;refine fJ 95 [some 70,some 71,some 72,some 73,some 12] [[],[0],[1],[2],[3]] [] [.c (.pointer (some ⟨g24,0,none⟩)),.c (.slice iA n5 iB),.c (.int .i64 n5),.c (.int .i64 i12),.c (.int .i64 i12)] trivial (dJ rfl) ?steps ?done
 case steps =>
  refine ⟨?s0,?s1,?s2,?s3,?s4,trivial⟩
  case s0 | s2 | s4 =>
   refine oo (fun vs x hP => ?_);simp only [zS];go_simp;exact gc
  case s1 =>
   refine ok0 bK (fun vs x hG HX hP => ?_);obtain ⟨i0,i1⟩:=aB HX.out.1;simp only [zS];go_simp;exact gc
  case s3 =>
   refine ok0 bK (fun vs x hG HX hP => ?_);have hw:=IntWalk.i64_in (1+(n5:Int)) (by omega);simp only [zS];go_simp;exact bz (Mv.refl _ _) (by rw [← Cq.out];simp)
 case done =>
 intro vs w6 hE;have hG:=hE.jI;simp only [zS,Nat.reduceAdd];have fA:=ł (Bj bK.out hG);have JY:=ł hG;clear hE hG;go_upto_region 5 with fail;refine fJ 95 [some 74,some 75,some 76,some 77,some 78,some 79,some 13] [[],[0],[],[2],[3],[1,4],[5]] [] [.c (.int .i64 i12),.c (.int .i64 ((i12:Int)+3)),.c (.pointer (some ⟨K7,0,none⟩)),.c (.slice gq n11 gu),.c (.int .i64 n11),.c (.int .i64 i13),.c (.int .i64 i13)] trivial (dJ rfl) ?steps ?done
 case steps =>
  refine ⟨?s0,?s1,?s2,?s3,?s4,?s5,?s6,trivial⟩
  case s0 | s2 | s4 | s6 =>
   refine oo (fun vs x hP => ?_);simp only [zS];go_simp;exact gc
  case s1 =>
   refine ok0 fA (fun vs x hG HX hP => ?_);have hw:=IntWalk.i64_in ((i12:Int)+3) (by omega);simp only [zS];go_simp;exact gc
  case s3 =>
   refine ok0 fA (fun vs x hG HX hP => ?_);obtain ⟨i0,i1⟩:=aB HX.out.2.1;simp only [zS];go_simp;exact gc
  case s5 =>
   refine ok0 fA (fun vs x hG HX hP => ?_);have hw:=IntWalk.i64_in ((i12:Int)+3+n11) (by omega);simp only [zS];go_simp;exact bz (Mv.refl _ _) (by rw [← JX.out,← Cq.out];simp)
 case done =>
 intro vs w7 hE;have hG:=hE.jI;simp only [zS,Nat.reduceAdd];have pM:=ł (gtr JY.out hG);have JZ:=ł (gtr aS.out pM.out);have lh:=ł (show w7.heap[wF]? = _∧w7.heap[w.heap.size+1]? = _∧w7.heap[rF]? = _ from ⟨ai tL.out pM.out,ai jR.out pM.out,ai yt.out pM.out⟩);have J2:=ł (show dZ w7 w.heap.size (.slice (some ⟨g,0,none⟩) jn lU) o8 from bQ (by have:=Dn.out;rw [hjn];exact this) pM.out (fun _ _ e=>e));have J3:=ł (show Mv (fun b=>b=g) w5 w7 from pM.out.mono (fun _ e=>e.elim));clear hE hG bK fA;have jW:=Er w.heap.size g lU jn o8 lV jr lW (i12:Nat) (i13+1) w7 J2.out (by omega) (by omega) (by omega) (by omega) (by omega);rw [show ((i13+1:Nat):Int)=(i13:Int)+1 from by omega] at jW;have oI:=ł jW;clear jW;obtain ⟨k0,k1⟩:=aB lh.out.1;obtain ⟨k2,k3⟩:=aB lh.out.2.2;have hlb:=lt_of_block lh.out.1;have yM:=lt_of_block lh.out.2.2;go_wp2_with fail;refine oI.out.mono ?_;rintro e w8 ⟨rfl,hr,hm⟩;have J4:=ł hr;have ll:=ł (show w8.heap[wF]? = _∧w8.heap[w.heap.size+1]? = _∧w8.heap[rF]? = _ from ⟨(hm.block _ hlb (fun e=>hne1 e.symm)).trans lh.out.1,(hm.block _ (lt_of_block lh.out.2.1) (fun e=>hne2 e.symm)).trans lh.out.2.1,(hm.block _ (lt_of_block lh.out.2.2) (fun e=>Cn e.symm)).trans lh.out.2.2⟩);have J5:=ł (show Grow w w8 from Mv.trans JZ.out hm (fun b e => .inr (by omega)));have J6:=ł (Mv.trans J3.out hm (fun b e => .inl e));clear hr hm k0 k1 k2 k3 hlb yM oI
 have ZP:(rV o8 (i12:Nat) (i13+1)).length=jn:=by rw [Nv];exact hjn
 generalize Cs:rV o8 (i12:Nat) (i13+1)=Lb at *;have J7:=ł Cs;clear Cs;have jW:=Er w.heap.size g lU jn Lb lV jr lW i13 (i13+2+n17) w8 J4.out (by omega) (by omega) (by omega) (by omega) (by omega);rw [show ((i13+2+n17:Nat):Int)=(i13:Int)+2+n17 from by omega] at jW;have oI:=ł jW;clear jW;obtain ⟨k0,k1⟩:=aB ll.out.1;obtain ⟨k2,k3⟩:=aB ll.out.2.2;have hlb:=lt_of_block ll.out.1;have yM:=lt_of_block ll.out.2.2;go_wp2_with fail;refine oI.out.mono ?_;rintro e w9 ⟨rfl,hr,hm⟩;have J8:=ł hr;have pO:=ł (show w9.heap[wF]? = _∧w9.heap[w.heap.size+1]? = _∧w9.heap[rF]? = _ from ⟨(hm.block _ hlb (fun e=>hne1 e.symm)).trans ll.out.1,(hm.block _ (lt_of_block ll.out.2.1) (fun e=>hne2 e.symm)).trans ll.out.2.1,(hm.block _ (lt_of_block ll.out.2.2) (fun e=>Cn e.symm)).trans ll.out.2.2⟩);have J9:=ł (show Grow w w9 from Mv.trans J5.out hm (fun b e => .inr (by omega)));have Ka:=ł (Mv.trans J6.out hm (fun b e => .inl e));clear hr hm k0 k1 k2 k3 hlb yM oI
 obtain ⟨k0,k1⟩:=aB pO.out.1;obtain ⟨r0,r1⟩:=aB pO.out.2.1;have rt:=aJ pO.out.2.1;have hlb:=lt_of_block pO.out.1;have hlr:=lt_of_block pO.out.2.1;obtain ⟨hs,hm⟩:=set2 pO.out.2.1 (.slice (some ⟨g,0,none⟩) jn lU) (.slice lV jr lW);have HS:=ł hs;have aM:=ł (show Grow w _ from Mv.trans J9.out hm (fun b e => .inr (by omega)));have eQ:=ł (show ay _ (.agg #[.slice (some ⟨g,0,none⟩) jn lU,.slice lV jr lW]) XC from by
  rw [JU.out,ET,ET];have Lc:=bQ J8.out hm (fun q hq e=>by subst e;simp [Value.ownBlock] at hq;exact hne2 hq);refine ay.mk (gP (fun _=>rfl) (by rw [J7.out];exact Lc)) ?_;have yX:dZ w5 w.heap.size (.slice (some ⟨g,0,none⟩) jn lU) o8:=by unfold dZ;rw [hjn];exact Dn.out
  have zD:qJ w5 w.heap.size (.slice lV jr lW) yu:=by unfold qJ;rw [hjr];exact Js.out
  exact gP (fun _=>rfl) (bQ (bQ zD Ka.out (fun q hq e=>by subst e;exact D6 (f:=bD.cells) (h:=Ins.cells) zD yX (by decide) _ hq rfl)) hm (fun q hq e=>by subst e;exact eX zD jR.out (by decide) hq)))
 clear hs hm;go_wp2_with fail;obtain ⟨t0,t1⟩:=aB HS.out;exact bodyPost_ret (v := .agg #[.slice (some ⟨g,0,none⟩) jn lU,.slice lV jr lW]) (by simp [results,Tryz.results83,go_sem,t0,t1]) rfl ⟨_,rfl,eQ.out,aM.out⟩
end Go.Proofs.YtnobahchcongnaaGreatDoor
