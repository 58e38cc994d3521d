import Derived.Test.YtnobahchcongnaaGreatDoorR26
set_option linter.unusedSimpArgs false
set_option linter.unusedVariables false
set_option maxRecDepth 100000
set_option maxHeartbeats 25600000
namespace Go.Proofs.YtnobahchcongnaaGreatDoor
open Go.RowKit Go.Instr
theorem Zy (w:World) (G:Nat) (sv pv:Value) (f:ax) (procs:List ak) (hg:gX w G sv pv f procs) (k n:Int) (s:ByteArray) (kv:Value) (l:List ae) (hx:aR w (.mk k n s kv l)) (hl:3<l.length) (he1:nE f (l[0]).t) (he2:nE f (l[3]).t) (hc0:0<=f.cells) (hc1:f.cells<=1000)
 (hbk1:∀ z,Grow w z->Calls Tryz.prog 22 #[.pointer (some ⟨G,0,none⟩),(l[1]).val] z (bP z (aQ f (procs.map ak.d) (l[1]).t))) (hbk2:∀ z,Grow w z->Calls Tryz.prog 22 #[.pointer (some ⟨G,0,none⟩),(l[2]).val] z (bP z (aQ f (procs.map ak.d) (l[2]).t)))
 (hbl:(aQ f (procs.map ak.d) (l[1]).t).code.length+(aQ f (procs.map ak.d) (l[2]).t).code.length<=70000/\(aQ f (procs.map ak.d) (l[1]).t).refs.length+(aQ f (procs.map ak.d) (l[2]).t).refs.length<=70000) :
 Calls Tryz.prog 84 #[.pointer (some ⟨G,0,none⟩),ae.val (.mk k n s kv l)] w (bP w (rZ f (l[0]).t (aQ f (procs.map ak.d) (l[1]).t) (aQ f (procs.map ak.d) (l[2]).t) (l[3]).t)):=by
 obtain⟨fa,fc,rfl,hfc,hfl⟩:=hg.fr.row.form;obtain⟨zH,zI,rfl,-,-⟩:=hg.pr.row.form;have h0:0<l.length:=by omega
 obtain⟨kb,ko,kc,bU,-,-⟩:=hx.row.2.2.2.1.at h0;subst bU;have hk0:=fe hx 0 h0;have hk1:=fe hx 1 (by omega);have hk2:=fe hx 2 (by omega);have hk3:=fe hx 3 hl;simp only[Nat.zero_mul,Nat.one_mul,Nat.add_zero,Nat.reduceMul]at hk0 hk1 hk2 hk3;have fM:=ł hl;generalize l[0]=pp at *;generalize l[1]=bb at *;generalize l[2]=dd at *;generalize l[3]=ee at *;have HT1:=ł (λ(z:World) (hz:Grow w z)=>GH z G _ _ f procs (hg.later hz) pp (hk0.at_.later hz) he1.e he1.s hc0 hc1 he1.d (Nat.le_trans he1.l (by decide)));have HT2:=ł (λ(z:World) (hz:Grow w z)=>GH z G _ _ f procs (hg.later hz) ee (hk3.at_.later hz) he2.e he2.s hc0 hc1 he2.d (Nat.le_trans he2.l (by decide)));have HB1:=ł hbk1;have HB2:=ł hbk2;obtain⟨pk,pn,ps,pv,pl⟩:=pp;obtain⟨pa,pc,rfl,-,-⟩:=hk0.at_.form;obtain⟨bk,bn,bs,bv,bl⟩:=bb;obtain⟨ba,bc,rfl,-,-⟩:=hk1.at_.form;obtain⟨dk,dn,ds,dv,dl⟩:=dd;obtain⟨da,dc,rfl,-,-⟩:=hk2.at_.form;obtain⟨ek,en,es,ev,el⟩:=ee;obtain⟨ea,ec,rfl,-,-⟩:=hk3.at_.form;simp only[ae.val]at HT1 HT2 HB1 HB2 ⊢;have jH:=ł hk0;have oJ:=ł hk1;have Fs:=ł hk2;have Mw:=ł hk3;have hln:(dW f (ae.t (.mk pk pn ps (.slice pa pl.length pc) pl))).code.length=2 * (bW f (ae.t (.mk pk pn ps (.slice pa pl.length pc) pl))).length+3/\(dW f (ae.t (.mk ek en es (.slice ea el.length ec) el))).code.length=2 * (bW f (ae.t (.mk ek en es (.slice ea el.length ec) el))).length+3:=⟨by rw[dW,(kT _ _ _).1];rfl,by rw[dW,(kT _ _ _).1];rfl⟩;have hrn:(dW f (ae.t (.mk pk pn ps (.slice pa pl.length pc) pl))).refs.length=0/\(dW f (ae.t (.mk ek en es (.slice ea el.length ec) el))).refs.length=0:=⟨rfl,rfl⟩;have Mx:=he1.l;have MB:=he2.l;obtain⟨IA,MC⟩:=hbl;have Eu:=ł (show ∀ PA PB PD PE,PA=dW f (ae.t (.mk pk pn ps (.slice pa pl.length pc) pl))->PB=aQ f (procs.map ak.d) (ae.t (.mk bk bn bs (.slice ba bl.length bc) bl))->PD=aQ f (procs.map ak.d) (ae.t (.mk dk dn ds (.slice da dl.length dc) dl))->PE=dW f (ae.t (.mk ek en es (.slice ea el.length ec) el))->rZ f (ae.t (.mk pk pn ps (.slice pa pl.length pc) pl)) (aQ f (procs.map ak.d) (ae.t (.mk bk bn bs (.slice ba bl.length bc) bl))) (aQ f (procs.map ak.d) (ae.t (.mk dk dn ds (.slice da dl.length dc) dl))) (ae.t (.mk ek en es (.slice ea el.length ec) el))=gy (gy (aL [ah ([⟨6,0,1,0,0⟩,⟨26,0,0,0,0⟩]:List Ins),PA,ah ([⟨21,0,15,0,0⟩]:List Ins),PB,ah ([⟨21,0,15,0,0⟩]:List Ins),PE,ah ([⟨24,0,0,0,0⟩]:List Ins),PD,ah ([⟨22,0,0,0,0⟩,⟨25,0,0,0,0⟩,⟨6,0,1,0,0⟩]:List Ins)]) 1 (4+(PA).code.length+(PB).code.length+(PE).code.length+1+(PD).code.length)) (4+(PA).code.length+(PB).code.length+(PE).code.length) ((4+(PA).code.length+(PB).code.length+(PE).code.length+1+(PD).code.length)+1)from by rintro _ _ _ _ rfl rfl rfl rfl;rfl);generalize rZ f (ae.t (.mk pk pn ps (.slice pa pl.length pc) pl)) (aQ f (procs.map ak.d) (ae.t (.mk bk bn bs (.slice ba bl.length bc) bl))) (aQ f (procs.map ak.d) (ae.t (.mk dk dn ds (.slice da dl.length dc) dl))) (ae.t (.mk ek en es (.slice ea el.length ec) el))=XC at *;have ME:=ł (Eu.out _ _ _ _ rfl rfl rfl rfl);clear Eu;generalize dW f (ae.t (.mk pk pn ps (.slice pa pl.length pc) pl))=PA at *;generalize dW f (ae.t (.mk ek en es (.slice ea el.length ec) el))=PE at *;generalize aQ f (procs.map ak.d) (ae.t (.mk bk bn bs (.slice ba bl.length bc) bl))=PB at *;generalize aQ f (procs.map ak.d) (ae.t (.mk dk dn ds (.slice da dl.length dc) dl))=PD at *;have rA:=ł (show aO [ah ([⟨6,0,1,0,0⟩,⟨26,0,0,0,0⟩]:List Ins),PA,ah ([⟨21,0,15,0,0⟩]:List Ins),PB,ah ([⟨21,0,15,0,0⟩]:List Ins),PE,ah ([⟨24,0,0,0,0⟩]:List Ins),PD,ah ([⟨22,0,0,0,0⟩,⟨25,0,0,0,0⟩,⟨6,0,1,0,0⟩]:List Ins)]=2+(PA).code.length+1+(PB).code.length+1+(PE).code.length+1+(PD).code.length+3 from by
  simp only[aO,List.map_cons,List.map_nil,List.sum_cons,List.sum_nil,ah,List.length_cons,List.length_nil];omega)
 have iI:=ł (show aO [ah ([⟨6,0,1,0,0⟩,⟨26,0,0,0,0⟩]:List Ins),PA,ah ([⟨21,0,15,0,0⟩]:List Ins),PB,ah ([⟨21,0,15,0,0⟩]:List Ins),PE,ah ([⟨24,0,0,0,0⟩]:List Ins),PD,ah ([⟨22,0,0,0,0⟩,⟨25,0,0,0,0⟩,⟨6,0,1,0,0⟩]:List Ins)]<=200000/\bV [ah ([⟨6,0,1,0,0⟩,⟨26,0,0,0,0⟩]:List Ins),PA,ah ([⟨21,0,15,0,0⟩]:List Ins),PB,ah ([⟨21,0,15,0,0⟩]:List Ins),PE,ah ([⟨24,0,0,0,0⟩]:List Ins),PD,ah ([⟨22,0,0,0,0⟩,⟨25,0,0,0,0⟩,⟨6,0,1,0,0⟩]:List Ins)]<=200000 from by
  rw[rA.out];simp only[bV,List.map_cons,List.map_nil,List.sum_cons,List.sum_nil,ah,List.length_cons,List.length_nil]
  omega)
 have nP:=ł (show(PA).code.length<=50000/\(PB).code.length+(PD).code.length<=70000/\(PE).code.length<=50000 from by omega);obtain⟨aF,aZ,HG2⟩:=a2 w (.cells #[.int .u8 k,.int .i64 n,.string s,.slice (some ⟨kb,ko,none⟩) l.length kc] 24) (.cells #[.slice none 0 0,.slice none 0 0] 34);clear hg hx hk0 hk1 hk2 hk3 he1 he2 hbk1 hbk2 IA MC h0 hl hln hrn Mx MB
 go_enter Tryz.func84,Tryz.ntmps84
 go_upto_region 1 with fail;generalize ((w.alloc (.cells #[.int .u8 k,.int .i64 n,.string s,.slice (some ⟨kb,ko,none⟩) l.length kc] 24)).alloc (.cells #[.slice none 0 0,.slice none 0 0] 34))=w2 at *;refine fV 97 [some 14,some 15,some 16,some 17,some 5,some 6,none,none] [[],[0],[],[2],[],[],[4,1],[5,3]] [0,2] [.p (λv y=>∃ g,v = .slice (some ⟨g,0,none⟩) 2 2/\y.heap[g]? = some (.cells #[.int .i64 0,.int .i64 15] 3 (0,0))),.c (.agg #[.int .u8 21,.int .i64 0,.int .i64 15,.int .i64 0,.int .i64 0]),.p (λv y=>∃ g,v = .slice (some ⟨g,0,none⟩) 2 2/\y.heap[g]? = some (.cells #[.int .i64 0,.int .i64 1] 3 (0,0))),.c (.agg #[.int .u8 6,.int .i64 0,.int .i64 1,.int .i64 0,.int .i64 0]),.al 6 1 #[.int .u8 0,.int .i64 0,.int .i64 0,.int .i64 0,.int .i64 0] 57,.al 7 3 #[.int .u8 0,.int .i64 0,.int .i64 0,.int .i64 0,.int .i64 0] 57,.st 4,.st 5] ⟨sH,sH,trivial⟩ (dP rfl) ?steps ?done
 case steps =>
  refine⟨?s0,?s1,?s2,?s3,?s4,?s5,?s6,?s7,trivial⟩
  case s0|s2 =>
   refine oo (λvs x hP => ?_);simp only[zS];go_simp;exact gl ⟨_,rfl,heap_alloc_new x _⟩
  case s1 =>
   refine om (λvs x hG hP => ?_);obtain⟨g0,h0,b0⟩:=pq hP 0;have HC:=ł (gu 21 (0) (15) g0 _ x b0);simp only[zS,h0];go_simp;refine(HC.out).mono ?_;rintro e y ⟨rfl,hg⟩;exact⟨_,rfl,aX hg rfl⟩
  case s3 =>
   refine om (λvs x hG hP => ?_);obtain⟨g2,h2,b2⟩:=pq hP 2;have HC:=ł (gu 6 (0) (1) g2 _ x b2);simp only[zS,h2];go_simp;refine(HC.out).mono ?_;rintro e y ⟨rfl,hg⟩;exact⟨_,rfl,aX hg rfl⟩
  case s4|s5 =>
   refine oz (λvs x => ?_);simp only[zS];go_simp;exact⟨rfl,rfl⟩
  case s6 =>
   refine os (λvs x g hg hb hv => ?_);have h1:vs 1=_:=hv;obtain⟨⟨c0,c1,c2⟩,c3,c4⟩:=bJ hb;have zt:=aG hb;simp only[zS,hg,h1];go_simp;exact j4 hb _ _ _ _ _
  case s7 =>
   refine os (λvs x g hg hb hv => ?_);have h3:vs 3=_:=hv;obtain⟨⟨c0,c1,c2⟩,c3,c4⟩:=bJ hb;have zt:=aG hb;simp only[zS,hg,h3];go_simp;exact j4 hb _ _ _ _ _
 case done =>
 intro vs w3 hE;have hG:=hE.jZ;obtain⟨g4,a4,l4,m4,b4⟩:=hE.box 4;obtain⟨g5,a5,l5,m5,b5⟩:=hE.box 5;simp only[zS]at b4;simp only[zS]at b5;simp only[zS,Nat.reduceAdd,a4,a5];have HZ:=ł b4;have HT:=ł b5;simp only[bG]at HZ HT;have aH:=ł (gtr HG2.out hG);have Cw:=ł (ai aZ.out hG);have dF:=ł (λ(y:World) (hy:Grow w3 y)=>And.intro (ai aF.out (gtr hG hy)) (And.intro (jH.out.later (gtr aH.out hy)) (And.intro (oJ.out.later (gtr aH.out hy)) (And.intro (Fs.out.later (gtr aH.out hy)) (Mw.out.later (gtr aH.out hy))))));clear hE hG b4 b5 aF aZ;go_upto_region 2 with fail;refine wg 97 [some 18,some 19,some 20,some 21,some 22,some 23,some 24,some 25,some 26,some 27,some 28,some 29,some 30,some 31,some 32,some 33,some 34,some 35,some 36,some 37,some 38,some 39,some 40,some 41,some 7,some 8,some 9,some 10,none,none,none,none] [[],[],[1],[2],[3],[0,4],[],[],[7],[8],[9],[6,10],[],[],[13],[14],[15],[12,16],[],[],[19],[20],[21],[18,22],[],[],[],[],[24,5],[25,11],[26,17],[27,23]] [] [.c (.pointer (some ⟨G,0,none⟩)),.c (.pointer (some ⟨w.heap.size,3,none⟩)),.c (.slice (some ⟨kb,ko,none⟩) l.length kc),.c (.pointer (some ⟨kb,ko,none⟩)),.c (.agg #[.int .u8 pk,.int .i64 pn,.string ps,.slice pa pl.length pc]),.p (λv y=>ay y v (PA)),.c (.pointer (some ⟨G,0,none⟩)),.c (.pointer (some ⟨w.heap.size,3,none⟩)),.c (.slice (some ⟨kb,ko,none⟩) l.length kc),.c (.pointer (some ⟨kb,(ko+4),none⟩)),.c (.agg #[.int .u8 bk,.int .i64 bn,.string bs,.slice ba bl.length bc]),.p (λv y=>ay y v (PB)),.c (.pointer (some ⟨G,0,none⟩)),.c (.pointer (some ⟨w.heap.size,3,none⟩)),.c (.slice (some ⟨kb,ko,none⟩) l.length kc),.c (.pointer (some ⟨kb,(ko+8),none⟩)),.c (.agg #[.int .u8 dk,.int .i64 dn,.string ds,.slice da dl.length dc]),.p (λv y=>ay y v (PD)),.c (.pointer (some ⟨G,0,none⟩)),.c (.pointer (some ⟨w.heap.size,3,none⟩)),.c (.slice (some ⟨kb,ko,none⟩) l.length kc),.c (.pointer (some ⟨kb,(ko+12),none⟩)),.c (.agg #[.int .u8 ek,.int .i64 en,.string es,.slice ea el.length ec]),.p (λv y=>ay y v (PE)),.al 28 5 #[.slice none 0 0,.slice none 0 0] 34,.al 29 11 #[.slice none 0 0,.slice none 0 0] 34,.al 30 17 #[.slice none 0 0,.slice none 0 0] 34,.al 31 23 #[.slice none 0 0,.slice none 0 0] 34,.st 24,.st 25,.st 26,.st 27] ⟨sP,sP,sP,sP,trivial⟩ (dP rfl) ?steps ?done
 case steps =>
  refine⟨?s0,?s1,?s2,?s3,?s4,?s5,?s6,?s7,?s8,?s9,?s10,?s11,?s12,?s13,?s14,?s15,?s16,?s17,?s18,?s19,?s20,?s21,?s22,?s23,?s24,?s25,?s26,?s27,?s28,?s29,?s30,?s31,trivial⟩
  case s0|s1|s6|s7|s12|s13|s18|s19 =>
   refine oo (λvs x hP => ?_);simp only[zS];go_simp;exact gc
  case s2|s8|s14|s20 =>
   refine ok dF (λvs x hG HX hP => ?_);obtain⟨⟨n0,n1⟩,n2,n3⟩:=aC (HX.out.1);simp only[zS];go_simp;exact gc
  case s3 =>
   refine ok dF (λvs x hG HX hP => ?_);have hbd:0<l.length:=by have:=fM.out;omega
   simp only[zS];go_simp;exact gc
  case s4 =>
   refine ok dF (λvs x hG HX hP => ?_);obtain⟨⟨d0,d1⟩,d2,d3⟩:=(HX.out.2.1).four;simp only[zS];go_simp;exact gc
  case s5 =>
   refine ok dF (λvs x hG HX hP => ?_);have HC:=ł (HT1.out x (gtr aH.out hG));simp only[zS];go_simp;refine(HC.out).mono ?_;rintro e y ⟨v,rfl,hp,hg⟩;exact⟨_,rfl,aW hg hp⟩
  case s9 =>
   refine ok dF (λvs x hG HX hP => ?_);have hbd:(1:Int)<(l.length:Nat):=by have:=fM.out;omega
   simp only[zS];go_simp;exact gc
  case s10 =>
   refine ok dF (λvs x hG HX hP => ?_);obtain⟨⟨d0,d1⟩,d2,d3⟩:=(HX.out.2.2.1).four;simp only[zS];go_simp;exact gc
  case s11 =>
   refine ok dF (λvs x hG HX hP => ?_);have HC:=ł (HB1.out x (gtr aH.out hG));simp only[zS];go_simp;refine(HC.out).mono ?_;rintro e y ⟨v,rfl,hp,hg⟩;exact⟨_,rfl,aW hg hp⟩
  case s15 =>
   refine ok dF (λvs x hG HX hP => ?_);have hbd:(2:Int)<(l.length:Nat):=by have:=fM.out;omega
   simp only[zS];go_simp;exact gc
  case s16 =>
   refine ok dF (λvs x hG HX hP => ?_);obtain⟨⟨d0,d1⟩,d2,d3⟩:=(HX.out.2.2.2.1).four;simp only[zS];go_simp;exact gc
  case s17 =>
   refine ok dF (λvs x hG HX hP => ?_);have HC:=ł (HB2.out x (gtr aH.out hG));simp only[zS];go_simp;refine(HC.out).mono ?_;rintro e y ⟨v,rfl,hp,hg⟩;exact⟨_,rfl,aW hg hp⟩
  case s21 =>
   refine ok dF (λvs x hG HX hP => ?_);have hbd:(3:Int)<(l.length:Nat):=by have:=fM.out;omega
   simp only[zS];go_simp;exact gc
  case s22 =>
   refine ok dF (λvs x hG HX hP => ?_);obtain⟨⟨d0,d1⟩,d2,d3⟩:=(HX.out.2.2.2.2).four;simp only[zS];go_simp;exact gc
  case s23 =>
   refine ok dF (λvs x hG HX hP => ?_);have HC:=ł (HT2.out x (gtr aH.out hG));simp only[zS];go_simp;refine(HC.out).mono ?_;rintro e y ⟨v,rfl,hp,hg⟩;exact⟨_,rfl,aW hg hp⟩
  case s24|s25|s26|s27 =>
   refine oz (λvs x => ?_);simp only[zS];go_simp;exact⟨rfl,rfl⟩
  case s28 =>
   refine os (λvs x g hg hb hv => ?_);obtain⟨iX,iY,kN,kP,h5,c5,f5⟩:=hv;obtain⟨c0,c1⟩:=aA hb;have zt:=aG hb;simp only[zS,hg,h5];go_simp;exact set2 hb _ _
  case s29 =>
   refine os (λvs x g hg hb hv => ?_);obtain⟨gZ,ig,jD,jE,h11,c11,f11⟩:=hv;obtain⟨c0,c1⟩:=aA hb;have zt:=aG hb;simp only[zS,hg,h11];go_simp;exact set2 hb _ _
  case s30 =>
   refine os (λvs x g hg hb hv => ?_);obtain⟨nX,nY,pI,pJ,jQ,c17,f17⟩:=hv;obtain⟨c0,c1⟩:=aA hb;have zt:=aG hb;simp only[zS,hg,jQ];go_simp;exact set2 hb _ _
  case s31 =>
   refine os (λvs x g hg hb hv => ?_);obtain⟨sJ,sK,uj,uk,h23,c23,f23⟩:=hv;obtain⟨c0,c1⟩:=aA hb;have zt:=aG hb;simp only[zS,hg,h23];go_simp;exact set2 hb _ _
 case done =>
 intro vs w4 hE;have hG:=hE.grow;obtain⟨iX,iY,kN,kP,h5,c5,f5⟩:=hE.val 5;obtain⟨gZ,ig,jD,jE,h11,c11,f11⟩:=hE.val 11;obtain⟨nX,nY,pI,pJ,jQ,c17,f17⟩:=hE.val 17;obtain⟨sJ,sK,uj,uk,h23,c23,f23⟩:=hE.val 23;obtain⟨g24,a24,l24,m24,uN⟩:=hE.box 24;obtain⟨Oj,a25,l25,m25,Bu⟩:=hE.box 25;obtain⟨sZ,a26,l26,m26,uO⟩:=hE.box 26;obtain⟨Fu,a27,l27,m27,uK⟩:=hE.box 27;simp only[zS,h5]at uN;simp only[zS,h11]at Bu;simp only[zS,jQ]at uO;simp only[zS,h23]at uK;simp only[zS,Nat.reduceAdd,h5,h11,jQ,h23,a24,a25,a26,a27];have xA:=ł uN;have xB:=ł Bu;have xC:=ł uO;have xD:=ł uK;simp only[bG]at xA xB xC xD;have wE:=ł (show ay w4 (.agg #[.slice iX (PA).code.length iY,.slice kN (PA).refs.length kP]) (PA)from⟨iX,iY,kN,kP,rfl,c5,f5⟩);have Ev:=ł (show ay w4 (.agg #[.slice gZ (PB).code.length ig,.slice jD (PB).refs.length jE]) (PB)from⟨gZ,ig,jD,jE,rfl,c11,f11⟩);have Ew:=ł (show ay w4 (.agg #[.slice nX (PD).code.length nY,.slice pI (PD).refs.length pJ]) (PD)from⟨nX,nY,pI,pJ,rfl,c17,f17⟩);have Ex:=ł (show ay w4 (.agg #[.slice sJ (PE).code.length sK,.slice uj (PE).refs.length uk]) (PE)from⟨sJ,sK,uj,uk,rfl,c23,f23⟩);have aP:=ł (gtr aH.out hG);have kX:=ł (ai Cw.out hG);have aY:=ł (λ(y:World) (hy:Grow w4 y)=>And.intro (ai HZ.out (gtr hG hy)) (And.intro (ai HT.out (gtr hG hy)) (And.intro (ai xA.out hy) (And.intro (ai xB.out hy) (And.intro (ai xC.out hy) (And.intro (ai xD.out hy) (And.intro (wE.out.later hy) (And.intro (Ev.out.later hy) (And.intro (Ew.out.later hy) (Ex.out.later hy))))))))));clear hE hG uN Bu uO uK c5 f5 c11 f11 c17 f17 c23 f23 dF HT1 HT2 HB1 HB2;go_upto_region 3 with fail;refine wg 97 [some 42,some 43,some 44,some 45,some 46,some 47,some 48,some 49,some 50,some 51,some 52,some 53,some 54,some 55,some 56,some 57,some 58,some 59,some 60,some 61,some 62,some 63,some 64,some 65,some 66,some 67,some 68,some 69,some 11,none] [[],[],[1],[0,2],[3],[],[],[6],[7],[],[],[10],[11],[],[],[14],[15],[16],[],[],[19],[],[21],[],[20,22,23],[24],[4,5,8,9,12,13,17,18,25],[26],[],[28,27]] [1,3,7,11,14,16,19,21,24,26] [.c (.agg #[.int .u8 6,.int .i64 0,.int .i64 1,.int .i64 0,.int .i64 0]),.p (λv y=>∃ g,v = .slice (some ⟨g,0,none⟩) 2 2/\y.heap[g]? = some (.cells #[.int .i64 0,.int .i64 0] 3 (0,0))),.c (.agg #[.int .u8 26,.int .i64 0,.int .i64 0,.int .i64 0,.int .i64 0]),.p (λv y=>∃ g,v = .slice (some ⟨g,0,none⟩) 2 2/\az 5 Ins.cells y (.slice (some ⟨g,0,none⟩) 2 2) ([⟨6,0,1,0,0⟩,⟨26,0,0,0,0⟩]:List Ins)),.p (λv y=>ay y v (ah ([⟨6,0,1,0,0⟩,⟨26,0,0,0,0⟩]:List Ins))),.c (.agg #[.slice iX (PA).code.length iY,.slice kN (PA).refs.length kP]),.c (.agg #[.int .u8 21,.int .i64 0,.int .i64 15,.int .i64 0,.int .i64 0]),.p (λv y=>∃ g,v = .slice (some ⟨g,0,none⟩) 1 1/\az 5 Ins.cells y (.slice (some ⟨g,0,none⟩) 1 1) ([⟨21,0,15,0,0⟩]:List Ins)),.p (λv y=>ay y v (ah ([⟨21,0,15,0,0⟩]:List Ins))),.c (.agg #[.slice gZ (PB).code.length ig,.slice jD (PB).refs.length jE]),.c (.agg #[.int .u8 21,.int .i64 0,.int .i64 15,.int .i64 0,.int .i64 0]),.p (λv y=>∃ g,v = .slice (some ⟨g,0,none⟩) 1 1/\az 5 Ins.cells y (.slice (some ⟨g,0,none⟩) 1 1) ([⟨21,0,15,0,0⟩]:List Ins)),.p (λv y=>ay y v (ah ([⟨21,0,15,0,0⟩]:List Ins))),.c (.agg #[.slice sJ (PE).code.length sK,.slice uj (PE).refs.length uk]),.p (λv y=>∃ g,v = .slice (some ⟨g,0,none⟩) 2 2/\y.heap[g]? = some (.cells #[.int .i64 0,.int .i64 0] 3 (0,0))),.c (.agg #[.int .u8 24,.int .i64 0,.int .i64 0,.int .i64 0,.int .i64 0]),.p (λv y=>∃ g,v = .slice (some ⟨g,0,none⟩) 1 1/\az 5 Ins.cells y (.slice (some ⟨g,0,none⟩) 1 1) ([⟨24,0,0,0,0⟩]:List Ins)),.p (λv y=>ay y v (ah ([⟨24,0,0,0,0⟩]:List Ins))),.c (.agg #[.slice nX (PD).code.length nY,.slice pI (PD).refs.length pJ]),.p (λv y=>∃ g,v = .slice (some ⟨g,0,none⟩) 1 1/\y.heap[g]? = some (.cells #[.int .i64 0] 3 (0,0))),.c (.agg #[.int .u8 22,.int .i64 0,.int .i64 0,.int .i64 0,.int .i64 0]),.p (λv y=>∃ g,v = .slice (some ⟨g,0,none⟩) 1 1/\y.heap[g]? = some (.cells #[.int .i64 0] 3 (0,0))),.c (.agg #[.int .u8 25,.int .i64 0,.int .i64 0,.int .i64 0,.int .i64 0]),.c (.agg #[.int .u8 6,.int .i64 0,.int .i64 1,.int .i64 0,.int .i64 0]),.p (λv y=>∃ g,v = .slice (some ⟨g,0,none⟩) 3 3/\az 5 Ins.cells y (.slice (some ⟨g,0,none⟩) 3 3) ([⟨22,0,0,0,0⟩,⟨25,0,0,0,0⟩,⟨6,0,1,0,0⟩]:List Ins)),.p (λv y=>ay y v (ah ([⟨22,0,0,0,0⟩,⟨25,0,0,0,0⟩,⟨6,0,1,0,0⟩]:List Ins))),.p (λv y=>∃ g,v = .slice (some ⟨g,0,none⟩) 9 9/\iG y (.slice (some ⟨g,0,none⟩) 9 9) [ah ([⟨6,0,1,0,0⟩,⟨26,0,0,0,0⟩]:List Ins),PA,ah ([⟨21,0,15,0,0⟩]:List Ins),PB,ah ([⟨21,0,15,0,0⟩]:List Ins),PE,ah ([⟨24,0,0,0,0⟩]:List Ins),PD,ah ([⟨22,0,0,0,0⟩,⟨25,0,0,0,0⟩,⟨6,0,1,0,0⟩]:List Ins)]),.p (λv y=>qi w.heap.size y v (aL [ah ([⟨6,0,1,0,0⟩,⟨26,0,0,0,0⟩]:List Ins),PA,ah ([⟨21,0,15,0,0⟩]:List Ins),PB,ah ([⟨21,0,15,0,0⟩]:List Ins),PE,ah ([⟨24,0,0,0,0⟩]:List Ins),PD,ah ([⟨22,0,0,0,0⟩,⟨25,0,0,0,0⟩,⟨6,0,1,0,0⟩]:List Ins)])),.al 29 27 #[.slice none 0 0,.slice none 0 0] 34,.st 28] ⟨sH,sR,sP,sR,sP,sR,sP,sH,sR,sP,sH,sH,sR,sP,sQ,⟨(λv x y hg h=>h.later hg),λ_=>(λz hz g v x y hb hm h=>by simp[Kd.zero,Sp.k]at hz;subst hz;exact h.box hb hm)⟩,trivial⟩ (dP rfl) ?steps ?done
 case steps =>
  refine⟨?s0,?s1,?s2,?s3,?s4,?s5,?s6,?s7,?s8,?s9,?s10,?s11,?s12,?s13,?s14,?s15,?s16,?s17,?s18,?s19,?s20,?s21,?s22,?s23,?s24,?s25,?s26,?s27,?s28,?s29,trivial⟩
  case s0|s23 =>
   refine ok aY (λvs x hG HX hP => ?_);obtain⟨⟨i0,i1,i2⟩,i3,i4⟩:=bJ HX.out.2.1;simp only[zS];go_simp;exact gc
  case s1|s14|s19|s21 =>
   refine oo (λvs x hP => ?_);simp only[zS];go_simp;exact gl ⟨_,rfl,heap_alloc_new x _⟩
  case s2 =>
   refine ok aY (λvs x hG HX hP => ?_);obtain⟨g1,h1,b1⟩:=pq hP 1;have HC:=ł (gu 26 (0) (0) g1 _ x b1);simp only[zS,h1];go_simp;refine(HC.out).mono ?_;rintro e y ⟨rfl,hg⟩;exact⟨_,rfl,aX hg rfl⟩
  case s3 =>
   refine oo (λvs x hP => ?_);simp only[zS];go_simp;exact gl ⟨_,rfl,az.bO (f:=Ins.cells) (l:=([⟨6,0,1,0,0⟩,⟨26,0,0,0,0⟩]:List Ins)) (λ_=>rfl) (heap_alloc_new x _) rfl (by simp)⟩
  case s4 =>
   refine ok aY (λvs x hG HX hP => ?_);obtain⟨g3,h3,b3⟩:=pq hP 3;have HC:=ł (iJ _ _ x b3);simp only[zS,h3];go_simp;refine(HC.out).mono ?_;rintro e y ⟨v,rfl,hp,hg⟩;exact⟨_,rfl,aW hg hp⟩
  case s5 =>
   refine ok aY (λvs x hG HX hP => ?_);obtain⟨i0,i1⟩:=aA HX.out.2.2.1;simp only[zS];go_simp;exact gc
  case s6|s10 =>
   refine ok aY (λvs x hG HX hP => ?_);obtain⟨⟨i0,i1,i2⟩,i3,i4⟩:=bJ HX.out.1;simp only[zS];go_simp;exact gc
  case s7|s11 =>
   refine oo (λvs x hP => ?_);simp only[zS];go_simp;exact gl ⟨_,rfl,az.bO (f:=Ins.cells) (l:=([⟨21,0,15,0,0⟩]:List Ins)) (λ_=>rfl) (heap_alloc_new x _) rfl (by simp)⟩
  case s8 =>
   refine ok aY (λvs x hG HX hP => ?_);obtain⟨g7,h7,b7⟩:=pq hP 7;have HC:=ł (iJ _ _ x b7);simp only[zS,h7];go_simp;refine(HC.out).mono ?_;rintro e y ⟨v,rfl,hp,hg⟩;exact⟨_,rfl,aW hg hp⟩
  case s9 =>
   refine ok aY (λvs x hG HX hP => ?_);obtain⟨i0,i1⟩:=aA HX.out.2.2.2.1;simp only[zS];go_simp;exact gc
  case s12 =>
   refine ok aY (λvs x hG HX hP => ?_);obtain⟨g11,h11,b11⟩:=pq hP 11;have HC:=ł (iJ _ _ x b11);simp only[zS,h11];go_simp;refine(HC.out).mono ?_;rintro e y ⟨v,rfl,hp,hg⟩;exact⟨_,rfl,aW hg hp⟩
  case s13 =>
   refine ok aY (λvs x hG HX hP => ?_);obtain⟨i0,i1⟩:=aA HX.out.2.2.2.2.2.1;simp only[zS];go_simp;exact gc
  case s15 =>
   refine ok aY (λvs x hG HX hP => ?_);obtain⟨g14,lC,b14⟩:=pq hP 14;have HC:=ł (gu 24 (0) (0) g14 _ x b14);simp only[zS,lC];go_simp;refine(HC.out).mono ?_;rintro e y ⟨rfl,hg⟩;exact⟨_,rfl,aX hg rfl⟩
  case s16 =>
   refine oo (λvs x hP => ?_);simp only[zS];go_simp;exact gl ⟨_,rfl,az.bO (f:=Ins.cells) (l:=([⟨24,0,0,0,0⟩]:List Ins)) (λ_=>rfl) (heap_alloc_new x _) rfl (by simp)⟩
  case s17 =>
   refine ok aY (λvs x hG HX hP => ?_);obtain⟨g16,h16,b16⟩:=pq hP 16;have HC:=ł (iJ _ _ x b16);simp only[zS,h16];go_simp;refine(HC.out).mono ?_;rintro e y ⟨v,rfl,hp,hg⟩;exact⟨_,rfl,aW hg hp⟩
  case s18 =>
   refine ok aY (λvs x hG HX hP => ?_);obtain⟨i0,i1⟩:=aA HX.out.2.2.2.2.1;simp only[zS];go_simp;exact gc
  case s20 =>
   refine ok aY (λvs x hG HX hP => ?_);obtain⟨g19,h19,b19⟩:=pq hP 19;have HC:=ł (wK 22 (0) g19 _ x b19);simp only[zS,h19];go_simp;refine(HC.out).mono ?_;rintro e y ⟨rfl,hg⟩;exact⟨_,rfl,aX hg rfl⟩
  case s22 =>
   refine ok aY (λvs x hG HX hP => ?_);obtain⟨g21,h21,b21⟩:=pq hP 21;have HC:=ł (wK 25 (0) g21 _ x b21);simp only[zS,h21];go_simp;refine(HC.out).mono ?_;rintro e y ⟨rfl,hg⟩;exact⟨_,rfl,aX hg rfl⟩
  case s24 =>
   refine oo (λvs x hP => ?_);simp only[zS];go_simp;exact gl ⟨_,rfl,az.bO (f:=Ins.cells) (l:=([⟨22,0,0,0,0⟩,⟨25,0,0,0,0⟩,⟨6,0,1,0,0⟩]:List Ins)) (λ_=>rfl) (heap_alloc_new x _) rfl (by simp)⟩
  case s25 =>
   refine ok aY (λvs x hG HX hP => ?_);obtain⟨g24,Ol,uN⟩:=pq hP 24;have HC:=ł (iJ _ _ x uN);simp only[zS,Ol];go_simp;refine(HC.out).mono ?_;rintro e y ⟨v,rfl,hp,hg⟩;exact⟨_,rfl,aW hg hp⟩
  case s26 =>
   refine ok aY (λvs x hG HX hP => ?_);have p4:=pq hP 4;have JI:=p4;obtain⟨TD,TE,TF,TG,h4,c4,f4⟩:=p4;rw[h4]at JI;have p8:=pq hP 8;have jI:=p8;obtain⟨Ey,Ez,EA,EB,h8,c8,f8⟩:=p8;rw[h8]at jI;have xW:=pq hP 12;have IY:=xW;obtain⟨Sv,Sw,Sy,Sz,h12,c12,f12⟩:=xW;rw[h12]at IY;have rF:=pq hP 17;have xw:=rF;obtain⟨SA,SB,SC,SE,jQ,c17,f17⟩:=rF;rw[jQ]at xw;have p25:=pq hP 25;have xE:=p25;obtain⟨D7,D8,D9,Ea,uP,Om,f25⟩:=p25;rw[uP]at xE;simp only[zS,h4,h8,h12,jQ,uP];go_simp;exact gl ⟨_,rfl,tu (vs:=[(.slice TD (ah ([⟨6,0,1,0,0⟩,⟨26,0,0,0,0⟩]:List Ins)).code.length TE,.slice TF (ah ([⟨6,0,1,0,0⟩,⟨26,0,0,0,0⟩]:List Ins)).refs.length TG),(.slice iX (PA).code.length iY,.slice kN (PA).refs.length kP),(.slice Ey (ah ([⟨21,0,15,0,0⟩]:List Ins)).code.length Ez,.slice EA (ah ([⟨21,0,15,0,0⟩]:List Ins)).refs.length EB),(.slice gZ (PB).code.length ig,.slice jD (PB).refs.length jE),(.slice Sv (ah ([⟨21,0,15,0,0⟩]:List Ins)).code.length Sw,.slice Sy (ah ([⟨21,0,15,0,0⟩]:List Ins)).refs.length Sz),(.slice sJ (PE).code.length sK,.slice uj (PE).refs.length uk),(.slice SA (ah ([⟨24,0,0,0,0⟩]:List Ins)).code.length SB,.slice SC (ah ([⟨24,0,0,0,0⟩]:List Ins)).refs.length SE),(.slice nX (PD).code.length nY,.slice pI (PD).refs.length pJ),(.slice D7 (ah ([⟨22,0,0,0,0⟩,⟨25,0,0,0,0⟩,⟨6,0,1,0,0⟩]:List Ins)).code.length D8,.slice D9 (ah ([⟨22,0,0,0,0⟩,⟨25,0,0,0,0⟩,⟨6,0,1,0,0⟩]:List Ins)).refs.length Ea)]) (heap_alloc_new x _) rfl ⟨ay.later (JI) ((Mv.refl _ _).alloc _),ay.later (HX.out.2.2.2.2.2.2.1) ((Mv.refl _ _).alloc _),ay.later (jI) ((Mv.refl _ _).alloc _),ay.later (HX.out.2.2.2.2.2.2.2.1) ((Mv.refl _ _).alloc _),ay.later (IY) ((Mv.refl _ _).alloc _),ay.later (HX.out.2.2.2.2.2.2.2.2.2) ((Mv.refl _ _).alloc _),ay.later (xw) ((Mv.refl _ _).alloc _),ay.later (HX.out.2.2.2.2.2.2.2.2.1) ((Mv.refl _ _).alloc _),ay.later (xE) ((Mv.refl _ _).alloc _),trivial⟩⟩
  case s27 =>
   refine ok aY (λvs x hG HX hP => ?_);obtain⟨sZ,Oo,uO⟩:=pq hP 26;have HC:=ł (Qt _ _ x uO iI.out.1 iI.out.2 (by simp));have MF:=(gtr aP.out hG).size;simp only[zS,Oo];go_simp;refine(HC.out).mono ?_;rintro e y ⟨v,rfl,hp,hg⟩;exact⟨_,rfl,aW hg (hp.low MF)⟩
  case s28 =>
   refine oz (λvs x => ?_);simp only[zS];go_simp;exact⟨rfl,rfl⟩
  case s29 =>
   refine os (λvs x g hg hb hv => ?_);obtain⟨LP,mQ,mR,mU,h27,Bv,f27⟩:=hv;obtain⟨c0,c1⟩:=aA hb;have zt:=aG hb;simp only[zS,hg,h27];go_simp;exact set2 hb _ _
 case done =>
 intro vs w5 hE;have hG:=hE.grow;have p4:=hE.val 4;have JI:=p4;obtain⟨TD,TE,TF,TG,h4,c4,f4⟩:=p4;rw[h4]at JI;have p8:=hE.val 8;have jI:=p8;obtain⟨Ey,Ez,EA,EB,h8,c8,f8⟩:=p8;rw[h8]at jI;have xW:=hE.val 12;have IY:=xW;obtain⟨Sv,Sw,Sy,Sz,h12,c12,f12⟩:=xW;rw[h12]at IY;have rF:=hE.val 17;have xw:=rF;obtain⟨SA,SB,SC,SE,jQ,c17,f17⟩:=rF;rw[jQ]at xw;have p25:=hE.val 25;have xE:=p25;obtain⟨D7,D8,D9,Ea,uP,Om,f25⟩:=p25;rw[uP]at xE;obtain⟨LP,mQ,mR,mU,h27,Bv,f27⟩:=hE.val 27;obtain⟨xX,a28,l28,m28,Bw⟩:=hE.box 28;simp only[zS,h27]at Bw;simp only[zS,Nat.reduceAdd,h4,h8,h12,jQ,uP,h27,a28];have uQ:=ł Bw;simp only[bG]at uQ;have aU:=ł (gtr aP.out hG);have kH:=ł (ai kX.out hG);have gK:=ł Bv;have Av:=ł f27;have LQ:=ł (ai xA.out hG);have LU:=ł (ai xB.out hG);have Af:=ł (ai xC.out hG);have LV:=ł (ai xD.out hG);have hjl:=(dI [ah ([⟨6,0,1,0,0⟩,⟨26,0,0,0,0⟩]:List Ins),PA,ah ([⟨21,0,15,0,0⟩]:List Ins),PB,ah ([⟨21,0,15,0,0⟩]:List Ins),PE,ah ([⟨24,0,0,0,0⟩]:List Ins),PD,ah ([⟨22,0,0,0,0⟩,⟨25,0,0,0,0⟩,⟨6,0,1,0,0⟩]:List Ins)]).1;rw[rA.out]at hjl;obtain⟨hb1,hb2,hb4⟩:=nP.out;clear hE hG Bw Bv f27 aY xA xB xC xD wE Ev Ew Ex HZ HT iI rA nP;generalize (PA).code.length=n5 at *;generalize (PB).code.length=n11 at *;generalize (PD).code.length=n17 at *;generalize (PE).code.length=n23 at *;generalize aL [ah ([⟨6,0,1,0,0⟩,⟨26,0,0,0,0⟩]:List Ins),PA,ah ([⟨21,0,15,0,0⟩]:List Ins),PB,ah ([⟨21,0,15,0,0⟩]:List Ins),PE,ah ([⟨24,0,0,0,0⟩]:List Ins),PD,ah ([⟨22,0,0,0,0⟩,⟨25,0,0,0,0⟩,⟨6,0,1,0,0⟩]:List Ins)]=JC at *;have hROW:=gK.out;obtain⟨qJ,Ag⟩:=JC;unfold dO at hROW;unfold nU at Av;simp only at hjl hROW;generalize hjn:qJ.length=jn at hjl uQ hROW;have xG:=Av.out;simp only at xG;generalize hjr:Ag.length=jr at uQ xG;have LW:=ł (show w5.ownsRow w.heap.size 78 2 (.slice mR jr mU) jr (flat aV.cells Ag)from xG);clear xG Av;rcases hROW.2 with⟨he',EC⟩|⟨g,jc,cur,he',hbase,hgb,LX,LY,hcsz,htk⟩
 · exfalso;omega
 simp only[Value.slice.injEq,true_and]at he';obtain⟨MG,EC⟩:=he';subst MG EC;have hne1:g≠xX:=λe=>by
  have:=hgb;rw[e,uQ.out]at this;simp only[Option.some.injEq,Obj.cells.injEq]at this;exact absurd this.2.1 (by decide)
 have hne2:g≠w.heap.size+1:=λe=>by
  have:=hgb;rw[e,kH.out]at this;simp only[Option.some.injEq,Obj.cells.injEq]at this;exact absurd this.2.1 (by decide)
 have ED:g≠sZ:=λe=>by
  have:=hgb;rw[e,Af.out]at this;simp only[Option.some.injEq,Obj.cells.injEq]at this;exact absurd this.2.1 (by decide)
 have Fz:=ł hROW;clear hgb hcsz htk LX LY cur hROW gK;generalize EE:4+n5+n11+n23=i12 at *;have EF:=ł EE;generalize EG:i12+1+n17=i13 at *;have MH:=ł EG;have hib:i12<=400000/\i13<=500000:=by omega
 have LZ:i12+1<jn/\i13+1<jn/\i12<i13/\1<=i12:=by omega
 obtain⟨abI,abJ⟩:=hib;obtain⟨abK,abL,abM,abN⟩:=LZ;have abO:jn<=300000:=by omega
 clear EE EG hjl;have bE:=ł (λ(y:World) (hy:Grow w5 y)=>And.intro (ai LQ.out hy) (And.intro (ai LU.out hy) (And.intro (ai Af.out hy) (ai LV.out hy))));go_upto_region 4 with fail;refine fV 97 [some 70,some 71,some 72,some 73,some 74,some 75,some 76,some 77,some 78,some 79,some 80,some 81,some 12] [[],[0],[1],[2],[],[4],[5],[3,6],[],[8],[9],[7,10],[11]] [] [.c (.pointer (some ⟨g24,0,none⟩)),.c (.slice iX n5 iY),.c (.int .i64 n5),.c (.int .i64 (4+(n5:Int))),.c (.pointer (some ⟨Oj,0,none⟩)),.c (.slice gZ n11 ig),.c (.int .i64 n11),.c (.int .i64 (4+(n5:Int)+n11)),.c (.pointer (some ⟨Fu,0,none⟩)),.c (.slice sJ n23 sK),.c (.int .i64 n23),.c (.int .i64 i12),.c (.int .i64 i12)] trivial (dP rfl) ?steps ?done
 case steps =>
  refine⟨?s0,?s1,?s2,?s3,?s4,?s5,?s6,?s7,?s8,?s9,?s10,?s11,?s12,trivial⟩
  case s0|s2|s4|s6|s8|s10|s12 =>
   refine oo (λvs x hP => ?_);simp only[zS];go_simp;exact gc
  case s1 =>
   refine ok0 bE (λvs x hG HX hP => ?_);obtain⟨i0,i1⟩:=aA HX.out.1;simp only[zS];go_simp;exact gc
  case s3 =>
   refine ok0 bE (λvs x hG HX hP => ?_);have hw:=IntWalk.i64_in (4+(n5:Int)) (by omega);simp only[zS];go_simp;exact gc
  case s5 =>
   refine ok0 bE (λvs x hG HX hP => ?_);obtain⟨i0,i1⟩:=aA HX.out.2.1;simp only[zS];go_simp;exact gc
  case s7 =>
   refine ok0 bE (λvs x hG HX hP => ?_);have hw:=IntWalk.i64_in (4+(n5:Int)+n11) (by omega);simp only[zS];go_simp;exact gc
  case s9 =>
   refine ok0 bE (λvs x hG HX hP => ?_);obtain⟨i0,i1⟩:=aA HX.out.2.2.2;simp only[zS];go_simp;exact gc
  case s11 =>
   refine ok0 bE (λvs x hG HX hP => ?_);have hw:=IntWalk.i64_in (4+(n5:Int)+n11+n23) (by omega);simp only[zS];go_simp;exact aX (Mv.refl _ _) (by rw[← EF.out];simp)
 case done =>
 intro vs w6 hE;have hG:=hE.jZ;simp only[zS,Nat.reduceAdd];have iq:=ł (Du bE.out hG);have MI:=ł hG;clear hE hG;go_upto_region 5 with fail;refine fV 97 [some 82,some 83,some 84,some 85,some 86,some 87,some 13] [[],[0],[],[2],[3],[1,4],[5]] [] [.c (.int .i64 i12),.c (.int .i64 ((i12:Int)+1)),.c (.pointer (some ⟨sZ,0,none⟩)),.c (.slice nX n17 nY),.c (.int .i64 n17),.c (.int .i64 i13),.c (.int .i64 i13)] trivial (dP rfl) ?steps ?done
 case steps =>
  refine⟨?s0,?s1,?s2,?s3,?s4,?s5,?s6,trivial⟩
  case s0|s2|s4|s6 =>
   refine oo (λvs x hP => ?_);simp only[zS];go_simp;exact gc
  case s1 =>
   refine ok0 iq (λvs x hG HX hP => ?_);have hw:=IntWalk.i64_in ((i12:Int)+1) (by omega);simp only[zS];go_simp;exact gc
  case s3 =>
   refine ok0 iq (λvs x hG HX hP => ?_);obtain⟨i0,i1⟩:=aA HX.out.2.2.1;simp only[zS];go_simp;exact gc
  case s5 =>
   refine ok0 iq (λvs x hG HX hP => ?_);have hw:=IntWalk.i64_in ((i12:Int)+1+n17) (by omega);simp only[zS];go_simp;exact aX (Mv.refl _ _) (by rw[← MH.out,← EF.out];simp)
 case done =>
 intro vs w7 hE;have hG:=hE.jZ;simp only[zS,Nat.reduceAdd];have qV:=ł (gtr MI.out hG);have MJ:=ł (gtr aU.out qV.out);have lT:=ł (show w7.heap[xX]? = _/\w7.heap[w.heap.size+1]? = _/\w7.heap[sZ]? = _ from⟨ai uQ.out qV.out,ai kH.out qV.out,ai Af.out qV.out⟩);have MK:=ł (show dO w7 w.heap.size (.slice (some ⟨g,0,none⟩) jn mQ) qJ from bg (by have:=Fz.out;rw[hjn];exact this) qV.out (λ_ _ e=>e));have ML:=ł (show Mv (λb=>b=g) w5 w7 from qV.out.mono (λ_ e=>e.elim));clear hE hG bE iq;have kQ:=GL w.heap.size g mQ jn qJ mR jr mU 1 i13 w7 MK.out (by omega) (by omega) (by omega) (by omega) (by omega);rw[show((1:Nat):Int)=1 from rfl]at kQ;have pU:=ł kQ;clear kQ;obtain⟨k0,k1⟩:=aA lT.out.1;obtain⟨k2,k3⟩:=aA lT.out.2.2;have hlb:=lt_of_block lT.out.1;have Aw:=lt_of_block lT.out.2.2;go_wp2_with fail;refine pU.out.mono ?_;rintro e w8 ⟨rfl,hr,hm⟩;have MM:=ł hr;have lU:=ł (show w8.heap[xX]? = _/\w8.heap[w.heap.size+1]? = _/\w8.heap[sZ]? = _ from⟨(hm.block _ hlb (λe=>hne1 e.symm)).trans lT.out.1,(hm.block _ (lt_of_block lT.out.2.1) (λe=>hne2 e.symm)).trans lT.out.2.1,(hm.block _ (lt_of_block lT.out.2.2) (λe=>ED e.symm)).trans lT.out.2.2⟩);have MN:=ł (show Grow w w8 from Mv.trans MJ.out hm (λb e => .inr (by omega)));have MO:=ł (Mv.trans ML.out hm (λb e => .inl e));clear hr hm k0 k1 k2 k3 hlb Aw pU
 have abP:(tX qJ 1 i13).length=jn:=by rw[Qu];exact hjn
 generalize EH:tX qJ 1 i13=Oq at *;have MP:=ł EH;clear EH;have kQ:=GL w.heap.size g mQ jn Oq mR jr mU i12 (i13+1) w8 MM.out (by omega) (by omega) (by omega) (by omega) (by omega);rw[show((i13+1:Nat):Int)=(i13:Int)+1 from by omega]at kQ;have pU:=ł kQ;clear kQ;obtain⟨k0,k1⟩:=aA lU.out.1;obtain⟨k2,k3⟩:=aA lU.out.2.2;have hlb:=lt_of_block lU.out.1;have Aw:=lt_of_block lU.out.2.2;go_wp2_with fail;refine pU.out.mono ?_;rintro e w9 ⟨rfl,hr,hm⟩;have MQ:=ł hr;have qW:=ł (show w9.heap[xX]? = _/\w9.heap[w.heap.size+1]? = _/\w9.heap[sZ]? = _ from⟨(hm.block _ hlb (λe=>hne1 e.symm)).trans lU.out.1,(hm.block _ (lt_of_block lU.out.2.1) (λe=>hne2 e.symm)).trans lU.out.2.1,(hm.block _ (lt_of_block lU.out.2.2) (λe=>ED e.symm)).trans lU.out.2.2⟩);have MR:=ł (show Grow w w9 from Mv.trans MN.out hm (λb e => .inr (by omega)));have MS:=ł (Mv.trans MO.out hm (λb e => .inl e));clear hr hm k0 k1 k2 k3 hlb Aw pU
 obtain⟨k0,k1⟩:=aA qW.out.1;obtain⟨r0,r1⟩:=aA qW.out.2.1;have rt:=aG qW.out.2.1;have hlb:=lt_of_block qW.out.1;have hlr:=lt_of_block qW.out.2.1;obtain⟨hs,hm⟩:=set2 qW.out.2.1 (.slice (some ⟨g,0,none⟩) jn mQ) (.slice mR jr mU);have HS:=ł hs;have aJ:=ł (show Grow w _ from Mv.trans MR.out hm (λb e => .inr (by omega)));have eX:=ł (show ay _ (.agg #[.slice (some ⟨g,0,none⟩) jn mQ,.slice mR jr mU]) XC from by
  rw[ME.out,Hw,Hw];have Ot:=bg MQ.out hm (λq hq e=>by subst e;simp[Value.ownBlock]at hq;exact hne2 hq);refine ay.mk (fI (λ_=>rfl) (by rw[MP.out];exact Ot)) ?_;have qZ:dO w5 w.heap.size (.slice (some ⟨g,0,none⟩) jn mQ) qJ:=by unfold dO;rw[hjn];exact Fz.out
  have Bz:nU w5 w.heap.size (.slice mR jr mU) Ag:=by unfold nU;rw[hjr];exact LW.out
  exact fI (λ_=>rfl) (bg (bg Bz MS.out (λq hq e=>by subst e;exact BN (f:=aV.cells) (h:=Ins.cells) Bz qZ (by decide) _ hq rfl)) hm (λq hq e=>by subst e;exact dK Bz kH.out (by decide) hq)))
 clear hs hm;go_wp2_with fail;obtain⟨t0,t1⟩:=aA HS.out;exact bodyPost_ret (v := .agg #[.slice (some ⟨g,0,none⟩) jn mQ,.slice mR jr mU]) (by simp[results,Tryz.results84,go_sem,t0,t1]) rfl ⟨_,rfl,eX.out,aJ.out⟩
end Go.Proofs.YtnobahchcongnaaGreatDoor
