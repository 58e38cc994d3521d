import Derived.Test.YtnobahchcongnaaGreatF45
set_option linter.unusedSimpArgs false
set_option linter.unusedVariables false
set_option maxRecDepth 100000
set_option maxHeartbeats 25600000
namespace Go.Proofs.YtnobahchcongnaaGreat
open Go.RowKit Go.Instr
attribute [local go_sem ↓] lu
theorem Qa {α:Type} {n:Nat} {f:α->List Value} {w:World} {a:Option Addr} {c:Nat} {l:List α} (h:ax n f w (.slice a l.length c) l) (j:Nat) (hj:j<=l.length):ax n f w (.slice a j c) (l.take j):=by
 obtain⟨a',c',e,h2,h3,h4⟩:=h;simp only[Value.slice.injEq,true_and]at e;obtain⟨rfl,rfl⟩:=e;exact⟨a,c,by simp[hj],by simp;omega,by simp;omega,λi x hx=>h4 i x (by
  rw[List.getElem?_take]at hx;split at hx
  · exact hx
  · cases hx)⟩
theorem ax.cap {α:Type} {n:Nat} {f:α->List Value} {w:World} {a:Option Addr} {k c:Nat} {l:List α} (h:ax n f w (.slice a k c) l):l.length<=c:=by
 obtain⟨a',c',e,h2,-⟩:=h;simp only[Value.slice.injEq]at e;omega
theorem YE {a:Option Addr} {n m c:Nat} (h:n=m):Ending.returned (.slice a n c) = .returned (.slice a m c):=by rw[h]
theorem take_at {α:Type} (l:List α) (j:Nat) (h:j<l.length):l.take (j+1)=l.take j ++ [l[j]]:=List.take_succ_eq_append_getElem h
theorem YF (p:cu) (w:World) (hp:qj w p):Calls Tryz.prog 7 #[p.val] w (Z0 w p.d.faults):=by
 have ny:=ł (λz (hz:Grow w z)=>Ox p z (hp.later hz));obtain⟨vars,U5,procs,U6,⟨mk,mn,ms,mv,ml⟩⟩:=p;obtain⟨⟨va,vc,rfl⟩,⟨pa,pc,rfl⟩,hm⟩:=hp.form;obtain⟨ma,mc,rfl,-,-⟩:=hm.form;have iB:=ł hp;have adB:vars.length<=vc:=ax.cap hp.vars;clear hp hm;have Al:=ł (show(cu.d ⟨vars,.slice va vars.length vc,procs,.slice pa procs.length pc,.mk mk mn ms (.slice ma ml.length mc) ml⟩).faults=if(cu.d ⟨vars,.slice va vars.length vc,procs,.slice pa procs.length pc,.mk mk mn ms (.slice ma ml.length mc) ml⟩).okB then gG [] vars+(mr (procs.map ak.d) 0 (procs.map ak.d)+gP (procs.map ak.d) (ae.t (.mk mk mn ms (.slice ma ml.length mc) ml)) vars)else 0 from rfl);have iC:=ł (JA vars (.slice va vars.length vc) procs (.slice pa procs.length pc) (.mk mk mn ms (.slice ma ml.length mc) ml));generalize (cu.d ⟨vars,.slice va vars.length vc,procs,.slice pa procs.length pc,.mk mk mn ms (.slice ma ml.length mc) ml⟩).faults=V at *;generalize hok:(cu.d ⟨vars,.slice va vars.length vc,procs,.slice pa procs.length pc,.mk mk mn ms (.slice ma ml.length mc) ml⟩).okB=ok at *;simp only[cu.val]at ny ⊢;have bg:=ł (show Grow w (w.alloc (.cells #[.slice va vars.length vc,.slice pa procs.length pc,.int .u8 mk,.int .i64 mn,.string ms,.slice ma ml.length mc] 28))from(Mv.refl _ w).alloc _);have su:=ł (heap_alloc_new w (.cells #[.slice va vars.length vc,.slice pa procs.length pc,.int .u8 mk,.int .i64 mn,.string ms,.slice ma ml.length mc] 28));have Vm:=ł (ny.out _ bg.out);clear ny
 go_enter Tryz.func7,Tryz.ntmps7
 go_wp2_with fail;generalize (w.alloc (.cells #[.slice va vars.length vc,.slice pa procs.length pc,.int .u8 mk,.int .i64 mn,.string ms,.slice ma ml.length mc] 28))=w1 at *;refine Vm.out.mono ?_;rintro e w2 ⟨rfl,hg2⟩;have HG2:=ł (gtr bg.out hg2);have bZ:=ł (ai su.out hg2);clear hg2 hok Vm;cases ok with
 |false =>
  have HF:=ł (show V=0 from Al.out);go_wp2_with fail;go_ret;exact⟨none,0,(by rw[HF.out];rfl),HG2.out⟩
 |true =>
  have HF:=ł (show V=gG [] vars+(mr (procs.map ak.d) 0 (procs.map ak.d)+gP (procs.map ak.d) (ae.t (.mk mk mn ms (.slice ma ml.length mc) ml)) vars)from Al.out);have hb:=iC.out.symm;simp only[Bool.and_eq_true,decide_eq_true_eq]at hb;obtain⟨⟨hv32,Lm,hvd⟩,hpo,hmo⟩:=hb;have HB1:=ł (Fb vars []);have HB2:=ł (Pj (procs.map ak.d) (procs.map ak.d) 0 hpo);have HB3:=ł (EM (procs.map ak.d) (ae.t (.mk mk mn ms (.slice ma ml.length mc) ml)) vars);have pR:=ł (IW hmo);have Bn:=ł hpo;clear hvd hpo hmo iC Al;obtain⟨⟨x0,x1,x2⟩,x3,x4,x5⟩:=dK bZ.out;have hxl:=lt_of_block bZ.out;go_wp2_with fail;generalize Ha:w2.heap.size=B at *;have hB1:w2.heap.size<=B:=by omega
  have xD:=ł (iB.out.later HG2.out);have mX:=ł (show mO w2 B ((w2.alloc (.cells #[.slice none 0 0] 32)).alloc (.cells #[.func (.func 18) #[] #[.pointer (some ⟨B,0,none⟩)]] 68)) 0 from⟨((Mv.refl _ w2).alloc _).alloc _,⟨_,[],by rw[← Ha];exact aO (heap_alloc_new w2 _) _,World.ownsRow_nil _ _ _ _,rfl⟩,hB1⟩);have jH:=ł (show((w2.alloc (.cells #[.slice none 0 0] 32)).alloc (.cells #[.func (.func 18) #[] #[.pointer (some ⟨B,0,none⟩)]] 68)).heap[B+1]? = some (.cells #[.func (.func 18) #[] #[.pointer (some ⟨B,0,none⟩)]] 68 (0,0))from by
   have:=heap_alloc_new (w2.alloc (.cells #[.slice none 0 0] 32)) (.cells #[.func (.func 18) #[] #[.pointer (some ⟨B,0,none⟩)]] 68);subst Ha;simpa using this)
  generalize ((w2.alloc (.cells #[.slice none 0 0] 32)).alloc (.cells #[.func (.func 18) #[] #[.pointer (some ⟨B,0,none⟩)]] 68))=w3 at *;clear x0 x1 x2 x3 x4 x5 hxl Ha
  go_loopw [18] (λt wr=>∃ (j c:Nat),t = .int .i64 j/\j<=vars.length/\mO w2 B wr c/\dA w2 B w3 wr/\c+gG (vars.take j) (vars.drop j)=gG [] vars) (λt _=>vars.length - (intOf t).toNat)
  case atStart=>exact⟨0,0,rfl,Nat.zero_le _,mX.out,Mv.refl _ _,by simp⟩
  obtain⟨j,c,rfl,hj,hst',pG,hrest⟩:=hrel;have lM:=ł hst';have jB:=ł pG;have gY:=ł hrest;clear hst' pG hrest;by_cases hlt:j<vars.length
  · obtain⟨kb,ko,qE,bF,-,hcc⟩:=(xD.out.vars.later lM.out.g).at hlt;simp only[Value.slice.injEq,true_and]at bF;obtain⟨rfl,rfl⟩:=bF;have HE:=ł (show gG (vars.take j) (vars.drop j)=lL (mi (vars.take j) vars[j].name)+gG (vars.take (j+1)) (vars.drop (j+1))from by
     rw[drop_at _ j hlt,gG,take_at _ j hlt])
    generalize vars[j]=x at *;obtain⟨xs,xk,xn⟩:=x;have c0:=hcc 0 _ rfl;have c1:=hcc 1 _ rfl;have c2:=hcc 2 _ rfl;simp only[Nat.add_zero]at c0 HE;have hbl:kb<wr.heap.size:=World.block_lt_of_cell? wr _ c0;have oP:=ł (heap_alloc_new wr (.cells #[.string xs,.int .u8 xk,.int .i64 xn] 54));have jQ:=ł (show Grow wr (wr.alloc (.cells #[.string xs,.int .u8 xk,.int .i64 xn] 54))from(Mv.refl _ wr).alloc _);have fA:=ł (lM.out.grow jQ.out);have sO:=ł (ai (jB.out.keep' mX.out jH.out (by decide) (by decide)) jQ.out);have lS:=ł (ai bZ.out fA.out.g);clear hcc;go_upto_region 8 with fail;generalize (wr.alloc (.cells #[.string xs,.int .u8 xk,.int .i64 xn] 54))=w4 at *;have bL:=ł (λ(y:World) (hy:Grow w4 y)=>And.intro (ai lS.out hy) (And.intro (ai sO.out hy) (And.intro (ai oP.out hy) True.intro)));have aG:=ł fA.out.g;clear c0 c1 c2;refine xB 12 93 [some 23,some 24,some 25,some 26,some 27,some 28,some 29,some 30,some 31,some 32,some 33,some 34] [[],[],[1],[],[3],[],[5],[],[6,7],[],[9],[8,10]] [] [.c (.func (.func 18) #[] #[.pointer (some ⟨B,0,none⟩)]),.c (.int .i64 j),.p (λv y=>∃ g,v = .slice (some ⟨g,0,none⟩) 1 1/\y.heap[g]? = some (.cells #[.int .i64 j] 3 (0,0))),.c (.pointer (some ⟨wr.heap.size,0,none⟩)),.c (.string xs),.c (.pointer (some ⟨w.heap.size,0,none⟩)),.c (.slice (some ⟨kb,ko,none⟩) vars.length vc),.c (.int .i64 j),.c (.slice (some ⟨kb,ko,none⟩) j vc),.c (.pointer (some ⟨wr.heap.size,0,none⟩)),.c (.string xs),.c (.int .i64 (mi (vars.take j) xs))] ⟨⟨(λv x y hg h=>by obtain⟨g,hv,hb⟩:=h;exact⟨g,hv,ai hb hg⟩),λ_=>mg⟩,trivial⟩ (cz rfl) ?steps ?done
    case steps =>
     refine⟨?s0,?s1,?s2,?s3,?s4,?s5,?s6,?s7,?s8,?s9,?s10,?s11,trivial⟩
     case s0 =>
      refine ok bL (λvs x hG HX hP => ?_);have r0:=cell1 HX.out.2.1;simp only[zS];go_simp;exact gc
     case s1|s3|s5|s7|s9 =>
      refine oo (λvs x hP => ?_);simp only[zS];go_simp;exact gc
     case s2 =>
      refine oo (λvs x hP => ?_);simp only[zS];go_simp;exact gl ⟨_,rfl,heap_alloc_new x _⟩
     case s4|s10 =>
      refine ok bL (λvs x hG HX hP => ?_);obtain⟨d0,d1,d2⟩:=yO HX.out.2.2.1;simp only[zS];go_simp;exact gc
     case s6 =>
      refine ok bL (λvs x hG HX hP => ?_);obtain⟨⟨x0,x1,x2⟩,x3,x4,x5⟩:=dK HX.out.1;simp only[zS];go_simp;exact gc
     case s8 =>
      refine ok bL (λvs x hG HX hP => ?_);have hjc:j<=vc:=by omega
      simp only[zS];go_simp;exact gc
     case s11 =>
      refine ok bL (λvs x hG HX hP => ?_);have HC:=ł (EK (.slice (some ⟨kb,ko,none⟩) j vc) (vars.take j) xs x (Qa (xD.out.vars.later (gtr aG.out hG)) j (by omega)));simp only[zS];go_simp;refine(HC.out).mono ?_;rintro e y ⟨rfl,hg⟩;exact⟨_,rfl,bu hg rfl⟩
    case done =>
    intro vs wx hE;have hG:=hE.grow;have p2:=hE.val 2;obtain⟨g2,h2,b2⟩:=p2;have iO:=ł (fA.out.grow hG);have qF:=ł hG;have hrow:=ax.bN (l:=[(j:Int)]) (f:=kW) (λ_=>rfl) b2 rfl (by simp);clear hE hG;simp only[zS,Nat.reduceAdd,h2,List.drop_succ_cons,List.drop_zero];have HC:=ł (BM w2 B (-1) (.slice (some ⟨g2,0,none⟩) 1 1) [(j:Int)] xs (mi (vars.take j) xs) c wx iO.out hrow (by simp) (by have:=HB1.out;have:=gY.out;omega));clear hrow;go_wp2_with fail;refine HC.out.mono ?_;rintro e w5 ⟨rfl,fH,eX⟩;have tq:=ł fH;have tu:=ł (show dA w2 B w3 w5 from jB.out.trans ((dA.rF jQ.out).trans ((dA.rF qF.out).trans eX)));clear fH eX HC;go_wp2_with fail
    go_roundw
    case rel=>exact⟨j+1,_,by go_num,by omega,tq.out,tu.out,by have:=gY.out;have:=HE.out;omega⟩
    case measure=>simp[intOf];omega
  obtain rfl:j=vars.length:=by omega
  have lX:=ł (show c=gG [] vars from by
   have h:=gY.out;rw[List.drop_length]at h
   simpa[gG]using h)
  have Bd:=ł lM.out;have uN:=ł (jB.out.keep' mX.out jH.out (by decide) (by decide));have Vn:=ł (ai bZ.out lM.out.g);clear gY lM jB mX jH;obtain⟨⟨x0,x1,x2⟩,x3,x4,x5⟩:=dK Vn.out;have hxl:=lt_of_block Vn.out;go_wp2_with fail;generalize wr=w6 at *;clear x0 x1 x2 x3 x4 x5 hxl;generalize Ap:procs.map ak.d=P at *;have Eb:P.length=procs.length:=by rw[← Ap,List.length_map]
  go_loopw [40] (λt wr=>∃ (j c2:Nat),t = .int .i64 j/\j<=procs.length/\mO w2 B wr c2/\dA w2 B w6 wr/\c2+mr P j (P.drop j)=c+mr P 0 P) (λt _=>procs.length - (intOf t).toNat)
  case atStart=>exact⟨0,c,rfl,Nat.zero_le _,Bd.out,Mv.refl _ _,by simp⟩
  obtain⟨j,c2,rfl,hj,hst',pG,hrest⟩:=hrel;have lM:=ł hst';have jB:=ł pG;have gY:=ł hrest;clear hst' pG hrest;by_cases hlt:j<procs.length
  · obtain⟨kb,ko,qE,bF,-,hcc⟩:=(xD.out.procs.later lM.out.g).row.at hlt;simp only[Value.slice.injEq,true_and]at bF;obtain⟨rfl,rfl⟩:=bF;have hjP:j<P.length:=by omega
    have HE:=ł (show mr P j (P.drop j)=yZ P j procs[j].d+mr P (j+1) (P.drop (j+1))from by
     rw[drop_at _ j hjP,mr];subst Ap;simp)
    have bY:=ł (xD.out.procs.each _ (List.getElem_mem hlt));have dV:=ł (PW P j procs[j].d (by
     have:=List.all_eq_true.1 Bn.out procs[j].d (by rw[← Ap];exact List.mem_map.2 ⟨_,List.getElem_mem hlt,rfl⟩);exact this))
    have Vo:=ł (show aU.okB procs[j].d=true from List.all_eq_true.1 Bn.out procs[j].d (by rw[← Ap];exact List.mem_map.2 ⟨_,List.getElem_mem hlt,rfl⟩));generalize procs[j]=q at *;obtain⟨qs,aX,qv,⟨bk,bn,bs,bv,bl⟩⟩:=q;obtain⟨qa,qc,rfl,-,aaQ⟩:=bY.out.form;obtain⟨ba,bc,rfl,-,-⟩:=bY.out.body.form;have HEP:=ł (show yZ P j (ak.d ⟨qs,aX,.slice qa aX.length qc,.mk bk bn bs (.slice ba bl.length bc) bl⟩)=(if mq P qs<j then 1 else 0)+(gG [] aX+gP P (ae.t (.mk bk bn bs (.slice ba bl.length bc) bl)) aX)from rfl);have hqo:=Vo.out;simp only[aU.okB,ak.d,Bool.and_eq_true,decide_eq_true_eq]at hqo;have hq8:aX.length<=8:=of_decide_eq_true hqo.2.1;have Nk:=ł (IW hqo.2.2.2);generalize yZ P j (ak.d ⟨qs,aX,.slice qa aX.length qc,.mk bk bn bs (.slice ba bl.length bc) bl⟩)=QC at *;clear hqo Vo;have c0:=hcc 0 _ rfl;have c1:=hcc 1 _ rfl;have c3:=hcc 2 _ rfl;have c4:=hcc 3 _ rfl;have c5:=hcc 4 _ rfl;have c6:=hcc 5 _ rfl;simp only[Nat.add_zero]at c0;have hbl:kb<wr.heap.size:=World.block_lt_of_cell? wr _ c0;have ed:=ł (show((wr.alloc (.cells #[.int .i64 j] 3)).alloc (.cells #[.string qs,.slice qa aX.length qc,.int .u8 bk,.int .i64 bn,.string bs,.slice ba bl.length bc] 35)).heap[wr.heap.size]? = some (.cells #[.int .i64 j] 3 (0,0))from aO (heap_alloc_new wr _) _);have oP:=ł (show((wr.alloc (.cells #[.int .i64 j] 3)).alloc (.cells #[.string qs,.slice qa aX.length qc,.int .u8 bk,.int .i64 bn,.string bs,.slice ba bl.length bc] 35)).heap[wr.heap.size+1]? = some (.cells #[.string qs,.slice qa aX.length qc,.int .u8 bk,.int .i64 bn,.string bs,.slice ba bl.length bc] 35 (0,0))from by
     have:=heap_alloc_new (wr.alloc (.cells #[.int .i64 j] 3)) (.cells #[.string qs,.slice qa aX.length qc,.int .u8 bk,.int .i64 bn,.string bs,.slice ba bl.length bc] 35)
     simpa using this)
    have jQ:=ł (show Grow wr ((wr.alloc (.cells #[.int .i64 j] 3)).alloc (.cells #[.string qs,.slice qa aX.length qc,.int .u8 bk,.int .i64 bn,.string bs,.slice ba bl.length bc] 35))from((Mv.refl _ wr).alloc _).alloc _);have fA:=ł (lM.out.grow jQ.out);have sO:=ł (ai (jB.out.keep' Bd.out uN.out (by decide) (by decide)) jQ.out);have lS:=ł (ai bZ.out fA.out.g);clear hcc;go_upto_region 13 with fail;generalize ((wr.alloc (.cells #[.int .i64 j] 3)).alloc (.cells #[.string qs,.slice qa aX.length qc,.int .u8 bk,.int .i64 bn,.string bs,.slice ba bl.length bc] 35))=w7 at *;have bL:=ł (λ(y:World) (hy:Grow w7 y)=>And.intro (ai lS.out hy) (And.intro (ai ed.out hy) (ai oP.out hy)));have aG:=ł fA.out.g;clear c0 c1 c3 c4 c5 c6;refine wg 93 [some 45,some 46,some 47,some 48,some 49,some 50] [[],[],[1],[0,2],[],[3,4]] [] [.c (.agg #[.slice va vars.length vc,.slice (some ⟨kb,ko,none⟩) procs.length pc,.int .u8 mk,.int .i64 mn,.string ms,.slice ma ml.length mc]),.c (.pointer (some ⟨wr.heap.size+1,0,none⟩)),.c (.string qs),.c (.int .i64 (mq P qs)),.c (.int .i64 j),.c (.bool (decide (mq P qs<(j:Int))))] trivial (cz rfl) ?steps ?done
    case steps =>
     refine⟨?s0,?s1,?s2,?s3,?s4,?s5,trivial⟩
     case s0 =>
      refine ok bL (λvs x hG HX hP => ?_);obtain⟨⟨x0,x1,x2⟩,x3,x4,x5⟩:=dK HX.out.1;simp only[zS];go_simp;exact gc
     case s1|s5 =>
      refine oo (λvs x hP => ?_);simp only[zS];go_simp;exact gc
     case s2 =>
      refine ok bL (λvs x hG HX hP => ?_);obtain⟨⟨y0,y1,y2⟩,y3,y4,y5⟩:=dK HX.out.2.2;simp only[zS];go_simp;exact gc
     case s3 =>
      refine ok bL (λvs x hG HX hP => ?_);have hc:=EL ⟨vars,.slice va vars.length vc,procs,.slice (some ⟨kb,ko,none⟩) procs.length pc,.mk mk mn ms (.slice ma ml.length mc) ml⟩ qs x (xD.out.later (gtr aG.out hG));rw[show(cu.d ⟨vars,.slice va vars.length vc,procs,.slice (some ⟨kb,ko,none⟩) procs.length pc,.mk mk mn ms (.slice ma ml.length mc) ml⟩).procs=P from Ap]at hc;simp only[cu.val]at hc;have HC:=ł hc;clear hc;simp only[zS];go_simp;refine(HC.out).mono ?_;rintro e y ⟨rfl,hg⟩;exact⟨_,rfl,bu hg rfl⟩
     case s4 =>
      refine ok bL (λvs x hG HX hP => ?_);have i0:=cell1 HX.out.2.1;simp only[zS];go_simp;exact gc
    case done =>
    intro vs wx hE;have hG:=hE.grow;have iO:=ł (fA.out.grow hG);have qF:=ł hG;have aW:=ł (bL.out _ hG);have jg:=ł (ai sO.out hG);clear hE hG;simp only[zS,Nat.reduceAdd];have i0:=cell1 aW.out.2.1;obtain⟨⟨y0,y1,y2⟩,y3,y4,y5⟩:=dK aW.out.2.2;have r0:=cell1 jg.out;have hil:=lt_of_block aW.out.2.1;have hyl:=lt_of_block aW.out.2.2;have hrl:=lt_of_block jg.out;generalize Nl:(if mq P qs<(j:Int)then 1 else 0)=DD at *;have adC:DD<=1:=by rw[← Nl];split <;> omega
    have GK:=ł (λ(b:Bool) (h:decide (mq P qs<(j:Int))=b)=>show DD=if b then 1 else 0 from by
     rw[← Nl,← h];by_cases h:mq P qs<(j:Int) <;> simp[h])
    clear Nl;generalize hbd:decide (mq P qs<(j:Int))=bd at *;have HD2:=ł (GK.out bd rfl);clear hbd GK;have SB:=ł (show dA w2 B w6 wx from jB.out.trans ((dA.rF jQ.out).trans (dA.rF qF.out)))
    go_upto_if 50 with fail
    go_cut [55] (λv wc=>mO w2 B wc (c2+DD)/\dA w2 B wx wc)
    case first =>
     cases bd with
     |true =>
      have HD3:=ł (show DD=1 from HD2.out);have HC:=ł (BM w2 B j (.slice none 0 0) [] qs 22 c2 wx iO.out (ax.nil _ _ _) (by simp) (by have:=HB1.out;have:=HB2.out;have:=gY.out;have:=lX.out;omega));clear HD2;go_wp2_with fail;refine HC.out.mono ?_;rintro e w5 ⟨rfl,fH,eX⟩;have tq:=ł fH;have tu:=ł eX;clear fH eX HC;go_wp2_with fail
      go_meet
      case rel=>exact⟨by rw[HD3.out];exact tq.out,tu.out⟩
     |false =>
      have HD3:=ł (show DD=0 from HD2.out);clear HD2;go_wp2_with fail
      go_meet
      case rel=>exact⟨by rw[HD3.out];exact iO.out,Mv.refl _ _⟩
    case rest =>
     obtain⟨LD,Dm⟩:=hcut;have uQ:=ł LD;have SC:=ł (Dm.keep' iO.out aW.out.2.1 (by decide) (by decide));have Gp:=ł (Dm.keep' iO.out aW.out.2.2 (by decide) (by decide));have SE:=ł (Dm.keep' iO.out jg.out (by decide) (by decide));have HX8:=ł (ai bZ.out LD.g);have C9:=ł (show dA w2 B w6 wc from SB.out.trans Dm);clear i0 y0 y1 y2 y3 y4 y5 r0 hil hyl hrl LD Dm SB bL aW ed oP sO jg lS iO fA;obtain⟨⟨y0,y1,y2⟩,y3,y4,y5⟩:=dK Gp.out;have hyl:=lt_of_block Gp.out;have adD:aX.length<=qc:=ax.cap bY.out.params;generalize wr.heap.size=Z at *;go_wp2_with fail;generalize wc=w8 at *;clear y0 y1 y2 y3 y4 y5 hyl
     go_loopw [59] (λt wr=>∃ (i c3:Nat),t = .int .i64 i/\i<=aX.length/\mO w2 B wr c3/\dA w2 B w8 wr/\c3+gG (aX.take i) (aX.drop i)=c2+DD+gG [] aX) (λt _=>aX.length - (intOf t).toNat)
     case atStart=>exact⟨0,_,rfl,Nat.zero_le _,uQ.out,Mv.refl _ _,by simp⟩
     obtain⟨i,c3,rfl,hi,hst',pG,hrest⟩:=hrel;have zw:=ł hst';have ym:=ł pG;have LF:=ł hrest;clear hst' pG hrest;have Vp:=ł (Fb aX []);by_cases LG:i<aX.length
     · obtain⟨vb,vo,adE,hvv,-,hcc⟩:=(bY.out.params.later zw.out.g).at LG;simp only[Value.slice.injEq,true_and]at hvv;obtain⟨rfl,rfl⟩:=hvv;have Vq:=ł (show gG (aX.take i) (aX.drop i)=lL (mi (aX.take i) aX[i].name)+gG (aX.take (i+1)) (aX.drop (i+1))from by
        rw[drop_at _ i LG,gG,take_at _ i LG])
       generalize aX[i]=x at *;obtain⟨xs,xk,xn⟩:=x;have c0:=hcc 0 _ rfl;have c1:=hcc 1 _ rfl;have c4:=hcc 2 _ rfl;simp only[Nat.add_zero]at c0 Vq;have hvl:vb<wr.heap.size:=World.block_lt_of_cell? wr _ c0;have oN:=ł (heap_alloc_new wr (.cells #[.string xs,.int .u8 xk,.int .i64 xn] 54));have Em:=ł (show Grow wr (wr.alloc (.cells #[.string xs,.int .u8 xk,.int .i64 xn] 54))from(Mv.refl _ wr).alloc _);have Dk:=ł (zw.out.grow Em.out);have aaR:=ł (ai (ym.out.keep' uQ.out SE.out (by decide) (by decide)) Em.out);have aaS:=ł (ai (ym.out.keep' uQ.out SC.out (by decide) (by decide)) Em.out);have aaT:=ł (ai (ym.out.keep' uQ.out Gp.out (by decide) (by decide)) Em.out);clear hcc;go_upto_region 18 with fail;generalize (wr.alloc (.cells #[.string xs,.int .u8 xk,.int .i64 xn] 54))=w9 at *;have nN:=ł (λ(y:World) (hy:Grow w9 y)=>And.intro (ai aaR.out hy) (And.intro (ai aaS.out hy) (And.intro (ai aaT.out hy) (ai oN.out hy))));clear c0 c1 c4;refine xB 11 93 [some 64,some 65,some 66,some 67,some 68,some 69,some 70,some 71,some 72,some 73,some 74] [[],[],[],[2],[],[4],[],[5,6],[],[8],[7,9]] [] [.c (.func (.func 18) #[] #[.pointer (some ⟨B,0,none⟩)]),.c (.int .i64 j),.c (.pointer (some ⟨wr.heap.size,0,none⟩)),.c (.string xs),.c (.pointer (some ⟨Z+1,1,none⟩)),.c (.slice (some ⟨vb,vo,none⟩) aX.length qc),.c (.int .i64 i),.c (.slice (some ⟨vb,vo,none⟩) i qc),.c (.pointer (some ⟨wr.heap.size,0,none⟩)),.c (.string xs),.c (.int .i64 (mi (aX.take i) xs))] trivial (cz rfl) ?steps ?done
       case steps =>
        refine⟨?s0,?s1,?s2,?s3,?s4,?s5,?s6,?s7,?s8,?s9,?s10,trivial⟩
        case s0 =>
         refine ok nN (λvs x hG HX hP => ?_);have r0:=cell1 HX.out.1;simp only[zS];go_simp;exact gc
        case s1 =>
         refine ok nN (λvs x hG HX hP => ?_);have i0:=cell1 HX.out.2.1;simp only[zS];go_simp;exact gc
        case s2|s4|s6|s8 =>
         refine oo (λvs x hP => ?_);simp only[zS];go_simp;exact gc
        case s3|s9 =>
         refine ok nN (λvs x hG HX hP => ?_);obtain⟨d0,d1,d2⟩:=yO HX.out.2.2.2;simp only[zS];go_simp;exact gc
        case s5 =>
         refine ok nN (λvs x hG HX hP => ?_);obtain⟨⟨y0,y1,y2⟩,y3,y4,y5⟩:=dK HX.out.2.2.1;simp only[zS];go_simp;exact gc
        case s7 =>
         refine ok nN (λvs x hG HX hP => ?_);have hjc:i<=qc:=by omega
         simp only[zS];go_simp;exact gc
        case s10 =>
         refine ok nN (λvs x hG HX hP => ?_);have HC:=ł (EK (.slice (some ⟨vb,vo,none⟩) i qc) (aX.take i) xs x (Qa (bY.out.params.later (gtr Dk.out.g hG)) i (by omega)));simp only[zS];go_simp;refine(HC.out).mono ?_;rintro e y ⟨rfl,hg⟩;exact⟨_,rfl,bu hg rfl⟩
       case done =>
       intro vs wx2 hE;have hG:=hE.grow;have _z:=ł (Dk.out.grow hG);have _A:=ł hG;clear hE hG;simp only[zS,Nat.reduceAdd,List.drop_succ_cons,List.drop_zero];have HC:=ł (BM w2 B j (.slice none 0 0) [] xs (mi (aX.take i) xs) c3 wx2 _z.out (ax.nil _ _ _) (by simp) (by have:=HB1.out;have:=HB2.out;have:=gY.out;have:=lX.out;have:=LF.out;have:=Vp.out;omega));go_wp2_with fail;refine HC.out.mono ?_;rintro e w5 ⟨rfl,fH,eX⟩;have tq:=ł fH;have tu:=ł (show dA w2 B w8 w5 from ym.out.trans ((dA.rF Em.out).trans ((dA.rF _A.out).trans eX)));clear fH eX HC;go_wp2_with fail
       go_roundw
       case rel=>exact⟨i+1,_,by go_num,by omega,tq.out,tu.out,by have:=LF.out;have:=Vq.out;omega⟩
       case measure=>simp[intOf];omega
     obtain rfl:i=aX.length:=by omega
     have Bu:=ł (show c3=c2+DD+gG [] aX from by
      have h:=LF.out;rw[List.drop_length]at h
      simpa[gG]using h)
     have aaU:=ł (ym.out.keep' uQ.out SE.out (by decide) (by decide));have aaV:=ł (ym.out.keep' uQ.out SC.out (by decide) (by decide));have SF:=ł (ym.out.keep' uQ.out Gp.out (by decide) (by decide));have wX:=ł (ai bZ.out zw.out.g);have hvs:=OB w2 B ⟨vars,.slice va vars.length vc,procs,.slice (some ⟨kb,ko,none⟩) procs.length pc,.mk mk mn ms (.slice ma ml.length mc) ml⟩ xD.out (B+1) Z 23 (.inl rfl) _ (.mk bk bn bs (.slice ba bl.length bc) bl) (Nat.le_refl _) bY.out.body wr c3 [] (.slice none 0 0) aX (.slice qa aX.length qc) zw.out ⟨aaU.out,.inl ⟨rfl,_,aaV.out⟩⟩ ⟨ax.nil 1 kW _,λh=>(h rfl).elim⟩ ((mG.old (λ_=>by simp[aA.cells]) bY.out.params).later zw.out.g);rw[show(cu.d ⟨vars,.slice va vars.length vc,procs,.slice (some ⟨kb,ko,none⟩) procs.length pc,.mk mk mn ms (.slice ma ml.length mc) ml⟩).procs=P from Ap]at hvs;have Aq:=ł (hvs (by have:=EM P (ae.t (.mk bk bn bs (.slice ba bl.length bc) bl)) aX;have:=Nk.out;have:=HB1.out;have:=HB2.out;have:=gY.out;have:=lX.out;have:=Bu.out;have:=Vp.out;omega) (by have:=Nk.out;simp only[List.length_nil];omega) (by have:=Nk.out;omega));clear hvs;simp only[cu.val,ae.val]at Aq;obtain⟨⟨x0,x1,x2⟩,x3,x4,x5⟩:=dK wX.out;obtain⟨⟨y0,y1,y2⟩,y3,y4,y5⟩:=dK SF.out;have hxl:=lt_of_block wX.out;have hyl:=lt_of_block SF.out;go_wp2_with fail;refine Aq.out.mono ?_;rintro e w5 ⟨rfl,fH,eX⟩;have tq:=ł fH;have tu:=ł (show dA w2 B w6 w5 from C9.out.trans (ym.out.trans eX));clear fH eX Aq x0 x1 x2 x3 x4 x5 y0 y1 y2 y3 y4 y5 hxl hyl;go_wp2_with fail
     go_roundw
     case rel=>exact⟨j+1,_,by go_num,by omega,tq.out,tu.out,by have:=gY.out;have:=HE.out;have:=HEP.out;have:=Bu.out;omega⟩
     case measure=>simp[intOf];omega
  obtain rfl:j=procs.length:=by omega
  have rX:=ł (show c2=c+mr P 0 P from by
   have h:=gY.out;rw[← Eb,List.drop_length]at h
   simpa[mr]using h)
  have aaW:=ł (jB.out.keep' Bd.out uN.out (by decide) (by decide));have Nn:=ł (ai bZ.out lM.out.g);have hvs:=OB w2 B ⟨vars,.slice va vars.length vc,procs,.slice pa procs.length pc,.mk mk mn ms (.slice ma ml.length mc) ml⟩ xD.out (B+1) w.heap.size 24 (.inr rfl) _ (.mk mk mn ms (.slice ma ml.length mc) ml) (Nat.le_refl _) xD.out.main wr c2 [] (.slice none 0 0) vars (.slice va vars.length vc) lM.out ⟨aaW.out,.inr ⟨rfl,_,_,_,_,_,_,_,_,Nn.out⟩⟩ ⟨ax.nil 1 kW _,λh=>(h rfl).elim⟩ ((mG.old (λ_=>by simp[aA.cells]) xD.out.vars).later lM.out.g);rw[show(cu.d ⟨vars,.slice va vars.length vc,procs,.slice pa procs.length pc,.mk mk mn ms (.slice ma ml.length mc) ml⟩).procs=P from Ap]at hvs;have Aq:=ł (hvs (by have:=HB1.out;have:=HB2.out;have:=HB3.out;have:=pR.out;have:=lX.out;have:=rX.out;omega) (by have:=pR.out;simp only[List.length_nil];omega) (by have:=pR.out;omega));clear hvs;simp only[cu.val,ae.val]at Aq;obtain⟨⟨x0,x1,x2⟩,x3,x4,x5⟩:=dK Nn.out;have hxl:=lt_of_block Nn.out;go_wp2_with fail;refine Aq.out.mono ?_;rintro e w5 ⟨rfl,fH,eX⟩;obtain⟨rv,rl,hbx,hrow,hlen⟩:=fH.blk;obtain⟨ra,rc,tV⟩:=gy hrow;have aT:=ł (gtr HG2.out fH.g);have zP:=ł (show rl.length=V from by rw[hlen,HF.out,rX.out,lX.out];omega);have b0:=cell1 hbx;have hbl:=lt_of_block hbx;clear fH eX Aq x0 x1 x2 x3 x4 x5 hxl hbx hrow hlen;subst tV;go_wp2_with fail;go_ret;exact⟨ra,rc,YE zP.out,aT.out⟩
end Go.Proofs.YtnobahchcongnaaGreat
