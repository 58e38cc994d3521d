import Derived.Test.YtnobahchcongnaaGreatF21
set_option linter.unusedSimpArgs false
set_option linter.unusedVariables false
set_option maxRecDepth 100000
set_option maxHeartbeats 25600000
namespace Go.Proofs.YtnobahchcongnaaGreat
open Go.RowKit Go.Instr
theorem OU (w:World) (G:Nat) (sv pv:Value) (f:az) (procs:List ak) (hg:gD w G sv pv f procs) (n:Int) (s:ByteArray) (kv:Value) (l:List ae) (hx:aS w (.mk 2 n s kv l)) :
 Calls Tryz.prog 107 #[.pointer (some ⟨G,0,none⟩),ae.val (.mk 2 n s kv l)] w λe w'=>∃ B,e = .returned (.func (.func 118) #[] #[.pointer (some ⟨B,0,none⟩)])/\w'.heap[B]? = some (.cells #[.int .u8 10,.int .i64 5,.int .i64 (aj f s 1),.int .i64 0,.int .i64 0] 60 (0,0))/\Grow w w':=by
 obtain⟨fa,fc,rfl,hfc,hfl⟩:=hg.fr.row.form;obtain⟨pa,pc,rfl,-,-⟩:=hg.pr.row.form;obtain⟨ka,kc,rfl,-,-⟩:=hx.form;have wZ:=ł hx;have aK:=ł hg;obtain⟨lU,aJ,HG2⟩:=a2 w (.cells #[.pointer (some ⟨G,0,none⟩)] 118) (.cells #[.int .u8 2,.int .i64 n,.string s,.slice ka l.length kc] 26);clear hg hx;simp only[ae.val]
 go_enter Tryz.func107,Tryz.ntmps107
 go_upto_region 2 with fail;generalize ((w.alloc (.cells #[.pointer (some ⟨G,0,none⟩)] 118)).alloc (.cells #[.int .u8 2,.int .i64 n,.string s,.slice ka l.length kc] 26))=w2 at *;have HK:=ł (λ(y:World) (hy:Grow w2 y)=>And.intro (aK.out.later (gtr HG2.out hy)) (And.intro (ai aJ.out hy) (ai lU.out hy)));refine fI 21 [some 10,some 11,some 12,some 13,some 14,some 15,some 5,none] [[],[],[1],[0,2],[3],[4],[],[6,5]] [4] [.c (.pointer (some ⟨G,0,none⟩)),.c (.pointer (some ⟨(w.heap.size+1),2,none⟩)),.c (.string s),.c (.int .i64 (aj f s 1)),.p (λv y=>∃ g,v = .slice (some ⟨g,0,none⟩) 2 2/\y.heap[g]? = some (.cells #[.int .i64 5,.int .i64 (aj f s 1)] 3 (0,0))),.c (.agg #[.int .u8 10,.int .i64 5,.int .i64 (aj f s 1),.int .i64 0,.int .i64 0]),.al 7 5 #[.int .u8 0,.int .i64 0,.int .i64 0,.int .i64 0,.int .i64 0] 60,.st 6] ⟨sH,trivial⟩ (cz rfl) ?steps ?done
 case steps =>
  refine⟨?s0,?s1,?s2,?s3,?s4,?s5,?s6,?s7,trivial⟩
  case s0 =>
   refine ok0 HK (λvs x hG HX hP => ?_);have i0:=cell1 HX.out.2.2;simp only[zS];go_simp;exact gc
  case s1 =>
   refine oo (λvs x hP => ?_);simp only[zS];go_simp;exact gc
  case s2 =>
   refine ok0 HK (λvs x hG HX hP => ?_);obtain⟨⟨n0,n1⟩,n2,n3⟩:=aF HX.out.2.1;simp only[zS];go_simp;exact gc
  case s3 =>
   refine ok0 HK (λvs x hG HX hP => ?_);have HC:=ł (uG x G _ _ f procs (HX.out.1) s 1);simp only[zS];go_simp;refine(HC.out).mono ?_;rintro e y ⟨rfl,hg⟩;exact⟨_,rfl,bu hg rfl⟩
  case s4 =>
   refine oo (λvs x hP => ?_);simp only[zS];go_simp;exact gl ⟨_,rfl,heap_alloc_new x _⟩
  case s5 =>
   refine ok0 HK (λvs x hG HX hP => ?_);obtain⟨g4,h4,b4⟩:=pq hP 4;have HC:=ł (fO 10 (5) ((aj f s 1)) g4 _ x b4);simp only[zS,h4];go_simp;refine(HC.out).mono ?_;rintro e y ⟨rfl,hg⟩;exact⟨_,rfl,bu hg rfl⟩
  case s6 =>
   refine oz (λvs x => ?_);simp only[zS];go_simp;exact⟨rfl,rfl⟩
  case s7 =>
   refine os (λvs x g hg hb hv => ?_);have h5:vs 5=_:=hv;obtain⟨⟨c0,c1,c2⟩,c3,c4⟩:=bR hb;have zt:=aD hb;simp only[zS,hg,h5];go_simp;exact kC hb _ _ _ _ _
 case done =>
 intro vs w3 hE;have hG:=hE.jU;obtain⟨g6,a6,l6,m6,b6⟩:=hE.box 6;simp only[zS]at b6;simp only[zS,Nat.reduceAdd,a6];have HB:=ł b6;have aQ:=ł (gtr HG2.out hG);clear hE hG b6;simp only[bJ]at HB;go_wp2_with fail;go_ret;exact⟨_,rfl,HB.out,aQ.out⟩
theorem I7 (w:World) (G:Nat) (sv pv:Value) (f:az) (procs:List ak) (hg:gD w G sv pv f procs) (n:Int) (s:ByteArray) (kv:Value) (l:List ae) (hx:aS w (.mk 3 n s kv l)) :
 Calls Tryz.prog 107 #[.pointer (some ⟨G,0,none⟩),ae.val (.mk 3 n s kv l)] w λe w'=>∃ B2 B3 B,e = .returned (.func (.func 119) #[] #[.pointer (some ⟨B2,0,none⟩),.pointer (some ⟨B3,0,none⟩),.pointer (some ⟨B,0,none⟩)])/\w'.heap[B]? = some (.cells #[.int .u8 11,.int .i64 5,.int .i64 4,.int .i64 ((au f s 2).getD noSlot).at',.int .i64 ((au f s 2).getD noSlot).len] 60 (0,0))/\w'.heap[B3]? = some (.cells #[.int .u8 3,.int .i64 n,.string s,kv] 26 (0,0))/\w'.heap[B2]? = some (.cells #[.pointer (some ⟨G,0,none⟩)] 118 (0,0))/\Grow w w':=by
 obtain⟨fa,fc,rfl,hfc,hfl⟩:=hg.fr.row.form;obtain⟨pa,pc,rfl,-,-⟩:=hg.pr.row.form;obtain⟨ka,kc,rfl,-,-⟩:=hx.form;have wZ:=ł hx;have aK:=ł hg;obtain⟨lU,aJ,HG2⟩:=a2 w (.cells #[.pointer (some ⟨G,0,none⟩)] 118) (.cells #[.int .u8 3,.int .i64 n,.string s,.slice ka l.length kc] 26);clear hg hx;simp only[ae.val]
 go_enter Tryz.func107,Tryz.ntmps107
 go_upto_region 4 with fail;generalize ((w.alloc (.cells #[.pointer (some ⟨G,0,none⟩)] 118)).alloc (.cells #[.int .u8 3,.int .i64 n,.string s,.slice ka l.length kc] 26))=w2 at *;have HK:=ł (λ(y:World) (hy:Grow w2 y)=>And.intro (aK.out.later (gtr HG2.out hy)) (And.intro (ai aJ.out hy) (ai lU.out hy)));have Ui:=ł (show Ins.val (gQ f (ae.t (.mk 3 n s (.slice ka l.length kc) l)) 5 4) = .agg #[.int .u8 11,.int .i64 5,.int .i64 4,.int .i64 ((au f s 2).getD noSlot).at',.int .i64 ((au f s 2).getD noSlot).len]from rfl);generalize hsl:(au f s 2).getD noSlot=sl at Ui;have ng:=ł hsl;clear hsl;refine fI 21 [some 17,some 18,some 19,some 6,none] [[],[],[0,1],[],[3,2]] [] [.c (.pointer (some ⟨G,0,none⟩)),.c (.agg #[.int .u8 3,.int .i64 n,.string s,.slice ka l.length kc]),.c (.agg #[.int .u8 11,.int .i64 5,.int .i64 4,.int .i64 sl.at',.int .i64 sl.len]),.al 4 2 #[.int .u8 0,.int .i64 0,.int .i64 0,.int .i64 0,.int .i64 0] 60,.st 3] trivial (cz rfl) ?steps ?done
 case steps =>
  refine⟨?s0,?s1,?s2,?s3,?s4,trivial⟩
  case s0 =>
   refine ok0 HK (λvs x hG HX hP => ?_);have i0:=cell1 HX.out.2.2;simp only[zS];go_simp;exact gc
  case s1 =>
   refine ok0 HK (λvs x hG HX hP => ?_);obtain⟨⟨n0,n1⟩,n2,n3⟩:=aF HX.out.2.1;simp only[zS];go_simp;exact gc
  case s2 =>
   refine ok0 HK (λvs x hG HX hP => ?_);have HC:=ł (ED x G _ _ f procs HX.out.1 (.mk 3 n s (.slice ka l.length kc) l) 5 4 (wZ.out.later (gtr HG2.out hG)));simp only[ae.val,Ui.out]at HC;simp only[zS];go_simp;refine(HC.out).mono ?_;rintro e y ⟨rfl,hg⟩;exact⟨_,rfl,bu hg rfl⟩
  case s3 =>
   refine oz (λvs x => ?_);simp only[zS];go_simp;exact⟨rfl,rfl⟩
  case s4 =>
   refine os (λvs x g hg hb hv => ?_);have h2:vs 2=_:=hv;obtain⟨⟨c0,c1,c2⟩,c3,c4⟩:=bR hb;have zt:=aD hb;simp only[zS,hg,h2];go_simp;exact kC hb _ _ _ _ _
 case done =>
 intro vs w3 hE;have hG:=hE.jU;obtain⟨g3,a3,l3,m3,b3⟩:=hE.box 3;simp only[zS]at b3;simp only[zS,Nat.reduceAdd,a3];have HB:=ł b3;have HN:=ł (ai aJ.out hG);have HP:=ł (ai lU.out hG);have aQ:=ł (gtr HG2.out hG);clear hE hG b3;simp only[bJ]at HB;go_wp2_with fail;go_ret;exact⟨_,_,_,rfl,by rw[ng.out];exact HB.out,HN.out,HP.out,aQ.out⟩
structure nG (f:az) (t:Tree):Prop where
 e:aM t=true
 s:bO f t=true
 d:iJ t<=10000
 l:(eP f t).length<=20000
def x9 (f:az) (t:Tree):Prop:=t.kind=2\/(t.kind=3/\0<t.kids.length/\nG f (t.kid 0))
theorem iM {k n:Int} {s:ByteArray} {kv:Value} {l:List ae} (i:Nat) (h:i<l.length):Tree.kid (ae.t (.mk k n s kv l)) i=l[i].t:=by
 show(ae.ts l).getD i dx=_
 rw[List.getD_eq_getElem?_getD,List.getElem?_eq_getElem (by rw[ae.bT];exact h),ae.gm l i h];rfl
theorem Az (w:World) (G:Nat) (sv pv:Value) (f:az) (procs:List ak) (hg:gD w G sv pv f procs) (x:ae) (i:Ins) (hx:aS w x) (hpl:x9 f x.t) (hc0:0<=f.cells) (hc1:f.cells<=1000) :
 Calls Tryz.prog 83 #[.pointer (some ⟨G,0,none⟩),x.val,i.val] w (bQ w (moveC f x.t i)):=by
 obtain⟨fa,fc,rfl,hfc,hfl⟩:=hg.fr.row.form;obtain⟨pa,pc,rfl,-,-⟩:=hg.pr.row.form;obtain⟨k,n,s,kv,l⟩:=x;obtain⟨ka,kc,rfl,-,-⟩:=hx.form;obtain⟨io,ia,ib,ic,id⟩:=i;rcases hpl with hk|⟨hk,h0,hex⟩
 · have hk2:k=2:=hk;subst hk2;rw[show moveC f (ae.t (.mk 2 n s (.slice ka l.length kc) l)) ⟨io,ia,ib,ic,id⟩=ah [⟨10,5,aj f s 1,0,0⟩,⟨io,ia,ib,ic,id⟩,⟨10,5,aj f s 1,0,0⟩]from rfl];clear hk;have gX:=ł (λ(z:World) (hz:Grow w z)=>OU z G _ _ f procs (hg.later hz) n s (.slice ka l.length kc) l (hx.later hz));have aK:=ł hg;have ed:=ł (show(((w.alloc (.cells #[.int .u8 2,.int .i64 n,.string s,.slice ka l.length kc] 26)).alloc (.cells #[.int .u8 io,.int .i64 ia,.int .i64 ib,.int .i64 ic,.int .i64 id] 60)).alloc (.cells #[.slice none 0 0,.slice none 0 0] 45)).heap[w.heap.size+1]? = some (.cells #[.int .u8 io,.int .i64 ia,.int .i64 ib,.int .i64 ic,.int .i64 id] 60 (0,0))from aO (by have:=heap_alloc_new (w.alloc (.cells #[.int .u8 2,.int .i64 n,.string s,.slice ka l.length kc] 26)) (.cells #[.int .u8 io,.int .i64 ia,.int .i64 ib,.int .i64 ic,.int .i64 id] 60);rwa[World.size_alloc]at this) _);have jH:=ł (show(((w.alloc (.cells #[.int .u8 2,.int .i64 n,.string s,.slice ka l.length kc] 26)).alloc (.cells #[.int .u8 io,.int .i64 ia,.int .i64 ib,.int .i64 ic,.int .i64 id] 60)).alloc (.cells #[.slice none 0 0,.slice none 0 0] 45)).heap[w.heap.size+1+1]? = some (.cells #[.slice none 0 0,.slice none 0 0] 45 (0,0))from by have:=heap_alloc_new ((w.alloc (.cells #[.int .u8 2,.int .i64 n,.string s,.slice ka l.length kc] 26)).alloc (.cells #[.int .u8 io,.int .i64 ia,.int .i64 ib,.int .i64 ic,.int .i64 id] 60)) (.cells #[.slice none 0 0,.slice none 0 0] 45);rwa[World.size_alloc,World.size_alloc]at this);have aG:=ł (show Grow w (((w.alloc (.cells #[.int .u8 2,.int .i64 n,.string s,.slice ka l.length kc] 26)).alloc (.cells #[.int .u8 io,.int .i64 ia,.int .i64 ib,.int .i64 ic,.int .i64 id] 60)).alloc (.cells #[.slice none 0 0,.slice none 0 0] 45))from(((Mv.refl _ w).alloc _).alloc _).alloc _);clear hg hx;simp only[ae.val]at gX ⊢
   go_enter Tryz.func83,Tryz.ntmps83
   go_wp2_with fail;generalize (((w.alloc (.cells #[.int .u8 2,.int .i64 n,.string s,.slice ka l.length kc] 26)).alloc (.cells #[.int .u8 io,.int .i64 ia,.int .i64 ib,.int .i64 ic,.int .i64 id] 60)).alloc (.cells #[.slice none 0 0,.slice none 0 0] 45))=w3 at *;refine(gX.out _ aG.out).mono ?_;rintro e w4 ⟨B,rfl,hb,hg⟩;have bE:=ł hg;have aN:=ł (gtr aG.out hg);have bB:=ł (ai jH.out hg);have qW:=ł hb;clear hb hg gX jH;go_upto_region 2 with fail;have HK:=ł (λ(y:World) (hy:Grow w4 y)=>And.intro (ai ed.out (gtr bE.out hy)) (And.intro (ai qW.out hy) trivial))
   refine fI 14 [some 11,some 12,some 13,none] [[],[],[0,1],[2]] [] [.c (.func (.func 118) #[] #[.pointer (some ⟨B,0,none⟩)]),.c (.func (.func 109) #[] #[.pointer (some ⟨w.heap.size+1,0,none⟩)]),.p (λv y=>ay y v (ah ([⟨10,5,aj f s 1,0,0⟩,⟨io,ia,ib,ic,id⟩,⟨10,5,aj f s 1,0,0⟩]:List Ins))),.rs (w.heap.size+1+1) 2 #[.slice none 0 0,.slice none 0 0] 45] ⟨sP,trivial⟩ (iP (n:=3) rfl rfl (bB.out)) ?steps ?done
   case steps =>
    refine⟨?s0,?s1,?s2,?s3,trivial⟩
    case s0|s1 =>
     refine oo (λvs x hP => ?_);simp only[zS];go_simp;exact gc
    case s2 =>
     refine ok0 HK (λvs x hG HX hP => ?_);have HC:=ł (Wp x B (w.heap.size+1) ⟨10,5,aj f s 1,0,0⟩ ⟨io,ia,ib,ic,id⟩ HX.out.2.1 HX.out.1);simp only[zS];go_simp;refine(HC.out).mono ?_;rintro e y ⟨v,rfl,hp,hg⟩;exact⟨_,rfl,aZ hg hp⟩
    case s3 =>
     refine iQ (λvs x hb hv => ?_);obtain⟨fe,fq,dW,dX,h2,c2,f2⟩:=hv;obtain⟨c0,c1⟩:=aC hb;have zt:=aD hb;simp only[zS,h2];go_simp;exact set2 hb _ _
   case done =>
   intro vs w5 hE;obtain⟨fe,fq,dW,dX,h2,c2,f2⟩:=hE.val 2;have b3:=hE.res 3;simp only[zS,h2]at b3;simp only[zS,Nat.reduceAdd,h2];have HM:=ł (hE.uJ 3);have aQ:=ł (show Grow w w5 from Mv.trans aN.out HM.out (λb e => .inr (by omega)));have bC:=ł (show ay w5 (.agg #[.slice fe (ah ([⟨10,5,aj f s 1,0,0⟩,⟨io,ia,ib,ic,id⟩,⟨10,5,aj f s 1,0,0⟩]:List Ins)).code.length fq,.slice dW (ah ([⟨10,5,aj f s 1,0,0⟩,⟨io,ia,ib,ic,id⟩,⟨10,5,aj f s 1,0,0⟩]:List Ins)).refs.length dX]) (ah ([⟨10,5,aj f s 1,0,0⟩,⟨io,ia,ib,ic,id⟩,⟨10,5,aj f s 1,0,0⟩]:List Ins))from⟨fe,fq,dW,dX,rfl,c2,f2⟩);have HB:=ł b3;clear hE b3 HM c2 f2;simp only[bJ]at HB;go_wp2_with fail;obtain⟨t0,t1⟩:=aC HB.out;exact bodyPost_ret (v := .agg #[.slice fe (ah ([⟨10,5,aj f s 1,0,0⟩,⟨io,ia,ib,ic,id⟩,⟨10,5,aj f s 1,0,0⟩]:List Ins)).code.length fq,.slice dW (ah ([⟨10,5,aj f s 1,0,0⟩,⟨io,ia,ib,ic,id⟩,⟨10,5,aj f s 1,0,0⟩]:List Ins)).refs.length dX]) (by simp[results,Tryz.results83,go_sem,t0,t1]) rfl ⟨_,rfl,bC.out,aQ.out⟩
 · have hk3:k=3:=hk;subst hk3
   replace h0:0<l.length:=by rw[← ae.bT];exact h0
   rw[show moveC f (ae.t (.mk 3 n s (.slice ka l.length kc) l)) ⟨io,ia,ib,ic,id⟩=aH f (Tree.kid (ae.t (.mk 3 n s (.slice ka l.length kc) l)) 0) (ah [⟨11,5,4,((au f s 2).getD noSlot).at',((au f s 2).getD noSlot).len⟩,⟨io,ia,ib,ic,id⟩,⟨11,5,4,((au f s 2).getD noSlot).at',((au f s 2).getD noSlot).len⟩])from rfl,iM 0 h0];clear hk;obtain⟨kb,ko,qE,bF,-,-⟩:=hx.row.2.2.2.1.at h0;simp only[Value.slice.injEq,true_and]at bF;obtain⟨rfl,rfl⟩:=bF;have hk0:=dO hx 0 h0;simp only[Nat.zero_mul,Nat.add_zero]at hk0;rw[iM 0 h0]at hex;generalize l[0]=y at *;obtain⟨yk,yn,ys,mY,yl⟩:=y;obtain⟨ya,yc,rfl,-,-⟩:=hk0.at_.form;have HKK:=ł hk0;have HL0:=ł h0;have mI:=ł hex;clear hk0 hex;have gX:=ł (λ(z:World) (hz:Grow w z)=>I7 z G _ _ f procs (hg.later hz) n s (.slice (some ⟨kb,ko,none⟩) l.length kc) l (hx.later hz));have aK:=ł hg;have ed:=ł (show(((w.alloc (.cells #[.int .u8 3,.int .i64 n,.string s,.slice (some ⟨kb,ko,none⟩) l.length kc] 26)).alloc (.cells #[.int .u8 io,.int .i64 ia,.int .i64 ib,.int .i64 ic,.int .i64 id] 60)).alloc (.cells #[.slice none 0 0,.slice none 0 0] 45)).heap[w.heap.size+1]? = some (.cells #[.int .u8 io,.int .i64 ia,.int .i64 ib,.int .i64 ic,.int .i64 id] 60 (0,0))from aO (by have:=heap_alloc_new (w.alloc (.cells #[.int .u8 3,.int .i64 n,.string s,.slice (some ⟨kb,ko,none⟩) l.length kc] 26)) (.cells #[.int .u8 io,.int .i64 ia,.int .i64 ib,.int .i64 ic,.int .i64 id] 60);rwa[World.size_alloc]at this) _);have jH:=ł (show(((w.alloc (.cells #[.int .u8 3,.int .i64 n,.string s,.slice (some ⟨kb,ko,none⟩) l.length kc] 26)).alloc (.cells #[.int .u8 io,.int .i64 ia,.int .i64 ib,.int .i64 ic,.int .i64 id] 60)).alloc (.cells #[.slice none 0 0,.slice none 0 0] 45)).heap[w.heap.size+1+1]? = some (.cells #[.slice none 0 0,.slice none 0 0] 45 (0,0))from by have:=heap_alloc_new ((w.alloc (.cells #[.int .u8 3,.int .i64 n,.string s,.slice (some ⟨kb,ko,none⟩) l.length kc] 26)).alloc (.cells #[.int .u8 io,.int .i64 ia,.int .i64 ib,.int .i64 ic,.int .i64 id] 60)) (.cells #[.slice none 0 0,.slice none 0 0] 45);rwa[World.size_alloc,World.size_alloc]at this);have aG:=ł (show Grow w (((w.alloc (.cells #[.int .u8 3,.int .i64 n,.string s,.slice (some ⟨kb,ko,none⟩) l.length kc] 26)).alloc (.cells #[.int .u8 io,.int .i64 ia,.int .i64 ib,.int .i64 ic,.int .i64 id] 60)).alloc (.cells #[.slice none 0 0,.slice none 0 0] 45))from(((Mv.refl _ w).alloc _).alloc _).alloc _);clear hg hx;simp only[ae.val]at gX ⊢
   go_enter Tryz.func83,Tryz.ntmps83
   go_wp2_with fail;generalize (((w.alloc (.cells #[.int .u8 3,.int .i64 n,.string s,.slice (some ⟨kb,ko,none⟩) l.length kc] 26)).alloc (.cells #[.int .u8 io,.int .i64 ia,.int .i64 ib,.int .i64 ic,.int .i64 id] 60)).alloc (.cells #[.slice none 0 0,.slice none 0 0] 45))=w3 at *;refine(gX.out _ aG.out).mono ?_;rintro e w4 ⟨B2,B3,B,rfl,hb,hb3,hb2,hg⟩;have bE:=ł hg;have aN:=ł (gtr aG.out hg);have bB:=ł (ai jH.out hg);have qW:=ł hb;have HB3:=ł hb3;have HB2:=ł hb2;clear hb hg gX jH hb3 hb2;go_upto_region 2 with fail;have HK:=ł (λ(y:World) (hy:Grow w4 y)=>And.intro (ai ed.out (gtr bE.out hy)) (And.intro (ai qW.out hy) (And.intro (ai HB3.out hy) (And.intro (ai HB2.out hy) (HKK.out.later (gtr aN.out hy))))))
   refine fI 14 [some 11,some 12,some 13,none] [[],[],[0,1],[2]] [] [.c (.func (.func 119) #[] #[.pointer (some ⟨B2,0,none⟩),.pointer (some ⟨B3,0,none⟩),.pointer (some ⟨B,0,none⟩)]),.c (.func (.func 109) #[] #[.pointer (some ⟨w.heap.size+1,0,none⟩)]),.p (λv y=>ay y v (aH f (ae.t (.mk yk yn ys (.slice ya yl.length yc) yl)) (ah ([⟨11,5,4,((au f s 2).getD noSlot).at',((au f s 2).getD noSlot).len⟩,⟨io,ia,ib,ic,id⟩,⟨11,5,4,((au f s 2).getD noSlot).at',((au f s 2).getD noSlot).len⟩]:List Ins)))),.rs (w.heap.size+1+1) 2 #[.slice none 0 0,.slice none 0 0] 45] ⟨sP,trivial⟩ (iP (n:=3) rfl rfl (bB.out)) ?steps ?done
   case steps =>
    refine⟨?s0,?s1,?s2,?s3,trivial⟩
    case s0|s1 =>
     refine oo (λvs x hP => ?_);simp only[zS];go_simp;exact gc
    case s2 =>
     refine ok0 HK (λvs x hG HX hP => ?_);have HC:=ł (Ws x G _ _ f procs (aK.out.later (gtr aN.out hG)) B2 B3 B (w.heap.size+1) ⟨11,5,4,((au f s 2).getD noSlot).at',((au f s 2).getD noSlot).len⟩ ⟨io,ia,ib,ic,id⟩ 3 n s kb ko kc l (.mk yk yn ys (.slice ya yl.length yc) yl) HX.out.2.1 HX.out.1 HX.out.2.2.1 HX.out.2.2.2.1 HL0.out HX.out.2.2.2.2 mI.out.e mI.out.s hc0 hc1 mI.out.d (Nat.le_trans mI.out.l (by decide)));simp only[zS];go_simp;refine(HC.out).mono ?_;rintro e y ⟨v,rfl,hp,hg⟩;exact⟨_,rfl,aZ hg hp⟩
    case s3 =>
     refine iQ (λvs x hb hv => ?_);obtain⟨fe,fq,dW,dX,h2,c2,f2⟩:=hv;obtain⟨c0,c1⟩:=aC hb;have zt:=aD hb;simp only[zS,h2];go_simp;exact set2 hb _ _
   case done =>
   intro vs w5 hE;obtain⟨fe,fq,dW,dX,h2,c2,f2⟩:=hE.val 2;have b3:=hE.res 3;simp only[zS,h2]at b3;simp only[zS,Nat.reduceAdd,h2];have HM:=ł (hE.uJ 3);have aQ:=ł (show Grow w w5 from Mv.trans aN.out HM.out (λb e => .inr (by omega)));have bC:=ł (show ay w5 (.agg #[.slice fe (aH f (ae.t (.mk yk yn ys (.slice ya yl.length yc) yl)) (ah ([⟨11,5,4,((au f s 2).getD noSlot).at',((au f s 2).getD noSlot).len⟩,⟨io,ia,ib,ic,id⟩,⟨11,5,4,((au f s 2).getD noSlot).at',((au f s 2).getD noSlot).len⟩]:List Ins))).code.length fq,.slice dW (aH f (ae.t (.mk yk yn ys (.slice ya yl.length yc) yl)) (ah ([⟨11,5,4,((au f s 2).getD noSlot).at',((au f s 2).getD noSlot).len⟩,⟨io,ia,ib,ic,id⟩,⟨11,5,4,((au f s 2).getD noSlot).at',((au f s 2).getD noSlot).len⟩]:List Ins))).refs.length dX]) (aH f (ae.t (.mk yk yn ys (.slice ya yl.length yc) yl)) (ah ([⟨11,5,4,((au f s 2).getD noSlot).at',((au f s 2).getD noSlot).len⟩,⟨io,ia,ib,ic,id⟩,⟨11,5,4,((au f s 2).getD noSlot).at',((au f s 2).getD noSlot).len⟩]:List Ins)))from⟨fe,fq,dW,dX,rfl,c2,f2⟩);have HB:=ł b3;clear hE b3 HM c2 f2;simp only[bJ]at HB;go_wp2_with fail;obtain⟨t0,t1⟩:=aC HB.out;exact bodyPost_ret (v := .agg #[.slice fe (aH f (ae.t (.mk yk yn ys (.slice ya yl.length yc) yl)) (ah ([⟨11,5,4,((au f s 2).getD noSlot).at',((au f s 2).getD noSlot).len⟩,⟨io,ia,ib,ic,id⟩,⟨11,5,4,((au f s 2).getD noSlot).at',((au f s 2).getD noSlot).len⟩]:List Ins))).code.length fq,.slice dW (aH f (ae.t (.mk yk yn ys (.slice ya yl.length yc) yl)) (ah ([⟨11,5,4,((au f s 2).getD noSlot).at',((au f s 2).getD noSlot).len⟩,⟨io,ia,ib,ic,id⟩,⟨11,5,4,((au f s 2).getD noSlot).at',((au f s 2).getD noSlot).len⟩]:List Ins))).refs.length dX]) (by simp[results,Tryz.results83,go_sem,t0,t1]) rfl ⟨_,rfl,bC.out,aQ.out⟩
end Go.Proofs.YtnobahchcongnaaGreat
