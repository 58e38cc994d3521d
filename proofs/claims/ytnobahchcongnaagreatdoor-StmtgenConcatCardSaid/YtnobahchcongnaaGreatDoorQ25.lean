import Derived.Test.YtnobahchcongnaaGreatDoorQ24
set_option linter.unusedSimpArgs false
set_option linter.unusedVariables false
set_option maxRecDepth 100000
set_option maxHeartbeats 25600000
namespace Go.Proofs.YtnobahchcongnaaGreatDoor
open Go.RowKit Go.Instr
theorem Nt (w:World) (G:Nat) (sv pv:Value) (f:az) (procs:List aj) (hg:gm w G sv pv f procs) (n:Int) (s:ByteArray) (kv:Value) (l:List ae) (hx:aV w (.mk 2 n s kv l)) :
 Calls Tryz.prog 104 #[.pointer (some ⟨G,0,none⟩),ae.val (.mk 2 n s kv l)] w fun e w'=>∃ B,e = .returned (.func (.func 122) #[] #[.pointer (some ⟨B,0,none⟩)])∧w'.heap[B]? = some (.cells #[.int .u8 10,.int .i64 5,.int .i64 (ak f s 1),.int .i64 0,.int .i64 0] 57 (0,0))∧Grow w w':=by
 obtain ⟨fa,fc,rfl,hfc,hfl⟩:=hg.fr.row.form;obtain ⟨pa,pc,rfl,-,-⟩:=hg.pr.row.form;obtain ⟨ka,kc,rfl,-,-⟩:=hx.form;have SH:=ł hx;have aA:=ł hg;obtain ⟨lF,aL,HG2⟩:=a2 w (.cells #[.pointer (some ⟨G,0,none⟩)] 109) (.cells #[.int .u8 2,.int .i64 n,.string s,.slice ka l.length kc] 24);clear hg hx;simp only [ae.val]
 go_enter Tryz.func104,Tryz.ntmps104
 go_upto_region 2 with fail;generalize ((w.alloc (.cells #[.pointer (some ⟨G,0,none⟩)] 109)).alloc (.cells #[.int .u8 2,.int .i64 n,.string s,.slice ka l.length kc] 24))=w2 at *;have HK:=ł (fun (y:World) (hy:Grow w2 y)=>And.intro (aA.out.later (gtr HG2.out hy)) (And.intro (ai aL.out hy) (ai lF.out hy)));refine fJ 21 [some 10,some 11,some 12,some 13,some 14,some 15,some 5,none] [[],[],[1],[0,2],[3],[4],[],[6,5]] [4] [.c (.pointer (some ⟨G,0,none⟩)),.c (.pointer (some ⟨(w.heap.size+1),2,none⟩)),.c (.string s),.c (.int .i64 (ak f s 1)),.p (fun v y=>∃ g,v = .slice (some ⟨g,0,none⟩) 2 2∧y.heap[g]? = some (.cells #[.int .i64 5,.int .i64 (ak f s 1)] 3 (0,0))),.c (.agg #[.int .u8 10,.int .i64 5,.int .i64 (ak f s 1),.int .i64 0,.int .i64 0]),.al 7 5 #[.int .u8 0,.int .i64 0,.int .i64 0,.int .i64 0,.int .i64 0] 57,.st 6] ⟨sH,trivial⟩ (dJ rfl) ?steps ?done
 case steps =>
  refine ⟨?s0,?s1,?s2,?s3,?s4,?s5,?s6,?s7,trivial⟩
  case s0 =>
   refine ok0 HK (fun vs x hG HX hP => ?_);have i0:=cell1 HX.out.2.2;simp only [zS];go_simp;exact gc
  case s1 =>
   refine oo (fun vs x hP => ?_);simp only [zS];go_simp;exact gc
  case s2 =>
   refine ok0 HK (fun vs x hG HX hP => ?_);obtain ⟨⟨n0,n1⟩,n2,n3⟩:=aF HX.out.2.1;simp only [zS];go_simp;exact gc
  case s3 =>
   refine ok0 HK (fun vs x hG HX hP => ?_);have HC:=ł (tY x G _ _ f procs (HX.out.1) s 1);simp only [zS];go_simp;refine (HC.out).mono ?_;rintro e y ⟨rfl,hg⟩;exact ⟨_,rfl,bz hg rfl⟩
  case s4 =>
   refine oo (fun vs x hP => ?_);simp only [zS];go_simp;exact gl ⟨_,rfl,heap_alloc_new x _⟩
  case s5 =>
   refine ok0 HK (fun vs x hG HX hP => ?_);obtain ⟨g4,h4,b4⟩:=pq hP 4;have HC:=ł (fO 10 (5) ((ak f s 1)) g4 _ x b4);simp only [zS,h4];go_simp;refine (HC.out).mono ?_;rintro e y ⟨rfl,hg⟩;exact ⟨_,rfl,bz hg rfl⟩
  case s6 =>
   refine oz (fun vs x => ?_);simp only [zS];go_simp;exact ⟨rfl,rfl⟩
  case s7 =>
   refine os (fun vs x g hg hb hv => ?_);have h5:vs 5=_:=hv;obtain ⟨⟨c0,c1,c2⟩,c3,c4⟩:=bR hb;have zt:=aJ hb;simp only [zS,hg,h5];go_simp;exact jQ hb _ _ _ _ _
 case done =>
 intro vs w3 hE;have hG:=hE.jI;obtain ⟨g6,a6,l6,m6,b6⟩:=hE.box 6;simp only [zS] at b6;simp only [zS,Nat.reduceAdd,a6];have HB:=ł b6;have aM:=ł (gtr HG2.out hG);clear hE hG b6;simp only [bI] at HB;go_wp2_with fail;go_ret;exact ⟨_,rfl,HB.out,aM.out⟩
theorem Hr (w:World) (G:Nat) (sv pv:Value) (f:az) (procs:List aj) (hg:gm w G sv pv f procs) (n:Int) (s:ByteArray) (kv:Value) (l:List ae) (hx:aV w (.mk 3 n s kv l)) :
 Calls Tryz.prog 104 #[.pointer (some ⟨G,0,none⟩),ae.val (.mk 3 n s kv l)] w fun e w'=>∃ B2 B3 B,e = .returned (.func (.func 123) #[] #[.pointer (some ⟨B2,0,none⟩),.pointer (some ⟨B3,0,none⟩),.pointer (some ⟨B,0,none⟩)])∧w'.heap[B]? = some (.cells #[.int .u8 11,.int .i64 5,.int .i64 4,.int .i64 ((au f s 2).getD noSlot).at',.int .i64 ((au f s 2).getD noSlot).len] 57 (0,0))∧w'.heap[B3]? = some (.cells #[.int .u8 3,.int .i64 n,.string s,kv] 24 (0,0))∧w'.heap[B2]? = some (.cells #[.pointer (some ⟨G,0,none⟩)] 109 (0,0))∧Grow w w':=by
 obtain ⟨fa,fc,rfl,hfc,hfl⟩:=hg.fr.row.form;obtain ⟨pa,pc,rfl,-,-⟩:=hg.pr.row.form;obtain ⟨ka,kc,rfl,-,-⟩:=hx.form;have SH:=ł hx;have aA:=ł hg;obtain ⟨lF,aL,HG2⟩:=a2 w (.cells #[.pointer (some ⟨G,0,none⟩)] 109) (.cells #[.int .u8 3,.int .i64 n,.string s,.slice ka l.length kc] 24);clear hg hx;simp only [ae.val]
 go_enter Tryz.func104,Tryz.ntmps104
 go_upto_region 4 with fail;generalize ((w.alloc (.cells #[.pointer (some ⟨G,0,none⟩)] 109)).alloc (.cells #[.int .u8 3,.int .i64 n,.string s,.slice ka l.length kc] 24))=w2 at *;have HK:=ł (fun (y:World) (hy:Grow w2 y)=>And.intro (aA.out.later (gtr HG2.out hy)) (And.intro (ai aL.out hy) (ai lF.out hy)));have SI:=ł (show Ins.val (eF f (ae.t (.mk 3 n s (.slice ka l.length kc) l)) 5 4) = .agg #[.int .u8 11,.int .i64 5,.int .i64 4,.int .i64 ((au f s 2).getD noSlot).at',.int .i64 ((au f s 2).getD noSlot).len] from rfl);generalize hsl:(au f s 2).getD noSlot=sl at SI;have kG:=ł hsl;clear hsl;refine fJ 21 [some 17,some 18,some 19,some 6,none] [[],[],[0,1],[],[3,2]] [] [.c (.pointer (some ⟨G,0,none⟩)),.c (.agg #[.int .u8 3,.int .i64 n,.string s,.slice ka l.length kc]),.c (.agg #[.int .u8 11,.int .i64 5,.int .i64 4,.int .i64 sl.at',.int .i64 sl.len]),.al 4 2 #[.int .u8 0,.int .i64 0,.int .i64 0,.int .i64 0,.int .i64 0] 57,.st 3] trivial (dJ rfl) ?steps ?done
 case steps =>
  refine ⟨?s0,?s1,?s2,?s3,?s4,trivial⟩
  case s0 =>
   refine ok0 HK (fun vs x hG HX hP => ?_);have i0:=cell1 HX.out.2.2;simp only [zS];go_simp;exact gc
  case s1 =>
   refine ok0 HK (fun vs x hG HX hP => ?_);obtain ⟨⟨n0,n1⟩,n2,n3⟩:=aF HX.out.2.1;simp only [zS];go_simp;exact gc
  case s2 =>
   refine ok0 HK (fun vs x hG HX hP => ?_);have HC:=ł (El x G _ _ f procs HX.out.1 (.mk 3 n s (.slice ka l.length kc) l) 5 4 (SH.out.later (gtr HG2.out hG)));simp only [ae.val,SI.out] at HC;simp only [zS];go_simp;refine (HC.out).mono ?_;rintro e y ⟨rfl,hg⟩;exact ⟨_,rfl,bz hg rfl⟩
  case s3 =>
   refine oz (fun vs x => ?_);simp only [zS];go_simp;exact ⟨rfl,rfl⟩
  case s4 =>
   refine os (fun vs x g hg hb hv => ?_);have h2:vs 2=_:=hv;obtain ⟨⟨c0,c1,c2⟩,c3,c4⟩:=bR hb;have zt:=aJ hb;simp only [zS,hg,h2];go_simp;exact jQ hb _ _ _ _ _
 case done =>
 intro vs w3 hE;have hG:=hE.jI;obtain ⟨g3,a3,l3,m3,b3⟩:=hE.box 3;simp only [zS] at b3;simp only [zS,Nat.reduceAdd,a3];have HB:=ł b3;have HN:=ł (ai aL.out hG);have HP:=ł (ai lF.out hG);have aM:=ł (gtr HG2.out hG);clear hE hG b3;simp only [bI] at HB;go_wp2_with fail;go_ret;exact ⟨_,_,_,rfl,by rw [kG.out];exact HB.out,HN.out,HP.out,aM.out⟩
structure mH (f:az) (t:Tree):Prop where
 e:aI t=true
 s:bM f t=true
 d:gV t≤10000
 l:(dC f t).length≤20000
def xy (f:az) (t:Tree):Prop:=t.kind=2∨(t.kind=3∧0<t.kids.length∧mH f (t.kid 0))
theorem gY {k n:Int} {s:ByteArray} {kv:Value} {l:List ae} (i:Nat) (h:i<l.length):Tree.kid (ae.t (.mk k n s kv l)) i=l[i].t:=by
 show (ae.ts l).getD i dG=_
 rw [List.getD_eq_getElem?_getD,List.getElem?_eq_getElem (by rw [ae.cZ];exact h),ae.gK l i h];rfl
theorem zU (w:World) (G:Nat) (sv pv:Value) (f:az) (procs:List aj) (hg:gm w G sv pv f procs) (x:ae) (i:Ins) (hx:aV w x) (hpl:xy f x.t) (hc0:0≤f.cells) (hc1:f.cells≤1000) :
 Calls Tryz.prog 80 #[.pointer (some ⟨G,0,none⟩),x.val,i.val] w (bN w (moveC f x.t i)):=by
 obtain ⟨fa,fc,rfl,hfc,hfl⟩:=hg.fr.row.form;obtain ⟨pa,pc,rfl,-,-⟩:=hg.pr.row.form;obtain ⟨k,n,s,kv,l⟩:=x;obtain ⟨ka,kc,rfl,-,-⟩:=hx.form;obtain ⟨io,ia,ib,ic,id⟩:=i;rcases hpl with hk | ⟨hk,h0,hex⟩
 · have hk2:k=2:=hk;subst hk2;rw [show moveC f (ae.t (.mk 2 n s (.slice ka l.length kc) l)) ⟨io,ia,ib,ic,id⟩=ah [⟨10,5,ak f s 1,0,0⟩,⟨io,ia,ib,ic,id⟩,⟨10,5,ak f s 1,0,0⟩] from rfl];clear hk;have eQ:=ł (fun (z:World) (hz:Grow w z)=>Nt z G _ _ f procs (hg.later hz) n s (.slice ka l.length kc) l (hx.later hz));have aA:=ł hg;have eU:=ł (show (((w.alloc (.cells #[.int .u8 2,.int .i64 n,.string s,.slice ka l.length kc] 24)).alloc (.cells #[.int .u8 io,.int .i64 ia,.int .i64 ib,.int .i64 ic,.int .i64 id] 57)).alloc (.cells #[.slice none 0 0,.slice none 0 0] 34)).heap[w.heap.size+1]? = some (.cells #[.int .u8 io,.int .i64 ia,.int .i64 ib,.int .i64 ic,.int .i64 id] 57 (0,0)) from aT (by have:=heap_alloc_new (w.alloc (.cells #[.int .u8 2,.int .i64 n,.string s,.slice ka l.length kc] 24)) (.cells #[.int .u8 io,.int .i64 ia,.int .i64 ib,.int .i64 ic,.int .i64 id] 57);rwa [World.size_alloc] at this) _);have lg:=ł (show (((w.alloc (.cells #[.int .u8 2,.int .i64 n,.string s,.slice ka l.length kc] 24)).alloc (.cells #[.int .u8 io,.int .i64 ia,.int .i64 ib,.int .i64 ic,.int .i64 id] 57)).alloc (.cells #[.slice none 0 0,.slice none 0 0] 34)).heap[w.heap.size+1+1]? = some (.cells #[.slice none 0 0,.slice none 0 0] 34 (0,0)) from by have:=heap_alloc_new ((w.alloc (.cells #[.int .u8 2,.int .i64 n,.string s,.slice ka l.length kc] 24)).alloc (.cells #[.int .u8 io,.int .i64 ia,.int .i64 ib,.int .i64 ic,.int .i64 id] 57)) (.cells #[.slice none 0 0,.slice none 0 0] 34);rwa [World.size_alloc,World.size_alloc] at this);have aG:=ł (show Grow w (((w.alloc (.cells #[.int .u8 2,.int .i64 n,.string s,.slice ka l.length kc] 24)).alloc (.cells #[.int .u8 io,.int .i64 ia,.int .i64 ib,.int .i64 ic,.int .i64 id] 57)).alloc (.cells #[.slice none 0 0,.slice none 0 0] 34)) from (((Mv.refl _ w).alloc _).alloc _).alloc _);clear hg hx;simp only [ae.val] at eQ ⊢
   go_enter Tryz.func80,Tryz.ntmps80
   go_wp2_with fail;generalize (((w.alloc (.cells #[.int .u8 2,.int .i64 n,.string s,.slice ka l.length kc] 24)).alloc (.cells #[.int .u8 io,.int .i64 ia,.int .i64 ib,.int .i64 ic,.int .i64 id] 57)).alloc (.cells #[.slice none 0 0,.slice none 0 0] 34))=w3 at *;refine (eQ.out _ aG.out).mono ?_;rintro e w4 ⟨B,rfl,hb,hg⟩;have aQ:=ł hg;have aN:=ł (gtr aG.out hg);have bC:=ł (ai lg.out hg);have wu:=ł hb;clear hb hg eQ lg;go_upto_region 2 with fail;have HK:=ł (fun (y:World) (hy:Grow w4 y)=>And.intro (ai eU.out (gtr aQ.out hy)) (And.intro (ai wu.out hy) trivial))
   refine fJ 14 [some 11,some 12,some 13,none] [[],[],[0,1],[2]] [] [.c (.func (.func 122) #[] #[.pointer (some ⟨B,0,none⟩)]),.c (.func (.func 106) #[] #[.pointer (some ⟨w.heap.size+1,0,none⟩)]),.p (fun v y=>ay y v (ah ([⟨10,5,ak f s 1,0,0⟩,⟨io,ia,ib,ic,id⟩,⟨10,5,ak f s 1,0,0⟩]:List Ins))),.rs (w.heap.size+1+1) 2 #[.slice none 0 0,.slice none 0 0] 34] ⟨sP,trivial⟩ (ik (n:=3) rfl rfl (bC.out)) ?steps ?done
   case steps =>
    refine ⟨?s0,?s1,?s2,?s3,trivial⟩
    case s0 | s1 =>
     refine oo (fun vs x hP => ?_);simp only [zS];go_simp;exact gc
    case s2 =>
     refine ok0 HK (fun vs x hG HX hP => ?_);have HC:=ł (U3 x B (w.heap.size+1) ⟨10,5,ak f s 1,0,0⟩ ⟨io,ia,ib,ic,id⟩ HX.out.2.1 HX.out.1);simp only [zS];go_simp;refine (HC.out).mono ?_;rintro e y ⟨v,rfl,hp,hg⟩;exact ⟨_,rfl,aY hg hp⟩
    case s3 =>
     refine il (fun vs x hb hv => ?_);obtain ⟨fD,fE,eH,eO,h2,c2,f2⟩:=hv;obtain ⟨c0,c1⟩:=aB hb;have zt:=aJ hb;simp only [zS,h2];go_simp;exact set2 hb _ _
   case done =>
   intro vs w5 hE;obtain ⟨fD,fE,eH,eO,h2,c2,f2⟩:=hE.val 2;have b3:=hE.res 3;simp only [zS,h2] at b3;simp only [zS,Nat.reduceAdd,h2];have HM:=ł (hE.uk 3);have aM:=ł (show Grow w w5 from Mv.trans aN.out HM.out (fun b e => .inr (by omega)));have bu:=ł (show ay w5 (.agg #[.slice fD (ah ([⟨10,5,ak f s 1,0,0⟩,⟨io,ia,ib,ic,id⟩,⟨10,5,ak f s 1,0,0⟩]:List Ins)).code.length fE,.slice eH (ah ([⟨10,5,ak f s 1,0,0⟩,⟨io,ia,ib,ic,id⟩,⟨10,5,ak f s 1,0,0⟩]:List Ins)).refs.length eO]) (ah ([⟨10,5,ak f s 1,0,0⟩,⟨io,ia,ib,ic,id⟩,⟨10,5,ak f s 1,0,0⟩]:List Ins)) from ⟨fD,fE,eH,eO,rfl,c2,f2⟩);have HB:=ł b3;clear hE b3 HM c2 f2;simp only [bI] at HB;go_wp2_with fail;obtain ⟨t0,t1⟩:=aB HB.out;exact bodyPost_ret (v := .agg #[.slice fD (ah ([⟨10,5,ak f s 1,0,0⟩,⟨io,ia,ib,ic,id⟩,⟨10,5,ak f s 1,0,0⟩]:List Ins)).code.length fE,.slice eH (ah ([⟨10,5,ak f s 1,0,0⟩,⟨io,ia,ib,ic,id⟩,⟨10,5,ak f s 1,0,0⟩]:List Ins)).refs.length eO]) (by simp [results,Tryz.results80,go_sem,t0,t1]) rfl ⟨_,rfl,bu.out,aM.out⟩
 · have hk3:k=3:=hk;subst hk3
   replace h0:0<l.length:=by rw [← ae.cZ];exact h0
   rw [show moveC f (ae.t (.mk 3 n s (.slice ka l.length kc) l)) ⟨io,ia,ib,ic,id⟩=aH f (Tree.kid (ae.t (.mk 3 n s (.slice ka l.length kc) l)) 0) (ah [⟨11,5,4,((au f s 2).getD noSlot).at',((au f s 2).getD noSlot).len⟩,⟨io,ia,ib,ic,id⟩,⟨11,5,4,((au f s 2).getD noSlot).at',((au f s 2).getD noSlot).len⟩]) from rfl,gY 0 h0];clear hk;obtain ⟨kb,ko,yG,cz,-,-⟩:=hx.row.2.2.2.1.at h0;simp only [Value.slice.injEq,true_and] at cz;obtain ⟨rfl,rfl⟩:=cz;have hk0:=eY hx 0 h0;simp only [Nat.zero_mul,Nat.add_zero] at hk0;rw [gY 0 h0] at hex;generalize l[0]=y at *;obtain ⟨yk,yn,ys,jf,yl⟩:=y;obtain ⟨ya,yc,rfl,-,-⟩:=hk0.at_.form;have HKK:=ł hk0;have HL0:=ł h0;have lM:=ł hex;clear hk0 hex;have eQ:=ł (fun (z:World) (hz:Grow w z)=>Hr z G _ _ f procs (hg.later hz) n s (.slice (some ⟨kb,ko,none⟩) l.length kc) l (hx.later hz));have aA:=ł hg;have eU:=ł (show (((w.alloc (.cells #[.int .u8 3,.int .i64 n,.string s,.slice (some ⟨kb,ko,none⟩) l.length kc] 24)).alloc (.cells #[.int .u8 io,.int .i64 ia,.int .i64 ib,.int .i64 ic,.int .i64 id] 57)).alloc (.cells #[.slice none 0 0,.slice none 0 0] 34)).heap[w.heap.size+1]? = some (.cells #[.int .u8 io,.int .i64 ia,.int .i64 ib,.int .i64 ic,.int .i64 id] 57 (0,0)) from aT (by have:=heap_alloc_new (w.alloc (.cells #[.int .u8 3,.int .i64 n,.string s,.slice (some ⟨kb,ko,none⟩) l.length kc] 24)) (.cells #[.int .u8 io,.int .i64 ia,.int .i64 ib,.int .i64 ic,.int .i64 id] 57);rwa [World.size_alloc] at this) _);have lg:=ł (show (((w.alloc (.cells #[.int .u8 3,.int .i64 n,.string s,.slice (some ⟨kb,ko,none⟩) l.length kc] 24)).alloc (.cells #[.int .u8 io,.int .i64 ia,.int .i64 ib,.int .i64 ic,.int .i64 id] 57)).alloc (.cells #[.slice none 0 0,.slice none 0 0] 34)).heap[w.heap.size+1+1]? = some (.cells #[.slice none 0 0,.slice none 0 0] 34 (0,0)) from by have:=heap_alloc_new ((w.alloc (.cells #[.int .u8 3,.int .i64 n,.string s,.slice (some ⟨kb,ko,none⟩) l.length kc] 24)).alloc (.cells #[.int .u8 io,.int .i64 ia,.int .i64 ib,.int .i64 ic,.int .i64 id] 57)) (.cells #[.slice none 0 0,.slice none 0 0] 34);rwa [World.size_alloc,World.size_alloc] at this);have aG:=ł (show Grow w (((w.alloc (.cells #[.int .u8 3,.int .i64 n,.string s,.slice (some ⟨kb,ko,none⟩) l.length kc] 24)).alloc (.cells #[.int .u8 io,.int .i64 ia,.int .i64 ib,.int .i64 ic,.int .i64 id] 57)).alloc (.cells #[.slice none 0 0,.slice none 0 0] 34)) from (((Mv.refl _ w).alloc _).alloc _).alloc _);clear hg hx;simp only [ae.val] at eQ ⊢
   go_enter Tryz.func80,Tryz.ntmps80
   go_wp2_with fail;generalize (((w.alloc (.cells #[.int .u8 3,.int .i64 n,.string s,.slice (some ⟨kb,ko,none⟩) l.length kc] 24)).alloc (.cells #[.int .u8 io,.int .i64 ia,.int .i64 ib,.int .i64 ic,.int .i64 id] 57)).alloc (.cells #[.slice none 0 0,.slice none 0 0] 34))=w3 at *;refine (eQ.out _ aG.out).mono ?_;rintro e w4 ⟨B2,B3,B,rfl,hb,hb3,hb2,hg⟩;have aQ:=ł hg;have aN:=ł (gtr aG.out hg);have bC:=ł (ai lg.out hg);have wu:=ł hb;have HB3:=ł hb3;have HB2:=ł hb2;clear hb hg eQ lg hb3 hb2;go_upto_region 2 with fail;have HK:=ł (fun (y:World) (hy:Grow w4 y)=>And.intro (ai eU.out (gtr aQ.out hy)) (And.intro (ai wu.out hy) (And.intro (ai HB3.out hy) (And.intro (ai HB2.out hy) (HKK.out.later (gtr aN.out hy))))))
   refine fJ 14 [some 11,some 12,some 13,none] [[],[],[0,1],[2]] [] [.c (.func (.func 123) #[] #[.pointer (some ⟨B2,0,none⟩),.pointer (some ⟨B3,0,none⟩),.pointer (some ⟨B,0,none⟩)]),.c (.func (.func 106) #[] #[.pointer (some ⟨w.heap.size+1,0,none⟩)]),.p (fun v y=>ay y v (aH f (ae.t (.mk yk yn ys (.slice ya yl.length yc) yl)) (ah ([⟨11,5,4,((au f s 2).getD noSlot).at',((au f s 2).getD noSlot).len⟩,⟨io,ia,ib,ic,id⟩,⟨11,5,4,((au f s 2).getD noSlot).at',((au f s 2).getD noSlot).len⟩]:List Ins)))),.rs (w.heap.size+1+1) 2 #[.slice none 0 0,.slice none 0 0] 34] ⟨sP,trivial⟩ (ik (n:=3) rfl rfl (bC.out)) ?steps ?done
   case steps =>
    refine ⟨?s0,?s1,?s2,?s3,trivial⟩
    case s0 | s1 =>
     refine oo (fun vs x hP => ?_);simp only [zS];go_simp;exact gc
    case s2 =>
     refine ok0 HK (fun vs x hG HX hP => ?_);have HC:=ł (U5 x G _ _ f procs (aA.out.later (gtr aN.out hG)) B2 B3 B (w.heap.size+1) ⟨11,5,4,((au f s 2).getD noSlot).at',((au f s 2).getD noSlot).len⟩ ⟨io,ia,ib,ic,id⟩ 3 n s kb ko kc l (.mk yk yn ys (.slice ya yl.length yc) yl) HX.out.2.1 HX.out.1 HX.out.2.2.1 HX.out.2.2.2.1 HL0.out HX.out.2.2.2.2 lM.out.e lM.out.s hc0 hc1 lM.out.d (Nat.le_trans lM.out.l (by decide)));simp only [zS];go_simp;refine (HC.out).mono ?_;rintro e y ⟨v,rfl,hp,hg⟩;exact ⟨_,rfl,aY hg hp⟩
    case s3 =>
     refine il (fun vs x hb hv => ?_);obtain ⟨fD,fE,eH,eO,h2,c2,f2⟩:=hv;obtain ⟨c0,c1⟩:=aB hb;have zt:=aJ hb;simp only [zS,h2];go_simp;exact set2 hb _ _
   case done =>
   intro vs w5 hE;obtain ⟨fD,fE,eH,eO,h2,c2,f2⟩:=hE.val 2;have b3:=hE.res 3;simp only [zS,h2] at b3;simp only [zS,Nat.reduceAdd,h2];have HM:=ł (hE.uk 3);have aM:=ł (show Grow w w5 from Mv.trans aN.out HM.out (fun b e => .inr (by omega)));have bu:=ł (show ay w5 (.agg #[.slice fD (aH f (ae.t (.mk yk yn ys (.slice ya yl.length yc) yl)) (ah ([⟨11,5,4,((au f s 2).getD noSlot).at',((au f s 2).getD noSlot).len⟩,⟨io,ia,ib,ic,id⟩,⟨11,5,4,((au f s 2).getD noSlot).at',((au f s 2).getD noSlot).len⟩]:List Ins))).code.length fE,.slice eH (aH f (ae.t (.mk yk yn ys (.slice ya yl.length yc) yl)) (ah ([⟨11,5,4,((au f s 2).getD noSlot).at',((au f s 2).getD noSlot).len⟩,⟨io,ia,ib,ic,id⟩,⟨11,5,4,((au f s 2).getD noSlot).at',((au f s 2).getD noSlot).len⟩]:List Ins))).refs.length eO]) (aH f (ae.t (.mk yk yn ys (.slice ya yl.length yc) yl)) (ah ([⟨11,5,4,((au f s 2).getD noSlot).at',((au f s 2).getD noSlot).len⟩,⟨io,ia,ib,ic,id⟩,⟨11,5,4,((au f s 2).getD noSlot).at',((au f s 2).getD noSlot).len⟩]:List Ins))) from ⟨fD,fE,eH,eO,rfl,c2,f2⟩);have HB:=ł b3;clear hE b3 HM c2 f2;simp only [bI] at HB;go_wp2_with fail;obtain ⟨t0,t1⟩:=aB HB.out;exact bodyPost_ret (v := .agg #[.slice fD (aH f (ae.t (.mk yk yn ys (.slice ya yl.length yc) yl)) (ah ([⟨11,5,4,((au f s 2).getD noSlot).at',((au f s 2).getD noSlot).len⟩,⟨io,ia,ib,ic,id⟩,⟨11,5,4,((au f s 2).getD noSlot).at',((au f s 2).getD noSlot).len⟩]:List Ins))).code.length fE,.slice eH (aH f (ae.t (.mk yk yn ys (.slice ya yl.length yc) yl)) (ah ([⟨11,5,4,((au f s 2).getD noSlot).at',((au f s 2).getD noSlot).len⟩,⟨io,ia,ib,ic,id⟩,⟨11,5,4,((au f s 2).getD noSlot).at',((au f s 2).getD noSlot).len⟩]:List Ins))).refs.length eO]) (by simp [results,Tryz.results80,go_sem,t0,t1]) rfl ⟨_,rfl,bu.out,aM.out⟩
end Go.Proofs.YtnobahchcongnaaGreatDoor
