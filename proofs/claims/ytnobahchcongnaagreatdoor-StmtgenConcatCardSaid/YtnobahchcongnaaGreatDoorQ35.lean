import Derived.Test.YtnobahchcongnaaGreatDoorQ34
import Derived.Deep.DeepCutAuto
import Derived.Deep.CutBlock
set_option linter.unusedSimpArgs false
set_option linter.unusedVariables false
set_option maxRecDepth 100000
set_option maxHeartbeats 25600000
namespace Go.Proofs.YtnobahchcongnaaGreatDoor
open Go.RowKit Go.Instr
attribute [local go_sem ↓] mY
theorem fI.tag {base:Nat} {w:World} {v:Value} {l:List aC} {g:Nat} {cs:Array Value} {t:TypeId} {z:Nat × Nat} (h:fI base w v l) (hb:w.heap[g]? = some (.cells cs t z)) (ht:t≠34):v.ownBlock≠some g:=by
 obtain ⟨vs,h1,h2,_⟩:=h;exact eX h2 hb ht
theorem fI.low {base base':Nat} {w:World} {v:Value} {l:List aC} (h:fI base w v l) (hb:base'≤base):fI base' w v l:=by
 obtain ⟨vs,h1,h2,h3⟩:=h;refine ⟨vs,h1,⟨h2.1,?_⟩,h3⟩;rcases h2.2 with h3 | ⟨g,cap,cur,e,h3,h4⟩
 · exact .inl h3
 · exact .inr ⟨g,cap,cur,e,by omega,h4⟩
def Au (f:az) (x at':Int) (j:Nat):aC:=ah [⟨10,5,x+j,0,0⟩,⟨10,5,f.cells+at'+j,0,0⟩,⟨10,5,x+j,0,0⟩]
def eT (f:az) (kids:List Tree) (slots:List dF) (i:Nat):List aC:=(((kids.zip slots).take i).map fun x=>ow f (ak f x.1.name x.2.kind) x.2).flatten
theorem U7 (f:az) (kids:List Tree) (slots:List dF) (i:Nat) (h:kids.length=slots.length) (hi:i<kids.length):eT f kids slots (i+1)=eT f kids slots i ++ ow f (ak f kids[i].name (slots[i]'(by omega)).kind) (slots[i]'(by omega)):=by
 unfold eT;rw [Me kids slots i h hi];simp
theorem VQ (f:az) (kids:List Tree) (slots:List dF) (h:kids.length=slots.length):eT f kids slots slots.length=iL f kids slots:=by
 unfold eT iL;rw [List.take_of_length_le (by simp;omega)]
theorem Nz (f:az) (kids:List Tree) (slots:List dF) (i:Nat):(eT f kids slots i).length≤(iL f kids slots).length:=by
 unfold eT iL
 conv=>rhs;rw [← List.take_append_drop i (kids.zip slots)]
 rw [List.map_append,List.flatten_append,List.length_append];omega
theorem Mj (l:List bq):(frameC l).slots.length=l.length:=by
 have:∀ (l:List bq) (f:az),(l.foldl kR f).slots.length=f.slots.length+l.length:=by
  intro l
  induction l with
  | nil=>intro f;rfl
  | cons v l ih =>
   intro f;rw [List.foldl_cons,ih];have:(kR f v).slots.length=f.slots.length+1:=by
    unfold kR;split
    · simp
    · split <;> simp
   rw [this,List.length_cons];omega
 unfold frameC;rw [this];simp [gU]
def PsG (w:World) (l:List aC) (e:Ending) (w':World):Prop:=∃ v,e = .returned v∧fI w.heap.size w' v l∧Grow w w'
def Jw (f:az) (params:List bq):Prop:=iE params=0∧(0≤f.cells∧f.cells≤1000)∧(0≤f.stacks∧f.stacks≤1000)∧(∀ s k,0≤ak f s k∧ak f s k≤100000)∧∀ s∈(frameC params).slots,0≤s.len∧s.len≤100000∧0≤s.at'∧s.at'≤100000
theorem WS (hof:uq) (w:World) (G:Nat) (sv pv:Value) (f:az) (procs:List aj) (hg:gm w G sv pv f procs) (k n:Int) (s:ByteArray) (kv:Value) (l:List ae) (hx:aV w (.mk k n s kv l))
 (hlen:l.length=((eP procs s).getD fZ).params.length) (hok:Jw f ((eP procs s).getD fZ).params) (hsz:(iL f (ae.ts l) (frameC ((eP procs s).getD fZ).params).slots).length≤100000) :
 Calls Tryz.prog 109 #[.pointer (some ⟨G,0,none⟩),ae.val (.mk k n s kv l)] w (PsG w (iL f (ae.ts l) (frameC ((eP procs s).getD fZ).params).slots)):=by
 obtain ⟨fa,fc,rfl,hfc,hfl⟩:=hg.fr.row.form;obtain ⟨pa,pc,rfl,-,-⟩:=hg.pr.row.form;obtain ⟨ka,kc,rfl,hkc,hkl⟩:=hx.form;have sO:=ł (fun (y:World) (hy:Grow w y)=>Ii (.slice pa procs.length pc) procs s y (hg.pr.later hy));have vO:=He hg.pr s;generalize (eP procs s).getD fZ=p at *;generalize (eP procs s).isSome=found at *;obtain ⟨ps,params,qv,body⟩:=p;obtain ⟨qa,qc,rfl,hqc,pV⟩:=vO.form;have fK:=ł vO.params;obtain ⟨bk,bn,bs,Gc,bl⟩:=body;obtain ⟨ba,bc,rfl,-,-⟩:=vO.body.form;simp only [aj.val] at sO;simp only at hlen hok hsz ⊢;have aA:=ł hg;have mU:=ł hx;have HLEN:=ł hlen;have nS:=ł hok;have iU:=ł hsz;have aL:=ł (heap_alloc_new w (.cells #[.int .u8 k,.int .i64 n,.string s,.slice ka l.length kc] 24));have bJ:=ł (show Grow w (w.alloc (.cells #[.int .u8 k,.int .i64 n,.string s,.slice ka l.length kc] 24)) from (Mv.refl _ w).alloc _);clear hg hx vO hlen hok hsz;simp only [ae.val]
 go_enter Tryz.func109,Tryz.ntmps109
 go_upto_region 1 with fail;generalize (w.alloc (.cells #[.int .u8 k,.int .i64 n,.string s,.slice ka l.length kc] 24))=w1 at *;have nO:=ł (fun (y:World) (hy:Grow w1 y)=>And.intro (aA.out.later (gtr bJ.out hy)) (ai aL.out hy));refine wg 106 [some 17,some 18,some 19,some 20,some 21,some 22,some 23,some 16,some 24,some 25,some 5,none,some 6] [[],[0],[1],[2],[],[4],[3,5],[6],[7],[7],[],[10,8],[9]] [] [.c (.pointer (some ⟨G,0,none⟩)),.c (.pointer (some ⟨G,0,none⟩)),.c (.pointer (some ⟨G,3,none⟩)),.c (.slice pa procs.length pc),.c (.pointer (some ⟨w.heap.size,2,none⟩)),.c (.string s),.c (.tuple #[.agg #[.string ps,.slice qa params.length qc,.int .u8 bk,.int .i64 bn,.string bs,.slice ba bl.length bc],.bool found]),.c (.tuple #[.agg #[.string ps,.slice qa params.length qc,.int .u8 bk,.int .i64 bn,.string bs,.slice ba bl.length bc],.bool found]),.c (.agg #[.string ps,.slice qa params.length qc,.int .u8 bk,.int .i64 bn,.string bs,.slice ba bl.length bc]),.c (.bool found),.al 11 8 #[.string ⟨#[]⟩,.slice none 0 0,.int .u8 0,.int .i64 0,.string ⟨#[]⟩,.slice none 0 0] 60,.st 10,.c (.bool found)] trivial (dJ rfl) ?steps ?done
 case steps =>
  refine ⟨?s0,?s1,?s2,?s3,?s4,?s5,?s6,?s7,?s8,?s9,?s10,?s11,?s12,trivial⟩
  case s0 | s2 | s4 | s7 | s8 | s9 | s12 =>
   refine oo (fun vs x hP => ?_);simp only [zS];go_simp;exact gc
  case s1 | s3 =>
   refine ok nO (fun vs x hG HX hP => ?_);obtain ⟨⟨q0,q1,q2⟩,q3,q4⟩:=bR HX.out.1.blk;simp only [zS];go_simp;exact gc
  case s5 =>
   refine ok nO (fun vs x hG HX hP => ?_);obtain ⟨⟨n0,n1⟩,n2,n3⟩:=aF HX.out.2;simp only [zS];go_simp;exact gc
  case s6 =>
   refine ok nO (fun vs x hG HX hP => ?_);have HC:=ł (sO.out x (gtr bJ.out hG));simp only [zS];go_simp;refine (HC.out).mono ?_;rintro e y ⟨rfl,hg⟩;exact ⟨_,rfl,bz hg rfl⟩
  case s10 =>
   refine oz (fun vs x => ?_);simp only [zS];go_simp;exact ⟨rfl,rfl⟩
  case s11 =>
   refine os (fun vs x g hg hb hv => ?_);have h8:vs 8=_:=hv;obtain ⟨⟨c0,c1,c2⟩,c3,c4,c5⟩:=wO hb;have zt:=aJ hb;simp only [zS,hg,h8];go_simp;exact JE hb _ _ _ _ _ _
 case done =>
 intro vs w2 hE;have hG:=hE.grow;obtain ⟨g10,y9,l10,m10,b10⟩:=hE.box 10;simp only [zS] at b10;simp only [zS,Nat.reduceAdd,y9];have lF:=ł b10;simp only [bI] at lF;have HG2:=ł (gtr bJ.out hG);have rE:=ł (ai aL.out hG);clear hE hG b10 nO sO aL;obtain ⟨⟨p0,p1,p2⟩,p3,p4,p5⟩:=wO lF.out;have hlp:=lt_of_block lF.out;go_wp2_with fail;refine (hof _ params _ (fK.out.later HG2.out)).mono ?_;rintro e w3 ⟨sv3,rfl,hfr,hg⟩;obtain ⟨ho1,ho2,ho3,Td,Te⟩:=nS.out;simp only [ho1,if_true,↓reduceIte] at hfr ⊢;have kG:=ł (Mj params);have Tf:=ł ho2;have HO3:=ł ho3;have HO4:=ł Td;have GD:=ł Te;clear ho1 ho2 ho3 Td Te nS p0 p1 p2 p3 p4 p5 hlp lF;generalize frameC params=c at *;obtain ⟨slots,cc,cs⟩:=c;obtain ⟨Dp,Dq,rfl,acu,acv⟩:=hfr.row.form;have yY:=ł hfr.row;have aG:=ł (gtr HG2.out hg);have vW:=ł (ai rE.out hg);have uJ:=ł (heap_alloc_new w3 (.cells #[.slice Dp slots.length Dq,.int .i64 cc,.int .i64 cs] 27));have aN:=ł (gtr aG.out ((Mv.refl _ w3).alloc (.cells #[.slice Dp slots.length Dq,.int .i64 cc,.int .i64 cs] 27)));have uI:=ł (aT vW.out (.cells #[.slice Dp slots.length Dq,.int .i64 cc,.int .i64 cs] 27));have gH:=ł (yY.out.later ((Mv.refl _ w3).alloc (.cells #[.slice Dp slots.length Dq,.int .i64 cc,.int .i64 cs] 27)));clear hfr hg HG2 rE vW yY;simp only at kG GD iU ⊢;have hlf:=lt_of_block uJ.out;obtain ⟨f0,f1,f2⟩:=cK uJ.out;go_wp2_with fail;generalize w3.alloc (.cells #[.slice Dp slots.length Dq,.int .i64 cc,.int .i64 cs] 27)=w4 at *;clear f0 f1 f2 hlf;have xI:=ł (show l.length=slots.length from by rw [HLEN.out,kG.out])
 go_loopw [9,36] (fun lv t wr=>∃ (i:Nat),t = .int .i64 i∧i≤slots.length∧Grow w4 wr∧fI w4.heap.size wr lv (eT f (ae.ts l) slots i)) (fun _ t _=>slots.length - (intOf t).toNat)
 case atStart=>exact ⟨0,rfl,Nat.zero_le _,Mv.refl _ _,fI.nil _ _⟩
 obtain ⟨i,rfl,hi,hg,hps⟩:=hrel;have HG:=ł hg;have pX:=ł hps;clear hg hps;have Ld:=ł (show (eT f (ae.ts l) slots i).length≤100000 from Nat.le_trans (Nz _ _ _ _) iU.out);by_cases hlt:i<slots.length
 · have hil:i<l.length:=by have:=xI.out;omega
   obtain ⟨b,off,cap',e,_,hcc⟩:=(gH.out.later HG.out).at hlt;simp only [Value.slice.injEq,true_and] at e;obtain ⟨rfl,rfl⟩:=e;have c0:=hcc 0 _ rfl;have c1:=hcc 1 _ rfl;have c2:=hcc 2 _ rfl;have c3:=hcc 3 _ rfl;obtain ⟨kb,ko,yG,cz,-,-⟩:=mU.out.row.2.2.2.1.at (show 0<l.length by omega);simp only [Value.slice.injEq,true_and] at cz;obtain ⟨rfl,rfl⟩:=cz;have iO:=eY mU.out i hil;have HT:=ł (U7 f (ae.ts l) slots i (by rw [ae.cZ];exact xI.out) (by rw [ae.cZ];exact hil));rw [ae.gK l i hil] at HT;have AX:=ł (GD.out slots[i] (List.getElem_mem hlt));have Ct:=ł (show (eT f (ae.ts l) slots (i+1)).length≤100000 from Nat.le_trans (Nz _ _ _ _) iU.out);rw [HT.out] at Ct;generalize l[i]=y at *;generalize slots[i]=sd at *;obtain ⟨yk,yn,ys,yv,yl⟩:=y;obtain ⟨sn,sk,sl,sa⟩:=sd;simp only [Nat.add_zero] at c0 c1 c2 c3 AX;have hbl:b<wr.heap.size:=World.block_lt_of_cell? wr _ c0;have qi:=ł (heap_alloc_new wr (.cells #[.string sn,.int .u8 sk,.int .i64 sl,.int .i64 sa] 95));have aS:=ł (HG.out.alloc (.cells #[.string sn,.int .u8 sk,.int .i64 sl,.int .i64 sa] 95));have uN:=ł (pX.out.later ((Mv.refl _ wr).alloc (.cells #[.string sn,.int .u8 sk,.int .i64 sl,.int .i64 sa] 95)));have tu:=ł iO;clear hcc iO;go_upto_region 7 with fail;clear c0 c1 c2 c3 hbl;generalize hBe:wr.heap.size=B at *;generalize wr.alloc (.cells #[.string sn,.int .u8 sk,.int .i64 sl,.int .i64 sa] 95)=w5 at *;have rG:=ł (fun (y:World) (hy:Grow w5 y)=>And.intro (aA.out.later (gtr aN.out (gtr aS.out hy))) (And.intro (ai uI.out (gtr aS.out hy)) (And.intro (tu.out.later (gtr aN.out (gtr aS.out hy))) (ai qi.out hy))));refine wg 106 [some 41,some 42,some 43,some 44,some 45,some 46,some 47,some 48,some 49,some 50,some 12] [[],[],[1],[],[2,3],[4],[5],[],[7],[0,6,8],[9]] [] [.c (.pointer (some ⟨G,0,none⟩)),.c (.pointer (some ⟨w.heap.size,3,none⟩)),.c (.slice (some ⟨kb,ko,none⟩) l.length kc),.c (.int .i64 i),.c (.pointer (some ⟨kb,ko+i * 4,none⟩)),.c (.pointer (some ⟨kb,ko+i * 4+2,none⟩)),.c (.string ys),.c (.pointer (some ⟨B,1,none⟩)),.c (.int .u8 sk),.c (.int .i64 (ak f ys sk)),.c (.int .i64 (ak f ys sk))] trivial (dJ rfl) ?steps ?done
   case steps =>
    refine ⟨?s0,?s1,?s2,?s3,?s4,?s5,?s6,?s7,?s8,?s9,?s10,trivial⟩
    case s0 | s1 | s3 | s5 | s7 | s10 =>
     refine oo (fun vs x hP => ?_);simp only [zS];go_simp;exact gc
    case s2 =>
     refine ok rG (fun vs x hG HX hP => ?_);obtain ⟨⟨n0,n1⟩,n2,n3⟩:=aF HX.out.2.1;simp only [zS];go_simp;exact gc
    case s4 =>
     refine ok rG (fun vs x hG HX hP => ?_);have hbd:i<l.length:=hil;simp only [zS];go_simp;exact gc
    case s6 =>
     refine ok rG (fun vs x hG HX hP => ?_);have d2:=HX.out.2.2.1.four.2.1;simp only [zS];go_simp;exact gc
    case s8 =>
     refine ok rG (fun vs x hG HX hP => ?_);obtain ⟨s0,s1,s2,s3⟩:=dm HX.out.2.2.2;simp only [zS];go_simp;exact gc
    case s9 =>
     refine ok rG (fun vs x hG HX hP => ?_);have HC:=ł (tY x G _ _ f procs HX.out.1 ys sk);simp only [zS];go_simp;refine (HC.out).mono ?_;rintro e y ⟨rfl,hg⟩;exact ⟨_,rfl,bz hg rfl⟩
   case done =>
   intro vs w6 hE;have hG:=hE.grow;simp only [zS,Nat.reduceAdd];have bP:=ł (gtr aS.out hG);have gI:=ł (ai qi.out hG);have GG:=ł (uN.out.later hG);clear hE hG rG qi uN aS;obtain ⟨s0,s1,s2,s3⟩:=dm gI.out;have hlb:=lt_of_block gI.out;have sW:=ł (show eT f (ae.ts l) slots (i+1)=eT f (ae.ts l) slots i ++ ow f (ak f ys sk) ⟨sn,sk,sl,sa⟩ from HT.out);clear HT;have Ct:=ł (show (eT f (ae.ts l) slots i ++ ow f (ak f ys sk) ⟨sn,sk,sl,sa⟩).length≤100000 from Ct.out);by_cases hk3:sk=3
   · subst hk3;obtain ⟨la,lc,hlv⟩:=GG.out.form;subst hlv;go_upto_region 9 with fail;clear s0 s1 s2 s3 hlb;have wG:=ł (fun (y:World) (hy:Grow w6 y)=>And.intro (aA.out.later (gtr aN.out (gtr bP.out hy))) (And.intro (ai gI.out hy) (GG.out.later hy)));have di:=ł (show ∀ y,Grow w6 y→w4.heap.size≤y.heap.size from fun y hy=>(gtr bP.out hy).size);refine L8 (by kernel_rfl) 106 [some 54,some 55,some 56,some 57,some 58,some 59,some 60,some 61,some 62,some 63,some 64,some 65,some 66,some 67,some 68,some 69,some 9] [[],[],[],[2],[3],[4],[5],[],[7],[6,8],[1,9],[10],[11],[12,11],[13],[0,14,13],[15,15,0,1,2,3,4,5,6,7,8,9,10,11,12,13,14,15]] [[],[],[],[2],[3],[4],[5],[],[7],[6,8],[1,9],[10],[11],[12],[13],[0,14],[15]] [0,1,2,3,4,5,6,7,8,9,10,11,12,13,14] 15 [false,false,false,false,false,false,false,false,false,false,true,false,true,true,true,false,true] [Pc (.slice la (eT f (ae.ts l) slots i).length lc),Pc (.int .i64 (ak f ys 3)),Pc (.pointer (some ⟨G,0,none⟩)),Pc (.pointer (some ⟨G,0,none⟩)),Pc (.pointer (some ⟨G,0,none⟩)),Pc (.pointer (some ⟨G,2,none⟩)),Pc (.int .i64 f.stacks),Pc (.pointer (some ⟨B,3,none⟩)),Pc (.int .i64 sa),Pc (.int .i64 (f.stacks+sa)),(fun v y=>∃ g,v = .slice (some ⟨g,0,none⟩) 2 2∧y.heap[g]? = some (.cells #[.int .i64 (ak f ys 3),.int .i64 (f.stacks+sa)] 3 (0,0))),Pc (.agg #[.int .u8 16,.int .i64 (ak f ys 3),.int .i64 (f.stacks+sa),.int .i64 0,.int .i64 0]),(fun v y=>∃ g,v = .slice (some ⟨g,0,none⟩) 1 1∧ax 5 Ins.cells y (.slice (some ⟨g,0,none⟩) 1 1) ([⟨16,ak f ys 3,f.stacks+sa,0,0⟩]:List Ins)),(fun v y=>ay y v (ah ([⟨16,ak f ys 3,f.stacks+sa,0,0⟩]:List Ins))),(fun v y=>∃ g,v = .slice (some ⟨g,0,none⟩) 1 1∧gG y (.slice (some ⟨g,0,none⟩) 1 1) [ah ([⟨16,ak f ys 3,f.stacks+sa,0,0⟩]:List Ins)]),dH,(fun v y=>∃ a c,v = .slice a ((eT f (ae.ts l) slots i).length+1) c∧fI w4.heap.size y (.slice a ((eT f (ae.ts l) slots i).length+1) c) ((eT f (ae.ts l) slots i) ++ [ah ([⟨16,ak f ys 3,f.stacks+sa,0,0⟩]:List Ins)]))] (fun b=>Value.ownBlock (.slice la (eT f (ae.ts l) slots i).length lc)=some b) (fun v y=>∃ a c,v = .slice a ((eT f (ae.ts l) slots i).length+1) c∧fI w4.heap.size y (.slice a ((eT f (ae.ts l) slots i).length+1) c) ((eT f (ae.ts l) slots i) ++ [ah ([⟨16,ak f ys 3,f.stacks+sa,0,0⟩]:List Ins)])) (by kernel_rfl) rfl (by kernel_rfl) ⟨⟨gZ _,fun _=>iP _⟩,⟨gZ _,fun _=>iP _⟩,⟨gZ _,fun _=>iP _⟩,⟨gZ _,fun _=>iP _⟩,⟨gZ _,fun _=>iP _⟩,⟨gZ _,fun _=>iP _⟩,⟨gZ _,fun _=>iP _⟩,⟨gZ _,fun _=>iP _⟩,⟨gZ _,fun _=>iP _⟩,⟨gZ _,fun _=>iP _⟩,⟨(fun v x y hg h=>by obtain ⟨g,hv,hb⟩:=h;exact ⟨g,hv,ai hb hg⟩),by simp⟩,⟨gZ _,fun _=>iP _⟩,⟨(fun v x y hg h=>by obtain ⟨g,hv,hb⟩:=h;exact ⟨g,hv,hb.later hg⟩),by simp⟩,⟨(fun v x y hg h=>h.later hg),by simp⟩,⟨(fun v x y hg h=>by obtain ⟨g,hv,hb⟩:=h;exact ⟨g,hv,hb.later hg⟩),by simp⟩,⟨wW,fun _=>Jh⟩,⟨(fun v x y hg h=>by obtain ⟨a,c,hv,hb⟩:=h;exact ⟨a,c,hv,hb.later hg⟩),by simp⟩,trivial⟩ (fun v x y hg h=>by obtain ⟨a,c,hv,hb⟩:=h;exact ⟨a,c,hv,hb.later hg⟩) (by kernel_rfl) (by simp) ?steps ?done
     case steps =>
      refine ⟨?s0,?s1,?s2,?s3,?s4,?s5,?s6,?s7,?s8,?s9,?s10,?s11,?s12,?s13,?s14,?s15,?s16,trivial⟩
      case s0 | s1 | s2 | s7 =>
       refine gD (by decide) (fun vs x hx hP hL => ?_);clear hx hP hL;simp only [zR];go_simp;exact bz (Mv.refl _ _) rfl
      case s3 =>
       refine gD (by decide) (fun vs x hx hP hL => ?_);have h2:vs 2=_:=hP 2 (by simp) (by simp) (by simp);have hG:Grow w6 x:=jZ (j4 (hx (by simp)));have HX:=ł (wG.out x hG);obtain ⟨⟨q0,q1,q2⟩,q3,q4⟩:=bR HX.out.1.blk;clear hx hP hL;simp only [zR,h2];go_simp;exact bz (Mv.refl _ _) rfl
      case s4 =>
       refine gD (by decide) (fun vs x hx hP hL => ?_);have h3:vs 3=_:=hP 3 (by simp) (by simp) (by simp);clear hx hP hL;simp only [zR,h3];go_simp;exact bz (Mv.refl _ _) rfl
      case s5 =>
       refine gD (by decide) (fun vs x hx hP hL => ?_);have h4:vs 4=_:=hP 4 (by simp) (by simp) (by simp);clear hx hP hL;simp only [zR,h4];go_simp;exact bz (Mv.refl _ _) rfl
      case s6 =>
       refine gD (by decide) (fun vs x hx hP hL => ?_);have h5:vs 5=_:=hP 5 (by simp) (by simp) (by simp);have hG:Grow w6 x:=jZ (j4 (hx (by simp)));have HX:=ł (wG.out x hG);obtain ⟨⟨q0,q1,q2⟩,q3,q4⟩:=bR HX.out.1.blk;clear hx hP hL;simp only [zR,h5];go_simp;exact bz (Mv.refl _ _) rfl
      case s8 =>
       refine gD (by decide) (fun vs x hx hP hL => ?_);have h7:vs 7=_:=hP 7 (by simp) (by simp) (by simp);have hG:Grow w6 x:=jZ (j4 (hx (by simp)));have HX:=ł (wG.out x hG);obtain ⟨s0,s1,s2,s3⟩:=dm HX.out.2.1;clear hx hP hL;simp only [zR,h7];go_simp;exact bz (Mv.refl _ _) rfl
      case s9 =>
       refine gD (by decide) (fun vs x hx hP hL => ?_);have h6:vs 6=_:=hP 6 (by simp) (by simp) (by simp);have h8:vs 8=_:=hP 8 (by simp) (by simp) (by simp);have hG:Grow w6 x:=jZ (j4 (hx (by simp)));have HX:=ł (wG.out x hG);have hwr:IntKind.i64.wrap (f.stacks+sa)=f.stacks+sa:=IntWalk.i64_in _ (by have:=HO3.out;have:=AX.out;omega);clear hx hP hL;simp only [zR,h6,h8];go_simp;exact bz (Mv.refl _ _) rfl
      case s10 =>
       refine gD (by decide) (fun vs x hx hP hL => ?_);have h1:vs 1=_:=hP 1 (by simp) (by simp) (by simp);have h9:vs 9=_:=hP 9 (by simp) (by simp) (by simp);clear hx hP hL;simp only [zR,h1,h9];go_simp;exact aY (p:=fun v y=>∃ g,v = .slice (some ⟨g,0,none⟩) 2 2∧y.heap[g]? = some (.cells #[.int .i64 (ak f ys 3),.int .i64 (f.stacks+sa)] 3 (0,0))) ((Mv.refl _ _).alloc _) ⟨_,rfl,heap_alloc_new x _⟩
      case s11 =>
       refine gD (by decide) (fun vs x hx hP hL => ?_);have zw:=hP 10 (by simp) (by simp) (fun _=>by simp);obtain ⟨g10,h10,b10⟩:=zw;have hG:Grow w6 x:=jZ (j4 (hx (by simp)));have HX:=ł (wG.out x hG);have HC:=ł (fO 16 ((ak f ys 3)) ((f.stacks+sa)) g10 _ x b10);clear hx hP hL;simp only [zR,h10];go_simp;refine (HC.out).mono ?_;rintro e y ⟨rfl,hg⟩;exact ⟨_,rfl,bz hg rfl⟩
      case s12 =>
       refine gD (by decide) (fun vs x hx hP hL => ?_);have h11:vs 11=_:=hP 11 (by simp) (by simp) (by simp);clear hx hP hL;simp only [zR,h11];go_simp;exact aY (p:=fun v y=>∃ g,v = .slice (some ⟨g,0,none⟩) 1 1∧ax 5 Ins.cells y (.slice (some ⟨g,0,none⟩) 1 1) ([⟨16,ak f ys 3,f.stacks+sa,0,0⟩]:List Ins)) ((Mv.refl _ _).alloc _) ⟨_,rfl,ax.bH (f:=Ins.cells) (l:=([⟨16,ak f ys 3,f.stacks+sa,0,0⟩]:List Ins)) (fun _=>rfl) (heap_alloc_new x _) rfl (by simp)⟩
      case s13 =>
       refine gD (by decide) (fun vs x hx hP hL => ?_);have wE:=hP 12 (by simp) (by simp) (fun _=>by simp);obtain ⟨g12,h12,b12⟩:=wE;have hG:Grow w6 x:=jZ (j4 (hx (by simp)));have HX:=ł (wG.out x hG);have HC:=ł (gQ _ _ x b12);clear hx hP hL;simp only [zR,h12];go_simp;refine (HC.out).mono ?_;rintro e y ⟨v,rfl,hp,hg⟩;exact ⟨_,rfl,aY (p:=fun v y=>ay y v (ah ([⟨16,ak f ys 3,f.stacks+sa,0,0⟩]:List Ins))) hg hp⟩
      case s14 =>
       refine gD (by decide) (fun vs x hx hP hL => ?_);have Tg:=hP 13 (by simp) (by simp) (fun _=>by simp);have QD:=Tg;obtain ⟨FH,FI,ZQ,ZR,kE,c13,f13⟩:=Tg;rw [kE] at QD;have hG:Grow w6 x:=jZ (j4 (hx (by simp)));have HX:=ł (wG.out x hG);clear hx hP hL;simp only [zR,kE];go_simp;exact aY (p:=fun v y=>∃ g,v = .slice (some ⟨g,0,none⟩) 1 1∧gG y (.slice (some ⟨g,0,none⟩) 1 1) [ah ([⟨16,ak f ys 3,f.stacks+sa,0,0⟩]:List Ins)]) ((Mv.refl _ _).alloc _) ⟨_,rfl,qB (vs:=[(.slice FH (ah ([⟨16,ak f ys 3,f.stacks+sa,0,0⟩]:List Ins)).code.length FI,.slice ZQ (ah ([⟨16,ak f ys 3,f.stacks+sa,0,0⟩]:List Ins)).refs.length ZR)]) (heap_alloc_new x _) rfl ⟨ay.later (QD) ((Mv.refl _ _).alloc _),trivial⟩⟩
      case s15 =>
       refine OX rfl (fun vs x hx hP => ?_);have h0:vs 0=_:=hP 0 (by simp);have p14:=hP 14 (by simp);obtain ⟨g14,kF,b14⟩:=p14;have hG:Grow w6 x:=jZ (j4 hx);have HX:=ł (wG.out x hG);obtain ⟨a',c',w2',⟨hok,hv,hw⟩,hrow2,bE⟩:=E8 w4.heap.size _ _ _ _ x (HX.out.2.2) b14 (di.out x hG) (by have:=Ld.out;omega);have HR2:=ł hrow2;have dU:=ł bE;clear hrow2 bE;clear hx hP;simp only [zR,h0,kF];go_simp;exact ⟨dU.out.mono (fun _ e => .inl (.inr e)),a',c',by simp,by simpa using HR2.out⟩
      case s16 =>
       refine gD (by decide) (fun vs x hx hP hL => ?_);have wH:=hL (by simp);obtain ⟨acw,acx,pW,o15⟩:=wH;clear hx hP hL;simp only [zR,pW];go_simp;exact aY (p:=fun v y=>∃ a c,v = .slice a ((eT f (ae.ts l) slots i).length+1) c∧fI w4.heap.size y (.slice a ((eT f (ae.ts l) slots i).length+1) c) ((eT f (ae.ts l) slots i) ++ [ah ([⟨16,ak f ys 3,f.stacks+sa,0,0⟩]:List Ins)])) (Mv.refl _ _) ⟨_,_,rfl,o15⟩
     case done =>
     intro vs w7 hE;have h0:vs 0=_:=hE.val 0 (by simp) (by simp) (by simp);have h1:vs 1=_:=hE.val 1 (by simp) (by simp) (by simp);have h2:vs 2=_:=hE.val 2 (by simp) (by simp) (by simp);have h3:vs 3=_:=hE.val 3 (by simp) (by simp) (by simp);have h4:vs 4=_:=hE.val 4 (by simp) (by simp) (by simp);have h5:vs 5=_:=hE.val 5 (by simp) (by simp) (by simp);have h6:vs 6=_:=hE.val 6 (by simp) (by simp) (by simp);have h7:vs 7=_:=hE.val 7 (by simp) (by simp) (by simp);have h8:vs 8=_:=hE.val 8 (by simp) (by simp) (by simp);have h9:vs 9=_:=hE.val 9 (by simp) (by simp) (by simp);have h11:vs 11=_:=hE.val 11 (by simp) (by simp) (by simp);have p16:=hE.val 16 (by simp) (by simp) (by simp);obtain ⟨acy,acz,h16,o16⟩:=p16;simp only [List.length_cons,List.length_nil,Nat.zero_add,Nat.reduceAdd];rw [show List.range 17=[0,1,2,3,4,5,6,7,8,9,10,11,12,13,14,15,16] from rfl];simp only [zR,h0,h1,h2,h3,h4,h5,h6,h7,h8,h9,h11,h16];clear h0 h1 h2 h3 h4 h5 h6 h7 h8 h9 h11 h16;have qj:=ł (show Grow w4 w7 from (Mv.drew bP.out).trans hE.mv (fun b e => .inr (by
      rcases e with e | e
      · have:=bP.out.size;simp at e;omega
      · exact (GG.out.lt b e).1)))
     have zo:=ł o16;clear hE o16 wG di;go_wp2_with fail;exact ⟨⟨i+1,by simp,by omega,qj.out,by rw [sW.out];exact zo.out⟩,by simp [intOf];omega⟩
   · have Ti:=ł (show ∃ C:Nat,C≤100000∧(C:Int)=(if sk=2 then sl else 1)∧ow f (ak f ys sk) ⟨sn,sk,sl,sa⟩=(List.range C).map (Au f (ak f ys sk) sa) from by
      refine ⟨if sk=2 then sl.toNat else 1,?_,?_,by unfold ow Au;simp [hk3]⟩
      · have:=AX.out;split <;> omega
      · have:=AX.out;split <;> omega)
     obtain ⟨C,Tj,hC2,Tk⟩:=Ti.out;rw [Tk] at sW Ct;have jT:=ł Tj;have Tm:=ł hC2;have e3:(sk == 3)=false:=by simpa using hk3
     clear Tj hC2 Tk Ti hk3
     go_upto_if 72 with fail
     go_cut [13] (fun v wc=>v = .int .i64 (C:Int)∧wc=w6)
     case first =>
      by_cases hk2:sk=2
      · subst hk2;have hC:=Tm.out;simp only [if_true,↓reduceIte] at hC;subst hC;go_wp2_with fail
        go_meet
        case rel=>first | exact ⟨rfl,rfl⟩ | exact ⟨by rw [hC],rfl⟩ | exact ⟨by simp [hC],rfl⟩
      · have e2:(sk == 2)=false:=by simpa using hk2
        have hC:=Tm.out;rw [if_neg hk2] at hC;go_wp2_with fail
        go_meet
        case rel=>first | exact ⟨rfl,rfl⟩ | exact ⟨by rw [hC],rfl⟩ | exact ⟨by simp [hC],rfl⟩
     case rest =>
      obtain ⟨rfl,rfl⟩:=hcut;go_wp2_with fail
      go_loopw [9,76] (fun lv t wr=>∃ (j:Nat),t = .int .i64 j∧j≤C∧Grow w4 wr∧wr.heap[B]? = some (.cells #[.string sn,.int .u8 sk,.int .i64 sl,.int .i64 sa] 95 (0,0))∧fI w4.heap.size wr lv (eT f (ae.ts l) slots i ++ (List.range j).map (Au f (ak f ys sk) sa))) (fun _ t _=>C - (intOf t).toNat)
      case atStart=>exact ⟨0,rfl,Nat.zero_le _,bP.out,gI.out,by simpa using GG.out⟩
      obtain ⟨j,rfl,hj,hg,hb,hps⟩:=hrel;obtain ⟨la,lc,hlv⟩:=hps.form;simp only [List.length_append,List.length_map,List.length_range] at hlv;subst hlv;have Tn:=ł hg;have fw:=ł hb;have Tp:=ł hps;clear hg hb hps;by_cases ZT:j<C
      · have HJ:=ł (show j<C∧j≤100000 from ⟨ZT,by have:=jT.out;omega⟩);go_upto_region 16 with fail;refine fJ 106 [some 79,some 80,some 81,some 82,some 83,some 15,none] [[],[],[0,1],[2],[3],[],[5,4]] [3] [.c (.int .i64 (ak f ys sk)),.c (.int .i64 j),.c (.int .i64 ((ak f ys sk)+(j:Int))),.p (fun v y=>∃ g,v = .slice (some ⟨g,0,none⟩) 2 2∧y.heap[g]? = some (.cells #[.int .i64 5,.int .i64 ((ak f ys sk)+(j:Int))] 3 (0,0))),.c (.agg #[.int .u8 10,.int .i64 5,.int .i64 ((ak f ys sk)+(j:Int)),.int .i64 0,.int .i64 0]),.al 6 4 #[.int .u8 0,.int .i64 0,.int .i64 0,.int .i64 0,.int .i64 0] 57,.st 5] ⟨sH,trivial⟩ (dJ rfl) ?steps ?done
        case steps =>
         refine ⟨?s0,?s1,?s2,?s3,?s4,?s5,?s6,trivial⟩
         case s0 | s1 =>
          refine oo (fun vs x hP => ?_);simp only [zS];go_simp;exact gc
         case s2 =>
          refine nD (fun vs x hG hP => ?_);have hwr:IntKind.i64.wrap ((ak f ys sk)+(j:Int))=(ak f ys sk)+(j:Int):=IntWalk.i64_in _ (by have:=HO4.out ys sk;have:=HJ.out;omega);simp only [zS];go_simp;exact gc
         case s3 =>
          refine oo (fun vs x hP => ?_);simp only [zS];go_simp;exact gl ⟨_,rfl,heap_alloc_new x _⟩
         case s4 =>
          refine nD (fun vs x hG hP => ?_);obtain ⟨g3,h3,b3⟩:=pq hP 3;have HC:=ł (fO 10 (5) (((ak f ys sk)+(j:Int))) g3 _ x b3);simp only [zS,h3];go_simp;refine (HC.out).mono ?_;rintro e y ⟨rfl,hg⟩;exact ⟨_,rfl,bz hg rfl⟩
         case s5 =>
          refine oz (fun vs x => ?_);simp only [zS];go_simp;exact ⟨rfl,rfl⟩
         case s6 =>
          refine os (fun vs x g hg hb hv => ?_);have h4:vs 4=_:=hv;obtain ⟨⟨c0,c1,c2⟩,c3,c4⟩:=bR hb;have zt:=aJ hb;simp only [zS,hg,h4];go_simp;exact jQ hb _ _ _ _ _
        case done =>
        intro vs w8 hE;have hG:=hE.jI;obtain ⟨g5,a5,l5,m5,b5⟩:=hE.box 5;simp only [zS] at b5;simp only [zS,Nat.reduceAdd,a5];have jw:=ł b5;simp only [bI] at jw;have mi:=ł (gtr Tn.out hG);have sZ:=ł (ai fw.out hG);have Le:=ł (Tp.out.later hG);clear hE hG b5;go_upto_region 17 with fail;have sw:=ł (fun (y:World) (hy:Grow w8 y)=>And.intro (aA.out.later (gtr aN.out (gtr mi.out hy))) (And.intro (ai sZ.out hy) (And.intro (Le.out.later hy) (ai jw.out hy))));have di:=ł (show ∀ y,Grow w8 y→w4.heap.size≤y.heap.size from fun y hy=>(gtr mi.out hy).size);refine L8 (by kernel_rfl) 106 [some 84,some 85,some 86,some 87,some 88,some 89,some 90,some 91,some 92,some 93,some 94,some 95,some 96,some 97,some 98,some 99,some 100,some 101,some 102,some 9] [[],[],[],[2],[3],[4],[5],[],[7],[6,8],[],[9,10],[11],[12],[],[1,13,14],[15,13],[16],[0,17,16],[18,18,0,1,2,3,4,5,6,7,8,9,10,11,12,13,14,15,16,17,18]] [[],[],[],[2],[3],[4],[5],[],[7],[6,8],[],[9,10],[11],[12],[],[1,13,14],[15],[16],[0,17],[18]] [0,1,2,3,4,5,6,7,8,9,10,11,12,13,14,15,16,17] 18 [false,false,false,false,false,false,false,false,false,false,false,false,true,false,false,true,true,true,false,true] [Pc (.slice la ((eT f (ae.ts l) slots i).length+j) lc),Pc (.agg #[.int .u8 10,.int .i64 5,.int .i64 ((ak f ys sk)+(j:Int)),.int .i64 0,.int .i64 0]),Pc (.pointer (some ⟨G,0,none⟩)),Pc (.pointer (some ⟨G,0,none⟩)),Pc (.pointer (some ⟨G,0,none⟩)),Pc (.pointer (some ⟨G,1,none⟩)),Pc (.int .i64 f.cells),Pc (.pointer (some ⟨B,3,none⟩)),Pc (.int .i64 sa),Pc (.int .i64 (f.cells+sa)),Pc (.int .i64 j),Pc (.int .i64 (f.cells+sa+(j:Int))),(fun v y=>∃ g,v = .slice (some ⟨g,0,none⟩) 2 2∧y.heap[g]? = some (.cells #[.int .i64 5,.int .i64 (f.cells+sa+(j:Int))] 3 (0,0))),Pc (.agg #[.int .u8 10,.int .i64 5,.int .i64 (f.cells+sa+(j:Int)),.int .i64 0,.int .i64 0]),Pc (.agg #[.int .u8 10,.int .i64 5,.int .i64 ((ak f ys sk)+(j:Int)),.int .i64 0,.int .i64 0]),(fun v y=>∃ g,v = .slice (some ⟨g,0,none⟩) 3 3∧ax 5 Ins.cells y (.slice (some ⟨g,0,none⟩) 3 3) ([⟨10,5,(ak f ys sk)+(j:Int),0,0⟩,⟨10,5,f.cells+sa+(j:Int),0,0⟩,⟨10,5,(ak f ys sk)+(j:Int),0,0⟩]:List Ins)),(fun v y=>ay y v (ah ([⟨10,5,(ak f ys sk)+(j:Int),0,0⟩,⟨10,5,f.cells+sa+(j:Int),0,0⟩,⟨10,5,(ak f ys sk)+(j:Int),0,0⟩]:List Ins))),(fun v y=>∃ g,v = .slice (some ⟨g,0,none⟩) 1 1∧gG y (.slice (some ⟨g,0,none⟩) 1 1) [ah ([⟨10,5,(ak f ys sk)+(j:Int),0,0⟩,⟨10,5,f.cells+sa+(j:Int),0,0⟩,⟨10,5,(ak f ys sk)+(j:Int),0,0⟩]:List Ins)]),dH,(fun v y=>∃ a c,v = .slice a (((eT f (ae.ts l) slots i).length+j)+1) c∧fI w4.heap.size y (.slice a (((eT f (ae.ts l) slots i).length+j)+1) c) ((eT f (ae.ts l) slots i) ++ ((List.range j).map (Au f (ak f ys sk) sa) ++ [ah ([⟨10,5,(ak f ys sk)+(j:Int),0,0⟩,⟨10,5,f.cells+sa+(j:Int),0,0⟩,⟨10,5,(ak f ys sk)+(j:Int),0,0⟩]:List Ins)])))] (fun b=>Value.ownBlock (.slice la ((eT f (ae.ts l) slots i).length+j) lc)=some b) (fun v y=>∃ a c,v = .slice a (((eT f (ae.ts l) slots i).length+j)+1) c∧fI w4.heap.size y (.slice a (((eT f (ae.ts l) slots i).length+j)+1) c) ((eT f (ae.ts l) slots i) ++ ((List.range j).map (Au f (ak f ys sk) sa) ++ [ah ([⟨10,5,(ak f ys sk)+(j:Int),0,0⟩,⟨10,5,f.cells+sa+(j:Int),0,0⟩,⟨10,5,(ak f ys sk)+(j:Int),0,0⟩]:List Ins)]))) (by kernel_rfl) rfl (by kernel_rfl) ⟨⟨gZ _,fun _=>iP _⟩,⟨gZ _,fun _=>iP _⟩,⟨gZ _,fun _=>iP _⟩,⟨gZ _,fun _=>iP _⟩,⟨gZ _,fun _=>iP _⟩,⟨gZ _,fun _=>iP _⟩,⟨gZ _,fun _=>iP _⟩,⟨gZ _,fun _=>iP _⟩,⟨gZ _,fun _=>iP _⟩,⟨gZ _,fun _=>iP _⟩,⟨gZ _,fun _=>iP _⟩,⟨gZ _,fun _=>iP _⟩,⟨(fun v x y hg h=>by obtain ⟨g,hv,hb⟩:=h;exact ⟨g,hv,ai hb hg⟩),by simp⟩,⟨gZ _,fun _=>iP _⟩,⟨gZ _,fun _=>iP _⟩,⟨(fun v x y hg h=>by obtain ⟨g,hv,hb⟩:=h;exact ⟨g,hv,hb.later hg⟩),by simp⟩,⟨(fun v x y hg h=>h.later hg),by simp⟩,⟨(fun v x y hg h=>by obtain ⟨g,hv,hb⟩:=h;exact ⟨g,hv,hb.later hg⟩),by simp⟩,⟨wW,fun _=>Jh⟩,⟨(fun v x y hg h=>by obtain ⟨a,c,hv,hb⟩:=h;exact ⟨a,c,hv,hb.later hg⟩),by simp⟩,trivial⟩ (fun v x y hg h=>by obtain ⟨a,c,hv,hb⟩:=h;exact ⟨a,c,hv,hb.later hg⟩) (by kernel_rfl) (by simp) ?steps ?done
        case steps =>
         refine ⟨?s0,?s1,?s2,?s3,?s4,?s5,?s6,?s7,?s8,?s9,?s10,?s11,?s12,?s13,?s14,?s15,?s16,?s17,?s18,?s19,trivial⟩
         case s0 | s2 | s7 | s10 =>
          refine gD (by decide) (fun vs x hx hP hL => ?_);clear hx hP hL;simp only [zR];go_simp;exact bz (Mv.refl _ _) rfl
         case s1 | s14 =>
          refine gD (by decide) (fun vs x hx hP hL => ?_);have hG:Grow w8 x:=jZ (j4 (hx (by simp)));have HX:=ł (sw.out x hG);obtain ⟨⟨i0,i1,i2⟩,i3,i4⟩:=bR HX.out.2.2.2;clear hx hP hL;simp only [zR];go_simp;exact bz (Mv.refl _ _) rfl
         case s3 =>
          refine gD (by decide) (fun vs x hx hP hL => ?_);have h2:vs 2=_:=hP 2 (by simp) (by simp) (by simp);have hG:Grow w8 x:=jZ (j4 (hx (by simp)));have HX:=ł (sw.out x hG);obtain ⟨⟨q0,q1,q2⟩,q3,q4⟩:=bR HX.out.1.blk;clear hx hP hL;simp only [zR,h2];go_simp;exact bz (Mv.refl _ _) rfl
         case s4 =>
          refine gD (by decide) (fun vs x hx hP hL => ?_);have h3:vs 3=_:=hP 3 (by simp) (by simp) (by simp);clear hx hP hL;simp only [zR,h3];go_simp;exact bz (Mv.refl _ _) rfl
         case s5 =>
          refine gD (by decide) (fun vs x hx hP hL => ?_);have h4:vs 4=_:=hP 4 (by simp) (by simp) (by simp);clear hx hP hL;simp only [zR,h4];go_simp;exact bz (Mv.refl _ _) rfl
         case s6 =>
          refine gD (by decide) (fun vs x hx hP hL => ?_);have h5:vs 5=_:=hP 5 (by simp) (by simp) (by simp);have hG:Grow w8 x:=jZ (j4 (hx (by simp)));have HX:=ł (sw.out x hG);obtain ⟨⟨q0,q1,q2⟩,q3,q4⟩:=bR HX.out.1.blk;clear hx hP hL;simp only [zR,h5];go_simp;exact bz (Mv.refl _ _) rfl
         case s8 =>
          refine gD (by decide) (fun vs x hx hP hL => ?_);have h7:vs 7=_:=hP 7 (by simp) (by simp) (by simp);have hG:Grow w8 x:=jZ (j4 (hx (by simp)));have HX:=ł (sw.out x hG);obtain ⟨s0,s1,s2,s3⟩:=dm HX.out.2.1;clear hx hP hL;simp only [zR,h7];go_simp;exact bz (Mv.refl _ _) rfl
         case s9 =>
          refine gD (by decide) (fun vs x hx hP hL => ?_);have h6:vs 6=_:=hP 6 (by simp) (by simp) (by simp);have h8:vs 8=_:=hP 8 (by simp) (by simp) (by simp);have hG:Grow w8 x:=jZ (j4 (hx (by simp)));have HX:=ł (sw.out x hG);have hwr:IntKind.i64.wrap (f.cells+sa)=f.cells+sa:=IntWalk.i64_in _ (by have:=Tf.out;have:=AX.out;omega);clear hx hP hL;simp only [zR,h6,h8];go_simp;exact bz (Mv.refl _ _) rfl
         case s11 =>
          refine gD (by decide) (fun vs x hx hP hL => ?_);have h9:vs 9=_:=hP 9 (by simp) (by simp) (by simp);have h10:vs 10=_:=hP 10 (by simp) (by simp) (by simp);have hG:Grow w8 x:=jZ (j4 (hx (by simp)));have HX:=ł (sw.out x hG);have hwr:IntKind.i64.wrap (f.cells+sa+(j:Int))=f.cells+sa+(j:Int):=IntWalk.i64_in _ (by have:=Tf.out;have:=AX.out;have:=HJ.out;omega);clear hx hP hL;simp only [zR,h9,h10];go_simp;exact bz (Mv.refl _ _) rfl
         case s12 =>
          refine gD (by decide) (fun vs x hx hP hL => ?_);have h11:vs 11=_:=hP 11 (by simp) (by simp) (by simp);clear hx hP hL;simp only [zR,h11];go_simp;exact aY (p:=fun v y=>∃ g,v = .slice (some ⟨g,0,none⟩) 2 2∧y.heap[g]? = some (.cells #[.int .i64 5,.int .i64 (f.cells+sa+(j:Int))] 3 (0,0))) ((Mv.refl _ _).alloc _) ⟨_,rfl,heap_alloc_new x _⟩
         case s13 =>
          refine gD (by decide) (fun vs x hx hP hL => ?_);have wE:=hP 12 (by simp) (by simp) (fun _=>by simp);obtain ⟨g12,h12,b12⟩:=wE;have hG:Grow w8 x:=jZ (j4 (hx (by simp)));have HX:=ł (sw.out x hG);have HC:=ł (fO 10 (5) ((f.cells+sa+(j:Int))) g12 _ x b12);clear hx hP hL;simp only [zR,h12];go_simp;refine (HC.out).mono ?_;rintro e y ⟨rfl,hg⟩;exact ⟨_,rfl,bz hg rfl⟩
         case s15 =>
          refine gD (by decide) (fun vs x hx hP hL => ?_);have h1:vs 1=_:=hP 1 (by simp) (by simp) (by simp);have kE:vs 13=_:=hP 13 (by simp) (by simp) (by simp);have kF:vs 14=_:=hP 14 (by simp) (by simp) (by simp);clear hx hP hL;simp only [zR,h1,kE,kF];go_simp;exact aY (p:=fun v y=>∃ g,v = .slice (some ⟨g,0,none⟩) 3 3∧ax 5 Ins.cells y (.slice (some ⟨g,0,none⟩) 3 3) ([⟨10,5,(ak f ys sk)+(j:Int),0,0⟩,⟨10,5,f.cells+sa+(j:Int),0,0⟩,⟨10,5,(ak f ys sk)+(j:Int),0,0⟩]:List Ins)) ((Mv.refl _ _).alloc _) ⟨_,rfl,ax.bH (f:=Ins.cells) (l:=([⟨10,5,(ak f ys sk)+(j:Int),0,0⟩,⟨10,5,f.cells+sa+(j:Int),0,0⟩,⟨10,5,(ak f ys sk)+(j:Int),0,0⟩]:List Ins)) (fun _=>rfl) (heap_alloc_new x _) rfl (by simp)⟩
         case s16 =>
          refine gD (by decide) (fun vs x hx hP hL => ?_);have wH:=hP 15 (by simp) (by simp) (fun _=>by simp);obtain ⟨g15,pW,b15⟩:=wH;have hG:Grow w8 x:=jZ (j4 (hx (by simp)));have HX:=ł (sw.out x hG);have HC:=ł (gQ _ _ x b15);clear hx hP hL;simp only [zR,pW];go_simp;refine (HC.out).mono ?_;rintro e y ⟨v,rfl,hp,hg⟩;exact ⟨_,rfl,aY (p:=fun v y=>ay y v (ah ([⟨10,5,(ak f ys sk)+(j:Int),0,0⟩,⟨10,5,f.cells+sa+(j:Int),0,0⟩,⟨10,5,(ak f ys sk)+(j:Int),0,0⟩]:List Ins))) hg hp⟩
         case s17 =>
          refine gD (by decide) (fun vs x hx hP hL => ?_);have p16:=hP 16 (by simp) (by simp) (fun _=>by simp);have yN:=p16;obtain ⟨ZU,ZV,ZW,ZX,h16,c16,f16⟩:=p16;rw [h16] at yN;have hG:Grow w8 x:=jZ (j4 (hx (by simp)));have HX:=ł (sw.out x hG);clear hx hP hL;simp only [zR,h16];go_simp;exact aY (p:=fun v y=>∃ g,v = .slice (some ⟨g,0,none⟩) 1 1∧gG y (.slice (some ⟨g,0,none⟩) 1 1) [ah ([⟨10,5,(ak f ys sk)+(j:Int),0,0⟩,⟨10,5,f.cells+sa+(j:Int),0,0⟩,⟨10,5,(ak f ys sk)+(j:Int),0,0⟩]:List Ins)]) ((Mv.refl _ _).alloc _) ⟨_,rfl,qB (vs:=[(.slice ZU (ah ([⟨10,5,(ak f ys sk)+(j:Int),0,0⟩,⟨10,5,f.cells+sa+(j:Int),0,0⟩,⟨10,5,(ak f ys sk)+(j:Int),0,0⟩]:List Ins)).code.length ZV,.slice ZW (ah ([⟨10,5,(ak f ys sk)+(j:Int),0,0⟩,⟨10,5,f.cells+sa+(j:Int),0,0⟩,⟨10,5,(ak f ys sk)+(j:Int),0,0⟩]:List Ins)).refs.length ZX)]) (heap_alloc_new x _) rfl ⟨ay.later (yN) ((Mv.refl _ _).alloc _),trivial⟩⟩
         case s18 =>
          refine OX rfl (fun vs x hx hP => ?_);have h0:vs 0=_:=hP 0 (by simp);have qh:=hP 17 (by simp);obtain ⟨g17,jC,b17⟩:=qh;have hG:Grow w8 x:=jZ (j4 hx);have HX:=ł (sw.out x hG);obtain ⟨a',c',w2',⟨hok,hv,hw⟩,hrow2,bE⟩:=E8 w4.heap.size _ _ _ _ x (HX.out.2.2.1) b17 (di.out x hG) (by have:=Ct.out;simp only [List.length_append,List.length_map,List.length_range] at this ⊢;have:=HJ.out;omega);have HR2:=ł hrow2;have dU:=ł bE;clear hrow2 bE;clear hx hP;simp only [zR,h0,jC];go_simp;exact ⟨dU.out.mono (fun _ e => .inl (.inr e)),a',c',by simp,by simpa using HR2.out⟩
         case s19 =>
          refine gD (by decide) (fun vs x hx hP hL => ?_);have p18:=hL (by simp);obtain ⟨acA,acB,h18,o18⟩:=p18;clear hx hP hL;simp only [zR,h18];go_simp;exact aY (p:=fun v y=>∃ a c,v = .slice a (((eT f (ae.ts l) slots i).length+j)+1) c∧fI w4.heap.size y (.slice a (((eT f (ae.ts l) slots i).length+j)+1) c) ((eT f (ae.ts l) slots i) ++ ((List.range j).map (Au f (ak f ys sk) sa) ++ [ah ([⟨10,5,(ak f ys sk)+(j:Int),0,0⟩,⟨10,5,f.cells+sa+(j:Int),0,0⟩,⟨10,5,(ak f ys sk)+(j:Int),0,0⟩]:List Ins)]))) (Mv.refl _ _) ⟨_,_,rfl,o18⟩
        case done =>
        intro vs w9 hE;have h0:vs 0=_:=hE.val 0 (by simp) (by simp) (by simp);have h1:vs 1=_:=hE.val 1 (by simp) (by simp) (by simp);have h2:vs 2=_:=hE.val 2 (by simp) (by simp) (by simp);have h3:vs 3=_:=hE.val 3 (by simp) (by simp) (by simp);have h4:vs 4=_:=hE.val 4 (by simp) (by simp) (by simp);have h5:vs 5=_:=hE.val 5 (by simp) (by simp) (by simp);have h6:vs 6=_:=hE.val 6 (by simp) (by simp) (by simp);have h7:vs 7=_:=hE.val 7 (by simp) (by simp) (by simp);have h8:vs 8=_:=hE.val 8 (by simp) (by simp) (by simp);have h9:vs 9=_:=hE.val 9 (by simp) (by simp) (by simp);have h10:vs 10=_:=hE.val 10 (by simp) (by simp) (by simp);have h11:vs 11=_:=hE.val 11 (by simp) (by simp) (by simp);have kE:vs 13=_:=hE.val 13 (by simp) (by simp) (by simp);have kF:vs 14=_:=hE.val 14 (by simp) (by simp) (by simp);have p19:=hE.val 19 (by simp) (by simp) (by simp);obtain ⟨acC,acD,h19,Tq⟩:=p19;simp only [List.length_cons,List.length_nil,Nat.zero_add,Nat.reduceAdd];rw [show List.range 20=[0,1,2,3,4,5,6,7,8,9,10,11,12,13,14,15,16,17,18,19] from rfl];simp only [zR,h0,h1,h2,h3,h4,h5,h6,h7,h8,h9,h10,h11,kE,kF,h19];clear h0 h1 h2 h3 h4 h5 h6 h7 h8 h9 h10 h11 kE kF h19;have qj:=ł (show Grow w4 w9 from (Mv.drew mi.out).trans hE.mv (fun b e => .inr (by
         rcases e with e | e
         · have:=mi.out.size;simp at e;omega
         · exact (Le.out.lt b e).1)))
        have AU:=ł (show w9.heap[B]? = some (.cells #[.string sn,.int .u8 sk,.int .i64 sl,.int .i64 sa] 95 (0,0)) from (hE.mv.block B (lt_of_block sZ.out) (fun e=>by
         rcases e with e | e
         · have:=lt_of_block sZ.out;simp at e;omega
         · exact Le.out.tag sZ.out (by decide) e)).trans sZ.out)
        have zo:=ł Tq;clear hE Tq sw di;have hwj:IntKind.i64.wrap ((j:Int)+1)=(j:Int)+1:=IntWalk.i64_in _ (by have:=HJ.out;omega);go_wp2_with fail;exact ⟨⟨j+1,by simp,by omega,qj.out,AU.out,by rw [List.range_succ,List.map_append];exact zo.out⟩,by simp [intOf];omega⟩
      · have pR:j=C:=by omega
        subst pR;go_wp2_with fail;exact ⟨⟨i+1,by simp,by omega,Tn.out,by rw [sW.out];exact Tp.out⟩,by simp [intOf];omega⟩
 · have hie:i=slots.length:=by omega
   subst hie;have aM:=ł (gtr aN.out HG.out);have bu:=ł (pX.out.low (base':=w.heap.size) aN.out.size);rw [VQ f (ae.ts l) slots (by rw [ae.cZ];exact xI.out)] at bu;go_wp2_with fail;go_ret;exact ⟨_,rfl,bu.out,aM.out⟩
end Go.Proofs.YtnobahchcongnaaGreatDoor
