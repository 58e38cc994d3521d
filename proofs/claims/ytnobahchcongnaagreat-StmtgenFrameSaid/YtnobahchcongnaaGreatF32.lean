import Derived.Test.YtnobahchcongnaaGreatF31
import Derived.Deep.DeepCutAuto
import Derived.Deep.CutBlock
set_option linter.unusedSimpArgs false
set_option linter.unusedVariables false
set_option maxRecDepth 100000
set_option maxHeartbeats 25600000
namespace Go.Proofs.YtnobahchcongnaaGreat
open Go.RowKit Go.Instr
attribute [local go_sem ↓] lu
theorem fG.tag {base:Nat} {w:World} {v:Value} {l:List aI} {g:Nat} {cs:Array Value} {t:TypeId} {z:Nat × Nat} (h:fG base w v l) (hb:w.heap[g]? = some (.cells cs t z)) (ht:t≠45):v.ownBlock≠some g:=by
 obtain⟨vs,h1,h2,_⟩:=h;exact eO h2 hb ht
theorem fG.low {base base':Nat} {w:World} {v:Value} {l:List aI} (h:fG base w v l) (hb:base'<=base):fG base' w v l:=by
 obtain⟨vs,h1,h2,h3⟩:=h;refine⟨vs,h1,⟨h2.1,?_⟩,h3⟩;rcases h2.2 with h3|⟨g,cap,cur,e,h3,h4⟩
 · exact .inl h3
 · exact .inr ⟨g,cap,cur,e,by omega,h4⟩
def Ba (f:az) (x at':Int) (j:Nat):aI:=ah [⟨10,5,x+j,0,0⟩,⟨10,5,f.cells+at'+j,0,0⟩,⟨10,5,x+j,0,0⟩]
def eF (f:az) (kids:List Tree) (slots:List dL) (i:Nat):List aI:=(((kids.zip slots).take i).map λx=>qB f (aj f x.1.name x.2.kind) x.2).flatten
theorem Wv (f:az) (kids:List Tree) (slots:List dL) (i:Nat) (h:kids.length=slots.length) (hi:i<kids.length):eF f kids slots (i+1)=eF f kids slots i ++ qB f (aj f kids[i].name (slots[i]'(by omega)).kind) (slots[i]'(by omega)):=by
 unfold eF;rw[Nz kids slots i h hi];simp
theorem Xj (f:az) (kids:List Tree) (slots:List dL) (h:kids.length=slots.length):eF f kids slots slots.length=jv f kids slots:=by
 unfold eF jv;rw[List.take_of_length_le (by simp;omega)]
theorem OZ (f:az) (kids:List Tree) (slots:List dL) (i:Nat):(eF f kids slots i).length<=(jv f kids slots).length:=by
 unfold eF jv
 conv=>rhs;rw[← List.take_append_drop i (kids.zip slots)]
 rw[List.map_append,List.flatten_append,List.length_append];omega
theorem NF (l:List aA):(frameC l).slots.length=l.length:=by
 have:∀ (l:List aA) (f:az),(l.foldl gL f).slots.length=f.slots.length+l.length:=by
  intro l
  induction l with
  |nil=>intro f;rfl
  |cons v l ih =>
   intro f;rw[List.foldl_cons,ih];have:(gL f v).slots.length=f.slots.length+1:=by
    unfold gL;split
    · simp
    · split <;> simp
   rw[this,List.length_cons];omega
 unfold frameC;rw[this];simp[iI]
def PsG (w:World) (l:List aI) (e:Ending) (w':World):Prop:=∃ v,e = .returned v/\fG w.heap.size w' v l/\Grow w w'
def KD (f:az) (params:List aA):Prop:=jX params=0/\(0<=f.cells/\f.cells<=1000)/\(0<=f.stacks/\f.stacks<=1000)/\(∀ s k,0<=aj f s k/\aj f s k<=100000)/\∀ s∈(frameC params).slots,0<=s.len/\s.len<=100000/\0<=s.at'/\s.at'<=100000
theorem Ye (hof:uL) (w:World) (G:Nat) (sv pv:Value) (f:az) (procs:List ak) (hg:gD w G sv pv f procs) (k n:Int) (s:ByteArray) (kv:Value) (l:List ae) (hx:aS w (.mk k n s kv l))
 (hlen:l.length=((dY procs s).getD gz).params.length) (hok:KD f ((dY procs s).getD gz).params) (hsz:(jv f (ae.ts l) (frameC ((dY procs s).getD gz).params).slots).length<=100000) :
 Calls Tryz.prog 112 #[.pointer (some ⟨G,0,none⟩),ae.val (.mk k n s kv l)] w (PsG w (jv f (ae.ts l) (frameC ((dY procs s).getD gz).params).slots)):=by
 obtain⟨fa,fc,rfl,hfc,hfl⟩:=hg.fr.row.form;obtain⟨pa,pc,rfl,-,-⟩:=hg.pr.row.form;obtain⟨ka,kc,rfl,hkc,hkl⟩:=hx.form;have tL:=ł (λ(y:World) (hy:Grow w y)=>Jo (.slice pa procs.length pc) procs s y (hg.pr.later hy));have wF:=IJ hg.pr s;generalize (dY procs s).getD gz=p at *;generalize (dY procs s).isSome=found at *;obtain⟨ps,params,qv,body⟩:=p;obtain⟨qa,qc,rfl,hqc,pK⟩:=wF.form;have bY:=ł wF.params;obtain⟨bk,bn,bs,LY,bl⟩:=body;obtain⟨ba,bc,rfl,-,-⟩:=wF.body.form;simp only[ak.val]at tL;simp only at hlen hok hsz ⊢;have aK:=ł hg;have ll:=ł hx;have HLEN:=ł hlen;have iC:=ł hok;have iE:=ł hsz;have aJ:=ł (heap_alloc_new w (.cells #[.int .u8 k,.int .i64 n,.string s,.slice ka l.length kc] 26));have bg:=ł (show Grow w (w.alloc (.cells #[.int .u8 k,.int .i64 n,.string s,.slice ka l.length kc] 26))from(Mv.refl _ w).alloc _);clear hg hx wF hlen hok hsz;simp only[ae.val]
 go_enter Tryz.func112,Tryz.ntmps112
 go_upto_region 1 with fail;generalize (w.alloc (.cells #[.int .u8 k,.int .i64 n,.string s,.slice ka l.length kc] 26))=w1 at *;have lV:=ł (λ(y:World) (hy:Grow w1 y)=>And.intro (aK.out.later (gtr bg.out hy)) (ai aJ.out hy));refine wg 106 [some 17,some 18,some 19,some 20,some 21,some 22,some 23,some 16,some 24,some 25,some 5,none,some 6] [[],[0],[1],[2],[],[4],[3,5],[6],[7],[7],[],[10,8],[9]] [] [.c (.pointer (some ⟨G,0,none⟩)),.c (.pointer (some ⟨G,0,none⟩)),.c (.pointer (some ⟨G,3,none⟩)),.c (.slice pa procs.length pc),.c (.pointer (some ⟨w.heap.size,2,none⟩)),.c (.string s),.c (.tuple #[.agg #[.string ps,.slice qa params.length qc,.int .u8 bk,.int .i64 bn,.string bs,.slice ba bl.length bc],.bool found]),.c (.tuple #[.agg #[.string ps,.slice qa params.length qc,.int .u8 bk,.int .i64 bn,.string bs,.slice ba bl.length bc],.bool found]),.c (.agg #[.string ps,.slice qa params.length qc,.int .u8 bk,.int .i64 bn,.string bs,.slice ba bl.length bc]),.c (.bool found),.al 11 8 #[.string ⟨#[]⟩,.slice none 0 0,.int .u8 0,.int .i64 0,.string ⟨#[]⟩,.slice none 0 0] 35,.st 10,.c (.bool found)] trivial (cz rfl) ?steps ?done
 case steps =>
  refine⟨?s0,?s1,?s2,?s3,?s4,?s5,?s6,?s7,?s8,?s9,?s10,?s11,?s12,trivial⟩
  case s0|s2|s4|s7|s8|s9|s12 =>
   refine oo (λvs x hP => ?_);simp only[zS];go_simp;exact gc
  case s1|s3 =>
   refine ok lV (λvs x hG HX hP => ?_);obtain⟨⟨q0,q1,q2⟩,q3,q4⟩:=bR HX.out.1.blk;simp only[zS];go_simp;exact gc
  case s5 =>
   refine ok lV (λvs x hG HX hP => ?_);obtain⟨⟨n0,n1⟩,n2,n3⟩:=aF HX.out.2;simp only[zS];go_simp;exact gc
  case s6 =>
   refine ok lV (λvs x hG HX hP => ?_);have HC:=ł (tL.out x (gtr bg.out hG));simp only[zS];go_simp;refine(HC.out).mono ?_;rintro e y ⟨rfl,hg⟩;exact⟨_,rfl,bu hg rfl⟩
  case s10 =>
   refine oz (λvs x => ?_);simp only[zS];go_simp;exact⟨rfl,rfl⟩
  case s11 =>
   refine os (λvs x g hg hb hv => ?_);have h8:vs 8=_:=hv;obtain⟨⟨c0,c1,c2⟩,c3,c4,c5⟩:=dK hb;have zt:=aD hb;simp only[zS,hg,h8];go_simp;exact KN hb _ _ _ _ _ _
 case done =>
 intro vs w2 hE;have hG:=hE.grow;obtain⟨g10,zT,l10,m10,b10⟩:=hE.box 10;simp only[zS]at b10;simp only[zS,Nat.reduceAdd,zT];have lU:=ł b10;simp only[bJ]at lU;have HG2:=ł (gtr bg.out hG);have iD:=ł (ai aJ.out hG);clear hE hG b10 lV tL aJ;obtain⟨⟨p0,p1,p2⟩,p3,p4,p5⟩:=dK lU.out;have hlp:=lt_of_block lU.out;go_wp2_with fail;refine(hof _ params _ (bY.out.later HG2.out)).mono ?_;rintro e w3 ⟨sv3,rfl,hfr,hg⟩;obtain⟨ho1,ho2,ho3,Uu,Uv⟩:=iC.out;simp only[ho1,if_true,↓reduceIte]at hfr ⊢;have ng:=ł (NF params);have Uw:=ł ho2;have HO3:=ł ho3;have HO4:=ł Uu;have G9:=ł Uv;clear ho1 ho2 ho3 Uu Uv iC p0 p1 p2 p3 p4 p5 hlp lU;generalize frameC params=c at *;obtain⟨slots,cc,cs⟩:=c;obtain⟨Ed,Ee,rfl,adj,adk⟩:=hfr.row.form;have zK:=ł hfr.row;have aG:=ł (gtr HG2.out hg);have nI:=ł (ai iD.out hg);have vg:=ł (heap_alloc_new w3 (.cells #[.slice Ed slots.length Ee,.int .i64 cc,.int .i64 cs] 38));have aN:=ł (gtr aG.out ((Mv.refl _ w3).alloc (.cells #[.slice Ed slots.length Ee,.int .i64 cc,.int .i64 cs] 38)));have pO:=ł (aO nI.out (.cells #[.slice Ed slots.length Ee,.int .i64 cc,.int .i64 cs] 38));have gW:=ł (zK.out.later ((Mv.refl _ w3).alloc (.cells #[.slice Ed slots.length Ee,.int .i64 cc,.int .i64 cs] 38)));clear hfr hg HG2 iD nI zK;simp only at ng G9 iE ⊢;have hlf:=lt_of_block vg.out;obtain⟨f0,f1,f2⟩:=di vg.out;go_wp2_with fail;generalize w3.alloc (.cells #[.slice Ed slots.length Ee,.int .i64 cc,.int .i64 cs] 38)=w4 at *;clear f0 f1 f2 hlf;have yx:=ł (show l.length=slots.length from by rw[HLEN.out,ng.out])
 go_loopw [9,36] (λlv t wr=>∃ (i:Nat),t = .int .i64 i/\i<=slots.length/\Grow w4 wr/\fG w4.heap.size wr lv (eF f (ae.ts l) slots i)) (λ_ t _=>slots.length - (intOf t).toNat)
 case atStart=>exact⟨0,rfl,Nat.zero_le _,Mv.refl _ _,fG.nil _ _⟩
 obtain⟨i,rfl,hi,hg,hps⟩:=hrel;have HG:=ł hg;have pQ:=ł hps;clear hg hps;have MJ:=ł (show(eF f (ae.ts l) slots i).length<=100000 from Nat.le_trans (OZ _ _ _ _) iE.out);by_cases hlt:i<slots.length
 · have hil:i<l.length:=by have:=yx.out;omega
   obtain⟨b,off,cap',e,_,hcc⟩:=(gW.out.later HG.out).at hlt;simp only[Value.slice.injEq,true_and]at e;obtain⟨rfl,rfl⟩:=e;have c0:=hcc 0 _ rfl;have c1:=hcc 1 _ rfl;have c2:=hcc 2 _ rfl;have c3:=hcc 3 _ rfl;obtain⟨kb,ko,qE,bF,-,-⟩:=ll.out.row.2.2.2.1.at (show 0<l.length by omega);simp only[Value.slice.injEq,true_and]at bF;obtain⟨rfl,rfl⟩:=bF;have dH:=dO ll.out i hil;have HT:=ł (Wv f (ae.ts l) slots i (by rw[ae.bT];exact yx.out) (by rw[ae.bT];exact hil));rw[ae.gm l i hil]at HT;have Bq:=ł (G9.out slots[i] (List.getElem_mem hlt));have Db:=ł (show(eF f (ae.ts l) slots (i+1)).length<=100000 from Nat.le_trans (OZ _ _ _ _) iE.out);rw[HT.out]at Db;generalize l[i]=y at *;generalize slots[i]=sd at *;obtain⟨yk,yn,ys,yv,yl⟩:=y;obtain⟨sn,sk,sl,sa⟩:=sd;simp only[Nat.add_zero]at c0 c1 c2 c3 Bq;have hbl:b<wr.heap.size:=World.block_lt_of_cell? wr _ c0;have oN:=ł (heap_alloc_new wr (.cells #[.string sn,.int .u8 sk,.int .i64 sl,.int .i64 sa] 81));have aT:=ł (HG.out.alloc (.cells #[.string sn,.int .u8 sk,.int .i64 sl,.int .i64 sa] 81));have oM:=ł (pQ.out.later ((Mv.refl _ wr).alloc (.cells #[.string sn,.int .u8 sk,.int .i64 sl,.int .i64 sa] 81)));have oO:=ł dH;clear hcc dH;go_upto_region 7 with fail;clear c0 c1 c2 c3 hbl;generalize Ha:wr.heap.size=B at *;generalize wr.alloc (.cells #[.string sn,.int .u8 sk,.int .i64 sl,.int .i64 sa] 81)=w5 at *;have Br:=ł (λ(y:World) (hy:Grow w5 y)=>And.intro (aK.out.later (gtr aN.out (gtr aT.out hy))) (And.intro (ai pO.out (gtr aT.out hy)) (And.intro (oO.out.later (gtr aN.out (gtr aT.out hy))) (ai oN.out hy))));refine wg 106 [some 41,some 42,some 43,some 44,some 45,some 46,some 47,some 48,some 49,some 50,some 12] [[],[],[1],[],[2,3],[4],[5],[],[7],[0,6,8],[9]] [] [.c (.pointer (some ⟨G,0,none⟩)),.c (.pointer (some ⟨w.heap.size,3,none⟩)),.c (.slice (some ⟨kb,ko,none⟩) l.length kc),.c (.int .i64 i),.c (.pointer (some ⟨kb,ko+i * 4,none⟩)),.c (.pointer (some ⟨kb,ko+i * 4+2,none⟩)),.c (.string ys),.c (.pointer (some ⟨B,1,none⟩)),.c (.int .u8 sk),.c (.int .i64 (aj f ys sk)),.c (.int .i64 (aj f ys sk))] trivial (cz rfl) ?steps ?done
   case steps =>
    refine⟨?s0,?s1,?s2,?s3,?s4,?s5,?s6,?s7,?s8,?s9,?s10,trivial⟩
    case s0|s1|s3|s5|s7|s10 =>
     refine oo (λvs x hP => ?_);simp only[zS];go_simp;exact gc
    case s2 =>
     refine ok Br (λvs x hG HX hP => ?_);obtain⟨⟨n0,n1⟩,n2,n3⟩:=aF HX.out.2.1;simp only[zS];go_simp;exact gc
    case s4 =>
     refine ok Br (λvs x hG HX hP => ?_);have hbd:i<l.length:=hil;simp only[zS];go_simp;exact gc
    case s6 =>
     refine ok Br (λvs x hG HX hP => ?_);have d2:=HX.out.2.2.1.four.2.1;simp only[zS];go_simp;exact gc
    case s8 =>
     refine ok Br (λvs x hG HX hP => ?_);obtain⟨s0,s1,s2,s3⟩:=dF HX.out.2.2.2;simp only[zS];go_simp;exact gc
    case s9 =>
     refine ok Br (λvs x hG HX hP => ?_);have HC:=ł (uG x G _ _ f procs HX.out.1 ys sk);simp only[zS];go_simp;refine(HC.out).mono ?_;rintro e y ⟨rfl,hg⟩;exact⟨_,rfl,bu hg rfl⟩
   case done =>
   intro vs w6 hE;have hG:=hE.grow;simp only[zS,Nat.reduceAdd];have dw:=ł (gtr aT.out hG);have gJ:=ł (ai oN.out hG);have Hd:=ł (oM.out.later hG);clear hE hG Br oN oM aT;obtain⟨s0,s1,s2,s3⟩:=dF gJ.out;have hlb:=lt_of_block gJ.out;have tT:=ł (show eF f (ae.ts l) slots (i+1)=eF f (ae.ts l) slots i ++ qB f (aj f ys sk) ⟨sn,sk,sl,sa⟩from HT.out);clear HT;have Db:=ł (show(eF f (ae.ts l) slots i ++ qB f (aj f ys sk) ⟨sn,sk,sl,sa⟩).length<=100000 from Db.out);by_cases hk3:sk=3
   · subst hk3;obtain⟨la,lc,hlv⟩:=Hd.out.form;subst hlv;go_upto_region 9 with fail;clear s0 s1 s2 s3 hlb;have nN:=ł (λ(y:World) (hy:Grow w6 y)=>And.intro (aK.out.later (gtr aN.out (gtr dw.out hy))) (And.intro (ai gJ.out hy) (Hd.out.later hy)));have bS:=ł (show ∀ y,Grow w6 y->w4.heap.size<=y.heap.size from λy hy=>(gtr dw.out hy).size);refine Nv (by kernel_rfl) 106 [some 54,some 55,some 56,some 57,some 58,some 59,some 60,some 61,some 62,some 63,some 64,some 65,some 66,some 67,some 68,some 69,some 9] [[],[],[],[2],[3],[4],[5],[],[7],[6,8],[1,9],[10],[11],[12,11],[13],[0,14,13],[15,15,0,1,2,3,4,5,6,7,8,9,10,11,12,13,14,15]] [[],[],[],[2],[3],[4],[5],[],[7],[6,8],[1,9],[10],[11],[12],[13],[0,14],[15]] [0,1,2,3,4,5,6,7,8,9,10,11,12,13,14] 15 [false,false,false,false,false,false,false,false,false,false,true,false,true,true,true,false,true] [Pc (.slice la (eF f (ae.ts l) slots i).length lc),Pc (.int .i64 (aj f ys 3)),Pc (.pointer (some ⟨G,0,none⟩)),Pc (.pointer (some ⟨G,0,none⟩)),Pc (.pointer (some ⟨G,0,none⟩)),Pc (.pointer (some ⟨G,2,none⟩)),Pc (.int .i64 f.stacks),Pc (.pointer (some ⟨B,3,none⟩)),Pc (.int .i64 sa),Pc (.int .i64 (f.stacks+sa)),(λv y=>∃ g,v = .slice (some ⟨g,0,none⟩) 2 2/\y.heap[g]? = some (.cells #[.int .i64 (aj f ys 3),.int .i64 (f.stacks+sa)] 3 (0,0))),Pc (.agg #[.int .u8 16,.int .i64 (aj f ys 3),.int .i64 (f.stacks+sa),.int .i64 0,.int .i64 0]),(λv y=>∃ g,v = .slice (some ⟨g,0,none⟩) 1 1/\ax 5 Ins.cells y (.slice (some ⟨g,0,none⟩) 1 1) ([⟨16,aj f ys 3,f.stacks+sa,0,0⟩]:List Ins)),(λv y=>ay y v (ah ([⟨16,aj f ys 3,f.stacks+sa,0,0⟩]:List Ins))),(λv y=>∃ g,v = .slice (some ⟨g,0,none⟩) 1 1/\iw y (.slice (some ⟨g,0,none⟩) 1 1) [ah ([⟨16,aj f ys 3,f.stacks+sa,0,0⟩]:List Ins)]),dC,(λv y=>∃ a c,v = .slice a ((eF f (ae.ts l) slots i).length+1) c/\fG w4.heap.size y (.slice a ((eF f (ae.ts l) slots i).length+1) c) ((eF f (ae.ts l) slots i) ++ [ah ([⟨16,aj f ys 3,f.stacks+sa,0,0⟩]:List Ins)]))] (λb=>Value.ownBlock (.slice la (eF f (ae.ts l) slots i).length lc)=some b) (λv y=>∃ a c,v = .slice a ((eF f (ae.ts l) slots i).length+1) c/\fG w4.heap.size y (.slice a ((eF f (ae.ts l) slots i).length+1) c) ((eF f (ae.ts l) slots i) ++ [ah ([⟨16,aj f ys 3,f.stacks+sa,0,0⟩]:List Ins)])) (by kernel_rfl) rfl (by kernel_rfl) ⟨⟨iN _,λ_=>jh _⟩,⟨iN _,λ_=>jh _⟩,⟨iN _,λ_=>jh _⟩,⟨iN _,λ_=>jh _⟩,⟨iN _,λ_=>jh _⟩,⟨iN _,λ_=>jh _⟩,⟨iN _,λ_=>jh _⟩,⟨iN _,λ_=>jh _⟩,⟨iN _,λ_=>jh _⟩,⟨iN _,λ_=>jh _⟩,⟨(λv x y hg h=>by obtain⟨g,hv,hb⟩:=h;exact⟨g,hv,ai hb hg⟩),by simp⟩,⟨iN _,λ_=>jh _⟩,⟨(λv x y hg h=>by obtain⟨g,hv,hb⟩:=h;exact⟨g,hv,hb.later hg⟩),by simp⟩,⟨(λv x y hg h=>h.later hg),by simp⟩,⟨(λv x y hg h=>by obtain⟨g,hv,hb⟩:=h;exact⟨g,hv,hb.later hg⟩),by simp⟩,⟨xM,λ_=>Ko⟩,⟨(λv x y hg h=>by obtain⟨a,c,hv,hb⟩:=h;exact⟨a,c,hv,hb.later hg⟩),by simp⟩,trivial⟩ (λv x y hg h=>by obtain⟨a,c,hv,hb⟩:=h;exact⟨a,c,hv,hb.later hg⟩) (by kernel_rfl) (by simp) ?steps ?done
     case steps =>
      refine⟨?s0,?s1,?s2,?s3,?s4,?s5,?s6,?s7,?s8,?s9,?s10,?s11,?s12,?s13,?s14,?s15,?s16,trivial⟩
      case s0|s1|s2|s7 =>
       refine gT (by decide) (λvs x hx hP hL => ?_);clear hx hP hL;simp only[zR];go_simp;exact bu (Mv.refl _ _) rfl
      case s3 =>
       refine gT (by decide) (λvs x hx hP hL => ?_);have h2:vs 2=_:=hP 2 (by simp) (by simp) (by simp);have hG:Grow w6 x:=kM (kQ (hx (by simp)));have HX:=ł (nN.out x hG);obtain⟨⟨q0,q1,q2⟩,q3,q4⟩:=bR HX.out.1.blk;clear hx hP hL;simp only[zR,h2];go_simp;exact bu (Mv.refl _ _) rfl
      case s4 =>
       refine gT (by decide) (λvs x hx hP hL => ?_);have h3:vs 3=_:=hP 3 (by simp) (by simp) (by simp);clear hx hP hL;simp only[zR,h3];go_simp;exact bu (Mv.refl _ _) rfl
      case s5 =>
       refine gT (by decide) (λvs x hx hP hL => ?_);have h4:vs 4=_:=hP 4 (by simp) (by simp) (by simp);clear hx hP hL;simp only[zR,h4];go_simp;exact bu (Mv.refl _ _) rfl
      case s6 =>
       refine gT (by decide) (λvs x hx hP hL => ?_);have h5:vs 5=_:=hP 5 (by simp) (by simp) (by simp);have hG:Grow w6 x:=kM (kQ (hx (by simp)));have HX:=ł (nN.out x hG);obtain⟨⟨q0,q1,q2⟩,q3,q4⟩:=bR HX.out.1.blk;clear hx hP hL;simp only[zR,h5];go_simp;exact bu (Mv.refl _ _) rfl
      case s8 =>
       refine gT (by decide) (λvs x hx hP hL => ?_);have h7:vs 7=_:=hP 7 (by simp) (by simp) (by simp);have hG:Grow w6 x:=kM (kQ (hx (by simp)));have HX:=ł (nN.out x hG);obtain⟨s0,s1,s2,s3⟩:=dF HX.out.2.1;clear hx hP hL;simp only[zR,h7];go_simp;exact bu (Mv.refl _ _) rfl
      case s9 =>
       refine gT (by decide) (λvs x hx hP hL => ?_);have h6:vs 6=_:=hP 6 (by simp) (by simp) (by simp);have h8:vs 8=_:=hP 8 (by simp) (by simp) (by simp);have hG:Grow w6 x:=kM (kQ (hx (by simp)));have HX:=ł (nN.out x hG);have hwr:IntKind.i64.wrap (f.stacks+sa)=f.stacks+sa:=IntWalk.i64_in _ (by have:=HO3.out;have:=Bq.out;omega);clear hx hP hL;simp only[zR,h6,h8];go_simp;exact bu (Mv.refl _ _) rfl
      case s10 =>
       refine gT (by decide) (λvs x hx hP hL => ?_);have h1:vs 1=_:=hP 1 (by simp) (by simp) (by simp);have h9:vs 9=_:=hP 9 (by simp) (by simp) (by simp);clear hx hP hL;simp only[zR,h1,h9];go_simp;exact aZ (p:=λv y=>∃ g,v = .slice (some ⟨g,0,none⟩) 2 2/\y.heap[g]? = some (.cells #[.int .i64 (aj f ys 3),.int .i64 (f.stacks+sa)] 3 (0,0))) ((Mv.refl _ _).alloc _) ⟨_,rfl,heap_alloc_new x _⟩
      case s11 =>
       refine gT (by decide) (λvs x hx hP hL => ?_);have z8:=hP 10 (by simp) (by simp) (λ_=>by simp);obtain⟨g10,h10,b10⟩:=z8;have hG:Grow w6 x:=kM (kQ (hx (by simp)));have HX:=ł (nN.out x hG);have HC:=ł (fO 16 ((aj f ys 3)) ((f.stacks+sa)) g10 _ x b10);clear hx hP hL;simp only[zR,h10];go_simp;refine(HC.out).mono ?_;rintro e y ⟨rfl,hg⟩;exact⟨_,rfl,bu hg rfl⟩
      case s12 =>
       refine gT (by decide) (λvs x hx hP hL => ?_);have h11:vs 11=_:=hP 11 (by simp) (by simp) (by simp);clear hx hP hL;simp only[zR,h11];go_simp;exact aZ (p:=λv y=>∃ g,v = .slice (some ⟨g,0,none⟩) 1 1/\ax 5 Ins.cells y (.slice (some ⟨g,0,none⟩) 1 1) ([⟨16,aj f ys 3,f.stacks+sa,0,0⟩]:List Ins)) ((Mv.refl _ _).alloc _) ⟨_,rfl,ax.bN (f:=Ins.cells) (l:=([⟨16,aj f ys 3,f.stacks+sa,0,0⟩]:List Ins)) (λ_=>rfl) (heap_alloc_new x _) rfl (by simp)⟩
      case s13 =>
       refine gT (by decide) (λvs x hx hP hL => ?_);have xh:=hP 12 (by simp) (by simp) (λ_=>by simp);obtain⟨g12,h12,b12⟩:=xh;have hG:Grow w6 x:=kM (kQ (hx (by simp)));have HX:=ł (nN.out x hG);have HC:=ł (iG _ _ x b12);clear hx hP hL;simp only[zR,h12];go_simp;refine(HC.out).mono ?_;rintro e y ⟨v,rfl,hp,hg⟩;exact⟨_,rfl,aZ (p:=λv y=>ay y v (ah ([⟨16,aj f ys 3,f.stacks+sa,0,0⟩]:List Ins))) hg hp⟩
      case s14 =>
       refine gT (by decide) (λvs x hx hP hL => ?_);have Ux:=hP 13 (by simp) (by simp) (λ_=>by simp);have RP:=Ux;obtain⟨FU,FV,aab,aac,lg,c13,f13⟩:=Ux;rw[lg]at RP;have hG:Grow w6 x:=kM (kQ (hx (by simp)));have HX:=ł (nN.out x hG);clear hx hP hL;simp only[zR,lg];go_simp;exact aZ (p:=λv y=>∃ g,v = .slice (some ⟨g,0,none⟩) 1 1/\iw y (.slice (some ⟨g,0,none⟩) 1 1) [ah ([⟨16,aj f ys 3,f.stacks+sa,0,0⟩]:List Ins)]) ((Mv.refl _ _).alloc _) ⟨_,rfl,sw (vs:=[(.slice FU (ah ([⟨16,aj f ys 3,f.stacks+sa,0,0⟩]:List Ins)).code.length FV,.slice aab (ah ([⟨16,aj f ys 3,f.stacks+sa,0,0⟩]:List Ins)).refs.length aac)]) (heap_alloc_new x _) rfl ⟨ay.later (RP) ((Mv.refl _ _).alloc _),trivial⟩⟩
      case s15 =>
       refine Qt rfl (λvs x hx hP => ?_);have h0:vs 0=_:=hP 0 (by simp);have p14:=hP 14 (by simp);obtain⟨g14,lh,b14⟩:=p14;have hG:Grow w6 x:=kM (kQ hx);have HX:=ł (nN.out x hG);obtain⟨a',c',w2',⟨hok,hv,hw⟩,hrow2,bK⟩:=Fy w4.heap.size _ _ _ _ x (HX.out.2.2) b14 (bS.out x hG) (by have:=MJ.out;omega);have HR2:=ł hrow2;have dE:=ł bK;clear hrow2 bK;clear hx hP;simp only[zR,h0,lh];go_simp;exact⟨dE.out.mono (λ_ e => .inl (.inr e)),a',c',by simp,by simpa using HR2.out⟩
      case s16 =>
       refine gT (by decide) (λvs x hx hP hL => ?_);have xq:=hL (by simp);obtain⟨adl,adm,qU,o15⟩:=xq;clear hx hP hL;simp only[zR,qU];go_simp;exact aZ (p:=λv y=>∃ a c,v = .slice a ((eF f (ae.ts l) slots i).length+1) c/\fG w4.heap.size y (.slice a ((eF f (ae.ts l) slots i).length+1) c) ((eF f (ae.ts l) slots i) ++ [ah ([⟨16,aj f ys 3,f.stacks+sa,0,0⟩]:List Ins)])) (Mv.refl _ _) ⟨_,_,rfl,o15⟩
     case done =>
     intro vs w7 hE;have h0:vs 0=_:=hE.val 0 (by simp) (by simp) (by simp);have h1:vs 1=_:=hE.val 1 (by simp) (by simp) (by simp);have h2:vs 2=_:=hE.val 2 (by simp) (by simp) (by simp);have h3:vs 3=_:=hE.val 3 (by simp) (by simp) (by simp);have h4:vs 4=_:=hE.val 4 (by simp) (by simp) (by simp);have h5:vs 5=_:=hE.val 5 (by simp) (by simp) (by simp);have h6:vs 6=_:=hE.val 6 (by simp) (by simp) (by simp);have h7:vs 7=_:=hE.val 7 (by simp) (by simp) (by simp);have h8:vs 8=_:=hE.val 8 (by simp) (by simp) (by simp);have h9:vs 9=_:=hE.val 9 (by simp) (by simp) (by simp);have h11:vs 11=_:=hE.val 11 (by simp) (by simp) (by simp);have p16:=hE.val 16 (by simp) (by simp) (by simp);obtain⟨adn,ado,h16,o16⟩:=p16;simp only[List.length_cons,List.length_nil,Nat.zero_add,Nat.reduceAdd];rw[show List.range 17=[0,1,2,3,4,5,6,7,8,9,10,11,12,13,14,15,16]from rfl];simp only[zR,h0,h1,h2,h3,h4,h5,h6,h7,h8,h9,h11,h16];clear h0 h1 h2 h3 h4 h5 h6 h7 h8 h9 h11 h16;have q9:=ł (show Grow w4 w7 from(Mv.drew dw.out).trans hE.mv (λb e => .inr (by
      rcases e with e|e
      · have:=dw.out.size;simp at e;omega
      · exact(Hd.out.lt b e).1)))
     have zY:=ł o16;clear hE o16 nN bS;go_wp2_with fail;exact⟨⟨i+1,by simp,by omega,q9.out,by rw[tT.out];exact zY.out⟩,by simp[intOf];omega⟩
   · have Uy:=ł (show ∃ C:Nat,C<=100000/\(C:Int)=(if sk=2 then sl else 1)/\qB f (aj f ys sk) ⟨sn,sk,sl,sa⟩=(List.range C).map (Ba f (aj f ys sk) sa)from by
      refine⟨if sk=2 then sl.toNat else 1,?_,?_,by unfold qB Ba;simp[hk3]⟩
      · have:=Bq.out;split <;> omega
      · have:=Bq.out;split <;> omega)
     obtain⟨C,Uz,hC2,UA⟩:=Uy.out;rw[UA]at tT Db;have ni:=ł Uz;have UB:=ł hC2;have e3:(sk == 3)=false:=by simpa using hk3
     clear Uz hC2 UA Uy hk3
     go_upto_if 72 with fail
     go_cut [13] (λv wc=>v = .int .i64 (C:Int)/\wc=w6)
     case first =>
      by_cases hk2:sk=2
      · subst hk2;have hC:=UB.out;simp only[if_true,↓reduceIte]at hC;subst hC;go_wp2_with fail
        go_meet
        case rel=>first|exact⟨rfl,rfl⟩|exact⟨by rw[hC],rfl⟩|exact⟨by simp[hC],rfl⟩
      · have e2:(sk == 2)=false:=by simpa using hk2
        have hC:=UB.out;rw[if_neg hk2]at hC;go_wp2_with fail
        go_meet
        case rel=>first|exact⟨rfl,rfl⟩|exact⟨by rw[hC],rfl⟩|exact⟨by simp[hC],rfl⟩
     case rest =>
      obtain⟨rfl,rfl⟩:=hcut;go_wp2_with fail
      go_loopw [9,76] (λlv t wr=>∃ (j:Nat),t = .int .i64 j/\j<=C/\Grow w4 wr/\wr.heap[B]? = some (.cells #[.string sn,.int .u8 sk,.int .i64 sl,.int .i64 sa] 81 (0,0))/\fG w4.heap.size wr lv (eF f (ae.ts l) slots i ++ (List.range j).map (Ba f (aj f ys sk) sa))) (λ_ t _=>C - (intOf t).toNat)
      case atStart=>exact⟨0,rfl,Nat.zero_le _,dw.out,gJ.out,by simpa using Hd.out⟩
      obtain⟨j,rfl,hj,hg,hb,hps⟩:=hrel;obtain⟨la,lc,hlv⟩:=hps.form;simp only[List.length_append,List.length_map,List.length_range]at hlv;subst hlv;have UD:=ł hg;have dV:=ł hb;have UE:=ł hps;clear hg hb hps;by_cases aad:j<C
      · have HJ:=ł (show j<C/\j<=100000 from⟨aad,by have:=ni.out;omega⟩);go_upto_region 16 with fail;refine fI 106 [some 79,some 80,some 81,some 82,some 83,some 15,none] [[],[],[0,1],[2],[3],[],[5,4]] [3] [.c (.int .i64 (aj f ys sk)),.c (.int .i64 j),.c (.int .i64 ((aj f ys sk)+(j:Int))),.p (λv y=>∃ g,v = .slice (some ⟨g,0,none⟩) 2 2/\y.heap[g]? = some (.cells #[.int .i64 5,.int .i64 ((aj f ys sk)+(j:Int))] 3 (0,0))),.c (.agg #[.int .u8 10,.int .i64 5,.int .i64 ((aj f ys sk)+(j:Int)),.int .i64 0,.int .i64 0]),.al 6 4 #[.int .u8 0,.int .i64 0,.int .i64 0,.int .i64 0,.int .i64 0] 60,.st 5] ⟨sH,trivial⟩ (cz rfl) ?steps ?done
        case steps =>
         refine⟨?s0,?s1,?s2,?s3,?s4,?s5,?s6,trivial⟩
         case s0|s1 =>
          refine oo (λvs x hP => ?_);simp only[zS];go_simp;exact gc
         case s2 =>
          refine om (λvs x hG hP => ?_);have hwr:IntKind.i64.wrap ((aj f ys sk)+(j:Int))=(aj f ys sk)+(j:Int):=IntWalk.i64_in _ (by have:=HO4.out ys sk;have:=HJ.out;omega);simp only[zS];go_simp;exact gc
         case s3 =>
          refine oo (λvs x hP => ?_);simp only[zS];go_simp;exact gl ⟨_,rfl,heap_alloc_new x _⟩
         case s4 =>
          refine om (λvs x hG hP => ?_);obtain⟨g3,h3,b3⟩:=pq hP 3;have HC:=ł (fO 10 (5) (((aj f ys sk)+(j:Int))) g3 _ x b3);simp only[zS,h3];go_simp;refine(HC.out).mono ?_;rintro e y ⟨rfl,hg⟩;exact⟨_,rfl,bu hg rfl⟩
         case s5 =>
          refine oz (λvs x => ?_);simp only[zS];go_simp;exact⟨rfl,rfl⟩
         case s6 =>
          refine os (λvs x g hg hb hv => ?_);have h4:vs 4=_:=hv;obtain⟨⟨c0,c1,c2⟩,c3,c4⟩:=bR hb;have zt:=aD hb;simp only[zS,hg,h4];go_simp;exact kC hb _ _ _ _ _
        case done =>
        intro vs w8 hE;have hG:=hE.jU;obtain⟨g5,a5,l5,m5,b5⟩:=hE.box 5;simp only[zS]at b5;simp only[zS,Nat.reduceAdd,a5];have fC:=ł b5;simp only[bJ]at fC;have nz:=ł (gtr UD.out hG);have tX:=ł (ai dV.out hG);have MK:=ł (UE.out.later hG);clear hE hG b5;go_upto_region 17 with fail;have sZ:=ł (λ(y:World) (hy:Grow w8 y)=>And.intro (aK.out.later (gtr aN.out (gtr nz.out hy))) (And.intro (ai tX.out hy) (And.intro (MK.out.later hy) (ai fC.out hy))));have bS:=ł (show ∀ y,Grow w8 y->w4.heap.size<=y.heap.size from λy hy=>(gtr nz.out hy).size);refine Nv (by kernel_rfl) 106 [some 84,some 85,some 86,some 87,some 88,some 89,some 90,some 91,some 92,some 93,some 94,some 95,some 96,some 97,some 98,some 99,some 100,some 101,some 102,some 9] [[],[],[],[2],[3],[4],[5],[],[7],[6,8],[],[9,10],[11],[12],[],[1,13,14],[15,13],[16],[0,17,16],[18,18,0,1,2,3,4,5,6,7,8,9,10,11,12,13,14,15,16,17,18]] [[],[],[],[2],[3],[4],[5],[],[7],[6,8],[],[9,10],[11],[12],[],[1,13,14],[15],[16],[0,17],[18]] [0,1,2,3,4,5,6,7,8,9,10,11,12,13,14,15,16,17] 18 [false,false,false,false,false,false,false,false,false,false,false,false,true,false,false,true,true,true,false,true] [Pc (.slice la ((eF f (ae.ts l) slots i).length+j) lc),Pc (.agg #[.int .u8 10,.int .i64 5,.int .i64 ((aj f ys sk)+(j:Int)),.int .i64 0,.int .i64 0]),Pc (.pointer (some ⟨G,0,none⟩)),Pc (.pointer (some ⟨G,0,none⟩)),Pc (.pointer (some ⟨G,0,none⟩)),Pc (.pointer (some ⟨G,1,none⟩)),Pc (.int .i64 f.cells),Pc (.pointer (some ⟨B,3,none⟩)),Pc (.int .i64 sa),Pc (.int .i64 (f.cells+sa)),Pc (.int .i64 j),Pc (.int .i64 (f.cells+sa+(j:Int))),(λv y=>∃ g,v = .slice (some ⟨g,0,none⟩) 2 2/\y.heap[g]? = some (.cells #[.int .i64 5,.int .i64 (f.cells+sa+(j:Int))] 3 (0,0))),Pc (.agg #[.int .u8 10,.int .i64 5,.int .i64 (f.cells+sa+(j:Int)),.int .i64 0,.int .i64 0]),Pc (.agg #[.int .u8 10,.int .i64 5,.int .i64 ((aj f ys sk)+(j:Int)),.int .i64 0,.int .i64 0]),(λv y=>∃ g,v = .slice (some ⟨g,0,none⟩) 3 3/\ax 5 Ins.cells y (.slice (some ⟨g,0,none⟩) 3 3) ([⟨10,5,(aj f ys sk)+(j:Int),0,0⟩,⟨10,5,f.cells+sa+(j:Int),0,0⟩,⟨10,5,(aj f ys sk)+(j:Int),0,0⟩]:List Ins)),(λv y=>ay y v (ah ([⟨10,5,(aj f ys sk)+(j:Int),0,0⟩,⟨10,5,f.cells+sa+(j:Int),0,0⟩,⟨10,5,(aj f ys sk)+(j:Int),0,0⟩]:List Ins))),(λv y=>∃ g,v = .slice (some ⟨g,0,none⟩) 1 1/\iw y (.slice (some ⟨g,0,none⟩) 1 1) [ah ([⟨10,5,(aj f ys sk)+(j:Int),0,0⟩,⟨10,5,f.cells+sa+(j:Int),0,0⟩,⟨10,5,(aj f ys sk)+(j:Int),0,0⟩]:List Ins)]),dC,(λv y=>∃ a c,v = .slice a (((eF f (ae.ts l) slots i).length+j)+1) c/\fG w4.heap.size y (.slice a (((eF f (ae.ts l) slots i).length+j)+1) c) ((eF f (ae.ts l) slots i) ++ ((List.range j).map (Ba f (aj f ys sk) sa) ++ [ah ([⟨10,5,(aj f ys sk)+(j:Int),0,0⟩,⟨10,5,f.cells+sa+(j:Int),0,0⟩,⟨10,5,(aj f ys sk)+(j:Int),0,0⟩]:List Ins)])))] (λb=>Value.ownBlock (.slice la ((eF f (ae.ts l) slots i).length+j) lc)=some b) (λv y=>∃ a c,v = .slice a (((eF f (ae.ts l) slots i).length+j)+1) c/\fG w4.heap.size y (.slice a (((eF f (ae.ts l) slots i).length+j)+1) c) ((eF f (ae.ts l) slots i) ++ ((List.range j).map (Ba f (aj f ys sk) sa) ++ [ah ([⟨10,5,(aj f ys sk)+(j:Int),0,0⟩,⟨10,5,f.cells+sa+(j:Int),0,0⟩,⟨10,5,(aj f ys sk)+(j:Int),0,0⟩]:List Ins)]))) (by kernel_rfl) rfl (by kernel_rfl) ⟨⟨iN _,λ_=>jh _⟩,⟨iN _,λ_=>jh _⟩,⟨iN _,λ_=>jh _⟩,⟨iN _,λ_=>jh _⟩,⟨iN _,λ_=>jh _⟩,⟨iN _,λ_=>jh _⟩,⟨iN _,λ_=>jh _⟩,⟨iN _,λ_=>jh _⟩,⟨iN _,λ_=>jh _⟩,⟨iN _,λ_=>jh _⟩,⟨iN _,λ_=>jh _⟩,⟨iN _,λ_=>jh _⟩,⟨(λv x y hg h=>by obtain⟨g,hv,hb⟩:=h;exact⟨g,hv,ai hb hg⟩),by simp⟩,⟨iN _,λ_=>jh _⟩,⟨iN _,λ_=>jh _⟩,⟨(λv x y hg h=>by obtain⟨g,hv,hb⟩:=h;exact⟨g,hv,hb.later hg⟩),by simp⟩,⟨(λv x y hg h=>h.later hg),by simp⟩,⟨(λv x y hg h=>by obtain⟨g,hv,hb⟩:=h;exact⟨g,hv,hb.later hg⟩),by simp⟩,⟨xM,λ_=>Ko⟩,⟨(λv x y hg h=>by obtain⟨a,c,hv,hb⟩:=h;exact⟨a,c,hv,hb.later hg⟩),by simp⟩,trivial⟩ (λv x y hg h=>by obtain⟨a,c,hv,hb⟩:=h;exact⟨a,c,hv,hb.later hg⟩) (by kernel_rfl) (by simp) ?steps ?done
        case steps =>
         refine⟨?s0,?s1,?s2,?s3,?s4,?s5,?s6,?s7,?s8,?s9,?s10,?s11,?s12,?s13,?s14,?s15,?s16,?s17,?s18,?s19,trivial⟩
         case s0|s2|s7|s10 =>
          refine gT (by decide) (λvs x hx hP hL => ?_);clear hx hP hL;simp only[zR];go_simp;exact bu (Mv.refl _ _) rfl
         case s1|s14 =>
          refine gT (by decide) (λvs x hx hP hL => ?_);have hG:Grow w8 x:=kM (kQ (hx (by simp)));have HX:=ł (sZ.out x hG);obtain⟨⟨i0,i1,i2⟩,i3,i4⟩:=bR HX.out.2.2.2;clear hx hP hL;simp only[zR];go_simp;exact bu (Mv.refl _ _) rfl
         case s3 =>
          refine gT (by decide) (λvs x hx hP hL => ?_);have h2:vs 2=_:=hP 2 (by simp) (by simp) (by simp);have hG:Grow w8 x:=kM (kQ (hx (by simp)));have HX:=ł (sZ.out x hG);obtain⟨⟨q0,q1,q2⟩,q3,q4⟩:=bR HX.out.1.blk;clear hx hP hL;simp only[zR,h2];go_simp;exact bu (Mv.refl _ _) rfl
         case s4 =>
          refine gT (by decide) (λvs x hx hP hL => ?_);have h3:vs 3=_:=hP 3 (by simp) (by simp) (by simp);clear hx hP hL;simp only[zR,h3];go_simp;exact bu (Mv.refl _ _) rfl
         case s5 =>
          refine gT (by decide) (λvs x hx hP hL => ?_);have h4:vs 4=_:=hP 4 (by simp) (by simp) (by simp);clear hx hP hL;simp only[zR,h4];go_simp;exact bu (Mv.refl _ _) rfl
         case s6 =>
          refine gT (by decide) (λvs x hx hP hL => ?_);have h5:vs 5=_:=hP 5 (by simp) (by simp) (by simp);have hG:Grow w8 x:=kM (kQ (hx (by simp)));have HX:=ł (sZ.out x hG);obtain⟨⟨q0,q1,q2⟩,q3,q4⟩:=bR HX.out.1.blk;clear hx hP hL;simp only[zR,h5];go_simp;exact bu (Mv.refl _ _) rfl
         case s8 =>
          refine gT (by decide) (λvs x hx hP hL => ?_);have h7:vs 7=_:=hP 7 (by simp) (by simp) (by simp);have hG:Grow w8 x:=kM (kQ (hx (by simp)));have HX:=ł (sZ.out x hG);obtain⟨s0,s1,s2,s3⟩:=dF HX.out.2.1;clear hx hP hL;simp only[zR,h7];go_simp;exact bu (Mv.refl _ _) rfl
         case s9 =>
          refine gT (by decide) (λvs x hx hP hL => ?_);have h6:vs 6=_:=hP 6 (by simp) (by simp) (by simp);have h8:vs 8=_:=hP 8 (by simp) (by simp) (by simp);have hG:Grow w8 x:=kM (kQ (hx (by simp)));have HX:=ł (sZ.out x hG);have hwr:IntKind.i64.wrap (f.cells+sa)=f.cells+sa:=IntWalk.i64_in _ (by have:=Uw.out;have:=Bq.out;omega);clear hx hP hL;simp only[zR,h6,h8];go_simp;exact bu (Mv.refl _ _) rfl
         case s11 =>
          refine gT (by decide) (λvs x hx hP hL => ?_);have h9:vs 9=_:=hP 9 (by simp) (by simp) (by simp);have h10:vs 10=_:=hP 10 (by simp) (by simp) (by simp);have hG:Grow w8 x:=kM (kQ (hx (by simp)));have HX:=ł (sZ.out x hG);have hwr:IntKind.i64.wrap (f.cells+sa+(j:Int))=f.cells+sa+(j:Int):=IntWalk.i64_in _ (by have:=Uw.out;have:=Bq.out;have:=HJ.out;omega);clear hx hP hL;simp only[zR,h9,h10];go_simp;exact bu (Mv.refl _ _) rfl
         case s12 =>
          refine gT (by decide) (λvs x hx hP hL => ?_);have h11:vs 11=_:=hP 11 (by simp) (by simp) (by simp);clear hx hP hL;simp only[zR,h11];go_simp;exact aZ (p:=λv y=>∃ g,v = .slice (some ⟨g,0,none⟩) 2 2/\y.heap[g]? = some (.cells #[.int .i64 5,.int .i64 (f.cells+sa+(j:Int))] 3 (0,0))) ((Mv.refl _ _).alloc _) ⟨_,rfl,heap_alloc_new x _⟩
         case s13 =>
          refine gT (by decide) (λvs x hx hP hL => ?_);have xh:=hP 12 (by simp) (by simp) (λ_=>by simp);obtain⟨g12,h12,b12⟩:=xh;have hG:Grow w8 x:=kM (kQ (hx (by simp)));have HX:=ł (sZ.out x hG);have HC:=ł (fO 10 (5) ((f.cells+sa+(j:Int))) g12 _ x b12);clear hx hP hL;simp only[zR,h12];go_simp;refine(HC.out).mono ?_;rintro e y ⟨rfl,hg⟩;exact⟨_,rfl,bu hg rfl⟩
         case s15 =>
          refine gT (by decide) (λvs x hx hP hL => ?_);have h1:vs 1=_:=hP 1 (by simp) (by simp) (by simp);have lg:vs 13=_:=hP 13 (by simp) (by simp) (by simp);have lh:vs 14=_:=hP 14 (by simp) (by simp) (by simp);clear hx hP hL;simp only[zR,h1,lg,lh];go_simp;exact aZ (p:=λv y=>∃ g,v = .slice (some ⟨g,0,none⟩) 3 3/\ax 5 Ins.cells y (.slice (some ⟨g,0,none⟩) 3 3) ([⟨10,5,(aj f ys sk)+(j:Int),0,0⟩,⟨10,5,f.cells+sa+(j:Int),0,0⟩,⟨10,5,(aj f ys sk)+(j:Int),0,0⟩]:List Ins)) ((Mv.refl _ _).alloc _) ⟨_,rfl,ax.bN (f:=Ins.cells) (l:=([⟨10,5,(aj f ys sk)+(j:Int),0,0⟩,⟨10,5,f.cells+sa+(j:Int),0,0⟩,⟨10,5,(aj f ys sk)+(j:Int),0,0⟩]:List Ins)) (λ_=>rfl) (heap_alloc_new x _) rfl (by simp)⟩
         case s16 =>
          refine gT (by decide) (λvs x hx hP hL => ?_);have xq:=hP 15 (by simp) (by simp) (λ_=>by simp);obtain⟨g15,qU,b15⟩:=xq;have hG:Grow w8 x:=kM (kQ (hx (by simp)));have HX:=ł (sZ.out x hG);have HC:=ł (iG _ _ x b15);clear hx hP hL;simp only[zR,qU];go_simp;refine(HC.out).mono ?_;rintro e y ⟨v,rfl,hp,hg⟩;exact⟨_,rfl,aZ (p:=λv y=>ay y v (ah ([⟨10,5,(aj f ys sk)+(j:Int),0,0⟩,⟨10,5,f.cells+sa+(j:Int),0,0⟩,⟨10,5,(aj f ys sk)+(j:Int),0,0⟩]:List Ins))) hg hp⟩
         case s17 =>
          refine gT (by decide) (λvs x hx hP hL => ?_);have p16:=hP 16 (by simp) (by simp) (λ_=>by simp);have zu:=p16;obtain⟨aae,aaf,aag,aah,h16,c16,f16⟩:=p16;rw[h16]at zu;have hG:Grow w8 x:=kM (kQ (hx (by simp)));have HX:=ł (sZ.out x hG);clear hx hP hL;simp only[zR,h16];go_simp;exact aZ (p:=λv y=>∃ g,v = .slice (some ⟨g,0,none⟩) 1 1/\iw y (.slice (some ⟨g,0,none⟩) 1 1) [ah ([⟨10,5,(aj f ys sk)+(j:Int),0,0⟩,⟨10,5,f.cells+sa+(j:Int),0,0⟩,⟨10,5,(aj f ys sk)+(j:Int),0,0⟩]:List Ins)]) ((Mv.refl _ _).alloc _) ⟨_,rfl,sw (vs:=[(.slice aae (ah ([⟨10,5,(aj f ys sk)+(j:Int),0,0⟩,⟨10,5,f.cells+sa+(j:Int),0,0⟩,⟨10,5,(aj f ys sk)+(j:Int),0,0⟩]:List Ins)).code.length aaf,.slice aag (ah ([⟨10,5,(aj f ys sk)+(j:Int),0,0⟩,⟨10,5,f.cells+sa+(j:Int),0,0⟩,⟨10,5,(aj f ys sk)+(j:Int),0,0⟩]:List Ins)).refs.length aah)]) (heap_alloc_new x _) rfl ⟨ay.later (zu) ((Mv.refl _ _).alloc _),trivial⟩⟩
         case s18 =>
          refine Qt rfl (λvs x hx hP => ?_);have h0:vs 0=_:=hP 0 (by simp);have qY:=hP 17 (by simp);obtain⟨g17,jO,b17⟩:=qY;have hG:Grow w8 x:=kM (kQ hx);have HX:=ł (sZ.out x hG);obtain⟨a',c',w2',⟨hok,hv,hw⟩,hrow2,bK⟩:=Fy w4.heap.size _ _ _ _ x (HX.out.2.2.1) b17 (bS.out x hG) (by have:=Db.out;simp only[List.length_append,List.length_map,List.length_range]at this ⊢;have:=HJ.out;omega);have HR2:=ł hrow2;have dE:=ł bK;clear hrow2 bK;clear hx hP;simp only[zR,h0,jO];go_simp;exact⟨dE.out.mono (λ_ e => .inl (.inr e)),a',c',by simp,by simpa using HR2.out⟩
         case s19 =>
          refine gT (by decide) (λvs x hx hP hL => ?_);have p18:=hL (by simp);obtain⟨adp,adq,h18,o18⟩:=p18;clear hx hP hL;simp only[zR,h18];go_simp;exact aZ (p:=λv y=>∃ a c,v = .slice a (((eF f (ae.ts l) slots i).length+j)+1) c/\fG w4.heap.size y (.slice a (((eF f (ae.ts l) slots i).length+j)+1) c) ((eF f (ae.ts l) slots i) ++ ((List.range j).map (Ba f (aj f ys sk) sa) ++ [ah ([⟨10,5,(aj f ys sk)+(j:Int),0,0⟩,⟨10,5,f.cells+sa+(j:Int),0,0⟩,⟨10,5,(aj f ys sk)+(j:Int),0,0⟩]:List Ins)]))) (Mv.refl _ _) ⟨_,_,rfl,o18⟩
        case done =>
        intro vs w9 hE;have h0:vs 0=_:=hE.val 0 (by simp) (by simp) (by simp);have h1:vs 1=_:=hE.val 1 (by simp) (by simp) (by simp);have h2:vs 2=_:=hE.val 2 (by simp) (by simp) (by simp);have h3:vs 3=_:=hE.val 3 (by simp) (by simp) (by simp);have h4:vs 4=_:=hE.val 4 (by simp) (by simp) (by simp);have h5:vs 5=_:=hE.val 5 (by simp) (by simp) (by simp);have h6:vs 6=_:=hE.val 6 (by simp) (by simp) (by simp);have h7:vs 7=_:=hE.val 7 (by simp) (by simp) (by simp);have h8:vs 8=_:=hE.val 8 (by simp) (by simp) (by simp);have h9:vs 9=_:=hE.val 9 (by simp) (by simp) (by simp);have h10:vs 10=_:=hE.val 10 (by simp) (by simp) (by simp);have h11:vs 11=_:=hE.val 11 (by simp) (by simp) (by simp);have lg:vs 13=_:=hE.val 13 (by simp) (by simp) (by simp);have lh:vs 14=_:=hE.val 14 (by simp) (by simp) (by simp);have p19:=hE.val 19 (by simp) (by simp) (by simp);obtain⟨adr,ads,h19,UF⟩:=p19;simp only[List.length_cons,List.length_nil,Nat.zero_add,Nat.reduceAdd];rw[show List.range 20=[0,1,2,3,4,5,6,7,8,9,10,11,12,13,14,15,16,17,18,19]from rfl];simp only[zR,h0,h1,h2,h3,h4,h5,h6,h7,h8,h9,h10,h11,lg,lh,h19];clear h0 h1 h2 h3 h4 h5 h6 h7 h8 h9 h10 h11 lg lh h19;have q9:=ł (show Grow w4 w9 from(Mv.drew nz.out).trans hE.mv (λb e => .inr (by
         rcases e with e|e
         · have:=nz.out.size;simp at e;omega
         · exact(MK.out.lt b e).1)))
        have Bp:=ł (show w9.heap[B]? = some (.cells #[.string sn,.int .u8 sk,.int .i64 sl,.int .i64 sa] 81 (0,0))from(hE.mv.block B (lt_of_block tX.out) (λe=>by
         rcases e with e|e
         · have:=lt_of_block tX.out;simp at e;omega
         · exact MK.out.tag tX.out (by decide) e)).trans tX.out)
        have zY:=ł UF;clear hE UF sZ bS;have hwj:IntKind.i64.wrap ((j:Int)+1)=(j:Int)+1:=IntWalk.i64_in _ (by have:=HJ.out;omega);go_wp2_with fail;exact⟨⟨j+1,by simp,by omega,q9.out,Bp.out,by rw[List.range_succ,List.map_append];exact zY.out⟩,by simp[intOf];omega⟩
      · have qO:j=C:=by omega
        subst qO;go_wp2_with fail;exact⟨⟨i+1,by simp,by omega,UD.out,by rw[tT.out];exact UE.out⟩,by simp[intOf];omega⟩
 · have hie:i=slots.length:=by omega
   subst hie;have aQ:=ł (gtr aN.out HG.out);have bC:=ł (pQ.out.low (base':=w.heap.size) aN.out.size);rw[Xj f (ae.ts l) slots (by rw[ae.bT];exact yx.out)]at bC;go_wp2_with fail;go_ret;exact⟨_,rfl,bC.out,aQ.out⟩
end Go.Proofs.YtnobahchcongnaaGreat
