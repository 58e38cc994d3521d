import Derived.Test.YtnobahchcongnaaGreatDoorR28
import Derived.Deep.DeepCutAuto
import Derived.Deep.CutBlock
set_option linter.unusedSimpArgs false
set_option linter.unusedVariables false
set_option maxRecDepth 100000
set_option maxHeartbeats 25600000
namespace Go.Proofs.YtnobahchcongnaaGreatDoor
open Go.RowKit Go.Instr
attribute [local go_sem ↓] ni
theorem fQ.tag {base:Nat} {w:World} {v:Value} {l:List aB} {g:Nat} {cs:Array Value} {t:TypeId} {z:Nat × Nat} (h:fQ base w v l) (hb:w.heap[g]? = some (.cells cs t z)) (ht:t≠34):v.ownBlock≠some g:=by
 obtain⟨vs,h1,h2,_⟩:=h;exact dK h2 hb ht
theorem fQ.low {base base':Nat} {w:World} {v:Value} {l:List aB} (h:fQ base w v l) (hb:base'<=base):fQ base' w v l:=by
 obtain⟨vs,h1,h2,h3⟩:=h;refine⟨vs,h1,⟨h2.1,?_⟩,h3⟩;rcases h2.2 with h3|⟨g,cap,cur,e,h3,h4⟩
 · exact .inl h3
 · exact .inr ⟨g,cap,cur,e,by omega,h4⟩
def Cy (f:ax) (x at':Int) (j:Nat):aB:=ah [⟨10,5,x+j,0,0⟩,⟨10,5,f.cells+at'+j,0,0⟩,⟨10,5,x+j,0,0⟩]
def fq (f:ax) (kids:List Tree) (slots:List dA) (i:Nat):List aB:=(((kids.zip slots).take i).map λx=>pF f (aj f x.1.name x.2.kind) x.2).flatten
theorem XU (f:ax) (kids:List Tree) (slots:List dA) (i:Nat) (h:kids.length=slots.length) (hi:i<kids.length):fq f kids slots (i+1)=fq f kids slots i ++ pF f (aj f kids[i].name (slots[i]'(by omega)).kind) (slots[i]'(by omega)):=by
 unfold fq;rw[Pk kids slots i h hi];simp
theorem YK (f:ax) (kids:List Tree) (slots:List dA) (h:kids.length=slots.length):fq f kids slots slots.length=ji f kids slots:=by
 unfold fq ji;rw[List.take_of_length_le (by simp;omega)]
theorem Qx (f:ax) (kids:List Tree) (slots:List dA) (i:Nat):(fq f kids slots i).length<=(ji f kids slots).length:=by
 unfold fq ji
 conv=>rhs;rw[← List.take_append_drop i (kids.zip slots)]
 rw[List.map_append,List.flatten_append,List.length_append];omega
theorem Pv (l:List bu):(frameC l).slots.length=l.length:=by
 have:∀ (l:List bu) (f:ax),(l.foldl lH f).slots.length=f.slots.length+l.length:=by
  intro l
  induction l with
  |nil=>intro f;rfl
  |cons v l ih =>
   intro f;rw[List.foldl_cons,ih];have:(lH f v).slots.length=f.slots.length+1:=by
    unfold lH;split
    · simp
    · split <;> simp
   rw[this,List.length_cons];omega
 unfold frameC;rw[this];simp[iK]
def PsG (w:World) (l:List aB) (e:Ending) (w':World):Prop:=∃ v,e = .returned v/\fQ w.heap.size w' v l/\Grow w w'
def L6 (f:ax) (params:List bu):Prop:=jf params=0/\(0<=f.cells/\f.cells<=1000)/\(0<=f.stacks/\f.stacks<=1000)/\(∀ s k,0<=aj f s k/\aj f s k<=100000)/\∀ s∈(frameC params).slots,0<=s.len/\s.len<=100000/\0<=s.at'/\s.at'<=100000
theorem ZA (hof:vO) (w:World) (G:Nat) (sv pv:Value) (f:ax) (procs:List ak) (hg:gX w G sv pv f procs) (k n:Int) (s:ByteArray) (kv:Value) (l:List ae) (hx:aR w (.mk k n s kv l))
 (hlen:l.length=((eQ procs s).getD gU).params.length) (hok:L6 f ((eQ procs s).getD gU).params) (hsz:(ji f (ae.ts l) (frameC ((eQ procs s).getD gU).params).slots).length<=100000) :
 Calls Tryz.prog 109 #[.pointer (some ⟨G,0,none⟩),ae.val (.mk k n s kv l)] w (PsG w (ji f (ae.ts l) (frameC ((eQ procs s).getD gU).params).slots)):=by
 obtain⟨fa,fc,rfl,hfc,hfl⟩:=hg.fr.row.form;obtain⟨pa,pc,rfl,-,-⟩:=hg.pr.row.form;obtain⟨ka,kc,rfl,hkc,hkl⟩:=hx.form;have uD:=ł (λ(y:World) (hy:Grow w y)=>KE (.slice pa procs.length pc) procs s y (hg.pr.later hy));have xz:=Ke hg.pr s;generalize (eQ procs s).getD gU=p at *;generalize (eQ procs s).isSome=found at *;obtain⟨ps,params,qv,body⟩:=p;obtain⟨qa,qc,rfl,hqc,ll⟩:=xz.form;have fZ:=ł xz.params;obtain⟨bk,bn,bs,Jk,bl⟩:=body;obtain⟨ba,bc,rfl,-,-⟩:=xz.body.form;simp only[ak.val]at uD;simp only at hlen hok hsz ⊢;have aM:=ł hg;have jR:=ł hx;have HLEN:=ł hlen;have sV:=ł hok;have jq:=ł hsz;have aF:=ł (heap_alloc_new w (.cells #[.int .u8 k,.int .i64 n,.string s,.slice ka l.length kc] 24));have df:=ł (show Grow w (w.alloc (.cells #[.int .u8 k,.int .i64 n,.string s,.slice ka l.length kc] 24))from(Mv.refl _ w).alloc _);clear hg hx xz hlen hok hsz;simp only[ae.val]
 go_enter Tryz.func109,Tryz.ntmps109
 go_upto_region 1 with fail;generalize (w.alloc (.cells #[.int .u8 k,.int .i64 n,.string s,.slice ka l.length kc] 24))=w1 at *;have oJ:=ł (λ(y:World) (hy:Grow w1 y)=>And.intro (aM.out.later (gtr df.out hy)) (ai aF.out hy));refine wg 106 [some 17,some 18,some 19,some 20,some 21,some 22,some 23,some 16,some 24,some 25,some 5,none,some 6] [[],[0],[1],[2],[],[4],[3,5],[6],[7],[7],[],[10,8],[9]] [] [.c (.pointer (some ⟨G,0,none⟩)),.c (.pointer (some ⟨G,0,none⟩)),.c (.pointer (some ⟨G,3,none⟩)),.c (.slice pa procs.length pc),.c (.pointer (some ⟨w.heap.size,2,none⟩)),.c (.string s),.c (.tuple #[.agg #[.string ps,.slice qa params.length qc,.int .u8 bk,.int .i64 bn,.string bs,.slice ba bl.length bc],.bool found]),.c (.tuple #[.agg #[.string ps,.slice qa params.length qc,.int .u8 bk,.int .i64 bn,.string bs,.slice ba bl.length bc],.bool found]),.c (.agg #[.string ps,.slice qa params.length qc,.int .u8 bk,.int .i64 bn,.string bs,.slice ba bl.length bc]),.c (.bool found),.al 11 8 #[.string ⟨#[]⟩,.slice none 0 0,.int .u8 0,.int .i64 0,.string ⟨#[]⟩,.slice none 0 0] 60,.st 10,.c (.bool found)] trivial (dP rfl) ?steps ?done
 case steps =>
  refine⟨?s0,?s1,?s2,?s3,?s4,?s5,?s6,?s7,?s8,?s9,?s10,?s11,?s12,trivial⟩
  case s0|s2|s4|s7|s8|s9|s12 =>
   refine oo (λvs x hP => ?_);simp only[zS];go_simp;exact gc
  case s1|s3 =>
   refine ok oJ (λvs x hG HX hP => ?_);obtain⟨⟨q0,q1,q2⟩,q3,q4⟩:=bJ HX.out.1.blk;simp only[zS];go_simp;exact gc
  case s5 =>
   refine ok oJ (λvs x hG HX hP => ?_);obtain⟨⟨n0,n1⟩,n2,n3⟩:=aC HX.out.2;simp only[zS];go_simp;exact gc
  case s6 =>
   refine ok oJ (λvs x hG HX hP => ?_);have HC:=ł (uD.out x (gtr df.out hG));simp only[zS];go_simp;refine(HC.out).mono ?_;rintro e y ⟨rfl,hg⟩;exact⟨_,rfl,aX hg rfl⟩
  case s10 =>
   refine oz (λvs x => ?_);simp only[zS];go_simp;exact⟨rfl,rfl⟩
  case s11 =>
   refine os (λvs x g hg hb hv => ?_);have h8:vs 8=_:=hv;obtain⟨⟨c0,c1,c2⟩,c3,c4,c5⟩:=yz hb;have zt:=aG hb;simp only[zS,hg,h8];go_simp;exact Mh hb _ _ _ _ _ _
 case done =>
 intro vs w2 hE;have hG:=hE.grow;obtain⟨g10,Bb,l10,m10,b10⟩:=hE.box 10;simp only[zS]at b10;simp only[zS,Nat.reduceAdd,Bb];have ku:=ł b10;simp only[bG]at ku;have HG2:=ł (gtr df.out hG);have sW:=ł (ai aF.out hG);clear hE hG b10 oJ uD aF;obtain⟨⟨p0,p1,p2⟩,p3,p4,p5⟩:=yz ku.out;have hlp:=lt_of_block ku.out;go_wp2_with fail;refine(hof _ params _ (fZ.out.later HG2.out)).mono ?_;rintro e w3 ⟨sv3,rfl,hfr,hg⟩;obtain⟨ho1,ho2,ho3,VK,VL⟩:=sV.out;simp only[ho1,if_true,↓reduceIte]at hfr ⊢;have lD:=ł (Pv params);have VM:=ł ho2;have HO3:=ł ho3;have HO4:=ł VK;have JK:=ł VL;clear ho1 ho2 ho3 VK VL sV p0 p1 p2 p3 p4 p5 hlp ku;generalize frameC params=c at *;obtain⟨slots,cc,cs⟩:=c;obtain⟨FB,FC,rfl,afb,afc⟩:=hfr.row.form;have AY:=ł hfr.row;have aH:=ł (gtr HG2.out hg);have pO:=ł (ai sW.out hg);have wm:=ł (heap_alloc_new w3 (.cells #[.slice FB slots.length FC,.int .i64 cc,.int .i64 cs] 27));have aP:=ł (gtr aH.out ((Mv.refl _ w3).alloc (.cells #[.slice FB slots.length FC,.int .i64 cc,.int .i64 cs] 27)));have ru:=ł (aS pO.out (.cells #[.slice FB slots.length FC,.int .i64 cc,.int .i64 cs] 27));have gM:=ł (AY.out.later ((Mv.refl _ w3).alloc (.cells #[.slice FB slots.length FC,.int .i64 cc,.int .i64 cs] 27)));clear hfr hg HG2 sW pO AY;simp only at lD JK jq ⊢;have hlf:=lt_of_block wm.out;obtain⟨f0,f1,f2⟩:=cK wm.out;go_wp2_with fail;generalize w3.alloc (.cells #[.slice FB slots.length FC,.int .i64 cc,.int .i64 cs] 27)=w4 at *;clear f0 f1 f2 hlf;have zx:=ł (show l.length=slots.length from by rw[HLEN.out,lD.out])
 go_loopw [9,36] (λlv t wr=>∃ (i:Nat),t = .int .i64 i/\i<=slots.length/\Grow w4 wr/\fQ w4.heap.size wr lv (fq f (ae.ts l) slots i)) (λ_ t _=>slots.length - (intOf t).toNat)
 case atStart=>exact⟨0,rfl,Nat.zero_le _,Mv.refl _ _,fQ.nil _ _⟩
 obtain⟨i,rfl,hi,hg,hps⟩:=hrel;have HG:=ł hg;have uI:=ł hps;clear hg hps;have Ou:=ł (show(fq f (ae.ts l) slots i).length<=100000 from Nat.le_trans (Qx _ _ _ _) jq.out);by_cases hlt:i<slots.length
 · have hil:i<l.length:=by have:=zx.out;omega
   obtain⟨b,off,cap',e,_,hcc⟩:=(gM.out.later HG.out).at hlt;simp only[Value.slice.injEq,true_and]at e;obtain⟨rfl,rfl⟩:=e;have c0:=hcc 0 _ rfl;have c1:=hcc 1 _ rfl;have c2:=hcc 2 _ rfl;have c3:=hcc 3 _ rfl;obtain⟨kb,ko,y9,bU,-,-⟩:=jR.out.row.2.2.2.1.at (show 0<l.length by omega);simp only[Value.slice.injEq,true_and]at bU;obtain⟨rfl,rfl⟩:=bU;have fT:=fe jR.out i hil;have HT:=ł (XU f (ae.ts l) slots i (by rw[ae.cz];exact zx.out) (by rw[ae.cz];exact hil));rw[ae.gW l i hil]at HT;have CS:=ł (JK.out slots[i] (List.getElem_mem hlt));have EI:=ł (show(fq f (ae.ts l) slots (i+1)).length<=100000 from Nat.le_trans (Qx _ _ _ _) jq.out);rw[HT.out]at EI;generalize l[i]=y at *;generalize slots[i]=sd at *;obtain⟨yk,yn,ys,yv,yl⟩:=y;obtain⟨sn,sk,sl,sa⟩:=sd;simp only[Nat.add_zero]at c0 c1 c2 c3 CS;have hbl:b<wr.heap.size:=World.block_lt_of_cell? wr _ c0;have rG:=ł (heap_alloc_new wr (.cells #[.string sn,.int .u8 sk,.int .i64 sl,.int .i64 sa] 95));have aU:=ł (HG.out.alloc (.cells #[.string sn,.int .u8 sk,.int .i64 sl,.int .i64 sa] 95));have wE:=ł (uI.out.later ((Mv.refl _ wr).alloc (.cells #[.string sn,.int .u8 sk,.int .i64 sl,.int .i64 sa] 95)));have uL:=ł fT;clear hcc fT;go_upto_region 7 with fail;clear c0 c1 c2 c3 hbl;generalize hBe:wr.heap.size=B at *;generalize wr.alloc (.cells #[.string sn,.int .u8 sk,.int .i64 sl,.int .i64 sa] 95)=w5 at *;have CU:=ł (λ(y:World) (hy:Grow w5 y)=>And.intro (aM.out.later (gtr aP.out (gtr aU.out hy))) (And.intro (ai ru.out (gtr aU.out hy)) (And.intro (uL.out.later (gtr aP.out (gtr aU.out hy))) (ai rG.out hy))));refine wg 106 [some 41,some 42,some 43,some 44,some 45,some 46,some 47,some 48,some 49,some 50,some 12] [[],[],[1],[],[2,3],[4],[5],[],[7],[0,6,8],[9]] [] [.c (.pointer (some ⟨G,0,none⟩)),.c (.pointer (some ⟨w.heap.size,3,none⟩)),.c (.slice (some ⟨kb,ko,none⟩) l.length kc),.c (.int .i64 i),.c (.pointer (some ⟨kb,ko+i * 4,none⟩)),.c (.pointer (some ⟨kb,ko+i * 4+2,none⟩)),.c (.string ys),.c (.pointer (some ⟨B,1,none⟩)),.c (.int .u8 sk),.c (.int .i64 (aj f ys sk)),.c (.int .i64 (aj f ys sk))] trivial (dP rfl) ?steps ?done
   case steps =>
    refine⟨?s0,?s1,?s2,?s3,?s4,?s5,?s6,?s7,?s8,?s9,?s10,trivial⟩
    case s0|s1|s3|s5|s7|s10 =>
     refine oo (λvs x hP => ?_);simp only[zS];go_simp;exact gc
    case s2 =>
     refine ok CU (λvs x hG HX hP => ?_);obtain⟨⟨n0,n1⟩,n2,n3⟩:=aC HX.out.2.1;simp only[zS];go_simp;exact gc
    case s4 =>
     refine ok CU (λvs x hG HX hP => ?_);have hbd:i<l.length:=hil;simp only[zS];go_simp;exact gc
    case s6 =>
     refine ok CU (λvs x hG HX hP => ?_);have d2:=HX.out.2.2.1.four.2.1;simp only[zS];go_simp;exact gc
    case s8 =>
     refine ok CU (λvs x hG HX hP => ?_);obtain⟨s0,s1,s2,s3⟩:=dN HX.out.2.2.2;simp only[zS];go_simp;exact gc
    case s9 =>
     refine ok CU (λvs x hG HX hP => ?_);have HC:=ł (vB x G _ _ f procs HX.out.1 ys sk);simp only[zS];go_simp;refine(HC.out).mono ?_;rintro e y ⟨rfl,hg⟩;exact⟨_,rfl,aX hg rfl⟩
   case done =>
   intro vs w6 hE;have hG:=hE.grow;simp only[zS,Nat.reduceAdd];have di:=ł (gtr aU.out hG);have il:=ł (ai rG.out hG);have JL:=ł (wE.out.later hG);clear hE hG CU rG wE aU;obtain⟨s0,s1,s2,s3⟩:=dN il.out;have hlb:=lt_of_block il.out;have uJ:=ł (show fq f (ae.ts l) slots (i+1)=fq f (ae.ts l) slots i ++ pF f (aj f ys sk) ⟨sn,sk,sl,sa⟩from HT.out);clear HT;have EI:=ł (show(fq f (ae.ts l) slots i ++ pF f (aj f ys sk) ⟨sn,sk,sl,sa⟩).length<=100000 from EI.out);by_cases hk3:sk=3
   · subst hk3;obtain⟨la,lc,hlv⟩:=JL.out.form;subst hlv;go_upto_region 9 with fail;clear s0 s1 s2 s3 hlb;have xY:=ł (λ(y:World) (hy:Grow w6 y)=>And.intro (aM.out.later (gtr aP.out (gtr di.out hy))) (And.intro (ai il.out hy) (JL.out.later hy)));have cZ:=ł (show ∀ y,Grow w6 y->w4.heap.size<=y.heap.size from λy hy=>(gtr di.out hy).size);refine F7 (by kernel_rfl) 106 [some 54,some 55,some 56,some 57,some 58,some 59,some 60,some 61,some 62,some 63,some 64,some 65,some 66,some 67,some 68,some 69,some 9] [[],[],[],[2],[3],[4],[5],[],[7],[6,8],[1,9],[10],[11],[12,11],[13],[0,14,13],[15,15,0,1,2,3,4,5,6,7,8,9,10,11,12,13,14,15]] [[],[],[],[2],[3],[4],[5],[],[7],[6,8],[1,9],[10],[11],[12],[13],[0,14],[15]] [0,1,2,3,4,5,6,7,8,9,10,11,12,13,14] 15 [false,false,false,false,false,false,false,false,false,false,true,false,true,true,true,false,true] [Pc (.slice la (fq f (ae.ts l) slots i).length lc),Pc (.int .i64 (aj f ys 3)),Pc (.pointer (some ⟨G,0,none⟩)),Pc (.pointer (some ⟨G,0,none⟩)),Pc (.pointer (some ⟨G,0,none⟩)),Pc (.pointer (some ⟨G,2,none⟩)),Pc (.int .i64 f.stacks),Pc (.pointer (some ⟨B,3,none⟩)),Pc (.int .i64 sa),Pc (.int .i64 (f.stacks+sa)),(λv y=>∃ g,v = .slice (some ⟨g,0,none⟩) 2 2/\y.heap[g]? = some (.cells #[.int .i64 (aj f ys 3),.int .i64 (f.stacks+sa)] 3 (0,0))),Pc (.agg #[.int .u8 16,.int .i64 (aj f ys 3),.int .i64 (f.stacks+sa),.int .i64 0,.int .i64 0]),(λv y=>∃ g,v = .slice (some ⟨g,0,none⟩) 1 1/\az 5 Ins.cells y (.slice (some ⟨g,0,none⟩) 1 1) ([⟨16,aj f ys 3,f.stacks+sa,0,0⟩]:List Ins)),(λv y=>ay y v (ah ([⟨16,aj f ys 3,f.stacks+sa,0,0⟩]:List Ins))),(λv y=>∃ g,v = .slice (some ⟨g,0,none⟩) 1 1/\iG y (.slice (some ⟨g,0,none⟩) 1 1) [ah ([⟨16,aj f ys 3,f.stacks+sa,0,0⟩]:List Ins)]),dB,(λv y=>∃ a c,v = .slice a ((fq f (ae.ts l) slots i).length+1) c/\fQ w4.heap.size y (.slice a ((fq f (ae.ts l) slots i).length+1) c) ((fq f (ae.ts l) slots i) ++ [ah ([⟨16,aj f ys 3,f.stacks+sa,0,0⟩]:List Ins)]))] (λb=>Value.ownBlock (.slice la (fq f (ae.ts l) slots i).length lc)=some b) (λv y=>∃ a c,v = .slice a ((fq f (ae.ts l) slots i).length+1) c/\fQ w4.heap.size y (.slice a ((fq f (ae.ts l) slots i).length+1) c) ((fq f (ae.ts l) slots i) ++ [ah ([⟨16,aj f ys 3,f.stacks+sa,0,0⟩]:List Ins)])) (by kernel_rfl) rfl (by kernel_rfl) ⟨⟨eT _,λ_=>fu _⟩,⟨eT _,λ_=>fu _⟩,⟨eT _,λ_=>fu _⟩,⟨eT _,λ_=>fu _⟩,⟨eT _,λ_=>fu _⟩,⟨eT _,λ_=>fu _⟩,⟨eT _,λ_=>fu _⟩,⟨eT _,λ_=>fu _⟩,⟨eT _,λ_=>fu _⟩,⟨eT _,λ_=>fu _⟩,⟨(λv x y hg h=>by obtain⟨g,hv,hb⟩:=h;exact⟨g,hv,ai hb hg⟩),by simp⟩,⟨eT _,λ_=>fu _⟩,⟨(λv x y hg h=>by obtain⟨g,hv,hb⟩:=h;exact⟨g,hv,hb.later hg⟩),by simp⟩,⟨(λv x y hg h=>h.later hg),by simp⟩,⟨(λv x y hg h=>by obtain⟨g,hv,hb⟩:=h;exact⟨g,hv,hb.later hg⟩),by simp⟩,⟨vF,λ_=>DV⟩,⟨(λv x y hg h=>by obtain⟨a,c,hv,hb⟩:=h;exact⟨a,c,hv,hb.later hg⟩),by simp⟩,trivial⟩ (λv x y hg h=>by obtain⟨a,c,hv,hb⟩:=h;exact⟨a,c,hv,hb.later hg⟩) (by kernel_rfl) (by simp) ?steps ?done
     case steps =>
      refine⟨?s0,?s1,?s2,?s3,?s4,?s5,?s6,?s7,?s8,?s9,?s10,?s11,?s12,?s13,?s14,?s15,?s16,trivial⟩
      case s0|s1|s2|s7 =>
       refine eG (by decide) (λvs x hx hP hL => ?_);clear hx hP hL;simp only[zR];go_simp;exact aX (Mv.refl _ _) rfl
      case s3 =>
       refine eG (by decide) (λvs x hx hP hL => ?_);have h2:vs 2=_:=hP 2 (by simp) (by simp) (by simp);have hG:Grow w6 x:=gG (gH (hx (by simp)));have HX:=ł (xY.out x hG);obtain⟨⟨q0,q1,q2⟩,q3,q4⟩:=bJ HX.out.1.blk;clear hx hP hL;simp only[zR,h2];go_simp;exact aX (Mv.refl _ _) rfl
      case s4 =>
       refine eG (by decide) (λvs x hx hP hL => ?_);have h3:vs 3=_:=hP 3 (by simp) (by simp) (by simp);clear hx hP hL;simp only[zR,h3];go_simp;exact aX (Mv.refl _ _) rfl
      case s5 =>
       refine eG (by decide) (λvs x hx hP hL => ?_);have h4:vs 4=_:=hP 4 (by simp) (by simp) (by simp);clear hx hP hL;simp only[zR,h4];go_simp;exact aX (Mv.refl _ _) rfl
      case s6 =>
       refine eG (by decide) (λvs x hx hP hL => ?_);have h5:vs 5=_:=hP 5 (by simp) (by simp) (by simp);have hG:Grow w6 x:=gG (gH (hx (by simp)));have HX:=ł (xY.out x hG);obtain⟨⟨q0,q1,q2⟩,q3,q4⟩:=bJ HX.out.1.blk;clear hx hP hL;simp only[zR,h5];go_simp;exact aX (Mv.refl _ _) rfl
      case s8 =>
       refine eG (by decide) (λvs x hx hP hL => ?_);have h7:vs 7=_:=hP 7 (by simp) (by simp) (by simp);have hG:Grow w6 x:=gG (gH (hx (by simp)));have HX:=ł (xY.out x hG);obtain⟨s0,s1,s2,s3⟩:=dN HX.out.2.1;clear hx hP hL;simp only[zR,h7];go_simp;exact aX (Mv.refl _ _) rfl
      case s9 =>
       refine eG (by decide) (λvs x hx hP hL => ?_);have h6:vs 6=_:=hP 6 (by simp) (by simp) (by simp);have h8:vs 8=_:=hP 8 (by simp) (by simp) (by simp);have hG:Grow w6 x:=gG (gH (hx (by simp)));have HX:=ł (xY.out x hG);have hwr:IntKind.i64.wrap (f.stacks+sa)=f.stacks+sa:=IntWalk.i64_in _ (by have:=HO3.out;have:=CS.out;omega);clear hx hP hL;simp only[zR,h6,h8];go_simp;exact aX (Mv.refl _ _) rfl
      case s10 =>
       refine eG (by decide) (λvs x hx hP hL => ?_);have h1:vs 1=_:=hP 1 (by simp) (by simp) (by simp);have h9:vs 9=_:=hP 9 (by simp) (by simp) (by simp);clear hx hP hL;simp only[zR,h1,h9];go_simp;exact aW (p:=λv y=>∃ g,v = .slice (some ⟨g,0,none⟩) 2 2/\y.heap[g]? = some (.cells #[.int .i64 (aj f ys 3),.int .i64 (f.stacks+sa)] 3 (0,0))) ((Mv.refl _ _).alloc _) ⟨_,rfl,heap_alloc_new x _⟩
      case s11 =>
       refine eG (by decide) (λvs x hx hP hL => ?_);have Bp:=hP 10 (by simp) (by simp) (λ_=>by simp);obtain⟨g10,h10,b10⟩:=Bp;have hG:Grow w6 x:=gG (gH (hx (by simp)));have HX:=ł (xY.out x hG);have HC:=ł (gu 16 ((aj f ys 3)) ((f.stacks+sa)) g10 _ x b10);clear hx hP hL;simp only[zR,h10];go_simp;refine(HC.out).mono ?_;rintro e y ⟨rfl,hg⟩;exact⟨_,rfl,aX hg rfl⟩
      case s12 =>
       refine eG (by decide) (λvs x hx hP hL => ?_);have h11:vs 11=_:=hP 11 (by simp) (by simp) (by simp);clear hx hP hL;simp only[zR,h11];go_simp;exact aW (p:=λv y=>∃ g,v = .slice (some ⟨g,0,none⟩) 1 1/\az 5 Ins.cells y (.slice (some ⟨g,0,none⟩) 1 1) ([⟨16,aj f ys 3,f.stacks+sa,0,0⟩]:List Ins)) ((Mv.refl _ _).alloc _) ⟨_,rfl,az.bO (f:=Ins.cells) (l:=([⟨16,aj f ys 3,f.stacks+sa,0,0⟩]:List Ins)) (λ_=>rfl) (heap_alloc_new x _) rfl (by simp)⟩
      case s13 =>
       refine eG (by decide) (λvs x hx hP hL => ?_);have xW:=hP 12 (by simp) (by simp) (λ_=>by simp);obtain⟨g12,h12,b12⟩:=xW;have hG:Grow w6 x:=gG (gH (hx (by simp)));have HX:=ł (xY.out x hG);have HC:=ł (iJ _ _ x b12);clear hx hP hL;simp only[zR,h12];go_simp;refine(HC.out).mono ?_;rintro e y ⟨v,rfl,hp,hg⟩;exact⟨_,rfl,aW (p:=λv y=>ay y v (ah ([⟨16,aj f ys 3,f.stacks+sa,0,0⟩]:List Ins))) hg hp⟩
      case s14 =>
       refine eG (by decide) (λvs x hx hP hL => ?_);have VN:=hP 13 (by simp) (by simp) (λ_=>by simp);have TH:=VN;obtain⟨IJ,IK,abQ,abR,lu,c13,f13⟩:=VN;rw[lu]at TH;have hG:Grow w6 x:=gG (gH (hx (by simp)));have HX:=ł (xY.out x hG);clear hx hP hL;simp only[zR,lu];go_simp;exact aW (p:=λv y=>∃ g,v = .slice (some ⟨g,0,none⟩) 1 1/\iG y (.slice (some ⟨g,0,none⟩) 1 1) [ah ([⟨16,aj f ys 3,f.stacks+sa,0,0⟩]:List Ins)]) ((Mv.refl _ _).alloc _) ⟨_,rfl,tu (vs:=[(.slice IJ (ah ([⟨16,aj f ys 3,f.stacks+sa,0,0⟩]:List Ins)).code.length IK,.slice abQ (ah ([⟨16,aj f ys 3,f.stacks+sa,0,0⟩]:List Ins)).refs.length abR)]) (heap_alloc_new x _) rfl ⟨ay.later (TH) ((Mv.refl _ _).alloc _),trivial⟩⟩
      case s15 =>
       refine Hu rfl (λvs x hx hP => ?_);have h0:vs 0=_:=hP 0 (by simp);have p14:=hP 14 (by simp);obtain⟨g14,lC,b14⟩:=p14;have hG:Grow w6 x:=gG (gH hx);have HX:=ł (xY.out x hG);obtain⟨a',c',w2',⟨hok,hv,hw⟩,hrow2,bz⟩:=Ic w4.heap.size _ _ _ _ x (HX.out.2.2) b14 (cZ.out x hG) (by have:=Ou.out;omega);have HR2:=ł hrow2;have dM:=ł bz;clear hrow2 bz;clear hx hP;simp only[zR,h0,lC];go_simp;exact⟨dM.out.mono (λ_ e => .inl (.inr e)),a',c',by simp,by simpa using HR2.out⟩
      case s16 =>
       refine eG (by decide) (λvs x hx hP hL => ?_);have xZ:=hL (by simp);obtain⟨afd,afe,rz,o15⟩:=xZ;clear hx hP hL;simp only[zR,rz];go_simp;exact aW (p:=λv y=>∃ a c,v = .slice a ((fq f (ae.ts l) slots i).length+1) c/\fQ w4.heap.size y (.slice a ((fq f (ae.ts l) slots i).length+1) c) ((fq f (ae.ts l) slots i) ++ [ah ([⟨16,aj f ys 3,f.stacks+sa,0,0⟩]:List Ins)])) (Mv.refl _ _) ⟨_,_,rfl,o15⟩
     case done =>
     intro vs w7 hE;have h0:vs 0=_:=hE.val 0 (by simp) (by simp) (by simp);have h1:vs 1=_:=hE.val 1 (by simp) (by simp) (by simp);have h2:vs 2=_:=hE.val 2 (by simp) (by simp) (by simp);have h3:vs 3=_:=hE.val 3 (by simp) (by simp) (by simp);have h4:vs 4=_:=hE.val 4 (by simp) (by simp) (by simp);have h5:vs 5=_:=hE.val 5 (by simp) (by simp) (by simp);have h6:vs 6=_:=hE.val 6 (by simp) (by simp) (by simp);have h7:vs 7=_:=hE.val 7 (by simp) (by simp) (by simp);have h8:vs 8=_:=hE.val 8 (by simp) (by simp) (by simp);have h9:vs 9=_:=hE.val 9 (by simp) (by simp) (by simp);have h11:vs 11=_:=hE.val 11 (by simp) (by simp) (by simp);have p16:=hE.val 16 (by simp) (by simp) (by simp);obtain⟨aff,afg,h16,o16⟩:=p16;simp only[List.length_cons,List.length_nil,Nat.zero_add,Nat.reduceAdd];rw[show List.range 17=[0,1,2,3,4,5,6,7,8,9,10,11,12,13,14,15,16]from rfl];simp only[zR,h0,h1,h2,h3,h4,h5,h6,h7,h8,h9,h11,h16];clear h0 h1 h2 h3 h4 h5 h6 h7 h8 h9 h11 h16;have wF:=ł (show Grow w4 w7 from(Mv.drew di.out).trans hE.mv (λb e => .inr (by
      rcases e with e|e
      · have:=di.out.size;simp at e;omega
      · exact(JL.out.lt b e).1)))
     have Bj:=ł o16;clear hE o16 xY cZ;go_wp2_with fail;exact⟨⟨i+1,by simp,by omega,wF.out,by rw[uJ.out];exact Bj.out⟩,by simp[intOf];omega⟩
   · have VO:=ł (show ∃ C:Nat,C<=100000/\(C:Int)=(if sk=2 then sl else 1)/\pF f (aj f ys sk) ⟨sn,sk,sl,sa⟩=(List.range C).map (Cy f (aj f ys sk) sa)from by
      refine⟨if sk=2 then sl.toNat else 1,?_,?_,by unfold pF Cy;simp[hk3]⟩
      · have:=CS.out;split <;> omega
      · have:=CS.out;split <;> omega)
     obtain⟨C,VP,hC2,VQ⟩:=VO.out;rw[VQ]at uJ EI;have ik:=ł VP;have VR:=ł hC2;have e3:(sk == 3)=false:=by simpa using hk3
     clear VP hC2 VQ VO hk3
     go_upto_if 72 with fail
     go_cut [13] (λv wc=>v = .int .i64 (C:Int)/\wc=w6)
     case first =>
      by_cases hk2:sk=2
      · subst hk2;have hC:=VR.out;simp only[if_true,↓reduceIte]at hC;subst hC;go_wp2_with fail
        go_meet
        case rel=>first|exact⟨rfl,rfl⟩|exact⟨by rw[hC],rfl⟩|exact⟨by simp[hC],rfl⟩
      · have e2:(sk == 2)=false:=by simpa using hk2
        have hC:=VR.out;rw[if_neg hk2]at hC;go_wp2_with fail
        go_meet
        case rel=>first|exact⟨rfl,rfl⟩|exact⟨by rw[hC],rfl⟩|exact⟨by simp[hC],rfl⟩
     case rest =>
      obtain⟨rfl,rfl⟩:=hcut;go_wp2_with fail
      go_loopw [9,76] (λlv t wr=>∃ (j:Nat),t = .int .i64 j/\j<=C/\Grow w4 wr/\wr.heap[B]? = some (.cells #[.string sn,.int .u8 sk,.int .i64 sl,.int .i64 sa] 95 (0,0))/\fQ w4.heap.size wr lv (fq f (ae.ts l) slots i ++ (List.range j).map (Cy f (aj f ys sk) sa))) (λ_ t _=>C - (intOf t).toNat)
      case atStart=>exact⟨0,rfl,Nat.zero_le _,di.out,il.out,by simpa using JL.out⟩
      obtain⟨j,rfl,hj,hg,hb,hps⟩:=hrel;obtain⟨la,lc,hlv⟩:=hps.form;simp only[List.length_append,List.length_map,List.length_range]at hlv;subst hlv;have VS:=ł hg;have fC:=ł hb;have VT:=ł hps;clear hg hb hps;by_cases abS:j<C
      · have HJ:=ł (show j<C/\j<=100000 from⟨abS,by have:=ik.out;omega⟩);go_upto_region 16 with fail;refine fV 106 [some 79,some 80,some 81,some 82,some 83,some 15,none] [[],[],[0,1],[2],[3],[],[5,4]] [3] [.c (.int .i64 (aj f ys sk)),.c (.int .i64 j),.c (.int .i64 ((aj f ys sk)+(j:Int))),.p (λv y=>∃ g,v = .slice (some ⟨g,0,none⟩) 2 2/\y.heap[g]? = some (.cells #[.int .i64 5,.int .i64 ((aj f ys sk)+(j:Int))] 3 (0,0))),.c (.agg #[.int .u8 10,.int .i64 5,.int .i64 ((aj f ys sk)+(j:Int)),.int .i64 0,.int .i64 0]),.al 6 4 #[.int .u8 0,.int .i64 0,.int .i64 0,.int .i64 0,.int .i64 0] 57,.st 5] ⟨sH,trivial⟩ (dP rfl) ?steps ?done
        case steps =>
         refine⟨?s0,?s1,?s2,?s3,?s4,?s5,?s6,trivial⟩
         case s0|s1 =>
          refine oo (λvs x hP => ?_);simp only[zS];go_simp;exact gc
         case s2 =>
          refine om (λvs x hG hP => ?_);have hwr:IntKind.i64.wrap ((aj f ys sk)+(j:Int))=(aj f ys sk)+(j:Int):=IntWalk.i64_in _ (by have:=HO4.out ys sk;have:=HJ.out;omega);simp only[zS];go_simp;exact gc
         case s3 =>
          refine oo (λvs x hP => ?_);simp only[zS];go_simp;exact gl ⟨_,rfl,heap_alloc_new x _⟩
         case s4 =>
          refine om (λvs x hG hP => ?_);obtain⟨g3,h3,b3⟩:=pq hP 3;have HC:=ł (gu 10 (5) (((aj f ys sk)+(j:Int))) g3 _ x b3);simp only[zS,h3];go_simp;refine(HC.out).mono ?_;rintro e y ⟨rfl,hg⟩;exact⟨_,rfl,aX hg rfl⟩
         case s5 =>
          refine oz (λvs x => ?_);simp only[zS];go_simp;exact⟨rfl,rfl⟩
         case s6 =>
          refine os (λvs x g hg hb hv => ?_);have h4:vs 4=_:=hv;obtain⟨⟨c0,c1,c2⟩,c3,c4⟩:=bJ hb;have zt:=aG hb;simp only[zS,hg,h4];go_simp;exact j4 hb _ _ _ _ _
        case done =>
        intro vs w8 hE;have hG:=hE.jZ;obtain⟨g5,a5,l5,m5,b5⟩:=hE.box 5;simp only[zS]at b5;simp only[zS,Nat.reduceAdd,a5];have jM:=ł b5;simp only[bG]at jM;have mI:=ł (gtr VS.out hG);have nL:=ł (ai fC.out hG);have Ov:=ł (VT.out.later hG);clear hE hG b5;go_upto_region 17 with fail;have um:=ł (λ(y:World) (hy:Grow w8 y)=>And.intro (aM.out.later (gtr aP.out (gtr mI.out hy))) (And.intro (ai nL.out hy) (And.intro (Ov.out.later hy) (ai jM.out hy))));have cZ:=ł (show ∀ y,Grow w8 y->w4.heap.size<=y.heap.size from λy hy=>(gtr mI.out hy).size);refine F7 (by kernel_rfl) 106 [some 84,some 85,some 86,some 87,some 88,some 89,some 90,some 91,some 92,some 93,some 94,some 95,some 96,some 97,some 98,some 99,some 100,some 101,some 102,some 9] [[],[],[],[2],[3],[4],[5],[],[7],[6,8],[],[9,10],[11],[12],[],[1,13,14],[15,13],[16],[0,17,16],[18,18,0,1,2,3,4,5,6,7,8,9,10,11,12,13,14,15,16,17,18]] [[],[],[],[2],[3],[4],[5],[],[7],[6,8],[],[9,10],[11],[12],[],[1,13,14],[15],[16],[0,17],[18]] [0,1,2,3,4,5,6,7,8,9,10,11,12,13,14,15,16,17] 18 [false,false,false,false,false,false,false,false,false,false,false,false,true,false,false,true,true,true,false,true] [Pc (.slice la ((fq f (ae.ts l) slots i).length+j) lc),Pc (.agg #[.int .u8 10,.int .i64 5,.int .i64 ((aj f ys sk)+(j:Int)),.int .i64 0,.int .i64 0]),Pc (.pointer (some ⟨G,0,none⟩)),Pc (.pointer (some ⟨G,0,none⟩)),Pc (.pointer (some ⟨G,0,none⟩)),Pc (.pointer (some ⟨G,1,none⟩)),Pc (.int .i64 f.cells),Pc (.pointer (some ⟨B,3,none⟩)),Pc (.int .i64 sa),Pc (.int .i64 (f.cells+sa)),Pc (.int .i64 j),Pc (.int .i64 (f.cells+sa+(j:Int))),(λv y=>∃ g,v = .slice (some ⟨g,0,none⟩) 2 2/\y.heap[g]? = some (.cells #[.int .i64 5,.int .i64 (f.cells+sa+(j:Int))] 3 (0,0))),Pc (.agg #[.int .u8 10,.int .i64 5,.int .i64 (f.cells+sa+(j:Int)),.int .i64 0,.int .i64 0]),Pc (.agg #[.int .u8 10,.int .i64 5,.int .i64 ((aj f ys sk)+(j:Int)),.int .i64 0,.int .i64 0]),(λv y=>∃ g,v = .slice (some ⟨g,0,none⟩) 3 3/\az 5 Ins.cells y (.slice (some ⟨g,0,none⟩) 3 3) ([⟨10,5,(aj f ys sk)+(j:Int),0,0⟩,⟨10,5,f.cells+sa+(j:Int),0,0⟩,⟨10,5,(aj f ys sk)+(j:Int),0,0⟩]:List Ins)),(λv y=>ay y v (ah ([⟨10,5,(aj f ys sk)+(j:Int),0,0⟩,⟨10,5,f.cells+sa+(j:Int),0,0⟩,⟨10,5,(aj f ys sk)+(j:Int),0,0⟩]:List Ins))),(λv y=>∃ g,v = .slice (some ⟨g,0,none⟩) 1 1/\iG y (.slice (some ⟨g,0,none⟩) 1 1) [ah ([⟨10,5,(aj f ys sk)+(j:Int),0,0⟩,⟨10,5,f.cells+sa+(j:Int),0,0⟩,⟨10,5,(aj f ys sk)+(j:Int),0,0⟩]:List Ins)]),dB,(λv y=>∃ a c,v = .slice a (((fq f (ae.ts l) slots i).length+j)+1) c/\fQ w4.heap.size y (.slice a (((fq f (ae.ts l) slots i).length+j)+1) c) ((fq f (ae.ts l) slots i) ++ ((List.range j).map (Cy f (aj f ys sk) sa) ++ [ah ([⟨10,5,(aj f ys sk)+(j:Int),0,0⟩,⟨10,5,f.cells+sa+(j:Int),0,0⟩,⟨10,5,(aj f ys sk)+(j:Int),0,0⟩]:List Ins)])))] (λb=>Value.ownBlock (.slice la ((fq f (ae.ts l) slots i).length+j) lc)=some b) (λv y=>∃ a c,v = .slice a (((fq f (ae.ts l) slots i).length+j)+1) c/\fQ w4.heap.size y (.slice a (((fq f (ae.ts l) slots i).length+j)+1) c) ((fq f (ae.ts l) slots i) ++ ((List.range j).map (Cy f (aj f ys sk) sa) ++ [ah ([⟨10,5,(aj f ys sk)+(j:Int),0,0⟩,⟨10,5,f.cells+sa+(j:Int),0,0⟩,⟨10,5,(aj f ys sk)+(j:Int),0,0⟩]:List Ins)]))) (by kernel_rfl) rfl (by kernel_rfl) ⟨⟨eT _,λ_=>fu _⟩,⟨eT _,λ_=>fu _⟩,⟨eT _,λ_=>fu _⟩,⟨eT _,λ_=>fu _⟩,⟨eT _,λ_=>fu _⟩,⟨eT _,λ_=>fu _⟩,⟨eT _,λ_=>fu _⟩,⟨eT _,λ_=>fu _⟩,⟨eT _,λ_=>fu _⟩,⟨eT _,λ_=>fu _⟩,⟨eT _,λ_=>fu _⟩,⟨eT _,λ_=>fu _⟩,⟨(λv x y hg h=>by obtain⟨g,hv,hb⟩:=h;exact⟨g,hv,ai hb hg⟩),by simp⟩,⟨eT _,λ_=>fu _⟩,⟨eT _,λ_=>fu _⟩,⟨(λv x y hg h=>by obtain⟨g,hv,hb⟩:=h;exact⟨g,hv,hb.later hg⟩),by simp⟩,⟨(λv x y hg h=>h.later hg),by simp⟩,⟨(λv x y hg h=>by obtain⟨g,hv,hb⟩:=h;exact⟨g,hv,hb.later hg⟩),by simp⟩,⟨vF,λ_=>DV⟩,⟨(λv x y hg h=>by obtain⟨a,c,hv,hb⟩:=h;exact⟨a,c,hv,hb.later hg⟩),by simp⟩,trivial⟩ (λv x y hg h=>by obtain⟨a,c,hv,hb⟩:=h;exact⟨a,c,hv,hb.later hg⟩) (by kernel_rfl) (by simp) ?steps ?done
        case steps =>
         refine⟨?s0,?s1,?s2,?s3,?s4,?s5,?s6,?s7,?s8,?s9,?s10,?s11,?s12,?s13,?s14,?s15,?s16,?s17,?s18,?s19,trivial⟩
         case s0|s2|s7|s10 =>
          refine eG (by decide) (λvs x hx hP hL => ?_);clear hx hP hL;simp only[zR];go_simp;exact aX (Mv.refl _ _) rfl
         case s1|s14 =>
          refine eG (by decide) (λvs x hx hP hL => ?_);have hG:Grow w8 x:=gG (gH (hx (by simp)));have HX:=ł (um.out x hG);obtain⟨⟨i0,i1,i2⟩,i3,i4⟩:=bJ HX.out.2.2.2;clear hx hP hL;simp only[zR];go_simp;exact aX (Mv.refl _ _) rfl
         case s3 =>
          refine eG (by decide) (λvs x hx hP hL => ?_);have h2:vs 2=_:=hP 2 (by simp) (by simp) (by simp);have hG:Grow w8 x:=gG (gH (hx (by simp)));have HX:=ł (um.out x hG);obtain⟨⟨q0,q1,q2⟩,q3,q4⟩:=bJ HX.out.1.blk;clear hx hP hL;simp only[zR,h2];go_simp;exact aX (Mv.refl _ _) rfl
         case s4 =>
          refine eG (by decide) (λvs x hx hP hL => ?_);have h3:vs 3=_:=hP 3 (by simp) (by simp) (by simp);clear hx hP hL;simp only[zR,h3];go_simp;exact aX (Mv.refl _ _) rfl
         case s5 =>
          refine eG (by decide) (λvs x hx hP hL => ?_);have h4:vs 4=_:=hP 4 (by simp) (by simp) (by simp);clear hx hP hL;simp only[zR,h4];go_simp;exact aX (Mv.refl _ _) rfl
         case s6 =>
          refine eG (by decide) (λvs x hx hP hL => ?_);have h5:vs 5=_:=hP 5 (by simp) (by simp) (by simp);have hG:Grow w8 x:=gG (gH (hx (by simp)));have HX:=ł (um.out x hG);obtain⟨⟨q0,q1,q2⟩,q3,q4⟩:=bJ HX.out.1.blk;clear hx hP hL;simp only[zR,h5];go_simp;exact aX (Mv.refl _ _) rfl
         case s8 =>
          refine eG (by decide) (λvs x hx hP hL => ?_);have h7:vs 7=_:=hP 7 (by simp) (by simp) (by simp);have hG:Grow w8 x:=gG (gH (hx (by simp)));have HX:=ł (um.out x hG);obtain⟨s0,s1,s2,s3⟩:=dN HX.out.2.1;clear hx hP hL;simp only[zR,h7];go_simp;exact aX (Mv.refl _ _) rfl
         case s9 =>
          refine eG (by decide) (λvs x hx hP hL => ?_);have h6:vs 6=_:=hP 6 (by simp) (by simp) (by simp);have h8:vs 8=_:=hP 8 (by simp) (by simp) (by simp);have hG:Grow w8 x:=gG (gH (hx (by simp)));have HX:=ł (um.out x hG);have hwr:IntKind.i64.wrap (f.cells+sa)=f.cells+sa:=IntWalk.i64_in _ (by have:=VM.out;have:=CS.out;omega);clear hx hP hL;simp only[zR,h6,h8];go_simp;exact aX (Mv.refl _ _) rfl
         case s11 =>
          refine eG (by decide) (λvs x hx hP hL => ?_);have h9:vs 9=_:=hP 9 (by simp) (by simp) (by simp);have h10:vs 10=_:=hP 10 (by simp) (by simp) (by simp);have hG:Grow w8 x:=gG (gH (hx (by simp)));have HX:=ł (um.out x hG);have hwr:IntKind.i64.wrap (f.cells+sa+(j:Int))=f.cells+sa+(j:Int):=IntWalk.i64_in _ (by have:=VM.out;have:=CS.out;have:=HJ.out;omega);clear hx hP hL;simp only[zR,h9,h10];go_simp;exact aX (Mv.refl _ _) rfl
         case s12 =>
          refine eG (by decide) (λvs x hx hP hL => ?_);have h11:vs 11=_:=hP 11 (by simp) (by simp) (by simp);clear hx hP hL;simp only[zR,h11];go_simp;exact aW (p:=λv y=>∃ g,v = .slice (some ⟨g,0,none⟩) 2 2/\y.heap[g]? = some (.cells #[.int .i64 5,.int .i64 (f.cells+sa+(j:Int))] 3 (0,0))) ((Mv.refl _ _).alloc _) ⟨_,rfl,heap_alloc_new x _⟩
         case s13 =>
          refine eG (by decide) (λvs x hx hP hL => ?_);have xW:=hP 12 (by simp) (by simp) (λ_=>by simp);obtain⟨g12,h12,b12⟩:=xW;have hG:Grow w8 x:=gG (gH (hx (by simp)));have HX:=ł (um.out x hG);have HC:=ł (gu 10 (5) ((f.cells+sa+(j:Int))) g12 _ x b12);clear hx hP hL;simp only[zR,h12];go_simp;refine(HC.out).mono ?_;rintro e y ⟨rfl,hg⟩;exact⟨_,rfl,aX hg rfl⟩
         case s15 =>
          refine eG (by decide) (λvs x hx hP hL => ?_);have h1:vs 1=_:=hP 1 (by simp) (by simp) (by simp);have lu:vs 13=_:=hP 13 (by simp) (by simp) (by simp);have lC:vs 14=_:=hP 14 (by simp) (by simp) (by simp);clear hx hP hL;simp only[zR,h1,lu,lC];go_simp;exact aW (p:=λv y=>∃ g,v = .slice (some ⟨g,0,none⟩) 3 3/\az 5 Ins.cells y (.slice (some ⟨g,0,none⟩) 3 3) ([⟨10,5,(aj f ys sk)+(j:Int),0,0⟩,⟨10,5,f.cells+sa+(j:Int),0,0⟩,⟨10,5,(aj f ys sk)+(j:Int),0,0⟩]:List Ins)) ((Mv.refl _ _).alloc _) ⟨_,rfl,az.bO (f:=Ins.cells) (l:=([⟨10,5,(aj f ys sk)+(j:Int),0,0⟩,⟨10,5,f.cells+sa+(j:Int),0,0⟩,⟨10,5,(aj f ys sk)+(j:Int),0,0⟩]:List Ins)) (λ_=>rfl) (heap_alloc_new x _) rfl (by simp)⟩
         case s16 =>
          refine eG (by decide) (λvs x hx hP hL => ?_);have xZ:=hP 15 (by simp) (by simp) (λ_=>by simp);obtain⟨g15,rz,b15⟩:=xZ;have hG:Grow w8 x:=gG (gH (hx (by simp)));have HX:=ł (um.out x hG);have HC:=ł (iJ _ _ x b15);clear hx hP hL;simp only[zR,rz];go_simp;refine(HC.out).mono ?_;rintro e y ⟨v,rfl,hp,hg⟩;exact⟨_,rfl,aW (p:=λv y=>ay y v (ah ([⟨10,5,(aj f ys sk)+(j:Int),0,0⟩,⟨10,5,f.cells+sa+(j:Int),0,0⟩,⟨10,5,(aj f ys sk)+(j:Int),0,0⟩]:List Ins))) hg hp⟩
         case s17 =>
          refine eG (by decide) (λvs x hx hP hL => ?_);have p16:=hP 16 (by simp) (by simp) (λ_=>by simp);have Ay:=p16;obtain⟨abT,abU,abV,abW,h16,c16,f16⟩:=p16;rw[h16]at Ay;have hG:Grow w8 x:=gG (gH (hx (by simp)));have HX:=ł (um.out x hG);clear hx hP hL;simp only[zR,h16];go_simp;exact aW (p:=λv y=>∃ g,v = .slice (some ⟨g,0,none⟩) 1 1/\iG y (.slice (some ⟨g,0,none⟩) 1 1) [ah ([⟨10,5,(aj f ys sk)+(j:Int),0,0⟩,⟨10,5,f.cells+sa+(j:Int),0,0⟩,⟨10,5,(aj f ys sk)+(j:Int),0,0⟩]:List Ins)]) ((Mv.refl _ _).alloc _) ⟨_,rfl,tu (vs:=[(.slice abT (ah ([⟨10,5,(aj f ys sk)+(j:Int),0,0⟩,⟨10,5,f.cells+sa+(j:Int),0,0⟩,⟨10,5,(aj f ys sk)+(j:Int),0,0⟩]:List Ins)).code.length abU,.slice abV (ah ([⟨10,5,(aj f ys sk)+(j:Int),0,0⟩,⟨10,5,f.cells+sa+(j:Int),0,0⟩,⟨10,5,(aj f ys sk)+(j:Int),0,0⟩]:List Ins)).refs.length abW)]) (heap_alloc_new x _) rfl ⟨ay.later (Ay) ((Mv.refl _ _).alloc _),trivial⟩⟩
         case s18 =>
          refine Hu rfl (λvs x hx hP => ?_);have h0:vs 0=_:=hP 0 (by simp);have rF:=hP 17 (by simp);obtain⟨g17,jQ,b17⟩:=rF;have hG:Grow w8 x:=gG (gH hx);have HX:=ł (um.out x hG);obtain⟨a',c',w2',⟨hok,hv,hw⟩,hrow2,bz⟩:=Ic w4.heap.size _ _ _ _ x (HX.out.2.2.1) b17 (cZ.out x hG) (by have:=EI.out;simp only[List.length_append,List.length_map,List.length_range]at this ⊢;have:=HJ.out;omega);have HR2:=ł hrow2;have dM:=ł bz;clear hrow2 bz;clear hx hP;simp only[zR,h0,jQ];go_simp;exact⟨dM.out.mono (λ_ e => .inl (.inr e)),a',c',by simp,by simpa using HR2.out⟩
         case s19 =>
          refine eG (by decide) (λvs x hx hP hL => ?_);have p18:=hL (by simp);obtain⟨afh,afi,h18,o18⟩:=p18;clear hx hP hL;simp only[zR,h18];go_simp;exact aW (p:=λv y=>∃ a c,v = .slice a (((fq f (ae.ts l) slots i).length+j)+1) c/\fQ w4.heap.size y (.slice a (((fq f (ae.ts l) slots i).length+j)+1) c) ((fq f (ae.ts l) slots i) ++ ((List.range j).map (Cy f (aj f ys sk) sa) ++ [ah ([⟨10,5,(aj f ys sk)+(j:Int),0,0⟩,⟨10,5,f.cells+sa+(j:Int),0,0⟩,⟨10,5,(aj f ys sk)+(j:Int),0,0⟩]:List Ins)]))) (Mv.refl _ _) ⟨_,_,rfl,o18⟩
        case done =>
        intro vs w9 hE;have h0:vs 0=_:=hE.val 0 (by simp) (by simp) (by simp);have h1:vs 1=_:=hE.val 1 (by simp) (by simp) (by simp);have h2:vs 2=_:=hE.val 2 (by simp) (by simp) (by simp);have h3:vs 3=_:=hE.val 3 (by simp) (by simp) (by simp);have h4:vs 4=_:=hE.val 4 (by simp) (by simp) (by simp);have h5:vs 5=_:=hE.val 5 (by simp) (by simp) (by simp);have h6:vs 6=_:=hE.val 6 (by simp) (by simp) (by simp);have h7:vs 7=_:=hE.val 7 (by simp) (by simp) (by simp);have h8:vs 8=_:=hE.val 8 (by simp) (by simp) (by simp);have h9:vs 9=_:=hE.val 9 (by simp) (by simp) (by simp);have h10:vs 10=_:=hE.val 10 (by simp) (by simp) (by simp);have h11:vs 11=_:=hE.val 11 (by simp) (by simp) (by simp);have lu:vs 13=_:=hE.val 13 (by simp) (by simp) (by simp);have lC:vs 14=_:=hE.val 14 (by simp) (by simp) (by simp);have p19:=hE.val 19 (by simp) (by simp) (by simp);obtain⟨afj,afk,h19,VU⟩:=p19;simp only[List.length_cons,List.length_nil,Nat.zero_add,Nat.reduceAdd];rw[show List.range 20=[0,1,2,3,4,5,6,7,8,9,10,11,12,13,14,15,16,17,18,19]from rfl];simp only[zR,h0,h1,h2,h3,h4,h5,h6,h7,h8,h9,h10,h11,lu,lC,h19];clear h0 h1 h2 h3 h4 h5 h6 h7 h8 h9 h10 h11 lu lC h19;have wF:=ł (show Grow w4 w9 from(Mv.drew mI.out).trans hE.mv (λb e => .inr (by
         rcases e with e|e
         · have:=mI.out.size;simp at e;omega
         · exact(Ov.out.lt b e).1)))
        have CR:=ł (show w9.heap[B]? = some (.cells #[.string sn,.int .u8 sk,.int .i64 sl,.int .i64 sa] 95 (0,0))from(hE.mv.block B (lt_of_block nL.out) (λe=>by
         rcases e with e|e
         · have:=lt_of_block nL.out;simp at e;omega
         · exact Ov.out.tag nL.out (by decide) e)).trans nL.out)
        have Bj:=ł VU;clear hE VU um cZ;have hwj:IntKind.i64.wrap ((j:Int)+1)=(j:Int)+1:=IntWalk.i64_in _ (by have:=HJ.out;omega);go_wp2_with fail;exact⟨⟨j+1,by simp,by omega,wF.out,CR.out,by rw[List.range_succ,List.map_append];exact Bj.out⟩,by simp[intOf];omega⟩
      · have qY:j=C:=by omega
        subst qY;go_wp2_with fail;exact⟨⟨i+1,by simp,by omega,VS.out,by rw[uJ.out];exact VT.out⟩,by simp[intOf];omega⟩
 · have hie:i=slots.length:=by omega
   subst hie;have aJ:=ł (gtr aP.out HG.out);have bB:=ł (uI.out.low (base':=w.heap.size) aP.out.size);rw[YK f (ae.ts l) slots (by rw[ae.cz];exact zx.out)]at bB;go_wp2_with fail;go_ret;exact⟨_,rfl,bB.out,aJ.out⟩
end Go.Proofs.YtnobahchcongnaaGreatDoor
