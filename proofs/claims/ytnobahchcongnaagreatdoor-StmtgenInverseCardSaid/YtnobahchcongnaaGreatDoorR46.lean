import Derived.Test.YtnobahchcongnaaGreatDoorR45
import Derived.Shelf.SlGeneric
import Derived.Shelf.SlSortCmp.WholeK
import Derived.Ground.SlsfProg
import Derived.Shelf.SlSortCmp.NoneTotal
set_option linter.unusedSimpArgs false
set_option linter.unusedVariables false
set_option maxRecDepth 100000
set_option maxHeartbeats 25600000
namespace Go.Proofs.YtnobahchcongnaaGreatDoor
section
open Go.RowKit Go.Instr
theorem Y3 (w:World) (ht:qH w):Calls Tryz.prog 5 #[] w λe w'=>e = .returned (.bool true)/\Grow w w':=by
 have HT:=ł ht;clear ht;have hg1:Grow w (w.alloc (.cells #[.string ⟨#[120]⟩,.int .u8 1,.int .i64 0,.string ⟨#[121]⟩,.int .u8 1,.int .i64 0] 50)):=(Mv.refl _ _).alloc _;have df:=ł hg1;have uM:=ł (G8 _ FX _ (az.bO (f:=bu.cells) (l:=FX) (λ_=>rfl) (heap_alloc_new w (.cells #[.string ⟨#[120]⟩,.int .u8 1,.int .i64 0,.string ⟨#[121]⟩,.int .u8 1,.int .i64 0] 50)) rfl (by decide)));have HV:=ł aaV;have HN:=ł Rs;clear hg1;simp only[Ib,FX,List.length_cons,List.length_nil,Nat.zero_add,Nat.reduceAdd]at uM
 go_enter Tryz.func5,Tryz.ntmps5
 go_wp2_with fail;refine uM.out.mono ?_;clear uM;rintro e w1 ⟨sv,rfl,hfa,hg⟩;have e1:jf [⟨⟨#[120]⟩,1,0⟩,⟨⟨#[121]⟩,1,0⟩]=0:=Si.2;have e2:frameC [⟨⟨#[120]⟩,1,0⟩,⟨⟨#[121]⟩,1,0⟩]=ky:=Si.1;rw[e1]at hfa ⊢;rw[if_pos rfl,e2]at hfa ⊢;obtain⟨fa,fc,rfl,-,-⟩:=hfa.row.form;have HG2:=ł (gtr df.out hg);have dV:=ł hfa;clear hg hfa e1 e2 df;simp only[show ky.cells=2 from rfl,show ky.stacks=0 from rfl,show ky.slots.length=2 from rfl];have wm:=ł (heap_alloc_new w1 (.cells #[.slice fa 2 fc,.int .i64 2,.int .i64 0] 27));have aH:=ł (HG2.out.alloc (.cells #[.slice fa 2 fc,.int .i64 2,.int .i64 0] 27));have AV:=ł (dV.out.later ((Mv.refl _ w1).alloc (.cells #[.slice fa 2 fc,.int .i64 2,.int .i64 0] 27)));go_wp2_with fail;generalize w1.alloc (.cells #[.slice fa 2 fc,.int .i64 2,.int .i64 0] 27)=w2 at *;refine(HV.out _ _).mono ?_;rintro e w3 ⟨rfl,hg3⟩;have aP:=ł hg3;clear hg3;simp only[Ha,ae.val];go_wp2_with fail;refine(HN.out _ _).mono ?_;rintro e w4 ⟨rfl,hg4⟩;have aU:=ł (gtr aP.out hg4);clear hg4 aP;simp only[DC,ae.val];have Wy:=ł (show aR (((w4.alloc (.cells #[.int .u8 2,.int .i64 0,.string ⟨#[120]⟩,.slice none 0 0,.int .u8 1,.int .i64 1,.string ⟨#[]⟩,.slice none 0 0] 24)).alloc (.cells #[.int .u8 40,.int .i64 0,.string ⟨#[]⟩,.slice (some ⟨w4.heap.size,0,none⟩) 2 2] 24)).alloc (.cells #[.int .u8 57,.int .i64 0,.string ⟨#[]⟩,.slice (some ⟨w4.heap.size+1,0,none⟩) 1 1] 24)) (.mk 57 0 ⟨#[]⟩ (.slice (some ⟨w4.heap.size+1,0,none⟩) 1 1) [.mk 40 0 ⟨#[]⟩ (.slice (some ⟨w4.heap.size,0,none⟩) 2 2) [.mk 2 0 ⟨#[120]⟩ (.slice none 0 0) [],.mk 1 1 ⟨#[]⟩ (.slice none 0 0) []]])from by
  have b1:=aS (aS (heap_alloc_new w4 (.cells #[.int .u8 2,.int .i64 0,.string ⟨#[120]⟩,.slice none 0 0,.int .u8 1,.int .i64 1,.string ⟨#[]⟩,.slice none 0 0] 24)) (.cells #[.int .u8 40,.int .i64 0,.string ⟨#[]⟩,.slice (some ⟨w4.heap.size,0,none⟩) 2 2] 24)) (.cells #[.int .u8 57,.int .i64 0,.string ⟨#[]⟩,.slice (some ⟨w4.heap.size+1,0,none⟩) 1 1] 24);have b2:=aS (heap_alloc_new (w4.alloc (.cells #[.int .u8 2,.int .i64 0,.string ⟨#[120]⟩,.slice none 0 0,.int .u8 1,.int .i64 1,.string ⟨#[]⟩,.slice none 0 0] 24)) (.cells #[.int .u8 40,.int .i64 0,.string ⟨#[]⟩,.slice (some ⟨w4.heap.size,0,none⟩) 2 2] 24)) (.cells #[.int .u8 57,.int .i64 0,.string ⟨#[]⟩,.slice (some ⟨w4.heap.size+1,0,none⟩) 1 1] 24);rw[World.size_alloc]at b2;refine GU (by decide) (by simp[In64]) (by decide) b2 rfl rfl (by decide) (λx hx => ?_);rw[List.mem_singleton.1 hx];refine GU (by decide) (by simp[In64]) (by decide) b1 rfl rfl (by decide) (λx hx => ?_);simp only[List.mem_cons,List.not_mem_nil,or_false]at hx;rcases hx with rfl|rfl
  · exact DN _ _ _ _ (by decide) (by simp[In64]) (by decide)
  · exact DN _ _ _ _ (by decide) (by simp[In64]) (by decide))
 have J2:=ł (show(((w4.alloc (.cells #[.int .u8 2,.int .i64 0,.string ⟨#[120]⟩,.slice none 0 0,.int .u8 1,.int .i64 1,.string ⟨#[]⟩,.slice none 0 0] 24)).alloc (.cells #[.int .u8 40,.int .i64 0,.string ⟨#[]⟩,.slice (some ⟨w4.heap.size,0,none⟩) 2 2] 24)).alloc (.cells #[.int .u8 57,.int .i64 0,.string ⟨#[]⟩,.slice (some ⟨w4.heap.size+1,0,none⟩) 1 1] 24)).heap[w4.heap.size+1+1]? = some (.cells #[.int .u8 57,.int .i64 0,.string ⟨#[]⟩,.slice (some ⟨w4.heap.size+1,0,none⟩) 1 1] 24 (0,0))from by
  have:=heap_alloc_new ((w4.alloc (.cells #[.int .u8 2,.int .i64 0,.string ⟨#[120]⟩,.slice none 0 0,.int .u8 1,.int .i64 1,.string ⟨#[]⟩,.slice none 0 0] 24)).alloc (.cells #[.int .u8 40,.int .i64 0,.string ⟨#[]⟩,.slice (some ⟨w4.heap.size,0,none⟩) 2 2] 24)) (.cells #[.int .u8 57,.int .i64 0,.string ⟨#[]⟩,.slice (some ⟨w4.heap.size+1,0,none⟩) 1 1] 24);rwa[World.size_alloc,World.size_alloc]at this)
 have di:=ł (((aU.out.alloc (.cells #[.int .u8 2,.int .i64 0,.string ⟨#[120]⟩,.slice none 0 0,.int .u8 1,.int .i64 1,.string ⟨#[]⟩,.slice none 0 0] 24)).alloc (.cells #[.int .u8 40,.int .i64 0,.string ⟨#[]⟩,.slice (some ⟨w4.heap.size,0,none⟩) 2 2] 24)).alloc (.cells #[.int .u8 57,.int .i64 0,.string ⟨#[]⟩,.slice (some ⟨w4.heap.size+1,0,none⟩) 1 1] 24));go_wp2_with fail;generalize (((w4.alloc (.cells #[.int .u8 2,.int .i64 0,.string ⟨#[120]⟩,.slice none 0 0,.int .u8 1,.int .i64 1,.string ⟨#[]⟩,.slice none 0 0] 24)).alloc (.cells #[.int .u8 40,.int .i64 0,.string ⟨#[]⟩,.slice (some ⟨w4.heap.size,0,none⟩) 2 2] 24)).alloc (.cells #[.int .u8 57,.int .i64 0,.string ⟨#[]⟩,.slice (some ⟨w4.heap.size+1,0,none⟩) 1 1] 24))=w5 at *;generalize w4.heap.size+1+1=c5 at *;generalize w4.heap.size=b5 at *;clear aU w3 w4;refine(HV.out _ _).mono ?_;rintro e w6 ⟨rfl,hg⟩;have Bt:=ł hg;clear hg;simp only[Ha,ae.val];go_wp2_with fail;refine(HV.out _ _).mono ?_;rintro e w7 ⟨rfl,hg⟩;have mI:=ł (gtr Bt.out hg);clear hg Bt;simp only[Ha,ae.val];have H2A:=ł (show aR (((w7.alloc (.cells #[.int .u8 2,.int .i64 0,.string ⟨#[120]⟩,.slice none 0 0,.int .u8 2,.int .i64 0,.string ⟨#[121]⟩,.slice none 0 0] 24)).alloc (.cells #[.int .u8 43,.int .i64 0,.string ⟨#[]⟩,.slice (some ⟨w7.heap.size,0,none⟩) 2 2] 24)).alloc (.cells #[.int .u8 57,.int .i64 0,.string ⟨#[]⟩,.slice (some ⟨w7.heap.size+1,0,none⟩) 1 1] 24)) (.mk 57 0 ⟨#[]⟩ (.slice (some ⟨w7.heap.size+1,0,none⟩) 1 1) [.mk 43 0 ⟨#[]⟩ (.slice (some ⟨w7.heap.size,0,none⟩) 2 2) [.mk 2 0 ⟨#[120]⟩ (.slice none 0 0) [],.mk 2 0 ⟨#[121]⟩ (.slice none 0 0) []]])from by
  have b1:=aS (aS (heap_alloc_new w7 (.cells #[.int .u8 2,.int .i64 0,.string ⟨#[120]⟩,.slice none 0 0,.int .u8 2,.int .i64 0,.string ⟨#[121]⟩,.slice none 0 0] 24)) (.cells #[.int .u8 43,.int .i64 0,.string ⟨#[]⟩,.slice (some ⟨w7.heap.size,0,none⟩) 2 2] 24)) (.cells #[.int .u8 57,.int .i64 0,.string ⟨#[]⟩,.slice (some ⟨w7.heap.size+1,0,none⟩) 1 1] 24);have b2:=aS (heap_alloc_new (w7.alloc (.cells #[.int .u8 2,.int .i64 0,.string ⟨#[120]⟩,.slice none 0 0,.int .u8 2,.int .i64 0,.string ⟨#[121]⟩,.slice none 0 0] 24)) (.cells #[.int .u8 43,.int .i64 0,.string ⟨#[]⟩,.slice (some ⟨w7.heap.size,0,none⟩) 2 2] 24)) (.cells #[.int .u8 57,.int .i64 0,.string ⟨#[]⟩,.slice (some ⟨w7.heap.size+1,0,none⟩) 1 1] 24);rw[World.size_alloc]at b2;refine GU (by decide) (by simp[In64]) (by decide) b2 rfl rfl (by decide) (λx hx => ?_);rw[List.mem_singleton.1 hx];refine GU (by decide) (by simp[In64]) (by decide) b1 rfl rfl (by decide) (λx hx => ?_);simp only[List.mem_cons,List.not_mem_nil,or_false]at hx;rcases hx with rfl|rfl
  · exact DN _ _ _ _ (by decide) (by simp[In64]) (by decide)
  · exact DN _ _ _ _ (by decide) (by simp[In64]) (by decide))
 have Wz:=ł (show(((w7.alloc (.cells #[.int .u8 2,.int .i64 0,.string ⟨#[120]⟩,.slice none 0 0,.int .u8 2,.int .i64 0,.string ⟨#[121]⟩,.slice none 0 0] 24)).alloc (.cells #[.int .u8 43,.int .i64 0,.string ⟨#[]⟩,.slice (some ⟨w7.heap.size,0,none⟩) 2 2] 24)).alloc (.cells #[.int .u8 57,.int .i64 0,.string ⟨#[]⟩,.slice (some ⟨w7.heap.size+1,0,none⟩) 1 1] 24)).heap[w7.heap.size+1+1]? = some (.cells #[.int .u8 57,.int .i64 0,.string ⟨#[]⟩,.slice (some ⟨w7.heap.size+1,0,none⟩) 1 1] 24 (0,0))from by
  have:=heap_alloc_new ((w7.alloc (.cells #[.int .u8 2,.int .i64 0,.string ⟨#[120]⟩,.slice none 0 0,.int .u8 2,.int .i64 0,.string ⟨#[121]⟩,.slice none 0 0] 24)).alloc (.cells #[.int .u8 43,.int .i64 0,.string ⟨#[]⟩,.slice (some ⟨w7.heap.size,0,none⟩) 2 2] 24)) (.cells #[.int .u8 57,.int .i64 0,.string ⟨#[]⟩,.slice (some ⟨w7.heap.size+1,0,none⟩) 1 1] 24);rwa[World.size_alloc,World.size_alloc]at this)
 have wF:=ł (((mI.out.alloc (.cells #[.int .u8 2,.int .i64 0,.string ⟨#[120]⟩,.slice none 0 0,.int .u8 2,.int .i64 0,.string ⟨#[121]⟩,.slice none 0 0] 24)).alloc (.cells #[.int .u8 43,.int .i64 0,.string ⟨#[]⟩,.slice (some ⟨w7.heap.size,0,none⟩) 2 2] 24)).alloc (.cells #[.int .u8 57,.int .i64 0,.string ⟨#[]⟩,.slice (some ⟨w7.heap.size+1,0,none⟩) 1 1] 24));have ack:Grow w7 (((w7.alloc (.cells #[.int .u8 2,.int .i64 0,.string ⟨#[120]⟩,.slice none 0 0,.int .u8 2,.int .i64 0,.string ⟨#[121]⟩,.slice none 0 0] 24)).alloc (.cells #[.int .u8 43,.int .i64 0,.string ⟨#[]⟩,.slice (some ⟨w7.heap.size,0,none⟩) 2 2] 24)).alloc (.cells #[.int .u8 57,.int .i64 0,.string ⟨#[]⟩,.slice (some ⟨w7.heap.size+1,0,none⟩) 1 1] 24)):=(((Mv.refl _ _).alloc _).alloc _).alloc _;have Nj:=ł (ai (ai wm.out di.out) wF.out);have Md:=ł ((AV.out.later di.out).later wF.out);have Ar:=ł (ai J2.out wF.out);have Uk:=ł (Wy.out.later wF.out);have aM:=ł (gtr aH.out (gtr di.out wF.out));have zK:=ł (HT.out.later aM.out);obtain⟨⟨n0,n1⟩,n2,n3⟩:=aC (ai J2.out mI.out);obtain⟨f0,f1,f2⟩:=cK (ai (ai wm.out di.out) mI.out);have hl0:=lt_of_block (ai J2.out mI.out);have hl1:=lt_of_block (ai (ai wm.out di.out) mI.out);have acm:c5<w7.heap.size+1:=by omega
 have acn:c5<w7.heap.size+1+1:=by omega
 have aco:w1.heap.size<w7.heap.size+1:=by omega
 have acp:w1.heap.size<w7.heap.size+1+1:=by omega
 clear dV AV wm Wy J2 ack HN HV;go_wp2_with fail;generalize (((w7.alloc (.cells #[.int .u8 2,.int .i64 0,.string ⟨#[120]⟩,.slice none 0 0,.int .u8 2,.int .i64 0,.string ⟨#[121]⟩,.slice none 0 0] 24)).alloc (.cells #[.int .u8 43,.int .i64 0,.string ⟨#[]⟩,.slice (some ⟨w7.heap.size,0,none⟩) 2 2] 24)).alloc (.cells #[.int .u8 57,.int .i64 0,.string ⟨#[]⟩,.slice (some ⟨w7.heap.size+1,0,none⟩) 1 1] 24))=Nv at *;generalize w7.heap.size+1+1=c7 at *;generalize w7.heap.size=b7 at *;clear n0 n1 n2 n3 f0 f1 f2 hl0 hl1 acm acn aco acp mI wF di aH HG2 w6 w7 w5;have pV:=ł (KU Nv (.mk 57 0 ⟨#[]⟩ (.slice (some ⟨b5+1,0,none⟩) 1 1) [.mk 40 0 ⟨#[]⟩ (.slice (some ⟨b5,0,none⟩) 2 2) [.mk 2 0 ⟨#[120]⟩ (.slice none 0 0) [],.mk 1 1 ⟨#[]⟩ (.slice none 0 0) []]]) (.slice fa 2 fc) (.slice none 0 0) ky [] Uk.out Md.out ⟨az.nil _ _ _,by simp⟩ Sj (by intro p hp;cases hp) (show aI Iq<=80 by decide));simp only[ae.val,List.map_nil]at pV;refine pV.out.mono ?_;rintro e xJ ⟨v,rfl,hp,hg⟩;rw[show ae.t (.mk 57 0 ⟨#[]⟩ (.slice (some ⟨b5+1,0,none⟩) 1 1) [.mk 40 0 ⟨#[]⟩ (.slice (some ⟨b5,0,none⟩) 2 2) [.mk 2 0 ⟨#[120]⟩ (.slice none 0 0) [],.mk 1 1 ⟨#[]⟩ (.slice none 0 0) []]])=Iq from rfl]at hp ⊢;rw[aaF]at hp;rw[aaD];obtain⟨ja,jc,jr,dh,rfl,hr1,hr2⟩:=hp;generalize hW:(kF (bW ky (.mk 1 1 ⟨#[]⟩ [])) [⟨10,5,0,0,0⟩,⟨1,5,4,0,0⟩,⟨10,5,0,0,0⟩])=WL at *;dsimp only[List.length_nil]at hr1 hr2 ⊢;have Nk:=ł hg;have WA:=ł (show ay (xJ.alloc (.cells #[.slice ja WL.length jc,.slice jr 0 dh] 34)) (.agg #[.slice ja WL.length jc,.slice jr 0 dh]) ⟨WL,[]⟩from ay.later ⟨_,_,_,_,rfl,hr1,hr2⟩ ((Mv.refl _ _).alloc _));have WB:=ł (heap_alloc_new xJ (.cells #[.slice ja WL.length jc,.slice jr 0 dh] 34));have AO:=ł (hg.alloc (.cells #[.slice ja WL.length jc,.slice jr 0 dh] 34));obtain⟨⟨n0,n1⟩,n2,n3⟩:=aC (ai Wz.out hg);obtain⟨f0,f1,f2⟩:=cK (ai Nj.out hg);have hl0:=lt_of_block (ai Wz.out hg);have hl1:=lt_of_block (ai Nj.out hg);have nP:=ł (KU (xJ.alloc (.cells #[.slice ja WL.length jc,.slice jr 0 dh] 34)) (.mk 57 0 ⟨#[]⟩ (.slice (some ⟨b7+1,0,none⟩) 1 1) [.mk 43 0 ⟨#[]⟩ (.slice (some ⟨b7,0,none⟩) 2 2) [.mk 2 0 ⟨#[120]⟩ (.slice none 0 0) [],.mk 2 0 ⟨#[121]⟩ (.slice none 0 0) []]]) (.slice fa 2 fc) (.slice none 0 0) ky [] (H2A.out.later AO.out) (Md.out.later AO.out) ⟨az.nil _ _ _,by simp⟩ Sj (by intro p hp;cases hp) (show aI Ir<=80 by decide));simp only[ae.val,List.map_nil]at nP;clear hg hr1 hr2 pV;go_wp2_with fail;generalize xJ.alloc (.cells #[.slice ja WL.length jc,.slice jr 0 dh] 34)=Nw at *;generalize xJ.heap.size=x1 at *;clear n0 n1 n2 n3 f0 f1 f2 hl0 hl1 Nk Ar Uk xJ;refine nP.out.mono ?_;rintro e AP ⟨v,rfl,hp,hg⟩;rw[show ae.t (.mk 57 0 ⟨#[]⟩ (.slice (some ⟨b7+1,0,none⟩) 1 1) [.mk 43 0 ⟨#[]⟩ (.slice (some ⟨b7,0,none⟩) 2 2) [.mk 2 0 ⟨#[120]⟩ (.slice none 0 0) [],.mk 2 0 ⟨#[121]⟩ (.slice none 0 0) []]])=Ir from rfl]at hp ⊢;rw[aaG]at hp;rw[aaE];obtain⟨ka,kc,kr,BM,rfl,hr1,hr2⟩:=hp;dsimp only[List.length_nil,List.length_cons,Nat.zero_add,Nat.reduceAdd]at hr1 hr2 ⊢;have ym:=ł (show ay (AP.alloc (.cells #[.slice ka 3 kc,.slice kr 0 BM] 34)) (.agg #[.slice ka 3 kc,.slice kr 0 BM]) ⟨[⟨10,5,0,0,0⟩,⟨10,5,1,0,0⟩,⟨10,5,0,0,0⟩],[]⟩from ay.later ⟨_,_,_,_,rfl,hr1,hr2⟩ ((Mv.refl _ _).alloc _));have kS:=ł (heap_alloc_new AP (.cells #[.slice ka 3 kc,.slice kr 0 BM] 34));have Nl:=ł (gtr AO.out (hg.alloc (.cells #[.slice ka 3 kc,.slice kr 0 BM] 34)));have acr:=ł (WA.out.later (hg.alloc (.cells #[.slice ka 3 kc,.slice kr 0 BM] 34)));have Ul:=ł (ai WB.out (hg.alloc (.cells #[.slice ka 3 kc,.slice kr 0 BM] 34)));clear hr1 hr2 hg nP WA WB AO;go_upto_region 6 with fail;generalize AP.alloc (.cells #[.slice ka 3 kc,.slice kr 0 BM] 34)=CG at *;generalize AP.heap.size=x2 at *;clear Nw AP;have HK:=ł (λ(y:World) (hy:Grow CG y)=>And.intro (ai (ai Nj.out Nl.out) hy) ((Md.out.later Nl.out).later hy));refine wg 82 [some 44,some 45,some 46,some 47,some 48,some 49,some 50,some 43,some 51,some 52,some 9,some 10] [[],[],[],[],[],[2,3,4],[0,1,5],[6],[7],[7],[8],[9]] [5,6,7,8] [.c (.agg #[.int .u8 1,.int .i64 1,.string ⟨#[]⟩,.slice none 0 0]),.c (.agg #[.slice fa 2 fc,.int .i64 2,.int .i64 0]),.c (.agg #[.int .u8 10,.int .i64 5,.int .i64 0,.int .i64 0,.int .i64 0]),.c (.agg #[.int .u8 1,.int .i64 5,.int .i64 4,.int .i64 0,.int .i64 0]),.c (.agg #[.int .u8 10,.int .i64 5,.int .i64 0,.int .i64 0,.int .i64 0]),.p (λv y=>∃ g,v = .slice (some ⟨g,0,none⟩) 3 3/\az 5 Ins.cells y (.slice (some ⟨g,0,none⟩) 3 3) ([⟨10,5,0,0,0⟩,⟨1,5,4,0,0⟩,⟨10,5,0,0,0⟩]:List Ins)),.p (λv y=>∃ a c,v = .tuple #[.slice a WL.length c,.int .i64 0]/\az 5 Ins.cells y (.slice a WL.length c) WL),.p (λv y=>∃ a c,v = .tuple #[.slice a WL.length c,.int .i64 0]/\az 5 Ins.cells y (.slice a WL.length c) WL),.p (λv y=>∃ a c,v = .slice a WL.length c/\az 5 Ins.cells y (.slice a WL.length c) WL),.c (.int .i64 0),.p (λv y=>∃ a c,v = .slice a WL.length c/\az 5 Ins.cells y (.slice a WL.length c) WL),.c (.int .i64 0)] ⟨sR,⟨(λv x y hg h=>by obtain⟨a,c,hv,hb⟩:=h;exact⟨a,c,hv,hb.later hg⟩),by simp⟩,⟨(λv x y hg h=>by obtain⟨a,c,hv,hb⟩:=h;exact⟨a,c,hv,hb.later hg⟩),by simp⟩,⟨(λv x y hg h=>by obtain⟨a,c,hv,hb⟩:=h;exact⟨a,c,hv,hb.later hg⟩),by simp⟩,⟨(λv x y hg h=>by obtain⟨a,c,hv,hb⟩:=h;exact⟨a,c,hv,hb.later hg⟩),λ_=>(λz hz g v x y hb hm h=>by simp[Kd.zero,Sp.k]at hz)⟩,trivial⟩ (dP rfl) ?steps ?done
 case steps =>
  refine⟨?s0,?s1,?s2,?s3,?s4,?s5,?s6,?s7,?s8,?s9,?s10,?s11,trivial⟩
  case s0 =>
   refine ok HK (λvs x hG HX hP => ?_);have HC:=ł (Rs 1 x);simp only[DC,ae.val]at HC;simp only[zS];go_simp;refine(HC.out).mono ?_;rintro e y ⟨rfl,hg⟩;exact⟨_,rfl,aX hg rfl⟩
  case s1 =>
   refine ok HK (λvs x hG HX hP => ?_);obtain⟨f0,f1,f2⟩:=cK (HX.out.1);simp only[zS];go_simp;exact gc
  case s2|s3|s4|s11 =>
   refine oo (λvs x hP => ?_);simp only[zS];go_simp;exact gc
  case s5 =>
   refine oo (λvs x hP => ?_);simp only[zS];go_simp;exact gl ⟨_,rfl,az.bO (f:=Ins.cells) (l:=([⟨10,5,0,0,0⟩,⟨1,5,4,0,0⟩,⟨10,5,0,0,0⟩]:List Ins)) (λ_=>rfl) (heap_alloc_new x _) rfl (by simp)⟩
  case s6 =>
   refine ok HK (λvs x hG HX hP => ?_);obtain⟨g5,h5,b5⟩:=pq hP 5;have HC:=ł (Qp (DC 1) _ _ ky _ x HX.out.2 (DN x 1 1 ⟨#[]⟩ (by decide) (by simp[In64]) (by decide)) b5 Ij.1 Ij.2.1 (by decide) (by decide) Ij.2.2.1 Ij.2.2.2 (by simp));simp only[DC,ae.val,ae.t,ae.ts,show ky.cells=2 from rfl,show ky.stacks=0 from rfl]at HC;simp only[zS,h5];go_simp;refine(HC.out).mono ?_;rintro e y ⟨v,rfl,hrs⟩;rw[hW]at hrs;obtain⟨va,vc,rfl⟩:=gF hrs.row;exact⟨_,rfl,aW hrs.g ⟨va,vc,rfl,fI (λ_=>rfl) hrs.row⟩⟩
  case s7 =>
   refine oo (λvs x hP => ?_);obtain⟨wa6,wc6,h6,wr6⟩:=pq hP 6;simp only[zS,h6];go_simp;exact gk ⟨wa6,wc6,rfl,wr6⟩
  case s8 =>
   refine oo (λvs x hP => ?_);obtain⟨WC,WE,h7,WG⟩:=pq hP 7;simp only[zS,h7];go_simp;exact gk ⟨WC,WE,rfl,WG⟩
  case s9 =>
   refine oo (λvs x hP => ?_);obtain⟨WC,WE,h7,WG⟩:=pq hP 7;simp only[zS,h7];go_simp;exact gc
  case s10 =>
   refine oo (λvs x hP => ?_);obtain⟨wa8,wc8,h8,wr8⟩:=pq hP 8;simp only[zS,h8];go_simp;exact gk ⟨wa8,wc8,rfl,wr8⟩
 case done =>
 intro vs UL hE;have hG:=hE.grow;obtain⟨afu,afv,h10,Um⟩:=hE.val 10;simp only[zS,Nat.reduceAdd,h10];have Je:=ł (gtr aM.out (gtr Nl.out hG));have acs:=ł (ym.out.later hG);have Un:=ł (ai kS.out hG);have bD:=ł (G9 _ _ ⟨WL,[]⟩ ⟨WL,[]⟩ UL (acr.out.later hG) (ay.mk Um (az.nil _ _ _)) (by simp) (by simp));obtain⟨k0,k1⟩:=aA (ai Ul.out hG);have hlx:=lt_of_block (ai Ul.out hG);clear hE hG Um;go_wp2_with fail;refine bD.out.mono ?_;clear k0 k1 hlx bD;rintro e w16 ⟨b,rfl,hb,hg⟩;obtain rfl:b=true:=hb.2 (by trivial);have acu:=ł (gtr Je.out hg);have hga:Grow w16 (w16.alloc (.cells #[.int .u8 10,.int .i64 5,.int .i64 0,.int .i64 0,.int .i64 0,.int .u8 10,.int .i64 5,.int .i64 1,.int .i64 0,.int .i64 0,.int .u8 10,.int .i64 5,.int .i64 0,.int .i64 0,.int .i64 0] 57)):=(Mv.refl _ _).alloc _;have dR:=ł hga;have HS2:=ł (G9 _ _ ⟨[⟨10,5,0,0,0⟩,⟨10,5,1,0,0⟩,⟨10,5,0,0,0⟩],[]⟩ ⟨[⟨10,5,0,0,0⟩,⟨10,5,1,0,0⟩,⟨10,5,0,0,0⟩],[]⟩ _ ((acs.out.later hg).later hga) (ay.mk (az.bO (f:=Ins.cells) (l:=[⟨10,5,0,0,0⟩,⟨10,5,1,0,0⟩,⟨10,5,0,0,0⟩]) (λ_=>rfl) (heap_alloc_new w16 (.cells #[.int .u8 10,.int .i64 5,.int .i64 0,.int .i64 0,.int .i64 0,.int .u8 10,.int .i64 5,.int .i64 1,.int .i64 0,.int .i64 0,.int .u8 10,.int .i64 5,.int .i64 0,.int .i64 0,.int .i64 0] 57)) rfl (by simp)) (az.nil _ _ _)) (by simp) (by simp));dsimp only[List.length_nil,List.length_cons,Nat.zero_add,Nat.reduceAdd]at HS2;obtain⟨k0,k1⟩:=aA (ai Un.out hg);have hlx:=lt_of_block (ai Un.out hg);clear hg hga hb;go_wp2_with fail;refine HS2.out.mono ?_;clear k0 k1 hlx HS2;rintro e w17 ⟨b,rfl,hb,hg⟩;obtain rfl:b=true:=hb.2 (by trivial);have Nn:=ł (gtr acu.out (gtr dR.out hg));clear hg hb;go_wp2_with fail;go_ret;exact⟨rfl,Nn.out⟩
end
end Go.Proofs.YtnobahchcongnaaGreatDoor
namespace Go.Proofs
open Go.Shelf
def Tryz.XD:Go.Shelf.Ren:=⟨fun|6=>73|15=>95|14=>94|28=>120|29=>121|20=>112|21=>113|22=>114|23=>115|24=>116|25=>117|26=>118|27=>119|46=>131|47=>132|48=>133|49=>134|50=>135|57=>138|n=>n,fun|22=>104|24=>106|25=>134|3=>3|39=>144|0=>0|53=>166|55=>168|4=>4|46=>160|45=>159|50=>74|5=>5|9=>9|66=>171|70=>175|76=>178|77=>179|n=>n,fun|n=>n⟩
theorem Tryz.Rt:Go.Proofs.SlLaysF0.n6 Tryz.prog Tryz.XD := {
 mixed:=by kernel_rfl
 f6:=⟨Tryz.f73.name,by decide,Tryz.func73.trans (congrArg some (by kernel_rfl))⟩
 f14:=⟨Tryz.f94.name,by decide,Tryz.func94.trans (congrArg some (by kernel_rfl))⟩
 f15:=Tryz.func95.trans (congrArg some (by kernel_rfl))
 f20:=⟨Tryz.f112.name,by decide,Tryz.func112.trans (congrArg some (by kernel_rfl))⟩
 f21:=⟨Tryz.f113.name,by decide,Tryz.func113.trans (congrArg some (by kernel_rfl))⟩
 f22:=⟨Tryz.f114.name,by decide,Tryz.func114.trans (congrArg some (by kernel_rfl))⟩
 f23:=⟨Tryz.f115.name,by decide,Tryz.func115.trans (congrArg some (by kernel_rfl))⟩
 f24:=⟨Tryz.f116.name,by decide,Tryz.func116.trans (congrArg some (by kernel_rfl))⟩
 f25:=⟨Tryz.f117.name,by decide,Tryz.func117.trans (congrArg some (by kernel_rfl))⟩
 f26:=⟨Tryz.f118.name,by decide,Tryz.func118.trans (congrArg some (by kernel_rfl))⟩
 f27:=⟨Tryz.f119.name,by decide,Tryz.func119.trans (congrArg some (by kernel_rfl))⟩
 f28:=Tryz.func120.trans (congrArg some (by kernel_rfl))
 f29:=Tryz.func121.trans (congrArg some (by kernel_rfl))
 f46:=⟨Tryz.f131.name,by decide,Tryz.func131.trans (congrArg some (by kernel_rfl))⟩
 f47:=Tryz.func132.trans (congrArg some (by kernel_rfl))
 f48:=Tryz.func133.trans (congrArg some (by kernel_rfl))
 f49:=⟨Tryz.f134.name,by decide,Tryz.func134.trans (congrArg some (by kernel_rfl))⟩
 f50:=⟨Tryz.f135.name,by decide,Tryz.func135.trans (congrArg some (by kernel_rfl))⟩
 f57:=⟨Tryz.f138.name,by decide,Tryz.func138.trans (congrArg some (by kernel_rfl))⟩
 t0:=Tryz.underlying0
 a0:=Tryz.isAgg0
 z0:=Tryz.sizeOf0
 v0:=Tryz.zeroValue0
 t3:=Tryz.underlying3
 a3:=Tryz.isAgg3
 z3:=Tryz.sizeOf3
 v3:=Tryz.zeroValue3
 t4:=Tryz.underlying4
 a4:=Tryz.isAgg4
 z4:=Tryz.sizeOf4
 v4:=Tryz.zeroValue4
 t5:=Tryz.underlying5
 a5:=Tryz.isAgg5
 z5:=Tryz.sizeOf5
 v5:=Tryz.zeroValue5
 t9:=Tryz.underlying9
 a9:=Tryz.isAgg9
 z9:=Tryz.sizeOf9
 v9:=Tryz.zeroValue9
 t22:=Tryz.underlying104
 a22:=Tryz.isAgg104
 z22:=Tryz.sizeOf104
 v22:=Tryz.zeroValue104
 t25:=Tryz.underlying134
 a25:=Tryz.isAgg134
 z25:=Tryz.sizeOf134
 v25:=Tryz.zeroValue134
 t39:=Tryz.underlying144
 a39:=Tryz.isAgg144
 z39:=Tryz.sizeOf144
 v39:=Tryz.zeroValue144
 t45:=Tryz.underlying159
 a45:=Tryz.isAgg159
 z45:=Tryz.sizeOf159
 v45:=Tryz.zeroValue159
 t46:=Tryz.underlying160
 a46:=Tryz.isAgg160
 z46:=Tryz.sizeOf160
 v46:=Tryz.zeroValue160
 t50:=Tryz.underlying74
 a50:=Tryz.isAgg74
 z50:=Tryz.sizeOf74
 v50:=Tryz.zeroValue74
 t53:=Tryz.underlying166
 a53:=Tryz.isAgg166
 z53:=Tryz.sizeOf166
 v53:=Tryz.zeroValue166
 t55:=Tryz.underlying168
 a55:=Tryz.isAgg168
 z55:=Tryz.sizeOf168
 v55:=Tryz.zeroValue168
 t66:=Tryz.underlying171
 a66:=Tryz.isAgg171
 z66:=Tryz.sizeOf171
 v66:=Tryz.zeroValue171
 t70:=Tryz.underlying175
 a70:=Tryz.isAgg175
 z70:=Tryz.sizeOf175
 v70:=Tryz.zeroValue175
 t76:=Tryz.underlying178
 a76:=Tryz.isAgg178
 z76:=Tryz.sizeOf178
 v76:=Tryz.zeroValue178
 t77:=Tryz.underlying179
 a77:=Tryz.isAgg179
 z77:=Tryz.sizeOf179
 v77:=Tryz.zeroValue179 }
end Go.Proofs
namespace Go.Proofs.YtnobahchcongnaaGreatDoor
section
open Go.RowKit Go.Lib Go.Sort
abbrev eB:=Int × Int
def vE (x:eB):List Value:=[.int .i64 x.1,.int .i64 x.2]
def pz (x y:eB):Int:=Lib.compareInt x.1 y.1
theorem ZR (x y:eB) (W:World):Calls Tryz.prog 74 #[.agg #[.int .i64 x.1,.int .i64 x.2],.agg #[.int .i64 y.1,.int .i64 y.2]] W λe w'=>e = .returned (.int .i64 (Lib.compareInt x.1 y.1))/\∃ q os',w'=grow (W.drewN q) os':=by
 have hcon:=λW'=>Tryz.cmp_Compare_int x.1 y.1 W';generalize Lib.compareInt x.1 y.1=r at hcon ⊢
 go_enter Tryz.func74,Tryz.ntmps74
 go_wp2_with (go_at_call 75;refine(hcon _).mono ?_;rintro e w' ⟨rfl,rfl⟩)
 go_ret;exact⟨rfl,0,_,by rw[alloc_eq_grow,alloc_eq_grow,grow_grow];rfl⟩
theorem ZT (blk off size:Nat) (w:World):CmpLays Tryz.prog 74 #[] vE 2 pz blk off size w:=λ_ _ _ _ x y=>ZR x y _
theorem Np (x y:eB):ltOf pz x y=decide (x.1<y.1):=by
 unfold ltOf pz Lib.compareInt;by_cases h1:x.1<y.1
 · simp[h1]
 · by_cases h2:y.1<x.1 <;> simp[h1,h2]
theorem Iu:SWO (ltOf pz) where
 irrefl x:=by rw[Np];simp
 trans x y z h1 h2:=by rw[Np]at *;simp at *;omega
 ntrans x y z h1 h2:=by rw[Np]at *;simp at *;omega
def rX (l:List eB):List eB:=(pdq (ltOf pz) l.toArray 0 l.length (Lib.bitLen l.length) true true).toList
def vI:List eB->List Value
 | []=>[]
 |x :: l => .int .i64 x.1 :: .int .i64 x.2 :: vI l
theorem QQ:∀ (l:List eB) (i:Nat) (h:i<l.length),(vI l)[i * 2]? = some (.int .i64 l[i].1)/\(vI l)[i * 2+1]? = some (.int .i64 l[i].2)
 | [],i,h=>by simp at h
 |x :: l,0,h=>by simp[vI]
 |x :: l,i+1,h=>by
  have:=QQ l i (by simpa using h);rw[show(i+1) * 2=i * 2+1+1 by omega,show i * 2+1+1+1=(i * 2+1)+1+1 by omega];simp only[vI,List.getElem?_cons_succ,List.getElem_cons_succ];exact this
theorem Xn (a:List eB) (x:eB):vI (a ++ [x])=vI a ++ [.int .i64 x.1,.int .i64 x.2]:=by
 induction a with
 |nil=>rfl
 |cons y a ih=>simp[vI,ih]
abbrev mV (w:World) (base:Nat) (v:Value) (l:List eB):Prop:=w.ownsRow base 106 2 v l.length (vI l)
theorem mV.holds {w:World} {base g cap n:Nat} {l:List eB} (h:mV w base (.slice (some ⟨g,0,none⟩) n cap) l):HoldsK vE 2 w g 0 l.toArray/\g<w.heap.size:=by
 rcases h.2 with⟨e,_⟩|⟨g',cap',cur,e,_,hg,hnc,hcm,hcs,htake⟩
 · simp at e
 · simp only[Value.slice.injEq,Option.some.injEq,Addr.mk.injEq,and_true]at e;obtain⟨rfl,_,_⟩:=e;refine⟨λj hj => ?_,lt_of_block hg⟩;simp only[size_flatK,List.size_toArray]at hj;rw[get_flatK _ _ _ _ (by simpa using hj)];have hjl:j / 2<l.length:=by omega
   have hget:(vI l)[j]? = some ((vE (l.toArray[j / 2]!))[j % 2]!):=by
    have h1:=QQ l (j / 2) hjl;have h2:l.toArray[j / 2]! = l[j / 2]:=by simp[hjl]
    rw[h2];rcases Nat.mod_two_eq_zero_or_one j with h3|h3
    · rw[h3];have h4:=h1.1;rw[show j / 2 * 2=j by omega]at h4;exact h4
    · rw[h3];have h4:=h1.2;rw[show j / 2 * 2+1=j by omega]at h4;exact h4
   have nZ:cur[j]? = some ((vE (l.toArray[j / 2]!))[j % 2]!):=by
    rw[← hget,← htake,List.getElem?_take,if_pos (by omega)];simp
   constructor
   · simp only[World.cell?,hg,Option.isSome_none,Bool.false_eq_true,if_false,Nat.zero_add];exact nZ
   · simp[World.frozen?,hg]
theorem Y4 (base:Nat) (v:Value) (l:List eB) (w:World) (h:mV w base v l) (hsz:l.length<4611686018427387904) :
 Calls Tryz.prog 73 #[v,.func (.func 74) #[] #[]] w λe w'=>e = .returned (.tuple #[])/\az 2 vE w' v (rX l)/\Mv (λb=>v.ownBlock=some b) w w':=by
 have eg:∀ args w,(callFunc 74 args).run Tryz.prog w = .ok (.enter 74 args) w:=enters_of Tryz.func74 (by kernel_rfl) rfl;have hlen:(rX l).length=l.length:=by
  have hp:=(pdq_sorts (ltOf pz) Iu l.toArray 0 l.length (Lib.bitLen l.length) true true (Nat.zero_le _) (by simp) (Or.inl rfl)).1.1
  simpa[rX]using hp
 rcases h.2 with⟨rfl,hl⟩|⟨g,cap,cur,rfl,hb,hg,hnc,hcm,hcs,htake⟩
 · obtain rfl:l=[]:=List.eq_nil_of_length_eq_zero hl;have hcon:=AnyF.slices_SortFunc_none Tryz.Rt none 0 (.func (.func 74) #[] #[]) w;change Calls Tryz.prog 73 _ _ _ at hcon;refine hcon.mono ?_;rintro e w' ⟨rfl,rfl⟩;have h0:rX []=[]:=List.eq_nil_of_length_eq_zero (by simpa using hlen);rw[h0];exact⟨rfl,az.nil _ _ _,Mv.refl _ _⟩
 · obtain⟨hH,hblk⟩:=mV.holds h;have hcon:=AnyQ.slices_SortFunc_eq Tryz.Rt 2 Tryz.isAgg106 Tryz.sizeOf106 vE (λ_=>rfl) (λx v hv=>by simp[vE]at hv;rcases hv with rfl|rfl <;> rfl) pz Iu 74 #[] g 0 cap l.toArray w eg (ZT g 0 _ w) hH hblk (by simpa using hsz);change Calls Tryz.prog 73 _ _ _ at hcon;simp only[List.size_toArray]at hcon;refine hcon.mono ?_;rintro e w' ⟨rfl,n,os,rfl⟩;have hH2:=holdsK_sortWorldK_c vE 2 w g 0 l.toArray (pdq (ltOf pz) l.toArray 0 l.length (Lib.bitLen l.length) true true) n os hH hblk (by have:=hlen;simp only[rX,Array.length_toList]at this;simpa using this);refine⟨rfl,⟨some ⟨g,0,none⟩,cap,by rw[hlen],by rw[hlen];exact hnc,by rw[hlen];omega,λi x hx=>⟨g,0,rfl,λj u hu => ?_⟩⟩,?_⟩
   · have hi:=(List.getElem?_eq_some_iff.1 hx).1;have hj:j<2:=by
      have:=(List.getElem?_eq_some_iff.1 hu).1
      simpa[vE]using this
     have hc:=(hH2.cell (i:=i) (c:=j) (by simpa[rX]using hi) hj).1;rw[hc];have h1:(pdq (ltOf pz) l.toArray 0 l.length (Lib.bitLen l.length) true true)[i]! = x:=by
      have:(pdq (ltOf pz) l.toArray 0 l.length (Lib.bitLen l.length) true true)[i]? = some x:=by simpa[rX]using hx
      simp[getElem!_def,this]
     rw[h1];simp[getElem!_def,hu]
   · refine⟨rfl,rfl,rfl,size_sortWorldK_c vE 2 w g 0 n _ os,λb hb hne => ?_⟩;have hbg:g≠b:=λe=>hne (by simp[Value.ownBlock,e])
     show(w.heap.modify g _ ++ os)[b]? = _
     rw[Array.getElem?_append_left (by simpa using hb),Array.getElem?_modify,if_neg hbg]
def vJ (first count:Int):Int->List eB->Bool
 |_,[]=>true
 |used,x :: r=>if x.1<first then false
  else if wrap64 (x.1 - first)<used\/count<=wrap64 (x.1 - first)\/x.2<1\/wrap64 (count - wrap64 (x.1 - first))<x.2 then false
  else vJ first count (wrap64 (wrap64 (x.1 - first)+x.2)) r
def o9 (l:List eB) (first count:Int):Bool:=vJ first count 0 (rX l)
theorem QR (base:Nat) (v:Value) (l:List eB) (first count:Int) (w:World) (h:mV w base v l) (hsz:l.length<4611686018427387904) :
 Calls Tryz.prog 42 #[v,.int .i64 first,.int .i64 count] w λe w'=>e = .returned (.bool (o9 l first count))/\Mv (λb=>v.ownBlock=some b) w w':=by
 have HS:=ł (Y4 base v l w h hsz);obtain⟨va,vc,rfl⟩:∃ a c,v = .slice a l.length c:=by
  rcases h.2 with⟨rfl,hl⟩|⟨g,cap,cur,rfl,_⟩
  · exact⟨none,0,by rw[hl]⟩
  · exact⟨_,_,rfl⟩
 clear h
 go_enter Tryz.func42,Tryz.ntmps42
 go_wp2_with fail;refine HS.out.mono ?_;rintro e w1 ⟨rfl,hrow,hm⟩;have HB:=ł (show o9 l first count=vJ first count 0 (rX l)from rfl);generalize rX l=sl at *;obtain⟨a,cap,hv,hcap,hlen⟩:=hrow.form;have HR:=ł hrow;have HM:=ł hm;simp only[Value.slice.injEq,true_and]at hv;obtain⟨rfl,hll,rfl⟩:=hv;rw[hll]at HR HM ⊢;clear hrow hm hll HS hsz;go_wp2_with fail
 go_loopw [7,15] (λu t wr=>∃ (k:Nat) (used:Int),u = .int .i64 used/\t = .int .i64 k/\k<=sl.length/\Grow w1 wr/\o9 l first count=vJ first count used (sl.drop k)) (λ_ t _=>sl.length - (intOf t).toNat)
 case atStart=>exact⟨0,0,rfl,rfl,Nat.zero_le _,Mv.refl _ _,HB.out⟩
 obtain⟨k,used,rfl,rfl,hk,hg,hap⟩:=hrel;have HG:=ł hg;have O7:=ł hap;have Dc:=ł (Mv.trans HM.out hg (λ_ e=>e.elim));clear hap;by_cases hlt:k<sl.length
 · obtain⟨b,off,cap',e,_,hcc⟩:=(HR.out.later hg).at hlt;simp only[Value.slice.injEq,true_and]at e;obtain⟨rfl,rfl⟩:=e;have c0:=hcc 0 _ rfl;have c1:=hcc 1 _ rfl;simp only[Nat.add_zero]at c0;have hbl:b<wr.heap.size:=World.block_lt_of_cell? wr _ c0;have HD:=ł (show sl.drop k=sl[k] :: sl.drop (k+1)from(List.getElem_cons_drop hlt).symm);generalize hx:sl[k]=x at *;obtain⟨xa,xn⟩:=x;simp only at c0 c1;clear hcc hx hg;by_cases h1:xa<first
   · have HF:=ł (show o9 l first count=false from by rw[O7.out,HD.out];simp only[vJ];rw[if_pos h1]);go_wp2_with fail;go_ret;exact⟨aK (by rw[HF.out]),Dc.out.alloc _⟩
   · have HST:=ł (show o9 l first count=(if wrap64 (xa - first)<used\/count<=wrap64 (xa - first)\/xn<1\/wrap64 (count - wrap64 (xa - first))<xn then false else vJ first count (wrap64 (wrap64 (xa - first)+xn)) (sl.drop (k+1)))from by
      rw[O7.out,HD.out];simp only[vJ];rw[if_neg h1])
     generalize hsk:wrap64 (xa - first)=skip at *;by_cases hbad:skip<used\/count<=skip\/xn<1\/wrap64 (count - skip)<xn
     · have HF:=ł (show o9 l first count=false from by rw[HST.out,if_pos hbad]);by_cases b1:skip<used
       · go_wp2_with fail;go_ret;exact⟨aK (by rw[HF.out]),Dc.out.alloc _⟩
       · by_cases b2:count<=skip
         · go_wp2_with fail;go_ret;exact⟨aK (by rw[HF.out]),Dc.out.alloc _⟩
         · by_cases b3:xn<1
           · clear hbad;go_wp2_with fail;go_ret;exact⟨aK (by rw[HF.out]),Dc.out.alloc _⟩
           · have b4:wrap64 (count - skip)<xn:=by omega
             clear hbad;go_wp2_with fail;go_ret;exact⟨aK (by rw[HF.out]),Dc.out.alloc _⟩
     · have HF:=ł (show o9 l first count=vJ first count (wrap64 (skip+xn)) (sl.drop (k+1))from by rw[HST.out,if_neg hbad]);have b1:¬ skip<used:=λe=>hbad (.inl e);have b2:¬ count<=skip:=λe=>hbad (.inr (.inl e));have b3:¬ xn<1:=λe=>hbad (.inr (.inr (.inl e)));have b4:¬ wrap64 (count - skip)<xn:=λe=>hbad (.inr (.inr (.inr e)));clear hbad;go_wp2_with fail
       go_roundw
       case rel=>exact⟨k+1,wrap64 (skip+xn),rfl,by go_num,by omega,HG.out.alloc _,HF.out⟩
       case measure=>simp[intOf];omega
 · obtain rfl:k=sl.length:=by omega
   have HF:=ł (show o9 l first count=true from by rw[O7.out,List.drop_length];rfl);go_wp2_with fail;go_ret;exact⟨aK (by rw[HF.out]),Dc.out.mono (λx e => .inl (by cases va with|none=>simp[Value.ownBlock]at e|some a=>simpa[Value.ownBlock]using e))⟩
end
end Go.Proofs.YtnobahchcongnaaGreatDoor
