import Derived.Test.YtnobahchcongnaaGreatF49
set_option linter.unusedSimpArgs false
set_option linter.unusedVariables false
set_option maxRecDepth 100000
set_option maxHeartbeats 25600000
namespace Go.Proofs.YtnobahchcongnaaGreat
open Go.RowKit Go.Instr
theorem yL (w:World):Calls Tryz.prog 4 #[] w λe w'=>e = .returned (.bool true)/\Grow w w':=by
 have hg1:Grow w (w.alloc (.cells #[.string ⟨#[120]⟩,.int .u8 1,.int .i64 0,.string ⟨#[121]⟩,.int .u8 1,.int .i64 0] 54)):=(Mv.refl _ _).alloc _;have bg:=ł hg1;have vB:=ł (JY _ El _ (ax.bN (f:=aA.cells) (l:=El) (λ_=>rfl) (heap_alloc_new w (.cells #[.string ⟨#[120]⟩,.int .u8 1,.int .i64 0,.string ⟨#[121]⟩,.int .u8 1,.int .i64 0] 54)) rfl (by decide)));have HV:=ł Z6;have HN:=ł P8;clear hg1;simp only[Kn,El,List.length_cons,List.length_nil,Nat.zero_add,Nat.reduceAdd]at vB
 go_enter Tryz.func4,Tryz.ntmps4
 go_wp2_with fail;refine vB.out.mono ?_;clear vB;rintro e w1 ⟨sv,rfl,hfa,hg⟩;have e1:jX [⟨⟨#[120]⟩,1,0⟩,⟨⟨#[121]⟩,1,0⟩]=0:=QS.2;have e2:frameC [⟨⟨#[120]⟩,1,0⟩,⟨⟨#[121]⟩,1,0⟩]=jY:=QS.1;rw[e1]at hfa ⊢;rw[if_pos rfl,e2]at hfa ⊢;obtain⟨fa,fc,rfl,-,-⟩:=hfa.row.form;have HG2:=ł (gtr bg.out hg);have dS:=ł hfa;clear hg hfa e1 e2 bg;simp only[show jY.cells=2 from rfl,show jY.stacks=0 from rfl,show jY.slots.length=2 from rfl];have vg:=ł (heap_alloc_new w1 (.cells #[.slice fa 2 fc,.int .i64 2,.int .i64 0] 38));have aG:=ł (HG2.out.alloc (.cells #[.slice fa 2 fc,.int .i64 2,.int .i64 0] 38));have uT:=ł (dS.out.later ((Mv.refl _ w1).alloc (.cells #[.slice fa 2 fc,.int .i64 2,.int .i64 0] 38)));go_wp2_with fail;generalize w1.alloc (.cells #[.slice fa 2 fc,.int .i64 2,.int .i64 0] 38)=w2 at *;refine(HV.out _ _).mono ?_;rintro e w3 ⟨rfl,hg3⟩;have aN:=ł hg3;clear hg3;simp only[Ff,ae.val];go_wp2_with fail;refine(HN.out _ _).mono ?_;rintro e w4 ⟨rfl,hg4⟩;have aT:=ł (gtr aN.out hg4);clear hg4 aN;simp only[BS,ae.val];have Vh:=ł (show aS (((w4.alloc (.cells #[.int .u8 2,.int .i64 0,.string ⟨#[120]⟩,.slice none 0 0,.int .u8 1,.int .i64 1,.string ⟨#[]⟩,.slice none 0 0] 26)).alloc (.cells #[.int .u8 40,.int .i64 0,.string ⟨#[]⟩,.slice (some ⟨w4.heap.size,0,none⟩) 2 2] 26)).alloc (.cells #[.int .u8 57,.int .i64 0,.string ⟨#[]⟩,.slice (some ⟨w4.heap.size+1,0,none⟩) 1 1] 26)) (.mk 57 0 ⟨#[]⟩ (.slice (some ⟨w4.heap.size+1,0,none⟩) 1 1) [.mk 40 0 ⟨#[]⟩ (.slice (some ⟨w4.heap.size,0,none⟩) 2 2) [.mk 2 0 ⟨#[120]⟩ (.slice none 0 0) [],.mk 1 1 ⟨#[]⟩ (.slice none 0 0) []]])from by
  have b1:=aO (aO (heap_alloc_new w4 (.cells #[.int .u8 2,.int .i64 0,.string ⟨#[120]⟩,.slice none 0 0,.int .u8 1,.int .i64 1,.string ⟨#[]⟩,.slice none 0 0] 26)) (.cells #[.int .u8 40,.int .i64 0,.string ⟨#[]⟩,.slice (some ⟨w4.heap.size,0,none⟩) 2 2] 26)) (.cells #[.int .u8 57,.int .i64 0,.string ⟨#[]⟩,.slice (some ⟨w4.heap.size+1,0,none⟩) 1 1] 26);have b2:=aO (heap_alloc_new (w4.alloc (.cells #[.int .u8 2,.int .i64 0,.string ⟨#[120]⟩,.slice none 0 0,.int .u8 1,.int .i64 1,.string ⟨#[]⟩,.slice none 0 0] 26)) (.cells #[.int .u8 40,.int .i64 0,.string ⟨#[]⟩,.slice (some ⟨w4.heap.size,0,none⟩) 2 2] 26)) (.cells #[.int .u8 57,.int .i64 0,.string ⟨#[]⟩,.slice (some ⟨w4.heap.size+1,0,none⟩) 1 1] 26);rw[World.size_alloc]at b2;refine EO (by decide) (by simp[In64]) (by decide) b2 rfl rfl (by decide) (λx hx => ?_);rw[List.mem_singleton.1 hx];refine EO (by decide) (by simp[In64]) (by decide) b1 rfl rfl (by decide) (λx hx => ?_);simp only[List.mem_cons,List.not_mem_nil,or_false]at hx;rcases hx with rfl|rfl
  · exact Ca _ _ _ _ (by decide) (by simp[In64]) (by decide)
  · exact Ca _ _ _ _ (by decide) (by simp[In64]) (by decide))
 have Ig:=ł (show(((w4.alloc (.cells #[.int .u8 2,.int .i64 0,.string ⟨#[120]⟩,.slice none 0 0,.int .u8 1,.int .i64 1,.string ⟨#[]⟩,.slice none 0 0] 26)).alloc (.cells #[.int .u8 40,.int .i64 0,.string ⟨#[]⟩,.slice (some ⟨w4.heap.size,0,none⟩) 2 2] 26)).alloc (.cells #[.int .u8 57,.int .i64 0,.string ⟨#[]⟩,.slice (some ⟨w4.heap.size+1,0,none⟩) 1 1] 26)).heap[w4.heap.size+1+1]? = some (.cells #[.int .u8 57,.int .i64 0,.string ⟨#[]⟩,.slice (some ⟨w4.heap.size+1,0,none⟩) 1 1] 26 (0,0))from by
  have:=heap_alloc_new ((w4.alloc (.cells #[.int .u8 2,.int .i64 0,.string ⟨#[120]⟩,.slice none 0 0,.int .u8 1,.int .i64 1,.string ⟨#[]⟩,.slice none 0 0] 26)).alloc (.cells #[.int .u8 40,.int .i64 0,.string ⟨#[]⟩,.slice (some ⟨w4.heap.size,0,none⟩) 2 2] 26)) (.cells #[.int .u8 57,.int .i64 0,.string ⟨#[]⟩,.slice (some ⟨w4.heap.size+1,0,none⟩) 1 1] 26);rwa[World.size_alloc,World.size_alloc]at this)
 have dw:=ł (((aT.out.alloc (.cells #[.int .u8 2,.int .i64 0,.string ⟨#[120]⟩,.slice none 0 0,.int .u8 1,.int .i64 1,.string ⟨#[]⟩,.slice none 0 0] 26)).alloc (.cells #[.int .u8 40,.int .i64 0,.string ⟨#[]⟩,.slice (some ⟨w4.heap.size,0,none⟩) 2 2] 26)).alloc (.cells #[.int .u8 57,.int .i64 0,.string ⟨#[]⟩,.slice (some ⟨w4.heap.size+1,0,none⟩) 1 1] 26));go_wp2_with fail;generalize (((w4.alloc (.cells #[.int .u8 2,.int .i64 0,.string ⟨#[120]⟩,.slice none 0 0,.int .u8 1,.int .i64 1,.string ⟨#[]⟩,.slice none 0 0] 26)).alloc (.cells #[.int .u8 40,.int .i64 0,.string ⟨#[]⟩,.slice (some ⟨w4.heap.size,0,none⟩) 2 2] 26)).alloc (.cells #[.int .u8 57,.int .i64 0,.string ⟨#[]⟩,.slice (some ⟨w4.heap.size+1,0,none⟩) 1 1] 26))=w5 at *;generalize w4.heap.size+1+1=c5 at *;generalize w4.heap.size=b5 at *;clear aT w3 w4;refine(HV.out _ _).mono ?_;rintro e w6 ⟨rfl,hg⟩;have vC:=ł hg;clear hg;simp only[Ff,ae.val];go_wp2_with fail;refine(HV.out _ _).mono ?_;rintro e w7 ⟨rfl,hg⟩;have nz:=ł (gtr vC.out hg);clear hg vC;simp only[Ff,ae.val];have H2A:=ł (show aS (((w7.alloc (.cells #[.int .u8 2,.int .i64 0,.string ⟨#[120]⟩,.slice none 0 0,.int .u8 2,.int .i64 0,.string ⟨#[121]⟩,.slice none 0 0] 26)).alloc (.cells #[.int .u8 43,.int .i64 0,.string ⟨#[]⟩,.slice (some ⟨w7.heap.size,0,none⟩) 2 2] 26)).alloc (.cells #[.int .u8 57,.int .i64 0,.string ⟨#[]⟩,.slice (some ⟨w7.heap.size+1,0,none⟩) 1 1] 26)) (.mk 57 0 ⟨#[]⟩ (.slice (some ⟨w7.heap.size+1,0,none⟩) 1 1) [.mk 43 0 ⟨#[]⟩ (.slice (some ⟨w7.heap.size,0,none⟩) 2 2) [.mk 2 0 ⟨#[120]⟩ (.slice none 0 0) [],.mk 2 0 ⟨#[121]⟩ (.slice none 0 0) []]])from by
  have b1:=aO (aO (heap_alloc_new w7 (.cells #[.int .u8 2,.int .i64 0,.string ⟨#[120]⟩,.slice none 0 0,.int .u8 2,.int .i64 0,.string ⟨#[121]⟩,.slice none 0 0] 26)) (.cells #[.int .u8 43,.int .i64 0,.string ⟨#[]⟩,.slice (some ⟨w7.heap.size,0,none⟩) 2 2] 26)) (.cells #[.int .u8 57,.int .i64 0,.string ⟨#[]⟩,.slice (some ⟨w7.heap.size+1,0,none⟩) 1 1] 26);have b2:=aO (heap_alloc_new (w7.alloc (.cells #[.int .u8 2,.int .i64 0,.string ⟨#[120]⟩,.slice none 0 0,.int .u8 2,.int .i64 0,.string ⟨#[121]⟩,.slice none 0 0] 26)) (.cells #[.int .u8 43,.int .i64 0,.string ⟨#[]⟩,.slice (some ⟨w7.heap.size,0,none⟩) 2 2] 26)) (.cells #[.int .u8 57,.int .i64 0,.string ⟨#[]⟩,.slice (some ⟨w7.heap.size+1,0,none⟩) 1 1] 26);rw[World.size_alloc]at b2;refine EO (by decide) (by simp[In64]) (by decide) b2 rfl rfl (by decide) (λx hx => ?_);rw[List.mem_singleton.1 hx];refine EO (by decide) (by simp[In64]) (by decide) b1 rfl rfl (by decide) (λx hx => ?_);simp only[List.mem_cons,List.not_mem_nil,or_false]at hx;rcases hx with rfl|rfl
  · exact Ca _ _ _ _ (by decide) (by simp[In64]) (by decide)
  · exact Ca _ _ _ _ (by decide) (by simp[In64]) (by decide))
 have Vi:=ł (show(((w7.alloc (.cells #[.int .u8 2,.int .i64 0,.string ⟨#[120]⟩,.slice none 0 0,.int .u8 2,.int .i64 0,.string ⟨#[121]⟩,.slice none 0 0] 26)).alloc (.cells #[.int .u8 43,.int .i64 0,.string ⟨#[]⟩,.slice (some ⟨w7.heap.size,0,none⟩) 2 2] 26)).alloc (.cells #[.int .u8 57,.int .i64 0,.string ⟨#[]⟩,.slice (some ⟨w7.heap.size+1,0,none⟩) 1 1] 26)).heap[w7.heap.size+1+1]? = some (.cells #[.int .u8 57,.int .i64 0,.string ⟨#[]⟩,.slice (some ⟨w7.heap.size+1,0,none⟩) 1 1] 26 (0,0))from by
  have:=heap_alloc_new ((w7.alloc (.cells #[.int .u8 2,.int .i64 0,.string ⟨#[120]⟩,.slice none 0 0,.int .u8 2,.int .i64 0,.string ⟨#[121]⟩,.slice none 0 0] 26)).alloc (.cells #[.int .u8 43,.int .i64 0,.string ⟨#[]⟩,.slice (some ⟨w7.heap.size,0,none⟩) 2 2] 26)) (.cells #[.int .u8 57,.int .i64 0,.string ⟨#[]⟩,.slice (some ⟨w7.heap.size+1,0,none⟩) 1 1] 26);rwa[World.size_alloc,World.size_alloc]at this)
 have q9:=ł (((nz.out.alloc (.cells #[.int .u8 2,.int .i64 0,.string ⟨#[120]⟩,.slice none 0 0,.int .u8 2,.int .i64 0,.string ⟨#[121]⟩,.slice none 0 0] 26)).alloc (.cells #[.int .u8 43,.int .i64 0,.string ⟨#[]⟩,.slice (some ⟨w7.heap.size,0,none⟩) 2 2] 26)).alloc (.cells #[.int .u8 57,.int .i64 0,.string ⟨#[]⟩,.slice (some ⟨w7.heap.size+1,0,none⟩) 1 1] 26));have Dl:Grow w7 (((w7.alloc (.cells #[.int .u8 2,.int .i64 0,.string ⟨#[120]⟩,.slice none 0 0,.int .u8 2,.int .i64 0,.string ⟨#[121]⟩,.slice none 0 0] 26)).alloc (.cells #[.int .u8 43,.int .i64 0,.string ⟨#[]⟩,.slice (some ⟨w7.heap.size,0,none⟩) 2 2] 26)).alloc (.cells #[.int .u8 57,.int .i64 0,.string ⟨#[]⟩,.slice (some ⟨w7.heap.size+1,0,none⟩) 1 1] 26)):=(((Mv.refl _ _).alloc _).alloc _).alloc _;have Lx:=ł (ai (ai vg.out dw.out) q9.out);have KF:=ł ((uT.out.later dw.out).later q9.out);have zh:=ł (ai Ig.out q9.out);have Sw:=ł (Vh.out.later q9.out);have aK:=ł (gtr aG.out (gtr dw.out q9.out));obtain⟨⟨n0,n1⟩,n2,n3⟩:=aF (ai Ig.out nz.out);obtain⟨f0,f1,f2⟩:=di (ai (ai vg.out dw.out) nz.out);have hl0:=lt_of_block (ai Ig.out nz.out);have hl1:=lt_of_block (ai (ai vg.out dw.out) nz.out);have Gm:c5<w7.heap.size+1:=by omega
 have Gn:c5<w7.heap.size+1+1:=by omega
 have aaJ:w1.heap.size<w7.heap.size+1:=by omega
 have aaK:w1.heap.size<w7.heap.size+1+1:=by omega
 clear dS uT vg Vh Ig Dl HN HV;go_wp2_with fail;generalize (((w7.alloc (.cells #[.int .u8 2,.int .i64 0,.string ⟨#[120]⟩,.slice none 0 0,.int .u8 2,.int .i64 0,.string ⟨#[121]⟩,.slice none 0 0] 26)).alloc (.cells #[.int .u8 43,.int .i64 0,.string ⟨#[]⟩,.slice (some ⟨w7.heap.size,0,none⟩) 2 2] 26)).alloc (.cells #[.int .u8 57,.int .i64 0,.string ⟨#[]⟩,.slice (some ⟨w7.heap.size+1,0,none⟩) 1 1] 26))=Bg at *;generalize w7.heap.size+1+1=c7 at *;generalize w7.heap.size=b7 at *;clear n0 n1 n2 n3 f0 f1 f2 hl0 hl1 Gm Gn aaJ aaK nz q9 dw aG HG2 w6 w7 w5;have xu:=ł (JG Bg (.mk 57 0 ⟨#[]⟩ (.slice (some ⟨b5+1,0,none⟩) 1 1) [.mk 40 0 ⟨#[]⟩ (.slice (some ⟨b5,0,none⟩) 2 2) [.mk 2 0 ⟨#[120]⟩ (.slice none 0 0) [],.mk 1 1 ⟨#[]⟩ (.slice none 0 0) []]]) (.slice fa 2 fc) (.slice none 0 0) jY [] Sw.out KF.out ⟨ax.nil _ _ _,by simp⟩ QT (by intro p hp;cases hp) (show bA FM<=80 by decide));simp only[ae.val,List.map_nil]at xu;refine xu.out.mono ?_;rintro e bf ⟨v,rfl,hp,hg⟩;rw[show ae.t (.mk 57 0 ⟨#[]⟩ (.slice (some ⟨b5+1,0,none⟩) 1 1) [.mk 40 0 ⟨#[]⟩ (.slice (some ⟨b5,0,none⟩) 2 2) [.mk 2 0 ⟨#[120]⟩ (.slice none 0 0) [],.mk 1 1 ⟨#[]⟩ (.slice none 0 0) []]])=FM from rfl]at hp ⊢;rw[ZO]at hp;rw[ZM];obtain⟨ja,jc,jr,bz,rfl,hr1,hr2⟩:=hp;generalize hW:(ky (eP jY (.mk 1 1 ⟨#[]⟩ [])) [⟨10,5,0,0,0⟩,⟨1,5,4,0,0⟩,⟨10,5,0,0,0⟩])=WL at *;dsimp only[List.length_nil]at hr1 hr2 ⊢;have Be:=ł hg;have Ei:=ł (show ay (bf.alloc (.cells #[.slice ja WL.length jc,.slice jr 0 bz] 45)) (.agg #[.slice ja WL.length jc,.slice jr 0 bz]) ⟨WL,[]⟩from ay.later ⟨_,_,_,_,rfl,hr1,hr2⟩ ((Mv.refl _ _).alloc _));have su:=ł (heap_alloc_new bf (.cells #[.slice ja WL.length jc,.slice jr 0 bz] 45));have yj:=ł (hg.alloc (.cells #[.slice ja WL.length jc,.slice jr 0 bz] 45));obtain⟨⟨n0,n1⟩,n2,n3⟩:=aF (ai Vi.out hg);obtain⟨f0,f1,f2⟩:=di (ai Lx.out hg);have hl0:=lt_of_block (ai Vi.out hg);have hl1:=lt_of_block (ai Lx.out hg);have jP:=ł (JG (bf.alloc (.cells #[.slice ja WL.length jc,.slice jr 0 bz] 45)) (.mk 57 0 ⟨#[]⟩ (.slice (some ⟨b7+1,0,none⟩) 1 1) [.mk 43 0 ⟨#[]⟩ (.slice (some ⟨b7,0,none⟩) 2 2) [.mk 2 0 ⟨#[120]⟩ (.slice none 0 0) [],.mk 2 0 ⟨#[121]⟩ (.slice none 0 0) []]]) (.slice fa 2 fc) (.slice none 0 0) jY [] (H2A.out.later yj.out) (KF.out.later yj.out) ⟨ax.nil _ _ _,by simp⟩ QT (by intro p hp;cases hp) (show bA FN<=80 by decide));simp only[ae.val,List.map_nil]at jP;clear hg hr1 hr2 xu;go_wp2_with fail;generalize bf.alloc (.cells #[.slice ja WL.length jc,.slice jr 0 bz] 45)=Gw at *;generalize bf.heap.size=x1 at *;clear n0 n1 n2 n3 f0 f1 f2 hl0 hl1 Be zh Sw bf;refine jP.out.mono ?_;rintro e gV ⟨v,rfl,hp,hg⟩;rw[show ae.t (.mk 57 0 ⟨#[]⟩ (.slice (some ⟨b7+1,0,none⟩) 1 1) [.mk 43 0 ⟨#[]⟩ (.slice (some ⟨b7,0,none⟩) 2 2) [.mk 2 0 ⟨#[120]⟩ (.slice none 0 0) [],.mk 2 0 ⟨#[121]⟩ (.slice none 0 0) []]])=FN from rfl]at hp ⊢;rw[ZP]at hp;rw[ZN];obtain⟨ka,kc,kr,Ao,rfl,hr1,hr2⟩:=hp;dsimp only[List.length_nil,List.length_cons,Nat.zero_add,Nat.reduceAdd]at hr1 hr2 ⊢;have lY:=ł (show ay (gV.alloc (.cells #[.slice ka 3 kc,.slice kr 0 Ao] 45)) (.agg #[.slice ka 3 kc,.slice kr 0 Ao]) ⟨[⟨10,5,0,0,0⟩,⟨10,5,1,0,0⟩,⟨10,5,0,0,0⟩],[]⟩from ay.later ⟨_,_,_,_,rfl,hr1,hr2⟩ ((Mv.refl _ _).alloc _));have bZ:=ł (heap_alloc_new gV (.cells #[.slice ka 3 kc,.slice kr 0 Ao] 45));have LA:=ł (gtr yj.out (hg.alloc (.cells #[.slice ka 3 kc,.slice kr 0 Ao] 45)));have aaL:=ł (Ei.out.later (hg.alloc (.cells #[.slice ka 3 kc,.slice kr 0 Ao] 45)));have Sy:=ł (ai su.out (hg.alloc (.cells #[.slice ka 3 kc,.slice kr 0 Ao] 45)));clear hr1 hr2 hg jP Ei su yj;go_upto_region 6 with fail;generalize gV.alloc (.cells #[.slice ka 3 kc,.slice kr 0 Ao] 45)=Tg at *;generalize gV.heap.size=x2 at *;clear Gw gV;have HK:=ł (λ(y:World) (hy:Grow Tg y)=>And.intro (ai (ai Lx.out LA.out) hy) ((KF.out.later LA.out).later hy));refine wg 82 [some 44,some 45,some 46,some 47,some 48,some 49,some 50,some 43,some 51,some 52,some 9,some 10] [[],[],[],[],[],[2,3,4],[0,1,5],[6],[7],[7],[8],[9]] [5,6,7,8] [.c (.agg #[.int .u8 1,.int .i64 1,.string ⟨#[]⟩,.slice none 0 0]),.c (.agg #[.slice fa 2 fc,.int .i64 2,.int .i64 0]),.c (.agg #[.int .u8 10,.int .i64 5,.int .i64 0,.int .i64 0,.int .i64 0]),.c (.agg #[.int .u8 1,.int .i64 5,.int .i64 4,.int .i64 0,.int .i64 0]),.c (.agg #[.int .u8 10,.int .i64 5,.int .i64 0,.int .i64 0,.int .i64 0]),.p (λv y=>∃ g,v = .slice (some ⟨g,0,none⟩) 3 3/\ax 5 Ins.cells y (.slice (some ⟨g,0,none⟩) 3 3) ([⟨10,5,0,0,0⟩,⟨1,5,4,0,0⟩,⟨10,5,0,0,0⟩]:List Ins)),.p (λv y=>∃ a c,v = .tuple #[.slice a WL.length c,.int .i64 0]/\ax 5 Ins.cells y (.slice a WL.length c) WL),.p (λv y=>∃ a c,v = .tuple #[.slice a WL.length c,.int .i64 0]/\ax 5 Ins.cells y (.slice a WL.length c) WL),.p (λv y=>∃ a c,v = .slice a WL.length c/\ax 5 Ins.cells y (.slice a WL.length c) WL),.c (.int .i64 0),.p (λv y=>∃ a c,v = .slice a WL.length c/\ax 5 Ins.cells y (.slice a WL.length c) WL),.c (.int .i64 0)] ⟨sR,⟨(λv x y hg h=>by obtain⟨a,c,hv,hb⟩:=h;exact⟨a,c,hv,hb.later hg⟩),by simp⟩,⟨(λv x y hg h=>by obtain⟨a,c,hv,hb⟩:=h;exact⟨a,c,hv,hb.later hg⟩),by simp⟩,⟨(λv x y hg h=>by obtain⟨a,c,hv,hb⟩:=h;exact⟨a,c,hv,hb.later hg⟩),by simp⟩,⟨(λv x y hg h=>by obtain⟨a,c,hv,hb⟩:=h;exact⟨a,c,hv,hb.later hg⟩),λ_=>(λz hz g v x y hb hm h=>by simp[Kd.zero,Sp.k]at hz)⟩,trivial⟩ (cz rfl) ?steps ?done
 case steps =>
  refine⟨?s0,?s1,?s2,?s3,?s4,?s5,?s6,?s7,?s8,?s9,?s10,?s11,trivial⟩
  case s0 =>
   refine ok HK (λvs x hG HX hP => ?_);have HC:=ł (P8 1 x);simp only[BS,ae.val]at HC;simp only[zS];go_simp;refine(HC.out).mono ?_;rintro e y ⟨rfl,hg⟩;exact⟨_,rfl,bu hg rfl⟩
  case s1 =>
   refine ok HK (λvs x hG HX hP => ?_);obtain⟨f0,f1,f2⟩:=di (HX.out.1);simp only[zS];go_simp;exact gc
  case s2|s3|s4|s11 =>
   refine oo (λvs x hP => ?_);simp only[zS];go_simp;exact gc
  case s5 =>
   refine oo (λvs x hP => ?_);simp only[zS];go_simp;exact gl ⟨_,rfl,ax.bN (f:=Ins.cells) (l:=([⟨10,5,0,0,0⟩,⟨1,5,4,0,0⟩,⟨10,5,0,0,0⟩]:List Ins)) (λ_=>rfl) (heap_alloc_new x _) rfl (by simp)⟩
  case s6 =>
   refine ok HK (λvs x hG HX hP => ?_);obtain⟨g5,h5,b5⟩:=pq hP 5;have HC:=ł (OP (BS 1) _ _ jY _ x HX.out.2 (Ca x 1 1 ⟨#[]⟩ (by decide) (by simp[In64]) (by decide)) b5 FC.1 FC.2.1 (by decide) (by decide) FC.2.2.1 FC.2.2.2 (by simp));simp only[BS,ae.val,ae.t,ae.ts,show jY.cells=2 from rfl,show jY.stacks=0 from rfl]at HC;simp only[zS,h5];go_simp;refine(HC.out).mono ?_;rintro e y ⟨v,rfl,hrs⟩;rw[hW]at hrs;obtain⟨va,vc,rfl⟩:=gy hrs.row;exact⟨_,rfl,aZ hrs.g ⟨va,vc,rfl,iF (λ_=>rfl) hrs.row⟩⟩
  case s7 =>
   refine oo (λvs x hP => ?_);obtain⟨wa6,wc6,h6,wr6⟩:=pq hP 6;simp only[zS,h6];go_simp;exact gk ⟨wa6,wc6,rfl,wr6⟩
  case s8 =>
   refine oo (λvs x hP => ?_);obtain⟨Vj,Vk,h7,Vl⟩:=pq hP 7;simp only[zS,h7];go_simp;exact gk ⟨Vj,Vk,rfl,Vl⟩
  case s9 =>
   refine oo (λvs x hP => ?_);obtain⟨Vj,Vk,h7,Vl⟩:=pq hP 7;simp only[zS,h7];go_simp;exact gc
  case s10 =>
   refine oo (λvs x hP => ?_);obtain⟨wa8,wc8,h8,wr8⟩:=pq hP 8;simp only[zS,h8];go_simp;exact gk ⟨wa8,wc8,rfl,wr8⟩
 case done =>
 intro vs Tm hE;have hG:=hE.grow;obtain⟨adz,adA,h10,Sz⟩:=hE.val 10;simp only[zS,Nat.reduceAdd,h10];have aaM:=ł (gtr aK.out (gtr LA.out hG));have aaN:=ł (lY.out.later hG);have SA:=ł (ai bZ.out hG);have bI:=ł (P7 _ _ ⟨WL,[]⟩ ⟨WL,[]⟩ Tm (aaL.out.later hG) (ay.mk Sz (ax.nil _ _ _)) (by simp) (by simp));obtain⟨k0,k1⟩:=aC (ai Sy.out hG);have hlx:=lt_of_block (ai Sy.out hG);clear hE hG Sz;go_wp2_with fail;refine bI.out.mono ?_;clear k0 k1 hlx bI;rintro e w16 ⟨b,rfl,hb,hg⟩;obtain rfl:b=true:=hb.2 (by trivial);have aaO:=ł (gtr aaM.out hg);have hga:Grow w16 (w16.alloc (.cells #[.int .u8 10,.int .i64 5,.int .i64 0,.int .i64 0,.int .i64 0,.int .u8 10,.int .i64 5,.int .i64 1,.int .i64 0,.int .i64 0,.int .u8 10,.int .i64 5,.int .i64 0,.int .i64 0,.int .i64 0] 60)):=(Mv.refl _ _).alloc _;have eB:=ł hga;have HS2:=ł (P7 _ _ ⟨[⟨10,5,0,0,0⟩,⟨10,5,1,0,0⟩,⟨10,5,0,0,0⟩],[]⟩ ⟨[⟨10,5,0,0,0⟩,⟨10,5,1,0,0⟩,⟨10,5,0,0,0⟩],[]⟩ _ ((aaN.out.later hg).later hga) (ay.mk (ax.bN (f:=Ins.cells) (l:=[⟨10,5,0,0,0⟩,⟨10,5,1,0,0⟩,⟨10,5,0,0,0⟩]) (λ_=>rfl) (heap_alloc_new w16 (.cells #[.int .u8 10,.int .i64 5,.int .i64 0,.int .i64 0,.int .i64 0,.int .u8 10,.int .i64 5,.int .i64 1,.int .i64 0,.int .i64 0,.int .u8 10,.int .i64 5,.int .i64 0,.int .i64 0,.int .i64 0] 60)) rfl (by simp)) (ax.nil _ _ _)) (by simp) (by simp));dsimp only[List.length_nil,List.length_cons,Nat.zero_add,Nat.reduceAdd]at HS2;obtain⟨k0,k1⟩:=aC (ai SA.out hg);have hlx:=lt_of_block (ai SA.out hg);clear hg hga hb;go_wp2_with fail;refine HS2.out.mono ?_;clear k0 k1 hlx HS2;rintro e w17 ⟨b,rfl,hb,hg⟩;obtain rfl:b=true:=hb.2 (by trivial);have aaP:=ł (gtr aaO.out (gtr eB.out hg));clear hg hb;go_wp2_with fail;go_ret;exact⟨rfl,aaP.out⟩
mutual
def iq:Tree->Int->Int
 |.mk _ _ _ l,r=>nS l (r - 1)
def nS:List Tree->Int->Int
 | [],r=>r
 |t :: l,r=>if 0<=r then nS l (iq t r)else r
end
theorem XJ (l:List Tree) (r:Int) (h:r<0):nS l r=r:=by
 cases l with
 |nil=>rw[nS]
 |cons t l=>rw[nS,if_neg (by omega)]
mutual
theorem J2:∀ (t:Tree) (r:Int),0<=r -> -1<=iq t r/\iq t r<=r/\(0<=iq t r->(bA t:Int)=r - iq t r)
 |.mk _ _ _ l,r,h=>by
  have:=Pp l (r - 1) (by omega);simp only[iq,bA];omega
theorem Pp:∀ (l:List Tree) (r:Int),-1<=r -> -1<=nS l r/\nS l r<=r/\(0<=nS l r->(dz l:Int)=r - nS l r)
 | [],r,h=>by simp only[nS,dz];omega
 |t :: l,r,h=>by
  simp only[nS,dz];split
  · rename_i h0;have h1:=J2 t r h0;have h2:=Pp l (iq t r) h1.1;refine⟨h2.1,by omega,λh3 => ?_⟩;have h4:=h1.2.2 (by omega);have h5:=h2.2.2 h3;omega
  · omega
end
def jf (l:List Tree) (r:Int):Nat->Int
 |0=>r
 |j+1=>match l[j]? with
  |none=>jf l r j
  |some t=>iq t (jf l r j)
theorem WK (l:List Tree) (r:Int) (j:Nat) (h:j<l.length):jf l r (j+1)=iq l[j] (jf l r j):=by simp only[jf,List.getElem?_eq_getElem h]
theorem Ex (t:Tree) (l:List Tree) (r:Int):∀ j,jf (t :: l) r (j+1)=jf l (iq t r) j
 |0=>by simp[jf]
 |j+1=>by
  have ih:=Ex t l r j
  show(match (t :: l)[j+1]? with|none=>jf (t :: l) r (j+1)|some u=>iq u (jf (t :: l) r (j+1)))=_
  rw[List.getElem?_cons_succ,ih];rfl
theorem JH:∀ (l:List Tree) (r:Int) (j:Nat),j<=l.length->(∀ i,i<j->0<=jf l r i)->(j=l.length\/jf l r j<0)->nS l r=jf l r j
 | [],r,j,hj,_,_=>by
  obtain rfl:j=0:=by simpa using hj
  simp[nS,jf]
 |t :: l,r,0,_,_,h=>by
  rcases h with h|h
  · simp at h
  · exact XJ _ _ h
 |t :: l,r,j+1,hj,hp,h=>by
  have h0:0<=r:=hp 0 (by omega);rw[nS,if_pos h0,Ex];refine JH l (iq t r) j (by simpa using hj) (λi hi => ?_) ?_
  · have:=hp (i+1) (by omega);rwa[Ex]at this
  · rw[Ex]at h;rcases h with h|h
    · exact .inl (by simpa using h)
    · exact .inr h
theorem Zp:∀ (m:Nat) (x:ae),SizeOf.sizeOf x<=m->∀ (r:Int),0<=r->r<=1000000->∀ w:World,aS w x->Calls Tryz.prog 5 #[x.val,.int .i64 r] w λe w'=>e = .returned (.int .i64 (iq x.t r))/\Grow w w':=by
 intro m
 induction m with
 |zero=>intro x hm;cases x;simp at hm
 |succ m ih =>
  intro x hm r hr0 hr1 w hx;obtain⟨k,n,s,kv,l⟩:=x;obtain⟨a,cap,rfl,hcap,hlen⟩:=hx.form;have fT:=ł (λ(y:ae) (hy:y∈l) (q:Int) (h0:0<=q) (h1:q<=1000000) (w':World) (hg:Grow w w')=>ih y (by have:=nA (k:=k) (n:=n) (s:=s) (kv := .slice a l.length cap) hy;omega) q h0 h1 w' ((hx.row.2.2.2.2 y hy).later hg));have HE:=ł (show iq (ae.mk k n s (.slice a l.length cap) l).t r=nS (ae.ts l) (r - 1)from by simp only[ae.t,iq]);have HX:=ł hx;clear ih hm hx;simp only[ae.val];have HG:=ł (show Grow w (w.alloc (.cells #[.int .u8 k,.int .i64 n,.string s,.slice a l.length cap] 26))from(Mv.refl _ _).alloc _);have HB:=ł (heap_alloc_new w (.cells #[.int .u8 k,.int .i64 n,.string s,.slice a l.length cap] 26))
  go_enter Tryz.func5,Tryz.ntmps5
  go_wp2_with fail;generalize w.alloc (.cells #[.int .u8 k,.int .i64 n,.string s,.slice a l.length cap] 26)=w1 at *
  go_loopw [1,5] (λrv t wr=>∃ j:Nat,rv = .int .i64 (jf (ae.ts l) (r - 1) j)/\t = .int .i64 j/\j<=l.length/\(∀ i,i<j->0<=jf (ae.ts l) (r - 1) i)/\(-1<=jf (ae.ts l) (r - 1) j/\jf (ae.ts l) (r - 1) j<=r)/\Grow w1 wr) (λ_ t _=>l.length - (intOf t).toNat)
  case atStart=>exact⟨0,by simp[jf],rfl,Nat.zero_le _,λi h=>by omega,by simp only[jf];omega,Mv.refl _ _⟩
  obtain⟨j,rfl,rfl,hj,hpos,⟨hb1,hb2⟩,hgr⟩:=hrel;have LB:=ł hpos;have dh:=ł hgr;have bE:=ł (Mv.trans HG.out hgr (λ_ e=>e.elim));obtain⟨⟨n0,n1⟩,n2,n3⟩:=aF (ai HB.out hgr);have hln:=lt_of_block (ai HB.out hgr);clear hpos hgr;by_cases hlt:j<l.length
  · by_cases h0:0<=jf (ae.ts l) (r - 1) j
    · obtain⟨b,off,cap',e,_,hcc⟩:=(HX.out.row.2.2.2.1.later bE.out).at hlt;simp only[Value.slice.injEq,true_and]at e;obtain⟨rfl,rfl⟩:=e;have bU:=HX.out.row.2.2.2.2 l[j] (List.getElem_mem hlt);have HC:=ł (fT.out l[j] (List.getElem_mem hlt) _ h0 (by omega) wr bE.out);have Nj:=ł (by have:=WK (ae.ts l) (r - 1) j (by rw[ae.bT];exact hlt);rw[ae.gm l j hlt]at this;exact this);have jP:=ł (J2 l[j].t _ h0);have lY:=ł (show ∀ i,i<j+1->0<=jf (ae.ts l) (r - 1) i from λi hi=>by
       rcases Nat.lt_or_ge i j with h3|h3
       · exact LB.out i h3
       · obtain rfl:i=j:=by omega
         exact h0)
      generalize jf (ae.ts l) (r - 1) j=lj at *;generalize l[j]=y at HC Nj jP bU hcc;obtain⟨yk,yn,ys,mY,yl⟩:=y;obtain⟨ya,yc,rfl,-,-⟩:=bU.form;simp only[ae.val]at HC;have c0:=hcc 0 _ rfl;have c1:=hcc 1 _ rfl;have c2:=hcc 2 _ rfl;have c3:=hcc 3 _ rfl;simp only[Nat.add_zero]at c0;have hbl:b<wr.heap.size:=World.block_lt_of_cell? wr _ c0;generalize iq (ae.mk yk yn ys (.slice ya yl.length yc) yl).t lj=rj at *;clear hcc bU;go_wp2_with fail;refine HC.out.mono ?_;rintro e w5 ⟨rfl,hg5⟩;have aT:=ł (Mv.trans dh.out hg5 (λ_ e=>e.elim));clear hg5;go_wp2_with fail
      go_roundw
      case rel=>exact⟨j+1,by rw[Nj.out],by go_num,by omega,lY.out,by rw[Nj.out];have:=jP.out;omega,aT.out⟩
      case measure=>simp[intOf];omega
    · have HR:=ł (JH (ae.ts l) (r - 1) j (by rw[ae.bT];omega) LB.out (.inr (by omega)));generalize jf (ae.ts l) (r - 1) j=lj at *;have h0':lj<0:=by omega
      go_wp2_with fail;go_ret;exact⟨cB (by rw[HE.out,HR.out]),bE.out⟩
  obtain rfl:j=l.length:=by omega
  have HR:=ł (JH (ae.ts l) (r - 1) l.length (by rw[ae.bT];omega) LB.out (.inl (by rw[ae.bT])));generalize jf (ae.ts l) (r - 1) l.length=lj at *;go_wp2_with fail;go_ret;exact⟨cB (by rw[HE.out,HR.out]),bE.out⟩
theorem P9 (x:ae) (r:Int) (w:World) (h:aS w x) (h0:0<=r) (h1:r<=1000000):Calls Tryz.prog 5 #[x.val,.int .i64 r] w λe w'=>e = .returned (.int .i64 (iq x.t r))/\Grow w w':=Zp _ x (Nat.le_refl _) r h0 h1 w h
end Go.Proofs.YtnobahchcongnaaGreat
