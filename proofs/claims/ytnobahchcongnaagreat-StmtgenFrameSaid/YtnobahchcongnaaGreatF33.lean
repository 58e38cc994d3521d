import Derived.Test.YtnobahchcongnaaGreatF32
set_option linter.unusedSimpArgs false
set_option linter.unusedVariables false
set_option maxRecDepth 100000
set_option maxHeartbeats 25600000
namespace Go.Proofs.YtnobahchcongnaaGreat
open Go.RowKit Go.Instr
attribute [local go_sem ↓] lu
theorem O0 (hof:uL) (w:World) (G:Nat) (sv pv:Value) (f:az) (procs:List ak) (hg:gD w G sv pv f procs) (k n:Int) (s:ByteArray) (kv:Value) (l:List ae) (hx:aS w (.mk k n s kv l))
 (hlen:l.length=((dY procs s).getD gz).params.length) (hok:KD f ((dY procs s).getD gz).params) (hsz:bH (jv f (ae.ts l) (frameC ((dY procs s).getD gz).params).slots)<=60000/\bX (jv f (ae.ts l) (frameC ((dY procs s).getD gz).params).slots)<=60000/\(jv f (ae.ts l) (frameC ((dY procs s).getD gz).params).slots).length<=60000) :
 Calls Tryz.prog 90 #[.pointer (some ⟨G,0,none⟩),ae.val (.mk k n s kv l)] w (bQ w (sI f (procs.map ak.d) (if k=51 then 31 else 30) s (ae.ts l))):=by
 have ML:=ł (λ(y:World) (hy:Grow w y)=>Ye hof y G sv pv f procs (hg.later hy) k n s kv l (hx.later hy) hlen hok (by have:=hsz.2.2;omega));have nJ:=ł (show sI f (procs.map ak.d) (if k=51 then 31 else 30) s (ae.ts l)=aP [aP (jv f (ae.ts l) (frameC ((dY procs s).getD gz).params).slots),ah ([⟨28,f.cells,f.stacks,0,0⟩]:List Ins),(⟨[⟨if k=51 then 31 else 30,0,0,0,0⟩],[⟨0,s⟩]⟩:aI),ah ([⟨29,f.cells,f.stacks,0,0⟩]:List Ins),aP (jv f (ae.ts l) (frameC ((dY procs s).getD gz).params).slots).reverse]from by
  unfold sI;rw[Eu])
 obtain⟨fa,fc,rfl,hfc,hfl⟩:=hg.fr.row.form;obtain⟨pa,pc,rfl,-,-⟩:=hg.pr.row.form;obtain⟨ka,kc,rfl,hkc,hkl⟩:=hx.form;generalize (jv f (ae.ts l) (frameC ((dY procs s).getD gz).params).slots)=A at *;have iE:=ł hsz;have aK:=ł hg;obtain⟨aJ,bB,HG2⟩:=a2 w (.cells #[.int .u8 k,.int .i64 n,.string s,.slice ka l.length kc] 26) (.cells #[.slice none 0 0,.slice none 0 0] 45);have MM:=ł (show bH A<=200000/\bX A<=200000/\A.length<=200000 from by have:=iE.out;omega);have MN:=ł (show bH A.reverse<=200000/\bX A.reverse<=200000/\A.reverse.length<=200000 from by
  have:=iE.out;unfold bH bX at *;rw[List.map_reverse,List.sum_reverse,List.map_reverse,List.sum_reverse,List.length_reverse];omega)
 simp only[ae.val]at ML ⊢;generalize sI f (procs.map ak.d) (if k=51 then 31 else 30) s (ae.ts l)=CC at *;have hcc:=nJ.out;subst hcc;clear hg hx hlen hok hsz nJ
 go_enter Tryz.func90,Tryz.ntmps90
 obtain⟨⟨n0,n1⟩,n2,n3⟩:=aF aJ.out;have hln:=lt_of_block aJ.out
 go_upto_if 12 with fail
 generalize ((w.alloc (.cells #[.int .u8 k,.int .i64 n,.string s,.slice ka l.length kc] 26)).alloc (.cells #[.slice none 0 0,.slice none 0 0] 45))=w2 at *;generalize hop:(if k=51 then 31 else 30:Int)=op at *
 go_cut [5] (λv wc=>v = .int .u8 op/\wc=w2)
 case first =>
  by_cases hk:k=51
  · subst hk;have ho:op=31:=by rw[← hop];rfl
    go_wp2_with fail
    go_meet
    case rel=>first|exact⟨rfl,rfl⟩|exact⟨by rw[ho],rfl⟩
  · have e1:(k == 51)=false:=by simpa using hk
    have ho:op=30:=by rw[← hop,if_neg hk]
    go_wp2_with fail
    go_meet
    case rel=>first|exact⟨rfl,rfl⟩|exact⟨by rw[ho],rfl⟩
 case rest =>
  obtain⟨rfl,rfl⟩:=hcut;clear hop;go_wp2_with fail;refine(ML.out _ HG2.out).mono ?_;rintro e w3 ⟨tv,rfl,hps,hg⟩;obtain⟨ta,tc,rfl⟩:=hps.form;have rZ:=ł hps.at;have aG:=ł (gtr HG2.out hg);have nI:=ł (ai aJ.out hg);have HR3:=ł (ai bB.out hg);obtain⟨-,-,-,adt,adu⟩:=hps.at.form;have HAL:=ł (show A.length<=60000 from iE.out.2.2);have hal:A.length<=60000:=iE.out.2.2;have i0:IntKind.i64.wrap ((A.length:Int) - 1)=(A.length:Int) - 1:=IntWalk.i64_in _ (by omega);clear hps hg n0 n1 n2 n3 hln aJ bB ML;go_wp2_with fail
  go_loopw [7,8] (λbv t wr=>∃ m:Nat,t = .int .i64 ((A.length:Int) - 1 - m)/\m<=A.length/\fG w3.heap.size wr bv (A.reverse.take m)/\Grow w3 wr) (λ_ t _=>(intOf t+1).toNat)
  case atStart=>exact⟨0,by simp,Nat.zero_le _,fG.nil _ _,Mv.refl _ _⟩
  obtain⟨m,rfl,hm,hps,hg⟩:=hrel;have pQ:=ł hps;have HG:=ł hg;have hrl:(A.reverse.take m).length=m:=by simp;omega
  obtain⟨ba,bc,hbv⟩:=hps.form;rw[hrl]at hbv;subst hbv;by_cases hlt:m<A.length
  · obtain⟨j,hj⟩:∃ j:Nat,(A.length:Int) - 1 - m=j:=⟨A.length - 1 - m,by omega⟩;have hjl:j<A.length:=by omega
    obtain⟨vs,hv1,hv2,hv3⟩:=rZ.out.later hg;have MO:j<vs.length:=by omega
    obtain⟨b,off,cap',e,_,hcc⟩:=hv2.at MO;simp only[Value.slice.injEq,true_and]at e;have hpj:=hv3 j MO hjl;have c0:=hcc 0 _ rfl;have c1:=hcc 1 _ rfl;have Bt:=ł (show A.reverse.take (m+1)=A.reverse.take m ++ [A[j]]from by
     rw[List.take_succ_eq_append_getElem (by simp;omega),List.getElem_reverse];have:A.length - 1 - m=j:=by omega
     simp only[this])
    have hlm:m+1<=1000000:=by omega
    generalize A[j]=p at *;generalize vs[j]=v at *;obtain⟨v1,v2⟩:=v;obtain⟨xa,xc,ya,yc,hv,hr1,hr2⟩:=hpj;simp only[Value.agg.injEq,Array.mk.injEq,List.cons.injEq,and_true]at hv;obtain⟨rfl,rfl⟩:=hv;obtain⟨rfl,-,rfl⟩:=e;simp only[Nat.add_zero]at c0 c1;have hbl:b<wr.heap.size:=World.block_lt_of_cell? wr _ c0;have hpx:ay wr (.agg #[.slice xa p.code.length xc,.slice ya p.refs.length yc]) p:=⟨_,_,_,_,rfl,hr1,hr2⟩;have hgx:Grow wr (wr.alloc (.cells #[.slice xa p.code.length xc,.slice ya p.refs.length yc] 45)):=(Mv.refl _ wr).alloc _;obtain⟨a',c',y,⟨hok,hv,hw⟩,hrow2,bK⟩:=Fy w3.heap.size _ (.slice (some ⟨wr.heap.size,0,none⟩) 1 1) _ p _ (hps.later hgx) (sw (vs:=[(.slice xa p.code.length xc,.slice ya p.refs.length yc)]) (heap_alloc_new wr (.cells #[.slice xa p.code.length xc,.slice ya p.refs.length yc] 45)) rfl ⟨hpx.later hgx,trivial⟩) (hg.trans hgx (λ_ e=>e.elim)).size (by rw[hrl];exact hlm);have yh:=ł hrow2;have Bb:=ł ((gtr hg hgx).trans bK (λx e => .inr (hps.lt x e).1));simp only[hrl]at hok hv hw yh;have i1:IntKind.i64.wrap ((j:Int) - 1)=(j:Int) - 1:=IntWalk.i64_in _ (by omega);clear hcc hps hg hrow2 bK hpx hgx hv1 hv2 hv3 hr1 hr2 MO;rw[hj];go_wp2_with fail;exact⟨⟨m+1,by simp;omega,by omega,by rw[Bt.out];exact yh.out,Bb.out⟩,by simp[intOf] <;> omega⟩
  · have hme:m=A.length:=by omega
    subst hme;have eZ:=ł (show iw wr (.slice ba A.length bc) A.reverse from by
     have:=hps.at;rw[List.take_of_length_le (by simp)]at this;exact this)
    clear hps hg hrl i0 hal pQ;go_upto_region 10 with fail;refine fI 75 [some 30,some 31,some 32,some 33,some 34,some 9,none] [[],[],[0,1],[2],[3],[],[5,4]] [1,3] [.c (.int .u8 op),.p (λv y=>∃ g,v = .slice (some ⟨g,0,none⟩) 1 1/\y.heap[g]? = some (.cells #[.int .i64 0] 3 (0,0))),.c (.agg #[.int .u8 op,.int .i64 0,.int .i64 0,.int .i64 0,.int .i64 0]),.p (λv y=>∃ g,v = .slice (some ⟨g,0,none⟩) 1 1/\ax 5 Ins.cells y (.slice (some ⟨g,0,none⟩) 1 1) ([⟨op,0,0,0,0⟩]:List Ins)),.p (λv y=>ay y v (ah ([⟨op,0,0,0,0⟩]:List Ins))),.al 6 4 #[.slice none 0 0,.slice none 0 0] 45,.st 5] ⟨sH,sR,sP,trivial⟩ (cz rfl) ?steps ?done
    case steps =>
     refine⟨?s0,?s1,?s2,?s3,?s4,?s5,?s6,trivial⟩
     case s0 =>
      refine oo (λvs x hP => ?_);simp only[zS];go_simp;exact gc
     case s1 =>
      refine oo (λvs x hP => ?_);simp only[zS];go_simp;exact gl ⟨_,rfl,heap_alloc_new x _⟩
     case s2 =>
      refine om (λvs x hG hP => ?_);obtain⟨g1,h1,b1⟩:=pq hP 1;have HC:=ł (vK op (0) g1 _ x b1);simp only[zS,h1];go_simp;refine(HC.out).mono ?_;rintro e y ⟨rfl,hg⟩;exact⟨_,rfl,bu hg rfl⟩
     case s3 =>
      refine oo (λvs x hP => ?_);simp only[zS];go_simp;exact gl ⟨_,rfl,ax.bN (f:=Ins.cells) (l:=([⟨op,0,0,0,0⟩]:List Ins)) (λ_=>rfl) (heap_alloc_new x _) rfl (by simp)⟩
     case s4 =>
      refine om (λvs x hG hP => ?_);obtain⟨g3,h3,b3⟩:=pq hP 3;have HC:=ł (iG _ _ x b3);simp only[zS,h3];go_simp;refine(HC.out).mono ?_;rintro e y ⟨v,rfl,hp,hg⟩;exact⟨_,rfl,aZ hg hp⟩
     case s5 =>
      refine oz (λvs x => ?_);simp only[zS];go_simp;exact⟨rfl,rfl⟩
     case s6 =>
      refine os (λvs x g hg hb hv => ?_);obtain⟨jL,jM,nk,nu,h4,c4,f4⟩:=hv;obtain⟨c0,c1⟩:=aC hb;have zt:=aD hb;simp only[zS,hg,h4];go_simp;exact set2 hb _ _
    case done =>
    intro vs w5 hE;have hG:=hE.jU;obtain⟨jL,jM,nk,nu,h4,c4,f4⟩:=hE.val 4;obtain⟨g5,a5,l5,m5,b5⟩:=hE.box 5;simp only[zS,h4]at b5;simp only[zS,Nat.reduceAdd,h4,a5];have fC:=ł b5;simp only[bJ]at fC;have aT:=ł (gtr aG.out (gtr HG.out hG));have dh:=ł hG;have uZ:=ł (rZ.out.later (gtr HG.out hG));have HY5:=ł (eZ.out.later hG);have G9:=ł (show ax 5 Ins.cells w5 (.slice jL 1 jM) [⟨op,0,0,0,0⟩]from c4);have hg5:wr.heap.size<=g5:=l5;have aai:w3.heap.size<=g5:=Nat.le_trans HG.out.size hg5;clear hE hG b5 c4 f4;have fU:=ł (heap_alloc_new w5 (.cells #[.int .i64 0,.string s] 129));have adv:=ł (aO fC.out (.cells #[.int .i64 0,.string s] 129));have hne:w5.heap.size≠g5:=by have:=lt_of_block fC.out;omega
    obtain⟨hs1,hs2⟩:=Qo fC.out (.slice (some ⟨w5.heap.size,0,none⟩) 1 1);have hsz5:(w5.setCell ⟨g5,1,none⟩ (.slice (some ⟨w5.heap.size,0,none⟩) 1 1)).heap.size=w5.heap.size:=by simp
    have hga:Grow (w5.setCell ⟨g5,1,none⟩ (.slice (some ⟨w5.heap.size,0,none⟩) 1 1)) ((w5.setCell ⟨g5,1,none⟩ (.slice (some ⟨w5.heap.size,0,none⟩) 1 1)).alloc (.cells #[.int .i64 0,.string s] 129)):=(Mv.refl _ _).alloc _;have hrf:=heap_alloc_new (w5.setCell ⟨g5,1,none⟩ (.slice (some ⟨w5.heap.size,0,none⟩) 1 1)) (.cells #[.int .i64 0,.string s] 129);rw[hsz5]at hrf;have gJ:=ł (show((w5.setCell ⟨g5,1,none⟩ (.slice (some ⟨w5.heap.size,0,none⟩) 1 1)).alloc (.cells #[.int .i64 0,.string s] 129)).heap[g5]? = some (.cells #[.slice jL 1 jM,.slice (some ⟨w5.heap.size,0,none⟩) 1 1] 45 (0,0))from aO hs1 _);have dw:=ł (show Grow w ((w5.setCell ⟨g5,1,none⟩ (.slice (some ⟨w5.heap.size,0,none⟩) 1 1)).alloc (.cells #[.int .i64 0,.string s] 129))from gtr (aT.out.trans hs2 (λb e => .inr (by have:=aG.out.size;omega))) hga);have GM:=ł (show iw ((w5.setCell ⟨g5,1,none⟩ (.slice (some ⟨w5.heap.size,0,none⟩) 1 1)).alloc (.cells #[.int .i64 0,.string s] 129)) (.slice ta A.length tc) A from rZ.out.later (gtr ((gtr HG.out dh.out).trans hs2 (λb e => .inr (by omega))) hga));have HY6:=ł (show iw ((w5.setCell ⟨g5,1,none⟩ (.slice (some ⟨w5.heap.size,0,none⟩) 1 1)).alloc (.cells #[.int .i64 0,.string s] 129)) (.slice ba A.length bc) A.reverse from eZ.out.later (gtr (dh.out.trans hs2 (λb e => .inr (by omega))) hga));have Ah:=ł (show ay ((w5.setCell ⟨g5,1,none⟩ (.slice (some ⟨w5.heap.size,0,none⟩) 1 1)).alloc (.cells #[.int .i64 0,.string s] 129)) (.agg #[.slice jL 1 jM,.slice (some ⟨w5.heap.size,0,none⟩) 1 1]) (⟨[⟨op,0,0,0,0⟩],[⟨0,s⟩]⟩:aI)from
     ⟨jL,jM,some ⟨w5.heap.size,0,none⟩,1,rfl,(Fu (a:=(jL,1,jM)) (b:=(nk,0,nu)) G9.out (λu=>⟨_,rfl,by simp⟩) fC.out hs2).later hga,
      ax.bN (f:=cO.cells) (l:=[(⟨0,s⟩:cO)]) (λ_=>rfl) hrf rfl (by simp)⟩)
    have HR6:=ł (show((w5.setCell ⟨g5,1,none⟩ (.slice (some ⟨w5.heap.size,0,none⟩) 1 1)).alloc (.cells #[.int .i64 0,.string s] 129)).heap[w.heap.size+1]? = some (.cells #[.slice none 0 0,.slice none 0 0] 45 (0,0))from ai HR3.out (gtr ((gtr HG.out dh.out).trans hs2 (λb e => .inr (by omega))) hga));have UG:=ł (ai nI.out (gtr HG.out dh.out));obtain⟨b0,b1⟩:=aC fC.out;obtain⟨⟨n0,n1⟩,n2,n3⟩:=aF UG.out;have hln:=lt_of_block UG.out;have hlc:=lt_of_block fC.out;have zt:=aD fC.out;clear hs1 hs2 hga hrf hsz5;go_upto_region 12 with fail;generalize ((w5.setCell ⟨g5,1,none⟩ (.slice (some ⟨w5.heap.size,0,none⟩) 1 1)).alloc (.cells #[.int .i64 0,.string s] 129))=w6 at *;generalize w5.heap.size=rg at *;clear b0 b1 n0 n1 n2 n3 hln hlc zt hne hg5 aai;have uN:=ł HR6.out;have iA:=ł (show bH [aP A,ah ([⟨28,f.cells,f.stacks,0,0⟩]:List Ins),(⟨[⟨op,0,0,0,0⟩],[⟨0,s⟩]⟩:aI),ah ([⟨29,f.cells,f.stacks,0,0⟩]:List Ins),aP A.reverse]<=200000/\bX [aP A,ah ([⟨28,f.cells,f.stacks,0,0⟩]:List Ins),(⟨[⟨op,0,0,0,0⟩],[⟨0,s⟩]⟩:aI),ah ([⟨29,f.cells,f.stacks,0,0⟩]:List Ins),aP A.reverse]<=200000 from by
     have h1:=iH A;have h2:=iH A.reverse;have h3:=iE.out;have h4:bH A.reverse=bH A/\bX A.reverse=bX A:=by
      unfold bH bX;rw[List.map_reverse,List.sum_reverse,List.map_reverse,List.sum_reverse];exact⟨rfl,rfl⟩
     simp only[bH,bX,List.map_cons,List.map_nil,List.sum_cons,List.sum_nil]at *;simp only[ah,List.length_cons,List.length_nil]at *
     omega)
    have fE:=ł (λ(y:World) (hy:Grow w6 y)=>And.intro (aK.out.later (gtr dw.out hy)) (And.intro (GM.out.later hy) (And.intro (HY6.out.later hy) (And.intro (ai gJ.out hy) (Ah.out.later hy)))));refine wg 75 [some 40,some 41,some 42,some 43,some 44,some 45,some 46,some 47,some 48,some 49,some 50,some 51,some 52,some 53,some 54,some 55,some 56,some 57,some 58,some 59,some 60,some 61,some 62,some 63,some 64,some 65,some 66,some 67,some 68,some 69,some 70,some 71,some 72,some 73,some 74,none] [[],[0],[],[2],[3],[4],[5],[],[7],[8],[9],[10],[6,11],[12],[13],[14],[],[],[17],[18],[19],[20],[],[22],[23],[24],[25],[21,26],[27],[28],[29],[],[31],[1,15,16,30,32],[33],[34]] [12,14,27,29,33] [.c (.slice ta A.length tc),.p (λv y=>ay y v (aP A)),.c (.pointer (some ⟨G,0,none⟩)),.c (.pointer (some ⟨G,0,none⟩)),.c (.pointer (some ⟨G,0,none⟩)),.c (.pointer (some ⟨G,1,none⟩)),.c (.int .i64 f.cells),.c (.pointer (some ⟨G,0,none⟩)),.c (.pointer (some ⟨G,0,none⟩)),.c (.pointer (some ⟨G,0,none⟩)),.c (.pointer (some ⟨G,2,none⟩)),.c (.int .i64 f.stacks),.p (λv y=>∃ g,v = .slice (some ⟨g,0,none⟩) 2 2/\y.heap[g]? = some (.cells #[.int .i64 f.cells,.int .i64 f.stacks] 3 (0,0))),.c (.agg #[.int .u8 28,.int .i64 f.cells,.int .i64 f.stacks,.int .i64 0,.int .i64 0]),.p (λv y=>∃ g,v = .slice (some ⟨g,0,none⟩) 1 1/\ax 5 Ins.cells y (.slice (some ⟨g,0,none⟩) 1 1) ([⟨28,f.cells,f.stacks,0,0⟩]:List Ins)),.p (λv y=>ay y v (ah ([⟨28,f.cells,f.stacks,0,0⟩]:List Ins))),.c (.agg #[.slice jL 1 jM,.slice (some ⟨rg,0,none⟩) 1 1]),.c (.pointer (some ⟨G,0,none⟩)),.c (.pointer (some ⟨G,0,none⟩)),.c (.pointer (some ⟨G,0,none⟩)),.c (.pointer (some ⟨G,1,none⟩)),.c (.int .i64 f.cells),.c (.pointer (some ⟨G,0,none⟩)),.c (.pointer (some ⟨G,0,none⟩)),.c (.pointer (some ⟨G,0,none⟩)),.c (.pointer (some ⟨G,2,none⟩)),.c (.int .i64 f.stacks),.p (λv y=>∃ g,v = .slice (some ⟨g,0,none⟩) 2 2/\y.heap[g]? = some (.cells #[.int .i64 f.cells,.int .i64 f.stacks] 3 (0,0))),.c (.agg #[.int .u8 29,.int .i64 f.cells,.int .i64 f.stacks,.int .i64 0,.int .i64 0]),.p (λv y=>∃ g,v = .slice (some ⟨g,0,none⟩) 1 1/\ax 5 Ins.cells y (.slice (some ⟨g,0,none⟩) 1 1) ([⟨29,f.cells,f.stacks,0,0⟩]:List Ins)),.p (λv y=>ay y v (ah ([⟨29,f.cells,f.stacks,0,0⟩]:List Ins))),.c (.slice ba A.length bc),.p (λv y=>ay y v (aP A.reverse)),.p (λv y=>∃ g,v = .slice (some ⟨g,0,none⟩) 5 5/\iw y (.slice (some ⟨g,0,none⟩) 5 5) [aP A,ah ([⟨28,f.cells,f.stacks,0,0⟩]:List Ins),(⟨[⟨op,0,0,0,0⟩],[⟨0,s⟩]⟩:aI),ah ([⟨29,f.cells,f.stacks,0,0⟩]:List Ins),aP A.reverse]),.p (λv y=>ay y v (aP [aP A,ah ([⟨28,f.cells,f.stacks,0,0⟩]:List Ins),(⟨[⟨op,0,0,0,0⟩],[⟨0,s⟩]⟩:aI),ah ([⟨29,f.cells,f.stacks,0,0⟩]:List Ins),aP A.reverse])),.rs (w.heap.size+1) 34 #[.slice none 0 0,.slice none 0 0] 45] (by exact⟨sP,sH,sR,sP,sH,sR,sP,sP,sQ,sP,trivial⟩) (iP (n:=35) rfl rfl (uN.out)) ?steps ?done
    case steps =>
     refine⟨?s0,?s1,?s2,?s3,?s4,?s5,?s6,?s7,?s8,?s9,?s10,?s11,?s12,?s13,?s14,?s15,?s16,?s17,?s18,?s19,?s20,?s21,?s22,?s23,?s24,?s25,?s26,?s27,?s28,?s29,?s30,?s31,?s32,?s33,?s34,?s35,trivial⟩
     case s0|s2|s4|s5|s7|s9|s10|s17|s19|s20|s22|s24|s25|s31 =>
      refine oo (λvs x hP => ?_);simp only[zS];go_simp;exact gc
     case s1 =>
      refine ok fE (λvs x hG HX hP => ?_);have HC:=ł (xJ _ A x (HX.out.2.1) MM.out.1 MM.out.2.1 MM.out.2.2);simp only[zS];go_simp;refine(HC.out).mono ?_;rintro e y ⟨v,rfl,hp,hg⟩;exact⟨_,rfl,aZ hg hp.at⟩
     case s3|s6|s8|s11|s18|s21|s23|s26 =>
      refine ok fE (λvs x hG HX hP => ?_);obtain⟨⟨q0,q1,q2⟩,q3,q4⟩:=bR HX.out.1.blk;simp only[zS];go_simp;exact gc
     case s12|s27 =>
      refine oo (λvs x hP => ?_);simp only[zS];go_simp;exact gl ⟨_,rfl,heap_alloc_new x _⟩
     case s13 =>
      refine ok fE (λvs x hG HX hP => ?_);obtain⟨g12,h12,b12⟩:=pq hP 12;have HC:=ł (fO 28 (f.cells) (f.stacks) g12 _ x b12);simp only[zS,h12];go_simp;refine(HC.out).mono ?_;rintro e y ⟨rfl,hg⟩;exact⟨_,rfl,bu hg rfl⟩
     case s14 =>
      refine oo (λvs x hP => ?_);simp only[zS];go_simp;exact gl ⟨_,rfl,ax.bN (f:=Ins.cells) (l:=([⟨28,f.cells,f.stacks,0,0⟩]:List Ins)) (λ_=>rfl) (heap_alloc_new x _) rfl (by simp)⟩
     case s15 =>
      refine ok fE (λvs x hG HX hP => ?_);obtain⟨g14,lh,b14⟩:=pq hP 14;have HC:=ł (iG _ _ x b14);simp only[zS,lh];go_simp;refine(HC.out).mono ?_;rintro e y ⟨v,rfl,hp,hg⟩;exact⟨_,rfl,aZ hg hp⟩
     case s16 =>
      refine ok fE (λvs x hG HX hP => ?_);obtain⟨i0,i1⟩:=aC HX.out.2.2.2.1;simp only[zS];go_simp;exact gc
     case s28 =>
      refine ok fE (λvs x hG HX hP => ?_);obtain⟨D5,h27,tY⟩:=pq hP 27;have HC:=ł (fO 29 (f.cells) (f.stacks) D5 _ x tY);simp only[zS,h27];go_simp;refine(HC.out).mono ?_;rintro e y ⟨rfl,hg⟩;exact⟨_,rfl,bu hg rfl⟩
     case s29 =>
      refine oo (λvs x hP => ?_);simp only[zS];go_simp;exact gl ⟨_,rfl,ax.bN (f:=Ins.cells) (l:=([⟨29,f.cells,f.stacks,0,0⟩]:List Ins)) (λ_=>rfl) (heap_alloc_new x _) rfl (by simp)⟩
     case s30 =>
      refine ok fE (λvs x hG HX hP => ?_);obtain⟨g29,Aa,b29⟩:=pq hP 29;have HC:=ł (iG _ _ x b29);simp only[zS,Aa];go_simp;refine(HC.out).mono ?_;rintro e y ⟨v,rfl,hp,hg⟩;exact⟨_,rfl,aZ hg hp⟩
     case s32 =>
      refine ok fE (λvs x hG HX hP => ?_);have HC:=ł (xJ _ A.reverse x (HX.out.2.2.1) MN.out.1 MN.out.2.1 MN.out.2.2);simp only[zS];go_simp;refine(HC.out).mono ?_;rintro e y ⟨v,rfl,hp,hg⟩;exact⟨_,rfl,aZ hg hp.at⟩
     case s33 =>
      refine ok fE (λvs x hG HX hP => ?_);have p1:=pq hP 1;have He:=p1;obtain⟨UH,UI,UJ,UK,h1,c1,f1⟩:=p1;rw[h1]at He;have xq:=pq hP 15;have F7:=xq;obtain⟨AZ,A7,RS,RU,qU,c15,f15⟩:=xq;rw[qU]at F7;have p30:=pq hP 30;have F8:=p30;obtain⟨RV,RX,ra30,rc30,Ab,c30,f30⟩:=p30;rw[Ab]at F8;have p32:=pq hP 32;have F9:=p32;obtain⟨RY,RZ,ra32,rc32,h32,c32,f32⟩:=p32;rw[h32]at F9;simp only[zS,h1,qU,Ab,h32];go_simp;exact gl ⟨_,rfl,sw (vs:=[(.slice UH (aP A).code.length UI,.slice UJ (aP A).refs.length UK),(.slice AZ (ah ([⟨28,f.cells,f.stacks,0,0⟩]:List Ins)).code.length A7,.slice RS (ah ([⟨28,f.cells,f.stacks,0,0⟩]:List Ins)).refs.length RU),(.slice jL 1 jM,.slice (some ⟨rg,0,none⟩) 1 1),(.slice RV (ah ([⟨29,f.cells,f.stacks,0,0⟩]:List Ins)).code.length RX,.slice ra30 (ah ([⟨29,f.cells,f.stacks,0,0⟩]:List Ins)).refs.length rc30),(.slice RY (aP A.reverse).code.length RZ,.slice ra32 (aP A.reverse).refs.length rc32)]) (heap_alloc_new x _) rfl ⟨ay.later (He) ((Mv.refl _ _).alloc _),ay.later (F7) ((Mv.refl _ _).alloc _),ay.later (HX.out.2.2.2.2) ((Mv.refl _ _).alloc _),ay.later (F8) ((Mv.refl _ _).alloc _),ay.later (F9) ((Mv.refl _ _).alloc _),trivial⟩⟩
     case s34 =>
      refine ok fE (λvs x hG HX hP => ?_);obtain⟨g33,h33,b33⟩:=pq hP 33;have HC:=ł (xJ _ _ x b33 iA.out.1 iA.out.2 (by simp));simp only[zS,h33];go_simp;refine(HC.out).mono ?_;rintro e y ⟨v,rfl,hp,hg⟩;exact⟨_,rfl,aZ hg hp.at⟩
     case s35 =>
      refine iQ (λvs x hb hv => ?_);obtain⟨Ga,Gb,ra34,rc34,Hf,c34,f34⟩:=hv;obtain⟨c0,c1⟩:=aC hb;have zt:=aD hb;simp only[zS,Hf];go_simp;exact set2 hb _ _
    case done =>
    intro vs w7 hE;have p1:=hE.val 1;have He:=p1;obtain⟨UH,UI,UJ,UK,h1,c1,f1⟩:=p1;rw[h1]at He;have xq:=hE.val 15;have F7:=xq;obtain⟨AZ,A7,RS,RU,qU,c15,f15⟩:=xq;rw[qU]at F7;have p30:=hE.val 30;have F8:=p30;obtain⟨RV,RX,ra30,rc30,Ab,c30,f30⟩:=p30;rw[Ab]at F8;have p32:=hE.val 32;have F9:=p32;obtain⟨RY,RZ,ra32,rc32,h32,c32,f32⟩:=p32;rw[h32]at F9;obtain⟨Ga,Gb,ra34,rc34,Hf,c34,f34⟩:=hE.val 34;have MP:=hE.res 35;simp only[zS,Hf]at MP;simp only[zS,Nat.reduceAdd,h1,qU,Ab,h32,Hf];have HM:=ł (hE.last 35);have aQ:=ł (show Grow w w7 from Mv.trans dw.out HM.out (λb e => .inr (by omega)));have bC:=ł (show ay w7 (.agg #[.slice Ga (aP [aP A,ah ([⟨28,f.cells,f.stacks,0,0⟩]:List Ins),(⟨[⟨op,0,0,0,0⟩],[⟨0,s⟩]⟩:aI),ah ([⟨29,f.cells,f.stacks,0,0⟩]:List Ins),aP A.reverse]).code.length Gb,.slice ra34 (aP [aP A,ah ([⟨28,f.cells,f.stacks,0,0⟩]:List Ins),(⟨[⟨op,0,0,0,0⟩],[⟨0,s⟩]⟩:aI),ah ([⟨29,f.cells,f.stacks,0,0⟩]:List Ins),aP A.reverse]).refs.length rc34]) (aP [aP A,ah ([⟨28,f.cells,f.stacks,0,0⟩]:List Ins),(⟨[⟨op,0,0,0,0⟩],[⟨0,s⟩]⟩:aI),ah ([⟨29,f.cells,f.stacks,0,0⟩]:List Ins),aP A.reverse])from⟨Ga,Gb,ra34,rc34,rfl,c34,f34⟩);have HB:=ł MP;clear hE MP HM c34 f34;simp only[bJ]at HB;go_wp2_with fail;obtain⟨t0,t1⟩:=aC HB.out;exact bodyPost_ret (v := .agg #[.slice Ga (aP [aP A,ah ([⟨28,f.cells,f.stacks,0,0⟩]:List Ins),(⟨[⟨op,0,0,0,0⟩],[⟨0,s⟩]⟩:aI),ah ([⟨29,f.cells,f.stacks,0,0⟩]:List Ins),aP A.reverse]).code.length Gb,.slice ra34 (aP [aP A,ah ([⟨28,f.cells,f.stacks,0,0⟩]:List Ins),(⟨[⟨op,0,0,0,0⟩],[⟨0,s⟩]⟩:aI),ah ([⟨29,f.cells,f.stacks,0,0⟩]:List Ins),aP A.reverse]).refs.length rc34]) (by simp[results,Tryz.results90,go_sem,t0,t1]) rfl ⟨_,rfl,bC.out,aQ.out⟩
attribute [local go_sem ↓] lu
theorem Ww (ps:List aI) (i:Nat) (hi:i<ps.length):bH (ps.take (i+1))=bH (ps.take i)+ps[i].code.length/\bH (ps.take i)+ps[i].code.length<=bH ps:=by
 have h1:bH (ps.take (i+1))=bH (ps.take i)+ps[i].code.length:=by
  rw[List.take_succ_eq_append_getElem hi];simp only[bH,List.map_append,List.sum_append,List.map_cons,List.map_nil,List.sum_cons,List.sum_nil,Nat.add_zero]
 refine⟨h1,?_⟩;rw[← h1]
 conv=>rhs;rw[← List.take_append_drop (i+1) ps]
 unfold bH;rw[List.map_append,List.sum_append];omega
theorem Xk (w:World) (G:Nat) (sv pv:Value) (f:az) (procs:List ak) (hg:gD w G sv pv f procs) (k n:Int) (s:ByteArray) (kv:Value) (l:List ae) (hx:aS w (.mk k n s kv l))
 (hst:∀ i (hi:i<l.length) (z:World),Grow w z->Calls Tryz.prog 58 #[.pointer (some ⟨G,0,none⟩),(l[i]).val] z (bQ z (fw f (procs.map ak.d) (l[i]).t)))
 (hsz:bH ((ae.ts l).map (fw f (procs.map ak.d)))<=65536/\bX ((ae.ts l).map (fw f (procs.map ak.d)))<=65536/\l.length<=65536) :
 Calls Tryz.prog 30 #[.pointer (some ⟨G,0,none⟩),ae.val (.mk k n s kv l)] w (bQ w (aV f (procs.map ak.d) (ae.t (.mk k n s kv l)))):=by
 obtain⟨fa,fc,rfl,hfc,hfl⟩:=hg.fr.row.form;obtain⟨pa,pc,rfl,-,-⟩:=hg.pr.row.form;obtain⟨ka,kc,rfl,hkc,hkl⟩:=hx.form;have xu:=ł (show aV f (procs.map ak.d) (ae.t (.mk k n s (.slice ka l.length kc) l))=aP ((ae.ts l).map (fw f (procs.map ak.d)))from by
  show aP (uI f (procs.map ak.d) (ae.ts l))=_
  rw[Jq])
 have Dc:=ł (show((ae.ts l).map (fw f (procs.map ak.d))).length=l.length from by rw[List.length_map,ae.bT]);have zw:=ł (λi (hi:i<l.length)=>show((ae.ts l).map (fw f (procs.map ak.d)))[i]? = some (fw f (procs.map ak.d) (l[i]).t)from by
  rw[List.getElem?_eq_getElem (by have:=Dc.out;omega),List.getElem_map,ae.gm l i hi])
 have HST:=ł hst;have iE:=ł hsz;have aK:=ł hg;have ll:=ł hx;obtain⟨aJ,bB,HG2⟩:=a2 w (.cells #[.int .u8 k,.int .i64 n,.string s,.slice ka l.length kc] 26) (.cells #[.slice none 0 0,.slice none 0 0] 45);generalize aV f (procs.map ak.d) (ae.t (.mk k n s (.slice ka l.length kc) l))=BC at *;have hbc:=xu.out;subst hbc;generalize ((ae.ts l).map (fw f (procs.map ak.d)))=S at *;clear hg hx hst hsz xu;simp only[ae.val]
 go_enter Tryz.func30,Tryz.ntmps30
 obtain⟨⟨n0,n1⟩,n2,n3⟩:=aF aJ.out;have hln:=lt_of_block aJ.out;go_wp2_with fail;generalize ((w.alloc (.cells #[.int .u8 k,.int .i64 n,.string s,.slice ka l.length kc] 26)).alloc (.cells #[.slice none 0 0,.slice none 0 0] 45))=w2 at *;clear n0 n1 n2 n3 hln
 go_loopw [5,6,13] (λrv sz t wr=>∃ i:Nat,sz = .int .i64 (bH (S.take i):Nat)/\t = .int .i64 i/\i<=l.length/\fG w2.heap.size wr rv (S.take i)/\Grow w2 wr) (λ_ _ t _=>l.length - (intOf t).toNat)
 case atStart=>exact⟨0,rfl,rfl,Nat.zero_le _,fG.nil _ _,Mv.refl _ _⟩
 obtain⟨i,rfl,rfl,hi,hps,hg⟩:=hrel;have pQ:=ł hps;have HG:=ł hg;have hrl:(S.take i).length=i:=by have:=Dc.out;simp;omega
 obtain⟨ba,bc,hbv⟩:=hps.form;rw[hrl]at hbv;subst hbv;clear hps hg;by_cases hlt:i<l.length
 · have hsi:i<S.length:=by have:=Dc.out;omega
   have tT:=ł (Ww S i hsi);have Bt:=ł (show S.take (i+1)=S.take i ++ [S[i]]from List.take_succ_eq_append_getElem hsi);have Bi:=ł (show S[i]=_ from Option.some.inj ((List.getElem?_eq_getElem hsi).symm.trans (zw.out i hlt)));obtain⟨kb,ko,qE,bF,-,-⟩:=ll.out.row.2.2.2.1.at (show 0<l.length by omega);simp only[Value.slice.injEq,true_and]at bF;obtain⟨rfl,rfl⟩:=bF;have dH:=(dO ll.out i hlt).later (gtr HG2.out HG.out);have Bu:=ł (λ(z:World) (hz:Grow w z)=>show Calls Tryz.prog 58 #[.pointer (some ⟨G,0,none⟩),(l[i]).val] z (bQ z S[i])from by rw[Bi.out];exact HST.out i hlt z hz);clear Bi;generalize S[i]=p at *;generalize l[i]=y at *;obtain⟨yk,yn,ys,yv,yl⟩:=y;obtain⟨ya,yc,rfl,-,-⟩:=dH.at_.form;obtain⟨⟨d0,d1⟩,d2,d3⟩:=dH.four;simp only[ae.val]at Bu;have hbl:kb<wr.heap.size:=World.block_lt_of_cell? wr _ d0;have oP:=ł (heap_alloc_new wr (.cells #[.int .u8 yk,.int .i64 yn,.string ys,.slice ya yl.length yc] 26));clear dH;go_wp2_with fail;refine(Bu.out _ (gtr HG2.out (HG.out.alloc (.cells #[.int .u8 yk,.int .i64 yn,.string ys,.slice ya yl.length yc] 26)))).mono ?_;rintro e w4 ⟨v,rfl,hp,hg⟩;obtain⟨xa,xc,xr,xw,rfl,hr1,hr2⟩:=hp;have rU:=ł (show ay w4 (.agg #[.slice xa p.code.length xc,.slice xr p.refs.length xw]) p from⟨_,_,_,_,rfl,hr1,hr2⟩);have aN:=ł (gtr (HG.out.alloc (.cells #[.int .u8 yk,.int .i64 yn,.string ys,.slice ya yl.length yc] 26)) hg);have D8:=ł (pQ.out.later (gtr ((Mv.refl _ wr).alloc (.cells #[.int .u8 yk,.int .i64 yn,.string ys,.slice ya yl.length yc] 26)) hg));clear hr1 hr2 hg hbl d0 d1 d2 d3 oP Bu;have hx4:=heap_alloc_new w4 (.cells #[.slice xa p.code.length xc,.slice xr p.refs.length xw] 45);obtain⟨x0,x1⟩:=aC hx4;have hlx:=lt_of_block hx4;obtain⟨⟨q0,q1,q2⟩,q3,q4⟩:=bR (aK.out.later (gtr HG2.out (aN.out.alloc (.cells #[.slice xa p.code.length xc,.slice xr p.refs.length xw] 45)))).blk;have Ud:=lt_of_block (aK.out.later (gtr HG2.out (aN.out.alloc (.cells #[.slice xa p.code.length xc,.slice xr p.refs.length xw] 45)))).blk;obtain⟨hT1,hT2⟩:=tT.out;have hT3:=iE.out.1;have i1:IntKind.i64.wrap ((bH (S.take i):Int)+(p.code.length:Int))=(bH (S.take i):Int)+(p.code.length:Int):=IntWalk.i64_in _ (by omega);have hgt:decide ((65536:Int)<(bH (S.take i):Int)+(p.code.length:Int))=false:=by simp;omega
   have si:Grow w4 ((w4.alloc (.cells #[.slice xa p.code.length xc,.slice xr p.refs.length xw] 45)).alloc (.cells #[.slice xa p.code.length xc,.slice xr p.refs.length xw] 45)):=((Mv.refl _ w4).alloc _).alloc _;have hrb:=heap_alloc_new (w4.alloc (.cells #[.slice xa p.code.length xc,.slice xr p.refs.length xw] 45)) (.cells #[.slice xa p.code.length xc,.slice xr p.refs.length xw] 45);rw[World.size_alloc]at hrb;obtain⟨a',c',y,⟨hok,hv,hw⟩,hrow2,bK⟩:=Fy w2.heap.size _ (.slice (some ⟨w4.heap.size+1,0,none⟩) 1 1) _ p _ (D8.out.later si) (sw (vs:=[(.slice xa p.code.length xc,.slice xr p.refs.length xw)]) hrb rfl ⟨rU.out.later si,trivial⟩) (gtr aN.out si).size (by rw[hrl];have:=iE.out.2.2;omega);have yh:=ł hrow2;have Bb:=ł ((gtr aN.out si).trans bK (λx e => .inr ((D8.out.later si).lt x e).1));simp only[hrl]at hok hv hw yh;clear si hrb hrow2 bK;go_wp2_with fail;exact⟨⟨i+1,by rw[hT1];simp,by simp,by omega,by rw[Bt.out];exact yh.out,Bb.out⟩,by simp[intOf] <;> omega⟩
 · have hie:i=l.length:=by omega
   subst hie;have eZ:=ł (show iw wr (.slice ba l.length bc) S from by
    have:=pQ.out.at;rw[List.take_of_length_le (by have:=Dc.out;omega)]at this;exact this)
   have HJ:=ł (xJ _ S wr eZ.out (by have:=iE.out;omega) (by have:=iE.out;omega) (by have:=iE.out;have:=Dc.out;omega));go_wp2_with fail;refine HJ.out.mono ?_;rintro e w5 ⟨v,rfl,hp,hg⟩;obtain⟨ja,jc,jr,bz,rfl,hr1,hr2⟩:=hp.at;have hrb:=ai bB.out (gtr HG.out hg);obtain⟨hs1,hs2⟩:=set2 hrb (.slice ja (aP S).code.length jc) (.slice jr (aP S).refs.length bz);have bC:=ł (ay.box (show ay w5 (.agg #[.slice ja (aP S).code.length jc,.slice jr (aP S).refs.length bz]) (aP S)from⟨_,_,_,_,rfl,hr1,hr2⟩) hrb hs2);have aQ:=ł ((gtr HG2.out (gtr HG.out hg)).trans hs2 (λb e => .inr (by omega)));have HB:=ł hs1;obtain⟨c0,c1⟩:=aC hrb;have hlr:=lt_of_block hrb;have zt:=aD hrb;clear hs1 hs2 hp hr1 hr2 hg hrb;go_wp2_with fail;obtain⟨t0,t1⟩:=aC HB.out;exact bodyPost_ret (v := .agg #[.slice ja (aP S).code.length jc,.slice jr (aP S).refs.length bz]) (by simp[results,Tryz.results30,go_sem,t0,t1]) rfl ⟨_,rfl,bC.out,aQ.out⟩
end Go.Proofs.YtnobahchcongnaaGreat
