import Derived.Test.YtnobahchcongnaaGreatDoorR29
set_option linter.unusedSimpArgs false
set_option linter.unusedVariables false
set_option maxRecDepth 100000
set_option maxHeartbeats 25600000
namespace Go.Proofs.YtnobahchcongnaaGreatDoor
open Go.RowKit Go.Instr
attribute [local go_sem ↓] ni
theorem Qy (hof:vO) (w:World) (G:Nat) (sv pv:Value) (f:ax) (procs:List ak) (hg:gX w G sv pv f procs) (k n:Int) (s:ByteArray) (kv:Value) (l:List ae) (hx:aR w (.mk k n s kv l))
 (hlen:l.length=((eQ procs s).getD gU).params.length) (hok:L6 f ((eQ procs s).getD gU).params) (hsz:aO (ji f (ae.ts l) (frameC ((eQ procs s).getD gU).params).slots)<=60000/\bV (ji f (ae.ts l) (frameC ((eQ procs s).getD gU).params).slots)<=60000/\(ji f (ae.ts l) (frameC ((eQ procs s).getD gU).params).slots).length<=60000) :
 Calls Tryz.prog 87 #[.pointer (some ⟨G,0,none⟩),ae.val (.mk k n s kv l)] w (bP w (si f (procs.map ak.d) (if k=51 then 31 else 30) s (ae.ts l))):=by
 have Ow:=ł (λ(y:World) (hy:Grow w y)=>ZA hof y G sv pv f procs (hg.later hy) k n s kv l (hx.later hy) hlen hok (by have:=hsz.2.2;omega));have rC:=ł (show si f (procs.map ak.d) (if k=51 then 31 else 30) s (ae.ts l)=aL [aL (ji f (ae.ts l) (frameC ((eQ procs s).getD gU).params).slots),ah ([⟨28,f.cells,f.stacks,0,0⟩]:List Ins),(⟨[⟨if k=51 then 31 else 30,0,0,0,0⟩],[⟨0,s⟩]⟩:aB),ah ([⟨29,f.cells,f.stacks,0,0⟩]:List Ins),aL (ji f (ae.ts l) (frameC ((eQ procs s).getD gU).params).slots).reverse]from by
  unfold si;rw[Dg])
 obtain⟨fa,fc,rfl,hfc,hfl⟩:=hg.fr.row.form;obtain⟨pa,pc,rfl,-,-⟩:=hg.pr.row.form;obtain⟨ka,kc,rfl,hkc,hkl⟩:=hx.form;generalize (ji f (ae.ts l) (frameC ((eQ procs s).getD gU).params).slots)=A at *;have jq:=ł hsz;have aM:=ł hg;obtain⟨aF,aZ,HG2⟩:=a2 w (.cells #[.int .u8 k,.int .i64 n,.string s,.slice ka l.length kc] 24) (.cells #[.slice none 0 0,.slice none 0 0] 34);have zK:=ł (show aO A<=200000/\bV A<=200000/\A.length<=200000 from by have:=jq.out;omega);have E8:=ł (show aO A.reverse<=200000/\bV A.reverse<=200000/\A.reverse.length<=200000 from by
  have:=jq.out;unfold aO bV at *;rw[List.map_reverse,List.sum_reverse,List.map_reverse,List.sum_reverse,List.length_reverse];omega)
 simp only[ae.val]at Ow ⊢;generalize si f (procs.map ak.d) (if k=51 then 31 else 30) s (ae.ts l)=CC at *;have hcc:=rC.out;subst hcc;clear hg hx hlen hok hsz rC
 go_enter Tryz.func87,Tryz.ntmps87
 obtain⟨⟨n0,n1⟩,n2,n3⟩:=aC aF.out;have hln:=lt_of_block aF.out
 go_upto_if 12 with fail
 generalize ((w.alloc (.cells #[.int .u8 k,.int .i64 n,.string s,.slice ka l.length kc] 24)).alloc (.cells #[.slice none 0 0,.slice none 0 0] 34))=w2 at *;generalize hop:(if k=51 then 31 else 30:Int)=op at *
 go_cut [5] (λv wc=>v = .int .u8 op/\wc=w2)
 case first =>
  by_cases hk:k=51
  · subst hk;have ho:op=31:=by rw[← hop];rfl
    go_wp2_with fail
    go_meet
    case rel=>first|exact⟨rfl,rfl⟩|exact⟨by rw[ho],rfl⟩
  · have e1:(k == 51)=false:=by simpa using hk
    have ho:op=30:=by rw[← hop,if_neg hk]
    go_wp2_with fail
    go_meet
    case rel=>first|exact⟨rfl,rfl⟩|exact⟨by rw[ho],rfl⟩
 case rest =>
  obtain⟨rfl,rfl⟩:=hcut;clear hop;go_wp2_with fail;refine(Ow.out _ HG2.out).mono ?_;rintro e w3 ⟨tv,rfl,hps,hg⟩;obtain⟨ta,tc,rfl⟩:=hps.form;have CV:=ł hps.at;have aH:=ł (gtr HG2.out hg);have pO:=ł (ai aF.out hg);have HR3:=ł (ai aZ.out hg);obtain⟨-,-,-,afl,afm⟩:=hps.at.form;have HAL:=ł (show A.length<=60000 from jq.out.2.2);have hal:A.length<=60000:=jq.out.2.2;have i0:IntKind.i64.wrap ((A.length:Int) - 1)=(A.length:Int) - 1:=IntWalk.i64_in _ (by omega);clear hps hg n0 n1 n2 n3 hln aF aZ Ow;go_wp2_with fail
  go_loopw [7,8] (λbv t wr=>∃ m:Nat,t = .int .i64 ((A.length:Int) - 1 - m)/\m<=A.length/\fQ w3.heap.size wr bv (A.reverse.take m)/\Grow w3 wr) (λ_ t _=>(intOf t+1).toNat)
  case atStart=>exact⟨0,by simp,Nat.zero_le _,fQ.nil _ _,Mv.refl _ _⟩
  obtain⟨m,rfl,hm,hps,hg⟩:=hrel;have uI:=ł hps;have HG:=ł hg;have hrl:(A.reverse.take m).length=m:=by simp;omega
  obtain⟨ba,bc,hbv⟩:=hps.form;rw[hrl]at hbv;subst hbv;by_cases hlt:m<A.length
  · obtain⟨j,hj⟩:∃ j:Nat,(A.length:Int) - 1 - m=j:=⟨A.length - 1 - m,by omega⟩;have hjl:j<A.length:=by omega
    obtain⟨vs,hv1,hv2,hv3⟩:=CV.out.later hg;have Ox:j<vs.length:=by omega
    obtain⟨b,off,cap',e,_,hcc⟩:=hv2.at Ox;simp only[Value.slice.injEq,true_and]at e;have hpj:=hv3 j Ox hjl;have c0:=hcc 0 _ rfl;have c1:=hcc 1 _ rfl;have uR:=ł (show A.reverse.take (m+1)=A.reverse.take m ++ [A[j]]from by
     rw[List.take_succ_eq_append_getElem (by simp;omega),List.getElem_reverse];have:A.length - 1 - m=j:=by omega
     simp only[this])
    have hlm:m+1<=1000000:=by omega
    generalize A[j]=p at *;generalize vs[j]=v at *;obtain⟨v1,v2⟩:=v;obtain⟨xa,xc,ya,yc,hv,hr1,hr2⟩:=hpj;simp only[Value.agg.injEq,Array.mk.injEq,List.cons.injEq,and_true]at hv;obtain⟨rfl,rfl⟩:=hv;obtain⟨rfl,-,rfl⟩:=e;simp only[Nat.add_zero]at c0 c1;have hbl:b<wr.heap.size:=World.block_lt_of_cell? wr _ c0;have hpx:ay wr (.agg #[.slice xa p.code.length xc,.slice ya p.refs.length yc]) p:=⟨_,_,_,_,rfl,hr1,hr2⟩;have hgx:Grow wr (wr.alloc (.cells #[.slice xa p.code.length xc,.slice ya p.refs.length yc] 34)):=(Mv.refl _ wr).alloc _;obtain⟨a',c',y,⟨hok,hv,hw⟩,hrow2,bz⟩:=Ic w3.heap.size _ (.slice (some ⟨wr.heap.size,0,none⟩) 1 1) _ p _ (hps.later hgx) (tu (vs:=[(.slice xa p.code.length xc,.slice ya p.refs.length yc)]) (heap_alloc_new wr (.cells #[.slice xa p.code.length xc,.slice ya p.refs.length yc] 34)) rfl ⟨hpx.later hgx,trivial⟩) (hg.trans hgx (λ_ e=>e.elim)).size (by rw[hrl];exact hlm);have zh:=ł hrow2;have Ei:=ł ((gtr hg hgx).trans bz (λx e => .inr (hps.lt x e).1));simp only[hrl]at hok hv hw zh;have i1:IntKind.i64.wrap ((j:Int) - 1)=(j:Int) - 1:=IntWalk.i64_in _ (by omega);clear hcc hps hg hrow2 bz hpx hgx hv1 hv2 hv3 hr1 hr2 Ox;rw[hj];go_wp2_with fail;exact⟨⟨m+1,by simp;omega,by omega,by rw[uR.out];exact zh.out,Ei.out⟩,by simp[intOf] <;> omega⟩
  · have hme:m=A.length:=by omega
    subst hme;have dY:=ł (show iG wr (.slice ba A.length bc) A.reverse from by
     have:=hps.at;rw[List.take_of_length_le (by simp)]at this;exact this)
    clear hps hg hrl i0 hal uI;go_upto_region 10 with fail;refine fV 75 [some 30,some 31,some 32,some 33,some 34,some 9,none] [[],[],[0,1],[2],[3],[],[5,4]] [1,3] [.c (.int .u8 op),.p (λv y=>∃ g,v = .slice (some ⟨g,0,none⟩) 1 1/\y.heap[g]? = some (.cells #[.int .i64 0] 3 (0,0))),.c (.agg #[.int .u8 op,.int .i64 0,.int .i64 0,.int .i64 0,.int .i64 0]),.p (λv y=>∃ g,v = .slice (some ⟨g,0,none⟩) 1 1/\az 5 Ins.cells y (.slice (some ⟨g,0,none⟩) 1 1) ([⟨op,0,0,0,0⟩]:List Ins)),.p (λv y=>ay y v (ah ([⟨op,0,0,0,0⟩]:List Ins))),.al 6 4 #[.slice none 0 0,.slice none 0 0] 34,.st 5] ⟨sH,sR,sP,trivial⟩ (dP rfl) ?steps ?done
    case steps =>
     refine⟨?s0,?s1,?s2,?s3,?s4,?s5,?s6,trivial⟩
     case s0 =>
      refine oo (λvs x hP => ?_);simp only[zS];go_simp;exact gc
     case s1 =>
      refine oo (λvs x hP => ?_);simp only[zS];go_simp;exact gl ⟨_,rfl,heap_alloc_new x _⟩
     case s2 =>
      refine om (λvs x hG hP => ?_);obtain⟨g1,h1,b1⟩:=pq hP 1;have HC:=ł (wK op (0) g1 _ x b1);simp only[zS,h1];go_simp;refine(HC.out).mono ?_;rintro e y ⟨rfl,hg⟩;exact⟨_,rfl,aX hg rfl⟩
     case s3 =>
      refine oo (λvs x hP => ?_);simp only[zS];go_simp;exact gl ⟨_,rfl,az.bO (f:=Ins.cells) (l:=([⟨op,0,0,0,0⟩]:List Ins)) (λ_=>rfl) (heap_alloc_new x _) rfl (by simp)⟩
     case s4 =>
      refine om (λvs x hG hP => ?_);obtain⟨g3,h3,b3⟩:=pq hP 3;have HC:=ł (iJ _ _ x b3);simp only[zS,h3];go_simp;refine(HC.out).mono ?_;rintro e y ⟨v,rfl,hp,hg⟩;exact⟨_,rfl,aW hg hp⟩
     case s5 =>
      refine oz (λvs x => ?_);simp only[zS];go_simp;exact⟨rfl,rfl⟩
     case s6 =>
      refine os (λvs x g hg hb hv => ?_);obtain⟨jN,jO,mY,mZ,h4,c4,f4⟩:=hv;obtain⟨c0,c1⟩:=aA hb;have zt:=aG hb;simp only[zS,hg,h4];go_simp;exact set2 hb _ _
    case done =>
    intro vs w5 hE;have hG:=hE.jZ;obtain⟨jN,jO,mY,mZ,h4,c4,f4⟩:=hE.val 4;obtain⟨g5,a5,l5,m5,b5⟩:=hE.box 5;simp only[zS,h4]at b5;simp only[zS,Nat.reduceAdd,h4,a5];have jM:=ł b5;simp only[bG]at jM;have aU:=ł (gtr aH.out (gtr HG.out hG));have bS:=ł hG;have vZ:=ł (CV.out.later (gtr HG.out hG));have HY5:=ł (dY.out.later hG);have JK:=ł (show az 5 Ins.cells w5 (.slice jN 1 jO) [⟨op,0,0,0,0⟩]from c4);have hg5:wr.heap.size<=g5:=l5;have abX:w3.heap.size<=g5:=Nat.le_trans HG.out.size hg5;clear hE hG b5 c4 f4;have iC:=ł (heap_alloc_new w5 (.cells #[.int .i64 0,.string s] 78));have afn:=ł (aS jM.out (.cells #[.int .i64 0,.string s] 78));have hne:w5.heap.size≠g5:=by have:=lt_of_block jM.out;omega
    obtain⟨hs1,hs2⟩:=Ll jM.out (.slice (some ⟨w5.heap.size,0,none⟩) 1 1);have hsz5:(w5.setCell ⟨g5,1,none⟩ (.slice (some ⟨w5.heap.size,0,none⟩) 1 1)).heap.size=w5.heap.size:=by simp
    have hga:Grow (w5.setCell ⟨g5,1,none⟩ (.slice (some ⟨w5.heap.size,0,none⟩) 1 1)) ((w5.setCell ⟨g5,1,none⟩ (.slice (some ⟨w5.heap.size,0,none⟩) 1 1)).alloc (.cells #[.int .i64 0,.string s] 78)):=(Mv.refl _ _).alloc _;have hrf:=heap_alloc_new (w5.setCell ⟨g5,1,none⟩ (.slice (some ⟨w5.heap.size,0,none⟩) 1 1)) (.cells #[.int .i64 0,.string s] 78);rw[hsz5]at hrf;have il:=ł (show((w5.setCell ⟨g5,1,none⟩ (.slice (some ⟨w5.heap.size,0,none⟩) 1 1)).alloc (.cells #[.int .i64 0,.string s] 78)).heap[g5]? = some (.cells #[.slice jN 1 jO,.slice (some ⟨w5.heap.size,0,none⟩) 1 1] 34 (0,0))from aS hs1 _);have di:=ł (show Grow w ((w5.setCell ⟨g5,1,none⟩ (.slice (some ⟨w5.heap.size,0,none⟩) 1 1)).alloc (.cells #[.int .i64 0,.string s] 78))from gtr (aU.out.trans hs2 (λb e => .inr (by have:=aH.out.size;omega))) hga);have Jw:=ł (show iG ((w5.setCell ⟨g5,1,none⟩ (.slice (some ⟨w5.heap.size,0,none⟩) 1 1)).alloc (.cells #[.int .i64 0,.string s] 78)) (.slice ta A.length tc) A from CV.out.later (gtr ((gtr HG.out bS.out).trans hs2 (λb e => .inr (by omega))) hga));have HY6:=ł (show iG ((w5.setCell ⟨g5,1,none⟩ (.slice (some ⟨w5.heap.size,0,none⟩) 1 1)).alloc (.cells #[.int .i64 0,.string s] 78)) (.slice ba A.length bc) A.reverse from dY.out.later (gtr (bS.out.trans hs2 (λb e => .inr (by omega))) hga));have BA:=ł (show ay ((w5.setCell ⟨g5,1,none⟩ (.slice (some ⟨w5.heap.size,0,none⟩) 1 1)).alloc (.cells #[.int .i64 0,.string s] 78)) (.agg #[.slice jN 1 jO,.slice (some ⟨w5.heap.size,0,none⟩) 1 1]) (⟨[⟨op,0,0,0,0⟩],[⟨0,s⟩]⟩:aB)from
     ⟨jN,jO,some ⟨w5.heap.size,0,none⟩,1,rfl,(Hq (a:=(jN,1,jO)) (b:=(mY,0,mZ)) JK.out (λu=>⟨_,rfl,by simp⟩) jM.out hs2).later hga,
      az.bO (f:=aV.cells) (l:=[(⟨0,s⟩:aV)]) (λ_=>rfl) hrf rfl (by simp)⟩)
    have HR6:=ł (show((w5.setCell ⟨g5,1,none⟩ (.slice (some ⟨w5.heap.size,0,none⟩) 1 1)).alloc (.cells #[.int .i64 0,.string s] 78)).heap[w.heap.size+1]? = some (.cells #[.slice none 0 0,.slice none 0 0] 34 (0,0))from ai HR3.out (gtr ((gtr HG.out bS.out).trans hs2 (λb e => .inr (by omega))) hga));have VV:=ł (ai pO.out (gtr HG.out bS.out));obtain⟨b0,b1⟩:=aA jM.out;obtain⟨⟨n0,n1⟩,n2,n3⟩:=aC VV.out;have hln:=lt_of_block VV.out;have hlc:=lt_of_block jM.out;have zt:=aG jM.out;clear hs1 hs2 hga hrf hsz5;go_upto_region 12 with fail;generalize ((w5.setCell ⟨g5,1,none⟩ (.slice (some ⟨w5.heap.size,0,none⟩) 1 1)).alloc (.cells #[.int .i64 0,.string s] 78))=w6 at *;generalize w5.heap.size=rg at *;clear b0 b1 n0 n1 n2 n3 hln hlc zt hne hg5 abX;have Aq:=ł HR6.out;have iI:=ł (show aO [aL A,ah ([⟨28,f.cells,f.stacks,0,0⟩]:List Ins),(⟨[⟨op,0,0,0,0⟩],[⟨0,s⟩]⟩:aB),ah ([⟨29,f.cells,f.stacks,0,0⟩]:List Ins),aL A.reverse]<=200000/\bV [aL A,ah ([⟨28,f.cells,f.stacks,0,0⟩]:List Ins),(⟨[⟨op,0,0,0,0⟩],[⟨0,s⟩]⟩:aB),ah ([⟨29,f.cells,f.stacks,0,0⟩]:List Ins),aL A.reverse]<=200000 from by
     have h1:=dI A;have h2:=dI A.reverse;have h3:=jq.out;have h4:aO A.reverse=aO A/\bV A.reverse=bV A:=by
      unfold aO bV;rw[List.map_reverse,List.sum_reverse,List.map_reverse,List.sum_reverse];exact⟨rfl,rfl⟩
     simp only[aO,bV,List.map_cons,List.map_nil,List.sum_cons,List.sum_nil]at *;simp only[ah,List.length_cons,List.length_nil]at *
     omega)
    have iq:=ł (λ(y:World) (hy:Grow w6 y)=>And.intro (aM.out.later (gtr di.out hy)) (And.intro (Jw.out.later hy) (And.intro (HY6.out.later hy) (And.intro (ai il.out hy) (BA.out.later hy)))));refine wg 75 [some 40,some 41,some 42,some 43,some 44,some 45,some 46,some 47,some 48,some 49,some 50,some 51,some 52,some 53,some 54,some 55,some 56,some 57,some 58,some 59,some 60,some 61,some 62,some 63,some 64,some 65,some 66,some 67,some 68,some 69,some 70,some 71,some 72,some 73,some 74,none] [[],[0],[],[2],[3],[4],[5],[],[7],[8],[9],[10],[6,11],[12],[13],[14],[],[],[17],[18],[19],[20],[],[22],[23],[24],[25],[21,26],[27],[28],[29],[],[31],[1,15,16,30,32],[33],[34]] [12,14,27,29,33] [.c (.slice ta A.length tc),.p (λv y=>ay y v (aL A)),.c (.pointer (some ⟨G,0,none⟩)),.c (.pointer (some ⟨G,0,none⟩)),.c (.pointer (some ⟨G,0,none⟩)),.c (.pointer (some ⟨G,1,none⟩)),.c (.int .i64 f.cells),.c (.pointer (some ⟨G,0,none⟩)),.c (.pointer (some ⟨G,0,none⟩)),.c (.pointer (some ⟨G,0,none⟩)),.c (.pointer (some ⟨G,2,none⟩)),.c (.int .i64 f.stacks),.p (λv y=>∃ g,v = .slice (some ⟨g,0,none⟩) 2 2/\y.heap[g]? = some (.cells #[.int .i64 f.cells,.int .i64 f.stacks] 3 (0,0))),.c (.agg #[.int .u8 28,.int .i64 f.cells,.int .i64 f.stacks,.int .i64 0,.int .i64 0]),.p (λv y=>∃ g,v = .slice (some ⟨g,0,none⟩) 1 1/\az 5 Ins.cells y (.slice (some ⟨g,0,none⟩) 1 1) ([⟨28,f.cells,f.stacks,0,0⟩]:List Ins)),.p (λv y=>ay y v (ah ([⟨28,f.cells,f.stacks,0,0⟩]:List Ins))),.c (.agg #[.slice jN 1 jO,.slice (some ⟨rg,0,none⟩) 1 1]),.c (.pointer (some ⟨G,0,none⟩)),.c (.pointer (some ⟨G,0,none⟩)),.c (.pointer (some ⟨G,0,none⟩)),.c (.pointer (some ⟨G,1,none⟩)),.c (.int .i64 f.cells),.c (.pointer (some ⟨G,0,none⟩)),.c (.pointer (some ⟨G,0,none⟩)),.c (.pointer (some ⟨G,0,none⟩)),.c (.pointer (some ⟨G,2,none⟩)),.c (.int .i64 f.stacks),.p (λv y=>∃ g,v = .slice (some ⟨g,0,none⟩) 2 2/\y.heap[g]? = some (.cells #[.int .i64 f.cells,.int .i64 f.stacks] 3 (0,0))),.c (.agg #[.int .u8 29,.int .i64 f.cells,.int .i64 f.stacks,.int .i64 0,.int .i64 0]),.p (λv y=>∃ g,v = .slice (some ⟨g,0,none⟩) 1 1/\az 5 Ins.cells y (.slice (some ⟨g,0,none⟩) 1 1) ([⟨29,f.cells,f.stacks,0,0⟩]:List Ins)),.p (λv y=>ay y v (ah ([⟨29,f.cells,f.stacks,0,0⟩]:List Ins))),.c (.slice ba A.length bc),.p (λv y=>ay y v (aL A.reverse)),.p (λv y=>∃ g,v = .slice (some ⟨g,0,none⟩) 5 5/\iG y (.slice (some ⟨g,0,none⟩) 5 5) [aL A,ah ([⟨28,f.cells,f.stacks,0,0⟩]:List Ins),(⟨[⟨op,0,0,0,0⟩],[⟨0,s⟩]⟩:aB),ah ([⟨29,f.cells,f.stacks,0,0⟩]:List Ins),aL A.reverse]),.p (λv y=>ay y v (aL [aL A,ah ([⟨28,f.cells,f.stacks,0,0⟩]:List Ins),(⟨[⟨op,0,0,0,0⟩],[⟨0,s⟩]⟩:aB),ah ([⟨29,f.cells,f.stacks,0,0⟩]:List Ins),aL A.reverse])),.rs (w.heap.size+1) 34 #[.slice none 0 0,.slice none 0 0] 34] (by exact⟨sP,sH,sR,sP,sH,sR,sP,sP,sQ,sP,trivial⟩) (iT (n:=35) rfl rfl (Aq.out)) ?steps ?done
    case steps =>
     refine⟨?s0,?s1,?s2,?s3,?s4,?s5,?s6,?s7,?s8,?s9,?s10,?s11,?s12,?s13,?s14,?s15,?s16,?s17,?s18,?s19,?s20,?s21,?s22,?s23,?s24,?s25,?s26,?s27,?s28,?s29,?s30,?s31,?s32,?s33,?s34,?s35,trivial⟩
     case s0|s2|s4|s5|s7|s9|s10|s17|s19|s20|s22|s24|s25|s31 =>
      refine oo (λvs x hP => ?_);simp only[zS];go_simp;exact gc
     case s1 =>
      refine ok iq (λvs x hG HX hP => ?_);have HC:=ł (yE _ A x (HX.out.2.1) zK.out.1 zK.out.2.1 zK.out.2.2);simp only[zS];go_simp;refine(HC.out).mono ?_;rintro e y ⟨v,rfl,hp,hg⟩;exact⟨_,rfl,aW hg hp.at⟩
     case s3|s6|s8|s11|s18|s21|s23|s26 =>
      refine ok iq (λvs x hG HX hP => ?_);obtain⟨⟨q0,q1,q2⟩,q3,q4⟩:=bJ HX.out.1.blk;simp only[zS];go_simp;exact gc
     case s12|s27 =>
      refine oo (λvs x hP => ?_);simp only[zS];go_simp;exact gl ⟨_,rfl,heap_alloc_new x _⟩
     case s13 =>
      refine ok iq (λvs x hG HX hP => ?_);obtain⟨g12,h12,b12⟩:=pq hP 12;have HC:=ł (gu 28 (f.cells) (f.stacks) g12 _ x b12);simp only[zS,h12];go_simp;refine(HC.out).mono ?_;rintro e y ⟨rfl,hg⟩;exact⟨_,rfl,aX hg rfl⟩
     case s14 =>
      refine oo (λvs x hP => ?_);simp only[zS];go_simp;exact gl ⟨_,rfl,az.bO (f:=Ins.cells) (l:=([⟨28,f.cells,f.stacks,0,0⟩]:List Ins)) (λ_=>rfl) (heap_alloc_new x _) rfl (by simp)⟩
     case s15 =>
      refine ok iq (λvs x hG HX hP => ?_);obtain⟨g14,lC,b14⟩:=pq hP 14;have HC:=ł (iJ _ _ x b14);simp only[zS,lC];go_simp;refine(HC.out).mono ?_;rintro e y ⟨v,rfl,hp,hg⟩;exact⟨_,rfl,aW hg hp⟩
     case s16 =>
      refine ok iq (λvs x hG HX hP => ?_);obtain⟨i0,i1⟩:=aA HX.out.2.2.2.1;simp only[zS];go_simp;exact gc
     case s28 =>
      refine ok iq (λvs x hG HX hP => ?_);obtain⟨Fu,h27,uK⟩:=pq hP 27;have HC:=ł (gu 29 (f.cells) (f.stacks) Fu _ x uK);simp only[zS,h27];go_simp;refine(HC.out).mono ?_;rintro e y ⟨rfl,hg⟩;exact⟨_,rfl,aX hg rfl⟩
     case s29 =>
      refine oo (λvs x hP => ?_);simp only[zS];go_simp;exact gl ⟨_,rfl,az.bO (f:=Ins.cells) (l:=([⟨29,f.cells,f.stacks,0,0⟩]:List Ins)) (λ_=>rfl) (heap_alloc_new x _) rfl (by simp)⟩
     case s30 =>
      refine ok iq (λvs x hG HX hP => ?_);obtain⟨g29,Bq,b29⟩:=pq hP 29;have HC:=ł (iJ _ _ x b29);simp only[zS,Bq];go_simp;refine(HC.out).mono ?_;rintro e y ⟨v,rfl,hp,hg⟩;exact⟨_,rfl,aW hg hp⟩
     case s32 =>
      refine ok iq (λvs x hG HX hP => ?_);have HC:=ł (yE _ A.reverse x (HX.out.2.2.1) E8.out.1 E8.out.2.1 E8.out.2.2);simp only[zS];go_simp;refine(HC.out).mono ?_;rintro e y ⟨v,rfl,hp,hg⟩;exact⟨_,rfl,aW hg hp.at⟩
     case s33 =>
      refine ok iq (λvs x hG HX hP => ?_);have p1:=pq hP 1;have JM:=p1;obtain⟨VW,VX,VY,VZ,h1,c1,f1⟩:=p1;rw[h1]at JM;have xZ:=pq hP 15;have IZ:=xZ;obtain⟨Ct,Cu,TI,TJ,rz,c15,f15⟩:=xZ;rw[rz]at IZ;have p30:=pq hP 30;have I1:=p30;obtain⟨TK,TL,ra30,rc30,Br,c30,f30⟩:=p30;rw[Br]at I1;have p32:=pq hP 32;have I4:=p32;obtain⟨TM,TN,ra32,rc32,h32,c32,f32⟩:=p32;rw[h32]at I4;simp only[zS,h1,rz,Br,h32];go_simp;exact gl ⟨_,rfl,tu (vs:=[(.slice VW (aL A).code.length VX,.slice VY (aL A).refs.length VZ),(.slice Ct (ah ([⟨28,f.cells,f.stacks,0,0⟩]:List Ins)).code.length Cu,.slice TI (ah ([⟨28,f.cells,f.stacks,0,0⟩]:List Ins)).refs.length TJ),(.slice jN 1 jO,.slice (some ⟨rg,0,none⟩) 1 1),(.slice TK (ah ([⟨29,f.cells,f.stacks,0,0⟩]:List Ins)).code.length TL,.slice ra30 (ah ([⟨29,f.cells,f.stacks,0,0⟩]:List Ins)).refs.length rc30),(.slice TM (aL A.reverse).code.length TN,.slice ra32 (aL A.reverse).refs.length rc32)]) (heap_alloc_new x _) rfl ⟨ay.later (JM) ((Mv.refl _ _).alloc _),ay.later (IZ) ((Mv.refl _ _).alloc _),ay.later (HX.out.2.2.2.2) ((Mv.refl _ _).alloc _),ay.later (I1) ((Mv.refl _ _).alloc _),ay.later (I4) ((Mv.refl _ _).alloc _),trivial⟩⟩
     case s34 =>
      refine ok iq (λvs x hG HX hP => ?_);obtain⟨g33,h33,b33⟩:=pq hP 33;have HC:=ł (yE _ _ x b33 iI.out.1 iI.out.2 (by simp));simp only[zS,h33];go_simp;refine(HC.out).mono ?_;rintro e y ⟨v,rfl,hp,hg⟩;exact⟨_,rfl,aW hg hp.at⟩
     case s35 =>
      refine iU (λvs x hb hv => ?_);obtain⟨I5,I6,ra34,rc34,JN,c34,f34⟩:=hv;obtain⟨c0,c1⟩:=aA hb;have zt:=aG hb;simp only[zS,JN];go_simp;exact set2 hb _ _
    case done =>
    intro vs w7 hE;have p1:=hE.val 1;have JM:=p1;obtain⟨VW,VX,VY,VZ,h1,c1,f1⟩:=p1;rw[h1]at JM;have xZ:=hE.val 15;have IZ:=xZ;obtain⟨Ct,Cu,TI,TJ,rz,c15,f15⟩:=xZ;rw[rz]at IZ;have p30:=hE.val 30;have I1:=p30;obtain⟨TK,TL,ra30,rc30,Br,c30,f30⟩:=p30;rw[Br]at I1;have p32:=hE.val 32;have I4:=p32;obtain⟨TM,TN,ra32,rc32,h32,c32,f32⟩:=p32;rw[h32]at I4;obtain⟨I5,I6,ra34,rc34,JN,c34,f34⟩:=hE.val 34;have Oy:=hE.res 35;simp only[zS,JN]at Oy;simp only[zS,Nat.reduceAdd,h1,rz,Br,h32,JN];have HM:=ł (hE.last 35);have aJ:=ł (show Grow w w7 from Mv.trans di.out HM.out (λb e => .inr (by omega)));have bB:=ł (show ay w7 (.agg #[.slice I5 (aL [aL A,ah ([⟨28,f.cells,f.stacks,0,0⟩]:List Ins),(⟨[⟨op,0,0,0,0⟩],[⟨0,s⟩]⟩:aB),ah ([⟨29,f.cells,f.stacks,0,0⟩]:List Ins),aL A.reverse]).code.length I6,.slice ra34 (aL [aL A,ah ([⟨28,f.cells,f.stacks,0,0⟩]:List Ins),(⟨[⟨op,0,0,0,0⟩],[⟨0,s⟩]⟩:aB),ah ([⟨29,f.cells,f.stacks,0,0⟩]:List Ins),aL A.reverse]).refs.length rc34]) (aL [aL A,ah ([⟨28,f.cells,f.stacks,0,0⟩]:List Ins),(⟨[⟨op,0,0,0,0⟩],[⟨0,s⟩]⟩:aB),ah ([⟨29,f.cells,f.stacks,0,0⟩]:List Ins),aL A.reverse])from⟨I5,I6,ra34,rc34,rfl,c34,f34⟩);have HB:=ł Oy;clear hE Oy HM c34 f34;simp only[bG]at HB;go_wp2_with fail;obtain⟨t0,t1⟩:=aA HB.out;exact bodyPost_ret (v := .agg #[.slice I5 (aL [aL A,ah ([⟨28,f.cells,f.stacks,0,0⟩]:List Ins),(⟨[⟨op,0,0,0,0⟩],[⟨0,s⟩]⟩:aB),ah ([⟨29,f.cells,f.stacks,0,0⟩]:List Ins),aL A.reverse]).code.length I6,.slice ra34 (aL [aL A,ah ([⟨28,f.cells,f.stacks,0,0⟩]:List Ins),(⟨[⟨op,0,0,0,0⟩],[⟨0,s⟩]⟩:aB),ah ([⟨29,f.cells,f.stacks,0,0⟩]:List Ins),aL A.reverse]).refs.length rc34]) (by simp[results,Tryz.results87,go_sem,t0,t1]) rfl ⟨_,rfl,bB.out,aJ.out⟩
attribute [local go_sem ↓] ni
theorem XV (ps:List aB) (i:Nat) (hi:i<ps.length):aO (ps.take (i+1))=aO (ps.take i)+ps[i].code.length/\aO (ps.take i)+ps[i].code.length<=aO ps:=by
 have h1:aO (ps.take (i+1))=aO (ps.take i)+ps[i].code.length:=by
  rw[List.take_succ_eq_append_getElem hi];simp only[aO,List.map_append,List.sum_append,List.map_cons,List.map_nil,List.sum_cons,List.sum_nil,Nat.add_zero]
 refine⟨h1,?_⟩;rw[← h1]
 conv=>rhs;rw[← List.take_append_drop (i+1) ps]
 unfold aO;rw[List.map_append,List.sum_append];omega
theorem YL (w:World) (G:Nat) (sv pv:Value) (f:ax) (procs:List ak) (hg:gX w G sv pv f procs) (k n:Int) (s:ByteArray) (kv:Value) (l:List ae) (hx:aR w (.mk k n s kv l))
 (hst:∀ i (hi:i<l.length) (z:World),Grow w z->Calls Tryz.prog 46 #[.pointer (some ⟨G,0,none⟩),(l[i]).val] z (bP z (dX f (procs.map ak.d) (l[i]).t)))
 (hsz:aO ((ae.ts l).map (dX f (procs.map ak.d)))<=65536/\bV ((ae.ts l).map (dX f (procs.map ak.d)))<=65536/\l.length<=65536) :
 Calls Tryz.prog 22 #[.pointer (some ⟨G,0,none⟩),ae.val (.mk k n s kv l)] w (bP w (aQ f (procs.map ak.d) (ae.t (.mk k n s kv l)))):=by
 obtain⟨fa,fc,rfl,hfc,hfl⟩:=hg.fr.row.form;obtain⟨pa,pc,rfl,-,-⟩:=hg.pr.row.form;obtain⟨ka,kc,rfl,hkc,hkl⟩:=hx.form;have pV:=ł (show aQ f (procs.map ak.d) (ae.t (.mk k n s (.slice ka l.length kc) l))=aL ((ae.ts l).map (dX f (procs.map ak.d)))from by
  show aL (qE f (procs.map ak.d) (ae.ts l))=_
  rw[GA])
 have EJ:=ł (show((ae.ts l).map (dX f (procs.map ak.d))).length=l.length from by rw[List.length_map,ae.cz]);have abY:=ł (λi (hi:i<l.length)=>show((ae.ts l).map (dX f (procs.map ak.d)))[i]? = some (dX f (procs.map ak.d) (l[i]).t)from by
  rw[List.getElem?_eq_getElem (by have:=EJ.out;omega),List.getElem_map,ae.gW l i hi])
 have HST:=ł hst;have jq:=ł hsz;have aM:=ł hg;have jR:=ł hx;obtain⟨aF,aZ,HG2⟩:=a2 w (.cells #[.int .u8 k,.int .i64 n,.string s,.slice ka l.length kc] 24) (.cells #[.slice none 0 0,.slice none 0 0] 34);generalize aQ f (procs.map ak.d) (ae.t (.mk k n s (.slice ka l.length kc) l))=BC at *;have hbc:=pV.out;subst hbc;generalize ((ae.ts l).map (dX f (procs.map ak.d)))=S at *;clear hg hx hst hsz pV;simp only[ae.val]
 go_enter Tryz.func22,Tryz.ntmps22
 obtain⟨⟨n0,n1⟩,n2,n3⟩:=aC aF.out;have hln:=lt_of_block aF.out;go_wp2_with fail;generalize ((w.alloc (.cells #[.int .u8 k,.int .i64 n,.string s,.slice ka l.length kc] 24)).alloc (.cells #[.slice none 0 0,.slice none 0 0] 34))=w2 at *;clear n0 n1 n2 n3 hln
 go_loopw [5,6,13] (λrv sz t wr=>∃ i:Nat,sz = .int .i64 (aO (S.take i):Nat)/\t = .int .i64 i/\i<=l.length/\fQ w2.heap.size wr rv (S.take i)/\Grow w2 wr) (λ_ _ t _=>l.length - (intOf t).toNat)
 case atStart=>exact⟨0,rfl,rfl,Nat.zero_le _,fQ.nil _ _,Mv.refl _ _⟩
 obtain⟨i,rfl,rfl,hi,hps,hg⟩:=hrel;have uI:=ł hps;have HG:=ł hg;have hrl:(S.take i).length=i:=by have:=EJ.out;simp;omega
 obtain⟨ba,bc,hbv⟩:=hps.form;rw[hrl]at hbv;subst hbv;clear hps hg;by_cases hlt:i<l.length
 · have hsi:i<S.length:=by have:=EJ.out;omega
   have uJ:=ł (XV S i hsi);have uR:=ł (show S.take (i+1)=S.take i ++ [S[i]]from List.take_succ_eq_append_getElem hsi);have pR:=ł (show S[i]=_ from Option.some.inj ((List.getElem?_eq_getElem hsi).symm.trans (abY.out i hlt)));obtain⟨kb,ko,y9,bU,-,-⟩:=jR.out.row.2.2.2.1.at (show 0<l.length by omega);simp only[Value.slice.injEq,true_and]at bU;obtain⟨rfl,rfl⟩:=bU;have fT:=(fe jR.out i hlt).later (gtr HG2.out HG.out);have Oz:=ł (λ(z:World) (hz:Grow w z)=>show Calls Tryz.prog 46 #[.pointer (some ⟨G,0,none⟩),(l[i]).val] z (bP z S[i])from by rw[pR.out];exact HST.out i hlt z hz);clear pR;generalize S[i]=p at *;generalize l[i]=y at *;obtain⟨yk,yn,ys,yv,yl⟩:=y;obtain⟨ya,yc,rfl,-,-⟩:=fT.at_.form;obtain⟨⟨d0,d1⟩,d2,d3⟩:=fT.four;simp only[ae.val]at Oz;have hbl:kb<wr.heap.size:=World.block_lt_of_cell? wr _ d0;have CW:=ł (heap_alloc_new wr (.cells #[.int .u8 yk,.int .i64 yn,.string ys,.slice ya yl.length yc] 24));clear fT;go_wp2_with fail;refine(Oz.out _ (gtr HG2.out (HG.out.alloc (.cells #[.int .u8 yk,.int .i64 yn,.string ys,.slice ya yl.length yc] 24)))).mono ?_;rintro e w4 ⟨v,rfl,hp,hg⟩;obtain⟨xa,xc,xr,yg,rfl,hr1,hr2⟩:=hp;have sS:=ł (show ay w4 (.agg #[.slice xa p.code.length xc,.slice xr p.refs.length yg]) p from⟨_,_,_,_,rfl,hr1,hr2⟩);have aP:=ł (gtr (HG.out.alloc (.cells #[.int .u8 yk,.int .i64 yn,.string ys,.slice ya yl.length yc] 24)) hg);have Fx:=ł (uI.out.later (gtr ((Mv.refl _ wr).alloc (.cells #[.int .u8 yk,.int .i64 yn,.string ys,.slice ya yl.length yc] 24)) hg));clear hr1 hr2 hg hbl d0 d1 d2 d3 CW Oz;have hx4:=heap_alloc_new w4 (.cells #[.slice xa p.code.length xc,.slice xr p.refs.length yg] 34);obtain⟨x0,x1⟩:=aA hx4;have hlx:=lt_of_block hx4;obtain⟨⟨q0,q1,q2⟩,q3,q4⟩:=bJ (aM.out.later (gtr HG2.out (aP.out.alloc (.cells #[.slice xa p.code.length xc,.slice xr p.refs.length yg] 34)))).blk;have Vt:=lt_of_block (aM.out.later (gtr HG2.out (aP.out.alloc (.cells #[.slice xa p.code.length xc,.slice xr p.refs.length yg] 34)))).blk;obtain⟨hT1,hT2⟩:=uJ.out;have hT3:=jq.out.1;have i1:IntKind.i64.wrap ((aO (S.take i):Int)+(p.code.length:Int))=(aO (S.take i):Int)+(p.code.length:Int):=IntWalk.i64_in _ (by omega);have hgt:decide ((65536:Int)<(aO (S.take i):Int)+(p.code.length:Int))=false:=by simp;omega
   have oN:Grow w4 ((w4.alloc (.cells #[.slice xa p.code.length xc,.slice xr p.refs.length yg] 34)).alloc (.cells #[.slice xa p.code.length xc,.slice xr p.refs.length yg] 34)):=((Mv.refl _ w4).alloc _).alloc _;have hrb:=heap_alloc_new (w4.alloc (.cells #[.slice xa p.code.length xc,.slice xr p.refs.length yg] 34)) (.cells #[.slice xa p.code.length xc,.slice xr p.refs.length yg] 34);rw[World.size_alloc]at hrb;obtain⟨a',c',y,⟨hok,hv,hw⟩,hrow2,bz⟩:=Ic w2.heap.size _ (.slice (some ⟨w4.heap.size+1,0,none⟩) 1 1) _ p _ (Fx.out.later oN) (tu (vs:=[(.slice xa p.code.length xc,.slice xr p.refs.length yg)]) hrb rfl ⟨sS.out.later oN,trivial⟩) (gtr aP.out oN).size (by rw[hrl];have:=jq.out.2.2;omega);have zh:=ł hrow2;have Ei:=ł ((gtr aP.out oN).trans bz (λx e => .inr ((Fx.out.later oN).lt x e).1));simp only[hrl]at hok hv hw zh;clear oN hrb hrow2 bz;go_wp2_with fail;exact⟨⟨i+1,by rw[hT1];simp,by simp,by omega,by rw[uR.out];exact zh.out,Ei.out⟩,by simp[intOf] <;> omega⟩
 · have hie:i=l.length:=by omega
   subst hie;have dY:=ł (show iG wr (.slice ba l.length bc) S from by
    have:=uI.out.at;rw[List.take_of_length_le (by have:=EJ.out;omega)]at this;exact this)
   have HJ:=ł (yE _ S wr dY.out (by have:=jq.out;omega) (by have:=jq.out;omega) (by have:=jq.out;have:=EJ.out;omega));go_wp2_with fail;refine HJ.out.mono ?_;rintro e w5 ⟨v,rfl,hp,hg⟩;obtain⟨ja,jc,jr,dh,rfl,hr1,hr2⟩:=hp.at;have hrb:=ai aZ.out (gtr HG.out hg);obtain⟨hs1,hs2⟩:=set2 hrb (.slice ja (aL S).code.length jc) (.slice jr (aL S).refs.length dh);have bB:=ł (ay.box (show ay w5 (.agg #[.slice ja (aL S).code.length jc,.slice jr (aL S).refs.length dh]) (aL S)from⟨_,_,_,_,rfl,hr1,hr2⟩) hrb hs2);have aJ:=ł ((gtr HG2.out (gtr HG.out hg)).trans hs2 (λb e => .inr (by omega)));have HB:=ł hs1;obtain⟨c0,c1⟩:=aA hrb;have hlr:=lt_of_block hrb;have zt:=aG hrb;clear hs1 hs2 hp hr1 hr2 hg hrb;go_wp2_with fail;obtain⟨t0,t1⟩:=aA HB.out;exact bodyPost_ret (v := .agg #[.slice ja (aL S).code.length jc,.slice jr (aL S).refs.length dh]) (by simp[results,Tryz.results22,go_sem,t0,t1]) rfl ⟨_,rfl,bB.out,aJ.out⟩
end Go.Proofs.YtnobahchcongnaaGreatDoor
