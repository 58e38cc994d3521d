import Derived.Test.YtnobahchcongnaaGreatDoorQ35
set_option linter.unusedSimpArgs false
set_option linter.unusedVariables false
set_option maxRecDepth 100000
set_option maxHeartbeats 25600000
namespace Go.Proofs.YtnobahchcongnaaGreatDoor
open Go.RowKit Go.Instr
attribute [local go_sem ↓] mY
theorem NA (hof:uq) (w:World) (G:Nat) (sv pv:Value) (f:az) (procs:List aj) (hg:gm w G sv pv f procs) (k n:Int) (s:ByteArray) (kv:Value) (l:List ae) (hx:aV w (.mk k n s kv l))
 (hlen:l.length=((eP procs s).getD fZ).params.length) (hok:Jw f ((eP procs s).getD fZ).params) (hsz:aP (iL f (ae.ts l) (frameC ((eP procs s).getD fZ).params).slots)≤60000∧bS (iL f (ae.ts l) (frameC ((eP procs s).getD fZ).params).slots)≤60000∧(iL f (ae.ts l) (frameC ((eP procs s).getD fZ).params).slots).length≤60000) :
 Calls Tryz.prog 87 #[.pointer (some ⟨G,0,none⟩),ae.val (.mk k n s kv l)] w (bN w (qO f (procs.map aj.d) (if k=51 then 31 else 30) s (ae.ts l))):=by
 have Lf:=ł (fun (y:World) (hy:Grow w y)=>WS hof y G sv pv f procs (hg.later hy) k n s kv l (hx.later hy) hlen hok (by have:=hsz.2.2;omega));have nK:=ł (show qO f (procs.map aj.d) (if k=51 then 31 else 30) s (ae.ts l)=aK [aK (iL f (ae.ts l) (frameC ((eP procs s).getD fZ).params).slots),ah ([⟨28,f.cells,f.stacks,0,0⟩]:List Ins),(⟨[⟨if k=51 then 31 else 30,0,0,0,0⟩],[⟨0,s⟩]⟩:aC),ah ([⟨29,f.cells,f.stacks,0,0⟩]:List Ins),aK (iL f (ae.ts l) (frameC ((eP procs s).getD fZ).params).slots).reverse] from by
  unfold qO;rw [Bc])
 obtain ⟨fa,fc,rfl,hfc,hfl⟩:=hg.fr.row.form;obtain ⟨pa,pc,rfl,-,-⟩:=hg.pr.row.form;obtain ⟨ka,kc,rfl,hkc,hkl⟩:=hx.form;generalize (iL f (ae.ts l) (frameC ((eP procs s).getD fZ).params).slots)=A at *;have iU:=ł hsz;have aA:=ł hg;obtain ⟨aL,bC,HG2⟩:=a2 w (.cells #[.int .u8 k,.int .i64 n,.string s,.slice ka l.length kc] 24) (.cells #[.slice none 0 0,.slice none 0 0] 34);have zF:=ł (show aP A≤200000∧bS A≤200000∧A.length≤200000 from by have:=iU.out;omega);have CV:=ł (show aP A.reverse≤200000∧bS A.reverse≤200000∧A.reverse.length≤200000 from by
  have:=iU.out;unfold aP bS at *;rw [List.map_reverse,List.sum_reverse,List.map_reverse,List.sum_reverse,List.length_reverse];omega)
 simp only [ae.val] at Lf ⊢;generalize qO f (procs.map aj.d) (if k=51 then 31 else 30) s (ae.ts l)=CC at *;have hcc:=nK.out;subst hcc;clear hg hx hlen hok hsz nK
 go_enter Tryz.func87,Tryz.ntmps87
 obtain ⟨⟨n0,n1⟩,n2,n3⟩:=aF aL.out;have hln:=lt_of_block aL.out
 go_upto_if 12 with fail
 generalize ((w.alloc (.cells #[.int .u8 k,.int .i64 n,.string s,.slice ka l.length kc] 24)).alloc (.cells #[.slice none 0 0,.slice none 0 0] 34))=w2 at *;generalize hop:(if k=51 then 31 else 30:Int)=op at *
 go_cut [5] (fun v wc=>v = .int .u8 op∧wc=w2)
 case first =>
  by_cases hk:k=51
  · subst hk;have ho:op=31:=by rw [← hop];rfl
    go_wp2_with fail
    go_meet
    case rel=>first | exact ⟨rfl,rfl⟩ | exact ⟨by rw [ho],rfl⟩
  · have e1:(k == 51)=false:=by simpa using hk
    have ho:op=30:=by rw [← hop,if_neg hk]
    go_wp2_with fail
    go_meet
    case rel=>first | exact ⟨rfl,rfl⟩ | exact ⟨by rw [ho],rfl⟩
 case rest =>
  obtain ⟨rfl,rfl⟩:=hcut;clear hop;go_wp2_with fail;refine (Lf.out _ HG2.out).mono ?_;rintro e w3 ⟨tv,rfl,hps,hg⟩;obtain ⟨ta,tc,rfl⟩:=hps.form;have wI:=ł hps.at;have aG:=ł (gtr HG2.out hg);have vW:=ł (ai aL.out hg);have HR3:=ł (ai bC.out hg);obtain ⟨-,-,-,acE,acF⟩:=hps.at.form;have HAL:=ł (show A.length≤60000 from iU.out.2.2);have hal:A.length≤60000:=iU.out.2.2;have i0:IntKind.i64.wrap ((A.length:Int) - 1)=(A.length:Int) - 1:=IntWalk.i64_in _ (by omega);clear hps hg n0 n1 n2 n3 hln aL bC Lf;go_wp2_with fail
  go_loopw [7,8] (fun bv t wr=>∃ m:Nat,t = .int .i64 ((A.length:Int) - 1 - m)∧m≤A.length∧fI w3.heap.size wr bv (A.reverse.take m)∧Grow w3 wr) (fun _ t _=>(intOf t+1).toNat)
  case atStart=>exact ⟨0,by simp,Nat.zero_le _,fI.nil _ _,Mv.refl _ _⟩
  obtain ⟨m,rfl,hm,hps,hg⟩:=hrel;have pX:=ł hps;have HG:=ł hg;have hrl:(A.reverse.take m).length=m:=by simp;omega
  obtain ⟨ba,bc,hbv⟩:=hps.form;rw [hrl] at hbv;subst hbv;by_cases hlt:m<A.length
  · obtain ⟨j,hj⟩:∃ j:Nat,(A.length:Int) - 1 - m=j:=⟨A.length - 1 - m,by omega⟩;have hjl:j<A.length:=by omega
    obtain ⟨vs,hv1,hv2,hv3⟩:=wI.out.later hg;have Lg:j<vs.length:=by omega
    obtain ⟨b,off,cap',e,_,hcc⟩:=hv2.at Lg;simp only [Value.slice.injEq,true_and] at e;have hpj:=hv3 j Lg hjl;have c0:=hcc 0 _ rfl;have c1:=hcc 1 _ rfl;have AY:=ł (show A.reverse.take (m+1)=A.reverse.take m ++ [A[j]] from by
     rw [List.take_succ_eq_append_getElem (by simp;omega),List.getElem_reverse];have:A.length - 1 - m=j:=by omega
     simp only [this])
    have hlm:m+1≤1000000:=by omega
    generalize A[j]=p at *;generalize vs[j]=v at *;obtain ⟨v1,v2⟩:=v;obtain ⟨xa,xc,ya,yc,hv,hr1,hr2⟩:=hpj;simp only [Value.agg.injEq,Array.mk.injEq,List.cons.injEq,and_true] at hv;obtain ⟨rfl,rfl⟩:=hv;obtain ⟨rfl,-,rfl⟩:=e;simp only [Nat.add_zero] at c0 c1;have hbl:b<wr.heap.size:=World.block_lt_of_cell? wr _ c0;have hpx:ay wr (.agg #[.slice xa p.code.length xc,.slice ya p.refs.length yc]) p:=⟨_,_,_,_,rfl,hr1,hr2⟩;have hgx:Grow wr (wr.alloc (.cells #[.slice xa p.code.length xc,.slice ya p.refs.length yc] 34)):=(Mv.refl _ wr).alloc _;obtain ⟨a',c',y,⟨hok,hv,hw⟩,hrow2,bE⟩:=E8 w3.heap.size _ (.slice (some ⟨wr.heap.size,0,none⟩) 1 1) _ p _ (hps.later hgx) (qB (vs:=[(.slice xa p.code.length xc,.slice ya p.refs.length yc)]) (heap_alloc_new wr (.cells #[.slice xa p.code.length xc,.slice ya p.refs.length yc] 34)) rfl ⟨hpx.later hgx,trivial⟩) (hg.trans hgx (fun _ e=>e.elim)).size (by rw [hrl];exact hlm);have xA:=ł hrow2;have BP:=ł ((gtr hg hgx).trans bE (fun x e => .inr (hps.lt x e).1));simp only [hrl] at hok hv hw xA;have i1:IntKind.i64.wrap ((j:Int) - 1)=(j:Int) - 1:=IntWalk.i64_in _ (by omega);clear hcc hps hg hrow2 bE hpx hgx hv1 hv2 hv3 hr1 hr2 Lg;rw [hj];go_wp2_with fail;exact ⟨⟨m+1,by simp;omega,by omega,by rw [AY.out];exact xA.out,BP.out⟩,by simp [intOf] <;> omega⟩
  · have hme:m=A.length:=by omega
    subst hme;have dh:=ł (show gG wr (.slice ba A.length bc) A.reverse from by
     have:=hps.at;rw [List.take_of_length_le (by simp)] at this;exact this)
    clear hps hg hrl i0 hal pX;go_upto_region 10 with fail;refine fJ 75 [some 30,some 31,some 32,some 33,some 34,some 9,none] [[],[],[0,1],[2],[3],[],[5,4]] [1,3] [.c (.int .u8 op),.p (fun v y=>∃ g,v = .slice (some ⟨g,0,none⟩) 1 1∧y.heap[g]? = some (.cells #[.int .i64 0] 3 (0,0))),.c (.agg #[.int .u8 op,.int .i64 0,.int .i64 0,.int .i64 0,.int .i64 0]),.p (fun v y=>∃ g,v = .slice (some ⟨g,0,none⟩) 1 1∧ax 5 Ins.cells y (.slice (some ⟨g,0,none⟩) 1 1) ([⟨op,0,0,0,0⟩]:List Ins)),.p (fun v y=>ay y v (ah ([⟨op,0,0,0,0⟩]:List Ins))),.al 6 4 #[.slice none 0 0,.slice none 0 0] 34,.st 5] ⟨sH,sR,sP,trivial⟩ (dJ rfl) ?steps ?done
    case steps =>
     refine ⟨?s0,?s1,?s2,?s3,?s4,?s5,?s6,trivial⟩
     case s0 =>
      refine oo (fun vs x hP => ?_);simp only [zS];go_simp;exact gc
     case s1 =>
      refine oo (fun vs x hP => ?_);simp only [zS];go_simp;exact gl ⟨_,rfl,heap_alloc_new x _⟩
     case s2 =>
      refine nD (fun vs x hG hP => ?_);obtain ⟨g1,h1,b1⟩:=pq hP 1;have HC:=ł (uR op (0) g1 _ x b1);simp only [zS,h1];go_simp;refine (HC.out).mono ?_;rintro e y ⟨rfl,hg⟩;exact ⟨_,rfl,bz hg rfl⟩
     case s3 =>
      refine oo (fun vs x hP => ?_);simp only [zS];go_simp;exact gl ⟨_,rfl,ax.bH (f:=Ins.cells) (l:=([⟨op,0,0,0,0⟩]:List Ins)) (fun _=>rfl) (heap_alloc_new x _) rfl (by simp)⟩
     case s4 =>
      refine nD (fun vs x hG hP => ?_);obtain ⟨g3,h3,b3⟩:=pq hP 3;have HC:=ł (gQ _ _ x b3);simp only [zS,h3];go_simp;refine (HC.out).mono ?_;rintro e y ⟨v,rfl,hp,hg⟩;exact ⟨_,rfl,aY hg hp⟩
     case s5 =>
      refine oz (fun vs x => ?_);simp only [zS];go_simp;exact ⟨rfl,rfl⟩
     case s6 =>
      refine os (fun vs x g hg hb hv => ?_);obtain ⟨jy,jA,mg,mh,h4,c4,f4⟩:=hv;obtain ⟨c0,c1⟩:=aB hb;have zt:=aJ hb;simp only [zS,hg,h4];go_simp;exact set2 hb _ _
    case done =>
    intro vs w5 hE;have hG:=hE.jI;obtain ⟨jy,jA,mg,mh,h4,c4,f4⟩:=hE.val 4;obtain ⟨g5,a5,l5,m5,b5⟩:=hE.box 5;simp only [zS,h4] at b5;simp only [zS,Nat.reduceAdd,h4,a5];have jw:=ł b5;simp only [bI] at jw;have aS:=ł (gtr aG.out (gtr HG.out hG));have bV:=ł hG;have uF:=ł (wI.out.later (gtr HG.out hG));have HY5:=ł (dh.out.later hG);have GD:=ł (show ax 5 Ins.cells w5 (.slice jy 1 jA) [⟨op,0,0,0,0⟩] from c4);have hg5:wr.heap.size≤g5:=l5;have ZY:w3.heap.size≤g5:=Nat.le_trans HG.out.size hg5;clear hE hG b5 c4 f4;have dA:=ł (heap_alloc_new w5 (.cells #[.int .i64 0,.string s] 78));have acG:=ł (aT jw.out (.cells #[.int .i64 0,.string s] 78));have hne:w5.heap.size≠g5:=by have:=lt_of_block jw.out;omega
    obtain ⟨hs1,hs2⟩:=OT jw.out (.slice (some ⟨w5.heap.size,0,none⟩) 1 1);have hsz5:(w5.setCell ⟨g5,1,none⟩ (.slice (some ⟨w5.heap.size,0,none⟩) 1 1)).heap.size=w5.heap.size:=by simp
    have hga:Grow (w5.setCell ⟨g5,1,none⟩ (.slice (some ⟨w5.heap.size,0,none⟩) 1 1)) ((w5.setCell ⟨g5,1,none⟩ (.slice (some ⟨w5.heap.size,0,none⟩) 1 1)).alloc (.cells #[.int .i64 0,.string s] 78)):=(Mv.refl _ _).alloc _;have hrf:=heap_alloc_new (w5.setCell ⟨g5,1,none⟩ (.slice (some ⟨w5.heap.size,0,none⟩) 1 1)) (.cells #[.int .i64 0,.string s] 78);rw [hsz5] at hrf;have gI:=ł (show ((w5.setCell ⟨g5,1,none⟩ (.slice (some ⟨w5.heap.size,0,none⟩) 1 1)).alloc (.cells #[.int .i64 0,.string s] 78)).heap[g5]? = some (.cells #[.slice jy 1 jA,.slice (some ⟨w5.heap.size,0,none⟩) 1 1] 34 (0,0)) from aT hs1 _);have bP:=ł (show Grow w ((w5.setCell ⟨g5,1,none⟩ (.slice (some ⟨w5.heap.size,0,none⟩) 1 1)).alloc (.cells #[.int .i64 0,.string s] 78)) from gtr (aS.out.trans hs2 (fun b e => .inr (by have:=aG.out.size;omega))) hga);have Gp:=ł (show gG ((w5.setCell ⟨g5,1,none⟩ (.slice (some ⟨w5.heap.size,0,none⟩) 1 1)).alloc (.cells #[.int .i64 0,.string s] 78)) (.slice ta A.length tc) A from wI.out.later (gtr ((gtr HG.out bV.out).trans hs2 (fun b e => .inr (by omega))) hga));have HY6:=ł (show gG ((w5.setCell ⟨g5,1,none⟩ (.slice (some ⟨w5.heap.size,0,none⟩) 1 1)).alloc (.cells #[.int .i64 0,.string s] 78)) (.slice ba A.length bc) A.reverse from dh.out.later (gtr (bV.out.trans hs2 (fun b e => .inr (by omega))) hga));have zG:=ł (show ay ((w5.setCell ⟨g5,1,none⟩ (.slice (some ⟨w5.heap.size,0,none⟩) 1 1)).alloc (.cells #[.int .i64 0,.string s] 78)) (.agg #[.slice jy 1 jA,.slice (some ⟨w5.heap.size,0,none⟩) 1 1]) (⟨[⟨op,0,0,0,0⟩],[⟨0,s⟩]⟩:aC) from
     ⟨jy,jA,some ⟨w5.heap.size,0,none⟩,1,rfl,(ER (a:=(jy,1,jA)) (b:=(mg,0,mh)) GD.out (fun u=>⟨_,rfl,by simp⟩) jw.out hs2).later hga,
      ax.bH (f:=bD.cells) (l:=[(⟨0,s⟩:bD)]) (fun _=>rfl) hrf rfl (by simp)⟩)
    have HR6:=ł (show ((w5.setCell ⟨g5,1,none⟩ (.slice (some ⟨w5.heap.size,0,none⟩) 1 1)).alloc (.cells #[.int .i64 0,.string s] 78)).heap[w.heap.size+1]? = some (.cells #[.slice none 0 0,.slice none 0 0] 34 (0,0)) from ai HR3.out (gtr ((gtr HG.out bV.out).trans hs2 (fun b e => .inr (by omega))) hga));have Tt:=ł (ai vW.out (gtr HG.out bV.out));obtain ⟨b0,b1⟩:=aB jw.out;obtain ⟨⟨n0,n1⟩,n2,n3⟩:=aF Tt.out;have hln:=lt_of_block Tt.out;have hlc:=lt_of_block jw.out;have zt:=aJ jw.out;clear hs1 hs2 hga hrf hsz5;go_upto_region 12 with fail;generalize ((w5.setCell ⟨g5,1,none⟩ (.slice (some ⟨w5.heap.size,0,none⟩) 1 1)).alloc (.cells #[.int .i64 0,.string s] 78))=w6 at *;generalize w5.heap.size=rg at *;clear b0 b1 n0 n1 n2 n3 hln hlc zt hne hg5 ZY;have yI:=ł HR6.out;have gM:=ł (show aP [aK A,ah ([⟨28,f.cells,f.stacks,0,0⟩]:List Ins),(⟨[⟨op,0,0,0,0⟩],[⟨0,s⟩]⟩:aC),ah ([⟨29,f.cells,f.stacks,0,0⟩]:List Ins),aK A.reverse]≤200000∧bS [aK A,ah ([⟨28,f.cells,f.stacks,0,0⟩]:List Ins),(⟨[⟨op,0,0,0,0⟩],[⟨0,s⟩]⟩:aC),ah ([⟨29,f.cells,f.stacks,0,0⟩]:List Ins),aK A.reverse]≤200000 from by
     have h1:=dY A;have h2:=dY A.reverse;have h3:=iU.out;have h4:aP A.reverse=aP A∧bS A.reverse=bS A:=by
      unfold aP bS;rw [List.map_reverse,List.sum_reverse,List.map_reverse,List.sum_reverse];exact ⟨rfl,rfl⟩
     simp only [aP,bS,List.map_cons,List.map_nil,List.sum_cons,List.sum_nil] at *;simp only [ah,List.length_cons,List.length_nil] at *
     omega)
    have fA:=ł (fun (y:World) (hy:Grow w6 y)=>And.intro (aA.out.later (gtr bP.out hy)) (And.intro (Gp.out.later hy) (And.intro (HY6.out.later hy) (And.intro (ai gI.out hy) (zG.out.later hy)))));refine wg 75 [some 40,some 41,some 42,some 43,some 44,some 45,some 46,some 47,some 48,some 49,some 50,some 51,some 52,some 53,some 54,some 55,some 56,some 57,some 58,some 59,some 60,some 61,some 62,some 63,some 64,some 65,some 66,some 67,some 68,some 69,some 70,some 71,some 72,some 73,some 74,none] [[],[0],[],[2],[3],[4],[5],[],[7],[8],[9],[10],[6,11],[12],[13],[14],[],[],[17],[18],[19],[20],[],[22],[23],[24],[25],[21,26],[27],[28],[29],[],[31],[1,15,16,30,32],[33],[34]] [12,14,27,29,33] [.c (.slice ta A.length tc),.p (fun v y=>ay y v (aK A)),.c (.pointer (some ⟨G,0,none⟩)),.c (.pointer (some ⟨G,0,none⟩)),.c (.pointer (some ⟨G,0,none⟩)),.c (.pointer (some ⟨G,1,none⟩)),.c (.int .i64 f.cells),.c (.pointer (some ⟨G,0,none⟩)),.c (.pointer (some ⟨G,0,none⟩)),.c (.pointer (some ⟨G,0,none⟩)),.c (.pointer (some ⟨G,2,none⟩)),.c (.int .i64 f.stacks),.p (fun v y=>∃ g,v = .slice (some ⟨g,0,none⟩) 2 2∧y.heap[g]? = some (.cells #[.int .i64 f.cells,.int .i64 f.stacks] 3 (0,0))),.c (.agg #[.int .u8 28,.int .i64 f.cells,.int .i64 f.stacks,.int .i64 0,.int .i64 0]),.p (fun v y=>∃ g,v = .slice (some ⟨g,0,none⟩) 1 1∧ax 5 Ins.cells y (.slice (some ⟨g,0,none⟩) 1 1) ([⟨28,f.cells,f.stacks,0,0⟩]:List Ins)),.p (fun v y=>ay y v (ah ([⟨28,f.cells,f.stacks,0,0⟩]:List Ins))),.c (.agg #[.slice jy 1 jA,.slice (some ⟨rg,0,none⟩) 1 1]),.c (.pointer (some ⟨G,0,none⟩)),.c (.pointer (some ⟨G,0,none⟩)),.c (.pointer (some ⟨G,0,none⟩)),.c (.pointer (some ⟨G,1,none⟩)),.c (.int .i64 f.cells),.c (.pointer (some ⟨G,0,none⟩)),.c (.pointer (some ⟨G,0,none⟩)),.c (.pointer (some ⟨G,0,none⟩)),.c (.pointer (some ⟨G,2,none⟩)),.c (.int .i64 f.stacks),.p (fun v y=>∃ g,v = .slice (some ⟨g,0,none⟩) 2 2∧y.heap[g]? = some (.cells #[.int .i64 f.cells,.int .i64 f.stacks] 3 (0,0))),.c (.agg #[.int .u8 29,.int .i64 f.cells,.int .i64 f.stacks,.int .i64 0,.int .i64 0]),.p (fun v y=>∃ g,v = .slice (some ⟨g,0,none⟩) 1 1∧ax 5 Ins.cells y (.slice (some ⟨g,0,none⟩) 1 1) ([⟨29,f.cells,f.stacks,0,0⟩]:List Ins)),.p (fun v y=>ay y v (ah ([⟨29,f.cells,f.stacks,0,0⟩]:List Ins))),.c (.slice ba A.length bc),.p (fun v y=>ay y v (aK A.reverse)),.p (fun v y=>∃ g,v = .slice (some ⟨g,0,none⟩) 5 5∧gG y (.slice (some ⟨g,0,none⟩) 5 5) [aK A,ah ([⟨28,f.cells,f.stacks,0,0⟩]:List Ins),(⟨[⟨op,0,0,0,0⟩],[⟨0,s⟩]⟩:aC),ah ([⟨29,f.cells,f.stacks,0,0⟩]:List Ins),aK A.reverse]),.p (fun v y=>ay y v (aK [aK A,ah ([⟨28,f.cells,f.stacks,0,0⟩]:List Ins),(⟨[⟨op,0,0,0,0⟩],[⟨0,s⟩]⟩:aC),ah ([⟨29,f.cells,f.stacks,0,0⟩]:List Ins),aK A.reverse])),.rs (w.heap.size+1) 34 #[.slice none 0 0,.slice none 0 0] 34] (by exact ⟨sP,sH,sR,sP,sH,sR,sP,sP,sQ,sP,trivial⟩) (ik (n:=35) rfl rfl (yI.out)) ?steps ?done
    case steps =>
     refine ⟨?s0,?s1,?s2,?s3,?s4,?s5,?s6,?s7,?s8,?s9,?s10,?s11,?s12,?s13,?s14,?s15,?s16,?s17,?s18,?s19,?s20,?s21,?s22,?s23,?s24,?s25,?s26,?s27,?s28,?s29,?s30,?s31,?s32,?s33,?s34,?s35,trivial⟩
     case s0 | s2 | s4 | s5 | s7 | s9 | s10 | s17 | s19 | s20 | s22 | s24 | s25 | s31 =>
      refine oo (fun vs x hP => ?_);simp only [zS];go_simp;exact gc
     case s1 =>
      refine ok fA (fun vs x hG HX hP => ?_);have HC:=ł (uT _ A x (HX.out.2.1) zF.out.1 zF.out.2.1 zF.out.2.2);simp only [zS];go_simp;refine (HC.out).mono ?_;rintro e y ⟨v,rfl,hp,hg⟩;exact ⟨_,rfl,aY hg hp.at⟩
     case s3 | s6 | s8 | s11 | s18 | s21 | s23 | s26 =>
      refine ok fA (fun vs x hG HX hP => ?_);obtain ⟨⟨q0,q1,q2⟩,q3,q4⟩:=bR HX.out.1.blk;simp only [zS];go_simp;exact gc
     case s12 | s27 =>
      refine oo (fun vs x hP => ?_);simp only [zS];go_simp;exact gl ⟨_,rfl,heap_alloc_new x _⟩
     case s13 =>
      refine ok fA (fun vs x hG HX hP => ?_);obtain ⟨g12,h12,b12⟩:=pq hP 12;have HC:=ł (fO 28 (f.cells) (f.stacks) g12 _ x b12);simp only [zS,h12];go_simp;refine (HC.out).mono ?_;rintro e y ⟨rfl,hg⟩;exact ⟨_,rfl,bz hg rfl⟩
     case s14 =>
      refine oo (fun vs x hP => ?_);simp only [zS];go_simp;exact gl ⟨_,rfl,ax.bH (f:=Ins.cells) (l:=([⟨28,f.cells,f.stacks,0,0⟩]:List Ins)) (fun _=>rfl) (heap_alloc_new x _) rfl (by simp)⟩
     case s15 =>
      refine ok fA (fun vs x hG HX hP => ?_);obtain ⟨g14,kF,b14⟩:=pq hP 14;have HC:=ł (gQ _ _ x b14);simp only [zS,kF];go_simp;refine (HC.out).mono ?_;rintro e y ⟨v,rfl,hp,hg⟩;exact ⟨_,rfl,aY hg hp⟩
     case s16 =>
      refine ok fA (fun vs x hG HX hP => ?_);obtain ⟨i0,i1⟩:=aB HX.out.2.2.2.1;simp only [zS];go_simp;exact gc
     case s28 =>
      refine ok fA (fun vs x hG HX hP => ?_);obtain ⟨Di,h27,tq⟩:=pq hP 27;have HC:=ł (fO 29 (f.cells) (f.stacks) Di _ x tq);simp only [zS,h27];go_simp;refine (HC.out).mono ?_;rintro e y ⟨rfl,hg⟩;exact ⟨_,rfl,bz hg rfl⟩
     case s29 =>
      refine oo (fun vs x hP => ?_);simp only [zS];go_simp;exact gl ⟨_,rfl,ax.bH (f:=Ins.cells) (l:=([⟨29,f.cells,f.stacks,0,0⟩]:List Ins)) (fun _=>rfl) (heap_alloc_new x _) rfl (by simp)⟩
     case s30 =>
      refine ok fA (fun vs x hG HX hP => ?_);obtain ⟨g29,zx,b29⟩:=pq hP 29;have HC:=ł (gQ _ _ x b29);simp only [zS,zx];go_simp;refine (HC.out).mono ?_;rintro e y ⟨v,rfl,hp,hg⟩;exact ⟨_,rfl,aY hg hp⟩
     case s32 =>
      refine ok fA (fun vs x hG HX hP => ?_);have HC:=ł (uT _ A.reverse x (HX.out.2.2.1) CV.out.1 CV.out.2.1 CV.out.2.2);simp only [zS];go_simp;refine (HC.out).mono ?_;rintro e y ⟨v,rfl,hp,hg⟩;exact ⟨_,rfl,aY hg hp.at⟩
     case s33 =>
      refine ok fA (fun vs x hG HX hP => ?_);have p1:=pq hP 1;have GH:=p1;obtain ⟨Tu,Tv,Tw,Tx,h1,c1,f1⟩:=p1;rw [h1] at GH;have wH:=pq hP 15;have FR:=wH;obtain ⟨Am,Ao,QE,QF,pW,c15,f15⟩:=wH;rw [pW] at FR;have p30:=pq hP 30;have FT:=p30;obtain ⟨QG,QH,ra30,rc30,zy,c30,f30⟩:=p30;rw [zy] at FT;have p32:=pq hP 32;have FU:=p32;obtain ⟨QI,QJ,ra32,rc32,h32,c32,f32⟩:=p32;rw [h32] at FU;simp only [zS,h1,pW,zy,h32];go_simp;exact gl ⟨_,rfl,qB (vs:=[(.slice Tu (aK A).code.length Tv,.slice Tw (aK A).refs.length Tx),(.slice Am (ah ([⟨28,f.cells,f.stacks,0,0⟩]:List Ins)).code.length Ao,.slice QE (ah ([⟨28,f.cells,f.stacks,0,0⟩]:List Ins)).refs.length QF),(.slice jy 1 jA,.slice (some ⟨rg,0,none⟩) 1 1),(.slice QG (ah ([⟨29,f.cells,f.stacks,0,0⟩]:List Ins)).code.length QH,.slice ra30 (ah ([⟨29,f.cells,f.stacks,0,0⟩]:List Ins)).refs.length rc30),(.slice QI (aK A.reverse).code.length QJ,.slice ra32 (aK A.reverse).refs.length rc32)]) (heap_alloc_new x _) rfl ⟨ay.later (GH) ((Mv.refl _ _).alloc _),ay.later (FR) ((Mv.refl _ _).alloc _),ay.later (HX.out.2.2.2.2) ((Mv.refl _ _).alloc _),ay.later (FT) ((Mv.refl _ _).alloc _),ay.later (FU) ((Mv.refl _ _).alloc _),trivial⟩⟩
     case s34 =>
      refine ok fA (fun vs x hG HX hP => ?_);obtain ⟨g33,h33,b33⟩:=pq hP 33;have HC:=ł (uT _ _ x b33 gM.out.1 gM.out.2 (by simp));simp only [zS,h33];go_simp;refine (HC.out).mono ?_;rintro e y ⟨v,rfl,hp,hg⟩;exact ⟨_,rfl,aY hg hp.at⟩
     case s35 =>
      refine il (fun vs x hb hv => ?_);obtain ⟨FV,FW,ra34,rc34,GJ,c34,f34⟩:=hv;obtain ⟨c0,c1⟩:=aB hb;have zt:=aJ hb;simp only [zS,GJ];go_simp;exact set2 hb _ _
    case done =>
    intro vs w7 hE;have p1:=hE.val 1;have GH:=p1;obtain ⟨Tu,Tv,Tw,Tx,h1,c1,f1⟩:=p1;rw [h1] at GH;have wH:=hE.val 15;have FR:=wH;obtain ⟨Am,Ao,QE,QF,pW,c15,f15⟩:=wH;rw [pW] at FR;have p30:=hE.val 30;have FT:=p30;obtain ⟨QG,QH,ra30,rc30,zy,c30,f30⟩:=p30;rw [zy] at FT;have p32:=hE.val 32;have FU:=p32;obtain ⟨QI,QJ,ra32,rc32,h32,c32,f32⟩:=p32;rw [h32] at FU;obtain ⟨FV,FW,ra34,rc34,GJ,c34,f34⟩:=hE.val 34;have Lh:=hE.res 35;simp only [zS,GJ] at Lh;simp only [zS,Nat.reduceAdd,h1,pW,zy,h32,GJ];have HM:=ł (hE.last 35);have aM:=ł (show Grow w w7 from Mv.trans bP.out HM.out (fun b e => .inr (by omega)));have bu:=ł (show ay w7 (.agg #[.slice FV (aK [aK A,ah ([⟨28,f.cells,f.stacks,0,0⟩]:List Ins),(⟨[⟨op,0,0,0,0⟩],[⟨0,s⟩]⟩:aC),ah ([⟨29,f.cells,f.stacks,0,0⟩]:List Ins),aK A.reverse]).code.length FW,.slice ra34 (aK [aK A,ah ([⟨28,f.cells,f.stacks,0,0⟩]:List Ins),(⟨[⟨op,0,0,0,0⟩],[⟨0,s⟩]⟩:aC),ah ([⟨29,f.cells,f.stacks,0,0⟩]:List Ins),aK A.reverse]).refs.length rc34]) (aK [aK A,ah ([⟨28,f.cells,f.stacks,0,0⟩]:List Ins),(⟨[⟨op,0,0,0,0⟩],[⟨0,s⟩]⟩:aC),ah ([⟨29,f.cells,f.stacks,0,0⟩]:List Ins),aK A.reverse]) from ⟨FV,FW,ra34,rc34,rfl,c34,f34⟩);have HB:=ł Lh;clear hE Lh HM c34 f34;simp only [bI] at HB;go_wp2_with fail;obtain ⟨t0,t1⟩:=aB HB.out;exact bodyPost_ret (v := .agg #[.slice FV (aK [aK A,ah ([⟨28,f.cells,f.stacks,0,0⟩]:List Ins),(⟨[⟨op,0,0,0,0⟩],[⟨0,s⟩]⟩:aC),ah ([⟨29,f.cells,f.stacks,0,0⟩]:List Ins),aK A.reverse]).code.length FW,.slice ra34 (aK [aK A,ah ([⟨28,f.cells,f.stacks,0,0⟩]:List Ins),(⟨[⟨op,0,0,0,0⟩],[⟨0,s⟩]⟩:aC),ah ([⟨29,f.cells,f.stacks,0,0⟩]:List Ins),aK A.reverse]).refs.length rc34]) (by simp [results,Tryz.results87,go_sem,t0,t1]) rfl ⟨_,rfl,bu.out,aM.out⟩
attribute [local go_sem ↓] mY
theorem MB (ps:List aC) (i:Nat) (hi:i<ps.length):aP (ps.take (i+1))=aP (ps.take i)+ps[i].code.length∧aP (ps.take i)+ps[i].code.length≤aP ps:=by
 have h1:aP (ps.take (i+1))=aP (ps.take i)+ps[i].code.length:=by
  rw [List.take_succ_eq_append_getElem hi];simp only [aP,List.map_append,List.sum_append,List.map_cons,List.map_nil,List.sum_cons,List.sum_nil,Nat.add_zero]
 refine ⟨h1,?_⟩;rw [← h1]
 conv=>rhs;rw [← List.take_append_drop (i+1) ps]
 unfold aP;rw [List.map_append,List.sum_append];omega
theorem VR (w:World) (G:Nat) (sv pv:Value) (f:az) (procs:List aj) (hg:gm w G sv pv f procs) (k n:Int) (s:ByteArray) (kv:Value) (l:List ae) (hx:aV w (.mk k n s kv l))
 (hst:∀ i (hi:i<l.length) (z:World),Grow w z→Calls Tryz.prog 46 #[.pointer (some ⟨G,0,none⟩),(l[i]).val] z (bN z (fB f (procs.map aj.d) (l[i]).t)))
 (hsz:aP ((ae.ts l).map (fB f (procs.map aj.d)))≤65536∧bS ((ae.ts l).map (fB f (procs.map aj.d)))≤65536∧l.length≤65536) :
 Calls Tryz.prog 22 #[.pointer (some ⟨G,0,none⟩),ae.val (.mk k n s kv l)] w (bN w (aR f (procs.map aj.d) (ae.t (.mk k n s kv l)))):=by
 obtain ⟨fa,fc,rfl,hfc,hfl⟩:=hg.fr.row.form;obtain ⟨pa,pc,rfl,-,-⟩:=hg.pr.row.form;obtain ⟨ka,kc,rfl,hkc,hkl⟩:=hx.form;have uO:=ł (show aR f (procs.map aj.d) (ae.t (.mk k n s (.slice ka l.length kc) l))=aK ((ae.ts l).map (fB f (procs.map aj.d))) from by
  show aK (o6 f (procs.map aj.d) (ae.ts l))=_
  rw [Bi])
 have Cu:=ł (show ((ae.ts l).map (fB f (procs.map aj.d))).length=l.length from by rw [List.length_map,ae.cZ]);have ZZ:=ł (fun i (hi:i<l.length)=>show ((ae.ts l).map (fB f (procs.map aj.d)))[i]? = some (fB f (procs.map aj.d) (l[i]).t) from by
  rw [List.getElem?_eq_getElem (by have:=Cu.out;omega),List.getElem_map,ae.gK l i hi])
 have HST:=ł hst;have iU:=ł hsz;have aA:=ł hg;have mU:=ł hx;obtain ⟨aL,bC,HG2⟩:=a2 w (.cells #[.int .u8 k,.int .i64 n,.string s,.slice ka l.length kc] 24) (.cells #[.slice none 0 0,.slice none 0 0] 34);generalize aR f (procs.map aj.d) (ae.t (.mk k n s (.slice ka l.length kc) l))=BC at *;have hbc:=uO.out;subst hbc;generalize ((ae.ts l).map (fB f (procs.map aj.d)))=S at *;clear hg hx hst hsz uO;simp only [ae.val]
 go_enter Tryz.func22,Tryz.ntmps22
 obtain ⟨⟨n0,n1⟩,n2,n3⟩:=aF aL.out;have hln:=lt_of_block aL.out;go_wp2_with fail;generalize ((w.alloc (.cells #[.int .u8 k,.int .i64 n,.string s,.slice ka l.length kc] 24)).alloc (.cells #[.slice none 0 0,.slice none 0 0] 34))=w2 at *;clear n0 n1 n2 n3 hln
 go_loopw [5,6,13] (fun rv sz t wr=>∃ i:Nat,sz = .int .i64 (aP (S.take i):Nat)∧t = .int .i64 i∧i≤l.length∧fI w2.heap.size wr rv (S.take i)∧Grow w2 wr) (fun _ _ t _=>l.length - (intOf t).toNat)
 case atStart=>exact ⟨0,rfl,rfl,Nat.zero_le _,fI.nil _ _,Mv.refl _ _⟩
 obtain ⟨i,rfl,rfl,hi,hps,hg⟩:=hrel;have pX:=ł hps;have HG:=ł hg;have hrl:(S.take i).length=i:=by have:=Cu.out;simp;omega
 obtain ⟨ba,bc,hbv⟩:=hps.form;rw [hrl] at hbv;subst hbv;clear hps hg;by_cases hlt:i<l.length
 · have hsi:i<S.length:=by have:=Cu.out;omega
   have sW:=ł (MB S i hsi);have AY:=ł (show S.take (i+1)=S.take i ++ [S[i]] from List.take_succ_eq_append_getElem hsi);have AJ:=ł (show S[i]=_ from Option.some.inj ((List.getElem?_eq_getElem hsi).symm.trans (ZZ.out i hlt)));obtain ⟨kb,ko,yG,cz,-,-⟩:=mU.out.row.2.2.2.1.at (show 0<l.length by omega);simp only [Value.slice.injEq,true_and] at cz;obtain ⟨rfl,rfl⟩:=cz;have iO:=(eY mU.out i hlt).later (gtr HG2.out HG.out);have Li:=ł (fun (z:World) (hz:Grow w z)=>show Calls Tryz.prog 46 #[.pointer (some ⟨G,0,none⟩),(l[i]).val] z (bN z S[i]) from by rw [AJ.out];exact HST.out i hlt z hz);clear AJ;generalize S[i]=p at *;generalize l[i]=y at *;obtain ⟨yk,yn,ys,yv,yl⟩:=y;obtain ⟨ya,yc,rfl,-,-⟩:=iO.at_.form;obtain ⟨⟨d0,d1⟩,d2,d3⟩:=iO.four;simp only [ae.val] at Li;have hbl:kb<wr.heap.size:=World.block_lt_of_cell? wr _ d0;have xP:=ł (heap_alloc_new wr (.cells #[.int .u8 yk,.int .i64 yn,.string ys,.slice ya yl.length yc] 24));clear iO;go_wp2_with fail;refine (Li.out _ (gtr HG2.out (HG.out.alloc (.cells #[.int .u8 yk,.int .i64 yn,.string ys,.slice ya yl.length yc] 24)))).mono ?_;rintro e w4 ⟨v,rfl,hp,hg⟩;obtain ⟨xa,xc,xr,wJ,rfl,hr1,hr2⟩:=hp;have rz:=ł (show ay w4 (.agg #[.slice xa p.code.length xc,.slice xr p.refs.length wJ]) p from ⟨_,_,_,_,rfl,hr1,hr2⟩);have aN:=ł (gtr (HG.out.alloc (.cells #[.int .u8 yk,.int .i64 yn,.string ys,.slice ya yl.length yc] 24)) hg);have Dl:=ł (pX.out.later (gtr ((Mv.refl _ wr).alloc (.cells #[.int .u8 yk,.int .i64 yn,.string ys,.slice ya yl.length yc] 24)) hg));clear hr1 hr2 hg hbl d0 d1 d2 d3 xP Li;have hx4:=heap_alloc_new w4 (.cells #[.slice xa p.code.length xc,.slice xr p.refs.length wJ] 34);obtain ⟨x0,x1⟩:=aB hx4;have hlx:=lt_of_block hx4;obtain ⟨⟨q0,q1,q2⟩,q3,q4⟩:=bR (aA.out.later (gtr HG2.out (aN.out.alloc (.cells #[.slice xa p.code.length xc,.slice xr p.refs.length wJ] 34)))).blk;have SB:=lt_of_block (aA.out.later (gtr HG2.out (aN.out.alloc (.cells #[.slice xa p.code.length xc,.slice xr p.refs.length wJ] 34)))).blk;obtain ⟨hT1,hT2⟩:=sW.out;have hT3:=iU.out.1;have i1:IntKind.i64.wrap ((aP (S.take i):Int)+(p.code.length:Int))=(aP (S.take i):Int)+(p.code.length:Int):=IntWalk.i64_in _ (by omega);have hgt:decide ((65536:Int)<(aP (S.take i):Int)+(p.code.length:Int))=false:=by simp;omega
   have rH:Grow w4 ((w4.alloc (.cells #[.slice xa p.code.length xc,.slice xr p.refs.length wJ] 34)).alloc (.cells #[.slice xa p.code.length xc,.slice xr p.refs.length wJ] 34)):=((Mv.refl _ w4).alloc _).alloc _;have hrb:=heap_alloc_new (w4.alloc (.cells #[.slice xa p.code.length xc,.slice xr p.refs.length wJ] 34)) (.cells #[.slice xa p.code.length xc,.slice xr p.refs.length wJ] 34);rw [World.size_alloc] at hrb;obtain ⟨a',c',y,⟨hok,hv,hw⟩,hrow2,bE⟩:=E8 w2.heap.size _ (.slice (some ⟨w4.heap.size+1,0,none⟩) 1 1) _ p _ (Dl.out.later rH) (qB (vs:=[(.slice xa p.code.length xc,.slice xr p.refs.length wJ)]) hrb rfl ⟨rz.out.later rH,trivial⟩) (gtr aN.out rH).size (by rw [hrl];have:=iU.out.2.2;omega);have xA:=ł hrow2;have BP:=ł ((gtr aN.out rH).trans bE (fun x e => .inr ((Dl.out.later rH).lt x e).1));simp only [hrl] at hok hv hw xA;clear rH hrb hrow2 bE;go_wp2_with fail;exact ⟨⟨i+1,by rw [hT1];simp,by simp,by omega,by rw [AY.out];exact xA.out,BP.out⟩,by simp [intOf] <;> omega⟩
 · have hie:i=l.length:=by omega
   subst hie;have dh:=ł (show gG wr (.slice ba l.length bc) S from by
    have:=pX.out.at;rw [List.take_of_length_le (by have:=Cu.out;omega)] at this;exact this)
   have HJ:=ł (uT _ S wr dh.out (by have:=iU.out;omega) (by have:=iU.out;omega) (by have:=iU.out;have:=Cu.out;omega));go_wp2_with fail;refine HJ.out.mono ?_;rintro e w5 ⟨v,rfl,hp,hg⟩;obtain ⟨ja,jc,jr,bW,rfl,hr1,hr2⟩:=hp.at;have hrb:=ai bC.out (gtr HG.out hg);obtain ⟨hs1,hs2⟩:=set2 hrb (.slice ja (aK S).code.length jc) (.slice jr (aK S).refs.length bW);have bu:=ł (ay.box (show ay w5 (.agg #[.slice ja (aK S).code.length jc,.slice jr (aK S).refs.length bW]) (aK S) from ⟨_,_,_,_,rfl,hr1,hr2⟩) hrb hs2);have aM:=ł ((gtr HG2.out (gtr HG.out hg)).trans hs2 (fun b e => .inr (by omega)));have HB:=ł hs1;obtain ⟨c0,c1⟩:=aB hrb;have hlr:=lt_of_block hrb;have zt:=aJ hrb;clear hs1 hs2 hp hr1 hr2 hg hrb;go_wp2_with fail;obtain ⟨t0,t1⟩:=aB HB.out;exact bodyPost_ret (v := .agg #[.slice ja (aK S).code.length jc,.slice jr (aK S).refs.length bW]) (by simp [results,Tryz.results22,go_sem,t0,t1]) rfl ⟨_,rfl,bu.out,aM.out⟩
end Go.Proofs.YtnobahchcongnaaGreatDoor
