import Derived.Test.YtbpodipdfohikaaGreatK28
set_option linter.unusedSimpArgs false
set_option linter.unusedVariables false
set_option maxRecDepth 100000
set_option maxHeartbeats 25600000
namespace Go.Proofs.YtbpodipdfohikaaGreat
open Go.RowKit Go.Instr
attribute [local go_sem ↓] gD
theorem Ky {t:Tree} (h:iF t=true):dM t=true:=by
 simp only[iF,Bool.and_eq_true]at h;exact h.2
def nM (l:List bC) (j:Nat):List (ByteArray × Int):=((l.take j).map λq=>fF (bO q.body)).flatten
def vK (p:jW):List (ByteArray × Int):=if p.okB && p.faults == 0 then nM p.procs p.procs.length ++ fF (bO p.main)else[]
theorem UM {l:List bC} {j:Nat} (h:j<l.length):nM l (j+1)=nM l j ++ fF (bO l[j].body):=by
 unfold nM
 rw[List.take_succ_eq_append_getElem h,List.map_append,List.flatten_append];simp
theorem MI (t:Tree):(fF (bO t)).length<=bL t:=by
 unfold fF
 refine Nat.le_trans (List.length_filter_le ..) ?_
 rw[List.length_map,GK];exact Nat.le_refl _
theorem jq.len {base:Nat} {W:World} {v:Value} {L:List tO} {R:List (ByteArray × Int)} (h:jq base W v L R):L.length=R.length:=by rw[← h.2.1,List.length_map]
theorem Nk {base b2:Nat} {w:World} {v s:Value} {L L2:List tO} {R R2:List (ByteArray × Int)} (h:jq base w v L R) (h2:jq b2 w s L2 R2) (hb:base<=w.heap.size) (hl:L.length+L2.length<=1000000) :
 ∃ v' L' w2,(nJ Tryz.prog 68 68 v s w/\lW Tryz.prog 68 68 v s w=v'/\appW Tryz.prog 68 68 v s w=w2)/\jq base w2 v' L' (R ++ R2)/\Mv (λb=>v.ownBlock=some b) w w2:=by
 obtain⟨a',c',w2,hap,hrow,hmv,-⟩:=kz Tryz.Nj zN v s L L2 base w h.1 (dW zN h2.1) (λx hx u hu=>by
  obtain⟨a,n,c,he⟩:=h2.2.2 x hx
  simp only[Ah,List.mem_cons,List.not_mem_nil,or_false]at hu
  rcases hu with rfl|rfl|rfl|rfl
  · rfl
  · rw[he];rfl
  · rfl
  · rfl) hb hl
 refine⟨_,L ++ L2,w2,hap,⟨hrow,?_,λr hr => ?_⟩,hmv⟩
 · rw[List.map_append,h.2.1,h2.2.1]
 · rcases List.mem_append.1 hr with hr|hr
   · exact h.2.2 r hr
   · exact h2.2.2 r hr
set_option maxRecDepth 100000 in
set_option maxHeartbeats 12800000 in
theorem XX (p:aB) (w:World) (hp:jm w p):Calls Tryz.prog 32 #[p.val] w λe w'=>∃ v L,e = .returned v/\jq w.heap.size w' v L (vK p.d)/\Grow w w':=by
 have il:=Lib.hid (λz (hz:Grow w z)=>Bj p z (hp.later hz))
 have Df:=Lib.hid (λz (hz:Grow w z)=>GG p z (hp.later hz))
 have ik:=Lib.hid (show vK p.d=if p.d.okB && p.d.faults == 0 then nM p.d.procs p.d.procs.length ++ fF (bO p.d.main)else[]from rfl)
 obtain⟨RS,Dg⟩:∃ RS,RS=vK p.d:=⟨_,rfl⟩
 rw[← Dg]at ik ⊢
 clear Dg
 have JH:=Lib.hid (show p.d.okB=true->(p.d.procs.all bC.okB && iF p.d.main)=true/\p.d.procs.length<=64 from λh=>by
  unfold jW.okB at h
  simp only[Bool.and_eq_true,decide_eq_true_eq]at h ⊢
  exact⟨h.2,h.1.2.1⟩)
 obtain⟨vars,Js,procs,Jt,⟨mk,mn,ms,mv,ml⟩⟩:=p
 obtain⟨⟨va,vc,rfl⟩,⟨pa,pc,rfl⟩,hm⟩:=hp.form
 obtain⟨ma,mc,rfl,-,-⟩:=hm.form
 have vY:=Lib.hid hp
 have hpl:procs.length<=9223372036854775807:=by obtain⟨_,_,_,_,h⟩:=hp.procs.row.form;exact h
 clear hp hm
 rw[show(aB.d ⟨vars,.slice va vars.length vc,procs,.slice pa procs.length pc,.mk mk mn ms (.slice ma ml.length mc) ml⟩).procs=procs.map aN.d from rfl,show(aB.d ⟨vars,.slice va vars.length vc,procs,.slice pa procs.length pc,.mk mk mn ms (.slice ma ml.length mc) ml⟩).main=ae.t (.mk mk mn ms (.slice ma ml.length mc) ml)from rfl]at ik JH
 generalize (aB.d ⟨vars,.slice va vars.length vc,procs,.slice pa procs.length pc,.mk mk mn ms (.slice ma ml.length mc) ml⟩).faults=FA at *
 generalize (aB.d ⟨vars,.slice va vars.length vc,procs,.slice pa procs.length pc,.mk mk mn ms (.slice ma ml.length mc) ml⟩).okB=ok at *
 simp only[aB.val,ae.val]at il Df ⊢
 have aj:=Lib.hid (show Grow w (w.alloc (.cells #[.slice va vars.length vc,.slice pa procs.length pc,.int .u8 mk,.int .i64 mn,.string ms,.slice ma ml.length mc] 42))from(Mv.refl _ w).alloc _)
 have HB1:=Lib.hid (heap_alloc_new w (.cells #[.slice va vars.length vc,.slice pa procs.length pc,.int .u8 mk,.int .i64 mn,.string ms,.slice ma ml.length mc] 42))
 go_enter Tryz.func32,Tryz.ntmps32
 go_upto_region 1 with fail
 generalize (w.alloc (.cells #[.slice va vars.length vc,.slice pa procs.length pc,.int .u8 mk,.int .i64 mn,.string ms,.slice ma ml.length mc] 42))=w1 at *
 obtain⟨⟨x0,x1,x2⟩,x3,x4,x5⟩:=bI HB1.out
 have hxl:=lt_of_block HB1.out
 go_wp2_with fail
 refine(il.out _ aj.out).mono ?_
 rintro e w2 ⟨rfl,hg⟩
 have HG2:=Lib.hid (gtr aj.out hg)
 have HB2:=Lib.hid (ah HB1.out hg)
 clear hg x0 x1 x2 x3 x4 x5 hxl
 have JI:=Lib.hid (λz (hz:Grow w z)=>show jq w.heap.size z (.slice none 0 0) [] []from⟨World.ownsRow_nil _ _ _ _,rfl,by simp⟩)
 cases ok with
 |false =>
  have HR:=Lib.hid (show RS=[]from by rw[ik.out];rfl)
  go_wp2_with fail
  go_ret
  exact⟨_,[],rfl,by rw[HR.out];exact JI.out _ HG2.out,HG2.out⟩
 |true =>
  obtain⟨⟨x0,x1,x2⟩,x3,x4,x5⟩:=bI HB2.out
  have hxl:=lt_of_block HB2.out
  go_wp2_with fail
  refine(Df.out _ HG2.out).mono ?_
  rintro e w3 ⟨fa,fc,rfl,hg⟩
  have aA:=Lib.hid (gtr HG2.out hg)
  have HB3:=Lib.hid (ah HB2.out hg)
  clear hg x0 x1 x2 x3 x4 x5 hxl
  by_cases hfa:FA=0
  case neg =>
   have d1:decide (0<FA)=true:=by simp;omega
   have HR:=Lib.hid (show RS=[]from by rw[ik.out];simp[hfa])
   clear hfa
   go_wp2_with fail
   go_ret
   exact⟨_,[],rfl,by rw[HR.out];exact JI.out _ aA.out,aA.out⟩
  have d1:decide (0<FA)=false:=by simp;omega
  have HR:=Lib.hid (show RS=nM (procs.map aN.d) procs.length ++ fF (bO (ae.t (.mk mk mn ms (.slice ma ml.length mc) ml)))from by rw[ik.out,hfa,List.length_map];rfl)
  have dJ:=JH.out (by trivial)
  simp only[Bool.and_eq_true,List.length_map]at dJ
  have HO:=Lib.hid dJ
  obtain⟨⟨x0,x1,x2⟩,x3,x4,x5⟩:=bI HB3.out
  have hxl:=lt_of_block HB3.out
  clear hfa ik JH dJ
  go_wp2_with fail
  clear x0 x1 x2 x3 x4 x5 hxl
  go_loopw [3,18] (λlv t wr=>∃ (j:Nat) (L:List tO),t = .int .i64 j/\j<=procs.length/\Grow w wr/\jq w.heap.size wr lv L (nM (procs.map aN.d) j)/\L.length<=2000 * j/\wr.heap[w.heap.size]? = some (.cells #[.slice va vars.length vc,.slice pa procs.length pc,.int .u8 mk,.int .i64 mn,.string ms,.slice ma ml.length mc] 42 (0,0))) (λ_ t _=>procs.length - (intOf t).toNat)
  case atStart=>exact⟨0,[],rfl,Nat.zero_le _,aA.out,JI.out _ aA.out,Nat.zero_le _,HB3.out⟩
  obtain⟨j,L,rfl,hj,hgr,hrr,hll,hbr⟩:=hrel
  have bQ:=Lib.hid hgr
  have HRR:=Lib.hid hrr
  have JJ:=Lib.hid hll
  have ni:=Lib.hid hbr
  clear hgr hrr hll hbr
  by_cases hlt:j<procs.length
  · obtain⟨kb,ko,nQ,dz,-,hcc⟩:=(vY.out.procs.later bQ.out).row.at hlt
    simp only[Value.slice.injEq,true_and]at dz
    obtain⟨rfl,rfl⟩:=dz
    have fP:=Lib.hid (vY.out.procs.each _ (List.getElem_mem hlt))
    have CZ:=Lib.hid (show bC.okB procs[j].d=true from List.all_eq_true.1 HO.out.1.1 procs[j].d (List.mem_map.2 ⟨_,List.getElem_mem hlt,rfl⟩))
    have HST:=Lib.hid (show nM (procs.map aN.d) (j+1)=nM (procs.map aN.d) j ++ fF (bO procs[j].d.body)from by
     rw[UM (by rw[List.length_map];exact hlt)];simp)
    generalize procs[j]=q at *
    obtain⟨qs,aT,qv,⟨bk,bn,bs,bv,bl⟩⟩:=q
    obtain⟨qa,qc,rfl,-,Zu⟩:=fP.out.form
    obtain⟨ba,bc,rfl,-,-⟩:=fP.out.body.form
    rw[show(aN.d ⟨qs,aT,.slice qa aT.length qc,.mk bk bn bs (.slice ba bl.length bc) bl⟩).body=ae.t (.mk bk bn bs (.slice ba bl.length bc) bl)from rfl]at HST
    have hqo:=CZ.out
    simp only[bC.okB,aN.d,Bool.and_eq_true,decide_eq_true_eq]at hqo
    have AO:=Lib.hid (Bf hqo.2.2.2)
    have rQ:=Lib.hid (MH (Ky hqo.2.2.2))
    clear hqo CZ
    have lH:=Lib.hid (λz (hz:Grow w z)=>Ld (.mk bk bn bs (.slice ba bl.length bc) bl) j z (fP.out.body.later hz) (by have:=AO.out;omega) rQ.out)
    simp only[ae.val]at lH
    have AY:=Lib.hid (Nat.le_trans (MI (ae.t (.mk bk bn bs (.slice ba bl.length bc) bl))) AO.out)
    generalize fF (bO (ae.t (.mk bk bn bs (.slice ba bl.length bc) bl)))=RJ at *
    have c0:=hcc 0 _ rfl
    have c1:=hcc 1 _ rfl
    have c3:=hcc 2 _ rfl
    have c4:=hcc 3 _ rfl
    have c5:=hcc 4 _ rfl
    have c6:=hcc 5 _ rfl
    simp only[Nat.add_zero]at c0
    have hbl:kb<wr.heap.size:=World.block_lt_of_cell? wr _ c0
    have kg:=Lib.hid (heap_alloc_new wr (.cells #[.string qs,.slice qa aT.length qc,.int .u8 bk,.int .i64 bn,.string bs,.slice ba bl.length bc] 48))
    have gy:=Lib.hid (show Grow wr (wr.alloc (.cells #[.string qs,.slice qa aT.length qc,.int .u8 bk,.int .i64 bn,.string bs,.slice ba bl.length bc] 48))from(Mv.refl _ wr).alloc _)
    clear hcc
    go_upto_region 7 with fail
    generalize (wr.alloc (.cells #[.string qs,.slice qa aT.length qc,.int .u8 bk,.int .i64 bn,.string bs,.slice ba bl.length bc] 48))=w7 at *
    clear c0 c1 c3 c4 c5 c6
    obtain⟨⟨y0,y1,y2⟩,y3,y4,y5⟩:=bI kg.out
    have hyl:=lt_of_block kg.out
    have Re:=Lib.hid (lH.out w7 (gtr bQ.out gy.out))
    go_wp2_with fail
    refine Re.out.mono ?_
    clear Re lH y0 y1 y2 y3 y4 y5 hyl
    rintro e w8 ⟨sv,L2,rfl,hr2,yS⟩
    have Cv:=gtr gy.out yS
    have iU:=HRR.out.grow Cv
    have JK:=hr2.len
    obtain⟨v',L',w9,⟨hok,hv,hw⟩,hrow,hmv⟩:=Nk iU hr2 (by have:=bQ.out.size;have:=Cv.size;omega) (by have h1:=JJ.out;have h2:=AY.out;have h3:=HO.out.2;omega)
    have FB:=ah ni.out Cv
    have pX:=Lib.hid (show w9.heap[w.heap.size]? = _ from(hmv.block _ (lt_of_block FB) (λe=>bW iU.1 FB (by decide) e)).trans FB)
    have JL:=Lib.hid (show Grow w w9 from bM (gtr bQ.out Cv) hmv (λb hb=>Bw iU.1 b hb))
    have uC:=Lib.hid (show jq w.heap.size w9 v' L' (nM (procs.map aN.d) (j+1))from by rw[HST.out];exact hrow)
    have ZN:=Lib.hid (show L'.length<=2000 * (j+1)from by
     have h1:=hrow.len
     have h2:=iU.len
     rw[List.length_append]at h1
     have h3:=AY.out
     have h4:=JJ.out
     omega)
    clear iU hr2 hrow hmv FB yS Cv JK
    go_wp2_with fail
    go_roundw
    case rel=>exact⟨j+1,L',by go_num,by omega,JL.out,uC.out,ZN.out,pX.out⟩
    case measure=>simp[intOf];omega
  · obtain rfl:j=procs.length:=by omega
    obtain⟨⟨x0,x1,x2⟩,x3,x4,x5⟩:=bI ni.out
    have hxl:=lt_of_block ni.out
    have Rf:=Lib.hid (Bf HO.out.1.2)
    have HMH:=Lib.hid (MH (Ky HO.out.1.2))
    have HCM:=Lib.hid (Ld (.mk mk mn ms (.slice ma ml.length mc) ml) (-1) wr (vY.out.main.later bQ.out) (by have:=Rf.out;omega) HMH.out)
    simp only[ae.val]at HCM
    have AY:=Lib.hid (Nat.le_trans (MI (ae.t (.mk mk mn ms (.slice ma ml.length mc) ml))) Rf.out)
    generalize fF (bO (ae.t (.mk mk mn ms (.slice ma ml.length mc) ml)))=RJ at *
    go_wp2_with fail
    refine HCM.out.mono ?_
    clear HCM x0 x1 x2 x3 x4 x5 hxl
    rintro e w8 ⟨sv,L2,rfl,hr2,yS⟩
    have iU:=HRR.out.grow yS
    have JK:=hr2.len
    obtain⟨v',L',w9,⟨hok,hv,hw⟩,hrow,hmv⟩:=Nk iU hr2 (by have:=bQ.out.size;have:=yS.size;omega) (by have h1:=JJ.out;have h2:=AY.out;have h3:=HO.out.2;omega)
    have JL:=Lib.hid (show Grow w w9 from bM (gtr bQ.out yS) hmv (λb hb=>Bw iU.1 b hb))
    have uC:=Lib.hid hrow
    clear iU hr2 hrow hmv yS JK
    go_wp2_with fail
    go_ret
    exact⟨_,L',rfl,by rw[HR.out];exact uC.out,JL.out⟩
theorem XY (n:Nat):(((n:Nat):Int) == 0)=(n == 0):=by
 rcases n with _|n
 · rfl
 · rw[Bool.eq_iff_iff];simp;omega
def AZ (p:jW):Bool:=(p.okB && p.faults == 0) && (vK p).length == 0
set_option maxRecDepth 100000 in
set_option maxHeartbeats 12800000 in
theorem NH (p:aB) (w:World) (hp:jm w p):Calls Tryz.prog 20 #[p.val] w (eP w (AZ p.d)):=by
 have il:=Lib.hid (λz (hz:Grow w z)=>Bj p z (hp.later hz))
 have Df:=Lib.hid (λz (hz:Grow w z)=>GG p z (hp.later hz))
 have yT:=Lib.hid (λz (hz:Grow w z)=>XX p z (hp.later hz))
 have ik:=Lib.hid (show AZ p.d=((p.d.okB && p.d.faults == 0) && (vK p.d).length == 0)from rfl)
 obtain⟨RS,Dg⟩:∃ RS,RS=AZ p.d:=⟨_,rfl⟩
 rw[← Dg]at ik ⊢
 clear Dg
 obtain⟨vars,Js,procs,Jt,⟨mk,mn,ms,mv,ml⟩⟩:=p
 obtain⟨⟨va,vc,rfl⟩,⟨pa,pc,rfl⟩,hm⟩:=hp.form
 obtain⟨ma,mc,rfl,-,-⟩:=hm.form
 clear hp hm
 generalize (aB.d ⟨vars,.slice va vars.length vc,procs,.slice pa procs.length pc,.mk mk mn ms (.slice ma ml.length mc) ml⟩).faults=FA at *
 generalize (aB.d ⟨vars,.slice va vars.length vc,procs,.slice pa procs.length pc,.mk mk mn ms (.slice ma ml.length mc) ml⟩).okB=ok at *
 generalize vK (aB.d ⟨vars,.slice va vars.length vc,procs,.slice pa procs.length pc,.mk mk mn ms (.slice ma ml.length mc) ml⟩)=CK at *
 simp only[aB.val,ae.val]at il Df yT ⊢
 have aj:=Lib.hid (show Grow w (w.alloc (.cells #[.slice va vars.length vc,.slice pa procs.length pc,.int .u8 mk,.int .i64 mn,.string ms,.slice ma ml.length mc] 42))from(Mv.refl _ w).alloc _)
 have HB1:=Lib.hid (heap_alloc_new w (.cells #[.slice va vars.length vc,.slice pa procs.length pc,.int .u8 mk,.int .i64 mn,.string ms,.slice ma ml.length mc] 42))
 go_enter Tryz.func20,Tryz.ntmps20
 go_upto_region 1 with fail
 generalize (w.alloc (.cells #[.slice va vars.length vc,.slice pa procs.length pc,.int .u8 mk,.int .i64 mn,.string ms,.slice ma ml.length mc] 42))=w1 at *
 obtain⟨⟨x0,x1,x2⟩,x3,x4,x5⟩:=bI HB1.out
 have hxl:=lt_of_block HB1.out
 go_wp2_with fail
 refine(il.out _ aj.out).mono ?_
 rintro e w2 ⟨rfl,hg⟩
 have HG2:=Lib.hid (gtr aj.out hg)
 have HB2:=Lib.hid (ah HB1.out hg)
 clear hg x0 x1 x2 x3 x4 x5 hxl
 cases ok with
 |false =>
  have HR:=Lib.hid (show RS=false from by rw[ik.out];rfl)
  go_wp2_with fail
  go_ret
  exact⟨aV HR.out.symm,HG2.out⟩
 |true =>
  obtain⟨⟨x0,x1,x2⟩,x3,x4,x5⟩:=bI HB2.out
  have hxl:=lt_of_block HB2.out
  go_wp2_with fail
  refine(Df.out _ HG2.out).mono ?_
  rintro e w3 ⟨fa,fc,rfl,hg⟩
  have aA:=Lib.hid (gtr HG2.out hg)
  have HB3:=Lib.hid (ah HB2.out hg)
  clear hg x0 x1 x2 x3 x4 x5 hxl
  by_cases hfa:FA=0
  case neg =>
   have d0:(FA == 0)=false:=by simpa using hfa
   have HR:=Lib.hid (show RS=false from by rw[ik.out,d0];rfl)
   clear d0
   have d1:((FA:Int) == 0)=false:=by simp;omega
   clear hfa
   go_wp2_with fail
   go_ret
   exact⟨aV HR.out.symm,aA.out⟩
  have d0:(FA == 0)=true:=by simpa using hfa
  have HR:=Lib.hid (show RS=(CK.length == 0)from by rw[ik.out,d0];rfl)
  clear d0
  have d1:((FA:Int) == 0)=true:=by simp;omega
  obtain⟨⟨x0,x1,x2⟩,x3,x4,x5⟩:=bI HB3.out
  have hxl:=lt_of_block HB3.out
  clear hfa ik
  go_wp2_with fail
  refine(yT.out _ aA.out).mono ?_
  rintro e w4 ⟨v,L,rfl,hr,hg⟩
  have bA:=Lib.hid (gtr aA.out hg)
  have AY:=Lib.hid hr.len
  obtain⟨a',c',rfl⟩:=dX hr.1
  clear hr hg x0 x1 x2 x3 x4 x5 hxl
  go_wp2_with fail
  go_ret
  exact⟨aV (by rw[HR.out,← AY.out];exact XY _),bA.out⟩
end Go.Proofs.YtbpodipdfohikaaGreat
