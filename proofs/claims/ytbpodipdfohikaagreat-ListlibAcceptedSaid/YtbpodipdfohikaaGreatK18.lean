import Derived.Test.YtbpodipdfohikaaGreatK17
import Derived.Deep.DeepCutAuto
import Derived.Deep.CutBlock
set_option linter.unusedSimpArgs false
set_option linter.unusedVariables false
set_option maxRecDepth 100000
set_option maxHeartbeats 25600000
namespace Go.Proofs.YtbpodipdfohikaaGreat
open Go.RowKit Go.Instr
attribute [local go_sem ↓] gD
theorem Mx {α:Type} {n:Nat} {f:α->List Value} {w:World} {a:Option Addr} {c:Nat} {l:List α} (h:ay n f w (.slice a l.length c) l) (j:Nat) (hj:j<=l.length):ay n f w (.slice a j c) (l.take j):=by
 obtain⟨a',c',e,h2,h3,h4⟩:=h
 simp only[Value.slice.injEq,true_and]at e
 obtain⟨rfl,rfl⟩:=e
 exact⟨a,c,by simp[hj],by simp;omega,by simp;omega,λi x hx=>h4 i x (by
  rw[List.getElem?_take]at hx
  split at hx
  · exact hx
  · cases hx)⟩
theorem ay.cap {α:Type} {n:Nat} {f:α->List Value} {w:World} {a:Option Addr} {k c:Nat} {l:List α} (h:ay n f w (.slice a k c) l):l.length<=c:=by
 obtain⟨a',c',e,h2,-⟩:=h
 simp only[Value.slice.injEq]at e
 omega
theorem Vp {a:Option Addr} {n m c:Nat} (h:n=m):Ending.returned (.slice a n c) = .returned (.slice a m c):=by rw[h]
theorem take_at {α:Type} (l:List α) (j:Nat) (h:j<l.length):l.take (j+1)=l.take j ++ [l[j]]:=List.take_succ_eq_append_getElem h
set_option maxRecDepth 100000 in
set_option maxHeartbeats 12800000 in
theorem GG (p:aB) (w:World) (hp:jm w p):Calls Tryz.prog 31 #[p.val] w (Yn w p.d.faults):=by
 have il:=Lib.hid (λz (hz:Grow w z)=>Bj p z (hp.later hz))
 obtain⟨vars,Js,procs,Jt,⟨mk,mn,ms,mv,ml⟩⟩:=p
 obtain⟨⟨va,vc,rfl⟩,⟨pa,pc,rfl⟩,hm⟩:=hp.form
 obtain⟨ma,mc,rfl,-,-⟩:=hm.form
 have vY:=Lib.hid hp
 have ab8:vars.length<=vc:=ay.cap hp.vars
 clear hp hm
 have yA:=Lib.hid (show(aB.d ⟨vars,.slice va vars.length vc,procs,.slice pa procs.length pc,.mk mk mn ms (.slice ma ml.length mc) ml⟩).faults=if(aB.d ⟨vars,.slice va vars.length vc,procs,.slice pa procs.length pc,.mk mk mn ms (.slice ma ml.length mc) ml⟩).okB then gM [] vars+(kV (procs.map aN.d) 0 (procs.map aN.d)+jo (procs.map aN.d) (ae.t (.mk mk mn ms (.slice ma ml.length mc) ml)) vars)else 0 from rfl)
 have bJ:=Lib.hid (Lx vars (.slice va vars.length vc) procs (.slice pa procs.length pc) (.mk mk mn ms (.slice ma ml.length mc) ml))
 generalize (aB.d ⟨vars,.slice va vars.length vc,procs,.slice pa procs.length pc,.mk mk mn ms (.slice ma ml.length mc) ml⟩).faults=V at *
 generalize hok:(aB.d ⟨vars,.slice va vars.length vc,procs,.slice pa procs.length pc,.mk mk mn ms (.slice ma ml.length mc) ml⟩).okB=ok at *
 simp only[aB.val]at il ⊢
 have aj:=Lib.hid (show Grow w (w.alloc (.cells #[.slice va vars.length vc,.slice pa procs.length pc,.int .u8 mk,.int .i64 mn,.string ms,.slice ma ml.length mc] 42))from(Mv.refl _ w).alloc _)
 have lC:=Lib.hid (heap_alloc_new w (.cells #[.slice va vars.length vc,.slice pa procs.length pc,.int .u8 mk,.int .i64 mn,.string ms,.slice ma ml.length mc] 42))
 have QQ:=Lib.hid (il.out _ aj.out)
 clear il
 go_enter Tryz.func31,Tryz.ntmps31
 go_wp2_with fail
 generalize (w.alloc (.cells #[.slice va vars.length vc,.slice pa procs.length pc,.int .u8 mk,.int .i64 mn,.string ms,.slice ma ml.length mc] 42))=w1 at *
 refine QQ.out.mono ?_
 rintro e w2 ⟨rfl,hg2⟩
 have HG2:=Lib.hid (gtr aj.out hg2)
 have fo:=Lib.hid (ah lC.out hg2)
 clear hg2 hok QQ
 cases ok with
 |false =>
  have HF:=Lib.hid (show V=0 from yA.out)
  go_wp2_with fail
  go_ret
  exact⟨none,0,(by rw[HF.out];rfl),HG2.out⟩
 |true =>
  have HF:=Lib.hid (show V=gM [] vars+(kV (procs.map aN.d) 0 (procs.map aN.d)+jo (procs.map aN.d) (ae.t (.mk mk mn ms (.slice ma ml.length mc) ml)) vars)from yA.out)
  have hb:=bJ.out.symm
  simp only[Bool.and_eq_true,decide_eq_true_eq]at hb
  obtain⟨⟨hv32,Iw,hvd⟩,hpo,hmo⟩:=hb
  have HB1:=Lib.hid (Eo vars [])
  have HB2:=Lib.hid (LG (procs.map aN.d) (procs.map aN.d) 0 hpo)
  have HB3:=Lib.hid (Ec (procs.map aN.d) (ae.t (.mk mk mn ms (.slice ma ml.length mc) ml)) vars)
  have bY:=Lib.hid (Bf hmo)
  have QR:=Lib.hid hpo
  clear hvd hpo hmo bJ yA
  obtain⟨⟨x0,x1,x2⟩,x3,x4,x5⟩:=bI fo.out
  have hxl:=lt_of_block fo.out
  go_wp2_with fail
  generalize Jy:w2.heap.size=B at *
  have hB1:w2.heap.size<=B:=by omega
  have uo:=Lib.hid (vY.out.later HG2.out)
  have ER:=Lib.hid (show jO w2 B ((w2.alloc (.cells #[.slice none 0 0] 66)).alloc (.cells #[.func (.func 50) #[] #[.pointer (some ⟨B,0,none⟩)]] 87)) 0 from⟨((Mv.refl _ w2).alloc _).alloc _,⟨_,[],by rw[← Jy];exact bS (heap_alloc_new w2 _) _,World.ownsRow_nil _ _ _ _,rfl⟩,hB1⟩)
  have Iz:=Lib.hid (show((w2.alloc (.cells #[.slice none 0 0] 66)).alloc (.cells #[.func (.func 50) #[] #[.pointer (some ⟨B,0,none⟩)]] 87)).heap[B+1]? = some (.cells #[.func (.func 50) #[] #[.pointer (some ⟨B,0,none⟩)]] 87 (0,0))from by
   have:=heap_alloc_new (w2.alloc (.cells #[.slice none 0 0] 66)) (.cells #[.func (.func 50) #[] #[.pointer (some ⟨B,0,none⟩)]] 87)
   subst Jy;simpa using this)
  generalize ((w2.alloc (.cells #[.slice none 0 0] 66)).alloc (.cells #[.func (.func 50) #[] #[.pointer (some ⟨B,0,none⟩)]] 87))=w3 at *
  clear x0 x1 x2 x3 x4 x5 hxl Jy
  go_loopw [18] (λt wr=>∃ (j c:Nat),t = .int .i64 j/\j<=vars.length/\jO w2 B wr c/\cB w2 B w3 wr/\c+gM (vars.take j) (vars.drop j)=gM [] vars) (λt _=>vars.length - (intOf t).toNat)
  case atStart=>exact⟨0,0,rfl,Nat.zero_le _,ER.out,Mv.refl _ _,by simp⟩
  obtain⟨j,c,rfl,hj,hst',lY,hrest⟩:=hrel
  have jC:=Lib.hid hst'
  have gN:=Lib.hid lY
  have df:=Lib.hid hrest
  clear hst' lY hrest
  by_cases hlt:j<vars.length
  · obtain⟨kb,ko,nQ,dz,-,hcc⟩:=(uo.out.vars.later jC.out.g).at hlt
    simp only[Value.slice.injEq,true_and]at dz
    obtain⟨rfl,rfl⟩:=dz
    have HE:=Lib.hid (show gM (vars.take j) (vars.drop j)=kI (lN (vars.take j) vars[j].name)+gM (vars.take (j+1)) (vars.drop (j+1))from by
     rw[drop_at _ j hlt,gM,take_at _ j hlt])
    generalize vars[j]=x at *
    obtain⟨xs,xk,xn⟩:=x
    have c0:=hcc 0 _ rfl
    have c1:=hcc 1 _ rfl
    have c2:=hcc 2 _ rfl
    simp only[Nat.add_zero]at c0 HE
    have hbl:kb<wr.heap.size:=World.block_lt_of_cell? wr _ c0
    have kg:=Lib.hid (heap_alloc_new wr (.cells #[.string xs,.int .u8 xk,.int .i64 xn] 50))
    have gy:=Lib.hid (show Grow wr (wr.alloc (.cells #[.string xs,.int .u8 xk,.int .i64 xn] 50))from(Mv.refl _ wr).alloc _)
    have mU:=Lib.hid (jC.out.grow gy.out)
    have Ai:=Lib.hid (ah (gN.out.keep' ER.out Iz.out (by decide) (by decide)) gy.out)
    have jN:=Lib.hid (ah fo.out mU.out.g)
    clear hcc
    go_upto_region 8 with fail
    generalize (wr.alloc (.cells #[.string xs,.int .u8 xk,.int .i64 xn] 50))=w4 at *
    have gH:=Lib.hid (λ(y:World) (hy:Grow w4 y)=>And.intro (ah jN.out hy) (And.intro (ah Ai.out hy) (And.intro (ah kg.out hy) True.intro)))
    have aA:=Lib.hid mU.out.g
    clear c0 c1 c2
    refine kK 12 93 [some 23,some 24,some 25,some 26,some 27,some 28,some 29,some 30,some 31,some 32,some 33,some 34] [[],[],[1],[],[3],[],[5],[],[6,7],[],[9],[8,10]] [] [.c (.func (.func 50) #[] #[.pointer (some ⟨B,0,none⟩)]),.c (.int .i64 j),.p (λv y=>∃ g,v = .slice (some ⟨g,0,none⟩) 1 1/\y.heap[g]? = some (.cells #[.int .i64 j] 3 (0,0))),.c (.pointer (some ⟨wr.heap.size,0,none⟩)),.c (.string xs),.c (.pointer (some ⟨w.heap.size,0,none⟩)),.c (.slice (some ⟨kb,ko,none⟩) vars.length vc),.c (.int .i64 j),.c (.slice (some ⟨kb,ko,none⟩) j vc),.c (.pointer (some ⟨wr.heap.size,0,none⟩)),.c (.string xs),.c (.int .i64 (lN (vars.take j) xs))] ⟨⟨(λv x y hg h=>by obtain⟨g,hv,hb⟩:=h;exact⟨g,hv,ah hb hg⟩),λ_=>bg⟩,trivial⟩ (dm rfl) ?steps ?done
    case steps =>
     refine⟨?s0,?s1,?s2,?s3,?s4,?s5,?s6,?s7,?s8,?s9,?s10,?s11,trivial⟩
     case s0 =>
      refine ok gH (λvs x hG HX hP => ?_)
      have r0:=cell1 HX.out.2.1
      simp only[zS]
      go_simp
      exact gc
     case s1 =>
      refine oo (λvs x hP => ?_)
      simp only[zS]
      go_simp
      exact gc
     case s2 =>
      refine oo (λvs x hP => ?_)
      simp only[zS]
      go_simp
      exact gl ⟨_,rfl,heap_alloc_new x _⟩
     case s3 =>
      refine oo (λvs x hP => ?_)
      simp only[zS]
      go_simp
      exact gc
     case s4 =>
      refine ok gH (λvs x hG HX hP => ?_)
      obtain⟨d0,d1,d2⟩:=dR HX.out.2.2.1
      simp only[zS]
      go_simp
      exact gc
     case s5 =>
      refine oo (λvs x hP => ?_)
      simp only[zS]
      go_simp
      exact gc
     case s6 =>
      refine ok gH (λvs x hG HX hP => ?_)
      obtain⟨⟨x0,x1,x2⟩,x3,x4,x5⟩:=bI HX.out.1
      simp only[zS]
      go_simp
      exact gc
     case s7 =>
      refine oo (λvs x hP => ?_)
      simp only[zS]
      go_simp
      exact gc
     case s8 =>
      refine ok gH (λvs x hG HX hP => ?_)
      have hjc:j<=vc:=by omega
      simp only[zS]
      go_simp
      exact gc
     case s9 =>
      refine oo (λvs x hP => ?_)
      simp only[zS]
      go_simp
      exact gc
     case s10 =>
      refine ok gH (λvs x hG HX hP => ?_)
      obtain⟨d0,d1,d2⟩:=dR HX.out.2.2.1
      simp only[zS]
      go_simp
      exact gc
     case s11 =>
      refine ok gH (λvs x hG HX hP => ?_)
      have HC:=Lib.hid (Eb (.slice (some ⟨kb,ko,none⟩) j vc) (vars.take j) xs x (Mx (uo.out.vars.later (gtr aA.out hG)) j (by omega)))
      simp only[zS]
      go_simp
      refine(HC.out).mono ?_
      rintro e y ⟨rfl,hg⟩
      exact⟨_,rfl,gq hg rfl⟩
    case done =>
    intro vs wx hE
    have hG:=hE.grow
    have p2:=hE.val 2
    obtain⟨g2,h2,b2⟩:=p2
    have nV:=Lib.hid (mU.out.grow hG)
    have xH:=Lib.hid hG
    have hrow:=ay.dF (l:=[(j:Int)]) (f:=aU) (λ_=>rfl) b2 rfl (by simp)
    clear hE hG
    simp only[zS,Nat.reduceAdd,h2,List.drop_succ_cons,List.drop_zero]
    have HC:=Lib.hid (Bl w2 B (-1) (.slice (some ⟨g2,0,none⟩) 1 1) [(j:Int)] xs (lN (vars.take j) xs) c wx nV.out hrow (by simp) (by have:=HB1.out;have:=df.out;omega))
    clear hrow
    go_wp2_with fail
    refine HC.out.mono ?_
    rintro e w5 ⟨rfl,dP,jD⟩
    have pI:=Lib.hid dP
    have pJ:=Lib.hid (show cB w2 B w3 w5 from gN.out.trans ((cB.nH gy.out).trans ((cB.nH xH.out).trans jD)))
    clear dP jD HC
    go_wp2_with fail
    go_roundw
    case rel=>exact⟨j+1,_,by go_num,by omega,pI.out,pJ.out,by have:=df.out;have:=HE.out;omega⟩
    case measure=>simp[intOf];omega
  obtain rfl:j=vars.length:=by omega
  have gG:=Lib.hid (show c=gM [] vars from by
   have h:=df.out
   rw[List.drop_length]at h
   simpa[gM]using h)
  have IA:=Lib.hid jC.out
  have OC:=Lib.hid (gN.out.keep' ER.out Iz.out (by decide) (by decide))
  have iP:=Lib.hid (ah fo.out jC.out.g)
  clear df jC gN ER Iz
  obtain⟨⟨x0,x1,x2⟩,x3,x4,x5⟩:=bI iP.out
  have hxl:=lt_of_block iP.out
  go_wp2_with fail
  generalize wr=w6 at *
  clear x0 x1 x2 x3 x4 x5 hxl
  generalize yC:procs.map aN.d=P at *
  have _0:P.length=procs.length:=by rw[← yC,List.length_map]
  go_loopw [40] (λt wr=>∃ (j c2:Nat),t = .int .i64 j/\j<=procs.length/\jO w2 B wr c2/\cB w2 B w6 wr/\c2+kV P j (P.drop j)=c+kV P 0 P) (λt _=>procs.length - (intOf t).toNat)
  case atStart=>exact⟨0,c,rfl,Nat.zero_le _,IA.out,Mv.refl _ _,by simp⟩
  obtain⟨j,c2,rfl,hj,hst',lY,hrest⟩:=hrel
  have jC:=Lib.hid hst'
  have gN:=Lib.hid lY
  have df:=Lib.hid hrest
  clear hst' lY hrest
  by_cases hlt:j<procs.length
  · obtain⟨kb,ko,nQ,dz,-,hcc⟩:=(uo.out.procs.later jC.out.g).row.at hlt
    simp only[Value.slice.injEq,true_and]at dz
    obtain⟨rfl,rfl⟩:=dz
    have _1:j<P.length:=by omega
    have HE:=Lib.hid (show kV P j (P.drop j)=zZ P j procs[j].d+kV P (j+1) (P.drop (j+1))from by
     rw[drop_at _ j _1,kV];subst yC;simp)
    have fP:=Lib.hid (uo.out.procs.each _ (List.getElem_mem hlt))
    have HQB:=Lib.hid (Mw P j procs[j].d (by
     have:=List.all_eq_true.1 QR.out procs[j].d (by rw[← yC];exact List.mem_map.2 ⟨_,List.getElem_mem hlt,rfl⟩)
     exact this))
    have CZ:=Lib.hid (show bC.okB procs[j].d=true from List.all_eq_true.1 QR.out procs[j].d (by rw[← yC];exact List.mem_map.2 ⟨_,List.getElem_mem hlt,rfl⟩))
    generalize procs[j]=q at *
    obtain⟨qs,aT,qv,⟨bk,bn,bs,bv,bl⟩⟩:=q
    obtain⟨qa,qc,rfl,-,Zu⟩:=fP.out.form
    obtain⟨ba,bc,rfl,-,-⟩:=fP.out.body.form
    have _2:=Lib.hid (show zZ P j (aN.d ⟨qs,aT,.slice qa aT.length qc,.mk bk bn bs (.slice ba bl.length bc) bl⟩)=(if ja P qs<j then 1 else 0)+(gM [] aT+jo P (ae.t (.mk bk bn bs (.slice ba bl.length bc) bl)) aT)from rfl)
    have hqo:=CZ.out
    simp only[bC.okB,aN.d,Bool.and_eq_true,decide_eq_true_eq]at hqo
    have hq8:aT.length<=8:=of_decide_eq_true hqo.2.1
    have AO:=Lib.hid (Bf hqo.2.2.2)
    generalize zZ P j (aN.d ⟨qs,aT,.slice qa aT.length qc,.mk bk bn bs (.slice ba bl.length bc) bl⟩)=QC at *
    clear hqo CZ
    have c0:=hcc 0 _ rfl
    have c1:=hcc 1 _ rfl
    have c3:=hcc 2 _ rfl
    have c4:=hcc 3 _ rfl
    have c5:=hcc 4 _ rfl
    have c6:=hcc 5 _ rfl
    simp only[Nat.add_zero]at c0
    have hbl:kb<wr.heap.size:=World.block_lt_of_cell? wr _ c0
    have xS:=Lib.hid (show((wr.alloc (.cells #[.int .i64 j] 3)).alloc (.cells #[.string qs,.slice qa aT.length qc,.int .u8 bk,.int .i64 bn,.string bs,.slice ba bl.length bc] 48)).heap[wr.heap.size]? = some (.cells #[.int .i64 j] 3 (0,0))from bS (heap_alloc_new wr _) _)
    have kg:=Lib.hid (show((wr.alloc (.cells #[.int .i64 j] 3)).alloc (.cells #[.string qs,.slice qa aT.length qc,.int .u8 bk,.int .i64 bn,.string bs,.slice ba bl.length bc] 48)).heap[wr.heap.size+1]? = some (.cells #[.string qs,.slice qa aT.length qc,.int .u8 bk,.int .i64 bn,.string bs,.slice ba bl.length bc] 48 (0,0))from by
     have:=heap_alloc_new (wr.alloc (.cells #[.int .i64 j] 3)) (.cells #[.string qs,.slice qa aT.length qc,.int .u8 bk,.int .i64 bn,.string bs,.slice ba bl.length bc] 48)
     simpa using this)
    have gy:=Lib.hid (show Grow wr ((wr.alloc (.cells #[.int .i64 j] 3)).alloc (.cells #[.string qs,.slice qa aT.length qc,.int .u8 bk,.int .i64 bn,.string bs,.slice ba bl.length bc] 48))from((Mv.refl _ wr).alloc _).alloc _)
    have mU:=Lib.hid (jC.out.grow gy.out)
    have Ai:=Lib.hid (ah (gN.out.keep' IA.out OC.out (by decide) (by decide)) gy.out)
    have jN:=Lib.hid (ah fo.out mU.out.g)
    clear hcc
    go_upto_region 13 with fail
    generalize ((wr.alloc (.cells #[.int .i64 j] 3)).alloc (.cells #[.string qs,.slice qa aT.length qc,.int .u8 bk,.int .i64 bn,.string bs,.slice ba bl.length bc] 48))=w7 at *
    have gH:=Lib.hid (λ(y:World) (hy:Grow w7 y)=>And.intro (ah jN.out hy) (And.intro (ah xS.out hy) (ah kg.out hy)))
    have aA:=Lib.hid mU.out.g
    clear c0 c1 c3 c4 c5 c6
    refine wg 93 [some 45,some 46,some 47,some 48,some 49,some 50] [[],[],[1],[0,2],[],[3,4]] [] [.c (.agg #[.slice va vars.length vc,.slice (some ⟨kb,ko,none⟩) procs.length pc,.int .u8 mk,.int .i64 mn,.string ms,.slice ma ml.length mc]),.c (.pointer (some ⟨wr.heap.size+1,0,none⟩)),.c (.string qs),.c (.int .i64 (ja P qs)),.c (.int .i64 j),.c (.bool (decide (ja P qs<(j:Int))))] trivial (dm rfl) ?steps ?done
    case steps =>
     refine⟨?s0,?s1,?s2,?s3,?s4,?s5,trivial⟩
     case s0 =>
      refine ok gH (λvs x hG HX hP => ?_)
      obtain⟨⟨x0,x1,x2⟩,x3,x4,x5⟩:=bI HX.out.1
      simp only[zS]
      go_simp
      exact gc
     case s1 =>
      refine oo (λvs x hP => ?_)
      simp only[zS]
      go_simp
      exact gc
     case s2 =>
      refine ok gH (λvs x hG HX hP => ?_)
      obtain⟨⟨y0,y1,y2⟩,y3,y4,y5⟩:=bI HX.out.2.2
      simp only[zS]
      go_simp
      exact gc
     case s3 =>
      refine ok gH (λvs x hG HX hP => ?_)
      have hc:=Br ⟨vars,.slice va vars.length vc,procs,.slice (some ⟨kb,ko,none⟩) procs.length pc,.mk mk mn ms (.slice ma ml.length mc) ml⟩ qs x (uo.out.later (gtr aA.out hG))
      rw[show(aB.d ⟨vars,.slice va vars.length vc,procs,.slice (some ⟨kb,ko,none⟩) procs.length pc,.mk mk mn ms (.slice ma ml.length mc) ml⟩).procs=P from yC]at hc
      simp only[aB.val]at hc
      have HC:=Lib.hid hc
      clear hc
      simp only[zS]
      go_simp
      refine(HC.out).mono ?_
      rintro e y ⟨rfl,hg⟩
      exact⟨_,rfl,gq hg rfl⟩
     case s4 =>
      refine ok gH (λvs x hG HX hP => ?_)
      have i0:=cell1 HX.out.2.1
      simp only[zS]
      go_simp
      exact gc
     case s5 =>
      refine oo (λvs x hP => ?_)
      simp only[zS]
      go_simp
      exact gc
    case done =>
    intro vs wx hE
    have hG:=hE.grow
    have nV:=Lib.hid (mU.out.grow hG)
    have xH:=Lib.hid hG
    have yD:=Lib.hid (gH.out _ hG)
    have ES:=Lib.hid (ah Ai.out hG)
    clear hE hG
    simp only[zS,Nat.reduceAdd]
    have i0:=cell1 yD.out.2.1
    obtain⟨⟨y0,y1,y2⟩,y3,y4,y5⟩:=bI yD.out.2.2
    have r0:=cell1 ES.out
    have hil:=lt_of_block yD.out.2.1
    have hyl:=lt_of_block yD.out.2.2
    have hrl:=lt_of_block ES.out
    generalize AP:(if ja P qs<(j:Int)then 1 else 0)=DD at *
    have ab9:DD<=1:=by rw[← AP];split <;> omega
    have QS:=Lib.hid (λ(b:Bool) (h:decide (ja P qs<(j:Int))=b)=>show DD=if b then 1 else 0 from by
     rw[← AP,← h];by_cases h:ja P qs<(j:Int) <;> simp[h])
    clear AP
    generalize hbd:decide (ja P qs<(j:Int))=bd at *
    have HD2:=Lib.hid (QS.out bd rfl)
    clear hbd QS
    have OD:=Lib.hid (show cB w2 B w6 wx from gN.out.trans ((cB.nH gy.out).trans (cB.nH xH.out)))
    go_upto_if 50 with fail
    go_cut [55] (λv wc=>jO w2 B wc (c2+DD)/\cB w2 B wx wc)
    case first =>
     cases bd with
     |true =>
      have HD3:=Lib.hid (show DD=1 from HD2.out)
      have HC:=Lib.hid (Bl w2 B j (.slice none 0 0) [] qs 22 c2 wx nV.out (ay.nil _ _ _) (by simp) (by have:=HB1.out;have:=HB2.out;have:=df.out;have:=gG.out;omega))
      clear HD2
      go_wp2_with fail
      refine HC.out.mono ?_
      rintro e w5 ⟨rfl,dP,jD⟩
      have pI:=Lib.hid dP
      have pJ:=Lib.hid jD
      clear dP jD HC
      go_wp2_with fail
      go_meet
      case rel=>exact⟨by rw[HD3.out];exact pI.out,pJ.out⟩
     |false =>
      have HD3:=Lib.hid (show DD=0 from HD2.out)
      clear HD2
      go_wp2_with fail
      go_meet
      case rel=>exact⟨by rw[HD3.out];exact nV.out,Mv.refl _ _⟩
    case rest =>
     obtain⟨nW,Co⟩:=hcut
     have xI:=Lib.hid nW
     have OE:=Lib.hid (Co.keep' nV.out yD.out.2.1 (by decide) (by decide))
     have ET:=Lib.hid (Co.keep' nV.out yD.out.2.2 (by decide) (by decide))
     have OG:=Lib.hid (Co.keep' nV.out ES.out (by decide) (by decide))
     have HX8:=Lib.hid (ah fo.out nW.g)
     have Zv:=Lib.hid (show cB w2 B w6 wc from OD.out.trans Co)
     clear i0 y0 y1 y2 y3 y4 y5 r0 hil hyl hrl nW Co OD gH yD xS kg Ai ES jN nV mU
     obtain⟨⟨y0,y1,y2⟩,y3,y4,y5⟩:=bI ET.out
     have hyl:=lt_of_block ET.out
     have aca:aT.length<=qc:=ay.cap fP.out.params
     generalize wr.heap.size=Z at *
     go_wp2_with fail
     generalize wc=w8 at *
     clear y0 y1 y2 y3 y4 y5 hyl
     go_loopw [59] (λt wr=>∃ (i c3:Nat),t = .int .i64 i/\i<=aT.length/\jO w2 B wr c3/\cB w2 B w8 wr/\c3+gM (aT.take i) (aT.drop i)=c2+DD+gM [] aT) (λt _=>aT.length - (intOf t).toNat)
     case atStart=>exact⟨0,_,rfl,Nat.zero_le _,xI.out,Mv.refl _ _,by simp⟩
     obtain⟨i,c3,rfl,hi,hst',lY,hrest⟩:=hrel
     have Cq:=Lib.hid hst'
     have vC:=Lib.hid lY
     have IB:=Lib.hid hrest
     clear hst' lY hrest
     have AQ:=Lib.hid (Eo aT [])
     by_cases IC:i<aT.length
     · obtain⟨vb,vo,OH,hvv,-,hcc⟩:=(fP.out.params.later Cq.out.g).at IC
       simp only[Value.slice.injEq,true_and]at hvv
       obtain⟨rfl,rfl⟩:=hvv
       have vZ:=Lib.hid (show gM (aT.take i) (aT.drop i)=kI (lN (aT.take i) aT[i].name)+gM (aT.take (i+1)) (aT.drop (i+1))from by
        rw[drop_at _ i IC,gM,take_at _ i IC])
       generalize aT[i]=x at *
       obtain⟨xs,xk,xn⟩:=x
       have c0:=hcc 0 _ rfl
       have c1:=hcc 1 _ rfl
       have c4:=hcc 2 _ rfl
       simp only[Nat.add_zero]at c0 vZ
       have hvl:vb<wr.heap.size:=World.block_lt_of_cell? wr _ c0
       have C8:=Lib.hid (heap_alloc_new wr (.cells #[.string xs,.int .u8 xk,.int .i64 xn] 50))
       have C9:=Lib.hid (show Grow wr (wr.alloc (.cells #[.string xs,.int .u8 xk,.int .i64 xn] 50))from(Mv.refl _ wr).alloc _)
       have OI:=Lib.hid (Cq.out.grow C9.out)
       have Zw:=Lib.hid (ah (vC.out.keep' xI.out OG.out (by decide) (by decide)) C9.out)
       have Zx:=Lib.hid (ah (vC.out.keep' xI.out OE.out (by decide) (by decide)) C9.out)
       have Zy:=Lib.hid (ah (vC.out.keep' xI.out ET.out (by decide) (by decide)) C9.out)
       clear hcc
       go_upto_region 18 with fail
       generalize (wr.alloc (.cells #[.string xs,.int .u8 xk,.int .i64 xn] 50))=w9 at *
       have mE:=Lib.hid (λ(y:World) (hy:Grow w9 y)=>And.intro (ah Zw.out hy) (And.intro (ah Zx.out hy) (And.intro (ah Zy.out hy) (ah C8.out hy))))
       clear c0 c1 c4
       refine kK 11 93 [some 64,some 65,some 66,some 67,some 68,some 69,some 70,some 71,some 72,some 73,some 74] [[],[],[],[2],[],[4],[],[5,6],[],[8],[7,9]] [] [.c (.func (.func 50) #[] #[.pointer (some ⟨B,0,none⟩)]),.c (.int .i64 j),.c (.pointer (some ⟨wr.heap.size,0,none⟩)),.c (.string xs),.c (.pointer (some ⟨Z+1,1,none⟩)),.c (.slice (some ⟨vb,vo,none⟩) aT.length qc),.c (.int .i64 i),.c (.slice (some ⟨vb,vo,none⟩) i qc),.c (.pointer (some ⟨wr.heap.size,0,none⟩)),.c (.string xs),.c (.int .i64 (lN (aT.take i) xs))] trivial (dm rfl) ?steps ?done
       case steps =>
        refine⟨?s0,?s1,?s2,?s3,?s4,?s5,?s6,?s7,?s8,?s9,?s10,trivial⟩
        case s0 =>
         refine ok mE (λvs x hG HX hP => ?_)
         have r0:=cell1 HX.out.1
         simp only[zS]
         go_simp
         exact gc
        case s1 =>
         refine ok mE (λvs x hG HX hP => ?_)
         have i0:=cell1 HX.out.2.1
         simp only[zS]
         go_simp
         exact gc
        case s2 =>
         refine oo (λvs x hP => ?_)
         simp only[zS]
         go_simp
         exact gc
        case s3 =>
         refine ok mE (λvs x hG HX hP => ?_)
         obtain⟨d0,d1,d2⟩:=dR HX.out.2.2.2
         simp only[zS]
         go_simp
         exact gc
        case s4 =>
         refine oo (λvs x hP => ?_)
         simp only[zS]
         go_simp
         exact gc
        case s5 =>
         refine ok mE (λvs x hG HX hP => ?_)
         obtain⟨⟨y0,y1,y2⟩,y3,y4,y5⟩:=bI HX.out.2.2.1
         simp only[zS]
         go_simp
         exact gc
        case s6 =>
         refine oo (λvs x hP => ?_)
         simp only[zS]
         go_simp
         exact gc
        case s7 =>
         refine ok mE (λvs x hG HX hP => ?_)
         have hjc:i<=qc:=by omega
         simp only[zS]
         go_simp
         exact gc
        case s8 =>
         refine oo (λvs x hP => ?_)
         simp only[zS]
         go_simp
         exact gc
        case s9 =>
         refine ok mE (λvs x hG HX hP => ?_)
         obtain⟨d0,d1,d2⟩:=dR HX.out.2.2.2
         simp only[zS]
         go_simp
         exact gc
        case s10 =>
         refine ok mE (λvs x hG HX hP => ?_)
         have HC:=Lib.hid (Eb (.slice (some ⟨vb,vo,none⟩) i qc) (aT.take i) xs x (Mx (fP.out.params.later (gtr OI.out.g hG)) i (by omega)))
         simp only[zS]
         go_simp
         refine(HC.out).mono ?_
         rintro e y ⟨rfl,hg⟩
         exact⟨_,rfl,gq hg rfl⟩
       case done =>
       intro vs _3 hE
       have hG:=hE.grow
       have Y1:=Lib.hid (OI.out.grow hG)
       have Y2:=Lib.hid hG
       clear hE hG
       simp only[zS,Nat.reduceAdd,List.drop_succ_cons,List.drop_zero]
       have HC:=Lib.hid (Bl w2 B j (.slice none 0 0) [] xs (lN (aT.take i) xs) c3 _3 Y1.out (ay.nil _ _ _) (by simp) (by have:=HB1.out;have:=HB2.out;have:=df.out;have:=gG.out;have:=IB.out;have:=AQ.out;omega))
       go_wp2_with fail
       refine HC.out.mono ?_
       rintro e w5 ⟨rfl,dP,jD⟩
       have pI:=Lib.hid dP
       have pJ:=Lib.hid (show cB w2 B w8 w5 from vC.out.trans ((cB.nH C9.out).trans ((cB.nH Y2.out).trans jD)))
       clear dP jD HC
       go_wp2_with fail
       go_roundw
       case rel=>exact⟨i+1,_,by go_num,by omega,pI.out,pJ.out,by have:=IB.out;have:=vZ.out;omega⟩
       case measure=>simp[intOf];omega
     obtain rfl:i=aT.length:=by omega
     have yE:=Lib.hid (show c3=c2+DD+gM [] aT from by
      have h:=IB.out
      rw[List.drop_length]at h
      simpa[gM]using h)
     have Zz:=Lib.hid (vC.out.keep' xI.out OG.out (by decide) (by decide))
     have ZA:=Lib.hid (vC.out.keep' xI.out OE.out (by decide) (by decide))
     have OJ:=Lib.hid (vC.out.keep' xI.out ET.out (by decide) (by decide))
     have uq:=Lib.hid (ah fo.out Cq.out.g)
     have hvs:=K3 w2 B ⟨vars,.slice va vars.length vc,procs,.slice (some ⟨kb,ko,none⟩) procs.length pc,.mk mk mn ms (.slice ma ml.length mc) ml⟩ uo.out (B+1) Z 54 (.inl rfl) _ (.mk bk bn bs (.slice ba bl.length bc) bl) (Nat.le_refl _) fP.out.body wr c3 [] (.slice none 0 0) aT (.slice qa aT.length qc) Cq.out ⟨Zz.out,.inl ⟨rfl,_,ZA.out⟩⟩ ⟨ay.nil 1 aU _,λh=>(h rfl).elim⟩ ((jJ.old (λ_=>by simp[au.cells]) fP.out.params).later Cq.out.g)
     rw[show(aB.d ⟨vars,.slice va vars.length vc,procs,.slice (some ⟨kb,ko,none⟩) procs.length pc,.mk mk mn ms (.slice ma ml.length mc) ml⟩).procs=P from yC]at hvs
     have uu:=Lib.hid (hvs (by have:=Ec P (ae.t (.mk bk bn bs (.slice ba bl.length bc) bl)) aT;have:=AO.out;have:=HB1.out;have:=HB2.out;have:=df.out;have:=gG.out;have:=yE.out;have:=AQ.out;omega) (by have:=AO.out;simp only[List.length_nil];omega) (by have:=AO.out;omega))
     clear hvs
     simp only[aB.val,ae.val]at uu
     obtain⟨⟨x0,x1,x2⟩,x3,x4,x5⟩:=bI uq.out
     obtain⟨⟨y0,y1,y2⟩,y3,y4,y5⟩:=bI OJ.out
     have hxl:=lt_of_block uq.out
     have hyl:=lt_of_block OJ.out
     go_wp2_with fail
     refine uu.out.mono ?_
     rintro e w5 ⟨rfl,dP,jD⟩
     have pI:=Lib.hid dP
     have pJ:=Lib.hid (show cB w2 B w6 w5 from Zv.out.trans (vC.out.trans jD))
     clear dP jD uu x0 x1 x2 x3 x4 x5 y0 y1 y2 y3 y4 y5 hxl hyl
     go_wp2_with fail
     go_roundw
     case rel=>exact⟨j+1,_,by go_num,by omega,pI.out,pJ.out,by have:=df.out;have:=HE.out;have:=_2.out;have:=yE.out;omega⟩
     case measure=>simp[intOf];omega
  obtain rfl:j=procs.length:=by omega
  have mq:=Lib.hid (show c2=c+kV P 0 P from by
   have h:=df.out
   rw[← _0,List.drop_length]at h
   simpa[kV]using h)
  have ZB:=Lib.hid (gN.out.keep' IA.out OC.out (by decide) (by decide))
  have Jz:=Lib.hid (ah fo.out jC.out.g)
  have hvs:=K3 w2 B ⟨vars,.slice va vars.length vc,procs,.slice pa procs.length pc,.mk mk mn ms (.slice ma ml.length mc) ml⟩ uo.out (B+1) w.heap.size 55 (.inr rfl) _ (.mk mk mn ms (.slice ma ml.length mc) ml) (Nat.le_refl _) uo.out.main wr c2 [] (.slice none 0 0) vars (.slice va vars.length vc) jC.out ⟨ZB.out,.inr ⟨rfl,_,_,_,_,_,_,_,_,Jz.out⟩⟩ ⟨ay.nil 1 aU _,λh=>(h rfl).elim⟩ ((jJ.old (λ_=>by simp[au.cells]) uo.out.vars).later jC.out.g)
  rw[show(aB.d ⟨vars,.slice va vars.length vc,procs,.slice pa procs.length pc,.mk mk mn ms (.slice ma ml.length mc) ml⟩).procs=P from yC]at hvs
  have uu:=Lib.hid (hvs (by have:=HB1.out;have:=HB2.out;have:=HB3.out;have:=bY.out;have:=gG.out;have:=mq.out;omega) (by have:=bY.out;simp only[List.length_nil];omega) (by have:=bY.out;omega))
  clear hvs
  simp only[aB.val,ae.val]at uu
  obtain⟨⟨x0,x1,x2⟩,x3,x4,x5⟩:=bI Jz.out
  have hxl:=lt_of_block Jz.out
  go_wp2_with fail
  refine uu.out.mono ?_
  rintro e w5 ⟨rfl,dP,jD⟩
  obtain⟨rv,rl,hbx,hrow,hlen⟩:=dP.blk
  obtain⟨ra,rc,fO⟩:=dX hrow
  have bG:=Lib.hid (gtr HG2.out dP.g)
  have _4:=Lib.hid (show rl.length=V from by rw[hlen,HF.out,mq.out,gG.out];omega)
  have b0:=cell1 hbx
  have hbl:=lt_of_block hbx
  clear dP jD uu x0 x1 x2 x3 x4 x5 hxl hbx hrow hlen
  subst fO
  go_wp2_with fail
  go_ret
  exact⟨ra,rc,Vp _4.out,bG.out⟩
end Go.Proofs.YtbpodipdfohikaaGreat
