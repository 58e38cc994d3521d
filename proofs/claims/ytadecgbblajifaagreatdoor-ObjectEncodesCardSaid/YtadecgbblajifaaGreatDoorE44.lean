import Derived.Test.YtadecgbblajifaaGreatDoorE43
set_option linter.unusedSimpArgs false
set_option linter.unusedVariables false
set_option maxRecDepth 100000
set_option maxHeartbeats 25600000
namespace Go.Proofs.YtadecgbblajifaaGreatDoor
section
open Go.RowKit Go.Instr
attribute [local go_sem ↓] qH
theorem iP {P S T:List Int} (h:P ++ S=T) (hl:T.length<=700000):P.length<=700000:=by
 have h1:=congrArg List.length h
 rw[List.length_append]at h1
 omega
theorem OD (x:Int):ah (wrap64 x) 1=ah x 1:=by
 unfold ah wrap64
 simp only[Nat.mul_zero,Int.pow_zero,Int.ediv_one]
 congr 1
 omega
theorem Xp {α:Type} (p:α->Bool) (l:List α) (k:Nat) (h:k<l.length) (hf:p l[k]=false):l.all p=false:=by
 rw[Bool.eq_false_iff]
 intro e
 have:=List.all_eq_true.1 e l[k] (List.getElem_mem _)
 rw[hf]at this;cases this
theorem aa0 {w:World} {B B':Nat} {v:Value} {l:List Int} (h:eu w B v l) (hb:B'<=B):eu w B' v l:=by
 refine⟨h.1,?_⟩
 rcases h.2 with h2|⟨g,cap,cur,e,h1,h2⟩
 · exact .inl h2
 · exact .inr ⟨g,cap,cur,e,Nat.le_trans hb h1,h2⟩
def jZ (o:aO):Int:=if o.kI≠0 then o.kI else if jc o.code≠0\/65535<o.slots.length then 5 else if(o.refs.all λr=>decide (r.name.size<=255))=true then 0 else 5
def oC (o:aO):List Int:=wF o (wA o.code)
structure Ku (o:aO):Prop where
 tot:(oC o).length<=700000
 name:o.name.size<=90000
 params:∀ v∈o.params,v.name.size<=90000
 slots:∀ v∈o.slots,v.name.size<=90000
 refs:∀ v∈o.refs,v.name.size<=90000
def Kv (w:World) (o:aO) (e:Ending) (w':World):Prop:=(jZ o≠0/\e = .returned (.tuple #[.slice none 0 0,.int .i64 (jZ o)])/\Grow w w')\/(jZ o=0/\∃ a c,e = .returned (.tuple #[.slice a (oC o).length c,.int .i64 0])/\eu w' w.heap.size (.slice a (oC o).length c) (oC o)/\Grow w w')
set_option maxRecDepth 100000 in
set_option maxHeartbeats 25600000 in
theorem _v (o:gT) (w:World) (ho:lS w o) (ht:cZ w) (hs:Ku o.d):Calls Tryz.prog 21 #[o.val] w (Kv w o.d):=by
 have HO:=Lib.hid ho
 obtain⟨pa,kE,hpv,Kj,Kk⟩:=ho.params.form
 obtain⟨sa,jI,hsv,Kl,Km⟩:=ho.slots.form
 obtain⟨ca,eX,hcv,ED,EF⟩:=ho.code.form
 obtain⟨ra,fw,Cv,EH,hrlen⟩:=ho.refs.form
 have uJ:=Lib.hid (λ(z:World) (hz:Grow w z)=>Ym o z (ht.later hz) (ho.later hz))
 have MV:=Lib.hid (λ(z:World) (hz:Grow w z)=>Pq o.cv o.d.code z (ho.code.later hz) (λi hi=>(ho.ok.code i hi).1) (ht.later hz))
 have iw:=Lib.hid hs.tot
 have jA:=Lib.hid hs.name
 have WQ:=Lib.hid hs.params
 have WR:=Lib.hid hs.slots
 have WS:=Lib.hid hs.refs
 have Hf:=Lib.hid (jZ.eq_1 o.d)
 have MW:=Lib.hid (show oC o.d=wF o.d (wA o.d.code)from rfl)
 have Da:=Lib.hid (show ∀ e w',Kv w o.d e w'=((jZ o.d≠0/\e = .returned (.tuple #[.slice none 0 0,.int .i64 (jZ o.d)])/\Grow w w')\/(jZ o.d=0/\∃ a c,e = .returned (.tuple #[.slice a (oC o.d).length c,.int .i64 0])/\eu w' w.heap.size (.slice a (oC o.d).length c) (oC o.d)/\Grow w w'))from λ_ _=>rfl)
 clear ho ht hs
 generalize Kv w o.d=EG at *
 obtain⟨⟨s,ps,ss,cl,st,co,rf⟩,pv,sv,cv,rv⟩:=o
 simp only at hpv hsv hcv Cv Kk Km EF hrlen Kj Kl ED EH iw jA WQ WR WS Hf MW MV
 subst hpv hsv hcv Cv
 simp only[gT.val]at uJ ⊢
 generalize aO.kI ⟨s,ps,ss,cl,st,co,rf⟩=CK at *
 generalize jZ ⟨s,ps,ss,cl,st,co,rf⟩=EE at *
 generalize oC ⟨s,ps,ss,cl,st,co,rf⟩=gq at *
 have aP:=Lib.hid (show Grow w (w.alloc (.cells #[.string s,.slice pa ps.length kE,.slice sa ss.length jI,.int .i64 cl,.int .i64 st,.slice ca co.length eX,.slice ra rf.length fw] 39))from(Mv.refl _ w).alloc _)
 have HB1:=Lib.hid (heap_alloc_new w (.cells #[.string s,.slice pa ps.length kE,.slice sa ss.length jI,.int .i64 cl,.int .i64 st,.slice ca co.length eX,.slice ra rf.length fw] 39))
 go_enter Tryz.func21,Tryz.ntmps21
 go_upto_region 1 with fail
 generalize (w.alloc (.cells #[.string s,.slice pa ps.length kE,.slice sa ss.length jI,.int .i64 cl,.int .i64 st,.slice ca co.length eX,.slice ra rf.length fw] 39))=w1 at *
 obtain⟨⟨x0,x1,x2⟩,⟨x3,x4⟩,x5,x6⟩:=mP HB1.out
 have hxl:=lt_of_block HB1.out
 go_wp2_with fail
 refine(uJ.out _ aP.out).mono ?_
 rintro e w2 ⟨rfl,hg⟩
 clear x0 x1 x2 x3 x4 x5 x6 hxl
 have HG2:=Lib.hid (gtr aP.out hg)
 have HB2:=Lib.hid (aJ HB1.out hg)
 clear hg uJ aP HB1
 by_cases hck:CK=0
 case neg =>
  have HZ:=Lib.hid (show EG (.returned (.tuple #[.slice none 0 0,.int .i64 CK])) w2 from by
   have h1:EE=CK:=by rw[Hf.out,if_pos hck]
   rw[Da.out,h1];exact .inl ⟨hck,rfl,HG2.out⟩)
  have d0:(CK != 0)=true:=by simpa using hck
  have d1:(CK == 0)=false:=by simpa using hck
  clear hck
  go_wp2_with fail
  first|exact HZ.out|(go_ret2;exact HZ.out)
 have FD:=Lib.hid (show EE=_ from by rw[Hf.out,if_neg (by simpa using hck)])
 subst hck
 clear Hf
 obtain⟨⟨x0,x1,x2⟩,⟨x3,x4⟩,x5,x6⟩:=mP HB2.out
 have hxl:=lt_of_block HB2.out
 go_wp2_with fail
 refine(MV.out _ HG2.out).mono ?_
 clear x0 x1 x2 x3 x4 x5 x6 hxl
 rintro e w4 (⟨hac,rfl,hg⟩|⟨hac,ba,bc,rfl,hrow,hg⟩)
 · have HZ:=Lib.hid (show EG (.returned (.tuple #[.slice none 0 0,.int .i64 5])) w4 from by
    have h1:EE=5:=by rw[FD.out,if_pos (.inl hac)]
    rw[Da.out,h1];exact .inl ⟨by decide,rfl,gtr HG2.out hg⟩)
   have d0:(jc co != 0)=true:=by simpa using hac
   have d1:(jc co == 0)=false:=by simpa using hac
   clear hac hg
   go_wp2_with fail
   first|exact HZ.out|(go_ret2;exact HZ.out)
 have Db:=Lib.hid (gtr HG2.out hg)
 have Dc:=Lib.hid (aJ HB2.out hg)
 have HCB:=Lib.hid (Ng mF hrow)
 have MX:=Lib.hid (HO.out.later Db.out)
 clear hrow hg HB2 HG2 MV HO
 by_cases hbig:65535<ss.length
 · have HZ:=Lib.hid (show EG (.returned (.tuple #[.slice none 0 0,.int .i64 5])) w4 from by
    have h1:EE=5:=by rw[FD.out,if_pos (.inr hbig)]
    rw[Da.out,h1];exact .inl ⟨by decide,rfl,Db.out⟩)
   have d0:(65535:Int)<(ss.length:Nat):=by omega
   clear hac
   obtain⟨⟨x0,x1,x2⟩,⟨x3,x4⟩,x5,x6⟩:=mP Dc.out
   have hxl:=lt_of_block Dc.out
   go_wp2_with fail
   first|exact HZ.out|(go_ret2;exact HZ.out)
 have d0:¬ (65535:Int)<(ss.length:Nat):=by omega
 have nH:=Lib.hid (show EE=_ from by rw[FD.out,if_neg (λh=>h.elim (λh=>h hac) hbig)])
 generalize adL:wA co=cz at *
 have adM:=Lib.hid (show wS s ++ (ah ps.length 1 ++ (ps.flatMap wV ++ (ah cl 4 ++ (ah st 4 ++ (ah ss.length 2 ++ (ss.flatMap cO ++ (ah cz.length 4 ++ (cz ++ (ah rf.length 4 ++ rf.flatMap wR)))))))))=gq from by rw[MW.out];simp only[wF,List.append_assoc])
 clear FD hac adL hbig MW
 have HC:=Lib.hid (Dj w4.heap.size (.slice none 0 0) [] s w4 (World.ownsRow_nil _ _ _ _) (Nat.le_refl _) (by simp) (jA.out))
 obtain⟨⟨x0,x1,x2⟩,⟨x3,x4⟩,x5,x6⟩:=mP Dc.out
 have hxl:=lt_of_block Dc.out
 go_wp2_with fail
 refine HC.out.mono ?_
 rintro e acA ⟨qa1,qc1,rfl,hr,hm⟩
 clear x0 x1 x2 x3 x4 x5 x6 hxl
 have hpt:([] ++ ah s.size 1 ++ cK s) ++ (ah ps.length 1 ++ (ps.flatMap wV ++ (ah cl 4 ++ (ah st 4 ++ (ah ss.length 2 ++ (ss.flatMap cO ++ (ah cz.length 4 ++ (cz ++ (ah rf.length 4 ++ rf.flatMap wR)))))))))=gq:=by have h:=adM.out;simp only[List.append_assoc,wS,List.nil_append]at h ⊢;exact h
 generalize ([]:List Int) ++ ah (s.size:Int) 1 ++ cK s=P1 at *
 have Sl:=Lib.hid hr
 have uF:=Lib.hid hm
 have TT:=Lib.hid hpt
 have Li:=Lib.hid hm.size
 have TU:=Lib.hid (iP hpt iw.out)
 have FE:=Lib.hid (aJ Dc.out hm.new)
 clear hr hm hpt HC
 have HC:=Lib.hid (lF w4.heap.size (.slice qa1 P1.length qc1) P1 ((ps.length:Nat)) 1 acA Sl.out Li.out (by have:=TU.out;omega) (by decide))
 obtain⟨⟨x0,x1,x2⟩,⟨x3,x4⟩,x5,x6⟩:=mP FE.out
 have hxl:=lt_of_block FE.out
 go_wp2_with fail
 refine HC.out.mono ?_
 rintro e agy ⟨qa2,qc2,rfl,hr,hm⟩
 clear x0 x1 x2 x3 x4 x5 x6 hxl
 have hpt:(P1 ++ ah ((ps.length:Nat)) 1) ++ (ps.flatMap wV ++ (ah cl 4 ++ (ah st 4 ++ (ah ss.length 2 ++ (ss.flatMap cO ++ (ah cz.length 4 ++ (cz ++ (ah rf.length 4 ++ rf.flatMap wR))))))))=gq:=by have h:=TT.out;simp only[List.append_assoc]at h ⊢;exact h
 generalize P1 ++ ah ((ps.length:Nat)) 1=P2 at *
 have Sn:=Lib.hid hr
 have rR:=Lib.hid (uF.out.trans hm)
 have TV:=Lib.hid hpt
 have adN:=Lib.hid (Nat.le_trans Li.out hm.size)
 have adO:=Lib.hid (iP hpt iw.out)
 have FH:=Lib.hid (hm.keep FE.out (by decide))
 clear hr hm hpt HC Sl uF TT Li TU FE
 obtain⟨⟨x0,x1,x2⟩,⟨x3,x4⟩,x5,x6⟩:=mP FH.out
 have hxl:=lt_of_block FH.out
 go_wp2_with fail
 clear x0 x1 x2 x3 x4 x5 x6 hxl
 go_loopw [7,47] (λbv t wr=>∃ (k:Nat) (P:List Int) (qa:Option Addr) (qc:Nat),t = .int .i64 k/\k<=ps.length/\bv = .slice qa P.length qc/\P ++ ((ps.drop k).flatMap wV ++ (ah cl 4 ++ (ah st 4 ++ (ah ss.length 2 ++ (ss.flatMap cO ++ (ah cz.length 4 ++ (cz ++ (ah rf.length 4 ++ rf.flatMap wR))))))))=gq/\eu wr w4.heap.size (.slice qa P.length qc) P/\bq w4.heap.size w4 wr/\wr.heap[w.heap.size]? = some (.cells #[.string s,.slice pa ps.length kE,.slice sa ss.length jI,.int .i64 cl,.int .i64 st,.slice ca co.length eX,.slice ra rf.length fw] 39 (0,0))) (λ_ t _=>ps.length - (intOf t).toNat)
 case atStart=>exact⟨0,P2,qa2,qc2,rfl,Nat.zero_le _,rfl,by rw[List.drop_zero];exact TV.out,Sn.out,rR.out,FH.out⟩
 obtain⟨k,P3,WT,qc3,rfl,hk,rfl,hpt,hrow,hmv,hbx⟩:=hrel
 have vY:=Lib.hid hrow
 have jN:=Lib.hid hmv
 have zb:=Lib.hid hpt
 have rF:=Lib.hid hmv.size
 have FI:=Lib.hid (iP hpt iw.out)
 have rG:=Lib.hid hbx
 clear hrow hmv hpt hbx Sn rR TV adN adO FH
 by_cases hlt:k<ps.length
 · have hkk:(k:Int)<(ps.length:Nat):=by omega
   obtain⟨b0,off,cap',e,_,hcc⟩:=(MX.out.params.later jN.out.new).at hlt
   simp only[Value.slice.injEq,true_and]at e
   obtain⟨rfl,rfl⟩:=e
   have s0:=hcc 0 _ rfl
   have s1:=hcc 1 _ rfl
   have s2:=hcc 2 _ rfl
   simp only[Nat.add_zero]at s0
   have yX:=World.block_lt_of_cell? wr _ s0
   have HDR:=Lib.hid (show ps.drop k=ps[k] :: ps.drop (k+1)from List.drop_eq_getElem_cons hlt)
   rw[HDR.out,List.flatMap_cons,List.append_assoc]at zb
   have nz:=Lib.hid (WQ.out ps[k] (List.getElem_mem hlt))
   clear hcc HDR
   generalize ps[k]=x at *
   obtain⟨vn,vk,vl⟩:=x
   simp only at s0 s1 s2 nz
   have hga:Grow wr (wr.alloc (.cells #[.string vn,.int .u8 vk,.int .i64 vl] 75)):=(Mv.refl _ _).alloc _
   have Hg:=Lib.hid (heap_alloc_new wr (.cells #[.string vn,.int .u8 vk,.int .i64 vl] 75))
   have Rv:=Lib.hid (fQ vY.out hga (λ_ _ e=>e))
   have TW:=Lib.hid (jN.out.trans (bq.grow hga))
   have Sq:=Lib.hid (aJ rG.out hga)
   have Sr:=Lib.hid (Nat.le_trans rF.out hga.size)
   clear hga
   go_upto_region 13 with fail
   generalize (wr.alloc (.cells #[.string vn,.int .u8 vk,.int .i64 vl] 75))=w1 at *
   generalize wr.heap.size=AV at *
   clear s0 s1 s2 yX vY jN rG rF
   have vY:=Rv
   have jN:=TW
   have rG:=Sq
   have rF:=Sr
   clear Rv TW Sq Sr
   have HC:=Lib.hid (Dj w4.heap.size (.slice WT P3.length qc3) P3 vn w1 vY.out rF.out (by have:=FI.out;omega) (by have:=nz.out;omega))
   obtain⟨z0,z1,z2⟩:=Kr Hg.out
   have zl:=lt_of_block Hg.out
   go_wp2_with fail
   refine HC.out.mono ?_
   rintro e acB ⟨qa4,qc4,rfl,hr,hm⟩
   clear z0 z1 z2 zl
   have hpt:(P3 ++ ah vn.size 1 ++ cK vn) ++ (ah (vk) 1 ++ (ah (vl) 1 ++ ((ps.drop (k+1)).flatMap wV ++ (ah cl 4 ++ (ah st 4 ++ (ah ss.length 2 ++ (ss.flatMap cO ++ (ah cz.length 4 ++ (cz ++ (ah rf.length 4 ++ rf.flatMap wR))))))))))=gq:=by have h:=zb.out;simp only[List.append_assoc,wS,wV,cO,wR]at h ⊢;exact h
   generalize P3 ++ ah (vn.size:Int) 1 ++ cK vn=P4 at *
   have Su:=Lib.hid hr
   have G7:=Lib.hid (jN.out.trans hm)
   have TY:=Lib.hid hpt
   have Lj:=Lib.hid (Nat.le_trans rF.out hm.size)
   have TZ:=Lib.hid (iP hpt iw.out)
   have T9:=Lib.hid (hm.keep rG.out (by decide))
   have Hl:=Lib.hid (hm.keep Hg.out (by decide))
   clear hr hm hpt HC vY jN zb rF FI rG Hg
   have HC:=Lib.hid (lF w4.heap.size (.slice qa4 P4.length qc4) P4 (wrap64 vk) 1 acB Su.out Lj.out (by have:=TZ.out;omega) (by decide))
   obtain⟨z0,z1,z2⟩:=Kr Hl.out
   have zl:=lt_of_block Hl.out
   go_wp2_with fail
   refine HC.out.mono ?_
   rintro e acC ⟨qa5,qc5,rfl,hr,hm⟩
   clear z0 z1 z2 zl
   rw[OD]at hr ⊢
   have hpt:(P4 ++ ah (vk) 1) ++ (ah (vl) 1 ++ ((ps.drop (k+1)).flatMap wV ++ (ah cl 4 ++ (ah st 4 ++ (ah ss.length 2 ++ (ss.flatMap cO ++ (ah cz.length 4 ++ (cz ++ (ah rf.length 4 ++ rf.flatMap wR)))))))))=gq:=by have h:=TY.out;simp only[List.append_assoc]at h ⊢;exact h
   generalize P4 ++ ah (vk) 1=P5 at *
   have Sv:=Lib.hid hr
   have CG:=Lib.hid (G7.out.trans hm)
   have Ua:=Lib.hid hpt
   have Ll:=Lib.hid (Nat.le_trans Lj.out hm.size)
   have Ub:=Lib.hid (iP hpt iw.out)
   have Uc:=Lib.hid (hm.keep T9.out (by decide))
   have HV5:=Lib.hid (hm.keep Hl.out (by decide))
   clear hr hm hpt HC Su G7 TY Lj TZ T9 Hl
   have HC:=Lib.hid (lF w4.heap.size (.slice qa5 P5.length qc5) P5 (vl) 1 acC Sv.out Ll.out (by have:=Ub.out;omega) (by decide))
   obtain⟨z0,z1,z2⟩:=Kr HV5.out
   have zl:=lt_of_block HV5.out
   go_wp2_with fail
   refine HC.out.mono ?_
   rintro e agz ⟨qa6,qc6,rfl,hr,hm⟩
   clear z0 z1 z2 zl
   have hpt:(P5 ++ ah (vl) 1) ++ ((ps.drop (k+1)).flatMap wV ++ (ah cl 4 ++ (ah st 4 ++ (ah ss.length 2 ++ (ss.flatMap cO ++ (ah cz.length 4 ++ (cz ++ (ah rf.length 4 ++ rf.flatMap wR))))))))=gq:=by have h:=Ua.out;simp only[List.append_assoc]at h ⊢;exact h
   generalize P5 ++ ah (vl) 1=P6 at *
   have acD:=Lib.hid hr
   have HM6:=Lib.hid (CG.out.trans hm)
   have adP:=Lib.hid hpt
   have ag9:=Lib.hid (Nat.le_trans Ll.out hm.size)
   have aha:=Lib.hid (iP hpt iw.out)
   have adQ:=Lib.hid (hm.keep Uc.out (by decide))
   have HV6:=Lib.hid (hm.keep HV5.out (by decide))
   clear hr hm hpt HC Sv CG Ua Ll Ub Uc HV5
   go_wp2_with fail
   go_roundw
   case rel=>exact⟨k+1,P6,qa6,qc6,by go_num,by omega,rfl,adP.out,acD.out,HM6.out,adQ.out⟩
   case measure=>(simp[intOf] <;> omega)
 · obtain rfl:k=ps.length:=by omega
   have hlt':¬ ((ps.length:Int)<(ps.length:Nat)):=by omega
   rw[List.drop_of_length_le (Nat.le_refl _),List.flatMap_nil,List.nil_append]at zb
   have HC:=Lib.hid (lF w4.heap.size (.slice WT P3.length qc3) P3 (cl) 4 wr vY.out rF.out (by have:=FI.out;omega) (by decide))
   obtain⟨⟨x0,x1,x2⟩,⟨x3,x4⟩,x5,x6⟩:=mP rG.out
   have hxl:=lt_of_block rG.out
   go_wp2_with fail
   refine HC.out.mono ?_
   rintro e acE ⟨qa7,qc7,rfl,hr,hm⟩
   clear x0 x1 x2 x3 x4 x5 x6 hxl
   have hpt:(P3 ++ ah (cl) 4) ++ (ah st 4 ++ (ah ss.length 2 ++ (ss.flatMap cO ++ (ah cz.length 4 ++ (cz ++ (ah rf.length 4 ++ rf.flatMap wR))))))=gq:=by have h:=zb.out;simp only[List.append_assoc]at h ⊢;exact h
   generalize P3 ++ ah (cl) 4=P7 at *
   have Sw:=Lib.hid hr
   have zT:=Lib.hid (jN.out.trans hm)
   have Ud:=Lib.hid hpt
   have Lm:=Lib.hid (Nat.le_trans rF.out hm.size)
   have Ue:=Lib.hid (iP hpt iw.out)
   have FJ:=Lib.hid (hm.keep rG.out (by decide))
   clear hr hm hpt HC vY jN zb rF FI rG
   have HC:=Lib.hid (lF w4.heap.size (.slice qa7 P7.length qc7) P7 (st) 4 acE Sw.out Lm.out (by have:=Ue.out;omega) (by decide))
   obtain⟨⟨x0,x1,x2⟩,⟨x3,x4⟩,x5,x6⟩:=mP FJ.out
   have hxl:=lt_of_block FJ.out
   go_wp2_with fail
   refine HC.out.mono ?_
   rintro e acF ⟨qa8,qc8,rfl,hr,hm⟩
   clear x0 x1 x2 x3 x4 x5 x6 hxl
   have hpt:(P7 ++ ah (st) 4) ++ (ah ss.length 2 ++ (ss.flatMap cO ++ (ah cz.length 4 ++ (cz ++ (ah rf.length 4 ++ rf.flatMap wR)))))=gq:=by have h:=Ud.out;simp only[List.append_assoc]at h ⊢;exact h
   generalize P7 ++ ah (st) 4=P8 at *
   have Sy:=Lib.hid hr
   have WU:=Lib.hid (zT.out.trans hm)
   have Uf:=Lib.hid hpt
   have Lp:=Lib.hid (Nat.le_trans Lm.out hm.size)
   have Ug:=Lib.hid (iP hpt iw.out)
   have FK:=Lib.hid (hm.keep FJ.out (by decide))
   clear hr hm hpt HC Sw zT Ud Lm Ue FJ
   have HC:=Lib.hid (lF w4.heap.size (.slice qa8 P8.length qc8) P8 ((ss.length:Nat)) 2 acF Sy.out Lp.out (by have:=Ug.out;omega) (by decide))
   obtain⟨⟨x0,x1,x2⟩,⟨x3,x4⟩,x5,x6⟩:=mP FK.out
   have hxl:=lt_of_block FK.out
   go_wp2_with fail
   refine HC.out.mono ?_
   rintro e agA ⟨qa9,qc9,rfl,hr,hm⟩
   clear x0 x1 x2 x3 x4 x5 x6 hxl
   have hpt:(P8 ++ ah ((ss.length:Nat)) 2) ++ (ss.flatMap cO ++ (ah cz.length 4 ++ (cz ++ (ah rf.length 4 ++ rf.flatMap wR))))=gq:=by have h:=Uf.out;simp only[List.append_assoc]at h ⊢;exact h
   generalize P8 ++ ah ((ss.length:Nat)) 2=P9 at *
   have Sz:=Lib.hid hr
   have WV:=Lib.hid (WU.out.trans hm)
   have Uh:=Lib.hid hpt
   have adR:=Lib.hid (Nat.le_trans Lp.out hm.size)
   have adS:=Lib.hid (iP hpt iw.out)
   have FL:=Lib.hid (hm.keep FK.out (by decide))
   clear hr hm hpt HC Sy WU Uf Lp Ug FK
   obtain⟨⟨x0,x1,x2⟩,⟨x3,x4⟩,x5,x6⟩:=mP FL.out
   have hxl:=lt_of_block FL.out
   go_wp2_with fail
   clear x0 x1 x2 x3 x4 x5 x6 hxl
   go_loopw [7,85] (λbv t wr=>∃ (k:Nat) (P:List Int) (qa:Option Addr) (qc:Nat),t = .int .i64 k/\k<=ss.length/\bv = .slice qa P.length qc/\P ++ ((ss.drop k).flatMap cO ++ (ah cz.length 4 ++ (cz ++ (ah rf.length 4 ++ rf.flatMap wR))))=gq/\eu wr w4.heap.size (.slice qa P.length qc) P/\bq w4.heap.size w4 wr/\wr.heap[w.heap.size]? = some (.cells #[.string s,.slice pa ps.length kE,.slice sa ss.length jI,.int .i64 cl,.int .i64 st,.slice ca co.length eX,.slice ra rf.length fw] 39 (0,0))) (λ_ t _=>ss.length - (intOf t).toNat)
   case atStart=>exact⟨0,P9,qa9,qc9,rfl,Nat.zero_le _,rfl,by rw[List.drop_zero];exact Uh.out,Sz.out,WV.out,FL.out⟩
   obtain⟨k,uW,Ui,Uj,rfl,hk,rfl,hpt,hrow,hmv,hbx⟩:=hrel
   have vP:=Lib.hid hrow
   have uo:=Lib.hid hmv
   have yJ:=Lib.hid hpt
   have rz:=Lib.hid hmv.size
   have EN:=Lib.hid (iP hpt iw.out)
   have vZ:=Lib.hid hbx
   clear hrow hmv hpt hbx Sz WV Uh adR adS FL
   by_cases hlt:k<ss.length
   · have hkk:(k:Int)<(ss.length:Nat):=by omega
     obtain⟨b0,off,cap',e,_,hcc⟩:=(MX.out.slots.later uo.out.new).at hlt
     simp only[Value.slice.injEq,true_and]at e
     obtain⟨rfl,rfl⟩:=e
     have s0:=hcc 0 _ rfl
     have s1:=hcc 1 _ rfl
     have s2:=hcc 2 _ rfl
     have s3:=hcc 3 _ rfl
     simp only[Nat.add_zero]at s0
     have yX:=World.block_lt_of_cell? wr _ s0
     have HDR:=Lib.hid (show ss.drop k=ss[k] :: ss.drop (k+1)from List.drop_eq_getElem_cons hlt)
     rw[HDR.out,List.flatMap_cons,List.append_assoc]at yJ
     have nz:=Lib.hid (WR.out ss[k] (List.getElem_mem hlt))
     clear hcc HDR
     generalize ss[k]=x at *
     obtain⟨vn,vk,vl,va⟩:=x
     simp only at s0 s1 s2 s3 nz
     have hga:Grow wr (wr.alloc (.cells #[.string vn,.int .u8 vk,.int .i64 vl,.int .i64 va] 89)):=(Mv.refl _ _).alloc _
     have FM:=Lib.hid (heap_alloc_new wr (.cells #[.string vn,.int .u8 vk,.int .i64 vl,.int .i64 va] 89))
     have QD:=Lib.hid (fQ vP.out hga (λ_ _ e=>e))
     have SA:=Lib.hid (uo.out.trans (bq.grow hga))
     have Rw:=Lib.hid (aJ vZ.out hga)
     have Rx:=Lib.hid (Nat.le_trans rz.out hga.size)
     clear hga
     go_upto_region 23 with fail
     generalize (wr.alloc (.cells #[.string vn,.int .u8 vk,.int .i64 vl,.int .i64 va] 89))=w1 at *
     generalize wr.heap.size=AV at *
     clear s0 s1 s2 s3 yX vP uo vZ rz
     have vP:=QD
     have uo:=SA
     have vZ:=Rw
     have rz:=Rx
     clear QD SA Rw Rx
     have HC:=Lib.hid (Dj w4.heap.size (.slice Ui uW.length Uj) uW vn w1 vP.out rz.out (by have:=EN.out;omega) (by have:=nz.out;omega))
     obtain⟨⟨z0,z1⟩,z2,z3⟩:=fE FM.out
     have zl:=lt_of_block FM.out
     go_wp2_with fail
     refine HC.out.mono ?_
     rintro e acG ⟨adT,adU,rfl,hr,hm⟩
     clear z0 z1 z2 z3 zl
     have hpt:(uW ++ ah vn.size 1 ++ cK vn) ++ (ah (vk) 1 ++ (ah (vl) 1 ++ (ah (va) 4 ++ ((ss.drop (k+1)).flatMap cO ++ (ah cz.length 4 ++ (cz ++ (ah rf.length 4 ++ rf.flatMap wR)))))))=gq:=by have h:=yJ.out;simp only[List.append_assoc,wS,wV,cO,wR]at h ⊢;exact h
     generalize uW ++ ah (vn.size:Int) 1 ++ cK vn=Hm at *
     have Ry:=Lib.hid hr
     have Uk:=Lib.hid (uo.out.trans hm)
     have SB:=Lib.hid hpt
     have Kw:=Lib.hid (Nat.le_trans rz.out hm.size)
     have SC:=Lib.hid (iP hpt iw.out)
     have SE:=Lib.hid (hm.keep vZ.out (by decide))
     have FO:=Lib.hid (hm.keep FM.out (by decide))
     clear hr hm hpt HC vP uo yJ rz EN vZ FM
     have HC:=Lib.hid (lF w4.heap.size (.slice adT Hm.length adU) Hm (wrap64 vk) 1 acG Ry.out Kw.out (by have:=SC.out;omega) (by decide))
     obtain⟨⟨z0,z1⟩,z2,z3⟩:=fE FO.out
     have zl:=lt_of_block FO.out
     go_wp2_with fail
     refine HC.out.mono ?_
     rintro e acH ⟨adV,adW,rfl,hr,hm⟩
     clear z0 z1 z2 z3 zl
     rw[OD]at hr ⊢
     have hpt:(Hm ++ ah (vk) 1) ++ (ah (vl) 1 ++ (ah (va) 4 ++ ((ss.drop (k+1)).flatMap cO ++ (ah cz.length 4 ++ (cz ++ (ah rf.length 4 ++ rf.flatMap wR))))))=gq:=by have h:=SB.out;simp only[List.append_assoc]at h ⊢;exact h
     generalize Hm ++ ah (vk) 1=Ho at *
     have Rz:=Lib.hid hr
     have Ul:=Lib.hid (Uk.out.trans hm)
     have SF:=Lib.hid hpt
     have Ky:=Lib.hid (Nat.le_trans Kw.out hm.size)
     have SG:=Lib.hid (iP hpt iw.out)
     have SH:=Lib.hid (hm.keep SE.out (by decide))
     have FP:=Lib.hid (hm.keep FO.out (by decide))
     clear hr hm hpt HC Ry Uk SB Kw SC SE FO
     have HC:=Lib.hid (lF w4.heap.size (.slice adV Ho.length adW) Ho (vl) 1 acH Rz.out Ky.out (by have:=SG.out;omega) (by decide))
     obtain⟨⟨z0,z1⟩,z2,z3⟩:=fE FP.out
     have zl:=lt_of_block FP.out
     go_wp2_with fail
     refine HC.out.mono ?_
     rintro e acI ⟨adX,adY,rfl,hr,hm⟩
     clear z0 z1 z2 z3 zl
     have hpt:(Ho ++ ah (vl) 1) ++ (ah (va) 4 ++ ((ss.drop (k+1)).flatMap cO ++ (ah cz.length 4 ++ (cz ++ (ah rf.length 4 ++ rf.flatMap wR)))))=gq:=by have h:=SF.out;simp only[List.append_assoc]at h ⊢;exact h
     generalize Ho ++ ah (vl) 1=Hq at *
     have RA:=Lib.hid hr
     have Um:=Lib.hid (Ul.out.trans hm)
     have SI:=Lib.hid hpt
     have Kz:=Lib.hid (Nat.le_trans Ky.out hm.size)
     have SK:=Lib.hid (iP hpt iw.out)
     have SL:=Lib.hid (hm.keep SH.out (by decide))
     have FQ:=Lib.hid (hm.keep FP.out (by decide))
     clear hr hm hpt HC Rz Ul SF Ky SG SH FP
     have HC:=Lib.hid (lF w4.heap.size (.slice adX Hq.length adY) Hq (va) 4 acI RA.out Kz.out (by have:=SK.out;omega) (by decide))
     obtain⟨⟨z0,z1⟩,z2,z3⟩:=fE FQ.out
     have zl:=lt_of_block FQ.out
     go_wp2_with fail
     refine HC.out.mono ?_
     rintro e agB ⟨adZ,ad1,rfl,hr,hm⟩
     clear z0 z1 z2 z3 zl
     have hpt:(Hq ++ ah (va) 4) ++ ((ss.drop (k+1)).flatMap cO ++ (ah cz.length 4 ++ (cz ++ (ah rf.length 4 ++ rf.flatMap wR))))=gq:=by have h:=SI.out;simp only[List.append_assoc]at h ⊢;exact h
     generalize Hq ++ ah (va) 4=P14 at *
     have abS:=Lib.hid hr
     have ad2:=Lib.hid (Um.out.trans hm)
     have acJ:=Lib.hid hpt
     have agC:=Lib.hid (Nat.le_trans Kz.out hm.size)
     have agD:=Lib.hid (iP hpt iw.out)
     have acK:=Lib.hid (hm.keep SL.out (by decide))
     have ahb:=Lib.hid (hm.keep FQ.out (by decide))
     clear hr hm hpt HC RA Um SI Kz SK SL FQ
     go_wp2_with fail
     go_roundw
     case rel=>exact⟨k+1,P14,adZ,ad1,by go_num,by omega,rfl,acJ.out,abS.out,ad2.out,acK.out⟩
     case measure=>(simp[intOf] <;> omega)
   · obtain rfl:k=ss.length:=by omega
     have hlt':¬ ((ss.length:Int)<(ss.length:Nat)):=by omega
     rw[List.drop_of_length_le (Nat.le_refl _),List.flatMap_nil,List.nil_append]at yJ
     have HC:=Lib.hid (lF w4.heap.size (.slice Ui uW.length Uj) uW ((cz.length:Nat)) 4 wr vP.out rz.out (by have:=EN.out;omega) (by decide))
     go_wp2_with fail
     refine HC.out.mono ?_
     rintro e acL ⟨ad3,ad4,rfl,hr,hm⟩
     have hpt:(uW ++ ah ((cz.length:Nat)) 4) ++ (cz ++ (ah rf.length 4 ++ rf.flatMap wR))=gq:=by have h:=yJ.out;simp only[List.append_assoc]at h ⊢;exact h
     generalize uW ++ ah ((cz.length:Nat)) 4=zZ at *
     have JP:=Lib.hid hr
     have Lr:=Lib.hid (uo.out.trans hm)
     have KA:=Lib.hid hpt
     have KC:=Lib.hid (Nat.le_trans rz.out hm.size)
     have acM:=Lib.hid (iP hpt iw.out)
     have SN:=Lib.hid (hm.keep vZ.out (by decide))
     clear hr hm hpt HC vP uo yJ rz EN vZ
     obtain⟨Un,Uo,SQ,⟨hok,iI,haw⟩,hr,hm1,-⟩:=nL Tryz.yf (f:=aL) mF (.slice ad3 zZ.length ad4) (.slice ba cz.length bc) zZ cz w4.heap.size acL JP.out (HCB.out.later Lr.out.new) (λy hy u hu=>by simp[aL]at hu;subst hu;rfl) KC.out (by have h1:=congrArg List.length KA.out;have h2:=iw.out;rw[List.length_append,List.length_append]at h1;omega)
     have hm:=bq.own JP.out hm1
     have hpt:(zZ ++ cz) ++ (ah rf.length 4 ++ rf.flatMap wR)=gq:=by have h:=KA.out;simp only[List.append_assoc]at h ⊢;exact h
     have GM:=Lib.hid (show zZ.length+cz.length=(zZ ++ cz).length from by simp)
     rw[GM.out]at hr iI
     clear hm1
     generalize zZ ++ cz=z8 at *
     have RB:=Lib.hid (show eu SQ w4.heap.size (.slice Un z8.length Uo) z8 from hr)
     have Uq:=Lib.hid (Lr.out.trans hm)
     have SS:=Lib.hid hpt
     have KD:=Lib.hid (Nat.le_trans KC.out hm.size)
     have SV:=Lib.hid (iP hpt iw.out)
     have EO:=Lib.hid (hm.keep SN.out (by decide))
     clear hr hm hpt JP Lr KA KC acM SN GM
     have HC:=Lib.hid (lF w4.heap.size (.slice Un z8.length Uo) z8 ((rf.length:Nat)) 4 SQ RB.out KD.out (by have:=SV.out;omega) (by decide))
     obtain⟨⟨x0,x1,x2⟩,⟨x3,x4⟩,x5,x6⟩:=mP EO.out
     have hxl:=lt_of_block EO.out
     go_wp2_with fail
     refine HC.out.mono ?_
     rintro e agE ⟨ad5,ad6,rfl,hr,hm⟩
     clear x0 x1 x2 x3 x4 x5 x6 hxl
     have hpt:(z8 ++ ah ((rf.length:Nat)) 4) ++ (rf.flatMap wR)=gq:=by have h:=SS.out;simp only[List.append_assoc]at h ⊢;exact h
     generalize z8 ++ ah ((rf.length:Nat)) 4=P17 at *
     have RD:=Lib.hid hr
     have Ur:=Lib.hid (Uq.out.trans hm)
     have SX:=Lib.hid hpt
     have acN:=Lib.hid (Nat.le_trans KD.out hm.size)
     have acO:=Lib.hid (iP hpt iw.out)
     have EP:=Lib.hid (hm.keep EO.out (by decide))
     clear hr hm hpt HC RB Uq SS KD SV EO
     obtain⟨⟨x0,x1,x2⟩,⟨x3,x4⟩,x5,x6⟩:=mP EP.out
     have hxl:=lt_of_block EP.out
     go_wp2_with fail
     clear x0 x1 x2 x3 x4 x5 x6 hxl
     go_loopw [7,124] (λbv t wr=>∃ (k:Nat) (P:List Int) (qa:Option Addr) (qc:Nat),t = .int .i64 k/\k<=rf.length/\bv = .slice qa P.length qc/\P ++ ((rf.drop k).flatMap wR ++ ([]))=gq/\eu wr w4.heap.size (.slice qa P.length qc) P/\bq w4.heap.size w4 wr/\wr.heap[w.heap.size]? = some (.cells #[.string s,.slice pa ps.length kE,.slice sa ss.length jI,.int .i64 cl,.int .i64 st,.slice ca co.length eX,.slice ra rf.length fw] 39 (0,0))/\(rf.take k).all (λr=>decide (r.name.size<=255))=true) (λ_ t _=>rf.length - (intOf t).toNat)
     case atStart=>exact⟨0,P17,ad5,ad6,rfl,Nat.zero_le _,rfl,by rw[List.drop_zero,List.append_nil];exact SX.out,RD.out,Ur.out,EP.out,by rw[List.take_zero];rfl⟩
     obtain⟨k,De,Us,Ut,rfl,hk,rfl,hpt,hrow,hmv,hbx,hal⟩:=hrel
     have yB:=Lib.hid hrow
     have uq:=Lib.hid hmv
     have yK:=Lib.hid hpt
     have yL:=Lib.hid hmv.size
     have SY:=Lib.hid (iP hpt iw.out)
     have Br:=Lib.hid hbx
     have zP:=Lib.hid hal
     clear hal hrow hmv hpt hbx RD Ur SX acN acO EP
     by_cases hlt:k<rf.length
     · have hkk:(k:Int)<(rf.length:Nat):=by omega
       obtain⟨b0,off,cap',e,_,hcc⟩:=(MX.out.refs.later uq.out.new).at hlt
       simp only[Value.slice.injEq,true_and]at e
       obtain⟨rfl,rfl⟩:=e
       have s0:=hcc 0 _ rfl
       have s1:=hcc 1 _ rfl
       simp only[Nat.add_zero]at s0
       have yX:=World.block_lt_of_cell? wr _ s0
       have HDR:=Lib.hid (show rf.drop k=rf[k] :: rf.drop (k+1)from List.drop_eq_getElem_cons hlt)
       rw[HDR.out,List.flatMap_cons,List.append_assoc]at yK
       have nz:=Lib.hid (WS.out rf[k] (List.getElem_mem hlt))
       clear hcc HDR
       have HAT:=Lib.hid (λ(h:decide (rf[k].name.size<=255)=true)=>show(rf.take (k+1)).all (λr=>decide (r.name.size<=255))=true from by rw[List.take_succ_eq_append_getElem hlt,List.all_append,zP.out];simpa using h)
       have qD:=Lib.hid (λ(h:255<rf[k].name.size)=>show rf.all (λr=>decide (r.name.size<=255))=false from Xp (λr=>decide (r.name.size<=255)) rf k hlt (by simp;omega))
       generalize rf[k]=x at *
       obtain⟨va,vn⟩:=x
       simp only at s0 s1 nz
       have hga:Grow wr (wr.alloc (.cells #[.int .i64 va,.string vn] 67)):=(Mv.refl _ _).alloc _
       have uu:=Lib.hid (heap_alloc_new wr (.cells #[.int .i64 va,.string vn] 67))
       have QE:=Lib.hid (fQ yB.out hga (λ_ _ e=>e))
       have S9:=Lib.hid (uq.out.trans (bq.grow hga))
       have RF:=Lib.hid (aJ Br.out hga)
       have RG:=Lib.hid (Nat.le_trans yL.out hga.size)
       clear hga
       go_upto_region 34 with fail
       generalize (wr.alloc (.cells #[.int .i64 va,.string vn] 67))=w1 at *
       generalize wr.heap.size=AV at *
       clear s0 s1 yX yB uq Br yL
       have yB:=QE
       have uq:=S9
       have Br:=RF
       have yL:=RG
       clear QE S9 RF RG
       by_cases hbig:255<vn.size
       · have hbi:(255:Int)<(vn.size:Nat):=by omega
         have HZ:=Lib.hid (show EG (.returned (.tuple #[.slice none 0 0,.int .i64 5])) w1 from by
          have h1:EE=5:=by rw[nH.out,if_neg (by rw[qD.out hbig];decide)]
          rw[Da.out,h1];exact .inl ⟨by decide,rfl,gtr Db.out uq.out.new⟩)
         obtain⟨z0,z1⟩:=EL uu.out
         have zl:=lt_of_block uu.out
         clear hbig
         go_wp2_with fail
         first|exact HZ.out|(go_ret2;exact HZ.out)
       have hbi:¬ (255:Int)<(vn.size:Nat):=by omega
       have ad7:=Lib.hid (HAT.out (by simpa using hbig))
       clear hbig HAT qD
       obtain⟨z0,z1⟩:=EL uu.out
       have zl:=lt_of_block uu.out
       go_upto_region 36 with fail
       clear z0 z1 zl
       have HC:=Lib.hid (lF w4.heap.size (.slice Us De.length Ut) De (va) 4 w1 yB.out yL.out (by have:=SY.out;omega) (by decide))
       obtain⟨z0,z1⟩:=EL uu.out
       have zl:=lt_of_block uu.out
       go_wp2_with fail
       refine HC.out.mono ?_
       rintro e acP ⟨ad8,ad9,rfl,hr,hm⟩
       clear z0 z1 zl
       have hpt:(De ++ ah (va) 4) ++ (wS vn ++ ((rf.drop (k+1)).flatMap wR ++ ([])))=gq:=by have h:=yK.out;simp only[List.append_assoc]at h ⊢;exact h
       generalize De ++ ah (va) 4=Hr at *
       have RH:=Lib.hid hr
       have Uu:=Lib.hid (uq.out.trans hm)
       have Ta:=Lib.hid hpt
       have KE:=Lib.hid (Nat.le_trans yL.out hm.size)
       have Tc:=Lib.hid (iP hpt iw.out)
       have Td:=Lib.hid (hm.keep Br.out (by decide))
       have FT:=Lib.hid (hm.keep uu.out (by decide))
       clear hr hm hpt HC yB uq yK yL SY Br uu
       have HC:=Lib.hid (Dj w4.heap.size (.slice ad8 Hr.length ad9) Hr vn acP RH.out KE.out (by have:=Tc.out;omega) (by have:=nz.out;omega))
       obtain⟨z0,z1⟩:=EL FT.out
       have zl:=lt_of_block FT.out
       go_wp2_with fail
       refine HC.out.mono ?_
       rintro e agF ⟨aea,aeb,rfl,hr,hm⟩
       clear z0 z1 zl
       have hpt:(Hr ++ ah vn.size 1 ++ cK vn) ++ ((rf.drop (k+1)).flatMap wR ++ ([]))=gq:=by have h:=Ta.out;simp only[List.append_assoc,wS,wV,cO,wR]at h ⊢;exact h
       generalize Hr ++ ah (vn.size:Int) 1 ++ cK vn=P20 at *
       have abT:=Lib.hid hr
       have aec:=Lib.hid (Uu.out.trans hm)
       have acQ:=Lib.hid hpt
       have agG:=Lib.hid (Nat.le_trans KE.out hm.size)
       have agH:=Lib.hid (iP hpt iw.out)
       have acR:=Lib.hid (hm.keep Td.out (by decide))
       have ahc:=Lib.hid (hm.keep FT.out (by decide))
       clear hr hm hpt HC RH Uu Ta KE Tc Td FT
       go_wp2_with fail
       go_roundw
       case rel=>exact⟨k+1,P20,aea,aeb,by go_num,by omega,rfl,acQ.out,abT.out,aec.out,acR.out,ad7.out⟩
       case measure=>(simp[intOf] <;> omega)
     · obtain rfl:k=rf.length:=by omega
       have hlt':¬ ((rf.length:Int)<(rf.length:Nat)):=by omega
       rw[List.drop_of_length_le (Nat.le_refl _),List.flatMap_nil,List.nil_append]at yK
       rw[List.append_nil]at yK
       have HZ:=Lib.hid (show EG (.returned (.tuple #[.slice Us De.length Ut,.int .i64 0])) wr from by
        rw[List.take_length]at zP
        have h1:EE=0:=by rw[nH.out,if_pos zP.out]
        rw[Da.out,h1,← yK.out]
        exact .inr ⟨rfl,_,_,rfl,aa0 yB.out Db.out.size,gtr Db.out uq.out.new⟩)
       go_wp2_with fail
       first|exact HZ.out|(go_ret2;exact HZ.out)
end
section
theorem QF:∀ cs xs,dW (wX cs xs)
 | [],xs=>by cases xs <;> (intro c hc;cases hc)
 |c :: cs,[]=>by intro c hc;cases hc
 |c :: cs,x :: xs=>by
  intro b hb
  rcases List.mem_append.1 hb with h|h
  · exact jP _ _ b h
  · exact QF cs xs b h
theorem iZ {a b:List Int} (h:dW a) (k:dW b):dW (a ++ b):=λc hc=>(List.mem_append.1 hc).elim (h c) (k c)
theorem Dr {α:Type} {f:α->List Int} {l:List α} (h:∀ x∈l,dW (f x)):dW (l.flatMap f):=λc hc=>by
 obtain⟨x,hx,hc⟩:=List.mem_flatMap.1 hc
 exact h x hx c hc
theorem aa1 (l:List Ins):dW (wA l):=iZ (jP _ _) (Dr λ_ _=>iZ (jP _ _) (QF _ _))
theorem Zg (s:ByteArray):dW (cK s):=λc hc=>by
 obtain⟨b,-,rfl⟩:=List.mem_map.1 hc
 have:=b.toNat_lt
 omega
theorem Ec (s:ByteArray):dW (wS s):=iZ (jP _ _) (Zg s)
theorem aa2 (o:aO) (l:List Ins):dW (wF o (wA l)):=by
 unfold wF
 refine iZ (iZ (iZ (iZ (iZ (iZ (iZ (iZ (iZ (iZ (Ec _) (jP _ _)) (Dr λv _ => ?_)) (jP _ _)) (jP _ _)) (jP _ _)) (Dr λv _ => ?_)) (jP _ _)) (aa1 _)) (jP _ _)) (Dr λv _ => ?_)
 · exact iZ (iZ (Ec _) (jP _ _)) (jP _ _)
 · exact iZ (iZ (iZ (Ec _) (jP _ _)) (jP _ _)) (jP _ _)
 · exact iZ (jP _ _) (Ec _)
end
end Go.Proofs.YtadecgbblajifaaGreatDoor
