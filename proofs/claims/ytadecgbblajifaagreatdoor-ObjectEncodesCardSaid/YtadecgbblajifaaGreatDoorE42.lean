import Derived.Test.YtadecgbblajifaaGreatDoorE41
set_option linter.unusedSimpArgs false
set_option linter.unusedVariables false
set_option maxRecDepth 100000
set_option maxHeartbeats 25600000
namespace Go.Proofs.YtadecgbblajifaaGreatDoor
open Go.RowKit Go.Instr
attribute [local go_sem ↓] qH
set_option maxRecDepth 100000 in
set_option maxHeartbeats 3200000 in
theorem Zd (op:Int) (w:World) (h0:0<=op) (h1:op<=255):Calls Tryz.prog 267 #[.int .u8 op] w λe w'=>e = .returned (.int .u8 (Bq op))/\w=w':=by
 by_cases hx:op=22\/op=23\/op=24\/op=25\/op=26\/op=27
 · rcases hx with rfl|rfl|rfl|rfl|rfl|rfl
   all_goals
    go_enter Tryz.func267,Tryz.ntmps267
    go_wp2
    go_ret
    exact⟨rfl,rfl⟩
 · simp only[not_or]at hx
   obtain⟨x1,x2,x3,x4,x5,x6⟩:=hx
   go_enter Tryz.func267,Tryz.ntmps267
   go_wp2
   all_goals (go_ret;exact⟨fC (by unfold Bq;simp_all),rfl⟩)
set_option maxHeartbeats 1600000 in
theorem Yz (i:Ins) (w:World) (h0:0<=i.op) (h1:i.op<=255):Calls Tryz.prog 260 #[i.val] w λe w'=>e = .returned i.inv.val/\Grow w w':=by
 obtain⟨op,a,b,c,d⟩:=i
 have HC:=Lib.hid (λw=>Zd op w h0 h1)
 have HI:=Lib.hid (show(Ins.inv ⟨op,a,b,c,d⟩).val = .agg #[.int .u8 (Bq op),.int .i64 a,.int .i64 b,.int .i64 c,.int .i64 d]from rfl)
 go_enter Tryz.func260,Tryz.ntmps260
 go_wp2_with fail
 refine(HC.out _).mono ?_
 rintro e w' ⟨rfl,rfl⟩
 generalize Bq op=r at *
 go_wp2_with fail
 refine bodyPost_ret (v := .agg #[.int .u8 r,.int .i64 a,.int .i64 b,.int .i64 c,.int .i64 d]) (by simp[results,Tryz.results260,go_sem]) rfl ⟨by rw[HI.out],((Mv.refl _ _).alloc _).alloc _⟩
theorem Eb (v:Value) (x:Ins) (xs:List Ins) (base:Nat) (w:World) (hrow:vO w base v xs) (hb:base<=w.heap.size) (hlen:xs.length<=900000) :
 ∃ a' c' w2,(yG Tryz.prog 34 34 v (.slice (some ⟨w.heap.size,0,none⟩) 1 1) (w.alloc (.cells #[.int .u8 x.op,.int .i64 x.a,.int .i64 x.b,.int .i64 x.c,.int .i64 x.d] 69)) /\
  tX Tryz.prog 34 34 v (.slice (some ⟨w.heap.size,0,none⟩) 1 1) (w.alloc (.cells #[.int .u8 x.op,.int .i64 x.a,.int .i64 x.b,.int .i64 x.c,.int .i64 x.d] 69)) = .slice a' (xs.length+1) c'/\appW Tryz.prog 34 34 v (.slice (some ⟨w.heap.size,0,none⟩) 1 1) (w.alloc (.cells #[.int .u8 x.op,.int .i64 x.a,.int .i64 x.b,.int .i64 x.c,.int .i64 x.d] 69))=w2) /\
  vO w2 base (.slice a' (xs.length+1) c') (xs ++ [x])/\Mv (λb=>v.ownBlock=some b) w w2:=by
 have hs:aB 5 Ins.cells (w.alloc (.cells #[.int .u8 x.op,.int .i64 x.a,.int .i64 x.b,.int .i64 x.c,.int .i64 x.d] 69)) (.slice (some ⟨w.heap.size,0,none⟩) 1 1) [x]:=aB.gW (f:=Ins.cells) (l:=[x]) (λ_=>rfl) (heap_alloc_new w _) (by simp[flat,Ins.cells]) (by simp)
 obtain⟨a',c',w2,⟨hok,hv,hw⟩,hrow2,eG,hnew⟩:=nL Tryz.QA (f:=Ins.cells) (λ_=>rfl) v _ xs [x] base _ (fQ hrow (((Mv.refl (λ_=>False) w).alloc _)) (λ_ _ e=>e)) hs QB (by simp;omega) (by simp;omega)
 exact⟨a',c',w2,⟨hok,hv,hw⟩,hrow2,((Mv.refl _ w).alloc _).trans eG (λx e => .inl e)⟩
structure jV (w0 wr:World) (v:Value) (l:List Ins):Prop where
 g:Grow w0 wr
 row:vO wr w0.heap.size v l
theorem jV.grow {w0 wr w2:World} {v:Value} {l:List Ins} (h:jV w0 wr v l) (hm:Grow wr w2):jV w0 w2 v l:=⟨h.g.trans hm (λ_ e=>e.elim),fQ h.row hm (λ_ _ e=>e)⟩
theorem jV.app {w0 wr w2:World} {v v2:Value} {l l2:List Ins} (h:jV w0 wr v l) (h2:vO w2 w0.heap.size v2 l2) (hm:Mv (λb=>v.ownBlock=some b) wr w2):jV w0 w2 v2 l2:=⟨h.g.trans hm (λb e => .inr (h.row.lt b e).1),h2⟩
theorem YA (l:List Ins) (j:Nat) (h:j<l.length):lK (l.drop j)=lK (l.drop (j+1)) ++ [l[j].inv]:=by
 rw[List.drop_eq_getElem_cons h]
 simp only[lK,List.map_cons,List.reverse_cons]
theorem X0 (l:List Ins):(lK l).length=l.length:=by simp[lK]
set_option maxRecDepth 100000 in
set_option maxHeartbeats 3200000 in
theorem agc (v:Value) (l:List Ins) (w:World) (h:aB 5 Ins.cells w v l) (hl:l.length<=300000) (hop:∀ x∈l,0<=x.op/\x.op<=255) :
 Calls Tryz.prog 245 #[v] w λe w'=>∃ v',e = .returned v'/\jV w w' v' (lK l):=by
 obtain⟨va,vc,rfl,UN,hvl⟩:=h.form
 have HR:=Lib.hid h
 have Gi:=Lib.hid hop
 obtain⟨i0,hi,hz0,hz1,hz2⟩:=info_parts Tryz.Ji
 obtain⟨w1,hmk,hown,hgr⟩:=run_makeSlice_owned (P:=Tryz.prog) w w.heap.size 34 69 i0 _ 5 Tryz.underlying34 hi hz0 hz1 .i64 .i64 l.length (by omega) (by rw[hz2];omega) (by simp only[maxLen];omega) (Nat.le_refl _)
 have Lh:=Lib.hid (show jV w w1 (.slice (some ⟨w.heap.size,0,none⟩) 0 l.length) []from⟨(Mv.refl _ w).grown hgr (λk e=>by cases e),by simpa[vO,flat]using hown⟩)
 clear h hop hi hz0 hz1 hz2 hown hgr
 go_enter Tryz.func245,Tryz.ntmps245
 go_wp2_with fail
 clear hmk
 go_loopw [3,4] (λcv t wr=>∃ i:Int,t = .int .i64 i /\ -1<=i/\i<l.length/\jV w wr cv (lK (l.drop (i+1).toNat))) (λ_ t _=>(intOf t+1).toNat)
 case atStart=>exact⟨_,rfl,by omega,by omega,by
  have e:l.drop ((l.length:Int) - 1+1).toNat=[]:=List.drop_of_length_le (by omega)
  rw[e];exact Lh.out⟩
 obtain⟨i,rfl,hi1,hi2,hst⟩:=hrel
 have HST:=Lib.hid hst
 clear hst
 by_cases h0:0<=i
 · obtain⟨j,rfl⟩:∃ j:Nat,i=j:=⟨i.toNat,by omega⟩
   have hj:j<l.length:=by omega
   obtain⟨b,off,cap',e,_,_⟩:=(HR.out.later HST.out.g).at hj
   simp only[Value.slice.injEq,true_and]at e
   obtain⟨rfl,rfl⟩:=e
   obtain⟨⟨c0,c1,c2⟩,c3,c4,hbl⟩:=(HR.out.later HST.out.g).ins hj
   have HU:=Lib.hid (show lK (l.drop ((j:Int) - 1+1).toNat)=lK (l.drop (j+1)) ++ [l[j].inv]from by
    rw[show((j:Int) - 1+1).toNat=j from by omega];exact YA l j hj)
   have Fx:=Lib.hid (show jV w wr _ (lK (l.drop (j+1)))from by have:=HST.out;rwa[show((j:Int)+1).toNat=j+1 from by omega]at this)
   have hcl:(lK (l.drop (j+1))).length<=300000:=by rw[X0,List.length_drop];omega
   have HIN:=Lib.hid (λw'=>Yz l[j] w' (Gi.out _ (List.getElem_mem hj)).1 (Gi.out _ (List.getElem_mem hj)).2)
   clear HST
   generalize lK (l.drop (j+1))=cs at *
   obtain⟨na,nc,MN⟩:=o8 Fx.out.row
   subst MN
   generalize hx:l[j]=x at *
   generalize hr:x.inv=r at *
   obtain⟨xo,xa,xb,xc,xd⟩:=x
   obtain⟨ro,ra,rb,rc,rd⟩:=r
   simp only at c0 c1 c2 c3 c4
   clear hx hr
   go_wp2_with fail
   refine(HIN.out _).mono ?_
   rintro e w3 ⟨rfl,dR⟩
   obtain⟨a',c',w6,⟨hok,hv,hw⟩,hrow2,eG⟩:=Eb _ ⟨ro,ra,rb,rc,rd⟩ cs _ w3 (Fx.out.grow dR).row (Fx.out.grow dR).g.size (by omega)
   have Cb:=Lib.hid ((Fx.out.grow dR).app hrow2 eG)
   clear hrow2 eG dR c0 c1 c2 c3 c4
   simp only at hok hv hw
   go_wp2_with fail
   go_roundw
   case rel=>exact⟨_,by go_num,by omega,by omega,by rw[HU.out];exact Cb.out⟩
   case measure=>(simp[intOf] <;> omega)
 · have HF:=Lib.hid (show jV w wr _ (lK l)from by have:=HST.out;rwa[show(i+1).toNat=0 from by omega,List.drop_zero]at this)
   clear HST
   go_wp2_with fail
   go_ret
   exact⟨_,rfl,HF.out⟩
theorem Ins.Ze {i:Ins} {b:Int} (h:mX i.op=true):i.shift b=i.xU (wrap64 (i.target+b)):=by simp[Ins.shift,h]
theorem Ins.Zf {i:Ins} {b:Int} (h:mX i.op=false):i.shift b=i:=by simp[Ins.shift,h]
theorem YB (l:List Ins) (b:Int):(nT l b).length=l.length:=by simp[nT]
set_option maxRecDepth 100000 in
set_option maxHeartbeats 6400000 in
theorem agk (v:Value) (l:List Ins) (by':Int) (w:World) (h:aB 5 Ins.cells w v l) (hl:l.length<=300000) :
 Calls Tryz.prog 171 #[v,.int .i64 by'] w λe w'=>∃ v',e = .returned v'/\jV w w' v' (nT l by'):=by
 obtain⟨va,vc,rfl,UN,hvl⟩:=h.form
 have HR:=Lib.hid h
 obtain⟨i0,hi,hz0,hz1,hz2⟩:=info_parts Tryz.Ji
 obtain⟨w1,hmk,hown,hgr⟩:=run_makeSlice_owned (P:=Tryz.prog) w w.heap.size 34 69 i0 _ 5 Tryz.underlying34 hi hz0 hz1 .i64 .i64 l.length (by omega) (by rw[hz2];omega) (by simp only[maxLen];omega) (Nat.le_refl _)
 have Lh:=Lib.hid (show jV w w1 (.slice (some ⟨w.heap.size,0,none⟩) 0 l.length) []from⟨(Mv.refl _ w).grown hgr (λk e=>by cases e),by simpa[vO,flat]using hown⟩)
 clear h hi hz0 hz1 hz2 hown hgr
 go_enter Tryz.func171,Tryz.ntmps171
 go_wp2_with fail
 clear hmk
 go_loopw [5,15] (λcv t wr=>∃ k:Nat,t = .int .i64 k/\k<=l.length/\jV w wr cv (nT (l.take k) by')) (λ_ t _=>l.length - (intOf t).toNat)
 case atStart=>exact⟨0,rfl,Nat.zero_le _,Lh.out⟩
 obtain⟨k,rfl,hk,hst⟩:=hrel
 have hnl:(nT (l.take k) by').length=k:=by rw[YB];simp;omega
 have jM:=Lib.hid (λhlt:k<l.length=>show nT (l.take (k+1)) by'=nT (l.take k) by' ++ [l[k].shift by']from by
  rw[List.take_succ_eq_append_getElem hlt];simp only[nT,List.map_append,List.map_cons,List.map_nil])
 have uN:=Lib.hid (show l.take l.length=l from List.take_length)
 have Mf:=Lib.hid (λ(e:k=l.length)=>show nT (l.take k) by'=nT l by' from by rw[e,List.take_length])
 generalize hcs:nT (l.take k) by'=cs at *
 clear hcs
 obtain⟨na,nc,MN⟩:=o8 hst.row
 subst MN
 have HST:=Lib.hid hst
 have Lc:=hst.g.size
 have hnb:cs.length<=300000:=by omega
 clear hst hnl
 by_cases hlt:k<l.length
 · obtain⟨b,off,cap',e,_,_⟩:=(HR.out.later HST.out.g).at hlt
   simp only[Value.slice.injEq,true_and]at e
   obtain⟨rfl,rfl⟩:=e
   obtain⟨⟨c0,c1,c2⟩,c3,c4,hbl⟩:=(HR.out.later HST.out.g).ins hlt
   have TS:=Lib.hid (jM.out hlt)
   have HTG:=Lib.hid (λw'=>Ib l[k] w')
   have dY:=Lib.hid (λt w'=>Xr l[k] t w')
   have GV:=Lib.hid (λ(h:mX l[k].op=true)=>Ins.Ze (b:=by') h)
   have HSN:=Lib.hid (λ(h:mX l[k].op=false)=>Ins.Zf (b:=by') h)
   generalize hx:l[k]=x at *
   obtain⟨xo,xa,xb,xc,xd⟩:=x
   simp only at c0 c1 c2 c3 c4
   clear hx jM
   have fP:=Lib.hid (λw'=>Oj xo w')
   go_wp2_with fail
   refine(fP.out _).mono ?_
   rintro e w' ⟨rfl,rfl⟩
   clear fP c0 c1 c2 c3 c4
   generalize hmo:mX xo=mo at *
   cases mo with
   |false =>
    have MO:=Lib.hid (HSN.out rfl)
    obtain⟨a',c',w2,⟨hok,hv,hw⟩,hrow2,eG⟩:=Eb _ ⟨xo,xa,xb,xc,xd⟩ _ _ _ (HST.out.grow ((Mv.refl _ _).alloc (.cells #[.int .u8 xo,.int .i64 xa,.int .i64 xb,.int .i64 xc,.int .i64 xd] 69))).row (by simp;omega) (by omega)
    rw[World.size_alloc]at hok hv hw
    have Cb:=Lib.hid ((HST.out.grow ((Mv.refl _ _).alloc (.cells #[.int .u8 xo,.int .i64 xa,.int .i64 xb,.int .i64 xc,.int .i64 xd] 69))).app hrow2 eG)
    clear hrow2 eG hmo
    go_wp2_with fail
    go_roundw
    case rel=>exact⟨k+1,by go_num,by omega,by rw[TS.out,MO.out];exact Cb.out⟩
    case measure=>(simp[intOf] <;> omega)
   |true =>
    have MO:=Lib.hid (GV.out rfl)
    clear hmo
    go_wp2_with fail
    refine(HTG.out _).mono ?_
    rintro e w3 ⟨rfl,dR⟩
    have Gl:w3.heap[wr.heap.size]? = some (.cells #[.int .u8 xo,.int .i64 xa,.int .i64 xb,.int .i64 xc,.int .i64 xd] 69 (0,0)):=by
     rw[dR.block _ (by simp) (λh=>h)];exact heap_alloc_new wr _
    have hs3:=dR.size
    simp only[World.size_alloc]at hs3
    obtain⟨⟨d0,d1,d2⟩,d3,d4⟩:=Bp Gl
    have GZ:=Lib.hid Gl
    have jN:=Lib.hid dR
    clear Gl dR
    generalize wW:Ins.target ⟨xo,xa,xb,xc,xd⟩=tg at *
    clear wW
    generalize Ins.Fb ⟨xo,xa,xb,xc,xd⟩=am at *
    go_wp2_with fail
    refine(dY.out _ _).mono ?_
    rintro e w4 ⟨rfl,G5⟩
    have G6:w4.heap[wr.heap.size]? = some (.cells #[.int .u8 xo,.int .i64 xa,.int .i64 xb,.int .i64 xc,.int .i64 xd] 69 (0,0)):=by
     rw[G5.block _ (by omega) (λh=>h)];exact GZ.out
    have hs4:=G5.size
    generalize hr:Ins.xU ⟨xo,xa,xb,xc,xd⟩ (wrap64 (tg+by'))=r at *
    obtain⟨ro,ra,rb,rc,rd⟩:=r
    obtain⟨⟨f0,f1,f2⟩,f3,f4⟩:=Bp G6
    have z0:∀ i,w4.frozen? ⟨wr.heap.size,i,none⟩=false:=λi=>by simp[World.frozen?,G6]
    have HX4:=Lib.hid G6
    have G7:=Lib.hid G5
    clear G6 G5 d0 d1 d2 d3 d4 hr
    go_upto_region 8 with(fail)
    obtain⟨Wy,Fy⟩:=y5 HX4.out (.int .u8 ro) (.int .i64 ra) (.int .i64 rb) (.int .i64 rc) (.int .i64 rd)
    generalize ((((w4.setCell ⟨wr.heap.size,0,none⟩ (.int .u8 ro)).setCell ⟨wr.heap.size,1,none⟩ (.int .i64 ra)).setCell ⟨wr.heap.size,2,none⟩ (.int .i64 rb)).setCell ⟨wr.heap.size,3,none⟩ (.int .i64 rc)).setCell ⟨wr.heap.size,4,none⟩ (.int .i64 rd)=w5 at *
    have FC:jV w w5 (.slice na cs.length nc) cs:=by
     have h4:=((HST.out.grow ((Mv.refl _ _).alloc (.cells #[.int .u8 xo,.int .i64 xa,.int .i64 xb,.int .i64 xc,.int .i64 xd] 69))).grow jN.out).grow G7.out
     refine⟨h4.g.trans Fy (λb e => .inr (by omega)),fQ h4.row Fy (λg hg e => ?_)⟩
     have:=(HST.out.row.lt g hg).2;omega
    obtain⟨⟨g0,g1,g2⟩,g3,g4⟩:=Bp Wy
    have hs5:=Fy.size
    obtain⟨a',c',w6,⟨hok,hv,hw⟩,hrow2,eG⟩:=Eb _ ⟨ro,ra,rb,rc,rd⟩ _ _ _ FC.row (by have:=FC.g.size;omega) (by omega)
    have Cb:=Lib.hid (FC.app hrow2 eG)
    clear hrow2 eG FC Wy Fy f0 f1 f2 f3 f4 z0
    go_wp2_with fail
    go_roundw
    case rel=>exact⟨k+1,by go_num,by omega,by rw[TS.out,MO.out];exact Cb.out⟩
    case measure=>(simp[intOf] <;> omega)
 · have HF:=Lib.hid (Mf.out (by omega))
   go_wp2_with fail
   go_ret
   exact⟨_,rfl,by rw[← HF.out];exact HST.out⟩
end Go.Proofs.YtadecgbblajifaaGreatDoor
