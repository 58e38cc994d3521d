import Derived.Test.YtadecgbblajifaaGreatDoorE40
set_option linter.unusedSimpArgs false
set_option linter.unusedVariables false
set_option maxRecDepth 100000
set_option maxHeartbeats 25600000
namespace Go.Proofs.YtadecgbblajifaaGreatDoor
open Go.RowKit Go.Instr
set_option maxRecDepth 100000 in
set_option maxHeartbeats 3200000 in
theorem agb (w0:World) (C:Nat) (sv:Value) (f:fe) (w:World) (cv:Value) (code:List Ins) (k n:Int) (s:ByteArray) (kv:Value) (l:List aa) (hst:eY w0 C sv f w cv code) (hf:mE w0 sv f) (hx:fJ w0 (.mk k n s kv l)) (hlen:code.length<=900000) (hk:k=4\/k=5) :
 Calls Tryz.prog 257 #[.pointer (some ⟨C,0,none⟩),aa.val (.mk k n s kv l)] w λe w'=>e = .returned (.tuple #[])/\∃ cv',eY w0 C sv f w' cv' (code ++ [⟨if k=5 then 15 else 14,1,((aD f s 3).getD noSlot).at',0,0⟩,⟨12,1,0,0,0⟩])/\gL C w cv w' cv':=by
 obtain⟨fa,fc,rfl,hfc,hfl⟩:=hf.row.form
 obtain⟨a,cap,rfl,hcap,acy⟩:=hx.form
 simp only[aa.val]
 have HF:=Lib.hid hf
 clear hf hx
 rcases hk with rfl|rfl
 · simp only[show ¬ ((4:Int)=5)from by decide,if_false]
   have hga:Grow w (w.alloc (.cells #[.int .u8 4,.int .i64 n,.string s,.slice a l.length cap] 26)):=(Mv.refl _ _).alloc _
   have gV:=Lib.hid (hst.grow hga)
   have HN:=Lib.hid (heap_alloc_new w (.cells #[.int .u8 4,.int .i64 n,.string s,.slice a l.length cap] 26))
   have uS:=Lib.hid (gL.grow (C:=C) (cv:=cv) hga)
   have MJ:C<w.heap.size:=lt_of_block hst.blk
   clear hst hga
   go_enter Tryz.func257,Tryz.ntmps257
   go_wp2_with fail
   have Lc:w.heap.size<(w.alloc (.cells #[.int .u8 4,.int .i64 n,.string s,.slice a l.length cap] 26)).heap.size:=by simp
   generalize w.alloc (.cells #[.int .u8 4,.int .i64 n,.string s,.slice a l.length cap] 26)=w1 at *
   have oU:=Lib.hid (λ(x:World) (hx:Mv (λb=>w1.heap.size<=b) w1.drew x)=>(show Grow w0 x from Mv.trans (Mv.drew gV.out.g) hx (λb hb => .inr (Nat.le_trans gV.out.g.size hb))))
   have oQ:=Lib.hid (λ(x:World) (hx:Mv (λb=>w1.heap.size<=b) w1.drew x)=>HF.out.later (oU.out x hx))
   have oV:=Lib.hid (λ(x:World) (hx:Mv (λb=>w1.heap.size<=b) w1.drew x)=>(show x.heap[C]? = _ from(hx.block C (by show C<w1.heap.size;omega) (by omega)).trans gV.out.blk))
   have kL:=Lib.hid (λ(x:World) (hx:Mv (λb=>w1.heap.size<=b) w1.drew x)=>(show x.heap[w.heap.size]? = _ from(hx.block w.heap.size (by show w.heap.size<w1.heap.size;omega) (by omega)).trans HN.out))
   refine Dg (by kernel_rfl) 30 [some 8,some 9,some 10,some 11,some 12,some 13,some 14,some 7,some 15,some 16,some 4,none,some 5] [[],[0],[1],[2],[],[4],[3,5],[6],[7],[7],[],[10,8,6,0,1,2,3,4,5,6,7,8,10],[9,11,0,1,2,3,4,5,6,7,8,9,10,11]] [[],[0],[1],[2],[],[4],[3,5],[6],[7],[7],[],[10,8],[9]] [[0],[1],[2],[3],[4],[5],[6],[7],[8],[9],[10],[10],[12]] [[],[],[],[],[],[],[],[],[],[],[11],[],[]] rfl (by kernel_rfl) (Mv (λb=>w1.heap.size<=b)) (λ_=>Mv.refl _ _) (λx y z h1 h2=>h1.trans h2 (λ_ e => .inl e)) (iT w1.heap.size (.pointer (some ⟨C,0,none⟩)) (.agg #[.slice fa f.slots.length fc,.int .i64 f.cells,.int .i64 f.stacks]) (.pointer (some ⟨w.heap.size,2,none⟩)) (.string s) ((aD f s 3).getD noSlot) (aD f s 3).isSome) ?steps ?done
   case steps =>
    refine⟨?s0,?s1,?s2,?s3,?s4,?s5,?s6,?s7,?s8,?s9,?s10,?s11,?s12,trivial⟩
    case s0 =>
     intro vs x hx hY
     clear hY
     unfold Gives
     simp only[ai,Act.put,List.getD_cons_zero,List.getD_cons_succ,List.setIfInBounds_toArray,List.set_cons_zero,List.set_cons_succ]
     go_simp
     exact⟨Mv.refl _ _,rfl,by intros;assumption⟩
    case s1 =>
     intro vs x hx hY
     have h0:vs 0=(.pointer (some ⟨C,0,none⟩)):=hY 0 (by simp) (by simp)
     clear hY
     unfold Gives
     simp only[ai,Act.put,List.getD_cons_zero,List.getD_cons_succ,List.setIfInBounds_toArray,List.set_cons_zero,List.set_cons_succ,h0]
     go_simp
     exact⟨Mv.refl _ _,rfl,by intros;assumption⟩
    case s2 =>
     intro vs x hx hY
     have h1:vs 1=(.pointer (some ⟨C,0,none⟩)):=hY 1 (by simp) (by simp)
     clear hY
     unfold Gives
     simp only[ai,Act.put,List.getD_cons_zero,List.getD_cons_succ,List.setIfInBounds_toArray,List.set_cons_zero,List.set_cons_succ,h1]
     go_simp
     exact⟨Mv.refl _ _,rfl,by intros;assumption⟩
    case s3 =>
     intro vs x hx hY
     have h2:vs 2=(.pointer (some ⟨C,0,none⟩)):=hY 2 (by simp) (by simp)
     obtain⟨⟨k0,k1⟩,k2,k3⟩:=fE (oV.out x hx)
     clear hY
     unfold Gives
     simp only[ai,Act.put,List.getD_cons_zero,List.getD_cons_succ,List.setIfInBounds_toArray,List.set_cons_zero,List.set_cons_succ,h2]
     go_simp
     exact⟨Mv.refl _ _,rfl,by intros;assumption⟩
    case s4 =>
     intro vs x hx hY
     clear hY
     unfold Gives
     simp only[ai,Act.put,List.getD_cons_zero,List.getD_cons_succ,List.setIfInBounds_toArray,List.set_cons_zero,List.set_cons_succ]
     go_simp
     exact⟨Mv.refl _ _,rfl,by intros;assumption⟩
    case s5 =>
     intro vs x hx hY
     have h4:vs 4=(.pointer (some ⟨w.heap.size,2,none⟩)):=hY 4 (by simp) (by simp)
     obtain⟨⟨n0,n1⟩,n2,n3⟩:=fE (kL.out x hx)
     clear hY
     unfold Gives
     simp only[ai,Act.put,List.getD_cons_zero,List.getD_cons_succ,List.setIfInBounds_toArray,List.set_cons_zero,List.set_cons_succ,h4]
     go_simp
     exact⟨Mv.refl _ _,rfl,by intros;assumption⟩
    case s6 =>
     intro vs x hx hY
     have h3:vs 3=(.agg #[.slice fa f.slots.length fc,.int .i64 f.cells,.int .i64 f.stacks]):=hY 3 (by simp) (by simp)
     have h5:vs 5 = .string s:=hY 5 (by simp) (by simp)
     have HC:=Lib.hid (rW (.slice fa f.slots.length fc) f s 3 x (oQ.out x hx))
     clear hY
     unfold Gives
     simp only[ai,Act.put,List.getD_cons_zero,List.getD_cons_succ,List.setIfInBounds_toArray,List.set_cons_zero,List.set_cons_succ,h3,h5]
     go_simp
     refine HC.out.mono ?_
     rintro e y ⟨rfl,hg⟩
     exact⟨_,rfl,hg.mono (λ_ e=>e.elim),rfl,by intros;exact iT.grow hg _ _ (by assumption)⟩
    case s7 =>
     intro vs x hx hY
     have h6:vs 6=(.tuple #[((aD f s 3).getD noSlot).val,.bool (aD f s 3).isSome]):=hY 6 (by simp) (by simp)
     clear hY
     unfold Gives
     simp only[ai,Act.put,List.getD_cons_zero,List.getD_cons_succ,List.setIfInBounds_toArray,List.set_cons_zero,List.set_cons_succ,h6]
     go_simp
     exact⟨Mv.refl _ _,rfl,by intros;assumption⟩
    case s8 =>
     intro vs x hx hY
     have h7:vs 7=(.tuple #[((aD f s 3).getD noSlot).val,.bool (aD f s 3).isSome]):=hY 7 (by simp) (by simp)
     clear hY
     unfold Gives
     simp only[ai,Act.put,List.getD_cons_zero,List.getD_cons_succ,List.setIfInBounds_toArray,List.set_cons_zero,List.set_cons_succ,h7]
     go_simp
     exact⟨Mv.refl _ _,rfl,by intros;assumption⟩
    case s9 =>
     intro vs x hx hY
     have h7:vs 7=(.tuple #[((aD f s 3).getD noSlot).val,.bool (aD f s 3).isSome]):=hY 7 (by simp) (by simp)
     clear hY
     unfold Gives
     simp only[ai,Act.put,List.getD_cons_zero,List.getD_cons_succ,List.setIfInBounds_toArray,List.set_cons_zero,List.set_cons_succ,h7]
     go_simp
     exact⟨Mv.refl _ _,rfl,by intros;assumption⟩
    case s10 =>
     intro vs x hx hY
     have hsz:w1.heap.size<=x.heap.size:=hx.size
     clear hY
     unfold Gives
     simp only[ai,Act.put,List.getD_cons_zero,List.getD_cons_succ,List.setIfInBounds_toArray,List.set_cons_zero,List.set_cons_succ]
     go_simp
     exact⟨(Mv.refl _ _).alloc _,⟨x.heap.size,rfl,hsz,heap_alloc_new x _⟩,by intros;exact iT.grow ((Mv.refl _ _).alloc _) _ _ (by assumption)⟩
    case s11 =>
     intro vs x hx hY
     have h8:vs 8=((aD f s 3).getD noSlot).val:=hY 8 (by simp) (by simp)
     obtain⟨g,(h10:vs 10=_),hg0,hgb⟩:=hY 10 (by simp) (by simp)
     obtain⟨z0,z1,z2,z3⟩:=gu hgb
     have zt:=gN hgb
     generalize (aD f s 3).getD noSlot=sl at *
     obtain⟨s0,s1,s2,s3⟩:=sl
     replace h8:vs 8 = .agg #[.string s0,.int .u8 s1,.int .i64 s2,.int .i64 s3]:=h8
     obtain⟨CU,Ca⟩:=wM hgb (.string s0) (.int .u8 s1) (.int .i64 s2) (.int .i64 s3)
     clear hY
     unfold Gives
     simp only[ai,Act.put,List.getD_cons_zero,List.getD_cons_succ,List.setIfInBounds_toArray,List.set_cons_zero,List.set_cons_succ,h8,h10]
     go_simp
     exact⟨Ca.mono (λb e => .inl (by omega)),⟨g,h10,hg0,CU⟩,λj l hj hk h=>iT.keep j l hj (λe=>hk (by subst e;decide)) h⟩
    case s12 =>
     intro vs x hx hY
     have h9:vs 9 = .bool (aD f s 3).isSome:=hY 9 (by simp) (by simp)
     clear hY
     unfold Gives
     simp only[ai,Act.put,List.getD_cons_zero,List.getD_cons_succ,List.setIfInBounds_toArray,List.set_cons_zero,List.set_cons_succ,h9]
     go_simp
     exact⟨Mv.refl _ _,rfl,by intros;assumption⟩
   case done =>
   intro vs wx hx hY
   obtain⟨g,(uk:vs 10=_),hg0,hgb⟩:=hY 11 (by decide) rfl
   have h0:vs 0=(.pointer (some ⟨C,0,none⟩)):=hY 0 (by decide) rfl
   have h1:vs 1=(.pointer (some ⟨C,0,none⟩)):=hY 1 (by decide) rfl
   have h2:vs 2=(.pointer (some ⟨C,0,none⟩)):=hY 2 (by decide) rfl
   have h3:vs 3=(.agg #[.slice fa f.slots.length fc,.int .i64 f.cells,.int .i64 f.stacks]):=hY 3 (by decide) rfl
   have h4:vs 4=(.pointer (some ⟨w.heap.size,2,none⟩)):=hY 4 (by decide) rfl
   have h5:vs 5 = .string s:=hY 5 (by decide) rfl
   have h6:vs 6=(.tuple #[((aD f s 3).getD noSlot).val,.bool (aD f s 3).isSome]):=hY 6 (by decide) rfl
   have h7:vs 7=(.tuple #[((aD f s 3).getD noSlot).val,.bool (aD f s 3).isSome]):=hY 7 (by decide) rfl
   have h8:vs 8=((aD f s 3).getD noSlot).val:=hY 8 (by decide) rfl
   have h9:vs 9 = .bool (aD f s 3).isSome:=hY 9 (by decide) rfl
   have h12:vs 12 = .bool (aD f s 3).isSome:=hY 12 (by decide) rfl
   simp only[List.length_cons,List.length_nil,Nat.zero_add,Nat.reduceAdd]
   rw[show List.range 13=[0,1,2,3,4,5,6,7,8,9,10,11,12]from rfl]
   simp only[ai,Act.put,List.getD_cons_zero,List.getD_cons_succ,List.setIfInBounds_toArray,List.set_cons_zero,List.set_cons_succ,uk,h0,h1,h2,h3,h4,h5,h6,h7,h8,h9,h12]
   clear hY uk h0 h1 h2 h3 h4 h5 h6 h7 h8 h9 h12
   generalize hsl:(aD f s 3).getD noSlot=sl at *
   have CV:=Lib.hid hsl
   clear hsl
   have dU:=Lib.hid (show eY w0 C (.slice fa f.slots.length fc) f wx cv code from⟨oU.out wx hx,oV.out wx hx,fQ (w:=w1.drew) gV.out.row hx (λg hg e=>by have:=(gV.out.row.lt g hg).2;omega),gV.out.hC⟩)
   have y7:=Lib.hid (uS.out.trans (⟨((Mv.refl (λb=>b=C\/cv.ownBlock=some b) w1).drew).trans (hx.mono (λx e => .inr e)) (λx e => .inl e),λ_ h => .inl h⟩:gL C w1 cv wx cv))
   obtain⟨q0,q1,q2,q3⟩:=gu hgb
   obtain⟨⟨n0,n1⟩,n2,n3⟩:=fE (kL.out wx hx)
   have hln:=lt_of_block (kL.out wx hx)
   have Ww:=lt_of_block hgb
   clear hx oU oQ oV kL gV uS hgb
   go_wp2_with fail
   refine(uY 14 1 sl.at' wx.heap.size _ _ (heap_alloc_new wx _)).mono ?_
   rintro e w3 ⟨rfl,hg3⟩
   simp only
   have hgx:Grow wx w3:=Mv.trans ((Mv.refl _ wx).alloc _) hg3 (λ_ e=>e.elim)
   have um:=Lib.hid (dU.out.grow hgx)
   have y8:=Lib.hid (y7.out.trans (gL.grow hgx))
   clear hg3 hgx q0 q1 q2 q3 n0 n1 n2 n3
   go_wp2_with fail
   refine(uY 12 1 0 w3.heap.size _ _ (heap_alloc_new w3 _)).mono ?_
   rintro e w4 ⟨rfl,hg4⟩
   simp only
   have xE:Grow w3 (w4.alloc (.cells #[.int .u8 14,.int .i64 1,.int .i64 sl.at',.int .i64 0,.int .i64 0,.int .u8 12,.int .i64 1,.int .i64 0,.int .i64 0,.int .i64 0] 69)):=(Mv.trans ((Mv.refl _ w3).alloc _) hg4 (λ_ e=>e.elim)).alloc _
   have Ld:=Lib.hid (um.out.grow xE)
   have Lg:=Lib.hid (y8.out.trans (gL.grow xE))
   have CW:=Lib.hid (I1 w0 C (.slice fa f.slots.length fc) f _ cv code (.slice (some ⟨w4.heap.size,0,none⟩) 2 2) ([⟨14,1,sl.at',0,0⟩,⟨12,1,0,0,0⟩]:List Ins) Ld.out (aB.gW (f:=Ins.cells) (l:=([⟨14,1,sl.at',0,0⟩,⟨12,1,0,0,0⟩]:List Ins)) (λ_=>rfl) (heap_alloc_new w4 _) rfl (by simp)) (by simp;omega))
   clear hg4 xE
   go_wp2_with fail
   refine CW.out.mono ?_
   rintro e w5 ⟨rfl,cv',hs5,CX⟩
   have ML:=Lib.hid hs5
   have MM:=Lib.hid (Lg.out.trans CX)
   clear hs5 CX CW
   go_wp2_with fail
   go_end0
   exact⟨rfl,_,by rw[CV.out];exact ML.out,MM.out⟩
 · simp only[if_true]
   have hga:Grow w (w.alloc (.cells #[.int .u8 5,.int .i64 n,.string s,.slice a l.length cap] 26)):=(Mv.refl _ _).alloc _
   have gV:=Lib.hid (hst.grow hga)
   have HN:=Lib.hid (heap_alloc_new w (.cells #[.int .u8 5,.int .i64 n,.string s,.slice a l.length cap] 26))
   have uS:=Lib.hid (gL.grow (C:=C) (cv:=cv) hga)
   have MJ:C<w.heap.size:=lt_of_block hst.blk
   clear hst hga
   go_enter Tryz.func257,Tryz.ntmps257
   go_wp2_with fail
   have Lc:w.heap.size<(w.alloc (.cells #[.int .u8 5,.int .i64 n,.string s,.slice a l.length cap] 26)).heap.size:=by simp
   generalize w.alloc (.cells #[.int .u8 5,.int .i64 n,.string s,.slice a l.length cap] 26)=w1 at *
   have oU:=Lib.hid (λ(x:World) (hx:Mv (λb=>w1.heap.size<=b) w1.drew x)=>(show Grow w0 x from Mv.trans (Mv.drew gV.out.g) hx (λb hb => .inr (Nat.le_trans gV.out.g.size hb))))
   have oQ:=Lib.hid (λ(x:World) (hx:Mv (λb=>w1.heap.size<=b) w1.drew x)=>HF.out.later (oU.out x hx))
   have oV:=Lib.hid (λ(x:World) (hx:Mv (λb=>w1.heap.size<=b) w1.drew x)=>(show x.heap[C]? = _ from(hx.block C (by show C<w1.heap.size;omega) (by omega)).trans gV.out.blk))
   have kL:=Lib.hid (λ(x:World) (hx:Mv (λb=>w1.heap.size<=b) w1.drew x)=>(show x.heap[w.heap.size]? = _ from(hx.block w.heap.size (by show w.heap.size<w1.heap.size;omega) (by omega)).trans HN.out))
   refine Dg (by kernel_rfl) 30 [some 8,some 9,some 10,some 11,some 12,some 13,some 14,some 7,some 15,some 16,some 4,none,some 5] [[],[0],[1],[2],[],[4],[3,5],[6],[7],[7],[],[10,8,6,0,1,2,3,4,5,6,7,8,10],[9,11,0,1,2,3,4,5,6,7,8,9,10,11]] [[],[0],[1],[2],[],[4],[3,5],[6],[7],[7],[],[10,8],[9]] [[0],[1],[2],[3],[4],[5],[6],[7],[8],[9],[10],[10],[12]] [[],[],[],[],[],[],[],[],[],[],[11],[],[]] rfl (by kernel_rfl) (Mv (λb=>w1.heap.size<=b)) (λ_=>Mv.refl _ _) (λx y z h1 h2=>h1.trans h2 (λ_ e => .inl e)) (iT w1.heap.size (.pointer (some ⟨C,0,none⟩)) (.agg #[.slice fa f.slots.length fc,.int .i64 f.cells,.int .i64 f.stacks]) (.pointer (some ⟨w.heap.size,2,none⟩)) (.string s) ((aD f s 3).getD noSlot) (aD f s 3).isSome) ?steps ?done
   case steps =>
    refine⟨?s0,?s1,?s2,?s3,?s4,?s5,?s6,?s7,?s8,?s9,?s10,?s11,?s12,trivial⟩
    case s0 =>
     intro vs x hx hY
     clear hY
     unfold Gives
     simp only[ai,Act.put,List.getD_cons_zero,List.getD_cons_succ,List.setIfInBounds_toArray,List.set_cons_zero,List.set_cons_succ]
     go_simp
     exact⟨Mv.refl _ _,rfl,by intros;assumption⟩
    case s1 =>
     intro vs x hx hY
     have h0:vs 0=(.pointer (some ⟨C,0,none⟩)):=hY 0 (by simp) (by simp)
     clear hY
     unfold Gives
     simp only[ai,Act.put,List.getD_cons_zero,List.getD_cons_succ,List.setIfInBounds_toArray,List.set_cons_zero,List.set_cons_succ,h0]
     go_simp
     exact⟨Mv.refl _ _,rfl,by intros;assumption⟩
    case s2 =>
     intro vs x hx hY
     have h1:vs 1=(.pointer (some ⟨C,0,none⟩)):=hY 1 (by simp) (by simp)
     clear hY
     unfold Gives
     simp only[ai,Act.put,List.getD_cons_zero,List.getD_cons_succ,List.setIfInBounds_toArray,List.set_cons_zero,List.set_cons_succ,h1]
     go_simp
     exact⟨Mv.refl _ _,rfl,by intros;assumption⟩
    case s3 =>
     intro vs x hx hY
     have h2:vs 2=(.pointer (some ⟨C,0,none⟩)):=hY 2 (by simp) (by simp)
     obtain⟨⟨k0,k1⟩,k2,k3⟩:=fE (oV.out x hx)
     clear hY
     unfold Gives
     simp only[ai,Act.put,List.getD_cons_zero,List.getD_cons_succ,List.setIfInBounds_toArray,List.set_cons_zero,List.set_cons_succ,h2]
     go_simp
     exact⟨Mv.refl _ _,rfl,by intros;assumption⟩
    case s4 =>
     intro vs x hx hY
     clear hY
     unfold Gives
     simp only[ai,Act.put,List.getD_cons_zero,List.getD_cons_succ,List.setIfInBounds_toArray,List.set_cons_zero,List.set_cons_succ]
     go_simp
     exact⟨Mv.refl _ _,rfl,by intros;assumption⟩
    case s5 =>
     intro vs x hx hY
     have h4:vs 4=(.pointer (some ⟨w.heap.size,2,none⟩)):=hY 4 (by simp) (by simp)
     obtain⟨⟨n0,n1⟩,n2,n3⟩:=fE (kL.out x hx)
     clear hY
     unfold Gives
     simp only[ai,Act.put,List.getD_cons_zero,List.getD_cons_succ,List.setIfInBounds_toArray,List.set_cons_zero,List.set_cons_succ,h4]
     go_simp
     exact⟨Mv.refl _ _,rfl,by intros;assumption⟩
    case s6 =>
     intro vs x hx hY
     have h3:vs 3=(.agg #[.slice fa f.slots.length fc,.int .i64 f.cells,.int .i64 f.stacks]):=hY 3 (by simp) (by simp)
     have h5:vs 5 = .string s:=hY 5 (by simp) (by simp)
     have HC:=Lib.hid (rW (.slice fa f.slots.length fc) f s 3 x (oQ.out x hx))
     clear hY
     unfold Gives
     simp only[ai,Act.put,List.getD_cons_zero,List.getD_cons_succ,List.setIfInBounds_toArray,List.set_cons_zero,List.set_cons_succ,h3,h5]
     go_simp
     refine HC.out.mono ?_
     rintro e y ⟨rfl,hg⟩
     exact⟨_,rfl,hg.mono (λ_ e=>e.elim),rfl,by intros;exact iT.grow hg _ _ (by assumption)⟩
    case s7 =>
     intro vs x hx hY
     have h6:vs 6=(.tuple #[((aD f s 3).getD noSlot).val,.bool (aD f s 3).isSome]):=hY 6 (by simp) (by simp)
     clear hY
     unfold Gives
     simp only[ai,Act.put,List.getD_cons_zero,List.getD_cons_succ,List.setIfInBounds_toArray,List.set_cons_zero,List.set_cons_succ,h6]
     go_simp
     exact⟨Mv.refl _ _,rfl,by intros;assumption⟩
    case s8 =>
     intro vs x hx hY
     have h7:vs 7=(.tuple #[((aD f s 3).getD noSlot).val,.bool (aD f s 3).isSome]):=hY 7 (by simp) (by simp)
     clear hY
     unfold Gives
     simp only[ai,Act.put,List.getD_cons_zero,List.getD_cons_succ,List.setIfInBounds_toArray,List.set_cons_zero,List.set_cons_succ,h7]
     go_simp
     exact⟨Mv.refl _ _,rfl,by intros;assumption⟩
    case s9 =>
     intro vs x hx hY
     have h7:vs 7=(.tuple #[((aD f s 3).getD noSlot).val,.bool (aD f s 3).isSome]):=hY 7 (by simp) (by simp)
     clear hY
     unfold Gives
     simp only[ai,Act.put,List.getD_cons_zero,List.getD_cons_succ,List.setIfInBounds_toArray,List.set_cons_zero,List.set_cons_succ,h7]
     go_simp
     exact⟨Mv.refl _ _,rfl,by intros;assumption⟩
    case s10 =>
     intro vs x hx hY
     have hsz:w1.heap.size<=x.heap.size:=hx.size
     clear hY
     unfold Gives
     simp only[ai,Act.put,List.getD_cons_zero,List.getD_cons_succ,List.setIfInBounds_toArray,List.set_cons_zero,List.set_cons_succ]
     go_simp
     exact⟨(Mv.refl _ _).alloc _,⟨x.heap.size,rfl,hsz,heap_alloc_new x _⟩,by intros;exact iT.grow ((Mv.refl _ _).alloc _) _ _ (by assumption)⟩
    case s11 =>
     intro vs x hx hY
     have h8:vs 8=((aD f s 3).getD noSlot).val:=hY 8 (by simp) (by simp)
     obtain⟨g,(h10:vs 10=_),hg0,hgb⟩:=hY 10 (by simp) (by simp)
     obtain⟨z0,z1,z2,z3⟩:=gu hgb
     have zt:=gN hgb
     generalize (aD f s 3).getD noSlot=sl at *
     obtain⟨s0,s1,s2,s3⟩:=sl
     replace h8:vs 8 = .agg #[.string s0,.int .u8 s1,.int .i64 s2,.int .i64 s3]:=h8
     obtain⟨CU,Ca⟩:=wM hgb (.string s0) (.int .u8 s1) (.int .i64 s2) (.int .i64 s3)
     clear hY
     unfold Gives
     simp only[ai,Act.put,List.getD_cons_zero,List.getD_cons_succ,List.setIfInBounds_toArray,List.set_cons_zero,List.set_cons_succ,h8,h10]
     go_simp
     exact⟨Ca.mono (λb e => .inl (by omega)),⟨g,h10,hg0,CU⟩,λj l hj hk h=>iT.keep j l hj (λe=>hk (by subst e;decide)) h⟩
    case s12 =>
     intro vs x hx hY
     have h9:vs 9 = .bool (aD f s 3).isSome:=hY 9 (by simp) (by simp)
     clear hY
     unfold Gives
     simp only[ai,Act.put,List.getD_cons_zero,List.getD_cons_succ,List.setIfInBounds_toArray,List.set_cons_zero,List.set_cons_succ,h9]
     go_simp
     exact⟨Mv.refl _ _,rfl,by intros;assumption⟩
   case done =>
   intro vs wx hx hY
   obtain⟨g,(uk:vs 10=_),hg0,hgb⟩:=hY 11 (by decide) rfl
   have h0:vs 0=(.pointer (some ⟨C,0,none⟩)):=hY 0 (by decide) rfl
   have h1:vs 1=(.pointer (some ⟨C,0,none⟩)):=hY 1 (by decide) rfl
   have h2:vs 2=(.pointer (some ⟨C,0,none⟩)):=hY 2 (by decide) rfl
   have h3:vs 3=(.agg #[.slice fa f.slots.length fc,.int .i64 f.cells,.int .i64 f.stacks]):=hY 3 (by decide) rfl
   have h4:vs 4=(.pointer (some ⟨w.heap.size,2,none⟩)):=hY 4 (by decide) rfl
   have h5:vs 5 = .string s:=hY 5 (by decide) rfl
   have h6:vs 6=(.tuple #[((aD f s 3).getD noSlot).val,.bool (aD f s 3).isSome]):=hY 6 (by decide) rfl
   have h7:vs 7=(.tuple #[((aD f s 3).getD noSlot).val,.bool (aD f s 3).isSome]):=hY 7 (by decide) rfl
   have h8:vs 8=((aD f s 3).getD noSlot).val:=hY 8 (by decide) rfl
   have h9:vs 9 = .bool (aD f s 3).isSome:=hY 9 (by decide) rfl
   have h12:vs 12 = .bool (aD f s 3).isSome:=hY 12 (by decide) rfl
   simp only[List.length_cons,List.length_nil,Nat.zero_add,Nat.reduceAdd]
   rw[show List.range 13=[0,1,2,3,4,5,6,7,8,9,10,11,12]from rfl]
   simp only[ai,Act.put,List.getD_cons_zero,List.getD_cons_succ,List.setIfInBounds_toArray,List.set_cons_zero,List.set_cons_succ,uk,h0,h1,h2,h3,h4,h5,h6,h7,h8,h9,h12]
   clear hY uk h0 h1 h2 h3 h4 h5 h6 h7 h8 h9 h12
   generalize hsl:(aD f s 3).getD noSlot=sl at *
   have CV:=Lib.hid hsl
   clear hsl
   have dU:=Lib.hid (show eY w0 C (.slice fa f.slots.length fc) f wx cv code from⟨oU.out wx hx,oV.out wx hx,fQ (w:=w1.drew) gV.out.row hx (λg hg e=>by have:=(gV.out.row.lt g hg).2;omega),gV.out.hC⟩)
   have y7:=Lib.hid (uS.out.trans (⟨((Mv.refl (λb=>b=C\/cv.ownBlock=some b) w1).drew).trans (hx.mono (λx e => .inr e)) (λx e => .inl e),λ_ h => .inl h⟩:gL C w1 cv wx cv))
   obtain⟨q0,q1,q2,q3⟩:=gu hgb
   obtain⟨⟨n0,n1⟩,n2,n3⟩:=fE (kL.out wx hx)
   have hln:=lt_of_block (kL.out wx hx)
   have Ww:=lt_of_block hgb
   clear hx oU oQ oV kL gV uS hgb
   go_wp2_with fail
   refine(uY 15 1 sl.at' wx.heap.size _ _ (heap_alloc_new wx _)).mono ?_
   rintro e w3 ⟨rfl,hg3⟩
   simp only
   have hgx:Grow wx w3:=Mv.trans ((Mv.refl _ wx).alloc _) hg3 (λ_ e=>e.elim)
   have um:=Lib.hid (dU.out.grow hgx)
   have y8:=Lib.hid (y7.out.trans (gL.grow hgx))
   clear hg3 hgx q0 q1 q2 q3 n0 n1 n2 n3
   go_wp2_with fail
   refine(uY 12 1 0 w3.heap.size _ _ (heap_alloc_new w3 _)).mono ?_
   rintro e w4 ⟨rfl,hg4⟩
   simp only
   have xE:Grow w3 (w4.alloc (.cells #[.int .u8 15,.int .i64 1,.int .i64 sl.at',.int .i64 0,.int .i64 0,.int .u8 12,.int .i64 1,.int .i64 0,.int .i64 0,.int .i64 0] 69)):=(Mv.trans ((Mv.refl _ w3).alloc _) hg4 (λ_ e=>e.elim)).alloc _
   have Ld:=Lib.hid (um.out.grow xE)
   have Lg:=Lib.hid (y8.out.trans (gL.grow xE))
   have CW:=Lib.hid (I1 w0 C (.slice fa f.slots.length fc) f _ cv code (.slice (some ⟨w4.heap.size,0,none⟩) 2 2) ([⟨15,1,sl.at',0,0⟩,⟨12,1,0,0,0⟩]:List Ins) Ld.out (aB.gW (f:=Ins.cells) (l:=([⟨15,1,sl.at',0,0⟩,⟨12,1,0,0,0⟩]:List Ins)) (λ_=>rfl) (heap_alloc_new w4 _) rfl (by simp)) (by simp;omega))
   clear hg4 xE
   go_wp2_with fail
   refine CW.out.mono ?_
   rintro e w5 ⟨rfl,cv',hs5,CX⟩
   have ML:=Lib.hid hs5
   have MM:=Lib.hid (Lg.out.trans CX)
   clear hs5 CX CW
   go_wp2_with fail
   go_end0
   exact⟨rfl,_,by rw[CV.out];exact ML.out,MM.out⟩
structure agr where
 code:List Ins
 refs:List cB
def Bq (op:Int):Int :=
 if op=1 then 2 else if op=2 then 1 else if op=4 then 5 else if op=5 then 4 else if op=12 then 13 else if op=13 then 12
 else if op=17 then 18 else if op=18 then 17 else if op=19 then 20 else if op=20 then 19
 else if op=22\/op=23\/op=24 then op+3 else if op=25\/op=26\/op=27 then op - 3
 else if op=28 then 29 else if op=29 then 28 else if op=32 then 33 else if op=33 then 32 else op
def Ins.inv (i:Ins):Ins := { i with op:=Bq i.op }
def lK (l:List Ins):List Ins:=(l.map Ins.inv).reverse
def Ins.shift (i:Ins) (by':Int):Ins:=if mX i.op then i.xU (wrap64 (i.target+by'))else i
def nT (l:List Ins) (by':Int):List Ins:=l.map λi=>i.shift by'
def cB.shift (r:cB) (by':Int):cB:=⟨wrap64 (r.at'+by'),r.name⟩
end Go.Proofs.YtadecgbblajifaaGreatDoor
