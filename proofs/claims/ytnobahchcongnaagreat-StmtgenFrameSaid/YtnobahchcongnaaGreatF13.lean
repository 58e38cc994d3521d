import Derived.Test.YtnobahchcongnaaGreatF12
set_option linter.unusedSimpArgs false
set_option linter.unusedVariables false
set_option maxRecDepth 100000
set_option maxHeartbeats 25600000
namespace Go.Proofs.YtnobahchcongnaaGreat
section
open Go.RowKit Go.Instr
theorem Oh (w0:World) (C:Nat) (sv:Value) (f:az) (w:World) (cv:Value) (code:List Ins) (k n:Int) (s:ByteArray) (kv:Value) (l:List ae) (hst:bD w0 C sv f w cv code) (hf:fV w0 sv f) (hx:aS w0 (.mk k n s kv l)) (hlen:code.length<=900000) (hk:k=4\/k=5) :
 Calls Tryz.prog 94 #[.pointer (some ⟨C,0,none⟩),ae.val (.mk k n s kv l)] w λe w'=>e = .returned (.tuple #[])/\∃ cv',bD w0 C sv f w' cv' (code ++ [⟨if k=5 then 15 else 14,1,((au f s 3).getD noSlot).at',0,0⟩,⟨12,1,0,0,0⟩])/\cK C w cv w' cv':=by
 obtain⟨fa,fc,rfl,hfc,hfl⟩:=hf.row.form;obtain⟨a,cap,rfl,hcap,_l⟩:=hx.form;simp only[ae.val];have HF:=ł hf;clear hf hx;rcases hk with rfl|rfl
 · simp only[show ¬ ((4:Int)=5)from by decide,if_false];have hga:Grow w (w.alloc (.cells #[.int .u8 4,.int .i64 n,.string s,.slice a l.length cap] 26)):=(Mv.refl _ _).alloc _;have bI:=ł (hst.grow hga);have HN:=ł (heap_alloc_new w (.cells #[.int .u8 4,.int .i64 n,.string s,.slice a l.length cap] 26));have dI:=ł (cK.grow (C:=C) (cv:=cv) hga);have zM:C<w.heap.size:=lt_of_block hst.blk;clear hst hga
   go_enter Tryz.func94,Tryz.ntmps94
   go_wp2_with fail;have wm:w.heap.size<(w.alloc (.cells #[.int .u8 4,.int .i64 n,.string s,.slice a l.length cap] 26)).heap.size:=by simp
   generalize w.alloc (.cells #[.int .u8 4,.int .i64 n,.string s,.slice a l.length cap] 26)=w1 at *;have jW:=ł (λ(x:World) (hx:Mv (λb=>w1.heap.size<=b) w1.drew x)=>(show Grow w0 x from Mv.trans (Mv.drew bI.out.g) hx (λb hb => .inr (Nat.le_trans bI.out.g.size hb))));have mH:=ł (λ(x:World) (hx:Mv (λb=>w1.heap.size<=b) w1.drew x)=>HF.out.later (jW.out x hx));have ow:=ł (λ(x:World) (hx:Mv (λb=>w1.heap.size<=b) w1.drew x)=>(show x.heap[C]? = _ from(hx.block C (by show C<w1.heap.size;omega) (by omega)).trans bI.out.blk));have iR:=ł (λ(x:World) (hx:Mv (λb=>w1.heap.size<=b) w1.drew x)=>(show x.heap[w.heap.size]? = _ from(hx.block w.heap.size (by show w.heap.size<w1.heap.size;omega) (by omega)).trans HN.out));refine BG (by kernel_rfl) 30 [some 8,some 9,some 10,some 11,some 12,some 13,some 14,some 7,some 15,some 16,some 4,none,some 5] [[],[0],[1],[2],[],[4],[3,5],[6],[7],[7],[],[10,8,6,0,1,2,3,4,5,6,7,8,10],[9,11,0,1,2,3,4,5,6,7,8,9,10,11]] [[],[0],[1],[2],[],[4],[3,5],[6],[7],[7],[],[10,8],[9]] [[0],[1],[2],[3],[4],[5],[6],[7],[8],[9],[10],[10],[12]] [[],[],[],[],[],[],[],[],[],[],[11],[],[]] rfl (by kernel_rfl) (Mv (λb=>w1.heap.size<=b)) (λ_=>Mv.refl _ _) (λx y z h1 h2=>h1.trans h2 (λ_ e => .inl e)) (jo w1.heap.size (.pointer (some ⟨C,0,none⟩)) (.agg #[.slice fa f.slots.length fc,.int .i64 f.cells,.int .i64 f.stacks]) (.pointer (some ⟨w.heap.size,2,none⟩)) (.string s) ((au f s 3).getD noSlot) (au f s 3).isSome) ?steps ?done
   case steps =>
    refine⟨?s0,?s1,?s2,?s3,?s4,?s5,?s6,?s7,?s8,?s9,?s10,?s11,?s12,trivial⟩
    case s0|s4 =>
     intro vs x hx hY;clear hY;simp only[zR];go_simp;exact⟨Mv.refl _ _,rfl,by intros;assumption⟩
    case s1 =>
     intro vs x hx hY;have h0:vs 0=(.pointer (some ⟨C,0,none⟩)):=hY 0 (by simp) (by simp);clear hY;simp only[zR,h0];go_simp;exact⟨Mv.refl _ _,rfl,by intros;assumption⟩
    case s2 =>
     intro vs x hx hY;have h1:vs 1=(.pointer (some ⟨C,0,none⟩)):=hY 1 (by simp) (by simp);clear hY;simp only[zR,h1];go_simp;exact⟨Mv.refl _ _,rfl,by intros;assumption⟩
    case s3 =>
     intro vs x hx hY;have h2:vs 2=(.pointer (some ⟨C,0,none⟩)):=hY 2 (by simp) (by simp);obtain⟨⟨k0,k1⟩,k2,k3⟩:=aF (ow.out x hx);clear hY;simp only[zR,h2];go_simp;exact⟨Mv.refl _ _,rfl,by intros;assumption⟩
    case s5 =>
     intro vs x hx hY;have h4:vs 4=(.pointer (some ⟨w.heap.size,2,none⟩)):=hY 4 (by simp) (by simp);obtain⟨⟨n0,n1⟩,n2,n3⟩:=aF (iR.out x hx);clear hY;simp only[zR,h4];go_simp;exact⟨Mv.refl _ _,rfl,by intros;assumption⟩
    case s6 =>
     intro vs x hx hY;have h3:vs 3=(.agg #[.slice fa f.slots.length fc,.int .i64 f.cells,.int .i64 f.stacks]):=hY 3 (by simp) (by simp);have h5:vs 5 = .string s:=hY 5 (by simp) (by simp);have HC:=ł (oV (.slice fa f.slots.length fc) f s 3 x (mH.out x hx));clear hY;simp only[zR,h3,h5];go_simp;refine HC.out.mono ?_;rintro e y ⟨rfl,hg⟩;exact⟨_,rfl,hg.mono (λ_ e=>e.elim),rfl,by intros;exact jo.grow hg _ _ (by assumption)⟩
    case s7 =>
     intro vs x hx hY;have h6:vs 6=(.tuple #[((au f s 3).getD noSlot).val,.bool (au f s 3).isSome]):=hY 6 (by simp) (by simp);clear hY;simp only[zR,h6];go_simp;exact⟨Mv.refl _ _,rfl,by intros;assumption⟩
    case s8|s9 =>
     intro vs x hx hY;have h7:vs 7=(.tuple #[((au f s 3).getD noSlot).val,.bool (au f s 3).isSome]):=hY 7 (by simp) (by simp);clear hY;simp only[zR,h7];go_simp;exact⟨Mv.refl _ _,rfl,by intros;assumption⟩
    case s10 =>
     intro vs x hx hY;have hsz:w1.heap.size<=x.heap.size:=hx.size;clear hY;simp only[zR];go_simp;exact⟨(Mv.refl _ _).alloc _,⟨x.heap.size,rfl,hsz,heap_alloc_new x _⟩,by intros;exact jo.grow ((Mv.refl _ _).alloc _) _ _ (by assumption)⟩
    case s11 =>
     intro vs x hx hY;have h8:vs 8=((au f s 3).getD noSlot).val:=hY 8 (by simp) (by simp);obtain⟨g,(h10:vs 10=_),hg0,hgb⟩:=hY 10 (by simp) (by simp);obtain⟨z0,z1,z2,z3⟩:=dF hgb;have zt:=aD hgb;generalize (au f s 3).getD noSlot=sl at *;obtain⟨s0,s1,s2,s3⟩:=sl
     replace h8:vs 8 = .agg #[.string s0,.int .u8 s1,.int .i64 s2,.int .i64 s3]:=h8
     obtain⟨zN,nX⟩:=nW hgb (.string s0) (.int .u8 s1) (.int .i64 s2) (.int .i64 s3);clear hY;simp only[zR,h8,h10];go_simp;exact⟨nX.mono (λb e => .inl (by omega)),⟨g,h10,hg0,zN⟩,λj l hj hk h=>jo.keep j l hj (λe=>hk (by subst e;decide)) h⟩
    case s12 =>
     intro vs x hx hY;have h9:vs 9 = .bool (au f s 3).isSome:=hY 9 (by simp) (by simp);clear hY;simp only[zR,h9];go_simp;exact⟨Mv.refl _ _,rfl,by intros;assumption⟩
   case done =>
   intro vs wx hx hY;obtain⟨g,(sN:vs 10=_),hg0,hgb⟩:=hY 11 (by decide) rfl;have h0:vs 0=(.pointer (some ⟨C,0,none⟩)):=hY 0 (by decide) rfl;have h1:vs 1=(.pointer (some ⟨C,0,none⟩)):=hY 1 (by decide) rfl;have h2:vs 2=(.pointer (some ⟨C,0,none⟩)):=hY 2 (by decide) rfl;have h3:vs 3=(.agg #[.slice fa f.slots.length fc,.int .i64 f.cells,.int .i64 f.stacks]):=hY 3 (by decide) rfl;have h4:vs 4=(.pointer (some ⟨w.heap.size,2,none⟩)):=hY 4 (by decide) rfl;have h5:vs 5 = .string s:=hY 5 (by decide) rfl;have h6:vs 6=(.tuple #[((au f s 3).getD noSlot).val,.bool (au f s 3).isSome]):=hY 6 (by decide) rfl;have h7:vs 7=(.tuple #[((au f s 3).getD noSlot).val,.bool (au f s 3).isSome]):=hY 7 (by decide) rfl;have h8:vs 8=((au f s 3).getD noSlot).val:=hY 8 (by decide) rfl;have h9:vs 9 = .bool (au f s 3).isSome:=hY 9 (by decide) rfl;have h12:vs 12 = .bool (au f s 3).isSome:=hY 12 (by decide) rfl;simp only[List.length_cons,List.length_nil,Nat.zero_add,Nat.reduceAdd];rw[show List.range 13=[0,1,2,3,4,5,6,7,8,9,10,11,12]from rfl];simp only[zR,sN,h0,h1,h2,h3,h4,h5,h6,h7,h8,h9,h12];clear hY sN h0 h1 h2 h3 h4 h5 h6 h7 h8 h9 h12;generalize hsl:(au f s 3).getD noSlot=sl at *;have ng:=ł hsl;clear hsl;have aY:=ł (show bD w0 C (.slice fa f.slots.length fc) f wx cv code from⟨jW.out wx hx,ow.out wx hx,bM (w:=w1.drew) bI.out.row hx (λg hg e=>by have:=(bI.out.row.lt g hg).2;omega),bI.out.hC⟩);have wu:=ł (dI.out.trans (⟨((Mv.refl (λb=>b=C\/cv.ownBlock=some b) w1).drew).trans (hx.mono (λx e => .inr e)) (λx e => .inl e),λ_ h => .inl h⟩:cK C w1 cv wx cv));obtain⟨q0,q1,q2,q3⟩:=dF hgb;obtain⟨⟨n0,n1⟩,n2,n3⟩:=aF (iR.out wx hx);have hln:=lt_of_block (iR.out wx hx);have wU:=lt_of_block hgb;clear hx jW mH ow iR bI dI hgb;go_wp2_with fail;refine(gK 14 1 sl.at' wx.heap.size _ _ (heap_alloc_new wx _)).mono ?_;rintro e w3 ⟨rfl,hg3⟩;simp only;have hgx:Grow wx w3:=Mv.trans ((Mv.refl _ wx).alloc _) hg3 (λ_ e=>e.elim);have fA:=ł (aY.out.grow hgx);have wB:=ł (wu.out.trans (cK.grow hgx));clear hg3 hgx q0 q1 q2 q3 n0 n1 n2 n3;go_wp2_with fail;refine(gK 12 1 0 w3.heap.size _ _ (heap_alloc_new w3 _)).mono ?_;rintro e w4 ⟨rfl,hg4⟩;simp only;have zO:Grow w3 (w4.alloc (.cells #[.int .u8 14,.int .i64 1,.int .i64 sl.at',.int .i64 0,.int .i64 0,.int .u8 12,.int .i64 1,.int .i64 0,.int .i64 0,.int .i64 0] 60)):=(Mv.trans ((Mv.refl _ w3).alloc _) hg4 (λ_ e=>e.elim)).alloc _;have iO:=ł (fA.out.grow zO);have KQ:=ł (wB.out.trans (cK.grow zO));have dJ:=ł (lZ w0 C (.slice fa f.slots.length fc) f _ cv code (.slice (some ⟨w4.heap.size,0,none⟩) 2 2) ([⟨14,1,sl.at',0,0⟩,⟨12,1,0,0,0⟩]:List Ins) iO.out (ax.bN (f:=Ins.cells) (l:=([⟨14,1,sl.at',0,0⟩,⟨12,1,0,0,0⟩]:List Ins)) (λ_=>rfl) (heap_alloc_new w4 _) rfl (by simp)) (by simp;omega));clear hg4 zO;go_wp2_with fail;refine dJ.out.mono ?_;rintro e w5 ⟨rfl,cv',hs5,DJ⟩;have pM:=ł hs5;have uZ:=ł (KQ.out.trans DJ);clear hs5 DJ dJ;go_wp2_with fail
   go_end0
   exact⟨rfl,_,by rw[ng.out];exact pM.out,uZ.out⟩
 · simp only[if_true];have hga:Grow w (w.alloc (.cells #[.int .u8 5,.int .i64 n,.string s,.slice a l.length cap] 26)):=(Mv.refl _ _).alloc _;have bI:=ł (hst.grow hga);have HN:=ł (heap_alloc_new w (.cells #[.int .u8 5,.int .i64 n,.string s,.slice a l.length cap] 26));have dI:=ł (cK.grow (C:=C) (cv:=cv) hga);have zM:C<w.heap.size:=lt_of_block hst.blk;clear hst hga
   go_enter Tryz.func94,Tryz.ntmps94
   go_wp2_with fail;have wm:w.heap.size<(w.alloc (.cells #[.int .u8 5,.int .i64 n,.string s,.slice a l.length cap] 26)).heap.size:=by simp
   generalize w.alloc (.cells #[.int .u8 5,.int .i64 n,.string s,.slice a l.length cap] 26)=w1 at *;have jW:=ł (λ(x:World) (hx:Mv (λb=>w1.heap.size<=b) w1.drew x)=>(show Grow w0 x from Mv.trans (Mv.drew bI.out.g) hx (λb hb => .inr (Nat.le_trans bI.out.g.size hb))));have mH:=ł (λ(x:World) (hx:Mv (λb=>w1.heap.size<=b) w1.drew x)=>HF.out.later (jW.out x hx));have ow:=ł (λ(x:World) (hx:Mv (λb=>w1.heap.size<=b) w1.drew x)=>(show x.heap[C]? = _ from(hx.block C (by show C<w1.heap.size;omega) (by omega)).trans bI.out.blk));have iR:=ł (λ(x:World) (hx:Mv (λb=>w1.heap.size<=b) w1.drew x)=>(show x.heap[w.heap.size]? = _ from(hx.block w.heap.size (by show w.heap.size<w1.heap.size;omega) (by omega)).trans HN.out));refine BG (by kernel_rfl) 30 [some 8,some 9,some 10,some 11,some 12,some 13,some 14,some 7,some 15,some 16,some 4,none,some 5] [[],[0],[1],[2],[],[4],[3,5],[6],[7],[7],[],[10,8,6,0,1,2,3,4,5,6,7,8,10],[9,11,0,1,2,3,4,5,6,7,8,9,10,11]] [[],[0],[1],[2],[],[4],[3,5],[6],[7],[7],[],[10,8],[9]] [[0],[1],[2],[3],[4],[5],[6],[7],[8],[9],[10],[10],[12]] [[],[],[],[],[],[],[],[],[],[],[11],[],[]] rfl (by kernel_rfl) (Mv (λb=>w1.heap.size<=b)) (λ_=>Mv.refl _ _) (λx y z h1 h2=>h1.trans h2 (λ_ e => .inl e)) (jo w1.heap.size (.pointer (some ⟨C,0,none⟩)) (.agg #[.slice fa f.slots.length fc,.int .i64 f.cells,.int .i64 f.stacks]) (.pointer (some ⟨w.heap.size,2,none⟩)) (.string s) ((au f s 3).getD noSlot) (au f s 3).isSome) ?steps ?done
   case steps =>
    refine⟨?s0,?s1,?s2,?s3,?s4,?s5,?s6,?s7,?s8,?s9,?s10,?s11,?s12,trivial⟩
    case s0|s4 =>
     intro vs x hx hY;clear hY;simp only[zR];go_simp;exact⟨Mv.refl _ _,rfl,by intros;assumption⟩
    case s1 =>
     intro vs x hx hY;have h0:vs 0=(.pointer (some ⟨C,0,none⟩)):=hY 0 (by simp) (by simp);clear hY;simp only[zR,h0];go_simp;exact⟨Mv.refl _ _,rfl,by intros;assumption⟩
    case s2 =>
     intro vs x hx hY;have h1:vs 1=(.pointer (some ⟨C,0,none⟩)):=hY 1 (by simp) (by simp);clear hY;simp only[zR,h1];go_simp;exact⟨Mv.refl _ _,rfl,by intros;assumption⟩
    case s3 =>
     intro vs x hx hY;have h2:vs 2=(.pointer (some ⟨C,0,none⟩)):=hY 2 (by simp) (by simp);obtain⟨⟨k0,k1⟩,k2,k3⟩:=aF (ow.out x hx);clear hY;simp only[zR,h2];go_simp;exact⟨Mv.refl _ _,rfl,by intros;assumption⟩
    case s5 =>
     intro vs x hx hY;have h4:vs 4=(.pointer (some ⟨w.heap.size,2,none⟩)):=hY 4 (by simp) (by simp);obtain⟨⟨n0,n1⟩,n2,n3⟩:=aF (iR.out x hx);clear hY;simp only[zR,h4];go_simp;exact⟨Mv.refl _ _,rfl,by intros;assumption⟩
    case s6 =>
     intro vs x hx hY;have h3:vs 3=(.agg #[.slice fa f.slots.length fc,.int .i64 f.cells,.int .i64 f.stacks]):=hY 3 (by simp) (by simp);have h5:vs 5 = .string s:=hY 5 (by simp) (by simp);have HC:=ł (oV (.slice fa f.slots.length fc) f s 3 x (mH.out x hx));clear hY;simp only[zR,h3,h5];go_simp;refine HC.out.mono ?_;rintro e y ⟨rfl,hg⟩;exact⟨_,rfl,hg.mono (λ_ e=>e.elim),rfl,by intros;exact jo.grow hg _ _ (by assumption)⟩
    case s7 =>
     intro vs x hx hY;have h6:vs 6=(.tuple #[((au f s 3).getD noSlot).val,.bool (au f s 3).isSome]):=hY 6 (by simp) (by simp);clear hY;simp only[zR,h6];go_simp;exact⟨Mv.refl _ _,rfl,by intros;assumption⟩
    case s8|s9 =>
     intro vs x hx hY;have h7:vs 7=(.tuple #[((au f s 3).getD noSlot).val,.bool (au f s 3).isSome]):=hY 7 (by simp) (by simp);clear hY;simp only[zR,h7];go_simp;exact⟨Mv.refl _ _,rfl,by intros;assumption⟩
    case s10 =>
     intro vs x hx hY;have hsz:w1.heap.size<=x.heap.size:=hx.size;clear hY;simp only[zR];go_simp;exact⟨(Mv.refl _ _).alloc _,⟨x.heap.size,rfl,hsz,heap_alloc_new x _⟩,by intros;exact jo.grow ((Mv.refl _ _).alloc _) _ _ (by assumption)⟩
    case s11 =>
     intro vs x hx hY;have h8:vs 8=((au f s 3).getD noSlot).val:=hY 8 (by simp) (by simp);obtain⟨g,(h10:vs 10=_),hg0,hgb⟩:=hY 10 (by simp) (by simp);obtain⟨z0,z1,z2,z3⟩:=dF hgb;have zt:=aD hgb;generalize (au f s 3).getD noSlot=sl at *;obtain⟨s0,s1,s2,s3⟩:=sl
     replace h8:vs 8 = .agg #[.string s0,.int .u8 s1,.int .i64 s2,.int .i64 s3]:=h8
     obtain⟨zN,nX⟩:=nW hgb (.string s0) (.int .u8 s1) (.int .i64 s2) (.int .i64 s3);clear hY;simp only[zR,h8,h10];go_simp;exact⟨nX.mono (λb e => .inl (by omega)),⟨g,h10,hg0,zN⟩,λj l hj hk h=>jo.keep j l hj (λe=>hk (by subst e;decide)) h⟩
    case s12 =>
     intro vs x hx hY;have h9:vs 9 = .bool (au f s 3).isSome:=hY 9 (by simp) (by simp);clear hY;simp only[zR,h9];go_simp;exact⟨Mv.refl _ _,rfl,by intros;assumption⟩
   case done =>
   intro vs wx hx hY;obtain⟨g,(sN:vs 10=_),hg0,hgb⟩:=hY 11 (by decide) rfl;have h0:vs 0=(.pointer (some ⟨C,0,none⟩)):=hY 0 (by decide) rfl;have h1:vs 1=(.pointer (some ⟨C,0,none⟩)):=hY 1 (by decide) rfl;have h2:vs 2=(.pointer (some ⟨C,0,none⟩)):=hY 2 (by decide) rfl;have h3:vs 3=(.agg #[.slice fa f.slots.length fc,.int .i64 f.cells,.int .i64 f.stacks]):=hY 3 (by decide) rfl;have h4:vs 4=(.pointer (some ⟨w.heap.size,2,none⟩)):=hY 4 (by decide) rfl;have h5:vs 5 = .string s:=hY 5 (by decide) rfl;have h6:vs 6=(.tuple #[((au f s 3).getD noSlot).val,.bool (au f s 3).isSome]):=hY 6 (by decide) rfl;have h7:vs 7=(.tuple #[((au f s 3).getD noSlot).val,.bool (au f s 3).isSome]):=hY 7 (by decide) rfl;have h8:vs 8=((au f s 3).getD noSlot).val:=hY 8 (by decide) rfl;have h9:vs 9 = .bool (au f s 3).isSome:=hY 9 (by decide) rfl;have h12:vs 12 = .bool (au f s 3).isSome:=hY 12 (by decide) rfl;simp only[List.length_cons,List.length_nil,Nat.zero_add,Nat.reduceAdd];rw[show List.range 13=[0,1,2,3,4,5,6,7,8,9,10,11,12]from rfl];simp only[zR,sN,h0,h1,h2,h3,h4,h5,h6,h7,h8,h9,h12];clear hY sN h0 h1 h2 h3 h4 h5 h6 h7 h8 h9 h12;generalize hsl:(au f s 3).getD noSlot=sl at *;have ng:=ł hsl;clear hsl;have aY:=ł (show bD w0 C (.slice fa f.slots.length fc) f wx cv code from⟨jW.out wx hx,ow.out wx hx,bM (w:=w1.drew) bI.out.row hx (λg hg e=>by have:=(bI.out.row.lt g hg).2;omega),bI.out.hC⟩);have wu:=ł (dI.out.trans (⟨((Mv.refl (λb=>b=C\/cv.ownBlock=some b) w1).drew).trans (hx.mono (λx e => .inr e)) (λx e => .inl e),λ_ h => .inl h⟩:cK C w1 cv wx cv));obtain⟨q0,q1,q2,q3⟩:=dF hgb;obtain⟨⟨n0,n1⟩,n2,n3⟩:=aF (iR.out wx hx);have hln:=lt_of_block (iR.out wx hx);have wU:=lt_of_block hgb;clear hx jW mH ow iR bI dI hgb;go_wp2_with fail;refine(gK 15 1 sl.at' wx.heap.size _ _ (heap_alloc_new wx _)).mono ?_;rintro e w3 ⟨rfl,hg3⟩;simp only;have hgx:Grow wx w3:=Mv.trans ((Mv.refl _ wx).alloc _) hg3 (λ_ e=>e.elim);have fA:=ł (aY.out.grow hgx);have wB:=ł (wu.out.trans (cK.grow hgx));clear hg3 hgx q0 q1 q2 q3 n0 n1 n2 n3;go_wp2_with fail;refine(gK 12 1 0 w3.heap.size _ _ (heap_alloc_new w3 _)).mono ?_;rintro e w4 ⟨rfl,hg4⟩;simp only;have zO:Grow w3 (w4.alloc (.cells #[.int .u8 15,.int .i64 1,.int .i64 sl.at',.int .i64 0,.int .i64 0,.int .u8 12,.int .i64 1,.int .i64 0,.int .i64 0,.int .i64 0] 60)):=(Mv.trans ((Mv.refl _ w3).alloc _) hg4 (λ_ e=>e.elim)).alloc _;have iO:=ł (fA.out.grow zO);have KQ:=ł (wB.out.trans (cK.grow zO));have dJ:=ł (lZ w0 C (.slice fa f.slots.length fc) f _ cv code (.slice (some ⟨w4.heap.size,0,none⟩) 2 2) ([⟨15,1,sl.at',0,0⟩,⟨12,1,0,0,0⟩]:List Ins) iO.out (ax.bN (f:=Ins.cells) (l:=([⟨15,1,sl.at',0,0⟩,⟨12,1,0,0,0⟩]:List Ins)) (λ_=>rfl) (heap_alloc_new w4 _) rfl (by simp)) (by simp;omega));clear hg4 zO;go_wp2_with fail;refine dJ.out.mono ?_;rintro e w5 ⟨rfl,cv',hs5,DJ⟩;have pM:=ł hs5;have uZ:=ł (KQ.out.trans DJ);clear hs5 DJ dJ;go_wp2_with fail
   go_end0
   exact⟨rfl,_,by rw[ng.out];exact pM.out,uZ.out⟩
mutual
def jq (f:az):Tree->Int->List Ins
 |.mk k n s l,p =>
  if k=1 then[⟨6,1,n,0,0⟩,⟨12,1,0,0,0⟩]
  else if k=2 then[⟨10,1,((au f s 1).getD noSlot).at',0,0⟩,⟨3,2,1,0,0⟩,⟨10,1,((au f s 1).getD noSlot).at',0,0⟩,⟨12,2,0,0,0⟩]
  else if k=3 then(kS f l p).getD 0 [] ++ [⟨13,1,0,0,0⟩,⟨11,2,1,((au f s 2).getD noSlot).at',((au f s 2).getD noSlot).len⟩,⟨3,3,2,0,0⟩,⟨11,2,1,((au f s 2).getD noSlot).at',((au f s 2).getD noSlot).len⟩,⟨12,1,0,0,0⟩,⟨12,3,0,0,0⟩]
  else if k=4\/k=5 then[⟨if k=5 then 15 else 14,1,((au f s 3).getD noSlot).at',0,0⟩,⟨12,1,0,0,0⟩]
  else if k=6 then(kS f l p).getD 0 [] ++ [⟨13,1,0,0,0⟩] ++ [⟨3,3,1,0,0⟩,⟨8,3,0,0,0⟩] ++ [⟨12,1,0,0,0⟩,⟨12,3,0,0,0⟩]
  else if k=7 then(kS f l p).getD 0 [] ++ [⟨13,1,0,0,0⟩] ++ [⟨9,3,1,2,16⟩] ++ [⟨12,1,0,0,0⟩,⟨12,3,0,0,0⟩]
  else(kS f l p).getD 0 [] ++ [⟨13,1,0,0,0⟩,⟨10,1,f.cells+p,0,0⟩] ++ (kS f l p).getD 1 [] ++ [⟨13,2,0,0,0⟩,⟨10,1,f.cells+p,0,0⟩,⟨9,3,1,2,k⟩,⟨12,1,0,0,0⟩,⟨12,2,0,0,0⟩,⟨12,3,0,0,0⟩]
def kS (f:az):List Tree->Int->List (List Ins)
 | [],_=>[]
 |t :: l,p=>jq f t p :: kS f l (p+1)
end
theorem Ay (f:az):∀ (l:List Tree) (p:Int) (i:Nat) (h:i<l.length),(kS f l p).getD i []=jq f l[i] (p+i)
 | [],_,_,h=>by simp at h
 |t :: l,p,0,_=>by simp[kS]
 |t :: l,p,i+1,h=>by
  have:=Ay f l (p+1) i (by simpa using h);simp only[kS,List.getD_cons_succ,List.getElem_cons_succ];rw[this];congr 1;omega
def xN (w0:World) (C:Nat) (sv:Value) (f:az) (w:World) (cv:Value) (code add:List Ins) (e:Ending) (w':World):Prop :=
 e = .returned (.tuple #[])/\∃ cv',bD w0 C sv f w' cv' (code ++ add)/\cK C w cv w' cv'
end
section
open Go.RowKit
def x8 (op:Int):Bool:=Dr op || Gu op
theorem XY (op:Int) (w:World):Calls Tryz.prog 113 #[.int .u8 op] w λe w'=>e = .returned (.bool (x8 op))/\w=w':=by
 have HB:=ł (show x8 op=(Dr op || Gu op)from rfl)
 go_enter Tryz.func113,Tryz.ntmps113
 go_wp2_with fail;refine(WM op _).mono ?_;rintro e w' ⟨rfl,rfl⟩;generalize Dr op=q at *;cases q
 · go_wp2_with fail;refine(VT op _).mono ?_;rintro e w' ⟨rfl,rfl⟩;go_wp2_with fail;go_ret;exact⟨aL (by rw[HB.out];rfl),rfl⟩
 · go_wp2_with fail;go_ret;exact⟨aL (by rw[HB.out];rfl),rfl⟩
theorem ax.ins {w:World} {b off len cap:Nat} {l:List Ins} (h:ax 5 Ins.cells w (.slice (some ⟨b,off,none⟩) len cap) l) {i:Nat} (hi:i<l.length) :
 (w.cell? ⟨b,off+i * 5,none⟩=some (.int .u8 l[i].op)/\w.cell? ⟨b,off+i * 5+1,none⟩=some (.int .i64 l[i].a)/\w.cell? ⟨b,off+i * 5+2,none⟩=some (.int .i64 l[i].b))/\w.cell? ⟨b,off+i * 5+3,none⟩=some (.int .i64 l[i].c)/\w.cell? ⟨b,off+i * 5+4,none⟩=some (.int .i64 l[i].d)/\b<w.heap.size:=by
 have hc:=h.at' hi;have c0:=hc 0 _ rfl;exact⟨⟨c0,hc 1 _ rfl,hc 2 _ rfl⟩,hc 3 _ rfl,hc 4 _ rfl,World.block_lt_of_cell? w _ c0⟩
end
section
open Go.RowKit Go.Instr
structure aI where
 code:List Ins
 refs:List cO
def fP:aI:=⟨[],[]⟩
def Ck (op:Int):Int :=
 if op=1 then 2 else if op=2 then 1 else if op=4 then 5 else if op=5 then 4 else if op=12 then 13 else if op=13 then 12
 else if op=17 then 18 else if op=18 then 17 else if op=19 then 20 else if op=20 then 19
 else if op=22\/op=23\/op=24 then op+3 else if op=25\/op=26\/op=27 then op - 3
 else if op=28 then 29 else if op=29 then 28 else if op=32 then 33 else if op=33 then 32 else op
def Ins.inv (i:Ins):Ins := { i with op:=Ck i.op }
def kR (l:List Ins):List Ins:=(l.map Ins.inv).reverse
def Ins.shift (i:Ins) (by':Int):Ins:=if x8 i.op then i.j6 (wrap64 (i.target+by'))else i
def dG (l:List Ins) (by':Int):List Ins:=l.map λi=>i.shift by'
def cO.shift (r:cO) (by':Int):cO:=⟨wrap64 (r.at'+by'),r.name⟩
def xS (p q:aI):aI:=⟨p.code ++ dG q.code p.code.length,p.refs ++ q.refs.map λr=>r.shift p.code.length⟩
def aP (l:List aI):aI:=l.foldl xS fP
def ah (l:List Ins):aI:=⟨l,[]⟩
def nU (p:aI) (i j:Nat):aI :=
 match p.code[i]?,p.code[j]? with
 |some x,some y=>⟨(p.code.set i (x.j6 j)).set j (y.j6 i),p.refs⟩
 |_,_=>p
def eP (f:az) (e:Tree):List Ins:=jq f e 0
def aH (f:az) (e:Tree) (use:aI):aI :=
 ah (eP f e ++ [⟨13,4,0,0,0⟩] ++ dG use.code (eP f e).length.succ ++ [⟨12,4,0,0,0⟩] ++ kR (eP f e))
def aj (f:az) (s:ByteArray) (k:Int):Int:=((au f s k).getD noSlot).at'
def gQ (f:az) (p:Tree) (r i:Int):Ins:=⟨11,r,i,((au f p.name 2).getD noSlot).at',((au f p.name 2).getD noSlot).len⟩
def dx:Tree := .mk 0 0 ⟨#[]⟩ []
def Tree.kid (t:Tree) (i:Nat):Tree:=t.kids.getD i dx
def Cg (f:az) (p:Tree) (list:Ins->aI):aI :=
 if p.kind=2 then list ⟨10,5,aj f p.name 1,0,0⟩else aH f (p.kid 0) (list (gQ f p 5 4))
def moveC (f:az) (p:Tree) (i:Ins):aI:=Cg f p λcell=>ah [cell,i,cell]
def o8:aI:=ah [⟨7,4,5,0,0⟩]
def nQ (f:az) (p e:Tree) (op:Int):aI :=
 if p.kind=2 then aH f e (ah [⟨10,5,aj f p.name 1,0,0⟩,⟨op,5,4,0,0⟩,⟨10,5,aj f p.name 1,0,0⟩])
 else aH f (p.kid 0) (aP [o8,aH f e (ah [gQ f p 6 5,⟨op,6,4,0,0⟩,gQ f p 6 5]),o8])
def eH (f:az) (p q:Tree):aI :=
 if p.name≠q.name then ah [gQ f p 6 5,gQ f q 6 4,gQ f p 6 5]
 else nU (ah [gQ f p 6 5,gQ f p 6 5,⟨9,7,5,4,16⟩,⟨24,7,0,0,0⟩,gQ f p 6 5,gQ f q 6 4,gQ f p 6 5,⟨27,7,0,0,0⟩,⟨9,7,5,4,16⟩,gQ f p 6 5,gQ f p 6 5]) 3 7
def yS (f:az) (p q:Tree):aI :=
 if q.kind=2/\p.name=q.name then fP
 else Cg f q λcell=>ah [⟨10,5,aj f p.name 1,0,0⟩,cell,⟨10,5,aj f p.name 1,0,0⟩]
def lG (f:az) (p q:Tree):aI :=
 if p.kind=3/\q.kind=3 then aH f (p.kid 0) (aP [o8,aH f (q.kid 0) (eH f p q),o8])
 else if p.kind=3 then yS f q p else yS f p q
def eU (f:az) (e:Tree):aI:=aH f e (ah [⟨9,0,4,5,17⟩])
def FI:Ins:=⟨21,0,15,0,0⟩
def Fs:Ins:=⟨6,0,1,0,0⟩
def vP (f:az) (e1:Tree) (s t:aI) (e2:Tree):aI :=
 let t1:=eU f e1
 let p:=aP [ah [FI],t1,ah [⟨23,0,0,0,0⟩,Fs],s,ah [Fs,⟨22,0,0,0,0⟩,⟨25,0,0,0,0⟩],t,ah [⟨27,0,0,0,0⟩],eU f e2,ah [FI]]
 let first:=1+t1.code.length
 let second:=first+3+s.code.length
 nU (nU p first (second+1)) second (second+2+t.code.length)
def vV (f:az) (e1:Tree) (s t:aI) (e2:Tree):aI :=
 let t1:=eU f e1
 let t2:=eU f e2
 let p:=aP [ah [Fs,⟨26,0,0,0,0⟩],t1,ah [FI],s,ah [FI],t2,ah [⟨24,0,0,0,0⟩],t,ah [⟨22,0,0,0,0⟩,⟨25,0,0,0,0⟩,Fs]]
 let leave:=4+t1.code.length+s.code.length+t2.code.length
 let rep:=leave+1+t.code.length
 nU (nU p 1 rep) leave (rep+1)
def vS (f:az) (name:ByteArray) (e1:Tree) (s:aI) (e2:Tree):aI :=
 aP [aH f e1 (ah [⟨10,5,aj f name 1,0,0⟩,⟨21,5,16,0,0⟩,⟨3,5,4,0,0⟩,⟨10,5,aj f name 1,0,0⟩]),s,aH f e2 (ah [⟨10,5,aj f name 1,0,0⟩,⟨3,5,4,0,0⟩,⟨21,5,16,0,0⟩,⟨10,5,aj f name 1,0,0⟩])]
def Kl (f:az) (name:ByteArray):aI:=ah [⟨15,5,aj f name 3,0,0⟩,⟨21,5,16,0,0⟩,⟨15,5,aj f name 3,0,0⟩]
def vL (f:az) (name:ByteArray) (s:aI):aI:=aP [Kl f name,s,Kl f name]
def gL (f:az) (v:aA):az :=
 if v.kind=3 then⟨f.slots ++ [⟨v.name,v.kind,v.len,f.stacks+1⟩],f.cells,f.stacks+1⟩
 else if v.kind=2 then⟨f.slots ++ [⟨v.name,v.kind,v.len,f.cells⟩],f.cells+v.len,f.stacks⟩
 else⟨f.slots ++ [⟨v.name,v.kind,v.len,f.cells⟩],f.cells+1,f.stacks⟩
def iI:az:=⟨[],0,0⟩
def frameC (l:List aA):az:=l.foldl gL iI
def qB (f:az) (x:Int) (s:dL):List aI :=
 if s.kind=3 then[ah [⟨16,x,f.stacks+s.at',0,0⟩]]
 else(List.range (if s.kind=2 then s.len.toNat else 1)).map λ(j:Nat)=>ah [⟨10,5,x+j,0,0⟩,⟨10,5,f.cells+s.at'+j,0,0⟩,⟨10,5,x+j,0,0⟩]
def jv (f:az) (kids:List Tree) (slots:List dL):List aI:=((kids.zip slots).map λx=>qB f (aj f x.1.name x.2.kind) x.2).flatten
def sI (f:az) (procs:List aU) (op:Int) (name:ByteArray) (kids:List Tree):aI :=
 let there:=jv f kids (frameC ((vU procs name).map aU.params |>.getD [])).slots
 aP [aP there,ah [⟨28,f.cells,f.stacks,0,0⟩],⟨[⟨op,0,0,0,0⟩],[⟨0,name⟩]⟩,ah [⟨29,f.cells,f.stacks,0,0⟩],aP there.reverse]
mutual
def fw (f:az) (procs:List aU):Tree->aI
 |.mk k _ s l =>
  let e:=λ(i:Nat)=>l.getD i dx
  let b:=jd f procs l
  if k=40 then nQ f (e 0) (e 1) 1 else if k=41 then nQ f (e 0) (e 1) 2 else if k=42 then nQ f (e 0) (e 1) 3
  else if k=43 then lG f (e 0) (e 1)
  else if k=44 then moveC f (e 0) ⟨12,5,aj f s 3,0,0⟩else if k=45 then moveC f (e 0) ⟨13,5,aj f s 3,0,0⟩
  else if k=46 then moveC f (e 0) ⟨17,5,0,0,0⟩else if k=47 then moveC f (e 0) ⟨18,5,0,0,0⟩
  else if k=48 then moveC f (e 0) ⟨19,5,0,0,0⟩else if k=49 then moveC f (e 0) ⟨20,5,0,0,0⟩
  else if k=52 then vP f (e 0) (b.getD 1 fP) (b.getD 2 fP) (e 3)
  else if k=53 then vV f (e 0) (b.getD 1 fP) (b.getD 2 fP) (e 3)
  else if k=54 then vS f s (e 0) (b.getD 1 fP) (e 2)
  else if k=55 then vL f s (b.getD 0 fP)
  else sI f procs (if k=51 then 31 else 30) s l
def aV (f:az) (procs:List aU):Tree->aI
 |.mk _ _ _ l=>aP (uI f procs l)
def uI (f:az) (procs:List aU):List Tree->List aI
 | []=>[]
 |t :: l=>fw f procs t :: uI f procs l
def jd (f:az) (procs:List aU):List Tree->List aI
 | []=>[]
 |t :: l=>aV f procs t :: jd f procs l
end
theorem Jq (f:az) (procs:List aU) (l:List Tree):uI f procs l=l.map (fw f procs):=by
 induction l with
 |nil=>rw[uI];rfl
 |cons t l ih=>rw[uI,ih];rfl
theorem WV (f:az) (procs:List aU) (l:List Tree):jd f procs l=l.map (aV f procs):=by
 induction l with
 |nil=>rw[jd];rfl
 |cons t l ih=>rw[jd,ih];rfl
end
end Go.Proofs.YtnobahchcongnaaGreat
