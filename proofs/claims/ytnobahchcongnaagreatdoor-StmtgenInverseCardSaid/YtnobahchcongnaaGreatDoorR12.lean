import Derived.Test.YtnobahchcongnaaGreatDoorR11
set_option linter.unusedSimpArgs false
set_option linter.unusedVariables false
set_option maxRecDepth 100000
set_option maxHeartbeats 25600000
namespace Go.Proofs.YtnobahchcongnaaGreatDoor
section
open Go.RowKit Go.Instr
theorem PW (w0:World) (C:Nat) (sv:Value) (f:ax) (w:World) (cv:Value) (code:List Ins) (k n:Int) (s:ByteArray) (kv:Value) (l:List ae) (hst:bC w0 C sv f w cv code) (hf:fE w0 sv f) (hx:aR w0 (.mk k n s kv l)) (hlen:code.length<=900000) (hk:k=4\/k=5) :
 Calls Tryz.prog 91 #[.pointer (some ⟨C,0,none⟩),ae.val (.mk k n s kv l)] w λe w'=>e = .returned (.tuple #[])/\∃ cv',bC w0 C sv f w' cv' (code ++ [⟨if k=5 then 15 else 14,1,((au f s 3).getD noSlot).at',0,0⟩,⟨12,1,0,0,0⟩])/\cO C w cv w' cv':=by
 obtain⟨fa,fc,rfl,hfc,hfl⟩:=hf.row.form;obtain⟨a,cap,rfl,hcap,LK⟩:=hx.form;simp only[ae.val];have HF:=ł hf;clear hf hx;rcases hk with rfl|rfl
 · simp only[show ¬ ((4:Int)=5)from by decide,if_false];have hga:Grow w (w.alloc (.cells #[.int .u8 4,.int .i64 n,.string s,.slice a l.length cap] 24)):=(Mv.refl _ _).alloc _;have bD:=ł (hst.grow hga);have HN:=ł (heap_alloc_new w (.cells #[.int .u8 4,.int .i64 n,.string s,.slice a l.length cap] 24));have dS:=ł (cO.grow (C:=C) (cv:=cv) hga);have AZ:C<w.heap.size:=lt_of_block hst.blk;clear hst hga
   go_enter Tryz.func91,Tryz.ntmps91
   go_wp2_with fail;have xm:w.heap.size<(w.alloc (.cells #[.int .u8 4,.int .i64 n,.string s,.slice a l.length cap] 24)).heap.size:=by simp
   generalize w.alloc (.cells #[.int .u8 4,.int .i64 n,.string s,.slice a l.length cap] 24)=w1 at *;have kL:=ł (λ(x:World) (hx:Mv (λb=>w1.heap.size<=b) w1.drew x)=>(show Grow w0 x from Mv.trans (Mv.drew bD.out.g) hx (λb hb => .inr (Nat.le_trans bD.out.g.size hb))));have mD:=ł (λ(x:World) (hx:Mv (λb=>w1.heap.size<=b) w1.drew x)=>HF.out.later (kL.out x hx));have oC:=ł (λ(x:World) (hx:Mv (λb=>w1.heap.size<=b) w1.drew x)=>(show x.heap[C]? = _ from(hx.block C (by show C<w1.heap.size;omega) (by omega)).trans bD.out.blk));have iD:=ł (λ(x:World) (hx:Mv (λb=>w1.heap.size<=b) w1.drew x)=>(show x.heap[w.heap.size]? = _ from(hx.block w.heap.size (by show w.heap.size<w1.heap.size;omega) (by omega)).trans HN.out));refine De (by kernel_rfl) 30 [some 8,some 9,some 10,some 11,some 12,some 13,some 14,some 7,some 15,some 16,some 4,none,some 5] [[],[0],[1],[2],[],[4],[3,5],[6],[7],[7],[],[10,8,6,0,1,2,3,4,5,6,7,8,10],[9,11,0,1,2,3,4,5,6,7,8,9,10,11]] [[],[0],[1],[2],[],[4],[3,5],[6],[7],[7],[],[10,8],[9]] [[0],[1],[2],[3],[4],[5],[6],[7],[8],[9],[10],[10],[12]] [[],[],[],[],[],[],[],[],[],[],[11],[],[]] rfl (by kernel_rfl) (Mv (λb=>w1.heap.size<=b)) (λ_=>Mv.refl _ _) (λx y z h1 h2=>h1.trans h2 (λ_ e => .inl e)) (jA w1.heap.size (.pointer (some ⟨C,0,none⟩)) (.agg #[.slice fa f.slots.length fc,.int .i64 f.cells,.int .i64 f.stacks]) (.pointer (some ⟨w.heap.size,2,none⟩)) (.string s) ((au f s 3).getD noSlot) (au f s 3).isSome) ?steps ?done
   case steps =>
    refine⟨?s0,?s1,?s2,?s3,?s4,?s5,?s6,?s7,?s8,?s9,?s10,?s11,?s12,trivial⟩
    case s0|s4 =>
     intro vs x hx hY;clear hY;simp only[zR];go_simp;exact⟨Mv.refl _ _,rfl,by intros;assumption⟩
    case s1 =>
     intro vs x hx hY;have h0:vs 0=(.pointer (some ⟨C,0,none⟩)):=hY 0 (by simp) (by simp);clear hY;simp only[zR,h0];go_simp;exact⟨Mv.refl _ _,rfl,by intros;assumption⟩
    case s2 =>
     intro vs x hx hY;have h1:vs 1=(.pointer (some ⟨C,0,none⟩)):=hY 1 (by simp) (by simp);clear hY;simp only[zR,h1];go_simp;exact⟨Mv.refl _ _,rfl,by intros;assumption⟩
    case s3 =>
     intro vs x hx hY;have h2:vs 2=(.pointer (some ⟨C,0,none⟩)):=hY 2 (by simp) (by simp);obtain⟨⟨k0,k1⟩,k2,k3⟩:=aC (oC.out x hx);clear hY;simp only[zR,h2];go_simp;exact⟨Mv.refl _ _,rfl,by intros;assumption⟩
    case s5 =>
     intro vs x hx hY;have h4:vs 4=(.pointer (some ⟨w.heap.size,2,none⟩)):=hY 4 (by simp) (by simp);obtain⟨⟨n0,n1⟩,n2,n3⟩:=aC (iD.out x hx);clear hY;simp only[zR,h4];go_simp;exact⟨Mv.refl _ _,rfl,by intros;assumption⟩
    case s6 =>
     intro vs x hx hY;have h3:vs 3=(.agg #[.slice fa f.slots.length fc,.int .i64 f.cells,.int .i64 f.stacks]):=hY 3 (by simp) (by simp);have h5:vs 5 = .string s:=hY 5 (by simp) (by simp);have HC:=ł (oZ (.slice fa f.slots.length fc) f s 3 x (mD.out x hx));clear hY;simp only[zR,h3,h5];go_simp;refine HC.out.mono ?_;rintro e y ⟨rfl,hg⟩;exact⟨_,rfl,hg.mono (λ_ e=>e.elim),rfl,by intros;exact jA.grow hg _ _ (by assumption)⟩
    case s7 =>
     intro vs x hx hY;have h6:vs 6=(.tuple #[((au f s 3).getD noSlot).val,.bool (au f s 3).isSome]):=hY 6 (by simp) (by simp);clear hY;simp only[zR,h6];go_simp;exact⟨Mv.refl _ _,rfl,by intros;assumption⟩
    case s8|s9 =>
     intro vs x hx hY;have h7:vs 7=(.tuple #[((au f s 3).getD noSlot).val,.bool (au f s 3).isSome]):=hY 7 (by simp) (by simp);clear hY;simp only[zR,h7];go_simp;exact⟨Mv.refl _ _,rfl,by intros;assumption⟩
    case s10 =>
     intro vs x hx hY;have hsz:w1.heap.size<=x.heap.size:=hx.size;clear hY;simp only[zR];go_simp;exact⟨(Mv.refl _ _).alloc _,⟨x.heap.size,rfl,hsz,heap_alloc_new x _⟩,by intros;exact jA.grow ((Mv.refl _ _).alloc _) _ _ (by assumption)⟩
    case s11 =>
     intro vs x hx hY;have h8:vs 8=((au f s 3).getD noSlot).val:=hY 8 (by simp) (by simp);obtain⟨g,(h10:vs 10=_),hg0,hgb⟩:=hY 10 (by simp) (by simp);obtain⟨z0,z1,z2,z3⟩:=dN hgb;have zt:=aG hgb;generalize (au f s 3).getD noSlot=sl at *;obtain⟨s0,s1,s2,s3⟩:=sl
     replace h8:vs 8 = .agg #[.string s0,.int .u8 s1,.int .i64 s2,.int .i64 s3]:=h8
     obtain⟨A7,kW⟩:=mh hgb (.string s0) (.int .u8 s1) (.int .i64 s2) (.int .i64 s3);clear hY;simp only[zR,h8,h10];go_simp;exact⟨kW.mono (λb e => .inl (by omega)),⟨g,h10,hg0,A7⟩,λj l hj hk h=>jA.keep j l hj (λe=>hk (by subst e;decide)) h⟩
    case s12 =>
     intro vs x hx hY;have h9:vs 9 = .bool (au f s 3).isSome:=hY 9 (by simp) (by simp);clear hY;simp only[zR,h9];go_simp;exact⟨Mv.refl _ _,rfl,by intros;assumption⟩
   case done =>
   intro vs wx hx hY;obtain⟨g,(tZ:vs 10=_),hg0,hgb⟩:=hY 11 (by decide) rfl;have h0:vs 0=(.pointer (some ⟨C,0,none⟩)):=hY 0 (by decide) rfl;have h1:vs 1=(.pointer (some ⟨C,0,none⟩)):=hY 1 (by decide) rfl;have h2:vs 2=(.pointer (some ⟨C,0,none⟩)):=hY 2 (by decide) rfl;have h3:vs 3=(.agg #[.slice fa f.slots.length fc,.int .i64 f.cells,.int .i64 f.stacks]):=hY 3 (by decide) rfl;have h4:vs 4=(.pointer (some ⟨w.heap.size,2,none⟩)):=hY 4 (by decide) rfl;have h5:vs 5 = .string s:=hY 5 (by decide) rfl;have h6:vs 6=(.tuple #[((au f s 3).getD noSlot).val,.bool (au f s 3).isSome]):=hY 6 (by decide) rfl;have h7:vs 7=(.tuple #[((au f s 3).getD noSlot).val,.bool (au f s 3).isSome]):=hY 7 (by decide) rfl;have h8:vs 8=((au f s 3).getD noSlot).val:=hY 8 (by decide) rfl;have h9:vs 9 = .bool (au f s 3).isSome:=hY 9 (by decide) rfl;have h12:vs 12 = .bool (au f s 3).isSome:=hY 12 (by decide) rfl;simp only[List.length_cons,List.length_nil,Nat.zero_add,Nat.reduceAdd];rw[show List.range 13=[0,1,2,3,4,5,6,7,8,9,10,11,12]from rfl];simp only[zR,tZ,h0,h1,h2,h3,h4,h5,h6,h7,h8,h9,h12];clear hY tZ h0 h1 h2 h3 h4 h5 h6 h7 h8 h9 h12;generalize hsl:(au f s 3).getD noSlot=sl at *;have lD:=ł hsl;clear hsl;have bA:=ł (show bC w0 C (.slice fa f.slots.length fc) f wx cv code from⟨kL.out wx hx,oC.out wx hx,bg (w:=w1.drew) bD.out.row hx (λg hg e=>by have:=(bD.out.row.lt g hg).2;omega),bD.out.hC⟩);have xq:=ł (dS.out.trans (⟨((Mv.refl (λb=>b=C\/cv.ownBlock=some b) w1).drew).trans (hx.mono (λx e => .inr e)) (λx e => .inl e),λ_ h => .inl h⟩:cO C w1 cv wx cv));obtain⟨q0,q1,q2,q3⟩:=dN hgb;obtain⟨⟨n0,n1⟩,n2,n3⟩:=aC (iD.out wx hx);have hln:=lt_of_block (iD.out wx hx);have xN:=lt_of_block hgb;clear hx kL mD oC iD bD dS hgb;go_wp2_with fail;refine(iy 14 1 sl.at' wx.heap.size _ _ (heap_alloc_new wx _)).mono ?_;rintro e w3 ⟨rfl,hg3⟩;simp only;have hgx:Grow wx w3:=Mv.trans ((Mv.refl _ wx).alloc _) hg3 (λ_ e=>e.elim);have lQ:=ł (bA.out.grow hgx);have xu:=ł (xq.out.trans (cO.grow hgx));clear hg3 hgx q0 q1 q2 q3 n0 n1 n2 n3;go_wp2_with fail;refine(iy 12 1 0 w3.heap.size _ _ (heap_alloc_new w3 _)).mono ?_;rintro e w4 ⟨rfl,hg4⟩;simp only;have A8:Grow w3 (w4.alloc (.cells #[.int .u8 14,.int .i64 1,.int .i64 sl.at',.int .i64 0,.int .i64 0,.int .u8 12,.int .i64 1,.int .i64 0,.int .i64 0,.int .i64 0] 57)):=(Mv.trans ((Mv.refl _ w3).alloc _) hg4 (λ_ e=>e.elim)).alloc _;have qM:=ł (lQ.out.grow A8);have Mj:=ł (xu.out.trans (cO.grow A8));have dU:=ł (lZ w0 C (.slice fa f.slots.length fc) f _ cv code (.slice (some ⟨w4.heap.size,0,none⟩) 2 2) ([⟨14,1,sl.at',0,0⟩,⟨12,1,0,0,0⟩]:List Ins) qM.out (az.bO (f:=Ins.cells) (l:=([⟨14,1,sl.at',0,0⟩,⟨12,1,0,0,0⟩]:List Ins)) (λ_=>rfl) (heap_alloc_new w4 _) rfl (by simp)) (by simp;omega));clear hg4 A8;go_wp2_with fail;refine dU.out.mono ?_;rintro e w5 ⟨rfl,cv',hs5,E5⟩;have mF:=ł hs5;have vZ:=ł (Mj.out.trans E5);clear hs5 E5 dU;go_wp2_with fail
   go_end0
   exact⟨rfl,_,by rw[lD.out];exact mF.out,vZ.out⟩
 · simp only[if_true];have hga:Grow w (w.alloc (.cells #[.int .u8 5,.int .i64 n,.string s,.slice a l.length cap] 24)):=(Mv.refl _ _).alloc _;have bD:=ł (hst.grow hga);have HN:=ł (heap_alloc_new w (.cells #[.int .u8 5,.int .i64 n,.string s,.slice a l.length cap] 24));have dS:=ł (cO.grow (C:=C) (cv:=cv) hga);have AZ:C<w.heap.size:=lt_of_block hst.blk;clear hst hga
   go_enter Tryz.func91,Tryz.ntmps91
   go_wp2_with fail;have xm:w.heap.size<(w.alloc (.cells #[.int .u8 5,.int .i64 n,.string s,.slice a l.length cap] 24)).heap.size:=by simp
   generalize w.alloc (.cells #[.int .u8 5,.int .i64 n,.string s,.slice a l.length cap] 24)=w1 at *;have kL:=ł (λ(x:World) (hx:Mv (λb=>w1.heap.size<=b) w1.drew x)=>(show Grow w0 x from Mv.trans (Mv.drew bD.out.g) hx (λb hb => .inr (Nat.le_trans bD.out.g.size hb))));have mD:=ł (λ(x:World) (hx:Mv (λb=>w1.heap.size<=b) w1.drew x)=>HF.out.later (kL.out x hx));have oC:=ł (λ(x:World) (hx:Mv (λb=>w1.heap.size<=b) w1.drew x)=>(show x.heap[C]? = _ from(hx.block C (by show C<w1.heap.size;omega) (by omega)).trans bD.out.blk));have iD:=ł (λ(x:World) (hx:Mv (λb=>w1.heap.size<=b) w1.drew x)=>(show x.heap[w.heap.size]? = _ from(hx.block w.heap.size (by show w.heap.size<w1.heap.size;omega) (by omega)).trans HN.out));refine De (by kernel_rfl) 30 [some 8,some 9,some 10,some 11,some 12,some 13,some 14,some 7,some 15,some 16,some 4,none,some 5] [[],[0],[1],[2],[],[4],[3,5],[6],[7],[7],[],[10,8,6,0,1,2,3,4,5,6,7,8,10],[9,11,0,1,2,3,4,5,6,7,8,9,10,11]] [[],[0],[1],[2],[],[4],[3,5],[6],[7],[7],[],[10,8],[9]] [[0],[1],[2],[3],[4],[5],[6],[7],[8],[9],[10],[10],[12]] [[],[],[],[],[],[],[],[],[],[],[11],[],[]] rfl (by kernel_rfl) (Mv (λb=>w1.heap.size<=b)) (λ_=>Mv.refl _ _) (λx y z h1 h2=>h1.trans h2 (λ_ e => .inl e)) (jA w1.heap.size (.pointer (some ⟨C,0,none⟩)) (.agg #[.slice fa f.slots.length fc,.int .i64 f.cells,.int .i64 f.stacks]) (.pointer (some ⟨w.heap.size,2,none⟩)) (.string s) ((au f s 3).getD noSlot) (au f s 3).isSome) ?steps ?done
   case steps =>
    refine⟨?s0,?s1,?s2,?s3,?s4,?s5,?s6,?s7,?s8,?s9,?s10,?s11,?s12,trivial⟩
    case s0|s4 =>
     intro vs x hx hY;clear hY;simp only[zR];go_simp;exact⟨Mv.refl _ _,rfl,by intros;assumption⟩
    case s1 =>
     intro vs x hx hY;have h0:vs 0=(.pointer (some ⟨C,0,none⟩)):=hY 0 (by simp) (by simp);clear hY;simp only[zR,h0];go_simp;exact⟨Mv.refl _ _,rfl,by intros;assumption⟩
    case s2 =>
     intro vs x hx hY;have h1:vs 1=(.pointer (some ⟨C,0,none⟩)):=hY 1 (by simp) (by simp);clear hY;simp only[zR,h1];go_simp;exact⟨Mv.refl _ _,rfl,by intros;assumption⟩
    case s3 =>
     intro vs x hx hY;have h2:vs 2=(.pointer (some ⟨C,0,none⟩)):=hY 2 (by simp) (by simp);obtain⟨⟨k0,k1⟩,k2,k3⟩:=aC (oC.out x hx);clear hY;simp only[zR,h2];go_simp;exact⟨Mv.refl _ _,rfl,by intros;assumption⟩
    case s5 =>
     intro vs x hx hY;have h4:vs 4=(.pointer (some ⟨w.heap.size,2,none⟩)):=hY 4 (by simp) (by simp);obtain⟨⟨n0,n1⟩,n2,n3⟩:=aC (iD.out x hx);clear hY;simp only[zR,h4];go_simp;exact⟨Mv.refl _ _,rfl,by intros;assumption⟩
    case s6 =>
     intro vs x hx hY;have h3:vs 3=(.agg #[.slice fa f.slots.length fc,.int .i64 f.cells,.int .i64 f.stacks]):=hY 3 (by simp) (by simp);have h5:vs 5 = .string s:=hY 5 (by simp) (by simp);have HC:=ł (oZ (.slice fa f.slots.length fc) f s 3 x (mD.out x hx));clear hY;simp only[zR,h3,h5];go_simp;refine HC.out.mono ?_;rintro e y ⟨rfl,hg⟩;exact⟨_,rfl,hg.mono (λ_ e=>e.elim),rfl,by intros;exact jA.grow hg _ _ (by assumption)⟩
    case s7 =>
     intro vs x hx hY;have h6:vs 6=(.tuple #[((au f s 3).getD noSlot).val,.bool (au f s 3).isSome]):=hY 6 (by simp) (by simp);clear hY;simp only[zR,h6];go_simp;exact⟨Mv.refl _ _,rfl,by intros;assumption⟩
    case s8|s9 =>
     intro vs x hx hY;have h7:vs 7=(.tuple #[((au f s 3).getD noSlot).val,.bool (au f s 3).isSome]):=hY 7 (by simp) (by simp);clear hY;simp only[zR,h7];go_simp;exact⟨Mv.refl _ _,rfl,by intros;assumption⟩
    case s10 =>
     intro vs x hx hY;have hsz:w1.heap.size<=x.heap.size:=hx.size;clear hY;simp only[zR];go_simp;exact⟨(Mv.refl _ _).alloc _,⟨x.heap.size,rfl,hsz,heap_alloc_new x _⟩,by intros;exact jA.grow ((Mv.refl _ _).alloc _) _ _ (by assumption)⟩
    case s11 =>
     intro vs x hx hY;have h8:vs 8=((au f s 3).getD noSlot).val:=hY 8 (by simp) (by simp);obtain⟨g,(h10:vs 10=_),hg0,hgb⟩:=hY 10 (by simp) (by simp);obtain⟨z0,z1,z2,z3⟩:=dN hgb;have zt:=aG hgb;generalize (au f s 3).getD noSlot=sl at *;obtain⟨s0,s1,s2,s3⟩:=sl
     replace h8:vs 8 = .agg #[.string s0,.int .u8 s1,.int .i64 s2,.int .i64 s3]:=h8
     obtain⟨A7,kW⟩:=mh hgb (.string s0) (.int .u8 s1) (.int .i64 s2) (.int .i64 s3);clear hY;simp only[zR,h8,h10];go_simp;exact⟨kW.mono (λb e => .inl (by omega)),⟨g,h10,hg0,A7⟩,λj l hj hk h=>jA.keep j l hj (λe=>hk (by subst e;decide)) h⟩
    case s12 =>
     intro vs x hx hY;have h9:vs 9 = .bool (au f s 3).isSome:=hY 9 (by simp) (by simp);clear hY;simp only[zR,h9];go_simp;exact⟨Mv.refl _ _,rfl,by intros;assumption⟩
   case done =>
   intro vs wx hx hY;obtain⟨g,(tZ:vs 10=_),hg0,hgb⟩:=hY 11 (by decide) rfl;have h0:vs 0=(.pointer (some ⟨C,0,none⟩)):=hY 0 (by decide) rfl;have h1:vs 1=(.pointer (some ⟨C,0,none⟩)):=hY 1 (by decide) rfl;have h2:vs 2=(.pointer (some ⟨C,0,none⟩)):=hY 2 (by decide) rfl;have h3:vs 3=(.agg #[.slice fa f.slots.length fc,.int .i64 f.cells,.int .i64 f.stacks]):=hY 3 (by decide) rfl;have h4:vs 4=(.pointer (some ⟨w.heap.size,2,none⟩)):=hY 4 (by decide) rfl;have h5:vs 5 = .string s:=hY 5 (by decide) rfl;have h6:vs 6=(.tuple #[((au f s 3).getD noSlot).val,.bool (au f s 3).isSome]):=hY 6 (by decide) rfl;have h7:vs 7=(.tuple #[((au f s 3).getD noSlot).val,.bool (au f s 3).isSome]):=hY 7 (by decide) rfl;have h8:vs 8=((au f s 3).getD noSlot).val:=hY 8 (by decide) rfl;have h9:vs 9 = .bool (au f s 3).isSome:=hY 9 (by decide) rfl;have h12:vs 12 = .bool (au f s 3).isSome:=hY 12 (by decide) rfl;simp only[List.length_cons,List.length_nil,Nat.zero_add,Nat.reduceAdd];rw[show List.range 13=[0,1,2,3,4,5,6,7,8,9,10,11,12]from rfl];simp only[zR,tZ,h0,h1,h2,h3,h4,h5,h6,h7,h8,h9,h12];clear hY tZ h0 h1 h2 h3 h4 h5 h6 h7 h8 h9 h12;generalize hsl:(au f s 3).getD noSlot=sl at *;have lD:=ł hsl;clear hsl;have bA:=ł (show bC w0 C (.slice fa f.slots.length fc) f wx cv code from⟨kL.out wx hx,oC.out wx hx,bg (w:=w1.drew) bD.out.row hx (λg hg e=>by have:=(bD.out.row.lt g hg).2;omega),bD.out.hC⟩);have xq:=ł (dS.out.trans (⟨((Mv.refl (λb=>b=C\/cv.ownBlock=some b) w1).drew).trans (hx.mono (λx e => .inr e)) (λx e => .inl e),λ_ h => .inl h⟩:cO C w1 cv wx cv));obtain⟨q0,q1,q2,q3⟩:=dN hgb;obtain⟨⟨n0,n1⟩,n2,n3⟩:=aC (iD.out wx hx);have hln:=lt_of_block (iD.out wx hx);have xN:=lt_of_block hgb;clear hx kL mD oC iD bD dS hgb;go_wp2_with fail;refine(iy 15 1 sl.at' wx.heap.size _ _ (heap_alloc_new wx _)).mono ?_;rintro e w3 ⟨rfl,hg3⟩;simp only;have hgx:Grow wx w3:=Mv.trans ((Mv.refl _ wx).alloc _) hg3 (λ_ e=>e.elim);have lQ:=ł (bA.out.grow hgx);have xu:=ł (xq.out.trans (cO.grow hgx));clear hg3 hgx q0 q1 q2 q3 n0 n1 n2 n3;go_wp2_with fail;refine(iy 12 1 0 w3.heap.size _ _ (heap_alloc_new w3 _)).mono ?_;rintro e w4 ⟨rfl,hg4⟩;simp only;have A8:Grow w3 (w4.alloc (.cells #[.int .u8 15,.int .i64 1,.int .i64 sl.at',.int .i64 0,.int .i64 0,.int .u8 12,.int .i64 1,.int .i64 0,.int .i64 0,.int .i64 0] 57)):=(Mv.trans ((Mv.refl _ w3).alloc _) hg4 (λ_ e=>e.elim)).alloc _;have qM:=ł (lQ.out.grow A8);have Mj:=ł (xu.out.trans (cO.grow A8));have dU:=ł (lZ w0 C (.slice fa f.slots.length fc) f _ cv code (.slice (some ⟨w4.heap.size,0,none⟩) 2 2) ([⟨15,1,sl.at',0,0⟩,⟨12,1,0,0,0⟩]:List Ins) qM.out (az.bO (f:=Ins.cells) (l:=([⟨15,1,sl.at',0,0⟩,⟨12,1,0,0,0⟩]:List Ins)) (λ_=>rfl) (heap_alloc_new w4 _) rfl (by simp)) (by simp;omega));clear hg4 A8;go_wp2_with fail;refine dU.out.mono ?_;rintro e w5 ⟨rfl,cv',hs5,E5⟩;have mF:=ł hs5;have vZ:=ł (Mj.out.trans E5);clear hs5 E5 dU;go_wp2_with fail
   go_end0
   exact⟨rfl,_,by rw[lD.out];exact mF.out,vZ.out⟩
mutual
def iP (f:ax):Tree->Int->List Ins
 |.mk k n s l,p =>
  if k=1 then[⟨6,1,n,0,0⟩,⟨12,1,0,0,0⟩]
  else if k=2 then[⟨10,1,((au f s 1).getD noSlot).at',0,0⟩,⟨3,2,1,0,0⟩,⟨10,1,((au f s 1).getD noSlot).at',0,0⟩,⟨12,2,0,0,0⟩]
  else if k=3 then(jw f l p).getD 0 [] ++ [⟨13,1,0,0,0⟩,⟨11,2,1,((au f s 2).getD noSlot).at',((au f s 2).getD noSlot).len⟩,⟨3,3,2,0,0⟩,⟨11,2,1,((au f s 2).getD noSlot).at',((au f s 2).getD noSlot).len⟩,⟨12,1,0,0,0⟩,⟨12,3,0,0,0⟩]
  else if k=4\/k=5 then[⟨if k=5 then 15 else 14,1,((au f s 3).getD noSlot).at',0,0⟩,⟨12,1,0,0,0⟩]
  else if k=6 then(jw f l p).getD 0 [] ++ [⟨13,1,0,0,0⟩] ++ [⟨3,3,1,0,0⟩,⟨8,3,0,0,0⟩] ++ [⟨12,1,0,0,0⟩,⟨12,3,0,0,0⟩]
  else if k=7 then(jw f l p).getD 0 [] ++ [⟨13,1,0,0,0⟩] ++ [⟨9,3,1,2,16⟩] ++ [⟨12,1,0,0,0⟩,⟨12,3,0,0,0⟩]
  else(jw f l p).getD 0 [] ++ [⟨13,1,0,0,0⟩,⟨10,1,f.cells+p,0,0⟩] ++ (jw f l p).getD 1 [] ++ [⟨13,2,0,0,0⟩,⟨10,1,f.cells+p,0,0⟩,⟨9,3,1,2,k⟩,⟨12,1,0,0,0⟩,⟨12,2,0,0,0⟩,⟨12,3,0,0,0⟩]
def jw (f:ax):List Tree->Int->List (List Ins)
 | [],_=>[]
 |t :: l,p=>iP f t p :: jw f l (p+1)
end
theorem BS (f:ax):∀ (l:List Tree) (p:Int) (i:Nat) (h:i<l.length),(jw f l p).getD i []=iP f l[i] (p+i)
 | [],_,_,h=>by simp at h
 |t :: l,p,0,_=>by simp[jw]
 |t :: l,p,i+1,h=>by
  have:=BS f l (p+1) i (by simpa using h);simp only[jw,List.getD_cons_succ,List.getElem_cons_succ];rw[this];congr 1;omega
def yN (w0:World) (C:Nat) (sv:Value) (f:ax) (w:World) (cv:Value) (code add:List Ins) (e:Ending) (w':World):Prop :=
 e = .returned (.tuple #[])/\∃ cv',bC w0 C sv f w' cv' (code ++ add)/\cO C w cv w' cv'
end
section
open Go.RowKit
theorem LM {W w1:World} (hb:Grow W w1):(∀ b o,b<W.heap.size->w1.cell? ⟨b,o,none⟩=W.cell? ⟨b,o,none⟩)/\(∀ b o,b<W.heap.size->w1.frozen? ⟨b,o,none⟩=W.frozen? ⟨b,o,none⟩) :=
 ⟨λb o h=>World.cell?_of_block (w:=W) (w':=w1) (a:=⟨b,o,none⟩) (hb.block b h (λh=>h)),λb o h=>by simp[World.frozen?,hb.block b h (λh=>h)]⟩
theorem Q3 (w:World) (cs:Array Value) (t:TypeId) (i:Nat):(w.alloc (.cells cs t)).cell? ⟨w.heap.size,i,none⟩=cs[i]? := by
 have h:=heap_alloc_new w (.cells cs t);simp only[World.cell?,h];rfl
def bH (op:Int):Bool:=fU op || gz op
theorem KG (op:Int) (w:World):Calls Tryz.prog 27 #[.int .u8 op] w λe w'=>e = .returned (.bool (bH op))/\w=w':=by
 have HB:=ł (show bH op=(fU op || gz op)from rfl)
 go_enter Tryz.func27,Tryz.ntmps27
 go_wp2_with fail;refine(PS op _).mono ?_;rintro e w' ⟨rfl,rfl⟩;generalize fU op=q at *;cases q
 · go_wp2_with fail;refine(Pf op _).mono ?_;rintro e w' ⟨rfl,rfl⟩;go_wp2_with fail;go_ret;exact⟨aK (by rw[HB.out];rfl),rfl⟩
 · go_wp2_with fail;go_ret;exact⟨aK (by rw[HB.out];rfl),rfl⟩
def wW (code:List Ins) (i:Nat):Bool :=
 match code[i]? with
 |none=>false
 |some x=>if x.target<0\/(code.length:Int)<=x.target then false else match code[x.target.toNat]? with
  |none=>false
  |some y=>if(fU x.op && !gz y.op) || (gz x.op && !fU y.op)then false else y.target == (i:Int)
theorem az.ins {w:World} {b off len cap:Nat} {l:List Ins} (h:az 5 Ins.cells w (.slice (some ⟨b,off,none⟩) len cap) l) {i:Nat} (hi:i<l.length) :
 (w.cell? ⟨b,off+i * 5,none⟩=some (.int .u8 l[i].op)/\w.cell? ⟨b,off+i * 5+1,none⟩=some (.int .i64 l[i].a)/\w.cell? ⟨b,off+i * 5+2,none⟩=some (.int .i64 l[i].b))/\w.cell? ⟨b,off+i * 5+3,none⟩=some (.int .i64 l[i].c)/\w.cell? ⟨b,off+i * 5+4,none⟩=some (.int .i64 l[i].d)/\b<w.heap.size:=by
 have hc:=h.at' hi;have c0:=hc 0 _ rfl;exact⟨⟨c0,hc 1 _ rfl,hc 2 _ rfl⟩,hc 3 _ rfl,hc 4 _ rfl,World.block_lt_of_cell? w _ c0⟩
theorem Xv (v:Value) (l:List Ins) (i:Nat) (w:World) (h:az 5 Ins.cells w v l) (hi:i<l.length):Calls Tryz.prog 31 #[v,.int .i64 i] w λe w'=>e = .returned (.bool (wW l i))/\Grow w w':=by
 obtain⟨a,cap,rfl,hcap,hlen⟩:=h.form;obtain⟨b,off,cap',e,_,_⟩:=h.at hi;simp only[Value.slice.injEq,true_and]at e;obtain⟨rfl,rfl⟩:=e;obtain⟨⟨c0,c1,c2⟩,c3,c4,hbl⟩:=h.ins hi;have HR:=ł h;have HB:=ł (show wW l i=(if l[i].target<0\/(l.length:Int)<=l[i].target then false else match l[l[i].target.toNat]? with
  |none=>false
  |some y=>if(fU l[i].op && !gz y.op) || (gz l[i].op && !fU y.op)then false else y.target == (i:Int))from by simp[wW,hi])
 have HT:=ł (Gm l[i] w);generalize hx:l[i]=x at *;obtain⟨xo,xa,xb,xc,xd⟩:=x;simp only at c0 c1 c2 c3 c4;clear h hx
 go_enter Tryz.func31,Tryz.ntmps31
 go_wp2_with fail;refine HT.out.mono ?_;rintro e w1 ⟨rfl,hm1⟩;obtain⟨hc1,hf1⟩:=LM hm1;have hs1:=hm1.size;have nK:=ł hm1;generalize Ins.target ⟨xo,xa,xb,xc,xd⟩=t at *;generalize Ins.Ec ⟨xo,xa,xb,xc,xd⟩=am at *;have d0:w1.cell? ⟨b,off+i * 5,none⟩=some (.int .u8 xo):=by rw[hc1 _ _ hbl];exact c0
 clear hm1 hc1 hf1 c0 c1 c2 c3 c4;by_cases ht0:t<0
 · go_wp2_with fail;go_ret;exact⟨aK (by rw[HB.out,if_pos (.inl ht0)]),nK.out⟩
 · by_cases htl:(l.length:Int)<=t
   · have hd1:decide (t<0)=false:=by simpa using ht0
     go_wp2_with fail;go_ret;exact⟨aK (by rw[HB.out,if_pos (.inr htl)]),nK.out⟩
   · obtain⟨k,rfl⟩:∃ k:Nat,t=k:=⟨t.toNat,by omega⟩;have hkl:k<l.length:=by omega
     obtain⟨⟨e0,e1,e2⟩,e3,e4,IA⟩:=(HR.out.later nK.out).ins hkl;have HB2:=ł (show wW l i=(if(fU xo && !gz l[k].op) || (gz xo && !fU l[k].op)then false else l[k].target == (i:Int))from by
      rw[HB.out,if_neg (by omega)];simp[hkl])
     have HT2:=ł (λw=>Gm l[k] w);generalize hy:l[k]=y at *;obtain⟨yo,ya,yb,yc,yd⟩:=y;simp only at e0 e1 e2 e3 e4;clear hy;clear ht0 htl;cases A9:fU xo <;> cases lV:gz yo <;> cases hlx:gz xo <;> cases Vp:fU yo
     all_goals
      go_wp2_with (first
       |(go_at_call 49;refine(PS _ _).mono ?_;rintro e w' ⟨rfl,rfl⟩)
       |(go_at_call 50;refine(Pf _ _).mono ?_;rintro e w' ⟨rfl,rfl⟩)
       |fail)
      first
       |(go_ret;exact⟨aK (by rw[HB2.out,A9,lV,hlx,Vp];rfl),nK.out.alloc _⟩)
       |(refine(HT2.out _).mono ?_;rintro e w2 ⟨rfl,hm2⟩;have dM:=ł hm2;clear hm2;go_wp2_with fail;go_ret;exact⟨aK (by rw[HB2.out,A9,lV,hlx,Vp];rfl),Mv.trans (nK.out.alloc _) dM.out (λ_ e=>e.elim)⟩)
end
end Go.Proofs.YtnobahchcongnaaGreatDoor
