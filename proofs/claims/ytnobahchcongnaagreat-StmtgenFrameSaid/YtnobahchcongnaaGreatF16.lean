import Derived.Test.YtnobahchcongnaaGreatF15
import Derived.IntWalk
set_option linter.unusedSimpArgs false
set_option linter.unusedVariables false
set_option maxRecDepth 100000
set_option maxHeartbeats 25600000
namespace Go.Proofs.YtnobahchcongnaaGreat
open Go.RowKit Go.Instr
theorem WZ (w0:World) (C:Nat) (sv:Value) (f:az) (w:World) (cv:Value) (code A B:List Ins) (k n p:Int) (s:ByteArray) (kv:Value) (l:List ae) (hst:bD w0 C sv f w cv code) (hf:fV w0 sv f) (hx:aS w0 (.mk k n s kv l)) (hlen:code.length+A.length+B.length<=900000) (h0:0<l.length) (h1:1<l.length) (Md:8<=k) (Rp:k<=23) (hp0:0<=p) (hp1:p<=100000) (hc0:0<=f.cells) (hc1:f.cells<=100000)
 (he0:∀ (w':World) (cv':Value),bD w0 C sv f w' cv' code->Calls Tryz.prog 63 #[.pointer (some ⟨C,0,none⟩),l[0].val,.int .i64 p] w' (xN w0 C sv f w' cv' code A))
 (he1:∀ (w':World) (cv':Value),bD w0 C sv f w' cv' (code ++ A ++ [⟨13,1,0,0,0⟩,⟨10,1,f.cells+p,0,0⟩])->Calls Tryz.prog 63 #[.pointer (some ⟨C,0,none⟩),l[1].val,.int .i64 (p+1)] w' (xN w0 C sv f w' cv' (code ++ A ++ [⟨13,1,0,0,0⟩,⟨10,1,f.cells+p,0,0⟩]) B)) :
 Calls Tryz.prog 96 #[.pointer (some ⟨C,0,none⟩),ae.val (.mk k n s kv l),.int .i64 p] w (xN w0 C sv f w cv code (A ++ [⟨13,1,0,0,0⟩,⟨10,1,f.cells+p,0,0⟩] ++ B ++ [⟨13,2,0,0,0⟩,⟨10,1,f.cells+p,0,0⟩,⟨9,3,1,2,k⟩,⟨12,1,0,0,0⟩,⟨12,2,0,0,0⟩,⟨12,3,0,0,0⟩])):=by
 obtain⟨fa,fc,rfl,hfc,hfl⟩:=hf.row.form;obtain⟨b,off,cap,bF,hcap,-⟩:=hx.row.2.2.2.1.at h0;subst bF;simp only[ae.val];have HX:=ł hx;have wV:=ł he0;have Me:=ł he1;have hga:Grow w (w.alloc (.cells #[.int .u8 k,.int .i64 n,.string s,.slice (some ⟨b,off,none⟩) l.length cap] 26)):=(Mv.refl _ _).alloc _;have fJ:=ł (hst.grow hga);have HN:=ł (heap_alloc_new w (.cells #[.int .u8 k,.int .i64 n,.string s,.slice (some ⟨b,off,none⟩) l.length cap] 26));have dI:=ł (cK.grow (C:=C) (cv:=cv) hga);have zM:C<w.heap.size:=lt_of_block hst.blk;have HOW:=ł (λg hg=>(hst.row.lt g hg).2);clear hst hf hx hga he0 he1;obtain⟨⟨a0,a1⟩,a2,a3⟩:=aF fJ.out.blk
 go_enter Tryz.func96,Tryz.ntmps96
 go_upto_region 1 with fail;have wm:w.heap.size<(w.alloc (.cells #[.int .u8 k,.int .i64 n,.string s,.slice (some ⟨b,off,none⟩) l.length cap] 26)).heap.size:=by simp
 generalize w.alloc (.cells #[.int .u8 k,.int .i64 n,.string s,.slice (some ⟨b,off,none⟩) l.length cap] 26)=w1 at *;go_wp2_with fail;clear a0 a1 a2 a3;refine(gK 10 1 (f.cells+p) w1.heap.size _ _ (heap_alloc_new w1 _)).mono ?_;rintro e w3 ⟨rfl,hg3⟩;simp only;have hgx:Grow w1 w3:=Mv.trans ((Mv.refl _ w1).alloc _) hg3 (λ_ e=>e.elim);have ed:=ł (heap_alloc_new w3 (.cells #[.int .u8 10,.int .i64 1,.int .i64 (f.cells+p),.int .i64 0,.int .i64 0] 60));have adb:=hgx.size;have gW:=ł ((fJ.out.grow hgx).grow ((Mv.refl _ _).alloc (.cells #[.int .u8 10,.int .i64 1,.int .i64 (f.cells+p),.int .i64 0,.int .i64 0] 60)));have yA:=ł (dI.out.trans (cK.grow (hgx.alloc (.cells #[.int .u8 10,.int .i64 1,.int .i64 (f.cells+p),.int .i64 0,.int .i64 0] 60))));have pO:=ł (ai HN.out (hgx.alloc (.cells #[.int .u8 10,.int .i64 1,.int .i64 (f.cells+p),.int .i64 0,.int .i64 0] 60)));have hB4:w3.heap.size<(w3.alloc (.cells #[.int .u8 10,.int .i64 1,.int .i64 (f.cells+p),.int .i64 0,.int .i64 0] 60)).heap.size:=by simp
 clear hg3 hgx fJ dI HN;obtain⟨⟨n0,n1⟩,n2,n3⟩:=aF pO.out;have hln:=lt_of_block pO.out
 have hcc:=(HX.out.row.2.2.2.1.later gW.out.g).at' h0;have bU:=HX.out.row.2.2.2.2 l[0] (List.getElem_mem h0);have HE:=ł (wV.out (w3.alloc (.cells #[.int .u8 10,.int .i64 1,.int .i64 (f.cells+p),.int .i64 0,.int .i64 0] 60)) _ gW.out);generalize l[0]=y at HE hcc bU;obtain⟨yk,yn,ys,mY,yl⟩:=y;obtain⟨ya,yc,rfl,-,-⟩:=bU.form;simp only[ae.val]at HE;have c0:=hcc 0 _ rfl;have c1:=hcc 1 _ rfl;have c2:=hcc 2 _ rfl;have c3:=hcc 3 _ rfl;simp only[Nat.zero_mul,Nat.one_mul,Nat.add_zero]at c0 c1 c2 c3;have hbl:b<(w3.alloc (.cells #[.int .u8 10,.int .i64 1,.int .i64 (f.cells+p),.int .i64 0,.int .i64 0] 60)).heap.size:=World.block_lt_of_cell? (w3.alloc (.cells #[.int .u8 10,.int .i64 1,.int .i64 (f.cells+p),.int .i64 0,.int .i64 0] 60)) _ c0;clear hcc bU
 go_wp2_with fail;generalize hw3:w3.heap.size=X at *;generalize w3.alloc (.cells #[.int .u8 10,.int .i64 1,.int .i64 (f.cells+p),.int .i64 0,.int .i64 0] 60)=w4 at *;clear c0 c1 c2 c3 hw3 n0 n1 n2 n3 hln;have GG:X≠C:=by omega
 have hBw:w.heap.size<X:=by omega
 refine HE.out.mono ?_;rintro e u1 ⟨rfl,q1,hs,ht⟩;have bI:=ł hs;have HT1:=ł ht;clear hs ht HE;have Mf:=ł (show ∀ g,q1.ownBlock=some g->g≠X/\g≠w.heap.size from λg hg=>by
  rcases HT1.out.own g hg with h|h
  · have:=HOW.out g h;omega
  · omega)
 have DK:=ł (show u1.heap[X]? = some (.cells #[.int .u8 10,.int .i64 1,.int .i64 (f.cells+p),.int .i64 0,.int .i64 0] 60 (0,0))/\u1.heap[w.heap.size]? = some (.cells #[.int .u8 k,.int .i64 n,.string s,.slice (some ⟨b,off,none⟩) l.length cap] 26 (0,0))from
  ⟨(HT1.out.mv.block X hB4 (λe=>by rcases e with e|e;exact GG e;have:=HOW.out _ e;omega)).trans ed.out,(HT1.out.mv.block w.heap.size (by omega) (λe=>by rcases e with e|e;omega;have:=HOW.out _ e;omega)).trans pO.out⟩)
 go_wp2_with fail;have ou:=ł (λ(x:World) (hx:Mv (λb=>b=C\/q1.ownBlock=some b) u1.drew x)=>(show x.heap[X]? = _ from(hx.block X (lt_of_block DK.out.1) (λe=>by rcases e with e|e;exact GG e;exact(Mf.out _ e).1 rfl)).trans DK.out.1));have iR:=ł (λ(x:World) (hx:Mv (λb=>b=C\/q1.ownBlock=some b) u1.drew x)=>(show x.heap[w.heap.size]? = _ from(hx.block w.heap.size (lt_of_block DK.out.2) (λe=>by rcases e with e|e;omega;exact(Mf.out _ e).2 rfl)).trans DK.out.2));have lQ:=ł (show C<u1.heap.size/\∀ g,q1.ownBlock=some g->g<u1.heap.size from⟨lt_of_block bI.out.blk,λg hg=>(bI.out.row.lt g hg).2⟩);refine rq (by kernel_rfl) 54 [some 23,some 24,some 25,some 26,some 27,some 28] [[],[],[1],[],[2,3],[0,4,2]] [[],[],[1],[],[2,3],[0,4]] [[0],[1],[2],[3],[4],[5]] [[],[],[],[],[],[]] rfl (by kernel_rfl) (Mv (λb=>b=C\/q1.ownBlock=some b)) (λ_=>Mv.refl _ _) (λx y z h1 h2=>h1.trans h2 (λ_ e => .inl e)) (iT [some ((.pointer (some ⟨C,0,none⟩))),none,some (.agg #[.int .u8 13,.int .i64 1,.int .i64 0,.int .i64 0,.int .i64 0]),some (.agg #[.int .u8 10,.int .i64 1,.int .i64 (f.cells+p),.int .i64 0,.int .i64 0]),none,none] [none,some [1,0],none,none,none,none] 4 5 [⟨13,1,0,0,0⟩,⟨10,1,f.cells+p,0,0⟩] w0 C (.slice fa f.slots.length fc) f q1 (code ++ A) u1.heap.size) (λ_ x=>bD w0 C (.slice fa f.slots.length fc) f x q1 (code ++ A)) [[5]] ?z0 ?steps ?done
 case z0=>intro z hz;exact⟨Mv.drew bI.out.g,bI.out.blk,bI.out.row,bI.out.hC⟩
 case steps =>
  refine⟨?s0,?s1,?s2,?s3,?s4,?s5,trivial⟩
  case s0 =>
   intro vs x hx hY hZ;clear hY hZ;simp only[zR];go_simp;exact⟨Mv.refl _ _,by intros;assumption,jS (by decide) (by decide) rfl rfl rfl,by intros;assumption⟩
  case s1 =>
   intro vs x hx hY hZ;have hsz:u1.heap.size<=x.heap.size:=hx.size;clear hY hZ;simp only[zR];go_simp;exact⟨(Mv.refl _ _).alloc _,(by first|exact λh=>bD.grow h ((Mv.refl _ _).alloc _)|(intros;exact bD.grow (by assumption) ((Mv.refl _ _).alloc _))),Cf (by decide) (by decide) rfl ⟨x.heap.size,rfl,hsz,heap_alloc_new x _⟩,by intros;exact kg ((Mv.refl _ _).alloc _) _ _ (by assumption)⟩
  case s2 =>
   intro vs x hx hY hZ;obtain⟨g,(hg:vs 1=_),-,hgb⟩:=ru (hY 1 (by simp) (by simp)) (by decide) (by decide) rfl;have HC:=ł (gK 13 1 0 g _ x hgb);simp only[List.length_cons,List.length_nil,Nat.zero_add,Nat.reduceAdd]at hg;clear hY hZ;simp only[zR,hg];go_simp;refine HC.out.mono ?_;rintro e y ⟨rfl,hgr⟩;exact⟨_,rfl,hgr.mono (λ_ e=>e.elim),(by first|exact λh=>bD.grow h hgr|(intros;exact bD.grow (by assumption) hgr)),jS (by decide) (by decide) rfl rfl rfl,by intros;exact kg hgr _ _ (by assumption)⟩
  case s3 =>
   intro vs x hx hY hZ;obtain⟨⟨i0,i1,i2⟩,i3,i4⟩:=bR (ou.out x hx);clear hY hZ;simp only[zR];go_simp;exact⟨Mv.refl _ _,by intros;assumption,jS (by decide) (by decide) rfl rfl rfl,by intros;assumption⟩
  case s4 =>
   intro vs x hx hY hZ;have h2:vs 2 = .agg #[.int .u8 13,.int .i64 1,.int .i64 0,.int .i64 0,.int .i64 0]:=jb (hY 2 (by simp) (by simp)) (by decide) (by decide) rfl rfl;have h3:vs 3 = .agg #[.int .u8 10,.int .i64 1,.int .i64 (f.cells+p),.int .i64 0,.int .i64 0]:=jb (hY 3 (by simp) (by simp)) (by decide) (by decide) rfl rfl;have hsz:u1.heap.size<=x.heap.size:=hx.size;clear hY hZ;simp only[zR,h2,h3];go_simp;exact⟨(Mv.refl _ _).alloc _,(by first|exact λh=>bD.grow h ((Mv.refl _ _).alloc _)|(intros;exact bD.grow (by assumption) ((Mv.refl _ _).alloc _))),EU (by decide) ⟨x.heap.size,rfl,hsz,by simp,ax.bN (f:=Ins.cells) (l:=([⟨13,1,0,0,0⟩,⟨10,1,f.cells+p,0,0⟩]:List Ins)) (λ_=>rfl) (heap_alloc_new x _) rfl (by simp)⟩,by intros;exact kg ((Mv.refl _ _).alloc _) _ _ (by assumption)⟩
  case s5 =>
   intro vs x hx hY hZ;have h0:vs 0=(.pointer (some ⟨C,0,none⟩)):=jb (hY 0 (by simp) (by simp)) (by decide) (by decide) rfl rfl;obtain⟨g,(hg:vs 4=_),-,-,hrow⟩:=Es (hY 4 (by simp) (by simp)) (by decide);have hst:=hZ 0 (by simp) (by simp);have HC:=ł (lZ w0 C (.slice fa f.slots.length fc) f x q1 (code ++ A) (.slice (some ⟨g,0,none⟩) 2 2) ([⟨13,1,0,0,0⟩,⟨10,1,f.cells+p,0,0⟩]:List Ins) hst hrow (by simp;omega));simp only[List.length_cons,List.length_nil,Nat.zero_add,Nat.reduceAdd]at hg;have hsz:u1.heap.size<=x.heap.size:=hx.size;clear hY hZ hst hrow;simp only[zR,h0,hg];go_simp;refine HC.out.mono ?_;rintro e y ⟨rfl,q1',hs',hto⟩;exact⟨_,rfl,hto.mv,EW ⟨q1',hs',λq hq=>by rcases hto.own q hq with h|h;exact .inl h;exact .inr (by omega)⟩,by intros;exact EX hto.mv lQ.out.1 lQ.out.2 _ _ (by assumption) (by assumption)⟩
 case done =>
 intro vs wy hxy hY _;obtain⟨q1',hst',hown'⟩:=Et (hY 5 (by decide) rfl);simp only[List.length_cons,List.length_nil,Nat.zero_add,Nat.reduceAdd];rw[show List.range 6=[0,1,2,3,4,5]from rfl];simp only[zR];clear hY;have uZ:=ł (HT1.out.trans (⟨((Mv.refl (λb=>b=C\/q1.ownBlock=some b) u1).drew).trans hxy (λx e => .inl e),hown'⟩:cK C u1 q1 wy q1'));have pM:=ł hst';have Rq:=ł (ou.out wy hxy);have KR:=ł (iR.out wy hxy);clear hst' hown' hxy bI HT1 ou iR lQ DK Mf ed pO gW;obtain⟨⟨n0,n1⟩,n2,n3⟩:=aF KR.out;have hln:=lt_of_block KR.out;have hlx:=lt_of_block Rq.out
 have hcc:=(HX.out.row.2.2.2.1.later pM.out.g).at' h1;have bU:=HX.out.row.2.2.2.2 l[1] (List.getElem_mem h1);have HE:=ł (Me.out wy _ pM.out);generalize l[1]=y at HE hcc bU;obtain⟨yk,yn,ys,mY,yl⟩:=y;obtain⟨ya,yc,rfl,-,-⟩:=bU.form;simp only[ae.val]at HE;have c0:=hcc 0 _ rfl;have c1:=hcc 1 _ rfl;have c2:=hcc 2 _ rfl;have c3:=hcc 3 _ rfl;simp only[Nat.zero_mul,Nat.one_mul,Nat.add_zero]at c0 c1 c2 c3;have hbl:b<wy.heap.size:=World.block_lt_of_cell? wy _ c0;clear hcc bU
 go_wp2_with fail;clear c0 c1 c2 c3 n0 n1 n2 n3;refine HE.out.mono ?_;rintro e u2 ⟨rfl,q2,hs,ht⟩;have HS2:=ł hs;have HT2:=ł (uZ.out.trans ht);have Mg:=ł (show ∀ g,q1'.ownBlock=some g->g≠X/\g≠w.heap.size from λg hg=>by
  rcases uZ.out.own g hg with h|h
  · have:=HOW.out g h;omega
  · omega)
 have DL:=ł (show u2.heap[X]? = some (.cells #[.int .u8 10,.int .i64 1,.int .i64 (f.cells+p),.int .i64 0,.int .i64 0] 60 (0,0))/\u2.heap[w.heap.size]? = some (.cells #[.int .u8 k,.int .i64 n,.string s,.slice (some ⟨b,off,none⟩) l.length cap] 26 (0,0))from
  ⟨(ht.mv.block X hlx (λe=>by rcases e with e|e;exact GG e;exact(Mg.out _ e).1 rfl)).trans Rq.out,(ht.mv.block w.heap.size hln (λe=>by rcases e with e|e;omega;exact(Mg.out _ e).2 rfl)).trans KR.out⟩)
 have Bl:=ł (show ∀ g,q2.ownBlock=some g->g≠X/\g≠w.heap.size from λg hg=>by
  rcases HT2.out.own g hg with h|h
  · have:=HOW.out g h;omega
  · omega)
 clear hs ht HE Mg;go_wp2_with fail;have hcl:(code ++ A ++ ([⟨13,1,0,0,0⟩,⟨10,1,f.cells+p,0,0⟩]:List Ins) ++ B).length<=900010:=by simp;omega
 generalize hcd:code ++ A ++ ([⟨13,1,0,0,0⟩,⟨10,1,f.cells+p,0,0⟩]:List Ins) ++ B=cd at HS2 hcl;have HCD:=ł hcd;clear hcd;have ou:=ł (λ(x:World) (hx:Mv (λb=>b=C\/q2.ownBlock=some b) u2.drew x)=>(show x.heap[X]? = _ from(hx.block X (lt_of_block DL.out.1) (λe=>by rcases e with e|e;exact GG e;exact(Bl.out _ e).1 rfl)).trans DL.out.1));have iR:=ł (λ(x:World) (hx:Mv (λb=>b=C\/q2.ownBlock=some b) u2.drew x)=>(show x.heap[w.heap.size]? = _ from(hx.block w.heap.size (lt_of_block DL.out.2) (λe=>by rcases e with e|e;omega;exact(Bl.out _ e).2 rfl)).trans DL.out.2));have lQ:=ł (show C<u2.heap.size/\∀ g,q2.ownBlock=some g->g<u2.heap.size from⟨lt_of_block HS2.out.blk,λg hg=>(HS2.out.row.lt g hg).2⟩);refine rq (by kernel_rfl) 54 [some 37,some 38,some 39,some 40,some 41,some 42,some 43,some 44,some 45,some 46,some 47,some 48,some 49,some 50,some 51,some 52,some 53] [[],[],[1],[],[],[4],[5],[6],[7,2],[],[9,8],[],[11,10],[],[13,12],[2,3,8,10,12,14],[0,15,14]] [[],[],[1],[],[],[4],[5],[6],[7],[],[9],[],[11],[],[13],[2,3,8,10,12,14],[0,15]] [[0],[1],[2],[3],[4],[5],[6],[7],[8],[9],[10],[11],[12],[13],[14],[15],[16]] [[],[],[],[],[],[],[],[],[],[],[],[],[],[],[],[],[]] rfl (by kernel_rfl) (Mv (λb=>b=C\/q2.ownBlock=some b)) (λ_=>Mv.refl _ _) (λx y z h1 h2=>h1.trans h2 (λ_ e => .inl e)) (iT [some ((.pointer (some ⟨C,0,none⟩))),none,some (.agg #[.int .u8 13,.int .i64 2,.int .i64 0,.int .i64 0,.int .i64 0]),some (.agg #[.int .u8 10,.int .i64 1,.int .i64 (f.cells+p),.int .i64 0,.int .i64 0]),some (.pointer (some ⟨w.heap.size,0,none⟩)),some (.int .u8 k),some (.int .i64 k),none,some (.agg #[.int .u8 9,.int .i64 3,.int .i64 1,.int .i64 2,.int .i64 k]),none,some (.agg #[.int .u8 12,.int .i64 1,.int .i64 0,.int .i64 0,.int .i64 0]),none,some (.agg #[.int .u8 12,.int .i64 2,.int .i64 0,.int .i64 0,.int .i64 0]),none,some (.agg #[.int .u8 12,.int .i64 3,.int .i64 0,.int .i64 0,.int .i64 0]),none,none] [none,some [2,0],none,none,none,none,none,some [3,1,2,k],none,some [1,0],none,some [2,0],none,some [3,0],none,none,none] 15 16 [⟨13,2,0,0,0⟩,⟨10,1,f.cells+p,0,0⟩,⟨9,3,1,2,k⟩,⟨12,1,0,0,0⟩,⟨12,2,0,0,0⟩,⟨12,3,0,0,0⟩] w0 C (.slice fa f.slots.length fc) f q2 cd u2.heap.size) (λ_ x=>bD w0 C (.slice fa f.slots.length fc) f x q2 cd) [[16]] ?z0 ?steps ?done
 case z0=>intro z hz;exact⟨Mv.drew HS2.out.g,HS2.out.blk,HS2.out.row,HS2.out.hC⟩
 case steps =>
  refine⟨?s0,?s1,?s2,?s3,?s4,?s5,?s6,?s7,?s8,?s9,?s10,?s11,?s12,?s13,?s14,?s15,?s16,trivial⟩
  case s0|s4 =>
   intro vs x hx hY hZ;clear hY hZ;simp only[zR];go_simp;exact⟨Mv.refl _ _,by intros;assumption,jS (by decide) (by decide) rfl rfl rfl,by intros;assumption⟩
  case s1|s9|s11|s13 =>
   intro vs x hx hY hZ;have hsz:u2.heap.size<=x.heap.size:=hx.size;clear hY hZ;simp only[zR];go_simp;exact⟨(Mv.refl _ _).alloc _,(by first|exact λh=>bD.grow h ((Mv.refl _ _).alloc _)|(intros;exact bD.grow (by assumption) ((Mv.refl _ _).alloc _))),Cf (by decide) (by decide) rfl ⟨x.heap.size,rfl,hsz,heap_alloc_new x _⟩,by intros;exact kg ((Mv.refl _ _).alloc _) _ _ (by assumption)⟩
  case s2 =>
   intro vs x hx hY hZ;obtain⟨g,(hg:vs 1=_),-,hgb⟩:=ru (hY 1 (by simp) (by simp)) (by decide) (by decide) rfl;have HC:=ł (gK 13 2 0 g _ x hgb);simp only[List.length_cons,List.length_nil,Nat.zero_add,Nat.reduceAdd]at hg;clear hY hZ;simp only[zR,hg];go_simp;refine HC.out.mono ?_;rintro e y ⟨rfl,hgr⟩;exact⟨_,rfl,hgr.mono (λ_ e=>e.elim),(by first|exact λh=>bD.grow h hgr|(intros;exact bD.grow (by assumption) hgr)),jS (by decide) (by decide) rfl rfl rfl,by intros;exact kg hgr _ _ (by assumption)⟩
  case s3 =>
   intro vs x hx hY hZ;obtain⟨⟨i0,i1,i2⟩,i3,i4⟩:=bR (ou.out x hx);clear hY hZ;simp only[zR];go_simp;exact⟨Mv.refl _ _,by intros;assumption,jS (by decide) (by decide) rfl rfl rfl,by intros;assumption⟩
  case s5 =>
   intro vs x hx hY hZ;have h4:vs 4 = .pointer (some ⟨w.heap.size,0,none⟩):=jb (hY 4 (by simp) (by simp)) (by decide) (by decide) rfl rfl;obtain⟨⟨n0,n1⟩,n2,n3⟩:=aF (iR.out x hx);clear hY hZ;simp only[zR,h4];go_simp;exact⟨Mv.refl _ _,by intros;assumption,jS (by decide) (by decide) rfl rfl rfl,by intros;assumption⟩
  case s6 =>
   intro vs x hx hY hZ;have h5:vs 5 = .int .u8 k:=jb (hY 5 (by simp) (by simp)) (by decide) (by decide) rfl rfl;have hwk:IntKind.i64.wrap k=k:=IntWalk.i64_in _ (by omega);clear hY hZ;simp only[zR,h5];go_simp;exact⟨Mv.refl _ _,by intros;assumption,jS (by decide) (by decide) rfl rfl rfl,by intros;assumption⟩
  case s7 =>
   intro vs x hx hY hZ;have h6:vs 6 = .int .i64 k:=jb (hY 6 (by simp) (by simp)) (by decide) (by decide) rfl rfl;have hsz:u2.heap.size<=x.heap.size:=hx.size;clear hY hZ;simp only[zR,h6];go_simp;exact⟨(Mv.refl _ _).alloc _,(by first|exact λh=>bD.grow h ((Mv.refl _ _).alloc _)|(intros;exact bD.grow (by assumption) ((Mv.refl _ _).alloc _))),Cf (by decide) (by decide) rfl ⟨x.heap.size,rfl,hsz,heap_alloc_new x _⟩,by intros;exact kg ((Mv.refl _ _).alloc _) _ _ (by assumption)⟩
  case s8 =>
   intro vs x hx hY hZ;obtain⟨g,(hg:vs 7=_),-,hgb⟩:=ru (hY 7 (by simp) (by simp)) (by decide) (by decide) rfl;have HC:=ł (Il 9 3 1 2 k g _ x hgb);simp only[List.length_cons,List.length_nil,Nat.zero_add,Nat.reduceAdd]at hg;clear hY hZ;simp only[zR,hg];go_simp;refine HC.out.mono ?_;rintro e y ⟨rfl,hgr⟩;exact⟨_,rfl,hgr.mono (λ_ e=>e.elim),(by first|exact λh=>bD.grow h hgr|(intros;exact bD.grow (by assumption) hgr)),jS (by decide) (by decide) rfl rfl rfl,by intros;exact kg hgr _ _ (by assumption)⟩
  case s10 =>
   intro vs x hx hY hZ;obtain⟨g,(hg:vs 9=_),-,hgb⟩:=ru (hY 9 (by simp) (by simp)) (by decide) (by decide) rfl;have HC:=ł (gK 12 1 0 g _ x hgb);simp only[List.length_cons,List.length_nil,Nat.zero_add,Nat.reduceAdd]at hg;clear hY hZ;simp only[zR,hg];go_simp;refine HC.out.mono ?_;rintro e y ⟨rfl,hgr⟩;exact⟨_,rfl,hgr.mono (λ_ e=>e.elim),(by first|exact λh=>bD.grow h hgr|(intros;exact bD.grow (by assumption) hgr)),jS (by decide) (by decide) rfl rfl rfl,by intros;exact kg hgr _ _ (by assumption)⟩
  case s12 =>
   intro vs x hx hY hZ;obtain⟨g,(hg:vs 11=_),-,hgb⟩:=ru (hY 11 (by simp) (by simp)) (by decide) (by decide) rfl;have HC:=ł (gK 12 2 0 g _ x hgb);simp only[List.length_cons,List.length_nil,Nat.zero_add,Nat.reduceAdd]at hg;clear hY hZ;simp only[zR,hg];go_simp;refine HC.out.mono ?_;rintro e y ⟨rfl,hgr⟩;exact⟨_,rfl,hgr.mono (λ_ e=>e.elim),(by first|exact λh=>bD.grow h hgr|(intros;exact bD.grow (by assumption) hgr)),jS (by decide) (by decide) rfl rfl rfl,by intros;exact kg hgr _ _ (by assumption)⟩
  case s14 =>
   intro vs x hx hY hZ;obtain⟨g,(hg:vs 13=_),-,hgb⟩:=ru (hY 13 (by simp) (by simp)) (by decide) (by decide) rfl;have HC:=ł (gK 12 3 0 g _ x hgb);simp only[List.length_cons,List.length_nil,Nat.zero_add,Nat.reduceAdd]at hg;clear hY hZ;simp only[zR,hg];go_simp;refine HC.out.mono ?_;rintro e y ⟨rfl,hgr⟩;exact⟨_,rfl,hgr.mono (λ_ e=>e.elim),(by first|exact λh=>bD.grow h hgr|(intros;exact bD.grow (by assumption) hgr)),jS (by decide) (by decide) rfl rfl rfl,by intros;exact kg hgr _ _ (by assumption)⟩
  case s15 =>
   intro vs x hx hY hZ;have h2:vs 2 = .agg #[.int .u8 13,.int .i64 2,.int .i64 0,.int .i64 0,.int .i64 0]:=jb (hY 2 (by simp) (by simp)) (by decide) (by decide) rfl rfl;have h3:vs 3 = .agg #[.int .u8 10,.int .i64 1,.int .i64 (f.cells+p),.int .i64 0,.int .i64 0]:=jb (hY 3 (by simp) (by simp)) (by decide) (by decide) rfl rfl;have h8:vs 8 = .agg #[.int .u8 9,.int .i64 3,.int .i64 1,.int .i64 2,.int .i64 k]:=jb (hY 8 (by simp) (by simp)) (by decide) (by decide) rfl rfl;have h10:vs 10 = .agg #[.int .u8 12,.int .i64 1,.int .i64 0,.int .i64 0,.int .i64 0]:=jb (hY 10 (by simp) (by simp)) (by decide) (by decide) rfl rfl;have h12:vs 12 = .agg #[.int .u8 12,.int .i64 2,.int .i64 0,.int .i64 0,.int .i64 0]:=jb (hY 12 (by simp) (by simp)) (by decide) (by decide) rfl rfl;have lh:vs 14 = .agg #[.int .u8 12,.int .i64 3,.int .i64 0,.int .i64 0,.int .i64 0]:=jb (hY 14 (by simp) (by simp)) (by decide) (by decide) rfl rfl;have hsz:u2.heap.size<=x.heap.size:=hx.size;clear hY hZ;simp only[zR,h2,h3,h8,h10,h12,lh];go_simp;exact⟨(Mv.refl _ _).alloc _,(by first|exact λh=>bD.grow h ((Mv.refl _ _).alloc _)|(intros;exact bD.grow (by assumption) ((Mv.refl _ _).alloc _))),EU (by decide) ⟨x.heap.size,rfl,hsz,by simp,ax.bN (f:=Ins.cells) (l:=([⟨13,2,0,0,0⟩,⟨10,1,f.cells+p,0,0⟩,⟨9,3,1,2,k⟩,⟨12,1,0,0,0⟩,⟨12,2,0,0,0⟩,⟨12,3,0,0,0⟩]:List Ins)) (λ_=>rfl) (heap_alloc_new x _) rfl (by simp)⟩,by intros;exact kg ((Mv.refl _ _).alloc _) _ _ (by assumption)⟩
  case s16 =>
   intro vs x hx hY hZ;have h0:vs 0=(.pointer (some ⟨C,0,none⟩)):=jb (hY 0 (by simp) (by simp)) (by decide) (by decide) rfl rfl;obtain⟨g,(hg:vs 15=_),-,-,hrow⟩:=Es (hY 15 (by simp) (by simp)) (by decide);have hst:=hZ 0 (by simp) (by simp);have HC:=ł (lZ w0 C (.slice fa f.slots.length fc) f x q2 cd (.slice (some ⟨g,0,none⟩) 6 6) ([⟨13,2,0,0,0⟩,⟨10,1,f.cells+p,0,0⟩,⟨9,3,1,2,k⟩,⟨12,1,0,0,0⟩,⟨12,2,0,0,0⟩,⟨12,3,0,0,0⟩]:List Ins) hst hrow (by simp;omega));simp only[List.length_cons,List.length_nil,Nat.zero_add,Nat.reduceAdd]at hg;have hsz:u2.heap.size<=x.heap.size:=hx.size;clear hY hZ hst hrow;simp only[zR,h0,hg];go_simp;refine HC.out.mono ?_;rintro e y ⟨rfl,q2',hs',hto⟩;exact⟨_,rfl,hto.mv,EW ⟨q2',hs',λq hq=>by rcases hto.own q hq with h|h;exact .inl h;exact .inr (by omega)⟩,by intros;exact EX hto.mv lQ.out.1 lQ.out.2 _ _ (by assumption) (by assumption)⟩
 case done =>
 intro vs wz hxy hY _;obtain⟨q2',hst',hown'⟩:=Et (hY 16 (by decide) rfl);simp only[List.length_cons,List.length_nil,Nat.zero_add,Nat.reduceAdd];rw[show List.range 17=[0,1,2,3,4,5,6,7,8,9,10,11,12,13,14,15,16]from rfl];simp only[zR];clear hY;have aQ:=ł (yA.out.trans (HT2.out.trans (⟨((Mv.refl (λb=>b=C\/q2.ownBlock=some b) u2).drew).trans hxy (λx e => .inl e),hown'⟩:cK C u2 q2 wz q2')));have DI:=ł hst';clear hst' hown' hxy HS2 HT2 ou iR lQ DL Bl;go_wp2_with fail
 go_end0
 exact⟨rfl,_,by have:=DI.out;rw[← HCD.out]at this;simpa only[List.append_assoc]using this,aQ.out⟩
theorem Qj (f:az) (n p:Int) (s:ByteArray) (l:List Tree):jq f (.mk 1 n s l) p=[⟨6,1,n,0,0⟩,⟨12,1,0,0,0⟩]:=by rw[jq];rfl
theorem Qk (f:az) (n p:Int) (s:ByteArray) (l:List Tree):jq f (.mk 2 n s l) p=[⟨10,1,((au f s 1).getD noSlot).at',0,0⟩,⟨3,2,1,0,0⟩,⟨10,1,((au f s 1).getD noSlot).at',0,0⟩,⟨12,2,0,0,0⟩]:=by rw[jq];rfl
theorem Ql (f:az) (n p:Int) (s:ByteArray) (l:List Tree):jq f (.mk 3 n s l) p=(kS f l p).getD 0 [] ++ [⟨13,1,0,0,0⟩,⟨11,2,1,((au f s 2).getD noSlot).at',((au f s 2).getD noSlot).len⟩,⟨3,3,2,0,0⟩,⟨11,2,1,((au f s 2).getD noSlot).at',((au f s 2).getD noSlot).len⟩,⟨12,1,0,0,0⟩,⟨12,3,0,0,0⟩]:=by rw[jq];rfl
theorem PG (f:az) (k n p:Int) (s:ByteArray) (l:List Tree) (hk:k=4\/k=5):jq f (.mk k n s l) p=[⟨if k=5 then 15 else 14,1,((au f s 3).getD noSlot).at',0,0⟩,⟨12,1,0,0,0⟩]:=by
 rw[jq];rcases hk with rfl|rfl <;> rfl
theorem PH (f:az) (k n p:Int) (s:ByteArray) (l:List Tree) (hk:k=6\/k=7):jq f (.mk k n s l) p=(kS f l p).getD 0 [] ++ [⟨13,1,0,0,0⟩] ++ (if k=6 then[⟨3,3,1,0,0⟩,⟨8,3,0,0,0⟩]else[⟨9,3,1,2,16⟩]) ++ [⟨12,1,0,0,0⟩,⟨12,3,0,0,0⟩]:=by
 rw[jq];rcases hk with rfl|rfl <;> rfl
theorem Qm (f:az) (k n p:Int) (s:ByteArray) (l:List Tree) (hk:8<=k):jq f (.mk k n s l) p=(kS f l p).getD 0 [] ++ [⟨13,1,0,0,0⟩,⟨10,1,f.cells+p,0,0⟩] ++ (kS f l p).getD 1 [] ++ [⟨13,2,0,0,0⟩,⟨10,1,f.cells+p,0,0⟩,⟨9,3,1,2,k⟩,⟨12,1,0,0,0⟩,⟨12,2,0,0,0⟩,⟨12,3,0,0,0⟩]:=by
 rw[jq,if_neg (by omega),if_neg (by omega),if_neg (by omega),if_neg (by omega),if_neg (by omega),if_neg (by omega)]
theorem NK {k n:Int} {s:ByteArray} {l:List Tree} (h:aM (.mk k n s l)=true):k=1\/k=2\/(k=3/\l.length=1)\/(k=4\/k=5)\/((k=6\/k=7)/\l.length=1)\/((8<=k/\k<=23)/\l.length=2):=by
 rw[aM]at h;split at h
 · exact .inl ‹_›
 · split at h
   · rename_i h2;rcases h2 with e|e|e
     · exact .inr (.inl e)
     · exact .inr (.inr (.inr (.inl (.inl e))))
     · exact .inr (.inr (.inr (.inl (.inr e))))
   · split at h
     · rename_i h3;simp at h;exact .inr (.inr (.inl ⟨h3,h.2.1⟩))
     · split at h
       · rename_i h4;simp at h;exact .inr (.inr (.inr (.inr (.inl ⟨h4,h.2.1⟩))))
       · split at h
         · rename_i h5;simp at h;exact .inr (.inr (.inr (.inr (.inr ⟨h5,h.2.1⟩))))
         · cases h
theorem BL {k n:Int} {s:ByteArray} {l:List Tree} (h:aM (.mk k n s l)=true) (hk:k=3\/k=6\/k=7\/(8<=k/\k<=23)):∀ t∈l,aM t=true:=by
 have ha:mf l=true:=by
  rw[aM,if_neg (by omega),if_neg (by omega)]at h;split at h
  · simp at h;exact h.2.2
  · split at h
    · simp at h;exact h.2.2
    · split at h
      · simp at h;exact h.2.2
      · cases h
 rw[Od]at ha;exact List.all_eq_true.1 ha
def JM (w0:World) (C:Nat) (sv:Value) (f:az) (m:Nat):Prop:=∀ (x:ae),SizeOf.sizeOf x<=m->aM x.t=true->aS w0 x->∀ (p:Int) (w:World) (cv:Value) (code:List Ins),0<=p->p+iJ x.t<=100000->code.length+(jq f x.t p).length<=900000->bD w0 C sv f w cv code ->
 Calls Tryz.prog 63 #[.pointer (some ⟨C,0,none⟩),x.val,.int .i64 p] w (xN w0 C sv f w cv code (jq f x.t p))
theorem X4 (w0:World) (C:Nat) (sv:Value) (f:az) (hf:fV w0 sv f) (hc0:0<=f.cells) (hc1:f.cells<=100000) (m:Nat) (ih:JM w0 C sv f m):JM w0 C sv f (m+1):=by
 intro x hm he hx p w cv code hp0 hpd hlen hst;obtain⟨k,n,s,kv,l⟩:=x;have hform:=hx.form;have hsub:∀ (i:Nat) (hi:i<l.length),SizeOf.sizeOf l[i]<=m:=λi hi=>by
  have:=nA (k:=k) (n:=n) (s:=s) (kv:=kv) (List.getElem_mem hi);omega
 have hat:∀ (i:Nat) (hi:i<l.length),aS w0 l[i]:=λi hi=>hx.row.2.2.2.2 _ (List.getElem_mem hi);have dR:∀ (i:Nat) (hi:i<l.length),iJ l[i].t+1<=iJ (ae.t (.mk k n s kv l)):=λi hi=>by
  have h:=Jp (ae.ts l) i (by rw[ae.bT];exact hi);rw[ae.gm l i hi]at h;simp only[ae.t,iJ];omega
 have hcode:∀ (i:Nat) (hi:i<l.length),(kS f (ae.ts l) p).getD i []=jq f l[i].t (p+i):=λi hi=>by
  rw[Ay f _ p i (by rw[ae.bT];exact hi),ae.gm l i hi]
 have hel:∀ (i:Nat) (hi:i<l.length),(k=3\/k=6\/k=7\/(8<=k/\k<=23))->aM l[i].t=true:=λi hi hk=>by
  simp only[ae.t]at he;exact BL he hk _ (by rw[← ae.gm l i hi];exact List.getElem_mem _)
 simp only[ae.t]at he hlen hpd dR ⊢;have hkind:=NK he;rw[ae.bT]at hkind;clear he;rcases hkind with rfl|rfl|⟨rfl,hl⟩|hk|⟨hk,hl⟩|⟨⟨Md,Rp⟩,hl⟩
 · rw[Qj]at hlen ⊢;simp only[List.length_cons,List.length_nil]at hlen;clear hsub hat dR hcode hel;obtain⟨ka,kc,rfl,-,-⟩:=hform;simp only[ae.val];have hga:Grow w (w.alloc (.cells #[.int .u8 1,.int .i64 n,.string s,.slice ka l.length kc] 26)):=(Mv.refl _ _).alloc _;have fJ:=ł (hst.grow hga);have dI:=ł (cK.grow (C:=C) (cv:=cv) hga);clear hga;clear hst hf hx ih
   go_enter Tryz.func63,Tryz.ntmps63
   go_upto_region 3 with fail;have hln:w.heap.size<(w.alloc (.cells #[.int .u8 1,.int .i64 n,.string s,.slice ka l.length kc] 26)).heap.size:=by simp
   obtain⟨⟨n0,n1⟩,n2,n3⟩:=aF (heap_alloc_new w (.cells #[.int .u8 1,.int .i64 n,.string s,.slice ka l.length kc] 26));generalize w.alloc (.cells #[.int .u8 1,.int .i64 n,.string s,.slice ka l.length kc] 26)=w1 at *;have bI:=fJ;have HT1:=dI;go_wp2_with fail;refine(gK 6 1 n w1.heap.size _ _ (heap_alloc_new w1 _)).mono ?_;rintro e oD ⟨rfl,hg⟩;simp only;have hg0:Grow w1 oD:=Mv.trans ((Mv.refl _ w1).alloc _) hg (λ_ e=>e.elim);clear hg;go_wp2_with fail;refine(gK 12 1 0 oD.heap.size _ _ (heap_alloc_new oD _)).mono ?_;rintro e GH ⟨rfl,hg⟩;simp only;have hg1:Grow oD GH:=Mv.trans ((Mv.refl _ oD).alloc _) hg (λ_ e=>e.elim);clear hg;have hgz:Grow w1 (GH.alloc (.cells #[.int .u8 6,.int .i64 1,.int .i64 n,.int .i64 0,.int .i64 0,.int .u8 12,.int .i64 1,.int .i64 0,.int .i64 0,.int .i64 0] 60)):=(Mv.trans hg0 hg1 (λ_ e=>e.elim)).alloc _;have dJ:=ł (lZ w0 C sv f _ cv code (.slice (some ⟨GH.heap.size,0,none⟩) 2 2) ([⟨6,1,n,0,0⟩,⟨12,1,0,0,0⟩]:List Ins) (bI.out.grow hgz) (ax.bN (f:=Ins.cells) (l:=([⟨6,1,n,0,0⟩,⟨12,1,0,0,0⟩]:List Ins)) (λ_=>rfl) (heap_alloc_new GH _) rfl (by simp)) (by simp;omega));have iU:=ł (HT1.out.trans (cK.grow hgz));clear hgz hg0 hg1;go_wp2_with fail;refine dJ.out.mono ?_;rintro e u2 ⟨rfl,q2,hs,ht⟩;have HS2:=ł hs;have HT2:=ł (iU.out.trans ht);clear hs ht dJ iU bI HT1;go_wp2_with fail
   go_end0
   exact⟨rfl,_,HS2.out,HT2.out⟩
 · rw[Qk]at hlen ⊢;simp only[List.length_cons,List.length_nil]at hlen;clear hsub hat dR hcode hel;obtain⟨ka,kc,rfl,-,-⟩:=hform;simp only[ae.val];have hga:Grow w (w.alloc (.cells #[.int .u8 2,.int .i64 n,.string s,.slice ka l.length kc] 26)):=(Mv.refl _ _).alloc _;have fJ:=ł (hst.grow hga);have dI:=ł (cK.grow (C:=C) (cv:=cv) hga);clear hga;have HC:=ł (V5 w0 C sv f _ cv code 2 n s (.slice ka l.length kc) l fJ.out hf hx (by omega));clear hst hf hx ih
   go_enter Tryz.func63,Tryz.ntmps63
   go_wp2_with fail;refine HC.out.mono ?_;rintro e u1 ⟨rfl,q1,hs,ht⟩;have bI:=ł hs;have HT1:=ł (dI.out.trans ht);clear hs ht HC fJ dI;go_wp2_with fail
   go_end0
   exact⟨rfl,_,bI.out,HT1.out⟩
 · have h0:0<l.length:=by omega
   rw[Ql,hcode 0 h0]at hlen ⊢;simp only[Int.natCast_zero,Int.add_zero,List.length_append,List.length_cons,List.length_nil]at hlen ⊢;have hd:=dR 0 h0;have HI:=ł (λ(w':World) (cv':Value) (h:bD w0 C sv f w' cv' code)=>ih l[0] (hsub 0 h0) (hel 0 h0 (.inl rfl)) (hat 0 h0) p w' cv' code hp0 (by omega) (by omega) h);clear hsub hat dR hcode hel hd hl;obtain⟨ka,kc,rfl,-,-⟩:=hform;simp only[ae.val];have hga:Grow w (w.alloc (.cells #[.int .u8 3,.int .i64 n,.string s,.slice ka l.length kc] 26)):=(Mv.refl _ _).alloc _;have fJ:=ł (hst.grow hga);have dI:=ł (cK.grow (C:=C) (cv:=cv) hga);clear hga;have HC:=ł (YP w0 C sv f _ cv code _ 3 n p s (.slice ka l.length kc) l fJ.out hf hx (by omega) h0 HI.out);clear hst hf hx ih
   go_enter Tryz.func63,Tryz.ntmps63
   go_wp2_with fail;refine HC.out.mono ?_;rintro e u1 ⟨rfl,q1,hs,ht⟩;have bI:=ł hs;have HT1:=ł (dI.out.trans ht);clear hs ht HC fJ dI;go_wp2_with fail
   go_end0
   exact⟨rfl,_,bI.out,HT1.out⟩
 · rw[PG f k n p s _ hk]at hlen ⊢;simp only[List.length_cons,List.length_nil]at hlen;clear hsub hat dR hcode hel;obtain⟨ka,kc,rfl,-,-⟩:=hform;simp only[ae.val];rcases hk with rfl|rfl
   ·
     have hga:Grow w (w.alloc (.cells #[.int .u8 4,.int .i64 n,.string s,.slice ka l.length kc] 26)):=(Mv.refl _ _).alloc _;have fJ:=ł (hst.grow hga);have dI:=ł (cK.grow (C:=C) (cv:=cv) hga);clear hga;have HC:=ł (Oh w0 C sv f _ cv code 4 n s (.slice ka l.length kc) l fJ.out hf hx (by omega) (.inl rfl));clear hst hf hx ih
     go_enter Tryz.func63,Tryz.ntmps63
     go_wp2_with fail;refine HC.out.mono ?_;rintro e u1 ⟨rfl,q1,hs,ht⟩;have bI:=ł hs;have HT1:=ł (dI.out.trans ht);clear hs ht HC fJ dI;go_wp2_with fail
     go_end0
     exact⟨rfl,_,bI.out,HT1.out⟩
   ·
     have hga:Grow w (w.alloc (.cells #[.int .u8 5,.int .i64 n,.string s,.slice ka l.length kc] 26)):=(Mv.refl _ _).alloc _;have fJ:=ł (hst.grow hga);have dI:=ł (cK.grow (C:=C) (cv:=cv) hga);clear hga;have HC:=ł (Oh w0 C sv f _ cv code 5 n s (.slice ka l.length kc) l fJ.out hf hx (by omega) (.inr rfl));clear hst hf hx ih
     go_enter Tryz.func63,Tryz.ntmps63
     go_wp2_with fail;refine HC.out.mono ?_;rintro e u1 ⟨rfl,q1,hs,ht⟩;have bI:=ł hs;have HT1:=ł (dI.out.trans ht);clear hs ht HC fJ dI;go_wp2_with fail
     go_end0
     exact⟨rfl,_,bI.out,HT1.out⟩
 · have h0:0<l.length:=by omega
   rw[PH f k n p s _ hk,hcode 0 h0]at hlen ⊢;simp only[Int.natCast_zero,Int.add_zero,List.length_append,List.length_cons,List.length_nil]at hlen ⊢;have hd:=dR 0 h0;have HI:=ł (λ(w':World) (cv':Value) (_:List Ins) (h:bD w0 C sv f w' cv' code)=>ih l[0] (hsub 0 h0) (hel 0 h0 (by omega)) (hat 0 h0) p w' cv' code hp0 (by omega) (by omega) h);clear hsub hat dR hcode hel hd hl;obtain⟨ka,kc,rfl,-,-⟩:=hform;simp only[ae.val];rcases hk with rfl|rfl
   ·
     have hga:Grow w (w.alloc (.cells #[.int .u8 6,.int .i64 n,.string s,.slice ka l.length kc] 26)):=(Mv.refl _ _).alloc _;have fJ:=ł (hst.grow hga);have dI:=ł (cK.grow (C:=C) (cv:=cv) hga);clear hga;have HC:=ł (OO w0 C sv f _ cv code _ 6 n p s (.slice ka l.length kc) l fJ.out hf hx (by omega) (.inl rfl) h0 HI.out);clear hst hf hx ih
     go_enter Tryz.func63,Tryz.ntmps63
     go_wp2_with fail;refine HC.out.mono ?_;rintro e u1 ⟨rfl,q1,hs,ht⟩;have bI:=ł hs;have HT1:=ł (dI.out.trans ht);clear hs ht HC fJ dI;go_wp2_with fail
     go_end0
     exact⟨rfl,_,by have:=bI.out;simpa using this,HT1.out⟩
   ·
     have hga:Grow w (w.alloc (.cells #[.int .u8 7,.int .i64 n,.string s,.slice ka l.length kc] 26)):=(Mv.refl _ _).alloc _;have fJ:=ł (hst.grow hga);have dI:=ł (cK.grow (C:=C) (cv:=cv) hga);clear hga;have HC:=ł (OO w0 C sv f _ cv code _ 7 n p s (.slice ka l.length kc) l fJ.out hf hx (by omega) (.inr rfl) h0 HI.out);clear hst hf hx ih
     go_enter Tryz.func63,Tryz.ntmps63
     go_wp2_with fail;refine HC.out.mono ?_;rintro e u1 ⟨rfl,q1,hs,ht⟩;have bI:=ł hs;have HT1:=ł (dI.out.trans ht);clear hs ht HC fJ dI;go_wp2_with fail
     go_end0
     exact⟨rfl,_,by have:=bI.out;simpa using this,HT1.out⟩
 · have h0:0<l.length:=by omega
   have h1:1<l.length:=by omega
   rw[Qm f k n p s _ Md,hcode 0 h0,hcode 1 h1,show((1:Nat):Int)=1 from rfl]at hlen ⊢;simp only[Int.natCast_zero,Int.add_zero,List.length_append,List.length_cons,List.length_nil]at hlen ⊢;have hd0:=dR 0 h0;have hd1:=dR 1 h1;have HI0:=ł (λ(w':World) (cv':Value) (h:bD w0 C sv f w' cv' code)=>ih l[0] (hsub 0 h0) (hel 0 h0 (by omega)) (hat 0 h0) p w' cv' code hp0 (by omega) (by omega) h);have HI1:=ł (λ(w':World) (cv':Value) (h:bD w0 C sv f w' cv' (code ++ jq f l[0].t p ++ [⟨13,1,0,0,0⟩,⟨10,1,f.cells+p,0,0⟩]))=>ih l[1] (hsub 1 h1) (hel 1 h1 (by omega)) (hat 1 h1) (p+1) w' cv' _ (by omega) (by omega) (by simp;omega) h);have yx:=ł hlen;clear hsub hat dR hcode hel hd0 hd1 hl;obtain⟨ka,kc,rfl,-,-⟩:=hform;simp only[ae.val];generalize jq f l[0].t p=A at *;generalize jq f l[1].t (p+1)=B at *;have hga:Grow w (w.alloc (.cells #[.int .u8 k,.int .i64 n,.string s,.slice ka l.length kc] 26)):=(Mv.refl _ _).alloc _;have fJ:=ł (hst.grow hga);have dI:=ł (cK.grow (C:=C) (cv:=cv) hga);clear hga;have HC:=ł (WZ w0 C sv f _ cv code A B k n p s (.slice ka l.length kc) l fJ.out hf hx (by omega) h0 h1 Md Rp hp0 (by omega) hc0 hc1 HI0.out HI1.out);clear hst hf hx ih;have e1:(k == 1)=false:=by simp;omega
   have e2:(k == 2)=false:=by simp;omega
   have e3:(k == 3)=false:=by simp;omega
   have e4:(k == 4)=false:=by simp;omega
   have e5:(k == 5)=false:=by simp;omega
   have e6:(k == 6)=false:=by simp;omega
   have e7:(k == 7)=false:=by simp;omega
   go_enter Tryz.func63,Tryz.ntmps63
   go_wp2_with fail;refine HC.out.mono ?_;rintro e u1 ⟨rfl,q1,hs,ht⟩;have bI:=ł hs;have HT1:=ł (dI.out.trans ht);clear hs ht HC fJ dI;go_wp2_with fail
   go_end0
   exact⟨rfl,_,bI.out,HT1.out⟩
theorem PI (w0:World) (C:Nat) (sv:Value) (f:az) (hf:fV w0 sv f) (hc0:0<=f.cells) (hc1:f.cells<=100000):∀ m:Nat,JM w0 C sv f m
 |0=>λx hm=>by cases x;simp at hm
 |m+1=>X4 w0 C sv f hf hc0 hc1 m (PI w0 C sv f hf hc0 hc1 m)
end Go.Proofs.YtnobahchcongnaaGreat
