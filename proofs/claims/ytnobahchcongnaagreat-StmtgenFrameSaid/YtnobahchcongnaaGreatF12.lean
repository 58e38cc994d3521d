import Derived.Test.YtnobahchcongnaaGreatF11
set_option linter.unusedSimpArgs false
set_option linter.unusedVariables false
set_option maxRecDepth 100000
set_option maxHeartbeats 25600000
namespace Go.Proofs.YtnobahchcongnaaGreat
open Go.RowKit Go.Instr
def jo (n0:Nat) (P F NP NM:Value) (sl:dL) (b:Bool):Nat->List Value->World->Prop
 |0,[v],_=>v=P
 |1,[v],_=>v=P
 |2,[v],_=>v=P
 |3,[v],_=>v=F
 |4,[v],_=>v=NP
 |5,[v],_=>v=NM
 |6,[v],_=>v = .tuple #[sl.val,.bool b]
 |7,[v],_=>v = .tuple #[sl.val,.bool b]
 |8,[v],_=>v=sl.val
 |9,[v],_=>v = .bool b
 |10,[v],x=>∃ g,v = .pointer (some ⟨g,0,none⟩)/\n0<=g/\x.heap[g]? = some (.cells #[.string ⟨#[]⟩,.int .u8 0,.int .i64 0,.int .i64 0] 81 (0,0))
 |11,[v],x=>∃ g,v = .pointer (some ⟨g,0,none⟩)/\n0<=g/\x.heap[g]? = some (.cells #[.string sl.name,.int .u8 sl.kind,.int .i64 sl.len,.int .i64 sl.at'] 81 (0,0))
 |12,[v],_=>v = .bool b
 |_,_,_=>True
def iT (cs:List (Option Value)) (bs:List (Option (List Int))) (c e:Nat) (add:List Ins) (w0:World) (C:Nat) (sv:Value) (f:az) (cv:Value) (code:List Ins) (n0:Nat):Nat->List Value->World->Prop:=λj l x =>
 if j=e then ∃ cv',bD w0 C sv f x cv' (code ++ add)/\∀ g,cv'.ownBlock=some g->cv.ownBlock=some g\/n0<=g
 else if j=c then ∃ g,l=[.slice (some ⟨g,0,none⟩) add.length add.length]/\n0<=g/\g<x.heap.size/\ax 5 Ins.cells x (.slice (some ⟨g,0,none⟩) add.length add.length) add
 else match bs.getD j none with
  |some xs=>∃ g,l=[.slice (some ⟨g,0,none⟩) xs.length xs.length]/\n0<=g/\x.heap[g]? = some (.cells (xs.map (λi=>Value.int .i64 i)).toArray 3 (0,0))
  |none=>match cs.getD j none with
   |some v=>l=[v]
   |none=>True
section
variable {cs:List (Option Value)} {bs:List (Option (List Int))} {c e:Nat} {add:List Ins} {w0:World} {C:Nat} {sv:Value} {f:az} {cv:Value} {code:List Ins} {n0:Nat} {x y:World} {v u:Value} {xs:List Int} {j:Nat}
theorem jb (h:iT cs bs c e add w0 C sv f cv code n0 j [v] x) (h1:j≠e) (h2:j≠c) (h3:bs.getD j none=none) (h4:cs.getD j none=some u):v=u:=by
 unfold iT at h;rw[if_neg h1,if_neg h2,h3,h4]at h
 simpa using h
theorem jS (h1:j≠e) (h2:j≠c) (h3:bs.getD j none=none) (h4:cs.getD j none=some u) (hv:v=u):iT cs bs c e add w0 C sv f cv code n0 j [v] x:=by
 unfold iT;rw[if_neg h1,if_neg h2,h3,h4,hv]
theorem Cf (h1:j≠e) (h2:j≠c) (h3:bs.getD j none=some xs) (h:∃ g,v = .slice (some ⟨g,0,none⟩) xs.length xs.length/\n0<=g/\x.heap[g]? = some (.cells (xs.map (λi=>Value.int .i64 i)).toArray 3 (0,0))):iT cs bs c e add w0 C sv f cv code n0 j [v] x:=by
 unfold iT;rw[if_neg h1,if_neg h2,h3];obtain⟨g,rfl,h⟩:=h;exact⟨g,rfl,h⟩
theorem ru (h:iT cs bs c e add w0 C sv f cv code n0 j [v] x) (h1:j≠e) (h2:j≠c) (h3:bs.getD j none=some xs):∃ g,v = .slice (some ⟨g,0,none⟩) xs.length xs.length/\n0<=g/\x.heap[g]? = some (.cells (xs.map (λi=>Value.int .i64 i)).toArray 3 (0,0)):=by
 unfold iT at h;rw[if_neg h1,if_neg h2,h3]at h;obtain⟨g,h,h'⟩:=h;exact⟨g,by simpa using h,h'⟩
theorem EU (h1:c≠e) (h:∃ g,v = .slice (some ⟨g,0,none⟩) add.length add.length/\n0<=g/\g<x.heap.size/\ax 5 Ins.cells x (.slice (some ⟨g,0,none⟩) add.length add.length) add):iT cs bs c e add w0 C sv f cv code n0 c [v] x:=by
 unfold iT;rw[if_neg h1,if_pos rfl];obtain⟨g,rfl,h⟩:=h;exact⟨g,rfl,h⟩
theorem Es (h:iT cs bs c e add w0 C sv f cv code n0 c [v] x) (h1:c≠e):∃ g,v = .slice (some ⟨g,0,none⟩) add.length add.length/\n0<=g/\g<x.heap.size/\ax 5 Ins.cells x (.slice (some ⟨g,0,none⟩) add.length add.length) add:=by
 unfold iT at h;rw[if_neg h1,if_pos rfl]at h;obtain⟨g,h,h'⟩:=h;exact⟨g,by simpa using h,h'⟩
theorem EW {l:List Value} (h:∃ cv',bD w0 C sv f x cv' (code ++ add)/\∀ g,cv'.ownBlock=some g->cv.ownBlock=some g\/n0<=g):iT cs bs c e add w0 C sv f cv code n0 e l x:=by
 unfold iT;rw[if_pos rfl];exact h
theorem Et {l:List Value} (h:iT cs bs c e add w0 C sv f cv code n0 e l x):∃ cv',bD w0 C sv f x cv' (code ++ add)/\∀ g,cv'.ownBlock=some g->cv.ownBlock=some g\/n0<=g:=by
 unfold iT at h;rwa[if_pos rfl]at h
theorem kg (hg:Grow x y):∀ j l,iT cs bs c e add w0 C sv f cv code n0 j l x->iT cs bs c e add w0 C sv f cv code n0 j l y:=by
 intro j l h;unfold iT at h ⊢;split
 · rename_i h1;rw[if_pos h1]at h;obtain⟨cv',h2,h3⟩:=h;exact⟨cv',h2.grow hg,h3⟩
 · rename_i h1;rw[if_neg h1]at h;split
   · rename_i h2;rw[if_pos h2]at h;obtain⟨g,h3,h4,h5,h6⟩:=h;exact⟨g,h3,h4,Nat.lt_of_lt_of_le h5 hg.size,h6.later hg⟩
   · rename_i h2;rw[if_neg h2]at h;split
     · rename_i xs h3;rw[h3]at h;obtain⟨g,h4,h5,h6⟩:=h;exact⟨g,h4,h5,ai h6 hg⟩
     · rename_i h3;rw[h3]at h;exact h
theorem EX (hm:Mv (λb=>b=C\/cv.ownBlock=some b) x y) (hC:C<n0) (ho:∀ g,cv.ownBlock=some g->g<n0):∀ j l,¬ j=e->iT cs bs c e add w0 C sv f cv code n0 j l x->iT cs bs c e add w0 C sv f cv code n0 j l y:=by
 intro j l h1 h;have hno:∀ g,n0<=g->¬ (g=C\/cv.ownBlock=some g):=λg hg e'=>by
  rcases e' with e' | e'
  · omega
  · have:=ho g e';omega
 unfold iT at h ⊢;rw[if_neg h1]at h ⊢;split
 · rename_i h2;rw[if_pos h2]at h;obtain⟨g,h3,h4,h5,h6⟩:=h;exact⟨g,h3,h4,Nat.lt_of_lt_of_le h5 hm.size,h6.stay hm (λq hq=>by simp[Value.ownBlock]at hq;subst hq;exact hno _ h4)⟩
 · rename_i h2;rw[if_neg h2]at h;split
   · rename_i xs h3;rw[h3]at h;obtain⟨g,h4,h5,h6⟩:=h;exact⟨g,h4,h5,by rw[hm.block g (lt_of_block h6) (hno g h5)];exact h6⟩
   · rename_i h3;rw[h3]at h;exact h
end
section
variable {n0:Nat} {P F NP NM:Value} {sl:dL} {b:Bool} {x y:World}
theorem jo.grow (h:Grow x y):∀ j l,jo n0 P F NP NM sl b j l x->jo n0 P F NP NM sl b j l y:=by
 intro j l;unfold jo;split
 case h_11=>rintro⟨g,h1,h2,h3⟩;exact⟨g,h1,h2,ai h3 h⟩
 case h_12=>rintro⟨g,h1,h2,h3⟩;exact⟨g,h1,h2,ai h3 h⟩
 all_goals exact id
theorem jo.keep:∀ j l,¬ j=11->¬ j=10->jo n0 P F NP NM sl b j l x->jo n0 P F NP NM sl b j l y:=by
 intro j l h1 h2;unfold jo;split
 case h_11=>exact absurd rfl h2
 case h_12=>exact absurd rfl h1
 all_goals exact id
end
theorem V5 (w0:World) (C:Nat) (sv:Value) (f:az) (w:World) (cv:Value) (code:List Ins) (k n:Int) (s:ByteArray) (kv:Value) (l:List ae) (hst:bD w0 C sv f w cv code) (hf:fV w0 sv f) (hx:aS w0 (.mk k n s kv l)) (hlen:code.length<=900000) :
 Calls Tryz.prog 92 #[.pointer (some ⟨C,0,none⟩),ae.val (.mk k n s kv l)] w λe w'=>e = .returned (.tuple #[])/\∃ cv',bD w0 C sv f w' cv' (code ++ [⟨10,1,((au f s 1).getD noSlot).at',0,0⟩,⟨3,2,1,0,0⟩,⟨10,1,((au f s 1).getD noSlot).at',0,0⟩,⟨12,2,0,0,0⟩])/\cK C w cv w' cv':=by
 obtain⟨fa,fc,rfl,hfc,hfl⟩:=hf.row.form;obtain⟨a,cap,rfl,hcap,_l⟩:=hx.form;simp only[ae.val];have HF:=ł hf;have hga:Grow w (w.alloc (.cells #[.int .u8 k,.int .i64 n,.string s,.slice a l.length cap] 26)):=(Mv.refl _ _).alloc _;have bI:=ł (hst.grow hga);have HN:=ł (heap_alloc_new w (.cells #[.int .u8 k,.int .i64 n,.string s,.slice a l.length cap] 26));have dI:=ł (cK.grow (C:=C) (cv:=cv) hga);have zM:C<w.heap.size:=lt_of_block hst.blk;clear hst hf hx hga
 go_enter Tryz.func92,Tryz.ntmps92
 go_wp2_with fail;have wm:w.heap.size<(w.alloc (.cells #[.int .u8 k,.int .i64 n,.string s,.slice a l.length cap] 26)).heap.size:=by simp
 generalize w.alloc (.cells #[.int .u8 k,.int .i64 n,.string s,.slice a l.length cap] 26)=w1 at *;have jW:=ł (λ(x:World) (hx:Mv (λb=>w1.heap.size<=b) w1.drew x)=>(show Grow w0 x from Mv.trans (Mv.drew bI.out.g) hx (λb hb => .inr (Nat.le_trans bI.out.g.size hb))));have mH:=ł (λ(x:World) (hx:Mv (λb=>w1.heap.size<=b) w1.drew x)=>HF.out.later (jW.out x hx));have ow:=ł (λ(x:World) (hx:Mv (λb=>w1.heap.size<=b) w1.drew x)=>(show x.heap[C]? = _ from(hx.block C (by show C<w1.heap.size;omega) (by omega)).trans bI.out.blk));have iR:=ł (λ(x:World) (hx:Mv (λb=>w1.heap.size<=b) w1.drew x)=>(show x.heap[w.heap.size]? = _ from(hx.block w.heap.size (by show w.heap.size<w1.heap.size;omega) (by omega)).trans HN.out));refine BG (by kernel_rfl) 30 [some 8,some 9,some 10,some 11,some 12,some 13,some 14,some 7,some 15,some 16,some 4,none,some 5] [[],[0],[1],[2],[],[4],[3,5],[6],[7],[7],[],[10,8,6,0,1,2,3,4,5,6,7,8,10],[9,11,0,1,2,3,4,5,6,7,8,9,10,11]] [[],[0],[1],[2],[],[4],[3,5],[6],[7],[7],[],[10,8],[9]] [[0],[1],[2],[3],[4],[5],[6],[7],[8],[9],[10],[10],[12]] [[],[],[],[],[],[],[],[],[],[],[11],[],[]] rfl (by kernel_rfl) (Mv (λb=>w1.heap.size<=b)) (λ_=>Mv.refl _ _) (λx y z h1 h2=>h1.trans h2 (λ_ e => .inl e)) (jo w1.heap.size (.pointer (some ⟨C,0,none⟩)) (.agg #[.slice fa f.slots.length fc,.int .i64 f.cells,.int .i64 f.stacks]) (.pointer (some ⟨w.heap.size,2,none⟩)) (.string s) ((au f s 1).getD noSlot) (au f s 1).isSome) ?steps ?done
 case steps =>
  refine⟨?s0,?s1,?s2,?s3,?s4,?s5,?s6,?s7,?s8,?s9,?s10,?s11,?s12,trivial⟩
  case s0|s4 =>
   intro vs x hx hY;clear hY;simp only[zR];go_simp;exact⟨Mv.refl _ _,rfl,by intros;assumption⟩
  case s1 =>
   intro vs x hx hY;have h0:vs 0=(.pointer (some ⟨C,0,none⟩)):=hY 0 (by simp) (by simp);clear hY;simp only[zR,h0];go_simp;exact⟨Mv.refl _ _,rfl,by intros;assumption⟩
  case s2 =>
   intro vs x hx hY;have h1:vs 1=(.pointer (some ⟨C,0,none⟩)):=hY 1 (by simp) (by simp);clear hY;simp only[zR,h1];go_simp;exact⟨Mv.refl _ _,rfl,by intros;assumption⟩
  case s3 =>
   intro vs x hx hY;have h2:vs 2=(.pointer (some ⟨C,0,none⟩)):=hY 2 (by simp) (by simp);obtain⟨⟨k0,k1⟩,k2,k3⟩:=aF (ow.out x hx);clear hY;simp only[zR,h2];go_simp;exact⟨Mv.refl _ _,rfl,by intros;assumption⟩
  case s5 =>
   intro vs x hx hY;have h4:vs 4=(.pointer (some ⟨w.heap.size,2,none⟩)):=hY 4 (by simp) (by simp);obtain⟨⟨n0,n1⟩,n2,n3⟩:=aF (iR.out x hx);clear hY;simp only[zR,h4];go_simp;exact⟨Mv.refl _ _,rfl,by intros;assumption⟩
  case s6 =>
   intro vs x hx hY;have h3:vs 3=(.agg #[.slice fa f.slots.length fc,.int .i64 f.cells,.int .i64 f.stacks]):=hY 3 (by simp) (by simp);have h5:vs 5 = .string s:=hY 5 (by simp) (by simp);have HC:=ł (oV (.slice fa f.slots.length fc) f s 1 x (mH.out x hx));clear hY;simp only[zR,h3,h5];go_simp;refine HC.out.mono ?_;rintro e y ⟨rfl,hg⟩;exact⟨_,rfl,hg.mono (λ_ e=>e.elim),rfl,by intros;exact jo.grow hg _ _ (by assumption)⟩
  case s7 =>
   intro vs x hx hY;have h6:vs 6=(.tuple #[((au f s 1).getD noSlot).val,.bool (au f s 1).isSome]):=hY 6 (by simp) (by simp);clear hY;simp only[zR,h6];go_simp;exact⟨Mv.refl _ _,rfl,by intros;assumption⟩
  case s8|s9 =>
   intro vs x hx hY;have h7:vs 7=(.tuple #[((au f s 1).getD noSlot).val,.bool (au f s 1).isSome]):=hY 7 (by simp) (by simp);clear hY;simp only[zR,h7];go_simp;exact⟨Mv.refl _ _,rfl,by intros;assumption⟩
  case s10 =>
   intro vs x hx hY;have hsz:w1.heap.size<=x.heap.size:=hx.size;clear hY;simp only[zR];go_simp;exact⟨(Mv.refl _ _).alloc _,⟨x.heap.size,rfl,hsz,heap_alloc_new x _⟩,by intros;exact jo.grow ((Mv.refl _ _).alloc _) _ _ (by assumption)⟩
  case s11 =>
   intro vs x hx hY;have h8:vs 8=((au f s 1).getD noSlot).val:=hY 8 (by simp) (by simp);obtain⟨g,(h10:vs 10=_),hg0,hgb⟩:=hY 10 (by simp) (by simp);obtain⟨z0,z1,z2,z3⟩:=dF hgb;have zt:=aD hgb;generalize (au f s 1).getD noSlot=sl at *;obtain⟨s0,s1,s2,s3⟩:=sl
   replace h8:vs 8 = .agg #[.string s0,.int .u8 s1,.int .i64 s2,.int .i64 s3]:=h8
   obtain⟨zN,nX⟩:=nW hgb (.string s0) (.int .u8 s1) (.int .i64 s2) (.int .i64 s3);clear hY;simp only[zR,h8,h10];go_simp;exact⟨nX.mono (λb e => .inl (by omega)),⟨g,h10,hg0,zN⟩,λj l hj hk h=>jo.keep j l hj (λe=>hk (by subst e;decide)) h⟩
  case s12 =>
   intro vs x hx hY;have h9:vs 9 = .bool (au f s 1).isSome:=hY 9 (by simp) (by simp);clear hY;simp only[zR,h9];go_simp;exact⟨Mv.refl _ _,rfl,by intros;assumption⟩
 case done =>
 intro vs wx hx hY;obtain⟨g,(sN:vs 10=_),hg0,hgb⟩:=hY 11 (by decide) rfl;have h0:vs 0=(.pointer (some ⟨C,0,none⟩)):=hY 0 (by decide) rfl;have h1:vs 1=(.pointer (some ⟨C,0,none⟩)):=hY 1 (by decide) rfl;have h2:vs 2=(.pointer (some ⟨C,0,none⟩)):=hY 2 (by decide) rfl;have h3:vs 3=(.agg #[.slice fa f.slots.length fc,.int .i64 f.cells,.int .i64 f.stacks]):=hY 3 (by decide) rfl;have h4:vs 4=(.pointer (some ⟨w.heap.size,2,none⟩)):=hY 4 (by decide) rfl;have h5:vs 5 = .string s:=hY 5 (by decide) rfl;have h6:vs 6=(.tuple #[((au f s 1).getD noSlot).val,.bool (au f s 1).isSome]):=hY 6 (by decide) rfl;have h7:vs 7=(.tuple #[((au f s 1).getD noSlot).val,.bool (au f s 1).isSome]):=hY 7 (by decide) rfl;have h8:vs 8=((au f s 1).getD noSlot).val:=hY 8 (by decide) rfl;have h9:vs 9 = .bool (au f s 1).isSome:=hY 9 (by decide) rfl;have h12:vs 12 = .bool (au f s 1).isSome:=hY 12 (by decide) rfl;simp only[List.length_cons,List.length_nil,Nat.zero_add,Nat.reduceAdd];rw[show List.range 13=[0,1,2,3,4,5,6,7,8,9,10,11,12]from rfl];simp only[zR,sN,h0,h1,h2,h3,h4,h5,h6,h7,h8,h9,h12];clear hY sN h0 h1 h2 h3 h4 h5 h6 h7 h8 h9 h12;generalize hsl:(au f s 1).getD noSlot=sl at *;have ng:=ł hsl;clear hsl;have aY:=ł (show bD w0 C (.slice fa f.slots.length fc) f wx cv code from⟨jW.out wx hx,ow.out wx hx,bM (w:=w1.drew) bI.out.row hx (λg hg e=>by have:=(bI.out.row.lt g hg).2;omega),bI.out.hC⟩);have wu:=ł (dI.out.trans (⟨((Mv.refl (λb=>b=C\/cv.ownBlock=some b) w1).drew).trans (hx.mono (λx e => .inr e)) (λx e => .inl e),λ_ h => .inl h⟩:cK C w1 cv wx cv));obtain⟨q0,q1,q2,q3⟩:=dF hgb;have wU:=lt_of_block hgb;have hsx:w1.heap.size<=wx.heap.size:=hx.size;clear hx jW mH ow iR bI dI hgb;go_wp2_with fail;refine(gK 10 1 sl.at' wx.heap.size _ _ (heap_alloc_new wx _)).mono ?_;rintro e w3 ⟨rfl,hg3⟩;simp only;have hgx:Grow wx w3:=Mv.trans ((Mv.refl _ wx).alloc _) hg3 (λ_ e=>e.elim);have fA:=ł ((aY.out.grow hgx).grow ((Mv.refl _ _).alloc (.cells #[.int .u8 10,.int .i64 1,.int .i64 sl.at',.int .i64 0,.int .i64 0] 60)));have wB:=ł (wu.out.trans (cK.grow (hgx.alloc (.cells #[.int .u8 10,.int .i64 1,.int .i64 sl.at',.int .i64 0,.int .i64 0] 60))));have ed:=ł (heap_alloc_new w3 (.cells #[.int .u8 10,.int .i64 1,.int .i64 sl.at',.int .i64 0,.int .i64 0] 60));have KO:C≠w3.heap.size:=by
  have:=lt_of_block aY.out.blk;have:=hgx.size;omega
 have dU:=ł (show cv.ownBlock≠some w3.heap.size from λe=>by
  have h:=(aY.out.row.lt _ e).2;have:=hgx.size;omega)
 clear hg3 hgx q0 q1 q2 q3;go_wp2_with fail;generalize hw3:w3.heap.size=B at *;generalize w3.alloc (.cells #[.int .u8 10,.int .i64 1,.int .i64 sl.at',.int .i64 0,.int .i64 0] 60)=w4 at *;have ou:=ł (λ(x:World) (hx:Mv (λb=>b=C\/cv.ownBlock=some b) w4.drew x)=>(show x.heap[B]? = _ from(hx.block B (lt_of_block ed.out) (λe=>by rcases e with e|e;exact KO e.symm;exact dU.out e)).trans ed.out));have HST:=fA;have lQ:=ł (show C<w4.heap.size/\∀ g,cv.ownBlock=some g->g<w4.heap.size from⟨lt_of_block fA.out.blk,λg hg=>(fA.out.row.lt g hg).2⟩);refine rq (by kernel_rfl) 30 [some 21,some 22,some 23,some 24,some 25,some 26,some 27,some 28,some 29] [[],[],[],[2],[],[],[5,3],[1,3,4,6],[0,7,6]] [[],[],[],[2],[],[],[5],[1,3,4,6],[0,7]] [[0],[1],[2],[3],[4],[5],[6],[7],[8]] [[],[],[],[],[],[],[],[],[]] rfl (by kernel_rfl) (Mv (λb=>b=C\/cv.ownBlock=some b)) (λ_=>Mv.refl _ _) (λx y z h1 h2=>h1.trans h2 (λ_ e => .inl e)) (iT [some ((.pointer (some ⟨C,0,none⟩))),some (.agg #[.int .u8 10,.int .i64 1,.int .i64 sl.at',.int .i64 0,.int .i64 0]),none,some (.agg #[.int .u8 3,.int .i64 2,.int .i64 1,.int .i64 0,.int .i64 0]),some (.agg #[.int .u8 10,.int .i64 1,.int .i64 sl.at',.int .i64 0,.int .i64 0]),none,some (.agg #[.int .u8 12,.int .i64 2,.int .i64 0,.int .i64 0,.int .i64 0]),none,none] [none,none,some [2,1],none,none,some [2,0],none,none,none] 7 8 [⟨10,1,sl.at',0,0⟩,⟨3,2,1,0,0⟩,⟨10,1,sl.at',0,0⟩,⟨12,2,0,0,0⟩] w0 C (.slice fa f.slots.length fc) f cv code w4.heap.size) (λ_ x=>bD w0 C (.slice fa f.slots.length fc) f x cv code) [[8]] ?z0 ?steps ?done
 case z0=>intro z hz;exact⟨Mv.drew HST.out.g,HST.out.blk,HST.out.row,HST.out.hC⟩
 case steps =>
  refine⟨?s0,?s1,?s2,?s3,?s4,?s5,?s6,?s7,?s8,trivial⟩
  case s0 =>
   intro vs x hx hY hZ;clear hY hZ;simp only[zR];go_simp;exact⟨Mv.refl _ _,by intros;assumption,jS (by decide) (by decide) rfl rfl rfl,by intros;assumption⟩
  case s1|s4 =>
   intro vs x hx hY hZ;obtain⟨⟨i0,i1,i2⟩,i3,i4⟩:=bR (ou.out x hx);clear hY hZ;simp only[zR];go_simp;exact⟨Mv.refl _ _,by intros;assumption,jS (by decide) (by decide) rfl rfl rfl,by intros;assumption⟩
  case s2|s5 =>
   intro vs x hx hY hZ;have hsz:w4.heap.size<=x.heap.size:=hx.size;clear hY hZ;simp only[zR];go_simp;exact⟨(Mv.refl _ _).alloc _,(by first|exact λh=>bD.grow h ((Mv.refl _ _).alloc _)|(intros;exact bD.grow (by assumption) ((Mv.refl _ _).alloc _))),Cf (by decide) (by decide) rfl ⟨x.heap.size,rfl,hsz,heap_alloc_new x _⟩,by intros;exact kg ((Mv.refl _ _).alloc _) _ _ (by assumption)⟩
  case s3 =>
   intro vs x hx hY hZ;obtain⟨g,(hg:vs 2=_),-,hgb⟩:=ru (hY 2 (by simp) (by simp)) (by decide) (by decide) rfl;have HC:=ł (gK 3 2 1 g _ x hgb);simp only[List.length_cons,List.length_nil,Nat.zero_add,Nat.reduceAdd]at hg;clear hY hZ;simp only[zR,hg];go_simp;refine HC.out.mono ?_;rintro e y ⟨rfl,hgr⟩;exact⟨_,rfl,hgr.mono (λ_ e=>e.elim),(by first|exact λh=>bD.grow h hgr|(intros;exact bD.grow (by assumption) hgr)),jS (by decide) (by decide) rfl rfl rfl,by intros;exact kg hgr _ _ (by assumption)⟩
  case s6 =>
   intro vs x hx hY hZ;obtain⟨g,(hg:vs 5=_),-,hgb⟩:=ru (hY 5 (by simp) (by simp)) (by decide) (by decide) rfl;have HC:=ł (gK 12 2 0 g _ x hgb);simp only[List.length_cons,List.length_nil,Nat.zero_add,Nat.reduceAdd]at hg;clear hY hZ;simp only[zR,hg];go_simp;refine HC.out.mono ?_;rintro e y ⟨rfl,hgr⟩;exact⟨_,rfl,hgr.mono (λ_ e=>e.elim),(by first|exact λh=>bD.grow h hgr|(intros;exact bD.grow (by assumption) hgr)),jS (by decide) (by decide) rfl rfl rfl,by intros;exact kg hgr _ _ (by assumption)⟩
  case s7 =>
   intro vs x hx hY hZ;have h1:vs 1 = .agg #[.int .u8 10,.int .i64 1,.int .i64 sl.at',.int .i64 0,.int .i64 0]:=jb (hY 1 (by simp) (by simp)) (by decide) (by decide) rfl rfl;have h3:vs 3 = .agg #[.int .u8 3,.int .i64 2,.int .i64 1,.int .i64 0,.int .i64 0]:=jb (hY 3 (by simp) (by simp)) (by decide) (by decide) rfl rfl;have h4:vs 4 = .agg #[.int .u8 10,.int .i64 1,.int .i64 sl.at',.int .i64 0,.int .i64 0]:=jb (hY 4 (by simp) (by simp)) (by decide) (by decide) rfl rfl;have h6:vs 6 = .agg #[.int .u8 12,.int .i64 2,.int .i64 0,.int .i64 0,.int .i64 0]:=jb (hY 6 (by simp) (by simp)) (by decide) (by decide) rfl rfl;have hsz:w4.heap.size<=x.heap.size:=hx.size;clear hY hZ;simp only[zR,h1,h3,h4,h6];go_simp;exact⟨(Mv.refl _ _).alloc _,(by first|exact λh=>bD.grow h ((Mv.refl _ _).alloc _)|(intros;exact bD.grow (by assumption) ((Mv.refl _ _).alloc _))),EU (by decide) ⟨x.heap.size,rfl,hsz,by simp,ax.bN (f:=Ins.cells) (l:=([⟨10,1,sl.at',0,0⟩,⟨3,2,1,0,0⟩,⟨10,1,sl.at',0,0⟩,⟨12,2,0,0,0⟩]:List Ins)) (λ_=>rfl) (heap_alloc_new x _) rfl (by simp)⟩,by intros;exact kg ((Mv.refl _ _).alloc _) _ _ (by assumption)⟩
  case s8 =>
   intro vs x hx hY hZ;have h0:vs 0=(.pointer (some ⟨C,0,none⟩)):=jb (hY 0 (by simp) (by simp)) (by decide) (by decide) rfl rfl;obtain⟨g,(hg:vs 7=_),-,-,hrow⟩:=Es (hY 7 (by simp) (by simp)) (by decide);have hst:=hZ 0 (by simp) (by simp);have HC:=ł (lZ w0 C (.slice fa f.slots.length fc) f x cv code (.slice (some ⟨g,0,none⟩) 4 4) ([⟨10,1,sl.at',0,0⟩,⟨3,2,1,0,0⟩,⟨10,1,sl.at',0,0⟩,⟨12,2,0,0,0⟩]:List Ins) hst hrow (by simp;omega));simp only[List.length_cons,List.length_nil,Nat.zero_add,Nat.reduceAdd]at hg;have hsz:w4.heap.size<=x.heap.size:=hx.size;clear hY hZ hst hrow;simp only[zR,h0,hg];go_simp;refine HC.out.mono ?_;rintro e y ⟨rfl,cv',hs',hto⟩;exact⟨_,rfl,hto.mv,EW ⟨cv',hs',λq hq=>by rcases hto.own q hq with h|h;exact .inl h;exact .inr (by omega)⟩,by intros;exact EX hto.mv lQ.out.1 lQ.out.2 _ _ (by assumption) (by assumption)⟩
 case done =>
 intro vs wy hxy hY _;obtain⟨cv',hst',hown'⟩:=Et (hY 8 (by decide) rfl);simp only[List.length_cons,List.length_nil,Nat.zero_add,Nat.reduceAdd];rw[show List.range 9=[0,1,2,3,4,5,6,7,8]from rfl];simp only[zR];clear hY;have aQ:=ł (wB.out.trans (⟨((Mv.refl (λb=>b=C\/cv.ownBlock=some b) w4).drew).trans hxy (λx e => .inl e),hown'⟩:cK C w4 cv wy cv'));have DI:=ł hst';clear hst' hown' hxy HST fA aY wu wB ou ed;go_wp2_with fail
 go_end0
 exact⟨rfl,_,by rw[ng.out];exact DI.out,aQ.out⟩
end Go.Proofs.YtnobahchcongnaaGreat
