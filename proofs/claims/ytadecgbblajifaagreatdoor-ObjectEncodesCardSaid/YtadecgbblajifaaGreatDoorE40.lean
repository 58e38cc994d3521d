import Derived.Test.YtadecgbblajifaaGreatDoorE39
set_option linter.unusedSimpArgs false
set_option linter.unusedVariables false
set_option maxRecDepth 100000
set_option maxHeartbeats 25600000
namespace Go.Proofs.YtadecgbblajifaaGreatDoor
open Go.RowKit Go.Instr
def iT (n0:Nat) (P F NP NM:Value) (sl:aI) (b:Bool):Nat->List Value->World->Prop
 |0,[v],_=>v=P
 |1,[v],_=>v=P
 |2,[v],_=>v=P
 |3,[v],_=>v=F
 |4,[v],_=>v=NP
 |5,[v],_=>v=NM
 |6,[v],_=>v = .tuple #[sl.val,.bool b]
 |7,[v],_=>v = .tuple #[sl.val,.bool b]
 |8,[v],_=>v=sl.val
 |9,[v],_=>v = .bool b
 |10,[v],x=>∃ g,v = .pointer (some ⟨g,0,none⟩)/\n0<=g/\x.heap[g]? = some (.cells #[.string ⟨#[]⟩,.int .u8 0,.int .i64 0,.int .i64 0] 89 (0,0))
 |11,[v],x=>∃ g,v = .pointer (some ⟨g,0,none⟩)/\n0<=g/\x.heap[g]? = some (.cells #[.string sl.name,.int .u8 sl.kind,.int .i64 sl.len,.int .i64 sl.at'] 89 (0,0))
 |12,[v],_=>v = .bool b
 |_,_,_=>True
def gU (cs:List (Option Value)) (bs:List (Option (List Int))) (c e:Nat) (add:List Ins) (w0:World) (C:Nat) (sv:Value) (f:fe) (cv:Value) (code:List Ins) (n0:Nat):Nat->List Value->World->Prop:=λj l x =>
 if j=e then ∃ cv',eY w0 C sv f x cv' (code ++ add)/\∀ g,cv'.ownBlock=some g->cv.ownBlock=some g\/n0<=g
 else if j=c then ∃ g,l=[.slice (some ⟨g,0,none⟩) add.length add.length]/\n0<=g/\g<x.heap.size/\aB 5 Ins.cells x (.slice (some ⟨g,0,none⟩) add.length add.length) add
 else match bs.getD j none with
  |some xs=>∃ g,l=[.slice (some ⟨g,0,none⟩) xs.length xs.length]/\n0<=g/\x.heap[g]? = some (.cells (xs.map (λi=>Value.int .i64 i)).toArray 3 (0,0))
  |none=>match cs.getD j none with
   |some v=>l=[v]
   |none=>True
section
variable {cs:List (Option Value)} {bs:List (Option (List Int))} {c e:Nat} {add:List Ins} {w0:World} {C:Nat} {sv:Value} {f:fe} {cv:Value} {code:List Ins} {n0:Nat} {x y:World} {v u:Value} {xs:List Int} {j:Nat}
theorem AP (h:gU cs bs c e add w0 C sv f cv code n0 j [v] x) (h1:j≠e) (h2:j≠c) (h3:bs.getD j none=none) (h4:cs.getD j none=some u):v=u:=by
 unfold gU at h
 rw[if_neg h1,if_neg h2,h3,h4]at h
 simpa using h
theorem A8 (h1:j≠e) (h2:j≠c) (h3:bs.getD j none=none) (h4:cs.getD j none=some u) (hv:v=u):gU cs bs c e add w0 C sv f cv code n0 j [v] x:=by
 unfold gU
 rw[if_neg h1,if_neg h2,h3,h4,hv]
theorem Ru (h1:j≠e) (h2:j≠c) (h3:bs.getD j none=some xs) (h:∃ g,v = .slice (some ⟨g,0,none⟩) xs.length xs.length/\n0<=g/\x.heap[g]? = some (.cells (xs.map (λi=>Value.int .i64 i)).toArray 3 (0,0))):gU cs bs c e add w0 C sv f cv code n0 j [v] x:=by
 unfold gU
 rw[if_neg h1,if_neg h2,h3]
 obtain⟨g,rfl,h⟩:=h
 exact⟨g,rfl,h⟩
theorem NT (h:gU cs bs c e add w0 C sv f cv code n0 j [v] x) (h1:j≠e) (h2:j≠c) (h3:bs.getD j none=some xs):∃ g,v = .slice (some ⟨g,0,none⟩) xs.length xs.length/\n0<=g/\x.heap[g]? = some (.cells (xs.map (λi=>Value.int .i64 i)).toArray 3 (0,0)):=by
 unfold gU at h
 rw[if_neg h1,if_neg h2,h3]at h
 obtain⟨g,h,h'⟩:=h
 exact⟨g,by simpa using h,h'⟩
theorem _q (h1:c≠e) (h:∃ g,v = .slice (some ⟨g,0,none⟩) add.length add.length/\n0<=g/\g<x.heap.size/\aB 5 Ins.cells x (.slice (some ⟨g,0,none⟩) add.length add.length) add):gU cs bs c e add w0 C sv f cv code n0 c [v] x:=by
 unfold gU
 rw[if_neg h1,if_pos rfl]
 obtain⟨g,rfl,h⟩:=h
 exact⟨g,rfl,h⟩
theorem XG (h:gU cs bs c e add w0 C sv f cv code n0 c [v] x) (h1:c≠e):∃ g,v = .slice (some ⟨g,0,none⟩) add.length add.length/\n0<=g/\g<x.heap.size/\aB 5 Ins.cells x (.slice (some ⟨g,0,none⟩) add.length add.length) add:=by
 unfold gU at h
 rw[if_neg h1,if_pos rfl]at h
 obtain⟨g,h,h'⟩:=h
 exact⟨g,by simpa using h,h'⟩
theorem _t {l:List Value} (h:∃ cv',eY w0 C sv f x cv' (code ++ add)/\∀ g,cv'.ownBlock=some g->cv.ownBlock=some g\/n0<=g):gU cs bs c e add w0 C sv f cv code n0 e l x:=by
 unfold gU
 rw[if_pos rfl];exact h
theorem XH {l:List Value} (h:gU cs bs c e add w0 C sv f cv code n0 e l x):∃ cv',eY w0 C sv f x cv' (code ++ add)/\∀ g,cv'.ownBlock=some g->cv.ownBlock=some g\/n0<=g:=by
 unfold gU at h
 rwa[if_pos rfl]at h
theorem Aj (hg:Grow x y):∀ j l,gU cs bs c e add w0 C sv f cv code n0 j l x->gU cs bs c e add w0 C sv f cv code n0 j l y:=by
 intro j l h
 unfold gU at h ⊢
 split
 · rename_i h1;rw[if_pos h1]at h;obtain⟨cv',h2,h3⟩:=h;exact⟨cv',h2.grow hg,h3⟩
 · rename_i h1
   rw[if_neg h1]at h
   split
   · rename_i h2;rw[if_pos h2]at h;obtain⟨g,h3,h4,h5,h6⟩:=h;exact⟨g,h3,h4,Nat.lt_of_lt_of_le h5 hg.size,h6.later hg⟩
   · rename_i h2
     rw[if_neg h2]at h
     split
     · rename_i xs h3;rw[h3]at h;obtain⟨g,h4,h5,h6⟩:=h;exact⟨g,h4,h5,aJ h6 hg⟩
     · rename_i h3;rw[h3]at h;exact h
theorem _u (hm:Mv (λb=>b=C\/cv.ownBlock=some b) x y) (hC:C<n0) (ho:∀ g,cv.ownBlock=some g->g<n0):∀ j l,¬ j=e->gU cs bs c e add w0 C sv f cv code n0 j l x->gU cs bs c e add w0 C sv f cv code n0 j l y:=by
 intro j l h1 h
 have hno:∀ g,n0<=g->¬ (g=C\/cv.ownBlock=some g):=λg hg e'=>by
  rcases e' with e' | e'
  · omega
  · have:=ho g e';omega
 unfold gU at h ⊢
 rw[if_neg h1]at h ⊢
 split
 · rename_i h2
   rw[if_pos h2]at h
   obtain⟨g,h3,h4,h5,h6⟩:=h
   exact⟨g,h3,h4,Nat.lt_of_lt_of_le h5 hm.size,h6.stay hm (λq hq=>by simp[Value.ownBlock]at hq;subst hq;exact hno _ h4)⟩
 · rename_i h2
   rw[if_neg h2]at h
   split
   · rename_i xs h3
     rw[h3]at h
     obtain⟨g,h4,h5,h6⟩:=h
     exact⟨g,h4,h5,by rw[hm.block g (lt_of_block h6) (hno g h5)];exact h6⟩
   · rename_i h3;rw[h3]at h;exact h
end
section
variable {n0:Nat} {P F NP NM:Value} {sl:aI} {b:Bool} {x y:World}
theorem iT.grow (h:Grow x y):∀ j l,iT n0 P F NP NM sl b j l x->iT n0 P F NP NM sl b j l y:=by
 intro j l
 unfold iT
 split
 case h_11=>rintro⟨g,h1,h2,h3⟩;exact⟨g,h1,h2,aJ h3 h⟩
 case h_12=>rintro⟨g,h1,h2,h3⟩;exact⟨g,h1,h2,aJ h3 h⟩
 all_goals exact id
theorem iT.keep:∀ j l,¬ j=11->¬ j=10->iT n0 P F NP NM sl b j l x->iT n0 P F NP NM sl b j l y:=by
 intro j l h1 h2
 unfold iT
 split
 case h_11=>exact absurd rfl h2
 case h_12=>exact absurd rfl h1
 all_goals exact id
end
set_option maxRecDepth 100000 in
set_option maxHeartbeats 3200000 in
theorem af7 (w0:World) (C:Nat) (sv:Value) (f:fe) (w:World) (cv:Value) (code:List Ins) (k n:Int) (s:ByteArray) (kv:Value) (l:List aa) (hst:eY w0 C sv f w cv code) (hf:mE w0 sv f) (hx:fJ w0 (.mk k n s kv l)) (hlen:code.length<=900000) :
 Calls Tryz.prog 255 #[.pointer (some ⟨C,0,none⟩),aa.val (.mk k n s kv l)] w λe w'=>e = .returned (.tuple #[])/\∃ cv',eY w0 C sv f w' cv' (code ++ [⟨10,1,((aD f s 1).getD noSlot).at',0,0⟩,⟨3,2,1,0,0⟩,⟨10,1,((aD f s 1).getD noSlot).at',0,0⟩,⟨12,2,0,0,0⟩])/\gL C w cv w' cv':=by
 obtain⟨fa,fc,rfl,hfc,hfl⟩:=hf.row.form
 obtain⟨a,cap,rfl,hcap,acy⟩:=hx.form
 simp only[aa.val]
 have HF:=Lib.hid hf
 have hga:Grow w (w.alloc (.cells #[.int .u8 k,.int .i64 n,.string s,.slice a l.length cap] 26)):=(Mv.refl _ _).alloc _
 have gV:=Lib.hid (hst.grow hga)
 have HN:=Lib.hid (heap_alloc_new w (.cells #[.int .u8 k,.int .i64 n,.string s,.slice a l.length cap] 26))
 have uS:=Lib.hid (gL.grow (C:=C) (cv:=cv) hga)
 have MJ:C<w.heap.size:=lt_of_block hst.blk
 clear hst hf hx hga
 go_enter Tryz.func255,Tryz.ntmps255
 go_wp2_with fail
 have Lc:w.heap.size<(w.alloc (.cells #[.int .u8 k,.int .i64 n,.string s,.slice a l.length cap] 26)).heap.size:=by simp
 generalize w.alloc (.cells #[.int .u8 k,.int .i64 n,.string s,.slice a l.length cap] 26)=w1 at *
 have oU:=Lib.hid (λ(x:World) (hx:Mv (λb=>w1.heap.size<=b) w1.drew x)=>(show Grow w0 x from Mv.trans (Mv.drew gV.out.g) hx (λb hb => .inr (Nat.le_trans gV.out.g.size hb))))
 have oQ:=Lib.hid (λ(x:World) (hx:Mv (λb=>w1.heap.size<=b) w1.drew x)=>HF.out.later (oU.out x hx))
 have oV:=Lib.hid (λ(x:World) (hx:Mv (λb=>w1.heap.size<=b) w1.drew x)=>(show x.heap[C]? = _ from(hx.block C (by show C<w1.heap.size;omega) (by omega)).trans gV.out.blk))
 have kL:=Lib.hid (λ(x:World) (hx:Mv (λb=>w1.heap.size<=b) w1.drew x)=>(show x.heap[w.heap.size]? = _ from(hx.block w.heap.size (by show w.heap.size<w1.heap.size;omega) (by omega)).trans HN.out))
 refine Dg (by kernel_rfl) 30 [some 8,some 9,some 10,some 11,some 12,some 13,some 14,some 7,some 15,some 16,some 4,none,some 5] [[],[0],[1],[2],[],[4],[3,5],[6],[7],[7],[],[10,8,6,0,1,2,3,4,5,6,7,8,10],[9,11,0,1,2,3,4,5,6,7,8,9,10,11]] [[],[0],[1],[2],[],[4],[3,5],[6],[7],[7],[],[10,8],[9]] [[0],[1],[2],[3],[4],[5],[6],[7],[8],[9],[10],[10],[12]] [[],[],[],[],[],[],[],[],[],[],[11],[],[]] rfl (by kernel_rfl) (Mv (λb=>w1.heap.size<=b)) (λ_=>Mv.refl _ _) (λx y z h1 h2=>h1.trans h2 (λ_ e => .inl e)) (iT w1.heap.size (.pointer (some ⟨C,0,none⟩)) (.agg #[.slice fa f.slots.length fc,.int .i64 f.cells,.int .i64 f.stacks]) (.pointer (some ⟨w.heap.size,2,none⟩)) (.string s) ((aD f s 1).getD noSlot) (aD f s 1).isSome) ?steps ?done
 case steps =>
  refine⟨?s0,?s1,?s2,?s3,?s4,?s5,?s6,?s7,?s8,?s9,?s10,?s11,?s12,trivial⟩
  case s0 =>
   intro vs x hx hY
   clear hY
   unfold Gives
   simp only[ai,Act.put,List.getD_cons_zero,List.getD_cons_succ,List.setIfInBounds_toArray,List.set_cons_zero,List.set_cons_succ]
   go_simp
   exact⟨Mv.refl _ _,rfl,by intros;assumption⟩
  case s1 =>
   intro vs x hx hY
   have h0:vs 0=(.pointer (some ⟨C,0,none⟩)):=hY 0 (by simp) (by simp)
   clear hY
   unfold Gives
   simp only[ai,Act.put,List.getD_cons_zero,List.getD_cons_succ,List.setIfInBounds_toArray,List.set_cons_zero,List.set_cons_succ,h0]
   go_simp
   exact⟨Mv.refl _ _,rfl,by intros;assumption⟩
  case s2 =>
   intro vs x hx hY
   have h1:vs 1=(.pointer (some ⟨C,0,none⟩)):=hY 1 (by simp) (by simp)
   clear hY
   unfold Gives
   simp only[ai,Act.put,List.getD_cons_zero,List.getD_cons_succ,List.setIfInBounds_toArray,List.set_cons_zero,List.set_cons_succ,h1]
   go_simp
   exact⟨Mv.refl _ _,rfl,by intros;assumption⟩
  case s3 =>
   intro vs x hx hY
   have h2:vs 2=(.pointer (some ⟨C,0,none⟩)):=hY 2 (by simp) (by simp)
   obtain⟨⟨k0,k1⟩,k2,k3⟩:=fE (oV.out x hx)
   clear hY
   unfold Gives
   simp only[ai,Act.put,List.getD_cons_zero,List.getD_cons_succ,List.setIfInBounds_toArray,List.set_cons_zero,List.set_cons_succ,h2]
   go_simp
   exact⟨Mv.refl _ _,rfl,by intros;assumption⟩
  case s4 =>
   intro vs x hx hY
   clear hY
   unfold Gives
   simp only[ai,Act.put,List.getD_cons_zero,List.getD_cons_succ,List.setIfInBounds_toArray,List.set_cons_zero,List.set_cons_succ]
   go_simp
   exact⟨Mv.refl _ _,rfl,by intros;assumption⟩
  case s5 =>
   intro vs x hx hY
   have h4:vs 4=(.pointer (some ⟨w.heap.size,2,none⟩)):=hY 4 (by simp) (by simp)
   obtain⟨⟨n0,n1⟩,n2,n3⟩:=fE (kL.out x hx)
   clear hY
   unfold Gives
   simp only[ai,Act.put,List.getD_cons_zero,List.getD_cons_succ,List.setIfInBounds_toArray,List.set_cons_zero,List.set_cons_succ,h4]
   go_simp
   exact⟨Mv.refl _ _,rfl,by intros;assumption⟩
  case s6 =>
   intro vs x hx hY
   have h3:vs 3=(.agg #[.slice fa f.slots.length fc,.int .i64 f.cells,.int .i64 f.stacks]):=hY 3 (by simp) (by simp)
   have h5:vs 5 = .string s:=hY 5 (by simp) (by simp)
   have HC:=Lib.hid (rW (.slice fa f.slots.length fc) f s 1 x (oQ.out x hx))
   clear hY
   unfold Gives
   simp only[ai,Act.put,List.getD_cons_zero,List.getD_cons_succ,List.setIfInBounds_toArray,List.set_cons_zero,List.set_cons_succ,h3,h5]
   go_simp
   refine HC.out.mono ?_
   rintro e y ⟨rfl,hg⟩
   exact⟨_,rfl,hg.mono (λ_ e=>e.elim),rfl,by intros;exact iT.grow hg _ _ (by assumption)⟩
  case s7 =>
   intro vs x hx hY
   have h6:vs 6=(.tuple #[((aD f s 1).getD noSlot).val,.bool (aD f s 1).isSome]):=hY 6 (by simp) (by simp)
   clear hY
   unfold Gives
   simp only[ai,Act.put,List.getD_cons_zero,List.getD_cons_succ,List.setIfInBounds_toArray,List.set_cons_zero,List.set_cons_succ,h6]
   go_simp
   exact⟨Mv.refl _ _,rfl,by intros;assumption⟩
  case s8 =>
   intro vs x hx hY
   have h7:vs 7=(.tuple #[((aD f s 1).getD noSlot).val,.bool (aD f s 1).isSome]):=hY 7 (by simp) (by simp)
   clear hY
   unfold Gives
   simp only[ai,Act.put,List.getD_cons_zero,List.getD_cons_succ,List.setIfInBounds_toArray,List.set_cons_zero,List.set_cons_succ,h7]
   go_simp
   exact⟨Mv.refl _ _,rfl,by intros;assumption⟩
  case s9 =>
   intro vs x hx hY
   have h7:vs 7=(.tuple #[((aD f s 1).getD noSlot).val,.bool (aD f s 1).isSome]):=hY 7 (by simp) (by simp)
   clear hY
   unfold Gives
   simp only[ai,Act.put,List.getD_cons_zero,List.getD_cons_succ,List.setIfInBounds_toArray,List.set_cons_zero,List.set_cons_succ,h7]
   go_simp
   exact⟨Mv.refl _ _,rfl,by intros;assumption⟩
  case s10 =>
   intro vs x hx hY
   have hsz:w1.heap.size<=x.heap.size:=hx.size
   clear hY
   unfold Gives
   simp only[ai,Act.put,List.getD_cons_zero,List.getD_cons_succ,List.setIfInBounds_toArray,List.set_cons_zero,List.set_cons_succ]
   go_simp
   exact⟨(Mv.refl _ _).alloc _,⟨x.heap.size,rfl,hsz,heap_alloc_new x _⟩,by intros;exact iT.grow ((Mv.refl _ _).alloc _) _ _ (by assumption)⟩
  case s11 =>
   intro vs x hx hY
   have h8:vs 8=((aD f s 1).getD noSlot).val:=hY 8 (by simp) (by simp)
   obtain⟨g,(h10:vs 10=_),hg0,hgb⟩:=hY 10 (by simp) (by simp)
   obtain⟨z0,z1,z2,z3⟩:=gu hgb
   have zt:=gN hgb
   generalize (aD f s 1).getD noSlot=sl at *
   obtain⟨s0,s1,s2,s3⟩:=sl
   replace h8:vs 8 = .agg #[.string s0,.int .u8 s1,.int .i64 s2,.int .i64 s3]:=h8
   obtain⟨CU,Ca⟩:=wM hgb (.string s0) (.int .u8 s1) (.int .i64 s2) (.int .i64 s3)
   clear hY
   unfold Gives
   simp only[ai,Act.put,List.getD_cons_zero,List.getD_cons_succ,List.setIfInBounds_toArray,List.set_cons_zero,List.set_cons_succ,h8,h10]
   go_simp
   exact⟨Ca.mono (λb e => .inl (by omega)),⟨g,h10,hg0,CU⟩,λj l hj hk h=>iT.keep j l hj (λe=>hk (by subst e;decide)) h⟩
  case s12 =>
   intro vs x hx hY
   have h9:vs 9 = .bool (aD f s 1).isSome:=hY 9 (by simp) (by simp)
   clear hY
   unfold Gives
   simp only[ai,Act.put,List.getD_cons_zero,List.getD_cons_succ,List.setIfInBounds_toArray,List.set_cons_zero,List.set_cons_succ,h9]
   go_simp
   exact⟨Mv.refl _ _,rfl,by intros;assumption⟩
 case done =>
 intro vs wx hx hY
 obtain⟨g,(uk:vs 10=_),hg0,hgb⟩:=hY 11 (by decide) rfl
 have h0:vs 0=(.pointer (some ⟨C,0,none⟩)):=hY 0 (by decide) rfl
 have h1:vs 1=(.pointer (some ⟨C,0,none⟩)):=hY 1 (by decide) rfl
 have h2:vs 2=(.pointer (some ⟨C,0,none⟩)):=hY 2 (by decide) rfl
 have h3:vs 3=(.agg #[.slice fa f.slots.length fc,.int .i64 f.cells,.int .i64 f.stacks]):=hY 3 (by decide) rfl
 have h4:vs 4=(.pointer (some ⟨w.heap.size,2,none⟩)):=hY 4 (by decide) rfl
 have h5:vs 5 = .string s:=hY 5 (by decide) rfl
 have h6:vs 6=(.tuple #[((aD f s 1).getD noSlot).val,.bool (aD f s 1).isSome]):=hY 6 (by decide) rfl
 have h7:vs 7=(.tuple #[((aD f s 1).getD noSlot).val,.bool (aD f s 1).isSome]):=hY 7 (by decide) rfl
 have h8:vs 8=((aD f s 1).getD noSlot).val:=hY 8 (by decide) rfl
 have h9:vs 9 = .bool (aD f s 1).isSome:=hY 9 (by decide) rfl
 have h12:vs 12 = .bool (aD f s 1).isSome:=hY 12 (by decide) rfl
 simp only[List.length_cons,List.length_nil,Nat.zero_add,Nat.reduceAdd]
 rw[show List.range 13=[0,1,2,3,4,5,6,7,8,9,10,11,12]from rfl]
 simp only[ai,Act.put,List.getD_cons_zero,List.getD_cons_succ,List.setIfInBounds_toArray,List.set_cons_zero,List.set_cons_succ,uk,h0,h1,h2,h3,h4,h5,h6,h7,h8,h9,h12]
 clear hY uk h0 h1 h2 h3 h4 h5 h6 h7 h8 h9 h12
 generalize hsl:(aD f s 1).getD noSlot=sl at *
 have CV:=Lib.hid hsl
 clear hsl
 have dU:=Lib.hid (show eY w0 C (.slice fa f.slots.length fc) f wx cv code from⟨oU.out wx hx,oV.out wx hx,fQ (w:=w1.drew) gV.out.row hx (λg hg e=>by have:=(gV.out.row.lt g hg).2;omega),gV.out.hC⟩)
 have y7:=Lib.hid (uS.out.trans (⟨((Mv.refl (λb=>b=C\/cv.ownBlock=some b) w1).drew).trans (hx.mono (λx e => .inr e)) (λx e => .inl e),λ_ h => .inl h⟩:gL C w1 cv wx cv))
 obtain⟨q0,q1,q2,q3⟩:=gu hgb
 have Ww:=lt_of_block hgb
 have hsx:w1.heap.size<=wx.heap.size:=hx.size
 clear hx oU oQ oV kL gV uS hgb
 go_wp2_with fail
 refine(uY 10 1 sl.at' wx.heap.size _ _ (heap_alloc_new wx _)).mono ?_
 rintro e w3 ⟨rfl,hg3⟩
 simp only
 have hgx:Grow wx w3:=Mv.trans ((Mv.refl _ wx).alloc _) hg3 (λ_ e=>e.elim)
 have um:=Lib.hid ((dU.out.grow hgx).grow ((Mv.refl _ _).alloc (.cells #[.int .u8 10,.int .i64 1,.int .i64 sl.at',.int .i64 0,.int .i64 0] 69)))
 have y8:=Lib.hid (y7.out.trans (gL.grow (hgx.alloc (.cells #[.int .u8 10,.int .i64 1,.int .i64 sl.at',.int .i64 0,.int .i64 0] 69))))
 have uL:=Lib.hid (heap_alloc_new w3 (.cells #[.int .u8 10,.int .i64 1,.int .i64 sl.at',.int .i64 0,.int .i64 0] 69))
 have adJ:C≠w3.heap.size:=by
  have:=lt_of_block dU.out.blk;have:=hgx.size;omega
 have dY:=Lib.hid (show cv.ownBlock≠some w3.heap.size from λe=>by
  have h:=(dU.out.row.lt _ e).2;have:=hgx.size;omega)
 clear hg3 hgx q0 q1 q2 q3
 go_wp2_with fail
 generalize hw3:w3.heap.size=B at *
 generalize w3.alloc (.cells #[.int .u8 10,.int .i64 1,.int .i64 sl.at',.int .i64 0,.int .i64 0] 69)=w4 at *
 have zO:=Lib.hid (λ(x:World) (hx:Mv (λb=>b=C\/cv.ownBlock=some b) w4.drew x)=>(show x.heap[B]? = _ from(hx.block B (lt_of_block uL.out) (λe=>by rcases e with e|e;exact adJ e.symm;exact dY.out e)).trans uL.out))
 have HST:=um
 have Wx:=Lib.hid (show C<w4.heap.size/\∀ g,cv.ownBlock=some g->g<w4.heap.size from⟨lt_of_block um.out.blk,λg hg=>(um.out.row.lt g hg).2⟩)
 refine WY (by kernel_rfl) 30 [some 21,some 22,some 23,some 24,some 25,some 26,some 27,some 28,some 29] [[],[],[],[2],[],[],[5,3],[1,3,4,6],[0,7,6]] [[],[],[],[2],[],[],[5],[1,3,4,6],[0,7]] [[0],[1],[2],[3],[4],[5],[6],[7],[8]] [[],[],[],[],[],[],[],[],[]] rfl (by kernel_rfl) (Mv (λb=>b=C\/cv.ownBlock=some b)) (λ_=>Mv.refl _ _) (λx y z h1 h2=>h1.trans h2 (λ_ e => .inl e)) (gU [some ((.pointer (some ⟨C,0,none⟩))),some (.agg #[.int .u8 10,.int .i64 1,.int .i64 sl.at',.int .i64 0,.int .i64 0]),none,some (.agg #[.int .u8 3,.int .i64 2,.int .i64 1,.int .i64 0,.int .i64 0]),some (.agg #[.int .u8 10,.int .i64 1,.int .i64 sl.at',.int .i64 0,.int .i64 0]),none,some (.agg #[.int .u8 12,.int .i64 2,.int .i64 0,.int .i64 0,.int .i64 0]),none,none] [none,none,some [2,1],none,none,some [2,0],none,none,none] 7 8 [⟨10,1,sl.at',0,0⟩,⟨3,2,1,0,0⟩,⟨10,1,sl.at',0,0⟩,⟨12,2,0,0,0⟩] w0 C (.slice fa f.slots.length fc) f cv code w4.heap.size) (λ_ x=>eY w0 C (.slice fa f.slots.length fc) f x cv code) [[8]] ?z0 ?steps ?done
 case z0=>intro z hz;exact⟨Mv.drew HST.out.g,HST.out.blk,HST.out.row,HST.out.hC⟩
 case steps =>
  refine⟨?s0,?s1,?s2,?s3,?s4,?s5,?s6,?s7,?s8,trivial⟩
  case s0 =>
   intro vs x hx hY hZ
   clear hY hZ
   unfold Gives
   simp only[ai,Act.put,List.getD_cons_zero,List.getD_cons_succ,List.setIfInBounds_toArray,List.set_cons_zero,List.set_cons_succ]
   go_simp
   exact⟨Mv.refl _ _,by intros;assumption,A8 (by decide) (by decide) rfl rfl rfl,by intros;assumption⟩
  case s1 =>
   intro vs x hx hY hZ
   obtain⟨⟨i0,i1,i2⟩,i3,i4⟩:=Bp (zO.out x hx)
   clear hY hZ
   unfold Gives
   simp only[ai,Act.put,List.getD_cons_zero,List.getD_cons_succ,List.setIfInBounds_toArray,List.set_cons_zero,List.set_cons_succ]
   go_simp
   exact⟨Mv.refl _ _,by intros;assumption,A8 (by decide) (by decide) rfl rfl rfl,by intros;assumption⟩
  case s2 =>
   intro vs x hx hY hZ
   have hsz:w4.heap.size<=x.heap.size:=hx.size
   clear hY hZ
   unfold Gives
   simp only[ai,Act.put,List.getD_cons_zero,List.getD_cons_succ,List.setIfInBounds_toArray,List.set_cons_zero,List.set_cons_succ]
   go_simp
   exact⟨(Mv.refl _ _).alloc _,(by first|exact λh=>eY.grow h ((Mv.refl _ _).alloc _)|(intros;exact eY.grow (by assumption) ((Mv.refl _ _).alloc _))),Ru (by decide) (by decide) rfl ⟨x.heap.size,rfl,hsz,heap_alloc_new x _⟩,by intros;exact Aj ((Mv.refl _ _).alloc _) _ _ (by assumption)⟩
  case s3 =>
   intro vs x hx hY hZ
   obtain⟨g,(hg:vs 2=_),-,hgb⟩:=NT (hY 2 (by simp) (by simp)) (by decide) (by decide) rfl
   have HC:=Lib.hid (uY 3 2 1 g _ x hgb)
   simp only[List.length_cons,List.length_nil,Nat.zero_add,Nat.reduceAdd]at hg
   clear hY hZ
   unfold Gives
   simp only[ai,Act.put,List.getD_cons_zero,List.getD_cons_succ,List.setIfInBounds_toArray,List.set_cons_zero,List.set_cons_succ,hg]
   go_simp
   refine HC.out.mono ?_
   rintro e y ⟨rfl,hgr⟩
   exact⟨_,rfl,hgr.mono (λ_ e=>e.elim),(by first|exact λh=>eY.grow h hgr|(intros;exact eY.grow (by assumption) hgr)),A8 (by decide) (by decide) rfl rfl rfl,by intros;exact Aj hgr _ _ (by assumption)⟩
  case s4 =>
   intro vs x hx hY hZ
   obtain⟨⟨i0,i1,i2⟩,i3,i4⟩:=Bp (zO.out x hx)
   clear hY hZ
   unfold Gives
   simp only[ai,Act.put,List.getD_cons_zero,List.getD_cons_succ,List.setIfInBounds_toArray,List.set_cons_zero,List.set_cons_succ]
   go_simp
   exact⟨Mv.refl _ _,by intros;assumption,A8 (by decide) (by decide) rfl rfl rfl,by intros;assumption⟩
  case s5 =>
   intro vs x hx hY hZ
   have hsz:w4.heap.size<=x.heap.size:=hx.size
   clear hY hZ
   unfold Gives
   simp only[ai,Act.put,List.getD_cons_zero,List.getD_cons_succ,List.setIfInBounds_toArray,List.set_cons_zero,List.set_cons_succ]
   go_simp
   exact⟨(Mv.refl _ _).alloc _,(by first|exact λh=>eY.grow h ((Mv.refl _ _).alloc _)|(intros;exact eY.grow (by assumption) ((Mv.refl _ _).alloc _))),Ru (by decide) (by decide) rfl ⟨x.heap.size,rfl,hsz,heap_alloc_new x _⟩,by intros;exact Aj ((Mv.refl _ _).alloc _) _ _ (by assumption)⟩
  case s6 =>
   intro vs x hx hY hZ
   obtain⟨g,(hg:vs 5=_),-,hgb⟩:=NT (hY 5 (by simp) (by simp)) (by decide) (by decide) rfl
   have HC:=Lib.hid (uY 12 2 0 g _ x hgb)
   simp only[List.length_cons,List.length_nil,Nat.zero_add,Nat.reduceAdd]at hg
   clear hY hZ
   unfold Gives
   simp only[ai,Act.put,List.getD_cons_zero,List.getD_cons_succ,List.setIfInBounds_toArray,List.set_cons_zero,List.set_cons_succ,hg]
   go_simp
   refine HC.out.mono ?_
   rintro e y ⟨rfl,hgr⟩
   exact⟨_,rfl,hgr.mono (λ_ e=>e.elim),(by first|exact λh=>eY.grow h hgr|(intros;exact eY.grow (by assumption) hgr)),A8 (by decide) (by decide) rfl rfl rfl,by intros;exact Aj hgr _ _ (by assumption)⟩
  case s7 =>
   intro vs x hx hY hZ
   have h1:vs 1 = .agg #[.int .u8 10,.int .i64 1,.int .i64 sl.at',.int .i64 0,.int .i64 0]:=AP (hY 1 (by simp) (by simp)) (by decide) (by decide) rfl rfl
   have h3:vs 3 = .agg #[.int .u8 3,.int .i64 2,.int .i64 1,.int .i64 0,.int .i64 0]:=AP (hY 3 (by simp) (by simp)) (by decide) (by decide) rfl rfl
   have h4:vs 4 = .agg #[.int .u8 10,.int .i64 1,.int .i64 sl.at',.int .i64 0,.int .i64 0]:=AP (hY 4 (by simp) (by simp)) (by decide) (by decide) rfl rfl
   have h6:vs 6 = .agg #[.int .u8 12,.int .i64 2,.int .i64 0,.int .i64 0,.int .i64 0]:=AP (hY 6 (by simp) (by simp)) (by decide) (by decide) rfl rfl
   have hsz:w4.heap.size<=x.heap.size:=hx.size
   clear hY hZ
   unfold Gives
   simp only[ai,Act.put,List.getD_cons_zero,List.getD_cons_succ,List.setIfInBounds_toArray,List.set_cons_zero,List.set_cons_succ,h1,h3,h4,h6]
   go_simp
   exact⟨(Mv.refl _ _).alloc _,(by first|exact λh=>eY.grow h ((Mv.refl _ _).alloc _)|(intros;exact eY.grow (by assumption) ((Mv.refl _ _).alloc _))),_q (by decide) ⟨x.heap.size,rfl,hsz,by simp,aB.gW (f:=Ins.cells) (l:=([⟨10,1,sl.at',0,0⟩,⟨3,2,1,0,0⟩,⟨10,1,sl.at',0,0⟩,⟨12,2,0,0,0⟩]:List Ins)) (λ_=>rfl) (heap_alloc_new x _) rfl (by simp)⟩,by intros;exact Aj ((Mv.refl _ _).alloc _) _ _ (by assumption)⟩
  case s8 =>
   intro vs x hx hY hZ
   have h0:vs 0=(.pointer (some ⟨C,0,none⟩)):=AP (hY 0 (by simp) (by simp)) (by decide) (by decide) rfl rfl
   obtain⟨g,(hg:vs 7=_),-,-,hrow⟩:=XG (hY 7 (by simp) (by simp)) (by decide)
   have hst:=hZ 0 (by simp) (by simp)
   have HC:=Lib.hid (I1 w0 C (.slice fa f.slots.length fc) f x cv code (.slice (some ⟨g,0,none⟩) 4 4) ([⟨10,1,sl.at',0,0⟩,⟨3,2,1,0,0⟩,⟨10,1,sl.at',0,0⟩,⟨12,2,0,0,0⟩]:List Ins) hst hrow (by simp;omega))
   simp only[List.length_cons,List.length_nil,Nat.zero_add,Nat.reduceAdd]at hg
   have hsz:w4.heap.size<=x.heap.size:=hx.size
   clear hY hZ hst hrow
   unfold Gives
   simp only[ai,Act.put,List.getD_cons_zero,List.getD_cons_succ,List.setIfInBounds_toArray,List.set_cons_zero,List.set_cons_succ,h0,hg]
   go_simp
   refine HC.out.mono ?_
   rintro e y ⟨rfl,cv',hs',hto⟩
   exact⟨_,rfl,hto.mv,_t ⟨cv',hs',λq hq=>by rcases hto.own q hq with h|h;exact .inl h;exact .inr (by omega)⟩,by intros;exact _u hto.mv Wx.out.1 Wx.out.2 _ _ (by assumption) (by assumption)⟩
 case done =>
 intro vs wy hxy hY _
 obtain⟨cv',hst',hown'⟩:=XH (hY 8 (by decide) rfl)
 simp only[List.length_cons,List.length_nil,Nat.zero_add,Nat.reduceAdd]
 rw[show List.range 9=[0,1,2,3,4,5,6,7,8]from rfl]
 simp only[ai,Act.put,List.getD_cons_zero,List.getD_cons_succ,List.setIfInBounds_toArray,List.set_cons_zero,List.set_cons_succ]
 clear hY
 have iC:=Lib.hid (y8.out.trans (⟨((Mv.refl (λb=>b=C\/cv.ownBlock=some b) w4).drew).trans hxy (λx e => .inl e),hown'⟩:gL C w4 cv wy cv'))
 have HSF:=Lib.hid hst'
 clear hst' hown' hxy HST um dU y7 y8 zO uL
 go_wp2_with fail
 go_end0
 exact⟨rfl,_,by rw[CV.out];exact HSF.out,iC.out⟩
end Go.Proofs.YtadecgbblajifaaGreatDoor
