import Derived.Test.YtnobahchcongnaaGreatF19
set_option linter.unusedSimpArgs false
set_option linter.unusedVariables false
set_option maxRecDepth 100000
set_option maxHeartbeats 25600000
namespace Go.Proofs.YtnobahchcongnaaGreat
open Go.RowKit Go.Instr
theorem PL {α:Type} (f:α->List Value) (n:Nat) (hf:∀ x,(f x).length=n):∀ (l:List α) (i:Nat) (x:α),i<l.length->flat f (l.set i x)=(flat f l).take (i * n) ++ f x ++ (flat f l).drop (i * n+n)
 | [],i,x,h=>by simp at h
 |y :: l,0,x,_=>by
  simp only[flat,List.set_cons_zero,List.map_cons,List.flatten_cons,Nat.zero_mul,List.take_zero,List.nil_append,Nat.zero_add];rw[List.drop_append_of_le_length (by rw[hf];exact Nat.le_refl _),List.drop_of_length_le (by rw[hf];exact Nat.le_refl _)];simp
 |y :: l,i+1,x,h=>by
  have ih:=PL f n hf l i x (by simpa using h);simp only[flat,List.set_cons_succ,List.map_cons,List.flatten_cons]at ih ⊢;rw[ih];have h1:(i+1) * n=n+i * n:=by rw[Nat.add_mul];omega
  rw[h1,List.take_append,List.drop_append,hf,List.take_of_length_le (l:=f y) (by rw[hf];omega),List.drop_of_length_le (l:=f y) (by rw[hf];omega)];simp only[Nat.add_sub_cancel_left,List.nil_append,List.append_assoc];rw[show n+i * n+n - n=i * n+n by omega]
theorem X7 (c:Array Value) (k:Nat) (p q r s u:Value) (h:k+5<=c.size) :
 (((((c.setIfInBounds k p).setIfInBounds (k+1) q).setIfInBounds (k+2) r).setIfInBounds (k+3) s).setIfInBounds (k+4) u).toList=c.toList.take k ++ [p,q,r,s,u] ++ c.toList.drop (k+5):=by
 apply List.ext_getElem?;intro i;simp only[Array.toList_setIfInBounds,List.getElem?_set,List.length_set,Array.length_toList];have hl:(c.toList.take k).length=k:=by simp;omega
 rcases Nat.lt_or_ge i k with h1|h1
 · rw[List.append_assoc,List.getElem?_append_left (by omega),List.getElem?_take,if_pos h1];rw[if_neg (by omega),if_neg (by omega),if_neg (by omega),if_neg (by omega),if_neg (by omega)]
 · rw[List.append_assoc,List.getElem?_append_right (by omega),hl];rcases Nat.lt_or_ge i (k+5)with h2|h2
   · rw[List.getElem?_append_left (by simp;omega)];obtain rfl|rfl|rfl|rfl|rfl:i=k\/i=k+1\/i=k+2\/i=k+3\/i=k+4:=by omega
     all_goals simp <;> omega
   · rw[List.getElem?_append_right (by simp;omega),List.getElem?_drop];simp only[List.length_cons,List.length_nil];rw[if_neg (by omega),if_neg (by omega),if_neg (by omega),if_neg (by omega),if_neg (by omega)];congr 1;omega
theorem YQ (A C:List Value) (N:Nat) (h:A.length<=N):(A ++ C).take N=A ++ C.take (N - A.length):=by rw[List.take_append,List.take_of_length_le h]
theorem dN.set {w:World} {base g cap n:Nat} {l:List Ins} (h:dN w base (.slice (some ⟨g,0,none⟩) n cap) l) (i:Nat) (hi:i<l.length) (x:Ins) :
 dN (((((w.setCell ⟨g,i * 5,none⟩ (.int .u8 x.op)).setCell ⟨g,i * 5+1,none⟩ (.int .i64 x.a)).setCell ⟨g,i * 5+2,none⟩ (.int .i64 x.b)).setCell ⟨g,i * 5+3,none⟩ (.int .i64 x.c)).setCell ⟨g,i * 5+4,none⟩ (.int .i64 x.d)) base (.slice (some ⟨g,0,none⟩) n cap) (l.set i x) /\
 Mv (λb=>b=g) w (((((w.setCell ⟨g,i * 5,none⟩ (.int .u8 x.op)).setCell ⟨g,i * 5+1,none⟩ (.int .i64 x.a)).setCell ⟨g,i * 5+2,none⟩ (.int .i64 x.b)).setCell ⟨g,i * 5+3,none⟩ (.int .i64 x.c)).setCell ⟨g,i * 5+4,none⟩ (.int .i64 x.d)):=by
 constructor
 · rcases h.2 with⟨e,_⟩|⟨g',cap',cur,e,hb,hg,hnc,hcm,hcs,htake⟩
   · simp at e
   · simp only[Value.slice.injEq,Option.some.injEq,Addr.mk.injEq,and_true]at e;obtain⟨rfl,rfl,rfl⟩:=e;have h1:=block_setCell (p:=⟨g,i * 5,none⟩) hg rfl (.int .u8 x.op);have h2:=block_setCell (p:=⟨g,i * 5+1,none⟩) h1 rfl (.int .i64 x.a);have h3:=block_setCell (p:=⟨g,i * 5+2,none⟩) h2 rfl (.int .i64 x.b);have h4:=block_setCell (p:=⟨g,i * 5+3,none⟩) h3 rfl (.int .i64 x.c);have h5:=block_setCell (p:=⟨g,i * 5+4,none⟩) h4 rfl (.int .i64 x.d);have hfl:∀ x:Ins,(Ins.cells x).length=5:=λ_=>rfl;have hbound:i * 5+5<=cur.size:=by
      rw[hcs];have:=Nat.mul_le_mul_right 5 (show i+1<=cap by omega);omega
     refine⟨by rw[pY _ 5 hfl],.inr ⟨g,cap,_,by simp,hb,h5,by simpa using hnc,hcm,by simpa using hcs,?_⟩⟩;rw[X7 cur (i * 5) _ _ _ _ _ hbound,PL _ 5 hfl l i x hi];have hlt:i * 5+5<=l.length * 5:=by omega
     have ht1:(flat Ins.cells l).take (i * 5)=cur.toList.take (i * 5):=by
      rw[← htake,List.take_take,Nat.min_eq_left (by omega)]
     have ht2:(flat Ins.cells l).drop (i * 5+5)=(cur.toList.drop (i * 5+5)).take (l.length * 5 - (i * 5+5)):=by
      rw[← htake,List.drop_take]
     have hl1:(cur.toList.take (i * 5) ++ [Value.int .u8 x.op,.int .i64 x.a,.int .i64 x.b,.int .i64 x.c,.int .i64 x.d]).length=i * 5+5:=by simp;omega
     rw[ht1,ht2,List.length_set,YQ _ _ _ (by rw[hl1];exact hlt),hl1];rfl
 · exact(((((Mv.refl (λb=>b=g) w).setCell (p:=⟨g,i * 5,none⟩) (.inl rfl) _).setCell (p:=⟨g,i * 5+1,none⟩) (.inl rfl) _).setCell (p:=⟨g,i * 5+2,none⟩) (.inl rfl) _).setCell (p:=⟨g,i * 5+3,none⟩) (.inl rfl) _).setCell (p:=⟨g,i * 5+4,none⟩) (.inl rfl) _
theorem PM {w:World} {base g n cap:Nat} {l:List Ins} (h:dN w base (.slice (some ⟨g,0,none⟩) n cap) l) (i:Nat):w.frozen? ⟨g,i,none⟩=false:=by
 rcases h.2 with⟨e,_⟩|⟨g',cap',cur,e,hb,hg,_⟩
 · simp at e
 · simp only[Value.slice.injEq,Option.some.injEq,Addr.mk.injEq,and_true]at e;obtain⟨rfl,-,-⟩:=e;exact aD hg i
theorem PN (base g nc:Nat) (cs:List Ins) (ra:Option Addr) (rn rc i j:Nat) (w:World) (hrow:dN w base (.slice (some ⟨g,0,none⟩) cs.length nc) cs) (hi:i<cs.length) (hj:j<cs.length) (hij:i≠j) (hl:cs.length<=300000) :
 Calls Tryz.prog 111 #[.agg #[.slice (some ⟨g,0,none⟩) cs.length nc,.slice ra rn rc],.int .i64 i,.int .i64 j] w λe w'=>e = .returned (.tuple #[])/\dN w' base (.slice (some ⟨g,0,none⟩) cs.length nc) ((cs.set i (cs[i].j6 j)).set j (cs[j].j6 i))/\Mv (λb=>b=g) w w':=by
 have hgl:g<w.heap.size:=(hrow.lt g rfl).2;have lU:=ł (heap_alloc_new w (.cells #[.slice (some ⟨g,0,none⟩) cs.length nc,.slice ra rn rc] 45));have GQ:=ł (show Mv (λb=>b=g) w (w.alloc (.cells #[.slice (some ⟨g,0,none⟩) cs.length nc,.slice ra rn rc] 45))from(Mv.refl _ w).alloc _);have HR1:=ł (bM hrow ((Mv.refl (λ_=>False) w).alloc (.cells #[.slice (some ⟨g,0,none⟩) cs.length nc,.slice ra rn rc] 45)) (λ_ _ e=>e));have nK:=ł (show ∀ (x:Ins),(cs.set i x)[j]? = some cs[j]from λx=>by rw[List.getElem?_set_ne hij];exact List.getElem?_eq_getElem hj);have HII:=ł (show ∀ (h:i<cs.length),cs[i]'h=cs[i]'hi from λ_=>rfl);clear hrow
 go_enter Tryz.func111,Tryz.ntmps111
 go_wp2_with fail;have hl1:w.heap.size<(w.alloc (.cells #[.slice (some ⟨g,0,none⟩) cs.length nc,.slice ra rn rc] 45)).heap.size:=by simp
 have ade:g<(w.alloc (.cells #[.slice (some ⟨g,0,none⟩) cs.length nc,.slice ra rn rc] 45)).heap.size:=by simp;omega
 generalize w.alloc (.cells #[.slice (some ⟨g,0,none⟩) cs.length nc,.slice ra rn rc] 45)=w1 at *;have rU:=ł (λ(x:World) (hx:Mv (λb=>b=g) w1.drew x)=>(show x.heap[w.heap.size]? = _ from(hx.block w.heap.size hl1 (λe=>by omega)).trans lU.out));have hil:i<(cs).length:=hi;generalize hxi:(cs)[i]'hil=xx at *;obtain⟨xo,xa,xb,xc,xd⟩:=xx;have wX:=ł hxi;clear hxi;generalize zW:Ins.j6 ⟨xo,xa,xb,xc,xd⟩ j=yy at *;obtain⟨yo,ya,yb,yc,yd⟩:=yy;have GU:=ł (show(Ins.j6 ⟨xo,xa,xb,xc,xd⟩ j).val=Ins.val ⟨yo,ya,yb,yc,yd⟩from by rw[zW]);have gY:=ł zW;clear zW;refine rq (by kernel_rfl) 40 [some 18,some 19,some 20,some 21,some 22,some 23,some 24,some 25,some 26,some 27,some 28,none] [[],[0],[],[],[3],[],[4,5],[6],[],[7,8],[1,2,0,1,2,3,4,5,6,7,8,9],[10,9,9,0,1,2,3,4,5,6,7,8,9]] [[],[0],[],[],[3],[],[4,5],[6],[],[7,8],[1,2],[10,9]] [[0],[1],[2],[3],[4],[5],[6],[7],[8],[9],[10],[11]] [] rfl (by kernel_rfl) (Mv (λb=>b=g)) (λ_=>Mv.refl _ _) (λx y z h1 h2=>h1.trans h2 (λ_ e => .inl e)) (YC [some (.pointer (some ⟨w.heap.size,0,none⟩)),some (.slice (some ⟨g,0,none⟩) cs.length nc),some (.int .i64 i),some (.pointer (some ⟨w.heap.size,0,none⟩)),some (.slice (some ⟨g,0,none⟩) cs.length nc),some (.int .i64 i),some (.pointer (some ⟨g,i * 5,none⟩)),some (Ins.val ⟨xo,xa,xb,xc,xd⟩),some (.int .i64 j),some (Ins.val ⟨yo,ya,yb,yc,yd⟩),some (.pointer (some ⟨g,i * 5,none⟩)),none] 11 (λ_ x=>dN x base (.slice (some ⟨g,0,none⟩) cs.length nc) ((cs).set i ⟨yo,ya,yb,yc,yd⟩))) (λ_ x=>dN x base (.slice (some ⟨g,0,none⟩) cs.length nc) (cs)) [[11]] ?z0 ?steps ?done
 case z0=>intro z hz;exact bM HR1.out (Mv.refl (λ_=>False) _).drew (λ_ _ e=>e)
 case steps =>
  refine⟨?s0,?s1,?s2,?s3,?s4,?s5,?s6,?s7,?s8,?s9,?s10,?s11,trivial⟩
  case s0|s2|s3|s5|s8 =>
   intro vs x hx hY hZ;clear hY hZ;simp only[zR];go_simp;exact⟨Mv.refl _ _,by intros;assumption,iL (by decide) rfl rfl,by intros;assumption⟩
  case s1 =>
   intro vs x hx hY hZ;have h0:vs 0 = .pointer (some ⟨w.heap.size,0,none⟩):=cZ (hY 0 (by simp) (by simp)) (by decide) rfl;obtain⟨k0,k1⟩:=aC (rU.out x hx);clear hY hZ;simp only[zR,h0];go_simp;exact⟨Mv.refl _ _,by intros;assumption,iL (by decide) rfl rfl,by intros;assumption⟩
  case s4 =>
   intro vs x hx hY hZ;have h3:vs 3 = .pointer (some ⟨w.heap.size,0,none⟩):=cZ (hY 3 (by simp) (by simp)) (by decide) rfl;obtain⟨k0,k1⟩:=aC (rU.out x hx);clear hY hZ;simp only[zR,h3];go_simp;exact⟨Mv.refl _ _,by intros;assumption,iL (by decide) rfl rfl,by intros;assumption⟩
  case s6 =>
   intro vs x hx hY hZ;have h4:vs 4 = .slice (some ⟨g,0,none⟩) cs.length nc:=cZ (hY 4 (by simp) (by simp)) (by decide) rfl;have h5:vs 5 = .int .i64 i:=cZ (hY 5 (by simp) (by simp)) (by decide) rfl;clear hY hZ;simp only[zR,h4,h5];go_simp;exact⟨Mv.refl _ _,by intros;assumption,iL (by decide) rfl rfl,by intros;assumption⟩
  case s7 =>
   intro vs x hx hY hZ;have h6:vs 6 = .pointer (some ⟨g,i * 5,none⟩):=cZ (hY 6 (by simp) (by simp)) (by decide) rfl;obtain⟨⟨d0,d1,d2⟩,d3,d4,hgl⟩:=(iF (λ_=>rfl) (hZ 0 (by simp) (by simp)):ax 5 Ins.cells x (.slice (some ⟨g,0,none⟩) cs.length nc) (cs)).ins hil;simp only[Nat.zero_add,wX.out]at d0 d1 d2 d3 d4;clear hY hZ;simp only[zR,h6];go_simp;exact⟨Mv.refl _ _,by intros;assumption,iL (by decide) rfl rfl,by intros;assumption⟩
  case s9 =>
   intro vs x hx hY hZ;have h7:vs 7=Ins.val ⟨xo,xa,xb,xc,xd⟩:=cZ (hY 7 (by simp) (by simp)) (by decide) rfl;have h8:vs 8 = .int .i64 j:=cZ (hY 8 (by simp) (by simp)) (by decide) rfl;have HC:=ł (Iu ⟨xo,xa,xb,xc,xd⟩ j x);clear hY hZ;simp only[zR,h7,h8];go_simp;refine HC.out.mono ?_;rintro e y ⟨rfl,hg⟩;exact⟨_,rfl,hg.mono (λ_ e=>e.elim),(by first|exact λh=>bM h hg (λ_ _ e=>e)|(intros;exact bM (by assumption) hg (λ_ _ e=>e))),iL (by decide) rfl GU.out,by intros;rename_i hy;exact Fj _ _ (by first|assumption|(intro e;simp_all)) hy⟩
  case s10 =>
   intro vs x hx hY hZ;have h1:vs 1 = .slice (some ⟨g,0,none⟩) cs.length nc:=cZ (hY 1 (by simp) (by simp)) (by decide) rfl;have h2:vs 2 = .int .i64 i:=cZ (hY 2 (by simp) (by simp)) (by decide) rfl;clear hY hZ;simp only[zR,h1,h2];go_simp;exact⟨Mv.refl _ _,by intros;assumption,iL (by decide) rfl rfl,by intros;assumption⟩
  case s11 =>
   intro vs x hx hY hZ;have h10:vs 10 = .pointer (some ⟨g,i * 5,none⟩):=cZ (hY 10 (by simp) (by simp)) (by decide) rfl;have h9:vs 9=Ins.val ⟨yo,ya,yb,yc,yd⟩:=cZ (hY 9 (by simp) (by simp)) (by decide) rfl;have hst:=hZ 0 (by simp) (by simp);obtain⟨⟨d0,d1,d2⟩,d3,d4,hgl⟩:=(iF (λ_=>rfl) hst:ax 5 Ins.cells x (.slice (some ⟨g,0,none⟩) cs.length nc) (cs)).ins hil;simp only[Nat.zero_add]at d0 d1 d2 d3 d4;have hset:=dN.set hst i hil ⟨yo,ya,yb,yc,yd⟩;have HS:=ł hset;have zt:=PM hst;clear hY hZ hst hset;simp only[zR,h10,h9];go_simp;exact⟨HS.out.2,QV HS.out.1,by intros;rename_i hy;exact Fj _ _ (by first|assumption|(intro e;simp_all)) hy⟩
 case done =>
 intro vs w2 hxy hY _;have hk:=QW (hY 11 (by decide) rfl);simp only[List.length_cons,List.length_nil,Nat.zero_add,Nat.reduceAdd];rw[show List.range 12=[0,1,2,3,4,5,6,7,8,9,10,11]from rfl];simp only[zR];clear hY;have HR2:=ł hk;have dE:=ł (GQ.out.trans (Mv.trans ((Mv.refl (λb=>b=g) w1).drew) hxy (λb e => .inl e)) (λb e => .inl e));have Rv:=ł (rU.out w2 hxy);have hsz2:w.heap.size<w2.heap.size:=lt_of_block Rv.out;have hl2:(cs.set i ⟨yo,ya,yb,yc,yd⟩).length=cs.length:=List.length_set;have Me:=ł (show Ins.j6 (cs[i]'hi) j=⟨yo,ya,yb,yc,yd⟩from by rw[show cs[i]'hi=⟨xo,xa,xb,xc,xd⟩from wX.out];exact gY.out);have bI:=ł (nK.out ⟨yo,ya,yb,yc,yd⟩);clear hk hxy rU lU HR1 wX GU gY nK;generalize hcs2:cs.set i ⟨yo,ya,yb,yc,yd⟩=cs2 at *;have rX:=ł hcs2;clear hcs2;go_wp2_with fail;have rU:=ł (λ(x:World) (hx:Mv (λb=>b=g) w2.drew x)=>(show x.heap[w.heap.size]? = _ from(hx.block w.heap.size hsz2 (λe=>by omega)).trans Rv.out));have hjl:j<(cs2).length:=by omega
 generalize hxi:(cs2)[j]'hjl=xx at *;obtain⟨xo,xa,xb,xc,xd⟩:=xx;have wX:=ł hxi;clear hxi;generalize zW:Ins.j6 ⟨xo,xa,xb,xc,xd⟩ i=yy at *;obtain⟨yo,ya,yb,yc,yd⟩:=yy;have GU:=ł (show(Ins.j6 ⟨xo,xa,xb,xc,xd⟩ i).val=Ins.val ⟨yo,ya,yb,yc,yd⟩from by rw[zW]);have gY:=ł zW;clear zW;refine rq (by kernel_rfl) 40 [some 29,some 30,some 31,some 32,some 33,some 34,some 35,some 36,some 37,some 38,some 39,none] [[],[0],[],[],[3],[],[4,5],[6],[],[7,8],[1,2,0,1,2,3,4,5,6,7,8,9],[10,9,9,0,1,2,3,4,5,6,7,8,9]] [[],[0],[],[],[3],[],[4,5],[6],[],[7,8],[1,2],[10,9]] [[0],[1],[2],[3],[4],[5],[6],[7],[8],[9],[10],[11]] [] rfl (by kernel_rfl) (Mv (λb=>b=g)) (λ_=>Mv.refl _ _) (λx y z h1 h2=>h1.trans h2 (λ_ e => .inl e)) (YC [some (.pointer (some ⟨w.heap.size,0,none⟩)),some (.slice (some ⟨g,0,none⟩) cs.length nc),some (.int .i64 j),some (.pointer (some ⟨w.heap.size,0,none⟩)),some (.slice (some ⟨g,0,none⟩) cs.length nc),some (.int .i64 j),some (.pointer (some ⟨g,j * 5,none⟩)),some (Ins.val ⟨xo,xa,xb,xc,xd⟩),some (.int .i64 i),some (Ins.val ⟨yo,ya,yb,yc,yd⟩),some (.pointer (some ⟨g,j * 5,none⟩)),none] 11 (λ_ x=>dN x base (.slice (some ⟨g,0,none⟩) cs.length nc) ((cs2).set j ⟨yo,ya,yb,yc,yd⟩))) (λ_ x=>dN x base (.slice (some ⟨g,0,none⟩) cs.length nc) (cs2)) [[11]] ?z0 ?steps ?done
 case z0=>intro z hz;exact bM HR2.out (Mv.refl (λ_=>False) _).drew (λ_ _ e=>e)
 case steps =>
  refine⟨?s0,?s1,?s2,?s3,?s4,?s5,?s6,?s7,?s8,?s9,?s10,?s11,trivial⟩
  case s0|s2|s3|s5|s8 =>
   intro vs x hx hY hZ;clear hY hZ;simp only[zR];go_simp;exact⟨Mv.refl _ _,by intros;assumption,iL (by decide) rfl rfl,by intros;assumption⟩
  case s1 =>
   intro vs x hx hY hZ;have h0:vs 0 = .pointer (some ⟨w.heap.size,0,none⟩):=cZ (hY 0 (by simp) (by simp)) (by decide) rfl;obtain⟨k0,k1⟩:=aC (rU.out x hx);clear hY hZ;simp only[zR,h0];go_simp;exact⟨Mv.refl _ _,by intros;assumption,iL (by decide) rfl rfl,by intros;assumption⟩
  case s4 =>
   intro vs x hx hY hZ;have h3:vs 3 = .pointer (some ⟨w.heap.size,0,none⟩):=cZ (hY 3 (by simp) (by simp)) (by decide) rfl;obtain⟨k0,k1⟩:=aC (rU.out x hx);clear hY hZ;simp only[zR,h3];go_simp;exact⟨Mv.refl _ _,by intros;assumption,iL (by decide) rfl rfl,by intros;assumption⟩
  case s6 =>
   intro vs x hx hY hZ;have h4:vs 4 = .slice (some ⟨g,0,none⟩) cs.length nc:=cZ (hY 4 (by simp) (by simp)) (by decide) rfl;have h5:vs 5 = .int .i64 j:=cZ (hY 5 (by simp) (by simp)) (by decide) rfl;clear hY hZ;simp only[zR,h4,h5];go_simp;exact⟨Mv.refl _ _,by intros;assumption,iL (by decide) rfl rfl,by intros;assumption⟩
  case s7 =>
   intro vs x hx hY hZ;have h6:vs 6 = .pointer (some ⟨g,j * 5,none⟩):=cZ (hY 6 (by simp) (by simp)) (by decide) rfl;obtain⟨⟨d0,d1,d2⟩,d3,d4,hgl⟩:=(iF (λ_=>rfl) (hZ 0 (by simp) (by simp)):ax 5 Ins.cells x (.slice (some ⟨g,0,none⟩) cs.length nc) (cs2)).ins hjl;simp only[Nat.zero_add,wX.out]at d0 d1 d2 d3 d4;clear hY hZ;simp only[zR,h6];go_simp;exact⟨Mv.refl _ _,by intros;assumption,iL (by decide) rfl rfl,by intros;assumption⟩
  case s9 =>
   intro vs x hx hY hZ;have h7:vs 7=Ins.val ⟨xo,xa,xb,xc,xd⟩:=cZ (hY 7 (by simp) (by simp)) (by decide) rfl;have h8:vs 8 = .int .i64 i:=cZ (hY 8 (by simp) (by simp)) (by decide) rfl;have HC:=ł (Iu ⟨xo,xa,xb,xc,xd⟩ i x);clear hY hZ;simp only[zR,h7,h8];go_simp;refine HC.out.mono ?_;rintro e y ⟨rfl,hg⟩;exact⟨_,rfl,hg.mono (λ_ e=>e.elim),(by first|exact λh=>bM h hg (λ_ _ e=>e)|(intros;exact bM (by assumption) hg (λ_ _ e=>e))),iL (by decide) rfl GU.out,by intros;rename_i hy;exact Fj _ _ (by first|assumption|(intro e;simp_all)) hy⟩
  case s10 =>
   intro vs x hx hY hZ;have h1:vs 1 = .slice (some ⟨g,0,none⟩) cs.length nc:=cZ (hY 1 (by simp) (by simp)) (by decide) rfl;have h2:vs 2 = .int .i64 j:=cZ (hY 2 (by simp) (by simp)) (by decide) rfl;clear hY hZ;simp only[zR,h1,h2];go_simp;exact⟨Mv.refl _ _,by intros;assumption,iL (by decide) rfl rfl,by intros;assumption⟩
  case s11 =>
   intro vs x hx hY hZ;have h10:vs 10 = .pointer (some ⟨g,j * 5,none⟩):=cZ (hY 10 (by simp) (by simp)) (by decide) rfl;have h9:vs 9=Ins.val ⟨yo,ya,yb,yc,yd⟩:=cZ (hY 9 (by simp) (by simp)) (by decide) rfl;have hst:=hZ 0 (by simp) (by simp);obtain⟨⟨d0,d1,d2⟩,d3,d4,hgl⟩:=(iF (λ_=>rfl) hst:ax 5 Ins.cells x (.slice (some ⟨g,0,none⟩) cs.length nc) (cs2)).ins hjl;simp only[Nat.zero_add]at d0 d1 d2 d3 d4;have hset:=dN.set hst j hjl ⟨yo,ya,yb,yc,yd⟩;have HS:=ł hset;have zt:=PM hst;clear hY hZ hst hset;simp only[zR,h10,h9];go_simp;exact⟨HS.out.2,QV HS.out.1,by intros;rename_i hy;exact Fj _ _ (by first|assumption|(intro e;simp_all)) hy⟩
 case done =>
 intro vs w3 hxy hY _;have hk:=QW (hY 11 (by decide) rfl);simp only[List.length_cons,List.length_nil,Nat.zero_add,Nat.reduceAdd];rw[show List.range 12=[0,1,2,3,4,5,6,7,8,9,10,11]from rfl];simp only[zR];clear hY;have aQ:=ł (dE.out.trans (Mv.trans ((Mv.refl (λb=>b=g) w2).drew) hxy (λb e => .inl e)) (λb e => .inl e));have gU:=ł (show dN w3 base (.slice (some ⟨g,0,none⟩) cs.length nc) ((cs.set i (cs[i].j6 j)).set j (cs[j].j6 i))from by
  have e1:cs[j]'hj=⟨xo,xa,xb,xc,xd⟩:=by
   have h1:=bI.out;rw[List.getElem?_eq_getElem hjl]at h1;rw[← wX.out];exact(Option.some.inj h1).symm
  rw[Me.out,rX.out,e1,gY.out];exact hk)
 clear hk hxy;go_wp2_with fail
 go_end0
 exact⟨rfl,gU.out,aQ.out⟩
end Go.Proofs.YtnobahchcongnaaGreat
