import Derived.Test.YtnobahchcongnaaGreatF18
set_option linter.unusedSimpArgs false
set_option linter.unusedVariables false
set_option maxRecDepth 100000
set_option maxHeartbeats 25600000
namespace Go.Proofs.YtnobahchcongnaaGreat
open Go.RowKit Go.Instr
attribute [local go_sem ↓] lu
theorem Tryz.ZA:(Tryz.prog.info? 129).map (λi=>(i.zero,i.size,i.bytes))=some (some (.agg #[.int .i64 0,.string ⟨#[]⟩]),2,24):=by kernel_rfl
theorem Tryz.ZB:Elem Tryz.prog 43 129 2 24:=Elem.of Tryz.underlying43 Tryz.ZA rfl (by decide) (by decide)
abbrev rE (w:World) (base:Nat) (v:Value) (l:List cO):Prop:=w.ownsRow base 129 2 v l.length (flat cO.cells l)
theorem Qn {l:List cO} : ∀ x∈l,∀ u∈x.cells,u.oneCell'=true:=by
 intro x _ u hu;simp[cO.cells]at hu;rcases hu with rfl|rfl <;> rfl
theorem Ka {w:World} {X:Nat} {a b:Value} {t:TypeId} (h:w.heap[X]? = some (.cells #[a,b] t (0,0))) (p:Value) :
 (w.setCell ⟨X,0,none⟩ p).heap[X]? = some (.cells #[p,b] t (0,0))/\Mv (λb=>b=X) w (w.setCell ⟨X,0,none⟩ p) :=
 ⟨by have h1:=block_setCell (p:=⟨X,0,none⟩) h rfl p;simpa using h1,(Mv.refl (λb=>b=X) w).setCell (.inl rfl) _⟩
theorem Qo {w:World} {X:Nat} {a b:Value} {t:TypeId} (h:w.heap[X]? = some (.cells #[a,b] t (0,0))) (p:Value) :
 (w.setCell ⟨X,1,none⟩ p).heap[X]? = some (.cells #[a,p] t (0,0))/\Mv (λb=>b=X) w (w.setCell ⟨X,1,none⟩ p) :=
 ⟨by have h1:=block_setCell (p:=⟨X,1,none⟩) h rfl p;simpa using h1,(Mv.refl (λb=>b=X) w).setCell (.inl rfl) _⟩
structure ji (w:World) (x:World) (cv rv:Value) (code:List Ins) (refs:List cO):Prop where
 g:Grow w x
 blk:x.heap[w.heap.size+1]? = some (.cells #[cv,rv] 45 (0,0))
 res:x.heap[w.heap.size]? = some (.cells #[.slice none 0 0,.slice none 0 0] 45 (0,0))
 row:dN x w.heap.size cv code
 kV:rE x w.heap.size rv refs
theorem ji.grow {w x y:World} {cv rv:Value} {code:List Ins} {refs:List cO} (h:ji w x cv rv code refs) (hm:Grow x y):ji w y cv rv code refs :=
 ⟨gtr h.g hm,ai h.blk hm,ai h.res hm,bM h.row hm (λ_ _ e=>e),bM h.kV hm (λ_ _ e=>e)⟩
theorem ji.drew {w x:World} {cv rv:Value} {code:List Ins} {refs:List cO} (h:ji w x cv rv code refs):ji w x.drew cv rv code refs:=⟨Mv.drew h.g,h.blk,h.res,h.row,h.kV⟩
theorem eO {α:Type} {f:α->List Value} {n e base:Nat} {w:World} {v:Value} {l:List α} {g:Nat} {cs:Array Value} {t:TypeId} {z:Nat × Nat} (h:w.ownsRow base e n v l.length (flat f l)) (hb:w.heap[g]? = some (.cells cs t z)) (ht:t≠e):v.ownBlock≠some g:=by
 intro e';rcases h.2 with⟨rfl,_⟩|⟨g',cap,cur,rfl,_,hg,_⟩
 · simp[Value.ownBlock]at e'
 · simp[Value.ownBlock]at e';subst e';rw[hb]at hg;simp only[Option.some.injEq,Obj.cells.injEq]at hg;exact ht hg.2.1
def y9 (w y:World) (cv rv:Value) (refs:List cO):Prop:=Grow w y/\y.heap[w.heap.size+1]? = some (.cells #[cv,rv] 45 (0,0))/\y.heap[w.heap.size]? = some (.cells #[.slice none 0 0,.slice none 0 0] 45 (0,0))/\rE y w.heap.size rv refs
theorem ji.app {w x y:World} {cv rv:Value} {code:List Ins} {refs:List cO} (h:ji w x cv rv code refs) (hm:Mv (λb=>cv.ownBlock=some b) x y):y9 w y cv rv refs :=
 ⟨h.g.trans hm (λb e => .inr (h.row.lt b e).1),by rw[hm.block _ (lt_of_block h.blk) (λe=>eO h.row h.blk (by decide) e)];exact h.blk,by rw[hm.block _ (lt_of_block h.res) (λe=>eO h.row h.res (by decide) e)];exact h.res,bM h.kV hm (λg hg e=>Ev h.kV h.row (by decide) g hg e)⟩
theorem y9.grow {w x y:World} {cv rv:Value} {refs:List cO} (h:y9 w x cv rv refs) (hm:Grow x y):y9 w y cv rv refs:=⟨gtr h.1 hm,ai h.2.1 hm,ai h.2.2.1 hm,bM h.2.2.2 hm (λ_ _ e=>e)⟩
theorem y9.store {w y:World} {cv rv v:Value} {code:List Ins} {refs:List cO} (h:y9 w y cv rv refs) (hr:dN y w.heap.size v code):ji w (y.setCell ⟨w.heap.size+1,0,none⟩ v) v rv code refs:=by
 obtain⟨h1,h2,h3,h4⟩:=h;obtain⟨hb,hm⟩:=Ka h2 v;exact⟨h1.trans hm (λb e => .inr (by omega)),hb,by rw[hm.block _ (lt_of_block h3) (λe=>by omega)];exact h3,bM hr hm (λg hg e=>by subst e;exact eO hr h2 (by decide) hg),bM h4 hm (λg hg e=>by subst e;exact eO h4 h2 (by decide) hg)⟩
theorem ji.Ru {w x y:World} {cv rv v:Value} {code:List Ins} {refs refs':List cO} (h:ji w x cv rv code refs) (hm:Mv (λb=>rv.ownBlock=some b) x y) (hr:rE y w.heap.size v refs'):ji w (y.setCell ⟨w.heap.size+1,1,none⟩ v) cv v code refs':=by
 have h2:y.heap[w.heap.size+1]? = some (.cells #[cv,rv] 45 (0,0)):=by rw[hm.block _ (lt_of_block h.blk) (λe=>eO h.kV h.blk (by decide) e)];exact h.blk
 have h3:y.heap[w.heap.size]? = some (.cells #[.slice none 0 0,.slice none 0 0] 45 (0,0)):=by rw[hm.block _ (lt_of_block h.res) (λe=>eO h.kV h.res (by decide) e)];exact h.res
 have h4:dN y w.heap.size cv code:=bM h.row hm (λg hg e=>Ev h.row h.kV (by decide) g hg e);obtain⟨hb,hm'⟩:=Qo h2 v;exact⟨(h.g.trans hm (λb e => .inr (h.kV.lt b e).1)).trans hm' (λb e => .inr (by omega)),hb,by rw[hm'.block _ (lt_of_block h3) (λe=>by omega)];exact h3,bM h4 hm' (λg hg e=>by subst e;exact eO h4 h2 (by decide) hg),bM hr hm' (λg hg e=>by subst e;exact eO hr h2 (by decide) hg)⟩
def YJ (X XB:Nat) (cv rv qv:Value) (n:Int) (sh:List Ins) (w:World) (uK:List Ins) (refs:List cO):Nat->List Value->World->Prop
 |0,[v],_=>v = .pointer (some ⟨X,0,none⟩)
 |1,[v],_=>v=cv
 |2,[v],_=>v = .pointer (some ⟨XB,0,none⟩)
 |3,[v],_=>v=qv
 |4,[v],_=>v = .int .i64 n
 |5,[v],x=>∃ a c,v = .slice a sh.length c/\ax 5 Ins.cells x (.slice a sh.length c) sh
 |6,[v],x=>∃ a c,v = .slice a uK.length c/\dN x w.heap.size (.slice a uK.length c) uK/\y9 w x cv rv refs
 |7,[v],_=>v = .pointer (some ⟨X,0,none⟩)
 |8,_,x=>∃ a c,ji w x (.slice a uK.length c) rv uK refs
 |_,_,_=>True
section
variable {X XB:Nat} {cv rv qv:Value} {n:Int} {sh:List Ins} {w x y:World} {uK:List Ins} {refs:List cO}
theorem YJ.grow (h:Grow x y):∀ j l,YJ X XB cv rv qv n sh w uK refs j l x->YJ X XB cv rv qv n sh w uK refs j l y:=by
 intro j l hy;unfold YJ at hy ⊢;split <;> first
  |(obtain⟨a,c,h1,h2⟩:=hy;exact⟨a,c,h1,h2.later h⟩)
  |(obtain⟨a,c,h1,h2,h3⟩:=hy;exact⟨a,c,h1,bM h2 h (λ_ _ e=>e),h3.grow h⟩)
  |(obtain⟨a,c,h1⟩:=hy;exact⟨a,c,h1.grow h⟩)
  |exact hy
  |trivial
theorem YJ.keep:∀ j l,¬ j=5->¬ j=6->¬ j=8->YJ X XB cv rv qv n sh w uK refs j l x->YJ X XB cv rv qv n sh w uK refs j l y:=by
 intro j l h5 h6 h8 hy;unfold YJ at hy ⊢;split <;> first
  |exact absurd rfl h5
  |exact absurd rfl h6
  |exact absurd rfl h8
  |exact hy
  |trivial
end
theorem I5 (p q:aI):(xS p q).code=p.code ++ dG q.code p.code.length:=rfl
theorem I6 (p q:aI):(xS p q).refs=p.refs ++ q.refs.map λr=>r.shift p.code.length:=rfl
theorem Oi (l:List aI) (k:Nat) (h:k<l.length):aP (l.take (k+1))=xS (aP (l.take k)) l[k]:=by
 rw[List.take_succ_eq_append_getElem h];simp only[aP,List.foldl_append,List.foldl_cons,List.foldl_nil]
theorem Qp (v:Value) (x:cO) (xs:List cO) (base:Nat) (w:World) (hrow:rE w base v xs) (hb:base<=w.heap.size) (hlen:xs.length<=900000) :
 ∃ a' c' w2,(rG Tryz.prog 43 43 v (.slice (some ⟨w.heap.size,0,none⟩) 1 1) (w.alloc (.cells #[.int .i64 x.at',.string x.name] 129)) /\
  nV Tryz.prog 43 43 v (.slice (some ⟨w.heap.size,0,none⟩) 1 1) (w.alloc (.cells #[.int .i64 x.at',.string x.name] 129)) = .slice a' (xs.length+1) c'/\appW Tryz.prog 43 43 v (.slice (some ⟨w.heap.size,0,none⟩) 1 1) (w.alloc (.cells #[.int .i64 x.at',.string x.name] 129))=w2) /\
  rE w2 base (.slice a' (xs.length+1) c') (xs ++ [x])/\Mv (λb=>v.ownBlock=some b) w w2:=by
 have hs:ax 2 cO.cells (w.alloc (.cells #[.int .i64 x.at',.string x.name] 129)) (.slice (some ⟨w.heap.size,0,none⟩) 1 1) [x]:=ax.bN (f:=cO.cells) (l:=[x]) (λ_=>rfl) (heap_alloc_new w _) (by simp[flat,cO.cells]) (by simp);obtain⟨a',c',w2,⟨hok,hv,hw⟩,hrow2,bK,hnew⟩:=oZ Tryz.ZB (f:=cO.cells) (λ_=>rfl) v _ xs [x] base _ (bM hrow (((Mv.refl (λ_=>False) w).alloc _)) (λ_ _ e=>e)) hs Qn (by simp;omega) (by simp;omega);exact⟨a',c',w2,⟨hok,hv,hw⟩,hrow2,((Mv.refl _ w).alloc _).trans bK (λx e => .inl e)⟩
def bH (l:List aI):Nat:=(l.map λp=>p.code.length).sum
def bX (l:List aI):Nat:=(l.map λp=>p.refs.length).sum
theorem iH (l:List aI):(aP l).code.length=bH l/\(aP l).refs.length=bX l:=by
 have h:∀ (l:List aI) (p:aI),(l.foldl xS p).code.length=p.code.length+bH l/\(l.foldl xS p).refs.length=p.refs.length+bX l:=by
  intro l
  induction l with
  |nil=>intro p;simp[bH,bX]
  |cons q l ih =>
   intro p;simp only[List.foldl_cons];rw[(ih _).1,(ih _).2,I5,I6];simp[bH,bX,xI];omega
 have:=h l fP
 simpa[aP,fP]using this
theorem Oj (l:List aI) (k:Nat) (h:k<l.length):bH (l.take k)+l[k].code.length<=bH l/\bX (l.take k)+l[k].refs.length<=bX l:=by
 have e:l.take k ++ l[k] :: l.drop (k+1)=l:=by rw[← List.drop_eq_getElem_cons h,List.take_append_drop]
 have h1:bH (l.take k ++ l[k] :: l.drop (k+1))=bH (l.take k)+(l[k].code.length+bH (l.drop (k+1))):=by simp only[bH,List.map_append,List.map_cons,List.sum_append,List.sum_cons]
 have h2:bX (l.take k ++ l[k] :: l.drop (k+1))=bX (l.take k)+(l[k].refs.length+bX (l.drop (k+1))):=by simp only[bX,List.map_append,List.map_cons,List.sum_append,List.sum_cons]
 rw[e]at h1 h2;omega
theorem xJ (v:Value) (ps:List aI) (w:World) (h:iw w v ps) (hlc:bH ps<=200000) (hlr:bX ps<=200000) (hlp:ps.length<=200000) :
 Calls Tryz.prog 59 #[v] w λe w'=>∃ v',e = .returned v'/\qg w.heap.size w' v' (aP ps)/\Grow w w':=by
 obtain⟨pa,pc,rfl,-,-⟩:=h.form;have pQ:=ł h;have mX:=ł (show ji w ((w.alloc (.cells #[.slice none 0 0,.slice none 0 0] 45)).alloc (.cells #[.slice none 0 0,.slice none 0 0] 45)) (.slice none 0 0) (.slice none 0 0) [] []from
  ⟨((Mv.refl _ w).alloc _).alloc _,by have:=heap_alloc_new (w.alloc (.cells #[.slice none 0 0,.slice none 0 0] 45)) (.cells #[.slice none 0 0,.slice none 0 0] 45);rwa[World.size_alloc]at this,aO (heap_alloc_new w _) _,World.ownsRow_nil _ _ _ _,World.ownsRow_nil _ _ _ _⟩)
 clear h
 go_enter Tryz.func59,Tryz.ntmps59
 go_wp2_with fail;generalize (w.alloc (.cells #[.slice none 0 0,.slice none 0 0] 45)).alloc (.cells #[.slice none 0 0,.slice none 0 0] 45)=w1 at *
 go_loopw [11] (λt wr=>∃ (k:Nat) (cv rv:Value),t = .int .i64 k/\k<=ps.length/\ji w wr cv rv (aP (ps.take k)).code (aP (ps.take k)).refs) (λt _=>ps.length - (intOf t).toNat)
 case atStart=>exact⟨0,_,_,rfl,Nat.zero_le _,mX.out⟩
 obtain⟨k,cv,rv,rfl,hk,hst⟩:=hrel;have DT:=ł (iH (ps.take k));have tT:=ł (λhlt=>Oj ps k hlt);have qV:=ł (λhlt=>Oi ps k hlt);have Mj:=ł (λ(e:k=ps.length)=>show aP (ps.take k)=aP ps from by rw[e,List.take_length]);generalize aP (ps.take k)=pk at *;obtain⟨cs,rs⟩:=pk;obtain⟨na,nc,rV⟩:=gy hst.row;obtain⟨ma,mc,hmv⟩:=gy hst.kV;subst rV hmv;simp only at hst;have HST:=ł hst;clear hst mX;by_cases hlt:k<ps.length
 · have hq:∃ qa jk ra rcc b off cap',Value.slice pa ps.length pc = .slice (some ⟨b,off,none⟩) ps.length cap'/\(wr.cell? ⟨b,off+k * 2,none⟩=some (.slice qa ps[k].code.length jk)/\wr.cell? ⟨b,off+k * 2+1,none⟩=some (.slice ra ps[k].refs.length rcc))/\ax 5 Ins.cells w (.slice qa ps[k].code.length jk) ps[k].code/\ax 2 cO.cells w (.slice ra ps[k].refs.length rcc) ps[k].refs:=by
    obtain⟨vs,h1,h2,h3⟩:=pQ.out;have hvk:k<vs.length:=by omega
    obtain⟨b,off,cap',e,_,hc⟩:=(h2.later HST.out.g).at hvk;obtain⟨qa,jk,ra,rcc,hv,hr1,hr2⟩:=h3 k hvk hlt;simp only[Value.agg.injEq,Array.mk.injEq,List.cons.injEq,and_true]at hv;obtain⟨e1,e2⟩:=hv;refine⟨qa,jk,ra,rcc,b,off,cap',by rw[e,h1],⟨?_,?_⟩,hr1,hr2⟩
    · have:=hc 0 _ rfl;rw[← e1];simpa[rD]using this
    · have:=hc 1 _ rfl;rw[← e2];simpa[rD]using this
   obtain⟨qa,jk,ra,rcc,b,off,cap',e,⟨c0,c1⟩,hr1,hr2⟩:=hq;simp only[Value.slice.injEq,true_and]at e;obtain⟨rfl,rfl⟩:=e;have hbl:b<wr.heap.size:=World.block_lt_of_cell? wr _ c0;have ht:=tT.out hlt;have hj:=DT.out;have HJ2:=ł (qV.out hlt);generalize ps[k]=q at *;obtain⟨qc,qr⟩:=q;simp only at hr1 hr2 ht hj c0 c1;have pK:qc.length<=300000:=by omega
   have _T:cs.length+qc.length<=200000:=by omega
   have _U:rs.length+qr.length<=200000:=by omega
   have HR1:=ł hr1;have HR2:=ł hr2;have hg2:Grow wr (wr.alloc (.cells #[.slice qa qc.length jk,.slice ra qr.length rcc] 45)):=(Mv.refl _ wr).alloc _;have aY:=ł (HST.out.grow hg2);have dV:=ł (heap_alloc_new wr (.cells #[.slice qa qc.length jk,.slice ra qr.length rcc] 45));obtain⟨k0,k1⟩:=aC HST.out.blk;have hlX:=lt_of_block HST.out.blk;have Mk:w.heap.size+1≠wr.heap.size:=by omega
   have hor:∀ g,Value.ownBlock (.slice na cs.length nc)=some g->g<wr.heap.size:=λg hg=>(HST.out.row.lt g hg).2;have yC:=ł hor;have eB:=ł hg2;clear hg2 hor hr1 hr2 ht hj qV tT DT HST;go_wp2_with fail;clear k0 k1 c0 c1;have zb:wr.heap.size<(wr.alloc (.cells #[.slice qa qc.length jk,.slice ra qr.length rcc] 45)).heap.size:=by simp
   generalize wr.alloc (.cells #[.slice qa qc.length jk,.slice ra qr.length rcc] 45)=w2 at *;have HST:=aY;have lT:=ł (λ(x:World) (hx:Mv (λb=>b=w.heap.size+1\/Value.ownBlock (.slice na cs.length nc)=some b) w2.drew x)=>(show x.heap[wr.heap.size]? = _ from(hx.block wr.heap.size zb (λe=>by rcases e with e|e;exact Mk e.symm;have:=yC.out _ e;omega)).trans dV.out));have DU:=ł (λ(x:World) (hx:Grow w x)=>HR1.out.later hx);refine rq (by kernel_rfl) 48 [some 18,some 19,some 20,some 21,some 22,some 23,some 24,some 25,none] [[],[0],[],[2],[],[3,4],[1,5,5],[0,1,2,3,4,5,6],[7,6,6,0,1,2,3,4,5,6]] [[],[0],[],[2],[],[3,4],[1,5],[],[7,6]] [[0],[1],[2],[3],[4],[5],[6],[7],[8]] [[],[],[],[],[],[6],[8],[],[]] rfl (by kernel_rfl) (Mv (λb=>b=w.heap.size+1\/Value.ownBlock (.slice na cs.length nc)=some b)) (λ_=>Mv.refl _ _) (λx y z h1 h2=>h1.trans h2 (λ_ e => .inl e)) (YJ (w.heap.size+1) wr.heap.size (.slice na cs.length nc) (.slice ma rs.length mc) (.slice qa qc.length jk) cs.length (dG qc cs.length) w (cs ++ dG qc cs.length) rs) (λ_ x=>ji w x (.slice na cs.length nc) (.slice ma rs.length mc) cs rs) [[6]] ?z0 ?steps ?done
   case z0=>intro z hz;exact HST.out.drew
   case steps =>
    refine⟨?s0,?s1,?s2,?s3,?s4,?s5,?s6,?s7,?s8,trivial⟩
    case s0|s2|s4 =>
     intro vs x hx hY hZ;clear hY hZ;simp only[zR];go_simp;exact⟨Mv.refl _ _,by intros;assumption,rfl,by intros;assumption⟩
    case s1 =>
     intro vs x hx hY hZ;have h0:vs 0 = .pointer (some ⟨w.heap.size+1,0,none⟩):=hY 0 (by simp) (by simp);obtain⟨k0,k1⟩:=aC (hZ 0 (by simp) (by simp)).blk;clear hY hZ;simp only[zR,h0];go_simp;exact⟨Mv.refl _ _,by intros;assumption,rfl,by intros;assumption⟩
    case s3 =>
     intro vs x hx hY hZ;have h2:vs 2 = .pointer (some ⟨wr.heap.size,0,none⟩):=hY 2 (by simp) (by simp);obtain⟨k0,k1⟩:=aC (lT.out x hx);clear hY hZ;simp only[zR,h2];go_simp;exact⟨Mv.refl _ _,by intros;assumption,rfl,by intros;assumption⟩
    case s5 =>
     intro vs x hx hY hZ;have h3:vs 3 = .slice qa qc.length jk:=hY 3 (by simp) (by simp);have h4:vs 4 = .int .i64 cs.length:=hY 4 (by simp) (by simp);have HC:=ł (Jr (.slice qa qc.length jk) qc cs.length x (DU.out x (hZ 0 (by simp) (by simp)).g) pK);clear hY hZ;simp only[zR,h3,h4];go_simp;refine HC.out.mono ?_;rintro e y ⟨v,rfl,hrs⟩;obtain⟨va,vc,rfl⟩:=gy hrs.row;have hgr:=hrs.g;exact⟨_,rfl,hgr.mono (λ_ e=>e.elim),(by first|exact λh=>ji.grow h hgr|(intros;exact ji.grow (by assumption) hgr)),⟨va,vc,rfl,iF (λ_=>rfl) hrs.row⟩,by intros;exact YJ.grow hgr _ _ (by assumption)⟩
    case s6 =>
     intro vs x hx hY hZ;have h1:vs 1 = .slice na cs.length nc:=hY 1 (by simp) (by simp);obtain⟨sa,sc,(h5:vs 5=_),hrow⟩:=hY 5 (by simp) (by simp);have hst:=hZ 0 (by simp) (by simp);obtain⟨a',c',w2,⟨hok,hv,hw⟩,hrow2,bK,hown2⟩:=oZ Tryz.Fp (f:=Ins.cells) (λ_=>rfl) _ _ cs _ _ x hst.row hrow Fq hst.g.size (by rw[xI];omega);have HJ:=ł (hst.app bK);have HR2:=ł hrow2;have dE:=ł bK;clear hY hZ hst hrow hrow2 bK hown2;simp only[zR,h1,h5];go_simp;exact⟨dE.out.mono (λ_ e => .inl (.inr e)),⟨a',c',by rw[List.length_append];rfl,by have:=HR2.out;rw[← List.length_append]at this;exact this,HJ.out⟩,λj l=>by intros;refine YJ.keep j l ?_ ?_ ?_ (by assumption) <;> (intro e;subst e;first|contradiction|simp_all)⟩
    case s7 =>
     intro vs x hx hY hZ;clear hY hZ;simp only[zR];go_simp;exact⟨Mv.refl _ _,rfl,by intros;assumption⟩
    case s8 =>
     intro vs x hx hY hZ;have h7:vs 7 = .pointer (some ⟨w.heap.size+1,0,none⟩):=hY 7 (by simp) (by simp);obtain⟨a',c',(h6:vs 6=_),hrow,hj⟩:=hY 6 (by simp) (by simp);rw[List.length_append]at h6 hrow;have HS:=ł (hj.store hrow);obtain⟨k0,k1⟩:=aC hj.2.1;have zt:=aD hj.2.1;have dE:=ł (Ka hj.2.1 (vs 6));rw[h6]at dE;clear hY hZ hrow hj;simp only[zR,h7,h6];go_simp;exact⟨dE.out.2.mono (λ_ e => .inl (.inl e)),⟨a',c',by rw[List.length_append];exact HS.out⟩,λj l=>by intros;refine YJ.keep j l ?_ ?_ ?_ (by assumption) <;> (intro e;subst e;first|contradiction|simp_all)⟩
   case done =>
   intro vs wy hxy hY _;obtain⟨a',c',hst'⟩:=hY 8 (by decide) rfl;simp only[List.length_cons,List.length_nil,Nat.zero_add,Nat.reduceAdd];rw[show List.range 9=[0,1,2,3,4,5,6,7,8]from rfl];simp only[zR];clear hY;have bS:=ł (lT.out wy hxy);have oF:=ł hst';clear hst' hxy lT HST DU dV aY yC eB;have hc2:(cs ++ dG qc cs.length).length=cs.length+qc.length:=by rw[List.length_append,xI]
   generalize hcc:cs ++ dG qc cs.length=c2 at *;have nJ:=ł hcc;have rX:=ł hc2;clear hcc hc2;obtain⟨k0,k1⟩:=aC bS.out;have hlB:=lt_of_block bS.out;go_wp2_with fail;clear k0 k1 hlB;obtain⟨wo,hwo⟩:∃ wo:World,wo=wy:=⟨_,rfl⟩;subst hwo
   go_loopw [29] (λt wr2=>∃ (j:Nat) (rv':Value),t = .int .i64 j/\j<=qr.length/\ji w wr2 (.slice a' c2.length c') rv' c2 (rs ++ (qr.take j).map λr=>r.shift cs.length)) (λt _=>qr.length - (intOf t).toNat)
   case atStart=>exact⟨0,_,rfl,Nat.zero_le _,by simpa using oF.out⟩
   obtain⟨j,rv',rfl,hjl,hst⟩:=hrel;have ve:=ł (λhlt:j<qr.length=>show rs ++ (qr.take (j+1)).map (λr=>r.shift cs.length)=(rs ++ (qr.take j).map λr=>r.shift cs.length) ++ [qr[j].shift cs.length]from by
    rw[List.take_succ_eq_append_getElem hlt,List.map_append,List.append_assoc];rfl)
   have zP:=ł (λ(e:j=qr.length)=>show rs ++ (qr.take j).map (λr=>r.shift cs.length)=rs ++ qr.map λr=>r.shift cs.length from by rw[e,List.take_length]);have hrl:(rs ++ (qr.take j).map λr=>r.shift cs.length).length<=200000:=by simp;omega
   generalize (rs ++ (qr.take j).map λr=>r.shift cs.length)=r2 at *;obtain⟨dW,dX,tV⟩:=gy hst.kV;subst tV;have nK:=ł hst;clear hst;by_cases hjt:j<qr.length
   · obtain⟨b2,_V,cap2,e,_,zf⟩:=(HR2.out.later nK.out.g).at hjt;simp only[Value.slice.injEq,true_and]at e;obtain⟨rfl,rfl⟩:=e;have c0:=zf 0 _ rfl;have c1:=zf 1 _ rfl;have AY:=ł (ve.out hjt);have DV:=ł (show qr[j].shift cs.length=⟨wrap64 (qr[j].at'+cs.length),qr[j].name⟩from rfl);generalize qr[j]=r at *;obtain⟨r0,r1⟩:=r;simp only[Nat.add_zero]at c0 c1 DV;have hb2:b2<wr.heap.size:=World.block_lt_of_cell? _ _ c0;clear zf ve;have gW:=ł (nK.out.grow ((Mv.refl _ wr).alloc (.cells #[.int .i64 r0,.string r1] 129)));obtain⟨a4,c4,w4,⟨hok,hv,hw⟩,hrow4,nX⟩:=Qp _ ⟨wrap64 (r0+cs.length),r1⟩ r2 _ _ gW.out.kV gW.out.g.size (by omega);have pM:=ł (gW.out.Ru nX hrow4);have h2:w4.heap[w.heap.size+1]? = some (.cells #[.slice a' c2.length c',.slice dW r2.length dX] 45 (0,0)):=by rw[nX.block _ (lt_of_block gW.out.blk) (λe=>eO gW.out.kV gW.out.blk (by decide) e)];exact gW.out.blk
     obtain⟨k0,k1⟩:=aC nK.out.blk;obtain⟨m0,m1⟩:=aC h2;have zt:=aD h2;have _W:=lt_of_block nK.out.blk;rw[World.size_alloc]at hok hv hw;clear hrow4 nX h2 nK;go_wp2_with fail
     go_roundw
     case rel=>exact⟨j+1,_,by go_num,by omega,by rw[AY.out,DV.out];simpa using pM.out⟩
     case measure=>(simp[intOf] <;> omega)
   · have HF:=ł (zP.out (by omega));go_wp2_with fail
     go_roundw
     case rel=>exact⟨k+1,_,_,by go_num,by omega,by rw[HJ2.out,I5,I6];simp only;rw[nJ.out,← HF.out];exact nK.out⟩
     case measure=>(simp[intOf] <;> omega)
 · have HE:=ł (Mj.out (by omega));obtain⟨k0,k1⟩:=aC HST.out.blk;obtain⟨m0,m1⟩:=aC HST.out.res;have hl1:=lt_of_block HST.out.blk;have hl2:=lt_of_block HST.out.res;have zt:=aD HST.out.res;obtain⟨hs,hm⟩:=set2 HST.out.res (.slice na cs.length nc) (.slice ma rs.length mc);have HS:=ł hs;have aQ:=ł (show Grow w _ from Mv.trans HST.out.g hm (λb e => .inr (by omega)));have Bn:=ł (show qg w.heap.size _ (.agg #[.slice na cs.length nc,.slice ma rs.length mc]) (aP ps)from by
    rw[← HE.out];exact⟨na,nc,ma,mc,rfl,bM HST.out.row hm (λg hg e=>by subst e;exact eO HST.out.row HST.out.res (by decide) hg),(iF (λ_=>rfl) (bM HST.out.kV hm (λg hg e=>by subst e;exact eO HST.out.kV HST.out.res (by decide) hg)))⟩)
   clear hs hm HST;go_wp2_with fail;obtain⟨t0,t1⟩:=aC HS.out;exact bodyPost_ret (v := .agg #[.slice na cs.length nc,.slice ma rs.length mc]) (by simp[results,Tryz.results59,go_sem,t0,t1]) rfl ⟨_,rfl,Bn.out,aQ.out⟩
end Go.Proofs.YtnobahchcongnaaGreat
