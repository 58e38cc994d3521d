import Derived.Test.YtnobahchcongnaaGreatDoorQ21
set_option linter.unusedSimpArgs false
set_option linter.unusedVariables false
set_option maxRecDepth 100000
set_option maxHeartbeats 25600000
namespace Go.Proofs.YtnobahchcongnaaGreatDoor
open Go.RowKit Go.Instr
attribute [local go_sem ↓] mY
theorem Tryz.Yq:(Tryz.prog.info? 78).map (fun i=>(i.zero,i.size,i.bytes))=some (some (.agg #[.int .i64 0,.string ⟨#[]⟩]),2,24):=by kernel_rfl
theorem Tryz.Yr:Elem Tryz.prog 32 78 2 24:=Elem.of Tryz.underlying32 Tryz.Yq rfl (by decide) (by decide)
abbrev qJ (w:World) (base:Nat) (v:Value) (l:List bD):Prop:=w.ownsRow base 78 2 v l.length (flat bD.cells l)
theorem OQ {l:List bD} : ∀ x∈l,∀ u∈x.cells,u.oneCell'=true:=by
 intro x _ u hu;simp [bD.cells] at hu;rcases hu with rfl | rfl <;> rfl
theorem I7 {w:World} {X:Nat} {a b:Value} {t:TypeId} (h:w.heap[X]? = some (.cells #[a,b] t (0,0))) (p:Value) :
 (w.setCell ⟨X,0,none⟩ p).heap[X]? = some (.cells #[p,b] t (0,0))∧Mv (fun b=>b=X) w (w.setCell ⟨X,0,none⟩ p) :=
 ⟨by have h1:=block_setCell (p:=⟨X,0,none⟩) h rfl p;simpa using h1,(Mv.refl (fun b=>b=X) w).setCell (.inl rfl) _⟩
theorem OT {w:World} {X:Nat} {a b:Value} {t:TypeId} (h:w.heap[X]? = some (.cells #[a,b] t (0,0))) (p:Value) :
 (w.setCell ⟨X,1,none⟩ p).heap[X]? = some (.cells #[a,p] t (0,0))∧Mv (fun b=>b=X) w (w.setCell ⟨X,1,none⟩ p) :=
 ⟨by have h1:=block_setCell (p:=⟨X,1,none⟩) h rfl p;simpa using h1,(Mv.refl (fun b=>b=X) w).setCell (.inl rfl) _⟩
structure iR (w:World) (x:World) (cv rv:Value) (code:List Ins) (refs:List bD):Prop where
 g:Grow w x
 blk:x.heap[w.heap.size+1]? = some (.cells #[cv,rv] 34 (0,0))
 res:x.heap[w.heap.size]? = some (.cells #[.slice none 0 0,.slice none 0 0] 34 (0,0))
 row:dZ x w.heap.size cv code
 kg:qJ x w.heap.size rv refs
theorem iR.grow {w x y:World} {cv rv:Value} {code:List Ins} {refs:List bD} (h:iR w x cv rv code refs) (hm:Grow x y):iR w y cv rv code refs :=
 ⟨gtr h.g hm,ai h.blk hm,ai h.res hm,bQ h.row hm (fun _ _ e=>e),bQ h.kg hm (fun _ _ e=>e)⟩
theorem iR.drew {w x:World} {cv rv:Value} {code:List Ins} {refs:List bD} (h:iR w x cv rv code refs):iR w x.drew cv rv code refs:=⟨Mv.drew h.g,h.blk,h.res,h.row,h.kg⟩
theorem eX {α:Type} {f:α→List Value} {n e base:Nat} {w:World} {v:Value} {l:List α} {g:Nat} {cs:Array Value} {t:TypeId} {z:Nat × Nat} (h:w.ownsRow base e n v l.length (flat f l)) (hb:w.heap[g]? = some (.cells cs t z)) (ht:t≠e):v.ownBlock≠some g:=by
 intro e';rcases h.2 with ⟨rfl,_⟩ | ⟨g',cap,cur,rfl,_,hg,_⟩
 · simp [Value.ownBlock] at e'
 · simp [Value.ownBlock] at e';subst e';rw [hb] at hg;simp only [Option.some.injEq,Obj.cells.injEq] at hg;exact ht hg.2.1
def yD (w y:World) (cv rv:Value) (refs:List bD):Prop:=Grow w y∧y.heap[w.heap.size+1]? = some (.cells #[cv,rv] 34 (0,0))∧y.heap[w.heap.size]? = some (.cells #[.slice none 0 0,.slice none 0 0] 34 (0,0))∧qJ y w.heap.size rv refs
theorem iR.app {w x y:World} {cv rv:Value} {code:List Ins} {refs:List bD} (h:iR w x cv rv code refs) (hm:Mv (fun b=>cv.ownBlock=some b) x y):yD w y cv rv refs :=
 ⟨h.g.trans hm (fun b e => .inr (h.row.lt b e).1),by rw [hm.block _ (lt_of_block h.blk) (fun e=>eX h.row h.blk (by decide) e)];exact h.blk,by rw [hm.block _ (lt_of_block h.res) (fun e=>eX h.row h.res (by decide) e)];exact h.res,bQ h.kg hm (fun g hg e=>D6 h.kg h.row (by decide) g hg e)⟩
theorem yD.grow {w x y:World} {cv rv:Value} {refs:List bD} (h:yD w x cv rv refs) (hm:Grow x y):yD w y cv rv refs:=⟨gtr h.1 hm,ai h.2.1 hm,ai h.2.2.1 hm,bQ h.2.2.2 hm (fun _ _ e=>e)⟩
theorem yD.store {w y:World} {cv rv v:Value} {code:List Ins} {refs:List bD} (h:yD w y cv rv refs) (hr:dZ y w.heap.size v code):iR w (y.setCell ⟨w.heap.size+1,0,none⟩ v) v rv code refs:=by
 obtain ⟨h1,h2,h3,h4⟩:=h;obtain ⟨hb,hm⟩:=I7 h2 v;exact ⟨h1.trans hm (fun b e => .inr (by omega)),hb,by rw [hm.block _ (lt_of_block h3) (fun e=>by omega)];exact h3,bQ hr hm (fun g hg e=>by subst e;exact eX hr h2 (by decide) hg),bQ h4 hm (fun g hg e=>by subst e;exact eX h4 h2 (by decide) hg)⟩
theorem iR.Qm {w x y:World} {cv rv v:Value} {code:List Ins} {refs refs':List bD} (h:iR w x cv rv code refs) (hm:Mv (fun b=>rv.ownBlock=some b) x y) (hr:qJ y w.heap.size v refs'):iR w (y.setCell ⟨w.heap.size+1,1,none⟩ v) cv v code refs':=by
 have h2:y.heap[w.heap.size+1]? = some (.cells #[cv,rv] 34 (0,0)):=by rw [hm.block _ (lt_of_block h.blk) (fun e=>eX h.kg h.blk (by decide) e)];exact h.blk
 have h3:y.heap[w.heap.size]? = some (.cells #[.slice none 0 0,.slice none 0 0] 34 (0,0)):=by rw [hm.block _ (lt_of_block h.res) (fun e=>eX h.kg h.res (by decide) e)];exact h.res
 have h4:dZ y w.heap.size cv code:=bQ h.row hm (fun g hg e=>D6 h.row h.kg (by decide) g hg e);obtain ⟨hb,hm'⟩:=OT h2 v;exact ⟨(h.g.trans hm (fun b e => .inr (h.kg.lt b e).1)).trans hm' (fun b e => .inr (by omega)),hb,by rw [hm'.block _ (lt_of_block h3) (fun e=>by omega)];exact h3,bQ h4 hm' (fun g hg e=>by subst e;exact eX h4 h2 (by decide) hg),bQ hr hm' (fun g hg e=>by subst e;exact eX hr h2 (by decide) hg)⟩
def YJ (X XB:Nat) (cv rv qv:Value) (n:Int) (sh:List Ins) (w:World) (uo:List Ins) (refs:List bD):Nat→List Value→World→Prop
 | 0,[v],_=>v = .pointer (some ⟨X,0,none⟩)
 | 1,[v],_=>v=cv
 | 2,[v],_=>v = .pointer (some ⟨XB,0,none⟩)
 | 3,[v],_=>v=qv
 | 4,[v],_=>v = .int .i64 n
 | 5,[v],x=>∃ a c,v = .slice a sh.length c∧ax 5 Ins.cells x (.slice a sh.length c) sh
 | 6,[v],x=>∃ a c,v = .slice a uo.length c∧dZ x w.heap.size (.slice a uo.length c) uo∧yD w x cv rv refs
 | 7,[v],_=>v = .pointer (some ⟨X,0,none⟩)
 | 8,_,x=>∃ a c,iR w x (.slice a uo.length c) rv uo refs
 | _,_,_=>True
section
variable {X XB:Nat} {cv rv qv:Value} {n:Int} {sh:List Ins} {w x y:World} {uo:List Ins} {refs:List bD}
theorem YJ.grow (h:Grow x y):∀ j l,YJ X XB cv rv qv n sh w uo refs j l x→YJ X XB cv rv qv n sh w uo refs j l y:=by
 intro j l hy;unfold YJ at hy ⊢;split <;> first
  | (obtain ⟨a,c,h1,h2⟩:=hy;exact ⟨a,c,h1,h2.later h⟩)
  | (obtain ⟨a,c,h1,h2,h3⟩:=hy;exact ⟨a,c,h1,bQ h2 h (fun _ _ e=>e),h3.grow h⟩)
  | (obtain ⟨a,c,h1⟩:=hy;exact ⟨a,c,h1.grow h⟩)
  | exact hy
  | trivial
theorem YJ.keep:∀ j l,¬ j=5→¬ j=6→¬ j=8→YJ X XB cv rv qv n sh w uo refs j l x→YJ X XB cv rv qv n sh w uo refs j l y:=by
 intro j l h5 h6 h8 hy;unfold YJ at hy ⊢;split <;> first
  | exact absurd rfl h5
  | exact absurd rfl h6
  | exact absurd rfl h8
  | exact hy
  | trivial
end
theorem wP (p q:aC):(eZ p q).code=p.code ++ bU q.code p.code.length:=rfl
theorem Ed (p q:aC):(eZ p q).refs=p.refs ++ q.refs.map fun r=>r.shift p.code.length:=rfl
theorem MN (l:List aC) (k:Nat) (h:k<l.length):aK (l.take (k+1))=eZ (aK (l.take k)) l[k]:=by
 rw [List.take_succ_eq_append_getElem h];simp only [aK,List.foldl_append,List.foldl_cons,List.foldl_nil]
theorem OU (v:Value) (x:bD) (xs:List bD) (base:Nat) (w:World) (hrow:qJ w base v xs) (hb:base≤w.heap.size) (hlen:xs.length≤900000) :
 ∃ a' c' w2,(qL Tryz.prog 32 32 v (.slice (some ⟨w.heap.size,0,none⟩) 1 1) (w.alloc (.cells #[.int .i64 x.at',.string x.name] 78)) ∧
  nk Tryz.prog 32 32 v (.slice (some ⟨w.heap.size,0,none⟩) 1 1) (w.alloc (.cells #[.int .i64 x.at',.string x.name] 78)) = .slice a' (xs.length+1) c'∧appW Tryz.prog 32 32 v (.slice (some ⟨w.heap.size,0,none⟩) 1 1) (w.alloc (.cells #[.int .i64 x.at',.string x.name] 78))=w2) ∧
  qJ w2 base (.slice a' (xs.length+1) c') (xs ++ [x])∧Mv (fun b=>v.ownBlock=some b) w w2:=by
 have hs:ax 2 bD.cells (w.alloc (.cells #[.int .i64 x.at',.string x.name] 78)) (.slice (some ⟨w.heap.size,0,none⟩) 1 1) [x]:=ax.bH (f:=bD.cells) (l:=[x]) (fun _=>rfl) (heap_alloc_new w _) (by simp [flat,bD.cells]) (by simp);obtain ⟨a',c',w2,⟨hok,hv,hw⟩,hrow2,bE,hnew⟩:=oW Tryz.Yr (f:=bD.cells) (fun _=>rfl) v _ xs [x] base _ (bQ hrow (((Mv.refl (fun _=>False) w).alloc _)) (fun _ _ e=>e)) hs OQ (by simp;omega) (by simp;omega);exact ⟨a',c',w2,⟨hok,hv,hw⟩,hrow2,((Mv.refl _ w).alloc _).trans bE (fun x e => .inl e)⟩
def aP (l:List aC):Nat:=(l.map fun p=>p.code.length).sum
def bS (l:List aC):Nat:=(l.map fun p=>p.refs.length).sum
theorem dY (l:List aC):(aK l).code.length=aP l∧(aK l).refs.length=bS l:=by
 have h:∀ (l:List aC) (p:aC),(l.foldl eZ p).code.length=p.code.length+aP l∧(l.foldl eZ p).refs.length=p.refs.length+bS l:=by
  intro l
  induction l with
  | nil=>intro p;simp [aP,bS]
  | cons q l ih =>
   intro p;simp only [List.foldl_cons];rw [(ih _).1,(ih _).2,wP,Ed];simp [aP,bS,uS];omega
 have:=h l cO
 simpa [aK,cO] using this
theorem MO (l:List aC) (k:Nat) (h:k<l.length):aP (l.take k)+l[k].code.length≤aP l∧bS (l.take k)+l[k].refs.length≤bS l:=by
 have e:l.take k ++ l[k] :: l.drop (k+1)=l:=by rw [← List.drop_eq_getElem_cons h,List.take_append_drop]
 have h1:aP (l.take k ++ l[k] :: l.drop (k+1))=aP (l.take k)+(l[k].code.length+aP (l.drop (k+1))):=by simp only [aP,List.map_append,List.map_cons,List.sum_append,List.sum_cons]
 have h2:bS (l.take k ++ l[k] :: l.drop (k+1))=bS (l.take k)+(l[k].refs.length+bS (l.drop (k+1))):=by simp only [bS,List.map_append,List.map_cons,List.sum_append,List.sum_cons]
 rw [e] at h1 h2;omega
theorem uT (v:Value) (ps:List aC) (w:World) (h:gG w v ps) (hlc:aP ps≤200000) (hlr:bS ps≤200000) (hlp:ps.length≤200000) :
 Calls Tryz.prog 23 #[v] w fun e w'=>∃ v',e = .returned v'∧oQ w.heap.size w' v' (aK ps)∧Grow w w':=by
 obtain ⟨pa,pc,rfl,-,-⟩:=h.form;have pX:=ł h;have qX:=ł (show iR w ((w.alloc (.cells #[.slice none 0 0,.slice none 0 0] 34)).alloc (.cells #[.slice none 0 0,.slice none 0 0] 34)) (.slice none 0 0) (.slice none 0 0) [] [] from
  ⟨((Mv.refl _ w).alloc _).alloc _,by have:=heap_alloc_new (w.alloc (.cells #[.slice none 0 0,.slice none 0 0] 34)) (.cells #[.slice none 0 0,.slice none 0 0] 34);rwa [World.size_alloc] at this,aT (heap_alloc_new w _) _,World.ownsRow_nil _ _ _ _,World.ownsRow_nil _ _ _ _⟩)
 clear h
 go_enter Tryz.func23,Tryz.ntmps23
 go_wp2_with fail;generalize (w.alloc (.cells #[.slice none 0 0,.slice none 0 0] 34)).alloc (.cells #[.slice none 0 0,.slice none 0 0] 34)=w1 at *
 go_loopw [11] (fun t wr=>∃ (k:Nat) (cv rv:Value),t = .int .i64 k∧k≤ps.length∧iR w wr cv rv (aK (ps.take k)).code (aK (ps.take k)).refs) (fun t _=>ps.length - (intOf t).toNat)
 case atStart=>exact ⟨0,_,_,rfl,Nat.zero_le _,qX.out⟩
 obtain ⟨k,cv,rv,rfl,hk,hst⟩:=hrel;have Da:=ł (dY (ps.take k));have sW:=ł (fun hlt=>MO ps k hlt);have pY:=ł (fun hlt=>MN ps k hlt);have KQ:=ł (fun (e:k=ps.length)=>show aK (ps.take k)=aK ps from by rw [e,List.take_length]);generalize aK (ps.take k)=pk at *;obtain ⟨cs,rs⟩:=pk;obtain ⟨na,nc,rA⟩:=gz hst.row;obtain ⟨ma,mc,hmv⟩:=gz hst.kg;subst rA hmv;simp only at hst;have HST:=ł hst;clear hst qX;by_cases hlt:k<ps.length
 · have hq:∃ qa iT ra rcc b off cap',Value.slice pa ps.length pc = .slice (some ⟨b,off,none⟩) ps.length cap'∧(wr.cell? ⟨b,off+k * 2,none⟩=some (.slice qa ps[k].code.length iT)∧wr.cell? ⟨b,off+k * 2+1,none⟩=some (.slice ra ps[k].refs.length rcc))∧ax 5 Ins.cells w (.slice qa ps[k].code.length iT) ps[k].code∧ax 2 bD.cells w (.slice ra ps[k].refs.length rcc) ps[k].refs:=by
    obtain ⟨vs,h1,h2,h3⟩:=pX.out;have hvk:k<vs.length:=by omega
    obtain ⟨b,off,cap',e,_,hc⟩:=(h2.later HST.out.g).at hvk;obtain ⟨qa,iT,ra,rcc,hv,hr1,hr2⟩:=h3 k hvk hlt;simp only [Value.agg.injEq,Array.mk.injEq,List.cons.injEq,and_true] at hv;obtain ⟨e1,e2⟩:=hv;refine ⟨qa,iT,ra,rcc,b,off,cap',by rw [e,h1],⟨?_,?_⟩,hr1,hr2⟩
    · have:=hc 0 _ rfl;rw [← e1];simpa [qI] using this
    · have:=hc 1 _ rfl;rw [← e2];simpa [qI] using this
   obtain ⟨qa,iT,ra,rcc,b,off,cap',e,⟨c0,c1⟩,hr1,hr2⟩:=hq;simp only [Value.slice.injEq,true_and] at e;obtain ⟨rfl,rfl⟩:=e;have hbl:b<wr.heap.size:=World.block_lt_of_cell? wr _ c0;have ht:=sW.out hlt;have hj:=Da.out;have HJ2:=ł (pY.out hlt);generalize ps[k]=q at *;obtain ⟨qc,qr⟩:=q;simp only at hr1 hr2 ht hj c0 c1;have pV:qc.length≤300000:=by omega
   have Zx:cs.length+qc.length≤200000:=by omega
   have Zy:rs.length+qr.length≤200000:=by omega
   have HR1:=ł hr1;have HR2:=ł hr2;have hg2:Grow wr (wr.alloc (.cells #[.slice qa qc.length iT,.slice ra qr.length rcc] 34)):=(Mv.refl _ wr).alloc _;have aU:=ł (HST.out.grow hg2);have fw:=ł (heap_alloc_new wr (.cells #[.slice qa qc.length iT,.slice ra qr.length rcc] 34));obtain ⟨k0,k1⟩:=aB HST.out.blk;have hlX:=lt_of_block HST.out.blk;have KR:w.heap.size+1≠wr.heap.size:=by omega
   have hor:∀ g,Value.ownBlock (.slice na cs.length nc)=some g→g<wr.heap.size:=fun g hg=>(HST.out.row.lt g hg).2;have xM:=ł hor;have dL:=ł hg2;clear hg2 hor hr1 hr2 ht hj pY sW Da HST;go_wp2_with fail;clear k0 k1 c0 c1;have yE:wr.heap.size<(wr.alloc (.cells #[.slice qa qc.length iT,.slice ra qr.length rcc] 34)).heap.size:=by simp
   generalize wr.alloc (.cells #[.slice qa qc.length iT,.slice ra qr.length rcc] 34)=w2 at *;have HST:=aU;have lD:=ł (fun (x:World) (hx:Mv (fun b=>b=w.heap.size+1∨Value.ownBlock (.slice na cs.length nc)=some b) w2.drew x)=>(show x.heap[wr.heap.size]? = _ from (hx.block wr.heap.size yE (fun e=>by rcases e with e | e;exact KR e.symm;have:=xM.out _ e;omega)).trans fw.out));have Db:=ł (fun (x:World) (hx:Grow w x)=>HR1.out.later hx);refine qw (by kernel_rfl) 48 [some 18,some 19,some 20,some 21,some 22,some 23,some 24,some 25,none] [[],[0],[],[2],[],[3,4],[1,5,5],[0,1,2,3,4,5,6],[7,6,6,0,1,2,3,4,5,6]] [[],[0],[],[2],[],[3,4],[1,5],[],[7,6]] [[0],[1],[2],[3],[4],[5],[6],[7],[8]] [[],[],[],[],[],[6],[8],[],[]] rfl (by kernel_rfl) (Mv (fun b=>b=w.heap.size+1∨Value.ownBlock (.slice na cs.length nc)=some b)) (fun _=>Mv.refl _ _) (fun x y z h1 h2=>h1.trans h2 (fun _ e => .inl e)) (YJ (w.heap.size+1) wr.heap.size (.slice na cs.length nc) (.slice ma rs.length mc) (.slice qa qc.length iT) cs.length (bU qc cs.length) w (cs ++ bU qc cs.length) rs) (fun _ x=>iR w x (.slice na cs.length nc) (.slice ma rs.length mc) cs rs) [[6]] ?z0 ?steps ?done
   case z0=>intro z hz;exact HST.out.drew
   case steps =>
    refine ⟨?s0,?s1,?s2,?s3,?s4,?s5,?s6,?s7,?s8,trivial⟩
    case s0 | s2 | s4 =>
     intro vs x hx hY hZ;clear hY hZ;simp only [zR];go_simp;exact ⟨Mv.refl _ _,by intros;assumption,rfl,by intros;assumption⟩
    case s1 =>
     intro vs x hx hY hZ;have h0:vs 0 = .pointer (some ⟨w.heap.size+1,0,none⟩):=hY 0 (by simp) (by simp);obtain ⟨k0,k1⟩:=aB (hZ 0 (by simp) (by simp)).blk;clear hY hZ;simp only [zR,h0];go_simp;exact ⟨Mv.refl _ _,by intros;assumption,rfl,by intros;assumption⟩
    case s3 =>
     intro vs x hx hY hZ;have h2:vs 2 = .pointer (some ⟨wr.heap.size,0,none⟩):=hY 2 (by simp) (by simp);obtain ⟨k0,k1⟩:=aB (lD.out x hx);clear hY hZ;simp only [zR,h2];go_simp;exact ⟨Mv.refl _ _,by intros;assumption,rfl,by intros;assumption⟩
    case s5 =>
     intro vs x hx hY hZ;have h3:vs 3 = .slice qa qc.length iT:=hY 3 (by simp) (by simp);have h4:vs 4 = .int .i64 cs.length:=hY 4 (by simp) (by simp);have HC:=ł (Ik (.slice qa qc.length iT) qc cs.length x (Db.out x (hZ 0 (by simp) (by simp)).g) pV);clear hY hZ;simp only [zR,h3,h4];go_simp;refine HC.out.mono ?_;rintro e y ⟨v,rfl,hrs⟩;obtain ⟨va,vc,rfl⟩:=gz hrs.row;have hgr:=hrs.g;exact ⟨_,rfl,hgr.mono (fun _ e=>e.elim),(by first | exact fun h=>iR.grow h hgr | (intros;exact iR.grow (by assumption) hgr)),⟨va,vc,rfl,gP (fun _=>rfl) hrs.row⟩,by intros;exact YJ.grow hgr _ _ (by assumption)⟩
    case s6 =>
     intro vs x hx hY hZ;have h1:vs 1 = .slice na cs.length nc:=hY 1 (by simp) (by simp);obtain ⟨sa,sc,(h5:vs 5=_),hrow⟩:=hY 5 (by simp) (by simp);have hst:=hZ 0 (by simp) (by simp);obtain ⟨a',c',w2,⟨hok,hv,hw⟩,hrow2,bE,hown2⟩:=oW Tryz.EO (f:=Ins.cells) (fun _=>rfl) _ _ cs _ _ x hst.row hrow EP hst.g.size (by rw [uS];omega);have HJ:=ł (hst.app bE);have HR2:=ł hrow2;have dU:=ł bE;clear hY hZ hst hrow hrow2 bE hown2;simp only [zR,h1,h5];go_simp;exact ⟨dU.out.mono (fun _ e => .inl (.inr e)),⟨a',c',by rw [List.length_append];rfl,by have:=HR2.out;rw [← List.length_append] at this;exact this,HJ.out⟩,fun j l=>by intros;refine YJ.keep j l ?_ ?_ ?_ (by assumption) <;> (intro e;subst e;first | contradiction | simp_all)⟩
    case s7 =>
     intro vs x hx hY hZ;clear hY hZ;simp only [zR];go_simp;exact ⟨Mv.refl _ _,rfl,by intros;assumption⟩
    case s8 =>
     intro vs x hx hY hZ;have h7:vs 7 = .pointer (some ⟨w.heap.size+1,0,none⟩):=hY 7 (by simp) (by simp);obtain ⟨a',c',(h6:vs 6=_),hrow,hj⟩:=hY 6 (by simp) (by simp);rw [List.length_append] at h6 hrow;have HS:=ł (hj.store hrow);obtain ⟨k0,k1⟩:=aB hj.2.1;have zt:=aJ hj.2.1;have dU:=ł (I7 hj.2.1 (vs 6));rw [h6] at dU;clear hY hZ hrow hj;simp only [zR,h7,h6];go_simp;exact ⟨dU.out.2.mono (fun _ e => .inl (.inl e)),⟨a',c',by rw [List.length_append];exact HS.out⟩,fun j l=>by intros;refine YJ.keep j l ?_ ?_ ?_ (by assumption) <;> (intro e;subst e;first | contradiction | simp_all)⟩
   case done =>
   intro vs wy hxy hY _;obtain ⟨a',c',hst'⟩:=hY 8 (by decide) rfl;simp only [List.length_cons,List.length_nil,Nat.zero_add,Nat.reduceAdd];rw [show List.range 9=[0,1,2,3,4,5,6,7,8] from rfl];simp only [zR];clear hY;have di:=ł (lD.out wy hxy);have nJ:=ł hst';clear hst' hxy lD HST Db fw aU xM dL;have hc2:(cs ++ bU qc cs.length).length=cs.length+qc.length:=by rw [List.length_append,uS]
   generalize hcc:cs ++ bU qc cs.length=c2 at *;have nK:=ł hcc;have uL:=ł hc2;clear hcc hc2;obtain ⟨k0,k1⟩:=aB di.out;have hlB:=lt_of_block di.out;go_wp2_with fail;clear k0 k1 hlB;obtain ⟨wo,hwo⟩:∃ wo:World,wo=wy:=⟨_,rfl⟩;subst hwo
   go_loopw [29] (fun t wr2=>∃ (j:Nat) (rv':Value),t = .int .i64 j∧j≤qr.length∧iR w wr2 (.slice a' c2.length c') rv' c2 (rs ++ (qr.take j).map fun r=>r.shift cs.length)) (fun t _=>qr.length - (intOf t).toNat)
   case atStart=>exact ⟨0,_,rfl,Nat.zero_le _,by simpa using nJ.out⟩
   obtain ⟨j,rv',rfl,hjl,hst⟩:=hrel;have uH:=ł (fun hlt:j<qr.length=>show rs ++ (qr.take (j+1)).map (fun r=>r.shift cs.length)=(rs ++ (qr.take j).map fun r=>r.shift cs.length) ++ [qr[j].shift cs.length] from by
    rw [List.take_succ_eq_append_getElem hlt,List.map_append,List.append_assoc];rfl)
   have CY:=ł (fun (e:j=qr.length)=>show rs ++ (qr.take j).map (fun r=>r.shift cs.length)=rs ++ qr.map fun r=>r.shift cs.length from by rw [e,List.take_length]);have hrl:(rs ++ (qr.take j).map fun r=>r.shift cs.length).length≤200000:=by simp;omega
   generalize (rs ++ (qr.take j).map fun r=>r.shift cs.length)=r2 at *;obtain ⟨eH,eO,AL⟩:=gz hst.kg;subst AL;have mP:=ł hst;clear hst;by_cases hjt:j<qr.length
   · obtain ⟨b2,Zz,cap2,e,_,yF⟩:=(HR2.out.later mP.out.g).at hjt;simp only [Value.slice.injEq,true_and] at e;obtain ⟨rfl,rfl⟩:=e;have c0:=yF 0 _ rfl;have c1:=yF 1 _ rfl;have Al:=ł (uH.out hjt);have Dc:=ł (show qr[j].shift cs.length=⟨wrap64 (qr[j].at'+cs.length),qr[j].name⟩ from rfl);generalize qr[j]=r at *;obtain ⟨r0,r1⟩:=r;simp only [Nat.add_zero] at c0 c1 Dc;have hb2:b2<wr.heap.size:=World.block_lt_of_cell? _ _ c0;clear yF uH;have gH:=ł (mP.out.grow ((Mv.refl _ wr).alloc (.cells #[.int .i64 r0,.string r1] 78)));obtain ⟨a4,c4,w4,⟨hok,hv,hw⟩,hrow4,nu⟩:=OU _ ⟨wrap64 (r0+cs.length),r1⟩ r2 _ _ gH.out.kg gH.out.g.size (by omega);have oH:=ł (gH.out.Qm nu hrow4);have h2:w4.heap[w.heap.size+1]? = some (.cells #[.slice a' c2.length c',.slice eH r2.length eO] 34 (0,0)):=by rw [nu.block _ (lt_of_block gH.out.blk) (fun e=>eX gH.out.kg gH.out.blk (by decide) e)];exact gH.out.blk
     obtain ⟨k0,k1⟩:=aB mP.out.blk;obtain ⟨m0,m1⟩:=aB h2;have zt:=aJ h2;have ZA:=lt_of_block mP.out.blk;rw [World.size_alloc] at hok hv hw;clear hrow4 nu h2 mP;go_wp2_with fail
     go_roundw
     case rel=>exact ⟨j+1,_,by go_num,by omega,by rw [Al.out,Dc.out];simpa using oH.out⟩
     case measure=>(simp [intOf] <;> omega)
   · have HF:=ł (CY.out (by omega));go_wp2_with fail
     go_roundw
     case rel=>exact ⟨k+1,_,_,by go_num,by omega,by rw [HJ2.out,wP,Ed];simp only;rw [nK.out,← HF.out];exact mP.out⟩
     case measure=>(simp [intOf] <;> omega)
 · have HE:=ł (KQ.out (by omega));obtain ⟨k0,k1⟩:=aB HST.out.blk;obtain ⟨m0,m1⟩:=aB HST.out.res;have hl1:=lt_of_block HST.out.blk;have hl2:=lt_of_block HST.out.res;have zt:=aJ HST.out.res;obtain ⟨hs,hm⟩:=set2 HST.out.res (.slice na cs.length nc) (.slice ma rs.length mc);have HS:=ł hs;have aM:=ł (show Grow w _ from Mv.trans HST.out.g hm (fun b e => .inr (by omega)));have KS:=ł (show oQ w.heap.size _ (.agg #[.slice na cs.length nc,.slice ma rs.length mc]) (aK ps) from by
    rw [← HE.out];exact ⟨na,nc,ma,mc,rfl,bQ HST.out.row hm (fun g hg e=>by subst e;exact eX HST.out.row HST.out.res (by decide) hg),(gP (fun _=>rfl) (bQ HST.out.kg hm (fun g hg e=>by subst e;exact eX HST.out.kg HST.out.res (by decide) hg)))⟩)
   clear hs hm HST;go_wp2_with fail;obtain ⟨t0,t1⟩:=aB HS.out;exact bodyPost_ret (v := .agg #[.slice na cs.length nc,.slice ma rs.length mc]) (by simp [results,Tryz.results23,go_sem,t0,t1]) rfl ⟨_,rfl,KS.out,aM.out⟩
end Go.Proofs.YtnobahchcongnaaGreatDoor
