import Derived.Test.YtadecgbblajifaaGreatDoorA13
set_option linter.unusedSimpArgs false
set_option linter.unusedVariables false
set_option maxRecDepth 100000
set_option maxHeartbeats 25600000
namespace Go.Proofs.YtadecgbblajifaaGreatDoor
section
open Go.RowKit Go.Instr
attribute [local go_sem ↓] jG
abbrev KM (w:World) (base:Nat) (v:Value) (l:List aI):Prop:=w.ownsRow base 67 2 v l.length (flat aI.cells l)
theorem VG {w:World} {X:Nat} {a b:Value} {t:TypeId} (h:w.heap[X]? = some (.cells #[a,b] t (0,0))) (p:Value) :
 (w.setCell ⟨X,0,none⟩ p).heap[X]? = some (.cells #[p,b] t (0,0))/\Mv (λb=>b=X) w (w.setCell ⟨X,0,none⟩ p) :=
 ⟨by have h1:=block_setCell (p:=⟨X,0,none⟩) h rfl p;simpa using h1,(Mv.refl (λb=>b=X) w).setCell (.inl rfl) _⟩
structure lV (w:World) (x:World) (cv rv:Value) (code:List Ins) (refs:List aI):Prop where
 g:Grow w x
 blk:x.heap[w.heap.size+1]? = some (.cells #[cv,rv] 37 (0,0))
 res:x.heap[w.heap.size]? = some (.cells #[.slice none 0 0,.slice none 0 0] 37 (0,0))
 row:mr x w.heap.size cv code
 AL:KM x w.heap.size rv refs
theorem lV.grow {w x y:World} {cv rv:Value} {code:List Ins} {refs:List aI} (h:lV w x cv rv code refs) (hm:Grow x y):lV w y cv rv code refs :=
 ⟨gtr h.g hm,aD h.blk hm,aD h.res hm,aU h.row hm (λ_ _ e=>e),aU h.AL hm (λ_ _ e=>e)⟩
theorem lV.drew {w x:World} {cv rv:Value} {code:List Ins} {refs:List aI} (h:lV w x cv rv code refs):lV w x.drew cv rv code refs:=⟨Mv.drew h.g,h.blk,h.res,h.row,h.AL⟩
theorem iA {α:Type} {f:α->List Value} {n e base:Nat} {w:World} {v:Value} {l:List α} {g:Nat} {cs:Array Value} {t:TypeId} {z:Nat × Nat} (h:w.ownsRow base e n v l.length (flat f l)) (hb:w.heap[g]? = some (.cells cs t z)) (ht:t≠e):v.ownBlock≠some g:=by
 intro e';rcases h.2 with⟨rfl,_⟩|⟨g',cap,cur,rfl,_,hg,_⟩
 · simp[Value.ownBlock]at e'
 · simp[Value.ownBlock]at e';subst e';rw[hb]at hg;simp only[Option.some.injEq,Obj.cells.injEq]at hg;exact ht hg.2.1
def qP (w y:World) (cv rv:Value) (refs:List aI):Prop:=Grow w y/\y.heap[w.heap.size+1]? = some (.cells #[cv,rv] 37 (0,0))/\y.heap[w.heap.size]? = some (.cells #[.slice none 0 0,.slice none 0 0] 37 (0,0))/\KM y w.heap.size rv refs
theorem lV.app {w x y:World} {cv rv:Value} {code:List Ins} {refs:List aI} (h:lV w x cv rv code refs) (hm:Mv (λb=>cv.ownBlock=some b) x y):qP w y cv rv refs :=
 ⟨h.g.trans hm (λb e => .inr (h.row.lt b e).1),by rw[hm.block _ (lt_of_block h.blk) (λe=>iA h.row h.blk (by decide) e)];exact h.blk,by rw[hm.block _ (lt_of_block h.res) (λe=>iA h.row h.res (by decide) e)];exact h.res,aU h.AL hm (λg hg e=>Sn h.AL h.row (by decide) g hg e)⟩
theorem qP.grow {w x y:World} {cv rv:Value} {refs:List aI} (h:qP w x cv rv refs) (hm:Grow x y):qP w y cv rv refs:=⟨gtr h.1 hm,aD h.2.1 hm,aD h.2.2.1 hm,aU h.2.2.2 hm (λ_ _ e=>e)⟩
theorem qP.store {w y:World} {cv rv v:Value} {code:List Ins} {refs:List aI} (h:qP w y cv rv refs) (hr:mr y w.heap.size v code):lV w (y.setCell ⟨w.heap.size+1,0,none⟩ v) v rv code refs:=by
 obtain⟨h1,h2,h3,h4⟩:=h;obtain⟨hb,hm⟩:=VG h2 v;exact⟨h1.trans hm (λb e => .inr (by omega)),hb,by rw[hm.block _ (lt_of_block h3) (λe=>by omega)];exact h3,aU hr hm (λg hg e=>by subst e;exact iA hr h2 (by decide) hg),aU h4 hm (λg hg e=>by subst e;exact iA h4 h2 (by decide) hg)⟩
def YJ (X XB:Nat) (cv rv qv:Value) (n:Int) (sh:List Ins) (w:World) (kW:List Ins) (refs:List aI):Nat->List Value->World->Prop
 |0,[v],_=>v = .pointer (some ⟨X,0,none⟩)
 |1,[v],_=>v=cv
 |2,[v],_=>v = .pointer (some ⟨XB,0,none⟩)
 |3,[v],_=>v=qv
 |4,[v],_=>v = .int .i64 n
 |5,[v],x=>∃ a c,v = .slice a sh.length c/\ai 5 Ins.cells x (.slice a sh.length c) sh
 |6,[v],x=>∃ a c,v = .slice a kW.length c/\mr x w.heap.size (.slice a kW.length c) kW/\qP w x cv rv refs
 |7,[v],_=>v = .pointer (some ⟨X,0,none⟩)
 |8,_,x=>∃ a c,lV w x (.slice a kW.length c) rv kW refs
 |_,_,_=>True
section
variable {X XB:Nat} {cv rv qv:Value} {n:Int} {sh:List Ins} {w x y:World} {kW:List Ins} {refs:List aI}
theorem YJ.grow (h:Grow x y):∀ j l,YJ X XB cv rv qv n sh w kW refs j l x->YJ X XB cv rv qv n sh w kW refs j l y:=by
 intro j l hy;unfold YJ at hy ⊢;split <;> first
  |(obtain⟨a,c,h1,h2⟩:=hy;exact⟨a,c,h1,h2.later h⟩)
  |(obtain⟨a,c,h1,h2,h3⟩:=hy;exact⟨a,c,h1,aU h2 h (λ_ _ e=>e),h3.grow h⟩)
  |(obtain⟨a,c,h1⟩:=hy;exact⟨a,c,h1.grow h⟩)
  |exact hy
  |trivial
theorem YJ.keep:∀ j l,¬ j=5->¬ j=6->¬ j=8->YJ X XB cv rv qv n sh w kW refs j l x->YJ X XB cv rv qv n sh w kW refs j l y:=by
 intro j l h5 h6 h8 hy;unfold YJ at hy ⊢;split <;> first
  |exact absurd rfl h5
  |exact absurd rfl h6
  |exact absurd rfl h8
  |exact hy
  |trivial
end
end
section
open Go.RowKit
def Mq (ws:List (List Nat)) (c m:Nat) (dep:List Bool):Bool:=(List.range m).all λj => !dep.getD j false || (ws.getD j []).any λk=>k == c || dep.getD k false
theorem S9 {ws:List (List Nat)} {c m:Nat} {dep:List Bool} (h:Mq ws c m dep=true) (hlt:∀ i,i<m->∀ j∈ws.getD i [],j<i) {L:Array Bool} (hcl:mh ws L):∀ n j,j<n->j<m->dep.getD j false=true->L.getD j false=true->L.getD c false=true:=by
 intro n
 induction n with
 |zero=>intro j hj;omega
 |succ n ih =>
  intro j hj hm hd hL;have h1:=List.all_eq_true.1 h j (List.mem_range.2 hm);rw[hd]at h1;simp only[Bool.not_true,Bool.false_or]at h1;obtain⟨k,hk,hk2⟩:=List.any_eq_true.1 h1;have hLk:=hcl j hL k hk;simp only[Bool.or_eq_true,beq_iff_eq]at hk2;rcases hk2 with rfl|hk2
  · exact hLk
  · have:=hlt j hm k hk;exact ih k (by omega) (by omega) hk2 hLk
section
variable {P:Program} {Q:Exit->Act->World->Prop}
structure PI (c:Nat) (Ps:List (Value->World->Prop)) (M0:World->Prop) (M1:Value->World->Prop) (L:Array Bool) (vs:Nat->Value) (x:World):Prop where
 m0:L.getD c false=false->M0 x
 m1:L.getD c false=true->M1 (vs c) x
 ps:∀ j,j≠c->L.getD j false=true->(Ps.getD j aP) (vs j) x
structure X0 (P:Program) (ds:List (Option Tmp)) (ws ns:List (List Nat)) (c:Nat) (Ps:List (Value->World->Prop)) (M0:World->Prop) (M1:Value->World->Prop) (T:World->World->Prop) (a:Act) (i:Nat) (o:Oper):Prop where
 op:i≠c->∀ (vs:Nat->Value) (x:World),(M0 x\/∃ v,M1 v x)->(∀ k∈ws.getD i [],k≠c->(Ps.getD k aP) (vs k) x)->(c∈ws.getD i []->M1 (vs c) x)->Gives P o (aB ds vs (ns.getD i []) a) x (GR x (Ps.getD i aP))
 cl:i=c->∀ (vs:Nat->Value) (x:World),M0 x->(∀ k∈ws.getD i [],k≠c->(Ps.getD k aP) (vs k) x)->Gives P o (aB ds vs (ns.getD i []) a) x (λv y=>M1 v y/\T x y)
theorem _I {id:Nat} {a:Act} {w:World} {l:List Oper} (m c:Nat) (N:Nat) (ds:List (Option Tmp)) (ns:List (List Nat)) (dep:List Bool) (Ps:List (Value->World->Prop)) (M0:World->Prop) (M1:Value->World->Prop) (T:World->World->Prop)
 (h0:M0 w.drew) (hs0:∀ x y,Grow x y->M0 x->M0 y) (hs1:∀ v x y,Grow x y->M1 v x->M1 v y) (hsp:∀ j v x y,Grow x y->(Ps.getD j aP) v x->(Ps.getD j aP) v y) (hst:∀ j v x y,dep.getD j false=false->T x y->(Ps.getD j aP) v x->(Ps.getD j aP) v y)
 (hstep:mg (X0 P ds (bH (l.take m).toArray) ns c Ps M0 M1 T a) 0 (l.take m))
 (hend:∀ (vs:Nat->Value) (x:World),M1 (vs c) x->(∀ j,j<m->j≠c->(Ps.getD j aP) (vs j) x)->wpList P l.toArray Q (l.drop m) (aB ds vs (rg 0 ds) a) x)
 (hm:P.follows .mixedOrders=true:=by kernel_rfl) (hN:a.tmps.size=N:=by rfl) (hok:kS N (l.take m).toArray ds (bH (l.take m).toArray) ns []=true:=by kernel_rfl) (hr:rg 0 ds=List.range (l.take m).length:=by rfl) (hcm:c<m:=by decide) (hdp:Mq (bH (l.take m).toArray) c m dep=true:=by kernel_rfl)
 (Ag:nE (bH l.toArray) m l.length=true:=by kernel_rfl) (hg:uW l=true:=by kernel_rfl) (lI:(l.take m).length=m:=by rfl) (hlt:nE (bH (l.take m).toArray) m m=true:=by kernel_rfl):(Code.region id l.toArray true).wp P Q a w:=by
 refine wp_region_any hm ?_;have hl:l.take m ++ l.drop m=l:=List.take_append_drop m l;have hlt':∀ i,i<m->∀ j∈(bH (l.take m).toArray).getD i [],j<i:=λi hi j hj=>by
  simp only[nE,Bool.and_eq_true]at hlt;have:=List.all_eq_true.1 (List.all_eq_true.1 hlt.1 i (List.mem_range.2 hi)) j hj
  simpa using this
 have h1:=Iq (P:=P) (Q:=Q) (pre:=l.take m) (suf:=l.drop m) (a:=a) (w:=w.drew) (by rw[hl,lI];exact Ag) (by rw[hl];exact hg) (by
  refine IP N ds (bH (l.take m).toArray) ns [] hN hok (PI c Ps M0 M1) ?_ ?_ ?_
  · have hf:∀ j,(Array.replicate (l.take m).toArray.size false).getD j false=false:=by
     intro j;by_cases hj:j<(l.take m).toArray.size <;> simp[Array.getD]
    exact⟨(λ_=>h0),(λe=>by rw[hf]at e;cases e),(λj _ e=>by rw[hf]at e;cases e)⟩
  · intro i o ho L vs x hsz lH gN hcl hI;have hil:i<(l.take m).length:=by
     have:=(Array.getElem?_eq_some_iff.1 ho).1
     simpa using this
    have _J:i<L.size:=by rw[hsz];simpa using hil
    have bO:=Cw (l.take m) 0 hstep i o (by simpa using ho);rw[Nat.zero_add]at bO;have hset:(L.setIfInBounds i true).getD i false=true:=by simp[_J]
    have hne:∀ j,j≠i->(L.setIfInBounds i true).getD j false=L.getD j false:=λj hj=>getD_set_ne false (λe=>hj e.symm);have hup:∀ (v:Value) j,j≠i->upd vs i v j=vs j:=λv j hj=>by simp[upd,hj]
    have qL:∀ (v:Value),upd vs i v i=v:=λv=>by simp[upd]
    have hds:∀ k∈(bH (l.take m).toArray).getD i [],k≠c->(Ps.getD k aP) (vs k) x:=λk hk hkc=>hI.ps k hkc (gN k hk);by_cases hic:i=c
    · refine Gives.mono (bO.cl hic vs x (hI.m0 (by rw[← hic];exact lH)) hds) λv y hy=>⟨λe => ?_,λ_ => ?_,λj hj e => ?_⟩
      · rw[← hic,hset]at e;cases e
      · rw[← hic,qL];exact hy.1
      · have hji:j≠i:=λe2=>hj (e2.trans hic);rw[hup v j hji];rw[hne j hji]at e;refine hst j _ x y ?_ hy.2 (hI.ps j hj e);cases hd:dep.getD j false with
        |false=>rfl
        |true =>
         exfalso;rcases Nat.lt_or_ge j m with hjm|hjm
         · have:=S9 hdp hlt' hcl (j+1) j (by omega) hjm hd e;rw[← hic,lH]at this;cases this
         · have hjs:L.size<=j:=by rw[hsz];simp[lI];omega
           simp[Array.getD,Nat.not_lt.2 hjs]at e
    · refine Gives.mono (bO.op hic vs x ?_ hds (λhc=>hI.m1 (gN c hc))) λv y hy=>⟨λe => ?_,λe => ?_,λj hj e => ?_⟩
      · cases QX:L.getD c false with
        |false=>exact .inl (hI.m0 QX)
        |true=>exact .inr ⟨_,hI.m1 QX⟩
      · rw[hne c (λe=>hic e.symm)]at e;exact hs0 x y hy.1 (hI.m0 e)
      · rw[hne c (λe=>hic e.symm)]at e;rw[hup v c (λe=>hic e.symm)];exact hs1 _ x y hy.1 (hI.m1 e)
      · by_cases hji:j=i
        · subst hji;rw[qL];exact hy.2
        · rw[hup v j hji];rw[hne j hji]at e;exact hsp j _ x y hy.1 (hI.ps j hj e)
  · intro L vs x hall hI;have hsz:(l.take m).toArray.size=m:=by simpa using lI
    rw[hl];have h2:=hend vs x (hI.m1 (hall c (by rw[hsz];exact hcm))) (λj hj hjc=>hI.ps j hjc (hall j (by rw[hsz];exact hj)));rw[hr]at h2
    show wpList P l.toArray Q (l.drop m) (aB ds vs (List.range (l.take m).toArray.size) a) x
    simpa using h2)
 rw[hl]at h1;exact h1
end
end
end Go.Proofs.YtadecgbblajifaaGreatDoor
