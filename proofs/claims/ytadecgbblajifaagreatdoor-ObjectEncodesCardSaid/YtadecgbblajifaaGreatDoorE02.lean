import Derived.Test.YtadecgbblajifaaGreatDoorE01
set_option linter.unusedSimpArgs false
set_option linter.unusedVariables false
set_option maxRecDepth 100000
set_option maxHeartbeats 25600000
namespace Go.Proofs.YtadecgbblajifaaGreatDoor
end Go.Proofs.YtadecgbblajifaaGreatDoor
namespace Go.Proofs.YtadecgbblajifaaGreatDoor.DV
open Go
inductive Tk where
 |bo|it (k:IntKind)|str|pt (e:Nat)|sl (e s:Nat)|ar (n e s:Nat)|st (f:List (Nat × Nat × Bool))|fu|gZ|mp (k e:Nat)|ot
structure Ty where
 k:Tk
 agg:Bool
 size:Nat
 bytes:Nat
 zero:D
 cmp:List Tk
abbrev dA:=Nat->Option Ty
def ES:TypeDesc->Bool
 |.struct _ | .array _ _=>true
 |_=>false
def mQ (P:Program) (t s:Nat):Prop:=∃ i,P.info? t=some i/\i.size=s
def yM (P:Program) (t:Nat) (b:Bool):Prop:=∃ u,P.underlying t=some u/\ES u=b
def oD (P:Program):List Field->List (Nat × Nat × Bool)->Prop
 | [],[]=>True
 |a :: l,b :: m=>a.offset=b.1/\mQ P a.type b.2.1/\b.2.1≠0/\yM P a.type b.2.2/\oD P l m
 |_,_=>False
def bz (P:Program):TypeDesc->Tk->Prop
 |.bool,.bo=>True
 |.int k,.it k'=>k=k'
 |.string,.str=>True
 |.pointer e,.pt e'=>e=e'
 |.slice e,.sl e' s=>e=e'/\mQ P e s/\s≠0
 |.array n e,.ar n' e' s=>n=n'/\e=e'/\mQ P e s/\s≠0
 |.struct f,.st f'=>oD P f.toList f'
 |.func _ _ _,.fu=>True
 |.interface _,.gZ=>True
 |.map k e,.mp k' e'=>k=k'/\e=e'
 |_,.ot=>True
 |_,_=>False
def JQ:Tk->Bool
 |.bo | .it _ | .str=>true
 |_=>false
def yN (P:Program):Nat->List Field->List Tk->Prop
 |_,[],[]=>True
 |i, f :: fs, k :: ks => f.name ≠ "_" /\ f.offset = i /\ (∃ u, P.underlying f.type = some u /\ bz P u k) /\ JQ k = true /\ yN P (i + 1) fs ks
 |_,_,_=>False
def acX (P:Program) (t:Nat) (ks:List Tk):Prop:=∃ fs,P.underlying t=some (.struct fs)/\P.stoodInHeld t=false/\P.eqGuardType P.depth t=false/\yN P 0 fs.toList ks
structure aW (P:Program) (t:Nat) (y:Ty):Prop where
 info:∃ i z,P.info? t=some i/\i.size=y.size/\i.bytes=y.bytes/\i.zero=some z/\∀ g,VR g y.zero z
 und:∃ u,P.underlying t=some u/\ES u=y.agg/\bz P u y.k
 cm:y.cmp≠[]->acX P t y.cmp
def cZ (P:Program) (T:dA):Prop:=∀ t y,T t=some y->aW P t y
variable {P:Program} {T:dA}
theorem Dt {t:Nat} {b:Bool} (h:yM P t b) (w:World):(isAgg t).run P w = .ok b w:=by
 obtain⟨u,h,rfl⟩:=h
 simp only[isAgg,Sem.run_bind,run_underlying h,Result.andThen_ok]
 cases u <;> rfl
theorem ji {t s:Nat} (h:mQ P t s) (w:World):(sizeOf t).run P w = .ok s w:=by
 obtain⟨i,h,rfl⟩:=h
 simp[sizeOf,typeInfo,h]
theorem aW.sz {t:Nat} {y:Ty} (h:aW P t y):mQ P t y.size:=by
 obtain⟨i,z,h1,h2,_⟩:=h.info
 exact⟨i,h1,h2⟩
theorem aW.ag {t:Nat} {y:Ty} (h:aW P t y):yM P t y.agg:=by
 obtain⟨u,h1,h2,_⟩:=h.und
 exact⟨u,h1,h2⟩
theorem aW.zero {t:Nat} {y:Ty} (h:aW P t y):∃ z,(∀ w,(zeroValue t).run P w = .ok z w)/\∀ g,VR g y.zero z:=by
 obtain⟨i,z,h1,h2,h3,h4,h5⟩:=h.info
 exact⟨z,λw=>by simp[zeroValue,typeInfo,h1,h4],h5⟩
def mR:D->Bool
 |.st _ _ | .ar _ _=>true
 |_=>false
def gX:D->Bool
 |.lf v=>v.oneCell'
 |.tu _ | .bZ | .mo _ _ | .lo _ _ _ _ | .lb _ _ _ _ | .jK _ | .df=>false
 |_=>true
theorem FU {g:G} {d:D} {cs:List Value} (H:CR g false d cs):∃ v,VR g d v/\((mR d=true/\v = .agg ⟨cs⟩)\/(mR d=false/\cs=[v]))/\v.cells=⟨cs⟩:=by
 cases d with
 |st t ds =>
  simp only[CR,wrap]at H
  obtain⟨c,rfl,H⟩:=H
  refine⟨.agg ⟨cs⟩,?_,.inl ⟨rfl,rfl⟩,rfl⟩
  simp only[VR,CR,wrap]
  exact⟨cs,rfl,H⟩
 |ar s ds =>
  simp only[CR,wrap]at H
  obtain⟨c,rfl,H⟩:=H
  refine⟨.agg ⟨cs⟩,?_,.inl ⟨rfl,rfl⟩,rfl⟩
  simp only[VR,CR,wrap]
  exact⟨cs,rfl,H⟩
 |tu ds=>simp[CR]at H
 |bZ=>simp[CR]at H
 |lf v =>
  simp only[CR]at H
  obtain⟨rfl,h⟩:=H
  refine⟨v,by simp[VR,CR],.inr ⟨rfl,rfl⟩,?_⟩
  have:=h trivial
  cases v <;> first|rfl|simp[Value.oneCell']at this
 |sl t s xs =>
  have H':=H
  simp only[CR]at H
  obtain⟨a,c,rfl,H⟩:=H
  exact⟨_,by simpa only[VR,CR]using H',.inr ⟨rfl,rfl⟩,rfl⟩
 |fp d =>
  have H':=H
  simp only[CR]at H
  obtain⟨b,o,blk,k,rfl,H⟩:=H
  exact⟨_,by simpa only[VR,CR]using H',.inr ⟨rfl,rfl⟩,rfl⟩
 |ref i p =>
  have H':=H
  simp only[CR]at H
  obtain⟨l,h,rfl⟩:=H
  exact⟨_,by simpa only[VR,CR]using H',.inr ⟨rfl,rfl⟩,rfl⟩
 |own t i off n =>
  have H':=H
  simp only[CR]at H
  obtain⟨l,a,c,h,rfl,H⟩:=H
  exact⟨_,by simpa only[VR,CR]using H',.inr ⟨rfl,rfl⟩,rfl⟩
 |e0 =>
  have H':=H
  simp only[CR]at H
  obtain⟨a,rfl⟩:=H
  exact⟨_,by simpa only[VR,CR]using H',.inr ⟨rfl,rfl⟩,rfl⟩
 |fn f a b =>
  have H':=H
  simp only[CR]at H
  obtain⟨a',b',rfl,H⟩:=H
  exact⟨_,by simpa only[VR,CR]using H',.inr ⟨rfl,rfl⟩,rfl⟩
 |gZ t d =>
  have H':=H
  simp only[CR]at H
  obtain⟨v,rfl,H⟩:=H
  exact⟨_,by simpa only[VR,CR]using H',.inr ⟨rfl,rfl⟩,rfl⟩
 |mp i =>
  have H':=H
  simp only[CR]at H
  obtain⟨l,h,rfl⟩:=H
  exact⟨_,by simpa only[VR,CR]using H',.inr ⟨rfl,rfl⟩,rfl⟩
 |mo es c=>simp[CR]at H
 |yd i =>
  have H':=H
  simp only[CR]at H
  obtain⟨l,h,rfl⟩:=H
  exact⟨_,by simpa only[VR,CR]using H',.inr ⟨rfl,rfl⟩,rfl⟩
 |lo _ _ _ _=>simp[CR]at H
 |lb _ _ _ _=>simp[CR]at H
 |jK _=>simp[CR]at H
 |df=>simp[CR]at H
theorem wU {g:G} {d:D} {v:Value} (H:VR g d v) (h:gX d=true):CR g false d v.cells.toList:=by
 cases d with
 |st t ds =>
  simp only[VR,CR,wrap,if_true,List.cons.injEq,and_true]at H
  obtain⟨c,rfl,H⟩:=H
  simp only[CR,wrap]
  exact⟨c,rfl,H⟩
 |ar s ds =>
  simp only[VR,CR,wrap,if_true,List.cons.injEq,and_true]at H
  obtain⟨c,rfl,H⟩:=H
  simp only[CR,wrap]
  exact⟨c,rfl,H⟩
 |tu ds=>simp[gX]at h
 |bZ=>simp[gX]at h
 |lf v =>
  simp only[VR,CR,List.cons.injEq,and_true]at H
  obtain⟨rfl,_⟩:=H
  simp only[gX]at h
  simp only[CR,h,implies_true,and_true]
  cases v <;> first|rfl|simp[Value.oneCell']at h
 |sl t s xs =>
  have H':=H
  simp only[VR,CR,List.cons.injEq,and_true]at H
  obtain⟨a,c,rfl,H⟩:=H
  show CR g false _ [_]
  simpa only[VR,CR]using H'
 |fp d =>
  have H':=H
  simp only[VR,CR,List.cons.injEq,and_true]at H
  obtain⟨b,o,blk,k,rfl,H⟩:=H
  show CR g false _ [_]
  simpa only[VR,CR]using H'
 |ref i p =>
  have H':=H
  simp only[VR,CR,List.cons.injEq,and_true]at H
  obtain⟨l,h,rfl⟩:=H
  show CR g false _ [_]
  simpa only[VR,CR]using H'
 |own t i off n =>
  have H':=H
  simp only[VR,CR,List.cons.injEq,and_true]at H
  obtain⟨l,a,c,h,rfl,H⟩:=H
  show CR g false _ [_]
  simpa only[VR,CR]using H'
 |e0 =>
  have H':=H
  simp only[VR,CR,List.cons.injEq,and_true]at H
  obtain⟨a,rfl⟩:=H
  show CR g false _ [_]
  simpa only[VR,CR]using H'
 |fn f a b =>
  have H':=H
  simp only[VR,CR,List.cons.injEq,and_true]at H
  obtain⟨a',b',rfl,H⟩:=H
  show CR g false _ [_]
  simpa only[VR,CR]using H'
 |gZ t d =>
  have H':=H
  simp only[VR,CR,List.cons.injEq,and_true]at H
  obtain⟨v,rfl,H⟩:=H
  show CR g false _ [_]
  simpa only[VR,CR]using H'
 |mp i =>
  have H':=H
  simp only[VR,CR,List.cons.injEq,and_true]at H
  obtain⟨l,h,rfl⟩:=H
  show CR g false _ [_]
  simpa only[VR,CR]using H'
 |mo es c=>simp[gX]at h
 |yd i =>
  have H':=H
  simp only[VR,CR,List.cons.injEq,and_true]at H
  obtain⟨l,h,rfl⟩:=H
  show CR g false _ [_]
  simpa only[VR,CR]using H'
 |lo _ _ _ _=>simp[gX]at h
 |lb _ _ _ _=>simp[gX]at h
 |jK _=>simp[gX]at h
 |df=>simp[gX]at h
theorem nI (b o i:Nat):(⟨b,o,none⟩:Addr).add i=⟨b,o+i,none⟩:=by
 unfold Addr.add
 split
 · rename_i h;subst h;rfl
 · rfl
theorem vg {w:World} {b:Nat} {blk:List Value} (h:mem w b=some blk) (o:Nat):w.cell? ⟨b,o,none⟩=blk[o]? := by
 unfold mem at h
 split at h
 · rename_i h1
   simp only[Option.some.injEq]at h
   subst h
   simp[World.cell?,h1]
 · simp at h
theorem Nb {w:World} {b o n:Nat} {blk:List Value} (h:mem w b=some blk) (hl:o+n<=blk.length) :
 (loadCells ⟨b,o,none⟩ n).run P w = .ok ⟨bu blk o n⟩ w:=by
 have e:(bu blk o n).length=n:=by simp[bu];omega
 have:=run_loadCells_list (P:=P) w ⟨b,o,none⟩ (bu blk o n) (λj v hj=>by
  rw[nI,vg h]
  simp only[bu,List.getElem?_take,List.getElem?_drop]at hj
  split at hj
  · exact hj
  · simp at hj)
 rwa[e]at this
theorem RN {g:G} {w:World} {b o t:Nat} {blk:List Value} {d:D} {y:Ty} (hy:aW P t y) (h:mem w b=some blk) (hl:o+sz d<=blk.length)
 (H:CR g false d (bu blk o (sz d))) (h1:mR d=y.agg) (h2:sz d=y.size):∃ v,(Instr.loadAt t (.pointer (some ⟨b,o,none⟩))).run P w = .ok v w/\VR g d v:=by
 obtain⟨v,hv,hc,_⟩:=FU H
 refine⟨v,?_,hv⟩
 simp only[Instr.loadAt,Instr.sureAddr,loadVar,Sem.run_bind,Sem.run_pure,Result.andThen_ok,Dt hy.ag]
 rcases hc with⟨ha,rfl⟩|⟨ha,hc⟩
 · rw[← h1,ha]
   simp only[if_true,Sem.run_bind,ji hy.sz,Result.andThen_ok,← h2,Nb h hl,Sem.run_pure]
 · rw[← h1,ha]
   simp only[Bool.false_eq_true,if_false]
   have hs:=(CR.len _ _ H).1
   rw[hc]at hs
   simp only[List.length_singleton]at hs
   rw[← hs]at hc
   have:blk[o]? = some v:=by
    have:=congrArg (·[0]?) hc
    simpa[bu]using this
   simp[run_load,vg h,this]
theorem Dh:∀ (xs:List Value) (w:World) (b o i:Nat) (blk:List Value),row w b blk->o+i+xs.length<=blk.length->(∀ v∈xs,v.oneCell'=true) ->
 ∃ w',(storeCells ⟨b,o,none⟩ xs i).run P w = .ok () w'/\row w' b (splice blk (o+i) xs)/\(∀ c,c≠b->w'.heap[c]? = w.heap[c]?)/\w'.heap.size=w.heap.size/\Sm w w'
 | [],w,b,o,i,blk,h,hl,h1=>by
  refine⟨w,rfl,?_,λ_ _=>rfl,rfl,.refl w⟩
  simpa[splice]using h
 |v :: xs,w,b,o,i,blk,h,hl,h1=>by
  simp only[List.length_cons]at hl
  obtain⟨el,fz,hb,hf⟩:=h
  have hm:mem w b=some blk:=by simp[mem,hb]
  have hi:o+i<blk.length:=by omega
  have hfr:w.frozen? ⟨b,o+i,none⟩=false:=by
   have:=hf (o+i) hi
   simp only[World.frozen?,hb]
   simpa using this
  have hst:(store ((⟨b,o,none⟩:Addr).add i) v).run P w = .ok () (w.setCell ⟨b,o+i,none⟩ v):=by
   rw[nI,run_store P w _ v _ (h1 v (by simp)),vg hm,List.getElem?_eq_getElem hi]
   simp[hfr]
  have hlt:=(Array.getElem?_eq_some_iff.1 hb).1
  have hrow:row (w.setCell ⟨b,o+i,none⟩ v) b (blk.set (o+i) v):=by
   refine⟨el,fz,?_,by simpa using hf⟩
   simp[World.setCell,Array.getElem?_modify,hb]
  obtain⟨w',h2,h3,h4,h5,h6⟩:=Dh xs _ b o (i+1) _ hrow (by simp;omega) (λx hx=>h1 x (by simp[hx]))
  refine⟨w',?_,?_,λc hc => ?_,?_,h6.os,h6.tape,h6.output⟩
  · simp only[storeCells,Sem.run_bind,hst,Result.andThen_ok]
    exact h2
  · have e:splice (blk.set (o+i) v) (o+(i+1)) xs=splice blk (o+i) (v :: xs):=by
     simp only[splice,List.length_cons]
     have e1:List.take (o+(i+1)) (blk.set (o+i) v)=List.take (o+i) blk ++ [v]:=by
      rw[show o+(i+1)=o+i+1 by omega,List.take_add_one,List.take_set_of_le (by omega)]
      simp[hi]
     rw[e1,List.drop_set_of_lt (by omega)]
     simp[show o+(i+1)+xs.length=o+i+(xs.length+1) by omega]
    rwa[e]at h3
  · rw[h4 c hc]
    simp[World.setCell,Array.getElem?_modify,Ne.symm hc]
  · rw[h5];simp
end Go.Proofs.YtadecgbblajifaaGreatDoor.DV
namespace Go.Proofs.YtadecgbblajifaaGreatDoor
end Go.Proofs.YtadecgbblajifaaGreatDoor
namespace Go.Proofs.YtadecgbblajifaaGreatDoor.DV
open Go
variable {P:Program}
def Does (P:Program) (o:Oper) (a:Act) (w:World) (K:Value->World->Prop):Prop :=
 ∃ v w',((execOp a.eval o).run P w = .ok (.value v) w'\/((execOp a.eval o).run P w = .ok .skip w'/\v=undef))/\K v w'
theorem Does.val {o:Oper} {a:Act} {w w':World} {K:Value->World->Prop} {v:Value} (h:(execOp a.eval o).run P w = .ok (.value v) w') (hK:K v w'):Does P o a w K:=⟨v,w',.inl h,hK⟩
theorem Does.skip {o:Oper} {a:Act} {w w':World} {K:Value->World->Prop} (h:(execOp a.eval o).run P w = .ok .skip w') (hK:K undef w'):Does P o a w K:=⟨_,w',.inr ⟨h,rfl⟩,hK⟩
theorem Does.mono {o:Oper} {a:Act} {w:World} {K K':Value->World->Prop} (h:Does P o a w K) (hk:∀ v w',K v w'->K' v w'):Does P o a w K':=by
 obtain⟨v,w',h,k⟩:=h
 exact⟨v,w',h,hk _ _ k⟩
def Out (g:G) (σ:au) (w:World) (N:Nat->Prop) (d:D) (e:Eff) (v:Value) (w':World):Prop :=
 ∃ g',Rel g' (app e σ) w'/\Ext g σ w N g' (app e σ) w'/\VR g' d v
theorem j5 {n i:Nat} (d:Option D) (e:Eff) (h:i≠n):aH ((n,d) :: e) i=aH e i:=by
 have:Nat.beq n i=false:=by
  cases hb:Nat.beq n i with
  |false=>rfl
  |true=>exact absurd (Nat.eq_of_beq_eq_true hb).symm h
 simp[aH,this]
theorem xM (n:Nat) (d:Option D) (e:Eff):aH ((n,d) :: e) n=some d:=by simp[aH]
theorem Out.pure {g:G} {σ:au} {w:World} {N:Nat->Prop} {d:D} {v:Value} (R:Rel g σ w) (h:VR g d v):Out g σ w N d [] v w :=
 ⟨g,R,Ext.refl g σ w N,h⟩
theorem OM (w:World) (cs:List Value) (el:TypeId):row { w with heap:=w.heap.push (.cells ⟨cs⟩ el (0,0)) } w.heap.size cs :=
 ⟨el,(0,0),by simp,λk _ h=>by omega⟩
theorem Out.new {g:G} {σ:au} {w w':World} {n:Nat} {d:D} {blk:List Value} (s:Nat) (R:Rel g σ w) (hn:g.ae n=none)
 (hrow:row w' w.heap.size blk) (hoth:∀ b,b<w.heap.size->w'.heap[b]? = w.heap[b]?) (hp:w.heap.size<=w'.heap.size)
 (hl:sz d<=blk.length) (hcr:CR g false d (blk.take (sz d))) (hs:jr ⟨w.heap.size,0,blk.length,s⟩ d) (x:D) (v:Value)
 (hx:∀ g',g'.ae n=some ⟨w.heap.size,0,blk.length,s⟩->VR g' x v) (hsm:Sm w w':=by exact⟨rfl,rfl,rfl⟩):Out g σ w (· = n) x [(n,some d)] v w':=by
 have hf:g.fm w.heap.size=none:=by
  cases h:g.fm w.heap.size with
  |none=>rfl
  |some c=>have:=sG (R.fm _ _ h);omega
 have h:=Af R n ⟨w.heap.size,0,blk.length,s⟩ d [(n,some d)] (· = n) (λ_ le h1 h2=>je.row (blk:=blk) hrow (by simp) hl hs (by simpa[bu]using hcr) le h1 h2) (.inr ⟨hn,rfl⟩) hf (λb _ hb=>hoth b hb) hp
  (by simp[aH]) (λi hi => .inl (by rw[j5 _ _ hi];rfl)) (λj m hj hm hb=>by
   cases hd:σ j with
   |none=>exact absurd hd hj
   |some d' =>
    obtain⟨l,a⟩:=R.ob j d' hd
    have:l=m:=by have:=a.ae;rw[hm]at this;simpa using this.symm
    subst this
    have:=a.lt
    simp only at hb;omega) (.inl (Nat.le_refl _)) (.inr rfl) hsm
 exact⟨_,h.1,h.2,hx _ (by simp[G.put])⟩
theorem Out.set {g:G} {σ:au} {w w':World} {N:Nat->Prop} {i:Nat} {c d:D} {l:Loc} {blk ET:List Value} (R:Rel g σ w) (hc:σ i=some c) (H:Has g w i c l blk)
 (hrow:row w' l.b ET) (hlen:ET.length=blk.length) (hoth:∀ b,b≠l.b->w'.heap[b]? = w.heap[b]?) (hp:w'.heap.size=w.heap.size)
 (hsz:sz d=sz c) (hcr:CR g false d (bu ET l.o (sz d))) (hs:jr l d) (x:D) (v:Value) (hx:VR g x v) (hsm:Sm w w'):Out g σ w N x [(i,some d)] v w':=by
 have h:=Af R i l d [(i,some d)] N (λ_ le h1 h2=>je.row hrow (by rw[hlen];exact H.len) (by rw[hsz];exact H.sz) hs hcr le h1 h2) (.inl H.ae) H.fm (λb hb _=>hoth b hb) (by omega)
  (by simp[aH]) (λj hj => .inl (by rw[j5 _ _ hj];rfl)) (λj m hj hm hb => .inl (R.dj j i m l hj (by simp[hc]) hm H.ae hb)) (.inr ⟨i,l,by simp[hc],H.ae,rfl⟩) (.inl (by simp[hc])) hsm
 exact⟨_,h.1,h.2,CR.mono h.2.le _ _ _ hx⟩
theorem aC.get {g:G} : ∀ (ds:List D) (vs:List Value) (k:Nat) (d:D),aC g ds vs->ds[k]? = some d->∃ v,vs[k]? = some v/\VR g d v
 | [],vs,k,d,_,h=>by simp at h
 |e :: ds,vs,0,d,H,h=>by
  simp only[aC]at H
  obtain⟨v,vs',rfl,h1,_⟩:=H
  simp only[List.getElem?_cons_zero,Option.some.injEq]at h
  subst h
  exact⟨v,rfl,h1⟩
 |e :: ds,vs,k+1,d,H,h=>by
  simp only[aC]at H
  obtain⟨v,vs',rfl,_,h1⟩:=H
  simp only[List.getElem?_cons_succ]at h ⊢
  exact aC.get ds vs' k d h1 h
def I6 (y:Ty) (n:Nat):Option (D × Eff):=if gX y.zero then some (.ref n [],[(n,some y.zero)])else none
def rowOf:D->Nat
 |.ar s _=>s
 |_=>0
theorem Zp (b o len:Nat) (d:D):jr ⟨b,o,len,rowOf d⟩ d:=by cases d <;> simp[jr,rowOf]
theorem NA {g:G} {σ:au} {w:World} {n t:Nat} {d:D} {v:Value} (R:Rel g σ w) (hn:g.ae n=none) (hv:VR g d v) (hc:gX d=true) :
 ∃ w',(newVar t v).run P w = .ok ⟨w.heap.size,0,none⟩ w'/\Out g σ w (· = n) (.ref n []) [(n,some d)] (.pointer (some ⟨w.heap.size,0,none⟩)) w':=by
 have h:=wU hv hc
 have hl:=(CR.len _ _ h).1
 refine⟨_,rfl,?_⟩
 refine Out.new (rowOf d) R hn (OM w v.cells.toList t) (λb hb=>by simp[Array.getElem?_push,Nat.ne_of_lt hb]) (by simp) (by omega) (by rw[← hl,List.take_length];exact h) (Zp _ _ _ d) _ _ ?_
 intro g' hg
 simp only[VR,CR]
 exact⟨_,hg,rfl⟩
theorem X4 {y:Ty} {g:G} {σ:au} {w:World} {a:Act} {o:Oper} {t n:Nat} {d:D} {e:Eff} (hy:aW P t y) (ho:o.op = .alloc t) (h:I6 y n=some (d,e)) (R:Rel g σ w) (hn:g.ae n=none) :
 Does P o a w (Out g σ w (· = n) d e):=by
 unfold I6 at h
 split at h
 · rename_i hc
   simp only[Option.some.injEq,Prod.mk.injEq]at h
   obtain⟨rfl,rfl⟩:=h
   obtain⟨z,hz,hv⟩:=hy.zero
   obtain⟨w',h1,h2⟩:=NA (P:=P) (t:=t) R hn (hv g) hc
   refine Does.val (v := .pointer (some ⟨w.heap.size,0,none⟩)) (w':=w') ?_ h2
   simp[execOp,ho,Instr.alloc,Sem.run_bind,hz,h1]
 · simp at h
def JR (n:Nat) (x:D):Option (D × Eff):=if gX x then some (.ref n [],[(n,some x)])else none
theorem Zq {g:G} {σ:au} {w:World} {a:Act} {o:Oper} {t n:Nat} {x:Operand} {dx d:D} {e:Eff} (ho:o.op = .box t x) (h:JR n dx=some (d,e)) (R:Rel g σ w) (hn:g.ae n=none)
 (hx:VR g dx (a.eval x)):Does P o a w (Out g σ w (· = n) d e):=by
 unfold JR at h
 split at h
 · rename_i hc
   simp only[Option.some.injEq,Prod.mk.injEq]at h
   obtain⟨rfl,rfl⟩:=h
   obtain⟨w',h1,h2⟩:=NA (P:=P) (t:=t) R hn hx hc
   refine Does.val (v := .pointer (some ⟨w.heap.size,0,none⟩)) (w':=w') ?_ h2
   simp[execOp,ho,Instr.box,h1]
 · simp at h
def A9 (y:Ty) (d:D):Bool:=(mR d == y.agg) && Nat.beq (sz d) y.size
def vL (y:Ty) (σ:au) (x:D):Option D:=match x with
 |.ref i p=>match σ i with
  |some c=>match fU c with
   |true=>none
   |false=>match wT c p with
    |some d=>if A9 y d then some d else none
    |none=>none
  |none=>none
 |.fp d=>if A9 y d then some d else none
 |_=>none
theorem Ag {y:Ty} {d:D} (h:A9 y d=true):mR d=y.agg/\sz d=y.size:=by
 simp only[A9,Bool.and_eq_true,beq_iff_eq]at h
 exact⟨h.1,Nat.eq_of_beq_eq_true h.2⟩
theorem NC {y:Ty} {g:G} {σ:au} {w:World} {t:Nat} {vx:Value} {dx d:D} (hy:aW P t y) (h:vL y σ dx=some d) (R:Rel g σ w)
 (hx:VR g dx vx):∃ v,(Instr.loadAt t vx).run P w = .ok v w/\VR g d v/\∃ ad,vx = .pointer (some ad):=by
 unfold vL at h
 split at h
 · rename_i i p
   split at h
   case h_2=>simp at h
   rename_i c hc
   split at h
   case h_1=>simp at h
   rename_i hmo
   split at h
   case h_2=>simp at h
   rename_i d' hd
   split at h
   case isFalse=>simp at h
   rename_i hf
   simp only[Option.some.injEq]at h
   subst h
   obtain⟨l,blk,H⟩:=R.has hc hmo
   simp only[VR,CR,List.cons.injEq,and_true]at hx
   obtain⟨l',hl',hx⟩:=hx
   have:l'=l:=by have:=H.ae;rw[hl']at this;simpa using this
   subst this
   have hn:=Ee p c d' _ H.cr hd
   have hs:(bu blk l'.o (sz c)).length=sz c:=(CR.len _ _ H.cr).1
   rw[hs]at hn
   have hL:=H.len
   have hS:=H.sz
   have e1:List.take (sz d') (List.drop (dI p) (bu blk l'.o (sz c)))=bu blk (l'.o+dI p) (sz d'):=by
    simp only[bu,List.drop_take,List.drop_drop,List.take_take]
    congr 1;omega
   rw[e1]at hn
   obtain⟨v,h1,h2⟩:=RN (P:=P) hy H.row.mem (by omega) hn.1 (Ag hf).1 (Ag hf).2
   exact⟨v,by rw[hx];exact h1,h2,_,hx⟩
 · split at h
   case isFalse=>simp at h
   rename_i d' hf
   simp only[Option.some.injEq]at h
   subst h
   simp only[VR,CR,List.cons.injEq,and_true]at hx
   obtain⟨b,off,blk,k,hx,hm,hl,hcr⟩:=hx
   have hk:=(CR.len _ _ hcr).1
   simp only[List.length_take,List.length_drop]at hk
   have hk:k=sz d':=by omega
   subst hk
   obtain⟨v,h1,h2⟩:=RN (P:=P) hy (R.fm _ _ hm) hl hcr (Ag hf).1 (Ag hf).2
   exact⟨v,by rw[hx];exact h1,h2,_,hx⟩
 · simp at h
theorem YG {y:Ty} {g:G} {σ:au} {w:World} {N:Nat->Prop} {a:Act} {o:Oper} {t:Nat} {x:Operand} {dx d:D} (hy:aW P t y) (ho:o.op = .load t x) (h:vL y σ dx=some d) (R:Rel g σ w)
 (hx:VR g dx (a.eval x)):Does P o a w (Out g σ w N d []):=by
 obtain⟨v,h1,h2,_⟩:=NC (P:=P) hy h R hx
 exact Does.val (v:=v) (w':=w) (by simp[execOp,ho,h1]) (Out.pure R h2)
def I7 (y:Ty) (σ:au) (x v:D):Option Eff:=match x with
 |.ref i p=>match σ i with
  |some c=>match fU c with
   |true=>none
   |false=>match put c p v with
    |some c'=>if gX v && Nat.beq (sz v) y.size then some [(i,some c')]else none
    |none=>none
  |none=>none
 |_=>none
theorem _I {l:Loc} : ∀ (p:List (Nat × Nat)) (c x c':D),put c p x=some c'->jr l c->jr l c'
 | [],c,x,c',h,hr=>by
  simp only[put]at h
  split at h
  · rename_i he
    simp only[Option.some.injEq]at h
    subst h
    have:=(Bool.and_eq_true_iff.1 he).2
    cases x <;> first|trivial|(cases c <;> simp only[PD,Bool.false_eq_true]at this;simp only[jr]at hr ⊢;rw[hr];exact Nat.eq_of_beq_eq_true this)
  · simp at h
 |(k,o) :: p,c,x,c',h,hr=>by
  simp only[put]at h
  split at h
  · split at h
    · simp only[Option.some.injEq]at h
      subst h
      cases c <;> simp_all [wh,jr]
    · simp at h
  · simp at h
theorem X5 {y:Ty} {g:G} {σ:au} {w:World} {N:Nat->Prop} {a:Act} {o:Oper} {t:Nat} {x v:Operand} {dx dv:D} {e:Eff} (hy:aW P t y) (ho:o.op = .store t x v) (h:I7 y σ dx dv=some e) (R:Rel g σ w)
 (hx:VR g dx (a.eval x)) (hv:VR g dv (a.eval v)):Does P o a w (Out g σ w N .bZ e):=by
 unfold I7 at h
 split at h
 case h_2=>simp at h
 rename_i i p
 split at h
 case h_2=>simp at h
 rename_i c hc
 split at h
 case h_1=>simp at h
 rename_i hmo
 split at h
 case h_2=>simp at h
 rename_i c' hp
 split at h
 case isFalse=>simp at h
 rename_i hf
 simp only[Option.some.injEq]at h
 subst h
 simp only[Bool.and_eq_true]at hf
 have hs:=Nat.eq_of_beq_eq_true hf.2
 obtain⟨l,blk,H⟩:=R.has hc hmo
 simp only[VR,CR,List.cons.injEq,and_true]at hx
 obtain⟨l',hl',hx⟩:=hx
 have:l'=l:=by have:=H.ae;rw[hl']at this;simpa using this
 subst this
 have h1:=wU hv hf.1
 have zh:=CR.len _ _ h1
 have h2:=Jj dv _ h1 p c c' _ H.cr hp
 have hs2:(bu blk l'.o (sz c)).length=sz c:=(CR.len _ _ H.cr).1
 rw[hs2]at h2
 have hL:=H.len
 have hS:=H.sz
 obtain⟨w',h3,h4,h5,h6,h7⟩:=Dh (P:=P) (a.eval v).cells.toList w l'.b (l'.o+dI p) 0 blk H.row (by omega) zh.2
 refine Does.skip (w':=w') ?_ ?_
 · have:(a.eval v).cells.size=y.size:=by
    rw[← hs,← zh.1];simp
   simp[execOp,ho,hx,Instr.storeAt,Instr.sureAddr,storeVar,Sem.run_bind,ji hy.sz,this,h3]
 · refine Out.set R hc H h4 ?_ h5 h6 h2.2.1 ?_ ?_ _ _ ?_ h7
   · simp only[splice,List.length_append,List.length_take,List.length_drop];omega
   · rw[h2.2.1]
     have:bu (splice blk (l'.o+dI p+0) (a.eval v).cells.toList) l'.o (sz c)=splice (bu blk l'.o (sz c)) (dI p) (a.eval v).cells.toList:=by
      apply List.ext_getElem?
      intro j
      simp only[bu,splice,List.getElem?_take,List.getElem?_drop,List.getElem?_append,List.length_take,List.length_drop,Nat.add_zero]
      repeat' split
      all_goals first|omega|rfl|(congr 1;omega)|skip
     rw[this]
     exact h2.1
   · exact _I _ _ _ _ hp H.s
   · simp[VR,CR]
end Go.Proofs.YtadecgbblajifaaGreatDoor.DV
namespace Go.Proofs.YtadecgbblajifaaGreatDoor
end Go.Proofs.YtadecgbblajifaaGreatDoor
