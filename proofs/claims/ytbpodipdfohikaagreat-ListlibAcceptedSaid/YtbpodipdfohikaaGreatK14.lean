import Derived.RangeFuncNested
import Derived.RangeFuncFrom
import Derived.RangeFuncBound
import Derived.RangeFuncLeaves
import Derived.Test.YtbpodipdfohikaaGreatK10
set_option linter.unusedSimpArgs false
set_option linter.unusedVariables false
set_option maxRecDepth 100000
set_option maxHeartbeats 25600000
namespace Go.Proofs.YtbpodipdfohikaaGreat
section
open Go.RowKit
def QA (Ts:Nat->TypeId->Bool) (B:Nat) (W:World) (b:Nat):Prop:=b<B\/∃ cs t z,W.heap[b]? = some (.cells cs t z)/\Ts b t=true
def Ew (W:World) (b:Nat):Prop:=∃ o,W.heap[b]? = some o/\o.isCells=false
def wU (Ts:Nat->TypeId->Bool) (W:World) (b:Nat):Prop:=∃ cs t z,W.heap[b]? = some (.cells cs t z)/\Ts b t=false
abbrev nU (Ts:Nat->TypeId->Bool) (B:Nat) (W W':World):Prop:=Mv (λb=>¬ QA Ts B W b) W W'
abbrev qV (Ts:Nat->TypeId->Bool) (B:Nat) (W W':World):Prop:=Mv (λb=>¬ (QA Ts B W b\/Ew W b)) W W'
abbrev iA (Ts:Nat->TypeId->Bool) (W W':World):Prop:=Mv (λb=>¬ wU Ts W b) W W'
abbrev oZ (Ts:Nat->TypeId->Bool) (B:Nat) (W W':World):Prop:=Mv (λb=>¬ (wU Ts W b\/(B<=b/\Ew W b))) W W'
theorem TB {p:World->Nat->Prop} (hp:∀ A B b,B.heap[b]? = A.heap[b]? -> p A b->p B b) {A B C:World} (h:Mv (λb=>¬ p A b) A B) (k:Mv (λb=>¬ p B b) B C):Mv (λb=>¬ p A b) A C :=
 h.trans k (λb hb=>by
  rcases Nat.lt_or_ge b A.heap.size with hl|hl
  · exact .inl λha=>hb (hp A B b (h.block b hl (λe=>e ha)) ha)
  · exact .inr hl)
theorem Wn {Ts:Nat->TypeId->Bool} (X Y:World) (b:Nat) (h:Y.heap[b]? = X.heap[b]?):wU Ts X b->wU Ts Y b
 |⟨cs,t,z,hc,ht⟩=>⟨cs,t,z,by rw[h];exact hc,ht⟩
theorem qz {Ts:Nat->TypeId->Bool} {X Y Z:World} (h:iA Ts X Y) (k:iA Ts Y Z):iA Ts X Z:=TB (p:=wU Ts) Wn h k
theorem Mv.putObj {O:Nat->Prop} (W:World) (l:Nat) (o:Obj) (hO:O l):Mv O W (W.putObj l o):=(Mv.refl O W).grown (grownBy_putObj' W l o) (λk e=>by cases e;exact .inl hO)
theorem wM {Ts:Nat->TypeId->Bool} {B:Nat} {W:World} {l:Nat} {o:Obj} (hB:B<=l) (hl:W.heap[l]? = some o) (ho:o.isCells=false) (o':Obj):nU Ts B W (W.putObj l o') :=
 Mv.putObj W l o' (by
  rintro(h|⟨cs,t,z,hc,-⟩)
  · omega
  · rw[hl]at hc;cases hc;cases ho)
theorem KI {Ts:Nat->TypeId->Bool} {W:World} {l:Nat} {o:Obj} (hl:W.heap[l]? = some o) (ho:o.isCells=false) (o':Obj):iA Ts W (W.putObj l o') :=
 Mv.putObj W l o' (by
  rintro⟨cs,t,z,hc,-⟩
  rw[hl]at hc;cases hc;cases ho)
theorem oZ.bd {Ts:Nat->TypeId->Bool} {B:Nat} {W W':World} (h:oZ Ts B W W'):iA Ts W W':=h.mono (λ_ hb => .inl λe=>hb (.inl e))
theorem oZ.same {Ts:Nat->TypeId->Bool} {B:Nat} {W W':World} (h:oZ Ts B W W') {l:Nat} {o:Obj} (hl:W.heap[l]? = some o) (ho:o.isCells=false) (hB:B<=l):W'.heap[l]? = some o :=
 (h.block l (Array.getElem?_eq_some_iff.1 hl).1 (λe=>e (.inr ⟨hB,o,hl,ho⟩))).trans hl
theorem qV.same {Ts:Nat->TypeId->Bool} {B:Nat} {W W':World} (h:qV Ts B W W') {l:Nat} {o:Obj} (hl:W.heap[l]? = some o) (ho:o.isCells=false):W'.heap[l]? = some o :=
 (h.block l (Array.getElem?_eq_some_iff.1 hl).1 (λe=>e (.inr ⟨o,hl,ho⟩))).trans hl
def Ms {α:Type} (P:Program) (Ts:Nat->TypeId->Bool) (g:Nat) (lb:Array Value) (encs:α->Array Value) (S Sp:List α->Prop) (w:World):Prop :=
 ∀ (l:Nat) (J Jx:List α->World->Prop) (W:World),Mv (λb=>False) w W->(∀ s X Y,J s X->qV Ts W.heap.size X Y->J s Y)->(∀ s X Y,Jx s X->qV Ts W.heap.size X Y->Jx s Y) ->
  (∀ pre x W1,J pre W1->Sp (pre ++ [x])->YieldAt Fence.wide 10 P l (encs x) W1 λe W' =>
   (e = .returned (.bool true)/\J (pre ++ [x]) W'/\iA Ts W1 W')\/(e = .returned (.bool false)/\Jx (pre ++ [x]) W')) ->
  J [] W->Calls P g (#[.func (.yield l) #[] #[]] ++ lb) W λe W'=>(∃ v,e = .returned v)/\((∃ xs,S xs/\J xs W')\/(∃ pre,Sp pre/\Jx pre W'))
def LA {α:Type} (P:Program) (Ts:Nat->TypeId->Bool) (g:Nat) (lb:Array Value) (encs:α->Array Value) (S Sp:List α->Prop) (M:α->World->Prop) (w:World):Prop :=
 ∀ (l:Nat) (J Jx:List α->World->Prop) (W:World),Mv (λb=>False) w W->(∀ s X Y,J s X->qV Ts W.heap.size X Y->J s Y)->(∀ s X Y,Jx s X->qV Ts W.heap.size X Y->Jx s Y) ->
  (∀ pre x W1,J pre W1->Sp (pre ++ [x])->M x W1->YieldAt Fence.wide 10 P l (encs x) W1 λe W' =>
   (e = .returned (.bool true)/\J (pre ++ [x]) W'/\iA Ts W1 W')\/(e = .returned (.bool false)/\Jx (pre ++ [x]) W')) ->
  J [] W->Calls P g (#[.func (.yield l) #[] #[]] ++ lb) W λe W'=>(∃ v,e = .returned v)/\((∃ xs,S xs/\J xs W')\/(∃ pre,Sp pre/\Jx pre W'))
def bodyPostC {α:Type} (Ts:Nat->TypeId->Bool) (B:Nat) (I:List α->World->Prop) (Ix:Code->List α->World->Prop) (xs:List α) (W:World):Exit->Act->World->Prop
 |.normal,_,W'=>oZ Ts B W W'/\I xs W'
 |.ret,_,W'=>oZ Ts B W W'/\Ix .ret xs W'
 |.exit id,_,W'=>oZ Ts B W W'/\Ix (.exit id) xs W'
 |.goto t,_,W'=>oZ Ts B W W'/\Ix (.goto t) xs W'
 |.panic _,_,_=>False
 |.outgrown,_,_=>False
theorem Kt {α:Type} {P:Program} (Ts:Nat->TypeId->Bool) {g:Operand} {ps:Array Tmp} {assign body:Code} {Q:Exit->Act->World->Prop} {a:Act} {w:World} {gf:Nat} {lb:Array Value} (hg:a.eval g = .func (.func gf) #[] lb) (eg:∀ args w,(callFunc gf args).run P w = .ok (.enter gf args) w)
 {encs:α->Array Value} {S Sp:List α->Prop} {M:α->World->Prop} {w0:World} (hseq:LA P Ts gf lb encs S Sp M w0) (_C:∀ x X Y,M x X->Mv (λ_=>False) X Y->M x Y) (_D:∀ x X l o o',M x X->X.heap[l]? = some o->o.isCells=false->M x (X.putObj l o')) (hb0:Mv (λ_=>False) w0 w) (hps:∀ x,(encs x).size=ps.size)
 (I:List α->World->Prop) (Ix:Code->List α->World->Prop) (hI:∀ s X Y,I s X->nU Ts w.heap.size X Y->I s Y) (hIx:∀ c s X Y,Ix c s X->nU Ts w.heap.size X Y->Ix c s Y) (h0:I [] w)
 (Ax:Act->α->Act->World->Prop) (hAx:∀ x a' X l o o',Ax a x a' X->X.heap[l]? = some o->o.isCells=false->Ax a x a' (X.putObj l o'))
 (hassign:∀ (l:Nat) (pre:List α) (x:α) (W:World) (K:Act->World->Prop),I pre W->(∀ a' W',Mv (λ_=>False) W W'->I pre W'->Ax a x a' W'->K a' W') ->
  assign.wpIn (Fence.wide.inRound l) 10 P (Exit.then K (λ_ _ _=>False)) { tmps:=(ps.zip (encs x)).foldl (λt (p,v)=>t.setIfInBounds p v) a.tmps,defers:=[] } W)
 (hbody:∀ (l:Nat) (pre:List α) (x:α) (a':Act) (W:World),I pre W->Ax a x a' W->Sp (pre ++ [x])->M x W->body.wpIn (Fence.wide.inRound l) 10 P (bodyPostC Ts w.heap.size I Ix (pre ++ [x]) W) a' W)
 (hdone:∀ (D:Nat) (xs:List α) (W:World),w.heap.size<=D->S xs->I xs W->W.heap[D]? = some (.deferred (some []))->Q .normal { a with defers := { target := .collected D,args:=#[] } :: a.defers } W)
 (hstop:∀ (D:Nat) (c:Code) (pre:List α) (W:World),w.heap.size<=D->Sp pre->Ix c pre W->W.heap[D]? = some (.deferred (some []))->c.wp P Q { a with defers := { target := .collected D,args:=#[] } :: a.defers } W) :
 (Code.rangeFunc g ps assign body).wp P Q a w:=by
 refine(wpIn_wide (n:=0)).1 (wpIn_rangeFunc ?_)
 intro fn hfn
 rw[Fence.wide_round]
 obtain⟨rec,hrec⟩:∃ rec:LoopState->Option Code->Loop,rec=λst pe => { state:=st,pending:=pe,fn,tmps:=a.tmps,params:=ps,assign,body,defers:=w.heap.size } := ⟨_,rfl⟩
 obtain⟨W1,hW1⟩:∃ W1,(w.alloc (.deferred (some []))).alloc (.loop (rec .ready none))=W1:=⟨_,rfl⟩
 have hL1:W1.heap[w.heap.size+1]? = some (.loop (rec .ready none)):=by
  rw[← hW1];have:=World.alloc_heap_new (w.alloc (.deferred (some []))) (.loop (rec .ready none));rwa[World.size_alloc]at this
 have hK1:W1.heap[w.heap.size]? = some (.deferred (some [])):=by
  rw[← hW1];exact(Below.heap_alloc _ _ _ (by simp)).trans (World.alloc_heap_new w _)
 have hS1:W1.heap.size=w.heap.size+2:=by rw[← hW1];simp
 have hI1:I [] W1:=by rw[← hW1];exact hI _ _ _ h0 (((Mv.refl _ w).alloc _).alloc _)
 have hb1:Mv (λ_=>False) w0 W1:=by rw[← hW1];exact(hb0.alloc _).alloc _
 refine⟨w.heap.size+1,[{ target := .collected w.heap.size,args:=#[] }],W1,{ target := .fn (.func gf) lb,args:=#[.func (.yield (w.heap.size+1)) #[] #[]] },W1,gf,
  #[.func (.yield (w.heap.size+1)) #[] #[]] ++ lb,W1,?_,?_,λ_ _=>trivial,?_,λe=>by simp[Fence.wide]at e,?_⟩
 · rw[← hW1,hrec];exact run_enterLoop_outer _ _ _ _ _
 · simp only[resolve,hg]
   simp[go_sem]
 · simp[invoke,go_sem,eg]
 · have hnw:∀ {X Y:World},qV Ts W1.heap.size X Y->nU Ts w.heap.size X Y:=λh=>h.mono (λb hb => .inl λe=>hb (.inl (e.elim (λh => .inl (by omega)) .inr)))
   refine callsIn_wide.2 ((hseq (w.heap.size+1)
    (λpre W=>I pre W/\W.heap[w.heap.size+1]? = some (.loop (rec .ready none))/\W.heap[w.heap.size]? = some (.deferred (some [])))
    (λpre W=>∃ c,Ix c pre W/\W.heap[w.heap.size+1]? = some (.loop (rec .done (some c)))/\W.heap[w.heap.size]? = some (.deferred (some [])))
    W1 hb1 (λs X Y hs hm=>⟨hI s X Y hs.1 (hnw hm),hm.same hs.2.1 rfl,hm.same hs.2.2 rfl⟩)
    (λs X Y hs hm=>by obtain⟨c,hc,hl,hk⟩:=hs;exact⟨c,hIx c s X Y hc (hnw hm),hm.same hl rfl,hm.same hk rfl⟩)
    ?_ ⟨hI1,hL1,hK1⟩).mono ?_)
   · rintro pre x W ⟨hi,hl,hk⟩ hsp hmx
     have hy:=run_yield (P:=P) (args:=encs x) hl (by rw[hrec];exact hps x)
     rw[hrec]at hy
     refine⟨fn,_,assign,body,hy,roundIn_of_wpIn hfn (hassign _ pre x W _ hi ?_)⟩
     clear hy
     intro a' Wa hga hia hax
     have hla:=(hga.block _ (Array.getElem?_eq_some_iff.1 hl).1 (λe=>e)).trans hl
     have hka:=(hga.block _ (Array.getElem?_eq_some_iff.1 hk).1 (λe=>e)).trans hk
     have hlt:w.heap.size+1<Wa.heap.size:=(Array.getElem?_eq_some_iff.1 hla).1
     refine⟨_,run_beginRound hla (by rw[hrec]),?_⟩
     have hl2:(Wa.putObj (w.heap.size+1) (.loop { rec .ready none with state := .busy })).heap[w.heap.size+1]? = some (.loop { rec .ready none with state := .busy }):=World.putObj_heap_same hlt
     have hk2:(Wa.putObj (w.heap.size+1) (.loop { rec .ready none with state := .busy })).heap[w.heap.size]? = some (.deferred (some [])):=(World.putObj_heap_other (by omega)).trans hka
     have hw2:iA Ts W (Wa.putObj (w.heap.size+1) (.loop { rec .ready none with state := .busy })):=qz (hga.mono (λ_ e=>e.elim)) (KI hla rfl _)
     refine wpIn_mono (hbody _ pre x a' _ (hI _ _ _ hia (wM (by omega) hla rfl _)) (hAx _ _ _ _ _ _ hax hla rfl) hsp (_D _ _ _ _ _ (_C _ _ _ hmx hga) hla rfl)) ?_
     have fin:∀ (jump:Option Code) (W3:World),oZ Ts w.heap.size (Wa.putObj (w.heap.size+1) (.loop { rec .ready none with state := .busy })) W3 ->
      (Instr.endRound (w.heap.size+1) jump).run P W3 = .ok (.bool jump.isNone) (W3.putObj (w.heap.size+1) (.loop (rec (if jump.isNone then .ready else .done) jump))) /\
      W3.heap[w.heap.size+1]? = some (.loop { rec .ready none with state := .busy }) /\
      (W3.putObj (w.heap.size+1) (.loop (rec (if jump.isNone then .ready else .done) jump))).heap[w.heap.size+1]? = some (.loop (rec (if jump.isNone then .ready else .done) jump)) /\
      (W3.putObj (w.heap.size+1) (.loop (rec (if jump.isNone then .ready else .done) jump))).heap[w.heap.size]? = some (.deferred (some [])):=λjump W3 hk3=>by
      have hl3:=hk3.same hl2 rfl (by omega)
      have:=run_endRound (P:=P) jump hl3
      rw[hrec]at this ⊢
      exact⟨this,by rw[hrec]at hl3;exact hl3,World.putObj_heap_same (Array.getElem?_eq_some_iff.1 hl3).1,(World.putObj_heap_other (by omega)).trans (hk3.same hk2 rfl (Nat.le_refl _))⟩
     rintro e a3 W3 hp
     cases e with
     |normal =>
      obtain⟨hk3,hi3⟩:=hp
      obtain⟨hr,hl3,hl4,hk4⟩:=fin none W3 hk3
      exact⟨_,_,hr,.inl ⟨rfl,⟨hI _ _ _ hi3 (wM (by omega) hl3 rfl _),hl4,hk4⟩,qz (qz hw2 hk3.bd) (KI hl3 rfl _)⟩⟩
     |ret =>
      obtain⟨hk3,hi3⟩:=hp
      obtain⟨hr,hl3,hl4,hk4⟩:=fin (some .ret) W3 hk3
      exact⟨_,_,hr,.inr ⟨rfl,.ret,hIx _ _ _ _ hi3 (wM (by omega) hl3 rfl _),hl4,hk4⟩⟩
     |exit id =>
      obtain⟨hk3,hi3⟩:=hp
      obtain⟨hr,hl3,hl4,hk4⟩:=fin (some (.exit id)) W3 hk3
      exact⟨_,_,hr,.inr ⟨rfl,.exit id,hIx _ _ _ _ hi3 (wM (by omega) hl3 rfl _),hl4,hk4⟩⟩
     |goto t =>
      obtain⟨hk3,hi3⟩:=hp
      obtain⟨hr,hl3,hl4,hk4⟩:=fin (some (.goto t)) W3 hk3
      exact⟨_,_,hr,.inr ⟨rfl,.goto t,hIx _ _ _ _ hi3 (wM (by omega) hl3 rfl _),hl4,hk4⟩⟩
     |panic ch=>exact hp.elim
     |outgrown=>exact hp.elim
   · rintro e W2 ⟨⟨v,rfl⟩,(⟨xs,hS,hi,hl,hk⟩|⟨pre,hSp,c,hi,hl,hk⟩)⟩
     · exact⟨none,_,by have:=run_endLoop (P:=P) hl (by rw[hrec];simp);rw[hrec]at this;exact this,hdone _ xs _ (Nat.le_refl _) hS (hI _ _ _ hi (wM (by omega) hl rfl _)) ((World.putObj_heap_other (by omega)).trans hk)⟩
     · exact⟨some c,_,by have:=run_endLoop (P:=P) hl (by rw[hrec];simp);rw[hrec]at this;exact this,wpIn_wide.2 (hstop _ c pre _ (Nat.le_refl _) hSp (hIx c _ _ _ hi (wM (by omega) hl rfl _)) ((World.putObj_heap_other (by omega)).trans hk))⟩
theorem Ta {α:Type} {P:Program} (Ts:Nat->TypeId->Bool) {g:Operand} {ps:Array Tmp} {assign body:Code} {Q:Exit->Act->World->Prop} {a:Act} {w:World} {gf:Nat} {lb:Array Value} (hg:a.eval g = .func (.func gf) #[] lb) (eg:∀ args w,(callFunc gf args).run P w = .ok (.enter gf args) w)
 {encs:α->Array Value} {S Sp:List α->Prop} {w0:World} (hseq:Ms P Ts gf lb encs S Sp w0) (hb0:Mv (λ_=>False) w0 w) (hps:∀ x,(encs x).size=ps.size)
 (I:List α->World->Prop) (Ix:Code->List α->World->Prop) (hI:∀ s X Y,I s X->nU Ts w.heap.size X Y->I s Y) (hIx:∀ c s X Y,Ix c s X->nU Ts w.heap.size X Y->Ix c s Y) (h0:I [] w)
 (Ax:Act->α->Act->World->Prop) (hAx:∀ x a' X l o o',Ax a x a' X->X.heap[l]? = some o->o.isCells=false->Ax a x a' (X.putObj l o'))
 (hassign:∀ (l:Nat) (pre:List α) (x:α) (W:World) (K:Act->World->Prop),I pre W->(∀ a' W',Mv (λ_=>False) W W'->I pre W'->Ax a x a' W'->K a' W') ->
  assign.wpIn (Fence.wide.inRound l) 10 P (Exit.then K (λ_ _ _=>False)) { tmps:=(ps.zip (encs x)).foldl (λt (p,v)=>t.setIfInBounds p v) a.tmps,defers:=[] } W)
 (hbody:∀ (l:Nat) (pre:List α) (x:α) (a':Act) (W:World),I pre W->Ax a x a' W->Sp (pre ++ [x])->body.wpIn (Fence.wide.inRound l) 10 P (bodyPostC Ts w.heap.size I Ix (pre ++ [x]) W) a' W)
 (hdone:∀ (D:Nat) (xs:List α) (W:World),w.heap.size<=D->S xs->I xs W->W.heap[D]? = some (.deferred (some []))->Q .normal { a with defers := { target := .collected D,args:=#[] } :: a.defers } W)
 (hstop:∀ (D:Nat) (c:Code) (pre:List α) (W:World),w.heap.size<=D->Sp pre->Ix c pre W->W.heap[D]? = some (.deferred (some []))->c.wp P Q { a with defers := { target := .collected D,args:=#[] } :: a.defers } W) :
 (Code.rangeFunc g ps assign body).wp P Q a w :=
 Kt Ts hg eg (M:=λ_ _=>True) (λl J Jx W h1 h2 h3 hy h0=>hseq l J Jx W h1 h2 h3 (λpre x W1 a b=>hy pre x W1 a b trivial) h0) (λ_ _ _ _ _=>trivial) (λ_ _ _ _ _ _ _ _=>trivial) hb0 hps I Ix hI hIx h0 Ax hAx hassign (λl pre x a' W h1 h2 h3 _=>hbody l pre x a' W h1 h2 h3) hdone hstop
theorem KJ {P:Program} {f:FuncId} {fn:Func} {c:Code} {args:Array Value} {w:World} {R:Ending->World->Prop} (hf:P.funcs[f]? = some fn) (hb:fn.body=some c)
 (h:c.wp P (bodyPostM Fence.wide 10 P fn R) { tmps:=args ++ Array.replicate (fn.ntmps - args.size) undef,defers:=[] } w):Calls P f args w R :=
 callsIn_wide.1 (callsIn_of_wp_marks (n:=10) hf hb trivial (wpIn_wide.2 h))
theorem Gq {P:Program} {fn:Func} {a:Act} {w:World} {v:Value} {D:Nat} {R:Ending->World->Prop} (hK:w.heap[D]? = some (.deferred (some []))) (h:(results fn a.tmps).run P (w.putObj D (.deferred none)) = .ok v (w.putObj D (.deferred none))) (hd:a.defers=[{ target := .collected D,args:=#[] }]) (hR:R (.returned v) (w.putObj D (.deferred none))):bodyPostM Fence.wide 10 P fn R .ret a w:=by
 unfold bodyPostM
 simp only[hd]
 exact⟨by simp,.inl ⟨D,_,rfl,run_takeDeferred hK,v,h,hR⟩⟩
end
section
open Go.RowKit Go.Instr
attribute [local go_sem ↓] gD
def aU (i:Int):List Value:=[.int .i64 i]
theorem Tryz.xu:Elem Tryz.prog 22 3 1 8:=Elem.of Tryz.underlying22 Tryz.Na rfl (by decide) (by decide)
abbrev Ey (w:World) (base:Nat) (v:Value) (l:List Int):Prop:=w.ownsRow base 3 1 v l.length (flat aU l)
set_option maxRecDepth 100000 in
theorem Gr (v:Value) (l:List Int) (w:World) (h:ay 1 aU w v l) (hb:l.length * 8<=140737488355328) :
 Calls Tryz.prog 22 #[v] w (Yh 1 aU w l):=by
 obtain⟨a,cap,rfl,hc,hl⟩:=h.form
 cases a with
 |none =>
  obtain rfl:l=[]:=by
   cases l with
   |nil=>rfl
   |cons x l=>obtain⟨b,off,c,e,_⟩:=h.at (i:=0) (by simp);simp at e
  have heq:(binOp .eql 22 (.slice none 0 cap) (.slice none 0 0)).run Tryz.prog w = .ok (.bool true) w:=by
   have:=Lib.run_eql_slice_nil (P:=Tryz.prog) w 22 3 none 0 cap 0 0 Tryz.underlying22
   simpa using this
  go_enter Tryz.func22,Tryz.ntmps22
  go_wp2_with fail
  go_ret
  exact⟨_,rfl,ay.nil _ _ _,λg hg=>by simp[Value.ownBlock]at hg,Mv.refl _ _⟩
 |some a =>
  obtain⟨v',w2,⟨hok,hv,hw⟩,⟨hrow,hown⟩,hg⟩:=Vi Tryz.xu (λ_=>rfl) _ l w.heap.size (w.alloc (.cells #[] 3)) (heap_alloc_new w _) (h.later ((Mv.refl _ _).alloc _)) hb
  have heq:(binOp .eql 22 (.slice (some a) l.length cap) (.slice none 0 0)).run Tryz.prog w = .ok (.bool false) w:=by
   have:=Lib.run_eql_slice_nil (P:=Tryz.prog) w 22 3 (some a) l.length cap 0 0 Tryz.underlying22
   simpa using this
  have HR:=Lib.hid hrow
  have HW:=Lib.hid (λg hg=>(show w.heap.size<=g/\g<w2.heap.size from⟨by rcases(hown g hg).1 with h|h;omega;simp at h;omega,(hown g hg).2⟩))
  have HG:=Lib.hid (Mv.trans ((Mv.refl (λ_=>False) w).alloc (.cells #[] 3)) hg (λ_ e=>e.elim))
  clear h hrow hown hg
  go_enter Tryz.func22,Tryz.ntmps22
  go_wp2_with fail
  go_ret
  exact⟨_,rfl,HR.out,HW.out,HG.out⟩
theorem BF {α:Type} {f:α->List Value} {n e base:Nat} {w:World} {a:Option Addr} {c:Nat} {l:List α} {x:α} (hf:∀ x,(f x).length=n) (h:w.ownsRow base e n (.slice a (l.length+1) c) (l ++ [x]).length (flat f (l ++ [x]))) :
 w.ownsRow base e n (.slice a l.length c) l.length (flat f l):=by
 obtain⟨h1,h2⟩:=h
 refine⟨oN f n hf l,.inr ?_⟩
 rcases h2 with⟨e1,-⟩|⟨g,cap,cur,e1,hb,hg,hc,hm,hs,ht⟩
 · simp at e1
 · simp only[Value.slice.injEq]at e1
   obtain⟨rfl,e2,rfl⟩:=e1
   simp only[List.length_append,List.length_cons,List.length_nil,Nat.zero_add]at hc ht
   refine⟨g,c,cur,rfl,hb,hg,by omega,hm,hs,?_⟩
   have:=congrArg (List.take (l.length * n)) ht
   rw[List.take_take,Gh,List.take_append_of_le_length (by rw[oN f n hf];exact Nat.le_refl _)]at this
   rw[Nat.min_eq_left (Nat.mul_le_mul_right n (by omega)),List.take_of_length_le (l:=flat f l) (by rw[oN f n hf];exact Nat.le_refl _)]at this
   exact this
theorem XG (v:Value) (x:Int) (xs:List Int) (base g:Nat) (w:World) (hrow:Ey w base v xs) (hb:base<=w.heap.size) (hlen:xs.length<=900000) (hg:w.heap[g]? = some (.cells #[.int .i64 x] 3 (0,0))) :
 ∃ a' c' w2,(nJ Tryz.prog 22 22 v (.slice (some ⟨g,0,none⟩) 1 1) w /\
  lW Tryz.prog 22 22 v (.slice (some ⟨g,0,none⟩) 1 1) w = .slice a' (xs.length+1) c'/\appW Tryz.prog 22 22 v (.slice (some ⟨g,0,none⟩) 1 1) w=w2) /\
  Ey w2 base (.slice a' (xs.length+1) c') (xs ++ [x])/\Mv (λb=>v.ownBlock=some b) w w2/\(∀ g,(Value.slice a' (xs.length+1) c').ownBlock=some g->v.ownBlock=some g\/w.heap.size<=g) :=
 kz Tryz.xu (f:=aU) (λ_=>rfl) v _ xs [x] base w hrow (ay.dF (f:=aU) (l:=[x]) (λ_=>rfl) hg (by simp[flat,aU]) (by simp)) (λy hy u hu=>by simp[aU]at hu;subst hu;rfl) hb (by simp;omega)
mutual
def bO:Tree->List Tree
 |.mk k n s l => .mk k n s l :: eD l
def eD:List Tree->List Tree
 | []=>[]
 |t :: l=>bO t ++ eD l
end
theorem Gd:∀ (a b:List Tree),eD (a ++ b)=eD a ++ eD b
 | [],b=>by simp[eD]
 |t :: a,b=>by simp[eD,Gd a b]
theorem KY (l:List Tree) (i:Nat) (h:i<l.length):eD (l.take (i+1))=eD (l.take i) ++ bO l[i]:=by
 rw[List.take_succ_eq_append_getElem h,Gd];simp[eD]
theorem TC (l:List Tree) (i:Nat) (h:i<l.length):eD (l.take i) ++ bO l[i] <+: eD l:=by
 rw[← KY l i h]
 conv=>rhs;rw[← List.take_append_drop (i+1) l,Gd]
 exact List.prefix_append _ _
structure qQ (Ts:Nat->TypeId->Bool) (n0:Nat):Prop where
 node:∀ b,Ts b 40=false
 int:∀ b,n0<=b->Ts b 3=false
 ints:∀ b,Ts b 22=false
 yf:∀ b,Ts b 151=false
 vf:∀ b,Ts b 65=false
theorem qQ.up {Ts:Nat->TypeId->Bool} {n0 n1:Nat} (h:qQ Ts n0) (hn:n0<=n1):qQ Ts n1:=⟨h.node,λb hb=>h.int b (by omega),h.ints,h.yf,h.vf⟩
def rG (Ts:Nat->TypeId->Bool) (b:Nat) (t:TypeId):Bool:=Ts b t || t == 3 || t == 22
theorem iA._E {Ts:Nat->TypeId->Bool} {W W':World} (h:iA Ts W W'):iA (rG Ts) W W':=h.mono (λb hb => .inl λ⟨cs,t,z,hc,ht⟩=>hb ⟨cs,t,z,hc,by simp[rG]at ht;exact ht.1.1⟩)
theorem mG {Ts:Nat->TypeId->Bool} {W W':World} (h:Grow W W'):iA Ts W W':=h.mono (λ_ e=>e.elim)
theorem En {Ts:Nat->TypeId->Bool} {B:Nat} {W W':World} (h:Grow W W'):qV Ts B W W':=h.mono (λ_ e=>e.elim)
theorem iA.cells {Ts:Nat->TypeId->Bool} {W W':World} (h:iA Ts W W') {b:Nat} {cs:Array Value} {t:TypeId} {z:Nat × Nat} (hb:W.heap[b]? = some (.cells cs t z)) (ht:Ts b t=false):W'.heap[b]? = some (.cells cs t z) :=
 (h.block b (lt_of_block hb) (λe=>e ⟨cs,t,z,hb,ht⟩)).trans hb
structure mJ (n0 l Y P V:Nat) (W:World) (path:Value) (ps:List Int):Prop where
 y:W.heap[Y]? = some (.cells #[.func (.yield l) #[] #[]] 151 (0,0))
 p:W.heap[P]? = some (.cells #[path] 22 (0,0))
 v:W.heap[V]? = some (.cells #[.func (.func 103) #[] #[.pointer (some ⟨Y,0,none⟩),.pointer (some ⟨P,0,none⟩),.pointer (some ⟨V,0,none⟩)]] 65 (0,0))
 hP:n0<=P
 row:Ey W n0 path ps
theorem mJ.bd {Ts:Nat->TypeId->Bool} {n0 l Y P V:Nat} (hT:qQ Ts n0) {W W':World} {path:Value} {ps:List Int} (h:mJ n0 l Y P V W path ps) (hm:iA Ts W W'):mJ n0 l Y P V W' path ps :=
 ⟨hm.cells h.y (hT.yf _),hm.cells h.p (hT.ints _),hm.cells h.v (hT.vf _),h.hP,bu h.row hm (λg hg e=>by
  obtain⟨h1,cs,z,hc⟩:=bP h.row g hg
  exact e ⟨cs,_,z,hc,hT.int _ h1⟩)⟩
theorem mJ.step {n0 l Y P V:Nat} {W W':World} {path path':Value} {ps ps':List Int} (h:mJ n0 l Y P V W path ps) (hm:Mv (λb=>b=P\/path.ownBlock=some b) W W') (hp:W'.heap[P]? = some (.cells #[path'] 22 (0,0))) (hr:Ey W' n0 path' ps'):mJ n0 l Y P V W' path' ps':=by
 have hne:∀ {b:Nat} {cs:Array Value} {t:TypeId} {z:Nat × Nat},W.heap[b]? = some (.cells cs t z)->t≠3->t≠22->W'.heap[b]? = some (.cells cs t z):=fun {b cs t z} hb h1 h2=>by
  refine(hm.block b (lt_of_block hb) (λe => ?_)).trans hb
  rcases e with rfl|e
  · rw[h.p]at hb;simp at hb;exact h2 hb.2.1.symm
  · obtain⟨-,cs',z',hc⟩:=bP h.row b e
    rw[hc]at hb;simp at hb;exact h1 hb.2.1.symm
 exact⟨hne h.y (by decide) (by decide),hp,hne h.v (by decide) (by decide),h.hP,hr⟩
theorem mJ.own {n0 l Y P V:Nat} {W:World} {path:Value} {ps:List Int} (h:mJ n0 l Y P V W path ps) {b:Nat} (hb:b=P\/path.ownBlock=some b):n0<=b/\∃ cs t z,W.heap[b]? = some (.cells cs t z)/\(t=3\/t=22):=by
 rcases hb with rfl|hb
 · exact⟨h.hP,_,_,_,h.p,.inr rfl⟩
 · obtain⟨h1,cs,z,hc⟩:=bP h.row b hb
   exact⟨h1,cs,_,z,hc,.inl rfl⟩
theorem Nf {Ts:Nat->TypeId->Bool} {n0:Nat} (hT:qQ Ts n0) {W W':World} {O:Nat->Prop} (hm:Mv O W W') (hO:∀ b,O b->n0<=b/\∃ cs t z,W.heap[b]? = some (.cells cs t z)/\(t=3\/t=22)):qV Ts n0 W W'/\iA (rG Ts) W W':=by
 refine⟨hm.mono λb hb => .inl ?_,hm.mono λb hb => .inl ?_⟩
 · obtain⟨h1,cs,t,z,hc,ht⟩:=hO b hb
   rintro((h|⟨cs',t',z',hc',ht'⟩)|⟨o,ho,hn⟩)
   · omega
   · rw[hc]at hc'
     simp only[Option.some.injEq,Obj.cells.injEq]at hc'
     obtain⟨-,rfl,-⟩:=hc'
     rcases ht with rfl|rfl
     · rw[hT.int _ h1]at ht';cases ht'
     · rw[hT.ints]at ht';cases ht'
   · rw[hc]at ho;cases ho;cases hn
 · obtain⟨h1,cs,t,z,hc,ht⟩:=hO b hb
   rintro⟨cs',t',z',hc',ht'⟩
   rw[hc]at hc'
   simp only[Option.some.injEq,Obj.cells.injEq]at hc'
   obtain⟨-,rfl,-⟩:=hc'
   rcases ht with rfl|rfl <;> simp[rG]at ht'
theorem aL.bd {Ts:Nat->TypeId->Bool} (hN:∀ b,Ts b 40=false) {P:Nat->Prop} {W W':World} {x:ae} (h:aL P W x) (hm:iA Ts W W'):aL P W' x:=h.stay hm (λb cs z _ hc e=>e ⟨cs,_,z,hc,hN _⟩)
def came (ys:List (Value × ae)):List Tree:=ys.map λz=>z.2.t
def tJ (v:Value):Prop:=∃ a n c,v = .slice a n c
def jX (zs:List (Value × ae)):Prop:=∀ z∈zs,tJ z.1
theorem jX.app {a b:List (Value × ae)} (h:jX a) (k:jX b):jX (a ++ b):=λz hz=>(List.mem_append.1 hz).elim (h z) (k z)
theorem jX.one {z:Value × ae} (h:tJ z.1):jX [z]:=λy hy=>by rw[List.mem_singleton.1 hy];exact h
def XH (Ts:Nat->TypeId->Bool) (J Jx:List (Value × ae)->World->Prop) (pre:List (Value × ae)) (n0 l Y P V:Nat) (ps:List Int) (x:ae) (W:World) (e:Ending) (W':World):Prop :=
 (e = .returned (.bool true)/\∃ path' ys,came ys=bO x.t/\jX ys/\J (pre ++ ys) W'/\mJ n0 l Y P V W' path' ps/\iA (rG Ts) W W')\/(e = .returned (.bool false)/\∃ ys,came ys <+: bO x.t/\jX ys/\Jx (pre ++ ys) W')
def VI (J Jx:List (Value × ae)->World->Prop) (Ts:Nat->TypeId->Bool) (pre:List (Value × ae)) (l:Nat) (path xv:Value) (xt:Tree) (W:World) (L:Array Bool) (vs:Nat->Value) (y:World):Prop :=
 (L.getD 5 false=false->L.getD 6 false=false/\Grow W y/\(L.getD 0 false=true->vs 0 = .func (.yield l) #[] #[])/\(L.getD 1 false=true->vs 1=path)/\(L.getD 3 false=true->vs 3=xv)/\(L.getD 4 false=true->∃ y':ae,vs 4=y'.fix.val/\y'.t=xt/\aL (λ_=>True) y y')/\(L.getD 2 false=true->tJ (vs 2))) /\
 (L.getD 5 false=true->∃ z:Value × ae,z.2.t=xt/\tJ z.1/\((vs 5 = .bool true/\J (pre ++ [z]) y/\iA Ts W y)\/(vs 5 = .bool false/\Jx (pre ++ [z]) y))) /\
 (L.getD 6 false=true->∃ b,vs 5 = .bool b/\vs 6 = .bool (!b))
section
variable {J Jx:List (Value × ae)->World->Prop} {Ts:Nat->TypeId->Bool} {pre:List (Value × ae)} {l:Nat} {path xv:Value} {xt:Tree} {W y y2:World} {L:Array Bool} {vs:Nat->Value}
theorem VI.put (h:VI J Jx Ts pre l path xv xt W L vs y) (hs:L.size=7) (i:Nat) (hi:i<5) (h5:L.getD 5 false=false) (v:Value) (hg:Grow y y2) (h0:i=0->v = .func (.yield l) #[] #[]) (h1:i=1->v=path) (h3:i=3->v=xv) (h4:i=4->∃ y':ae,v=y'.fix.val/\y'.t=xt/\aL (λ_=>True) y2 y') (h2:i=2->tJ v) :
 VI J Jx Ts pre l path xv xt W (L.setIfInBounds i true) (upd vs i v) y2:=by
 obtain⟨ha,hb,hc⟩:=h
 obtain⟨a6,ag,a0,a1,a3,a4,a2⟩:=ha h5
 have hset:∀ j,(L.setIfInBounds i true).getD j false=if i=j then true else L.getD j false:=λj=>Iq (by omega) j
 have key:∀ (j:Nat) (p:Value->Prop),(i=j->p v)->(L.getD j false=true->p (vs j))->(L.setIfInBounds i true).getD j false=true->p (upd vs i v j):=by
  intro j p hv hold e
  rw[hset]at e
  unfold upd
  by_cases hij:j=i
  · rw[if_pos hij];exact hv hij.symm
  · rw[if_neg hij];rw[if_neg (λe=>hij e.symm)]at e;exact hold e
 refine⟨λ_=>⟨by rw[hset,if_neg (by omega)];exact a6,gtr ag hg,key 0 (λv=>v = .func (.yield l) #[] #[]) h0 a0,key 1 (λv=>v=path) h1 a1,key 3 (λv=>v=xv) h3 a3,key 4 (λv=>∃ y':ae,v=y'.fix.val/\y'.t=xt/\aL (λ_=>True) y2 y') h4 (λe=>by obtain⟨y',e1,e2,e3⟩:=a4 e;exact⟨y',e1,e2,e3.stay hg (λ_ _ _ _ _ e=>e)⟩),key 2 tJ h2 a2⟩,λe => ?_,λe => ?_⟩
 · rw[hset,if_neg (by omega),h5]at e;cases e
 · rw[hset,if_neg (by omega),a6]at e;cases e
theorem VI.Oq (h:VI J Jx Ts pre l path xv xt W L vs y) (hs:L.size=7) (h5:L.getD 5 false=false) (v:Value) (hz:∃ z:Value × ae,z.2.t=xt/\tJ z.1/\((v = .bool true/\J (pre ++ [z]) y2/\iA Ts W y2)\/(v = .bool false/\Jx (pre ++ [z]) y2))) :
 VI J Jx Ts pre l path xv xt W (L.setIfInBounds 5 true) (upd vs 5 v) y2:=by
 have hset:∀ j,(L.setIfInBounds 5 true).getD j false=if 5=j then true else L.getD j false:=λj=>Iq (by omega) j
 refine⟨λe => ?_,λ_ => ?_,λe => ?_⟩
 · rw[hset,if_pos rfl]at e;cases e
 · simpa[upd]using hz
 · rw[hset,if_neg (by decide),((h.1 h5).1)]at e;cases e
theorem VI.Zn (h:VI J Jx Ts pre l path xv xt W L vs y) (hs:L.size=7) (h5:L.getD 5 false=true) (b:Bool) (hb:vs 5 = .bool b) :
 VI J Jx Ts pre l path xv xt W (L.setIfInBounds 6 true) (upd vs 6 (.bool (!b))) y:=by
 have hset:∀ j,(L.setIfInBounds 6 true).getD j false=if 6=j then true else L.getD j false:=λj=>Iq (by omega) j
 refine⟨λe => ?_,λ_ => ?_,λe=>⟨b,by simp[upd,hb],by simp[upd]⟩⟩
 · rw[hset,if_neg (by decide),h5]at e;cases e
 · simpa[upd]using h.2.1 h5
end
end
end Go.Proofs.YtbpodipdfohikaaGreat
