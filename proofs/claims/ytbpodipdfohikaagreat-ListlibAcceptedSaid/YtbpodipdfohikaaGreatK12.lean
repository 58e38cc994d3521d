import Derived.Test.YtbpodipdfohikaaGreatK09
set_option linter.unusedSimpArgs false
set_option linter.unusedVariables false
set_option maxRecDepth 100000
set_option maxHeartbeats 25600000
namespace Go.Proofs.YtbpodipdfohikaaGreat
open Go.RowKit
def cv (Cs:List (Option Value)) (j:Nat):Value:=(Cs.getD j none).getD undef
theorem zC:(∀ v r,cv (some v :: r) 0=v)/\(∀ x r j,cv (x :: r) (j+1)=cv r j):=⟨λ_ _=>rfl,λ_ _ _=>rfl⟩
theorem uO {ds:List (Option Tmp)} {vs us:Nat->Value} : ∀ (js:List Nat) (a:Act),(∀ j∈js,vs j=us j\/ds.getD j none=none)->aK ds vs js a=aK ds us js a
 | [],_,_=>rfl
 |j :: r,a,h=>by
  simp only[aK]
  rcases h j (by simp)with e|e
  · rw[e];exact uO r _ (λk hk=>h k (by simp[hk]))
  · rw[e];exact uO r _ (λk hk=>h k (by simp[hk]))
def Jj (ds:List (Option Tmp)) (ws:List (List Nat)) (Cs:List (Option Value)) (W:List Nat):Bool :=
 (W.all λj=>decide (j<ws.length) && ((ds.getD j none).isNone && (Cs.getD j none).isNone)) && ((List.range (W.length - 1)).all λr=>(ws.getD (W.getD (r+1) 0) []).contains (W.getD r 0)) &&
 ((List.range ws.length).all λj=>(Cs.getD j none).isSome || W.contains j)
def vU (ws:List (List Nat)) (W:List Nat) (i s:Nat):Bool:=(List.range W.length).all λr => !(ws.getD i []).contains (W.getD r 0) || decide (r<s)
def vV (ws:List (List Nat)) (W:List Nat) (i s:Nat):Bool:=decide (s<=W.length) && (List.range W.length).all λr => !((ws.getD (W.getD r 0) []).contains i) || decide (s<=r)
section
variable {P:Program} {Q:Exit->Act->World->Prop}
structure zY (P:Program) (ds:List (Option Tmp)) (ws ns:List (List Nat)) (Cs:List (Option Value)) (W:List Nat) (M:Nat->World->Prop) (a:Act) (i:Nat) (o:Oper):Prop where
 c:W.contains i=false->∀ s x,vU ws W i s=true->vV ws W i s=true->M s x->Gives P o (aK ds (cv Cs) (ns.getD i []) a) x (λv y=>v=cv Cs i/\y=x)
 w:∀ r,r<W.length->W.getD r 0=i->∀ x,M r x->Gives P o (aK ds (cv Cs) (ns.getD i []) a) x (λ_ y=>M (r+1) y)
structure QI (Cs:List (Option Value)) (W:List Nat) (M:Nat->World->Prop) (L:Array Bool) (vs:Nat->Value) (x:World):Prop where
 st:∃ s,s<=W.length/\(∀ r,r<W.length->L.getD (W.getD r 0) false=decide (r<s))/\M s x
 val:∀ j,L.getD j false=true->∀ c,Cs.getD j none=some c->vs j=c
theorem zu {W:List Nat} {i:Nat} (h:W.contains i=true):∃ r,r<W.length/\W.getD r 0=i:=by
 obtain⟨r,hr,e⟩:=List.mem_iff_getElem.1 (by simpa using h:i∈W)
 exact⟨r,hr,by simp[List.getD,hr,e]⟩
theorem TU {a:Act} {w:World} {l:List Oper} (N:Nat) (ds:List (Option Tmp)) (ws ns:List (List Nat)) (Cs:List (Option Value)) (W:List Nat) (M:Nat->World->Prop) (hN:a.tmps.size=N) (hok:fI N l.toArray ds ws ns []=true) (hq:Jj ds ws Cs W=true) (hwl:ws.length=l.length) (hns:((List.range l.length).all λi=>(ns.getD i []).all λj=>(ws.getD i []).contains j && decide (j<l.length))=true)
 (hM:M 0 w) (hstep:iX (zY P ds ws ns Cs W M a) 0 l)
 (hend:∀ (x:World),M W.length x->Q .normal (aK ds (cv Cs) (List.range l.length) a) x):wpAny P .any l.toArray Q l.toArray.size (Array.replicate l.toArray.size false) a w:=by
 simp only[Jj,Bool.and_eq_true]at hq
 obtain⟨⟨q1,q2⟩,q3⟩:=hq
 have hWd:∀ r,r<W.length->W.getD r 0<l.length/\ds.getD (W.getD r 0) none=none/\Cs.getD (W.getD r 0) none=none:=λr hr=>by
  have:=List.all_eq_true.1 q1 (W.getD r 0) (by simp[List.getD,hr])
  simp only[Bool.and_eq_true,decide_eq_true_eq]at this
  exact⟨by rw[← hwl];exact this.1,by simpa using this.2.1,by simpa using this.2.2⟩
 have hWc:∀ r,r+1<W.length->W.getD r 0∈ws.getD (W.getD (r+1) 0) []:=λr hr=>by
  have:=List.all_eq_true.1 q2 r (List.mem_range.2 (by omega))
  simpa using this
 have hval:∀ j,j<l.length->(∃ c,Cs.getD j none=some c)\/∃ r,r<W.length/\W.getD r 0=j:=λj hj=>by
  have:=List.all_eq_true.1 q3 j (List.mem_range.2 (by omega))
  simp only[Bool.or_eq_true]at this
  rcases this with h|h
  · exact .inl (Option.isSome_iff_exists.1 h)
  · exact .inr (zu h)
 have hcv:∀ (L:Array Bool) (vs:Nat->Value) (x:World),QI Cs W M L vs x->∀ j,j<l.length->L.getD j false=true->vs j=cv Cs j\/ds.getD j none=none:=λL vs x hI j hj hL=>by
  rcases hval j hj with⟨c,hc⟩|⟨r,hr,e⟩
  · exact .inl (by rw[hI.val j hL c hc];simp only[cv,hc];rfl)
  · exact .inr (by rw[← e];exact(hWd r hr).2.1)
 refine Ls N ds ws ns [] hN hok (QI Cs W M) ?_ ?_ ?_
 · have hf:∀ j,(Array.replicate l.toArray.size false).getD j false=false:=by
    intro j
    by_cases hj:j<l.toArray.size <;> simp[Array.getD,hj]
   exact⟨⟨0,Nat.zero_le _,λr _=>by rw[hf];simp,hM⟩,λj h=>by rw[hf]at h;cases h⟩
 · intro i o ho L vs x hsz fM eF hcl hI
   have hil:i<L.size:=by
    have:=(Array.getElem?_eq_some_iff.1 ho).1
    omega
   have Cm:i<l.length:=by rw[hsz]at hil;simpa using hil
   have dJ:=wQ l 0 hstep i o (by simpa using ho)
   rw[Nat.zero_add]at dJ
   have hset:(L.setIfInBounds i true).getD i false=true:=by simp[hil]
   have hne:∀ j,j≠i->(L.setIfInBounds i true).getD j false=L.getD j false:=λj hj=>getD_set_ne false (λe=>hj e.symm)
   have hup:∀ (v:Value) j,j≠i->upd vs i v j=vs j:=λv j hj=>by simp[upd,hj]
   have jY:∀ (v:Value),upd vs i v i=v:=λv=>by simp[upd]
   have hact:aK ds vs (ns.getD i []) a=aK ds (cv Cs) (ns.getD i []) a:=uO _ _ λj hj=>by
    have h1:=List.all_eq_true.1 (List.all_eq_true.1 hns i (List.mem_range.2 Cm)) j hj
    simp only[Bool.and_eq_true,decide_eq_true_eq]at h1
    exact hcv L vs x hI j h1.2 (eF j (by simpa using h1.1))
   obtain⟨s,hs,hL,hMs⟩:=hI.st
   rw[hact]
   by_cases hw:W.contains i=true
   · obtain⟨r,hr,e⟩:=zu hw
     have h1:¬ r<s:=λh=>by have:=hL r hr;rw[e,fM]at this;simp[h]at this
     have CU:s=r:=by
      rcases Nat.eq_zero_or_pos r with h0|h0
      · omega
      · have h2:=hL (r - 1) (by omega)
        have h3:=hWc (r - 1) (by omega)
        rw[Nat.sub_add_cancel h0,e]at h3
        rw[eF _ h3]at h2
        have:r - 1<s:=by simpa using h2.symm
        omega
     subst CU
     refine(dJ.w s hr e x hMs).mono λv y hy=>⟨⟨s+1,hr,λr' hr' => ?_,hy⟩,λj hj c hc => ?_⟩
     · by_cases e2:W.getD r' 0=i
       · rw[e2,hset]
         have h5:¬ r'<s:=λh=>by have:=hL r' hr';rw[e2,fM]at this;simp[h]at this
         have h4:r'=s:=by
          rcases Nat.lt_or_ge s r' with h|h
          · exfalso
            have hr0:r'≠0:=by omega
            have h3:=hWc (r' - 1) (by omega)
            rw[Nat.sub_add_cancel (by omega),e2]at h3
            have h6:=hL (r' - 1) (by omega)
            rw[eF _ h3]at h6
            have:r' - 1<s:=by simpa using h6.symm
            omega
          · omega
         subst h4;simp
       · rw[hne _ e2,hL r' hr']
         have:r'≠s:=λh=>by subst h;exact e2 e
         by_cases h:r'<s
         · simp[h];omega
         · simp[h];omega
     · by_cases e2:j=i
       · exfalso;subst e2
         have:=(hWd s hr).2.2
         rw[e,hc]at this;cases this
       · rw[hne j e2]at hj;rw[hup v j e2];exact hI.val j hj c hc
   · have hw':W.contains i=false:=by simpa using hw
     have hlo:vU ws W i s=true:=List.all_eq_true.2 λr hr=>by
      have hr:=List.mem_range.1 hr
      by_cases h:(ws.getD i []).contains (W.getD r 0)=true
      · have:=hL r hr
        rw[eF _ (by simpa using h)]at this
        rw[h];simpa using this.symm
      · rw[Bool.not_eq_true]at h;rw[h];rfl
     have hhi:vV ws W i s=true:=by
      simp only[vV,Bool.and_eq_true,decide_eq_true_eq]
      refine⟨hs,List.all_eq_true.2 λr hr => ?_⟩
      have hr:=List.mem_range.1 hr
      by_cases h:(ws.getD (W.getD r 0) []).contains i=true
      · rw[h]
        have:¬ r<s:=λhlt=>by
         have h2:=hL r hr
         simp only[hlt,decide_true]at h2
         have:=hcl _ h2 i (by simpa using h)
         rw[fM]at this;cases this
        simp;omega
      · rw[Bool.not_eq_true]at h;rw[h];rfl
     refine(dJ.c hw' s x hlo hhi hMs).mono λv y hy => ?_
     obtain⟨rfl,rfl⟩:=hy
     refine⟨⟨s,hs,λr hr => ?_,hMs⟩,λj hj c hc => ?_⟩
     · rw[hne _ (λe=>by
        have:W.contains i=true:=by rw[← e];simp[List.getD,hr]
        rw[hw']at this;cases this)]
       exact hL r hr
     · by_cases e2:j=i
       · subst e2;rw[jY];simp only[cv,hc];rfl
       · rw[hne j e2]at hj;rw[hup _ j e2];exact hI.val j hj c hc
 · intro L vs x hall hI
   have iw:∀ j,j<l.length->L.getD j false=true:=λj hj=>hall j (by simpa using hj)
   obtain⟨s,hs,hL,hMs⟩:=hI.st
   have hse:s=W.length:=by
    rcases Nat.lt_or_ge s W.length with h|h
    · exfalso
      have h1:=hL s h
      rw[iw _ (hWd s h).1]at h1
      simp at h1
    · omega
   subst hse
   have:=hend x hMs
   rwa[← uO (ds:=ds) (vs:=vs) (us:=cv Cs) _ _ (λj hj=>hcv L vs x hI j (List.mem_range.1 hj) (iw j (List.mem_range.1 hj)))]at this
theorem wq {id:Nat} {a:Act} {w:World} {l:List Oper} (N:Nat) (ds:List (Option Tmp)) (ns:List (List Nat)) (Cs:List (Option Value)) (W:List Nat) (M:Nat->World->Prop) (hM:M 0 w.drew) (hstep:iX (zY P ds (bK l.toArray) ns Cs W M a) 0 l)
 (hend:∀ (x:World),M W.length x->Q .normal (aK ds (cv Cs) (rg 0 ds) a) x)
 (hm:P.follows .mixedOrders=true:=by kernel_rfl) (hN:a.tmps.size=N:=by rfl) (hok:fI N l.toArray ds (bK l.toArray) ns []=true:=by kernel_rfl) (hq:Jj ds (bK l.toArray) Cs W=true:=by kernel_rfl) (hwl:(bK l.toArray).length=l.length:=by kernel_rfl) (hns:((List.range l.length).all λi=>(ns.getD i []).all λj=>((bK l.toArray).getD i []).contains j && decide (j<l.length))=true:=by kernel_rfl) (hr:rg 0 ds=List.range l.length:=by rfl):(Code.region id l.toArray true).wp P Q a w :=
 wp_region_any hm (TU N ds (bK l.toArray) ns Cs W M hN hok hq hwl hns hM hstep λx h=>by have:=hend x h;rwa[hr]at this)
end
section
variable {P:Program} {ds:List (Option Tmp)} {ws ns:List (List Nat)} {Cs:List (Option Value)} {W:List Nat} {M:Nat->World->Prop} {a:Act} {i:Nat} {o:Oper}
theorem xq {W:List Nat} {i r:Nat} (hw:W.contains i=false) (hr:r<W.length) (e:W.getD r 0=i):False:=by
 have:W.contains i=true:=by rw[← e];simp[List.getD,hr]
 rw[hw]at this;cases this
theorem qc (h:∀ (x:World),Gives P o (aK ds (cv Cs) (ns.getD i []) a) x (λv y=>v=cv Cs i/\y=x)) (hw:W.contains i=false:=by kernel_rfl):zY P ds ws ns Cs W M a i o :=
 ⟨λ_ _ x _ _ _=>h x,λ_ hr e=>(xq hw hr e).elim⟩
theorem qr (s:Nat) (h:∀ (x:World),M s x->Gives P o (aK ds (cv Cs) (ns.getD i []) a) x (λv y=>v=cv Cs i/\y=x)) (hw:W.contains i=false:=by kernel_rfl) (hs:((List.range (W.length+1)).all λt => !(vU ws W i t && vV ws W i t) || t == s)=true:=by kernel_rfl):zY P ds ws ns Cs W M a i o :=
 ⟨λ_ t x h1 h2 hM=>by
  have ht:t<=W.length:=by simp only[vV,Bool.and_eq_true,decide_eq_true_eq]at h2;exact h2.1
  have:=List.all_eq_true.1 hs t (List.mem_range.2 (by omega))
  rw[h1,h2]at this
  have e:t=s:=by simpa using this
  subst e;exact h x hM,λ_ hr e=>(xq hw hr e).elim⟩
theorem qm (h:∀ (s:Nat) (x:World),M s x->Gives P o (aK ds (cv Cs) (ns.getD i []) a) x (λv y=>v=cv Cs i/\y=x)) (hw:W.contains i=false:=by kernel_rfl):zY P ds ws ns Cs W M a i o :=
 ⟨λ_ s x _ _ hM=>h s x hM,λ_ hr e=>(xq hw hr e).elim⟩
theorem qw (r:Nat) (h:∀ (x:World),M r x->Gives P o (aK ds (cv Cs) (ns.getD i []) a) x (λ_ y=>M (r+1) y)) (hw:W.contains i=true:=by kernel_rfl) (hu:((List.range W.length).all λt => !(W.getD t 0 == i) || t == r)=true:=by kernel_rfl):zY P ds ws ns Cs W M a i o :=
 ⟨λh'=>(by rw[hw]at h';cases h'),λt ht e x hM=>by
  have:=List.all_eq_true.1 hu t (List.mem_range.2 ht)
  have e2:t=r:=by rw[e]at this;simpa using this
  subst e2;exact h x hM⟩
end
def Hf (P:Program) (R:Value->World->Prop) (X:List PanicEntry->World->Prop):Result Next->Prop
 |.ok (.enter f args) w'=>Calls P f args w' λe w''=>(∃ v,e = .returned v/\R v w'')\/(∃ ch,e = .panicked ch/\X ch w'')
 |r=>oV P R r
def eB (P:Program) (X:List PanicEntry->World->Prop) (o:Oper) (a:Act) (w:World) (R:Value->World->Prop):Prop:=Hf P R X ((execOp a.eval o).run P w)
theorem Gives.x {P:Program} {X:List PanicEntry->World->Prop} {o:Oper} {a:Act} {w:World} {R:Value->World->Prop} (h:Gives P o a w R):eB P X o a w R:=by
 unfold Gives at h
 unfold eB
 generalize (execOp a.eval o).run P w=r at *
 cases r with
 |ok n w' =>
  cases n
  case enter f args=>exact Calls.mono h λe w'' he => .inl he
  all_goals exact h
 |halt x w'=>exact h.elim
theorem eB.mono {P:Program} {X:List PanicEntry->World->Prop} {o:Oper} {a:Act} {w:World} {R R':Value->World->Prop} (h:eB P X o a w R) (hr:∀ v w',R v w'->R' v w'):eB P X o a w R':=by
 unfold eB at h ⊢
 generalize (execOp a.eval o).run P w=r at *
 cases r with
 |ok n w' =>
  cases n <;> simp only[Hf,oV]at h ⊢
  case value v=>exact hr _ _ h
  case skip=>exact hr _ _ h
  case enter f args =>
   refine Calls.mono h λe w'' he => ?_
   rcases he with⟨v,rfl,hv⟩|he
   · exact .inl ⟨v,rfl,hr _ _ hv⟩
   · exact .inr he
  case row row args=>exact Rows.mono h λv w'' hv=>hr _ _ hv
 |halt x w'=>exact h.elim
theorem eB.wp {P:Program} {X:List PanicEntry->World->Prop} {o:Oper} {a:Act} {w:World} {R:Value->World->Prop} {K:Act->World->Prop} {Q:Exit->Act->World->Prop} (h:eB P X o a w R) (hK:∀ v w',R v w'->K (a.put o.dst v) w') (hX:∀ ch w',X ch w'->Q (.panic ch) a w'):o.wp P a w K Q:=by
 unfold eB at h
 unfold Oper.wp
 generalize (execOp a.eval o).run P w=r at *
 cases r with
 |ok n w' =>
  cases n <;> simp only[Hf,oV,Oper.upon]at h ⊢
  case value v=>exact hK _ _ h
  case skip=>exact hK _ _ h
  case enter f args =>
   refine Calls.mono h λe w'' he => ?_
   rcases he with⟨v,rfl,hr⟩|⟨ch,rfl,hx⟩
   · exact hK _ _ hr
   · exact hX _ _ hx
  case row row args=>exact Rows.mono h λv w'' hr=>hK _ _ hr
 |halt x w'=>exact h.elim
theorem put_defers (a:Act) (d:Option Tmp) (v:Value):(a.put d v).defers=a.defers:=by cases d <;> rfl
section
variable {P:Program} {Q:Exit->Act->World->Prop} {ops:Array Oper}
theorem KW {a:Act} {w:World} (X:List PanicEntry->World->Prop) (hX:∀ ch w' a',a'.defers=[]->X ch w'->Q (.panic ch) a' w') (hd:a.defers=[]) (N:Nat) (ds:List (Option Tmp)) (ws ns us:List (List Nat)) (hN:a.tmps.size=N) (hok:fI N ops ds ws ns us=true)
 (I:Array Bool->(Nat->Value)->World->Prop) (hI0:I (Array.replicate ops.size false) (λ_=>undef) w)
 (hstep:∀ i o,ops[i]? = some o->∀ (L:Array Bool) (vs:Nat->Value) (x:World),L.size=ops.size->L.getD i false=false->(∀ j∈ws.getD i [],L.getD j false=true)->kT ws L->I L vs x->eB P X o (aK ds vs (ns.getD i []) a) x (λv y=>I (L.setIfInBounds i true) (upd vs i v) y))
 (hend:∀ (L:Array Bool) (vs:Nat->Value) (x:World),(∀ j,j<ops.size->L.getD j false=true)->I L vs x->Q .normal (aK ds vs (List.range ops.size) a) x):wpAny P .any ops Q ops.size (Array.replicate ops.size false) a w :=
 (He (λfuel L a x=>a.defers=[]->wpAny P .any ops Q fuel L a x) (eB P X) (λ_ _ _ h1 h2 _=>⟨h1,h2⟩) (λfuel L a x h1 h2 hd=>⟨h1,λi hi=>by
  obtain⟨-,o,ho,-⟩:=mem_ready.1 hi
  unfold wpOp
  rw[ho]
  by_cases hgd:o.guard=none
  · have hw:Region.wanted o (yielded ops a.tmps)=true:=by simp[Region.wanted,hgd]
    simp only[hw,if_true]
    obtain⟨R,hg,hR⟩:=h2 i hi o ho hgd
    exact .inl (hg.wp (λv w' h=>hR v w' h (by rw[put_defers];exact hd)) (λch w' h=>hX ch w' a hd h))
  · exact(hgd (Hd hok ho)).elim⟩) (λo a a' x R e h=>by unfold eB at h ⊢;rw[e];exact h) N ds ws ns us hN hok I hI0 hstep hend) hd
end
def Ag (ds:List (Option Tmp)) (ws:List (List Nat)) (Cs:List (Option Value)) (W:List Nat):Bool :=
 (W.all λj=>decide (j<ws.length) && ((ds.getD j none).isNone || (Cs.getD j none).isSome)) && ((List.range (W.length - 1)).all λr=>(ws.getD (W.getD (r+1) 0) []).contains (W.getD r 0)) &&
 ((List.range ws.length).all λj=>(Cs.getD j none).isSome || W.contains j)
section
variable {P:Program} {Q:Exit->Act->World->Prop}
structure BS (P:Program) (X:List PanicEntry->World->Prop) (ds:List (Option Tmp)) (ws ns:List (List Nat)) (Cs:List (Option Value)) (W:List Nat) (M:Nat->World->Prop) (a:Act) (i:Nat) (o:Oper):Prop where
 c:W.contains i=false->∀ s x,vU ws W i s=true->vV ws W i s=true->M s x->Gives P o (aK ds (cv Cs) (ns.getD i []) a) x (λv y=>v=cv Cs i/\y=x)
 w:∀ r,r<W.length->W.getD r 0=i->∀ x,M r x->eB P X o (aK ds (cv Cs) (ns.getD i []) a) x (λv y=>(∀ c,Cs.getD i none=some c->v=c)/\M (r+1) y)
structure XI (Cs:List (Option Value)) (W:List Nat) (M:Nat->World->Prop) (L:Array Bool) (vs:Nat->Value) (x:World):Prop where
 st:∃ s,s<=W.length/\(∀ r,r<W.length->L.getD (W.getD r 0) false=decide (r<s))/\M s x
 val:∀ j,L.getD j false=true->∀ c,Cs.getD j none=some c->vs j=c
theorem Tz {a:Act} {w:World} {l:List Oper} (X:List PanicEntry->World->Prop) (hX:∀ ch w' a',a'.defers=[]->X ch w'->Q (.panic ch) a' w') (hd:a.defers=[]) (N:Nat) (ds:List (Option Tmp)) (ws ns:List (List Nat)) (Cs:List (Option Value)) (W:List Nat) (M:Nat->World->Prop) (hN:a.tmps.size=N) (hok:fI N l.toArray ds ws ns []=true) (hq:Ag ds ws Cs W=true) (hwl:ws.length=l.length) (hns:((List.range l.length).all λi=>(ns.getD i []).all λj=>(ws.getD i []).contains j && decide (j<l.length))=true)
 (hM:M 0 w) (hstep:iX (BS P X ds ws ns Cs W M a) 0 l)
 (hend:∀ (x:World),M W.length x->Q .normal (aK ds (cv Cs) (List.range l.length) a) x):wpAny P .any l.toArray Q l.toArray.size (Array.replicate l.toArray.size false) a w:=by
 simp only[Ag,Bool.and_eq_true]at hq
 obtain⟨⟨q1,q2⟩,q3⟩:=hq
 have hWd:∀ r,r<W.length->W.getD r 0<l.length/\(ds.getD (W.getD r 0) none=none\/(Cs.getD (W.getD r 0) none).isSome=true):=λr hr=>by
  have:=List.all_eq_true.1 q1 (W.getD r 0) (by simp[List.getD,hr])
  simp only[Bool.and_eq_true,decide_eq_true_eq,Bool.or_eq_true]at this
  exact⟨by rw[← hwl];exact this.1,by simpa using this.2⟩
 have hWc:∀ r,r+1<W.length->W.getD r 0∈ws.getD (W.getD (r+1) 0) []:=λr hr=>by
  have:=List.all_eq_true.1 q2 r (List.mem_range.2 (by omega))
  simpa using this
 have hval:∀ j,j<l.length->(∃ c,Cs.getD j none=some c)\/∃ r,r<W.length/\W.getD r 0=j:=λj hj=>by
  have:=List.all_eq_true.1 q3 j (List.mem_range.2 (by omega))
  simp only[Bool.or_eq_true]at this
  rcases this with h|h
  · exact .inl (Option.isSome_iff_exists.1 h)
  · exact .inr (zu h)
 have hcv:∀ (L:Array Bool) (vs:Nat->Value) (x:World),XI Cs W M L vs x->∀ j,j<l.length->L.getD j false=true->vs j=cv Cs j\/ds.getD j none=none:=λL vs x hI j hj hL=>by
  rcases hval j hj with⟨c,hc⟩|⟨r,hr,e⟩
  · exact .inl (by rw[hI.val j hL c hc];simp only[cv,hc];rfl)
  · rcases(hWd r hr).2 with h|h
    · exact .inr (by rw[← e];exact h)
    · obtain⟨c,hc⟩:=Option.isSome_iff_exists.1 h
      rw[e]at hc
      exact .inl (by rw[hI.val j hL c hc];simp only[cv,hc];rfl)
 refine KW X hX hd N ds ws ns [] hN hok (XI Cs W M) ?_ ?_ ?_
 · have hf:∀ j,(Array.replicate l.toArray.size false).getD j false=false:=by
    intro j
    by_cases hj:j<l.toArray.size <;> simp[Array.getD,hj]
   exact⟨⟨0,Nat.zero_le _,λr _=>by rw[hf];simp,hM⟩,λj h=>by rw[hf]at h;cases h⟩
 · intro i o ho L vs x hsz fM eF hcl hI
   have hil:i<L.size:=by
    have:=(Array.getElem?_eq_some_iff.1 ho).1
    omega
   have Cm:i<l.length:=by rw[hsz]at hil;simpa using hil
   have dJ:=wQ l 0 hstep i o (by simpa using ho)
   rw[Nat.zero_add]at dJ
   have hset:(L.setIfInBounds i true).getD i false=true:=by simp[hil]
   have hne:∀ j,j≠i->(L.setIfInBounds i true).getD j false=L.getD j false:=λj hj=>getD_set_ne false (λe=>hj e.symm)
   have hup:∀ (v:Value) j,j≠i->upd vs i v j=vs j:=λv j hj=>by simp[upd,hj]
   have jY:∀ (v:Value),upd vs i v i=v:=λv=>by simp[upd]
   have hact:aK ds vs (ns.getD i []) a=aK ds (cv Cs) (ns.getD i []) a:=uO _ _ λj hj=>by
    have h1:=List.all_eq_true.1 (List.all_eq_true.1 hns i (List.mem_range.2 Cm)) j hj
    simp only[Bool.and_eq_true,decide_eq_true_eq]at h1
    exact hcv L vs x hI j h1.2 (eF j (by simpa using h1.1))
   obtain⟨s,hs,hL,hMs⟩:=hI.st
   rw[hact]
   by_cases hw:W.contains i=true
   · obtain⟨r,hr,e⟩:=zu hw
     have h1:¬ r<s:=λh=>by have:=hL r hr;rw[e,fM]at this;simp[h]at this
     have CU:s=r:=by
      rcases Nat.eq_zero_or_pos r with h0|h0
      · omega
      · have h2:=hL (r - 1) (by omega)
        have h3:=hWc (r - 1) (by omega)
        rw[Nat.sub_add_cancel h0,e]at h3
        rw[eF _ h3]at h2
        have:r - 1<s:=by simpa using h2.symm
        omega
     subst CU
     refine(dJ.w s hr e x hMs).mono λv y hy=>⟨⟨s+1,hr,λr' hr' => ?_,hy.2⟩,λj hj c hc => ?_⟩
     · by_cases e2:W.getD r' 0=i
       · rw[e2,hset]
         have h5:¬ r'<s:=λh=>by have:=hL r' hr';rw[e2,fM]at this;simp[h]at this
         have h4:r'=s:=by
          rcases Nat.lt_or_ge s r' with h|h
          · exfalso
            have hr0:r'≠0:=by omega
            have h3:=hWc (r' - 1) (by omega)
            rw[Nat.sub_add_cancel (by omega),e2]at h3
            have h6:=hL (r' - 1) (by omega)
            rw[eF _ h3]at h6
            have:r' - 1<s:=by simpa using h6.symm
            omega
          · omega
         subst h4;simp
       · rw[hne _ e2,hL r' hr']
         have:r'≠s:=λh=>by subst h;exact e2 e
         by_cases h:r'<s
         · simp[h];omega
         · simp[h];omega
     · by_cases e2:j=i
       · subst e2;rw[jY];exact hy.1 c hc
       · rw[hne j e2]at hj;rw[hup v j e2];exact hI.val j hj c hc
   · have hw':W.contains i=false:=by simpa using hw
     have hlo:vU ws W i s=true:=List.all_eq_true.2 λr hr=>by
      have hr:=List.mem_range.1 hr
      by_cases h:(ws.getD i []).contains (W.getD r 0)=true
      · have:=hL r hr
        rw[eF _ (by simpa using h)]at this
        rw[h];simpa using this.symm
      · rw[Bool.not_eq_true]at h;rw[h];rfl
     have hhi:vV ws W i s=true:=by
      simp only[vV,Bool.and_eq_true,decide_eq_true_eq]
      refine⟨hs,List.all_eq_true.2 λr hr => ?_⟩
      have hr:=List.mem_range.1 hr
      by_cases h:(ws.getD (W.getD r 0) []).contains i=true
      · rw[h]
        have:¬ r<s:=λhlt=>by
         have h2:=hL r hr
         simp only[hlt,decide_true]at h2
         have:=hcl _ h2 i (by simpa using h)
         rw[fM]at this;cases this
        simp;omega
      · rw[Bool.not_eq_true]at h;rw[h];rfl
     refine((dJ.c hw' s x hlo hhi hMs).x).mono λv y hy => ?_
     obtain⟨rfl,rfl⟩:=hy
     refine⟨⟨s,hs,λr hr => ?_,hMs⟩,λj hj c hc => ?_⟩
     · rw[hne _ (λe=>by
        have:W.contains i=true:=by rw[← e];simp[List.getD,hr]
        rw[hw']at this;cases this)]
       exact hL r hr
     · by_cases e2:j=i
       · subst e2;rw[jY];simp only[cv,hc];rfl
       · rw[hne j e2]at hj;rw[hup _ j e2];exact hI.val j hj c hc
 · intro L vs x hall hI
   have iw:∀ j,j<l.length->L.getD j false=true:=λj hj=>hall j (by simpa using hj)
   obtain⟨s,hs,hL,hMs⟩:=hI.st
   have hse:s=W.length:=by
    rcases Nat.lt_or_ge s W.length with h|h
    · exfalso
      have h1:=hL s h
      rw[iw _ (hWd s h).1]at h1
      simp at h1
    · omega
   subst hse
   have:=hend x hMs
   rwa[← uO (ds:=ds) (vs:=vs) (us:=cv Cs) _ _ (λj hj=>hcv L vs x hI j (List.mem_range.1 hj) (iw j (List.mem_range.1 hj)))]at this
theorem wx {id:Nat} {a:Act} {w:World} {l:List Oper} (X:List PanicEntry->World->Prop) (N:Nat) (ds:List (Option Tmp)) (ns:List (List Nat)) (Cs:List (Option Value)) (W:List Nat) (M:Nat->World->Prop) (hM:M 0 w.drew) (hstep:iX (BS P X ds (bK l.toArray) ns Cs W M a) 0 l)
 (hend:∀ (x:World),M W.length x->Q .normal (aK ds (cv Cs) (rg 0 ds) a) x)
 (hX:∀ ch w' a',a'.defers=[]->X ch w'->Q (.panic ch) a' w') (hd:a.defers=[]:=by rfl) (hm:P.follows .mixedOrders=true:=by kernel_rfl) (hN:a.tmps.size=N:=by rfl) (hok:fI N l.toArray ds (bK l.toArray) ns []=true:=by kernel_rfl) (hq:Ag ds (bK l.toArray) Cs W=true:=by kernel_rfl) (hwl:(bK l.toArray).length=l.length:=by kernel_rfl) (hns:((List.range l.length).all λi=>(ns.getD i []).all λj=>((bK l.toArray).getD i []).contains j && decide (j<l.length))=true:=by kernel_rfl) (hr:rg 0 ds=List.range l.length:=by rfl):(Code.region id l.toArray true).wp P Q a w :=
 wp_region_any hm (Tz X hX hd N ds (bK l.toArray) ns Cs W M hN hok hq hwl hns hM hstep λx h=>by have:=hend x h;rwa[hr]at this)
end
section
variable {P:Program} {X:List PanicEntry->World->Prop} {ds:List (Option Tmp)} {ws ns:List (List Nat)} {Cs:List (Option Value)} {W:List Nat} {M:Nat->World->Prop} {a:Act} {i:Nat} {o:Oper}
theorem xc (h:∀ (x:World),Gives P o (aK ds (cv Cs) (ns.getD i []) a) x (λv y=>v=cv Cs i/\y=x)) (hw:W.contains i=false:=by kernel_rfl):BS P X ds ws ns Cs W M a i o :=
 ⟨λ_ _ x _ _ _=>h x,λ_ hr e=>(xq hw hr e).elim⟩
theorem xm (h:∀ (s:Nat) (x:World),M s x->Gives P o (aK ds (cv Cs) (ns.getD i []) a) x (λv y=>v=cv Cs i/\y=x)) (hw:W.contains i=false:=by kernel_rfl):BS P X ds ws ns Cs W M a i o :=
 ⟨λ_ s x _ _ hM=>h s x hM,λ_ hr e=>(xq hw hr e).elim⟩
theorem xw (r:Nat) (h:∀ (x:World),M r x->eB P X o (aK ds (cv Cs) (ns.getD i []) a) x (λv y=>(∀ c,Cs.getD i none=some c->v=c)/\M (r+1) y)) (hw:W.contains i=true:=by kernel_rfl) (hu:((List.range W.length).all λt => !(W.getD t 0 == i) || t == r)=true:=by kernel_rfl):BS P X ds ws ns Cs W M a i o :=
 ⟨λh'=>(by rw[hw]at h';cases h'),λt ht e x hM=>by
  have:=List.all_eq_true.1 hu t (List.mem_range.2 ht)
  have e2:t=r:=by rw[e]at this;simpa using this
  subst e2;exact h x hM⟩
end
def GA (p:Value->World->Prop):Prop:=∀ v x y,p v x->p v y
theorem Yl:GA cz:=λ_ _ _ h=>h
def EO:List Bool->List (Value->World->Prop)->Prop
 |b :: bs,p :: l=>(qI p/\(b=false->GA p))/\EO bs l
 | [],[]=>True
 |_,_=>False
theorem EO.at:∀ {bs:List Bool} {l:List (Value->World->Prop)},EO bs l->∀ j,qI (l.getD j cz)/\(bs.getD j false=false->GA (l.getD j cz))
 | [],[],_,_=>⟨zR,λ_=>Yl⟩
 |b :: _,_ :: _,h,0=>⟨h.1.1,λhb=>h.1.2 hb⟩
 |_ :: bs,_ :: l,h,j+1=>EO.at (bs:=bs) (l:=l) h.2 j
def Om (ws:List (List Nat)) (e:Nat) (be:List Nat):Bool:=be.all λi=>decide (i<e) && ((ws.getD e []).contains i || be.any λm=>decide (i<m) && (ws.getD m []).contains i)
section
variable {P:Program} {Q:Exit->Act->World->Prop}
structure LI (ws:List (List Nat)) (e:Nat) (kl:List Bool) (Ps:List (Value->World->Prop)) (O:Nat->Prop) (Pl:Value->World->Prop) (w:World) (L:Array Bool) (vs:Nat->Value) (x:World):Prop where
 mv:Mv (λb=>w.heap.size<=b\/(O b/\L.getD e false=true)) w x
 val:∀ j,j≠e->L.getD j false=true->(kl.getD j false=true->L.getD e false=false\/e∈ws.getD j [])->(Ps.getD j cz) (vs j) x
 last:L.getD e false=true->Pl (vs e) x
structure ab6 (ws:List (List Nat)) (e:Nat) (kl:List Bool) (Ps:List (Value->World->Prop)) (O:Nat->Prop) (Pl:Value->World->Prop) (w:World) (n:Nat) (vs:Nat->Value) (x:World):Prop where
 mv:Mv (λb=>w.heap.size<=b\/O b) w x
 val:∀ j,j<n->j≠e->(kl.getD j false=false\/e∈ws.getD j [])->(Ps.getD j cz) (vs j) x
 last:Pl (vs e) x
end
end Go.Proofs.YtbpodipdfohikaaGreat
