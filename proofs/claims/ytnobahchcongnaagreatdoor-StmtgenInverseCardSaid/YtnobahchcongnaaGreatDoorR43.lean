import Derived.Laws.OwnMore
import Derived.Test.YtnobahchcongnaaGreatDoorR42
set_option linter.unusedSimpArgs false
set_option linter.unusedVariables false
set_option maxRecDepth 100000
set_option maxHeartbeats 25600000
namespace Go.Proofs.YtnobahchcongnaaGreatDoor
section
open Go.RowKit
def cv (Cs:List (Option Value)) (j:Nat):Value:=(Cs.getD j none).getD undef
theorem zC:(∀ v r,cv (some v :: r) 0=v)/\(∀ x r j,cv (x :: r) (j+1)=cv r j):=⟨λ_ _=>rfl,λ_ _ _=>rfl⟩
theorem Gj {ds:List (Option Tmp)} {vs us:Nat->Value} : ∀ (js:List Nat) (a:Act),(∀ j∈js,vs j=us j\/ds.getD j none=none)->aT ds vs js a=aT ds us js a
 | [],_,_=>rfl
 |j :: r,a,h=>by
  simp only[aT];rcases h j (by simp)with e|e
  · rw[e];exact Gj r _ (λk hk=>h k (by simp[hk]))
  · rw[e];exact Gj r _ (λk hk=>h k (by simp[hk]))
def OX (ds:List (Option Tmp)) (ws:List (List Nat)) (Cs:List (Option Value)) (W:List Nat):Bool :=
 (W.all λj=>decide (j<ws.length) && ((ds.getD j none).isNone && (Cs.getD j none).isNone)) && ((List.range (W.length - 1)).all λr=>(ws.getD (W.getD (r+1) 0) []).contains (W.getD r 0)) &&
 ((List.range ws.length).all λj=>(Cs.getD j none).isSome || W.contains j)
def OY (ws:List (List Nat)) (W:List Nat) (i s:Nat):Bool:=(List.range W.length).all λr => !(ws.getD i []).contains (W.getD r 0) || decide (r<s)
def FN (ws:List (List Nat)) (W:List Nat) (i s:Nat):Bool:=decide (s<=W.length) && (List.range W.length).all λr => !((ws.getD (W.getD r 0) []).contains i) || decide (s<=r)
section
variable {P:Program} {Q:Exit->Act->World->Prop}
structure Cn (P:Program) (ds:List (Option Tmp)) (ws ns:List (List Nat)) (Cs:List (Option Value)) (W:List Nat) (M:Nat->World->Prop) (a:Act) (i:Nat) (o:Oper):Prop where
 c:W.contains i=false->∀ s x,OY ws W i s=true->FN ws W i s=true->M s x->Gives P o (aT ds (cv Cs) (ns.getD i []) a) x (λv y=>v=cv Cs i/\y=x)
 w:∀ r,r<W.length->W.getD r 0=i->∀ x,M r x->Gives P o (aT ds (cv Cs) (ns.getD i []) a) x (λ_ y=>M (r+1) y)
structure QI (Cs:List (Option Value)) (W:List Nat) (M:Nat->World->Prop) (L:Array Bool) (vs:Nat->Value) (x:World):Prop where
 st:∃ s,s<=W.length/\(∀ r,r<W.length->L.getD (W.getD r 0) false=decide (r<s))/\M s x
 val:∀ j,L.getD j false=true->∀ c,Cs.getD j none=some c->vs j=c
theorem Pp {W:List Nat} {i:Nat} (h:W.contains i=true):∃ r,r<W.length/\W.getD r 0=i:=by
 obtain⟨r,hr,e⟩:=List.mem_iff_getElem.1 (by simpa using h:i∈W);exact⟨r,hr,by simp[List.getD,hr,e]⟩
theorem X8 {a:Act} {w:World} {l:List Oper} (N:Nat) (ds:List (Option Tmp)) (ws ns:List (List Nat)) (Cs:List (Option Value)) (W:List Nat) (M:Nat->World->Prop) (hN:a.tmps.size=N) (hok:iN N l.toArray ds ws ns []=true) (hq:OX ds ws Cs W=true) (hwl:ws.length=l.length) (hns:((List.range l.length).all λi=>(ns.getD i []).all λj=>(ws.getD i []).contains j && decide (j<l.length))=true)
 (hM:M 0 w) (hstep:mf (Cn P ds ws ns Cs W M a) 0 l)
 (hend:∀ (x:World),M W.length x->Q .normal (aT ds (cv Cs) (List.range l.length) a) x):wpAny P .any l.toArray Q l.toArray.size (Array.replicate l.toArray.size false) a w:=by
 simp only[OX,Bool.and_eq_true]at hq;obtain⟨⟨q1,q2⟩,q3⟩:=hq;have hWd:∀ r,r<W.length->W.getD r 0<l.length/\ds.getD (W.getD r 0) none=none/\Cs.getD (W.getD r 0) none=none:=λr hr=>by
  have:=List.all_eq_true.1 q1 (W.getD r 0) (by simp[List.getD,hr]);simp only[Bool.and_eq_true,decide_eq_true_eq]at this;exact⟨by rw[← hwl];exact this.1,by simpa using this.2.1,by simpa using this.2.2⟩
 have hWc:∀ r,r+1<W.length->W.getD r 0∈ws.getD (W.getD (r+1) 0) []:=λr hr=>by
  have:=List.all_eq_true.1 q2 r (List.mem_range.2 (by omega))
  simpa using this
 have hval:∀ j,j<l.length->(∃ c,Cs.getD j none=some c)\/∃ r,r<W.length/\W.getD r 0=j:=λj hj=>by
  have:=List.all_eq_true.1 q3 j (List.mem_range.2 (by omega));simp only[Bool.or_eq_true]at this;rcases this with h|h
  · exact .inl (Option.isSome_iff_exists.1 h)
  · exact .inr (Pp h)
 have hcv:∀ (L:Array Bool) (vs:Nat->Value) (x:World),QI Cs W M L vs x->∀ j,j<l.length->L.getD j false=true->vs j=cv Cs j\/ds.getD j none=none:=λL vs x hI j hj hL=>by
  rcases hval j hj with⟨c,hc⟩|⟨r,hr,e⟩
  · exact .inl (by rw[hI.val j hL c hc];simp only[cv,hc];rfl)
  · exact .inr (by rw[← e];exact(hWd r hr).2.1)
 refine Gw N ds ws ns [] hN hok (QI Cs W M) ?_ ?_ ?_
 · have hf:∀ j,(Array.replicate l.toArray.size false).getD j false=false:=by
    intro j;by_cases hj:j<l.toArray.size <;> simp[Array.getD,hj]
   exact⟨⟨0,Nat.zero_le _,λr _=>by rw[hf];simp,hM⟩,λj h=>by rw[hf]at h;cases h⟩
 · intro i o ho L vs x hsz gB bZ hcl hI;have hil:i<L.size:=by
    have:=(Array.getElem?_eq_some_iff.1 ho).1;omega
   have acf:i<l.length:=by rw[hsz]at hil;simpa using hil
   have iH:=yw l 0 hstep i o (by simpa using ho);rw[Nat.zero_add]at iH;have hset:(L.setIfInBounds i true).getD i false=true:=by simp[hil]
   have hne:∀ j,j≠i->(L.setIfInBounds i true).getD j false=L.getD j false:=λj hj=>getD_set_ne false (λe=>hj e.symm);have hup:∀ (v:Value) j,j≠i->upd vs i v j=vs j:=λv j hj=>by simp[upd,hj]
   have xh:∀ (v:Value),upd vs i v i=v:=λv=>by simp[upd]
   have hact:aT ds vs (ns.getD i []) a=aT ds (cv Cs) (ns.getD i []) a:=Gj _ _ λj hj=>by
    have h1:=List.all_eq_true.1 (List.all_eq_true.1 hns i (List.mem_range.2 acf)) j hj;simp only[Bool.and_eq_true,decide_eq_true_eq]at h1;exact hcv L vs x hI j h1.2 (bZ j (by simpa using h1.1))
   obtain⟨s,hs,hL,hMs⟩:=hI.st;rw[hact];by_cases hw:W.contains i=true
   · obtain⟨r,hr,e⟩:=Pp hw;have h1:¬ r<s:=λh=>by have:=hL r hr;rw[e,gB]at this;simp[h]at this
     have hsr:s=r:=by
      rcases Nat.eq_zero_or_pos r with h0|h0
      · omega
      · have h2:=hL (r - 1) (by omega);have h3:=hWc (r - 1) (by omega);rw[Nat.sub_add_cancel h0,e]at h3;rw[bZ _ h3]at h2;have:r - 1<s:=by simpa using h2.symm
        omega
     subst hsr;refine(iH.w s hr e x hMs).mono λv y hy=>⟨⟨s+1,hr,λr' hr' => ?_,hy⟩,λj hj c hc => ?_⟩
     · by_cases e2:W.getD r' 0=i
       · rw[e2,hset];have h5:¬ r'<s:=λh=>by have:=hL r' hr';rw[e2,gB]at this;simp[h]at this
         have h4:r'=s:=by
          rcases Nat.lt_or_ge s r' with h|h
          · exfalso;have hr0:r'≠0:=by omega
            have h3:=hWc (r' - 1) (by omega);rw[Nat.sub_add_cancel (by omega),e2]at h3;have h6:=hL (r' - 1) (by omega);rw[bZ _ h3]at h6;have:r' - 1<s:=by simpa using h6.symm
            omega
          · omega
         subst h4;simp
       · rw[hne _ e2,hL r' hr'];have:r'≠s:=λh=>by subst h;exact e2 e
         by_cases h:r'<s
         · simp[h];omega
         · simp[h];omega
     · by_cases e2:j=i
       · exfalso;subst e2;have:=(hWd s hr).2.2;rw[e,hc]at this;cases this
       · rw[hne j e2]at hj;rw[hup v j e2];exact hI.val j hj c hc
   · have hw':W.contains i=false:=by simpa using hw
     have hlo:OY ws W i s=true:=List.all_eq_true.2 λr hr=>by
      have hr:=List.mem_range.1 hr;by_cases h:(ws.getD i []).contains (W.getD r 0)=true
      · have:=hL r hr;rw[bZ _ (by simpa using h)]at this;rw[h];simpa using this.symm
      · rw[Bool.not_eq_true]at h;rw[h];rfl
     have hhi:FN ws W i s=true:=by
      simp only[FN,Bool.and_eq_true,decide_eq_true_eq];refine⟨hs,List.all_eq_true.2 λr hr => ?_⟩;have hr:=List.mem_range.1 hr;by_cases h:(ws.getD (W.getD r 0) []).contains i=true
      · rw[h];have:¬ r<s:=λhlt=>by
         have h2:=hL r hr;simp only[hlt,decide_true]at h2;have:=hcl _ h2 i (by simpa using h);rw[gB]at this;cases this
        simp;omega
      · rw[Bool.not_eq_true]at h;rw[h];rfl
     refine(iH.c hw' s x hlo hhi hMs).mono λv y hy => ?_;obtain⟨rfl,rfl⟩:=hy;refine⟨⟨s,hs,λr hr => ?_,hMs⟩,λj hj c hc => ?_⟩
     · rw[hne _ (λe=>by
        have:W.contains i=true:=by rw[← e];simp[List.getD,hr]
        rw[hw']at this;cases this)]
       exact hL r hr
     · by_cases e2:j=i
       · subst e2;rw[xh];simp only[cv,hc];rfl
       · rw[hne j e2]at hj;rw[hup _ j e2];exact hI.val j hj c hc
 · intro L vs x hall hI;have rY:∀ j,j<l.length->L.getD j false=true:=λj hj=>hall j (by simpa using hj);obtain⟨s,hs,hL,hMs⟩:=hI.st;have hse:s=W.length:=by
    rcases Nat.lt_or_ge s W.length with h|h
    · exfalso;have h1:=hL s h;rw[rY _ (hWd s h).1]at h1;simp at h1
    · omega
   subst hse;have:=hend x hMs;rwa[← Gj (ds:=ds) (vs:=vs) (us:=cv Cs) _ _ (λj hj=>hcv L vs x hI j (List.mem_range.1 hj) (rY j (List.mem_range.1 hj)))]at this
theorem wq {id:Nat} {a:Act} {w:World} {l:List Oper} (N:Nat) (ds:List (Option Tmp)) (ns:List (List Nat)) (Cs:List (Option Value)) (W:List Nat) (M:Nat->World->Prop) (hM:M 0 w.drew) (hstep:mf (Cn P ds (jK l.toArray) ns Cs W M a) 0 l)
 (hend:∀ (x:World),M W.length x->Q .normal (aT ds (cv Cs) (rg 0 ds) a) x)
 (hm:P.follows .mixedOrders=true:=by kernel_rfl) (hN:a.tmps.size=N:=by rfl) (hok:iN N l.toArray ds (jK l.toArray) ns []=true:=by kernel_rfl) (hq:OX ds (jK l.toArray) Cs W=true:=by kernel_rfl) (hwl:(jK l.toArray).length=l.length:=by kernel_rfl) (hns:((List.range l.length).all λi=>(ns.getD i []).all λj=>((jK l.toArray).getD i []).contains j && decide (j<l.length))=true:=by kernel_rfl) (hr:rg 0 ds=List.range l.length:=by rfl):(Code.region id l.toArray true).wp P Q a w :=
 wp_region_any hm (X8 N ds (jK l.toArray) ns Cs W M hN hok hq hwl hns hM hstep λx h=>by have:=hend x h;rwa[hr]at this)
end
section
variable {P:Program} {ds:List (Option Tmp)} {ws ns:List (List Nat)} {Cs:List (Option Value)} {W:List Nat} {M:Nat->World->Prop} {a:Act} {i:Nat} {o:Oper}
theorem Ma {W:List Nat} {i r:Nat} (hw:W.contains i=false) (hr:r<W.length) (e:W.getD r 0=i):False:=by
 have:W.contains i=true:=by rw[← e];simp[List.getD,hr]
 rw[hw]at this;cases this
theorem qc (h:∀ (x:World),Gives P o (aT ds (cv Cs) (ns.getD i []) a) x (λv y=>v=cv Cs i/\y=x)) (hw:W.contains i=false:=by kernel_rfl):Cn P ds ws ns Cs W M a i o :=
 ⟨λ_ _ x _ _ _=>h x,λ_ hr e=>(Ma hw hr e).elim⟩
theorem qr (s:Nat) (h:∀ (x:World),M s x->Gives P o (aT ds (cv Cs) (ns.getD i []) a) x (λv y=>v=cv Cs i/\y=x)) (hw:W.contains i=false:=by kernel_rfl) (hs:((List.range (W.length+1)).all λt => !(OY ws W i t && FN ws W i t) || t == s)=true:=by kernel_rfl):Cn P ds ws ns Cs W M a i o :=
 ⟨λ_ t x h1 h2 hM=>by
  have ht:t<=W.length:=by simp only[FN,Bool.and_eq_true,decide_eq_true_eq]at h2;exact h2.1
  have:=List.all_eq_true.1 hs t (List.mem_range.2 (by omega));rw[h1,h2]at this;have e:t=s:=by simpa using this
  subst e;exact h x hM,λ_ hr e=>(Ma hw hr e).elim⟩
theorem qm (h:∀ (s:Nat) (x:World),M s x->Gives P o (aT ds (cv Cs) (ns.getD i []) a) x (λv y=>v=cv Cs i/\y=x)) (hw:W.contains i=false:=by kernel_rfl):Cn P ds ws ns Cs W M a i o :=
 ⟨λ_ s x _ _ hM=>h s x hM,λ_ hr e=>(Ma hw hr e).elim⟩
theorem qw (r:Nat) (h:∀ (x:World),M r x->Gives P o (aT ds (cv Cs) (ns.getD i []) a) x (λ_ y=>M (r+1) y)) (hw:W.contains i=true:=by kernel_rfl) (hu:((List.range W.length).all λt => !(W.getD t 0 == i) || t == r)=true:=by kernel_rfl):Cn P ds ws ns Cs W M a i o :=
 ⟨λh'=>(by rw[hw]at h';cases h'),λt ht e x hM=>by
  have:=List.all_eq_true.1 hu t (List.mem_range.2 ht);have e2:t=r:=by rw[e]at this;simpa using this
  subst e2;exact h x hM⟩
end
end
section
open Go.RowKit Go.Instr
theorem ZM (c:Array Value) (k:Nat) (p q r s:Value) (h:k+4<=c.size) :
 ((((c.setIfInBounds k p).setIfInBounds (k+1) q).setIfInBounds (k+2) r).setIfInBounds (k+3) s).toList=c.toList.take k ++ [p,q,r,s] ++ c.toList.drop (k+4):=by
 apply List.ext_getElem?;intro i;simp only[Array.toList_setIfInBounds,List.getElem?_set,List.length_set,Array.length_toList];have hl:(c.toList.take k).length=k:=by simp;omega
 rcases Nat.lt_or_ge i k with h1|h1
 · rw[List.append_assoc,List.getElem?_append_left (by omega),List.getElem?_take,if_pos h1];rw[if_neg (by omega),if_neg (by omega),if_neg (by omega),if_neg (by omega)]
 · rw[List.append_assoc,List.getElem?_append_right (by omega),hl];rcases Nat.lt_or_ge i (k+4)with h2|h2
   · rw[List.getElem?_append_left (by simp;omega)];obtain rfl|rfl|rfl|rfl:i=k\/i=k+1\/i=k+2\/i=k+3:=by omega
     all_goals simp <;> omega
   · rw[List.getElem?_append_right (by simp;omega),List.getElem?_drop];simp only[List.length_cons,List.length_nil];rw[if_neg (by omega),if_neg (by omega),if_neg (by omega),if_neg (by omega)];congr 1;omega
theorem gQ.set {w:World} {base g cap n:Nat} {l:List ae} (h:gQ w base (.slice (some ⟨g,0,none⟩) n cap) l) (i:Nat) (hi:i<l.length) (k m:Int) (s:ByteArray) (kv:Value) (kids:List ae) :
 gQ ((((w.setCell ⟨g,i * 4,none⟩ (.int .u8 k)).setCell ⟨g,i * 4+1,none⟩ (.int .i64 m)).setCell ⟨g,i * 4+2,none⟩ (.string s)).setCell ⟨g,i * 4+3,none⟩ kv) base (.slice (some ⟨g,0,none⟩) n cap) (l.set i (.mk k m s kv kids)) /\
 Mv (λb=>b=g) w ((((w.setCell ⟨g,i * 4,none⟩ (.int .u8 k)).setCell ⟨g,i * 4+1,none⟩ (.int .i64 m)).setCell ⟨g,i * 4+2,none⟩ (.string s)).setCell ⟨g,i * 4+3,none⟩ kv):=by
 constructor
 · rcases h.2 with⟨e,_⟩|⟨g',cap',cur,e,hb,hg,hnc,hcm,hcs,htake⟩
   · simp at e
   · simp only[Value.slice.injEq,Option.some.injEq,Addr.mk.injEq,and_true]at e;obtain⟨rfl,rfl,rfl⟩:=e;have h1:=block_setCell (p:=⟨g,i * 4,none⟩) hg rfl (.int .u8 k);have h2:=block_setCell (p:=⟨g,i * 4+1,none⟩) h1 rfl (.int .i64 m);have h3:=block_setCell (p:=⟨g,i * 4+2,none⟩) h2 rfl (.string s);have h4:=block_setCell (p:=⟨g,i * 4+3,none⟩) h3 rfl kv;have hbound:i * 4+4<=cur.size:=by
      rw[hcs];have:=Nat.mul_le_mul_right 4 (show i+1<=cap by omega);omega
     refine⟨by rw[qp _ 4 tK],.inr ⟨g,cap,_,by simp,hb,h4,by simpa using hnc,hcm,by simpa using hcs,?_⟩⟩;rw[ZM cur (i * 4) _ _ _ _ hbound,K4 _ 4 tK l i _ hi];have hlt:i * 4+4<=l.length * 4:=by omega
     have ht1:(flat ae.cells l).take (i * 4)=cur.toList.take (i * 4):=by
      rw[← htake,List.take_take,Nat.min_eq_left (by omega)]
     have ht2:(flat ae.cells l).drop (i * 4+4)=(cur.toList.drop (i * 4+4)).take (l.length * 4 - (i * 4+4)):=by
      rw[← htake,List.drop_take]
     have hl1:(cur.toList.take (i * 4) ++ [Value.int .u8 k,.int .i64 m,.string s,kv]).length=i * 4+4:=by simp;omega
     rw[ht1,ht2,List.length_set,Q8 _ _ _ (by rw[hl1];exact hlt),hl1];rfl
 · exact((((Mv.refl (λb=>b=g) w).setCell (p:=⟨g,i * 4,none⟩) (.inl rfl) _).setCell (p:=⟨g,i * 4+1,none⟩) (.inl rfl) _).setCell (p:=⟨g,i * 4+2,none⟩) (.inl rfl) _).setCell (p:=⟨g,i * 4+3,none⟩) (.inl rfl) _
theorem BX {w:World} {base g n cap:Nat} {l:List ae} (h:gQ w base (.slice (some ⟨g,0,none⟩) n cap) l) (i:Nat):w.frozen? ⟨g,i,none⟩=false:=by
 rcases h.2 with⟨e,_⟩|⟨g',cap',cur,e,hb,hg,_⟩
 · simp at e
 · simp only[Value.slice.injEq,Option.some.injEq,Addr.mk.injEq,and_true]at e;obtain⟨rfl,-,-⟩:=e;exact aG hg i
def Dz:ae := .mk 0 0 ⟨#[]⟩ (.slice none 0 0) []
theorem Y1 (n:Nat):(madeCells #[.int .u8 0,.int .i64 0,.string ⟨#[]⟩,.slice none 0 0] (n * 4)).toList=flat ae.cells (List.replicate n Dz):=by
 have h:∀ n,(madeCells #[.int .u8 0,.int .i64 0,.string ⟨#[]⟩,.slice none 0 0] n).toList=(List.range n).map λi=>(#[Value.int .u8 0,.int .i64 0,.string ⟨#[]⟩,.slice none 0 0]:Array Value)[i % 4]! := λn=>by simp[madeCells]
 rw[h]
 induction n with
 |zero=>simp[flat]
 |succ n ih =>
  have e:(n+1) * 4=n * 4+4:=by omega
  rw[e,List.range_add,List.map_append,ih,List.replicate_succ'];simp only[flat,List.map_append,List.flatten_append];congr 1;simp only[List.map_map];have h4:List.range 4=[0,1,2,3]:=rfl;rw[h4];have m0:(n * 4+0) % 4=0:=by omega
  have m1:(n * 4+1) % 4=1:=by omega
  have m2:(n * 4+2) % 4=2:=by omega
  have m3:(n * 4+3) % 4=3:=by omega
  simp only[List.map_cons,List.map_nil,Function.comp,m0,m1,m2,m3];rfl
theorem BQ {w:World} {base g cap n:Nat} {l:List ae} {i:Nat} (h:gQ w base (.slice (some ⟨g,0,none⟩) n cap) l) (hi:i<l.length):(∃ c,w.cell? ⟨g,i * 4,none⟩=some c)/\(∃ c,w.cell? ⟨g,i * 4+1,none⟩=some c)/\(∃ c,w.cell? ⟨g,i * 4+2,none⟩=some c)/\(∃ c,w.cell? ⟨g,i * 4+3,none⟩=some c)/\g<w.heap.size:=by
 rcases h.2 with⟨e,_⟩|⟨g',cap',cur,e,hb,hg,hnc,hcm,hcs,htake⟩
 · simp at e
 · simp only[Value.slice.injEq,Option.some.injEq,Addr.mk.injEq,and_true]at e;obtain⟨rfl,rfl,rfl⟩:=e;have hbound:i * 4+4<=cur.size:=by
    rw[hcs];have:=Nat.mul_le_mul_right 4 (show i+1<=cap by omega);omega
   have hc:∀ j,j<cur.size->∃ c,w.cell? ⟨g,j,none⟩=some c:=λj hj=>⟨cur[j],by simp[World.cell?,hg,hj]⟩;exact⟨hc _ (by omega),hc _ (by omega),hc _ (by omega),hc _ (by omega),lt_of_block hg⟩
def Sg (x:ae):Prop:=∃ k n s a m c l,x = .mk k n s (.slice a m c) l
theorem X9 (base g cap:Nat) (xs:List ae) (w:World) (h:gQ w base (.slice (some ⟨g,0,none⟩) xs.length cap) xs) (hl:xs.length<=900000) (hs:∀ x∈xs,Sg x) :
 Calls Tryz.prog 61 #[.slice (some ⟨g,0,none⟩) xs.length cap] w λe w'=>e = .returned (.tuple #[])/\gQ w' base (.slice (some ⟨g,0,none⟩) xs.length cap) xs.reverse/\Mv (λb=>b=g) w w':=by
 have nO:=ł h;have zy:=ł hs;have i1:IntKind.i64.wrap ((xs.length:Int) - 1)=(xs.length:Int) - 1:=IntWalk.i64_in _ (by omega);clear h hs
 go_enter Tryz.func61,Tryz.ntmps61
 go_wp2_with fail;clear i1
 go_loopw [2,3] (λti tj wr=>∃ (k m:Nat) (ys:List ae),ti = .int .i64 k/\tj = .int .i64 ((m:Int) - 1)/\k+m=xs.length/\ys.length=xs.length/\(∀ i (h:i<ys.length) (h':i<xs.length),ys[i]=if i<k\/m<=i then xs[xs.length - 1 - i]'(by omega)else xs[i])/\gQ wr base (.slice (some ⟨g,0,none⟩) xs.length cap) ys/\Mv (λb=>b=g) w wr) (λti _ _=>xs.length - (intOf ti).toNat)
 case atStart=>exact⟨0,xs.length,xs,rfl,rfl,by omega,rfl,λi h h'=>by rw[if_neg (by omega)],nO.out,Mv.refl _ _⟩
 obtain⟨k,m,ys,rfl,rfl,NA,hyl,hys,hrow,hmv⟩:=hrel;have JX:=ł hys;have gK:=ł hrow;have j5:=ł hmv;clear hys hrow hmv nO;by_cases hlt:k+1<m
 · obtain⟨q,rfl⟩:∃ q,m=q+1:=⟨m - 1,by omega⟩;have hq1:((q+1:Nat):Int) - 1=(q:Int):=by omega
   have hkl:k<ys.length:=by omega
   have hkx:k<xs.length:=by omega
   have C8:q<xs.length:=by omega
   have ll:q<ys.length:=by omega
   have Bi:ys[k]=xs[k]:=by rw[JX.out k hkl (by omega),if_neg (by omega)]
   have hqy:ys[q]=xs[q]:=by rw[JX.out q ll (by omega),if_neg (by omega)]
   have iE:=ł (zy.out xs[k] (List.getElem_mem _));have kg:=ł (zy.out xs[q] (List.getElem_mem _));obtain⟨k1,n1,s1,a1,m1,c1,l1,hx1⟩:=iE.out;obtain⟨k2,n2,s2,a2,m2,c2,l2,hx2⟩:=kg.out;have iD:=ł (show ∀ i (h:i<((ys.set k (.mk k2 n2 s2 (.slice a2 m2 c2) l2)).set q (.mk k1 n1 s1 (.slice a1 m1 c1) l1)).length) (h':i<xs.length),((ys.set k (.mk k2 n2 s2 (.slice a2 m2 c2) l2)).set q (.mk k1 n1 s1 (.slice a1 m1 c1) l1))[i]=if i<k+1\/q<=i then xs[xs.length - 1 - i]'(by omega)else xs[i]from λi h h'=>by
    simp only[List.getElem_set];by_cases h1:q=i
    · subst h1;rw[if_pos rfl,if_pos (by omega),← hx1];congr 1;omega
    · rw[if_neg h1];by_cases h2:k=i
      · subst h2;rw[if_pos rfl,if_pos (by omega),← hx2];congr 1;omega
      · rw[if_neg h2,JX.out i (by simpa using h) h'];by_cases h3:i<k\/q+1<=i
        · rw[if_pos h3,if_pos (by omega)]
        · rw[if_neg h3,if_neg (by omega)])
   have hy1:=Bi.trans hx1;have hy2:=hqy.trans hx2;rw[hq1];go_upto_region 3 with fail;refine wq _ [some 14,some 15,some 16,some 17,some 18,some 19,some 20,some 21,some 22,some 23,some 24,some 25,some 26,none,some 27,none] [[],[],[],[],[],[],[4,5],[6],[],[],[8,9],[10],[0,1],[12,7],[2,3],[14,11]] [some (.slice (some ⟨g,0,none⟩) xs.length cap),some (.int .i64 k),some (.slice (some ⟨g,0,none⟩) xs.length cap),some (.int .i64 q),some (.slice (some ⟨g,0,none⟩) xs.length cap),some (.int .i64 q),some (.pointer (some ⟨g,q * 4,none⟩)),some (.agg #[.int .u8 k2,.int .i64 n2,.string s2,.slice a2 m2 c2]),some (.slice (some ⟨g,0,none⟩) xs.length cap),some (.int .i64 k),some (.pointer (some ⟨g,k * 4,none⟩)),some (.agg #[.int .u8 k1,.int .i64 n1,.string s1,.slice a1 m1 c1]),some (.pointer (some ⟨g,k * 4,none⟩)),none,some (.pointer (some ⟨g,q * 4,none⟩)),none] [13,15] (λs x=>Mv (λb=>b=g) w x/\gQ x base (.slice (some ⟨g,0,none⟩) xs.length cap) (if s=0 then ys else if s=1 then ys.set k (.mk k2 n2 s2 (.slice a2 m2 c2) l2)else(ys.set k (.mk k2 n2 s2 (.slice a2 m2 c2) l2)).set q (.mk k1 n1 s1 (.slice a1 m1 c1) l1))) ?m0 ?steps ?done
   case m0=>exact⟨Mv.drew j5.out,gK.out⟩
   case steps =>
    refine⟨?s0,?s1,?s2,?s3,?s4,?s5,?s6,?s7,?s8,?s9,?s10,?s11,?s12,?s13,?s14,?s15,trivial⟩
    case s0|s1|s2|s3|s4|s5|s6|s8|s9|s10|s12|s14 =>
     refine qc (λx => ?_);simp only[zS,zC];go_simp;exact⟨rfl,rfl⟩
    case s7 =>
     refine qr 0 (λx hM => ?_);rw[if_pos rfl]at hM;obtain⟨b,o,p,e,-,hc⟩:=(fI tK (by have:=hM.2;rwa[← hyl]at this)).at ll;simp only[Value.slice.injEq,Option.some.injEq,Addr.mk.injEq,and_true,true_and]at e;obtain⟨⟨rfl,rfl⟩,-⟩:=e;rw[hy2]at hc;have d0:=hc 0 _ rfl;have d1:=hc 1 _ rfl;have d2:=hc 2 _ rfl;have d3:=hc 3 _ rfl;simp only[Nat.add_zero,Nat.zero_add]at d0 d1 d2 d3;have hgl:=World.block_lt_of_cell? _ _ d0;clear hc hM;simp only[zS,zC];go_simp;exact⟨rfl,rfl⟩
    case s11 =>
     refine qr 0 (λx hM => ?_);rw[if_pos rfl]at hM;obtain⟨b,o,p,e,-,hc⟩:=(fI tK (by have:=hM.2;rwa[← hyl]at this)).at hkl;simp only[Value.slice.injEq,Option.some.injEq,Addr.mk.injEq,and_true,true_and]at e;obtain⟨⟨rfl,rfl⟩,-⟩:=e;rw[hy1]at hc;have d0:=hc 0 _ rfl;have d1:=hc 1 _ rfl;have d2:=hc 2 _ rfl;have d3:=hc 3 _ rfl;simp only[Nat.add_zero,Nat.zero_add]at d0 d1 d2 d3;have hgl:=World.block_lt_of_cell? _ _ d0;clear hc hM;simp only[zS,zC];go_simp;exact⟨rfl,rfl⟩
    case s13 =>
     refine qw 0 (λx hM => ?_);simp only[Nat.reduceAdd,Nat.reduceEqDiff,if_true,if_false,reduceIte]at hM ⊢;have hset:=gQ.set hM.2 k hkl k2 n2 s2 (.slice a2 m2 c2) l2;have HS:=ł (show _/\_ from⟨hM.1.trans hset.2 (λ_ e => .inl e),hset.1⟩);have zt:=BX hM.2;obtain⟨⟨v0,Ue⟩,⟨v1,hcs1⟩,⟨v2,hcs2⟩,⟨v3,acg⟩,hgl⟩:=BQ hM.2 hkl;clear hM hset;simp only[zS,zC];go_simp;exact⟨HS.out.1,HS.out.2⟩
    case s15 =>
     refine qw 1 (λx hM => ?_);simp only[Nat.reduceAdd,Nat.reduceEqDiff,if_true,if_false,reduceIte]at hM ⊢;have hset:=gQ.set hM.2 q (by simpa using ll) k1 n1 s1 (.slice a1 m1 c1) l1;have HS:=ł (show _/\_ from⟨hM.1.trans hset.2 (λ_ e => .inl e),hset.1⟩);have zt:=BX hM.2;obtain⟨⟨v0,Ue⟩,⟨v1,hcs1⟩,⟨v2,hcs2⟩,⟨v3,acg⟩,hgl⟩:=BQ hM.2 (show q<(ys.set k (.mk k2 n2 s2 (.slice a2 m2 c2) l2)).length by simpa using ll);clear hM hset;simp only[zS,zC];go_simp;exact⟨HS.out.1,HS.out.2⟩
   case done =>
   intro w5 hM;simp only[List.length_cons,List.length_nil,Nat.zero_add,Nat.reduceAdd,Nat.reduceEqDiff,if_false,reduceIte]at hM;simp only[zS,zC,Nat.zero_add,Nat.reduceAdd];have HR2:=ł hM.2;have dM:=ł hM.1;clear hM;go_wp2_with fail
   go_roundw
   case rel=>exact⟨k+1,q,_,by go_num,by go_num,by omega,by simpa using hyl,iD.out,HR2.out,dM.out⟩
   case measure=>(simp[intOf] <;> omega)
 · have HE:=ł (show ys=xs.reverse from by
    refine List.ext_getElem (by simpa using hyl) λi h1 h2 => ?_;rw[JX.out i h1 (by omega),List.getElem_reverse];by_cases h3:i<k\/m<=i
    · rw[if_pos h3]
    · rw[if_neg h3];congr 1;omega)
   have hcm:decide ((k:Int)<(m:Int) - 1)=false:=by simp;omega
   go_wp2_with fail
   go_end0
   exact⟨rfl,by rw[← HE.out];exact gK.out,j5.out⟩
section
variable {P:Program} {Q:Exit->Act->World->Prop}
theorem Xf {id:Nat} {a:Act} {w:World} {l:List Oper} (N:Nat) (ds:List (Option Tmp)) (ns:List (List Nat)) (I:Array Bool->(Nat->Value)->World->Prop) (hI0:I (Array.replicate l.length false) (λ_=>undef) w.drew)
 (hstep:mf (λi o=>∀ (L:Array Bool) (vs:Nat->Value) (x:World),L.size=l.length->L.getD i false=false->(∀ j∈(jK l.toArray).getD i [],L.getD j false=true)->yJ (jK l.toArray) L->I L vs x->Gives P o (aT ds vs (ns.getD i []) a) x (λv y=>I (L.setIfInBounds i true) (upd vs i v) y)) 0 l)
 (hend:∀ (L:Array Bool) (vs:Nat->Value) (x:World),(∀ j,j<l.length->L.getD j false=true)->I L vs x->Q .normal (aT ds vs (rg 0 ds) a) x)
 (hm:P.follows .mixedOrders=true:=by kernel_rfl) (hN:a.tmps.size=N:=by rfl) (hok:iN N l.toArray ds (jK l.toArray) ns []=true:=by kernel_rfl) (hr:rg 0 ds=List.range l.length:=by rfl):(Code.region id l.toArray true).wp P Q a w :=
 wp_region_any hm (Gw N ds (jK l.toArray) ns [] hN hok I (by simpa using hI0) (λi o ho L vs x h1 h2 h3 h4 h5=>by
  have:=yw l 0 hstep i o (by simpa using ho) L vs x (by simpa using h1);rw[Nat.zero_add]at this;exact this h2 h3 h4 h5) (λL vs x h1 h2=>by have:=hend L vs x (by simpa using h1) h2;rw[hr]at this;simpa using this))
end
abbrev Mc:Array Value:=#[.int .u8 0,.int .i64 0,.string ⟨#[]⟩,.slice none 0 0]
structure nR (w:World) (n:Nat) (A:Value->Array Value) (cs:List (Option Value)) (L:Array Bool) (vs:Nat->Value) (x:World):Prop where
 g:Grow w x
 val:∀ j c,L.getD j false=true->cs.getD j none=some c->vs j=c
 row:L.getD 9 false=true->∃ g,vs 9 = .slice (some ⟨g,0,none⟩) n n/\gQ x w.heap.size (.slice (some ⟨g,0,none⟩) n n) (List.replicate n Dz)/\(L.getD 11 false=true->vs 11 ≠ .pointer (some ⟨g,0,none⟩))
 agg:L.getD 10 false=true->vs 10 = .agg (A (vs 9))
 box:L.getD 11 false=true->∃ g,vs 11 = .pointer (some ⟨g,0,none⟩)/\w.heap.size<=g/\x.heap[g]? = some (.cells (if L.getD 12 false=true then A (vs 9)else Mc) 24 (0,0))
theorem upd_ne {vs:Nat->Value} {i j:Nat} {v:Value} (h:j≠i):upd vs i v j=vs j:=by simp[upd,h]
theorem DY {vs:Nat->Value} {i:Nat} {v:Value} : upd vs i v i=v:=by simp[upd]
section
variable {w x y:World} {n:Nat} {A:Value->Array Value} {cs:List (Option Value)} {L:Array Bool} {vs:Nat->Value}
theorem jV {i j:Nat} (h:j≠i):(L.setIfInBounds i true).getD j false=L.getD j false:=getD_set_ne false (λe=>h e.symm)
theorem nR.const (h:nR w n A cs L vs x) {i:Nat} {c v:Value} (hc:cs.getD i none=some c) (h9:i<9) (hv:v=c):nR w n A cs (L.setIfInBounds i true) (upd vs i v) x:=by
 refine⟨h.g,λj c' hj hc' => ?_,?_,?_,?_⟩
 · by_cases e:j=i
   · subst e;rw[DY,hv];rw[hc]at hc';exact Option.some.inj hc'
   · rw[jV e]at hj;rw[upd_ne e];exact h.val j c' hj hc'
 · rw[jV (by omega),jV (by omega),upd_ne (by omega),upd_ne (by omega)];exact h.row
 · rw[jV (by omega),upd_ne (by omega),upd_ne (by omega)];exact h.agg
 · rw[jV (by omega),jV (by omega),upd_ne (by omega),upd_ne (by omega)];exact h.box
theorem nR.made (h:nR w n A cs L vs x) (hc:cs.getD 9 none=none) (h12:L.getD 12 false=false) (h10:L.getD 10 false=false) (hg:Grow x y) (hr:gQ y w.heap.size (.slice (some ⟨x.heap.size,0,none⟩) n n) (List.replicate n Dz)):nR w n A cs (L.setIfInBounds 9 true) (upd vs 9 (.slice (some ⟨x.heap.size,0,none⟩) n n)) y:=by
 refine⟨gtr h.g hg,λj c' hj hc' => ?_,λ_ => ?_,λhl => ?_,λhl => ?_⟩
 · by_cases e:j=9
   · subst e;rw[hc]at hc';cases hc'
   · rw[jV e]at hj;rw[upd_ne e];exact h.val j c' hj hc'
 · refine⟨_,DY,hr,λhl => ?_⟩;rw[jV (by omega)]at hl;rw[upd_ne (by omega)];obtain⟨g,hv,_,hb⟩:=h.box hl;rw[hv];have:=lt_of_block hb;intro e;simp only[Value.pointer.injEq,Option.some.injEq,Addr.mk.injEq]at e;omega
 · rw[jV (by omega),h10]at hl;cases hl
 · rw[jV (by omega)]at hl;rw[jV (by omega),upd_ne (by omega),h12];obtain⟨g,hv,h1,hb⟩:=h.box hl;rw[h12]at hb;exact⟨g,hv,h1,ai hb hg⟩
theorem nR.built (h:nR w n A cs L vs x) (hc:cs.getD 10 none=none) {v:Value} (hv:v = .agg (A (vs 9))):nR w n A cs (L.setIfInBounds 10 true) (upd vs 10 v) x:=by
 refine⟨h.g,λj c' hj hc' => ?_,?_,λ_ => ?_,?_⟩
 · by_cases e:j=10
   · subst e;rw[hc]at hc';cases hc'
   · rw[jV e]at hj;rw[upd_ne e];exact h.val j c' hj hc'
 · rw[jV (by omega),jV (by omega),upd_ne (by omega),upd_ne (by omega)];exact h.row
 · rw[DY,upd_ne (by omega)];exact hv
 · rw[jV (by omega),jV (by omega),upd_ne (by omega),upd_ne (by omega)];exact h.box
theorem nR.boxed (h:nR w n A cs L vs x) (hsz:12<L.size) (hc:cs.getD 11 none=none) (h12:L.getD 12 false=false):nR w n A cs (L.setIfInBounds 11 true) (upd vs 11 (.pointer (some ⟨x.heap.size,0,none⟩))) (x.alloc (.cells Mc 24)):=by
 have hg:Grow x (x.alloc (.cells Mc 24)):=(Mv.refl _ _).alloc _;refine⟨gtr h.g hg,λj c' hj hc' => ?_,λhl => ?_,λhl => ?_,λ_ => ?_⟩
 · by_cases e:j=11
   · subst e;rw[hc]at hc';cases hc'
   · rw[jV e]at hj;rw[upd_ne e];exact h.val j c' hj hc'
 · rw[jV (by omega)]at hl;obtain⟨g,hv,hr,_⟩:=h.row hl;refine⟨g,by rw[upd_ne (by omega)];exact hv,bg hr hg (λ_ _ e=>e),λ_ => ?_⟩;rw[DY];have:=(hr.lt g rfl).2;intro e;simp only[Value.pointer.injEq,Option.some.injEq,Addr.mk.injEq]at e;omega
 · rw[jV (by omega)]at hl;rw[upd_ne (by omega),upd_ne (by omega)];exact h.agg hl
 · refine⟨x.heap.size,DY,h.g.size,?_⟩;rw[jV (by omega),h12];exact heap_alloc_new x _
theorem nR.filled (h:nR w n A cs L vs x) (hsz:12<L.size) (hc:cs.getD 12 none=none) (h9:L.getD 9 false=true) (h11:L.getD 11 false=true) {g:Nat} (hg:vs 11 = .pointer (some ⟨g,0,none⟩)) (hgw:w.heap.size<=g) (hb:y.heap[g]? = some (.cells (A (vs 9)) 24 (0,0))) (hm:Mv (λb=>b=g) x y) {v:Value} : nR w n A cs (L.setIfInBounds 12 true) (upd vs 12 v) y:=by
 refine⟨h.g.trans hm (λb e => .inr (by omega)),λj c' hj hc' => ?_,λhl => ?_,λhl => ?_,λ_ => ?_⟩
 · by_cases e:j=12
   · subst e;rw[hc]at hc';cases hc'
   · rw[jV e]at hj;rw[upd_ne e];exact h.val j c' hj hc'
 · obtain⟨g',hv,hr,hne⟩:=h.row h9;have hne':=hne h11;refine⟨g',by rw[upd_ne (by omega)];exact hv,bg hr hm (λk hk e => ?_),λ_=>by rw[upd_ne (by omega)];exact hne'⟩;simp only[Value.ownBlock,Option.some.injEq]at hk;subst hk e;exact hne' hg
 · rw[jV (by omega)]at hl;rw[upd_ne (by omega),upd_ne (by omega)];exact h.agg hl
 · have hs:(L.setIfInBounds 12 true).getD 12 false=true:=by simp[hsz]
   rw[hs,upd_ne (by omega),upd_ne (by omega)];exact⟨g,hg,hgw,hb⟩
end
end
end Go.Proofs.YtnobahchcongnaaGreatDoor
