import Derived.Test.YtadecgbblajifaaGreatDoorA05
set_option linter.unusedSimpArgs false
set_option linter.unusedVariables false
set_option maxRecDepth 100000
set_option maxHeartbeats 25600000
namespace Go.Proofs.YtadecgbblajifaaGreatDoor
open Go.RowKit
inductive Kd where
 |op
 |al (st iv:Nat) (z:Array Value) (T:TypeId)
 |st (ia:Nat)
 |rs (R iv:Nat) (z:Array Value) (T:TypeId)
def iB:Value->Array Value
 |.agg a=>a
 |v=>#[v]
def Kd.zero:Kd->Option (Array Value × TypeId)
 |.al _ _ z T=>some (z,T)
 |.rs _ _ z T=>some (z,T)
 |_=>none
def Kd.jw:Kd->Bool
 |.rs .. => true
 |_=>false
def Kd.PZ:Kd->Bool
 |.rs .. => true
 |.st .. => true
 |_=>false
def Kd.wH:Kd->Bool
 |.al .. => true
 |_=>false
def aP:Value->World->Prop:=λ_ _=>True
def Pc (c:Value):Value->World->Prop:=λv _=>v=c
def vw (Zs:List (Array Value × TypeId)) (p:Value->World->Prop):Prop:=∀ z∈Zs,∀ g v x y,x.heap[g]? = some (.cells z.1 z.2 (0,0))->Mv (λb=>b=g) x y->p v x->p v y
def qb (p:Value->World->Prop):Prop:=∀ v x y,Grow x y->p v x->p v y
theorem Yg (c:Value):qb (Pc c):=λ_ _ _ _ h=>h
theorem sF:qb aP:=λ_ _ _ _ h=>h
theorem Yh (Zs:List (Array Value × TypeId)) (c:Value):vw Zs (Pc c):=λ_ _ _ _ _ _ _ _ h=>h
theorem vL (Zs:List (Array Value × TypeId)):vw Zs aP:=λ_ _ _ _ _ _ _ _ h=>h
def qo (Zs:List (Array Value × TypeId)):List Bool->List (Value->World->Prop)->Prop
 |b :: bs,p :: l=>(qb p/\(b=false->vw Zs p))/\qo Zs bs l
 | [],[]=>True
 |_,_=>False
theorem qo.at {Zs:List (Array Value × TypeId)} : ∀ {bs:List Bool} {l:List (Value->World->Prop)},qo Zs bs l->∀ j,qb (l.getD j aP)/\(bs.getD j false=false->vw Zs (l.getD j aP))
 | [],[],_,_=>⟨sF,λ_=>vL _⟩
 |b :: _,_ :: _,h,0=>⟨h.1.1,λhb=>h.1.2 hb⟩
 |_ :: bs,_ :: l,h,j+1=>qo.at (bs:=bs) (l:=l) h.2 j
def KP:List Kd->List (Value->World->Prop)->Prop
 |k :: ks,p :: ps=>(k ≠ .op->p=aP)/\KP ks ps
 |_,_=>True
theorem KP.at:∀ {ks:List Kd} {ps:List (Value->World->Prop)},KP ks ps->∀ i,ks.getD i .op ≠ .op->ps.getD i aP=aP
 | [],_,_,i,h=>by simp[List.getD]at h
 |_ :: _,[],_,i,_=>by simp[List.getD]
 |k :: _,p :: _,h,0,hk=>h.1 hk
 |_ :: ks,_ :: ps,h,i+1,hk=>KP.at (ks:=ks) (ps:=ps) h.2 i (by simpa using hk)
theorem Em {p:Value->World->Prop} : Kd.op ≠ .op->p=aP:=λh=>absurd rfl h
theorem DK {k:Kd} : k ≠ .op->aP=aP:=λ_=>rfl
def Ae (ws:List (List Nat)) (kl:List Bool) (ks:List Kd):Bool:=(List.range ks.length).all λi=>match ks.getD i .op with
 |.op=>true
 |.al st iv _ _=>(match ks.getD st .op with | .st ia=>ia == i|_=>false) && ((ws.getD st []).contains i && ((ws.getD st []).contains iv && !kl.getD iv false))
 |.st ia=>match ks.getD ia .op with | .al st _ _ _=>st == i|_=>false
 |.rs _ iv _ _=>((ws.getD i []).contains iv && !kl.getD iv false) && (List.range ks.length).all λj=>j == i || !(ks.getD j .op).jw
def xG (ws:List (List Nat)) (ks:List Kd) (i:Nat):Bool:=(List.range ks.length).all λj => !(ks.getD j .op).jw || (ws.getD j []).contains i
def xH (ws:List (List Nat)) (ks:List Kd) (i:Nat):Bool:=(List.range ks.length).all λj => !(ks.getD j .op).PZ || (ws.getD j []).contains i
theorem getD_lt {ks:List Kd} {i:Nat} (h:ks.getD i .op ≠ .op):i<ks.length:=by
 rcases Nat.lt_or_ge i ks.length with h' | h'
 · exact h'
 · exact absurd (by simp[List.getD,List.getElem?_eq_none h']) h
section
variable {P:Program} {Q:Exit->Act->World->Prop}
def Fj (ks:List Kd) (L:Array Bool) (b:Nat):Prop:=∃ i iv z T,ks.getD i .op = .rs b iv z T/\L.getD i false=true
structure GI (kl:List Bool) (ks:List Kd) (Ps:List (Value->World->Prop)) (w:World) (L:Array Bool) (vs:Nat->Value) (x:World):Prop where
 mv:Mv (λb=>w.heap.size<=b\/Fj ks L b) w x
 val:∀ j,L.getD j false=true->(kl.getD j false=true->∀ m,(ks.getD m .op).PZ=true->L.getD m false=false)->(Ps.getD j aP) (vs j) x
 box:∀ i st iv z T,ks.getD i .op = .al st iv z T->L.getD i false=true->∃ g,vs i = .pointer (some ⟨g,0,none⟩)/\w.heap.size<=g/\g<x.heap.size/\x.heap[g]? = some (.cells (if L.getD st false=true then iB (vs iv)else z) T (0,0))
 apart:∀ i j,i≠j->(ks.getD i .op).wH=true->(ks.getD j .op).wH=true->L.getD i false=true->L.getD j false=true->vs i≠vs j
 res:∀ i R iv z T,ks.getD i .op = .rs R iv z T->R<w.heap.size/\x.heap[R]? = some (.cells (if L.getD i false=true then iB (vs iv)else z) T (0,0))
structure ow (kl:List Bool) (ks:List Kd) (Ps:List (Value->World->Prop)) (w:World) (vs:Nat->Value) (x:World):Prop where
 mv:Mv (λb=>w.heap.size<=b\/∃ i iv z T,ks.getD i .op = .rs b iv z T) w x
 val:∀ j,j<ks.length->kl.getD j false=false->(Ps.getD j aP) (vs j) x
 box:∀ i st iv z T,ks.getD i .op = .al st iv z T->∃ g,vs i = .pointer (some ⟨g,0,none⟩)/\w.heap.size<=g/\g<x.heap.size/\x.heap[g]? = some (.cells (iB (vs iv)) T (0,0))
 apart:∀ i j,i≠j->(ks.getD i .op).wH=true->(ks.getD j .op).wH=true->vs i≠vs j
 res:∀ i R iv z T,ks.getD i .op = .rs R iv z T->x.heap[R]? = some (.cells (iB (vs iv)) T (0,0))
def GR (x:World) (p:Value->World->Prop) (v:Value) (y:World):Prop:=Grow x y/\p v y
theorem Fp {x y:World} {v c:Value} (hg:Grow x y) (h:v=c):GR x (Pc c) v y:=⟨hg,h⟩
def GStep (P:Program) (ds:List (Option Tmp)) (ws ns:List (List Nat)) (kl:List Bool) (ks:List Kd) (Ps:List (Value->World->Prop)) (w:World) (a:Act) (i:Nat) (o:Oper):Prop :=
 match ks.getD i .op with
 |.op=>∀ (vs:Nat->Value) (x:World),(xG ws ks i=true->Mv (λb=>w.heap.size<=b) w x)->(∀ j∈ws.getD i [],(kl.getD j false=true->xH ws ks i=true)->(Ps.getD j aP) (vs j) x)->Gives P o (aB ds vs (ns.getD i []) a) x (GR x (Ps.getD i aP))
 |.al _ _ z T=>∀ (vs:Nat->Value) (x:World),Gives P o (aB ds vs (ns.getD i []) a) x (λv y=>v = .pointer (some ⟨x.heap.size,0,none⟩)/\y=x.alloc (.cells z T))
 |.st ia=>∀ st iv z T,ks.getD ia .op = .al st iv z T->∀ (vs:Nat->Value) (x:World) (g:Nat),vs ia = .pointer (some ⟨g,0,none⟩)->x.heap[g]? = some (.cells z T (0,0))->(Ps.getD iv aP) (vs iv) x->Gives P o (aB ds vs (ns.getD i []) a) x (λ_ y=>y.heap[g]? = some (.cells (iB (vs iv)) T (0,0))/\Mv (λb=>b=g) x y)
 |.rs R iv z T=>∀ (vs:Nat->Value) (x:World),x.heap[R]? = some (.cells z T (0,0))->(Ps.getD iv aP) (vs iv) x->Gives P o (aB ds vs (ns.getD i []) a) x (λ_ y=>y.heap[R]? = some (.cells (iB (vs iv)) T (0,0))/\Mv (λb=>b=R) x y)
theorem Iy {a:Act} {w:World} {l:List Oper} (N:Nat) (ds:List (Option Tmp)) (ws ns:List (List Nat)) (kl:List Bool) (ks:List Kd) (Ps:List (Value->World->Prop)) (hN:a.tmps.size=N) (hok:kS N l.toArray ds ws ns []=true) (hkd:Ae ws kl ks=true) (hlen:ks.length=l.length)
 (qK:KP ks Ps) (mG:qo (ks.filterMap Kd.zero) kl Ps)
 (hR0:∀ i R iv z T,ks.getD i .op = .rs R iv z T->R<w.heap.size/\w.heap[R]? = some (.cells z T (0,0)))
 (hstep:mg (GStep P ds ws ns kl ks Ps w a) 0 l)
 (hend:∀ (vs:Nat->Value) (x:World),ow kl ks Ps w vs x->Q .normal (aB ds vs (List.range l.length) a) x):wpAny P .any l.toArray Q l.toArray.size (Array.replicate l.toArray.size false) a w:=by
 have hal:=λi hi=>qK.at i hi;have hk:∀ i,i<ks.length->_:=λi hi=>List.all_eq_true.1 hkd i (List.mem_range.2 hi);have hzs:∀ i st iv z T,ks.getD i .op = .al st iv z T->(z,T)∈ks.filterMap Kd.zero:=by
  intro i st iv z T h;have hi:=getD_lt (by rw[h];simp:ks.getD i .op ≠ .op);refine List.mem_filterMap.2 ⟨ks[i],List.getElem_mem hi,?_⟩;have:ks[i]=ks.getD i .op:=by simp[List.getD,hi]
  rw[this,h];rfl
 have oW:∀ i R iv z T,ks.getD i .op = .rs R iv z T->(z,T)∈ks.filterMap Kd.zero:=by
  intro i R iv z T h;have hi:=getD_lt (by rw[h];simp:ks.getD i .op ≠ .op);refine List.mem_filterMap.2 ⟨ks[i],List.getElem_mem hi,?_⟩;have:ks[i]=ks.getD i .op:=by simp[List.getD,hi]
  rw[this,h];rfl
 have hka:∀ i st iv z T,ks.getD i .op = .al st iv z T->ks.getD st .op = .st i/\i∈ws.getD st []/\iv∈ws.getD st []:=by
  intro i st iv z T h;have h1:=hk i (getD_lt (by rw[h];simp));rw[h]at h1;simp only[Bool.and_eq_true]at h1;obtain⟨h1,h2,h3,_⟩:=h1;refine⟨?_,by simpa using h2,by simpa using h3⟩;split at h1
  · rename_i ia he;rw[he];congr 1;simpa using h1
  · cases h1
 have hkl:∀ i st iv z T,ks.getD i .op = .al st iv z T->kl.getD iv false=false:=by
  intro i st iv z T h;have h1:=hk i (getD_lt (by rw[h];simp));rw[h]at h1;simp only[Bool.and_eq_true]at h1
  simpa using h1.2.2.2
 have Yi:∀ i R iv z T,ks.getD i .op = .rs R iv z T->kl.getD iv false=false:=by
  intro i R iv z T h;have h1:=hk i (getD_lt (by rw[h];simp));rw[h]at h1;simp only[Bool.and_eq_true]at h1
  simpa using h1.1.2
 have hks:∀ i ia,ks.getD i .op = .st ia->∃ iv z T,ks.getD ia .op = .al i iv z T:=by
  intro i ia h;have h1:=hk i (getD_lt (by rw[h];simp));rw[h]at h1;simp only at h1;split at h1
  · rename_i st iv z T he;have:st=i:=by simpa using h1
    subst this;exact⟨iv,z,T,he⟩
  · cases h1
 have hkr:∀ i R iv z T,ks.getD i .op = .rs R iv z T->iv∈ws.getD i []/\∀ j,j≠i->(ks.getD j .op).jw=false:=by
  intro i R iv z T h;have h1:=hk i (getD_lt (by rw[h];simp));rw[h]at h1;simp only[Bool.and_eq_true]at h1;refine⟨by simpa using h1.1.1,λj hj => ?_⟩;rcases Nat.lt_or_ge j ks.length with hjl|hjl
  · have:=List.all_eq_true.1 h1.2 j (List.mem_range.2 hjl);simp only[Bool.or_eq_true,Bool.not_eq_true',beq_iff_eq]at this;rcases this with e|e
    · exact absurd e hj
    · exact e
  · simp[List.getD,List.getElem?_eq_none hjl,Kd.jw]
 refine IP N ds ws ns [] hN hok (GI kl ks Ps w) ?_ ?_ ?_
 · have hf:∀ j,(Array.replicate l.toArray.size false).getD j false=false:=by
    intro j;by_cases hj:j<l.toArray.size
    · simp[Array.getD,hj]
    · simp[Array.getD,hj]
   refine⟨Mv.refl _ _,λj h _ => ?_,λi st iv z T _ h => ?_,λi j _ _ _ h => ?_,λi R iv z T h => ?_⟩
   · rw[hf]at h;cases h
   · rw[hf]at h;cases h
   · rw[hf]at h;cases h
   · rw[hf];exact hR0 i R iv z T h
 · intro i o ho L vs x hsz lH gN hcl hI;have hil:i<L.size:=by
    have:=(Array.getElem?_eq_some_iff.1 ho).1;omega
   have bO:=Cw l 0 hstep i o (by simpa using ho);rw[Nat.zero_add]at bO;have hset:(L.setIfInBounds i true).getD i false=true:=by simp[hil]
   have hne:∀ j,j≠i->(L.setIfInBounds i true).getD j false=L.getD j false:=λj hj=>getD_set_ne false (λe=>hj e.symm);have hup:∀ (v:Value) j,j≠i->upd vs i v j=vs j:=λv j hj=>by simp[upd,hj]
   have qL:∀ (v:Value),upd vs i v i=v:=λv=>by simp[upd]
   have ru:∀ j,L.getD j false=true->j≠i:=λj hj e=>by rw[e,lH]at hj;cases hj
   have hval:∀ j∈ws.getD i [],(kl.getD j false=true->xH ws ks i=true)->(Ps.getD j aP) (vs j) x:=λj hj hso=>hI.val j (gN j hj) (λhkj m hm=>by
    cases ZL:L.getD m false with
    |false=>rfl
    |true =>
     exfalso;have lI:m<ks.length:=getD_lt (by intro e;rw[e]at hm;cases hm);have h3:=List.all_eq_true.1 (hso hkj) m (List.mem_range.2 lI);rw[hm]at h3;have:=hcl m ZL i (by simpa using h3);rw[lH]at this;cases this)
   have hcont:∀ st iv (z:Array Value) (v:Value),st≠i->iv∈ws.getD st []->(if(L.setIfInBounds i true).getD st false=true then iB (upd vs i v iv)else z)=if L.getD st false=true then iB (vs iv)else z:=by
    intro st iv z v hs hw;rw[hne st hs];by_cases h:L.getD st false=true
    · rw[if_pos h,if_pos h,hup v iv (ru iv (hcl st h iv hw))]
    · rw[if_neg h,if_neg h]
   have hgrow:(ks.getD i .op).jw=false->(∀ ia,ks.getD i .op ≠ .st ia)->∀ (v:Value) (y:World),Grow x y->(Ps.getD i aP) v y->(∀ st iv z T,ks.getD i .op = .al st iv z T->v = .pointer (some ⟨x.heap.size,0,none⟩)/\y=x.alloc (.cells z T))->GI kl ks Ps w (L.setIfInBounds i true) (upd vs i v) y:=by
    intro hnr hns v y hg hp qK;have Yj:Mv (λb=>w.heap.size<=b\/Fj ks (L.setIfInBounds i true) b) w y:=by
     refine Mv.mono (hI.mv.trans hg (λ_ e=>e.elim)) (λb hb => .inl ?_);rcases hb with hb|⟨j,iv,z,T,h1,h2⟩
     · exact .inl hb
     · refine .inr ⟨j,iv,z,T,h1,?_⟩;rw[hne j (ru j h2)];exact h2
    refine⟨Yj,λj hj hkj => ?_,λj st iv z T hj hl => ?_,λj k hjk h1 h2 h3 h4 => ?_,λj R iv z T hj => ?_⟩
    · by_cases e:j=i
      · subst e;rw[qL];exact hp
      · rw[hne j e]at hj;rw[hup v j e];refine(mG.at j).1 _ _ _ hg (hI.val j hj (λh m hm => ?_));have:=hkj h m hm;by_cases em:m=i
        · subst em;exact lH
        · rw[hne m em]at this;exact this
    · by_cases e:j=i
      · subst e;obtain⟨hv,hy⟩:=qK st iv z T hj;obtain⟨k1,k2,k3⟩:=hka j st iv z T hj;have hst:st≠j:=λe=>by rw[e,hj]at k1;cases k1
        have ZM:L.getD st false≠true:=λh=>by have:=hcl st h j k2;rw[lH]at this;cases this
        have hsw:w.heap.size<=x.heap.size:=hI.mv.size;rw[qL,hne st hst,if_neg ZM];subst hy;exact⟨x.heap.size,hv,hsw,by simp,heap_alloc_new x _⟩
      · rw[hne j e]at hl;obtain⟨k1,k2,k3⟩:=hka j st iv z T hj;obtain⟨g,hv,h1,h2,h3⟩:=hI.box j st iv z T hj hl;have hst:st≠i:=λe=>hns j (e ▸ k1);refine⟨g,by rw[hup v j e];exact hv,h1,Nat.lt_of_lt_of_le h2 hg.size,?_⟩;rw[hcont st iv z v hst k3,aD h3 hg]
    · have hw:∀ m,(ks.getD m .op).wH=true->m≠i->(L.setIfInBounds i true).getD m false=true->∃ g,vs m = .pointer (some ⟨g,0,none⟩)/\g<x.heap.size:=by
       intro m hm ZN lI;rw[hne m ZN]at lI;cases Qa:ks.getD m .op with
       |al st iv z T =>
        obtain⟨g,hv,_,h2,_⟩:=hI.box m st iv z T Qa lI;exact⟨g,hv,h2⟩
       |_=>rw[Qa]at hm;cases hm
      by_cases e1:j=i
      · subst e1;cases hkj:ks.getD j .op with
        |al st iv z T =>
         obtain⟨g,hv,h5⟩:=hw k h2 (λe=>hjk e.symm) h4;rw[qL,hup v k (λe=>hjk e.symm),(qK st iv z T hkj).1,hv];intro e;simp only[Value.pointer.injEq,Option.some.injEq,Addr.mk.injEq]at e;omega
        |_=>rw[hkj]at h1;cases h1
      · by_cases e2:k=i
        · subst e2;cases hkk:ks.getD k .op with
          |al st iv z T =>
           obtain⟨g,hv,h5⟩:=hw j h1 e1 h3;rw[qL,hup v j e1,(qK st iv z T hkk).1,hv];intro e;simp only[Value.pointer.injEq,Option.some.injEq,Addr.mk.injEq]at e;omega
          |_=>rw[hkk]at h2;cases h2
        · rw[hne j e1]at h3;rw[hne k e2]at h4;rw[hup v j e1,hup v k e2];exact hI.apart j k hjk h1 h2 h3 h4
    · have hji:j≠i:=λe=>by rw[← e,hj]at hnr;cases hnr
      obtain⟨h1,h2⟩:=hI.res j R iv z T hj;refine⟨h1,?_⟩;rw[hcont j iv z v hji (hkr j R iv z T hj).1,aD h2 hg]
   unfold GStep at bO;cases hki:ks.getD i .op with
   |op =>
    rw[hki]at bO;refine Gives.mono (bO vs x (λhr => ?_) hval) (λv y h=>hgrow (by rw[hki];rfl) (λia e=>by rw[hki]at e;cases e) v y h.1 h.2 (λst iv z T e=>by rw[hki]at e;cases e));refine Mv.mono hI.mv (λb hb => .inl ?_);rcases hb with hb|⟨j,iv,z,T,h1,h2⟩
    · exact hb
    · exfalso;have hjl:=getD_lt (by rw[h1];simp:ks.getD j .op ≠ .op);have h3:=List.all_eq_true.1 hr j (List.mem_range.2 hjl);rw[h1]at h3;have h4:i∈ws.getD j []:=by simpa[Kd.jw]using h3
      have:=hcl j h2 i h4;rw[lH]at this;cases this
   |al st iv z T =>
    rw[hki]at bO;refine Gives.mono (bO vs x) (λv y h=>hgrow (by rw[hki];rfl) (λia e=>by rw[hki]at e;cases e) v y (by rw[h.2];exact(Mv.refl _ _).alloc _) (by rw[hal i (by rw[hki];simp)];trivial) (λst' dY z' T' e=>by rw[hki]at e;cases e;exact h))
   |st ia =>
    rw[hki]at bO;obtain⟨iv,z,T,hia⟩:=hks i ia hki;obtain⟨k1,k2,k3⟩:=hka ia i iv z T hia;obtain⟨g,hv,h1,h2,h3⟩:=hI.box ia i iv z T hia (gN ia k2);rw[if_neg (by rw[lH];simp)]at h3;have hmz:=hzs ia i iv z T hia;refine Gives.mono (bO i iv z T hia vs x g hv h3 (hval iv k3 (λh=>by rw[hkl ia i iv z T hia]at h;cases h))) (λv y h => ?_);obtain⟨hy,hm'⟩:=h;have hpi:Ps.getD i aP=aP:=hal i (by rw[hki];simp);have aaq:ia≠i:=ru ia (gN ia k2);refine⟨?_,λj hj hkj => ?_,λj st dY z' T' hj hl => ?_,λj k hjk h4 h5 h6 h7 => ?_,λj R dY z' T' hj => ?_⟩
    · refine Mv.mono (hI.mv.trans hm' (λb e=>by subst e;exact .inl (.inl h1))) (λb hb => .inl ?_);rcases hb with hb|⟨j,dY,z',T',h4,h5⟩
      · exact .inl hb
      · refine .inr ⟨j,dY,z',T',h4,?_⟩;rw[hne j (ru j h5)];exact h5
    · by_cases e:j=i
      · subst e;rw[hpi];trivial
      · rw[hne j e]at hj;rw[hup v j e];have fO:kl.getD j false=false:=by
         cases Gr:kl.getD j false with
         |false=>rfl
         |true=>exfalso;have:=hkj Gr i (by rw[hki];rfl);rw[hset]at this;cases this
        exact(mG.at j).2 fO (z,T) hmz g _ _ _ h3 hm' (hI.val j hj (λh=>by rw[fO]at h;cases h))
    · have e:j≠i:=λe=>by rw[e,hki]at hj;cases hj
      rw[hne j e]at hl;by_cases ej:j=ia
      · subst ej;rw[hia]at hj;cases hj;refine⟨g,by rw[hup v _ e];exact hv,h1,Nat.lt_of_lt_of_le h2 hm'.size,?_⟩;rw[hset,if_pos rfl,hup v iv (ru iv (gN iv k3))];exact hy
      · obtain⟨q1,q2,q3⟩:=hka j st dY z' T' hj;have hst:st≠i:=λe'=>by rw[e',hki]at q1;cases q1;exact ej rfl
        obtain⟨g',hv',r1,r2,r3⟩:=hI.box j st dY z' T' hj hl;refine⟨g',by rw[hup v j e];exact hv',r1,Nat.lt_of_lt_of_le r2 hm'.size,?_⟩;rw[hcont st dY z' v hst q3,hm'.block g' r2 (λe' => ?_)]
        · exact r3
        · subst e';exact hI.apart j ia ej (by rw[hj];rfl) (by rw[hia];rfl) hl (gN ia k2) (by rw[hv,hv'])
    · have e1:j≠i:=λe=>by rw[e,hki]at h4;cases h4
      have e2:k≠i:=λe=>by rw[e,hki]at h5;cases h5
      rw[hne j e1]at h6;rw[hne k e2]at h7;rw[hup v j e1,hup v k e2];exact hI.apart j k hjk h4 h5 h6 h7
    · have hji:j≠i:=λe=>by rw[e,hki]at hj;cases hj
      obtain⟨r1,r2⟩:=hI.res j R dY z' T' hj;refine⟨r1,?_⟩;have ZO:R<x.heap.size:=(Array.getElem?_eq_some_iff.1 r2).1;rw[hcont j dY z' v hji (hkr j R dY z' T' hj).1,hm'.block R ZO (λe=>by omega)];exact r2
   |rs R iv z T =>
    rw[hki]at bO;obtain⟨k1,k2⟩:=hkr i R iv z T hki;obtain⟨r1,r2⟩:=hI.res i R iv z T hki;rw[if_neg (by rw[lH];simp)]at r2;have hmz:=oW i R iv z T hki;refine Gives.mono (bO vs x r2 (hval iv k1 (λh=>by rw[Yi i R iv z T hki]at h;cases h))) (λv y h => ?_);obtain⟨hy,hm'⟩:=h;have hpi:Ps.getD i aP=aP:=hal i (by rw[hki];simp);refine⟨?_,λj hj hkj => ?_,λj st dY z' T' hj hl => ?_,λj k hjk h4 h5 h6 h7 => ?_,λj R' dY z' T' hj => ?_⟩
    · refine Mv.trans (O:=λb=>w.heap.size<=b\/Fj ks (L.setIfInBounds i true) b) (Mv.mono hI.mv (λb hb => .inl ?_)) hm' (λb e => .inl (.inr ⟨i,iv,z,T,by rw[e];exact hki,hset⟩));rcases hb with hb|⟨j,dY,z',T',h4,h5⟩
      · exact .inl hb
      · exact .inr ⟨j,dY,z',T',h4,by rw[hne j (ru j h5)];exact h5⟩
    · by_cases e:j=i
      · subst e;rw[hpi];trivial
      · rw[hne j e]at hj;rw[hup v j e];have fO:kl.getD j false=false:=by
         cases Gr:kl.getD j false with
         |false=>rfl
         |true=>exfalso;have:=hkj Gr i (by rw[hki];rfl);rw[hset]at this;cases this
        exact(mG.at j).2 fO (z,T) hmz R _ _ _ r2 hm' (hI.val j hj (λh=>by rw[fO]at h;cases h))
    · have e:j≠i:=λe=>by rw[e,hki]at hj;cases hj
      rw[hne j e]at hl;obtain⟨q1,q2,q3⟩:=hka j st dY z' T' hj;have hst:st≠i:=λe'=>by rw[e',hki]at q1;cases q1
      obtain⟨g',hv',s1,s2,s3⟩:=hI.box j st dY z' T' hj hl;refine⟨g',by rw[hup v j e];exact hv',s1,Nat.lt_of_lt_of_le s2 hm'.size,?_⟩;rw[hcont st dY z' v hst q3,hm'.block g' s2 (λe'=>by omega)];exact s3
    · have e1:j≠i:=λe=>by rw[e,hki]at h4;cases h4
      have e2:k≠i:=λe=>by rw[e,hki]at h5;cases h5
      rw[hne j e1]at h6;rw[hne k e2]at h7;rw[hup v j e1,hup v k e2];exact hI.apart j k hjk h4 h5 h6 h7
    · by_cases e:j=i
      · subst e;rw[hki]at hj;cases hj;refine⟨r1,?_⟩;rw[hset,if_pos rfl,hup v iv (ru iv (gN iv k1))];exact hy
      · have:=k2 j e;rw[hj]at this;cases this
 · intro L vs x hall hI;have sP:∀ j,j<ks.length->L.getD j false=true:=λj hj=>hall j (by simpa using hlen ▸ hj);refine hend vs x ⟨Mv.mono hI.mv (λb hb => .inl ?_),λj hj fO=>hI.val j (sP j hj) (λh=>by rw[fO]at h;cases h),λi st iv z T hi => ?_,λi j hij h1 h2 => ?_,λi R iv z T hi => ?_⟩
   · rcases hb with hb|⟨i,iv,z,T,h1,h2⟩
     · exact .inl hb
     · exact .inr ⟨i,iv,z,T,h1⟩
   · have hil:=getD_lt (by rw[hi];simp:ks.getD i .op ≠ .op);obtain⟨k1,_,_⟩:=hka i st iv z T hi;have hsl:=getD_lt (by rw[k1];simp:ks.getD st .op ≠ .op);obtain⟨g,h1,h2,h3,h4⟩:=hI.box i st iv z T hi (sP i hil);rw[if_pos (sP st hsl)]at h4;exact⟨g,h1,h2,h3,h4⟩
   · have e1:i<ks.length:=getD_lt (by intro e;rw[e]at h1;cases h1);have e2:j<ks.length:=getD_lt (by intro e;rw[e]at h2;cases h2);exact hI.apart i j hij h1 h2 (sP i e1) (sP j e2)
   · have hil:=getD_lt (by rw[hi];simp:ks.getD i .op ≠ .op);have:=(hI.res i R iv z T hi).2;rw[if_pos (sP i hil)]at this;exact this
theorem RA {id:Nat} {a:Act} {w:World} {l:List Oper} (hm:P.follows .mixedOrders=true) (N:Nat) (ds:List (Option Tmp)) (ws ns:List (List Nat)) (kl:List Bool) (ks:List Kd) (Ps:List (Value->World->Prop)) (hN:a.tmps.size=N) (hok:kS N l.toArray ds ws ns []=true) (hkd:Ae ws kl ks=true) (hlen:ks.length=l.length)
 (qK:KP ks Ps) (mG:qo (ks.filterMap Kd.zero) kl Ps)
 (hR0:∀ i R iv z T,ks.getD i .op = .rs R iv z T->R<w.drew.heap.size/\w.drew.heap[R]? = some (.cells z T (0,0)))
 (hstep:mg (GStep P ds ws ns kl ks Ps w.drew a) 0 l)
 (hend:∀ (vs:Nat->Value) (x:World),ow kl ks Ps w.drew vs x->Q .normal (aB ds vs (List.range l.length) a) x):(Code.region id l.toArray true).wp P Q a w :=
 wp_region_any hm (Iy N ds ws ns kl ks Ps hN hok hkd hlen qK mG hR0 hstep hend)
end
def Bo (ks:List Kd):Bool:=ks.all λk => !k.jw
theorem Kw {ks:List Kd} (h:Bo ks=true) (i:Nat):(ks.getD i .op).jw=false:=by
 rcases Nat.lt_or_ge i ks.length with hi|hi
 · have:=List.all_eq_true.1 h ks[i] (List.getElem_mem hi)
   simpa[List.getD,hi]using this
 · simp[List.getD,List.getElem?_eq_none hi,Kd.jw]
theorem ow.grow {kl:List Bool} {ks:List Kd} {Ps:List (Value->World->Prop)} {w:World} {vs:Nat->Value} {x:World} (h:ow kl ks Ps w vs x) (hn:Bo ks=true):Grow w x :=
 Mv.mono h.mv (λb hb=>by
  rcases hb with hb|⟨i,iv,z,T,hi⟩
  · exact .inr hb
  · have:=Kw hn i;rw[hi]at this;cases this)
theorem Vs {w x:World} (h:Mv (λb=>w.heap.size<=b) w x):Grow w x:=Mv.mono h (λ_ e => .inr e)
theorem IQ {w x:World} (h:Grow w.drew x):Grow w x:=Mv.trans (Mv.refl _ w).drew h (λ_ e=>e.elim)
theorem Qb {ks:List Kd} {w:World} (h:Bo ks=true):∀ i R iv z T,ks.getD i .op = .rs R iv z T->R<w.heap.size/\w.heap[R]? = some (.cells z T (0,0)):=by
 intro i R iv z T hi;have:=Kw h i;rw[hi]at this;cases this
theorem ow.last {kl:List Bool} {ks:List Kd} {Ps:List (Value->World->Prop)} {w:World} {vs:Nat->Value} {x:World} {n R iv:Nat} {z:Array Value} {T:TypeId} (h:ow kl ks Ps w vs x) (hn:ks.getD n .op = .rs R iv z T) (h1:((List.range ks.length).all λj=>j == n || !(ks.getD j .op).jw)=true):Mv (λb=>b=R) w x :=
 Mv.mono h.mv (λb hb=>by
  rcases hb with hb|⟨i,dY,z',T',hi⟩
  · exact .inr hb
  · left;have hil:=getD_lt (by rw[hi];simp:ks.getD i .op ≠ .op);have h2:=List.all_eq_true.1 h1 i (List.mem_range.2 hil);rw[hi]at h2;have:i=n:=by simpa[Kd.jw]using h2
    subst this;rw[hn]at hi;cases hi
    rfl)
section
variable {P:Program} {ds:List (Option Tmp)} {ws ns:List (List Nat)} {kl:List Bool} {ks:List Kd} {Ps:List (Value->World->Prop)} {w:World} {a:Act} {i:Nat} {o:Oper}
theorem Xr (hk:ks.getD i .op = .op) (h:∀ (vs:Nat->Value) (x:World),(xG ws ks i=true->Mv (λb=>w.heap.size<=b) w x)->(∀ j∈ws.getD i [],(kl.getD j false=true->xH ws ks i=true)->(Ps.getD j aP) (vs j) x)->Gives P o (aB ds vs (ns.getD i []) a) x (GR x (Ps.getD i aP))):GStep P ds ws ns kl ks Ps w a i o:=by
 unfold GStep;rw[hk];exact h
theorem Xt {st iv:Nat} {z:Array Value} {T:TypeId} (hk:ks.getD i .op = .al st iv z T) (h:∀ (vs:Nat->Value) (x:World),Gives P o (aB ds vs (ns.getD i []) a) x (λv y=>v = .pointer (some ⟨x.heap.size,0,none⟩)/\y=x.alloc (.cells z T))):GStep P ds ws ns kl ks Ps w a i o:=by
 unfold GStep;rw[hk];exact h
theorem Xu {ia st iv:Nat} {z:Array Value} {T:TypeId} (hk:ks.getD i .op = .st ia) (hk2:ks.getD ia .op = .al st iv z T) (h:∀ (vs:Nat->Value) (x:World) (g:Nat),vs ia = .pointer (some ⟨g,0,none⟩)->x.heap[g]? = some (.cells z T (0,0))->(Ps.getD iv aP) (vs iv) x->Gives P o (aB ds vs (ns.getD i []) a) x (λ_ y=>y.heap[g]? = some (.cells (iB (vs iv)) T (0,0))/\Mv (λb=>b=g) x y)):GStep P ds ws ns kl ks Ps w a i o:=by
 unfold GStep;rw[hk];intro st' dY z' T' h2;rw[hk2]at h2;cases h2;exact h
end
inductive Sp where
 |c (v:Value)
 |p (f:Value->World->Prop)
 |n
 |al (st iv:Nat) (z:Array Value) (T:TypeId)
 |st (ia:Nat)
 |rs (R iv:Nat) (z:Array Value) (T:TypeId)
def Sp.k:Sp->Kd
 |.al a b z T => .al a b z T
 |.st a => .st a
 |.rs R b z T => .rs R b z T
 |_ => .op
def Sp.P:Sp->Value->World->Prop
 |.c v=>Pc v
 |.p f=>f
 |_=>aP
def sv:Sp->Value->Value
 |.c v,_=>v
 |_,u=>u
def rg:Nat->List (Option Tmp)->List Nat
 |_,[]=>[]
 |k,_ :: r=>k :: rg (k+1) r
theorem zS:((∀ P o a w R,Gives P o a w R=jO P R ((execOp a.eval o).run P w))/\(∀ ds vs a,aB ds vs [] a=a)/\(∀ ds vs j r a,aB ds vs (j :: r) a=aB ds vs r (a.put (ds.getD j none) (vs j)))/\(∀ (a:Act) (d:Tmp) v,a.put (some d) v = { a with tmps:=a.tmps.setIfInBounds d v })/\(∀ (a:Act) v,a.put none v=a)/\(∀ (α:Type) (x:α) l d,(x :: l).getD 0 d=x)/\(∀ (α:Type) (x:α) l n d,(x :: l).getD (n+1) d=l.getD n d)/\(∀ (α:Type) (l:List α) i a,l.toArray.setIfInBounds i a=(l.set i a).toArray)/\(∀ (α:Type) (x:α) l a,(x :: l).set 0 a=a :: l)/\(∀ (α:Type) (x:α) l n a,(x :: l).set (n+1) a=x :: l.set n a))/\(∀ v u,sv (.c v) u=v)/\(∀ f u,sv (.p f) u=u)/\(∀ u,sv .n u=u)/\(∀ a b z T u,sv (.al a b z T) u=u)/\(∀ a u,sv (.st a) u=u)/\(∀ a b z T u,sv (.rs a b z T) u=u)/\(∀ v,Sp.P (.c v)=Pc v)/\(∀ f,Sp.P (.p f)=f)/\Sp.P .n=aP/\(∀ k,rg k []=[])/\∀ k d r,rg k (d :: r)=k :: rg (k+1) r:=⟨⟨λ_ _ _ _ _=>rfl,λ_ _ _=>rfl,λ_ _ _ _ _=>rfl,λ_ _ _=>rfl,λ_ _=>rfl,λ_ _ _ _=>rfl,λ_ _ _ _ _=>rfl,λ_ l i a=>List.setIfInBounds_toArray l i a,λ_ _ _ _=>rfl,λ_ _ _ _ _=>rfl⟩,λ_ _=>rfl,λ_ _=>rfl,λ_=>rfl,λ_ _ _ _ _=>rfl,λ_ _=>rfl,λ_ _ _ _ _=>rfl,λ_=>rfl,λ_=>rfl,rfl,λ_=>rfl,λ_ _ _=>rfl⟩
def jy (T:List Nat) (n:Nat):List Bool:=(List.range n).map T.contains
theorem JU {T:List Nat} {n j:Nat} (h:T.contains j=false):(jy T n).getD j false=false:=by
 unfold jy;rcases Nat.lt_or_ge j n with hj|hj
 · simp[List.getD,hj];simpa using h
 · simp[List.getD,Nat.not_lt.2 hj]
def AS (Zs:List (Array Value × TypeId)) (T:List Nat):Nat->List Sp->Prop
 |_,[]=>True
 |i,.p f :: r=>(qb f/\(T.contains i=false->vw Zs f))/\AS Zs T (i+1) r
 |i,_ :: r=>AS Zs T (i+1) r
theorem AS.all {Zs:List (Array Value × TypeId)} {T:List Nat} : ∀ (l:List Sp) (i:Nat),AS Zs T i l->qo Zs ((List.range' i l.length).map T.contains) (l.map Sp.P)
 | [],_,_=>trivial
 |.p _ :: r,i,h=>⟨h.1,AS.all r (i+1) h.2⟩
 |.c v :: r,i,h=>⟨⟨Yg v,λ_=>Yh _ v⟩,AS.all r (i+1) h⟩
 |.n :: r,i,h=>⟨⟨sF,λ_=>vL _⟩,AS.all r (i+1) h⟩
 |.al .. :: r,i,h=>⟨⟨sF,λ_=>vL _⟩,AS.all r (i+1) h⟩
 |.st .. :: r,i,h=>⟨⟨sF,λ_=>vL _⟩,AS.all r (i+1) h⟩
 |.rs .. :: r,i,h=>⟨⟨sF,λ_=>vL _⟩,AS.all r (i+1) h⟩
theorem oZ:∀ l:List Sp,KP (l.map Sp.k) (l.map Sp.P)
 | []=>trivial
 |.p _ :: r=>⟨Em,oZ r⟩
 |.c _ :: r=>⟨Em,oZ r⟩
 |.n :: r=>⟨Em,oZ r⟩
 |.al .. :: r=>⟨DK,oZ r⟩
 |.st .. :: r=>⟨DK,oZ r⟩
 |.rs .. :: r=>⟨DK,oZ r⟩
def mY (T:List Nat) (Ss:List Sp):Bool:=(List.range Ss.length).all λj=>match Ss.getD j .n with
 |.c _ => !T.contains j
 |_=>true
theorem Ky {T:List Nat} {Ss:List Sp} (h:mY T Ss=true) {j:Nat} {v:Value} (hv:Ss.getD j .n = .c v):T.contains j=false/\j<Ss.length:=by
 have hj:j<Ss.length:=by
  rcases Nat.lt_or_ge j Ss.length with hj|hj
  · exact hj
  · rw[List.getD,List.getElem?_eq_none hj]at hv;cases hv
 have:=List.all_eq_true.1 h j (List.mem_range.2 hj);rw[hv]at this;exact⟨by simpa using this,hj⟩
theorem qM (Ss:List Sp) (j:Nat):(Ss.map Sp.P).getD j aP=(Ss.getD j .n).P:=by
 simp only[List.getD,List.getElem?_map];cases Ss[j]? <;> rfl
theorem Lx {s:Sp} {v:Value} {x:World} (h:∀ c,s = .c c->s.P v x):sv s v=v:=by
 cases s with
 |c u=>exact(h u rfl).symm
 |_=>rfl
section
variable {P:Program} {Q:Exit->Act->World->Prop}
structure GE (T:List Nat) (Ss:List Sp) (w:World) (vs:Nat->Value) (x:World):Prop where
 g:ow (jy T Ss.length) (Ss.map Sp.k) (Ss.map Sp.P) w vs x
 c:∀ j,sv (Ss.getD j .n) (vs j)=vs j
theorem GE.val {T:List Nat} {Ss:List Sp} {w:World} {vs:Nat->Value} {x:World} (h:GE T Ss w vs x) (j:Nat) (hj:j<(Ss.map Sp.k).length:=by simp) (hk:(jy T Ss.length).getD j false=false:=by rfl):((Ss.map Sp.P).getD j aP) (vs j) x:=h.g.val j hj hk
theorem GE.box {T:List Nat} {Ss:List Sp} {w:World} {vs:Nat->Value} {x:World} (h:GE T Ss w vs x) (i:Nat) {st iv:Nat} {z:Array Value} {t:TypeId} (hi:(Ss.map Sp.k).getD i .op = .al st iv z t:=by rfl):∃ g,vs i = .pointer (some ⟨g,0,none⟩)/\w.heap.size<=g/\g<x.heap.size/\x.heap[g]? = some (.cells (iB (sv (Ss.getD iv .n) (vs iv))) t (0,0)):=by
 rw[h.c];exact h.g.box i st iv z t hi
theorem GE.res {T:List Nat} {Ss:List Sp} {w:World} {vs:Nat->Value} {x:World} (h:GE T Ss w vs x) (i:Nat) {R iv:Nat} {z:Array Value} {t:TypeId} (hi:(Ss.map Sp.k).getD i .op = .rs R iv z t:=by rfl):x.heap[R]? = some (.cells (iB (sv (Ss.getD iv .n) (vs iv))) t (0,0)):=by
 rw[h.c];exact h.g.res i R iv z t hi
theorem GE.grow {T:List Nat} {Ss:List Sp} {w:World} {vs:Nat->Value} {x:World} (h:GE T Ss w.drew vs x) (hn:Bo (Ss.map Sp.k)=true:=by rfl):Grow w x:=IQ (h.g.grow hn)
theorem GE.last {T:List Nat} {Ss:List Sp} {w:World} {vs:Nat->Value} {x:World} (h:GE T Ss w.drew vs x) (n:Nat) {R iv:Nat} {z:Array Value} {t:TypeId} (hn:(Ss.map Sp.k).getD n .op = .rs R iv z t:=by rfl) (h1:((List.range (Ss.map Sp.k).length).all λj=>j == n || !((Ss.map Sp.k).getD j .op).jw)=true:=by rfl):Mv (λb=>b=R) w x:=Mv.trans ((Mv.refl _ _).drew) (h.g.last hn h1) (λ_ e => .inl e)
theorem GE.of {T:List Nat} {Ss:List Sp} {w:World} {vs:Nat->Value} {x:World} (h:ow (jy T Ss.length) (Ss.map Sp.k) (Ss.map Sp.P) w vs x) (hc:mY T Ss=true):GE T Ss w vs x :=
 ⟨h,λj=>Lx (x:=x) λc e=>by
  obtain⟨h1,h2⟩:=Ky hc e;have:=h.val j (by simpa using h2) (JU h1);rwa[qM]at this⟩
structure nP (P:Program) (ds:List (Option Tmp)) (ws ns:List (List Nat)) (T:List Nat) (Ss:List Sp) (w:World) (a:Act) (i:Nat) (o:Oper):Prop where
 s:GStep P ds ws ns (jy T Ss.length) (Ss.map Sp.k) (Ss.map Sp.P) w a i o
theorem wg {id:Nat} {a:Act} {w:World} {l:List Oper} (N:Nat) (ds:List (Option Tmp)) (ns:List (List Nat)) (T:List Nat) (Ss:List Sp) (mG:AS ((Ss.map Sp.k).filterMap Kd.zero) T 0 Ss) (hR0:∀ i R iv z t,(Ss.map Sp.k).getD i .op = .rs R iv z t->R<w.drew.heap.size/\w.drew.heap[R]? = some (.cells z t (0,0)))
 (hstep:mg (nP P ds (bH l.toArray) ns T Ss w.drew a) 0 l)
 (hend:∀ (vs:Nat->Value) (x:World),GE T Ss w.drew vs x->Q .normal (aB ds (λj=>sv (Ss.getD j .n) (vs j)) (rg 0 ds) a) x)
 (hm:P.follows .mixedOrders=true:=by kernel_rfl) (hN:a.tmps.size=N:=by rfl) (hok:kS N l.toArray ds (bH l.toArray) ns []=true:=by kernel_rfl) (hkd:Ae (bH l.toArray) (jy T Ss.length) (Ss.map Sp.k)=true:=by kernel_rfl) (hlen:(Ss.map Sp.k).length=l.length:=by rfl) (hr:rg 0 ds=List.range l.length:=by rfl) (hc:mY T Ss=true:=by kernel_rfl):(Code.region id l.toArray true).wp P Q a w :=
 RA hm N ds (bH l.toArray) ns (jy T Ss.length) (Ss.map Sp.k) (Ss.map Sp.P) hN hok hkd hlen (oZ Ss) (by have:=mG.all;rwa[← List.range_eq_range']at this) hR0 (Cu (λ_ _ h=>h.s) _ _ hstep) λvs x h=>by
  have h1:=GE.of h hc;have h2:=hend vs x h1;rwa[hr,uV _ _ λj _=>h1.c j]at h2
end
theorem gw {w x:World} (h:Mv (λb=>w.drew.heap.size<=b) w.drew x):Grow w x:=IQ (Vs h)
section
variable {P:Program} {ds:List (Option Tmp)} {ws ns:List (List Nat)} {T:List Nat} {Ss:List Sp} {w:World} {a:Act} {i:Nat} {o:Oper}
def o7 (ws:List (List Nat)) (T:List Nat) (Ss:List Sp) (i:Nat) (vs:Nat->Value) (x:World):Prop:=∀ j∈ws.getD i [],((jy T Ss.length).getD j false=true->xH ws (Ss.map Sp.k) i=true)->((Ss.map Sp.P).getD j aP) (vs j) x
theorem o7.eq {vs:Nat->Value} {x:World} (h:o7 ws T Ss i vs x) (hc:mY T Ss=true) (hs:((ns.getD i []).all λj=>(ws.getD i []).contains j)=true):aB ds vs (ns.getD i []) a=aB ds (λj=>sv (Ss.getD j .n) (vs j)) (ns.getD i []) a :=
 uV _ _ λj hj=>(Lx (x:=x) λc e=>by
  have:=h j (by simpa using List.all_eq_true.1 hs j hj) (λhk=>by rw[JU (Ky hc e).1]at hk;cases hk);rwa[qM]at this).symm
theorem pq {vs:Nat->Value} {x:World} (h:o7 ws T Ss i vs x) (j:Nat) (m:(ws.getD i []).contains j=true:=by kernel_rfl) (k:(jy T Ss.length).getD j false=true->xH ws (Ss.map Sp.k) i=true:=by intro _;kernel_rfl):((Ss.map Sp.P).getD j aP) (vs j) x:=h j (by simpa using m) k
theorem ox (h:∀ (vs:Nat->Value) (x:World),(xG ws (Ss.map Sp.k) i=true->Mv (λb=>w.heap.size<=b) w x)->o7 ws T Ss i vs x->Gives P o (aB ds (λj=>sv (Ss.getD j .n) (vs j)) (ns.getD i []) a) x (GR x (Ss.getD i .n).P)) (hk:(Ss.map Sp.k).getD i .op = .op:=by rfl) (hc:mY T Ss=true:=by kernel_rfl) (hs:((ns.getD i []).all λj=>(ws.getD i []).contains j)=true:=by kernel_rfl):nP P ds ws ns T Ss w a i o :=
 ⟨Xr hk λvs x hx hP=>by rw[o7.eq hP hc hs,qM];exact h vs x hx hP⟩
theorem oo (h:∀ (vs:Nat->Value) (x:World),o7 ws T Ss i vs x->Gives P o (aB ds (λj=>sv (Ss.getD j .n) (vs j)) (ns.getD i []) a) x (GR x (Ss.getD i .n).P)) (hk:(Ss.map Sp.k).getD i .op = .op:=by rfl) (hc:mY T Ss=true:=by kernel_rfl) (hs:((ns.getD i []).all λj=>(ws.getD i []).contains j)=true:=by kernel_rfl):nP P ds ws ns T Ss w a i o:=ox (λvs x _=>h vs x) hk hc hs
theorem og (h:∀ (vs:Nat->Value) (x:World),Grow w x->o7 ws T Ss i vs x->Gives P o (aB ds (λj=>sv (Ss.getD j .n) (vs j)) (ns.getD i []) a) x (GR x (Ss.getD i .n).P)) (hk:(Ss.map Sp.k).getD i .op = .op:=by rfl) (hr:xG ws (Ss.map Sp.k) i=true:=by kernel_rfl) (hc:mY T Ss=true:=by kernel_rfl) (hs:((ns.getD i []).all λj=>(ws.getD i []).contains j)=true:=by kernel_rfl):nP P ds ws ns T Ss w.drew a i o:=ox (λvs x hx=>h vs x (gw (hx hr))) hk hc hs
theorem ok {K:World->Prop} (HK:RowKit.Hid (∀ y,Grow w y->K y)) (h:∀ (vs:Nat->Value) (x:World),Grow w x->RowKit.Hid (K x)->o7 ws T Ss i vs x->Gives P o (aB ds (λj=>sv (Ss.getD j .n) (vs j)) (ns.getD i []) a) x (GR x (Ss.getD i .n).P)) (hk:(Ss.map Sp.k).getD i .op = .op:=by rfl) (hr:xG ws (Ss.map Sp.k) i=true:=by kernel_rfl) (hc:mY T Ss=true:=by kernel_rfl) (hs:((ns.getD i []).all λj=>(ws.getD i []).contains j)=true:=by kernel_rfl):nP P ds ws ns T Ss w.drew a i o:=og (λvs x hx=>h vs x hx (ł (HK.out x hx))) hk hr hc hs
theorem os {ia st iv:Nat} {z:Array Value} {t:TypeId} (h:∀ (vs:Nat->Value) (x:World) (g:Nat),vs ia = .pointer (some ⟨g,0,none⟩)->x.heap[g]? = some (.cells z t (0,0))->(Ss.getD iv .n).P (vs iv) x->Gives P o (aB ds vs (ns.getD i []) a) x (λ_ y=>y.heap[g]? = some (.cells (iB (vs iv)) t (0,0))/\Mv (λb=>b=g) x y)) (hk:(Ss.map Sp.k).getD i .op = .st ia:=by rfl) (hk2:(Ss.map Sp.k).getD ia .op = .al st iv z t:=by rfl):nP P ds ws ns T Ss w a i o :=
 ⟨Xu hk hk2 (by simpa only[qM]using h)⟩
theorem oz {st iv:Nat} {z:Array Value} {t:TypeId} (h:∀ (vs:Nat->Value) (x:World),Gives P o (aB ds vs (ns.getD i []) a) x (λv y=>v = .pointer (some ⟨x.heap.size,0,none⟩)/\y=x.alloc (.cells z t))) (hk:(Ss.map Sp.k).getD i .op = .al st iv z t:=by rfl):nP P ds ws ns T Ss w a i o:=⟨Xt hk h⟩
theorem gl {x:World} {v:Value} {p:Value->World->Prop} {B:Obj} (h:p v (x.alloc B)):jO P (GR x p) (.ok (.value v) (x.alloc B)):=⟨(Mv.refl _ _).alloc _,h⟩
theorem gc {x:World} {v c:Value} (h:v=c:=by rfl):GR x (Pc c) v x:=⟨Mv.refl _ _,h⟩
end
end Go.Proofs.YtadecgbblajifaaGreatDoor
