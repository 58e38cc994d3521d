import Derived.Test.YtadecgbblajifaaGreatDoorE31
import Derived.Test.YtadecgbblajifaaGreatDoorE24
set_option linter.unusedSimpArgs false
set_option linter.unusedVariables false
set_option maxRecDepth 100000
set_option maxHeartbeats 25600000
namespace Go.Proofs.YtadecgbblajifaaGreatDoor
open Go.RowKit
inductive Kd where
 |op
 |al (st iv:Nat) (z:Array Value) (T:TypeId)
 |st (ia:Nat)
 |rs (R iv:Nat) (z:Array Value) (T:TypeId)
def lM:Value->Array Value
 |.agg a=>a
 |v=>#[v]
def Kd.zero:Kd->Option (Array Value × TypeId)
 |.al _ _ z T=>some (z,T)
 |.rs _ _ z T=>some (z,T)
 |_=>none
def Kd.nC:Kd->Bool
 |.rs .. => true
 |_=>false
def Kd.V9:Kd->Bool
 |.rs .. => true
 |.st .. => true
 |_=>false
def Kd.BX:Kd->Bool
 |.al .. => true
 |_=>false
def dJ:Value->World->Prop:=λ_ _=>True
def Pc (c:Value):Value->World->Prop:=λv _=>v=c
def AJ (Zs:List (Array Value × TypeId)) (p:Value->World->Prop):Prop:=∀ z∈Zs,∀ g v x y,x.heap[g]? = some (.cells z.1 z.2 (0,0))->Mv (λb=>b=g) x y->p v x->p v y
def vD (p:Value->World->Prop):Prop:=∀ v x y,Grow x y->p v x->p v y
theorem adx (c:Value):vD (Pc c):=λ_ _ _ _ h=>h
theorem yx:vD dJ:=λ_ _ _ _ h=>h
theorem ady (Zs:List (Array Value × TypeId)) (c:Value):AJ Zs (Pc c):=λ_ _ _ _ _ _ _ _ h=>h
theorem AZ (Zs:List (Array Value × TypeId)):AJ Zs dJ:=λ_ _ _ _ _ _ _ _ h=>h
def vK (Zs:List (Array Value × TypeId)):List Bool->List (Value->World->Prop)->Prop
 |b :: bs,p :: l=>(vD p/\(b=false->AJ Zs p))/\vK Zs bs l
 | [],[]=>True
 |_,_=>False
theorem vK.at {Zs:List (Array Value × TypeId)} : ∀ {bs:List Bool} {l:List (Value->World->Prop)},vK Zs bs l->∀ j,vD (l.getD j dJ)/\(bs.getD j false=false->AJ Zs (l.getD j dJ))
 | [],[],_,_=>⟨yx,λ_=>AZ _⟩
 |b :: _,_ :: _,h,0=>⟨h.1.1,λhb=>h.1.2 hb⟩
 |_ :: bs,_ :: l,h,j+1=>vK.at (bs:=bs) (l:=l) h.2 j
def KP:List Kd->List (Value->World->Prop)->Prop
 |k :: ks,p :: ps=>(k ≠ .op->p=dJ)/\KP ks ps
 |_,_=>True
theorem KP.at:∀ {ks:List Kd} {ps:List (Value->World->Prop)},KP ks ps->∀ i,ks.getD i .op ≠ .op->ps.getD i dJ=dJ
 | [],_,_,i,h=>by simp[List.getD]at h
 |_ :: _,[],_,i,_=>by simp[List.getD]
 |k :: _,p :: _,h,0,hk=>h.1 hk
 |_ :: ks,_ :: ps,h,i+1,hk=>KP.at (ks:=ks) (ps:=ps) h.2 i (by simpa using hk)
theorem Ko {p:Value->World->Prop} : Kd.op ≠ .op->p=dJ:=λh=>absurd rfl h
theorem JO {k:Kd} : k ≠ .op->dJ=dJ:=λ_=>rfl
def Fu (ws:List (List Nat)) (kl:List Bool) (ks:List Kd):Bool:=(List.range ks.length).all λi=>match ks.getD i .op with
 |.op=>true
 |.al st iv _ _=>(match ks.getD st .op with | .st ia=>ia == i|_=>false) && ((ws.getD st []).contains i && ((ws.getD st []).contains iv && !kl.getD iv false))
 |.st ia=>match ks.getD ia .op with | .al st _ _ _=>st == i|_=>false
 |.rs _ iv _ _=>((ws.getD i []).contains iv && !kl.getD iv false) && (List.range ks.length).all λj=>j == i || !(ks.getD j .op).nC
def CE (ws:List (List Nat)) (ks:List Kd) (i:Nat):Bool:=(List.range ks.length).all λj => !(ks.getD j .op).nC || (ws.getD j []).contains i
def CF (ws:List (List Nat)) (ks:List Kd) (i:Nat):Bool:=(List.range ks.length).all λj => !(ks.getD j .op).V9 || (ws.getD j []).contains i
theorem getD_lt {ks:List Kd} {i:Nat} (h:ks.getD i .op ≠ .op):i<ks.length:=by
 rcases Nat.lt_or_ge i ks.length with h' | h'
 · exact h'
 · exact absurd (by simp[List.getD,List.getElem?_eq_none h']) h
section
variable {P:Program} {Q:Exit->Act->World->Prop}
def K6 (ks:List Kd) (L:Array Bool) (b:Nat):Prop:=∃ i iv z T,ks.getD i .op = .rs b iv z T/\L.getD i false=true
structure GI (kl:List Bool) (ks:List Kd) (Ps:List (Value->World->Prop)) (w:World) (L:Array Bool) (vs:Nat->Value) (x:World):Prop where
 mv:Mv (λb=>w.heap.size<=b\/K6 ks L b) w x
 val:∀ j,L.getD j false=true->(kl.getD j false=true->∀ m,(ks.getD m .op).V9=true->L.getD m false=false)->(Ps.getD j dJ) (vs j) x
 box:∀ i st iv z T,ks.getD i .op = .al st iv z T->L.getD i false=true->∃ g,vs i = .pointer (some ⟨g,0,none⟩)/\w.heap.size<=g/\g<x.heap.size/\x.heap[g]? = some (.cells (if L.getD st false=true then lM (vs iv)else z) T (0,0))
 apart:∀ i j,i≠j->(ks.getD i .op).BX=true->(ks.getD j .op).BX=true->L.getD i false=true->L.getD j false=true->vs i≠vs j
 res:∀ i R iv z T,ks.getD i .op = .rs R iv z T->R<w.heap.size/\x.heap[R]? = some (.cells (if L.getD i false=true then lM (vs iv)else z) T (0,0))
structure ui (kl:List Bool) (ks:List Kd) (Ps:List (Value->World->Prop)) (w:World) (vs:Nat->Value) (x:World):Prop where
 mv:Mv (λb=>w.heap.size<=b\/∃ i iv z T,ks.getD i .op = .rs b iv z T) w x
 val:∀ j,j<ks.length->kl.getD j false=false->(Ps.getD j dJ) (vs j) x
 box:∀ i st iv z T,ks.getD i .op = .al st iv z T->∃ g,vs i = .pointer (some ⟨g,0,none⟩)/\w.heap.size<=g/\g<x.heap.size/\x.heap[g]? = some (.cells (lM (vs iv)) T (0,0))
 apart:∀ i j,i≠j->(ks.getD i .op).BX=true->(ks.getD j .op).BX=true->vs i≠vs j
 res:∀ i R iv z T,ks.getD i .op = .rs R iv z T->x.heap[R]? = some (.cells (lM (vs iv)) T (0,0))
def GR (x:World) (p:Value->World->Prop) (v:Value) (y:World):Prop:=Grow x y/\p v y
theorem K7 {x y:World} {v c:Value} (hg:Grow x y) (h:v=c):GR x (Pc c) v y:=⟨hg,h⟩
def GStep (P:Program) (ds:List (Option Tmp)) (ws ns:List (List Nat)) (kl:List Bool) (ks:List Kd) (Ps:List (Value->World->Prop)) (w:World) (a:Act) (i:Nat) (o:Oper):Prop :=
 match ks.getD i .op with
 |.op=>∀ (vs:Nat->Value) (x:World),(CE ws ks i=true->Mv (λb=>w.heap.size<=b) w x)->(∀ j∈ws.getD i [],(kl.getD j false=true->CF ws ks i=true)->(Ps.getD j dJ) (vs j) x)->Gives P o (ai ds vs (ns.getD i []) a) x (GR x (Ps.getD i dJ))
 |.al _ _ z T=>∀ (vs:Nat->Value) (x:World),Gives P o (ai ds vs (ns.getD i []) a) x (λv y=>v = .pointer (some ⟨x.heap.size,0,none⟩)/\y=x.alloc (.cells z T))
 |.st ia=>∀ st iv z T,ks.getD ia .op = .al st iv z T->∀ (vs:Nat->Value) (x:World) (g:Nat),vs ia = .pointer (some ⟨g,0,none⟩)->x.heap[g]? = some (.cells z T (0,0))->(Ps.getD iv dJ) (vs iv) x->Gives P o (ai ds vs (ns.getD i []) a) x (λ_ y=>y.heap[g]? = some (.cells (lM (vs iv)) T (0,0))/\Mv (λb=>b=g) x y)
 |.rs R iv z T=>∀ (vs:Nat->Value) (x:World),x.heap[R]? = some (.cells z T (0,0))->(Ps.getD iv dJ) (vs iv) x->Gives P o (ai ds vs (ns.getD i []) a) x (λ_ y=>y.heap[R]? = some (.cells (lM (vs iv)) T (0,0))/\Mv (λb=>b=R) x y)
theorem NL {a:Act} {w:World} {l:List Oper} (N:Nat) (ds:List (Option Tmp)) (ws ns:List (List Nat)) (kl:List Bool) (ks:List Kd) (Ps:List (Value->World->Prop)) (hN:a.tmps.size=N) (hok:iR N l.toArray ds ws ns []=true) (hkd:Fu ws kl ks=true) (hlen:ks.length=l.length)
 (wN:KP ks Ps) (ru:vK (ks.filterMap Kd.zero) kl Ps)
 (hR0:∀ i R iv z T,ks.getD i .op = .rs R iv z T->R<w.heap.size/\w.heap[R]? = some (.cells z T (0,0)))
 (hstep:lJ (GStep P ds ws ns kl ks Ps w a) 0 l)
 (hend:∀ (vs:Nat->Value) (x:World),ui kl ks Ps w vs x->Q .normal (ai ds vs (List.range l.length) a) x):wpAny P .any l.toArray Q l.toArray.size (Array.replicate l.toArray.size false) a w:=by
 have hal:=λi hi=>wN.at i hi
 have hk:∀ i,i<ks.length->_:=λi hi=>List.all_eq_true.1 hkd i (List.mem_range.2 hi)
 have hzs:∀ i st iv z T,ks.getD i .op = .al st iv z T->(z,T)∈ks.filterMap Kd.zero:=by
  intro i st iv z T h
  have hi:=getD_lt (by rw[h];simp:ks.getD i .op ≠ .op)
  refine List.mem_filterMap.2 ⟨ks[i],List.getElem_mem hi,?_⟩
  have:ks[i]=ks.getD i .op:=by simp[List.getD,hi]
  rw[this,h];rfl
 have uw:∀ i R iv z T,ks.getD i .op = .rs R iv z T->(z,T)∈ks.filterMap Kd.zero:=by
  intro i R iv z T h
  have hi:=getD_lt (by rw[h];simp:ks.getD i .op ≠ .op)
  refine List.mem_filterMap.2 ⟨ks[i],List.getElem_mem hi,?_⟩
  have:ks[i]=ks.getD i .op:=by simp[List.getD,hi]
  rw[this,h];rfl
 have hka:∀ i st iv z T,ks.getD i .op = .al st iv z T->ks.getD st .op = .st i/\i∈ws.getD st []/\iv∈ws.getD st []:=by
  intro i st iv z T h
  have h1:=hk i (getD_lt (by rw[h];simp))
  rw[h]at h1
  simp only[Bool.and_eq_true]at h1
  obtain⟨h1,h2,h3,_⟩:=h1
  refine⟨?_,by simpa using h2,by simpa using h3⟩
  split at h1
  · rename_i ia he;rw[he];congr 1;simpa using h1
  · cases h1
 have hkl:∀ i st iv z T,ks.getD i .op = .al st iv z T->kl.getD iv false=false:=by
  intro i st iv z T h
  have h1:=hk i (getD_lt (by rw[h];simp))
  rw[h]at h1
  simp only[Bool.and_eq_true]at h1
  simpa using h1.2.2.2
 have adz:∀ i R iv z T,ks.getD i .op = .rs R iv z T->kl.getD iv false=false:=by
  intro i R iv z T h
  have h1:=hk i (getD_lt (by rw[h];simp))
  rw[h]at h1
  simp only[Bool.and_eq_true]at h1
  simpa using h1.1.2
 have hks:∀ i ia,ks.getD i .op = .st ia->∃ iv z T,ks.getD ia .op = .al i iv z T:=by
  intro i ia h
  have h1:=hk i (getD_lt (by rw[h];simp))
  rw[h]at h1
  simp only at h1
  split at h1
  · rename_i st iv z T he
    have:st=i:=by simpa using h1
    subst this
    exact⟨iv,z,T,he⟩
  · cases h1
 have hkr:∀ i R iv z T,ks.getD i .op = .rs R iv z T->iv∈ws.getD i []/\∀ j,j≠i->(ks.getD j .op).nC=false:=by
  intro i R iv z T h
  have h1:=hk i (getD_lt (by rw[h];simp))
  rw[h]at h1
  simp only[Bool.and_eq_true]at h1
  refine⟨by simpa using h1.1.1,λj hj => ?_⟩
  rcases Nat.lt_or_ge j ks.length with hjl|hjl
  · have:=List.all_eq_true.1 h1.2 j (List.mem_range.2 hjl)
    simp only[Bool.or_eq_true,Bool.not_eq_true',beq_iff_eq]at this
    rcases this with e|e
    · exact absurd e hj
    · exact e
  · simp[List.getD,List.getElem?_eq_none hjl,Kd.nC]
 refine Y9 N ds ws ns [] hN hok (GI kl ks Ps w) ?_ ?_ ?_
 · have hf:∀ j,(Array.replicate l.toArray.size false).getD j false=false:=by
    intro j
    by_cases hj:j<l.toArray.size
    · simp[Array.getD,hj]
    · simp[Array.getD,hj]
   refine⟨Mv.refl _ _,λj h _ => ?_,λi st iv z T _ h => ?_,λi j _ _ _ h => ?_,λi R iv z T h => ?_⟩
   · rw[hf]at h;cases h
   · rw[hf]at h;cases h
   · rw[hf]at h;cases h
   · rw[hf];exact hR0 i R iv z T h
 · intro i o ho L vs x hsz oO bf hcl hI
   have hil:i<L.size:=by
    have:=(Array.getElem?_eq_some_iff.1 ho).1
    omega
   have gm:=Ae l 0 hstep i o (by simpa using ho)
   rw[Nat.zero_add]at gm
   have hset:(L.setIfInBounds i true).getD i false=true:=by simp[hil]
   have hne:∀ j,j≠i->(L.setIfInBounds i true).getD j false=L.getD j false:=λj hj=>getD_set_ne false (λe=>hj e.symm)
   have hup:∀ (v:Value) j,j≠i->upd vs i v j=vs j:=λv j hj=>by simp[upd,hj]
   have wO:∀ (v:Value),upd vs i v i=v:=λv=>by simp[upd]
   have xC:∀ j,L.getD j false=true->j≠i:=λj hj e=>by rw[e,oO]at hj;cases hj
   have hval:∀ j∈ws.getD i [],(kl.getD j false=true->CF ws ks i=true)->(Ps.getD j dJ) (vs j) x:=λj hj hso=>hI.val j (bf j hj) (λhkj m hm=>by
    cases hLm:L.getD m false with
    |false=>rfl
    |true =>
     exfalso
     have zR:m<ks.length:=getD_lt (by intro e;rw[e]at hm;cases hm)
     have h3:=List.all_eq_true.1 (hso hkj) m (List.mem_range.2 zR)
     rw[hm]at h3
     have:=hcl m hLm i (by simpa using h3)
     rw[oO]at this;cases this)
   have hcont:∀ st iv (z:Array Value) (v:Value),st≠i->iv∈ws.getD st []->(if(L.setIfInBounds i true).getD st false=true then lM (upd vs i v iv)else z)=if L.getD st false=true then lM (vs iv)else z:=by
    intro st iv z v hs hw
    rw[hne st hs]
    by_cases h:L.getD st false=true
    · rw[if_pos h,if_pos h,hup v iv (xC iv (hcl st h iv hw))]
    · rw[if_neg h,if_neg h]
   have hgrow:(ks.getD i .op).nC=false->(∀ ia,ks.getD i .op ≠ .st ia)->∀ (v:Value) (y:World),Grow x y->(Ps.getD i dJ) v y->(∀ st iv z T,ks.getD i .op = .al st iv z T->v = .pointer (some ⟨x.heap.size,0,none⟩)/\y=x.alloc (.cells z T))->GI kl ks Ps w (L.setIfInBounds i true) (upd vs i v) y:=by
    intro hnr hns v y hg hp wN
    have adA:Mv (λb=>w.heap.size<=b\/K6 ks (L.setIfInBounds i true) b) w y:=by
     refine Mv.mono (hI.mv.trans hg (λ_ e=>e.elim)) (λb hb => .inl ?_)
     rcases hb with hb|⟨j,iv,z,T,h1,h2⟩
     · exact .inl hb
     · refine .inr ⟨j,iv,z,T,h1,?_⟩
       rw[hne j (xC j h2)];exact h2
    refine⟨adA,λj hj hkj => ?_,λj st iv z T hj hl => ?_,λj k hjk h1 h2 h3 h4 => ?_,λj R iv z T hj => ?_⟩
    · by_cases e:j=i
      · subst e;rw[wO];exact hp
      · rw[hne j e]at hj
        rw[hup v j e]
        refine(ru.at j).1 _ _ _ hg (hI.val j hj (λh m hm => ?_))
        have:=hkj h m hm
        by_cases em:m=i
        · subst em;exact oO
        · rw[hne m em]at this;exact this
    · by_cases e:j=i
      · subst e
        obtain⟨hv,hy⟩:=wN st iv z T hj
        obtain⟨k1,k2,k3⟩:=hka j st iv z T hj
        have hst:st≠j:=λe=>by rw[e,hj]at k1;cases k1
        have hLs:L.getD st false≠true:=λh=>by have:=hcl st h j k2;rw[oO]at this;cases this
        have hsw:w.heap.size<=x.heap.size:=hI.mv.size
        rw[wO,hne st hst,if_neg hLs]
        subst hy
        exact⟨x.heap.size,hv,hsw,by simp,heap_alloc_new x _⟩
      · rw[hne j e]at hl
        obtain⟨k1,k2,k3⟩:=hka j st iv z T hj
        obtain⟨g,hv,h1,h2,h3⟩:=hI.box j st iv z T hj hl
        have hst:st≠i:=λe=>hns j (e ▸ k1)
        refine⟨g,by rw[hup v j e];exact hv,h1,Nat.lt_of_lt_of_le h2 hg.size,?_⟩
        rw[hcont st iv z v hst k3,aJ h3 hg]
    · have hw:∀ m,(ks.getD m .op).BX=true->m≠i->(L.setIfInBounds i true).getD m false=true->∃ g,vs m = .pointer (some ⟨g,0,none⟩)/\g<x.heap.size:=by
       intro m hm hmi zR
       rw[hne m hmi]at zR
       cases Gb:ks.getD m .op with
       |al st iv z T =>
        obtain⟨g,hv,_,h2,_⟩:=hI.box m st iv z T Gb zR
        exact⟨g,hv,h2⟩
       |_=>rw[Gb]at hm;cases hm
      by_cases e1:j=i
      · subst e1
        cases hkj:ks.getD j .op with
        |al st iv z T =>
         obtain⟨g,hv,h5⟩:=hw k h2 (λe=>hjk e.symm) h4
         rw[wO,hup v k (λe=>hjk e.symm),(wN st iv z T hkj).1,hv]
         intro e
         simp only[Value.pointer.injEq,Option.some.injEq,Addr.mk.injEq]at e
         omega
        |_=>rw[hkj]at h1;cases h1
      · by_cases e2:k=i
        · subst e2
          cases hkk:ks.getD k .op with
          |al st iv z T =>
           obtain⟨g,hv,h5⟩:=hw j h1 e1 h3
           rw[wO,hup v j e1,(wN st iv z T hkk).1,hv]
           intro e
           simp only[Value.pointer.injEq,Option.some.injEq,Addr.mk.injEq]at e
           omega
          |_=>rw[hkk]at h2;cases h2
        · rw[hne j e1]at h3
          rw[hne k e2]at h4
          rw[hup v j e1,hup v k e2]
          exact hI.apart j k hjk h1 h2 h3 h4
    · have hji:j≠i:=λe=>by rw[← e,hj]at hnr;cases hnr
      obtain⟨h1,h2⟩:=hI.res j R iv z T hj
      refine⟨h1,?_⟩
      rw[hcont j iv z v hji (hkr j R iv z T hj).1,aJ h2 hg]
   unfold GStep at gm
   cases hki:ks.getD i .op with
   |op =>
    rw[hki]at gm
    refine Gives.mono (gm vs x (λhr => ?_) hval) (λv y h=>hgrow (by rw[hki];rfl) (λia e=>by rw[hki]at e;cases e) v y h.1 h.2 (λst iv z T e=>by rw[hki]at e;cases e))
    refine Mv.mono hI.mv (λb hb => .inl ?_)
    rcases hb with hb|⟨j,iv,z,T,h1,h2⟩
    · exact hb
    · exfalso
      have hjl:=getD_lt (by rw[h1];simp:ks.getD j .op ≠ .op)
      have h3:=List.all_eq_true.1 hr j (List.mem_range.2 hjl)
      rw[h1]at h3
      have h4:i∈ws.getD j []:=by simpa[Kd.nC]using h3
      have:=hcl j h2 i h4
      rw[oO]at this;cases this
   |al st iv z T =>
    rw[hki]at gm
    refine Gives.mono (gm vs x) (λv y h=>hgrow (by rw[hki];rfl) (λia e=>by rw[hki]at e;cases e) v y (by rw[h.2];exact(Mv.refl _ _).alloc _) (by rw[hal i (by rw[hki];simp)];trivial) (λst' jg z' T' e=>by rw[hki]at e;cases e;exact h))
   |st ia =>
    rw[hki]at gm
    obtain⟨iv,z,T,hia⟩:=hks i ia hki
    obtain⟨k1,k2,k3⟩:=hka ia i iv z T hia
    obtain⟨g,hv,h1,h2,h3⟩:=hI.box ia i iv z T hia (bf ia k2)
    rw[if_neg (by rw[oO];simp)]at h3
    have hmz:=hzs ia i iv z T hia
    refine Gives.mono (gm i iv z T hia vs x g hv h3 (hval iv k3 (λh=>by rw[hkl ia i iv z T hia]at h;cases h))) (λv y h => ?_)
    obtain⟨hy,hm'⟩:=h
    have hpi:Ps.getD i dJ=dJ:=hal i (by rw[hki];simp)
    have ag2:ia≠i:=xC ia (bf ia k2)
    refine⟨?_,λj hj hkj => ?_,λj st jg z' T' hj hl => ?_,λj k hjk h4 h5 h6 h7 => ?_,λj R jg z' T' hj => ?_⟩
    · refine Mv.mono (hI.mv.trans hm' (λb e=>by subst e;exact .inl (.inl h1))) (λb hb => .inl ?_)
      rcases hb with hb|⟨j,jg,z',T',h4,h5⟩
      · exact .inl hb
      · refine .inr ⟨j,jg,z',T',h4,?_⟩
        rw[hne j (xC j h5)];exact h5
    · by_cases e:j=i
      · subst e;rw[hpi];trivial
      · rw[hne j e]at hj
        rw[hup v j e]
        have bW:kl.getD j false=false:=by
         cases Mr:kl.getD j false with
         |false=>rfl
         |true=>exfalso;have:=hkj Mr i (by rw[hki];rfl);rw[hset]at this;cases this
        exact(ru.at j).2 bW (z,T) hmz g _ _ _ h3 hm' (hI.val j hj (λh=>by rw[bW]at h;cases h))
    · have e:j≠i:=λe=>by rw[e,hki]at hj;cases hj
      rw[hne j e]at hl
      by_cases ej:j=ia
      · subst ej
        rw[hia]at hj
        cases hj
        refine⟨g,by rw[hup v _ e];exact hv,h1,Nat.lt_of_lt_of_le h2 hm'.size,?_⟩
        rw[hset,if_pos rfl,hup v iv (xC iv (bf iv k3))]
        exact hy
      · obtain⟨q1,q2,q3⟩:=hka j st jg z' T' hj
        have hst:st≠i:=λe'=>by rw[e',hki]at q1;cases q1;exact ej rfl
        obtain⟨g',hv',r1,r2,r3⟩:=hI.box j st jg z' T' hj hl
        refine⟨g',by rw[hup v j e];exact hv',r1,Nat.lt_of_lt_of_le r2 hm'.size,?_⟩
        rw[hcont st jg z' v hst q3,hm'.block g' r2 (λe' => ?_)]
        · exact r3
        · subst e'
          exact hI.apart j ia ej (by rw[hj];rfl) (by rw[hia];rfl) hl (bf ia k2) (by rw[hv,hv'])
    · have e1:j≠i:=λe=>by rw[e,hki]at h4;cases h4
      have e2:k≠i:=λe=>by rw[e,hki]at h5;cases h5
      rw[hne j e1]at h6
      rw[hne k e2]at h7
      rw[hup v j e1,hup v k e2]
      exact hI.apart j k hjk h4 h5 h6 h7
    · have hji:j≠i:=λe=>by rw[e,hki]at hj;cases hj
      obtain⟨r1,r2⟩:=hI.res j R jg z' T' hj
      refine⟨r1,?_⟩
      have hRx:R<x.heap.size:=(Array.getElem?_eq_some_iff.1 r2).1
      rw[hcont j jg z' v hji (hkr j R jg z' T' hj).1,hm'.block R hRx (λe=>by omega)]
      exact r2
   |rs R iv z T =>
    rw[hki]at gm
    obtain⟨k1,k2⟩:=hkr i R iv z T hki
    obtain⟨r1,r2⟩:=hI.res i R iv z T hki
    rw[if_neg (by rw[oO];simp)]at r2
    have hmz:=uw i R iv z T hki
    refine Gives.mono (gm vs x r2 (hval iv k1 (λh=>by rw[adz i R iv z T hki]at h;cases h))) (λv y h => ?_)
    obtain⟨hy,hm'⟩:=h
    have hpi:Ps.getD i dJ=dJ:=hal i (by rw[hki];simp)
    refine⟨?_,λj hj hkj => ?_,λj st jg z' T' hj hl => ?_,λj k hjk h4 h5 h6 h7 => ?_,λj R' jg z' T' hj => ?_⟩
    · refine Mv.trans (O:=λb=>w.heap.size<=b\/K6 ks (L.setIfInBounds i true) b) (Mv.mono hI.mv (λb hb => .inl ?_)) hm' (λb e => .inl (.inr ⟨i,iv,z,T,by rw[e];exact hki,hset⟩))
      rcases hb with hb|⟨j,jg,z',T',h4,h5⟩
      · exact .inl hb
      · exact .inr ⟨j,jg,z',T',h4,by rw[hne j (xC j h5)];exact h5⟩
    · by_cases e:j=i
      · subst e;rw[hpi];trivial
      · rw[hne j e]at hj
        rw[hup v j e]
        have bW:kl.getD j false=false:=by
         cases Mr:kl.getD j false with
         |false=>rfl
         |true=>exfalso;have:=hkj Mr i (by rw[hki];rfl);rw[hset]at this;cases this
        exact(ru.at j).2 bW (z,T) hmz R _ _ _ r2 hm' (hI.val j hj (λh=>by rw[bW]at h;cases h))
    · have e:j≠i:=λe=>by rw[e,hki]at hj;cases hj
      rw[hne j e]at hl
      obtain⟨q1,q2,q3⟩:=hka j st jg z' T' hj
      have hst:st≠i:=λe'=>by rw[e',hki]at q1;cases q1
      obtain⟨g',hv',s1,s2,s3⟩:=hI.box j st jg z' T' hj hl
      refine⟨g',by rw[hup v j e];exact hv',s1,Nat.lt_of_lt_of_le s2 hm'.size,?_⟩
      rw[hcont st jg z' v hst q3,hm'.block g' s2 (λe'=>by omega)]
      exact s3
    · have e1:j≠i:=λe=>by rw[e,hki]at h4;cases h4
      have e2:k≠i:=λe=>by rw[e,hki]at h5;cases h5
      rw[hne j e1]at h6
      rw[hne k e2]at h7
      rw[hup v j e1,hup v k e2]
      exact hI.apart j k hjk h4 h5 h6 h7
    · by_cases e:j=i
      · subst e
        rw[hki]at hj
        cases hj
        refine⟨r1,?_⟩
        rw[hset,if_pos rfl,hup v iv (xC iv (bf iv k1))]
        exact hy
      · have:=k2 j e
        rw[hj]at this;cases this
 · intro L vs x hall hI
   have ry:∀ j,j<ks.length->L.getD j false=true:=λj hj=>hall j (by simpa using hlen ▸ hj)
   refine hend vs x ⟨Mv.mono hI.mv (λb hb => .inl ?_),λj hj bW=>hI.val j (ry j hj) (λh=>by rw[bW]at h;cases h),λi st iv z T hi => ?_,λi j hij h1 h2 => ?_,λi R iv z T hi => ?_⟩
   · rcases hb with hb|⟨i,iv,z,T,h1,h2⟩
     · exact .inl hb
     · exact .inr ⟨i,iv,z,T,h1⟩
   · have hil:=getD_lt (by rw[hi];simp:ks.getD i .op ≠ .op)
     obtain⟨k1,_,_⟩:=hka i st iv z T hi
     have hsl:=getD_lt (by rw[k1];simp:ks.getD st .op ≠ .op)
     obtain⟨g,h1,h2,h3,h4⟩:=hI.box i st iv z T hi (ry i hil)
     rw[if_pos (ry st hsl)]at h4
     exact⟨g,h1,h2,h3,h4⟩
   · have e1:i<ks.length:=getD_lt (by intro e;rw[e]at h1;cases h1)
     have e2:j<ks.length:=getD_lt (by intro e;rw[e]at h2;cases h2)
     exact hI.apart i j hij h1 h2 (ry i e1) (ry j e2)
   · have hil:=getD_lt (by rw[hi];simp:ks.getD i .op ≠ .op)
     have:=(hI.res i R iv z T hi).2
     rw[if_pos (ry i hil)]at this
     exact this
theorem Xf {id:Nat} {a:Act} {w:World} {l:List Oper} (hm:P.follows .mixedOrders=true) (N:Nat) (ds:List (Option Tmp)) (ws ns:List (List Nat)) (kl:List Bool) (ks:List Kd) (Ps:List (Value->World->Prop)) (hN:a.tmps.size=N) (hok:iR N l.toArray ds ws ns []=true) (hkd:Fu ws kl ks=true) (hlen:ks.length=l.length)
 (wN:KP ks Ps) (ru:vK (ks.filterMap Kd.zero) kl Ps)
 (hR0:∀ i R iv z T,ks.getD i .op = .rs R iv z T->R<w.drew.heap.size/\w.drew.heap[R]? = some (.cells z T (0,0)))
 (hstep:lJ (GStep P ds ws ns kl ks Ps w.drew a) 0 l)
 (hend:∀ (vs:Nat->Value) (x:World),ui kl ks Ps w.drew vs x->Q .normal (ai ds vs (List.range l.length) a) x):(Code.region id l.toArray true).wp P Q a w :=
 wp_region_any hm (NL N ds ws ns kl ks Ps hN hok hkd hlen wN ru hR0 hstep hend)
end
def GH (ks:List Kd):Bool:=ks.all λk => !k.nC
theorem Rp {ks:List Kd} (h:GH ks=true) (i:Nat):(ks.getD i .op).nC=false:=by
 rcases Nat.lt_or_ge i ks.length with hi|hi
 · have:=List.all_eq_true.1 h ks[i] (List.getElem_mem hi)
   simpa[List.getD,hi]using this
 · simp[List.getD,List.getElem?_eq_none hi,Kd.nC]
theorem ui.grow {kl:List Bool} {ks:List Kd} {Ps:List (Value->World->Prop)} {w:World} {vs:Nat->Value} {x:World} (h:ui kl ks Ps w vs x) (hn:GH ks=true):Grow w x :=
 Mv.mono h.mv (λb hb=>by
  rcases hb with hb|⟨i,iv,z,T,hi⟩
  · exact .inr hb
  · have:=Rp hn i;rw[hi]at this;cases this)
theorem qN {w x:World} (h:Mv (λb=>w.heap.size<=b) w x):Grow w x:=Mv.mono h (λ_ e => .inr e)
theorem Oy {w x:World} (h:Grow w.drew x):Grow w x:=Mv.trans (Mv.refl _ w).drew h (λ_ e=>e.elim)
theorem Wd {ks:List Kd} {w:World} (h:GH ks=true):∀ i R iv z T,ks.getD i .op = .rs R iv z T->R<w.heap.size/\w.heap[R]? = some (.cells z T (0,0)):=by
 intro i R iv z T hi
 have:=Rp h i;rw[hi]at this;cases this
theorem ui.last {kl:List Bool} {ks:List Kd} {Ps:List (Value->World->Prop)} {w:World} {vs:Nat->Value} {x:World} {n R iv:Nat} {z:Array Value} {T:TypeId} (h:ui kl ks Ps w vs x) (hn:ks.getD n .op = .rs R iv z T) (h1:((List.range ks.length).all λj=>j == n || !(ks.getD j .op).nC)=true):Mv (λb=>b=R) w x :=
 Mv.mono h.mv (λb hb=>by
  rcases hb with hb|⟨i,jg,z',T',hi⟩
  · exact .inr hb
  · left
    have hil:=getD_lt (by rw[hi];simp:ks.getD i .op ≠ .op)
    have h2:=List.all_eq_true.1 h1 i (List.mem_range.2 hil)
    rw[hi]at h2
    have:i=n:=by simpa[Kd.nC]using h2
    subst this
    rw[hn]at hi
    cases hi
    rfl)
section
variable {P:Program} {ds:List (Option Tmp)} {ws ns:List (List Nat)} {kl:List Bool} {ks:List Kd} {Ps:List (Value->World->Prop)} {w:World} {a:Act} {i:Nat} {o:Oper}
theorem acr (hk:ks.getD i .op = .op) (h:∀ (vs:Nat->Value) (x:World),(CE ws ks i=true->Mv (λb=>w.heap.size<=b) w x)->(∀ j∈ws.getD i [],(kl.getD j false=true->CF ws ks i=true)->(Ps.getD j dJ) (vs j) x)->Gives P o (ai ds vs (ns.getD i []) a) x (GR x (Ps.getD i dJ))):GStep P ds ws ns kl ks Ps w a i o:=by
 unfold GStep;rw[hk];exact h
theorem acs {st iv:Nat} {z:Array Value} {T:TypeId} (hk:ks.getD i .op = .al st iv z T) (h:∀ (vs:Nat->Value) (x:World),Gives P o (ai ds vs (ns.getD i []) a) x (λv y=>v = .pointer (some ⟨x.heap.size,0,none⟩)/\y=x.alloc (.cells z T))):GStep P ds ws ns kl ks Ps w a i o:=by
 unfold GStep;rw[hk];exact h
theorem acu {ia st iv:Nat} {z:Array Value} {T:TypeId} (hk:ks.getD i .op = .st ia) (hk2:ks.getD ia .op = .al st iv z T) (h:∀ (vs:Nat->Value) (x:World) (g:Nat),vs ia = .pointer (some ⟨g,0,none⟩)->x.heap[g]? = some (.cells z T (0,0))->(Ps.getD iv dJ) (vs iv) x->Gives P o (ai ds vs (ns.getD i []) a) x (λ_ y=>y.heap[g]? = some (.cells (lM (vs iv)) T (0,0))/\Mv (λb=>b=g) x y)):GStep P ds ws ns kl ks Ps w a i o:=by
 unfold GStep;rw[hk]
 intro st' jg z' T' h2
 rw[hk2]at h2
 cases h2
 exact h
end
end Go.Proofs.YtadecgbblajifaaGreatDoor
