import Derived.Test.YtadecgbblajifaaGreatDoorC13
import Derived.Test.YtadecgbblajifaaGreatDoorChecked
import Derived.KernelRfl
import Derived.Laws.Externs
set_option linter.unusedSimpArgs false
set_option linter.unusedVariables false
set_option maxRecDepth 100000
set_option maxHeartbeats 25600000
namespace Go.Proofs.YtadecgbblajifaaGreatDoor
end Go.Proofs.YtadecgbblajifaaGreatDoor
namespace Go.Proofs.YtadecgbblajifaaGreatDoor.DV
open Go
noncomputable section
variable {P:Program} {C:Cx} {B:Base} {r:Option Nat}
theorem BG:∀ (l:List D) (k j:Nat),lk (nI k l) j=if k<=j then l[j - k]? else none
 | [],k,j=>by simp[nI,lk]
 |d :: l,k,j=>by
  rw[nI,lk]
  by_cases h:k=j
  · subst h;simp
  · have hb:Nat.beq k j=false:=by
     cases hb:Nat.beq k j with
     |false=>rfl
     |true=>exact absurd (Nat.eq_of_beq_eq_true hb) h
    rw[hb]
    simp only[BG l]
    by_cases h1:k+1<=j
    · rw[if_pos h1,if_pos (by omega),show j - k=(j - (k+1))+1 by omega,List.getElem?_cons_succ]
    · rw[if_neg h1,if_neg (by omega)]
theorem MR (l:List D) (k:Nat):aV (fill .e 0 l) k=dl (nI 0 l) k:=by
 have h1:aG (fill .e 0 l) k=l[k]? := by
  rw[tZ]
  simp only[Nat.zero_le,if_true,Nat.sub_zero]
  cases l[k]? <;> rfl
 have h2:lk (nI 0 l) k=l[k]? := by rw[BG];simp
 unfold aV dl
 rw[h1,h2]
 cases l[k]? <;> rfl
def j5 (T:bg) (st tm:List (Nat × Option D)):List ResultVar->Option (List D)
 | []=>some []
 |.tmp k :: l=>match jG (dl tm k),j5 T st tm l with
  |some d,some r=>some (d :: r)
  |_,_=>none
 |.cell a ty :: l=>match T ty with
  |some y=>match ng y (lk st) (dl tm a),j5 T st tm l with
   |some d,some r=>match jG d with
    |some d=>some (d :: r)
    |none=>none
   |_,_=>none
  |none=>none
theorem x8 {T:bg} {st tm:List (Nat × Option D)} : ∀ {l:List ResultVar} {ds:List D},j5 T st tm l=some ds->iA T (aW st) (aW tm) l=some ds
 | [],ds,h=>h
 |.tmp k :: l,ds,h=>by
  simp only[j5,lI]at h
  cases hr:j5 T st tm l with
  |none=>rw[hr]at h;simp at h
  |some r =>
   rw[hr]at h
   simp only[Option.some.injEq]at h
   simp only[iA,x8 hr,nH,h]
 |.cell a ty :: l,ds,h=>by
  simp only[j5,lI]at h
  have hs:ak (aW st)=lk st:=by funext j;exact lQ st j
  cases hy:T ty with
  |none=>rw[hy]at h;simp at h
  |some y =>
   rw[hy]at h
   simp only at h
   cases hd:ng y (lk st) (dl tm a)with
   |none=>rw[hd]at h;simp at h
   |some d =>
    cases hr:j5 T st tm l with
    |none=>rw[hd,hr]at h;simp at h
    |some r =>
     rw[hd,hr]at h
     simp only[Option.some.injEq]at h
     simp only[iA,hy,hs,nH,hd,x8 hr,h]
structure mid (C:Cx) (B:Base) (s:S) (ex:Ex) (t:S):Prop where
 out:ex = .normal/\Wk C B t s
theorem rE {s t:S} (h:Wk C B t s):mid C B s .normal t:=⟨rfl,h⟩
structure fin (C:Cx) (fn:Func) (d:D) (ex:Ex) (t:S):Prop where
 out:(ex = .normal\/ex = .ret)/\t.ms=[]/\∃ ds,iA C.T t.s t.tm fn.results.toList=some ds/\FR (ak t.s) (lW ds) d
section
variable {fn:Func} {d:D} {tm st:List (Nat × Option D)} {nx n:Nat} {ds:List D}
theorem MS (h:j5 C.T st tm fn.results.toList=some ds) (hf:FR (lk st) (lW ds) d) {ex:Ex} (hex:ex = .normal\/ex = .ret):fin C fn d ex (Z tm st nx n):=by
 have hs:ak (aW st)=lk st:=by funext j;exact lQ st j
 exact⟨hex,rfl,ds,x8 h,by rw[hs];exact hf⟩
theorem gP (h:j5 C.T st tm fn.results.toList=some ds) (hf:FR (lk st) (lW ds) d):fin C fn d .ret (Z tm st nx n):=MS h hf (.inr rfl)
end
theorem x9 {fn : Func} {c : Code} {f : Nat} {args : List D} {d : D} (hT : bZ P C.T) (hf : P.funcs[f]? = some fn) (hn : (fn.name == "runtime.NumGoroutine") = false) (hb : fn.body = some c) (hl : Nat.ble args.length fn.ntmps = true) (ha : ∀ d ∈ args, aF d) (hg : ∀ i, aF (C.gl i))
 (h:∀ B:G × World,Run P C ⟨B.1,B.2,λ_=>none,[]⟩ none c (Z (nI 0 args) [] 0 fn.ntmps) (fin C fn d)):Pure P C.gl f args d :=
 pure_run hT hf hn hb (Nat.le_of_ble_eq_true hl) (Fz.FV ha) (λi=>Fz.FV (by simpa using hg i)) λB=>by
  refine Run.mono (K:=fin C fn d) ?_ λex t q=>q.out
  refine uf ?_ (h B)
  intro g a w hS hI
  refine⟨g,⟨hS.rel,λk => ?_,hS.size,hS.fresh,hS.gl,hS.ms⟩,hI⟩
  have:=hS.tm k
  simp only[MR]at this
  simp only[nH]
  exact this
theorem tT {gl : Nat -> D} {f : Nat} {args : List D} (v : Value) (hb : ((P.funcs[f]?).map λfn => fn.body.isSome && !(fn.name == "runtime.NumGoroutine")) = some true)
 (h:∀ g w vs,(∀ b c,g.fm b=some c->mem w b=some c)->(∀ i,VR g (gl i) (.pointer (some ⟨i,0,none⟩)))->au g args vs->Calls P f ⟨vs⟩ w λe w'=>e = .returned v/\(∀ b,b<w.heap.size->w'.heap[b]? = w.heap[b]?)/\w.heap.size<=w'.heap.size/\Sm w w'):Pure P gl f args (.lf v):=by
 intro g σ w vs R hgl hvs
 have hent:(callFunc f ⟨vs⟩).run P w = .ok (.enter f ⟨vs⟩) w:=by
  cases hq:P.funcs[f]? with
  |none=>rw[hq]at hb;simp at hb
  |some fn =>
   rw[hq]at hb
   simp only[Option.map_some,Option.some.injEq,Bool.and_eq_true,Bool.not_eq_true',beq_eq_false_iff_ne]at hb
   have h1:¬ fn.body=none:=by intro h;rw[h]at hb;simp at hb
   simp[callFunc,hq,hb.2,h1]
 refine .inl ⟨hent,(h g w vs R.fm hgl hvs).mono ?_⟩
 rintro e w' ⟨rfl,h1,h2,h3⟩
 refine⟨v,rfl,g,⟨λb c hb => ?_,λi d hi => ?_,R.dj⟩,⟨.refl g,h2,λb hb=>h1 b ?_,λb hb => .inl hb,λi l hi => .inl hi,λi hi => .inl hi,h3⟩,cu _ _⟩
 · have:=R.fm b c hb
   have hlt:=mZ this
   unfold mem at this ⊢
   rw[h1 b hlt];exact this
 · obtain⟨l,hl⟩:=R.ob i d hi
   exact⟨l,hl.keep (.refl g) hl.fm (h1 _ hl.lt)⟩
 · rcases Nat.lt_or_ge b w.heap.size with h|h
   · exact h
   · exact absurd (.inl h) hb
abbrev gH (w:World):G:=⟨λb=>mem w b,λ_=>none⟩
theorem KA (w:World):Rel (gH w) (λ_=>none) w:=Rel.nil λ_ _ h=>h
theorem Pure.calls {gl : Nat -> D} {f : Nat} {args : List D} {d : D} (h : Pure P gl f args d) (hb : ((P.funcs[f]?).map λfn => fn.body.isSome && !(fn.name == "runtime.NumGoroutine")) = some true) {w : World} {vs : List Value} (hg : ∀ i, VR (gH w) (gl i) (.pointer (some ⟨i, 0, none⟩))) (hv : au (gH w) args vs) :
 Calls P f ⟨vs⟩ w λe w'=>∃ v g,e = .returned v/\VR g d v/\(∀ b c,g.fm b=some c->mem w' b=some c)/\(∀ b,b<w.heap.size->w'.heap[b]? = w.heap[b]?)/\w.heap.size<=w'.heap.size/\Sm w w':=by
 rcases h (gH w) _ w vs (KA w) hg hv with⟨_,h3⟩|⟨v,w',h3,_⟩
 · refine h3.mono ?_
   rintro e w' ⟨v,rfl,g',R,E,V⟩
   refine⟨v,g',rfl,V,R.fm,λb hb=>E.fr b ?_,E.hp,E.sm⟩
   rintro(h|⟨i,l,h,_⟩)
   · omega
   · simp at h
 · exfalso
   cases hq:P.funcs[f]? with
   |none=>rw[hq]at hb;simp at hb
   |some fn =>
    rw[hq]at hb
    simp only[Option.map_some,Option.some.injEq,Bool.and_eq_true,Bool.not_eq_true',beq_eq_false_iff_ne]at hb
    have h1:¬ fn.body=none:=by intro h;rw[h]at hb;simp at hb
    simp[callFunc,hq,hb.2,h1]at h3
end
end Go.Proofs.YtadecgbblajifaaGreatDoor.DV
namespace Go.Proofs.YtadecgbblajifaaGreatDoor
end Go.Proofs.YtadecgbblajifaaGreatDoor
namespace Go.Proofs.YtadecgbblajifaaGreatDoor.DV
open Go
variable {P:Program}
mutual
def cellsD:D->Option (List Value)
 |.lf v=>some [v]
 |.st _ ds=>o6 ds
 |.ar _ ds=>o6 ds
 |_=>none
def o6:List D->Option (List Value)
 | []=>some []
 |d :: ds=>match cellsD d,o6 ds with
  |some a,some b=>some (a ++ b)
  |_,_=>none
end
mutual
theorem ll {g:G} : ∀ (d:D) (cs c:List Value),cellsD d=some c->CR g false d cs->cs=c
 |.lf v,cs,c,h,H=>by
  simp only[cellsD,Option.some.injEq]at h
  simp only[CR]at H
  rw[H.1,h]
 |.st ss ds,cs,c,h,H=>by
  simp only[cellsD]at h
  simp only[CR,wrap]at H
  obtain⟨c',rfl,H⟩:=H
  exact wS ds ss _ c h H
 |.ar s ds,cs,c,h,H=>by
  simp only[cellsD]at h
  simp only[CR,wrap]at H
  obtain⟨c',rfl,H⟩:=H
  exact wS ds _ _ c h H
 |.sl _ _ _,_,_,h,_=>by simp[cellsD]at h
 |.fp _,_,_,h,_=>by simp[cellsD]at h
 |.ref _ _,_,_,h,_=>by simp[cellsD]at h
 |.own _ _ _ _,_,_,h,_=>by simp[cellsD]at h
 |.e0,_,_,h,_=>by simp[cellsD]at h
 |.fn _ _ _,_,_,h,_=>by simp[cellsD]at h
 |.tu _,_,_,h,_=>by simp[cellsD]at h
 |.dK _ _,_,_,h,_=>by simp[cellsD]at h
 |.aO,_,_,h,_=>by simp[cellsD]at h
 |.mp _,_,_,h,_=>by simp[cellsD]at h
 |.mo _ _,_,_,h,_=>by simp[cellsD]at h
 |.yd _,_,_,h,_=>by simp[cellsD]at h
 |.lo _ _ _ _,_,_,h,_=>by simp[cellsD]at h
 |.lb _ _ _ _,_,_,h,_=>by simp[cellsD]at h
 |.fP _,_,_,h,_=>by simp[cellsD]at h
 |.df,_,_,h,_=>by simp[cellsD]at h
theorem wS {g:G} : ∀ (ds:List D) (ss:List Nat) (cs c:List Value),o6 ds=some c->ah g ss ds cs->cs=c
 | [],ss,cs,c,h,H=>by
  simp only[o6,Option.some.injEq]at h
  subst h
  cases ss <;> simp only[ah]at H
  exact H
 |d :: ds,ss,cs,c,h,H=>by
  cases ss with
  |nil=>simp only[ah]at H
  |cons s ss =>
   simp only[ah]at H
   simp only[o6]at h
   split at h
   · rename_i a b ha hb
     simp only[Option.some.injEq]at h
     subst h
     rw[← ll d _ a ha H.2.1,← wS ds ss _ b hb H.2.2,List.take_append_drop]
   · simp at h
end
theorem KC {gl : Nat -> D} {f : Nat} {args : List D} {d : D} {v : Value} (hd : ∀ g, VR g d v) (hb : ((P.funcs[f]?).map λfn => fn.body.isSome && !(fn.name == "runtime.NumGoroutine")) = some true)
 (h:∀ g w vs,(∀ b c,g.fm b=some c->mem w b=some c)->(∀ i,VR g (gl i) (.pointer (some ⟨i,0,none⟩)))->au g args vs->Calls P f ⟨vs⟩ w λe w'=>e = .returned v/\(∀ b,b<w.heap.size->w'.heap[b]? = w.heap[b]?)/\w.heap.size<=w'.heap.size/\Sm w w'):Pure P gl f args d:=λg σ w vs R hgl hvs =>
 (tT (gl:=gl) v hb h g σ w vs R hgl hvs).mono λu w' ⟨g',h1,h2,h3⟩=>⟨g',h1,h2,by rw[aP h3];exact hd g'⟩
theorem KD {g:G} {w:World} {d:D} {b:Nat} {c:List Value} (hfm:∀ b c,g.fm b=some c->mem w b=some c) (h:VR g (.fp d) (.pointer (some ⟨b,0,none⟩))) (hc:cellsD d=some c):∀ (k:Nat) (v:Value),c[k]? = some v->w.cell? ⟨b,k,none⟩=some v:=by
 simp only[VR,CR,List.cons.injEq,Value.pointer.injEq,Option.some.injEq,Addr.mk.injEq,and_true]at h
 obtain⟨b',o,blk,n,⟨rfl,rfl⟩,h2,h3,h4⟩:=h
 intro k v hv
 have h5:=ll _ _ _ hc h4
 rw[mO (hfm _ _ h2)]
 rw[← h5]at hv
 simp only[List.drop_zero,List.getElem?_take]at hv
 split at hv
 · exact hv
 · simp at hv
end Go.Proofs.YtadecgbblajifaaGreatDoor.DV
namespace Go.Proofs.YtadecgbblajifaaGreatDoor
end Go.Proofs.YtadecgbblajifaaGreatDoor
namespace Go.Proofs.YtadecgbblajifaaGreatDoor.DV
open Go
noncomputable section
variable {P:Program} {C:Cx} {B:Base} {r:Option Nat}
theorem gB (l:List Nat) {id:Nat} {ops:Array Oper} {s:S} {K:Ex->S->Prop} (_:mem1 id l=false) (h:aU P C B r ops ops.toList s (K .normal)):Run P C B r (.region id ops false) s K:=gF h
theorem qJ {x y:Code} {s:S} {K:Ex->S->Prop} (s':S) (h:Run P C B r x s (mid C B s')) (h2:Run P C B r y s' K):Run P C B r x s (sq K λt=>Run P C B r y t K) :=
 h.mono λex t ⟨q⟩=>by
  obtain⟨rfl,hw⟩:=q
  exact⟨uf hw h2⟩
def kQ {α:Type} (p:Nat->α->Bool) (l:List α) (i:Nat):Prop:=i<=l.length/\∀ j,j<i->∀ x,l[j]? = some x->p j x=false
def anyI {α:Type} (p:Nat->α->Bool) (l:List α):Bool:=(List.range l.length).any λj=>match l[j]? with
 |some x=>p j x
 |none=>false
theorem kQ.zero {α:Type} (p:Nat->α->Bool) (l:List α):kQ p l 0:=⟨Nat.zero_le _,λj hj=>by omega⟩
theorem kQ.succ {α:Type} {p:Nat->α->Bool} {l:List α} {i:Nat} {x:α} (h:kQ p l i) (hx:l[i]? = some x) (hp:p i x=false):kQ p l (i+1):=by
 have hi:=(List.getElem?_eq_some_iff.1 hx).1
 refine⟨hi,λj hj y hy => ?_⟩
 rcases Nat.lt_or_ge j i with h1|h1
 · exact h.2 j h1 y hy
 · have:j=i:=by omega
   subst this
   rw[hx]at hy
   simp only[Option.some.injEq]at hy
   rw[← hy];exact hp
theorem kQ.all {α:Type} {p:Nat->α->Bool} {l:List α} {i:Nat} (h:kQ p l i) (hi:¬ i<l.length):anyI p l=false:=by
 unfold anyI
 rw[List.any_eq_false]
 intro j hj
 have hj:=List.mem_range.1 hj
 rw[List.getElem?_eq_getElem hj]
 simp only
 rw[h.2 j (by omega) _ (List.getElem?_eq_getElem hj)]
 simp
theorem uz {α:Type} {p:Nat->α->Bool} {l:List α} {i:Nat} {x:α} (hx:l[i]? = some x) (hp:p i x=true):anyI p l=true:=List.any_eq_true.2 ⟨i,List.mem_range.2 (List.getElem?_eq_some_iff.1 hx).1,by rw[hx];exact hp⟩
end
end Go.Proofs.YtadecgbblajifaaGreatDoor.DV
namespace Go.Proofs.YtadecgbblajifaaGreatDoor
end Go.Proofs.YtadecgbblajifaaGreatDoor
namespace Go.Proofs.YtadecgbblajifaaGreatDoor.DV
open Go
noncomputable section
variable {P:Program} {C:Cx} {B:Base} {r:Option Nat}
section
variable {ops:Array Oper} {base n i k:Nat} {t0 st0 tm st:List (Nat × Option D)} {acc:List Rc} {l:List Oper} {o:Oper} {K:S->Prop}
end
end
end Go.Proofs.YtadecgbblajifaaGreatDoor.DV
namespace Go.Proofs.YtadecgbblajifaaGreatDoor
end Go.Proofs.YtadecgbblajifaaGreatDoor
namespace Go.Proofs.YtadecgbblajifaaGreatDoor.DV
open Go
noncomputable section
variable {P:Program} {C:Cx} {B:Base} {r:Option Nat}
theorem gZ.qh {ρ:List (Nat × Nat)} {g g':G} (hf:∀ b c,g.fm b=some c->g'.fm b=some c) (hr:∀ p∈ρ,g'.aa p.1=g.aa p.2):∀ {ds es:List D} {vs:List Value},gZ ρ ds es->au g ds vs->au g' es vs
 | [],[],vs,_,H=>by simpa only[au]using H
 |d :: ds,e :: es,vs,h,H=>by
  simp only[au]at H ⊢
  obtain⟨v,vs',a,b,c⟩:=H
  exact⟨v,vs',a,h.1 g g' hf hr _ _ b,gZ.qh hf hr h.2 c⟩
 | [],_ :: _,_,h,_=>h.elim
 |_ :: _,[],_,h,_=>h.elim
theorem Rn.tu {ρ:List (Nat × Nat)} {ds es:List D} (h:gZ ρ ds es):Rn ρ (.tu ds) (.tu es):=λg g' hf hr m cs H=>by
 simp only[CR]at H ⊢
 obtain⟨h0,vs,a,b⟩:=H
 exact⟨h0,vs,a,h.qh hf hr b⟩
end
end Go.Proofs.YtadecgbblajifaaGreatDoor.DV
namespace Go.Proofs.YtadecgbblajifaaGreatDoor
end Go.Proofs.YtadecgbblajifaaGreatDoor
namespace Go.Proofs.YtadecgbblajifaaGreatDoor.DV
open Go
noncomputable section
variable {P:Program} {C:Cx} {B:Base} {r:Option Nat}
def okF (pin:List Nat) (ρ:List (Nat × Nat)) (qj:Nat) (pre post:List (Nat × Option D)):Bool:=zM ρ (qj+1) && (pre.all λp=>Nat.blt p.1 qj && mem1 p.1 (keys post)) && (pin.all λi=>jb ρ i == some i && (lk pre i).isSome) && ρ.all λp=>Nat.beq p.1 qj || mem1 p.1 pin
structure Qi (C:Cx) (fn:Func) (pin:List Nat) (qj:Nat) (pre:List (Nat × Option D)) (d:D) (post:List (Nat × Option D)) (ex:Ex) (t:S):Prop where
 out:(ex = .normal\/ex = .ret)/\t.ms=[]/\∃ tm st ds ρ,t.tm=aW tm/\t.s=aW st/\j5 C.T st tm fn.results.toList=some ds/\okF pin ρ qj pre post=true/\Rn ρ (lW ds) d/\kV ρ st post
section
variable {fn:Func} {pin:List Nat} {d:D} {tm st pre post:List (Nat × Option D)} {nx n qj:Nat} {ds:List D}
end
end
end Go.Proofs.YtadecgbblajifaaGreatDoor.DV
namespace Go.Proofs.YtadecgbblajifaaGreatDoor
end Go.Proofs.YtadecgbblajifaaGreatDoor
namespace Go.Proofs.YtadecgbblajifaaGreatDoor.DV
open Go
noncomputable section
variable {P:Program} {C:Cx} {B:Base} {r:Option Nat}
def FN (σ:ai) (d e:D):Prop:=∀ (g h:G) (w:World),(∀ i c,σ i=some c->dP c=false->∃ l blk,Has g w i c l blk)->(∀ b c,g.fm b=some c->h.fm b=some c)->(∀ i,h.aa i=g.aa i)->(∀ i d l blk,σ i=some d->Has g w i d l blk->h.fm l.b=some blk)->∀ m cs,CR g m d cs->CR h m e cs
def kZ (σ:ai):List D->List D->Prop
 | [],[]=>True
 |d :: ds,e :: es=>FN σ d e/\kZ σ ds es
 |_,_=>False
theorem FN.of {σ:ai} {d e:D} (h:FR σ d e):FN σ d e:=λg k w a b _ c m cs H=>h g k w a b c m cs H
theorem FN.lf {σ:ai} (v:Value):FN σ (.lf v) (.lf v) := .of (.lf v)
theorem FN.fz {σ:ai} {d:D} (h:aF d):FN σ d d := .of (.fz h)
theorem FN.ref {σ:ai} (i:Nat) (p:List (Nat × Nat)):FN σ (.ref i p) (.ref i p):=λg h w _ _ hr _ m cs H=>by
 simp only[CR]at H ⊢
 obtain⟨l,h1,h2⟩:=H
 exact⟨l,by rw[hr];exact h1,h2⟩
theorem FN.own {σ:ai} (t:Bool) (i off n:Nat):FN σ (.own t i off n) (.own t i off n):=λg h w _ _ hr _ m cs H=>by
 simp only[CR]at H ⊢
 obtain⟨l,a,c,h1,h2⟩:=H
 exact⟨l,a,c,by rw[hr];exact h1,h2⟩
theorem kZ.gM {σ:ai} {g h:G} {w:World} (h1:∀ i c,σ i=some c->dP c=false->∃ l blk,Has g w i c l blk) (h2:∀ b c,g.fm b=some c->h.fm b=some c) (hr:∀ i,h.aa i=g.aa i) (h3:∀ i d l blk,σ i=some d->Has g w i d l blk->h.fm l.b=some blk):∀ {ds es:List D} {ss:List Nat} {cs:List Value},kZ σ ds es->ah g ss ds cs->ah h ss es cs
 | [],[],ss,cs,_,H=>by cases ss <;> simp only[ah]at H ⊢ <;> exact H
 |d :: ds,e :: es,ss,cs,hf,H=>by
  cases ss with
  |nil=>simp only[ah]at H
  |cons s ss =>
   simp only[ah]at H ⊢
   exact⟨H.1,hf.1 g h w h1 h2 hr h3 _ _ H.2.1,kZ.gM h1 h2 hr h3 hf.2 H.2.2⟩
 | [],_ :: _,_,_,hf,_=>hf.elim
 |_ :: _,[],_,_,hf,_=>hf.elim
theorem kZ.len {σ:ai} : ∀ {ds es:List D},kZ σ ds es->es.length=ds.length
 | [],[],_=>rfl
 |_ :: _,_ :: _,h=>by simp[kZ.len h.2]
 | [],_ :: _,h=>h.elim
 |_ :: _,[],h=>h.elim
theorem FN.st {σ:ai} {ss:List Nat} {ds es:List D} (hf:kZ σ ds es):FN σ (.st ss ds) (.st ss es):=λg h w h1 h2 hr h3 m cs H=>by
 simp only[CR]at H ⊢
 obtain⟨c,a,b⟩:=H
 exact⟨c,a,hf.gM h1 h2 hr h3 b⟩
theorem FN.ar {σ:ai} {s:Nat} {ds es:List D} (hf:kZ σ ds es):FN σ (.ar s ds) (.ar s es):=λg h w h1 h2 hr h3 m cs H=>by
 simp only[CR,hf.len]at H ⊢
 obtain⟨c,a,b⟩:=H
 exact⟨c,a,hf.gM h1 h2 hr h3 b⟩
def pI (σ:ai) (tm:List (Nat × Option D)):List (Nat × Option D)->Prop
 | []=>True
 |(k,some d) :: l=>FN σ (dl tm k) d/\pI σ tm l
 |(_,none) :: l=>pI σ tm l
def pJ (σ:ai) (tc:List Nat) (st:List (Nat × Option D)):List (Nat × Option D)->Prop
 | []=>True
 |(k,some d) :: l=>(∃ e,mem1 k tc=false/\lk st k=some e/\FN σ e d/\sz e=sz d/\dP e=false/\∀ lo:Loc,fC lo e->fC lo d)/\pJ σ tc st l
 |(_,none) :: l=>pJ σ tc st l
theorem pI.get {σ:ai} {tm:List (Nat × Option D)} : ∀ {l:List (Nat × Option D)} {k:Nat} {d:D},pI σ tm l->lk l k=some d->FN σ (dl tm k) d
 | [],k,d,_,h=>by simp[lk]at h
 |(j,e) :: l,k,d,hs,h=>by
  rw[lk]at h
  split at h
  · rename_i hb
    have:=Nat.eq_of_beq_eq_true hb
    subst this
    cases e with
    |none=>simp at h
    |some e=>simp only[Option.some.injEq]at h;subst h;exact hs.1
  · cases e with
    |none=>exact pI.get (l:=l) hs h
    |some e=>exact pI.get hs.2 h
theorem pJ.get {σ:ai} {tc:List Nat} {st:List (Nat × Option D)} : ∀ {l:List (Nat × Option D)} {k:Nat} {d:D},pJ σ tc st l->lk l k=some d->∃ e,mem1 k tc=false/\lk st k=some e/\FN σ e d/\sz e=sz d/\dP e=false/\∀ lo:Loc,fC lo e->fC lo d
 | [],k,d,_,h=>by simp[lk]at h
 |(j,e) :: l,k,d,hs,h=>by
  rw[lk]at h
  split at h
  · rename_i hb
    have:=Nat.eq_of_beq_eq_true hb
    subst this
    cases e with
    |none=>simp at h
    |some e=>simp only[Option.some.injEq]at h;subst h;exact hs.1
  · cases e with
    |none=>exact pJ.get (l:=l) hs h
    |some e=>exact pJ.get hs.2 h
end
end Go.Proofs.YtadecgbblajifaaGreatDoor.DV
namespace Go.Proofs.YtadecgbblajifaaGreatDoor
end Go.Proofs.YtadecgbblajifaaGreatDoor
namespace Go.Proofs.YtadecgbblajifaaGreatDoor.DV
open Go
noncomputable section
def wh {α β:Type} : Nat->List α->Tr α->(Tr α->β)->β
 |_,[],t,K=>K t
 |k,y :: l,t,K=>ek t k (some y) λt=>wh (Nat.succ k) l t K
theorem D7 {α β:Type} : ∀ (l:List α) (k:Nat) (t:Tr α) (K:Tr α->β),wh k l t K=K (j4 k (l.map some) t)
 | [],_,_,_=>rfl
 |y :: l,k,t,K=>by
  rw[wh,gD,D7 l]
  simp only[List.map_cons,j4,gD]
def wm {α β:Type} : List (Nat × α)->Tr α->(Tr α->β)->β
 | [],t,K=>K t
 |(k,y) :: l,t,K=>ek t k (some y) λt=>wm l t K
def ql {α:Type} : List (Nat × α)->Tr α->Tr α
 | [],t=>t
 |(k,y) :: l,t=>ql l (bz t k (some y))
theorem D8 {α β:Type} : ∀ (l:List (Nat × α)) (t:Tr α) (K:Tr α->β),wm l t K=K (ql l t)
 | [],_,_=>rfl
 |(k,y) :: l,t,K=>by rw[wm,gD,D8 l];rfl
theorem Dn {α:Type} {y:α} {j:Nat} : ∀ (l:List (Nat × α)) (t:Tr α),aG (ql l t) j=some y->(j,y)∈l\/aG t j=some y
 | [],_,h => .inr h
 |(k,z) :: l,t,h=>by
  rcases Dn l _ h with h1|h1
  · exact .inl (List.mem_cons_of_mem _ h1)
  · rw[ic]at h1
    split at h1
    · rename_i h2
      simp only[Option.some.injEq]at h1
      rw[h2,← h1]
      exact .inl (List.mem_cons_self ..)
    · exact .inr h1
abbrev ns:D := .lf (.slice none 0 0)
abbrev ni:D := .lf (.int .i64 0)
abbrev nt:D := .lf (.string ⟨⟨[]⟩⟩)
abbrev nu:D := .lf (.int .u8 0)
abbrev nb:D := .lf (.bool false)
def qm:List (Nat × Ty):=[(2,⟨(.it .i64),false,1,8,ni,[]⟩),(3,⟨(.it .i64),false,1,8,ni,[]⟩),(4,⟨.bo,false,1,1,nb,[]⟩),(5,⟨(.it .u8),false,1,1,nu,[]⟩),(9,⟨.str,false,1,16,nt,[]⟩),(21,⟨(.it .i32),false,1,4,(.lf (.int .i32 (.ofNat 0))),[]⟩),(22,⟨(.sl 75 3),false,1,24,ns,[]⟩),(23,⟨(.sl 48 6),false,1,24,ns,[]⟩),(24,⟨(.sl 26 4),false,1,24,ns,[]⟩),(26,⟨(.st [(0,1,false),(1,1,false),(2,1,false),(3,1,false)]),true,4,56,(.st [1,1,1,1] [nu,ni,nt,ns]),[]⟩),(28,⟨(.st [(0,1,false),(1,1,false),(2,4,true)]),true,6,104,(.st [1,1,4] [ns,ns,(.st [1,1,1,1] [nu,ni,nt,ns])]),[]⟩),(31,⟨(.sl 89 4),false,1,24,ns,[]⟩),(33,⟨(.st [(0,1,false),(1,1,false),(2,1,false)]),true,3,40,(.st [1,1,1] [ns,ni,ni]),[]⟩),(34,⟨(.sl 69 5),false,1,24,ns,[]⟩),(35,⟨(.sl 67 2),false,1,24,ns,[]⟩),(37,⟨(.st [(0,1,false),(1,1,false)]),true,2,48,(.st [1,1] [ns,ns]),[]⟩),(39,⟨(.st [(0,1,false),(1,1,false),(2,3,true),(5,2,true)]),true,7,128,(.st [1,1,3,2] [nt,ns,(.st [1,1,1] [ns,ni,ni]),(.st [1,1] [ns,ns])]),[]⟩),(40,⟨(.it .i64),false,1,8,ni,[]⟩),(48,⟨(.st [(0,1,false),(1,1,false),(2,4,true)]),true,6,96,(.st [1,1,4] [nt,ns,(.st [1,1,1,1] [nu,ni,nt,ns])]),[]⟩),(51,⟨(.sl 5 1),false,1,24,ns,[]⟩),(65,⟨(.sl 3 1),false,1,24,ns,[]⟩),(67,⟨(.st [(0,1,false),(1,1,false)]),true,2,24,(.st [1,1] [ni,nt]),[(.it .i64),.str]⟩),(69,⟨(.st [(0,1,false),(1,1,false),(2,1,false),(3,1,false),(4,1,false)]),true,5,40,(.st [1,1,1,1,1] [nu,ni,ni,ni,ni]),[(.it .u8),(.it .i64),(.it .i64),(.it .i64),(.it .i64)]⟩),(73,⟨.fu,false,1,8,(.lf .nilFunc),[]⟩),(75,⟨(.st [(0,1,false),(1,1,false),(2,1,false)]),true,3,32,(.st [1,1,1] [nt,nu,ni]),[.str,(.it .u8),(.it .i64)]⟩),(78,⟨(.sl 124 4),false,1,24,ns,[]⟩),(80,⟨(.sl 83 4),false,1,24,ns,[]⟩),(83,⟨(.st [(0,1,false),(1,1,false),(2,1,false),(3,1,false)]),true,4,56,(.st [1,1,1,1] [ni,ns,ni,nt]),[]⟩),(89,⟨(.st [(0,1,false),(1,1,false),(2,1,false),(3,1,false)]),true,4,40,(.st [1,1,1,1] [nt,nu,ni,ni]),[.str,(.it .u8),(.it .i64),(.it .i64)]⟩),(98,⟨(.ar 4 3 1),true,4,32,(.ar 1 [ni,ni,ni,ni]),[]⟩),(102,⟨(.st [(0,1,false),(1,1,false)]),true,2,32,(.st [1,1] [ns,nb]),[]⟩),(112,⟨.fu,false,1,8,(.lf .nilFunc),[]⟩),(114,⟨(.pt 120),false,1,8,(.lf (.pointer .none)),[]⟩),(117,⟨(.sl 169 3),false,1,24,ns,[]⟩),(118,⟨(.mp 9 5),false,1,8,(.lf (.map .none)),[]⟩),(120,⟨(.st [(0,1,false),(1,1,false),(2,1,false),(3,1,false),(4,1,false),(5,1,false)]),true,6,64,(.st [1,1,1,1,1,1] [ns,ni,ni,(.lf (.map .none)),ni,ni]),[]⟩),(122,⟨(.pt 3),false,1,8,(.lf (.pointer .none)),[]⟩),(124,⟨(.st [(0,1,false),(1,1,false),(2,1,false),(3,1,false)]),true,4,56,(.st [1,1,1,1] [ni,ns,ni,nt]),[]⟩),(125,⟨.fu,false,1,8,(.lf .nilFunc),[]⟩),(129,⟨.fu,false,1,8,(.lf .nilFunc),[]⟩),(131,⟨(.sl 65 1),false,1,24,ns,[]⟩),(133,⟨(.st [(0,1,false),(1,1,false),(2,1,false)]),true,3,72,(.st [1,1,1] [ns,ns,ns]),[]⟩),(136,⟨(.mp 9 4),false,1,8,(.lf (.map .none)),[]⟩),(141,⟨(.st [(0,3,true),(3,1,false)]),true,4,64,(.st [3,1] [(.st [1,1,1] [ns,ni,ni]),ns]),[]⟩),(144,⟨(.st [(0,3,true),(3,1,false),(4,1,false)]),true,5,72,(.st [3,1,1] [(.st [1,1,1] [ns,ni,ni]),ns,ni]),[]⟩),(147,⟨(.mp 3 4),false,1,8,(.lf (.map .none)),[]⟩),(149,⟨.fu,false,1,8,(.lf .nilFunc),[]⟩),(153,⟨(.sl 155 2),false,1,24,ns,[]⟩),(155,⟨(.st [(0,1,false),(1,1,false)]),true,2,16,(.st [1,1] [ni,ni]),[(.it .i64),(.it .i64)]⟩),(157,⟨(.it .u64),false,1,8,(.lf (.int .u64 (.ofNat 0))),[]⟩),(158,⟨(.pt 102),false,1,8,(.lf (.pointer .none)),[]⟩),(169,⟨(.st [(0,1,false),(1,1,false),(2,1,false)]),true,3,32,(.st [1,1,1] [nu,nt,ni]),[(.it .u8),.str,(.it .i64)]⟩),(178,⟨.fu,false,1,8,(.lf .nilFunc),[]⟩),(189,⟨.fu,false,1,8,(.lf .nilFunc),[]⟩),(190,⟨(.pt 144),false,1,8,(.lf (.pointer .none)),[]⟩),(191,⟨(.sl 37 2),false,1,24,ns,[]⟩),(194,⟨(.st [(0,1,false),(1,1,false)]),true,2,24,(.st [1,1] [nt,ni]),[.str,(.it .i64)]⟩),(195,⟨(.ar 35 194 2),true,70,840,(.ar 2 [(.st [1,1] [nt,ni]),(.st [1,1] [nt,ni]),(.st [1,1] [nt,ni]),(.st [1,1] [nt,ni]),(.st [1,1] [nt,ni]),(.st [1,1] [nt,ni]),(.st [1,1] [nt,ni]),(.st [1,1] [nt,ni]),(.st [1,1] [nt,ni]),(.st [1,1] [nt,ni]),(.st [1,1] [nt,ni]),(.st [1,1] [nt,ni]),(.st [1,1] [nt,ni]),(.st [1,1] [nt,ni]),(.st [1,1] [nt,ni]),(.st [1,1] [nt,ni]),(.st [1,1] [nt,ni]),(.st [1,1] [nt,ni]),(.st [1,1] [nt,ni]),(.st [1,1] [nt,ni]),(.st [1,1] [nt,ni]),(.st [1,1] [nt,ni]),(.st [1,1] [nt,ni]),(.st [1,1] [nt,ni]),(.st [1,1] [nt,ni]),(.st [1,1] [nt,ni]),(.st [1,1] [nt,ni]),(.st [1,1] [nt,ni]),(.st [1,1] [nt,ni]),(.st [1,1] [nt,ni]),(.st [1,1] [nt,ni]),(.st [1,1] [nt,ni]),(.st [1,1] [nt,ni]),(.st [1,1] [nt,ni]),(.st [1,1] [nt,ni])]),[]⟩),(203,⟨.fu,false,1,8,(.lf .nilFunc),[]⟩),(204,⟨(.ar 43 9 1),true,43,688,(.ar 1 [nt,nt,nt,nt,nt,nt,nt,nt,nt,nt,nt,nt,nt,nt,nt,nt,nt,nt,nt,nt,nt,nt,nt,nt,nt,nt,nt,nt,nt,nt,nt,nt,nt,nt,nt,nt,nt,nt,nt,nt,nt,nt,nt]),[]⟩),(221,⟨.dK,false,1,16,(.lf .nilIface),[]⟩),(225,⟨(.sl 9 1),false,1,24,ns,[]⟩),(228,⟨(.sl 73 1),false,1,24,ns,[]⟩),(237,⟨.fu,false,1,8,(.lf .nilFunc),[]⟩),(242,⟨(.it .i64),false,1,8,ni,[]⟩),(249,⟨(.it .u32),false,1,4,(.lf (.int .u32 (.ofNat 0))),[]⟩),(251,⟨(.it .u64),false,1,8,(.lf (.int .u64 (.ofNat 0))),[]⟩),(256,⟨(.st [(0,4,true),(4,1,false),(5,1,false)]),true,6,72,(.st [4,1,1] [(.st [1,1,1,1] [nu,ni,nt,ns]),ni,nb]),[]⟩),(257,⟨.fu,false,1,8,(.lf .nilFunc),[]⟩),(260,⟨(.it .u64),false,1,8,(.lf (.int .u64 (.ofNat 0))),[]⟩),(265,⟨(.it .i64),false,1,8,ni,[]⟩),(268,⟨(.pt 289),false,1,8,(.lf (.pointer .none)),[]⟩),(272,⟨(.sl 256 6),false,1,24,ns,[]⟩),(276,⟨.fu,false,1,8,(.lf .nilFunc),[]⟩),(279,⟨(.st [(0,3,true),(3,1,false)]),true,4,64,(.st [3,1] [(.st [1,1,1] [ns,ni,ni]),ns]),[]⟩),(289,⟨(.st [(0,1,false),(1,1,false),(2,1,false)]),true,3,48,(.st [1,1,1] [nt,nt,(.lf .nilIface)]),[]⟩),(295,⟨(.pt 279),false,1,8,(.lf (.pointer .none)),[]⟩),(299,⟨(.pt 5),false,1,8,(.lf (.pointer .none)),[]⟩),(300,⟨(.pt 302),false,1,8,(.lf (.pointer .none)),[]⟩),(302,⟨(.st [(0,1,false)]),true,1,16,(.st [1] [nt]),[.str]⟩),(305,⟨(.ar 24 5 1),true,24,24,(.ar 1 [nu,nu,nu,nu,nu,nu,nu,nu,nu,nu,nu,nu,nu,nu,nu,nu,nu,nu,nu,nu,nu,nu,nu,nu]),[]⟩),(309,⟨(.ar 20 251 1),true,20,160,(.ar 1 [(.lf (.int .u64 (.ofNat 0))),(.lf (.int .u64 (.ofNat 0))),(.lf (.int .u64 (.ofNat 0))),(.lf (.int .u64 (.ofNat 0))),(.lf (.int .u64 (.ofNat 0))),(.lf (.int .u64 (.ofNat 0))),(.lf (.int .u64 (.ofNat 0))),(.lf (.int .u64 (.ofNat 0))),(.lf (.int .u64 (.ofNat 0))),(.lf (.int .u64 (.ofNat 0))),(.lf (.int .u64 (.ofNat 0))),(.lf (.int .u64 (.ofNat 0))),(.lf (.int .u64 (.ofNat 0))),(.lf (.int .u64 (.ofNat 0))),(.lf (.int .u64 (.ofNat 0))),(.lf (.int .u64 (.ofNat 0))),(.lf (.int .u64 (.ofNat 0))),(.lf (.int .u64 (.ofNat 0))),(.lf (.int .u64 (.ofNat 0))),(.lf (.int .u64 (.ofNat 0)))]),[]⟩),(310,⟨(.ar 65 5 1),true,65,65,(.ar 1 [nu,nu,nu,nu,nu,nu,nu,nu,nu,nu,nu,nu,nu,nu,nu,nu,nu,nu,nu,nu,nu,nu,nu,nu,nu,nu,nu,nu,nu,nu,nu,nu,nu,nu,nu,nu,nu,nu,nu,nu,nu,nu,nu,nu,nu,nu,nu,nu,nu,nu,nu,nu,nu,nu,nu,nu,nu,nu,nu,nu,nu,nu,nu,nu,nu]),[]⟩),(311,⟨(.ar 32 5 1),true,32,32,(.ar 1 [nu,nu,nu,nu,nu,nu,nu,nu,nu,nu,nu,nu,nu,nu,nu,nu,nu,nu,nu,nu,nu,nu,nu,nu,nu,nu,nu,nu,nu,nu,nu,nu]),[]⟩),(312,⟨(.ar 64 5 1),true,64,64,(.ar 1 [nu,nu,nu,nu,nu,nu,nu,nu,nu,nu,nu,nu,nu,nu,nu,nu,nu,nu,nu,nu,nu,nu,nu,nu,nu,nu,nu,nu,nu,nu,nu,nu,nu,nu,nu,nu,nu,nu,nu,nu,nu,nu,nu,nu,nu,nu,nu,nu,nu,nu,nu,nu,nu,nu,nu,nu,nu,nu,nu,nu,nu,nu,nu,nu]),[]⟩)]
def Ag:List ByteArray:=[⟨⟨[]⟩⟩,⟨⟨[]⟩⟩,⟨⟨[]⟩⟩,⟨⟨[]⟩⟩,⟨⟨[]⟩⟩,⟨⟨[]⟩⟩,⟨⟨[45]⟩⟩,⟨⟨[33]⟩⟩,⟨⟨[43]⟩⟩,⟨⟨[45]⟩⟩,⟨⟨[42]⟩⟩,⟨⟨[47]⟩⟩,⟨⟨[37]⟩⟩,⟨⟨[38]⟩⟩,⟨⟨[124]⟩⟩,⟨⟨[94]⟩⟩,⟨⟨[61,61]⟩⟩,⟨⟨[33,61]⟩⟩,⟨⟨[60]⟩⟩,⟨⟨[60,61]⟩⟩,⟨⟨[62]⟩⟩,⟨⟨[62,61]⟩⟩,⟨⟨[38,38]⟩⟩,⟨⟨[124,124]⟩⟩,⟨⟨[]⟩⟩,⟨⟨[]⟩⟩,⟨⟨[]⟩⟩,⟨⟨[]⟩⟩,⟨⟨[]⟩⟩,⟨⟨[]⟩⟩,⟨⟨[]⟩⟩,⟨⟨[]⟩⟩,⟨⟨[]⟩⟩,⟨⟨[]⟩⟩,⟨⟨[]⟩⟩,⟨⟨[]⟩⟩,⟨⟨[]⟩⟩,⟨⟨[]⟩⟩,⟨⟨[]⟩⟩,⟨⟨[]⟩⟩,⟨⟨[43,61]⟩⟩,⟨⟨[45,61]⟩⟩,⟨⟨[94,61]⟩⟩]
def Pb:List (ByteArray × Int):=[(⟨⟨[110,111,112]⟩⟩,0),(⟨⟨[97,100,100]⟩⟩,2),(⟨⟨[115,117,98]⟩⟩,2),(⟨⟨[120,111,114]⟩⟩,2),(⟨⟨[97,100,100,105]⟩⟩,2),(⟨⟨[115,117,98,105]⟩⟩,2),(⟨⟨[120,111,114,105]⟩⟩,2),(⟨⟨[115,119,97,112]⟩⟩,2),(⟨⟨[110,101,103]⟩⟩,1),(⟨⟨[99,97,108,99]⟩⟩,4),(⟨⟨[109,101,109]⟩⟩,2),(⟨⟨[105,100,120]⟩⟩,4),(⟨⟨[112,117,115,104]⟩⟩,2),(⟨⟨[112,111,112]⟩⟩,2),(⟨⟨[116,111,112]⟩⟩,2),(⟨⟨[115,105,122,101]⟩⟩,2),(⟨⟨[115,119,97,112,115]⟩⟩,2),(⟨⟨[114,101,97,100]⟩⟩,1),(⟨⟨[117,110,114,101,97,100]⟩⟩,1),(⟨⟨[119,114,105,116,101]⟩⟩,1),(⟨⟨[117,110,119,114,105,116,101]⟩⟩,1),(⟨⟨[122,101,114,111]⟩⟩,2),(⟨⟨[106,109,112]⟩⟩,1),(⟨⟨[106,109,112,122]⟩⟩,2),(⟨⟨[106,109,112,110]⟩⟩,2),(⟨⟨[108,97,110,100]⟩⟩,1),(⟨⟨[108,97,110,100,122]⟩⟩,2),(⟨⟨[108,97,110,100,110]⟩⟩,2),(⟨⟨[102,114,97,109,101]⟩⟩,2),(⟨⟨[117,110,102,114,97,109,101]⟩⟩,2),(⟨⟨[99,97,108,108]⟩⟩,1),(⟨⟨[117,110,99,97,108,108]⟩⟩,1),(⟨⟨[115,116,97,114,116]⟩⟩,1),(⟨⟨[101,110,100]⟩⟩,1),(⟨⟨[104,97,108,116]⟩⟩,0)]
def bB:Nat->D
 |1 => .fp (.ar 1 [.lf (.string ⟨⟨[]⟩⟩),.lf (.string ⟨⟨[]⟩⟩),.lf (.string ⟨⟨[]⟩⟩),.lf (.string ⟨⟨[]⟩⟩),.lf (.string ⟨⟨[]⟩⟩),.lf (.string ⟨⟨[]⟩⟩),.lf (.string ⟨⟨[45]⟩⟩),.lf (.string ⟨⟨[33]⟩⟩),.lf (.string ⟨⟨[43]⟩⟩),.lf (.string ⟨⟨[45]⟩⟩),.lf (.string ⟨⟨[42]⟩⟩),.lf (.string ⟨⟨[47]⟩⟩),.lf (.string ⟨⟨[37]⟩⟩),.lf (.string ⟨⟨[38]⟩⟩),.lf (.string ⟨⟨[124]⟩⟩),.lf (.string ⟨⟨[94]⟩⟩),.lf (.string ⟨⟨[61,61]⟩⟩),.lf (.string ⟨⟨[33,61]⟩⟩),.lf (.string ⟨⟨[60]⟩⟩),.lf (.string ⟨⟨[60,61]⟩⟩),.lf (.string ⟨⟨[62]⟩⟩),.lf (.string ⟨⟨[62,61]⟩⟩),.lf (.string ⟨⟨[38,38]⟩⟩),.lf (.string ⟨⟨[124,124]⟩⟩),.lf (.string ⟨⟨[]⟩⟩),.lf (.string ⟨⟨[]⟩⟩),.lf (.string ⟨⟨[]⟩⟩),.lf (.string ⟨⟨[]⟩⟩),.lf (.string ⟨⟨[]⟩⟩),.lf (.string ⟨⟨[]⟩⟩),.lf (.string ⟨⟨[]⟩⟩),.lf (.string ⟨⟨[]⟩⟩),.lf (.string ⟨⟨[]⟩⟩),.lf (.string ⟨⟨[]⟩⟩),.lf (.string ⟨⟨[]⟩⟩),.lf (.string ⟨⟨[]⟩⟩),.lf (.string ⟨⟨[]⟩⟩),.lf (.string ⟨⟨[]⟩⟩),.lf (.string ⟨⟨[]⟩⟩),.lf (.string ⟨⟨[]⟩⟩),.lf (.string ⟨⟨[43,61]⟩⟩),.lf (.string ⟨⟨[45,61]⟩⟩),.lf (.string ⟨⟨[94,61]⟩⟩)])
 |0 => .fp (.ar 2 [.st [1,1] [.lf (.string ⟨⟨[110,111,112]⟩⟩),.lf (.int .i64 0)],.st [1,1] [.lf (.string ⟨⟨[97,100,100]⟩⟩),.lf (.int .i64 2)],.st [1,1] [.lf (.string ⟨⟨[115,117,98]⟩⟩),.lf (.int .i64 2)],.st [1,1] [.lf (.string ⟨⟨[120,111,114]⟩⟩),.lf (.int .i64 2)],.st [1,1] [.lf (.string ⟨⟨[97,100,100,105]⟩⟩),.lf (.int .i64 2)],.st [1,1] [.lf (.string ⟨⟨[115,117,98,105]⟩⟩),.lf (.int .i64 2)],.st [1,1] [.lf (.string ⟨⟨[120,111,114,105]⟩⟩),.lf (.int .i64 2)],.st [1,1] [.lf (.string ⟨⟨[115,119,97,112]⟩⟩),.lf (.int .i64 2)],.st [1,1] [.lf (.string ⟨⟨[110,101,103]⟩⟩),.lf (.int .i64 1)],.st [1,1] [.lf (.string ⟨⟨[99,97,108,99]⟩⟩),.lf (.int .i64 4)],.st [1,1] [.lf (.string ⟨⟨[109,101,109]⟩⟩),.lf (.int .i64 2)],.st [1,1] [.lf (.string ⟨⟨[105,100,120]⟩⟩),.lf (.int .i64 4)],.st [1,1] [.lf (.string ⟨⟨[112,117,115,104]⟩⟩),.lf (.int .i64 2)],.st [1,1] [.lf (.string ⟨⟨[112,111,112]⟩⟩),.lf (.int .i64 2)],.st [1,1] [.lf (.string ⟨⟨[116,111,112]⟩⟩),.lf (.int .i64 2)],.st [1,1] [.lf (.string ⟨⟨[115,105,122,101]⟩⟩),.lf (.int .i64 2)],.st [1,1] [.lf (.string ⟨⟨[115,119,97,112,115]⟩⟩),.lf (.int .i64 2)],.st [1,1] [.lf (.string ⟨⟨[114,101,97,100]⟩⟩),.lf (.int .i64 1)],.st [1,1] [.lf (.string ⟨⟨[117,110,114,101,97,100]⟩⟩),.lf (.int .i64 1)],.st [1,1] [.lf (.string ⟨⟨[119,114,105,116,101]⟩⟩),.lf (.int .i64 1)],.st [1,1] [.lf (.string ⟨⟨[117,110,119,114,105,116,101]⟩⟩),.lf (.int .i64 1)],.st [1,1] [.lf (.string ⟨⟨[122,101,114,111]⟩⟩),.lf (.int .i64 2)],.st [1,1] [.lf (.string ⟨⟨[106,109,112]⟩⟩),.lf (.int .i64 1)],.st [1,1] [.lf (.string ⟨⟨[106,109,112,122]⟩⟩),.lf (.int .i64 2)],.st [1,1] [.lf (.string ⟨⟨[106,109,112,110]⟩⟩),.lf (.int .i64 2)],.st [1,1] [.lf (.string ⟨⟨[108,97,110,100]⟩⟩),.lf (.int .i64 1)],.st [1,1] [.lf (.string ⟨⟨[108,97,110,100,122]⟩⟩),.lf (.int .i64 2)],.st [1,1] [.lf (.string ⟨⟨[108,97,110,100,110]⟩⟩),.lf (.int .i64 2)],.st [1,1] [.lf (.string ⟨⟨[102,114,97,109,101]⟩⟩),.lf (.int .i64 2)],.st [1,1] [.lf (.string ⟨⟨[117,110,102,114,97,109,101]⟩⟩),.lf (.int .i64 2)],.st [1,1] [.lf (.string ⟨⟨[99,97,108,108]⟩⟩),.lf (.int .i64 1)],.st [1,1] [.lf (.string ⟨⟨[117,110,99,97,108,108]⟩⟩),.lf (.int .i64 1)],.st [1,1] [.lf (.string ⟨⟨[115,116,97,114,116]⟩⟩),.lf (.int .i64 1)],.st [1,1] [.lf (.string ⟨⟨[101,110,100]⟩⟩),.lf (.int .i64 1)],.st [1,1] [.lf (.string ⟨⟨[104,97,108,116]⟩⟩),.lf (.int .i64 0)]])
 |_ => .aO
set_option maxRecDepth 100000 in
theorem LV:(qm.map λx=>zK Tryz.prog x.1)=qm.map λx=>some x.2:=by kernel_rfl
theorem yL:bZ Tryz.prog λt=>aG (ql qm .e) t:=by
 intro t y h
 rcases Dn _ _ h with h1|h1
 · obtain⟨i,hi,h2⟩:=List.getElem_of_mem h1
   have h3:=congrArg (λl=>l[i]?) LV
   simp only[List.getElem?_map,List.getElem?_eq_getElem hi,h2,Option.map_some,Option.some.injEq]at h3
   exact LC h3
 · simp[aG,tgt]at h1
theorem LW:EZ Tryz.prog (Tryz.prog.funcs.toList.map some):=⟨rfl,by kernel_rfl⟩
def ctx (T:Tr Ty) (F:Tr Func) (O:Nat->List D->Option D):Cx:=⟨λt=>aG T t,bB,λf=>aG F f,λk=>Nat.beq k 222,O,λ_ _ _=>False,λ_ _ _ _ _ _=>False⟩
def mF (O:Nat->List D->Option D) (f:Nat) (az:List D):Option D:=wm qm .e λT=>wh 0 Tryz.prog.funcs.toList .e λF=>vG 1000 (ev (ctx T F O) (zI (ctx T F O)) 100000 (.call f az) S0)
theorem LX {T : Tr Ty} {F : Tr Func} {O : Nat -> List D -> Option D} (hT : bZ Tryz.prog λt => aG T t) (hF : ∀ k fn, aG F k = some fn -> Tryz.prog.funcs[k]? = some fn /\ (fn.name == "runtime.NumGoroutine") = false) (hO : ∀ f args d, O f args = some d -> Pure Tryz.prog bB f args d) : fM Tryz.prog (ctx T F O) :=
 ⟨hO,λ_ _ _ h=>h.elim,hT,hF,λk b c v w h hr=>by
  have h:Nat.beq k 222=true:=h
  rw[Nat.eq_of_beq_eq_true h,Go.run_callFunc_extern Tryz.func222 (by kernel_rfl) (by kernel_rfl) (by kernel_rfl) (e:=Extern.BytealgIndexByte.indexByte) (by kernel_rfl),hr]
  rfl,λ_ _ _ _ _ _ h=>h.elim⟩
theorem D9 {O:Nat->List D->Option D} (hO:∀ f args d,O f args=some d->Pure Tryz.prog bB f args d):fM Tryz.prog (ctx (ql qm .e) (j4 0 (Tryz.prog.funcs.toList.map some) .e) O) :=
 LX yL (MN LW) hO
theorem Fz.aO:Fz [.aO]:=λg h vs _ H=>by simpa only[au,CR]using H
theorem MU (i:Nat):Fz [bB i]:=by
 unfold bB
 split
 · exact Fz.yI (n:=10) (by kernel_rfl)
 · exact Fz.yI (n:=10) (by kernel_rfl)
 · exact Fz.aO
theorem mixed:Tryz.prog.follows .mixedOrders=true:=by kernel_rfl
theorem pg {O:Nat->List D->Option D} {f k:Nat} {az:List D} {d:D} (h:mF O f az=some d) (ha:jy (sI (λ_=>none) k) az=some az) (hO:∀ f args d,O f args=some d->Pure Tryz.prog bB f args d):Pure Tryz.prog bB f az d:=by
 unfold mF at h
 rw[D8,D7]at h
 exact LG (D9 hO) (LB mixed (D9 hO)) h (Fz.yI ha) MU
def Cells (w:World) (b:Nat) (cs:List Value):Prop:=∃ blk,mem w b=some blk/\blk.take cs.length=cs
theorem Cr {w:World} {b:Nat} {cs:List Value} (h:∀ k v,cs[k]? = some v->w.cell? ⟨b,k,none⟩=some v) (h0:cs≠[]):Cells w b cs:=by
 cases hm:mem w b with
 |none =>
  cases cs with
  |nil=>exact absurd rfl h0
  |cons v cs =>
   have h1:=h 0 v rfl
   unfold mem at hm
   unfold World.cell? at h1
   split at hm
   · simp at hm
   · rename_i h2
     split at h1
     · rename_i c e f h3
       exact absurd h3 (h2 _ _ _)
     all_goals simp at h1
 |some blk =>
  refine⟨blk,hm,List.ext_getElem? λk => ?_⟩
  rw[List.getElem?_take]
  split
  · rename_i hk
    have h1:=h k cs[k] (List.getElem?_eq_getElem hk)
    rw[mO hm]at h1
    rw[h1,List.getElem?_eq_getElem hk]
  · rename_i hk
    rw[List.getElem?_eq_none (by omega)]
def wu:List Value:=Ag.map .string
def qo:List Value:=Pb.flatMap λx=>[.string x.1,.int .i64 x.2]
theorem Ct {g:G} {w:World} {b:Nat} {cs:List Value} {d:D} (hc:Cells w b cs) (hg:g.fm b=mem w b) (hd:dF d cs=true):VR g (.fp d) (.pointer (some ⟨b,0,none⟩)):=by
 obtain⟨blk,h1,h2⟩:=hc
 have h3:=xW (g:=g) d cs hd
 have h4:=congrArg List.length h2
 simp only[List.length_take]at h4
 simp only[VR,CR]
 refine⟨b,0,blk,cs.length,rfl,by rw[hg,h1],by omega,?_⟩
 simpa[h2]using h3
end
end Go.Proofs.YtadecgbblajifaaGreatDoor.DV
namespace Go.Proofs.YtadecgbblajifaaGreatDoor
end Go.Proofs.YtadecgbblajifaaGreatDoor
