import Derived.Test.YtadecgbblajifaaGreatDoorE13
set_option linter.unusedSimpArgs false
set_option linter.unusedVariables false
set_option maxRecDepth 100000
set_option maxHeartbeats 25600000
namespace Go.Proofs.YtadecgbblajifaaGreatDoor
end Go.Proofs.YtadecgbblajifaaGreatDoor
namespace Go.Proofs.YtadecgbblajifaaGreatDoor.DV
open Go
noncomputable section
variable {P:Program} {C:Cx} {B:Base} {r:Option Nat}
theorem Oc:∀ (l:List D) (k j:Nat),lk (nU k l) j=if k<=j then l[j - k]? else none
 | [],k,j=>by simp[nU,lk]
 |d :: l,k,j=>by
  rw[nU,lk]
  by_cases h:k=j
  · subst h;simp
  · have hb:Nat.beq k j=false:=by
     cases hb:Nat.beq k j with
     |false=>rfl
     |true=>exact absurd (Nat.eq_of_beq_eq_true hb) h
    rw[hb]
    simp only[Oc l]
    by_cases h1:k+1<=j
    · rw[if_pos h1,if_pos (by omega),show j - k=(j - (k+1))+1 by omega,List.getElem?_cons_succ]
    · rw[if_neg h1,if_neg (by omega)]
theorem Q7 (l:List D) (k:Nat):dK (fill .e 0 l) k=dl (nU 0 l) k:=by
 have h1:aX (fill .e 0 l) k=l[k]? := by
  rw[Dz]
  simp only[Nat.zero_le,if_true,Nat.sub_zero]
  cases l[k]? <;> rfl
 have h2:lk (nU 0 l) k=l[k]? := by rw[Oc];simp
 unfold dK dl
 rw[h1,h2]
 cases l[k]? <;> rfl
def kW (T:dA) (st tm:List (Nat × Option D)):List ResultVar->Option (List D)
 | []=>some []
 |.tmp k :: l=>match oF (dl tm k),kW T st tm l with
  |some d,some r=>some (d :: r)
  |_,_=>none
 |.cell a ty :: l=>match T ty with
  |some y=>match vL y (lk st) (dl tm a),kW T st tm l with
   |some d,some r=>match oF d with
    |some d=>some (d :: r)
    |none=>none
   |_,_=>none
  |none=>none
theorem D5 {T:dA} {st tm:List (Nat × Option D)} : ∀ {l:List ResultVar} {ds:List D},kW T st tm l=some ds->lT T (bX st) (bX tm) l=some ds
 | [],ds,h=>h
 |.tmp k :: l,ds,h=>by
  simp only[kW,sJ]at h
  cases hr:kW T st tm l with
  |none=>rw[hr]at h;simp at h
  |some r =>
   rw[hr]at h
   simp only[Option.some.injEq]at h
   simp only[lT,D5 hr,qY,h]
 |.cell a ty :: l,ds,h=>by
  simp only[kW,sJ]at h
  have hs:aA (bX st)=lk st:=by funext j;exact jU st j
  cases hy:T ty with
  |none=>rw[hy]at h;simp at h
  |some y =>
   rw[hy]at h
   simp only at h
   cases hd:vL y (lk st) (dl tm a)with
   |none=>rw[hd]at h;simp at h
   |some d =>
    cases hr:kW T st tm l with
    |none=>rw[hd,hr]at h;simp at h
    |some r =>
     rw[hd,hr]at h
     simp only[Option.some.injEq]at h
     simp only[lT,hy,hs,qY,hd,D5 hr,h]
structure mid (C:Cx) (B:Base) (s:S) (ex:Ex) (t:S):Prop where
 out:ex = .normal/\Wk C B t s
theorem Bg {s t:S} (h:Wk C B t s):mid C B s .normal t:=⟨rfl,h⟩
structure fin (C:Cx) (fn:Func) (d:D) (ex:Ex) (t:S):Prop where
 out:(ex = .normal\/ex = .ret)/\t.ms=[]/\∃ ds,lT C.T t.s t.tm fn.results.toList=some ds/\FR (aA t.s) (tN ds) d
section
variable {fn:Func} {d:D} {tm st:List (Nat × Option D)} {nx n:Nat} {ds:List D}
theorem abl (h:kW C.T st tm fn.results.toList=some ds) (hf:FR (lk st) (tN ds) d) {ex:Ex} (hex:ex = .normal\/ex = .ret):fin C fn d ex (Z tm st nx n):=by
 have hs:aA (bX st)=lk st:=by funext j;exact jU st j
 exact⟨hex,rfl,ds,D5 h,by rw[hs];exact hf⟩
theorem jq (h:kW C.T st tm fn.results.toList=some ds) (hf:FR (lk st) (tN ds) d):fin C fn d .ret (Z tm st nx n):=abl h hf (.inr rfl)
end
theorem vI {fn : Func} {c : Code} {f : Nat} {args : List D} {d : D} (hT : cZ P C.T) (hf : P.funcs[f]? = some fn) (hn : (fn.name == "runtime.NumGoroutine") = false) (hb : fn.body = some c) (hl : Nat.ble args.length fn.ntmps = true) (ha : ∀ d ∈ args, ak d) (hg : ∀ i, ak (C.gl i))
 (h:∀ B:G × World,Run P C ⟨B.1,B.2,λ_=>none,[]⟩ none c (Z (nU 0 args) [] 0 fn.ntmps) (fin C fn d)):Pure P C.gl f args d :=
 pure_run hT hf hn hb (Nat.le_of_ble_eq_true hl) (Fz.UO ha) (λi=>Fz.UO (by simpa using hg i)) λB=>by
  refine Run.mono (K:=fin C fn d) ?_ λex t q=>q.out
  refine Ah ?_ (h B)
  intro g a w hS hI
  refine⟨g,⟨hS.rel,λk => ?_,hS.size,hS.fresh,hS.gl,hS.ms⟩,hI⟩
  have:=hS.tm k
  simp only[Q7]at this
  simp only[qY]
  exact this
theorem Im {gl : Nat -> D} {f : Nat} {args : List D} (v : Value) (hb : ((P.funcs[f]?).map λfn => fn.body.isSome && !(fn.name == "runtime.NumGoroutine")) = some true)
 (h:∀ g w vs,(∀ b c,g.fm b=some c->mem w b=some c)->(∀ i,VR g (gl i) (.pointer (some ⟨i,0,none⟩)))->aC g args vs->Calls P f ⟨vs⟩ w λe w'=>e = .returned v/\(∀ b,b<w.heap.size->w'.heap[b]? = w.heap[b]?)/\w.heap.size<=w'.heap.size/\Sm w w'):Pure P gl f args (.lf v):=by
 intro g σ w vs R hgl hvs
 have hent:(callFunc f ⟨vs⟩).run P w = .ok (.enter f ⟨vs⟩) w:=by
  cases hq:P.funcs[f]? with
  |none=>rw[hq]at hb;simp at hb
  |some fn =>
   rw[hq]at hb
   simp only[Option.map_some,Option.some.injEq,Bool.and_eq_true,Bool.not_eq_true',beq_eq_false_iff_ne]at hb
   have h1:¬ fn.body=none:=by intro h;rw[h]at hb;simp at hb
   simp[callFunc,hq,hb.2,h1]
 refine .inl ⟨hent,(h g w vs R.fm hgl hvs).mono ?_⟩
 rintro e w' ⟨rfl,h1,h2,h3⟩
 refine⟨v,rfl,g,⟨λb c hb => ?_,λi d hi => ?_,R.dj⟩,⟨.refl g,h2,λb hb=>h1 b ?_,λb hb => .inl hb,λi l hi => .inl hi,λi hi => .inl hi,h3⟩,fF _ _⟩
 · have:=R.fm b c hb
   have hlt:=sG this
   unfold mem at this ⊢
   rw[h1 b hlt];exact this
 · obtain⟨l,hl⟩:=R.ob i d hi
   exact⟨l,hl.keep (.refl g) hl.fm (h1 _ hl.lt)⟩
 · rcases Nat.lt_or_ge b w.heap.size with h|h
   · exact h
   · exact absurd (.inl h) hb
abbrev ku (w:World):G:=⟨λb=>mem w b,λ_=>none⟩
theorem ZK (w:World):Rel (ku w) (λ_=>none) w:=Rel.nil λ_ _ h=>h
theorem Pure.calls {gl : Nat -> D} {f : Nat} {args : List D} {d : D} (h : Pure P gl f args d) (hb : ((P.funcs[f]?).map λfn => fn.body.isSome && !(fn.name == "runtime.NumGoroutine")) = some true) {w : World} {vs : List Value} (hg : ∀ i, VR (ku w) (gl i) (.pointer (some ⟨i, 0, none⟩))) (hv : aC (ku w) args vs) :
 Calls P f ⟨vs⟩ w λe w'=>∃ v g,e = .returned v/\VR g d v/\(∀ b c,g.fm b=some c->mem w' b=some c)/\(∀ b,b<w.heap.size->w'.heap[b]? = w.heap[b]?)/\w.heap.size<=w'.heap.size/\Sm w w':=by
 rcases h (ku w) _ w vs (ZK w) hg hv with⟨_,h3⟩|⟨v,w',h3,_⟩
 · refine h3.mono ?_
   rintro e w' ⟨v,rfl,g',R,E,V⟩
   refine⟨v,g',rfl,V,R.fm,λb hb=>E.fr b ?_,E.hp,E.sm⟩
   rintro(h|⟨i,l,h,_⟩)
   · omega
   · simp at h
 · exfalso
   cases hq:P.funcs[f]? with
   |none=>rw[hq]at hb;simp at hb
   |some fn =>
    rw[hq]at hb
    simp only[Option.map_some,Option.some.injEq,Bool.and_eq_true,Bool.not_eq_true',beq_eq_false_iff_ne]at hb
    have h1:¬ fn.body=none:=by intro h;rw[h]at hb;simp at hb
    simp[callFunc,hq,hb.2,h1]at h3
end
end Go.Proofs.YtadecgbblajifaaGreatDoor.DV
namespace Go.Proofs.YtadecgbblajifaaGreatDoor
end Go.Proofs.YtadecgbblajifaaGreatDoor
namespace Go.Proofs.YtadecgbblajifaaGreatDoor.DV
open Go
variable {P:Program}
mutual
def cellsD:D->Option (List Value)
 |.lf v=>some [v]
 |.st _ ds=>x9 ds
 |.ar _ ds=>x9 ds
 |_=>none
def x9:List D->Option (List Value)
 | []=>some []
 |d :: ds=>match cellsD d,x9 ds with
  |some a,some b=>some (a ++ b)
  |_,_=>none
end
mutual
theorem rV {g:G} : ∀ (d:D) (cs c:List Value),cellsD d=some c->CR g false d cs->cs=c
 |.lf v,cs,c,h,H=>by
  simp only[cellsD,Option.some.injEq]at h
  simp only[CR]at H
  rw[H.1,h]
 |.st ss ds,cs,c,h,H=>by
  simp only[cellsD]at h
  simp only[CR,wrap]at H
  obtain⟨c',rfl,H⟩:=H
  exact Ia ds ss _ c h H
 |.ar s ds,cs,c,h,H=>by
  simp only[cellsD]at h
  simp only[CR,wrap]at H
  obtain⟨c',rfl,H⟩:=H
  exact Ia ds _ _ c h H
 |.sl _ _ _,_,_,h,_=>by simp[cellsD]at h
 |.fp _,_,_,h,_=>by simp[cellsD]at h
 |.ref _ _,_,_,h,_=>by simp[cellsD]at h
 |.own _ _ _ _,_,_,h,_=>by simp[cellsD]at h
 |.e0,_,_,h,_=>by simp[cellsD]at h
 |.fn _ _ _,_,_,h,_=>by simp[cellsD]at h
 |.tu _,_,_,h,_=>by simp[cellsD]at h
 |.gZ _ _,_,_,h,_=>by simp[cellsD]at h
 |.bZ,_,_,h,_=>by simp[cellsD]at h
 |.mp _,_,_,h,_=>by simp[cellsD]at h
 |.mo _ _,_,_,h,_=>by simp[cellsD]at h
 |.yd _,_,_,h,_=>by simp[cellsD]at h
 |.lo _ _ _ _,_,_,h,_=>by simp[cellsD]at h
 |.lb _ _ _ _,_,_,h,_=>by simp[cellsD]at h
 |.jK _,_,_,h,_=>by simp[cellsD]at h
 |.df,_,_,h,_=>by simp[cellsD]at h
theorem Ia {g:G} : ∀ (ds:List D) (ss:List Nat) (cs c:List Value),x9 ds=some c->aj g ss ds cs->cs=c
 | [],ss,cs,c,h,H=>by
  simp only[x9,Option.some.injEq]at h
  subst h
  cases ss <;> simp only[aj]at H
  exact H
 |d :: ds,ss,cs,c,h,H=>by
  cases ss with
  |nil=>simp only[aj]at H
  |cons s ss =>
   simp only[aj]at H
   simp only[x9]at h
   split at h
   · rename_i a b ha hb
     simp only[Option.some.injEq]at h
     subst h
     rw[← rV d _ a ha H.2.1,← Ia ds ss _ b hb H.2.2,List.take_append_drop]
   · simp at h
end
theorem ZL {gl : Nat -> D} {f : Nat} {args : List D} {d : D} {v : Value} (hd : ∀ g, VR g d v) (hb : ((P.funcs[f]?).map λfn => fn.body.isSome && !(fn.name == "runtime.NumGoroutine")) = some true)
 (h:∀ g w vs,(∀ b c,g.fm b=some c->mem w b=some c)->(∀ i,VR g (gl i) (.pointer (some ⟨i,0,none⟩)))->aC g args vs->Calls P f ⟨vs⟩ w λe w'=>e = .returned v/\(∀ b,b<w.heap.size->w'.heap[b]? = w.heap[b]?)/\w.heap.size<=w'.heap.size/\Sm w w'):Pure P gl f args d:=λg σ w vs R hgl hvs =>
 (Im (gl:=gl) v hb h g σ w vs R hgl hvs).mono λu w' ⟨g',h1,h2,h3⟩=>⟨g',h1,h2,by rw[dh h3];exact hd g'⟩
theorem ZM {g:G} {w:World} {d:D} {b:Nat} {c:List Value} (hfm:∀ b c,g.fm b=some c->mem w b=some c) (h:VR g (.fp d) (.pointer (some ⟨b,0,none⟩))) (hc:cellsD d=some c):∀ (k:Nat) (v:Value),c[k]? = some v->w.cell? ⟨b,k,none⟩=some v:=by
 simp only[VR,CR,List.cons.injEq,Value.pointer.injEq,Option.some.injEq,Addr.mk.injEq,and_true]at h
 obtain⟨b',o,blk,n,⟨rfl,rfl⟩,h2,h3,h4⟩:=h
 intro k v hv
 have h5:=rV _ _ _ hc h4
 rw[vg (hfm _ _ h2)]
 rw[← h5]at hv
 simp only[List.drop_zero,List.getElem?_take]at hv
 split at hv
 · exact hv
 · simp at hv
end Go.Proofs.YtadecgbblajifaaGreatDoor.DV
namespace Go.Proofs.YtadecgbblajifaaGreatDoor
end Go.Proofs.YtadecgbblajifaaGreatDoor
namespace Go.Proofs.YtadecgbblajifaaGreatDoor.DV
open Go
noncomputable section
variable {P:Program} {C:Cx} {B:Base} {r:Option Nat}
theorem jC (l:List Nat) {id:Nat} {ops:Array Oper} {s:S} {K:Ex->S->Prop} (_:mem1 id l=false) (h:bg P C B r ops ops.toList s (K .normal)):Run P C B r (.region id ops false) s K:=eB h
theorem Ai {x y:Code} {s:S} {K:Ex->S->Prop} (s':S) (h:Run P C B r x s (mid C B s')) (h2:Run P C B r y s' K):Run P C B r x s (sq K λt=>Run P C B r y t K) :=
 h.mono λex t ⟨q⟩=>by
  obtain⟨rfl,hw⟩:=q
  exact⟨Ah hw h2⟩
def qZ {α:Type} (p:Nat->α->Bool) (l:List α) (i:Nat):Prop:=i<=l.length/\∀ j,j<i->∀ x,l[j]? = some x->p j x=false
def anyI {α:Type} (p:Nat->α->Bool) (l:List α):Bool:=(List.range l.length).any λj=>match l[j]? with
 |some x=>p j x
 |none=>false
theorem qZ.zero {α:Type} (p:Nat->α->Bool) (l:List α):qZ p l 0:=⟨Nat.zero_le _,λj hj=>by omega⟩
theorem qZ.succ {α:Type} {p:Nat->α->Bool} {l:List α} {i:Nat} {x:α} (h:qZ p l i) (hx:l[i]? = some x) (hp:p i x=false):qZ p l (i+1):=by
 have hi:=(List.getElem?_eq_some_iff.1 hx).1
 refine⟨hi,λj hj y hy => ?_⟩
 rcases Nat.lt_or_ge j i with h1|h1
 · exact h.2 j h1 y hy
 · have:j=i:=by omega
   subst this
   rw[hx]at hy
   simp only[Option.some.injEq]at hy
   rw[← hy];exact hp
theorem qZ.all {α:Type} {p:Nat->α->Bool} {l:List α} {i:Nat} (h:qZ p l i) (hi:¬ i<l.length):anyI p l=false:=by
 unfold anyI
 rw[List.any_eq_false]
 intro j hj
 have hj:=List.mem_range.1 hj
 rw[List.getElem?_eq_getElem hj]
 simp only
 rw[h.2 j (by omega) _ (List.getElem?_eq_getElem hj)]
 simp
theorem D6 {α:Type} {p:Nat->α->Bool} {l:List α} {i:Nat} {x:α} (hx:l[i]? = some x) (hp:p i x=true):anyI p l=true:=List.any_eq_true.2 ⟨i,List.mem_range.2 (List.getElem?_eq_some_iff.1 hx).1,by rw[hx];exact hp⟩
end
end Go.Proofs.YtadecgbblajifaaGreatDoor.DV
namespace Go.Proofs.YtadecgbblajifaaGreatDoor
end Go.Proofs.YtadecgbblajifaaGreatDoor
namespace Go.Proofs.YtadecgbblajifaaGreatDoor.DV
open Go
noncomputable section
variable {P:Program} {C:Cx} {B:Base} {r:Option Nat}
theorem ZN {all:Array Oper} {l:List Oper} {o:Oper} {c:Call} {fo:Operand} {f:Nat} {az bs:List D} {s:S} {K:S->Prop} {d:D} {e:Eff} (tc:List Nat) (hw:want all s.tm o=some true) (ho:o.op = .call c) (hc:c.callee = .value fo) (hfo:ig C.gl s.tm fo = .fn (.func f) az bs)
 (hp:kT P C.gl f (az ++ dmap (ig C.gl s.tm) c.args.toList ++ bs) (bV tc (aA s.s)) s.nx d e) (hk:jD (aA s.s) s.nx tc e=true) (h:bg P C B r all l ⟨gP s.n s.tm o.dst d,jW e s.s,s.nx+1,s.n,s.ms,[],s.rd⟩ K):bg P C B r all (o :: l) s K :=
 Il hw λm g a w next Q hS hI hn=>by
  have hsub:∀ i d,bV tc (aA s.s) i=some d->aA s.s i=some d:=by
   intro i d h
   unfold bV at h
   split at h
   · exact h
   · simp at h
  have hfree:=hS.fresh s.nx (Nat.le_refl _)
  refine Aq ho hc hfo hS.get (λvs hvs=>hp g w vs (hS.rel.sub hsub) hfree hS.gl hvs) λv w' ⟨g',R',X',V'⟩ => ?_
  obtain⟨h1,h2⟩:=frame hS.rel hsub X' R' (λi hi=>by rw[hi];exact hfree) λi hi=>DC e hk hi
  obtain⟨g2,k1,k2⟩:=hS.next (dst:=o.dst) ⟨g',h1,h2,V'⟩
  exact hn _ g2 _ _ h ⟨k1.rel,k1.tm,k1.size,k1.fresh,k1.gl,k1.ms⟩ (hI.step k2.ext)
theorem abm {all:Array Oper} {l:List Oper} {o:Oper} {c:Call} {fo:Operand} {f:Nat} {az bs:List D} {tm st:List (Nat × Option D)} {nx n:Nat} {K:S->Prop} {d:D} {e:Eff} (tc:List Nat) (hw:eD all tm o=some true) (ho:o.op = .call c) (hc:c.callee = .value fo) (hfo:gy C.gl tm fo = .fn (.func f) az bs)
 (hp:kT P C.gl f (az ++ dmap (gy C.gl tm) c.args.toList ++ bs) (bV tc (lk st)) nx d e) (hk:jD (lk st) nx tc e=true) (h:bg P C B r all l (Z (eU n o.dst d tm) (gI e st) (nx+1) n) K):bg P C B r all (o :: l) (Z tm st nx n) K:=by
 have hs:aA (bX st)=lk st:=by funext j;exact jU st j
 refine ZN tc (by simpa only[rX]using hw) ho hc (by simpa only[yj]using hfo) (by simpa only[yj,hs]using hp) (by simpa only[hs]using hk) ?_
 simpa only[rZ,Au]using h
theorem ze {all:Array Oper} {l:List Oper} {o:Oper} {c:Call} {fo:Operand} {f k:Nat} {az bs as':List D} {tm st:List (Nat × Option D)} {nx n:Nat} {K:S->Prop} {d:D} {e:Eff} (tc:List Nat) (hw:eD all tm o=some true) (hd:o.dst=some k) (hkn:Nat.blt k n=true) (ho:o.op = .call c) (hc:c.callee = .value fo) (hfo:gy C.gl tm fo = .fn (.func f) az bs)
 (ha:az ++ dmap (gy C.gl tm) c.args.toList ++ bs=as') (hp:kT P C.gl f as' (bV tc (lk st)) nx d e) (hk:jD (lk st) nx tc e=true) {st':List (Nat × Option D)} (hst:gI e st=st') (h:bg P C B r all l (Z ((k,some d) :: tm) st' nx.succ n) K):bg P C B r all (o :: l) (Z tm st nx n) K :=
 abm tc hw ho hc hfo (by rw[ha];exact hp) hk (by simpa only[eU,hd,hkn,hst]using h)
section
variable {ops:Array Oper} {base n i k:Nat} {t0 st0 tm st:List (Nat × Option D)} {acc:List Rc} {l:List Oper} {o:Oper} {K:S->Prop}
theorem de {c:Call} {fo:Operand} {f:Nat} {az bs as':List D} {d:D} {e:Eff} (tc:List Nat) (hw:eD ops tm o=some true) (hd:o.dst=some k) (hkn:Nat.blt k n=true) (ho:o.op = .call c) (hc:c.callee = .value fo) (hfo:fG C.gl (aN ops o) tm fo = .fn (.func f) az bs) (ha:az ++ dmap (fG C.gl (aN ops o) tm) c.args.toList ++ bs=as')
 (hp:C.E f as' (bV tc (lk st)) (base+i) d e) (hk:jD (lk st) (base+i) tc e=true) (bf:jo i (gD o)=true) (hok:iA (eF [] ops.toList) ⟨i,o.dst,aN ops o,d,e,tc,none,base+ops.size,base+ops.size⟩ acc=true) {st':List (Nat × Option D)} (hst:gI e st=st')
 (h:dQ C ops base n t0 st0 (⟨i,o.dst,aN ops o,d,e,tc,none,base+ops.size,base+ops.size⟩ :: acc) i.succ l ((k,some d) :: tm) st' K):dQ C ops base n t0 st0 acc i (o :: l) tm st K :=
 abk tc hw ho hc hfo ha hp hk bf hok (by simpa only[eU,hd,hkn,hst]using h)
end
theorem O4:∀ (l:List Nat) (j:Nat),j∈l->aH (l.map λi=>(i,(none:Option D))) j=some none
 | [],j,hj=>by simp at hj
 |a :: l,j,hj=>by
  simp only[List.map_cons,aH]
  split
  · rfl
  · rename_i hb
    refine O4 l j ?_
    rcases List.mem_cons.1 hj with rfl|h
    · simp at hb
    · exact h
theorem ZO {gl:Nat->D} {f:Nat} {args yD:List D} {d:D} {st:List (Nat × Option D)} {id:Nat} (hp:Pure P gl f yD d) (hg:∀ i,ak (gl i)) (tc:List Nat) (hm:(tc.all λi=>match lk st i with
 |some c => !fU c
 |none=>false)=true) (hf:eO (bV tc (lk st)) args yD):kT P gl f args (bV tc (lk st)) id d (tc.map λi=>(i,none)):=by
 intro g w vs R hid hgl hvs
 have hm':∀ i∈tc,∃ c,lk st i=some c/\fU c=false:=by
  intro i hi
  have:=List.all_eq_true.1 hm i hi
  cases hl:lk st i with
  |none=>rw[hl]at this;simp at this
  |some c=>rw[hl]at this;exact⟨c,rfl,by simpa using this⟩
 have hin:∀ i c,bV tc (lk st) i=some c->i∈tc/\lk st i=some c:=by
  intro i c h
  unfold bV at h
  split at h
  · rename_i h1;exact⟨(jO _ _).1 h1,h⟩
  · simp at h
 have hmo:∀ i c,bV tc (lk st) i=some c->fU c=false:=by
  intro i c h
  obtain⟨h1,h2⟩:=hin i c h
  obtain⟨c',h3,h4⟩:=hm' i h1
  rw[h2]at h3
  simp only[Option.some.injEq]at h3
  rw[h3];exact h4
 let X:Nat->Prop:=λb=>∃ i l,bV tc (lk st) i≠none/\g.ae i=some l/\l.b=b
 have hX:∀ b,X b->∃ blk,mem w b=some blk/\g.fm b=none:=by
  rintro b ⟨i,l,h1,h2,rfl⟩
  obtain⟨c,hc⟩:=Option.ne_none_iff_exists'.1 h1
  obtain⟨l',blk,H⟩:=R.has hc (hmo i c hc)
  have:l'=l:=by have:=H.ae;rw[h2]at this;simpa using this.symm
  subst this
  exact⟨blk,H.row.mem,H.fm⟩
 generalize hk:(⟨λb => @ite _ (X b) (Classical.propDecidable _) (mem w b) (g.fm b),g.ae⟩:G)=k
 have bW:∀ b,k.fm b = @ite _ (X b) (Classical.propDecidable _) (mem w b) (g.fm b):=λb=>by rw[← hk]
 have hkr:∀ i,k.ae i=g.ae i:=λi=>by rw[← hk]
 have hfm:∀ b c,g.fm b=some c->k.fm b=some c:=by
  intro b c hb
  rw[bW]
  split
  · rename_i h1
    obtain⟨blk,_,h2⟩:=hX b h1
    rw[hb]at h2;simp at h2
  · exact hb
 have Gb:∀ b c,k.fm b=some c->mem w b=some c:=by
  intro b c hb
  rw[bW]at hb
  split at hb
  · exact hb
  · exact R.fm b c hb
 have ac6:aC k yD vs:=hf.l8 (g:=g) (h:=k) (w:=w) (λi c hc hmc=>R.has hc hmc) hfm (λi d l blk hi H=>by
  rw[bW,if_pos ⟨i,l,by rw[hi];simp,H.ae,rfl⟩]
  exact H.row.mem) hvs
 refine(hp k (λ_=>none) w vs ⟨Gb,λ_ _ h=>by simp at h,λ_ _ _ _ h=>by simp at h⟩ (λi=>hg i g k hfm _ _ (hgl i)) ac6).mono ?_
 rintro v w' ⟨g',R',E',V'⟩
 have he:app (tc.map λi=>(i,none)) (bV tc (lk st))=λ_=>none:=by
  funext j
  unfold app
  by_cases hj:j∈tc
  · have:=O4 tc j hj
    rw[this]
  · have h1:bV tc (lk st) j=none:=by
     unfold bV
     split
     · rename_i h;exact absurd ((jO _ _).1 h) hj
     · rfl
    split
    · rename_i x hx
      have:∀ (l:List Nat),aH (l.map λi=>(i,(none:Option D))) j=some x->x=none:=by
       intro l
       induction l with
       |nil=>intro h;simp[aH]at h
       |cons a l ih =>
        intro h
        simp only[List.map_cons,aH]at h
        split at h
        · simpa using h.symm
        · exact ih h
      exact this _ hx
    · exact h1
 have lQ:∀ b,Mine k (λ_=>none) w b->w.heap.size<=b:=by
  rintro b (h|⟨i,l,h,_⟩)
  · exact h
  · simp at h
 refine⟨g',by rw[he];exact R',⟨⟨λb c hb=>E'.le.fm _ _ (hfm b c hb),λi l hi=>E'.le.ae _ _ (by rw[hkr];exact hi)⟩,E'.hp,λb hb=>E'.fr b λh=>hb (.inl (lQ b h)),λb hb => ?_,λi l hi => ?_,λi hi=>by rw[he]at hi;simp at hi,E'.sm⟩,V'⟩
 · rcases E'.jv b hb with h|h
   · rw[bW]at h
     split at h
     · rename_i h1;exact .inr (.inr h1)
     · exact .inl h
   · exact .inr (.inl (lQ b h))
 · rcases E'.rn i l hi with h|h
   · rw[hkr]at h;exact .inl h
   · exact h.2.elim
end
end Go.Proofs.YtadecgbblajifaaGreatDoor.DV
namespace Go.Proofs.YtadecgbblajifaaGreatDoor
end Go.Proofs.YtadecgbblajifaaGreatDoor
namespace Go.Proofs.YtadecgbblajifaaGreatDoor.DV
open Go
noncomputable section
variable {P:Program} {C:Cx} {B:Base} {r:Option Nat}
theorem eP.l8 {ρ:List (Nat × Nat)} {g g':G} (hf:∀ b c,g.fm b=some c->g'.fm b=some c) (hr:∀ p∈ρ,g'.ae p.1=g.ae p.2):∀ {ds es:List D} {vs:List Value},eP ρ ds es->aC g ds vs->aC g' es vs
 | [],[],vs,_,H=>by simpa only[aC]using H
 |d :: ds,e :: es,vs,h,H=>by
  simp only[aC]at H ⊢
  obtain⟨v,vs',a,b,c⟩:=H
  exact⟨v,vs',a,h.1 g g' hf hr _ _ b,eP.l8 hf hr h.2 c⟩
 | [],_ :: _,_,h,_=>h.elim
 |_ :: _,[],_,h,_=>h.elim
theorem Rn.tu {ρ:List (Nat × Nat)} {ds es:List D} (h:eP ρ ds es):Rn ρ (.tu ds) (.tu es):=λg g' hf hr m cs H=>by
 simp only[CR]at H ⊢
 obtain⟨h0,vs,a,b⟩:=H
 exact⟨h0,vs,a,h.l8 hf hr b⟩
theorem abn (post pre:List (Nat × Option D)):app post (lk pre)=lk (post ++ pre):=by
 funext i
 unfold app
 induction post with
 |nil=>rfl
 |cons p l ih =>
  obtain⟨k,d⟩:=p
  simp only[aH,List.cons_append,lk]
  cases hb:Nat.beq k i with
  |true=>rfl
  |false=>exact ih
theorem O5 {e:List (Nat × Option D)} {i:Nat} {d:Option D} (h:aH e i=some d):lk e i=d:=by
 induction e with
 |nil=>simp[aH]at h
 |cons p l ih =>
  obtain⟨k,d'⟩:=p
  simp only[aH,lk]at h ⊢
  cases hb:Nat.beq k i with
  |true=>rw[hb]at h;simpa using h
  |false=>rw[hb]at h;exact ih h
theorem O6 {e:List (Nat × Option D)} {i:Nat} (h:aH e i=none):lk e i=none/\i ∉ keys e:=by
 induction e with
 |nil=>exact⟨rfl,by simp[keys]⟩
 |cons p l ih =>
  obtain⟨k,d'⟩:=p
  simp only[aH,lk,keys]at h ⊢
  cases hb:Nat.beq k i with
  |true=>rw[hb]at h;simp at h
  |false =>
   rw[hb]at h
   refine⟨(ih h).1,λhm => ?_⟩
   rcases List.mem_cons.1 hm with rfl|hm
   · simp at hb
   · exact(ih h).2 hm
def swp (id dD:Nat) (ρ:List (Nat × Nat)):List (Nat × Nat):=(id,dD) :: ρ.map λp=>(p.2,p.1)
def LM (ρ:List (Nat × Nat)) (dD id:Nat) (pre e:List (Nat × Option D)):Bool:=ρ.all λp=>(fA ρ p.1 == some p.2) && (fA (ρ.map λp=>(p.2,p.1)) p.2 == some p.1) && !(Nat.beq p.1 dD) && !(Nat.beq p.2 id) && (lk pre p.1).isSome && mem1 p.2 (keys e)
theorem Qg {gl:Nat->D} {f id dD:Nat} {args yD:List D} {pre st post e:List (Nat × Option D)} {d d0:D} (h:kT P gl f yD (lk pre) dD d0 post) (hg:∀ i,ak (gl i)) (ρ:List (Nat × Nat)) (hρ:LM ρ dD id pre e=true)
 (ha:eP ρ args yD) (hpre:mW ρ st pre) (hd:Rn (swp id dD ρ) d0 d) (hpost:mW (swp id dD ρ) (post ++ pre) e):kT P gl f args (bV (ρ.map Prod.snd) (lk st)) id d e:=by
 intro g w vs R hid hgl hvs
 have hb:∀ p∈ρ,fA ρ p.1=some p.2/\fA (ρ.map λp=>(p.2,p.1)) p.2=some p.1/\p.1≠dD/\p.2≠id/\lk pre p.1≠none/\p.2∈keys e:=by
  intro p hp
  have:=List.all_eq_true.1 hρ p hp
  simp only[Bool.and_eq_true,beq_iff_eq,Bool.not_eq_true']at this
  obtain⟨⟨⟨⟨⟨h1,h2⟩,h3⟩,h4⟩,h5⟩,h6⟩:=this
  exact⟨h1,h2,λq=>by rw[q]at h3;simp at h3,λq=>by rw[q]at h4;simp at h4,λq=>by rw[q]at h5;simp at h5,(jO _ _).1 h6⟩
 have hin:∀ i c,bV (ρ.map Prod.snd) (lk st) i=some c->(∃ k,(k,i)∈ρ)/\lk st i=some c:=by
  intro i c h
  unfold bV at h
  split at h
  · rename_i h1
    obtain⟨p,h2,h3⟩:=List.mem_map.1 ((jO _ _).1 h1)
    exact⟨⟨p.1,by rw[← h3];exact h2⟩,h⟩
  · simp at h
 have hres:∀ k j,(k,j)∈ρ->bV (ρ.map Prod.snd) (lk st) j=lk st j:=by
  intro k j hkj
  unfold bV
  rw[show mem1 j (ρ.map Prod.snd)=true from(jO _ _).2 (List.mem_map.2 ⟨(k,j),hkj,rfl⟩)]
 have inj1:∀ i j k,(i,k)∈ρ->(j,k)∈ρ->i=j:=by
  intro i j k h1 h2
  have a:=(hb _ h1).2.1
  have b:=(hb _ h2).2.1
  simp only at a b
  rw[a]at b
  simpa using b
 have inj2:∀ i j k,(k,i)∈ρ->(k,j)∈ρ->i=j:=by
  intro i j k h1 h2
  have a:=(hb _ h1).1
  have b:=(hb _ h2).1
  simp only at a b
  rw[a]at b
  simpa using b
 have hσ:app e (bV (ρ.map Prod.snd) (lk st))=lk e:=by
  funext i
  unfold app
  cases he:aH e i with
  |some x=>exact(O5 he).symm
  |none =>
   obtain⟨h1,h2⟩:=O6 he
   rw[h1]
   cases hr:bV (ρ.map Prod.snd) (lk st) i with
   |none=>rfl
   |some c =>
    obtain⟨⟨k,hk⟩,_⟩:=hin i c hr
    exact absurd (hb _ hk).2.2.2.2.2 h2
 generalize hg1:(⟨g.fm,λi=>match fA ρ i with|some j=>g.ae j|none=>none⟩:G)=g1
 have hf1:g1.fm=g.fm:=by rw[← hg1]
 have hr1:∀ p∈ρ,g1.ae p.1=g.ae p.2:=by
  intro p hp
  rw[← hg1]
  simp only[(hb p hp).1]
 have hr1':∀ i l,g1.ae i=some l->∃ j,(i,j)∈ρ/\g.ae j=some l:=by
  intro i l h
  rw[← hg1]at h
  simp only at h
  split at h
  · rename_i j hj;exact⟨j,qM hj,h⟩
  · simp at h
 have rD:∀ b c,g.fm b=some c->g1.fm b=some c:=λb c h=>by rw[hf1];exact h
 have Ck:∀ i d,lk pre i=some d->∃ j x l blk,(i,j)∈ρ/\lk st j=some x/\Has g w j x l blk/\Has g1 w i d l blk:=by
  intro i d hi
  obtain⟨j,x,h1,h2,h3,h4,h5,h6⟩:=hpre.get hi
  obtain⟨l,blk,H⟩:=R.has (i:=j) (d:=x) (by rw[hres _ _ h1];exact h2) h5
  exact⟨j,x,l,blk,h1,h2,H,⟨by rw[hr1 _ h1];exact H.ae,H.row,by rw[hf1];exact H.fm,H.len,by rw[← h4];exact H.sz,h6 l H.s,by rw[← h4];exact h3 g g1 rD hr1 _ _ H.cr⟩⟩
 have R1:Rel g1 (lk pre) w:=by
  refine⟨λb c hb=>R.fm b c (by rw[hf1]at hb;exact hb),λi d hi => ?_,λi j l m hi hj hl hm hlm => ?_⟩
  · obtain⟨_,_,l,blk,_,_,_,H⟩:=Ck i d hi
    exact⟨l,.inl ⟨blk,H⟩⟩
  · obtain⟨i',h1,h2⟩:=hr1' i l hl
    obtain⟨j',h3,h4⟩:=hr1' j m hm
    obtain⟨c1,hc1⟩:=Option.ne_none_iff_exists'.1 hi
    obtain⟨c2,hc2⟩:=Option.ne_none_iff_exists'.1 hj
    obtain⟨i2,x1,_,_,k1,k2,_,_⟩:=Ck i c1 hc1
    obtain⟨j2,x2,_,_,k3,k4,_,_⟩:=Ck j c2 hc2
    have e1:=inj2 _ _ _ h1 k1
    have e2:=inj2 _ _ _ h3 k3
    subst e1 e2
    have:=R.dj i' j' l m (by rw[hres _ _ h1,k2];simp) (by rw[hres _ _ h3,k4];simp) h2 h4 hlm
    subst this
    exact inj1 _ _ _ h1 h3
 have Tz:g1.ae dD=none:=by
  cases hx:g1.ae dD with
  |none=>rfl
  |some l =>
   obtain⟨j,h1,_⟩:=hr1' _ _ hx
   exact absurd rfl (hb _ h1).2.2.1
 refine(h g1 w vs R1 Tz (λi=>hg i g g1 rD _ _ (hgl i)) (ha.l8 rD hr1 hvs)).mono ?_
 rintro v w' ⟨k,Rk,X,V⟩
 rw[abn]at Rk X
 generalize Gc:(⟨k.fm,λi=>match fA (swp id dD ρ) i with|some j=>k.ae j|none=>g.ae i⟩:G)=k'
 have hf2:k'.fm=k.fm:=by rw[← Gc]
 have KV:∀ b c,k.fm b=some c->k'.fm b=some c:=λb c h=>by rw[hf2];exact h
 have ac7:fA (swp id dD ρ) id=some dD:=by simp[swp,fA]
 have hlk:∀ p∈ρ,fA (swp id dD ρ) p.2=some p.1:=by
  intro p hp
  obtain⟨_,h1,_,h2,_⟩:=hb p hp
  unfold swp
  rw[fA,if_neg λq=>h2 q.symm]
  exact h1
 have hr2:∀ p∈swp id dD ρ,k'.ae p.1=k.ae p.2:=by
  intro p hp
  rw[← Gc]
  unfold swp at hp
  rcases List.mem_cons.1 hp with rfl|hp
  · simp only[ac7]
  · obtain⟨q,hq,rfl⟩:=List.mem_map.1 hp
    simp only[hlk q hq]
 have hcas:∀ i l,k'.ae i=some l->(i=id/\k.ae dD=some l)\/(∃ j,(j,i)∈ρ/\k.ae j=some l)\/((∀ j,(j,i) ∉ ρ)/\g.ae i=some l):=by
  intro i l hl
  rw[← Gc]at hl
  simp only at hl
  split at hl
  · rename_i j hj
    have hm:=qM hj
    unfold swp at hm
    rcases List.mem_cons.1 hm with h1|h1
    · simp only[Prod.mk.injEq]at h1
      exact .inl ⟨h1.1,by rw[← h1.2];exact hl⟩
    · obtain⟨q,hq,h2⟩:=List.mem_map.1 h1
      simp only[Prod.mk.injEq]at h2
      obtain⟨rfl,rfl⟩:=h2
      exact .inr (.inl ⟨q.1,hq,hl⟩)
  · rename_i hn
    refine .inr (.inr ⟨λj hj => ?_,hl⟩)
    rw[hlk _ hj]at hn
    simp at hn
 have Gd:∀ i d,lk e i=some d->∃ j x l blk,(i,j)∈swp id dD ρ/\lk (post ++ pre) j=some x/\Has k w' j x l blk/\Has k' w' i d l blk:=by
  intro i d hi
  obtain⟨j,x,h1,h2,h3,h4,h5,h6⟩:=hpost.get hi
  obtain⟨l,blk,H⟩:=Rk.has h2 h5
  exact⟨j,x,l,blk,h1,h2,H,⟨by rw[hr2 _ h1];exact H.ae,H.row,by rw[hf2];exact H.fm,H.len,by rw[← h4];exact H.sz,h6 l H.s,by rw[← h4];exact h3 k k' KV hr2 _ _ H.cr⟩⟩
 have hM:∀ b,Mine g1 (lk pre) w b->Mine g (bV (ρ.map Prod.snd) (lk st)) w b:=by
  rintro b (h|⟨i,l,h1,h2,rfl⟩)
  · exact .inl h
  · obtain⟨j,h3,h4⟩:=hr1' _ _ h2
    obtain⟨c1,hc1⟩:=Option.ne_none_iff_exists'.1 h1
    obtain⟨j2,x,_,_,k1,k2,_,_⟩:=Ck i c1 hc1
    have:=inj2 _ _ _ h3 k1
    subst this
    exact .inr ⟨j,l,by rw[hres _ _ h3,k2];simp,h4,rfl⟩
 refine⟨k',?_,?_,hd k k' KV hr2 _ _ V⟩
 · rw[hσ]
   refine⟨λb c hb=>Rk.fm b c (by rw[hf2]at hb;exact hb),λi d hi => ?_,λi j l m hi hj hl hm hlm => ?_⟩
   · obtain⟨_,_,l,blk,_,_,_,H⟩:=Gd i d hi
     exact⟨l,.inl ⟨blk,H⟩⟩
   · obtain⟨c1,hc1⟩:=Option.ne_none_iff_exists'.1 hi
     obtain⟨c2,hc2⟩:=Option.ne_none_iff_exists'.1 hj
     obtain⟨i0,x1,l1,b1,h1,h2,H1,K1⟩:=Gd i c1 hc1
     obtain⟨j0,x2,l2,b2,h3,h4,H2,K2⟩:=Gd j c2 hc2
     have q1:l1=l:=by have:=K1.ae;rw[hl]at this;simpa using this.symm
     have q2:l2=m:=by have:=K2.ae;rw[hm]at this;simpa using this.symm
     subst q1 q2
     have:=Rk.dj i0 j0 _ _ (by simp[h2]) (by simp[h4]) H1.ae H2.ae hlm
     subst this
     unfold swp at h1 h3
     rcases List.mem_cons.1 h1 with a|a <;> rcases List.mem_cons.1 h3 with b|b
     · simp only[Prod.mk.injEq]at a b
       rw[a.1,b.1]
     · simp only[Prod.mk.injEq]at a
       obtain⟨q,hq,hb'⟩:=List.mem_map.1 b
       simp only[Prod.mk.injEq]at hb'
       exact absurd (hb'.2.trans a.2) (hb _ hq).2.2.1
     · simp only[Prod.mk.injEq]at b
       obtain⟨q,hq,hb'⟩:=List.mem_map.1 a
       simp only[Prod.mk.injEq]at hb'
       exact absurd (hb'.2.trans b.2) (hb _ hq).2.2.1
     · obtain⟨p,hp,ha'⟩:=List.mem_map.1 a
       obtain⟨q,hq,hb'⟩:=List.mem_map.1 b
       simp only[Prod.mk.injEq]at ha' hb'
       obtain⟨rfl,rfl⟩:=ha'
       obtain⟨rfl,h9⟩:=hb'
       have hq':(p.1,q.2)∈ρ:=by rw[← h9];exact hq
       exact inj2 _ _ _ hp hq'
 · rw[hσ]
   refine⟨⟨λb c hb=>KV _ _ (X.le.fm _ _ (rD b c hb)),λi l hi => ?_⟩,X.hp,λb hb=>X.fr b λh=>hb (hM b h),λb hb => ?_,λi l hi => ?_,λi hi => ?_,X.sm⟩
   · rw[← Gc]
     simp only
     split
     · rename_i j hj
       have hm:=qM hj
       unfold swp at hm
       rcases List.mem_cons.1 hm with h1|h1
       · simp only[Prod.mk.injEq]at h1
         rw[h1.1,hid]at hi;simp at hi
       · obtain⟨q,hq,h2⟩:=List.mem_map.1 h1
         simp only[Prod.mk.injEq]at h2
         obtain⟨rfl,rfl⟩:=h2
         exact X.le.ae _ _ (by rw[hr1 q hq];exact hi)
     · exact hi
   · rcases X.jv b (by rw[hf2]at hb;exact hb)with h|h
     · exact .inl (by rw[hf1]at h;exact h)
     · exact .inr (hM b h)
   · rcases hcas i l hi with⟨rfl,h1⟩|⟨j,h1,h2⟩|⟨h1,h2⟩
     · rcases X.rn _ _ h1 with h|h
       · rw[Tz]at h;simp at h
       · exact .inr ⟨hM _ h.1,rfl⟩
     · rcases X.rn _ _ h2 with h|h
       · left
         rw[hr1 _ h1]at h;exact h
       · exact absurd h.2 (hb _ h1).2.2.1
     · exact .inl h2
   · obtain⟨c,hc⟩:=Option.ne_none_iff_exists'.1 hi
     obtain⟨j,x,_,_,h1,h2,_,_⟩:=Gd i c hc
     unfold swp at h1
     rcases List.mem_cons.1 h1 with a|a
     · simp only[Prod.mk.injEq]at a
       exact .inr a.1
     · obtain⟨q,hq,h3⟩:=List.mem_map.1 a
       simp only[Prod.mk.injEq]at h3
       obtain⟨rfl,rfl⟩:=h3
       obtain⟨c1,hc1⟩:=Option.ne_none_iff_exists'.1 (hb _ hq).2.2.2.2.1
       obtain⟨j2,x1,_,_,k1,k2,_,_⟩:=Ck _ c1 hc1
       have:=inj2 _ _ _ hq k1
       left
       rw[hres _ _ hq,this,k2];simp
end
end Go.Proofs.YtadecgbblajifaaGreatDoor.DV
namespace Go.Proofs.YtadecgbblajifaaGreatDoor
end Go.Proofs.YtadecgbblajifaaGreatDoor
