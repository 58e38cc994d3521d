import Derived.Test.YtadecgbblajifaaGreatDoorE03
set_option linter.unusedSimpArgs false
set_option linter.unusedVariables false
set_option maxRecDepth 100000
set_option maxHeartbeats 25600000
namespace Go.Proofs.YtadecgbblajifaaGreatDoor
end Go.Proofs.YtadecgbblajifaaGreatDoor
namespace Go.Proofs.YtadecgbblajifaaGreatDoor.DV
open Go
variable {P:Program}
def bnd (o:Option D) (n:Nat):Option Nat:=match o with
 |none=>some n
 |some d=>mU d
theorem AQ {g:G} {d:D} {n y:Nat} {v:Value} {c:BoundsCode} (h:mU d=some n) (H:VR g d v) (hn:n<=y) (w:World):(Instr.sliceBound v y c).run P w = .ok n w:=by
 obtain⟨k,rfl⟩:=xX h H
 simp[Instr.sliceBound,asIntOf,hn]
def pg (n:Nat) (lo hi mx:Option D):Option (Nat × Nat × Option Nat):=match bnd lo 0,bnd hi n with
 |some l,some h=>match mx with
  |none=>if Nat.ble l h && Nat.ble h n then some (l,h,none)else none
  |some d=>match mU d,hi with
   |some m,some _=>if Nat.ble l h && Nat.ble h m && Nat.ble m n then some (l,h,some m)else none
   |_,_=>none
 |_,_=>none
theorem Hw {g:G} {a:Act} {get:Operand->D} (H:∀ x,VR g (get x) (a.eval x)) {b:Bool} {n c l h:Nat} {mx:Option Nat} {lo hi mo:Option Operand} (hc:n<=c)
 (e:pg n (lo.map get) (hi.map get) (mo.map get)=some (l,h,mx)) (w:World) :
 (Instr.sliceBounds b n c (lo.map a.eval) (hi.map a.eval) (mo.map a.eval)).run P w = .ok (l,h,mx.getD c) w/\l<=h/\h<=n/\(∀ m,mx=some m->h<=m/\m<=n)/\(mo=none->mx=none):=by
 unfold pg at e
 split at e
 case h_2=>simp at e
 rename_i l' h' hl hh
 cases mo with
 |none =>
  simp only[Option.map_none]at e
  split at e
  case isFalse=>simp at e
  rename_i hb
  simp only[Option.some.injEq,Prod.mk.injEq]at e
  obtain⟨rfl,rfl,rfl⟩:=e
  simp only[Bool.and_eq_true]at hb
  have h1:=Nat.le_of_ble_eq_true hb.1
  have h2:=Nat.le_of_ble_eq_true hb.2
  refine⟨?_,h1,h2,by simp,λ_=>rfl⟩
  have hH:(match (hi.map a.eval),(none:Option Value)with
   |some v,some _=>Instr.sliceBound v c .slice3B
   |some v,none=>Instr.sliceBound v c (if b then .sliceAcap else .sliceAlen)
   |none,none=>pure n
   |none, some _ => stuck "Slice: max without high" : Sem Nat).run P w = .ok h' w := by
   cases hi with
   |none=>simp only[bnd,Option.map_none,Option.some.injEq]at hh;subst hh;rfl
   |some x=>exact AQ hh (H x) (by omega) w
  have hL:(match (lo.map a.eval)with
   |some v=>Instr.sliceBound v h' .sliceB
   |none=>pure 0:Sem Nat).run P w = .ok l' w:=by
   cases lo with
   |none=>simp only[bnd,Option.map_none,Option.some.injEq]at hl;subst hl;rfl
   |some x=>exact AQ hl (H x) h1 w
  cases hi <;> cases lo <;> simp_all [Instr.sliceBounds]
 |some mo =>
  simp only[Option.map_some]at e
  split at e
  case h_2=>simp at e
  rename_i m x hm hx
  split at e
  case isFalse=>simp at e
  rename_i hb
  simp only[Option.some.injEq,Prod.mk.injEq]at e
  obtain⟨rfl,rfl,rfl⟩:=e
  simp only[Bool.and_eq_true]at hb
  have h1:=Nat.le_of_ble_eq_true hb.1.1
  have h2:=Nat.le_of_ble_eq_true hb.1.2
  have h3:=Nat.le_of_ble_eq_true hb.2
  refine⟨?_,h1,by omega,by rintro _ ⟨⟩;exact⟨h2,h3⟩,by simp⟩
  cases hi with
  |none=>simp at hx
  |some hi =>
   have e1:=AQ (P:=P) (c:=if b then .slice3Acap else .slice3Alen) hm (H mo) (Nat.le_trans h3 hc) w
   have e2:=AQ (P:=P) (c := .slice3B) hh (H hi) h2 w
   cases lo with
   |none =>
    simp only[bnd,Option.map_none,Option.some.injEq]at hl
    subst hl
    simp[Instr.sliceBounds,e1,e2]
   |some lo =>
    have e3:=AQ (P:=P) (c := .slice3C) hl (H lo) h1 w
    simp[Instr.sliceBounds,e1,e2,e3]
def Ja (y:Ty) (σ:au) (x:D) (lo hi mx:Option D):Option D:=match y.k with
 |.str=>match x with
  |.lf (.string s)=>match pg s.size lo hi mx with
   |some (l,h,none)=>some (.lf (.string (s.extract l h)))
   |_=>none
  |_=>none
 |.sl _ s=>match x with
  |.own tt i off n=>match σ i with
   |some (.ar s' _)=>if Nat.beq s s' then match pg n lo hi mx with
    |some (l,h,none)=>some (.own (tt && Nat.beq h n) i (off+l) (h - l))
    |some (l,h,some m)=>if Nat.beq m l then some .e0 else some (.own (Nat.beq m h) i (off+l) (h - l))
    |none=>none else none
   |_=>none
  |.sl tt s' xs=>if Nat.beq s s' then match pg xs.length lo hi mx with
   |some (l,h,none)=>some (.sl (tt && Nat.beq h xs.length) s ((xs.drop l).take (h - l)))
   |some (l,h,some m)=>some (.sl (Nat.beq m h) s ((xs.drop l).take (h - l)))
   |none=>none else none
  |.e0=>match pg 0 lo hi mx with
   |some _=>some .e0
   |none=>none
  |.lf (.slice none 0 0)=>match pg 0 lo hi mx with
   |some _=>some (.lf (.slice none 0 0))
   |none=>none
  |_=>none
 |.ar n _ s=>match x with
  |.ref i []=>match σ i with
   |some (.ar s' ds)=>match Nat.beq s s' && Nat.ble n ds.length with
    |true=>match pg n lo hi mx with
     |some (l,h,mm)=>match Nat.beq (mm.getD n) l with
      |true=>some .e0
      |false=>some (.own (Nat.beq (mm.getD n) h) i l (h - l))
     |none=>none
    |false=>none
   |_=>none
  |_=>none
 |_=>none
theorem xN {g:G} {s:Nat} : ∀ (k:Nat) (xs:List D) (cs:List Value),aj g (List.replicate xs.length s) xs cs->aj g (List.replicate (xs.drop k).length s) (xs.drop k) (cs.drop (k * s))
 |0,xs,cs,H=>by simpa using H
 |k+1,[],cs,H=>by
  simp only[List.length_nil,List.replicate_zero,aj]at H
  subst H
  simp[aj]
 |k+1,x :: xs,cs,H=>by
  simp only[List.length_cons,List.replicate_succ,aj]at H
  have:=xN k xs _ H.2.2
  rw[List.drop_drop]at this
  rw[List.drop_succ_cons,Nat.succ_mul,Nat.add_comm (k * s) s]
  exact this
theorem xO {g:G} {s:Nat} : ∀ (k:Nat) (xs:List D) (cs:List Value),aj g (List.replicate xs.length s) xs cs->aj g (List.replicate (xs.take k).length s) (xs.take k) (cs.take ((xs.take k).length * s))
 |0,xs,cs,H=>by simp[aj]
 |k+1,[],cs,H=>by simp[aj]
 |k+1,x :: xs,cs,H=>by
  simp only[List.length_cons,List.replicate_succ,aj]at H
  have:=xO k xs _ H.2.2
  simp only[List.take_succ_cons,List.length_cons,List.replicate_succ,aj,Nat.succ_mul]
  refine⟨by simp;omega,?_,?_⟩
  · rw[List.take_take,Nat.min_eq_left (by omega)]
    exact H.2.1
  · rw[List.drop_take,Nat.add_sub_cancel]
    exact this
theorem X7 {y:Ty} {g:G} {σ:au} {w:World} {N:Nat->Prop} {a:Act} {o:Oper} {t:Nat} {x:Operand} {lo hi mx:Option Operand} {get:Operand->D} {d:D} (hy:aW P t y) (ho:o.op = .slice t x lo hi mx)
 (h:Ja y σ (get x) (lo.map get) (hi.map get) (mx.map get)=some d) (R:Rel g σ w) (H:∀ x,VR g (get x) (a.eval x)):Does P o a w (Out g σ w N d []):=by
 unfold Ja at h
 obtain⟨u,hu,-,hk⟩:=hy.und
 have hx:=H x
 split at h
 · rename_i hf
   rw[hf]at hk
   cases u <;> simp only[bz]at hk
   split at h
   case h_2=>simp at h
   rename_i s hs
   rw[hs]at hx
   have hx:=dh hx
   split at h
   case h_2=>simp at h
   rename_i l k he
   simp only[Option.some.injEq]at h
   subst h
   have h1:=Hw (P:=P) H (b:=false) (Nat.le_refl _) he w
   have hm:mx=none:=by
    cases mx with
    |none=>rfl
    |some m =>
     unfold pg at he
     split at he
     · simp only[Option.map_some]at he
       split at he
       · split at he <;> simp at he
       · simp at he
     · simp at he
   subst hm
   refine Does.val (w':=w) ?_ (Out.pure R (fF _ _))
   have h2:=h1.1
   simp only[Option.map_none]at h2
   simp[execOp,ho,hx,Instr.sliceAt,Instr.slice,run_underlying hu,h2]
 · rename_i el s hf
   rw[hf]at hk
   cases u <;> simp only[bz]at hk
   obtain⟨rfl,hs,hs0⟩:=hk
   rename_i el
   have run:∀ ad n c l h mm,n<=c->a.eval x = .slice ad n c->pg n (lo.map get) (hi.map get) (mx.map get)=some (l,h,mm) ->
    (execOp a.eval o).run P w = .ok (.value (.slice (if mm.getD c=l then ad else ad.map (·.add (l * s))) (h - l) (mm.getD c - l))) w/\l<=h/\h<=n/\(∀ m,mm=some m->h<=m/\m<=n):=by
    intro ad n c l h mm hn hx he
    have h1:=Hw (P:=P) H (b:=true) hn he w
    refine⟨?_,h1.2.1,h1.2.2.1,h1.2.2.2.1⟩
    simp[execOp,ho,hx,Instr.sliceAt,Instr.slice,run_underlying hu,h1.1,ji hs]
   split at h
   · rename_i tt i off n hd
     rw[hd]at hx
     simp only[VR,CR,List.cons.injEq,and_true]at hx
     obtain⟨l',ad,c,hl',hx,hnc,hor⟩:=hx
     split at h
     case h_2=>simp at h
     rename_i s' ds hσ
     split at h
     case isFalse=>simp at h
     rename_i hb
     have hss:=Nat.eq_of_beq_eq_true hb
     subst hss
     obtain⟨l2,blk,HH⟩:=R.has hσ rfl
     have:l'=l2:=by have:=HH.ae;rw[hl']at this;simpa using this
     subst this
     have hls:l'.s=s:=HH.s
     have own:∀ l h mm (tg:Bool),(tg=true->mm=h)->(execOp a.eval o).run P w = .ok (.value (.slice (if mm=l then some ad else(some ad).map (·.add (l * s))) (h - l) (mm - l))) w->l<=h->h<=n->h<=mm->mm<=c->Does P o a w (Out g σ w N (.own tg i (off+l) (h - l)) []):=by
      intro l h mm tg wW hr h1 h2 h3 h4
      refine Does.val (w':=w) hr (Out.pure R ?_)
      simp only[VR,CR]
      by_cases hm:mm=l
      · simp only[hm,if_true,Nat.sub_self]
        exact⟨l',_,0,hl',rfl,⟨by omega,λ_=>by omega⟩,.inl rfl⟩
      · simp only[hm,if_false,Option.map_some]
        have EW:=hnc.1
        refine⟨l',_,mm - l,hl',rfl,⟨by omega,λht=>by rw[wW ht]⟩,.inr ?_⟩
        rcases hor with rfl|⟨rfl,h5⟩
        · omega
        · rw[nI,hls,Nat.add_mul,← Nat.add_assoc]
          refine⟨rfl,?_⟩
          rw[hls]at h5
          refine Nat.le_trans (Nat.mul_le_mul_right s ?_) h5
          omega
     split at h
     · rename_i l k he
       simp only[Option.some.injEq]at h
       subst h
       have h1:=run _ _ _ _ _ _ hnc.1 hx he
       have EW:=hnc.1
       exact own l k c _ (λht=>by simp only[Bool.and_eq_true]at ht;rw[Nat.eq_of_beq_eq_true ht.2];exact hnc.2 ht.1) h1.1 h1.2.1 h1.2.2.1 (by omega) (Nat.le_refl _)
     · rename_i l k m he
       have h1:=run _ _ _ _ _ _ hnc.1 hx he
       have h2:=h1.2.2.2 m rfl
       split at h
       · rename_i hm
         have hm:=Nat.eq_of_beq_eq_true hm
         simp only[Option.some.injEq]at h
         subst h hm
         refine Does.val (w':=w) h1.1 (Out.pure R ?_)
         have:k - m=0:=by omega
         simp only[VR,CR,Option.getD_some,if_true,this,Nat.sub_self]
         exact⟨ad,rfl⟩
       · simp only[Option.some.injEq]at h
         subst h
         have EW:=hnc.1
         exact own l k m _ (λht=>Nat.eq_of_beq_eq_true ht) h1.1 h1.2.1 h1.2.2.1 h2.1 (by omega)
     · simp at h
   · rename_i tt s' xs hd
     rw[hd]at hx
     simp only[VR,CR,List.cons.injEq,and_true]at hx
     obtain⟨ad,c,hx,hnc,hor⟩:=hx
     split at h
     case isFalse=>simp at h
     rename_i hb
     have hss:=Nat.eq_of_beq_eq_true hb
     subst hss
     have sub:∀ l h mm (tg:Bool),(tg=true->mm=h)->(execOp a.eval o).run P w = .ok (.value (.slice (if mm=l then ad else ad.map (·.add (l * s))) (h - l) (mm - l))) w->l<=h->h<=xs.length->h<=mm->mm<=c->Does P o a w (Out g σ w N (.sl tg s ((xs.drop l).take (h - l))) []):=by
      intro l h mm tg wW hr h1 h2 h3 hmc
      refine Does.val (w':=w) hr (Out.pure R ?_)
      have hlen:((xs.drop l).take (h - l)).length=h - l:=by simp;omega
      simp only[VR,CR,hlen]
      by_cases hmm:mm=l
      · have h4:h - l=0:=by omega
        simp only[hmm,if_true,Nat.sub_self,h4]
        exact⟨ad,0,rfl,⟨Nat.le_refl _,λ_=>rfl⟩,.inl (by simp)⟩
      · simp only[hmm,if_false]
        refine⟨_,mm - l,rfl,⟨by omega,λht=>by rw[wW ht]⟩,?_⟩
        rcases hor with rfl|⟨b,of,blk,rfl,hm,hl,hcr⟩
        · exact .inl (by simp)
        simp only[Option.map_some,nI]
        have hle:l * s+(h - l) * s=h * s:=by rw[← Nat.add_mul];congr 1;omega
        have hle2:h * s<=xs.length * s:=Nat.mul_le_mul_right s h2
        refine .inr ⟨b,of+l * s,blk,rfl,hm,by omega,?_⟩
        have e1:=xO (h - l) _ _ (xN l xs _ hcr)
        rw[hlen]at e1
        have e2:=DT blk of (xs.length * s) (l * s) ((h - l) * s) (by omega)
        rw[show(List.drop of blk).take (xs.length * s)=bu blk of (xs.length * s)from rfl,e2]at e1
        exact e1
     split at h
     · rename_i l k he
       simp only[Option.some.injEq]at h
       subst h
       have h1:=run _ _ _ _ _ _ hnc.1 hx he
       have EW:=hnc.1
       exact sub l k c _ (λht=>by simp only[Bool.and_eq_true]at ht;rw[Nat.eq_of_beq_eq_true ht.2];exact hnc.2 ht.1) h1.1 h1.2.1 h1.2.2.1 (by omega) (Nat.le_refl _)
     · rename_i l k m he
       have h1:=run _ _ _ _ _ _ hnc.1 hx he
       have h2:=h1.2.2.2 m rfl
       simp only[Option.some.injEq]at h
       subst h
       have EW:=hnc.1
       exact sub l k m _ (λht=>Nat.eq_of_beq_eq_true ht) h1.1 h1.2.1 h1.2.2.1 h2.1 (by omega)
     · simp at h
   · rename_i hd
     rw[hd]at hx
     simp only[VR,CR,List.cons.injEq,and_true]at hx
     obtain⟨b,hx⟩:=hx
     split at h
     case h_2=>simp at h
     rename_i p he
     obtain⟨l,k,mm⟩:=p
     simp only[Option.some.injEq]at h
     subst h
     have h1:=run _ _ _ _ _ _ (Nat.le_refl 0) hx he
     refine Does.val (w':=w) h1.1 (Out.pure R ?_)
     have hm0:mm.getD 0=0:=by
      cases mm with
      |none=>rfl
      |some m=>have:=h1.2.2.2 m rfl;simp;omega
     have hl0:l=0:=by omega
     have hk0:k=0:=by omega
     simp only[VR,CR,hm0,hl0,hk0,if_true,Nat.sub_self]
     exact⟨b,rfl⟩
   · rename_i hd
     rw[hd]at hx
     have hx:=dh hx
     split at h
     case h_2=>simp at h
     rename_i p he
     obtain⟨l,k,mm⟩:=p
     simp only[Option.some.injEq]at h
     subst h
     have h1:=run _ _ _ _ _ _ (Nat.le_refl 0) hx he
     refine Does.val (w':=w) h1.1 (Out.pure R ?_)
     have hm0:mm.getD 0=0:=by
      cases mm with
      |none=>rfl
      |some m=>have:=h1.2.2.2 m rfl;simp;omega
     have hl0:l=0:=by omega
     have hk0:k=0:=by omega
     simp only[hm0,hl0,hk0,if_true,Nat.sub_self]
     exact fF _ _
   · simp at h
 · rename_i n el s hf
   rw[hf]at hk
   cases u <;> simp only[bz]at hk
   obtain⟨hn0,rfl,hs,hs0⟩:=hk
   subst hn0
   rename_i n _
   split at h
   case h_2=>simp at h
   rename_i i hd
   split at h
   case h_2=>simp at h
   rename_i s' ds hσ
   split at h
   case h_2=>simp at h
   rename_i hb
   simp only[Bool.and_eq_true]at hb
   have hss:=Nat.eq_of_beq_eq_true hb.1
   have hnl:=Nat.le_of_ble_eq_true hb.2
   subst hss
   split at h
   case h_2=>simp at h
   rename_i l k mm he
   rw[hd]at hx
   simp only[VR,CR,List.cons.injEq,and_true,dI,Nat.add_zero]at hx
   obtain⟨l',hl',hx⟩:=hx
   obtain⟨l2,blk,HH⟩:=R.has hσ rfl
   have:l'=l2:=by have:=HH.ae;rw[hl']at this;simpa using this
   subst this
   have hls:l'.s=s:=HH.s
   have hsz:=HH.sz
   simp only[sz]at hsz
   have h1:=Hw (P:=P) H (b:=false) (Nat.le_refl n) he w
   have h2:k<=mm.getD n/\mm.getD n<=n:=by
    cases mm with
    |none=>simpa using h1.2.2.1
    |some m=>exact h1.2.2.2.1 m rfl
   have hrun:(execOp a.eval o).run P w = .ok (.value (.slice (some (if mm.getD n=l then(⟨l'.b,l'.o,none⟩:Addr)else(⟨l'.b,l'.o,none⟩:Addr).add (l * s))) (k - l) (mm.getD n - l))) w:=by
    simp[execOp,ho,hx,Instr.sliceAt,Instr.sureAddr,run_underlying hu,h1.1,ji hs]
   refine Does.val (w':=w) hrun ?_
   split at h
   · rename_i hm
     have hm:=Nat.eq_of_beq_eq_true hm
     simp only[Option.some.injEq]at h
     subst h
     refine Out.pure R ?_
     have:k - l=0:=by omega
     simp only[VR,CR,hm,if_true,this,Nat.sub_self]
     exact⟨_,rfl⟩
   · rename_i hm
     have hm:mm.getD n≠l:=λh=>by rw[h]at hm;simp at hm
     simp only[Option.some.injEq]at h
     subst h
     refine Out.pure R ?_
     simp only[VR,CR,hm,if_false]
     refine⟨l',_,mm.getD n - l,hl',rfl,⟨by omega,λht=>by rw[Nat.eq_of_beq_eq_true ht]⟩,.inr ?_⟩
     rw[nI,hls]
     refine⟨rfl,Nat.le_trans (Nat.mul_le_mul_right s ?_) hsz⟩
     omega
 · simp at h
end Go.Proofs.YtadecgbblajifaaGreatDoor.DV
namespace Go.Proofs.YtadecgbblajifaaGreatDoor
end Go.Proofs.YtadecgbblajifaaGreatDoor
namespace Go.Proofs.YtadecgbblajifaaGreatDoor.DV
open Go
variable {P:Program}
theorem OQ {α β:Type} {f:α->Sem β} {h:α->β} {w:World} : ∀ l:List α,(∀ x∈l,(f x).run P w = .ok (h x) w)->(l.mapM f).run P w = .ok (l.map h) w
 | [],_=>rfl
 |x :: l,H=>by
  rw[List.mapM_cons]
  simp[H x (by simp),OQ l λy hy=>H y (by simp[hy])]
theorem Nj (off:Nat):∀ (l:List Value) (i:Nat) (cs:Array Value),off+i+l.length<=cs.size ->
 (l.zipIdx i).foldl (λcs (c,j)=>cs.setIfInBounds (off+j) c) cs=⟨splice cs.toList (off+i) l⟩
 | [],i,cs,_=>by simp[splice]
 |v :: l,i,cs,h=>by
  simp only[List.length_cons]at h
  rw[List.zipIdx_cons,List.foldl_cons,Nj off l (i+1) _ (by simp;omega)]
  congr 1
  simp only[splice,Array.toList_setIfInBounds,List.length_cons]
  have e1:List.take (off+(i+1)) (cs.toList.set (off+i) v)=List.take (off+i) cs.toList ++ [v]:=by
   rw[show off+(i+1)=off+i+1 by omega,List.take_add_one,List.take_set_of_le (by omega)]
   have:off+i<cs.size:=by omega
   simp[this]
  rw[e1,List.drop_set_of_lt (by omega)]
  simp[show off+(i+1)+l.length=off+i+(l.length+1) by omega]
theorem YM {place:Nat->Option (Nat × Nat)} {cells:Array Value} {i off s:Nat} {v:Value} {rest:List (Nat × Value)} (h1:place i=some (off,s)) (h2:v.cells.size=s) (h3:off+s<=cells.size) :
 Instr.fill place cells ((i,v) :: rest)=Instr.fill place ⟨splice cells.toList off v.cells.toList⟩ rest:=by
 rw[Instr.fill]
 simp only[h1,h2]
 have h4:¬ (off+s > cells.size):=by omega
 have key:v.cells.zipIdx.foldl (λcs (c,j)=>cs.setIfInBounds (off+j) c) cells=⟨splice cells.toList off v.cells.toList⟩:=by
  rw[← Array.foldl_toList,Array.toList_zipIdx]
  simpa using Nj off v.cells.toList 0 cells (by simp;omega)
 simp only[ne_eq,not_true_eq_false,decide_false,Bool.false_or,h4]
 exact congrArg (λc=>Instr.fill place c rest) key
def vo (at_:Nat->Option (Nat × Nat)):D->List (Nat × D)->Option D
 |c,[]=>some c
 |c,(i,x) :: l=>match at_ i with
  |some (o,s)=>match gX x && Nat.beq (sz x) s with
   |true=>match put c [(i,o)] x with
    |some c'=>vo at_ c' l
    |none=>none
   |false=>none
  |none=>none
theorem Dl {g:G} {at_:Nat->Option (Nat × Nat)} {a:Act} {get:Operand->D} (H:∀ x,VR g (get x) (a.eval x)):∀ (l:List (Nat × Operand)) (c d:D) (cs:List Value),CR g false c cs->vo at_ c (l.map λp=>(p.1,get p.2))=some d ->
 ∃ ds,Instr.fill at_ ⟨cs⟩ (l.map λp=>(p.1,a.eval p.2))=some ⟨ds⟩/\CR g false d ds/\sz d=sz c/\mR d=mR c/\∀ s l,c = .ar s l->∃ m,d = .ar s m
 | [],c,d,cs,hc,h=>by
  simp only[List.map_nil,vo,Option.some.injEq]at h
  subst h
  exact⟨cs,rfl,hc,rfl,rfl,λs l h=>⟨l,h⟩⟩
 |(i,x) :: l,c,d,cs,hc,h=>by
  simp only[List.map_cons,vo]at h
  split at h
  case h_2=>simp at h
  rename_i o s hat
  split at h
  case h_2=>simp at h
  rename_i hb
  simp only[Bool.and_eq_true]at hb
  have hs:=Nat.eq_of_beq_eq_true hb.2
  split at h
  case h_2=>simp at h
  rename_i c' hp
  have hx:=wU (H x) hb.1
  have hxl:=(CR.len _ _ hx).1
  have h1:=Jj _ _ hx _ _ _ _ hc hp
  simp only[dI,Nat.add_zero]at h1
  obtain⟨ds,h2,h3,h4,h5,h6⟩:=Dl H l c' d _ h1.1 h
  have h7:(a.eval x).cells.size=s:=by rw[← hs,← hxl];simp
  refine⟨ds,?_,h3,by rw[h4];exact h1.2.1,?_,?_⟩
  · rw[List.map_cons,YM hat h7 (by have:=h1.2.2;rw[hxl,hs]at this;simpa using this)]
    exact h2
  · rw[h5]
    simp only[put]at hp
    split at hp
    · split at hp
      · simp only[Option.some.injEq]at hp
        subst hp
        cases c <;> rfl
      · simp at hp
    · simp at hp
  · rintro s' m rfl
    simp only[put]at hp
    split at hp
    · split at hp
      · simp only[Option.some.injEq]at hp
        subst hp
        exact h6 _ _ rfl
      · simp at hp
    · simp at hp
def Jb (y:Ty) (l:List (Nat × D)):Option D:=match gX y.zero && mR y.zero with
 |true=>match y.k with
  |.st fl=>vo (λi=>(fl[i]?).map λx=>(x.1,x.2.1)) y.zero l
  |.ar _ _ s=>vo (λi=>some (i * s,s)) y.zero l
  |_=>none
 |false=>none
theorem QM {g:G} {d:D} {cs:List Value} (h:CR g false d cs) (ha:mR d=true):VR g d (.agg ⟨cs⟩):=by
 obtain⟨v,h1,h2,_⟩:=FU h
 rcases h2 with⟨_,rfl⟩|⟨h3,_⟩
 · exact h1
 · rw[ha]at h3;simp at h3
theorem PH:∀ (l:List Field) (m:List (Nat × Nat × Bool)),oD P l m->∀ k:Nat,(l[k]?).map (λ(f:Field)=>(f.offset,P.cellsOf f.type))=(m[k]?).map λ(x:Nat × Nat × Bool)=>(x.1,x.2.1)
 | [],[],_,k=>by simp
 |a :: l,b :: m,H,0=>by
  obtain⟨i,h1,h2⟩:=H.2.1
  simp[H.1,Program.cellsOf,h1,h2]
 |a :: l,b :: m,H,k+1=>by simpa using PH l m H.2.2.2.2 k
 | [],_ :: _,H,_=>by simp[oD]at H
 |_ :: _,[],H,_=>by simp[oD]at H
theorem QN:∀ (l:List Field) (m:List (Nat × Nat × Bool)),oD P l m->∀ f∈l,mQ P f.type (P.cellsOf f.type)
 | [],_,_,f,h=>by simp at h
 |a :: l,b :: m,H,f,h=>by
  rcases List.mem_cons.1 h with rfl|h
  · obtain⟨i,h1,h2⟩:=H.2.1
    exact⟨i,h1,by simp[Program.cellsOf,h1]⟩
  · exact QN l m H.2.2.2.2 f h
 |_ :: _,[],H,_,_=>by simp[oD]at H
theorem X8 {y:Ty} {g:G} {σ:au} {w:World} {N:Nat->Prop} {a:Act} {o:Oper} {t:Nat} {parts:Array (Nat × Operand)} {get:Operand->D} {d:D} (hy:aW P t y) (ho:o.op = .build t parts)
 (h:Jb y (parts.toList.map λp=>(p.1,get p.2))=some d) (R:Rel g σ w) (H:∀ x,VR g (get x) (a.eval x)):Does P o a w (Out g σ w N d []):=by
 unfold Jb at h
 obtain⟨u,hu,-,hk⟩:=hy.und
 obtain⟨z,hz,hv⟩:=hy.zero
 split at h
 case h_2=>simp at h
 rename_i hb
 simp only[Bool.and_eq_true]at hb
 have hc:=wU (hv g) hb.1
 have e1:(parts.map λ(x:Nat × Operand)=>(x.1,a.eval x.2)).toList=parts.toList.map λp=>(p.1,a.eval p.2):=by simp
 split at h
 · rename_i fl hf
   rw[hf]at hk
   cases u <;> simp only[bz]at hk
   rename_i fields
   obtain⟨ds,h1,h2,h3,h4,_⟩:=Dl H _ _ _ _ hc h
   refine Does.val (v := .agg ⟨ds⟩) (w':=w) ?_ (Out.pure R (QM h2 (by rw[h4];exact hb.2)))
   have hm:(fields.mapM λ(f:Field)=>(do pure (f.offset,← sizeOf f.type):Sem (Nat × Nat))).run P w = .ok (fields.map λf=>(f.offset,P.cellsOf f.type)) w:=by
    rw[Array.mapM_eq_mapM_toList,Sem.run_map,OQ (h:=λf=>(f.offset,P.cellsOf f.type)) _ λf hf=>by simp[ji (QN _ _ hk f hf)]]
    simp only[Result.andThen_ok]
    congr 1
    apply Array.ext';simp
   have hp:((fields.map λf=>(f.offset,P.cellsOf f.type))[·]?)=λ(i:Nat)=>(fl[i]?).map λ(x:Nat × Nat × Bool)=>(x.1,x.2.1):=by
    funext i
    rw[← PH _ _ hk i]
    simp
   have h1':Instr.fill (λi=>(fl[i]?).map λx=>(x.1,x.2.1)) z.cells (parts.toList.map λp=>(p.1,a.eval p.2))=some ⟨ds⟩:=h1
   simp only[execOp,ho,Instr.build,Sem.run_bind,hz,Result.andThen_ok,run_underlying hu,hm,hp,e1,h1',Sem.run_pure]
 · rename_i n el s hf
   rw[hf]at hk
   cases u <;> simp only[bz]at hk
   obtain⟨hn,rfl,hs,_⟩:=hk
   obtain⟨ds,h1,h2,h3,h4,_⟩:=Dl H _ _ _ _ hc h
   refine Does.val (v := .agg ⟨ds⟩) (w':=w) ?_ (Out.pure R (QM h2 (by rw[h4];exact hb.2)))
   have h1':Instr.fill (λi=>some (i * s,s)) z.cells (parts.toList.map λp=>(p.1,a.eval p.2))=some ⟨ds⟩:=h1
   simp only[execOp,ho,Instr.build,Sem.run_bind,hz,Result.andThen_ok,run_underlying hu,ji hs,e1,h1',Sem.run_pure]
 · simp at h
theorem Jm {g:G} {d:D} {cs:List Value} {s:Nat} (h:CR g false d cs) (hs:cs.length=s):∀ n,aj g (List.replicate n s) (List.replicate n d) (List.replicate n cs).flatten
 |0=>by simp[aj]
 |n+1=>by
  simp only[List.replicate_succ,aj,List.flatten_cons]
  refine⟨by simp[hs],?_,?_⟩
  · rw[← hs,List.take_left']
    · exact h
    · rfl
  · rw[← hs,List.drop_left']
    · rw[hs];exact Jm h hs n
    · rfl
theorem NW {cs:List Value} (n:Nat):((Array.range (n * cs.length)).map λi=>(⟨cs⟩:Array Value)[i % cs.length]!)=⟨(List.replicate n cs).flatten⟩:=by
 apply Array.ext'
 simp only[Array.toList_map,Array.toList_range]
 induction n with
 |zero=>simp
 |succ n ih =>
  rw[Nat.succ_mul,Nat.add_comm (n * cs.length),List.range_add,List.map_append,List.map_map,List.replicate_succ,List.flatten_cons]
  congr 1
  · apply List.ext_getElem?
    intro i
    simp only[List.getElem?_map]
    by_cases hi:i<cs.length
    · simp[hi,Nat.mod_eq_of_lt hi]
    · simp[hi]
  · rw[← ih]
    apply List.map_congr_left
    intro i _
    simp
theorem ND {g:G} {σ:au} {w:World} {n e s len cap:Nat} {tg:Bool} {ds:List D} {cs rest:List Value} (R:Rel g σ w) (hn:g.ae n=none) (hc:CR g false (.ar s ds) cs) (hl:len<=cap) (wW:tg=true->cap=len) (hr:cap * s<=(cs ++ rest).length) :
 ∃ w',(newRow e ⟨cs ++ rest⟩).run P w = .ok ⟨w.heap.size,0,none⟩ w'/\Out g σ w (· = n) (.own tg n 0 len) [(n,some (.ar s ds))] (.slice (some ⟨w.heap.size,0,none⟩) len cap) w':=by
 refine⟨_,rfl,?_⟩
 have hcl:=(CR.len _ _ hc).1
 refine Out.new (d := .ar s ds) s R hn (OM w (cs ++ rest) e) (λb hb=>by simp[Array.getElem?_push,Nat.ne_of_lt hb]) (by simp) (by simp;omega) (by rw[← hcl,List.take_left'];exact hc;rfl) rfl _ _ ?_
 intro g' hg
 simp only[VR,CR]
 exact⟨_,_,cap,hg,rfl,⟨hl,wW⟩,.inr ⟨by simp,by simpa using hr⟩⟩
def KI (y ye:Ty) (len n:Nat) (l:List (Nat × D)):Option (D × Eff):=match y.k with
 |.sl _ s=>match gX ye.zero && Nat.beq (sz ye.zero) s && Nat.ble (len * s) 16777216 with
  |true=>match vo (λi=>some (i * s,s)) (.ar s (List.replicate len ye.zero)) l with
   |some d=>some (.own true n 0 len,[(n,some d)])
   |none=>none
  |false=>none
 |_=>none
theorem _V {y ye:Ty} {g:G} {σ:au} {w:World} {a:Act} {o:Oper} {t len n:Nat} {parts:Array (Nat × Operand)} {get:Operand->D} {d:D} {e:Eff} (hy:aW P t y) (hye:aW P (gY y.k) ye) (ho:o.op = .buildSlice t len parts)
 (h:KI y ye len n (parts.toList.map λp=>(p.1,get p.2))=some (d,e)) (R:Rel g σ w) (hn:g.ae n=none) (H:∀ x,VR g (get x) (a.eval x)):Does P o a w (Out g σ w (· = n) d e):=by
 unfold KI at h
 obtain⟨u,hu,-,hk⟩:=hy.und
 obtain⟨z,hz,hv⟩:=hye.zero
 split at h
 case h_2=>simp at h
 rename_i el s hf
 rw[hf]at hk hz
 simp only[gY]at hz
 cases u <;> simp only[bz]at hk
 obtain⟨rfl,hs,hs0⟩:=hk
 rename_i el
 split at h
 case h_2=>simp at h
 rename_i hb
 simp only[Bool.and_eq_true]at hb
 have h1:=wU (hv g) hb.1.1
 have h2:=Nat.eq_of_beq_eq_true hb.1.2
 have h3:=Nat.le_of_ble_eq_true hb.2
 have zh:=(CR.len _ _ h1).1
 split at h
 case h_2=>simp at h
 rename_i row hp
 simp only[Option.some.injEq,Prod.mk.injEq]at h
 obtain⟨rfl,rfl⟩:=h
 have hrow:CR g false (.ar s (List.replicate len ye.zero)) (List.replicate len z.cells.toList).flatten:=by
  simp only[CR,wrap,List.length_replicate]
  exact⟨_,rfl,Jm h1 (by omega) len⟩
 obtain⟨cs,h5,h6,h7,h8,h9⟩:=Dl H _ _ _ _ hrow hp
 obtain⟨ds,rfl⟩:=h9 _ _ rfl
 have h10:=(CR.len _ _ h6).1
 simp only[sz,List.length_replicate]at h7
 rw[show sz (.ar s ds)=ds.length * s from rfl,h7]at h10
 obtain⟨w',h11,h12⟩:=ND (P:=P) (e:=el) (len:=len) (cap:=len) (rest:=[]) R hn h6 (Nat.le_refl _) (λ_=>rfl) (by simp;omega)
 refine Does.val (v := .slice (some ⟨w.heap.size,0,none⟩) len len) (w':=w') ?_ h12
 have e1:(parts.map λ(x:Nat × Operand)=>(x.1,a.eval x.2)).toList=parts.toList.map λp=>(p.1,a.eval p.2):=by simp
 have h5':Instr.fill (λi=>some (i * s,s)) ⟨(List.replicate len z.cells.toList).flatten⟩ (parts.toList.map λp=>(p.1,a.eval p.2))=some ⟨cs⟩:=h5
 have hz0:z.cells.size=s:=by rw[← h2,← zh];simp
 have hrep:=NW (cs:=z.cells.toList) len
 have hle:¬ (len * s > 2 ^ 24):=by omega
 rw[List.append_nil]at h11
 by_cases h0:len * s=0
 · have hl0:len=0:=by
    rcases Nat.mul_eq_zero.1 h0 with h|h
    · exact h
    · exact absurd h hs0
   subst hl0
   simp only[List.replicate_zero,List.flatten_nil]at h5'
   simp only[execOp,ho,Instr.buildSlice,Sem.run_bind,run_underlying hu,Result.andThen_ok,ji hs,Nat.zero_mul,Nat.not_lt_zero,gt_iff_lt,if_false,if_true,Sem.run_pure,e1]
   have er:((Array.range 0).map λi=>(#[]:Array Value)[i % (#[]:Array Value).size]!)=⟨[]⟩:=by apply Array.ext';simp
   simp only[er,h5',h11,Sem.run_bind,Result.andThen_ok,Sem.run_pure]
 · have JZ:((Array.range (len * s)).map λi=>z.cells[i % z.cells.size]!)=⟨(List.replicate len z.cells.toList).flatten⟩:=by
    rw[← hrep]
    simp[hz0]
   simp only[execOp,ho,Instr.buildSlice,Sem.run_bind,run_underlying hu,Result.andThen_ok,ji hs,hle,h0,if_false,hz,Sem.run_pure,e1,JZ,h5',h11]
end Go.Proofs.YtadecgbblajifaaGreatDoor.DV
namespace Go.Proofs.YtadecgbblajifaaGreatDoor
end Go.Proofs.YtadecgbblajifaaGreatDoor
