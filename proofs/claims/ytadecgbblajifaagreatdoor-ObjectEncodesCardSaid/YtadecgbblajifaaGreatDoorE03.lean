import Derived.Test.YtadecgbblajifaaGreatDoorE02
import Derived.Laws.Small
import Derived.Laws.StructEq
set_option linter.unusedSimpArgs false
set_option linter.unusedVariables false
set_option maxRecDepth 100000
set_option maxHeartbeats 25600000
namespace Go.Proofs.YtadecgbblajifaaGreatDoor
end Go.Proofs.YtadecgbblajifaaGreatDoor
namespace Go.Proofs.YtadecgbblajifaaGreatDoor.DV
open Go
variable {P:Program}
theorem OO (p q:List (Nat × Nat)):dI (p ++ q)=dI p+dI q:=by
 induction p with
 |nil=>simp[dI]
 |cons x p ih=>simp only[List.cons_append,dI,ih];omega
theorem I8:∀ (l:List Field) (m:List (Nat × Nat × Bool)) (k o s:Nat) (ag:Bool),oD P l m->m[k]? = some (o,s,ag)->∃ f,l[k]? = some f/\f.offset=o/\mQ P f.type s/\s≠0/\yM P f.type ag
 | [],[],k,o,s,ag,_,h=>by simp at h
 |a :: l,b :: m,0,o,s,ag,H,h=>by
  simp only[List.getElem?_cons_zero,Option.some.injEq]at h
  subst h
  exact⟨a,rfl,H.1,H.2.1,H.2.2.1,H.2.2.2.1⟩
 |a :: l,b :: m,k+1,o,s,ag,H,h=>I8 l m k o s ag H.2.2.2.2 h
 | [],_ :: _,_,_,_,_,H,_=>by simp[oD]at H
 |_ :: _,[],_,_,_,_,H,_=>by simp[oD]at H
theorem DT (blk:List Value) (o n p m:Nat) (h:p+m<=n):List.take m (List.drop p (bu blk o n))=bu blk (o+p) m:=by
 simp only[bu,List.drop_take,List.drop_drop,List.take_take]
 congr 1;omega
theorem QJ {g:G} {d e:D} {k o b off n:Nat} {blk:List Value} (hm:g.fm b=some blk) (hl:off+n<=blk.length) (H:CR g false d ((blk.drop off).take n)) (h:nV d k o=some e) :
 VR g (.fp e) (.pointer (some ⟨b,off+o,none⟩)):=by
 have h1:=Ak H h
 have hn:((blk.drop off).take n).length=n:=by simp;omega
 rw[hn]at h1
 simp only[VR,CR]
 refine⟨b,off+o,blk,sz e,rfl,hm,by omega,?_⟩
 have e1:=DT blk off n o (sz e) h1.2.1
 have h2:=h1.1
 rw[show(List.drop off blk).take n=bu blk off n from rfl,e1]at h2
 exact h2
def KF (y:Ty) (f:Nat) (x:D):Option D:=match y.k with
 |.st fl=>match fl[f]? with
  |some (o,_,_)=>match x with
   |.ref i p=>some (.ref i (p ++ [(f,o)]))
   |.fp d=>match nV d f o with
    |some e=>some (.fp e)
    |none=>none
   |_=>none
  |none=>none
 |_=>none
theorem _J {y:Ty} {g:G} {σ:au} {w:World} {N:Nat->Prop} {a:Act} {o:Oper} {t f:Nat} {x:Operand} {dx d:D} (hy:aW P t y) (ho:o.op = .fieldAddr t x f) (h:KF y f dx=some d) (R:Rel g σ w)
 (hx:VR g dx (a.eval x)):Does P o a w (Out g σ w N d []):=by
 unfold KF at h
 obtain⟨u,hu,-,hk⟩:=hy.und
 split at h
 case h_2=>simp at h
 rename_i fl hfl
 rw[hfl]at hk
 split at h
 case h_2=>simp at h
 rename_i off s ag hf
 cases u <;> simp only[bz]at hk
 rename_i fields
 obtain⟨fd,h1,h2,h3,h4,h5⟩:=I8 _ _ _ _ _ _ hk hf
 have h1':fields[f]? = some fd:=by simpa using h1
 have run:∀ b c,(Instr.fieldAt t (.pointer (some ⟨b,c,none⟩)) f).run P w = .ok (.pointer (some ⟨b,c+off,none⟩)) w:=by
  intro b c
  simp[Instr.fieldAt,run_underlying hu,h1',Instr.sureAddr,fieldPlace,ji h3,h4,nI,h2]
 split at h
 · rename_i i p
   simp only[Option.some.injEq]at h
   subst h
   simp only[VR,CR,List.cons.injEq,and_true]at hx
   obtain⟨l,hl,hx⟩:=hx
   refine Does.val (v := .pointer (some ⟨l.b,l.o+dI p+off,none⟩)) (w':=w) ?_ (Out.pure R ?_)
   · simp[execOp,ho,hx,run]
   · simp only[VR,CR,OO,dI]
     exact⟨l,hl,by simp[Nat.add_assoc]⟩
 · split at h
   case h_2=>simp at h
   rename_i e he
   simp only[Option.some.injEq]at h
   subst h
   simp only[VR,CR,List.cons.injEq,and_true]at hx
   obtain⟨b,c,blk,n,hx,hm,hl,hcr⟩:=hx
   refine Does.val (v := .pointer (some ⟨b,c+off,none⟩)) (w':=w) ?_ (Out.pure R (QJ hm hl hcr he))
   simp[execOp,ho,hx,run]
 · simp at h
theorem OP {g:G} {e:D} {c:List Value} {t o s:Nat} {b:Bool} {w:World} (H:CR g false e ((c.drop o).take s)) (h1:yM P t b) (h2:mQ P t s) (h3:mR e=b) :
 ∃ v,(part t ⟨c⟩ o).run P w = .ok v w/\VR g e v:=by
 obtain⟨v,hv,hc,_⟩:=FU H
 refine⟨v,?_,hv⟩
 simp only[part,Sem.run_bind,Dt h1,Result.andThen_ok]
 rcases hc with⟨ha,rfl⟩|⟨ha,hc⟩
 · rw[← h3,ha]
   simp[ji h2]
 · rw[← h3,ha]
   have:c[o]? = some v:=by
    have:=congrArg (·[0]?) hc
    simp only[List.getElem?_take,List.getElem?_drop]at this
    split at this
    · simpa using this
    · simp at this
   simp[this]
def I9 (y:Ty) (f:Nat) (x:D):Option D:=match y.k with
 |.st fl=>match fl[f]? with
  |some (o,s,ag)=>match x with
   |.st _ _=>match nV x f o with
    |some e=>if(mR e == ag) && Nat.beq (sz e) s then some e else none
    |none=>none
   |_=>none
  |none=>none
 |_=>none
theorem X6 {y:Ty} {g:G} {σ:au} {w:World} {N:Nat->Prop} {a:Act} {o:Oper} {t f:Nat} {x:Operand} {dx d:D} (hy:aW P t y) (ho:o.op = .field t x f) (h:I9 y f dx=some d) (R:Rel g σ w)
 (hx:VR g dx (a.eval x)):Does P o a w (Out g σ w N d []):=by
 unfold I9 at h
 obtain⟨u,hu,-,hk⟩:=hy.und
 split at h
 case h_2=>simp at h
 rename_i fl hfl
 rw[hfl]at hk
 split at h
 case h_2=>simp at h
 rename_i off s ag hf
 cases u <;> simp only[bz]at hk
 rename_i fields
 obtain⟨fd,h1,h2,h3,h4,h5⟩:=I8 _ _ _ _ _ _ hk hf
 have h1':fields[f]? = some fd:=by simpa using h1
 split at h
 case h_2=>simp at h
 rename_i ss ds
 split at h
 case h_2=>simp at h
 rename_i e he
 split at h
 case isFalse=>simp at h
 rename_i hb
 simp only[Option.some.injEq]at h
 subst h
 simp only[Bool.and_eq_true,beq_iff_eq]at hb
 have hs:=Nat.eq_of_beq_eq_true hb.2
 simp only[VR,CR,wrap,if_true,List.cons.injEq,and_true]at hx
 obtain⟨c,hx,hc⟩:=hx
 have H:CR g false (.st ss ds) c:=by
  simp only[CR,wrap]
  exact⟨c,rfl,hc⟩
 have h6:=Ak H he
 rw[hs]at h6
 obtain⟨v,h7,h8⟩:=OP (P:=P) (w:=w) h6.1 h5 h3 hb.1
 refine Does.val (v:=v) (w':=w) ?_ (Out.pure R h8)
 simp[execOp,ho,hx,Instr.field,run_underlying hu,h1',asAgg,h2,h7]
def mU:D->Option Nat
 |.lf (.int _ (.ofNat n))=>some n
 |_=>none
theorem xX {g:G} {d:D} {n:Nat} {v:Value} (h:mU d=some n) (H:VR g d v):∃ k,v = .int k (n:Int):=by
 unfold mU at h
 split at h
 · rename_i k m
   simp only[Option.some.injEq]at h
   subst h
   simp only[VR,CR,List.cons.injEq,and_true]at H
   exact⟨k,H.1⟩
 · simp at h
def Bv (y:Ty) (σ:au) (x i:D):Option D:=match mU i with
 |some n=>match y.k with
  |.sl _ s=>match x with
   |.own _ j off k=>match σ j with
    |some (.ar s' _)=>if Nat.blt n k && Nat.beq s s' then some (.ref j [(off+n,(off+n) * s)])else none
    |_=>none
   |.sl _ s' xs=>match xs[n]? with
    |some e=>if Nat.beq s s' && Nat.beq (sz e) s then some (.fp e)else none
    |none=>none
   |_=>none
  |.ar m _ s=>match Nat.blt n m with
   |true=>match x with
    |.ref j p=>some (.ref j (p ++ [(n,n * s)]))
    |.fp d=>match nV d n (n * s)with
     |some e=>some (.fp e)
     |none=>none
    |_=>none
   |false=>none
  |_=>none
 |none=>none
theorem QK {g:G} {s n o:Nat} {xs:List D} {e:D} {blk:List Value} (hl:o+xs.length * s<=blk.length) (H:aj g (List.replicate xs.length s) xs ((blk.drop o).take (xs.length * s))) (h:xs[n]? = some e) :
 o+n * s+sz e<=blk.length/\CR g false e ((blk.drop (o+n * s)).take (sz e)):=by
 have h1:=aj.get _ _ _ n e H h
 have hn:n<xs.length:=(List.getElem?_eq_some_iff.1 h).1
 rw[OL _ _ _ (by omega)]at h1
 have hlen:((blk.drop o).take (xs.length * s)).length=xs.length * s:=by simp;omega
 rw[hlen]at h1
 refine⟨by omega,?_⟩
 have:=DT blk o (xs.length * s) (n * s) (sz e) h1.2
 rw[show(List.drop o blk).take (xs.length * s)=bu blk o (xs.length * s)from rfl,this]at h1
 exact h1.1
theorem _O {y:Ty} {g:G} {σ:au} {w:World} {N:Nat->Prop} {a:Act} {o:Oper} {t:Nat} {x i:Operand} {dx di d:D} (hy:aW P t y) (ho:o.op = .indexAddr t x i) (h:Bv y σ dx di=some d) (R:Rel g σ w)
 (hx:VR g dx (a.eval x)) (hi:VR g di (a.eval i)):Does P o a w (Out g σ w N d []):=by
 unfold Bv at h
 obtain⟨u,hu,-,hk⟩:=hy.und
 split at h
 case h_2=>simp at h
 rename_i n hn
 obtain⟨kd,hi⟩:=xX hn hi
 split at h
 · rename_i e s hfl
   rw[hfl]at hk
   cases u <;> simp only[bz]at hk
   obtain⟨rfl,hs,hs0⟩:=hk
   split at h
   · rename_i _ j off k
     split at h
     case h_2=>simp at h
     rename_i s' ds hc
     split at h
     case isFalse=>simp at h
     rename_i hb
     simp only[Bool.and_eq_true]at hb
     have h1:n<k:=Nat.le_of_ble_eq_true hb.1
     have h2:=Nat.eq_of_beq_eq_true hb.2
     subst h2
     simp only[Option.some.injEq]at h
     subst h
     obtain⟨l,blk,H⟩:=R.has hc rfl
     have hls:l.s=s:=H.s
     simp only[VR,CR,List.cons.injEq,and_true]at hx
     obtain⟨l',ad,c,hl',hx,hkc,hor⟩:=hx
     have:l'=l:=by have:=H.ae;rw[hl']at this;simpa using this
     subst this
     have hkc:=hkc.1
     rcases hor with rfl|⟨rfl,_⟩
     · omega
     refine Does.val (v := .pointer (some ⟨l'.b,l'.o+(off+n) * s,none⟩)) (w':=w) ?_ (Out.pure R ?_)
     · have h3:¬ k<=n:=by omega
       simp[execOp,ho,hx,hi,Instr.indexAt,asIntOf,run_underlying hu,ji hs,h3,nI,hls,Nat.add_mul,Nat.add_assoc]
     · simp only[VR,CR,dI]
       exact⟨l',hl',by simp⟩
   · rename_i _ s' xs
     split at h
     case h_2=>simp at h
     rename_i e' he
     split at h
     case isFalse=>simp at h
     rename_i hb
     simp only[Bool.and_eq_true]at hb
     have h2:=Nat.eq_of_beq_eq_true hb.1
     subst h2
     simp only[Option.some.injEq]at h
     subst h
     have h1:n<xs.length:=(List.getElem?_eq_some_iff.1 he).1
     simp only[VR,CR,List.cons.injEq,and_true]at hx
     obtain⟨ad,c,hx,hkc,hor⟩:=hx
     rcases hor with rfl|⟨b,off,blk,rfl,hm,hl,hcr⟩
     · simp at he
     have h4:=QK hl hcr he
     refine Does.val (v := .pointer (some ⟨b,off+n * s,none⟩)) (w':=w) ?_ (Out.pure R ?_)
     · have h3:¬ xs.length<=n:=by omega
       simp[execOp,ho,hx,hi,Instr.indexAt,asIntOf,run_underlying hu,ji hs,h3,nI]
     · simp only[VR,CR]
       exact⟨b,off+n * s,blk,sz e',rfl,hm,h4.1,h4.2⟩
   · simp at h
 · rename_i m e s hfl
   rw[hfl]at hk
   cases u <;> simp only[bz]at hk
   obtain⟨hm0,rfl,hs,hs0⟩:=hk
   subst hm0
   rename_i m _
   split at h
   case h_2=>simp at h
   rename_i hb
   have h1:n<m:=Nat.le_of_ble_eq_true hb
   have h3:¬ m<=n:=by omega
   have run:∀ b c,(Instr.indexAt t (.pointer (some ⟨b,c,none⟩)) (.int kd n)).run P w = .ok (.pointer (some ⟨b,c+n * s,none⟩)) w:=by
    intro b c
    simp[Instr.indexAt,asIntOf,run_underlying hu,ji hs,h3,nI,Instr.sureAddr]
   split at h
   · rename_i j p
     simp only[Option.some.injEq]at h
     subst h
     simp only[VR,CR,List.cons.injEq,and_true]at hx
     obtain⟨l,hl,hx⟩:=hx
     refine Does.val (v := .pointer (some ⟨l.b,l.o+dI p+n * s,none⟩)) (w':=w) ?_ (Out.pure R ?_)
     · simp[execOp,ho,hx,hi,run]
     · simp only[VR,CR,OO,dI]
       exact⟨l,hl,by simp[Nat.add_assoc]⟩
   · split at h
     case h_2=>simp at h
     rename_i e' he
     simp only[Option.some.injEq]at h
     subst h
     simp only[VR,CR,List.cons.injEq,and_true]at hx
     obtain⟨b,c,blk,n',hx,hm,hl,hcr⟩:=hx
     refine Does.val (v := .pointer (some ⟨b,c+n * s,none⟩)) (w':=w) ?_ (Out.pure R (QJ hm hl hcr he))
     simp[execOp,ho,hx,hi,run]
   · simp at h
 · simp at h
def JS (y:Ty) (x i:D):Option D:=match y.k with
 |.str=>match mU i,x with
  |some n,.lf (.string s)=>match s[n]? with
   |some b=>some (.lf (.int .u8 b.toNat))
   |none=>none
  |_,_=>none
 |_=>none
theorem dh {g:G} {v u:Value} (h:VR g (.lf v) u):u=v:=by
 simp only[VR,CR,List.cons.injEq,and_true]at h
 exact h.1
theorem fF (g:G) (v:Value):VR g (.lf v) v:=by simp[VR,CR]
theorem Zr {y:Ty} {g:G} {σ:au} {w:World} {N:Nat->Prop} {a:Act} {o:Oper} {t:Nat} {x i:Operand} {dx di d:D} (hy:aW P t y) (ho:o.op = .index t x i) (h:JS y dx di=some d) (R:Rel g σ w)
 (hx:VR g dx (a.eval x)) (hi:VR g di (a.eval i)):Does P o a w (Out g σ w N d []):=by
 unfold JS at h
 obtain⟨u,hu,-,hk⟩:=hy.und
 split at h
 case h_2=>simp at h
 rename_i hfl
 rw[hfl]at hk
 cases u <;> simp only[bz]at hk
 split at h
 case h_2=>simp at h
 rename_i n s hn
 obtain⟨kd,hi⟩:=xX hn hi
 split at h
 case h_2=>simp at h
 rename_i b hb
 simp only[Option.some.injEq]at h
 subst h
 have hx:=dh hx
 refine Does.val (v := .int .u8 b.toNat) (w':=w) ?_ (Out.pure R (fF _ _))
 simp[execOp,ho,hx,hi,Instr.index,asIntOf,run_underlying hu,hb]
def gY:Tk->Nat
 |.sl e _=>e
 |.ar _ e _=>e
 |_=>0
def Jk (y ye:Ty) (x i:D):Option D:=match y.k with
 |.ar n _ s=>match mU i with
  |some k=>match Nat.blt k n with
   |true=>match x with
    |.ar _ _=>match nV x k (k * s)with
     |some e=>if A9 ye e && Nat.beq ye.size s then some e else none
     |none=>none
    |_=>none
   |false=>none
  |none=>none
 |_=>none
theorem YH {y ye:Ty} {g:G} {σ:au} {w:World} {N:Nat->Prop} {a:Act} {o:Oper} {t:Nat} {x i:Operand} {dx di d:D} (hy:aW P t y) (hye:aW P (gY y.k) ye) (ho:o.op = .index t x i) (h:Jk y ye dx di=some d) (R:Rel g σ w)
 (hx:VR g dx (a.eval x)) (hi:VR g di (a.eval i)):Does P o a w (Out g σ w N d []):=by
 unfold Jk at h
 obtain⟨u,hu,-,hk⟩:=hy.und
 split at h
 case h_2=>simp at h
 rename_i n el s hfl
 rw[hfl]at hk hye
 simp only[gY]at hye
 cases u <;> simp only[bz]at hk
 obtain⟨hn0,rfl,hs,hs0⟩:=hk
 subst hn0
 rename_i n _
 split at h
 case h_2=>simp at h
 rename_i k hn
 obtain⟨kd,hi⟩:=xX hn hi
 split at h
 case h_2=>simp at h
 rename_i hb
 have h1:k<n:=Nat.le_of_ble_eq_true hb
 split at h
 case h_2=>simp at h
 rename_i s' ds
 split at h
 case h_2=>simp at h
 rename_i e he
 split at h
 case isFalse=>simp at h
 rename_i hf
 simp only[Bool.and_eq_true]at hf
 have hf2:=Nat.eq_of_beq_eq_true hf.2
 have hf1:=Ag hf.1
 simp only[Option.some.injEq]at h
 subst h
 simp only[VR,CR,wrap,if_true,List.cons.injEq,and_true]at hx
 obtain⟨c,hx,hc⟩:=hx
 have H:CR g false (.ar s' ds) c:=by
  simp only[CR,wrap]
  exact⟨c,rfl,hc⟩
 have h6:=Ak H he
 rw[hf1.2,hf2]at h6
 obtain⟨v,h7,h8⟩:=OP (P:=P) (w:=w) h6.1 (hf1.1 ▸ hye.ag) hs rfl
 refine Does.val (v:=v) (w':=w) ?_ (Out.pure R h8)
 have h3:¬ n<=k:=by omega
 simp[execOp,ho,hx,hi,Instr.index,asIntOf,run_underlying hu,ji hs,h3,h7]
def JU (x:D) (k:Nat):Option D:=match x with
 |.tu ds=>ds[k]?
 |_=>none
theorem Zt {g:G} {σ:au} {w:World} {N:Nat->Prop} {a:Act} {o:Oper} {k:Nat} {x:Operand} {dx d:D} (ho:o.op = .extract x k) (h:JU dx k=some d) (R:Rel g σ w)
 (hx:VR g dx (a.eval x)):Does P o a w (Out g σ w N d []):=by
 unfold JU at h
 split at h
 case h_2=>simp at h
 simp only[VR,CR,List.cons.injEq,and_true,true_and]at hx
 obtain⟨vs,hx,hc⟩:=hx
 obtain⟨v,h1,h2⟩:=aC.get _ _ _ _ hc h
 refine Does.val (v:=v) (w':=w) ?_ (Out.pure R h2)
 simp[execOp,ho,hx,Instr.extract,h1]
def JV (x:D):Option D:=match x with
 |.ref _ _ | .fp _=>some x
 |.fn (.func _) _ _=>some x
 |_=>none
theorem Zu {g:G} {σ:au} {w:World} {N:Nat->Prop} {a:Act} {o:Oper} {x:Operand} {dx d:D} (ho:o.op = .nilCheck x) (h:JV dx=some d) (R:Rel g σ w)
 (hx:VR g dx (a.eval x)):Does P o a w (Out g σ w N d []):=by
 unfold JV at h
 have hx':=hx
 split at h <;> try (simp at h;done)
 all_goals
  simp only[Option.some.injEq]at h
  subst h
  simp only[VR,CR,List.cons.injEq,and_true]at hx
 · obtain⟨l,_,hx⟩:=hx
   exact Does.val (v:=a.eval x) (w':=w) (by simp[execOp,ho,hx]) (Out.pure R hx')
 · obtain⟨b,c,blk,n,hx,_⟩:=hx
   exact Does.val (v:=a.eval x) (w':=w) (by simp[execOp,ho,hx]) (Out.pure R hx')
 · obtain⟨b,c,hx,_⟩:=hx
   exact Does.val (v:=a.eval x) (w':=w) (by simp[execOp,ho,hx]) (Out.pure R hx')
def EU:D->Option Nat
 |.own _ _ _ n=>some n
 |.sl _ _ xs=>some xs.length
 |.e0=>some 0
 |.lf (.slice none n _)=>some n
 |.lf (.string s)=>some s.size
 |_=>none
theorem _Q {g:G} {d:D} {n:Nat} {v:Value} (h:EU d=some n) (H:VR g d v):(∃ a c,v = .slice a n c)\/(∃ s,v = .string s/\s.size=n):=by
 unfold EU at h
 split at h <;> simp only[Option.some.injEq,reduceCtorEq]at h <;> subst h
 · simp only[VR,CR,List.cons.injEq,and_true]at H
   obtain⟨l,a,c,_,rfl,_⟩:=H
   exact .inl ⟨_,_,rfl⟩
 · simp only[VR,CR,List.cons.injEq,and_true]at H
   obtain⟨a,c,rfl,_⟩:=H
   exact .inl ⟨_,_,rfl⟩
 · simp only[VR,CR,List.cons.injEq,and_true]at H
   obtain⟨a,rfl⟩:=H
   exact .inl ⟨_,_,rfl⟩
 · exact .inl ⟨_,_,dh H⟩
 · exact .inr ⟨_,dh H,rfl⟩
def JW (y:Ty) (x:D):Option D:=match y.k,x with
 |.sl _ _,.lf (.string _)=>none
 |.sl _ _,x=>match EU x with
  |some n=>some (.lf (goInt n))
  |none=>none
 |.str,.lf (.string s)=>some (.lf (goInt s.size))
 |.ar n _ _,_=>some (.lf (goInt n))
 |_,_=>none
theorem Zv {y:Ty} {w:World} {g:G} {t ty:Nat} {dx d:D} {v:Value} (hy:aW P t y) (h:JW y dx=some d) (hx:VR g dx v) :
 ∃ u,(Builtin.len_ #[t] ty #[v]).run P w = .ok u w/\VR g d u:=by
 unfold JW at h
 obtain⟨u,hu,-,hk⟩:=hy.und
 split at h
 · simp at h
 · rename_i hfl hne
   rw[hfl]at hk
   cases u <;> simp only[bz]at hk
   split at h
   case h_2=>simp at h
   rename_i n hn
   simp only[Option.some.injEq]at h
   subst h
   rcases _Q hn hx with⟨a,c,rfl⟩|⟨s,rfl,rfl⟩
   · exact⟨_,by simp[Builtin.len_,run_underlying hu],fF _ _⟩
   · exfalso
     unfold EU at hn
     split at hn
     · simp[VR,CR]at hx
     · simp[VR,CR]at hx
     · simp[VR,CR]at hx
     · have:=dh hx;simp at this
     · exact hne _ rfl
     · simp at hn
 · rename_i s hfl
   rw[hfl]at hk
   cases u <;> simp only[bz]at hk
   simp only[Option.some.injEq]at h
   subst h
   have hx:=dh hx
   subst hx
   exact⟨_,by simp[Builtin.len_,run_underlying hu],fF _ _⟩
 · rename_i n e s hfl
   rw[hfl]at hk
   cases u <;> simp only[bz]at hk
   obtain⟨rfl,_⟩:=hk
   simp only[Option.some.injEq]at h
   subst h
   exact⟨_,by simp[Builtin.len_,run_underlying hu],fF _ _⟩
 · simp at h
end Go.Proofs.YtadecgbblajifaaGreatDoor.DV
namespace Go.Proofs.YtadecgbblajifaaGreatDoor
end Go.Proofs.YtadecgbblajifaaGreatDoor
namespace Go.Proofs.YtadecgbblajifaaGreatDoor.DV
open Go
variable {P:Program}
def wm : {α:Type} -> Sem α->Option α
 |_,.pure a=>some a
 |_,_=>none
theorem xY {α:Type} {s:Sem α} {x:α} (h:wm s=some x) (w:World):s.run P w = .ok x w:=by
 cases s <;> simp only[wm,Option.some.injEq,reduceCtorEq]at h
 subst h
 rfl
def yg:Value->Bool
 |.nilIface | .agg _=>false
 |_=>true
theorem Aa {op:BinOp} {t:Nat} {x y:Operand} {a b:Value} (h:yg a=true\/yg b=true) (w:World):(eqGuard op t x y a b).run P w = .ok () w:=by
 unfold eqGuard
 have key:(match a,b with
  |.nilIface,.nilIface=>(do
   if(x matches .const _) || (y matches .const _)then return
   if ← Op.eqGuardIn Op.maxDepth t a b then unsupported (.noEntry "binop/eql: two nil values of an interface type with methods, neither of them the literal nil") : Sem Unit)
  |.agg _,.agg _=>do
   if !(← program).eqGuardType (← program).depth t then return
   if ← Op.eqGuardIn Op.maxDepth t a b then unsupported (.noEntry "binop/eql: two nil values of an interface type with methods, in a part of a struct or an array")
  |_,_=>pure ())=pure ():=by
  split
  · simp[yg]at h
  · simp[yg]at h
  · rfl
 split
 · simp only[Bool.not_true,Bool.false_eq_true,if_false]
   exact congrArg (λs=>Sem.run P s w) key
 · simp only[Bool.not_true,Bool.false_eq_true,if_false]
   exact congrArg (λs=>Sem.run P s w) key
 · rfl
theorem Xh {op:BinOp} {t:Nat} {x:Operand} (v:Value) (w:World):(eqGuard op t x (.const v) .nilIface .nilIface).run P w = .ok () w:=by
 unfold eqGuard
 split <;> simp
def isConst:Operand->Bool
 |.const _=>true
 |_=>false
def JX:Tk->D->Value->Option Bool
 |.sl _ _,.own _ _ _ _,.slice none _ _ | .sl _ _,.sl _ _ (_ :: _),.slice none _ _ | .sl _ _,.e0,.slice none _ _=>some false
 |.sl _ _,.lf (.slice none _ _),.slice none _ _=>some true
 |.pt _,.ref _ _,.pointer none | .pt _,.fp _,.pointer none=>some false
 |.pt _,.lf (.pointer none),.pointer none=>some true
 |.fu,.fn _ _ _,.nilFunc=>some false
 |.fu,.lf .nilFunc,.nilFunc=>some true
 |.gZ,.gZ _ _,.nilIface=>some false
 |.gZ,.lf .nilIface,.nilIface=>some true
 |_,_,_=>none
def zm (op:BinOp) (b:Bool):Option D:=match op with
 |.eql=>some (.lf (.bool b))
 |.neq=>some (.lf (.bool (!b)))
 |_=>none
def rJ:List Tk->List D->List D->Option Bool
 | [],[],[]=>some true
 |k :: ks,.lf a :: ds,.lf b :: es=>match k,a,b with
  |.it _,.int j u,.int j' v=>if j=j' then match u == v with
   |true=>rJ ks ds es
   |false=>some false else none
  |.bo,.bool u,.bool v=>match u == v with
   |true=>rJ ks ds es
   |false=>some false
  |.str,.string u,.string v=>match u.toList == v.toList with
   |true=>rJ ks ds es
   |false=>some false
  |_,_,_=>none
 |_,_,_=>none
theorem QL {g:G} {s:Nat} {ss:List Nat} {v:Value} {ds:List D} {c:List Value} (h:aj g (s :: ss) (.lf v :: ds) c):∃ c',c=v :: c'/\aj g ss ds c':=by
 simp only[aj,CR]at h
 obtain⟨h1,⟨h2,_⟩,h3⟩:=h
 have h4:=congrArg List.length h2
 simp only[List.length_take,List.length_singleton]at h4
 have hs:s=1:=by omega
 subst hs
 refine⟨c.drop 1,?_,h3⟩
 have:=List.take_append_drop 1 c
 rw[h2]at this
 exact this.symm
theorem PE {g:G} {w:World} {n:Nat} : ∀ (ks:List Tk) (ds es:List D) (ss ss':List Nat) (pre pre' c c':List Value) (fs:List Field) (b:Bool),rJ ks ds es=some b->aj g ss ds c->aj g ss' es c'->yN P pre.length fs ks->pre'.length=pre.length ->
 (Op.eqFields (n+1) ⟨pre ++ c⟩ ⟨pre' ++ c'⟩ fs).run P w = .ok b w
 | [],ds,es,ss,ss',pre,pre',c,c',fs,b,h,_,_,hf,_=>by
  cases fs with
  |nil =>
   cases ds <;> cases es <;> simp[rJ]at h
   subst h
   rfl
  |cons _ _=>simp[yN]at hf
 |k :: ks,ds,es,ss,ss',pre,pre',c,c',fs,b,h,h1,h2,hf,hp=>by
  cases fs with
  |nil=>simp[yN]at hf
  |cons f fs =>
   obtain⟨hf1,hf2,⟨u,hu,hk⟩,hf3,hf4⟩:=hf
   unfold rJ at h
   split at h
   · simp at *
   · rename_i k' ks' x ds' z es' hq
     simp only[List.cons.injEq]at hq
     obtain⟨rfl,rfl⟩:=hq
     cases ss with
     |nil=>simp[aj]at h1
     |cons s ss =>
     cases ss' with
     |nil=>simp[aj]at h2
     |cons s' ss' =>
     obtain⟨c1,rfl,h1'⟩:=QL h1
     obtain⟨c2,rfl,h2'⟩:=QL h2
     have hag:yM P f.type false:=⟨u,hu,by cases k <;> simp[JQ]at hf3 <;> cases u <;> simp[bz]at hk <;> rfl⟩
     have e1:(part f.type ⟨pre ++ x :: c1⟩ f.offset).run P w = .ok x w:=by
      simp[part,Dt hag,hf2]
     have e2:(part f.type ⟨pre' ++ z :: c2⟩ f.offset).run P w = .ok z w:=by
      simp[part,Dt hag,hf2,← hp]
     have ih:∀ b,rJ ks ds' es'=some b->(Op.eqFields (n+1) ⟨pre ++ x :: c1⟩ ⟨pre' ++ z :: c2⟩ fs).run P w = .ok b w:=by
      intro b hb
      have:=PE (w:=w) (n:=n) ks ds' es' ss ss' (pre ++ [x]) (pre' ++ [z]) c1 c2 fs b hb h1' h2' (by simpa using hf4) (by simp[hp])
      simpa using this
     have step:∀ r,(Op.equalIn (n+1) f.type x z).run P w = .ok r w->(match r with|true=>rJ ks ds' es' | false=>some false)=some b->(Op.eqFields (n+1) ⟨pre ++ x :: c1⟩ ⟨pre' ++ z :: c2⟩ (f :: fs)).run P w = .ok b w:=by
      intro r hr hb
      simp only[Op.eqFields,hf1,ne_eq,not_false_eq_true,if_true,Sem.run_bind,e1,e2,hr,Result.andThen_ok]
      cases r with
      |true=>simpa using ih b hb
      |false=>simp only[Option.some.injEq]at hb;subst hb;simp
     split at h
     · cases u <;> simp only[bz]at hk
       split at h
       · rename_i hj
         subst hj
         exact step _ (run_equalIn_int w n f.type _ _ _ _ hu) h
       · simp at h
     · cases u <;> simp only[bz]at hk
       exact step _ (run_equalIn_bool' w n f.type _ _ hu) h
     · cases u <;> simp only[bz]at hk
       exact step _ (run_equalIn_string w n f.type _ _ hu) h
     · simp at h
   · simp at h
def JY (y:Ty) (op:BinOp) (yo:Operand) (a:D):D->Option D
 |.lf v=>match a,v with
  |.lf (.bool u),.bool v=>match y.k with
   |.bo=>zm op (u == v)
   |_=>none
  |.lf (.int j u),.int k v=>match wm (binOp op 0 (.int j u) (.int k v))with
   |some r=>some (.lf r)
   |none=>none
  |.lf (.string u),.string v=>match wm (binOp op 0 (.string u) (.string v))with
   |some r=>some (.lf r)
   |none=>none
  |a,v=>match JX y.k a v,isConst yo with
   |some b,true=>zm op b
   |_,_=>none
 |.st _ es=>match a,y.cmp with
  |.st _ ds,k :: ks=>match rJ (k :: ks) ds es with
   |some b=>zm op b
   |none=>none
  |_,_=>none
 |_=>none
theorem PG {op:BinOp} {b:Bool} {d:D} {t:Nat} {x z:Value} {w:World} (h:zm op b=some d) (he:(Op.equal t x z).run P w = .ok b w) (h1:binOp .eql t x z=(do pure (.bool (← Op.equal t x z)))) (h2:binOp .neq t x z=(do pure (.bool (!(← Op.equal t x z))))) (g:G) :
 ∃ v,(binOp op t x z).run P w = .ok v w/\VR g d v:=by
 unfold zm at h
 split at h <;> simp only[Option.some.injEq,reduceCtorEq]at h <;> subst h
 · exact⟨_,by rw[h1];simp[he],fF _ _⟩
 · exact⟨_,by rw[h2];simp[he],fF _ _⟩
theorem YI {y:Ty} {g:G} {t:Nat} {a:D} {v x:Value} {b:Bool} {w:World} (hy:aW P t y) (h:JX y.k a v=some b) (hx:VR g a x) :
 (∀ n,(Op.equalIn (n+1) t x v).run P w = .ok b w)/\binOp .eql t x v=(do pure (.bool (← Op.equal t x v)))/\binOp .neq t x v=(do pure (.bool (!(← Op.equal t x v))))/\(yg x=true\/yg v=true\/(x = .nilIface/\v = .nilIface)):=by
 obtain⟨d,hu,-,hk⟩:=hy.und
 generalize y.k=k at h hk
 unfold JX at h
 split at h <;> simp only[Option.some.injEq,reduceCtorEq]at h <;> subst h <;> cases d <;> simp only[bz]at hk <;> simp only[VR,CR,List.cons.injEq,and_true]at hx
 · obtain⟨l,a,c,_,rfl,_⟩:=hx
   exact⟨λn=>by simp[Op.equalIn,run_underlying hu],rfl,rfl,.inl rfl⟩
 · obtain⟨ad,c,rfl,_,hor⟩:=hx
   rcases hor with hor|⟨b,o,blk,rfl,_⟩
   · simp at hor
   exact⟨λn=>by simp[Op.equalIn,run_underlying hu],rfl,rfl,.inl rfl⟩
 · obtain⟨b,rfl⟩:=hx
   exact⟨λn=>by simp[Op.equalIn,run_underlying hu],rfl,rfl,.inl rfl⟩
 · obtain⟨rfl,_⟩:=hx
   exact⟨λn=>by simp[Op.equalIn,run_underlying hu],rfl,rfl,.inl rfl⟩
 · obtain⟨l,_,rfl⟩:=hx
   exact⟨λn=>by simp[Op.equalIn,run_underlying hu],rfl,rfl,.inl rfl⟩
 · obtain⟨b,o,blk,k,rfl,_⟩:=hx
   exact⟨λn=>by simp[Op.equalIn,run_underlying hu],rfl,rfl,.inl rfl⟩
 · obtain⟨rfl,_⟩:=hx
   exact⟨λn=>by simp[Op.equalIn,run_underlying hu],rfl,rfl,.inl rfl⟩
 · obtain⟨a,b,rfl,_⟩:=hx
   exact⟨λn=>by simp[Op.equalIn,run_underlying hu],rfl,rfl,.inl rfl⟩
 · obtain⟨rfl,_⟩:=hx
   exact⟨λn=>by simp[Op.equalIn,run_underlying hu],rfl,rfl,.inl rfl⟩
 · obtain⟨v,rfl,_⟩:=hx
   exact⟨λn=>by simp[Op.equalIn,run_underlying hu],rfl,rfl,.inl rfl⟩
 · obtain⟨rfl,_⟩:=hx
   exact⟨λn=>by simp[Op.equalIn,run_underlying hu],rfl,rfl,.inr (.inr ⟨rfl,rfl⟩)⟩
theorem YJ (op:BinOp) (t s:Nat) (j k:IntKind) (u v:Int):binOp op t (.int j u) (.int k v)=binOp op s (.int j u) (.int k v):=by cases op <;> rfl
theorem YK (op:BinOp) (t s:Nat) (u v:ByteArray):binOp op t (.string u) (.string v)=binOp op s (.string u) (.string v):=by cases op <;> rfl
theorem Zw {y:Ty} {g:G} {σ:au} {w:World} {N:Nat->Prop} {a:Act} {o:Oper} {op:BinOp} {t s:Nat} {x z:Operand} {dx dz d:D} (hy:aW P t y) (ho:o.op = .binOp op t x z s) (h:JY y op z dx dz=some d) (R:Rel g σ w)
 (hx:VR g dx (a.eval x)) (hz:VR g dz (a.eval z)):Does P o a w (Out g σ w N d []):=by
 unfold JY at h
 obtain⟨u,hu,-,hk⟩:=hy.und
 split at h
 case h_3=>simp at h
 case h_2 =>
  rename_i ss' es
  split at h
  case h_2=>simp at h
  rename_i ss ds k ks hcm
  have hcm:=hcm
  split at h
  case h_2=>simp at h
  rename_i b hb
  obtain⟨fs,h1,h2,h3,h4⟩:=hy.cm (by rw[hcm];simp)
  rw[hcm]at h4
  simp only[VR,CR,wrap,if_true,List.cons.injEq,and_true]at hx hz
  obtain⟨c,hx,hc⟩:=hx
  obtain⟨c',hz,hc'⟩:=hz
  have hfo:P.fieldsOf t=fs:=by simp[Program.fieldsOf,h1]
  have hr:=run_equalIn_agg (P:=P) w 9999 t ⟨c⟩ ⟨c'⟩ (by rw[hfo];exact h1) h2
  have he:=PE (P:=P) (w:=w) (n:=9998) _ _ _ _ _ [] [] c c' _ b hb hc hc' h4 rfl
  rw[hfo]at hr
  have hr':(Op.equalIn 10000 t (.agg ⟨c⟩) (.agg ⟨c'⟩)).run P w = .ok b w:=hr.trans he
  have hg:=run_eqGuard_agg (P:=P) w op t x z ⟨c⟩ ⟨c'⟩ h3
  unfold zm at h
  split at h <;> simp only[Option.some.injEq,reduceCtorEq]at h <;> subst h
  · refine Does.val (w':=w) ?_ (Out.pure R (fF _ _))
    simp[execOp,ho,hx,hz,hg,run_eql_struct,hr']
  · refine Does.val (w':=w) ?_ (Out.pure R (fF _ _))
    simp[execOp,ho,hx,hz,hg,run_neq_struct,hr']
 rename_i v
 have hz:=dh hz
 have fin:∀ r,(eqGuard op t x z (a.eval x) v).run P w = .ok () w->(binOp op t (a.eval x) v).run P w = .ok r w->VR g d r->Does P o a w (Out g σ w N d []):=by
  intro r h1 h2 h3
  refine Does.val (v:=r) (w':=w) ?_ (Out.pure R h3)
  simp[execOp,ho,hz,h1,h2]
 split at h
 · rename_i p q _
   split at h
   case h_2=>simp at h
   rename_i hf
   rw[hf]at hk
   cases u <;> simp only[bz]at hk
   have hx:=dh hx
   obtain⟨r,h1,h2⟩:=PG (P:=P) (t:=t) (x := .bool p) (z := .bool q) (w:=w) h (run_equal_bool w t p q hu) rfl rfl g
   rw[hx]at fin
   exact fin r (Aa (.inl rfl) w) h1 h2
 · split at h
   case h_2=>simp at h
   rename_i r hr
   simp only[Option.some.injEq]at h
   subst h
   have hx:=dh hx
   rw[hx]at fin
   exact fin r (Aa (.inl rfl) w) (by rw[YJ op t 0];exact xY hr w) (fF _ _)
 · split at h
   case h_2=>simp at h
   rename_i r hr
   simp only[Option.some.injEq]at h
   subst h
   have hx:=dh hx
   rw[hx]at fin
   exact fin r (Aa (.inl rfl) w) (by rw[YK op t 0];exact xY hr w) (fF _ _)
 · split at h
   case h_2=>simp at h
   rename_i b hb hc
   have h1:=YI (w:=w) hy hb hx
   obtain⟨r,h2,h3⟩:=PG (P:=P) h (h1.1 9999) h1.2.1 h1.2.2.1 g
   refine fin r ?_ h2 h3
   rcases h1.2.2.2 with h4|h4|⟨h4,rfl⟩
   · exact Aa (.inl h4) w
   · exact Aa (.inr h4) w
   · rw[h4]
     cases z <;> simp only[isConst,Bool.false_eq_true]at hc
     exact Xh _ w
def KG (op:UnOp):D->Option D
 |.lf v=>match wm (Op.unary op v)with
  |some r=>some (.lf r)
  |none=>none
 |_=>none
theorem _R {g:G} {σ:au} {w:World} {N:Nat->Prop} {a:Act} {o:Oper} {op:UnOp} {t:Nat} {x:Operand} {dx d:D} (ho:o.op = .unOp op t x) (h:KG op dx=some d) (R:Rel g σ w)
 (hx:VR g dx (a.eval x)):Does P o a w (Out g σ w N d []):=by
 unfold KG at h
 split at h
 case h_2=>simp at h
 split at h
 case h_2=>simp at h
 rename_i r hr
 simp only[Option.some.injEq]at h
 subst h
 have hx:=dh hx
 refine Does.val (v:=r) (w':=w) ?_ (Out.pure R (fF _ _))
 simp[execOp,ho,hx,xY hr]
def Jl (ys yd:Ty):D->Option D
 |.lf (.int _ n)=>match yd.k,ys.k with
  |.it k,.it _=>some (.lf (.int k (k.wrap n)))
  |_,_=>none
 |.lf (.string s)=>match yd.k,ys.k with
  |.str,.str=>some (.lf (.string s))
  |_,_=>none
 |_=>none
theorem YL {ys yd:Ty} {g:G} {σ:au} {w:World} {N:Nat->Prop} {a:Act} {o:Oper} {s t:Nat} {x:Operand} {dx d:D} (hs:aW P s ys) (hd:aW P t yd) (ho:o.op = .convert s t x) (h:Jl ys yd dx=some d) (R:Rel g σ w)
 (hx:VR g dx (a.eval x)):Does P o a w (Out g σ w N d []):=by
 unfold Jl at h
 obtain⟨u,hu,-,hk⟩:=hs.und
 obtain⟨u',hu',-,hk'⟩:=hd.und
 split at h
 · split at h
   case h_2=>simp at h
   rename_i k j h1 h2
   rw[h2]at hk
   rw[h1]at hk'
   cases u <;> simp only[bz]at hk
   cases u' <;> simp only[bz]at hk'
   subst hk hk'
   simp only[Option.some.injEq]at h
   subst h
   have hx:=dh hx
   refine Does.val (w':=w) ?_ (Out.pure R (fF _ _))
   simp[execOp,ho,hx,convert,run_underlying hu,run_underlying hu',Conv.intToInt]
 · split at h
   case h_2=>simp at h
   rename_i h1 h2
   rw[h2]at hk
   rw[h1]at hk'
   cases u <;> simp only[bz]at hk
   cases u' <;> simp only[bz]at hk'
   simp only[Option.some.injEq]at h
   subst h
   have hx:=dh hx
   refine Does.val (w':=w) ?_ (Out.pure R (fF _ _))
   simp[execOp,ho,hx,convert,run_underlying hu,run_underlying hu']
 · simp at h
def KH (ys:Ty) (t:Nat) (x:D):Option D:=match ys.k with
 |.gZ=>none
 |.ot=>none
 |_=>some (.gZ t x)
theorem _T {y:Ty} {g:G} {σ:au} {w:World} {N:Nat->Prop} {a:Act} {o:Oper} {t:Nat} {x:Operand} {dx d:D} (hy:aW P t y) (ho:o.op = .makeInterface t x) (h:KH y t dx=some d) (R:Rel g σ w)
 (hx:VR g dx (a.eval x)):Does P o a w (Out g σ w N d []):=by
 unfold KH at h
 obtain⟨u,hu,-,hk⟩:=hy.und
 have hn:∀ m,u ≠ .interface m:=by
  rintro m rfl
  revert h
  cases hf:y.k <;> rw[hf]at hk <;> simp[bz]at hk ⊢
 have he:d = .gZ t dx:=by
  split at h <;> simp only[Option.some.injEq,reduceCtorEq]at h
  exact h.symm
 subst he
 refine Does.val (v := .iface t (a.eval x)) (w':=w) ?_ (Out.pure R ?_)
 · simp only[execOp,ho,Instr.makeInterface,Sem.run_bind,run_underlying hu,Result.andThen_ok]
   cases u <;> first|rfl|(exact absurd rfl (hn _))
 · simp only[VR,CR]
   exact⟨_,rfl,hx⟩
def dmap (f:Operand->D):List Operand->List D
 | []=>[]
 |x :: l=>f x :: dmap f l
theorem Al {g:G} {a:Act} {get:Operand->D} (H:∀ x,VR g (get x) (a.eval x)):∀ l:List Operand,aC g (dmap get l) (l.map a.eval)
 | []=>by simp[dmap,aC]
 |x :: l=>by
  simp only[dmap,aC,List.map_cons]
  exact⟨_,_,rfl,H x,Al H l⟩
theorem _U {g:G} {σ:au} {w:World} {N:Nat->Prop} {a:Act} {o:Oper} {f:Fn} {x z:Array Operand} {get:Operand->D} (ho:o.op = .makeFunc f x z) (R:Rel g σ w)
 (H:∀ x,VR g (get x) (a.eval x)):Does P o a w (Out g σ w N (.fn f (dmap get x.toList) (dmap get z.toList)) []):=by
 have e:∀ x:Array Operand,x.map a.eval=⟨x.toList.map a.eval⟩:=λx=>by apply Array.ext';simp
 refine Does.val (v := .func f ⟨x.toList.map a.eval⟩ ⟨z.toList.map a.eval⟩) (w':=w) ?_ (Out.pure R ?_)
 · simp[execOp,ho,Instr.makeFunc,e]
 · simp only[VR,CR]
   exact⟨_,_,rfl,Al H x.toList,Al H z.toList⟩
end Go.Proofs.YtadecgbblajifaaGreatDoor.DV
namespace Go.Proofs.YtadecgbblajifaaGreatDoor
end Go.Proofs.YtadecgbblajifaaGreatDoor
