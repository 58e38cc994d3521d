import Derived.Test.YtadecgbblajifaaGreatDoorA18
import Derived.Laws.Small
set_option linter.unusedSimpArgs false
set_option linter.unusedVariables false
set_option maxRecDepth 100000
set_option maxHeartbeats 25600000
namespace Go.Proofs.YtadecgbblajifaaGreatDoor
end Go.Proofs.YtadecgbblajifaaGreatDoor
namespace Go.Proofs.YtadecgbblajifaaGreatDoor.DV
open Go
variable {P:Program}
theorem Js (p q:List (Nat × Nat)):bn (p ++ q)=bn p+bn q:=by
 induction p with
 |nil=>simp[bn]
 |cons x p ih=>simp only[List.cons_append,bn,ih];omega
theorem Dw:∀ (l:List Field) (m:List (Nat × Nat × Bool)) (k o s:Nat) (ag:Bool),kD P l m->m[k]? = some (o,s,ag)->∃ f,l[k]? = some f/\f.offset=o/\jl P f.type s/\s≠0/\tO P f.type ag
 | [],[],k,o,s,ag,_,h=>by simp at h
 |a :: l,b :: m,0,o,s,ag,H,h=>by
  simp only[List.getElem?_cons_zero,Option.some.injEq]at h;subst h;exact⟨a,rfl,H.1,H.2.1,H.2.2.1,H.2.2.2.1⟩
 |a :: l,b :: m,k+1,o,s,ag,H,h=>Dw l m k o s ag H.2.2.2.2 h
 | [],_ :: _,_,_,_,_,H,_=>by simp[kD]at H
 |_ :: _,[],_,_,_,_,H,_=>by simp[kD]at H
theorem zk (blk:List Value) (o n p m:Nat) (h:p+m<=n):List.take m (List.drop p (aQ blk o n))=aQ blk (o+p) m:=by
 simp only[aQ,List.drop_take,List.drop_drop,List.take_take];congr 1;omega
theorem KO {g:G} {d e:D} {k o b off n:Nat} {blk:List Value} (hm:g.fm b=some blk) (hl:off+n<=blk.length) (H:CR g false d ((blk.drop off).take n)) (h:jW d k o=some e) :
 VR g (.fp e) (.pointer (some ⟨b,off+o,none⟩)):=by
 have h1:=vD H h;have hn:((blk.drop off).take n).length=n:=by simp;omega
 rw[hn]at h1;simp only[VR,CR];refine⟨b,off+o,blk,sz e,rfl,hm,by omega,?_⟩;have e1:=zk blk off n o (sz e) h1.2.1;have h2:=h1.1;rw[show(List.drop off blk).take n=aQ blk off n from rfl,e1]at h2;exact h2
def FX (y:Ty) (f:Nat) (x:D):Option D:=match y.k with
 |.st fl=>match fl[f]? with
  |some (o,_,_)=>match x with
   |.ref i p=>some (.ref i (p ++ [(f,o)]))
   |.fp d=>match jW d f o with
    |some e=>some (.fp e)
    |none=>none
   |_=>none
  |none=>none
 |_=>none
theorem VP {y:Ty} {g:G} {σ:ak} {w:World} {N:Nat->Prop} {a:Act} {o:Oper} {t f:Nat} {x:Operand} {dx d:D} (hy:aK P t y) (ho:o.op = .fieldAddr t x f) (h:FX y f dx=some d) (R:Rel g σ w)
 (hx:VR g dx (a.eval x)):Does P o a w (Out g σ w N d []):=by
 unfold FX at h;obtain⟨u,hu,-,hk⟩:=hy.und;split at h
 case h_2=>simp at h
 rename_i fl hfl;rw[hfl]at hk;split at h
 case h_2=>simp at h
 rename_i off s ag hf;cases u <;> simp only[aO]at hk;rename_i fields;obtain⟨fd,h1,h2,h3,h4,h5⟩:=Dw _ _ _ _ _ _ hk hf;have h1':fields[f]? = some fd:=by simpa using h1
 have run:∀ b c,(Instr.fieldAt t (.pointer (some ⟨b,c,none⟩)) f).run P w = .ok (.pointer (some ⟨b,c+off,none⟩)) w:=by
  intro b c;simp[Instr.fieldAt,run_underlying hu,h1',Instr.sureAddr,fieldPlace,ek h3,h4,jJ,h2]
 split at h
 · rename_i i p;simp only[Option.some.injEq]at h;subst h;simp only[VR,CR,List.cons.injEq,and_true]at hx;obtain⟨l,hl,hx⟩:=hx;refine Does.val (v := .pointer (some ⟨l.b,l.o+bn p+off,none⟩)) (w':=w) ?_ (Out.pure R ?_)
   · simp[execOp,ho,hx,run]
   · simp only[VR,CR,Js,bn];exact⟨l,hl,by simp[Nat.add_assoc]⟩
 · split at h
   case h_2=>simp at h
   rename_i e he;simp only[Option.some.injEq]at h;subst h;simp only[VR,CR,List.cons.injEq,and_true]at hx;obtain⟨b,c,blk,n,hx,hm,hl,hcr⟩:=hx;refine Does.val (v := .pointer (some ⟨b,c+off,none⟩)) (w':=w) ?_ (Out.pure R (KO hm hl hcr he));simp[execOp,ho,hx,run]
 · simp at h
theorem Jt {g:G} {e:D} {c:List Value} {t o s:Nat} {b:Bool} {w:World} (H:CR g false e ((c.drop o).take s)) (h1:tO P t b) (h2:jl P t s) (h3:jm e=b) :
 ∃ v,(part t ⟨c⟩ o).run P w = .ok v w/\VR g e v:=by
 obtain⟨v,hv,hc,_⟩:=BV H;refine⟨v,?_,hv⟩;simp only[part,Sem.run_bind,yV h1,Result.andThen_ok];rcases hc with⟨ha,rfl⟩|⟨ha,hc⟩
 · rw[← h3,ha];simp[ek h2]
 · rw[← h3,ha];have:c[o]? = some v:=by
    have:=congrArg (·[0]?) hc;simp only[List.getElem?_take,List.getElem?_drop]at this;split at this
    · simpa using this
    · simp at this
   simp[this]
def Dx (y:Ty) (f:Nat) (x:D):Option D:=match y.k with
 |.st fl=>match fl[f]? with
  |some (o,s,ag)=>match x with
   |.st _ _=>match jW x f o with
    |some e=>if(jm e == ag) && Nat.beq (sz e) s then some e else none
    |none=>none
   |_=>none
  |none=>none
 |_=>none
theorem Tf {y:Ty} {g:G} {σ:ak} {w:World} {N:Nat->Prop} {a:Act} {o:Oper} {t f:Nat} {x:Operand} {dx d:D} (hy:aK P t y) (ho:o.op = .field t x f) (h:Dx y f dx=some d) (R:Rel g σ w)
 (hx:VR g dx (a.eval x)):Does P o a w (Out g σ w N d []):=by
 unfold Dx at h;obtain⟨u,hu,-,hk⟩:=hy.und;split at h
 case h_2=>simp at h
 rename_i fl hfl;rw[hfl]at hk;split at h
 case h_2=>simp at h
 rename_i off s ag hf;cases u <;> simp only[aO]at hk;rename_i fields;obtain⟨fd,h1,h2,h3,h4,h5⟩:=Dw _ _ _ _ _ _ hk hf;have h1':fields[f]? = some fd:=by simpa using h1
 split at h
 case h_2=>simp at h
 rename_i ss ds;split at h
 case h_2=>simp at h
 rename_i e he;split at h
 case isFalse=>simp at h
 rename_i hb;simp only[Option.some.injEq]at h;subst h;simp only[Bool.and_eq_true,beq_iff_eq]at hb;have hs:=Nat.eq_of_beq_eq_true hb.2;simp only[VR,CR,wrap,if_true,List.cons.injEq,and_true]at hx;obtain⟨c,hx,hc⟩:=hx;have H:CR g false (.st ss ds) c:=by
  simp only[CR,wrap];exact⟨c,rfl,hc⟩
 have h6:=vD H he;rw[hs]at h6;obtain⟨v,h7,h8⟩:=Jt (P:=P) (w:=w) h6.1 h5 h3 hb.1;refine Does.val (v:=v) (w':=w) ?_ (Out.pure R h8);simp[execOp,ho,hx,Instr.field,run_underlying hu,h1',asAgg,h2,h7]
def lD:D->Option Nat
 |.lf (.int _ (.ofNat n))=>some n
 |_=>none
theorem sj {g:G} {d:D} {n:Nat} {v:Value} (h:lD d=some n) (H:VR g d v):∃ k,v = .int k (n:Int):=by
 unfold lD at h;split at h
 · rename_i k m;simp only[Option.some.injEq]at h;subst h;simp only[VR,CR,List.cons.injEq,and_true]at H;exact⟨k,H.1⟩
 · simp at h
def FY (y:Ty) (σ:ak) (x i:D):Option D:=match lD i with
 |some n=>match y.k with
  |.sl _ s=>match x with
   |.own _ j off k=>match σ j with
    |some (.ar s' _)=>if Nat.blt n k && Nat.beq s s' then some (.ref j [(off+n,(off+n) * s)])else none
    |_=>none
   |.sl _ s' xs=>match xs[n]? with
    |some e=>if Nat.beq s s' && Nat.beq (sz e) s then some (.fp e)else none
    |none=>none
   |_=>none
  |.ar m _ s=>match Nat.blt n m with
   |true=>match x with
    |.ref j p=>some (.ref j (p ++ [(n,n * s)]))
    |.fp d=>match jW d n (n * s)with
     |some e=>some (.fp e)
     |none=>none
    |_=>none
   |false=>none
  |_=>none
 |none=>none
theorem WR {g:G} {s n o:Nat} {xs:List D} {e:D} {blk:List Value} (hl:o+xs.length * s<=blk.length) (H:aj g (List.replicate xs.length s) xs ((blk.drop o).take (xs.length * s))) (h:xs[n]? = some e) :
 o+n * s+sz e<=blk.length/\CR g false e ((blk.drop (o+n * s)).take (sz e)):=by
 have h1:=aj.get _ _ _ n e H h;have hn:n<xs.length:=(List.getElem?_eq_some_iff.1 h).1;rw[Jq _ _ _ (by omega)]at h1;have hlen:((blk.drop o).take (xs.length * s)).length=xs.length * s:=by simp;omega
 rw[hlen]at h1;refine⟨by omega,?_⟩;have:=zk blk o (xs.length * s) (n * s) (sz e) h1.2;rw[show(List.drop o blk).take (xs.length * s)=aQ blk o (xs.length * s)from rfl,this]at h1;exact h1.1
theorem VQ {y:Ty} {g:G} {σ:ak} {w:World} {N:Nat->Prop} {a:Act} {o:Oper} {t:Nat} {x i:Operand} {dx di d:D} (hy:aK P t y) (ho:o.op = .indexAddr t x i) (h:FY y σ dx di=some d) (R:Rel g σ w)
 (hx:VR g dx (a.eval x)) (hi:VR g di (a.eval i)):Does P o a w (Out g σ w N d []):=by
 unfold FY at h;obtain⟨u,hu,-,hk⟩:=hy.und;split at h
 case h_2=>simp at h
 rename_i n hn;obtain⟨kd,hi⟩:=sj hn hi;split at h
 · rename_i e s hfl;rw[hfl]at hk;cases u <;> simp only[aO]at hk;obtain⟨rfl,hs,hs0⟩:=hk;split at h
   · rename_i _ j off k;split at h
     case h_2=>simp at h
     rename_i s' ds hc;split at h
     case isFalse=>simp at h
     rename_i hb;simp only[Bool.and_eq_true]at hb;have h1:n<k:=Nat.le_of_ble_eq_true hb.1;have h2:=Nat.eq_of_beq_eq_true hb.2;subst h2;simp only[Option.some.injEq]at h;subst h;obtain⟨l,blk,H⟩:=R.has hc rfl;have hls:l.s=s:=H.s;simp only[VR,CR,List.cons.injEq,and_true]at hx;obtain⟨l',ad,c,hl',hx,hkc,hor⟩:=hx;have:l'=l:=by have:=H.ah;rw[hl']at this;simpa using this
     subst this;have hkc:=hkc.1;rcases hor with rfl|⟨rfl,_⟩
     · omega
     refine Does.val (v := .pointer (some ⟨l'.b,l'.o+(off+n) * s,none⟩)) (w':=w) ?_ (Out.pure R ?_)
     · have h3:¬ k<=n:=by omega
       simp[execOp,ho,hx,hi,Instr.indexAt,asIntOf,run_underlying hu,ek hs,h3,jJ,hls,Nat.add_mul,Nat.add_assoc]
     · simp only[VR,CR,bn];exact⟨l',hl',by simp⟩
   · rename_i _ s' xs;split at h
     case h_2=>simp at h
     rename_i e' he;split at h
     case isFalse=>simp at h
     rename_i hb;simp only[Bool.and_eq_true]at hb;have h2:=Nat.eq_of_beq_eq_true hb.1;subst h2;simp only[Option.some.injEq]at h;subst h;have h1:n<xs.length:=(List.getElem?_eq_some_iff.1 he).1;simp only[VR,CR,List.cons.injEq,and_true]at hx;obtain⟨ad,c,hx,hkc,_,hor⟩:=hx;rcases hor with rfl|⟨b,off,blk,rfl,hm,hl,hcr⟩
     · simp at he
     have h4:=WR hl hcr he;refine Does.val (v := .pointer (some ⟨b,off+n * s,none⟩)) (w':=w) ?_ (Out.pure R ?_)
     · have h3:¬ xs.length<=n:=by omega
       simp[execOp,ho,hx,hi,Instr.indexAt,asIntOf,run_underlying hu,ek hs,h3,jJ]
     · simp only[VR,CR];exact⟨b,off+n * s,blk,sz e',rfl,hm,h4.1,h4.2⟩
   · simp at h
 · rename_i m e s hfl;rw[hfl]at hk;cases u <;> simp only[aO]at hk;obtain⟨hm0,rfl,hs,hs0⟩:=hk;subst hm0;rename_i m _;split at h
   case h_2=>simp at h
   rename_i hb;have h1:n<m:=Nat.le_of_ble_eq_true hb;have h3:¬ m<=n:=by omega
   have run:∀ b c,(Instr.indexAt t (.pointer (some ⟨b,c,none⟩)) (.int kd n)).run P w = .ok (.pointer (some ⟨b,c+n * s,none⟩)) w:=by
    intro b c;simp[Instr.indexAt,asIntOf,run_underlying hu,ek hs,h3,jJ,Instr.sureAddr]
   split at h
   · rename_i j p;simp only[Option.some.injEq]at h;subst h;simp only[VR,CR,List.cons.injEq,and_true]at hx;obtain⟨l,hl,hx⟩:=hx;refine Does.val (v := .pointer (some ⟨l.b,l.o+bn p+n * s,none⟩)) (w':=w) ?_ (Out.pure R ?_)
     · simp[execOp,ho,hx,hi,run]
     · simp only[VR,CR,Js,bn];exact⟨l,hl,by simp[Nat.add_assoc]⟩
   · split at h
     case h_2=>simp at h
     rename_i e' he;simp only[Option.some.injEq]at h;subst h;simp only[VR,CR,List.cons.injEq,and_true]at hx;obtain⟨b,c,blk,n',hx,hm,hl,hcr⟩:=hx;refine Does.val (v := .pointer (some ⟨b,c+n * s,none⟩)) (w':=w) ?_ (Out.pure R (KO hm hl hcr he));simp[execOp,ho,hx,hi,run]
   · simp at h
 · simp at h
def EN (y:Ty) (x i:D):Option D:=match y.k with
 |.str=>match lD i,x with
  |some n,.lf (.string s)=>match s[n]? with
   |some b=>some (.lf (.int .u8 b.toNat))
   |none=>none
  |_,_=>none
 |_=>none
theorem bf {g:G} {v u:Value} (h:VR g (.lf v) u):u=v:=by
 simp only[VR,CR,List.cons.injEq,and_true]at h;exact h.1
theorem bM (g:G) (v:Value):VR g (.lf v) v:=by simp[VR,CR]
theorem UJ {y:Ty} {g:G} {σ:ak} {w:World} {N:Nat->Prop} {a:Act} {o:Oper} {t:Nat} {x i:Operand} {dx di d:D} (hy:aK P t y) (ho:o.op = .index t x i) (h:EN y dx di=some d) (R:Rel g σ w)
 (hx:VR g dx (a.eval x)) (hi:VR g di (a.eval i)):Does P o a w (Out g σ w N d []):=by
 unfold EN at h;obtain⟨u,hu,-,hk⟩:=hy.und;split at h
 case h_2=>simp at h
 rename_i hfl;rw[hfl]at hk;cases u <;> simp only[aO]at hk;split at h
 case h_2=>simp at h
 rename_i n s hn;obtain⟨kd,hi⟩:=sj hn hi;split at h
 case h_2=>simp at h
 rename_i b hb;simp only[Option.some.injEq]at h;subst h;have hx:=bf hx;refine Does.val (v := .int .u8 b.toNat) (w':=w) ?_ (Out.pure R (bM _ _));simp[execOp,ho,hx,hi,Instr.index,asIntOf,run_underlying hu,hb]
def eD:Tk->Nat
 |.sl e _=>e
 |.ar _ e _=>e
 |_=>0
def DW (y ye:Ty) (x i:D):Option D:=match y.k with
 |.ar n _ s=>match lD i with
  |some k=>match Nat.blt k n with
   |true=>match x with
    |.ar _ _=>match jW x k (k * s)with
     |some e=>if wh ye e && Nat.beq ye.size s then some e else none
     |none=>none
    |_=>none
   |false=>none
  |none=>none
 |_=>none
theorem TN {y ye:Ty} {g:G} {σ:ak} {w:World} {N:Nat->Prop} {a:Act} {o:Oper} {t:Nat} {x i:Operand} {dx di d:D} (hy:aK P t y) (hye:aK P (eD y.k) ye) (ho:o.op = .index t x i) (h:DW y ye dx di=some d) (R:Rel g σ w)
 (hx:VR g dx (a.eval x)) (hi:VR g di (a.eval i)):Does P o a w (Out g σ w N d []):=by
 unfold DW at h;obtain⟨u,hu,-,hk⟩:=hy.und;split at h
 case h_2=>simp at h
 rename_i n el s hfl;rw[hfl]at hk hye;simp only[eD]at hye;cases u <;> simp only[aO]at hk;obtain⟨hn0,rfl,hs,hs0⟩:=hk;subst hn0;rename_i n _;split at h
 case h_2=>simp at h
 rename_i k hn;obtain⟨kd,hi⟩:=sj hn hi;split at h
 case h_2=>simp at h
 rename_i hb;have h1:k<n:=Nat.le_of_ble_eq_true hb;split at h
 case h_2=>simp at h
 rename_i s' ds;split at h
 case h_2=>simp at h
 rename_i e he;split at h
 case isFalse=>simp at h
 rename_i hf;simp only[Bool.and_eq_true]at hf;have hf2:=Nat.eq_of_beq_eq_true hf.2;have hf1:=uZ hf.1;simp only[Option.some.injEq]at h;subst h;simp only[VR,CR,wrap,if_true,List.cons.injEq,and_true]at hx;obtain⟨c,hx,hc⟩:=hx;have H:CR g false (.ar s' ds) c:=by
  simp only[CR,wrap];exact⟨c,rfl,hc⟩
 have h6:=vD H he;rw[hf1.2,hf2]at h6;obtain⟨v,h7,h8⟩:=Jt (P:=P) (w:=w) h6.1 (hf1.1 ▸ hye.ag) hs rfl;refine Does.val (v:=v) (w':=w) ?_ (Out.pure R h8);have h3:¬ n<=k:=by omega
 simp[execOp,ho,hx,hi,Instr.index,asIntOf,run_underlying hu,ek hs,h3,h7]
def EO (x:D) (k:Nat):Option D:=match x with
 |.tu ds=>ds[k]?
 |_=>none
theorem UK {g:G} {σ:ak} {w:World} {N:Nat->Prop} {a:Act} {o:Oper} {k:Nat} {x:Operand} {dx d:D} (ho:o.op = .extract x k) (h:EO dx k=some d) (R:Rel g σ w)
 (hx:VR g dx (a.eval x)):Does P o a w (Out g σ w N d []):=by
 unfold EO at h;split at h
 case h_2=>simp at h
 simp only[VR,CR,List.cons.injEq,and_true,true_and]at hx;obtain⟨vs,hx,hc⟩:=hx;obtain⟨v,h1,h2⟩:=ay.get _ _ _ _ hc h;refine Does.val (v:=v) (w':=w) ?_ (Out.pure R h2);simp[execOp,ho,hx,Instr.extract,h1]
def EP (x:D):Option D:=match x with
 |.ref _ _ | .fp _=>some x
 |.fn (.func _) _ _=>some x
 |_=>none
theorem UL {g:G} {σ:ak} {w:World} {N:Nat->Prop} {a:Act} {o:Oper} {x:Operand} {dx d:D} (ho:o.op = .nilCheck x) (h:EP dx=some d) (R:Rel g σ w)
 (hx:VR g dx (a.eval x)):Does P o a w (Out g σ w N d []):=by
 unfold EP at h;have hx':=hx;split at h <;> try (simp at h;done)
 all_goals
  simp only[Option.some.injEq]at h;subst h;simp only[VR,CR,List.cons.injEq,and_true]at hx
 · obtain⟨l,_,hx⟩:=hx;exact Does.val (v:=a.eval x) (w':=w) (by simp[execOp,ho,hx]) (Out.pure R hx')
 · obtain⟨b,c,blk,n,hx,_⟩:=hx;exact Does.val (v:=a.eval x) (w':=w) (by simp[execOp,ho,hx]) (Out.pure R hx')
 · obtain⟨b,c,hx,_⟩:=hx;exact Does.val (v:=a.eval x) (w':=w) (by simp[execOp,ho,hx]) (Out.pure R hx')
def A8:D->Option Nat
 |.own _ _ _ n=>some n
 |.sl _ _ xs=>some xs.length
 |.e0=>some 0
 |.lf (.slice none n _)=>some n
 |.lf (.string s)=>some s.size
 |_=>none
theorem VS {g:G} {d:D} {n:Nat} {v:Value} (h:A8 d=some n) (H:VR g d v):(∃ a c,v = .slice a n c)\/(∃ s,v = .string s/\s.size=n):=by
 unfold A8 at h;split at h <;> simp only[Option.some.injEq,reduceCtorEq]at h <;> subst h
 · simp only[VR,CR,List.cons.injEq,and_true]at H;obtain⟨l,a,c,_,rfl,_⟩:=H;exact .inl ⟨_,_,rfl⟩
 · simp only[VR,CR,List.cons.injEq,and_true]at H;obtain⟨a,c,rfl,_⟩:=H;exact .inl ⟨_,_,rfl⟩
 · simp only[VR,CR,List.cons.injEq,and_true]at H;obtain⟨a,rfl⟩:=H;exact .inl ⟨_,_,rfl⟩
 · exact .inl ⟨_,_,bf H⟩
 · exact .inr ⟨_,bf H,rfl⟩
def ER (y:Ty) (x:D):Option D:=match y.k,x with
 |.sl _ _,.lf (.string _)=>none
 |.sl _ _,x=>match A8 x with
  |some n=>some (.lf (goInt n))
  |none=>none
 |.str,.lf (.string s)=>some (.lf (goInt s.size))
 |.ar n _ _,_=>some (.lf (goInt n))
 |_,_=>none
theorem UM {y:Ty} {w:World} {g:G} {t ty:Nat} {dx d:D} {v:Value} (hy:aK P t y) (h:ER y dx=some d) (hx:VR g dx v) :
 ∃ u,(Builtin.len_ #[t] ty #[v]).run P w = .ok u w/\VR g d u:=by
 unfold ER at h;obtain⟨u,hu,-,hk⟩:=hy.und;split at h
 · simp at h
 · rename_i hfl hne;rw[hfl]at hk;cases u <;> simp only[aO]at hk;split at h
   case h_2=>simp at h
   rename_i n hn;simp only[Option.some.injEq]at h;subst h;rcases VS hn hx with⟨a,c,rfl⟩|⟨s,rfl,rfl⟩
   · exact⟨_,by simp[Builtin.len_,run_underlying hu],bM _ _⟩
   · exfalso;unfold A8 at hn;split at hn
     · simp[VR,CR]at hx
     · simp[VR,CR]at hx
     · simp[VR,CR]at hx
     · have:=bf hx;simp at this
     · exact hne _ rfl
     · simp at hn
 · rename_i s hfl;rw[hfl]at hk;cases u <;> simp only[aO]at hk;simp only[Option.some.injEq]at h;subst h;have hx:=bf hx;subst hx;exact⟨_,by simp[Builtin.len_,run_underlying hu],bM _ _⟩
 · rename_i n e s hfl;rw[hfl]at hk;cases u <;> simp only[aO]at hk;obtain⟨rfl,_⟩:=hk;simp only[Option.some.injEq]at h;subst h;exact⟨_,by simp[Builtin.len_,run_underlying hu],bM _ _⟩
 · simp at h
end Go.Proofs.YtadecgbblajifaaGreatDoor.DV
namespace Go.Proofs.YtadecgbblajifaaGreatDoor
end Go.Proofs.YtadecgbblajifaaGreatDoor
namespace Go.Proofs.YtadecgbblajifaaGreatDoor.DV
open Go
variable {P:Program}
def qR : {α:Type} -> Sem α->Option α
 |_,.pure a=>some a
 |_,_=>none
theorem su {α:Type} {s:Sem α} {x:α} (h:qR s=some x) (w:World):s.run P w = .ok x w:=by
 cases s <;> simp only[qR,Option.some.injEq,reduceCtorEq]at h;subst h;rfl
def sJ:Value->Bool
 |.nilIface | .agg _=>false
 |_=>true
theorem uS {op:BinOp} {t:Nat} {x y:Operand} {a b:Value} (h:sJ a=true\/sJ b=true) (w:World):(eqGuard op t x y a b).run P w = .ok () w:=by
 unfold eqGuard;have key:(match a,b with
  |.nilIface,.nilIface=>(do
   if(x matches .const _) || (y matches .const _)then return
   if ← Op.eqGuardIn Op.maxDepth t a b then unsupported (.noEntry "binop/eql: two nil values of an interface type with methods, neither of them the literal nil") : Sem Unit)
  |.agg _,.agg _=>do
   if !(← program).eqGuardType (← program).depth t then return
   if ← Op.eqGuardIn Op.maxDepth t a b then unsupported (.noEntry "binop/eql: two nil values of an interface type with methods, in a part of a struct or an array")
  |_,_=>pure ())=pure ():=by
  split
  · simp[sJ]at h
  · simp[sJ]at h
  · rfl
 split
 · simp only[Bool.not_true,Bool.false_eq_true,if_false];exact congrArg (λs=>Sem.run P s w) key
 · simp only[Bool.not_true,Bool.false_eq_true,if_false];exact congrArg (λs=>Sem.run P s w) key
 · rfl
theorem RP {op:BinOp} {t:Nat} {x:Operand} (v:Value) (w:World):(eqGuard op t x (.const v) .nilIface .nilIface).run P w = .ok () w:=by
 unfold eqGuard;split <;> simp
def isConst:Operand->Bool
 |.const _=>true
 |_=>false
def ES:Tk->D->Value->Option Bool
 |.sl _ _,.own _ _ _ _,.slice none _ _ | .sl _ _,.sl _ _ (_ :: _),.slice none _ _ | .sl _ _,.e0,.slice none _ _=>some false
 |.sl _ _,.lf (.slice none _ _),.slice none _ _=>some true
 |.pt _,.ref _ _,.pointer none | .pt _,.fp _,.pointer none=>some false
 |.pt _,.lf (.pointer none),.pointer none=>some true
 |.fu,.fn _ _ _,.nilFunc=>some false
 |.fu,.lf .nilFunc,.nilFunc=>some true
 |.dZ,.dZ _ _,.nilIface=>some false
 |.dZ,.lf .nilIface,.nilIface=>some true
 |_,_,_=>none
def uL (op:BinOp) (b:Bool):Option D:=match op with
 |.eql=>some (.lf (.bool b))
 |.neq=>some (.lf (.bool (!b)))
 |_=>none
def ny:List Tk->List D->List D->Option Bool
 | [],[],[]=>some true
 |k :: ks,.lf a :: ds,.lf b :: es=>match k,a,b with
  |.it _,.int j u,.int j' v=>if j=j' then match u == v with
   |true=>ny ks ds es
   |false=>some false else none
  |.bo,.bool u,.bool v=>match u == v with
   |true=>ny ks ds es
   |false=>some false
  |.str,.string u,.string v=>match u.toList == v.toList with
   |true=>ny ks ds es
   |false=>some false
  |_,_,_=>none
 |_,_,_=>none
theorem KQ {g:G} {s:Nat} {ss:List Nat} {v:Value} {ds:List D} {c:List Value} (h:aj g (s :: ss) (.lf v :: ds) c):∃ c',c=v :: c'/\aj g ss ds c':=by
 simp only[aj,CR]at h;obtain⟨h1,⟨h2,_⟩,h3⟩:=h;have h4:=congrArg List.length h2;simp only[List.length_take,List.length_singleton]at h4;have hs:s=1:=by omega
 subst hs;refine⟨c.drop 1,?_,h3⟩;have:=List.take_append_drop 1 c;rw[h2]at this;exact this.symm
theorem J2 {g:G} {w:World} {n:Nat} : ∀ (ks:List Tk) (ds es:List D) (ss ss':List Nat) (pre pre' c c':List Value) (fs:List Field) (b:Bool),ny ks ds es=some b->aj g ss ds c->aj g ss' es c'->tQ P pre.length fs ks->pre'.length=pre.length ->
 (Op.eqFields (n+1) ⟨pre ++ c⟩ ⟨pre' ++ c'⟩ fs).run P w = .ok b w
 | [],ds,es,ss,ss',pre,pre',c,c',fs,b,h,_,_,hf,_=>by
  cases fs with
  |nil =>
   cases ds <;> cases es <;> simp[ny]at h;subst h;rfl
  |cons _ _=>simp[tQ]at hf
 |k :: ks,ds,es,ss,ss',pre,pre',c,c',fs,b,h,h1,h2,hf,hp=>by
  cases fs with
  |nil=>simp[tQ]at hf
  |cons f fs =>
   obtain⟨hf1,hf2,⟨u,hu,hk⟩,hf3,_Y⟩:=hf;unfold ny at h;split at h
   · simp at *
   · rename_i k' ks' x ds' z es' hq;simp only[List.cons.injEq]at hq;obtain⟨rfl,rfl⟩:=hq;cases ss with
     |nil=>simp[aj]at h1
     |cons s ss =>
     cases ss' with
     |nil=>simp[aj]at h2
     |cons s' ss' =>
     obtain⟨c1,rfl,h1'⟩:=KQ h1;obtain⟨c2,rfl,h2'⟩:=KQ h2;have hag:tO P f.type false:=⟨u,hu,by cases k <;> simp[EL]at hf3 <;> cases u <;> simp[aO]at hk <;> rfl⟩;have e1:(part f.type ⟨pre ++ x :: c1⟩ f.offset).run P w = .ok x w:=by
      simp[part,yV hag,hf2]
     have e2:(part f.type ⟨pre' ++ z :: c2⟩ f.offset).run P w = .ok z w:=by
      simp[part,yV hag,hf2,← hp]
     have ih:∀ b,ny ks ds' es'=some b->(Op.eqFields (n+1) ⟨pre ++ x :: c1⟩ ⟨pre' ++ z :: c2⟩ fs).run P w = .ok b w:=by
      intro b hb;have:=J2 (w:=w) (n:=n) ks ds' es' ss ss' (pre ++ [x]) (pre' ++ [z]) c1 c2 fs b hb h1' h2' (by simpa using _Y) (by simp[hp])
      simpa using this
     have step:∀ r,(Op.equalIn (n+1) f.type x z).run P w = .ok r w->(match r with|true=>ny ks ds' es' | false=>some false)=some b->(Op.eqFields (n+1) ⟨pre ++ x :: c1⟩ ⟨pre' ++ z :: c2⟩ (f :: fs)).run P w = .ok b w:=by
      intro r hr hb;simp only[Op.eqFields,hf1,ne_eq,not_false_eq_true,if_true,Sem.run_bind,e1,e2,hr,Result.andThen_ok];cases r with
      |true=>simpa using ih b hb
      |false=>simp only[Option.some.injEq]at hb;subst hb;simp
     split at h
     · cases u <;> simp only[aO]at hk;split at h
       · rename_i hj;subst hj;exact step _ (run_equalIn_int w n f.type _ _ _ _ hu) h
       · simp at h
     · cases u <;> simp only[aO]at hk;exact step _ (run_equalIn_bool' w n f.type _ _ hu) h
     · cases u <;> simp only[aO]at hk;exact step _ (run_equalIn_string w n f.type _ _ hu) h
     · simp at h
   · simp at h
def ET (y:Ty) (op:BinOp) (yo:Operand) (a:D):D->Option D
 |.lf v=>match a,v with
  |.lf (.bool u),.bool v=>match y.k with
   |.bo=>uL op (u == v)
   |_=>none
  |.lf (.int j u),.int k v=>match qR (binOp op 0 (.int j u) (.int k v))with
   |some r=>some (.lf r)
   |none=>none
  |.lf (.string u),.string v=>match qR (binOp op 0 (.string u) (.string v))with
   |some r=>some (.lf r)
   |none=>none
  |a,v=>match ES y.k a v,isConst yo with
   |some b,true=>uL op b
   |_,_=>none
 |.st _ es=>match a,y.cmp with
  |.st _ ds,k :: ks=>match ny (k :: ks) ds es with
   |some b=>uL op b
   |none=>none
  |_,_=>none
 |_=>none
theorem J3 {op:BinOp} {b:Bool} {d:D} {t:Nat} {x z:Value} {w:World} (h:uL op b=some d) (he:(Op.equal t x z).run P w = .ok b w) (h1:binOp .eql t x z=(do pure (.bool (← Op.equal t x z)))) (h2:binOp .neq t x z=(do pure (.bool (!(← Op.equal t x z))))) (g:G) :
 ∃ v,(binOp op t x z).run P w = .ok v w/\VR g d v:=by
 unfold uL at h;split at h <;> simp only[Option.some.injEq,reduceCtorEq]at h <;> subst h
 · exact⟨_,by rw[h1];simp[he],bM _ _⟩
 · exact⟨_,by rw[h2];simp[he],bM _ _⟩
theorem TP {y:Ty} {g:G} {t:Nat} {a:D} {v x:Value} {b:Bool} {w:World} (hy:aK P t y) (h:ES y.k a v=some b) (hx:VR g a x) :
 (∀ n,(Op.equalIn (n+1) t x v).run P w = .ok b w)/\binOp .eql t x v=(do pure (.bool (← Op.equal t x v)))/\binOp .neq t x v=(do pure (.bool (!(← Op.equal t x v))))/\(sJ x=true\/sJ v=true\/(x = .nilIface/\v = .nilIface)):=by
 obtain⟨d,hu,-,hk⟩:=hy.und;generalize y.k=k at h hk;unfold ES at h;split at h <;> simp only[Option.some.injEq,reduceCtorEq]at h <;> subst h <;> cases d <;> simp only[aO]at hk <;> simp only[VR,CR,List.cons.injEq,and_true]at hx
 · obtain⟨l,a,c,_,rfl,_⟩:=hx;exact⟨λn=>by simp[Op.equalIn,run_underlying hu],rfl,rfl,.inl rfl⟩
 · obtain⟨ad,c,rfl,_,_,hor⟩:=hx;rcases hor with hor|⟨b,o,blk,rfl,_⟩
   · simp at hor
   exact⟨λn=>by simp[Op.equalIn,run_underlying hu],rfl,rfl,.inl rfl⟩
 · obtain⟨b,rfl⟩:=hx;exact⟨λn=>by simp[Op.equalIn,run_underlying hu],rfl,rfl,.inl rfl⟩
 · obtain⟨rfl,_⟩:=hx;exact⟨λn=>by simp[Op.equalIn,run_underlying hu],rfl,rfl,.inl rfl⟩
 · obtain⟨l,_,rfl⟩:=hx;exact⟨λn=>by simp[Op.equalIn,run_underlying hu],rfl,rfl,.inl rfl⟩
 · obtain⟨b,o,blk,k,rfl,_⟩:=hx;exact⟨λn=>by simp[Op.equalIn,run_underlying hu],rfl,rfl,.inl rfl⟩
 · obtain⟨rfl,_⟩:=hx;exact⟨λn=>by simp[Op.equalIn,run_underlying hu],rfl,rfl,.inl rfl⟩
 · obtain⟨a,b,rfl,_⟩:=hx;exact⟨λn=>by simp[Op.equalIn,run_underlying hu],rfl,rfl,.inl rfl⟩
 · obtain⟨rfl,_⟩:=hx;exact⟨λn=>by simp[Op.equalIn,run_underlying hu],rfl,rfl,.inl rfl⟩
 · obtain⟨v,rfl,_⟩:=hx;exact⟨λn=>by simp[Op.equalIn,run_underlying hu],rfl,rfl,.inl rfl⟩
 · obtain⟨rfl,_⟩:=hx;exact⟨λn=>by simp[Op.equalIn,run_underlying hu],rfl,rfl,.inr (.inr ⟨rfl,rfl⟩)⟩
theorem TQ (op:BinOp) (t s:Nat) (j k:IntKind) (u v:Int):binOp op t (.int j u) (.int k v)=binOp op s (.int j u) (.int k v):=by cases op <;> rfl
theorem TR (op:BinOp) (t s:Nat) (u v:ByteArray):binOp op t (.string u) (.string v)=binOp op s (.string u) (.string v):=by cases op <;> rfl
theorem UN {y:Ty} {g:G} {σ:ak} {w:World} {N:Nat->Prop} {a:Act} {o:Oper} {op:BinOp} {t s:Nat} {x z:Operand} {dx dz d:D} (hy:aK P t y) (ho:o.op = .binOp op t x z s) (h:ET y op z dx dz=some d) (R:Rel g σ w)
 (hx:VR g dx (a.eval x)) (hz:VR g dz (a.eval z)):Does P o a w (Out g σ w N d []):=by
 unfold ET at h;obtain⟨u,hu,-,hk⟩:=hy.und;split at h
 case h_3=>simp at h
 case h_2 =>
  rename_i ss' es;split at h
  case h_2=>simp at h
  rename_i ss ds k ks hcm;have hcm:=hcm;split at h
  case h_2=>simp at h
  rename_i b hb;obtain⟨fs,h1,h2,h3,h4⟩:=hy.cm (by rw[hcm];simp);rw[hcm]at h4;simp only[VR,CR,wrap,if_true,List.cons.injEq,and_true]at hx hz;obtain⟨c,hx,hc⟩:=hx;obtain⟨c',hz,hc'⟩:=hz;have hfo:P.fieldsOf t=fs:=by simp[Program.fieldsOf,h1]
  have hr:=run_equalIn_agg (P:=P) w 9999 t ⟨c⟩ ⟨c'⟩ (by rw[hfo];exact h1) h2;have he:=J2 (P:=P) (w:=w) (n:=9998) _ _ _ _ _ [] [] c c' _ b hb hc hc' h4 rfl;rw[hfo]at hr;have hr':(Op.equalIn 10000 t (.agg ⟨c⟩) (.agg ⟨c'⟩)).run P w = .ok b w:=hr.trans he;have hg:=run_eqGuard_agg (P:=P) w op t x z ⟨c⟩ ⟨c'⟩ h3;unfold uL at h;split at h <;> simp only[Option.some.injEq,reduceCtorEq]at h <;> subst h
  · refine Does.val (w':=w) ?_ (Out.pure R (bM _ _));simp[execOp,ho,hx,hz,hg,run_eql_struct,hr']
  · refine Does.val (w':=w) ?_ (Out.pure R (bM _ _));simp[execOp,ho,hx,hz,hg,run_neq_struct,hr']
 rename_i v;have hz:=bf hz;have fin:∀ r,(eqGuard op t x z (a.eval x) v).run P w = .ok () w->(binOp op t (a.eval x) v).run P w = .ok r w->VR g d r->Does P o a w (Out g σ w N d []):=by
  intro r h1 h2 h3;refine Does.val (v:=r) (w':=w) ?_ (Out.pure R h3);simp[execOp,ho,hz,h1,h2]
 split at h
 · rename_i p q _;split at h
   case h_2=>simp at h
   rename_i hf;rw[hf]at hk;cases u <;> simp only[aO]at hk;have hx:=bf hx;obtain⟨r,h1,h2⟩:=J3 (P:=P) (t:=t) (x := .bool p) (z := .bool q) (w:=w) h (run_equal_bool w t p q hu) rfl rfl g;rw[hx]at fin;exact fin r (uS (.inl rfl) w) h1 h2
 · split at h
   case h_2=>simp at h
   rename_i r hr;simp only[Option.some.injEq]at h;subst h;have hx:=bf hx;rw[hx]at fin;exact fin r (uS (.inl rfl) w) (by rw[TQ op t 0];exact su hr w) (bM _ _)
 · split at h
   case h_2=>simp at h
   rename_i r hr;simp only[Option.some.injEq]at h;subst h;have hx:=bf hx;rw[hx]at fin;exact fin r (uS (.inl rfl) w) (by rw[TR op t 0];exact su hr w) (bM _ _)
 · split at h
   case h_2=>simp at h
   rename_i b hb hc;have h1:=TP (w:=w) hy hb hx;obtain⟨r,h2,h3⟩:=J3 (P:=P) h (h1.1 9999) h1.2.1 h1.2.2.1 g;refine fin r ?_ h2 h3;rcases h1.2.2.2 with h4|h4|⟨h4,rfl⟩
   · exact uS (.inl h4) w
   · exact uS (.inr h4) w
   · rw[h4];cases z <;> simp only[isConst,Bool.false_eq_true]at hc;exact RP _ w
def FZ (op:UnOp):D->Option D
 |.lf v=>match qR (Op.unary op v)with
  |some r=>some (.lf r)
  |none=>none
 |_=>none
theorem VT {g:G} {σ:ak} {w:World} {N:Nat->Prop} {a:Act} {o:Oper} {op:UnOp} {t:Nat} {x:Operand} {dx d:D} (ho:o.op = .unOp op t x) (h:FZ op dx=some d) (R:Rel g σ w)
 (hx:VR g dx (a.eval x)):Does P o a w (Out g σ w N d []):=by
 unfold FZ at h;split at h
 case h_2=>simp at h
 split at h
 case h_2=>simp at h
 rename_i r hr;simp only[Option.some.injEq]at h;subst h;have hx:=bf hx;refine Does.val (v:=r) (w':=w) ?_ (Out.pure R (bM _ _));simp[execOp,ho,hx,su hr]
def DX (ys yd:Ty):D->Option D
 |.lf (.int _ n)=>match yd.k,ys.k with
  |.it k,.it _=>some (.lf (.int k (k.wrap n)))
  |_,_=>none
 |.lf (.string s)=>match yd.k,ys.k with
  |.str,.str=>some (.lf (.string s))
  |_,_=>none
 |_=>none
theorem TS {ys yd:Ty} {g:G} {σ:ak} {w:World} {N:Nat->Prop} {a:Act} {o:Oper} {s t:Nat} {x:Operand} {dx d:D} (hs:aK P s ys) (hd:aK P t yd) (ho:o.op = .convert s t x) (h:DX ys yd dx=some d) (R:Rel g σ w)
 (hx:VR g dx (a.eval x)):Does P o a w (Out g σ w N d []):=by
 unfold DX at h;obtain⟨u,hu,-,hk⟩:=hs.und;obtain⟨u',hu',-,hk'⟩:=hd.und;split at h
 · split at h
   case h_2=>simp at h
   rename_i k j h1 h2;rw[h2]at hk;rw[h1]at hk';cases u <;> simp only[aO]at hk;cases u' <;> simp only[aO]at hk';subst hk hk';simp only[Option.some.injEq]at h;subst h;have hx:=bf hx;refine Does.val (w':=w) ?_ (Out.pure R (bM _ _));simp[execOp,ho,hx,convert,run_underlying hu,run_underlying hu',Conv.intToInt]
 · split at h
   case h_2=>simp at h
   rename_i h1 h2;rw[h2]at hk;rw[h1]at hk';cases u <;> simp only[aO]at hk;cases u' <;> simp only[aO]at hk';simp only[Option.some.injEq]at h;subst h;have hx:=bf hx;refine Does.val (w':=w) ?_ (Out.pure R (bM _ _));simp[execOp,ho,hx,convert,run_underlying hu,run_underlying hu']
 · simp at h
def F3 (ys:Ty) (t:Nat) (x:D):Option D:=match ys.k with
 |.dZ=>none
 |.ot=>none
 |_=>some (.dZ t x)
theorem VU {y:Ty} {g:G} {σ:ak} {w:World} {N:Nat->Prop} {a:Act} {o:Oper} {t:Nat} {x:Operand} {dx d:D} (hy:aK P t y) (ho:o.op = .makeInterface t x) (h:F3 y t dx=some d) (R:Rel g σ w)
 (hx:VR g dx (a.eval x)):Does P o a w (Out g σ w N d []):=by
 unfold F3 at h;obtain⟨u,hu,-,hk⟩:=hy.und;have hn:∀ m,u ≠ .interface m:=by
  rintro m rfl
  revert h
  cases hf:y.k <;> rw[hf]at hk <;> simp[aO]at hk ⊢
 have he:d = .dZ t dx:=by
  split at h <;> simp only[Option.some.injEq,reduceCtorEq]at h;exact h.symm
 subst he;refine Does.val (v := .iface t (a.eval x)) (w':=w) ?_ (Out.pure R ?_)
 · simp only[execOp,ho,Instr.makeInterface,Sem.run_bind,run_underlying hu,Result.andThen_ok];cases u <;> first|rfl|(exact absurd rfl (hn _))
 · simp only[VR,CR];exact⟨_,rfl,hx⟩
def dmap (f:Operand->D):List Operand->List D
 | []=>[]
 |x :: l=>f x :: dmap f l
theorem vE {g:G} {a:Act} {get:Operand->D} (H:∀ x,VR g (get x) (a.eval x)):∀ l:List Operand,ay g (dmap get l) (l.map a.eval)
 | []=>by simp[dmap,ay]
 |x :: l=>by
  simp only[dmap,ay,List.map_cons];exact⟨_,_,rfl,H x,vE H l⟩
theorem VV {g:G} {σ:ak} {w:World} {N:Nat->Prop} {a:Act} {o:Oper} {f:Fn} {x z:Array Operand} {get:Operand->D} (ho:o.op = .makeFunc f x z) (R:Rel g σ w)
 (H:∀ x,VR g (get x) (a.eval x)):Does P o a w (Out g σ w N (.fn f (dmap get x.toList) (dmap get z.toList)) []):=by
 have e:∀ x:Array Operand,x.map a.eval=⟨x.toList.map a.eval⟩:=λx=>by apply Array.ext';simp
 refine Does.val (v := .func f ⟨x.toList.map a.eval⟩ ⟨z.toList.map a.eval⟩) (w':=w) ?_ (Out.pure R ?_)
 · simp[execOp,ho,Instr.makeFunc,e]
 · simp only[VR,CR];exact⟨_,_,rfl,vE H x.toList,vE H z.toList⟩
end Go.Proofs.YtadecgbblajifaaGreatDoor.DV
namespace Go.Proofs.YtadecgbblajifaaGreatDoor
end Go.Proofs.YtadecgbblajifaaGreatDoor
