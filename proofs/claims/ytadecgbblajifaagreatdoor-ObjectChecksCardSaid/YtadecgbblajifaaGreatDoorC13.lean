import Derived.Test.YtadecgbblajifaaGreatDoorC12
set_option linter.unusedSimpArgs false
set_option linter.unusedVariables false
set_option maxRecDepth 100000
set_option maxHeartbeats 25600000
namespace Go.Proofs.YtadecgbblajifaaGreatDoor
end Go.Proofs.YtadecgbblajifaaGreatDoor
namespace Go.Proofs.YtadecgbblajifaaGreatDoor.DV
open Go
noncomputable section
variable {P:Program} {C:Cx} {B:Base} {r:Option Nat}
def aW:List (Nat × Option D)->Tr D
 | [] => .e
 |(k,d) :: l=>bz (aW l) k d
def lk:List (Nat × Option D)->Nat->Option D
 | [],_=>none
 |(k,d) :: l,j=>match Nat.beq k j with
  |true=>d
  |false=>lk l j
theorem lQ:∀ (l:List (Nat × Option D)) (j:Nat),aG (aW l) j=lk l j
 | [],_=>rfl
 |(k,d) :: l,j=>by
  rw[aW,ic,lk,lQ l]
  by_cases h:j=k
  · subst h;simp
  · rw[if_neg h]
    have:Nat.beq k j=false:=by
     cases hb:Nat.beq k j with
     |false=>rfl
     |true=>exact absurd (Nat.eq_of_beq_eq_true hb).symm h
    rw[this]
abbrev Z (tm st:List (Nat × Option D)) (nx n:Nat):S:=⟨aW tm,aW st,nx,n,[],[],false⟩
def dl (l:List (Nat × Option D)) (k:Nat):D:=match lk l k with
 |some d=>d
 |none => .aO
theorem nH (l:List (Nat × Option D)) (k:Nat):aV (aW l) k=dl l k:=by
 simp only[aV,lQ,dl]
 cases lk l k <;> rfl
def fT (gl:Nat->D) (l:List (Nat × Option D)):Operand->D
 |.tmp k=>dl l k
 |.const v => .lf v
 |.global g=>gl g
 |.func f => .fn (.func f) [] []
theorem uI (gl:Nat->D) (l:List (Nat × Option D)):eD gl (aW l)=fT gl l:=by
 funext x
 cases x <;> simp only[eD,fT,nH]
def dQ (n:Nat) (dst:Option Nat) (d:D) (l:List (Nat × Option D)):List (Nat × Option D):=match dst with
 |some k=>match Nat.blt k n with
  |true=>(k,some d) :: l
  |false=>l
 |none=>l
theorem o5 (n:Nat) (dst:Option Nat) (d:D) (l:List (Nat × Option D)):dH n (aW l) dst d=aW (dQ n dst d l):=by
 unfold dH dQ
 cases dst with
 |none=>rfl
 |some k=>cases h:Nat.blt k n <;> simp only[h] <;> rfl
def gV:Eff->List (Nat × Option D)->List (Nat × Option D)
 | [],l=>l
 |(i,d) :: e,l=>(i,d) :: gV e l
theorem xY:∀ (e:Eff) (l:List (Nat × Option D)),gG e (aW l)=aW (gV e l)
 | [],_=>rfl
 |(i,d) :: e,l=>by rw[gG,xY e,gV];rfl
def dE (all:Array Oper) (l:List (Nat × Option D)) (o:Oper):Option Bool:=match o.guard with
 |none=>some true
 |some (j,b)=>match iV all.toList j with
  |some oj=>match oj.dst with
   |some d=>match dl l d with
    |.lf (.bool c)=>some (c == b)
    |.tu _=>some false
    |_=>none
   |none=>none
  |none=>none
theorem oP (all:Array Oper) (l:List (Nat × Option D)) (o:Oper):want all (aW l) o=dE all l o:=by
 unfold want dE yl
 split
 · rename_i h;simp[h]
 · rename_i j b h
   simp only[h]
   cases iV all.toList j with
   |none=>rfl
   |some oj =>
    simp only
    cases oj.dst with
    |none=>rfl
    |some d =>
     simp only[nH]
     cases dl l d <;> try rfl
     rename_i v
     cases v <;> rfl
theorem rD (hC:bZ P C.T) {all:Array Oper} {l:List Oper} {o:Oper} {tm st:List (Nat × Option D)} {nx n:Nat} {K:S->Prop} {d:D} {e:Eff} (hw:dE all tm o=some true) (he:eT C.T (lk st) nx (fT C.gl tm) o.op=some (d,e))
 (h:aU P C B r all l (Z (dQ n o.dst d tm) (gV e st) (nx+1) n) K):aU P C B r all (o :: l) (Z tm st nx n) K:=by
 refine LH hC (by simpa only[oP]using hw) (d:=d) (e:=e) ?_ (by simpa only[o5,xY]using h)
 have:ak (aW st)=lk st:=by funext i;exact lQ st i
 simp only[this,uI]
 exact he
theorem LJ {all:Array Oper} {l:List Oper} {o:Oper} {tm st:List (Nat × Option D)} {nx n:Nat} {K:S->Prop} (hw:dE all tm o=some false) (h:aU P C B r all l (Z (dQ n o.dst (.tu []) tm) st nx n) K):aU P C B r all (o :: l) (Z tm st nx n) K :=
 JL (by simpa only[oP]using hw) (by simpa only[o5]using h)
theorem LK {all:Array Oper} {l:List Oper} {o:Oper} {c:Call} {fo:Operand} {f:Nat} {az bs:List D} {tm st:List (Nat × Option D)} {nx n:Nat} {K:S->Prop} {d:D} (hw:dE all tm o=some true) (ho:o.op = .call c) (hc:c.callee = .value fo) (hfo:fT C.gl tm fo = .fn (.func f) az bs)
 (hp:Pure P C.gl f (az ++ dmap (fT C.gl tm) c.args.toList ++ bs) d) (h:aU P C B r all l (Z (dQ n o.dst d tm) st nx n) K):aU P C B r all (o :: l) (Z tm st nx n) K :=
 JK (by simpa only[oP]using hw) ho hc (by simpa only[uI]using hfo) (by simpa only[uI]using hp) (by simpa only[o5]using h)
theorem yK {c:Operand} {x y:Code} {tm st:List (Nat × Option D)} {nx n:Nat} {K:Ex->S->Prop} {b:Bool} (hc:fT C.gl tm c = .lf (.bool b)) (h1:b=true->Run P C B r x (Z tm st nx n) K) (h2:b=false->Run P C B r y (Z tm st nx n) K):Run P C B r (.cond c x y) (Z tm st nx n) K :=
 Ky (by simpa only[uI]using hc) h1 h2
def nI:Nat->List D->List (Nat × Option D)
 |_,[]=>[]
 |k,d :: ds=>(k,some d) :: nI (k+1) ds
end
end Go.Proofs.YtadecgbblajifaaGreatDoor.DV
namespace Go.Proofs.YtadecgbblajifaaGreatDoor
end Go.Proofs.YtadecgbblajifaaGreatDoor
namespace Go.Proofs.YtadecgbblajifaaGreatDoor.DV
open Go
noncomputable section
variable {P:Program} {C:Cx} {B:Base} {r:Option Nat}
def jG:D->Option D
 |.lf v=>some (.lf v)
 |.st a b=>some (.st a b)
 |.ar a b=>some (.ar a b)
 |.sl a b c=>some (.sl a b c)
 |.fp d=>some (.fp d)
 |.ref a b=>some (.ref a b)
 |.own a b c d=>some (.own a b c d)
 |.e0=>some .e0
 |.fn a b c=>some (.fn a b c)
 |.tu a=>some (.tu a)
 |.dK a b=>some (.dK a b)
 |.mp a=>some (.mp a)
 |.aO=>some .aO
 |d=>some d
theorem lI (d:D):jG d=some d:=by cases d <;> rfl
def vZ:Option (D × Eff)->Option D
 |some (d,[])=>jG d
 |_=>none
def qi:Option (D × Eff)->Option (D × Nat × D)
 |some (d,[(i,some x)])=>match jG d,jG x with
  |some d,some x=>some (d,i,x)
  |_,_=>none
 |_=>none
def Af:Option (D × Eff)->Option (D × Nat × Nat × D)
 |some (d,[(j,none),(i,some x)])=>match jG d,jG x with
  |some d,some x=>some (d,j,i,x)
  |_,_=>none
 |_=>none
theorem D6 {o:Option (D × Eff)} {d:D} (h:vZ o=some d):o=some (d,[]):=by
 unfold vZ at h
 split at h
 · rw[lI]at h;simp only[Option.some.injEq]at h;rw[h]
 · simp at h
theorem uJ {o:Option (D × Eff)} {d x:D} {i:Nat} (h:qi o=some (d,i,x)):o=some (d,[(i,some x)]):=by
 unfold qi at h
 split at h
 · simp only[lI,Option.some.injEq,Prod.mk.injEq]at h
   obtain⟨rfl,rfl,rfl⟩:=h
   rfl
 · simp at h
theorem MP {o:Option (D × Eff)} {d x:D} {i j:Nat} (h:Af o=some (d,j,i,x)):o=some (d,[(j,none),(i,some x)]):=by
 unfold Af at h
 split at h
 · simp only[lI,Option.some.injEq,Prod.mk.injEq]at h
   obtain⟨rfl,rfl,rfl,rfl⟩:=h
   rfl
 · simp at h
theorem z0 (hC:bZ P C.T) {all:Array Oper} {l:List Oper} {o:Oper} {tm st:List (Nat × Option D)} {nx n k:Nat} {K:S->Prop} {d:D} (hw:dE all tm o=some true) (hd:o.dst=some k) (hk:Nat.blt k n=true) (he:vZ (eT C.T (lk st) nx (fT C.gl tm) o.op)=some d)
 (h:aU P C B r all l (Z ((k,some d) :: tm) st nx.succ n) K):aU P C B r all (o :: l) (Z tm st nx n) K :=
 rD hC hw (D6 he) (by simpa only[dQ,hd,hk,gV]using h)
theorem z1 (hC:bZ P C.T) {all:Array Oper} {l:List Oper} {o:Oper} {tm st:List (Nat × Option D)} {nx n k i:Nat} {K:S->Prop} {d x:D} (hw:dE all tm o=some true) (hd:o.dst=some k) (hk:Nat.blt k n=true) (he:qi (eT C.T (lk st) nx (fT C.gl tm) o.op)=some (d,i,x))
 (h:aU P C B r all l (Z ((k,some d) :: tm) ((i,some x) :: st) nx.succ n) K):aU P C B r all (o :: l) (Z tm st nx n) K :=
 rD hC hw (uJ he) (by simpa only[dQ,hd,hk,gV]using h)
theorem zs (hC:bZ P C.T) {all:Array Oper} {l:List Oper} {o:Oper} {tm st:List (Nat × Option D)} {nx n i:Nat} {K:S->Prop} {d x:D} (hw:dE all tm o=some true) (hd:o.dst=none) (he:qi (eT C.T (lk st) nx (fT C.gl tm) o.op)=some (d,i,x))
 (h:aU P C B r all l (Z tm ((i,some x) :: st) nx.succ n) K):aU P C B r all (o :: l) (Z tm st nx n) K :=
 rD hC hw (uJ he) (by simpa only[dQ,hd,gV]using h)
theorem za (hC:bZ P C.T) {all:Array Oper} {l:List Oper} {o:Oper} {tm st:List (Nat × Option D)} {nx n k i j:Nat} {K:S->Prop} {d x:D} (hw:dE all tm o=some true) (hd:o.dst=some k) (hk:Nat.blt k n=true) (he:Af (eT C.T (lk st) nx (fT C.gl tm) o.op)=some (d,j,i,x))
 (h:aU P C B r all l (Z ((k,some d) :: tm) ((j,none) :: (i,some x) :: st) nx.succ n) K):aU P C B r all (o :: l) (Z tm st nx n) K :=
 rD hC hw (MP he) (by simpa only[dQ,hd,hk,gV]using h)
theorem zk {all:Array Oper} {l:List Oper} {o:Oper} {tm st:List (Nat × Option D)} {nx n k:Nat} {K:S->Prop} (hw:dE all tm o=some false) (hd:o.dst=some k) (hk:Nat.blt k n=true) (h:aU P C B r all l (Z ((k,some (.tu [])) :: tm) st nx n) K):aU P C B r all (o :: l) (Z tm st nx n) K :=
 LJ hw (by simpa only[dQ,hd,hk]using h)
theorem zi (hC:bZ P C.T) {all:Array Oper} {l:List Oper} {o:Oper} {tm st:List (Nat × Option D)} {nx n k t j s el:Nat} {x i:Operand} {y:Ty} {tt:Bool} {xs:List D} {kd:IntKind} {K:S->Prop} {e:D} (hw:dE all tm o=some true) (hd:o.dst=some k) (hk:Nat.blt k n=true) (ho:o.op = .indexAddr t x i) (hy:C.T t=some y) (hyk:y.k = .sl el s)
 (hx:fT C.gl tm x = .sl tt s xs) (hi:fT C.gl tm i = .lf (.int kd (.ofNat j))) (he:xs[j]? = some e) (hs:sz e=s)
 (h:aU P C B r all l (Z ((k,some (.fp e)) :: tm) st nx.succ n) K):aU P C B r all (o :: l) (Z tm st nx n) K :=
 rD (d := .fp e) (e:=[]) hC hw (by simp[ho,eT,vO,hy,eB,rJ,iU,hi,hyk,hx,he,hs]) (by simpa only[dQ,hd,hk,gV]using h)
theorem zc {all:Array Oper} {l:List Oper} {o:Oper} {c:Call} {fo:Operand} {f k:Nat} {az bs:List D} {tm st:List (Nat × Option D)} {nx n:Nat} {K:S->Prop} {d:D} (hw:dE all tm o=some true) (hd:o.dst=some k) (hk:Nat.blt k n=true) (ho:o.op = .call c) (hc:c.callee = .value fo) (hfo:fT C.gl tm fo = .fn (.func f) az bs)
 {as':List D} (ha:az ++ dmap (fT C.gl tm) c.args.toList ++ bs=as') (hp:Pure P C.gl f as' d) (h:aU P C B r all l (Z ((k,some d) :: tm) st nx n) K):aU P C B r all (o :: l) (Z tm st nx n) K :=
 LK hw ho hc hfo (by rw[ha];exact hp) (by simpa only[dQ,hd,hk]using h)
def Rn (ρ:List (Nat × Nat)) (d e:D):Prop:=∀ g g':G,(∀ b c,g.fm b=some c->g'.fm b=some c)->(∀ p∈ρ,g'.aa p.1=g.aa p.2)->∀ m cs,CR g m d cs->CR g' m e cs
def gZ (ρ:List (Nat × Nat)):List D->List D->Prop
 | [],[]=>True
 |d :: ds,e :: es=>Rn ρ d e/\gZ ρ ds es
 |_,_=>False
theorem Rn.fz {ρ:List (Nat × Nat)} {d:D} (h:aF d):Rn ρ d d:=λg g' hf _ m cs H=>h g g' hf m cs H
theorem Rn.lf {ρ:List (Nat × Nat)} (v:Value):Rn ρ (.lf v) (.lf v) := .fz (.of (.lf v))
theorem Rn.aO {ρ:List (Nat × Nat)} : Rn ρ .aO .aO:=λ_ _ _ _ _ _ H=>by simpa only[CR]using H
theorem Rn.ref {ρ:List (Nat × Nat)} {i j:Nat} {p:List (Nat × Nat)} (h:(j,i)∈ρ):Rn ρ (.ref i p) (.ref j p):=λg g' _ hr m cs H=>by
 simp only[CR]at H ⊢
 obtain⟨l,h1,h2⟩:=H
 exact⟨l,by rw[hr _ h];exact h1,h2⟩
theorem Rn.own {ρ:List (Nat × Nat)} {i j off n:Nat} {t:Bool} (h:(j,i)∈ρ):Rn ρ (.own t i off n) (.own t j off n):=λg g' _ hr m cs H=>by
 simp only[CR]at H ⊢
 obtain⟨l,a,c,h1,h2⟩:=H
 exact⟨l,a,c,by rw[hr _ h];exact h1,h2⟩
theorem gZ.len {ρ:List (Nat × Nat)} : ∀ {ds es:List D},gZ ρ ds es->es.length=ds.length
 | [],[],_=>rfl
 |_ :: _,_ :: _,h=>by simp[gZ.len h.2]
 | [],_ :: _,h=>h.elim
 |_ :: _,[],h=>h.elim
theorem gZ.gM {ρ:List (Nat × Nat)} {g g':G} (hf:∀ b c,g.fm b=some c->g'.fm b=some c) (hr:∀ p∈ρ,g'.aa p.1=g.aa p.2):∀ {ds es:List D} {ss:List Nat} {cs:List Value},gZ ρ ds es->ah g ss ds cs->ah g' ss es cs
 | [],[],ss,cs,_,H=>by cases ss <;> simp only[ah]at H ⊢ <;> exact H
 |d :: ds,e :: es,ss,cs,h,H=>by
  cases ss with
  |nil=>simp only[ah]at H
  |cons s ss =>
   simp only[ah]at H ⊢
   exact⟨H.1,h.1 g g' hf hr _ _ H.2.1,gZ.gM hf hr h.2 H.2.2⟩
 | [],_ :: _,_,_,h,_=>h.elim
 |_ :: _,[],_,_,h,_=>h.elim
theorem Rn.st {ρ:List (Nat × Nat)} {ss:List Nat} {ds es:List D} (h:gZ ρ ds es):Rn ρ (.st ss ds) (.st ss es):=λg g' hf hr m cs H=>by
 simp only[CR]at H ⊢
 obtain⟨c,a,b⟩:=H
 exact⟨c,a,h.gM hf hr b⟩
theorem Rn.ar {ρ:List (Nat × Nat)} {s:Nat} {ds es:List D} (h:gZ ρ ds es):Rn ρ (.ar s ds) (.ar s es):=λg g' hf hr m cs H=>by
 simp only[CR,h.len]at H ⊢
 obtain⟨c,a,b⟩:=H
 exact⟨c,a,h.gM hf hr b⟩
def l5 (ρ:List (Nat × Nat)) (tm:List (Nat × Option D)):List (Nat × Option D)->Prop
 | []=>True
 |(k,some d) :: l=>Rn ρ (dl tm k) d/\l5 ρ tm l
 |(_,none) :: l=>l5 ρ tm l
def kV (ρ:List (Nat × Nat)) (st:List (Nat × Option D)):List (Nat × Option D)->Prop
 | []=>True
 |(k,some d) :: l=>(∃ j e,(k,j)∈ρ/\lk st j=some e/\Rn ρ e d/\sz e=sz d/\dP e=false/\∀ lo:Loc,fC lo e->fC lo d)/\kV ρ st l
 |(_,none) :: l=>kV ρ st l
theorem l5.get {ρ:List (Nat × Nat)} {tm:List (Nat × Option D)} : ∀ {l:List (Nat × Option D)} {k:Nat} {d:D},l5 ρ tm l->lk l k=some d->Rn ρ (dl tm k) d
 | [],k,d,_,h=>by simp[lk]at h
 |(j,e) :: l,k,d,hs,h=>by
  rw[lk]at h
  split at h
  · rename_i hb
    have:=Nat.eq_of_beq_eq_true hb
    subst this
    cases e with
    |none=>simp at h
    |some e=>simp only[Option.some.injEq]at h;subst h;exact hs.1
  · cases e with
    |none=>exact l5.get (l:=l) hs h
    |some e=>exact l5.get hs.2 h
theorem kV.get {ρ:List (Nat × Nat)} {st:List (Nat × Option D)} : ∀ {l:List (Nat × Option D)} {k:Nat} {d:D},kV ρ st l->lk l k=some d->∃ j e,(k,j)∈ρ/\lk st j=some e/\Rn ρ e d/\sz e=sz d/\dP e=false/\∀ lo:Loc,fC lo e->fC lo d
 | [],k,d,_,h=>by simp[lk]at h
 |(j,e) :: l,k,d,hs,h=>by
  rw[lk]at h
  split at h
  · rename_i hb
    have:=Nat.eq_of_beq_eq_true hb
    subst this
    cases e with
    |none=>simp at h
    |some e=>simp only[Option.some.injEq]at h;subst h;exact hs.1
  · cases e with
    |none=>exact kV.get (l:=l) hs h
    |some e=>exact kV.get hs.2 h
def jb (ρ:List (Nat × Nat)) (i:Nat):Option Nat:=match ρ with
 | []=>none
 |(k,j) :: l=>if k=i then some j else jb l i
theorem uy:∀ {ρ:List (Nat × Nat)} {i j:Nat},jb ρ i=some j->(i,j)∈ρ
 | [],_,_,h=>by simp[jb]at h
 |(k,j') :: l,i,j,h=>by
  rw[jb]at h
  split at h
  · rename_i e;simp only[Option.some.injEq]at h;subst e h;exact List.mem_cons_self ..
  · exact List.mem_cons_of_mem _ (uy h)
def FX (ρ:List (Nat × Nat)) (nx:Nat):Prop:=∀ p∈ρ,p.1<nx/\jb ρ p.1=some p.2/\∀ q∈ρ,q.2=p.2->q.1=p.1
theorem MQ {tm st tm' st':List (Nat × Option D)} {nx nx' n:Nat} (ρ:List (Nat × Nat)) (hρ:FX ρ nx') (hp:∀ i∈B.pin,jb ρ i=some i) (hg:∀ i,aF (C.gl i)) (ht:l5 ρ tm tm') (hs:kV ρ st st'):Wk C B (Z tm st nx n) (Z tm' st' nx' n):=by
 intro g a w hS hI
 generalize hk:(⟨g.fm,λi=>match jb ρ i with|some j=>g.aa j|none=>none⟩:G)=k
 have fF:k.fm=g.fm:=by rw[← hk]
 have hkr:∀ i l,k.aa i=some l->∃ j,jb ρ i=some j/\g.aa j=some l:=by
  intro i l h
  rw[← hk]at h
  simp only at h
  split at h
  · rename_i j hj;exact⟨j,hj,h⟩
  · simp at h
 have hkp:∀ p∈ρ,k.aa p.1=g.aa p.2:=by
  intro p hp
  rw[← hk]
  simp only[(hρ p hp).2.1]
 have hfm:∀ b c,g.fm b=some c->k.fm b=some c:=λb c h=>by rw[fF];exact h
 have hR:=hS.rel
 have e1:ak (aW st)=lk st:=by funext i;exact lQ st i
 have e2:ak (aW st')=lk st':=by funext i;exact lQ st' i
 simp only[e1]at hR
 refine⟨k,⟨?_,λj => ?_,hS.size,λi hi => ?_,λi => ?_,hS.ms⟩,⟨λb c hb=>hfm _ _ (hI.fm b c hb),hI.hp,hI.fr,λb hb=>hI.gX b (by rw[fF]at hb;exact hb),λi l hi => ?_,hI.sm,λi hi l hl=>by rw[← hk];simp only[hp i hi];exact hI.rk i hi l hl⟩⟩
 · simp only[e2]
   have ob:∀ i d,lk st' i=some d->∃ j e l blk,jb ρ i=some j/\lk st j=some e/\Has g w j e l blk/\Has k w i d l blk:=by
    intro i d hi
    obtain⟨j,e,h1,h2,h3,h4,h5,h6⟩:=hs.get hi
    obtain⟨l,blk,H⟩:=hR.has h2 h5
    have hj:=(hρ _ h1).2.1
    have hkd:=hkp _ h1
    simp only at hkd hj
    exact⟨j,e,l,blk,hj,h2,H,⟨by rw[hkd];exact H.aa,H.row,by rw[fF];exact H.fm,H.len,by rw[← h4];exact H.sz,h6 l H.s,by rw[← h4];exact h3 g k hfm hkp _ _ H.cr⟩⟩
   refine⟨λb c hb=>hR.fm b c (by rw[fF]at hb;exact hb),λi d hi => ?_,λi j l m hi hj hl hm hb => ?_⟩
   · obtain⟨_,_,l,blk,_,_,_,H⟩:=ob i d hi
     exact⟨l,.inl ⟨blk,H⟩⟩
   · cases hi':lk st' i with
     |none=>exact absurd hi' hi
     |some d1 =>
      cases hj':lk st' j with
      |none=>exact absurd hj' hj
      |some d2 =>
       obtain⟨i0,x1,l1,b1,h1,h2,H1,K1⟩:=ob i d1 hi'
       obtain⟨j0,x2,l2,b2,h3,h4,H2,K2⟩:=ob j d2 hj'
       have q1:l1=l:=by have:=K1.aa;rw[hl]at this;simpa using this.symm
       have q2:l2=m:=by have:=K2.aa;rw[hm]at this;simpa using this.symm
       subst q1 q2
       have:=hR.dj i0 j0 _ _ (by simp[h2]) (by simp[h4]) H1.aa H2.aa hb
       subst this
       exact(hρ _ (uy h3)).2.2 _ (uy h1) rfl
 · have h1:=hS.tm j
   simp only[nH]at h1 ⊢
   unfold dl
   cases hj:lk tm' j with
   |none=>simp only[VR,CR];exact⟨trivial,_,rfl⟩
   |some d=>exact ht.get hj g k hfm hkp _ _ h1
 · cases hx:k.aa i with
   |none=>rfl
   |some l =>
    obtain⟨j,h1,_⟩:=hkr i l hx
    have:=(hρ _ (uy h1)).1
    simp only at this hi
    omega
 · exact hg i g k hfm _ _ (hS.gl i)
 · obtain⟨j,_,h2⟩:=hkr i l hi
   exact hI.rn j l h2
end
end Go.Proofs.YtadecgbblajifaaGreatDoor.DV
namespace Go.Proofs.YtadecgbblajifaaGreatDoor
end Go.Proofs.YtadecgbblajifaaGreatDoor
namespace Go.Proofs.YtadecgbblajifaaGreatDoor.DV
open Go
noncomputable section
variable {P:Program} {C:Cx} {B:Base} {r:Option Nat}
def FY (all:Array Oper) (l:List (Nat × Option D)) (o:Oper):Option Bool:=match o.guard with
 |some (j,_)=>match iV all.toList j with
  |some oj=>match oj.dst with
   |some d=>match dl l d with
    |.lf (.bool c)=>some c
    |_=>none
   |none=>none
  |none=>none
 |none=>none
theorem zg {all:Array Oper} {l:List Oper} {o:Oper} {tm st:List (Nat × Option D)} {nx n:Nat} {K:S->Prop} {c:Bool} (_:FY all tm o=some c) (h1:c=true->aU P C B r all (o :: l) (Z tm st nx n) K) (h2:c=false->aU P C B r all (o :: l) (Z tm st nx n) K):aU P C B r all (o :: l) (Z tm st nx n) K:=by
 cases c
 · exact h2 rfl
 · exact h1 rfl
theorem zw {all:Array Oper} {l:List Oper} {o:Oper} {tm st:List (Nat × Option D)} {nx n:Nat} {K:S->Prop} (_:dE all tm o=some true) (h:aU P C B r all (o :: l) (Z tm st nx n) K):aU P C B r all (o :: l) (Z tm st nx n) K:=h
theorem bV {c:Operand} {x y:Code} {tm st:List (Nat × Option D)} {nx n:Nat} {K:Ex->S->Prop} (hc:jG (fT C.gl tm c)=some (.lf (.bool true))) (h:Run P C B r x (Z tm st nx n) K):Run P C B r (.cond c x y) (Z tm st nx n) K :=
 yK (b:=true) (by rw[lI]at hc;simpa using hc) (λ_=>h) λh=>by simp at h
theorem bW {c:Operand} {x y:Code} {tm st:List (Nat × Option D)} {nx n:Nat} {K:Ex->S->Prop} (hc:jG (fT C.gl tm c)=some (.lf (.bool false))) (h:Run P C B r y (Z tm st nx n) K):Run P C B r (.cond c x y) (Z tm st nx n) K :=
 yK (b:=false) (by rw[lI]at hc;simpa using hc) (λh=>by simp at h) λ_=>h
theorem bX {c:Operand} {x y:Code} {tm st:List (Nat × Option D)} {nx n:Nat} {K:Ex->S->Prop} {b:Bool} (hc:jG (fT C.gl tm c)=some (.lf (.bool b))) (h1:b=true->Run P C B r x (Z tm st nx n) K) (h2:b=false->Run P C B r y (Z tm st nx n) K):Run P C B r (.cond c x y) (Z tm st nx n) K :=
 yK (by rw[lI]at hc;simpa using hc) h1 h2
section
variable {K:Ex->S->Prop} {R:S->Prop} {t:S} {i j:Nat}
theorem bM (h:R t):sq K R .normal t:=⟨h⟩
theorem bN (h:K (.exit i) t):sq K R (.exit i) t:=⟨h⟩
theorem bO (h:K .ret t):sq K R .ret t:=⟨h⟩
theorem bP (h:K .normal t):bk i K .normal t:=⟨h⟩
theorem bQ (h:K .ret t):bk i K .ret t:=⟨h⟩
theorem bR (hj:Nat.beq j i=true) (h:K .normal t):bk i K (.exit j) t:=by
 have:=Nat.eq_of_beq_eq_true hj
 exact⟨by simpa only[sJ,this,if_true]using h⟩
theorem bS (hj:Nat.beq j i=false) (h:K (.exit j) t):bk i K (.exit j) t:=by
 have:¬ j=i:=λe=>by subst e;simp at hj
 exact⟨by simpa only[sJ,this,if_false]using h⟩
end
def O9 {α:Type} (C:Cx) (B:Base) (K:Ex->S->Prop) (I:α->S) (μ:α->Nat) (ok:α->Prop) (a:α) (t:S):Ex->Prop
 |.normal=>∃ b,ok b/\μ b<μ a/\Wk C B t (I b)
 |ex=>K ex t
structure lp {α:Type} (C:Cx) (B:Base) (K:Ex->S->Prop) (I:α->S) (μ:α->Nat) (ok:α->Prop) (a:α) (ex:Ex) (t:S):Prop where
 out:O9 C B K I μ ok a t ex
section
variable {α:Type} {K:Ex->S->Prop} {I:α->S} {μ:α->Nat} {ok:α->Prop} {a:α} {t:S} {i:Nat}
theorem nT (b:α) (h1:ok b) (h2:μ b<μ a) (h3:Wk C B t (I b)):lp C B K I μ ok a .normal t:=⟨b,h1,h2,h3⟩
theorem bT (h:K .ret t):lp C B K I μ ok a .ret t:=⟨h⟩
theorem bU (h:K (.exit i) t):lp C B K I μ ok a (.exit i) t:=⟨h⟩
theorem ny {x:Code} {tm st:List (Nat × Option D)} {nx n:Nat} (I:α->S) (μ:α->Nat) (ok:α->Prop) (a0:α) (h0:ok a0) (hs:Wk C B (Z tm st nx n) (I a0))
 (h:∀ a,ok a->Run P C B r x (I a) (lp C B K I μ ok a)):Run P C B r (.loop x) (Z tm st nx n) K:=by
 refine uf hs ?_
 refine Kz (λk t=>∃ a,ok a/\μ a=k/\Wk C B t (I a)) (N:=μ a0) ⟨a0,h0,rfl,λg a w hS hI=>⟨g,hS,hI⟩⟩ λk t ⟨a,ha,hk,hw⟩ => ?_
 refine uf hw ((h a ha).mono λex t' ⟨q⟩ => ?_)
 cases ex with
 |normal =>
  obtain⟨b,h1,h2,h3⟩:=q
  exact⟨μ b,by omega,b,h1,rfl,h3⟩
 |_=>exact q
end
def zM (ρ:List (Nat × Nat)) (nx:Nat):Bool:=ρ.all λp=>(Nat.blt p.1 nx && (jb ρ p.1 == some p.2)) && ρ.all λq => !(Nat.beq q.2 p.2) || Nat.beq q.1 p.1
theorem LM {ρ:List (Nat × Nat)} {nx:Nat} (h:zM ρ nx=true):FX ρ nx:=by
 intro p hp
 have h1:=List.all_eq_true.1 h p hp
 simp only[Bool.and_eq_true,beq_iff_eq]at h1
 refine⟨Nat.le_of_ble_eq_true h1.1.1,h1.1.2,λq hq e => ?_⟩
 have h2:=List.all_eq_true.1 h1.2 q hq
 simp only[Bool.or_eq_true,Bool.not_eq_true']at h2
 rcases h2 with h2|h2
 · rw[e]at h2;simp at h2
 · exact Nat.eq_of_beq_eq_true h2
theorem eO {tm st tm' st':List (Nat × Option D)} {nx nx' n:Nat} (ρ:List (Nat × Nat)) (hρ:zM ρ nx'=true) (hg:∀ i,aF (C.gl i)) (ht:l5 ρ tm tm') (hs:kV ρ st st') (hp:(B.pin.all λi=>jb ρ i == some i)=true:=by rfl):Wk C B (Z tm st nx n) (Z tm' st' nx' n):=MQ ρ (LM hρ) (λi hi=>by simpa using List.all_eq_true.1 hp i hi) hg ht hs
theorem aF.row {α:Type} {t:Bool} {s:Nat} {f:α->D} (h:∀ x,aF (f x)) (l:List α):aF (.sl t s (l.map f)):=λg k hf m cs H=>by
 have hr:=dG.map (σ:=λ_=>none) h l
 simp only[CR]at H ⊢
 obtain⟨a,c,a1,a2,a4⟩:=H
 refine⟨a,c,a1,a2,?_⟩
 rcases a4 with h4|⟨b,o,blk,a4,a5,a6,a7⟩
 · exact .inl h4
 · exact .inr ⟨b,o,blk,a4,hf _ _ a5,a6,hr.gM (w:=default) (λ_ _ h=>by simp at h) hf (λ_ _ _ _ h=>by simp at h) a7⟩
theorem aF.lf (v:Value):aF (.lf v) := .of (.lf v)
theorem aF.st {ss:List Nat} {ds:List D} (h:∀ d∈ds,aF d):aF (.st ss ds) := .of (.st (.fz h))
theorem aF.tu {ds:List D} (h:∀ d∈ds,aF d):aF (.tu ds) := .of (.tu (.fz h))
theorem aF.fp {d:D} (h:aF d):aF (.fp d) := .of (.fp (.fz h))
theorem Rn.sl {ρ:List (Nat × Nat)} {t:Bool} {s:Nat} {ds es:List D} (h:gZ ρ ds es):Rn ρ (.sl t s ds) (.sl false s es):=λg g' hf hr m cs H=>by
 simp only[CR,h.len]at H ⊢
 obtain⟨a,c,a1,a2,a4⟩:=H
 refine⟨a,c,a1,⟨a2.1,λh=>by simp at h⟩,?_⟩
 rcases a4 with rfl|⟨b,o,blk,a4,a5,a6,a7⟩
 · exact .inl (List.length_eq_zero_iff.1 h.len)
 · exact .inr ⟨b,o,blk,a4,hf _ _ a5,a6,h.gM hf hr a7⟩
end
end Go.Proofs.YtadecgbblajifaaGreatDoor.DV
namespace Go.Proofs.YtadecgbblajifaaGreatDoor
end Go.Proofs.YtadecgbblajifaaGreatDoor
namespace Go.Proofs.YtadecgbblajifaaGreatDoor.DV
open Go
noncomputable section
variable {P:Program} {C:Cx} {B:Base} {r:Option Nat}
abbrev sK:mr:=λ_ _ _ _ _ _=>False
theorem LP (hm:P.follows .mixedOrders=true) (hC:fM P C) {ops:Array Oper} {t st tF mD:Tr D} {nx n gK:Nat} {kY:List Nat} {acc:List Rc} {id:Nat} (hA:dM C sK (cz [] ops.toList) ops nx n t st (nx+ops.size) [] acc tF mD gK kY) (hall:∀ k<ops.size,∃ u∈acc,u.i=k)
 {K:Ex->S->Prop} (hK:K .normal ⟨tF,mD,gK,n,[],[],false⟩):Run P C B r (.region id ops true) ⟨t,st,nx,n,[],[],false⟩ K:=by
 refine⟨λm g a w hS hI => ?_⟩
 have hfr:∀ k,nx<=k->g.aa k=none:=hS.fresh
 have hF:uT P C sK:=λ_ _ h=>h.elim
 have hnx:=(jT hA).1
 refine wpIn_region_any hm (DX hC hF hA hfr hall (ms:=[]) (rd:=false) (w0:=w) (λL g' a' w' tL bE hL hV => ?_) ops.size _ _ _ g t st (by simp) ?_ ?_ ?_)
 · have oq:∀ v∈acc,L v.i=true:=λv hv=>hL _ ((jT hA).2 v hv).2.2
   have hch:∀ v∈acc,CH v:=λv hv=>hV.ch v hv (oq v hv)
   have e1:ak tL=ak tF:=by
    rw[hV.tm,zm hA]
    exact fold_congr _ _ λv hv=>oq v hv
   have e2:ak bE=ak mD:=by
    rw[hV.mem,uH hA hch]
    exact fold_congr _ _ λv hv=>oq v hv
   have e3:∀ k,aV tL k=aV tF k:=λk=>by
    have:=congrFun e1 k
    simp only[ak]at this
    unfold aV
    rw[this]
   have hT:=hV.st
   refine⟨.normal,_,g',hK,trivial,⟨?_,λk => ?_,hT.size,hT.fresh,hT.gl,hT.ms⟩,hI.step hV.ext⟩
   · have:=hT.rel
     simp only[e2]at this
     exact this
   · have:=hT.tm k
     simp only[e3]at this
     exact this
 · intro i o ho hi
   exfalso
   unfold Lf at hi
   simp only[Array.getD_eq_getD_getElem?,Array.getElem?_replicate]at hi
   split at hi <;> simp at hi
 · have:((List.range ops.size).filter λj => !Lf (Array.replicate ops.size false) j).length<=(List.range ops.size).length:=List.length_filter_le _ _
   simpa using this
 · have hL0:∀ k,Lf (Array.replicate ops.size false) k=false:=by
    intro k
    unfold Lf
    simp only[Array.getD_eq_getD_getElem?,Array.getElem?_replicate]
    split <;> simp
   have hf0:∀ (E:Rc->Eff) (B:List Rc) (s:ai),bf E (Lf (Array.replicate ops.size false)) B s=s:=by
    intro E B s
    induction B with
    |nil=>rfl
    |cons u B IH=>simp only[bf,hL0,Bool.false_eq_true,if_false];exact IH
   refine⟨(hf0 _ _ _).symm,(hf0 _ _ _).symm,⟨Cq hS.rel,hS.tm,hS.size,λk hk=>hfr k (by simp only at hk;omega),hS.gl,hS.ms⟩,⟨.refl _,Nat.le_refl _,λ_ _=>rfl,λ_ h => .inl h,λ_ _ h => .inl h,λ_ h => .inl h,⟨rfl,rfl,rfl⟩⟩,λk hk => ?_,λu _ hu => ?_⟩
   · left
     rcases Nat.lt_or_ge k nx with h|h
     · exact h
     · exact absurd (hfr k h) hk
   · rw[hL0]at hu;simp at hu
structure cB (C:Cx) (ops:Array Oper) (base n:Nat) (t0 st0:List (Nat × Option D)) (acc:List Rc) (i:Nat) (l:List Oper) (tm st:List (Nat × Option D)) (K:S->Prop):Prop where
 out:∀ lg,l=ops.toList.drop i->i<=ops.size->dM C sK (cz [] ops.toList) ops base n (aW t0) (aW st0) (base+ops.size) [] acc (aW tm) (aW st) (base+ops.size) lg->(∀ u∈acc,u.i<i)->(∀ k<i,∃ u∈acc,u.i=k) ->
  ∃ E5 tF sF kY,dM C sK (cz [] ops.toList) ops base n (aW t0) (aW st0) (base+ops.size) [] E5 (aW tF) (aW sF) (base+ops.size) kY/\(∀ k<ops.size,∃ u∈E5,u.i=k)/\K (Z tF sF (base+ops.size) n)
theorem bK (hm:P.follows .mixedOrders=true) (hC:fM P C) {id:Nat} {ops:Array Oper} {tm st:List (Nat × Option D)} {nx n:Nat} {K:Ex->S->Prop} (h:cB C ops nx n tm st [] 0 ops.toList tm st (K .normal)):Run P C B r (.region id ops true) (Z tm st nx n) K:=by
 obtain⟨A,tF,sF,kY,h1,h2,h3⟩:=h.out [] (by simp) (Nat.zero_le _) .nil (λu hu=>by simp at hu) (λk hk=>by omega)
 exact LP hm hC h1 h2 h3
def dY (gl:Nat->D) (nm:List Nat) (l:List (Nat × Option D)):Operand->D
 |.tmp k=>match mem1 k nm with
  |true=>dl l k
  |false => .aO
 |.const v => .lf v
 |.global g=>gl g
 |.func f => .fn (.func f) [] []
theorem qI (gl:Nat->D) (nm:List Nat) (l:List (Nat × Option D)):dC gl nm (aW l)=dY gl nm l:=by
 funext x
 cases x with
 |tmp k=>simp only[dC,dY,nH];cases mem1 k nm <;> rfl
 |_=>rfl
section
variable {ops:Array Oper} {base n i k:Nat} {t0 st0 tm st:List (Nat × Option D)} {acc:List Rc} {l:List Oper} {o:Oper} {K:S->Prop}
theorem bL (h:K (Z tm st (base+ops.size) n)):cB C ops base n t0 st0 acc i [] tm st K:=⟨λlg hl hi hA _ hall=>by
 have:ops.size<=i:=by
  have:=congrArg List.length hl
  simp at this
  omega
 exact⟨acc,tm,st,lg,hA,λk hk=>hall k (by omega),h⟩⟩
theorem xZ {tm' st':List (Nat × Option D)} {u:Rc} (hu:u.i=i) (dI:gN i (dW o)=true) (hok:fH (cz [] ops.toList) u acc=true)
 (hsp:∀ lg,∃ eU,Sp C sK (cz [] ops.toList) ops base acc u o (aW tm) (aW st) (base+ops.size) lg (aW st') (base+ops.size) eU) (ku:dH n (aW tm) u.dst u.d=aW tm')
 (h:cB C ops base n t0 st0 (u :: acc) (i+1) l tm' st' K):cB C ops base n t0 st0 acc i (o :: l) tm st K:=⟨λlg hl hi hA hlt hall=>by
 obtain⟨hk,ho,hl'⟩:=drop_at hl
 obtain⟨eU,hs⟩:=hsp lg
 refine h.out eU hl' hk ?_ (λv hv => ?_) (λj hj => ?_)
 · rw[← ku]
   exact .cons hA (by rw[hu];exact ho) (λv hv=>by have:=hlt v hv;omega) (by rw[hu];exact xE _ dI) (oN _ hok) hs
 · rcases List.mem_cons.1 hv with rfl|hv
   · omega
   · have:=hlt v hv;omega
 · rcases Nat.lt_or_ge j i with h1|h1
   · obtain⟨v,hv,h2⟩:=hall j h1
     exact⟨v,List.mem_cons_of_mem _ hv,h2⟩
   · exact⟨u,List.mem_cons_self ..,by omega⟩⟩
def jc (C:Cx) (ops:Array Oper) (i:Nat) (o:Oper) (nx:Nat) (tm:List (Nat × Option D)) (d:D) (e:Eff):Rc:=⟨i,o.dst,aL ops o,d,e,gU (dY C.gl (aL ops o) tm) o.op,none,nx,nx⟩
theorem uU {d:D} {e:Eff} (hw:dE ops tm o=some true) (he:eT C.T (eG (gU (dY C.gl (aL ops o) tm) o.op) (lk st)) (base+i) (dY C.gl (aL ops o) tm) o.op=some (d,e)) (hk:kP (lk st) (base+i) (gU (dY C.gl (aL ops o) tm) o.op) e=true) (dI:gN i (dW o)=true)
 (hok:fH (cz [] ops.toList) (jc C ops i o (base+ops.size) tm d e) acc=true) (h:cB C ops base n t0 st0 (jc C ops i o (base+ops.size) tm d e :: acc) (i+1) l (dQ n o.dst d tm) (gV e st) K):cB C ops base n t0 st0 acc i (o :: l) tm st K:=by
 have hs:ak (aW st)=lk st:=by funext j;exact lQ st j
 refine xZ (u:=jc C ops i o (base+ops.size) tm d e) rfl dI hok (λlg=>⟨iy e lg,?_⟩) (o5 _ _ _ _) h
 rw[← xY]
 exact .loc (d:=d) (e:=e) (by rw[oP];exact hw) (by rw[qI,hs];exact he) (by rw[qI,hs];exact hk) (by simp only[rT,jc,qI])
theorem LQ {c:Call} {fo:Operand} {f:Nat} {az bs as':List D} {d:D} (hw:dE ops tm o=some true) (ho:o.op = .call c) (hc:c.callee = .value fo) (hfo:dY C.gl (aL ops o) tm fo = .fn (.func f) az bs) (ha:az ++ dmap (dY C.gl (aL ops o) tm) c.args.toList ++ bs=as') (hp:C.K f as' d) (dI:gN i (dW o)=true)
 (hok:fH (cz [] ops.toList) (nR ops i o (base+ops.size) d) acc=true) (h:cB C ops base n t0 st0 (nR ops i o (base+ops.size) d :: acc) (i+1) l (dQ n o.dst d tm) st K):cB C ops base n t0 st0 acc i (o :: l) tm st K :=
 xZ (u:=nR ops i o (base+ops.size) d) rfl dI hok (λlg=>⟨lg,.pure (by rw[oP];exact hw) ho hc (by rw[qI];exact hfo) (by rw[qI,ha];exact hp) rfl⟩) (o5 _ _ _ _) h
theorem LU (hw:dE ops tm o=some false) (dI:gN i (dW o)=true) (hok:fH (cz [] ops.toList) (j3 ops i o (base+ops.size)) acc=true) (h:cB C ops base n t0 st0 (j3 ops i o (base+ops.size) :: acc) (i+1) l (dQ n o.dst (.tu []) tm) st K):cB C ops base n t0 st0 acc i (o :: l) tm st K :=
 xZ (u:=j3 ops i o (base+ops.size)) rfl dI hok (λlg=>⟨lg,.skip (by rw[oP];exact hw) rfl⟩) (o5 _ _ _ _) h
theorem d0 {d:D} (hw:dE ops tm o=some true) (hd:o.dst=some k) (hkn:Nat.blt k n=true) (he:vZ (eT C.T (eG (gU (dY C.gl (aL ops o) tm) o.op) (lk st)) (base+i) (dY C.gl (aL ops o) tm) o.op)=some d) (dI:gN i (dW o)=true)
 (hok:fH (cz [] ops.toList) (jc C ops i o (base+ops.size) tm d []) acc=true) (h:cB C ops base n t0 st0 (jc C ops i o (base+ops.size) tm d [] :: acc) i.succ l ((k,some d) :: tm) st K):cB C ops base n t0 st0 acc i (o :: l) tm st K :=
 uU hw (D6 he) rfl dI hok (by simpa only[dQ,hd,hkn,gV]using h)
theorem d1 {d x:D} {j:Nat} (hw:dE ops tm o=some true) (hd:o.dst=some k) (hkn:Nat.blt k n=true) (he:qi (eT C.T (eG (gU (dY C.gl (aL ops o) tm) o.op) (lk st)) (base+i) (dY C.gl (aL ops o) tm) o.op)=some (d,j,x)) (hk:kP (lk st) (base+i) (gU (dY C.gl (aL ops o) tm) o.op) [(j,some x)]=true) (dI:gN i (dW o)=true)
 (hok:fH (cz [] ops.toList) (jc C ops i o (base+ops.size) tm d [(j,some x)]) acc=true) (h:cB C ops base n t0 st0 (jc C ops i o (base+ops.size) tm d [(j,some x)] :: acc) i.succ l ((k,some d) :: tm) ((j,some x) :: st) K):cB C ops base n t0 st0 acc i (o :: l) tm st K :=
 uU hw (uJ he) hk dI hok (by simpa only[dQ,hd,hkn,gV]using h)
theorem ds {d x:D} {j:Nat} (hw:dE ops tm o=some true) (hd:o.dst=none) (he:qi (eT C.T (eG (gU (dY C.gl (aL ops o) tm) o.op) (lk st)) (base+i) (dY C.gl (aL ops o) tm) o.op)=some (d,j,x)) (hk:kP (lk st) (base+i) (gU (dY C.gl (aL ops o) tm) o.op) [(j,some x)]=true) (dI:gN i (dW o)=true)
 (hok:fH (cz [] ops.toList) (jc C ops i o (base+ops.size) tm d [(j,some x)]) acc=true) (h:cB C ops base n t0 st0 (jc C ops i o (base+ops.size) tm d [(j,some x)] :: acc) i.succ l tm ((j,some x) :: st) K):cB C ops base n t0 st0 acc i (o :: l) tm st K :=
 uU hw (uJ he) hk dI hok (by simpa only[dQ,hd,gV]using h)
theorem dk (hw:dE ops tm o=some false) (hd:o.dst=some k) (hkn:Nat.blt k n=true) (dI:gN i (dW o)=true) (hok:fH (cz [] ops.toList) (j3 ops i o (base+ops.size)) acc=true) (h:cB C ops base n t0 st0 (j3 ops i o (base+ops.size) :: acc) i.succ l ((k,some (.tu [])) :: tm) st K):cB C ops base n t0 st0 acc i (o :: l) tm st K :=
 LU hw dI hok (by simpa only[dQ,hd,hkn]using h)
theorem dg {c:Bool} (_:FY ops tm o=some c) (h1:c=true->cB C ops base n t0 st0 acc i (o :: l) tm st K) (h2:c=false->cB C ops base n t0 st0 acc i (o :: l) tm st K):cB C ops base n t0 st0 acc i (o :: l) tm st K:=by
 cases c
 · exact h2 rfl
 · exact h1 rfl
theorem dw (_:dE ops tm o=some true) (h:cB C ops base n t0 st0 acc i (o :: l) tm st K):cB C ops base n t0 st0 acc i (o :: l) tm st K:=h
theorem dc {c:Call} {fo:Operand} {f:Nat} {az bs as':List D} {d:D} (hw:dE ops tm o=some true) (hd:o.dst=some k) (hkn:Nat.blt k n=true) (ho:o.op = .call c) (hc:c.callee = .value fo) (hfo:dY C.gl (aL ops o) tm fo = .fn (.func f) az bs) (ha:az ++ dmap (dY C.gl (aL ops o) tm) c.args.toList ++ bs=as') (hp:C.K f as' d) (dI:gN i (dW o)=true)
 (hok:fH (cz [] ops.toList) (nR ops i o (base+ops.size) d) acc=true) (h:cB C ops base n t0 st0 (nR ops i o (base+ops.size) d :: acc) i.succ l ((k,some d) :: tm) st K):cB C ops base n t0 st0 acc i (o :: l) tm st K :=
 LQ hw ho hc hfo ha hp dI hok (by simpa only[dQ,hd,hkn]using h)
theorem di {t j s el:Nat} {x ix:Operand} {y:Ty} {tt:Bool} {xs:List D} {kd:IntKind} {e:D} (hw:dE ops tm o=some true) (hd:o.dst=some k) (hkn:Nat.blt k n=true) (ho:o.op = .indexAddr t x ix) (hy:C.T t=some y) (hyk:y.k = .sl el s) (hx:dY C.gl (aL ops o) tm x = .sl tt s xs) (hi:dY C.gl (aL ops o) tm ix = .lf (.int kd (.ofNat j))) (he:xs[j]? = some e) (hs:sz e=s) (dI:gN i (dW o)=true)
 (hok:fH (cz [] ops.toList) (jc C ops i o (base+ops.size) tm (.fp e) []) acc=true) (h:cB C ops base n t0 st0 (jc C ops i o (base+ops.size) tm (.fp e) [] :: acc) i.succ l ((k,some (.fp e)) :: tm) st K):cB C ops base n t0 st0 acc i (o :: l) tm st K :=
 uU (d := .fp e) (e:=[]) hw (by simp[ho,eT,vO,hy,eB,rJ,iU,hi,hyk,hx,he,hs]) rfl dI hok (by simpa only[dQ,hd,hkn,gV]using h)
end
end
end Go.Proofs.YtadecgbblajifaaGreatDoor.DV
namespace Go.Proofs.YtadecgbblajifaaGreatDoor
end Go.Proofs.YtadecgbblajifaaGreatDoor
