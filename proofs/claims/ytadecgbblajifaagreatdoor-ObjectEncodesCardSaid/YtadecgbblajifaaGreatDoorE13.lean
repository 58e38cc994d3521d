import Derived.Test.YtadecgbblajifaaGreatDoorE12
set_option linter.unusedSimpArgs false
set_option linter.unusedVariables false
set_option maxRecDepth 100000
set_option maxHeartbeats 25600000
namespace Go.Proofs.YtadecgbblajifaaGreatDoor
end Go.Proofs.YtadecgbblajifaaGreatDoor
namespace Go.Proofs.YtadecgbblajifaaGreatDoor.DV
open Go
noncomputable section
variable {P:Program} {C:Cx} {B:Base} {r:Option Nat}
def bX:List (Nat × Option D)->Tr D
 | [] => .e
 |(k,d) :: l=>ed (bX l) k d
def lk:List (Nat × Option D)->Nat->Option D
 | [],_=>none
 |(k,d) :: l,j=>match Nat.beq k j with
  |true=>d
  |false=>lk l j
theorem jU:∀ (l:List (Nat × Option D)) (j:Nat),aX (bX l) j=lk l j
 | [],_=>rfl
 |(k,d) :: l,j=>by
  rw[bX,lG,lk,jU l]
  by_cases h:j=k
  · subst h;simp
  · rw[if_neg h]
    have:Nat.beq k j=false:=by
     cases hb:Nat.beq k j with
     |false=>rfl
     |true=>exact absurd (Nat.eq_of_beq_eq_true hb).symm h
    rw[this]
abbrev Z (tm st:List (Nat × Option D)) (nx n:Nat):S:=⟨bX tm,bX st,nx,n,[],[],false⟩
def dl (l:List (Nat × Option D)) (k:Nat):D:=match lk l k with
 |some d=>d
 |none => .bZ
theorem qY (l:List (Nat × Option D)) (k:Nat):dK (bX l) k=dl l k:=by
 simp only[dK,jU,dl]
 cases lk l k <;> rfl
def gy (gl:Nat->D) (l:List (Nat × Option D)):Operand->D
 |.tmp k=>dl l k
 |.const v => .lf v
 |.global g=>gl g
 |.func f => .fn (.func f) [] []
theorem yj (gl:Nat->D) (l:List (Nat × Option D)):ig gl (bX l)=gy gl l:=by
 funext x
 cases x <;> simp only[ig,gy,qY]
def eU (n:Nat) (dst:Option Nat) (d:D) (l:List (Nat × Option D)):List (Nat × Option D):=match dst with
 |some k=>match Nat.blt k n with
  |true=>(k,some d) :: l
  |false=>l
 |none=>l
theorem rZ (n:Nat) (dst:Option Nat) (d:D) (l:List (Nat × Option D)):gP n (bX l) dst d=bX (eU n dst d l):=by
 unfold gP eU
 cases dst with
 |none=>rfl
 |some k=>cases h:Nat.blt k n <;> simp only[h] <;> rfl
def gI:Eff->List (Nat × Option D)->List (Nat × Option D)
 | [],l=>l
 |(i,d) :: e,l=>(i,d) :: gI e l
theorem Au:∀ (e:Eff) (l:List (Nat × Option D)),jW e (bX l)=bX (gI e l)
 | [],_=>rfl
 |(i,d) :: e,l=>by rw[jW,Au e,gI];rfl
def eD (all:Array Oper) (l:List (Nat × Option D)) (o:Oper):Option Bool:=match o.guard with
 |none=>some true
 |some (j,b)=>match mV all.toList j with
  |some oj=>match oj.dst with
   |some d=>match dl l d with
    |.lf (.bool c)=>some (c == b)
    |.tu _=>some false
    |_=>none
   |none=>none
  |none=>none
theorem rX (all:Array Oper) (l:List (Nat × Option D)) (o:Oper):want all (bX l) o=eD all l o:=by
 unfold want eD yl
 split
 · rename_i h;simp[h]
 · rename_i j b h
   simp only[h]
   cases mV all.toList j with
   |none=>rfl
   |some oj =>
    simp only
    cases oj.dst with
    |none=>rfl
    |some d =>
     simp only[qY]
     cases dl l d <;> try rfl
     rename_i v
     cases v <;> rfl
theorem sQ (hC:cZ P C.T) {all:Array Oper} {l:List Oper} {o:Oper} {tm st:List (Nat × Option D)} {nx n:Nat} {K:S->Prop} {d:D} {e:Eff} (hw:eD all tm o=some true) (he:fH C.T (lk st) nx (gy C.gl tm) o.op=some (d,e))
 (h:bg P C B r all l (Z (eU n o.dst d tm) (gI e st) (nx+1) n) K):bg P C B r all (o :: l) (Z tm st nx n) K:=by
 refine aaf hC (by simpa only[rX]using hw) (d:=d) (e:=e) ?_ (by simpa only[rZ,Au]using h)
 have:aA (bX st)=lk st:=by funext i;exact jU st i
 simp only[this,yj]
 exact he
theorem aag {all:Array Oper} {l:List Oper} {o:Oper} {tm st:List (Nat × Option D)} {nx n:Nat} {K:S->Prop} (hw:eD all tm o=some false) (h:bg P C B r all l (Z (eU n o.dst (.tu []) tm) st nx n) K):bg P C B r all (o :: l) (Z tm st nx n) K :=
 YV (by simpa only[rX]using hw) (by simpa only[rZ]using h)
theorem aah {all:Array Oper} {l:List Oper} {o:Oper} {c:Call} {fo:Operand} {f:Nat} {az bs:List D} {tm st:List (Nat × Option D)} {nx n:Nat} {K:S->Prop} {d:D} (hw:eD all tm o=some true) (ho:o.op = .call c) (hc:c.callee = .value fo) (hfo:gy C.gl tm fo = .fn (.func f) az bs)
 (hp:Pure P C.gl f (az ++ dmap (gy C.gl tm) c.args.toList ++ bs) d) (h:bg P C B r all l (Z (eU n o.dst d tm) st nx n) K):bg P C B r all (o :: l) (Z tm st nx n) K :=
 YU (by simpa only[rX]using hw) ho hc (by simpa only[yj]using hfo) (by simpa only[yj]using hp) (by simpa only[rZ]using h)
theorem JE {c:Operand} {x y:Code} {tm st:List (Nat × Option D)} {nx n:Nat} {K:Ex->S->Prop} {b:Bool} (hc:gy C.gl tm c = .lf (.bool b)) (h1:b=true->Run P C B r x (Z tm st nx n) K) (h2:b=false->Run P C B r y (Z tm st nx n) K):Run P C B r (.cond c x y) (Z tm st nx n) K :=
 ZI (by simpa only[yj]using hc) h1 h2
def nU:Nat->List D->List (Nat × Option D)
 |_,[]=>[]
 |k,d :: ds=>(k,some d) :: nU (k+1) ds
end
end Go.Proofs.YtadecgbblajifaaGreatDoor.DV
namespace Go.Proofs.YtadecgbblajifaaGreatDoor
end Go.Proofs.YtadecgbblajifaaGreatDoor
namespace Go.Proofs.YtadecgbblajifaaGreatDoor.DV
open Go
noncomputable section
variable {P:Program} {C:Cx} {B:Base} {r:Option Nat}
def oF:D->Option D
 |.lf v=>some (.lf v)
 |.st a b=>some (.st a b)
 |.ar a b=>some (.ar a b)
 |.sl a b c=>some (.sl a b c)
 |.fp d=>some (.fp d)
 |.ref a b=>some (.ref a b)
 |.own a b c d=>some (.own a b c d)
 |.e0=>some .e0
 |.fn a b c=>some (.fn a b c)
 |.tu a=>some (.tu a)
 |.gZ a b=>some (.gZ a b)
 |.mp a=>some (.mp a)
 |.bZ=>some .bZ
 |d=>some d
theorem sJ (d:D):oF d=some d:=by cases d <;> rfl
def Ga:Option (D × Eff)->Option D
 |some (d,[])=>oF d
 |_=>none
def zy:Option (D × Eff)->Option (D × Nat × D)
 |some (d,[(i,some x)])=>match oF d,oF x with
  |some d,some x=>some (d,i,x)
  |_,_=>none
 |_=>none
def LJ:Option (D × Eff)->Option (D × Nat × Nat × D)
 |some (d,[(j,none),(i,some x)])=>match oF d,oF x with
  |some d,some x=>some (d,j,i,x)
  |_,_=>none
 |_=>none
theorem Q6 {o:Option (D × Eff)} {d:D} (h:Ga o=some d):o=some (d,[]):=by
 unfold Ga at h
 split at h
 · rw[sJ]at h;simp only[Option.some.injEq]at h;rw[h]
 · simp at h
theorem Ej {o:Option (D × Eff)} {d x:D} {i:Nat} (h:zy o=some (d,i,x)):o=some (d,[(i,some x)]):=by
 unfold zy at h
 split at h
 · simp only[sJ,Option.some.injEq,Prod.mk.injEq]at h
   obtain⟨rfl,rfl,rfl⟩:=h
   rfl
 · simp at h
theorem abh {o:Option (D × Eff)} {d x:D} {i j:Nat} (h:LJ o=some (d,j,i,x)):o=some (d,[(j,none),(i,some x)]):=by
 unfold LJ at h
 split at h
 · simp only[sJ,Option.some.injEq,Prod.mk.injEq]at h
   obtain⟨rfl,rfl,rfl,rfl⟩:=h
   rfl
 · simp at h
theorem z0 (hC:cZ P C.T) {all:Array Oper} {l:List Oper} {o:Oper} {tm st:List (Nat × Option D)} {nx n k:Nat} {K:S->Prop} {d:D} (hw:eD all tm o=some true) (hd:o.dst=some k) (hk:Nat.blt k n=true) (he:Ga (fH C.T (lk st) nx (gy C.gl tm) o.op)=some d)
 (h:bg P C B r all l (Z ((k,some d) :: tm) st nx.succ n) K):bg P C B r all (o :: l) (Z tm st nx n) K :=
 sQ hC hw (Q6 he) (by simpa only[eU,hd,hk,gI]using h)
theorem z1 (hC:cZ P C.T) {all:Array Oper} {l:List Oper} {o:Oper} {tm st:List (Nat × Option D)} {nx n k i:Nat} {K:S->Prop} {d x:D} (hw:eD all tm o=some true) (hd:o.dst=some k) (hk:Nat.blt k n=true) (he:zy (fH C.T (lk st) nx (gy C.gl tm) o.op)=some (d,i,x))
 (h:bg P C B r all l (Z ((k,some d) :: tm) ((i,some x) :: st) nx.succ n) K):bg P C B r all (o :: l) (Z tm st nx n) K :=
 sQ hC hw (Ej he) (by simpa only[eU,hd,hk,gI]using h)
theorem zs (hC:cZ P C.T) {all:Array Oper} {l:List Oper} {o:Oper} {tm st:List (Nat × Option D)} {nx n i:Nat} {K:S->Prop} {d x:D} (hw:eD all tm o=some true) (hd:o.dst=none) (he:zy (fH C.T (lk st) nx (gy C.gl tm) o.op)=some (d,i,x))
 (h:bg P C B r all l (Z tm ((i,some x) :: st) nx.succ n) K):bg P C B r all (o :: l) (Z tm st nx n) K :=
 sQ hC hw (Ej he) (by simpa only[eU,hd,gI]using h)
theorem za (hC:cZ P C.T) {all:Array Oper} {l:List Oper} {o:Oper} {tm st:List (Nat × Option D)} {nx n k i j:Nat} {K:S->Prop} {d x:D} (hw:eD all tm o=some true) (hd:o.dst=some k) (hk:Nat.blt k n=true) (he:LJ (fH C.T (lk st) nx (gy C.gl tm) o.op)=some (d,j,i,x))
 (h:bg P C B r all l (Z ((k,some d) :: tm) ((j,none) :: (i,some x) :: st) nx.succ n) K):bg P C B r all (o :: l) (Z tm st nx n) K :=
 sQ hC hw (abh he) (by simpa only[eU,hd,hk,gI]using h)
theorem zk {all:Array Oper} {l:List Oper} {o:Oper} {tm st:List (Nat × Option D)} {nx n k:Nat} {K:S->Prop} (hw:eD all tm o=some false) (hd:o.dst=some k) (hk:Nat.blt k n=true) (h:bg P C B r all l (Z ((k,some (.tu [])) :: tm) st nx n) K):bg P C B r all (o :: l) (Z tm st nx n) K :=
 aag hw (by simpa only[eU,hd,hk]using h)
theorem zi (hC:cZ P C.T) {all:Array Oper} {l:List Oper} {o:Oper} {tm st:List (Nat × Option D)} {nx n k t j s el:Nat} {x i:Operand} {y:Ty} {tt:Bool} {xs:List D} {kd:IntKind} {K:S->Prop} {e:D} (hw:eD all tm o=some true) (hd:o.dst=some k) (hk:Nat.blt k n=true) (ho:o.op = .indexAddr t x i) (hy:C.T t=some y) (hyk:y.k = .sl el s)
 (hx:gy C.gl tm x = .sl tt s xs) (hi:gy C.gl tm i = .lf (.int kd (.ofNat j))) (he:xs[j]? = some e) (hs:sz e=s)
 (h:bg P C B r all l (Z ((k,some (.fp e)) :: tm) st nx.succ n) K):bg P C B r all (o :: l) (Z tm st nx n) K :=
 sQ (d := .fp e) (e:=[]) hC hw (by simp[ho,fH,FV,hy,iG,Bv,mU,hi,hyk,hx,he,hs]) (by simpa only[eU,hd,hk,gI]using h)
theorem zc {all:Array Oper} {l:List Oper} {o:Oper} {c:Call} {fo:Operand} {f k:Nat} {az bs:List D} {tm st:List (Nat × Option D)} {nx n:Nat} {K:S->Prop} {d:D} (hw:eD all tm o=some true) (hd:o.dst=some k) (hk:Nat.blt k n=true) (ho:o.op = .call c) (hc:c.callee = .value fo) (hfo:gy C.gl tm fo = .fn (.func f) az bs)
 {as':List D} (ha:az ++ dmap (gy C.gl tm) c.args.toList ++ bs=as') (hp:Pure P C.gl f as' d) (h:bg P C B r all l (Z ((k,some d) :: tm) st nx n) K):bg P C B r all (o :: l) (Z tm st nx n) K :=
 aah hw ho hc hfo (by rw[ha];exact hp) (by simpa only[eU,hd,hk]using h)
def Rn (ρ:List (Nat × Nat)) (d e:D):Prop:=∀ g g':G,(∀ b c,g.fm b=some c->g'.fm b=some c)->(∀ p∈ρ,g'.ae p.1=g.ae p.2)->∀ m cs,CR g m d cs->CR g' m e cs
def eP (ρ:List (Nat × Nat)):List D->List D->Prop
 | [],[]=>True
 |d :: ds,e :: es=>Rn ρ d e/\eP ρ ds es
 |_,_=>False
theorem Rn.fz {ρ:List (Nat × Nat)} {d:D} (h:ak d):Rn ρ d d:=λg g' hf _ m cs H=>h g g' hf m cs H
theorem Rn.lf {ρ:List (Nat × Nat)} (v:Value):Rn ρ (.lf v) (.lf v) := .fz (.of (.lf v))
theorem Rn.bZ {ρ:List (Nat × Nat)} : Rn ρ .bZ .bZ:=λ_ _ _ _ _ _ H=>by simpa only[CR]using H
theorem Rn.ref {ρ:List (Nat × Nat)} {i j:Nat} {p:List (Nat × Nat)} (h:(j,i)∈ρ):Rn ρ (.ref i p) (.ref j p):=λg g' _ hr m cs H=>by
 simp only[CR]at H ⊢
 obtain⟨l,h1,h2⟩:=H
 exact⟨l,by rw[hr _ h];exact h1,h2⟩
theorem Rn.own {ρ:List (Nat × Nat)} {i j off n:Nat} {t:Bool} (h:(j,i)∈ρ):Rn ρ (.own t i off n) (.own t j off n):=λg g' _ hr m cs H=>by
 simp only[CR]at H ⊢
 obtain⟨l,a,c,h1,h2⟩:=H
 exact⟨l,a,c,by rw[hr _ h];exact h1,h2⟩
theorem eP.len {ρ:List (Nat × Nat)} : ∀ {ds es:List D},eP ρ ds es->es.length=ds.length
 | [],[],_=>rfl
 |_ :: _,_ :: _,h=>by simp[eP.len h.2]
 | [],_ :: _,h=>h.elim
 |_ :: _,[],h=>h.elim
theorem eP.kH {ρ:List (Nat × Nat)} {g g':G} (hf:∀ b c,g.fm b=some c->g'.fm b=some c) (hr:∀ p∈ρ,g'.ae p.1=g.ae p.2):∀ {ds es:List D} {ss:List Nat} {cs:List Value},eP ρ ds es->aj g ss ds cs->aj g' ss es cs
 | [],[],ss,cs,_,H=>by cases ss <;> simp only[aj]at H ⊢ <;> exact H
 |d :: ds,e :: es,ss,cs,h,H=>by
  cases ss with
  |nil=>simp only[aj]at H
  |cons s ss =>
   simp only[aj]at H ⊢
   exact⟨H.1,h.1 g g' hf hr _ _ H.2.1,eP.kH hf hr h.2 H.2.2⟩
 | [],_ :: _,_,_,h,_=>h.elim
 |_ :: _,[],_,_,h,_=>h.elim
theorem Rn.st {ρ:List (Nat × Nat)} {ss:List Nat} {ds es:List D} (h:eP ρ ds es):Rn ρ (.st ss ds) (.st ss es):=λg g' hf hr m cs H=>by
 simp only[CR]at H ⊢
 obtain⟨c,a,b⟩:=H
 exact⟨c,a,h.kH hf hr b⟩
theorem Rn.ar {ρ:List (Nat × Nat)} {s:Nat} {ds es:List D} (h:eP ρ ds es):Rn ρ (.ar s ds) (.ar s es):=λg g' hf hr m cs H=>by
 simp only[CR,h.len]at H ⊢
 obtain⟨c,a,b⟩:=H
 exact⟨c,a,h.kH hf hr b⟩
def tV (ρ:List (Nat × Nat)) (tm:List (Nat × Option D)):List (Nat × Option D)->Prop
 | []=>True
 |(k,some d) :: l=>Rn ρ (dl tm k) d/\tV ρ tm l
 |(_,none) :: l=>tV ρ tm l
def mW (ρ:List (Nat × Nat)) (st:List (Nat × Option D)):List (Nat × Option D)->Prop
 | []=>True
 |(k,some d) :: l=>(∃ j e,(k,j)∈ρ/\lk st j=some e/\Rn ρ e d/\sz e=sz d/\fU e=false/\∀ lo:Loc,jr lo e->jr lo d)/\mW ρ st l
 |(_,none) :: l=>mW ρ st l
theorem tV.get {ρ:List (Nat × Nat)} {tm:List (Nat × Option D)} : ∀ {l:List (Nat × Option D)} {k:Nat} {d:D},tV ρ tm l->lk l k=some d->Rn ρ (dl tm k) d
 | [],k,d,_,h=>by simp[lk]at h
 |(j,e) :: l,k,d,hs,h=>by
  rw[lk]at h
  split at h
  · rename_i hb
    have:=Nat.eq_of_beq_eq_true hb
    subst this
    cases e with
    |none=>simp at h
    |some e=>simp only[Option.some.injEq]at h;subst h;exact hs.1
  · cases e with
    |none=>exact tV.get (l:=l) hs h
    |some e=>exact tV.get hs.2 h
theorem mW.get {ρ:List (Nat × Nat)} {st:List (Nat × Option D)} : ∀ {l:List (Nat × Option D)} {k:Nat} {d:D},mW ρ st l->lk l k=some d->∃ j e,(k,j)∈ρ/\lk st j=some e/\Rn ρ e d/\sz e=sz d/\fU e=false/\∀ lo:Loc,jr lo e->jr lo d
 | [],k,d,_,h=>by simp[lk]at h
 |(j,e) :: l,k,d,hs,h=>by
  rw[lk]at h
  split at h
  · rename_i hb
    have:=Nat.eq_of_beq_eq_true hb
    subst this
    cases e with
    |none=>simp at h
    |some e=>simp only[Option.some.injEq]at h;subst h;exact hs.1
  · cases e with
    |none=>exact mW.get (l:=l) hs h
    |some e=>exact mW.get hs.2 h
def fA (ρ:List (Nat × Nat)) (i:Nat):Option Nat:=match ρ with
 | []=>none
 |(k,j) :: l=>if k=i then some j else fA l i
theorem qM:∀ {ρ:List (Nat × Nat)} {i j:Nat},fA ρ i=some j->(i,j)∈ρ
 | [],_,_,h=>by simp[fA]at h
 |(k,j') :: l,i,j,h=>by
  rw[fA]at h
  split at h
  · rename_i e;simp only[Option.some.injEq]at h;subst e h;exact List.mem_cons_self ..
  · exact List.mem_cons_of_mem _ (qM h)
def LK (ρ:List (Nat × Nat)) (nx:Nat):Prop:=∀ p∈ρ,p.1<nx/\fA ρ p.1=some p.2/\∀ q∈ρ,q.2=p.2->q.1=p.1
theorem abj {tm st tm' st':List (Nat × Option D)} {nx nx' n:Nat} (ρ:List (Nat × Nat)) (hρ:LK ρ nx') (hp:∀ i∈B.pin,fA ρ i=some i) (hg:∀ i,ak (C.gl i)) (ht:tV ρ tm tm') (hs:mW ρ st st'):Wk C B (Z tm st nx n) (Z tm' st' nx' n):=by
 intro g a w hS hI
 generalize hk:(⟨g.fm,λi=>match fA ρ i with|some j=>g.ae j|none=>none⟩:G)=k
 have bW:k.fm=g.fm:=by rw[← hk]
 have hkr:∀ i l,k.ae i=some l->∃ j,fA ρ i=some j/\g.ae j=some l:=by
  intro i l h
  rw[← hk]at h
  simp only at h
  split at h
  · rename_i j hj;exact⟨j,hj,h⟩
  · simp at h
 have hkp:∀ p∈ρ,k.ae p.1=g.ae p.2:=by
  intro p hp
  rw[← hk]
  simp only[(hρ p hp).2.1]
 have hfm:∀ b c,g.fm b=some c->k.fm b=some c:=λb c h=>by rw[bW];exact h
 have hR:=hS.rel
 have e1:aA (bX st)=lk st:=by funext i;exact jU st i
 have e2:aA (bX st')=lk st':=by funext i;exact jU st' i
 simp only[e1]at hR
 refine⟨k,⟨?_,λj => ?_,hS.size,λi hi => ?_,λi => ?_,hS.ms⟩,⟨λb c hb=>hfm _ _ (hI.fm b c hb),hI.hp,hI.fr,λb hb=>hI.jv b (by rw[bW]at hb;exact hb),λi l hi => ?_,hI.sm,λi hi l hl=>by rw[← hk];simp only[hp i hi];exact hI.rk i hi l hl⟩⟩
 · simp only[e2]
   have ob:∀ i d,lk st' i=some d->∃ j e l blk,fA ρ i=some j/\lk st j=some e/\Has g w j e l blk/\Has k w i d l blk:=by
    intro i d hi
    obtain⟨j,e,h1,h2,h3,h4,h5,h6⟩:=hs.get hi
    obtain⟨l,blk,H⟩:=hR.has h2 h5
    have hj:=(hρ _ h1).2.1
    have hkd:=hkp _ h1
    simp only at hkd hj
    exact⟨j,e,l,blk,hj,h2,H,⟨by rw[hkd];exact H.ae,H.row,by rw[bW];exact H.fm,H.len,by rw[← h4];exact H.sz,h6 l H.s,by rw[← h4];exact h3 g k hfm hkp _ _ H.cr⟩⟩
   refine⟨λb c hb=>hR.fm b c (by rw[bW]at hb;exact hb),λi d hi => ?_,λi j l m hi hj hl hm hb => ?_⟩
   · obtain⟨_,_,l,blk,_,_,_,H⟩:=ob i d hi
     exact⟨l,.inl ⟨blk,H⟩⟩
   · cases hi':lk st' i with
     |none=>exact absurd hi' hi
     |some d1 =>
      cases hj':lk st' j with
      |none=>exact absurd hj' hj
      |some d2 =>
       obtain⟨i0,x1,l1,b1,h1,h2,H1,K1⟩:=ob i d1 hi'
       obtain⟨j0,x2,l2,b2,h3,h4,H2,K2⟩:=ob j d2 hj'
       have q1:l1=l:=by have:=K1.ae;rw[hl]at this;simpa using this.symm
       have q2:l2=m:=by have:=K2.ae;rw[hm]at this;simpa using this.symm
       subst q1 q2
       have:=hR.dj i0 j0 _ _ (by simp[h2]) (by simp[h4]) H1.ae H2.ae hb
       subst this
       exact(hρ _ (qM h3)).2.2 _ (qM h1) rfl
 · have h1:=hS.tm j
   simp only[qY]at h1 ⊢
   unfold dl
   cases hj:lk tm' j with
   |none=>simp only[VR,CR];exact⟨trivial,_,rfl⟩
   |some d=>exact ht.get hj g k hfm hkp _ _ h1
 · cases hx:k.ae i with
   |none=>rfl
   |some l =>
    obtain⟨j,h1,_⟩:=hkr i l hx
    have:=(hρ _ (qM h1)).1
    simp only at this hi
    omega
 · exact hg i g k hfm _ _ (hS.gl i)
 · obtain⟨j,_,h2⟩:=hkr i l hi
   exact hI.rn j l h2
end
end Go.Proofs.YtadecgbblajifaaGreatDoor.DV
namespace Go.Proofs.YtadecgbblajifaaGreatDoor
end Go.Proofs.YtadecgbblajifaaGreatDoor
namespace Go.Proofs.YtadecgbblajifaaGreatDoor.DV
open Go
noncomputable section
variable {P:Program} {C:Cx} {B:Base} {r:Option Nat}
def UQ (all:Array Oper) (l:List (Nat × Option D)) (o:Oper):Option Bool:=match o.guard with
 |some (j,_)=>match mV all.toList j with
  |some oj=>match oj.dst with
   |some d=>match dl l d with
    |.lf (.bool c)=>some c
    |_=>none
   |none=>none
  |none=>none
 |none=>none
theorem zg {all:Array Oper} {l:List Oper} {o:Oper} {tm st:List (Nat × Option D)} {nx n:Nat} {K:S->Prop} {c:Bool} (_:UQ all tm o=some c) (h1:c=true->bg P C B r all (o :: l) (Z tm st nx n) K) (h2:c=false->bg P C B r all (o :: l) (Z tm st nx n) K):bg P C B r all (o :: l) (Z tm st nx n) K:=by
 cases c
 · exact h2 rfl
 · exact h1 rfl
theorem zw {all:Array Oper} {l:List Oper} {o:Oper} {tm st:List (Nat × Option D)} {nx n:Nat} {K:S->Prop} (_:eD all tm o=some true) (h:bg P C B r all (o :: l) (Z tm st nx n) K):bg P C B r all (o :: l) (Z tm st nx n) K:=h
theorem bS {c:Operand} {x y:Code} {tm st:List (Nat × Option D)} {nx n:Nat} {K:Ex->S->Prop} (hc:oF (gy C.gl tm c)=some (.lf (.bool true))) (h:Run P C B r x (Z tm st nx n) K):Run P C B r (.cond c x y) (Z tm st nx n) K :=
 JE (b:=true) (by rw[sJ]at hc;simpa using hc) (λ_=>h) λh=>by simp at h
theorem bT {c:Operand} {x y:Code} {tm st:List (Nat × Option D)} {nx n:Nat} {K:Ex->S->Prop} (hc:oF (gy C.gl tm c)=some (.lf (.bool false))) (h:Run P C B r y (Z tm st nx n) K):Run P C B r (.cond c x y) (Z tm st nx n) K :=
 JE (b:=false) (by rw[sJ]at hc;simpa using hc) (λh=>by simp at h) λ_=>h
theorem bU {c:Operand} {x y:Code} {tm st:List (Nat × Option D)} {nx n:Nat} {K:Ex->S->Prop} {b:Bool} (hc:oF (gy C.gl tm c)=some (.lf (.bool b))) (h1:b=true->Run P C B r x (Z tm st nx n) K) (h2:b=false->Run P C B r y (Z tm st nx n) K):Run P C B r (.cond c x y) (Z tm st nx n) K :=
 JE (by rw[sJ]at hc;simpa using hc) h1 h2
section
variable {K:Ex->S->Prop} {R:S->Prop} {t:S} {i j:Nat}
theorem bJ (h:R t):sq K R .normal t:=⟨h⟩
theorem bK (h:K (.exit i) t):sq K R (.exit i) t:=⟨h⟩
theorem bL (h:K .ret t):sq K R .ret t:=⟨h⟩
theorem bM (h:K .normal t):bk i K .normal t:=⟨h⟩
theorem bN (h:K .ret t):bk i K .ret t:=⟨h⟩
theorem bO (hj:Nat.beq j i=true) (h:K .normal t):bk i K (.exit j) t:=by
 have:=Nat.eq_of_beq_eq_true hj
 exact⟨by simpa only[Ci,this,if_true]using h⟩
theorem bP (hj:Nat.beq j i=false) (h:K (.exit j) t):bk i K (.exit j) t:=by
 have:¬ j=i:=λe=>by subst e;simp at hj
 exact⟨by simpa only[Ci,this,if_false]using h⟩
end
def lpf {α:Type} (C:Cx) (B:Base) (K:Ex->S->Prop) (I:α->S) (μ:α->Nat) (ok:α->Prop) (a:α) (t:S):Ex->Prop
 |.normal=>∃ b,ok b/\μ b<μ a/\Wk C B t (I b)
 |ex=>K ex t
structure lp {α:Type} (C:Cx) (B:Base) (K:Ex->S->Prop) (I:α->S) (μ:α->Nat) (ok:α->Prop) (a:α) (ex:Ex) (t:S):Prop where
 out:lpf C B K I μ ok a t ex
section
variable {α:Type} {K:Ex->S->Prop} {I:α->S} {μ:α->Nat} {ok:α->Prop} {a:α} {t:S} {i:Nat}
theorem nZ (b:α) (h1:ok b) (h2:μ b<μ a) (h3:Wk C B t (I b)):lp C B K I μ ok a .normal t:=⟨b,h1,h2,h3⟩
theorem bQ (h:K .ret t):lp C B K I μ ok a .ret t:=⟨h⟩
theorem bR (h:K (.exit i) t):lp C B K I μ ok a (.exit i) t:=⟨h⟩
theorem nO {x:Code} {tm st:List (Nat × Option D)} {nx n:Nat} (I:α->S) (μ:α->Nat) (ok:α->Prop) (a0:α) (h0:ok a0) (hs:Wk C B (Z tm st nx n) (I a0))
 (h:∀ a,ok a->Run P C B r x (I a) (lp C B K I μ ok a)):Run P C B r (.loop x) (Z tm st nx n) K:=by
 refine Ah hs ?_
 refine ZJ (λk t=>∃ a,ok a/\μ a=k/\Wk C B t (I a)) (N:=μ a0) ⟨a0,h0,rfl,λg a w hS hI=>⟨g,hS,hI⟩⟩ λk t ⟨a,ha,hk,hw⟩ => ?_
 refine Ah hw ((h a ha).mono λex t' ⟨q⟩ => ?_)
 cases ex with
 |normal =>
  obtain⟨b,h1,h2,h3⟩:=q
  exact⟨μ b,by omega,b,h1,rfl,h3⟩
 |_=>exact q
end
def BI (ρ:List (Nat × Nat)) (nx:Nat):Bool:=ρ.all λp=>(Nat.blt p.1 nx && (fA ρ p.1 == some p.2)) && ρ.all λq => !(Nat.beq q.2 p.2) || Nat.beq q.1 p.1
theorem Qf {ρ:List (Nat × Nat)} {nx:Nat} (h:BI ρ nx=true):LK ρ nx:=by
 intro p hp
 have h1:=List.all_eq_true.1 h p hp
 simp only[Bool.and_eq_true,beq_iff_eq]at h1
 refine⟨Nat.le_of_ble_eq_true h1.1.1,h1.1.2,λq hq e => ?_⟩
 have h2:=List.all_eq_true.1 h1.2 q hq
 simp only[Bool.or_eq_true,Bool.not_eq_true']at h2
 rcases h2 with h2|h2
 · rw[e]at h2;simp at h2
 · exact Nat.eq_of_beq_eq_true h2
theorem dP {tm st tm' st':List (Nat × Option D)} {nx nx' n:Nat} (ρ:List (Nat × Nat)) (hρ:BI ρ nx'=true) (hg:∀ i,ak (C.gl i)) (ht:tV ρ tm tm') (hs:mW ρ st st') (hp:(B.pin.all λi=>fA ρ i == some i)=true:=by rfl):Wk C B (Z tm st nx n) (Z tm' st' nx' n):=abj ρ (Qf hρ) (λi hi=>by simpa using List.all_eq_true.1 hp i hi) hg ht hs
theorem ak.row {α:Type} {t:Bool} {s:Nat} {f:α->D} (h:∀ x,ak (f x)) (l:List α):ak (.sl t s (l.map f)):=λg k hf m cs H=>by
 have hr:=eO.map (σ:=λ_=>none) h l
 simp only[CR]at H ⊢
 obtain⟨a,c,a1,a2,a4⟩:=H
 refine⟨a,c,a1,a2,?_⟩
 rcases a4 with h4|⟨b,o,blk,a4,a5,a6,a7⟩
 · exact .inl h4
 · exact .inr ⟨b,o,blk,a4,hf _ _ a5,a6,hr.kH (w:=default) (λ_ _ h=>by simp at h) hf (λ_ _ _ _ h=>by simp at h) a7⟩
theorem ak.lf (v:Value):ak (.lf v) := .of (.lf v)
theorem ak.st {ss:List Nat} {ds:List D} (h:∀ d∈ds,ak d):ak (.st ss ds) := .of (.st (.fz h))
theorem ak.tu {ds:List D} (h:∀ d∈ds,ak d):ak (.tu ds) := .of (.tu (.fz h))
theorem ak.fp {d:D} (h:ak d):ak (.fp d) := .of (.fp (.fz h))
theorem Rn.sl {ρ:List (Nat × Nat)} {t:Bool} {s:Nat} {ds es:List D} (h:eP ρ ds es):Rn ρ (.sl t s ds) (.sl false s es):=λg g' hf hr m cs H=>by
 simp only[CR,h.len]at H ⊢
 obtain⟨a,c,a1,a2,a4⟩:=H
 refine⟨a,c,a1,⟨a2.1,λh=>by simp at h⟩,?_⟩
 rcases a4 with rfl|⟨b,o,blk,a4,a5,a6,a7⟩
 · exact .inl (List.length_eq_zero_iff.1 h.len)
 · exact .inr ⟨b,o,blk,a4,hf _ _ a5,a6,h.kH hf hr a7⟩
end
end Go.Proofs.YtadecgbblajifaaGreatDoor.DV
namespace Go.Proofs.YtadecgbblajifaaGreatDoor
end Go.Proofs.YtadecgbblajifaaGreatDoor
namespace Go.Proofs.YtadecgbblajifaaGreatDoor.DV
open Go
noncomputable section
variable {P:Program} {C:Cx} {B:Base} {r:Option Nat}
abbrev Cj:uA:=λ_ _ _ _ _ _=>False
theorem aai (hm:P.follows .mixedOrders=true) (hC:jH P C) {ops:Array Oper} {t st tF uB:Tr D} {nx n kF:Nat} {rO:List Nat} {acc:List Rc} {id:Nat} (hA:il C Cj (eF [] ops.toList) ops nx n t st (nx+ops.size) [] acc tF uB kF rO) (hall:∀ k<ops.size,∃ u∈acc,u.i=k)
 {K:Ex->S->Prop} (hK:K .normal ⟨tF,uB,kF,n,[],[],false⟩):Run P C B r (.region id ops true) ⟨t,st,nx,n,[],[],false⟩ K:=by
 refine⟨λm g a w hS hI => ?_⟩
 have hfr:∀ k,nx<=k->g.ae k=none:=hS.fresh
 have hF:EA P C Cj:=λ_ _ h=>h.elim
 have hnx:=(pV hA).1
 refine wpIn_region_any hm (Q0 hC hF hA hfr hall (ms:=[]) (rd:=false) (w0:=w) (λL g' a' w' tL eQ hL hV => ?_) ops.size _ _ _ g t st (by simp) ?_ ?_ ?_)
 · have xm:∀ v∈acc,L v.i=true:=λv hv=>hL _ ((pV hA).2 v hv).2.2
   have hch:∀ v∈acc,CH v:=λv hv=>hV.ch v hv (xm v hv)
   have e1:aA tL=aA tF:=by
    rw[hV.tm,Kb hA]
    exact fold_congr _ _ λv hv=>xm v hv
   have e2:aA eQ=aA uB:=by
    rw[hV.mem,Ei hA hch]
    exact fold_congr _ _ λv hv=>xm v hv
   have e3:∀ k,dK tL k=dK tF k:=λk=>by
    have:=congrFun e1 k
    simp only[aA]at this
    unfold dK
    rw[this]
   have hT:=hV.st
   refine⟨.normal,_,g',hK,trivial,⟨?_,λk => ?_,hT.size,hT.fresh,hT.gl,hT.ms⟩,hI.step hV.ext⟩
   · have:=hT.rel
     simp only[e2]at this
     exact this
   · have:=hT.tm k
     simp only[e3]at this
     exact this
 · intro i o ho hi
   exfalso
   unfold Lf at hi
   simp only[Array.getD_eq_getD_getElem?,Array.getElem?_replicate]at hi
   split at hi <;> simp at hi
 · have:((List.range ops.size).filter λj => !Lf (Array.replicate ops.size false) j).length<=(List.range ops.size).length:=List.length_filter_le _ _
   simpa using this
 · have hL0:∀ k,Lf (Array.replicate ops.size false) k=false:=by
    intro k
    unfold Lf
    simp only[Array.getD_eq_getD_getElem?,Array.getElem?_replicate]
    split <;> simp
   have hf0:∀ (E:Rc->Eff) (B:List Rc) (s:au),dV E (Lf (Array.replicate ops.size false)) B s=s:=by
    intro E B s
    induction B with
    |nil=>rfl
    |cons u B IH=>simp only[dV,hL0,Bool.false_eq_true,if_false];exact IH
   refine⟨(hf0 _ _ _).symm,(hf0 _ _ _).symm,⟨O3 hS.rel,hS.tm,hS.size,λk hk=>hfr k (by simp only at hk;omega),hS.gl,hS.ms⟩,⟨.refl _,Nat.le_refl _,λ_ _=>rfl,λ_ h => .inl h,λ_ _ h => .inl h,λ_ h => .inl h,⟨rfl,rfl,rfl⟩⟩,λk hk => ?_,λu _ hu => ?_⟩
   · left
     rcases Nat.lt_or_ge k nx with h|h
     · exact h
     · exact absurd (hfr k h) hk
   · rw[hL0]at hu;simp at hu
structure dQ (C:Cx) (ops:Array Oper) (base n:Nat) (t0 st0:List (Nat × Option D)) (acc:List Rc) (i:Nat) (l:List Oper) (tm st:List (Nat × Option D)) (K:S->Prop):Prop where
 out:∀ lg,l=ops.toList.drop i->i<=ops.size->il C Cj (eF [] ops.toList) ops base n (bX t0) (bX st0) (base+ops.size) [] acc (bX tm) (bX st) (base+ops.size) lg->(∀ u∈acc,u.i<i)->(∀ k<i,∃ u∈acc,u.i=k) ->
  ∃ Tx tF sF rO,il C Cj (eF [] ops.toList) ops base n (bX t0) (bX st0) (base+ops.size) [] Tx (bX tF) (bX sF) (base+ops.size) rO/\(∀ k<ops.size,∃ u∈Tx,u.i=k)/\K (Z tF sF (base+ops.size) n)
theorem bG (hm:P.follows .mixedOrders=true) (hC:jH P C) {id:Nat} {ops:Array Oper} {tm st:List (Nat × Option D)} {nx n:Nat} {K:Ex->S->Prop} (h:dQ C ops nx n tm st [] 0 ops.toList tm st (K .normal)):Run P C B r (.region id ops true) (Z tm st nx n) K:=by
 obtain⟨A,tF,sF,rO,h1,h2,h3⟩:=h.out [] (by simp) (Nat.zero_le _) .nil (λu hu=>by simp at hu) (λk hk=>by omega)
 exact aai hm hC h1 h2 h3
def fG (gl:Nat->D) (nm:List Nat) (l:List (Nat × Option D)):Operand->D
 |.tmp k=>match mem1 k nm with
  |true=>dl l k
  |false => .bZ
 |.const v => .lf v
 |.global g=>gl g
 |.func f => .fn (.func f) [] []
theorem vC (gl:Nat->D) (nm:List Nat) (l:List (Nat × Option D)):gH gl nm (bX l)=fG gl nm l:=by
 funext x
 cases x with
 |tmp k=>simp only[gH,fG,qY];cases mem1 k nm <;> rfl
 |_=>rfl
section
variable {ops:Array Oper} {base n i k:Nat} {t0 st0 tm st:List (Nat × Option D)} {acc:List Rc} {l:List Oper} {o:Oper} {K:S->Prop}
theorem bH (h:K (Z tm st (base+ops.size) n)):dQ C ops base n t0 st0 acc i [] tm st K:=⟨λlg hl hi hA _ hall=>by
 have:ops.size<=i:=by
  have:=congrArg List.length hl
  simp at this
  omega
 exact⟨acc,tm,st,lg,hA,λk hk=>hall k (by omega),h⟩⟩
theorem DZ {tm' st':List (Nat × Option D)} {u:Rc} (hu:u.i=i) (bf:jo i (gD o)=true) (hok:iA (eF [] ops.toList) u acc=true)
 (hsp:∀ lg,∃ jf,Sp C Cj (eF [] ops.toList) ops base acc u o (bX tm) (bX st) (base+ops.size) lg (bX st') (base+ops.size) jf) (jy:gP n (bX tm) u.dst u.d=bX tm')
 (h:dQ C ops base n t0 st0 (u :: acc) (i+1) l tm' st' K):dQ C ops base n t0 st0 acc i (o :: l) tm st K:=⟨λlg hl hi hA hlt hall=>by
 obtain⟨hk,ho,hl'⟩:=drop_at hl
 obtain⟨jf,hs⟩:=hsp lg
 refine h.out jf hl' hk ?_ (λv hv => ?_) (λj hj => ?_)
 · rw[← jy]
   exact .cons hA (by rw[hu];exact ho) (λv hv=>by have:=hlt v hv;omega) (by rw[hu];exact IL _ bf) (xR _ hok) hs
 · rcases List.mem_cons.1 hv with rfl|hv
   · omega
   · have:=hlt v hv;omega
 · rcases Nat.lt_or_ge j i with h1|h1
   · obtain⟨v,hv,h2⟩:=hall j h1
     exact⟨v,List.mem_cons_of_mem _ hv,h2⟩
   · exact⟨u,List.mem_cons_self ..,by omega⟩⟩
def ll (C:Cx) (ops:Array Oper) (i:Nat) (o:Oper) (nx:Nat) (tm:List (Nat × Option D)) (d:D) (e:Eff):Rc:=⟨i,o.dst,aN ops o,d,e,kV (fG C.gl (aN ops o) tm) o.op,none,nx,nx⟩
theorem Bf {d:D} {e:Eff} (hw:eD ops tm o=some true) (he:fH C.T (bV (kV (fG C.gl (aN ops o) tm) o.op) (lk st)) (base+i) (fG C.gl (aN ops o) tm) o.op=some (d,e)) (hk:jD (lk st) (base+i) (kV (fG C.gl (aN ops o) tm) o.op) e=true) (bf:jo i (gD o)=true)
 (hok:iA (eF [] ops.toList) (ll C ops i o (base+ops.size) tm d e) acc=true) (h:dQ C ops base n t0 st0 (ll C ops i o (base+ops.size) tm d e :: acc) (i+1) l (eU n o.dst d tm) (gI e st) K):dQ C ops base n t0 st0 acc i (o :: l) tm st K:=by
 have hs:aA (bX st)=lk st:=by funext j;exact jU st j
 refine DZ (u:=ll C ops i o (base+ops.size) tm d e) rfl bf hok (λlg=>⟨kS e lg,?_⟩) (rZ _ _ _ _) h
 rw[← Au]
 exact .loc (d:=d) (e:=e) (by rw[rX];exact hw) (by rw[vC,hs];exact he) (by rw[vC,hs];exact hk) (by simp only[BD,ll,vC])
theorem aaj {c:Call} {fo:Operand} {f:Nat} {az bs as':List D} {d:D} (hw:eD ops tm o=some true) (ho:o.op = .call c) (hc:c.callee = .value fo) (hfo:fG C.gl (aN ops o) tm fo = .fn (.func f) az bs) (ha:az ++ dmap (fG C.gl (aN ops o) tm) c.args.toList ++ bs=as') (hp:C.K f as' d) (bf:jo i (gD o)=true)
 (hok:iA (eF [] ops.toList) (wE ops i o (base+ops.size) d) acc=true) (h:dQ C ops base n t0 st0 (wE ops i o (base+ops.size) d :: acc) (i+1) l (eU n o.dst d tm) st K):dQ C ops base n t0 st0 acc i (o :: l) tm st K :=
 DZ (u:=wE ops i o (base+ops.size) d) rfl bf hok (λlg=>⟨lg,.pure (by rw[rX];exact hw) ho hc (by rw[vC];exact hfo) (by rw[vC,ha];exact hp) rfl⟩) (rZ _ _ _ _) h
theorem abk {c:Call} {fo:Operand} {f:Nat} {az bs as':List D} {d:D} {e:Eff} (tc:List Nat) (hw:eD ops tm o=some true) (ho:o.op = .call c) (hc:c.callee = .value fo) (hfo:fG C.gl (aN ops o) tm fo = .fn (.func f) az bs) (ha:az ++ dmap (fG C.gl (aN ops o) tm) c.args.toList ++ bs=as') (hp:C.E f as' (bV tc (lk st)) (base+i) d e) (hk:jD (lk st) (base+i) tc e=true) (bf:jo i (gD o)=true)
 (hok:iA (eF [] ops.toList) ⟨i,o.dst,aN ops o,d,e,tc,none,base+ops.size,base+ops.size⟩ acc=true) (h:dQ C ops base n t0 st0 (⟨i,o.dst,aN ops o,d,e,tc,none,base+ops.size,base+ops.size⟩ :: acc) (i+1) l (eU n o.dst d tm) (gI e st) K):dQ C ops base n t0 st0 acc i (o :: l) tm st K:=by
 have hs:aA (bX st)=lk st:=by funext j;exact jU st j
 refine DZ (u:=⟨i,o.dst,aN ops o,d,e,tc,none,base+ops.size,base+ops.size⟩) rfl bf hok (λlg=>⟨kS e lg,?_⟩) (rZ _ _ _ _) h
 rw[← Au]
 exact .BF tc (by rw[rX];exact hw) ho hc (by rw[vC];exact hfo) (by rw[vC,hs,ha];exact hp) (by rw[hs];exact hk) rfl
theorem aak (hw:eD ops tm o=some false) (bf:jo i (gD o)=true) (hok:iA (eF [] ops.toList) (qd ops i o (base+ops.size)) acc=true) (h:dQ C ops base n t0 st0 (qd ops i o (base+ops.size) :: acc) (i+1) l (eU n o.dst (.tu []) tm) st K):dQ C ops base n t0 st0 acc i (o :: l) tm st K :=
 DZ (u:=qd ops i o (base+ops.size)) rfl bf hok (λlg=>⟨lg,.skip (by rw[rX];exact hw) rfl⟩) (rZ _ _ _ _) h
theorem d0 {d:D} (hw:eD ops tm o=some true) (hd:o.dst=some k) (hkn:Nat.blt k n=true) (he:Ga (fH C.T (bV (kV (fG C.gl (aN ops o) tm) o.op) (lk st)) (base+i) (fG C.gl (aN ops o) tm) o.op)=some d) (bf:jo i (gD o)=true)
 (hok:iA (eF [] ops.toList) (ll C ops i o (base+ops.size) tm d []) acc=true) (h:dQ C ops base n t0 st0 (ll C ops i o (base+ops.size) tm d [] :: acc) i.succ l ((k,some d) :: tm) st K):dQ C ops base n t0 st0 acc i (o :: l) tm st K :=
 Bf hw (Q6 he) rfl bf hok (by simpa only[eU,hd,hkn,gI]using h)
theorem d1 {d x:D} {j:Nat} (hw:eD ops tm o=some true) (hd:o.dst=some k) (hkn:Nat.blt k n=true) (he:zy (fH C.T (bV (kV (fG C.gl (aN ops o) tm) o.op) (lk st)) (base+i) (fG C.gl (aN ops o) tm) o.op)=some (d,j,x)) (hk:jD (lk st) (base+i) (kV (fG C.gl (aN ops o) tm) o.op) [(j,some x)]=true) (bf:jo i (gD o)=true)
 (hok:iA (eF [] ops.toList) (ll C ops i o (base+ops.size) tm d [(j,some x)]) acc=true) (h:dQ C ops base n t0 st0 (ll C ops i o (base+ops.size) tm d [(j,some x)] :: acc) i.succ l ((k,some d) :: tm) ((j,some x) :: st) K):dQ C ops base n t0 st0 acc i (o :: l) tm st K :=
 Bf hw (Ej he) hk bf hok (by simpa only[eU,hd,hkn,gI]using h)
theorem ds {d x:D} {j:Nat} (hw:eD ops tm o=some true) (hd:o.dst=none) (he:zy (fH C.T (bV (kV (fG C.gl (aN ops o) tm) o.op) (lk st)) (base+i) (fG C.gl (aN ops o) tm) o.op)=some (d,j,x)) (hk:jD (lk st) (base+i) (kV (fG C.gl (aN ops o) tm) o.op) [(j,some x)]=true) (bf:jo i (gD o)=true)
 (hok:iA (eF [] ops.toList) (ll C ops i o (base+ops.size) tm d [(j,some x)]) acc=true) (h:dQ C ops base n t0 st0 (ll C ops i o (base+ops.size) tm d [(j,some x)] :: acc) i.succ l tm ((j,some x) :: st) K):dQ C ops base n t0 st0 acc i (o :: l) tm st K :=
 Bf hw (Ej he) hk bf hok (by simpa only[eU,hd,gI]using h)
theorem dk (hw:eD ops tm o=some false) (hd:o.dst=some k) (hkn:Nat.blt k n=true) (bf:jo i (gD o)=true) (hok:iA (eF [] ops.toList) (qd ops i o (base+ops.size)) acc=true) (h:dQ C ops base n t0 st0 (qd ops i o (base+ops.size) :: acc) i.succ l ((k,some (.tu [])) :: tm) st K):dQ C ops base n t0 st0 acc i (o :: l) tm st K :=
 aak hw bf hok (by simpa only[eU,hd,hkn]using h)
theorem dg {c:Bool} (_:UQ ops tm o=some c) (h1:c=true->dQ C ops base n t0 st0 acc i (o :: l) tm st K) (h2:c=false->dQ C ops base n t0 st0 acc i (o :: l) tm st K):dQ C ops base n t0 st0 acc i (o :: l) tm st K:=by
 cases c
 · exact h2 rfl
 · exact h1 rfl
theorem dw (_:eD ops tm o=some true) (h:dQ C ops base n t0 st0 acc i (o :: l) tm st K):dQ C ops base n t0 st0 acc i (o :: l) tm st K:=h
theorem dc {c:Call} {fo:Operand} {f:Nat} {az bs as':List D} {d:D} (hw:eD ops tm o=some true) (hd:o.dst=some k) (hkn:Nat.blt k n=true) (ho:o.op = .call c) (hc:c.callee = .value fo) (hfo:fG C.gl (aN ops o) tm fo = .fn (.func f) az bs) (ha:az ++ dmap (fG C.gl (aN ops o) tm) c.args.toList ++ bs=as') (hp:C.K f as' d) (bf:jo i (gD o)=true)
 (hok:iA (eF [] ops.toList) (wE ops i o (base+ops.size) d) acc=true) (h:dQ C ops base n t0 st0 (wE ops i o (base+ops.size) d :: acc) i.succ l ((k,some d) :: tm) st K):dQ C ops base n t0 st0 acc i (o :: l) tm st K :=
 aaj hw ho hc hfo ha hp bf hok (by simpa only[eU,hd,hkn]using h)
theorem di {t j s el:Nat} {x ix:Operand} {y:Ty} {tt:Bool} {xs:List D} {kd:IntKind} {e:D} (hw:eD ops tm o=some true) (hd:o.dst=some k) (hkn:Nat.blt k n=true) (ho:o.op = .indexAddr t x ix) (hy:C.T t=some y) (hyk:y.k = .sl el s) (hx:fG C.gl (aN ops o) tm x = .sl tt s xs) (hi:fG C.gl (aN ops o) tm ix = .lf (.int kd (.ofNat j))) (he:xs[j]? = some e) (hs:sz e=s) (bf:jo i (gD o)=true)
 (hok:iA (eF [] ops.toList) (ll C ops i o (base+ops.size) tm (.fp e) []) acc=true) (h:dQ C ops base n t0 st0 (ll C ops i o (base+ops.size) tm (.fp e) [] :: acc) i.succ l ((k,some (.fp e)) :: tm) st K):dQ C ops base n t0 st0 acc i (o :: l) tm st K :=
 Bf (d := .fp e) (e:=[]) hw (by simp[ho,fH,FV,hy,iG,Bv,mU,hi,hyk,hx,he,hs]) rfl bf hok (by simpa only[eU,hd,hkn,gI]using h)
end
end
end Go.Proofs.YtadecgbblajifaaGreatDoor.DV
namespace Go.Proofs.YtadecgbblajifaaGreatDoor
end Go.Proofs.YtadecgbblajifaaGreatDoor
