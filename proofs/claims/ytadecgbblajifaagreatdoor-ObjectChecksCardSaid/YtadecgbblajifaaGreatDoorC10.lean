import Derived.Test.YtadecgbblajifaaGreatDoorC09
import Derived.OrdersIn
set_option linter.unusedSimpArgs false
set_option linter.unusedVariables false
set_option maxRecDepth 100000
set_option maxHeartbeats 25600000
namespace Go.Proofs.YtadecgbblajifaaGreatDoor
end Go.Proofs.YtadecgbblajifaaGreatDoor
namespace Go.Proofs.YtadecgbblajifaaGreatDoor.DV
open Go
noncomputable section
def dW (o:Oper):List Nat:=(o.after.toList.filter (Region.binds .any)).map (·.on)
def mem1 (k:Nat):List Nat->Bool
 | []=>false
 |x :: l=>match Nat.beq k x with
  |true=>true
  |false=>mem1 k l
def qf:List Nat->List Nat->List Nat
 | [],b=>b
 |x :: a,b=>match mem1 x b with
  |true=>qf a b
  |false=>qf a (x :: b)
def gT (tab:List (List Nat)) (i:Nat):List Nat:=match iV tab i with
 |some l=>l
 |none=>[]
def vD (tab:List (List Nat)):List Nat->List Nat->List Nat
 | [],b=>b
 |j :: l,b=>vD tab l (qf (gT tab j) (qf [j] b))
def cz:List (List Nat)->List Oper->List (List Nat)
 |tab,[]=>tab
 |tab,o :: l=>cz (tab ++ [vD tab (dW o) []]) l
def FQ (o:Oper):Bool:=match o.op with
 |.call c=>match c.callee with
  |.builtin _=>false
  |_=>true
 |_=>false
def an (tab:List (List Nat)) (i j:Nat):Bool:=mem1 j (gT tab i)
def FT (tab:List (List Nat)) (gs:List Nat) (j:Nat):Bool:=match gs with
 | []=>true
 |i :: gs=>match Nat.beq i j,an tab j i with
  |false,false=>FT tab gs j
  |_,_=>false
def Ab:Nat->List Oper->List Nat
 |_,[]=>[]
 |i,o :: l=>match FQ o with
  |true=>i :: Ab (i+1) l
  |false=>Ab (i+1) l
def ES (tab:List (List Nat)) (n:Nat):List Nat->List Nat->List Nat
 |dn,[]=>dn ++ (List.range n).filter λj => !mem1 j dn
 |dn,i :: gs=>ES tab n (dn ++ ((List.range n).filter λj=>FT tab (i :: gs) j && !mem1 j dn) ++ [i]) gs
def kT:D->List Nat
 |.ref i _=>[i]
 |.own _ i _ _=>[i]
 |.mp i=>[i]
 |_=>[]
def gU (get:Operand->D):Op->List Nat
 |.load _ x=>kT (get x)
 |.store _ x _=>kT (get x)
 |.indexAddr _ x _=>kT (get x)
 |.slice _ x _ _ _=>kT (get x)
 |.convert _ _ x=>kT (get x)
 |.lookup _ m _ _=>kT (get m)
 |.mapUpdate _ m _ _=>kT (get m)
 |.insert _ m _ _=>kT (get m)
 |.call c=>c.args.toList.flatMap λx=>kT (get x)
 |_=>[]
structure Rc where
 i:Nat
 dst:Option Nat
 nm:List Nat
 d:D
 e:Eff
 tc:List Nat
 c:Option (Tr D × Tr D)
 n0:Nat
 n1:Nat
def pU:List Nat->List Nat->Bool
 | [],_=>true
 |x :: l,m=>match mem1 x m with
  |true=>false
  |false=>pU l m
def keys:Eff->List Nat
 | []=>[]
 |(k,_) :: e=>k :: keys e
def vT (x:Option Nat) (l:List Nat):Bool:=match x with
 |some d=>mem1 d l
 |none=>false
def FU:Option Nat->Option Nat->Bool
 |some a,some b=>Nat.beq a b
 |_,_=>false
def ET (u v:Rc):Bool:=match vT u.dst v.nm,vT v.dst u.nm,FU u.dst v.dst with
 |false,false,false=>true
 |_,_,_=>false
def EU (u v:Rc):Bool:=match pU (keys u.e) v.tc,pU (keys u.e) (keys v.e),pU u.tc (keys v.e)with
 |true,true,true=>true
 |_,_,_=>false
def kD (u v:Rc):Bool:=match u.c with
 |some _=>false
 |none=>match ET u v with
  |true=>EU u v
  |false=>false
def fH (tab:List (List Nat)) (v:Rc):List Rc->Bool
 | []=>true
 |u :: l=>match an tab v.i u.i with
  |true=>fH tab v l
  |false=>match kD u v with
   |true=>fH tab v l
   |false=>false
def eG (tc:List Nat) (σ:ai):ai:=λi=>match mem1 i tc with
 |true=>σ i
 |false=>none
def jZ (st st':Tr D):List Nat->Eff
 | []=>[]
 |i :: l=>match aG st i,aG st' i with
  |none,none=>jZ st st' l
  |_,d=>(i,d) :: jZ st st' l
def oo (tab:List (List Nat)) (i:Nat):List Rc->List Nat
 | []=>[]
 |v :: l=>match an tab i v.i with
  |true=>oo tab i l
  |false=>keys v.e ++ oo tab i l
def gY:List Nat->Tr D->Tr D
 | [],t=>t
 |k :: l,t=>bz (gY l t) k none
def vU {β:Type} : List Nat->Tr D->(Tr D->β)->β
 | [],t,K=>K t
 |k :: l,t,K=>vU l t λt=>ek t k none K
theorem DL {β:Type} : ∀ (l:List Nat) (t:Tr D) (K:Tr D->β),vU l t K=K (gY l t)
 | [],_,_=>rfl
 |k :: l,t,K=>by rw[vU,DL l,gD];rfl
def dC (gl:Nat->D) (nm:List Nat) (t:Tr D):Operand->D
 |.tmp k=>match mem1 k nm with
  |true=>aV t k
  |false => .aO
 |.const v => .lf v
 |.global g=>gl g
 |.func f => .fn (.func f) [] []
def Ac:List Operand->List Nat
 | []=>[]
 |.tmp k :: l=>k :: Ac l
 |_ :: l=>Ac l
def Ad (all:Array Oper) (o:Oper):List Nat:=match o.guard with
 |some (j,_)=>match iV all.toList j with
  |some oj=>match oj.dst with
   |some d=>[d]
   |none=>[]
  |none=>[]
 |none=>[]
def aL (all:Array Oper) (o:Oper):List Nat:=Ad all o ++ Ac o.op.operands.toList
def vE (i:Nat):List Rc->Bool
 | []=>true
 |u :: l=>match Nat.beq i u.i with
  |true=>false
  |false=>vE i l
def gN (i:Nat):List Nat->Bool
 | []=>true
 |j :: l=>match Nat.blt j i with
  |true=>gN i l
  |false=>false
def kP (σ:ai) (id:Nat) (tc:List Nat):Eff->Bool
 | []=>true
 |(k,_) :: e=>match Nat.beq k id || (mem1 k tc && (σ k).isSome)with
  |true=>kP σ id tc e
  |false=>false
def idxs:List Rc->List Nat
 | []=>[]
 |u :: l=>u.i :: idxs l
def allI:Nat->List Nat->Bool
 |0,_=>true
 |n+1,l=>match mem1 n l with
  |true=>allI n l
  |false=>false
section
variable (C:Cx) (ih:bA->S->R) (tab:List (List Nat)) (all:Array Oper) (base:Nat)
def j3 (i:Nat) (o:Oper) (nx:Nat):Rc:=⟨i,o.dst,aL all o,.tu [],[],[],none,nx,nx⟩
def nR (i:Nat) (o:Oper) (nx:Nat) (d:D):Rc:=⟨i,o.dst,aL all o,d,[],[],none,nx,nx⟩
def rT (i:Nat) (o:Oper) (nx:Nat) (t:Tr D) (d:D) (e:Eff):Rc:=⟨i,o.dst,aL all o,d,e,gU (dC C.gl (aL all o) t) o.op,none,nx,nx⟩
def uR (i:Nat) (o:Oper) (nx:Nat) (st:Tr D) (d:D) (s1:S):Rc:=⟨i,o.dst,aL all o,d,jZ st s1.s s1.lg,[],some (st,s1.s),nx,s1.nx⟩
def zf {β:Type} (rm:List Nat) (st st1:Tr D) (e:Eff) (K:Tr D->β):β:=match rm with
 | []=>K st1
 |_=>pQ e st [] λst _=>K st
def zh (rm:List Nat) (st st1:Tr D) (e:Eff):Tr D:=match rm with
 | []=>st1
 |_=>gG e st
theorem Kw {β:Type} (rm:List Nat) (st st1:Tr D) (e:Eff) (K:Tr D->β):zf rm st st1 e K=K (zh rm st st1 e):=by
 cases rm with
 |nil=>rfl
 |cons k l=>simp only[zf,zh,um]
def Es (acc:List Rc) (i:Nat) (o:Oper):S->Option (S × List Rc)
 |⟨t,st,nx,n,ms,lg,rd⟩=>match fH tab (j3 all i o nx) acc with
  |true=>lU n t o.dst (.tu []) λt=>some (⟨t,st,nx,n,ms,lg,rd⟩,j3 all i o nx :: acc)
  |false=>none
def EW (acc:List Rc) (i:Nat) (o:Oper):S->Option (S × List Rc)
 |⟨t,st,nx,n,ms,lg,rd⟩=>match eT C.T (eG (gU (dC C.gl (aL all o) t) o.op) (ak st)) (base+i) (dC C.gl (aL all o) t) o.op with
  |some (d,e)=>fD d λd=>match kP (ak st) (base+i) (gU (dC C.gl (aL all o) t) o.op) e,fH tab (rT C all i o nx t d e) acc with
   |true,true=>pQ e st lg λst lg=>lU n t o.dst d λt'=>some (⟨t',st,nx,n,ms,lg,rd⟩,rT C all i o nx t d e :: acc)
   |_,_=>none
  |none=>none
def uS (az:List D) (st:Tr D) (nx:Nat):D->R
 |.fn (.func f) a b=>iE (a ++ az ++ b) λaz=>ih (.call f az) ⟨.e,st,nx,0,[],[],false⟩
 |.yd i=>qY ih az i st nx []
 |_=>none
def uG (acc:List Rc) (i:Nat) (o:Oper) (rm:List Nat) (st0:Tr D):S->R->Option (S × List Rc)
 |⟨t,st,nx,n,ms,lg,rd⟩,some (.val d,s1)=>match Nat.ble nx s1.nx,fH tab (uR all i o nx st0 d s1) acc with
  |true,true=>zf rm st s1.s (jZ st0 s1.s s1.lg) λst'=>lU n t o.dst d λt=>some (⟨t,st',s1.nx,n,ms,s1.lg ++ lg,rd⟩,uR all i o nx st0 d s1 :: acc)
  |_,_=>none
 |_,_=>none
def Et (acc:List Rc) (i:Nat) (o:Oper) (s:S):Option (S × List Rc):=match o.op with
 |.call c=>match c.callee with
  |.value fo=>iE (oo tab i acc) λrm=>vU rm s.s λst0=>uG tab all acc i o rm st0 s (uS ih (dmap (dC C.gl (aL all o) s.tm) c.args.toList) st0 s.nx (dC C.gl (aL all o) s.tm fo))
  |_=>none
 |_=>none
def zl (s:S) (acc:List Rc) (i:Nat) (o:Oper):Option (S × List Rc):=match vE i acc,gN i (dW o)with
 |true,true=>match want all s.tm o with
  |some true=>match FQ o with
   |false=>EW C tab all base acc i o s
   |true=>Et C ih tab all acc i o s
  |some false=>Es tab all acc i o s
  |none=>none
 |_,_=>none
def sH:List Nat->S->List Rc->Option (S × List Rc)
 | [],s,acc=>some (s,acc)
 |i :: l,s,acc=>match iV all.toList i with
  |some o=>match zl C ih tab all base s acc i o with
   |some (s,acc)=>sH l s acc
   |none=>none
  |none=>none
end
def zI (C:Cx) (ih:bA->S->R) (ops:Array Oper):S->R
 |⟨t,st,nx,n,ms,lg,rd⟩=>fN (nx+ops.size) λmi=>match sH C ih (cz [] ops.toList) ops nx (ES (cz [] ops.toList) ops.size [] (Ab 0 ops.toList)) ⟨t,st,mi,n,ms,lg,rd⟩ []with
  |some (s,acc)=>match allI ops.size (idxs acc)with
   |true=>some (.normal,s)
   |false=>none
  |none=>none
end
end Go.Proofs.YtadecgbblajifaaGreatDoor.DV
namespace Go.Proofs.YtadecgbblajifaaGreatDoor
end Go.Proofs.YtadecgbblajifaaGreatDoor
namespace Go.Proofs.YtadecgbblajifaaGreatDoor.DV
open Go
theorem lu (k:Nat):∀ l:List Nat,mem1 k l=true↔k∈l
 | []=>by simp[mem1]
 |x :: l=>by
  rw[mem1,List.mem_cons]
  split
  · rename_i h;simp[Nat.eq_of_beq_eq_true h]
  · rename_i h
    have:¬ k=x:=λe=>by rw[e]at h;simp at h
    simp[lu k l,this]
theorem uq:∀ (l m:List Nat),pU l m=true->∀ x∈l,x ∉ m
 | [],m,_,x,hx=>by simp at hx
 |y :: l,m,h,x,hx=>by
  rw[pU]at h
  split at h
  · simp at h
  · rename_i h1
    rcases List.mem_cons.1 hx with rfl|hx
    · intro hm;rw[(lu _ _).2 hm]at h1;simp at h1
    · exact uq l m h x hx
theorem tQ (k:Nat):∀ e:Eff,aB e k≠none->k∈keys e
 | [],h=>by simp[aB]at h
 |(j,d) :: e,h=>by
  by_cases hk:k=j
  · simp[keys,hk]
  · rw[gz _ _ hk]at h
    exact List.mem_cons_of_mem _ (tQ k e h)
theorem wY {k:Nat} {e:Eff} (h:k ∉ keys e):aB e k=none:=by
 cases hl:aB e k with
 |none=>rfl
 |some d=>exact absurd (tQ k e (by simp[hl])) h
theorem uu (x:Nat):∀ a b:List Nat,x∈qf a b->x∈a\/x∈b
 | [],b,h => .inr h
 |y :: a,b,h=>by
  rw[qf]at h
  split at h
  · rcases uu x a b h with h|h
    · exact .inl (List.mem_cons_of_mem _ h)
    · exact .inr h
  · rcases uu x a _ h with h|h
    · exact .inl (List.mem_cons_of_mem _ h)
    · rcases List.mem_cons.1 h with rfl|h
      · exact .inl (List.mem_cons_self ..)
      · exact .inr h
theorem Ck (tab:List (List Nat)) (x:Nat):∀ l b:List Nat,x∈vD tab l b->x∈b\/∃ j∈l,x=j\/x∈gT tab j
 | [],b,h => .inl h
 |j :: l,b,h=>by
  rw[vD]at h
  rcases Ck tab x l _ h with h|⟨m,h1,h2⟩
  · rcases uu x _ _ h with h|h
    · exact .inr ⟨j,List.mem_cons_self ..,.inr h⟩
    · rcases uu x _ _ h with h|h
      · exact .inr ⟨j,List.mem_cons_self ..,.inl (by simpa using h)⟩
      · exact .inl h
  · exact .inr ⟨m,List.mem_cons_of_mem _ h1,h2⟩
theorem Dc {tab:List (List Nat)} {m x:Nat} (h:x∈gT tab m):m<tab.length:=by
 unfold gT at h
 rw[mV]at h
 split at h
 · rename_i l hl;exact(List.getElem?_eq_some_iff.1 hl).1
 · simp at h
theorem xC {tab:List (List Nat)} {m:Nat} (l:List Nat) (h:m<tab.length):gT (tab ++ [l]) m=gT tab m:=by
 unfold gT
 rw[mV,mV,List.getElem?_append_left h]
theorem JF (tab:List (List Nat)) (l:List Nat):gT (tab ++ [l]) tab.length=l:=by
 unfold gT
 rw[mV]
 simp
def yC (f:Nat->List Nat) (tab:List (List Nat)):Prop:=∀ i x,x∈gT tab i->∃ j∈f i,x=j\/(j<i/\x∈gT tab j)
theorem De (f:Nat->List Nat):∀ (l:List Oper) (tab:List (List Nat)),yC f tab->(∀ k o,l[k]? = some o->f (tab.length+k)=dW o)->yC f (cz tab l)
 | [],tab,h,_=>h
 |o :: l,tab,h,hf=>by
  rw[cz]
  have h0:=hf 0 o rfl
  rw[Nat.add_zero]at h0
  refine De f l _ (λi x hx => ?_) λk o' ho' => ?_
  · have hi:=Dc hx
    rw[List.length_append]at hi
    simp only[List.length_cons,List.length_nil]at hi
    rcases Nat.lt_or_ge i tab.length with h1|h1
    · rw[xC _ h1]at hx
      obtain⟨j,h2,h3⟩:=h i x hx
      refine⟨j,h2,h3.imp_right λh4=>⟨h4.1,?_⟩⟩
      rw[xC _ (by omega)]
      exact h4.2
    · obtain rfl:i=tab.length:=by omega
      rw[JF]at hx
      rcases Ck _ _ _ _ hx with h2|⟨j,h2,h3⟩
      · simp at h2
      · rw[h0]
        refine⟨j,h2,h3.imp_right λh4 => ?_⟩
        have:=Dc h4
        exact⟨this,by rw[xC _ this];exact h4⟩
  · have:=hf (k+1) o' (by simpa using ho')
    rw[← this]
    congr 1
    simp
    omega
def Ae (ops:Array Oper) (L:Nat->Bool):Prop:=∀ i o,ops[i]? = some o->L i=true->∀ j∈dW o,L j=true
def nS (ops:Array Oper) (i:Nat):List Nat:=match ops[i]? with
 |some o=>dW o
 |none=>[]
theorem Df (ops:Array Oper):yC (nS ops) (cz [] ops.toList) :=
 De _ _ _ (λi x h=>by simp[gT,iV]at h) λk o h=>by
  have h:ops[k]? = some o:=by simpa using h
  simp[nS,h]
theorem yD {ops:Array Oper} {L:Nat->Bool} (hL:Ae ops L) {i j:Nat} (hi:∀ m∈nS ops i,L m=true) (h:an (cz [] ops.toList) i j=true):L j=true:=by
 have h:=(lu _ _).1 h
 have key:∀ i x,L i=true->x∈gT (cz [] ops.toList) i->L x=true:=by
  intro i
  induction i using Nat.strongRecOn with
  |_ i ih =>
   intro x hi hx
   obtain⟨m,h1,h2⟩:=Df ops i x hx
   have hm:L m=true:=by
    unfold nS at h1
    split at h1
    · rename_i o ho;exact hL i o ho hi m h1
    · simp at h1
   rcases h2 with rfl|h2
   · exact hm
   · exact ih m h2.1 x hm h2.2
 obtain⟨m,h1,h2⟩:=Df ops i j h
 rcases h2 with rfl|h2
 · exact hi _ h1
 · exact key m j (hi m h1) h2.2
def bf (E:Rc->Eff) (L:Nat->Bool):List Rc->ai->ai
 | [],s=>s
 |u :: l,s=>if L u.i=true then app (E u) (bf E L l s)else bf E L l s
def up (L:Nat->Bool) (i:Nat):Nat->Bool:=λj=>if j=i then true else L j
theorem fold_congr {E:Rc->Eff} {L M:Nat->Bool} : ∀ (A:List Rc) (s:ai),(∀ v∈A,L v.i=M v.i)->bf E L A s=bf E M A s
 | [],s,_=>rfl
 |u :: A,s,h=>by
  rw[bf,bf,h u (List.mem_cons_self ..),fold_congr A s λv hv=>h v (List.mem_cons_of_mem _ hv)]
theorem xD {E:Rc->Eff} {L:Nat->Bool} {u:Rc} {pre:List Rc} {s:ai} (hL:L u.i=false) (hpre:∀ v∈pre,v.i≠u.i):∀ (post:List Rc),(∀ v∈post,v.i≠u.i)->(∀ v∈post,L v.i=true->∀ k,aB (E v) k≠none->aB (E u) k=none) ->
 bf E (up L u.i) (post ++ u :: pre) s=app (E u) (bf E L (post ++ u :: pre) s)
 | [],_,_=>by
  have:bf E (up L u.i) pre s=bf E L pre s:=fold_congr _ _ λv hv=>by simp[up,hpre v hv]
  simp[bf,hL,this,up]
 |v :: post,hn,hd=>by
  have ih:=xD (E:=E) (s:=s) hL hpre post (λx hx=>hn x (List.mem_cons_of_mem _ hx)) λx hx=>hd x (List.mem_cons_of_mem _ hx)
  have h1:up L u.i v.i=L v.i:=by simp[up,hn v (List.mem_cons_self ..)]
  rw[List.cons_append,bf,bf,h1,ih]
  cases hv:L v.i with
  |false=>simp
  |true =>
   simp only[if_true]
   funext k
   have:=hd v (List.mem_cons_self ..) hv k
   simp only[app]
   cases h2:aB (E v) k with
   |none=>rfl
   |some d=>rw[this (by simp[h2])]
theorem Cm {E:Rc->Eff} {L:Nat->Bool} {k:Nat} : ∀ (pre:List Rc) (s:ai),(∀ v∈pre,L v.i=false->aB (E v) k=none)->bf E L pre s k=bf E (λ_=>true) pre s k
 | [],s,_=>rfl
 |v :: pre,s,h=>by
  have ih:=Cm pre s λx hx=>h x (List.mem_cons_of_mem _ hx)
  rw[bf,bf]
  simp only[if_true,app]
  cases hv:L v.i with
  |true=>simp only[if_true,app];rw[ih]
  |false =>
   rw[h v (List.mem_cons_self ..) hv]
   simpa using ih
theorem fold_at {E:Rc->Eff} {L:Nat->Bool} {u:Rc} {pre:List Rc} {s:ai} {k:Nat} (hL:L u.i=false) (hpre:∀ v∈pre,L v.i=false->aB (E v) k=none):∀ (post:List Rc),(∀ v∈post,L v.i=true->aB (E v) k=none) ->
 bf E L (post ++ u :: pre) s k=bf E (λ_=>true) pre s k
 | [],_=>by
  rw[List.nil_append,bf]
  simp only[hL,Bool.false_eq_true,if_false]
  exact Cm pre s hpre
 |v :: post,h=>by
  have ih:=fold_at (E:=E) (s:=s) hL hpre post λx hx=>h x (List.mem_cons_of_mem _ hx)
  rw[List.cons_append,bf]
  cases hv:L v.i with
  |false=>simpa using ih
  |true =>
   simp only[if_true,app]
   rw[h v (List.mem_cons_self ..) hv]
   exact ih
abbrev mr:=List D->Tr D->Nat->D->D->S->Prop
def cR (ih:bA->S->R):mr:=λaz st nx fv d s1=>uS ih az st nx fv=some (.val d,s1)
section
variable (C:Cx) (ih:mr) (tab:List (List Nat)) (ops:Array Oper) (base n:Nat) (t0 st0:Tr D) (fQ:Nat) (dL:List Nat)
inductive Sp (acc:List Rc) (u:Rc) (o:Oper) (t st:Tr D) (nx:Nat) (lg:List Nat):Tr D->Nat->List Nat->Prop
 |skip:want ops t o=some false->u=j3 ops u.i o nx->Sp acc u o t st nx lg st nx lg
 |loc {d e} : want ops t o=some true->eT C.T (eG (gU (dC C.gl (aL ops o) t) o.op) (ak st)) (base+u.i) (dC C.gl (aL ops o) t) o.op=some (d,e)->kP (ak st) (base+u.i) (gU (dC C.gl (aL ops o) t) o.op) e=true ->
  u=rT C ops u.i o nx t d e->Sp acc u o t st nx lg (gG e st) nx (iy e lg)
 |pure {c fo k a b d} : want ops t o=some true->o.op = .call c->c.callee = .value fo->dC C.gl (aL ops o) t fo = .fn (.func k) a b->C.K k (a ++ dmap (dC C.gl (aL ops o) t) c.args.toList ++ b) d->u=nR ops u.i o nx d->Sp acc u o t st nx lg st nx lg
 |vF {c fo k a b d e} (tc:List Nat):want ops t o=some true->o.op = .call c->c.callee = .value fo->dC C.gl (aL ops o) t fo = .fn (.func k) a b->C.E k (a ++ dmap (dC C.gl (aL ops o) t) c.args.toList ++ b) (eG tc (ak st)) (base+u.i) d e->kP (ak st) (base+u.i) tc e=true ->
  u=⟨u.i,o.dst,aL ops o,d,e,tc,none,nx,nx⟩->Sp acc u o t st nx lg (gG e st) nx (iy e lg)
 |rU {c fo d s1} (rm:List Nat):want ops t o=some true->o.op = .call c->c.callee = .value fo->ih (dmap (dC C.gl (aL ops o) t) c.args.toList) (gY rm st) nx (dC C.gl (aL ops o) t fo) d s1 ->
  nx<=s1.nx->u=uR ops u.i o nx (gY rm st) d s1->(∀ v∈acc,an tab u.i v.i=false->∀ k∈keys v.e,k∈rm)->Sp acc u o t st nx lg (zh rm st s1.s u.e) s1.nx (s1.lg ++ lg)
inductive dM:List Rc->Tr D->Tr D->Nat->List Nat->Prop
 |nil:dM [] t0 st0 fQ dL
 |cons {acc t st nx lg u o st' nx' eU} : dM acc t st nx lg->ops[u.i]? = some o->(∀ v∈acc,v.i≠u.i)->(∀ j∈dW o,j<u.i)->(∀ v∈acc,an tab u.i v.i=true\/kD v u=true)->Sp C ih tab ops base acc u o t st nx lg st' nx' eU ->
  dM (u :: acc) (dH n t u.dst u.d) st' nx' eU
end
theorem Dg {i:Nat} : ∀ l:List Rc,vE i l=true->∀ v∈l,v.i≠i
 | [],_,v,hv=>by simp at hv
 |u :: l,h,v,hv=>by
  rw[vE]at h
  split at h
  · simp at h
  · rename_i h1
    rcases List.mem_cons.1 hv with rfl|hv
    · rintro rfl;simp at h1
    · exact Dg l h v hv
theorem xE {i:Nat} : ∀ l:List Nat,gN i l=true->∀ j∈l,j<i
 | [],_,v,hv=>by simp at hv
 |u :: l,h,v,hv=>by
  rw[gN]at h
  split at h
  · rename_i h1
    rcases List.mem_cons.1 hv with rfl|hv
    · exact Nat.le_of_ble_eq_true h1
    · exact xE l h v hv
  · simp at h
theorem oN {tab:List (List Nat)} {u:Rc} : ∀ l:List Rc,fH tab u l=true->∀ v∈l,an tab u.i v.i=true\/kD v u=true
 | [],_,v,hv=>by simp at hv
 |w :: l,h,v,hv=>by
  rw[fH]at h
  split at h
  · rename_i h1
    rcases List.mem_cons.1 hv with rfl|hv
    · exact .inl h1
    · exact oN l h v hv
  · split at h
    · rename_i h1
      rcases List.mem_cons.1 hv with rfl|hv
      · exact .inr h1
      · exact oN l h v hv
    · simp at h
theorem DN {tab:List (List Nat)} {i:Nat} : ∀ acc:List Rc,∀ v∈acc,an tab i v.i=false->∀ k∈keys v.e,k∈oo tab i acc
 | [],v,hv,_,k,_=>by simp at hv
 |u :: l,v,hv,h,k,hk=>by
  rw[oo]
  rcases List.mem_cons.1 hv with rfl|hv
  · rw[h];exact List.mem_append_left _ hk
  · have:=DN l v hv h k hk
    split
    · exact this
    · exact List.mem_append_right _ this
section
variable {C:Cx} {ih:bA->S->R} {tab:List (List Nat)} {ops:Array Oper} {base n:Nat} {t0 st0:Tr D} {fQ:Nat} {dL:List Nat}
theorem JG {s s':S} {acc acc':List Rc} {i:Nat} {o:Oper} (ho:ops[i]? = some o) (h:zl C ih tab ops base s acc i o=some (s',acc')) (hR:dM C (cR ih) tab ops base s.n t0 st0 fQ dL acc s.tm s.s s.nx s.lg) :
 dM C (cR ih) tab ops base s.n t0 st0 fQ dL acc' s'.tm s'.s s'.nx s'.lg/\s'.n=s.n/\s'.ms=s.ms/\s'.rd=s.rd:=by
 obtain⟨t,st,nx,n,ms,lg,rd⟩:=s
 unfold zl at h
 split at h
 case h_2=>simp at h
 rename_i h1 h2
 have h1:=Dg _ h1
 have h2:=xE _ h2
 split at h
 · rename_i hw
   split at h
   · unfold EW at h
     dsimp only at h
     split at h
     case h_2=>simp at h
     rename_i d e he
     rw[nG]at h
     split at h
     case h_2=>simp at h
     rename_i hk hok
     simp only[um,oW,Option.some.injEq,Prod.mk.injEq]at h
     obtain⟨rfl,rfl⟩:=h
     exact⟨dM.cons (u:=rT C ops i o nx t d e) hR ho h1 h2 (oN _ hok) (.loc hw he hk rfl),rfl,rfl,rfl⟩
   · unfold Et at h
     split at h
     case h_2=>simp at h
     rename_i c hop
     split at h
     case h_2=>simp at h
     rename_i fo hc
     rw[nk,DL]at h
     dsimp only at h
     generalize hx:uS ih _ _ _ _=r at h
     obtain _|⟨ex,s1⟩:=r
     · simp[uG]at h
     cases ex
     case val d =>
      unfold uG at h
      dsimp only at h
      split at h
      case h_2=>simp at h
      rename_i hn hok
      simp only[Kw,oW,Option.some.injEq,Prod.mk.injEq]at h
      obtain⟨rfl,rfl⟩:=h
      exact⟨dM.cons (u:=uR ops i o nx (gY (oo tab i acc) st) d s1) hR ho h1 h2 (oN _ hok) (.rU (oo tab i acc) hw hop hc hx (Nat.le_of_ble_eq_true hn) rfl (DN acc)),rfl,rfl,rfl⟩
     all_goals simp[uG]at h
 · rename_i hw
   unfold Es at h
   dsimp only at h
   split at h
   case h_2=>simp at h
   rename_i hok
   simp only[oW,Option.some.injEq,Prod.mk.injEq]at h
   obtain⟨rfl,rfl⟩:=h
   exact⟨dM.cons (u:=j3 ops i o nx) hR ho h1 h2 (oN _ hok) (.skip hw rfl),rfl,rfl,rfl⟩
 · simp at h
theorem Dh:∀ (l:List Nat) {s s':S} {acc acc':List Rc},sH C ih tab ops base l s acc=some (s',acc')->dM C (cR ih) tab ops base s.n t0 st0 fQ dL acc s.tm s.s s.nx s.lg ->
 dM C (cR ih) tab ops base s.n t0 st0 fQ dL acc' s'.tm s'.s s'.nx s'.lg/\s'.n=s.n/\s'.ms=s.ms/\s'.rd=s.rd
 | [],s,s',acc,acc',h,hR=>by
  simp only[sH,Option.some.injEq,Prod.mk.injEq]at h
  obtain⟨rfl,rfl⟩:=h
  exact⟨hR,rfl,rfl,rfl⟩
 |i :: l,s,s',acc,acc',h,hR=>by
  rw[sH]at h
  split at h
  case h_2=>simp at h
  rename_i o ho
  rw[mV]at ho
  split at h
  case h_2=>simp at h
  rename_i s1 Qh hs
  obtain⟨h1,h2,h3,h4⟩:=JG (by simpa using ho) hs hR
  rw[← h2]at h1
  obtain⟨h5,h6,h7,h8⟩:=Dh l h h1
  rw[h2]at h5
  exact⟨h5,h6.trans h2,h7.trans h3,h8.trans h4⟩
theorem Cn {k:Nat} : ∀ l:List Rc,k∈idxs l->∃ u∈l,u.i=k
 | [],h=>by simp[idxs]at h
 |u :: l,h=>by
  rcases List.mem_cons.1 h with rfl|h
  · exact⟨u,List.mem_cons_self ..,rfl⟩
  · obtain⟨v,h1,h2⟩:=Cn l h
    exact⟨v,List.mem_cons_of_mem _ h1,h2⟩
theorem Di {l:List Rc} : ∀ n,allI n (idxs l)=true->∀ k<n,∃ u∈l,u.i=k
 |0,_,k,hk=>by omega
 |n+1,h,k,hk=>by
  rw[allI]at h
  split at h
  · rename_i h1
    rcases Nat.lt_or_ge k n with h2|h2
    · exact Di n h k h2
    · obtain rfl:k=n:=by omega
      exact Cn _ ((lu _ _).1 h1)
  · simp at h
end
end Go.Proofs.YtadecgbblajifaaGreatDoor.DV
namespace Go.Proofs.YtadecgbblajifaaGreatDoor
end Go.Proofs.YtadecgbblajifaaGreatDoor
namespace Go.Proofs.YtadecgbblajifaaGreatDoor.DV
open Go
def te (n:Nat) (u:Rc):Eff:=match u.dst with
 |some d=>match Nat.blt d n with
  |true=>[(d,some u.d)]
  |false=>[]
 |none=>[]
theorem Lu (t:Tr D) (i:Nat) (d:Option D):ak (bz t i d)=app [(i,d)] (ak t):=iJ [(i,d)] t
theorem Co (n:Nat) (t:Tr D) (u:Rc):ak (dH n t u.dst u.d)=app (te n u) (ak t):=by
 unfold dH te
 cases u.dst with
 |none=>rfl
 |some d =>
  dsimp only
  cases Nat.blt d n with
  |true=>exact Lu _ _ _
  |false=>rfl
theorem uw {n:Nat} {u:Rc} {k:Nat} (h:∀ d,u.dst=some d->d≠k):aB (te n u) k=none:=by
 unfold te
 split
 · rename_i d hd
   split
   · rw[gz _ _ (Ne.symm (h d hd))];rfl
   · rfl
 · rfl
theorem Lv {n:Nat} {u:Rc} {k:Nat} (h:aB (te n u) k≠none):u.dst=some k:=by
 cases hd:u.dst with
 |none=>simp[te,hd,aB]at h
 |some d =>
  by_cases hk:d=k
  · rw[hk]
  · exact absurd (uw λd' h'=>by rw[hd]at h';simp at h';omega) h
def CH (u:Rc):Prop:=∀ p,u.c=some p->ak p.2=app u.e (ak p.1)
structure Ap (u v:Rc):Prop where
 c:u.c=none
 n1:∀ d,u.dst=some d->d ∉ v.nm
 n2:∀ d,v.dst=some d->d ∉ u.nm
 n3:∀ d,u.dst=some d->v.dst≠some d
 k1:∀ k,aB u.e k≠none->aB v.e k=none
 k2:∀ k∈u.tc,aB v.e k=none
 k3:∀ k∈v.tc,aB u.e k=none
theorem DR {u v:Rc} (h:kD u v=true):Ap u v:=by
 unfold kD at h
 split at h
 · simp at h
 rename_i hc
 split at h
 case h_2=>simp at h
 rename_i hn
 have he:=h
 unfold ET at hn
 split at hn
 case h_2=>simp at hn
 rename_i h1 h2 h3
 have hin:∀ (x:Option Nat) (l:List Nat),vT x l=false->∀ d,x=some d->d ∉ l:=by
  rintro x l h d rfl hd
  rw[vT,(lu _ _).2 hd]at h
  simp at h
 have heq:∀ d,u.dst=some d->v.dst≠some d:=by
  intro d hu hv
  rw[hu,hv]at h3
  simp[FU]at h3
 unfold EU at he
 split at he
 case h_2=>simp at he
 rename_i e1 e2 e3
 have hd1:=uq _ _ e1
 have hd2:=uq _ _ e2
 have hd3:=uq _ _ e3
 exact⟨hc,hin _ _ h1,hin _ _ h2,heq,λk hk=>wY (hd2 k (tQ _ _ hk)),λk hk=>wY (hd3 k hk),λk hk=>wY λh=>hd1 k h hk⟩
section
variable {C:Cx} {ih:mr} {tab:List (List Nat)} {ops:Array Oper} {base n:Nat} {t0 st0:Tr D} {fQ:Nat} {dL:List Nat}
theorem zm {A:List Rc} {t st:Tr D} {nx:Nat} {lg:List Nat} (h:dM C ih tab ops base n t0 st0 fQ dL A t st nx lg):ak t=bf (te n) (λ_=>true) A (ak t0):=by
 induction h with
 |nil=>rfl
 |cons _ _ _ _ _ _ IH=>rw[Co,IH];simp[bf]
theorem uH {A:List Rc} {t st:Tr D} {nx:Nat} {lg:List Nat} (h:dM C ih tab ops base n t0 st0 fQ dL A t st nx lg):(∀ u∈A,CH u)->ak st=bf (·.e) (λ_=>true) A (ak st0):=by
 induction h with
 |nil=>intro _;rfl
 | @cons acc t st nx lg u o st' nx' eU _ _ _ _ _ hs IH =>
  intro hc
  have IH:=IH λv hv=>hc v (List.mem_cons_of_mem _ hv)
  simp only[bf,if_true]
  rw[← IH]
  cases hs with
  |skip _ hu=>rw[hu];rfl
  |pure _ _ _ _ _ hu=>rw[hu];rfl
  |loc _ _ _ hu=>rw[iJ];rw[hu];rfl
  |vF _ _ _ _ _ _ _ hu=>rw[iJ];rw[hu]
  | @rU _ _ _ s1 rm _ _ _ _ _ hu _ =>
   have:=hc u (List.mem_cons_self ..) (gY rm st,s1.s) (by rw[hu];rfl)
   cases rm with
   |nil=>exact this
   |cons k l=>exact iJ _ _
theorem Eu {acc:List Rc} {u:Rc} {o:Oper} {t st st':Tr D} {nx nx':Nat} {lg eU:List Nat} (h:Sp C ih tab ops base acc u o t st nx lg st' nx' eU):u.n0=nx/\u.n1=nx'/\nx<=nx'/\u.nm=aL ops o/\u.dst=o.dst:=by
 cases h with
 |skip _ hu=>rw[hu];exact⟨rfl,rfl,Nat.le_refl _,rfl,rfl⟩
 |pure _ _ _ _ _ hu=>rw[hu];exact⟨rfl,rfl,Nat.le_refl _,rfl,rfl⟩
 |loc _ _ _ hu=>rw[hu];exact⟨rfl,rfl,Nat.le_refl _,rfl,rfl⟩
 |vF _ _ _ _ _ _ _ hu=>rw[hu];exact⟨rfl,rfl,Nat.le_refl _,rfl,rfl⟩
 |rU _ _ _ _ _ hn hu _=>rw[hu];exact⟨rfl,rfl,hn,rfl,rfl⟩
theorem jT {A:List Rc} {t st:Tr D} {nx:Nat} {lg:List Nat} (h:dM C ih tab ops base n t0 st0 fQ dL A t st nx lg):fQ<=nx/\∀ u∈A,fQ<=u.n0/\u.n1<=nx/\u.i<ops.size:=by
 induction h with
 |nil=>exact⟨Nat.le_refl _,λu hu=>by simp at hu⟩
 | @cons acc t st nx lg u o st' nx' eU _ ho _ _ _ hs IH =>
  obtain⟨h1,h2,h3,_⟩:=Eu hs
  refine⟨Nat.le_trans IH.1 h3,λv hv => ?_⟩
  rcases List.mem_cons.1 hv with rfl|hv
  · exact⟨by rw[h1];exact IH.1,by rw[h2];exact Nat.le_refl _,(Array.getElem?_eq_some_iff.1 ho).1⟩
  · exact⟨(IH.2 v hv).1,Nat.le_trans (IH.2 v hv).2.1 h3,(IH.2 v hv).2.2⟩
theorem oO (k:Nat):∀ (e:Eff) (l:List Nat),(k∈l->k∈iy e l)/\(aB e k≠none->k∈iy e l)
 | [],l=>⟨λh=>h,λh=>by simp[aB]at h⟩
 |(j,d) :: e,l=>by
  refine⟨λh=>List.mem_cons_of_mem _ ((oO k e l).1 h),λh => ?_⟩
  by_cases hk:k=j
  · rw[hk];exact List.mem_cons_self ..
  · rw[gz _ _ hk]at h
    exact List.mem_cons_of_mem _ ((oO k e l).2 h)
theorem tN (st st':Tr D) (k:Nat):∀ l:List Nat,aB (jZ st st' l) k=if k∈l/\(aG st k≠none\/aG st' k≠none)then some (aG st' k)else none
 | []=>by simp[jZ,aB]
 |j :: l=>by
  have ih:=tN st st' k l
  rw[jZ]
  by_cases hk:k=j
  · subst hk
    split
    · rename_i h1 h2
      rw[ih,h1,h2]
      simp
    · rename_i h1
      rw[oH,if_pos]
      refine⟨List.mem_cons_self ..,?_⟩
      cases h2:aG st k with
      |some d=>simp
      |none =>
       right
       exact h1 h2
  · have:(k∈j :: l)=(k∈l):=by simp[hk]
    simp only[this]
    split
    · exact ih
    · rw[gz _ _ hk];exact ih
theorem JH {st st':Tr D} {k:Nat} (l:List Nat) (h:aB (jZ st st' l) k≠none):k∈l:=by
 rw[tN]at h
 split at h
 · rename_i h1;exact h1.1
 · simp at h
theorem JI {st st':Tr D} {l:List Nat} (h:∀ k,k ∉ l->aG st' k=aG st k):ak st'=app (jZ st st' l) (ak st):=by
 funext k
 simp only[app,tN,ak]
 by_cases h1:k∈l
 · by_cases h2:aG st k≠none\/aG st' k≠none
   · rw[if_pos ⟨h1,h2⟩]
   · rw[if_neg λh=>h2 h.2]
     have h3:aG st k=none/\aG st' k=none:=by
      cases h4:aG st k <;> cases h5:aG st' k <;> simp[h4,h5]at h2 ⊢
     rw[h3.1,h3.2]
 · rw[if_neg λh=>h1 h.1,h k h1]
theorem Dj (k:Nat):∀ (l:List Nat) (t:Tr D),aG (gY l t) k=if k∈l then none else aG t k
 | [],t=>by simp[gY]
 |j :: l,t=>by
  rw[gY,ic,Dj k l]
  by_cases h:k=j <;> simp[h]
theorem ML {A:List Rc} {t st:Tr D} {nx:Nat} {lg:List Nat} (h:dM C ih tab ops base n t0 st0 fQ dL A t st nx lg):(∀ k∈dL,k∈lg)/\∀ u∈A,∀ k,aB u.e k≠none->k∈lg:=by
 induction h with
 |nil=>exact⟨λ_ h=>h,λu hu=>by simp at hu⟩
 | @cons acc t st nx lg u o st' nx' eU _ ho _ _ _ hs IH =>
  have key:(∀ k∈lg,k∈eU)/\∀ k,aB u.e k≠none->k∈eU:=by
   cases hs with
   |skip _ hu=>rw[hu];exact⟨λ_ h=>h,λk h=>by simp[j3,aB]at h⟩
   |pure _ _ _ _ _ hu=>rw[hu];exact⟨λ_ h=>h,λk h=>by simp[nR,aB]at h⟩
   |loc _ _ _ hu=>rw[hu];exact⟨λk h=>(oO k _ _).1 h,λk h=>(oO k _ _).2 h⟩
   |vF _ _ _ _ _ _ _ hu=>rw[hu];exact⟨λk h=>(oO k _ _).1 h,λk h=>(oO k _ _).2 h⟩
   |rU _ _ _ _ _ _ hu _ =>
    rw[hu]
    exact⟨λk h=>List.mem_append_right _ h,λk h=>List.mem_append_left _ (JH _ h)⟩
  refine⟨λk hk=>key.1 k (IH.1 k hk),λv hv k hk => ?_⟩
  rcases List.mem_cons.1 hv with rfl|hv
  · exact key.2 k hk
  · exact key.1 k (IH.2 v hv k hk)
structure At (C:Cx) (ih:mr) (tab:List (List Nat)) (ops:Array Oper) (base n:Nat) (t0 st0:Tr D) (fQ:Nat) (dL:List Nat) (A:List Rc) (u:Rc) (o:Oper) (post pre:List Rc) (t st:Tr D) (nx:Nat) (lg:List Nat):Prop where
 eq:A=post ++ u :: pre
 ran:dM C ih tab ops base n t0 st0 fQ dL pre t st nx lg
 op:ops[u.i]? = some o
 dp:∀ j∈dW o,j<u.i
 ne1:∀ v∈pre,v.i≠u.i
 vV:∀ v∈post,v.i≠u.i
 ok1:∀ v∈pre,an tab u.i v.i=true\/kD v u=true
 kD:∀ v∈post,an tab v.i u.i=true\/kD u v=true
 sp:∃ st' nx' eU,Sp C ih tab ops base pre u o t st nx lg st' nx' eU
theorem DT {A:List Rc} {t st:Tr D} {nx:Nat} {lg:List Nat} (h:dM C ih tab ops base n t0 st0 fQ dL A t st nx lg):∀ u∈A,∃ o post pre t st nx lg,At C ih tab ops base n t0 st0 fQ dL A u o post pre t st nx lg:=by
 induction h with
 |nil=>intro u hu;simp at hu
 | @cons acc t st nx lg v o st' nx' eU hr ho hn hd hok hs IH =>
  intro u hu
  rcases List.mem_cons.1 hu with rfl|hu'
  · exact⟨o,[],acc,t,st,nx,lg,rfl,hr,ho,hd,hn,λv hv=>by simp at hv,hok,λv hv=>by simp at hv,_,_,_,hs⟩
  · obtain⟨o',post,pre,t',st',nx',eU,h⟩:=IH u hu'
    refine⟨o',v :: post,pre,t',st',nx',eU,by rw[h.eq];rfl,h.ran,h.op,h.dp,h.ne1,λx hx => ?_,h.ok1,λx hx => ?_,h.sp⟩
    · rcases List.mem_cons.1 hx with rfl|hx
      · exact(hn u hu').symm
      · exact h.vV x hx
    · rcases List.mem_cons.1 hx with rfl|hx
      · exact hok u hu'
      · exact h.kD x hx
end
theorem Jc {ops:Array Oper} {t t':Tr D} {o:Oper} (h:∀ k∈Ad ops o,aV t k=aV t' k):want ops t o=want ops t' o:=by
 unfold want
 split
 · rfl
 · rename_i j b hg
   have:yl ops t j=yl ops t' j:=by
    unfold yl
    split
    · rename_i oj hj
      split
      · rename_i d hd
        rw[h d]
        simp[Ad,hg,hj,hd]
      · rfl
    · rfl
   rw[this]
theorem Jd {gl:Nat->D} {nm:List Nat} {t t':Tr D} (h:∀ k∈nm,aV t k=aV t' k):dC gl nm t=dC gl nm t':=by
 funext x
 unfold dC
 split
 · split
   · rename_i h1;exact h _ ((lu _ _).1 h1)
   · rfl
 · rfl
 · rfl
 · rfl
theorem Lx {C:Cx} {s:S} {g:G} {a:Act} {w:World} (h:St C s g a w) (nm:List Nat) (x:Operand):VR g (dC C.gl nm s.tm x) (a.eval x):=by
 unfold dC
 split
 · split
   · exact h.tm _
   · simp only[VR,CR,true_and];exact⟨_,rfl⟩
 · exact cu _ _
 · exact h.gl _
 · simp only[VR,CR,Act.eval]
   exact⟨[],[],rfl,by simp[au],by simp[au]⟩
theorem Rel.sub {g:G} {s σ:ai} {w:World} (R:Rel g σ w) (h:∀ i d,s i=some d->σ i=some d):Rel g s w:=by
 refine⟨R.fm,λi d hd=>R.ob i d (h i d hd),λi j l m hi hj => ?_⟩
 refine R.dj i j l m ?_ ?_
 · cases hd:s i with
   |none=>exact absurd hd hi
   |some d=>rw[h _ _ hd];simp
 · cases hd:s j with
   |none=>exact absurd hd hj
   |some d=>rw[h _ _ hd];simp
theorem xG {σ:ai} {id:Nat} {tc:List Nat} {k:Nat} : ∀ e:Eff,kP σ id tc e=true->aB e k≠none->eG tc σ k≠none\/k=id
 | [],_,h=>by simp[aB]at h
 |(j,d) :: e,hk,h=>by
  rw[kP]at hk
  split at hk
  case h_2=>simp at hk
  rename_i hj
  by_cases hkj:k=j
  · subst hkj
    simp only[Bool.or_eq_true,Bool.and_eq_true]at hj
    rcases hj with hj|⟨h1,h2⟩
    · exact .inr (Nat.eq_of_beq_eq_true hj)
    · left
      unfold eG
      rw[h1]
      intro h3
      simp only at h3
      rw[h3]at h2
      simp at h2
  · rw[gz _ _ hkj]at h
    exact xG e hk h
end Go.Proofs.YtadecgbblajifaaGreatDoor.DV
namespace Go.Proofs.YtadecgbblajifaaGreatDoor
end Go.Proofs.YtadecgbblajifaaGreatDoor
