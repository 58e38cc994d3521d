import Derived.Test.YtadecgbblajifaaGreatDoorA25
set_option linter.unusedSimpArgs false
set_option linter.unusedVariables false
set_option maxRecDepth 100000
set_option maxHeartbeats 25600000
namespace Go.Proofs.YtadecgbblajifaaGreatDoor
end Go.Proofs.YtadecgbblajifaaGreatDoor
namespace Go.Proofs.YtadecgbblajifaaGreatDoor.DV
open Go
noncomputable section
def kR (o:Oper):List Nat:=(o.after.toList.filter (Region.binds .any)).map (·.on)
def mem1 (k:Nat):List Nat->Bool
 | []=>false
 |x :: l=>match Nat.beq k x with
  |true=>true
  |false=>mem1 k l
def uP:List Nat->List Nat->List Nat
 | [],b=>b
 |x :: a,b=>match mem1 x b with
  |true=>uP a b
  |false=>uP a (x :: b)
def gU (tab:List (List Nat)) (i:Nat):List Nat:=match mV tab i with
 |some l=>l
 |none=>[]
def Be (tab:List (List Nat)):List Nat->List Nat->List Nat
 | [],b=>b
 |j :: l,b=>Be tab l (uP (gU tab j) (uP [j] b))
def iN:List (List Nat)->List Oper->List (List Nat)
 |tab,[]=>tab
 |tab,o :: l=>iN (tab ++ [Be tab (kR o) []]) l
def Rs (o:Oper):Bool:=match o.op with
 |.call c=>match c.callee with
  |.builtin _=>false
  |_=>true
 |_=>false
def an (tab:List (List Nat)) (i j:Nat):Bool:=mem1 j (gU tab i)
def Rt (tab:List (List Nat)) (gs:List Nat) (j:Nat):Bool:=match gs with
 | []=>true
 |i :: gs=>match Nat.beq i j,an tab j i with
  |false,false=>Rt tab gs j
  |_,_=>false
def Hm:Nat->List Oper->List Nat
 |_,[]=>[]
 |i,o :: l=>match Rs o with
  |true=>i :: Hm (i+1) l
  |false=>Hm (i+1) l
def OL (tab:List (List Nat)) (n:Nat):List Nat->List Nat->List Nat
 |dn,[]=>dn ++ (List.range n).filter λj => !mem1 j dn
 |dn,i :: gs=>OL tab n (dn ++ ((List.range n).filter λj=>Rt tab (i :: gs) j && !mem1 j dn) ++ [i]) gs
def mW:D->List Nat
 |.ref i _=>[i]
 |.own _ i _ _=>[i]
 |.mp i=>[i]
 |_=>[]
def tY (get:Operand->D):Op->List Nat
 |.load _ x=>mW (get x)
 |.store _ x _=>mW (get x)
 |.indexAddr _ x _=>mW (get x)
 |.slice _ x _ _ _=>mW (get x)
 |.convert _ _ x=>mW (get x)
 |.lookup _ m _ _=>mW (get m)
 |.mapUpdate _ m _ _=>mW (get m)
 |.insert _ m _ _=>mW (get m)
 |.call c=>c.args.toList.flatMap λx=>mW (get x)
 |_=>[]
structure Rc where
 i:Nat
 dst:Option Nat
 nm:List Nat
 d:D
 e:Eff
 tc:List Nat
 c:Option (Tr D × Tr D)
 n0:Nat
 n1:Nat
def tZ:List Nat->List Nat->Bool
 | [],_=>true
 |x :: l,m=>match mem1 x m with
  |true=>false
  |false=>tZ l m
def keys:Eff->List Nat
 | []=>[]
 |(k,_) :: e=>k :: keys e
def Cc (x:Option Nat) (l:List Nat):Bool:=match x with
 |some d=>mem1 d l
 |none=>false
def Ru:Option Nat->Option Nat->Bool
 |some a,some b=>Nat.beq a b
 |_,_=>false
def OM (u v:Rc):Bool:=match Cc u.dst v.nm,Cc v.dst u.nm,Ru u.dst v.dst with
 |false,false,false=>true
 |_,_,_=>false
def OO (u v:Rc):Bool:=match tZ (keys u.e) v.tc,tZ (keys u.e) (keys v.e),tZ u.tc (keys v.e)with
 |true,true,true=>true
 |_,_,_=>false
def lZ (u v:Rc):Bool:=match u.c with
 |some _=>false
 |none=>match OM u v with
  |true=>OO u v
  |false=>false
def qI (tab:List (List Nat)) (v:Rc):List Rc->Bool
 | []=>true
 |u :: l=>match an tab v.i u.i with
  |true=>qI tab v l
  |false=>match lZ u v with
   |true=>qI tab v l
   |false=>false
def mK (tc:List Nat) (σ:ak):ak:=λi=>match mem1 i tc with
 |true=>σ i
 |false=>none
def kY (st st':Tr D):List Nat->Eff
 | []=>[]
 |i :: l=>match aN st i,aN st' i with
  |none,none=>kY st st' l
  |_,d=>(i,d) :: kY st st' l
def rU (tab:List (List Nat)) (i:Nat):List Rc->List Nat
 | []=>[]
 |v :: l=>match an tab i v.i with
  |true=>rU tab i l
  |false=>keys v.e ++ rU tab i l
def iq:List Nat->Tr D->Tr D
 | [],t=>t
 |k :: l,t=>bu (iq l t) k none
def Ce {β:Type} : List Nat->Tr D->(Tr D->β)->β
 | [],t,K=>K t
 |k :: l,t,K=>Ce l t λt=>dK t k none K
theorem K3 {β:Type} : ∀ (l:List Nat) (t:Tr D) (K:Tr D->β),Ce l t K=K (iq l t)
 | [],_,_=>rfl
 |k :: l,t,K=>by rw[Ce,K3 l,gp];rfl
def eF (gl:Nat->D) (nm:List Nat) (t:Tr D):Operand->D
 |.tmp k=>match mem1 k nm with
  |true=>bF t k
  |false => .bL
 |.const v => .lf v
 |.global g=>gl g
 |.func f => .fn (.func f) [] []
def Ho:List Operand->List Nat
 | []=>[]
 |.tmp k :: l=>k :: Ho l
 |_ :: l=>Ho l
def Hq (all:Array Oper) (o:Oper):List Nat:=match o.guard with
 |some (j,_)=>match mV all.toList j with
  |some oj=>match oj.dst with
   |some d=>[d]
   |none=>[]
  |none=>[]
 |none=>[]
def dV (all:Array Oper) (o:Oper):List Nat:=Hq all o ++ Ho o.op.operands.toList
def Bf (i:Nat):List Rc->Bool
 | []=>true
 |u :: l=>match Nat.beq i u.i with
  |true=>false
  |false=>Bf i l
def z8 (i:Nat):List Nat->Bool
 | []=>true
 |j :: l=>match Nat.blt j i with
  |true=>z8 i l
  |false=>false
def wz (σ:ak) (id:Nat) (tc:List Nat):Eff->Bool
 | []=>true
 |(k,_) :: e=>match Nat.beq k id || (mem1 k tc && (σ k).isSome)with
  |true=>wz σ id tc e
  |false=>false
def idxs:List Rc->List Nat
 | []=>[]
 |u :: l=>u.i :: idxs l
def allI:Nat->List Nat->Bool
 |0,_=>true
 |n+1,l=>match mem1 n l with
  |true=>allI n l
  |false=>false
section
variable (C:Cx) (ih:bg->S->R) (tab:List (List Nat)) (all:Array Oper) (base:Nat)
def wB (i:Nat) (o:Oper) (nx:Nat):Rc:=⟨i,o.dst,dV all o,.tu [],[],[],none,nx,nx⟩
def rPur (i:Nat) (o:Oper) (nx:Nat) (d:D):Rc:=⟨i,o.dst,dV all o,d,[],[],none,nx,nx⟩
def Bg (i:Nat) (o:Oper) (nx:Nat) (t:Tr D) (d:D) (e:Eff):Rc:=⟨i,o.dst,dV all o,d,e,tY (eF C.gl (dV all o) t) o.op,none,nx,nx⟩
def Aa (i:Nat) (o:Oper) (nx:Nat) (st:Tr D) (d:D) (s1:S):Rc:=⟨i,o.dst,dV all o,d,kY st s1.s s1.lg,[],some (st,s1.s),nx,s1.nx⟩
def E9 {β:Type} (rm:List Nat) (st st1:Tr D) (e:Eff) (K:Tr D->β):β:=match rm with
 | []=>K st1
 |_=>tV e st [] λst _=>K st
def Fa (rm:List Nat) (st st1:Tr D) (e:Eff):Tr D:=match rm with
 | []=>st1
 |_=>jX e st
theorem U1 {β:Type} (rm:List Nat) (st st1:Tr D) (e:Eff) (K:Tr D->β):E9 rm st st1 e K=K (Fa rm st st1 e):=by
 cases rm with
 |nil=>rfl
 |cons k l=>simp only[E9,Fa,zn]
def Nf (acc:List Rc) (i:Nat) (o:Oper):S->Option (S × List Rc)
 |⟨t,st,nx,n,ms,lg,rd⟩=>match qI tab (wB all i o nx) acc with
  |true=>oO n t o.dst (.tu []) λt=>some (⟨t,st,nx,n,ms,lg,rd⟩,wB all i o nx :: acc)
  |false=>none
def OP (acc:List Rc) (i:Nat) (o:Oper):S->Option (S × List Rc)
 |⟨t,st,nx,n,ms,lg,rd⟩=>match rR C.T (mK (tY (eF C.gl (dV all o) t) o.op) (ax st)) (base+i) (eF C.gl (dV all o) t) o.op with
  |some (d,e)=>fD d λd=>match wz (ax st) (base+i) (tY (eF C.gl (dV all o) t) o.op) e,qI tab (Bg C all i o nx t d e) acc with
   |true,true=>tV e st lg λst lg=>oO n t o.dst d λt'=>some (⟨t',st,nx,n,ms,lg,rd⟩,Bg C all i o nx t d e :: acc)
   |_,_=>none
  |none=>none
def Ab (az:List D) (st:Tr D) (nx:Nat):D->R
 |.fn (.func f) a b=>iU (a ++ az ++ b) λaz=>ih (.call f az) ⟨.e,st,nx,0,[],[],false⟩
 |.yd i=>vT ih az i st nx []
 |_=>none
def zC (acc:List Rc) (i:Nat) (o:Oper) (rm:List Nat) (st0:Tr D):S->R->Option (S × List Rc)
 |⟨t,st,nx,n,ms,lg,rd⟩,some (.val d,s1)=>match Nat.ble nx s1.nx,qI tab (Aa all i o nx st0 d s1) acc with
  |true,true=>E9 rm st s1.s (kY st0 s1.s s1.lg) λst'=>oO n t o.dst d λt=>some (⟨t,st',s1.nx,n,ms,s1.lg ++ lg,rd⟩,Aa all i o nx st0 d s1 :: acc)
  |_,_=>none
 |_,_=>none
def Ng (acc:List Rc) (i:Nat) (o:Oper) (s:S):Option (S × List Rc):=match o.op with
 |.call c=>match c.callee with
  |.value fo=>iU (rU tab i acc) λrm=>Ce rm s.s λst0=>zC tab all acc i o rm st0 s (Ab ih (dmap (eF C.gl (dV all o) s.tm) c.args.toList) st0 s.nx (eF C.gl (dV all o) s.tm fo))
  |_=>none
 |_=>none
def Fb (s:S) (acc:List Rc) (i:Nat) (o:Oper):Option (S × List Rc):=match Bf i acc,z8 i (kR o)with
 |true,true=>match want all s.tm o with
  |some true=>match Rs o with
   |false=>OP C tab all base acc i o s
   |true=>Ng C ih tab all acc i o s
  |some false=>Nf tab all acc i o s
  |none=>none
 |_,_=>none
def yE:List Nat->S->List Rc->Option (S × List Rc)
 | [],s,acc=>some (s,acc)
 |i :: l,s,acc=>match mV all.toList i with
  |some o=>match Fb C ih tab all base s acc i o with
   |some (s,acc)=>yE l s acc
   |none=>none
  |none=>none
end
def Gd (C:Cx) (ih:bg->S->R) (ops:Array Oper):S->R
 |⟨t,st,nx,n,ms,lg,rd⟩=>fN (nx+ops.size) λpV=>match yE C ih (iN [] ops.toList) ops nx (OL (iN [] ops.toList) ops.size [] (Hm 0 ops.toList)) ⟨t,st,pV,n,ms,lg,rd⟩ []with
  |some (s,acc)=>match allI ops.size (idxs acc)with
   |true=>some (.normal,s)
   |false=>none
  |none=>none
end
end Go.Proofs.YtadecgbblajifaaGreatDoor.DV
namespace Go.Proofs.YtadecgbblajifaaGreatDoor
end Go.Proofs.YtadecgbblajifaaGreatDoor
namespace Go.Proofs.YtadecgbblajifaaGreatDoor.DV
open Go
theorem qj (k:Nat):∀ l:List Nat,mem1 k l=true↔k∈l
 | []=>by simp[mem1]
 |x :: l=>by
  rw[mem1,List.mem_cons];split
  · rename_i h;simp[Nat.eq_of_beq_eq_true h]
  · rename_i h;have:¬ k=x:=λe=>by rw[e]at h;simp at h
    simp[qj k l,this]
theorem zo:∀ (l m:List Nat),tZ l m=true->∀ x∈l,x ∉ m
 | [],m,_,x,hx=>by simp at hx
 |y :: l,m,h,x,hx=>by
  rw[tZ]at h;split at h
  · simp at h
  · rename_i h1;rcases List.mem_cons.1 hx with rfl|hx
    · intro hm;rw[(qj _ _).2 hm]at h1;simp at h1
    · exact zo l m h x hx
theorem yX (k:Nat):∀ e:Eff,aH e k≠none->k∈keys e
 | [],h=>by simp[aH]at h
 |(j,d) :: e,h=>by
  by_cases hk:k=j
  · simp[keys,hk]
  · rw[gm _ _ hk]at h;exact List.mem_cons_of_mem _ (yX k e h)
theorem CW {k:Nat} {e:Eff} (h:k ∉ keys e):aH e k=none:=by
 cases hl:aH e k with
 |none=>rfl
 |some d=>exact absurd (yX k e (by simp[hl])) h
theorem zq (x:Nat):∀ a b:List Nat,x∈uP a b->x∈a\/x∈b
 | [],b,h => .inr h
 |y :: a,b,h=>by
  rw[uP]at h;split at h
  · rcases zq x a b h with h|h
    · exact .inl (List.mem_cons_of_mem _ h)
    · exact .inr h
  · rcases zq x a _ h with h|h
    · exact .inl (List.mem_cons_of_mem _ h)
    · rcases List.mem_cons.1 h with rfl|h
      · exact .inl (List.mem_cons_self ..)
      · exact .inr h
theorem JA (tab:List (List Nat)) (x:Nat):∀ l b:List Nat,x∈Be tab l b->x∈b\/∃ j∈l,x=j\/x∈gU tab j
 | [],b,h => .inl h
 |j :: l,b,h=>by
  rw[Be]at h;rcases JA tab x l _ h with h|⟨m,h1,h2⟩
  · rcases zq x _ _ h with h|h
    · exact .inr ⟨j,List.mem_cons_self ..,.inr h⟩
    · rcases zq x _ _ h with h|h
      · exact .inr ⟨j,List.mem_cons_self ..,.inl (by simpa using h)⟩
      · exact .inl h
  · exact .inr ⟨m,List.mem_cons_of_mem _ h1,h2⟩
theorem Kh {tab:List (List Nat)} {m x:Nat} (h:x∈gU tab m):m<tab.length:=by
 unfold gU at h;rw[qp]at h;split at h
 · rename_i l hl;exact(List.getElem?_eq_some_iff.1 hl).1
 · simp at h
theorem Di {tab:List (List Nat)} {m:Nat} (l:List Nat) (h:m<tab.length):gU (tab ++ [l]) m=gU tab m:=by
 unfold gU;rw[qp,qp,List.getElem?_append_left h]
theorem TW (tab:List (List Nat)) (l:List Nat):gU (tab ++ [l]) tab.length=l:=by
 unfold gU;rw[qp];simp
def D9 (f:Nat->List Nat) (tab:List (List Nat)):Prop:=∀ i x,x∈gU tab i->∃ j∈f i,x=j\/(j<i/\x∈gU tab j)
theorem Ki (f:Nat->List Nat):∀ (l:List Oper) (tab:List (List Nat)),D9 f tab->(∀ k o,l[k]? = some o->f (tab.length+k)=kR o)->D9 f (iN tab l)
 | [],tab,h,_=>h
 |o :: l,tab,h,hf=>by
  rw[iN];have h0:=hf 0 o rfl;rw[Nat.add_zero]at h0;refine Ki f l _ (λi x hx => ?_) λk o' ho' => ?_
  · have hi:=Kh hx;rw[List.length_append]at hi;simp only[List.length_cons,List.length_nil]at hi;rcases Nat.lt_or_ge i tab.length with h1|h1
    · rw[Di _ h1]at hx;obtain⟨j,h2,h3⟩:=h i x hx;refine⟨j,h2,h3.imp_right λh4=>⟨h4.1,?_⟩⟩;rw[Di _ (by omega)];exact h4.2
    · obtain rfl:i=tab.length:=by omega
      rw[TW]at hx;rcases JA _ _ _ _ hx with h2|⟨j,h2,h3⟩
      · simp at h2
      · rw[h0];refine⟨j,h2,h3.imp_right λh4 => ?_⟩;have:=Kh h4;exact⟨this,by rw[Di _ this];exact h4⟩
  · have:=hf (k+1) o' (by simpa using ho');rw[← this];congr 1;simp;omega
def Hr (ops:Array Oper) (L:Nat->Bool):Prop:=∀ i o,ops[i]? = some o->L i=true->∀ j∈kR o,L j=true
def qX (ops:Array Oper) (i:Nat):List Nat:=match ops[i]? with
 |some o=>kR o
 |none=>[]
theorem Kj (ops:Array Oper):D9 (qX ops) (iN [] ops.toList) :=
 Ki _ _ _ (λi x h=>by simp[gU,mV]at h) λk o h=>by
  have h:ops[k]? = some o:=by simpa using h
  simp[qX,h]
theorem Ea {ops:Array Oper} {L:Nat->Bool} (hL:Hr ops L) {i j:Nat} (hi:∀ m∈qX ops i,L m=true) (h:an (iN [] ops.toList) i j=true):L j=true:=by
 have h:=(qj _ _).1 h;have key:∀ i x,L i=true->x∈gU (iN [] ops.toList) i->L x=true:=by
  intro i
  induction i using Nat.strongRecOn with
  |_ i ih =>
   intro x hi hx;obtain⟨m,h1,h2⟩:=Kj ops i x hx;have hm:L m=true:=by
    unfold qX at h1;split at h1
    · rename_i o ho;exact hL i o ho hi m h1
    · simp at h1
   rcases h2 with rfl|h2
   · exact hm
   · exact ih m h2.1 x hm h2.2
 obtain⟨m,h1,h2⟩:=Kj ops i j h;rcases h2 with rfl|h2
 · exact hi _ h1
 · exact key m j (hi m h1) h2.2
def bq (E:Rc->Eff) (L:Nat->Bool):List Rc->ak->ak
 | [],s=>s
 |u :: l,s=>if L u.i=true then app (E u) (bq E L l s)else bq E L l s
def up (L:Nat->Bool) (i:Nat):Nat->Bool:=λj=>if j=i then true else L j
theorem fold_congr {E:Rc->Eff} {L M:Nat->Bool} : ∀ (A:List Rc) (s:ak),(∀ v∈A,L v.i=M v.i)->bq E L A s=bq E M A s
 | [],s,_=>rfl
 |u :: A,s,h=>by
  rw[bq,bq,h u (List.mem_cons_self ..),fold_congr A s λv hv=>h v (List.mem_cons_of_mem _ hv)]
theorem Dj {E:Rc->Eff} {L:Nat->Bool} {u:Rc} {pre:List Rc} {s:ak} (hL:L u.i=false) (hpre:∀ v∈pre,v.i≠u.i):∀ (post:List Rc),(∀ v∈post,v.i≠u.i)->(∀ v∈post,L v.i=true->∀ k,aH (E v) k≠none->aH (E u) k=none) ->
 bq E (up L u.i) (post ++ u :: pre) s=app (E u) (bq E L (post ++ u :: pre) s)
 | [],_,_=>by
  have:bq E (up L u.i) pre s=bq E L pre s:=fold_congr _ _ λv hv=>by simp[up,hpre v hv]
  simp[bq,hL,this,up]
 |v :: post,hn,hd=>by
  have ih:=Dj (E:=E) (s:=s) hL hpre post (λx hx=>hn x (List.mem_cons_of_mem _ hx)) λx hx=>hd x (List.mem_cons_of_mem _ hx);have h1:up L u.i v.i=L v.i:=by simp[up,hn v (List.mem_cons_self ..)]
  rw[List.cons_append,bq,bq,h1,ih];cases hv:L v.i with
  |false=>simp
  |true =>
   simp only[if_true];funext k;have:=hd v (List.mem_cons_self ..) hv k;simp only[app];cases h2:aH (E v) k with
   |none=>rfl
   |some d=>rw[this (by simp[h2])]
theorem JB {E:Rc->Eff} {L:Nat->Bool} {k:Nat} : ∀ (pre:List Rc) (s:ak),(∀ v∈pre,L v.i=false->aH (E v) k=none)->bq E L pre s k=bq E (λ_=>true) pre s k
 | [],s,_=>rfl
 |v :: pre,s,h=>by
  have ih:=JB pre s λx hx=>h x (List.mem_cons_of_mem _ hx);rw[bq,bq];simp only[if_true,app];cases hv:L v.i with
  |true=>simp only[if_true,app];rw[ih]
  |false =>
   rw[h v (List.mem_cons_self ..) hv]
   simpa using ih
theorem fold_at {E:Rc->Eff} {L:Nat->Bool} {u:Rc} {pre:List Rc} {s:ak} {k:Nat} (hL:L u.i=false) (hpre:∀ v∈pre,L v.i=false->aH (E v) k=none):∀ (post:List Rc),(∀ v∈post,L v.i=true->aH (E v) k=none) ->
 bq E L (post ++ u :: pre) s k=bq E (λ_=>true) pre s k
 | [],_=>by
  rw[List.nil_append,bq];simp only[hL,Bool.false_eq_true,if_false];exact JB pre s hpre
 |v :: post,h=>by
  have ih:=fold_at (E:=E) (s:=s) hL hpre post λx hx=>h x (List.mem_cons_of_mem _ hx);rw[List.cons_append,bq];cases hv:L v.i with
  |false=>simpa using ih
  |true =>
   simp only[if_true,app];rw[h v (List.mem_cons_self ..) hv];exact ih
section
variable (C:Cx) (ih:bg->S->R) (tab:List (List Nat)) (ops:Array Oper) (base n:Nat) (t0 st0:Tr D) (fw:Nat) (dC:List Nat)
inductive Sp (acc:List Rc) (u:Rc) (o:Oper) (t st:Tr D) (nx:Nat) (lg:List Nat):Tr D->Nat->List Nat->Prop
 |skip:want ops t o=some false->u=wB ops u.i o nx->Sp acc u o t st nx lg st nx lg
 |loc {d e} : want ops t o=some true->rR C.T (mK (tY (eF C.gl (dV ops o) t) o.op) (ax st)) (base+u.i) (eF C.gl (dV ops o) t) o.op=some (d,e)->wz (ax st) (base+u.i) (tY (eF C.gl (dV ops o) t) o.op) e=true ->
  u=Bg C ops u.i o nx t d e->Sp acc u o t st nx lg (jX e st) nx (jY e lg)
 |pure {c fo k a b d} : want ops t o=some true->o.op = .call c->c.callee = .value fo->eF C.gl (dV ops o) t fo = .fn (.func k) a b->C.K k (a ++ dmap (eF C.gl (dV ops o) t) c.args.toList ++ b) d->u=rPur ops u.i o nx d->Sp acc u o t st nx lg st nx lg
 |xC {c fo d s1} (rm:List Nat):want ops t o=some true->o.op = .call c->c.callee = .value fo->Ab ih (dmap (eF C.gl (dV ops o) t) c.args.toList) (iq rm st) nx (eF C.gl (dV ops o) t fo)=some (.val d,s1) ->
  nx<=s1.nx->u=Aa ops u.i o nx (iq rm st) d s1->(∀ v∈acc,an tab u.i v.i=false->∀ k∈keys v.e,k∈rm)->Sp acc u o t st nx lg (Fa rm st s1.s u.e) s1.nx (s1.lg ++ lg)
inductive ed:List Rc->Tr D->Tr D->Nat->List Nat->Prop
 |nil:ed [] t0 st0 fw dC
 |cons {acc t st nx lg u o st' nx' gK} : ed acc t st nx lg->ops[u.i]? = some o->(∀ v∈acc,v.i≠u.i)->(∀ j∈kR o,j<u.i)->(∀ v∈acc,an tab u.i v.i=true\/lZ v u=true)->Sp C ih tab ops base acc u o t st nx lg st' nx' gK ->
  ed (u :: acc) (fJ n t u.dst u.d) st' nx' gK
end
theorem Kk {i:Nat} : ∀ l:List Rc,Bf i l=true->∀ v∈l,v.i≠i
 | [],_,v,hv=>by simp at hv
 |u :: l,h,v,hv=>by
  rw[Bf]at h;split at h
  · simp at h
  · rename_i h1;rcases List.mem_cons.1 hv with rfl|hv
    · rintro rfl;simp at h1
    · exact Kk l h v hv
theorem JC {i:Nat} : ∀ l:List Nat,z8 i l=true->∀ j∈l,j<i
 | [],_,v,hv=>by simp at hv
 |u :: l,h,v,hv=>by
  rw[z8]at h;split at h
  · rename_i h1;rcases List.mem_cons.1 hv with rfl|hv
    · exact Nat.le_of_ble_eq_true h1
    · exact JC l h v hv
  · simp at h
theorem vo {tab:List (List Nat)} {u:Rc} : ∀ l:List Rc,qI tab u l=true->∀ v∈l,an tab u.i v.i=true\/lZ v u=true
 | [],_,v,hv=>by simp at hv
 |w :: l,h,v,hv=>by
  rw[qI]at h;split at h
  · rename_i h1;rcases List.mem_cons.1 hv with rfl|hv
    · exact .inl h1
    · exact vo l h v hv
  · split at h
    · rename_i h1;rcases List.mem_cons.1 hv with rfl|hv
      · exact .inr h1
      · exact vo l h v hv
    · simp at h
theorem K4 {tab:List (List Nat)} {i:Nat} : ∀ acc:List Rc,∀ v∈acc,an tab i v.i=false->∀ k∈keys v.e,k∈rU tab i acc
 | [],v,hv,_,k,_=>by simp at hv
 |u :: l,v,hv,h,k,hk=>by
  rw[rU];rcases List.mem_cons.1 hv with rfl|hv
  · rw[h];exact List.mem_append_left _ hk
  · have:=K4 l v hv h k hk;split
    · exact this
    · exact List.mem_append_right _ this
section
variable {C:Cx} {ih:bg->S->R} {tab:List (List Nat)} {ops:Array Oper} {base n:Nat} {t0 st0:Tr D} {fw:Nat} {dC:List Nat}
theorem TY {s s':S} {acc acc':List Rc} {i:Nat} {o:Oper} (ho:ops[i]? = some o) (h:Fb C ih tab ops base s acc i o=some (s',acc')) (hR:ed C ih tab ops base s.n t0 st0 fw dC acc s.tm s.s s.nx s.lg) :
 ed C ih tab ops base s.n t0 st0 fw dC acc' s'.tm s'.s s'.nx s'.lg/\s'.n=s.n/\s'.ms=s.ms/\s'.rd=s.rd:=by
 obtain⟨t,st,nx,n,ms,lg,rd⟩:=s;unfold Fb at h;split at h
 case h_2=>simp at h
 rename_i h1 h2;have h1:=Kk _ h1;have h2:=JC _ h2;split at h
 · rename_i hw;split at h
   · unfold OP at h;dsimp only at h;split at h
     case h_2=>simp at h
     rename_i d e he;rw[qH]at h;split at h
     case h_2=>simp at h
     rename_i hk hok;simp only[zn,sw,Option.some.injEq,Prod.mk.injEq]at h;obtain⟨rfl,rfl⟩:=h;exact⟨ed.cons (u:=Bg C ops i o nx t d e) hR ho h1 h2 (vo _ hok) (.loc hw he hk rfl),rfl,rfl,rfl⟩
   · unfold Ng at h;split at h
     case h_2=>simp at h
     rename_i c hop;split at h
     case h_2=>simp at h
     rename_i fo hc;rw[qz,K3]at h;dsimp only at h;generalize hx:Ab ih _ _ _ _=r at h;obtain _|⟨ex,s1⟩:=r
     · simp[zC]at h
     cases ex
     case val d =>
      unfold zC at h;dsimp only at h;split at h
      case h_2=>simp at h
      rename_i hn hok;simp only[U1,sw,Option.some.injEq,Prod.mk.injEq]at h;obtain⟨rfl,rfl⟩:=h;exact⟨ed.cons (u:=Aa ops i o nx (iq (rU tab i acc) st) d s1) hR ho h1 h2 (vo _ hok) (.xC (rU tab i acc) hw hop hc hx (Nat.le_of_ble_eq_true hn) rfl (K4 acc)),rfl,rfl,rfl⟩
     all_goals simp[zC]at h
 · rename_i hw;unfold Nf at h;dsimp only at h;split at h
   case h_2=>simp at h
   rename_i hok;simp only[sw,Option.some.injEq,Prod.mk.injEq]at h;obtain⟨rfl,rfl⟩:=h;exact⟨ed.cons (u:=wB ops i o nx) hR ho h1 h2 (vo _ hok) (.skip hw rfl),rfl,rfl,rfl⟩
 · simp at h
theorem Kl:∀ (l:List Nat) {s s':S} {acc acc':List Rc},yE C ih tab ops base l s acc=some (s',acc')->ed C ih tab ops base s.n t0 st0 fw dC acc s.tm s.s s.nx s.lg ->
 ed C ih tab ops base s.n t0 st0 fw dC acc' s'.tm s'.s s'.nx s'.lg/\s'.n=s.n/\s'.ms=s.ms/\s'.rd=s.rd
 | [],s,s',acc,acc',h,hR=>by
  simp only[yE,Option.some.injEq,Prod.mk.injEq]at h;obtain⟨rfl,rfl⟩:=h;exact⟨hR,rfl,rfl,rfl⟩
 |i :: l,s,s',acc,acc',h,hR=>by
  rw[yE]at h;split at h
  case h_2=>simp at h
  rename_i o ho;rw[qp]at ho;split at h
  case h_2=>simp at h
  rename_i s1 aaS hs;obtain⟨h1,h2,h3,h4⟩:=TY (by simpa using ho) hs hR;rw[← h2]at h1;obtain⟨h5,h6,h7,h8⟩:=Kl l h h1;rw[h2]at h5;exact⟨h5,h6.trans h2,h7.trans h3,h8.trans h4⟩
theorem JD {k:Nat} : ∀ l:List Rc,k∈idxs l->∃ u∈l,u.i=k
 | [],h=>by simp[idxs]at h
 |u :: l,h=>by
  rcases List.mem_cons.1 h with rfl|h
  · exact⟨u,List.mem_cons_self ..,rfl⟩
  · obtain⟨v,h1,h2⟩:=JD l h;exact⟨v,List.mem_cons_of_mem _ h1,h2⟩
theorem Km {l:List Rc} : ∀ n,allI n (idxs l)=true->∀ k<n,∃ u∈l,u.i=k
 |0,_,k,hk=>by omega
 |n+1,h,k,hk=>by
  rw[allI]at h;split at h
  · rename_i h1;rcases Nat.lt_or_ge k n with h2|h2
    · exact Km n h k h2
    · obtain rfl:k=n:=by omega
      exact JD _ ((qj _ _).1 h1)
  · simp at h
end
end Go.Proofs.YtadecgbblajifaaGreatDoor.DV
namespace Go.Proofs.YtadecgbblajifaaGreatDoor
end Go.Proofs.YtadecgbblajifaaGreatDoor
namespace Go.Proofs.YtadecgbblajifaaGreatDoor.DV
open Go
def te (n:Nat) (u:Rc):Eff:=match u.dst with
 |some d=>match Nat.blt d n with
  |true=>[(d,some u.d)]
  |false=>[]
 |none=>[]
theorem We (t:Tr D) (i:Nat) (d:Option D):ax (bu t i d)=app [(i,d)] (ax t):=jL [(i,d)] t
theorem JE (n:Nat) (t:Tr D) (u:Rc):ax (fJ n t u.dst u.d)=app (te n u) (ax t):=by
 unfold fJ te;cases u.dst with
 |none=>rfl
 |some d =>
  dsimp only;cases Nat.blt d n with
  |true=>exact We _ _ _
  |false=>rfl
theorem zu {n:Nat} {u:Rc} {k:Nat} (h:∀ d,u.dst=some d->d≠k):aH (te n u) k=none:=by
 unfold te;split
 · rename_i d hd;split
   · rw[gm _ _ (Ne.symm (h d hd))];rfl
   · rfl
 · rfl
theorem Wh {n:Nat} {u:Rc} {k:Nat} (h:aH (te n u) k≠none):u.dst=some k:=by
 cases hd:u.dst with
 |none=>simp[te,hd,aH]at h
 |some d =>
  by_cases hk:d=k
  · rw[hk]
  · exact absurd (zu λd' h'=>by rw[hd]at h';simp at h';omega) h
def CH (u:Rc):Prop:=∀ p,u.c=some p->ax p.2=app u.e (ax p.1)
structure Ap (u v:Rc):Prop where
 c:u.c=none
 n1:∀ d,u.dst=some d->d ∉ v.nm
 n2:∀ d,v.dst=some d->d ∉ u.nm
 n3:∀ d,u.dst=some d->v.dst≠some d
 k1:∀ k,aH u.e k≠none->aH v.e k=none
 k2:∀ k∈u.tc,aH v.e k=none
 k3:∀ k∈v.tc,aH u.e k=none
theorem K5 {u v:Rc} (h:lZ u v=true):Ap u v:=by
 unfold lZ at h;split at h
 · simp at h
 rename_i hc;split at h
 case h_2=>simp at h
 rename_i hn;have he:=h;unfold OM at hn;split at hn
 case h_2=>simp at hn
 rename_i h1 h2 h3;have hin:∀ (x:Option Nat) (l:List Nat),Cc x l=false->∀ d,x=some d->d ∉ l:=by
  rintro x l h d rfl hd;rw[Cc,(qj _ _).2 hd]at h;simp at h
 have heq:∀ d,u.dst=some d->v.dst≠some d:=by
  intro d hu hv;rw[hu,hv]at h3;simp[Ru]at h3
 unfold OO at he;split at he
 case h_2=>simp at he
 rename_i e1 e2 e3;have hd1:=zo _ _ e1;have hd2:=zo _ _ e2;have hd3:=zo _ _ e3;exact⟨hc,hin _ _ h1,hin _ _ h2,heq,λk hk=>CW (hd2 k (yX _ _ hk)),λk hk=>CW (hd3 k hk),λk hk=>CW λh=>hd1 k h hk⟩
section
variable {C:Cx} {ih:bg->S->R} {tab:List (List Nat)} {ops:Array Oper} {base n:Nat} {t0 st0:Tr D} {fw:Nat} {dC:List Nat}
theorem Nh {A:List Rc} {t st:Tr D} {nx:Nat} {lg:List Nat} (h:ed C ih tab ops base n t0 st0 fw dC A t st nx lg):ax t=bq (te n) (λ_=>true) A (ax t0):=by
 induction h with
 |nil=>rfl
 |cons _ _ _ _ _ _ IH=>rw[JE,IH];simp[bq]
theorem Eb {A:List Rc} {t st:Tr D} {nx:Nat} {lg:List Nat} (h:ed C ih tab ops base n t0 st0 fw dC A t st nx lg):(∀ u∈A,CH u)->ax st=bq (·.e) (λ_=>true) A (ax st0):=by
 induction h with
 |nil=>intro _;rfl
 | @cons acc t st nx lg u o st' nx' gK _ _ _ _ _ hs IH =>
  intro hc;have IH:=IH λv hv=>hc v (List.mem_cons_of_mem _ hv);simp only[bq,if_true];rw[← IH];cases hs with
  |skip _ hu=>rw[hu];rfl
  |pure _ _ _ _ _ hu=>rw[hu];rfl
  |loc _ _ _ hu=>rw[jL];rw[hu];rfl
  | @xC _ _ _ s1 rm _ _ _ _ _ hu _ =>
   have:=hc u (List.mem_cons_self ..) (iq rm st,s1.s) (by rw[hu];rfl);cases rm with
   |nil=>exact this
   |cons k l=>exact jL _ _
theorem Ni {acc:List Rc} {u:Rc} {o:Oper} {t st st':Tr D} {nx nx':Nat} {lg gK:List Nat} (h:Sp C ih tab ops base acc u o t st nx lg st' nx' gK):u.n0=nx/\u.n1=nx'/\nx<=nx'/\u.nm=dV ops o/\u.dst=o.dst:=by
 cases h with
 |skip _ hu=>rw[hu];exact⟨rfl,rfl,Nat.le_refl _,rfl,rfl⟩
 |pure _ _ _ _ _ hu=>rw[hu];exact⟨rfl,rfl,Nat.le_refl _,rfl,rfl⟩
 |loc _ _ _ hu=>rw[hu];exact⟨rfl,rfl,Nat.le_refl _,rfl,rfl⟩
 |xC _ _ _ _ _ hn hu _=>rw[hu];exact⟨rfl,rfl,hn,rfl,rfl⟩
theorem nM {A:List Rc} {t st:Tr D} {nx:Nat} {lg:List Nat} (h:ed C ih tab ops base n t0 st0 fw dC A t st nx lg):fw<=nx/\∀ u∈A,fw<=u.n0/\u.n1<=nx/\u.i<ops.size:=by
 induction h with
 |nil=>exact⟨Nat.le_refl _,λu hu=>by simp at hu⟩
 | @cons acc t st nx lg u o st' nx' gK _ ho _ _ _ hs IH =>
  obtain⟨h1,h2,h3,_⟩:=Ni hs;refine⟨Nat.le_trans IH.1 h3,λv hv => ?_⟩;rcases List.mem_cons.1 hv with rfl|hv
  · exact⟨by rw[h1];exact IH.1,by rw[h2];exact Nat.le_refl _,(Array.getElem?_eq_some_iff.1 ho).1⟩
  · exact⟨(IH.2 v hv).1,Nat.le_trans (IH.2 v hv).2.1 h3,(IH.2 v hv).2.2⟩
theorem y9 (k:Nat):∀ (e:Eff) (l:List Nat),(k∈l->k∈jY e l)/\(aH e k≠none->k∈jY e l)
 | [],l=>⟨λh=>h,λh=>by simp[aH]at h⟩
 |(j,d) :: e,l=>by
  refine⟨λh=>List.mem_cons_of_mem _ ((y9 k e l).1 h),λh => ?_⟩;by_cases hk:k=j
  · rw[hk];exact List.mem_cons_self ..
  · rw[gm _ _ hk]at h;exact List.mem_cons_of_mem _ ((y9 k e l).2 h)
theorem yP (st st':Tr D) (k:Nat):∀ l:List Nat,aH (kY st st' l) k=if k∈l/\(aN st k≠none\/aN st' k≠none)then some (aN st' k)else none
 | []=>by simp[kY,aH]
 |j :: l=>by
  have ih:=yP st st' k l;rw[kY];by_cases hk:k=j
  · subst hk;split
    · rename_i h1 h2;rw[ih,h1,h2];simp
    · rename_i h1;rw[rZ,if_pos];refine⟨List.mem_cons_self ..,?_⟩;cases h2:aN st k with
      |some d=>simp
      |none =>
       right;exact h1 h2
  · have:(k∈j :: l)=(k∈l):=by simp[hk]
    simp only[this];split
    · exact ih
    · rw[gm _ _ hk];exact ih
theorem TZ {st st':Tr D} {k:Nat} (l:List Nat) (h:aH (kY st st' l) k≠none):k∈l:=by
 rw[yP]at h;split at h
 · rename_i h1;exact h1.1
 · simp at h
theorem T9 {st st':Tr D} {l:List Nat} (h:∀ k,k ∉ l->aN st' k=aN st k):ax st'=app (kY st st' l) (ax st):=by
 funext k;simp only[app,yP,ax];by_cases h1:k∈l
 · by_cases h2:aN st k≠none\/aN st' k≠none
   · rw[if_pos ⟨h1,h2⟩]
   · rw[if_neg λh=>h2 h.2];have h3:aN st k=none/\aN st' k=none:=by
      cases h4:aN st k <;> cases h5:aN st' k <;> simp[h4,h5]at h2 ⊢
     rw[h3.1,h3.2]
 · rw[if_neg λh=>h1 h.1,h k h1]
theorem Kn (k:Nat):∀ (l:List Nat) (t:Tr D),aN (iq l t) k=if k∈l then none else aN t k
 | [],t=>by simp[iq]
 |j :: l,t=>by
  rw[iq,iY,Kn k l];by_cases h:k=j <;> simp[h]
theorem WZ {A:List Rc} {t st:Tr D} {nx:Nat} {lg:List Nat} (h:ed C ih tab ops base n t0 st0 fw dC A t st nx lg):(∀ k∈dC,k∈lg)/\∀ u∈A,∀ k,aH u.e k≠none->k∈lg:=by
 induction h with
 |nil=>exact⟨λ_ h=>h,λu hu=>by simp at hu⟩
 | @cons acc t st nx lg u o st' nx' gK _ ho _ _ _ hs IH =>
  have key:(∀ k∈lg,k∈gK)/\∀ k,aH u.e k≠none->k∈gK:=by
   cases hs with
   |skip _ hu=>rw[hu];exact⟨λ_ h=>h,λk h=>by simp[wB,aH]at h⟩
   |pure _ _ _ _ _ hu=>rw[hu];exact⟨λ_ h=>h,λk h=>by simp[rPur,aH]at h⟩
   |loc _ _ _ hu=>rw[hu];exact⟨λk h=>(y9 k _ _).1 h,λk h=>(y9 k _ _).2 h⟩
   |xC _ _ _ _ _ _ hu _ =>
    rw[hu];exact⟨λk h=>List.mem_append_right _ h,λk h=>List.mem_append_left _ (TZ _ h)⟩
  refine⟨λk hk=>key.1 k (IH.1 k hk),λv hv k hk => ?_⟩;rcases List.mem_cons.1 hv with rfl|hv
  · exact key.2 k hk
  · exact key.1 k (IH.2 v hv k hk)
structure At (C:Cx) (ih:bg->S->R) (tab:List (List Nat)) (ops:Array Oper) (base n:Nat) (t0 st0:Tr D) (fw:Nat) (dC:List Nat) (A:List Rc) (u:Rc) (o:Oper) (post pre:List Rc) (t st:Tr D) (nx:Nat) (lg:List Nat):Prop where
 eq:A=post ++ u :: pre
 ran:ed C ih tab ops base n t0 st0 fw dC pre t st nx lg
 op:ops[u.i]? = some o
 dp:∀ j∈kR o,j<u.i
 ne1:∀ v∈pre,v.i≠u.i
 Cf:∀ v∈post,v.i≠u.i
 ok1:∀ v∈pre,an tab u.i v.i=true\/lZ v u=true
 lZ:∀ v∈post,an tab v.i u.i=true\/lZ u v=true
 sp:∃ st' nx' gK,Sp C ih tab ops base pre u o t st nx lg st' nx' gK
theorem K6 {A:List Rc} {t st:Tr D} {nx:Nat} {lg:List Nat} (h:ed C ih tab ops base n t0 st0 fw dC A t st nx lg):∀ u∈A,∃ o post pre t st nx lg,At C ih tab ops base n t0 st0 fw dC A u o post pre t st nx lg:=by
 induction h with
 |nil=>intro u hu;simp at hu
 | @cons acc t st nx lg v o st' nx' gK hr ho hn hd hok hs IH =>
  intro u hu;rcases List.mem_cons.1 hu with rfl|hu'
  · exact⟨o,[],acc,t,st,nx,lg,rfl,hr,ho,hd,hn,λv hv=>by simp at hv,hok,λv hv=>by simp at hv,_,_,_,hs⟩
  · obtain⟨o',post,pre,t',st',nx',gK,h⟩:=IH u hu';refine⟨o',v :: post,pre,t',st',nx',gK,by rw[h.eq];rfl,h.ran,h.op,h.dp,h.ne1,λx hx => ?_,h.ok1,λx hx => ?_,h.sp⟩
    · rcases List.mem_cons.1 hx with rfl|hx
      · exact(hn u hu').symm
      · exact h.Cf x hx
    · rcases List.mem_cons.1 hx with rfl|hx
      · exact hok u hu'
      · exact h.lZ x hx
end
theorem Tn {ops:Array Oper} {t t':Tr D} {o:Oper} (h:∀ k∈Hq ops o,bF t k=bF t' k):want ops t o=want ops t' o:=by
 unfold want;split
 · rfl
 · rename_i j b hg;have:yl ops t j=yl ops t' j:=by
    unfold yl;split
    · rename_i oj hj;split
      · rename_i d hd;rw[h d];simp[Hq,hg,hj,hd]
      · rfl
    · rfl
   rw[this]
theorem Tp {gl:Nat->D} {nm:List Nat} {t t':Tr D} (h:∀ k∈nm,bF t k=bF t' k):eF gl nm t=eF gl nm t':=by
 funext x;unfold eF;split
 · split
   · rename_i h1;exact h _ ((qj _ _).1 h1)
   · rfl
 · rfl
 · rfl
 · rfl
theorem Wi {C:Cx} {s:S} {g:G} {a:Act} {w:World} (h:St C s g a w) (nm:List Nat) (x:Operand):VR g (eF C.gl nm s.tm x) (a.eval x):=by
 unfold eF;split
 · split
   · exact h.tm _
   · simp only[VR,CR,true_and];exact⟨_,rfl⟩
 · exact bM _ _
 · exact h.gl _
 · simp only[VR,CR,Act.eval];exact⟨[],[],rfl,by simp[ay],by simp[ay]⟩
theorem Rel.sub {g:G} {s σ:ak} {w:World} (R:Rel g σ w) (h:∀ i d,s i=some d->σ i=some d):Rel g s w:=by
 refine⟨R.fm,λi d hd=>R.ob i d (h i d hd),λi j l m hi hj => ?_⟩;refine R.dj i j l m ?_ ?_
 · cases hd:s i with
   |none=>exact absurd hd hi
   |some d=>rw[h _ _ hd];simp
 · cases hd:s j with
   |none=>exact absurd hd hj
   |some d=>rw[h _ _ hd];simp
theorem JF {σ:ak} {id:Nat} {tc:List Nat} {k:Nat} : ∀ e:Eff,wz σ id tc e=true->aH e k≠none->mK tc σ k≠none\/k=id
 | [],_,h=>by simp[aH]at h
 |(j,d) :: e,hk,h=>by
  rw[wz]at hk;split at hk
  case h_2=>simp at hk
  rename_i hj;by_cases hkj:k=j
  · subst hkj;simp only[Bool.or_eq_true,Bool.and_eq_true]at hj;rcases hj with hj|⟨h1,h2⟩
    · exact .inr (Nat.eq_of_beq_eq_true hj)
    · left;unfold mK;rw[h1];intro h3;simp only at h3;rw[h3]at h2;simp at h2
  · rw[gm _ _ hkj]at h;exact JF e hk h
end Go.Proofs.YtadecgbblajifaaGreatDoor.DV
namespace Go.Proofs.YtadecgbblajifaaGreatDoor
end Go.Proofs.YtadecgbblajifaaGreatDoor
