import Derived.Test.YtadecgbblajifaaGreatDoorE09
import Derived.OrdersIn
set_option linter.unusedSimpArgs false
set_option linter.unusedVariables false
set_option maxRecDepth 100000
set_option maxHeartbeats 25600000
namespace Go.Proofs.YtadecgbblajifaaGreatDoor
end Go.Proofs.YtadecgbblajifaaGreatDoor
namespace Go.Proofs.YtadecgbblajifaaGreatDoor.DV
open Go
noncomputable section
def gD (o:Oper):List Nat:=(o.after.toList.filter (Region.binds .any)).map (·.on)
def mem1 (k:Nat):List Nat->Bool
 | []=>false
 |x :: l=>match Nat.beq k x with
  |true=>true
  |false=>mem1 k l
def zq:List Nat->List Nat->List Nat
 | [],b=>b
 |x :: a,b=>match mem1 x b with
  |true=>zq a b
  |false=>zq a (x :: b)
def kU (tab:List (List Nat)) (i:Nat):List Nat:=match mV tab i with
 |some l=>l
 |none=>[]
def E8 (tab:List (List Nat)):List Nat->List Nat->List Nat
 | [],b=>b
 |j :: l,b=>E8 tab l (zq (kU tab j) (zq [j] b))
def eF:List (List Nat)->List Oper->List (List Nat)
 |tab,[]=>tab
 |tab,o :: l=>eF (tab ++ [E8 tab (gD o) []]) l
def UK (o:Oper):Bool:=match o.op with
 |.call c=>match c.callee with
  |.builtin _=>false
  |_=>true
 |_=>false
def an (tab:List (List Nat)) (i j:Nat):Bool:=mem1 j (kU tab i)
def UL (tab:List (List Nat)) (gs:List Nat) (j:Nat):Bool:=match gs with
 | []=>true
 |i :: gs=>match Nat.beq i j,an tab j i with
  |false,false=>UL tab gs j
  |_,_=>false
def LC:Nat->List Oper->List Nat
 |_,[]=>[]
 |i,o :: l=>match UK o with
  |true=>i :: LC (i+1) l
  |false=>LC (i+1) l
def Tn (tab:List (List Nat)) (n:Nat):List Nat->List Nat->List Nat
 |dn,[]=>dn ++ (List.range n).filter λj => !mem1 j dn
 |dn,i :: gs=>Tn tab n (dn ++ ((List.range n).filter λj=>UL tab (i :: gs) j && !mem1 j dn) ++ [i]) gs
def rA:D->List Nat
 |.ref i _=>[i]
 |.own _ i _ _=>[i]
 |.mp i=>[i]
 |_=>[]
def kV (get:Operand->D):Op->List Nat
 |.load _ x=>rA (get x)
 |.store _ x _=>rA (get x)
 |.indexAddr _ x _=>rA (get x)
 |.slice _ x _ _ _=>rA (get x)
 |.convert _ _ x=>rA (get x)
 |.lookup _ m _ _=>rA (get m)
 |.mapUpdate _ m _ _=>rA (get m)
 |.insert _ m _ _=>rA (get m)
 |.call c=>c.args.toList.flatMap λx=>rA (get x)
 |_=>[]
structure Rc where
 i:Nat
 dst:Option Nat
 nm:List Nat
 d:D
 e:Eff
 tc:List Nat
 c:Option (Tr D × Tr D)
 n0:Nat
 n1:Nat
def yT:List Nat->List Nat->Bool
 | [],_=>true
 |x :: l,m=>match mem1 x m with
  |true=>false
  |false=>yT l m
def keys:Eff->List Nat
 | []=>[]
 |(k,_) :: e=>k :: keys e
def F4 (x:Option Nat) (l:List Nat):Bool:=match x with
 |some d=>mem1 d l
 |none=>false
def UM:Option Nat->Option Nat->Bool
 |some a,some b=>Nat.beq a b
 |_,_=>false
def Tp (u v:Rc):Bool:=match F4 u.dst v.nm,F4 v.dst u.nm,UM u.dst v.dst with
 |false,false,false=>true
 |_,_,_=>false
def Tq (u v:Rc):Bool:=match yT (keys u.e) v.tc,yT (keys u.e) (keys v.e),yT u.tc (keys v.e)with
 |true,true,true=>true
 |_,_,_=>false
def qx (u v:Rc):Bool:=match u.c with
 |some _=>false
 |none=>match Tp u v with
  |true=>Tq u v
  |false=>false
def iA (tab:List (List Nat)) (v:Rc):List Rc->Bool
 | []=>true
 |u :: l=>match an tab v.i u.i with
  |true=>iA tab v l
  |false=>match qx u v with
   |true=>iA tab v l
   |false=>false
def bV (tc:List Nat) (σ:au):au:=λi=>match mem1 i tc with
 |true=>σ i
 |false=>none
def qb (st st':Tr D):List Nat->Eff
 | []=>[]
 |i :: l=>match aX st i,aX st' i with
  |none,none=>qb st st' l
  |_,d=>(i,d) :: qb st st' l
def xh (tab:List (List Nat)) (i:Nat):List Rc->List Nat
 | []=>[]
 |v :: l=>match an tab i v.i with
  |true=>xh tab i l
  |false=>keys v.e ++ xh tab i l
def lh:List Nat->Tr D->Tr D
 | [],t=>t
 |k :: l,t=>ed (lh l t) k none
def F5 {β:Type} : List Nat->Tr D->(Tr D->β)->β
 | [],t,K=>K t
 |k :: l,t,K=>F5 l t λt=>iU t k none K
theorem QT {β:Type} : ∀ (l:List Nat) (t:Tr D) (K:Tr D->β),F5 l t K=K (lh l t)
 | [],_,_=>rfl
 |k :: l,t,K=>by rw[F5,QT l,j6];rfl
def gH (gl:Nat->D) (nm:List Nat) (t:Tr D):Operand->D
 |.tmp k=>match mem1 k nm with
  |true=>dK t k
  |false => .bZ
 |.const v => .lf v
 |.global g=>gl g
 |.func f => .fn (.func f) [] []
def LD:List Operand->List Nat
 | []=>[]
 |.tmp k :: l=>k :: LD l
 |_ :: l=>LD l
def LF (all:Array Oper) (o:Oper):List Nat:=match o.guard with
 |some (j,_)=>match mV all.toList j with
  |some oj=>match oj.dst with
   |some d=>[d]
   |none=>[]
  |none=>[]
 |none=>[]
def aN (all:Array Oper) (o:Oper):List Nat:=LF all o ++ LD o.op.operands.toList
def E9 (i:Nat):List Rc->Bool
 | []=>true
 |u :: l=>match Nat.beq i u.i with
  |true=>false
  |false=>E9 i l
def jo (i:Nat):List Nat->Bool
 | []=>true
 |j :: l=>match Nat.blt j i with
  |true=>jo i l
  |false=>false
def jD (σ:au) (id:Nat) (tc:List Nat):Eff->Bool
 | []=>true
 |(k,_) :: e=>match Nat.beq k id || (mem1 k tc && (σ k).isSome)with
  |true=>jD σ id tc e
  |false=>false
def idxs:List Rc->List Nat
 | []=>[]
 |u :: l=>u.i :: idxs l
def allI:Nat->List Nat->Bool
 |0,_=>true
 |n+1,l=>match mem1 n l with
  |true=>allI n l
  |false=>false
section
variable (C:Cx) (ih:eH->S->R) (tab:List (List Nat)) (all:Array Oper) (base:Nat)
def qd (i:Nat) (o:Oper) (nx:Nat):Rc:=⟨i,o.dst,aN all o,.tu [],[],[],none,nx,nx⟩
def wE (i:Nat) (o:Oper) (nx:Nat) (d:D):Rc:=⟨i,o.dst,aN all o,d,[],[],none,nx,nx⟩
def BD (i:Nat) (o:Oper) (nx:Nat) (t:Tr D) (d:D) (e:Eff):Rc:=⟨i,o.dst,aN all o,d,e,kV (gH C.gl (aN all o) t) o.op,none,nx,nx⟩
def Ey (i:Nat) (o:Oper) (nx:Nat) (st:Tr D) (d:D) (s1:S):Rc:=⟨i,o.dst,aN all o,d,qb st s1.s s1.lg,[],some (st,s1.s),nx,s1.nx⟩
def J8 {β:Type} (rm:List Nat) (st st1:Tr D) (e:Eff) (K:Tr D->β):β:=match rm with
 | []=>K st1
 |_=>yR e st [] λst _=>K st
def J9 (rm:List Nat) (st st1:Tr D) (e:Eff):Tr D:=match rm with
 | []=>st1
 |_=>jW e st
theorem ZH {β:Type} (rm:List Nat) (st st1:Tr D) (e:Eff) (K:Tr D->β):J8 rm st st1 e K=K (J9 rm st st1 e):=by
 cases rm with
 |nil=>rfl
 |cons k l=>simp only[J8,J9,DU]
def RZ (acc:List Rc) (i:Nat) (o:Oper):S->Option (S × List Rc)
 |⟨t,st,nx,n,ms,lg,rd⟩=>match iA tab (qd all i o nx) acc with
  |true=>tJ n t o.dst (.tu []) λt=>some (⟨t,st,nx,n,ms,lg,rd⟩,qd all i o nx :: acc)
  |false=>none
def Tt (acc:List Rc) (i:Nat) (o:Oper):S->Option (S × List Rc)
 |⟨t,st,nx,n,ms,lg,rd⟩=>match fH C.T (bV (kV (gH C.gl (aN all o) t) o.op) (aA st)) (base+i) (gH C.gl (aN all o) t) o.op with
  |some (d,e)=>fD d λd=>match jD (aA st) (base+i) (kV (gH C.gl (aN all o) t) o.op) e,iA tab (BD C all i o nx t d e) acc with
   |true,true=>yR e st lg λst lg=>tJ n t o.dst d λt'=>some (⟨t',st,nx,n,ms,lg,rd⟩,BD C all i o nx t d e :: acc)
   |_,_=>none
  |none=>none
def Ez (az:List D) (st:Tr D) (nx:Nat):D->R
 |.fn (.func f) a b=>l6 (a ++ az ++ b) λaz=>ih (.call f az) ⟨.e,st,nx,0,[],[],false⟩
 |.yd i=>AU ih az i st nx []
 |_=>none
def Eh (acc:List Rc) (i:Nat) (o:Oper) (rm:List Nat) (st0:Tr D):S->R->Option (S × List Rc)
 |⟨t,st,nx,n,ms,lg,rd⟩,some (.val d,s1)=>match Nat.ble nx s1.nx,iA tab (Ey all i o nx st0 d s1) acc with
  |true,true=>J8 rm st s1.s (qb st0 s1.s s1.lg) λst'=>tJ n t o.dst d λt=>some (⟨t,st',s1.nx,n,ms,s1.lg ++ lg,rd⟩,Ey all i o nx st0 d s1 :: acc)
  |_,_=>none
 |_,_=>none
def R5 (acc:List Rc) (i:Nat) (o:Oper) (s:S):Option (S × List Rc):=match o.op with
 |.call c=>match c.callee with
  |.value fo=>l6 (xh tab i acc) λrm=>F5 rm s.s λst0=>Eh tab all acc i o rm st0 s (Ez ih (dmap (gH C.gl (aN all o) s.tm) c.args.toList) st0 s.nx (gH C.gl (aN all o) s.tm fo))
  |_=>none
 |_=>none
def Ka (s:S) (acc:List Rc) (i:Nat) (o:Oper):Option (S × List Rc):=match E9 i acc,jo i (gD o)with
 |true,true=>match want all s.tm o with
  |some true=>match UK o with
   |false=>Tt C tab all base acc i o s
   |true=>R5 C ih tab all acc i o s
  |some false=>RZ tab all acc i o s
  |none=>none
 |_,_=>none
def Cf:List Nat->S->List Rc->Option (S × List Rc)
 | [],s,acc=>some (s,acc)
 |i :: l,s,acc=>match mV all.toList i with
  |some o=>match Ka C ih tab all base s acc i o with
   |some (s,acc)=>Cf l s acc
   |none=>none
  |none=>none
end
def KR (C:Cx) (ih:eH->S->R) (ops:Array Oper):S->R
 |⟨t,st,nx,n,ms,lg,rd⟩=>fN (nx+ops.size) λuz=>match Cf C ih (eF [] ops.toList) ops nx (Tn (eF [] ops.toList) ops.size [] (LC 0 ops.toList)) ⟨t,st,uz,n,ms,lg,rd⟩ []with
  |some (s,acc)=>match allI ops.size (idxs acc)with
   |true=>some (.normal,s)
   |false=>none
  |none=>none
end
end Go.Proofs.YtadecgbblajifaaGreatDoor.DV
namespace Go.Proofs.YtadecgbblajifaaGreatDoor
end Go.Proofs.YtadecgbblajifaaGreatDoor
namespace Go.Proofs.YtadecgbblajifaaGreatDoor.DV
open Go
theorem jO (k:Nat):∀ l:List Nat,mem1 k l=true↔k∈l
 | []=>by simp[mem1]
 |x :: l=>by
  rw[mem1,List.mem_cons]
  split
  · rename_i h;simp[Nat.eq_of_beq_eq_true h]
  · rename_i h
    have:¬ k=x:=λe=>by rw[e]at h;simp at h
    simp[jO k l,this]
theorem DW:∀ (l m:List Nat),yT l m=true->∀ x∈l,x ∉ m
 | [],m,_,x,hx=>by simp at hx
 |y :: l,m,h,x,hx=>by
  rw[yT]at h
  split at h
  · simp at h
  · rename_i h1
    rcases List.mem_cons.1 hx with rfl|hx
    · intro hm;rw[(jO _ _).2 hm]at h1;simp at h1
    · exact DW l m h x hx
theorem Du (k:Nat):∀ e:Eff,aH e k≠none->k∈keys e
 | [],h=>by simp[aH]at h
 |(j,d) :: e,h=>by
  by_cases hk:k=j
  · simp[keys,hk]
  · rw[j5 _ _ hk]at h
    exact List.mem_cons_of_mem _ (Du k e h)
theorem Ij {k:Nat} {e:Eff} (h:k ∉ keys e):aH e k=none:=by
 cases hl:aH e k with
 |none=>rfl
 |some d=>exact absurd (Du k e (by simp[hl])) h
theorem DX (x:Nat):∀ a b:List Nat,x∈zq a b->x∈a\/x∈b
 | [],b,h => .inr h
 |y :: a,b,h=>by
  rw[zq]at h
  split at h
  · rcases DX x a b h with h|h
    · exact .inl (List.mem_cons_of_mem _ h)
    · exact .inr h
  · rcases DX x a _ h with h|h
    · exact .inl (List.mem_cons_of_mem _ h)
    · rcases List.mem_cons.1 h with rfl|h
      · exact .inl (List.mem_cons_self ..)
      · exact .inr h
theorem OX (tab:List (List Nat)) (x:Nat):∀ l b:List Nat,x∈E8 tab l b->x∈b\/∃ j∈l,x=j\/x∈kU tab j
 | [],b,h => .inl h
 |j :: l,b,h=>by
  rw[E8]at h
  rcases OX tab x l _ h with h|⟨m,h1,h2⟩
  · rcases DX x _ _ h with h|h
    · exact .inr ⟨j,List.mem_cons_self ..,.inr h⟩
    · rcases DX x _ _ h with h|h
      · exact .inr ⟨j,List.mem_cons_self ..,.inl (by simpa using h)⟩
      · exact .inl h
  · exact .inr ⟨m,List.mem_cons_of_mem _ h1,h2⟩
theorem PV {tab:List (List Nat)} {m x:Nat} (h:x∈kU tab m):m<tab.length:=by
 unfold kU at h
 rw[vF]at h
 split at h
 · rename_i l hl;exact(List.getElem?_eq_some_iff.1 hl).1
 · simp at h
theorem IJ {tab:List (List Nat)} {m:Nat} (l:List Nat) (h:m<tab.length):kU (tab ++ [l]) m=kU tab m:=by
 unfold kU
 rw[vF,vF,List.getElem?_append_left h]
theorem YP (tab:List (List Nat)) (l:List Nat):kU (tab ++ [l]) tab.length=l:=by
 unfold kU
 rw[vF]
 simp
def Jv (f:Nat->List Nat) (tab:List (List Nat)):Prop:=∀ i x,x∈kU tab i->∃ j∈f i,x=j\/(j<i/\x∈kU tab j)
theorem PW (f:Nat->List Nat):∀ (l:List Oper) (tab:List (List Nat)),Jv f tab->(∀ k o,l[k]? = some o->f (tab.length+k)=gD o)->Jv f (eF tab l)
 | [],tab,h,_=>h
 |o :: l,tab,h,hf=>by
  rw[eF]
  have h0:=hf 0 o rfl
  rw[Nat.add_zero]at h0
  refine PW f l _ (λi x hx => ?_) λk o' ho' => ?_
  · have hi:=PV hx
    rw[List.length_append]at hi
    simp only[List.length_cons,List.length_nil]at hi
    rcases Nat.lt_or_ge i tab.length with h1|h1
    · rw[IJ _ h1]at hx
      obtain⟨j,h2,h3⟩:=h i x hx
      refine⟨j,h2,h3.imp_right λh4=>⟨h4.1,?_⟩⟩
      rw[IJ _ (by omega)]
      exact h4.2
    · obtain rfl:i=tab.length:=by omega
      rw[YP]at hx
      rcases OX _ _ _ _ hx with h2|⟨j,h2,h3⟩
      · simp at h2
      · rw[h0]
        refine⟨j,h2,h3.imp_right λh4 => ?_⟩
        have:=PV h4
        exact⟨this,by rw[IJ _ this];exact h4⟩
  · have:=hf (k+1) o' (by simpa using ho')
    rw[← this]
    congr 1
    simp
    omega
def LG (ops:Array Oper) (L:Nat->Bool):Prop:=∀ i o,ops[i]? = some o->L i=true->∀ j∈gD o,L j=true
def wG (ops:Array Oper) (i:Nat):List Nat:=match ops[i]? with
 |some o=>gD o
 |none=>[]
theorem PX (ops:Array Oper):Jv (wG ops) (eF [] ops.toList) :=
 PW _ _ _ (λi x h=>by simp[kU,mV]at h) λk o h=>by
  have h:ops[k]? = some o:=by simpa using h
  simp[wG,h]
theorem Jw {ops:Array Oper} {L:Nat->Bool} (hL:LG ops L) {i j:Nat} (hi:∀ m∈wG ops i,L m=true) (h:an (eF [] ops.toList) i j=true):L j=true:=by
 have h:=(jO _ _).1 h
 have key:∀ i x,L i=true->x∈kU (eF [] ops.toList) i->L x=true:=by
  intro i
  induction i using Nat.strongRecOn with
  |_ i ih =>
   intro x hi hx
   obtain⟨m,h1,h2⟩:=PX ops i x hx
   have hm:L m=true:=by
    unfold wG at h1
    split at h1
    · rename_i o ho;exact hL i o ho hi m h1
    · simp at h1
   rcases h2 with rfl|h2
   · exact hm
   · exact ih m h2.1 x hm h2.2
 obtain⟨m,h1,h2⟩:=PX ops i j h
 rcases h2 with rfl|h2
 · exact hi _ h1
 · exact key m j (hi m h1) h2.2
def dV (E:Rc->Eff) (L:Nat->Bool):List Rc->au->au
 | [],s=>s
 |u :: l,s=>if L u.i=true then app (E u) (dV E L l s)else dV E L l s
def up (L:Nat->Bool) (i:Nat):Nat->Bool:=λj=>if j=i then true else L j
theorem fold_congr {E:Rc->Eff} {L M:Nat->Bool} : ∀ (A:List Rc) (s:au),(∀ v∈A,L v.i=M v.i)->dV E L A s=dV E M A s
 | [],s,_=>rfl
 |u :: A,s,h=>by
  rw[dV,dV,h u (List.mem_cons_self ..),fold_congr A s λv hv=>h v (List.mem_cons_of_mem _ hv)]
theorem IK {E:Rc->Eff} {L:Nat->Bool} {u:Rc} {pre:List Rc} {s:au} (hL:L u.i=false) (hpre:∀ v∈pre,v.i≠u.i):∀ (post:List Rc),(∀ v∈post,v.i≠u.i)->(∀ v∈post,L v.i=true->∀ k,aH (E v) k≠none->aH (E u) k=none) ->
 dV E (up L u.i) (post ++ u :: pre) s=app (E u) (dV E L (post ++ u :: pre) s)
 | [],_,_=>by
  have:dV E (up L u.i) pre s=dV E L pre s:=fold_congr _ _ λv hv=>by simp[up,hpre v hv]
  simp[dV,hL,this,up]
 |v :: post,hn,hd=>by
  have ih:=IK (E:=E) (s:=s) hL hpre post (λx hx=>hn x (List.mem_cons_of_mem _ hx)) λx hx=>hd x (List.mem_cons_of_mem _ hx)
  have h1:up L u.i v.i=L v.i:=by simp[up,hn v (List.mem_cons_self ..)]
  rw[List.cons_append,dV,dV,h1,ih]
  cases hv:L v.i with
  |false=>simp
  |true =>
   simp only[if_true]
   funext k
   have:=hd v (List.mem_cons_self ..) hv k
   simp only[app]
   cases h2:aH (E v) k with
   |none=>rfl
   |some d=>rw[this (by simp[h2])]
theorem OY {E:Rc->Eff} {L:Nat->Bool} {k:Nat} : ∀ (pre:List Rc) (s:au),(∀ v∈pre,L v.i=false->aH (E v) k=none)->dV E L pre s k=dV E (λ_=>true) pre s k
 | [],s,_=>rfl
 |v :: pre,s,h=>by
  have ih:=OY pre s λx hx=>h x (List.mem_cons_of_mem _ hx)
  rw[dV,dV]
  simp only[if_true,app]
  cases hv:L v.i with
  |true=>simp only[if_true,app];rw[ih]
  |false =>
   rw[h v (List.mem_cons_self ..) hv]
   simpa using ih
theorem fold_at {E:Rc->Eff} {L:Nat->Bool} {u:Rc} {pre:List Rc} {s:au} {k:Nat} (hL:L u.i=false) (hpre:∀ v∈pre,L v.i=false->aH (E v) k=none):∀ (post:List Rc),(∀ v∈post,L v.i=true->aH (E v) k=none) ->
 dV E L (post ++ u :: pre) s k=dV E (λ_=>true) pre s k
 | [],_=>by
  rw[List.nil_append,dV]
  simp only[hL,Bool.false_eq_true,if_false]
  exact OY pre s hpre
 |v :: post,h=>by
  have ih:=fold_at (E:=E) (s:=s) hL hpre post λx hx=>h x (List.mem_cons_of_mem _ hx)
  rw[List.cons_append,dV]
  cases hv:L v.i with
  |false=>simpa using ih
  |true =>
   simp only[if_true,app]
   rw[h v (List.mem_cons_self ..) hv]
   exact ih
abbrev uA:=List D->Tr D->Nat->D->D->S->Prop
def cR (ih:eH->S->R):uA:=λaz st nx fv d s1=>Ez ih az st nx fv=some (.val d,s1)
section
variable (C:Cx) (ih:uA) (tab:List (List Nat)) (ops:Array Oper) (base n:Nat) (t0 st0:Tr D) (jL:Nat) (ik:List Nat)
inductive Sp (acc:List Rc) (u:Rc) (o:Oper) (t st:Tr D) (nx:Nat) (lg:List Nat):Tr D->Nat->List Nat->Prop
 |skip:want ops t o=some false->u=qd ops u.i o nx->Sp acc u o t st nx lg st nx lg
 |loc {d e} : want ops t o=some true->fH C.T (bV (kV (gH C.gl (aN ops o) t) o.op) (aA st)) (base+u.i) (gH C.gl (aN ops o) t) o.op=some (d,e)->jD (aA st) (base+u.i) (kV (gH C.gl (aN ops o) t) o.op) e=true ->
  u=BD C ops u.i o nx t d e->Sp acc u o t st nx lg (jW e st) nx (kS e lg)
 |pure {c fo k a b d} : want ops t o=some true->o.op = .call c->c.callee = .value fo->gH C.gl (aN ops o) t fo = .fn (.func k) a b->C.K k (a ++ dmap (gH C.gl (aN ops o) t) c.args.toList ++ b) d->u=wE ops u.i o nx d->Sp acc u o t st nx lg st nx lg
 |BF {c fo k a b d e} (tc:List Nat):want ops t o=some true->o.op = .call c->c.callee = .value fo->gH C.gl (aN ops o) t fo = .fn (.func k) a b->C.E k (a ++ dmap (gH C.gl (aN ops o) t) c.args.toList ++ b) (bV tc (aA st)) (base+u.i) d e->jD (aA st) (base+u.i) tc e=true ->
  u=⟨u.i,o.dst,aN ops o,d,e,tc,none,nx,nx⟩->Sp acc u o t st nx lg (jW e st) nx (kS e lg)
 |BG {c fo d s1} (rm:List Nat):want ops t o=some true->o.op = .call c->c.callee = .value fo->ih (dmap (gH C.gl (aN ops o) t) c.args.toList) (lh rm st) nx (gH C.gl (aN ops o) t fo) d s1 ->
  nx<=s1.nx->u=Ey ops u.i o nx (lh rm st) d s1->(∀ v∈acc,an tab u.i v.i=false->∀ k∈keys v.e,k∈rm)->Sp acc u o t st nx lg (J9 rm st s1.s u.e) s1.nx (s1.lg ++ lg)
inductive il:List Rc->Tr D->Tr D->Nat->List Nat->Prop
 |nil:il [] t0 st0 jL ik
 |cons {acc t st nx lg u o st' nx' jf} : il acc t st nx lg->ops[u.i]? = some o->(∀ v∈acc,v.i≠u.i)->(∀ j∈gD o,j<u.i)->(∀ v∈acc,an tab u.i v.i=true\/qx v u=true)->Sp C ih tab ops base acc u o t st nx lg st' nx' jf ->
  il (u :: acc) (gP n t u.dst u.d) st' nx' jf
end
theorem PY {i:Nat} : ∀ l:List Rc,E9 i l=true->∀ v∈l,v.i≠i
 | [],_,v,hv=>by simp at hv
 |u :: l,h,v,hv=>by
  rw[E9]at h
  split at h
  · simp at h
  · rename_i h1
    rcases List.mem_cons.1 hv with rfl|hv
    · rintro rfl;simp at h1
    · exact PY l h v hv
theorem IL {i:Nat} : ∀ l:List Nat,jo i l=true->∀ j∈l,j<i
 | [],_,v,hv=>by simp at hv
 |u :: l,h,v,hv=>by
  rw[jo]at h
  split at h
  · rename_i h1
    rcases List.mem_cons.1 hv with rfl|hv
    · exact Nat.le_of_ble_eq_true h1
    · exact IL l h v hv
  · simp at h
theorem xR {tab:List (List Nat)} {u:Rc} : ∀ l:List Rc,iA tab u l=true->∀ v∈l,an tab u.i v.i=true\/qx v u=true
 | [],_,v,hv=>by simp at hv
 |w :: l,h,v,hv=>by
  rw[iA]at h
  split at h
  · rename_i h1
    rcases List.mem_cons.1 hv with rfl|hv
    · exact .inl h1
    · exact xR l h v hv
  · split at h
    · rename_i h1
      rcases List.mem_cons.1 hv with rfl|hv
      · exact .inr h1
      · exact xR l h v hv
    · simp at h
theorem QU {tab:List (List Nat)} {i:Nat} : ∀ acc:List Rc,∀ v∈acc,an tab i v.i=false->∀ k∈keys v.e,k∈xh tab i acc
 | [],v,hv,_,k,_=>by simp at hv
 |u :: l,v,hv,h,k,hk=>by
  rw[xh]
  rcases List.mem_cons.1 hv with rfl|hv
  · rw[h];exact List.mem_append_left _ hk
  · have:=QU l v hv h k hk
    split
    · exact this
    · exact List.mem_append_right _ this
section
variable {C:Cx} {ih:eH->S->R} {tab:List (List Nat)} {ops:Array Oper} {base n:Nat} {t0 st0:Tr D} {jL:Nat} {ik:List Nat}
theorem YQ {s s':S} {acc acc':List Rc} {i:Nat} {o:Oper} (ho:ops[i]? = some o) (h:Ka C ih tab ops base s acc i o=some (s',acc')) (hR:il C (cR ih) tab ops base s.n t0 st0 jL ik acc s.tm s.s s.nx s.lg) :
 il C (cR ih) tab ops base s.n t0 st0 jL ik acc' s'.tm s'.s s'.nx s'.lg/\s'.n=s.n/\s'.ms=s.ms/\s'.rd=s.rd:=by
 obtain⟨t,st,nx,n,ms,lg,rd⟩:=s
 unfold Ka at h
 split at h
 case h_2=>simp at h
 rename_i h1 h2
 have h1:=PY _ h1
 have h2:=IL _ h2
 split at h
 · rename_i hw
   split at h
   · unfold Tt at h
     dsimp only at h
     split at h
     case h_2=>simp at h
     rename_i d e he
     rw[vR]at h
     split at h
     case h_2=>simp at h
     rename_i hk hok
     simp only[DU,xZ,Option.some.injEq,Prod.mk.injEq]at h
     obtain⟨rfl,rfl⟩:=h
     exact⟨il.cons (u:=BD C ops i o nx t d e) hR ho h1 h2 (xR _ hok) (.loc hw he hk rfl),rfl,rfl,rfl⟩
   · unfold R5 at h
     split at h
     case h_2=>simp at h
     rename_i c hop
     split at h
     case h_2=>simp at h
     rename_i fo hc
     rw[vM,QT]at h
     dsimp only at h
     generalize hx:Ez ih _ _ _ _=r at h
     obtain _|⟨ex,s1⟩:=r
     · simp[Eh]at h
     cases ex
     case val d =>
      unfold Eh at h
      dsimp only at h
      split at h
      case h_2=>simp at h
      rename_i hn hok
      simp only[ZH,xZ,Option.some.injEq,Prod.mk.injEq]at h
      obtain⟨rfl,rfl⟩:=h
      exact⟨il.cons (u:=Ey ops i o nx (lh (xh tab i acc) st) d s1) hR ho h1 h2 (xR _ hok) (.BG (xh tab i acc) hw hop hc hx (Nat.le_of_ble_eq_true hn) rfl (QU acc)),rfl,rfl,rfl⟩
     all_goals simp[Eh]at h
 · rename_i hw
   unfold RZ at h
   dsimp only at h
   split at h
   case h_2=>simp at h
   rename_i hok
   simp only[xZ,Option.some.injEq,Prod.mk.injEq]at h
   obtain⟨rfl,rfl⟩:=h
   exact⟨il.cons (u:=qd ops i o nx) hR ho h1 h2 (xR _ hok) (.skip hw rfl),rfl,rfl,rfl⟩
 · simp at h
theorem PZ:∀ (l:List Nat) {s s':S} {acc acc':List Rc},Cf C ih tab ops base l s acc=some (s',acc')->il C (cR ih) tab ops base s.n t0 st0 jL ik acc s.tm s.s s.nx s.lg ->
 il C (cR ih) tab ops base s.n t0 st0 jL ik acc' s'.tm s'.s s'.nx s'.lg/\s'.n=s.n/\s'.ms=s.ms/\s'.rd=s.rd
 | [],s,s',acc,acc',h,hR=>by
  simp only[Cf,Option.some.injEq,Prod.mk.injEq]at h
  obtain⟨rfl,rfl⟩:=h
  exact⟨hR,rfl,rfl,rfl⟩
 |i :: l,s,s',acc,acc',h,hR=>by
  rw[Cf]at h
  split at h
  case h_2=>simp at h
  rename_i o ho
  rw[vF]at ho
  split at h
  case h_2=>simp at h
  rename_i s1 agJ hs
  obtain⟨h1,h2,h3,h4⟩:=YQ (by simpa using ho) hs hR
  rw[← h2]at h1
  obtain⟨h5,h6,h7,h8⟩:=PZ l h h1
  rw[h2]at h5
  exact⟨h5,h6.trans h2,h7.trans h3,h8.trans h4⟩
theorem OZ {k:Nat} : ∀ l:List Rc,k∈idxs l->∃ u∈l,u.i=k
 | [],h=>by simp[idxs]at h
 |u :: l,h=>by
  rcases List.mem_cons.1 h with rfl|h
  · exact⟨u,List.mem_cons_self ..,rfl⟩
  · obtain⟨v,h1,h2⟩:=OZ l h
    exact⟨v,List.mem_cons_of_mem _ h1,h2⟩
theorem Qa {l:List Rc} : ∀ n,allI n (idxs l)=true->∀ k<n,∃ u∈l,u.i=k
 |0,_,k,hk=>by omega
 |n+1,h,k,hk=>by
  rw[allI]at h
  split at h
  · rename_i h1
    rcases Nat.lt_or_ge k n with h2|h2
    · exact Qa n h k h2
    · obtain rfl:k=n:=by omega
      exact OZ _ ((jO _ _).1 h1)
  · simp at h
end
end Go.Proofs.YtadecgbblajifaaGreatDoor.DV
namespace Go.Proofs.YtadecgbblajifaaGreatDoor
end Go.Proofs.YtadecgbblajifaaGreatDoor
namespace Go.Proofs.YtadecgbblajifaaGreatDoor.DV
open Go
def te (n:Nat) (u:Rc):Eff:=match u.dst with
 |some d=>match Nat.blt d n with
  |true=>[(d,some u.d)]
  |false=>[]
 |none=>[]
theorem _6 (t:Tr D) (i:Nat) (d:Option D):aA (ed t i d)=app [(i,d)] (aA t):=mD [(i,d)] t
theorem O0 (n:Nat) (t:Tr D) (u:Rc):aA (gP n t u.dst u.d)=app (te n u) (aA t):=by
 unfold gP te
 cases u.dst with
 |none=>rfl
 |some d =>
  dsimp only
  cases Nat.blt d n with
  |true=>exact _6 _ _ _
  |false=>rfl
theorem DY {n:Nat} {u:Rc} {k:Nat} (h:∀ d,u.dst=some d->d≠k):aH (te n u) k=none:=by
 unfold te
 split
 · rename_i d hd
   split
   · rw[j5 _ _ (Ne.symm (h d hd))];rfl
   · rfl
 · rfl
theorem _7 {n:Nat} {u:Rc} {k:Nat} (h:aH (te n u) k≠none):u.dst=some k:=by
 cases hd:u.dst with
 |none=>simp[te,hd,aH]at h
 |some d =>
  by_cases hk:d=k
  · rw[hk]
  · exact absurd (DY λd' h'=>by rw[hd]at h';simp at h';omega) h
def CH (u:Rc):Prop:=∀ p,u.c=some p->aA p.2=app u.e (aA p.1)
structure Ap (u v:Rc):Prop where
 c:u.c=none
 n1:∀ d,u.dst=some d->d ∉ v.nm
 n2:∀ d,v.dst=some d->d ∉ u.nm
 n3:∀ d,u.dst=some d->v.dst≠some d
 k1:∀ k,aH u.e k≠none->aH v.e k=none
 k2:∀ k∈u.tc,aH v.e k=none
 k3:∀ k∈v.tc,aH u.e k=none
theorem QV {u v:Rc} (h:qx u v=true):Ap u v:=by
 unfold qx at h
 split at h
 · simp at h
 rename_i hc
 split at h
 case h_2=>simp at h
 rename_i hn
 have he:=h
 unfold Tp at hn
 split at hn
 case h_2=>simp at hn
 rename_i h1 h2 h3
 have hin:∀ (x:Option Nat) (l:List Nat),F4 x l=false->∀ d,x=some d->d ∉ l:=by
  rintro x l h d rfl hd
  rw[F4,(jO _ _).2 hd]at h
  simp at h
 have heq:∀ d,u.dst=some d->v.dst≠some d:=by
  intro d hu hv
  rw[hu,hv]at h3
  simp[UM]at h3
 unfold Tq at he
 split at he
 case h_2=>simp at he
 rename_i e1 e2 e3
 have hd1:=DW _ _ e1
 have hd2:=DW _ _ e2
 have hd3:=DW _ _ e3
 exact⟨hc,hin _ _ h1,hin _ _ h2,heq,λk hk=>Ij (hd2 k (Du _ _ hk)),λk hk=>Ij (hd3 k hk),λk hk=>Ij λh=>hd1 k h hk⟩
section
variable {C:Cx} {ih:uA} {tab:List (List Nat)} {ops:Array Oper} {base n:Nat} {t0 st0:Tr D} {jL:Nat} {ik:List Nat}
theorem Kb {A:List Rc} {t st:Tr D} {nx:Nat} {lg:List Nat} (h:il C ih tab ops base n t0 st0 jL ik A t st nx lg):aA t=dV (te n) (λ_=>true) A (aA t0):=by
 induction h with
 |nil=>rfl
 |cons _ _ _ _ _ _ IH=>rw[O0,IH];simp[dV]
theorem Ei {A:List Rc} {t st:Tr D} {nx:Nat} {lg:List Nat} (h:il C ih tab ops base n t0 st0 jL ik A t st nx lg):(∀ u∈A,CH u)->aA st=dV (·.e) (λ_=>true) A (aA st0):=by
 induction h with
 |nil=>intro _;rfl
 | @cons acc t st nx lg u o st' nx' jf _ _ _ _ _ hs IH =>
  intro hc
  have IH:=IH λv hv=>hc v (List.mem_cons_of_mem _ hv)
  simp only[dV,if_true]
  rw[← IH]
  cases hs with
  |skip _ hu=>rw[hu];rfl
  |pure _ _ _ _ _ hu=>rw[hu];rfl
  |loc _ _ _ hu=>rw[mD];rw[hu];rfl
  |BF _ _ _ _ _ _ _ hu=>rw[mD];rw[hu]
  | @BG _ _ _ s1 rm _ _ _ _ _ hu _ =>
   have:=hc u (List.mem_cons_self ..) (lh rm st,s1.s) (by rw[hu];rfl)
   cases rm with
   |nil=>exact this
   |cons k l=>exact mD _ _
theorem R6 {acc:List Rc} {u:Rc} {o:Oper} {t st st':Tr D} {nx nx':Nat} {lg jf:List Nat} (h:Sp C ih tab ops base acc u o t st nx lg st' nx' jf):u.n0=nx/\u.n1=nx'/\nx<=nx'/\u.nm=aN ops o/\u.dst=o.dst:=by
 cases h with
 |skip _ hu=>rw[hu];exact⟨rfl,rfl,Nat.le_refl _,rfl,rfl⟩
 |pure _ _ _ _ _ hu=>rw[hu];exact⟨rfl,rfl,Nat.le_refl _,rfl,rfl⟩
 |loc _ _ _ hu=>rw[hu];exact⟨rfl,rfl,Nat.le_refl _,rfl,rfl⟩
 |BF _ _ _ _ _ _ _ hu=>rw[hu];exact⟨rfl,rfl,Nat.le_refl _,rfl,rfl⟩
 |BG _ _ _ _ _ hn hu _=>rw[hu];exact⟨rfl,rfl,hn,rfl,rfl⟩
theorem pV {A:List Rc} {t st:Tr D} {nx:Nat} {lg:List Nat} (h:il C ih tab ops base n t0 st0 jL ik A t st nx lg):jL<=nx/\∀ u∈A,jL<=u.n0/\u.n1<=nx/\u.i<ops.size:=by
 induction h with
 |nil=>exact⟨Nat.le_refl _,λu hu=>by simp at hu⟩
 | @cons acc t st nx lg u o st' nx' jf _ ho _ _ _ hs IH =>
  obtain⟨h1,h2,h3,_⟩:=R6 hs
  refine⟨Nat.le_trans IH.1 h3,λv hv => ?_⟩
  rcases List.mem_cons.1 hv with rfl|hv
  · exact⟨by rw[h1];exact IH.1,by rw[h2];exact Nat.le_refl _,(Array.getElem?_eq_some_iff.1 ho).1⟩
  · exact⟨(IH.2 v hv).1,Nat.le_trans (IH.2 v hv).2.1 h3,(IH.2 v hv).2.2⟩
theorem xS (k:Nat):∀ (e:Eff) (l:List Nat),(k∈l->k∈kS e l)/\(aH e k≠none->k∈kS e l)
 | [],l=>⟨λh=>h,λh=>by simp[aH]at h⟩
 |(j,d) :: e,l=>by
  refine⟨λh=>List.mem_cons_of_mem _ ((xS k e l).1 h),λh => ?_⟩
  by_cases hk:k=j
  · rw[hk];exact List.mem_cons_self ..
  · rw[j5 _ _ hk]at h
    exact List.mem_cons_of_mem _ ((xS k e l).2 h)
theorem Dp (st st':Tr D) (k:Nat):∀ l:List Nat,aH (qb st st' l) k=if k∈l/\(aX st k≠none\/aX st' k≠none)then some (aX st' k)else none
 | []=>by simp[qb,aH]
 |j :: l=>by
  have ih:=Dp st st' k l
  rw[qb]
  by_cases hk:k=j
  · subst hk
    split
    · rename_i h1 h2
      rw[ih,h1,h2]
      simp
    · rename_i h1
      rw[xM,if_pos]
      refine⟨List.mem_cons_self ..,?_⟩
      cases h2:aX st k with
      |some d=>simp
      |none =>
       right
       exact h1 h2
  · have:(k∈j :: l)=(k∈l):=by simp[hk]
    simp only[this]
    split
    · exact ih
    · rw[j5 _ _ hk];exact ih
theorem YR {st st':Tr D} {k:Nat} (l:List Nat) (h:aH (qb st st' l) k≠none):k∈l:=by
 rw[Dp]at h
 split at h
 · rename_i h1;exact h1.1
 · simp at h
theorem YS {st st':Tr D} {l:List Nat} (h:∀ k,k ∉ l->aX st' k=aX st k):aA st'=app (qb st st' l) (aA st):=by
 funext k
 simp only[app,Dp,aA]
 by_cases h1:k∈l
 · by_cases h2:aX st k≠none\/aX st' k≠none
   · rw[if_pos ⟨h1,h2⟩]
   · rw[if_neg λh=>h2 h.2]
     have h3:aX st k=none/\aX st' k=none:=by
      cases h4:aX st k <;> cases h5:aX st' k <;> simp[h4,h5]at h2 ⊢
     rw[h3.1,h3.2]
 · rw[if_neg λh=>h1 h.1,h k h1]
theorem Qb (k:Nat):∀ (l:List Nat) (t:Tr D),aX (lh l t) k=if k∈l then none else aX t k
 | [],t=>by simp[lh]
 |j :: l,t=>by
  rw[lh,lG,Qb k l]
  by_cases h:k=j <;> simp[h]
theorem abd {A:List Rc} {t st:Tr D} {nx:Nat} {lg:List Nat} (h:il C ih tab ops base n t0 st0 jL ik A t st nx lg):(∀ k∈ik,k∈lg)/\∀ u∈A,∀ k,aH u.e k≠none->k∈lg:=by
 induction h with
 |nil=>exact⟨λ_ h=>h,λu hu=>by simp at hu⟩
 | @cons acc t st nx lg u o st' nx' jf _ ho _ _ _ hs IH =>
  have key:(∀ k∈lg,k∈jf)/\∀ k,aH u.e k≠none->k∈jf:=by
   cases hs with
   |skip _ hu=>rw[hu];exact⟨λ_ h=>h,λk h=>by simp[qd,aH]at h⟩
   |pure _ _ _ _ _ hu=>rw[hu];exact⟨λ_ h=>h,λk h=>by simp[wE,aH]at h⟩
   |loc _ _ _ hu=>rw[hu];exact⟨λk h=>(xS k _ _).1 h,λk h=>(xS k _ _).2 h⟩
   |BF _ _ _ _ _ _ _ hu=>rw[hu];exact⟨λk h=>(xS k _ _).1 h,λk h=>(xS k _ _).2 h⟩
   |BG _ _ _ _ _ _ hu _ =>
    rw[hu]
    exact⟨λk h=>List.mem_append_right _ h,λk h=>List.mem_append_left _ (YR _ h)⟩
  refine⟨λk hk=>key.1 k (IH.1 k hk),λv hv k hk => ?_⟩
  rcases List.mem_cons.1 hv with rfl|hv
  · exact key.2 k hk
  · exact key.1 k (IH.2 v hv k hk)
structure At (C:Cx) (ih:uA) (tab:List (List Nat)) (ops:Array Oper) (base n:Nat) (t0 st0:Tr D) (jL:Nat) (ik:List Nat) (A:List Rc) (u:Rc) (o:Oper) (post pre:List Rc) (t st:Tr D) (nx:Nat) (lg:List Nat):Prop where
 eq:A=post ++ u :: pre
 ran:il C ih tab ops base n t0 st0 jL ik pre t st nx lg
 op:ops[u.i]? = some o
 dp:∀ j∈gD o,j<u.i
 ne1:∀ v∈pre,v.i≠u.i
 F6:∀ v∈post,v.i≠u.i
 ok1:∀ v∈pre,an tab u.i v.i=true\/qx v u=true
 qx:∀ v∈post,an tab v.i u.i=true\/qx u v=true
 sp:∃ st' nx' jf,Sp C ih tab ops base pre u o t st nx lg st' nx' jf
theorem QW {A:List Rc} {t st:Tr D} {nx:Nat} {lg:List Nat} (h:il C ih tab ops base n t0 st0 jL ik A t st nx lg):∀ u∈A,∃ o post pre t st nx lg,At C ih tab ops base n t0 st0 jL ik A u o post pre t st nx lg:=by
 induction h with
 |nil=>intro u hu;simp at hu
 | @cons acc t st nx lg v o st' nx' jf hr ho hn hd hok hs IH =>
  intro u hu
  rcases List.mem_cons.1 hu with rfl|hu'
  · exact⟨o,[],acc,t,st,nx,lg,rfl,hr,ho,hd,hn,λv hv=>by simp at hv,hok,λv hv=>by simp at hv,_,_,_,hs⟩
  · obtain⟨o',post,pre,t',st',nx',jf,h⟩:=IH u hu'
    refine⟨o',v :: post,pre,t',st',nx',jf,by rw[h.eq];rfl,h.ran,h.op,h.dp,h.ne1,λx hx => ?_,h.ok1,λx hx => ?_,h.sp⟩
    · rcases List.mem_cons.1 hx with rfl|hx
      · exact(hn u hu').symm
      · exact h.F6 x hx
    · rcases List.mem_cons.1 hx with rfl|hx
      · exact hok u hu'
      · exact h.qx x hx
end
theorem Ya {ops:Array Oper} {t t':Tr D} {o:Oper} (h:∀ k∈LF ops o,dK t k=dK t' k):want ops t o=want ops t' o:=by
 unfold want
 split
 · rfl
 · rename_i j b hg
   have:yl ops t j=yl ops t' j:=by
    unfold yl
    split
    · rename_i oj hj
      split
      · rename_i d hd
        rw[h d]
        simp[LF,hg,hj,hd]
      · rfl
    · rfl
   rw[this]
theorem Yb {gl:Nat->D} {nm:List Nat} {t t':Tr D} (h:∀ k∈nm,dK t k=dK t' k):gH gl nm t=gH gl nm t':=by
 funext x
 unfold gH
 split
 · split
   · rename_i h1;exact h _ ((jO _ _).1 h1)
   · rfl
 · rfl
 · rfl
 · rfl
theorem _8 {C:Cx} {s:S} {g:G} {a:Act} {w:World} (h:St C s g a w) (nm:List Nat) (x:Operand):VR g (gH C.gl nm s.tm x) (a.eval x):=by
 unfold gH
 split
 · split
   · exact h.tm _
   · simp only[VR,CR,true_and];exact⟨_,rfl⟩
 · exact fF _ _
 · exact h.gl _
 · simp only[VR,CR,Act.eval]
   exact⟨[],[],rfl,by simp[aC],by simp[aC]⟩
theorem Rel.sub {g:G} {s σ:au} {w:World} (R:Rel g σ w) (h:∀ i d,s i=some d->σ i=some d):Rel g s w:=by
 refine⟨R.fm,λi d hd=>R.ob i d (h i d hd),λi j l m hi hj => ?_⟩
 refine R.dj i j l m ?_ ?_
 · cases hd:s i with
   |none=>exact absurd hd hi
   |some d=>rw[h _ _ hd];simp
 · cases hd:s j with
   |none=>exact absurd hd hj
   |some d=>rw[h _ _ hd];simp
theorem DC {σ:au} {id:Nat} {tc:List Nat} {k:Nat} : ∀ e:Eff,jD σ id tc e=true->aH e k≠none->bV tc σ k≠none\/k=id
 | [],_,h=>by simp[aH]at h
 |(j,d) :: e,hk,h=>by
  rw[jD]at hk
  split at hk
  case h_2=>simp at hk
  rename_i hj
  by_cases hkj:k=j
  · subst hkj
    simp only[Bool.or_eq_true,Bool.and_eq_true]at hj
    rcases hj with hj|⟨h1,h2⟩
    · exact .inr (Nat.eq_of_beq_eq_true hj)
    · left
      unfold bV
      rw[h1]
      intro h3
      simp only at h3
      rw[h3]at h2
      simp at h2
  · rw[j5 _ _ hkj]at h
    exact DC e hk h
end Go.Proofs.YtadecgbblajifaaGreatDoor.DV
namespace Go.Proofs.YtadecgbblajifaaGreatDoor
end Go.Proofs.YtadecgbblajifaaGreatDoor
