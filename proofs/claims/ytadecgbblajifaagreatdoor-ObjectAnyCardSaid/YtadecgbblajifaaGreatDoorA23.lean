import Derived.Test.YtadecgbblajifaaGreatDoorA22
import Derived.RangeFuncNested
import Derived.RangeFuncLeaves
set_option linter.unusedSimpArgs false
set_option linter.unusedVariables false
set_option maxRecDepth 100000
set_option maxHeartbeats 25600000
namespace Go.Proofs.YtadecgbblajifaaGreatDoor
end Go.Proofs.YtadecgbblajifaaGreatDoor
namespace Go.Proofs.YtadecgbblajifaaGreatDoor.DV
open Go
abbrev Re:=Option (D × Eff)
def eP:Option D->Re
 |some d=>some (d,[])
 |none=>none
def KU (T:bB) (n t:Nat):Re:=match T t with
 |some y=>Du y n
 |none=>none
def KV (T:bB) (t:Nat) (l:List (Nat × D)):Re:=match T t with
 |some y=>eP (Dz y l)
 |none=>none
def Q8 (T:bB) (n t len:Nat) (l:List (Nat × D)):Re:=match T t with
 |some y=>match T (eD y.k)with
  |some ye=>F5 y ye len n l
  |none=>none
 |none=>none
def MU (T:bB) (σ:ak) (t:Nat) (x:D):Re:=match T t with
 |some y=>eP (vQ y σ x)
 |none=>none
def KW (T:bB) (σ:ak) (t:Nat) (x v:D):Re:=match T t with
 |some y=>match Dv y σ x v with
  |some e=>some (.bL,e)
  |none=>none
 |none=>none
def MV (c a b:D):Re:=match c with
 |.lf (.bool true)=>some (a,[])
 |.lf (.bool false)=>some (b,[])
 |_=>none
def OC (T:bB) (op:BinOp) (t:Nat) (z:Operand) (a b:D):Re:=match T t with
 |some y=>eP (ET y op z a b)
 |none=>none
def KX (T:bB) (σ:ak) (n:Nat) (ys yt:Ty) (x:D):Tk->Tk->Re
 |.sl _ _,.str=>match T (eD yt.k)with
  |some ye=>EX yt ye n x
  |none=>none
 |.str,.sl _ _=>match T (eD ys.k),A9 x with
  |some ye,true=>match xy ye.k with
   |true=>eP (EW ys yt σ x)
   |false=>none
  |_,_=>none
 |_,_=>eP (DX ys yt x)
def MW (T:bB) (σ:ak) (n s t:Nat) (x:D):Re:=match T s,T t with
 |some ys,some yt=>KX T σ n ys yt x yt.k ys.k
 |_,_=>none
def Q9 (T:bB) (t:Nat) (x:D):Re:=match T t with
 |some y=>eP (F3 y t x)
 |none=>none
def Ra (T:bB) (n t:Nat) (l c:D):Re:=match T t with
 |some y=>match T (eD y.k)with
  |some ye=>F6 y ye n l c
  |none=>none
 |none=>none
def cz (T:bB) (σ:ak) (t:Nat) (x:D) (l h m:Option D):Re:=match T t with
 |some y=>eP (Dy y σ x l h m)
 |none=>none
def Rb (T:bB) (t:Nat) (x:D) (f:Nat):Re:=match T t with
 |some y=>eP (FX y f x)
 |none=>none
def Rf (T:bB) (t:Nat) (x:D) (f:Nat):Re:=match T t with
 |some y=>eP (Dx y f x)
 |none=>none
def Rh (T:bB) (σ:ak) (t:Nat) (x i:D):Re:=match T t with
 |some y=>eP (FY y σ x i)
 |none=>none
def Ri (T:bB) (t:Nat) (x i:D):Re:=match T t with
 |some y=>match EN y x i with
  |some d=>some (d,[])
  |none=>match T (eD y.k)with
   |some ye=>eP (DW y ye x i)
   |none=>none
 |none=>none
def BX (T:bB) (σ:ak) (t:Nat) (m k v:D):Re:=match T t with
 |some y=>match T (tT y.k)with
  |some yk=>match F7 y yk σ m k v with
   |some e=>some (.bL,e)
   |none=>none
  |none=>none
 |none=>none
def Rj (T:bB) (σ:ak) (t:Nat) (m k:D) (ok:Bool):Re:=match T t with
 |some y=>match T (tT y.k),T (F9 y.k)with
  |some yk,some ye=>eP (F8 y yk ye σ m k ok)
  |_,_=>none
 |none=>none
def OD (T:bB) (t:Nat) (x:D):Re:=match T t with
 |some y=>eP (ER y x)
 |none=>none
def OE (T:bB) (σ:ak) (n t t2:Nat) (x z:D):Re:=match T t,T t2 with
 |some y,some y2=>match sK y2,T (eD y.k)with
  |true,some ye=>Db y ye σ n x z
  |_,_=>none
 |_,_=>none
def BZ (f:Value->Value->Sem Value):D->D->Re
 |.lf a,.lf b=>match qR (f a b)with
  |some v=>some (.lf v,[])
  |none=>none
 |_,_=>none
def Rk (T:bB) (σ:ak) (t:Nat) (x z:D):Re:=match T t with
 |some y=>DZ y σ x z
 |none=>none
def OG (T:bB) (σ:ak) (n:Nat) (get:Operand->D) (b:Builtin) (ts:List Nat) (az:List Operand):Re:=match b,ts,az with
 |.len,[t],[x]=>OD T t (get x)
 |.append,[t,t2],[x,z]=>OE T σ n t t2 (get x) (get z)
 |.copy,[t,_],[x,z]=>Rk T σ t (get x) (get z)
 |.min,_,[x,z]=>BZ Builtin.min2 (get x) (get z)
 |.max,_,[x,z]=>BZ Builtin.max2 (get x) (get z)
 |_,_,_=>none
def MX (T:bB) (σ:ak) (n:Nat) (get:Operand->D) (c:Call):Re:=match c.callee with
 |.builtin b=>OG T σ n get b c.argTypes.toList c.args.toList
 |_=>none
def qM (get:Operand->D) (l:List (Nat × Operand)):List (Nat × D):=l.map λp=>(p.1,get p.2)
def rR (T:bB) (σ:ak) (n:Nat) (get:Operand->D) (o:Op):Re:=match o with
 |.move x=>some (get x,[])
 |.assign x=>some (get x,[])
 |.pick c a b=>MV (get c) (get a) (get b)
 |.alloc t=>KU T n t
 |.box _ x=>EM n (get x)
 |.build t parts=>KV T t (qM get parts.toList)
 |.buildSlice t len parts=>Q8 T n t len (qM get parts.toList)
 |.load t x=>MU T σ t (get x)
 |.store t x v=>KW T σ t (get x) (get v)
 |.nilCheck x=>eP (EP (get x))
 |.binOp op t x z _=>OC T op t z (get x) (get z)
 |.unOp op _ x=>eP (FZ op (get x))
 |.convert s t x=>MW T σ n s t (get x)
 |.makeInterface t x=>Q9 T t (get x)
 |.makeFunc f a b=>some (.fn f (dmap get a.toList) (dmap get b.toList),[])
 |.makeMap _ none=>some (.mp n,[(n,some (.mo [] 0))])
 |.makeSlice t l c=>Ra T n t (get l) (get c)
 |.slice t x lo hi mx=>cz T σ t (get x) (lo.map get) (hi.map get) (mx.map get)
 |.fieldAddr t x f=>Rb T t (get x) f
 |.field t x f=>Rf T t (get x) f
 |.indexAddr t x i=>Rh T σ t (get x) (get i)
 |.index t x i=>Ri T t (get x) (get i)
 |.lookup t m k ok=>Rj T σ t (get m) (get k) ok
 |.mapUpdate t m k v=>BX T σ t (get m) (get k) (get v)
 |.insert t m k v=>BX T σ t (get m) (get k) (get v)
 |.extract x k=>eP (EO (get x) k)
 |.call c=>MX T σ n get c
 |_=>none
variable {P:Program} {T:bB}
theorem fE {o:Option D} {d:D} {e:Eff} (h:eP o=some (d,e)):o=some d/\e=[]:=by
 cases o <;> simp[eP]at h;exact⟨by rw[h.1],h.2⟩
theorem uT {o:Oper} {a:Act} {c:Call} {b:Builtin} {w w':World} {v:Value} (ho:o.op = .call c) (hb:c.callee = .builtin b)
 (hf:(builtin b c.argTypes o.type (c.args.map fun | .const _=>true|_=>false) (c.args.map a.eval)).run P w = .ok (.value v) w'):(execOp a.eval o).run P w = .ok (.value v) w':=by
 simp only[execOp,ho,resolve,hb,Sem.run_bind,Sem.run_pure,Result.andThen_ok,invoke];exact hf
theorem nL {α:Type} {x:Array α} {l:List α} (h:x.toList=l):x=⟨l⟩:=by cases x;simp at h;rw[h]
theorem KY (hT:bW P T) {g:G} {σ:ak} {w:World} {a:Act} {o:Oper} {n:Nat} {get:Operand->D} {d:D} {e:Eff} (h:rR T σ n get o.op=some (d,e)) (R:Rel g σ w) (hn:g.ah n=none) (H:∀ x,VR g (get x) (a.eval x)) :
 Does P o a w (Out g σ w (· = n) d e):=by
 generalize ho:o.op=op at h;unfold rR at h;split at h
 · simp only[Option.some.injEq,Prod.mk.injEq]at h;obtain⟨rfl,rfl⟩:=h;exact Does.val (w':=w) (by simp[execOp,ho]) (Out.pure R (H _))
 · simp only[Option.some.injEq,Prod.mk.injEq]at h;obtain⟨rfl,rfl⟩:=h;exact Does.val (w':=w) (by simp[execOp,ho]) (Out.pure R (H _))
 · rename_i c x z;have hc:=H c;unfold MV at h;split at h <;> simp only[Option.some.injEq,Prod.mk.injEq,reduceCtorEq]at h <;> obtain⟨rfl,rfl⟩:=h <;> rename_i hq <;> rw[hq]at hc <;> have hc:=bf hc
   · exact Does.val (v:=a.eval x) (w':=w) (by simp[execOp,ho,hc,asBool]) (Out.pure R (H _))
   · exact Does.val (v:=a.eval z) (w':=w) (by simp[execOp,ho,hc,asBool]) (Out.pure R (H _))
 · unfold KU at h;split at h
   · rename_i y hy;exact Td (hT _ _ hy) ho h R hn
   · simp at h
 · exact UI ho h R hn (H _)
 · unfold KV at h;split at h
   · rename_i y hy;obtain⟨hp,rfl⟩:=fE h;exact Ti (hT _ _ hy) ho hp R H
   · simp at h
 · unfold Q8 at h;split at h
   · rename_i y hy;split at h
     · rename_i ye hye;exact VW (hT _ _ hy) (hT _ _ hye) ho h R hn H
     · simp at h
   · simp at h
 · unfold MU at h;split at h
   · rename_i y hy;obtain⟨hp,rfl⟩:=fE h;exact TM (hT _ _ hy) ho hp R (H _)
   · simp at h
 · unfold KW at h;split at h
   · rename_i y hy;split at h
     · rename_i e' he;simp only[Option.some.injEq,Prod.mk.injEq]at h;obtain⟨rfl,rfl⟩:=h;exact Te (hT _ _ hy) ho he R (H _) (H _)
     · simp at h
   · simp at h
 · obtain⟨hp,rfl⟩:=fE h;exact UL ho hp R (H _)
 · unfold OC at h;split at h
   · rename_i y hy;obtain⟨hp,rfl⟩:=fE h;exact UN (hT _ _ hy) ho hp R (H _) (H _)
   · simp at h
 · obtain⟨hp,rfl⟩:=fE h;exact VT ho hp R (H _)
 · rename_i _ _ x0;unfold MW at h;split at h
   · rename_i ys yt hys G9;unfold KX at h;split at h
     · rename_i _ _ hk1 hk2;split at h
       · rename_i ye hye;exact UR (hT _ _ hys) (hT _ _ G9) (hT _ _ hye) hk2 ho h R hn (H _)
       · simp at h
     · rename_i _ _ hk1 hk2;split at h
       · rename_i ye hye hsl;split at h
         · rename_i rz;obtain⟨hp,rfl⟩:=fE h;refine UQ (hT _ _ hys) (hT _ _ G9) (hT _ _ hye) rz ho hp R (H _) ?_;have hx:=H x0;unfold A9 at hsl;split at hsl <;> rename_i hq <;> (try (simp at hsl;done)) <;> rw[hq]at hx
           · simp only[VR,CR,List.cons.injEq,and_true]at hx;obtain⟨l,ad,c,_,hx,_⟩:=hx;exact⟨_,_,_,hx⟩
           · simp only[VR,CR,List.cons.injEq,and_true]at hx;obtain⟨ad,c,hx,_⟩:=hx;exact⟨_,_,_,hx⟩
           · simp only[VR,CR,List.cons.injEq,and_true]at hx;obtain⟨ad,hx⟩:=hx;exact⟨_,_,_,hx⟩
           · exact⟨_,_,_,bf hx⟩
         · simp at h
       · simp at h
     · obtain⟨hp,rfl⟩:=fE h;exact TS (hT _ _ hys) (hT _ _ G9) ho hp R (H _)
   · simp at h
 · unfold Q9 at h;split at h
   · rename_i y hy;obtain⟨hp,rfl⟩:=fE h;exact VU (hT _ _ hy) ho hp R (H _)
   · simp at h
 · simp only[Option.some.injEq,Prod.mk.injEq]at h;obtain⟨rfl,rfl⟩:=h;exact VV ho R H
 · simp only[Option.some.injEq,Prod.mk.injEq]at h;obtain⟨rfl,rfl⟩:=h;exact V4 ho R hn
 · unfold Ra at h;split at h
   · rename_i y hy;split at h
     · rename_i ye hye;exact VY (hT _ _ hy) (hT _ _ hye) ho h R hn (H _) (H _)
     · simp at h
   · simp at h
 · unfold cz at h;split at h
   · rename_i y hy;obtain⟨hp,rfl⟩:=fE h;exact Tg (hT _ _ hy) ho hp R H
   · simp at h
 · unfold Rb at h;split at h
   · rename_i y hy;obtain⟨hp,rfl⟩:=fE h;exact VP (hT _ _ hy) ho hp R (H _)
   · simp at h
 · unfold Rf at h;split at h
   · rename_i y hy;obtain⟨hp,rfl⟩:=fE h;exact Tf (hT _ _ hy) ho hp R (H _)
   · simp at h
 · unfold Rh at h;split at h
   · rename_i y hy;obtain⟨hp,rfl⟩:=fE h;exact VQ (hT _ _ hy) ho hp R (H _) (H _)
   · simp at h
 · unfold Ri at h;split at h
   · rename_i y hy;split at h
     · rename_i d' hd;simp only[Option.some.injEq,Prod.mk.injEq]at h;obtain⟨rfl,rfl⟩:=h;exact UJ (hT _ _ hy) ho hd R (H _) (H _)
     · split at h
       · rename_i ye hye;obtain⟨hp,rfl⟩:=fE h;exact TN (hT _ _ hy) (hT _ _ hye) ho hp R (H _) (H _)
       · simp at h
   · simp at h
 · unfold Rj at h;split at h
   · rename_i y hy;split at h
     · rename_i yk ye hyk hye;obtain⟨hp,rfl⟩:=fE h;exact V5 (hT _ _ hy) (hT _ _ hyk) (hT _ _ hye) ho hp R (H _) (H _)
     · simp at h
   · simp at h
 · unfold BX at h;split at h
   · rename_i y hy;split at h
     · rename_i yk hyk;split at h
       · rename_i e' he;simp only[Option.some.injEq,Prod.mk.injEq]at h;obtain⟨rfl,rfl⟩:=h;exact J8 (hT _ _ hy) (hT _ _ hyk) (.inl ho) he R (H _) (H _) (H _)
       · simp at h
     · simp at h
   · simp at h
 · unfold BX at h;split at h
   · rename_i y hy;split at h
     · rename_i yk hyk;split at h
       · rename_i e' he;simp only[Option.some.injEq,Prod.mk.injEq]at h;obtain⟨rfl,rfl⟩:=h;exact J8 (hT _ _ hy) (hT _ _ hyk) (.inr ho) he R (H _) (H _) (H _)
       · simp at h
     · simp at h
   · simp at h
 · obtain⟨hp,rfl⟩:=fE h;exact UK ho hp R (H _)
 · rename_i c;unfold MX at h;split at h
   case h_2=>simp at h
   rename_i b hb;unfold OG at h;split at h
   · rename_i t x hts has;unfold OD at h;split at h
     · rename_i y hy;obtain⟨hp,rfl⟩:=fE h;obtain⟨v,h1,h2⟩:=UM (P:=P) (w:=w) (ty:=o.type) (hT _ _ hy) hp (H _);refine Does.val (v:=v) (w':=w) (uT ho hb ?_) (Out.pure R h2);rw[nL hts,nL has];simp[builtin,h1]
     · simp at h
   · rename_i t t2 x z hts has;unfold OE at h;split at h
     · rename_i y y2 hy hy2;split at h
       · rename_i ye hni hye;obtain⟨v,w',h1,h2⟩:=Sv (P:=P) (ty:=o.type) (hT _ _ hy) (hT _ _ hy2) hni (hT _ _ hye) h R hn (H _) (H _);refine Does.val (v:=v) (w':=w') (uT ho hb ?_) h2;rw[nL hts,nL has];simp[builtin,h1]
       · simp at h
     · simp at h
   · rename_i t t2 x z hts has;unfold Rk at h;split at h
     · rename_i y hy;obtain⟨v,w',h1,h2⟩:=TU (P:=P) (ty:=o.type) (t2:=t2) (hT _ _ hy) h R (H _) (H _);refine Does.val (v:=v) (w':=w') (uT ho hb ?_) h2;rw[nL hts,nL has];simp[builtin,h1]
     · simp at h
   · rename_i x z has;have hx:=H x;have hz:=H z;unfold BZ at h;split at h
     · rename_i p q hp hq;split at h
       · rename_i v hv;simp only[Option.some.injEq,Prod.mk.injEq]at h;obtain⟨rfl,rfl⟩:=h;rw[hp]at hx;rw[hq]at hz;have hx:=bf hx;have hz:=bf hz;refine Does.val (v:=v) (w':=w) (uT ho hb ?_) (Out.pure R (bM _ _));rw[nL has];simp[builtin,Builtin.min_,hx,hz,su hv]
       · simp at h
     · simp at h
   · rename_i x z has;have hx:=H x;have hz:=H z;unfold BZ at h;split at h
     · rename_i p q hp hq;split at h
       · rename_i v hv;simp only[Option.some.injEq,Prod.mk.injEq]at h;obtain⟨rfl,rfl⟩:=h;rw[hp]at hx;rw[hq]at hz;have hx:=bf hx;have hz:=bf hz;refine Does.val (v:=v) (w':=w) (uT ho hb ?_) (Out.pure R (bM _ _));rw[nL has];simp[builtin,Builtin.max_,hx,hz,su hv]
       · simp at h
     · simp at h
   · simp at h
 · simp at h
end Go.Proofs.YtadecgbblajifaaGreatDoor.DV
namespace Go.Proofs.YtadecgbblajifaaGreatDoor
end Go.Proofs.YtadecgbblajifaaGreatDoor
namespace Go.Proofs.YtadecgbblajifaaGreatDoor.DV
open Go
noncomputable section
section
variable {α β:Type}
def iU (l:List α):(List α->β)->β:=List.rec (motive:=λ_=>(List α->β)->β) (λk=>k []) (λv _ ih k=>ih λl=>k (v :: l)) l
theorem qz:∀ (l:List α) (k:List α->β),iU l k=k l
 | [],_=>rfl
 |v :: l,k=>qz l λl=>k (v :: l)
def fL (f:α->(α->β)->β) (l:List α):(List α->β)->β:=List.rec (motive:=λ_=>(List α->β)->β) (λk=>k []) (λv _ ih k=>f v λv=>ih λl=>k (v :: l)) l
theorem zX {f:α->(α->β)->β} (h:∀ a k,f a k=k a):∀ (l:List α) (k:List α->β),fL f l k=k l
 | [],_=>rfl
 |v :: l,k=>(h v _).trans (zX h l λl=>k (v :: l))
def fI (i:Int) (k:Int->β):β:=Int.rec (λn=>fN n λn=>k (.ofNat n)) (λn=>fN n λn=>k (.negSucc n)) i
theorem X8 (i:Int) (k:Int->β):fI i k=k i:=by cases i <;> simp only[fI,mI]
def fB (b:Bool) (k:Bool->β):β:=Bool.rec (k false) (k true) b
theorem EY (b:Bool) (k:Bool->β):fB b k=k b:=by cases b <;> rfl
def Rl (b:UInt8) (k:UInt8->β):β:=fN b.toNat λn=>k (UInt8.ofNat n)
theorem WT (b:UInt8) (k:UInt8->β):Rl b k=k b:=(mI _ _).trans (by simp)
def fK (b:IntKind) (k:IntKind->β):β:=match b with
 |.i64=>k .i64
 |.u8=>k .u8
 |.u64=>k .u64
 |b=>k b
theorem X9 (b:IntKind) (k:IntKind->β):fK b k=k b:=by cases b <;> rfl
def fV:Value->(Value->β)->β
 |.bool b,k=>fB b λb=>k (.bool b)
 |.int t i,k=>fK t λt=>fI i λi=>k (.int t i)
 |.string ⟨⟨l⟩⟩,k=>fL Rl l λl=>k (.string ⟨⟨l⟩⟩)
 |v,k=>k v
theorem MZ (v:Value) (k:Value->β):fV v k=k v:=by
 unfold fV;split
 · exact EY _ _
 · rw[X9,X8]
 · exact zX WT _ _
 · rfl
def Ha (p:Nat × Nat) (k:Nat × Nat->β):β:=fN p.1 λa=>fN p.2 λb=>k (a,b)
theorem WU (p:Nat × Nat) (k:Nat × Nat->β):Ha p k=k p:=by simp[Ha,mI]
def fD:D->(D->β)->β
 |.lf v,k=>fV v λv=>k (.lf v)
 |.ref i p,k=>fN i λi=>fL Ha p λp=>k (.ref i p)
 |.own t i o n,k=>fB t λt=>fN i λi=>fN o λo=>fN n λn=>k (.own t i o n)
 |.sl t s xs,k=>fB t λt=>iU xs λxs=>k (.sl t s xs)
 |.st s xs,k=>iU xs λxs=>k (.st s xs)
 |.ar s xs,k=>iU xs λxs=>k (.ar s xs)
 |.fn f a b,k=>iU a λa=>iU b λb=>k (.fn f a b)
 |.tu a,k=>iU a λa=>k (.tu a)
 |.mo es c,k=>iU es λes=>fN c λc=>k (.mo es c)
 |d,k=>k d
theorem qH (d:D) (k:D->β):fD d k=k d:=by
 unfold fD;split <;> simp only[MZ,mI,zX WU,EY,qz]
def Hd:D->(D->β)->β
 |.sl t s xs,k=>fB t λt=>fL fD xs λxs=>k (.sl t s xs)
 |.st s xs,k=>fL fD xs λxs=>k (.st s xs)
 |.ar s xs,k=>fL fD xs λxs=>k (.ar s xs)
 |.tu s,k=>fL fD s λxs=>k (.tu xs)
 |d,k=>fD d k
theorem WV (d:D) (k:D->β):Hd d k=k d:=by
 unfold Hd;split <;> simp only[EY,zX qH,qH]
end
structure S where
 tm:Tr D
 s:Tr D
 nx:Nat
 n:Nat
 ms:List Nat
 lg:List Nat
 rd:Bool
inductive Ex where
 |normal|ret|exit (i:Nat)|val (d:D)
inductive bg where
 |code (c:Code)
 |ops (all:Array Oper) (l:List Oper)
 |call (f:Nat) (args:List D)
abbrev R:=Option (Ex × S)
def ax (t:Tr D):ak:=λi=>aN t i
def bF (t:Tr D) (k:Nat):D:=match aN t k with
 |some d=>d
 |none => .bL
def il (gl:Nat->D) (t:Tr D):Operand->D
 |.tmp k=>bF t k
 |.const v => .lf v
 |.global g=>gl g
 |.func f => .fn (.func f) [] []
def jX:Eff->Tr D->Tr D
 | [],t=>t
 |(i,d) :: e,t=>bu (jX e t) i d
def jY:Eff->List Nat->List Nat
 | [],l=>l
 |(i,_) :: e,l=>i :: jY e l
theorem jL:∀ (e:Eff) (t:Tr D),ax (jX e t)=app e (ax t)
 | [],t=>rfl
 |(i,d) :: e,t=>by
  funext k;have ih:=congrFun (jL e t) k;simp only[ax,jX,iY]at ih ⊢;by_cases h:k=i
  · subst h;rw[if_pos rfl];simp[app,aH]
  · rw[if_neg h,ih];simp only[app];rw[gm _ _ h]
section
variable {β:Type}
def OH (i:Nat) (d:Option D) (t:Tr D) (l:List Nat) (K:Tr D->List Nat->β):β:=match d with
 |some d=>fN i λi=>Hd d λd=>dK t i (some d) λt=>K t (i :: l)
 |none=>fN i λi=>dK t i none λt=>K t (i :: l)
def tV:Eff->Tr D->List Nat->(Tr D->List Nat->β)->β
 | [],t,l,K=>K t l
 |(i,d) :: e,t,l,K=>tV e t l λt l=>OH i d t l K
theorem zn:∀ (e:Eff) (t:Tr D) (l:List Nat) (K:Tr D->List Nat->β),tV e t l K=K (jX e t) (jY e l)
 | [],_,_,_=>rfl
 |(i,d) :: e,t,l,K=>by
  rw[tV,zn e];cases d <;> simp only[OH,mI,WV,gp,jX,jY]
end
def oO {β:Type} (n:Nat) (t:Tr D) (d:Option Nat) (v:D) (K:Tr D->β):β:=match d with
 |some d=>match Nat.blt d n with
  |true=>dK t d (some v) K
  |false=>K t
 |none=>K t
def fJ (n:Nat) (t:Tr D) (d:Option Nat) (v:D):Tr D:=match d with
 |some d=>match Nat.blt d n with
  |true=>bu t d (some v)
  |false=>t
 |none=>t
theorem sw {β:Type} (n:Nat) (t:Tr D) (d:Option Nat) (v:D) (K:Tr D->β):oO n t d v K=K (fJ n t d v):=by
 unfold oO fJ;cases d with
 |none=>rfl
 |some d =>
  cases h:Nat.blt d n <;> simp only[h,gp]
def fill (t:Tr D):Nat->List D->Tr D
 |_,[]=>t
 |k,v :: l=>fill (bu t k (some v)) (k+1) l
def wm {β:Type} (t:Tr D):Nat->List D->(Tr D->β)->β
 |_,[],K=>K t
 |k,v :: l,K=>dK t k (some v) λt=>wm t (k+1) l K
theorem De {β:Type} : ∀ (l:List D) (t:Tr D) (k:Nat) (K:Tr D->β),wm t k l K=K (fill t k l)
 | [],_,_,_=>rfl
 |v :: l,t,k,K=>by rw[wm,gp,De l];rfl
def mV {α:Type} : List α->Nat->Option α
 | [],_=>none
 |a :: l,k=>match k with
  |0=>some a
  |k+1=>mV l k
theorem qp {α:Type} : ∀ (l:List α) (k:Nat),mV l k=l[k]?
 | [],_=>by simp[mV]
 |a :: l,0=>rfl
 |a :: l,k+1=>by simpa[mV]using qp l k
def yl (all:Array Oper) (t:Tr D) (j:Nat):Option (Option Bool):=match mV all.toList j with
 |some o=>match o.dst with
  |some d=>match bF t d with
   |.lf (.bool b)=>some (some b)
   |.tu _=>some none
   |_=>none
  |none=>none
 |none=>none
def want (all:Array Oper) (t:Tr D) (o:Oper):Option Bool:=match o.guard with
 |none=>some true
 |some (j,b)=>match yl all t j with
  |some (some c)=>some (c == b)
  |some none=>some false
  |none=>none
def eQ (t:Tr D):Nat->Nat->List D
 |_,0=>[]
 |i,n+1=>bF t i :: eQ t (i+1) n
structure Cx where
 T:bB
 gl:Nat->D
 F:Nat->Option Func
 X:Nat->Bool
 O:Nat->List D->Option D
 K:Nat->List D->D->Prop
section
variable (C:Cx) (ih:bg->S->R)
def oP (b:Code):R->R
 |some (.normal,s)=>ih (.code b) s
 |r=>r
def Na (a b:Code) (s:S):D->R
 |.lf (.bool true)=>ih (.code a) s
 |.lf (.bool false)=>ih (.code b) s
 |_=>none
def vS (i:Nat):R->R
 |some (.exit j,s)=>match Nat.beq j i with
  |true=>some (.normal,s)
  |false=>some (.exit j,s)
 |r=>r
def Ga (t:Tr D) (n l:Nat) (mk:List Nat):R->R
 |some (.val _,⟨_,st,nx,_,_,lg,_⟩)=>match aN st l with
  |some (.lo _ _ _ _)=>dK st l none λst=>some (.normal,⟨t,st,nx,n,mk,l :: lg,false⟩)
  |some (.fZ c)=>dK st l none λst=>ih (.code c) ⟨t,st,nx,n,mk,l :: lg,false⟩
  |_=>none
 |_=>none
def zY (f:Nat):Bool:=match C.F f with
 |some fn=>fn.body.isSome
 |none=>false
def D6 (ps:Array Nat) (az bd:Code):S->D->R
 |⟨t,st,nx,n,mk,lg,false⟩,.fn (.func f) [] b=>match zY C f with
  |true=>fN (Nat.succ nx) λl=>fN (Nat.succ l) λnx'=>iU (eQ t 0 n) λtl=>dK st nx (some .df) λst=>dK st l (some (.lo tl ps.toList az bd)) λst =>
   Ga ih t n l (nx :: mk) (ih (.call f (.yd l :: b)) ⟨.e,st,nx',0,[],l :: nx :: lg,false⟩)
  |false=>none
 |_,_=>none
def nX (all:Array Oper) (l:List Oper) (d:Option Nat) (t:Tr D) (n:Nat) (mk:List Nat) (rd:Bool):R->R
 |some (.val v,⟨_,st,nx,_,_,lg,_⟩)=>oO n t d v λt=>ih (.ops all l) ⟨t,st,nx,n,mk,lg,rd⟩
 |_=>none
def Nb (all:Array Oper) (l:List Oper) (dst:Option Nat) (s:S):Re->R
 |some (d,e)=>match s with
  |⟨t,st,nx,n,mk,lg,rd⟩=>fD d λd=>tV e st lg λst lg=>oO n t dst d λt=>fN (Nat.succ nx) λnx=>ih (.ops all l) ⟨t,st,nx,n,mk,lg,rd⟩
 |none=>none
def qW {β:Type} (t:Tr D) (n:Nat):List Nat->List D->(Tr D->β)->Option β
 | [],[],K=>some (K t)
 |p :: ps,d :: ds,K=>match Nat.blt p n with
  |true=>dK t p (some d) λt=>qW t n ps ds K
  |false=>none
 |_,_,_=>none
def sD (i:Nat) (bd:Code):R->R
 |some (.normal,⟨t,st,nx,n,ms,lg,rd⟩)=>match aN st i with
  |some (.lo tl ps az b)=>dK st i (some (.lb tl ps az b)) λst=>ih (.code bd) ⟨t,st,nx,n,ms,i :: lg,rd⟩
  |_=>none
 |_=>none
def kL (i:Nat):R->R
 |some (ex,⟨_,st,nx,_,_,lg,_⟩)=>match aN st i with
  |some (.lb tl ps az bd)=>match ex with
   |.normal=>dK st i (some (.lo tl ps az bd)) λst=>some (.val (.lf (.bool true)),⟨.e,st,nx,0,[],i :: lg,false⟩)
   |.ret=>dK st i (some (.fZ .ret)) λst=>some (.val (.lf (.bool false)),⟨.e,st,nx,0,[],i :: lg,false⟩)
   |.exit j=>dK st i (some (.fZ (.exit j))) λst=>some (.val (.lf (.bool false)),⟨.e,st,nx,0,[],i :: lg,false⟩)
   |.val _=>none
  |_=>none
 |none=>none
end
end
end Go.Proofs.YtadecgbblajifaaGreatDoor.DV
namespace Go.Proofs.YtadecgbblajifaaGreatDoor
end Go.Proofs.YtadecgbblajifaaGreatDoor
namespace Go.Proofs.YtadecgbblajifaaGreatDoor.DV
open Go
noncomputable section
section
variable (C:Cx) (ih:bg->S->R)
def vT (args:List D) (i:Nat) (st:Tr D) (nx:Nat) (lg:List Nat):R:=match aN st i with
 |some (.lo tl ps az bd)=>iU args λargs=>match wm .e 0 tl λt0=>qW t0 tl.length ps args λt'=>kL i (sD ih i bd (ih (.code az) ⟨t',st,nx,tl.length,[],lg,true⟩))with
  |some r=>r
  |none=>none
 |_=>none
def D7 (all:Array Oper) (l:List Oper) (dst:Option Nat) (args:List D) (i:Nat):S->R
 |⟨t,st,nx,n,ms,lg,rd⟩=>nX ih all l dst t n ms rd (vT ih args i st nx lg)
def D8 (all:Array Oper) (l:List Oper) (dst:Option Nat) (f:Nat) (az:List D):S->R
 |⟨t,st,nx,n,ms,lg,rd⟩=>iU az λaz=>nX ih all l dst t n ms rd (ih (.call f az) ⟨.e,st,nx,0,[],lg,false⟩)
def Nc (all:Array Oper) (l:List Oper) (dst:Option Nat) (args:List D) (s:S):D->R
 |.fn (.func f) a b=>D8 ih all l dst f (a ++ args ++ b) s
 |.yd i=>D7 ih all l dst args i s
 |_=>none
def zB (all:Array Oper) (l:List Oper) (dst:Option Nat) (s:S) (o:Op):R:=Nb ih all l dst s (rR C.T (ax s.s) s.nx (il C.gl s.tm) o)
def OI (all:Array Oper) (l:List Oper) (dst:Option Nat) (s:S) (c:Call):Callee->R
 |.value f=>Nc ih all l dst (dmap (il C.gl s.tm) c.args.toList) s (il C.gl s.tm f)
 |_=>zB C ih all l dst s (.call c)
def Rm (all:Array Oper) (l:List Oper) (dst:Option Nat) (s:S):Op->R
 |.call c=>OI C ih all l dst s c c.callee
 |o=>zB C ih all l dst s o
def EZ (all:Array Oper) (l:List Oper) (dst:Option Nat):S->R
 |⟨t,st,nx,n,ms,lg,rd⟩=>oO n t dst (.tu []) λt=>ih (.ops all l) ⟨t,st,nx,n,ms,lg,rd⟩
def Bc (all:Array Oper) (s:S):List Oper->R
 | []=>some (.normal,s)
 |o :: l=>match want all s.tm o with
  |some true=>Rm C ih all l o.dst s o.op
  |some false=>EZ ih all l o.dst s
  |none=>none
def oQ (T:bB) (σ t:Tr D):List ResultVar->Option (List D)
 | []=>some []
 |.tmp k :: l=>match oQ T σ t l with
  |some r=>some (bF t k :: r)
  |none=>none
 |.cell a ty :: l=>match T ty with
  |some y=>match vQ y (ax σ) (bF t a),oQ T σ t l with
   |some d,some r=>some (d :: r)
   |_,_=>none
  |none=>none
def Gb:List D->D
 | [d]=>d
 |ds => .tu ds
def wu:List Nat->S->Option S
 | [],s=>some s
 |j :: l,⟨t,st,nx,n,ms,lg,rd⟩=>match aN st j with
  |some .df=>dK st j none λst=>wu l ⟨t,st,nx,n,ms,j :: lg,rd⟩
  |_=>none
def wy (fn:Func) (s:S):R:=match wu s.ms s with
 |some ⟨t,st,nx,_,_,lg,_⟩=>match oQ C.T st t fn.results.toList with
  |some ds=>fD (Gb ds) λd=>some (.val d,⟨.e,st,nx,0,[],lg,false⟩)
  |none=>none
 |none=>none
def tX (fn:Func):R->R
 |some (.normal,s')=>wy C fn s'
 |some (.ret,s')=>wy C fn s'
 |_=>none
def OJ (s:S):List D->R
 | [.lf (.string b),.lf (.int .u8 c)]=>match qR (Extern.BytealgIndexByte.indexByte #[.string b,.int .u8 c])with
  |some v=>fV v λv=>some (.val (.lf v),⟨.e,s.s,s.nx,0,[],s.lg,false⟩)
  |none=>none
 |_=>none
def zZ (f:Nat) (args:List D) (s:S) (fn:Func):R:=match fn.body with
 |some c=>match Nat.ble args.length fn.ntmps with
  |true=>wm .e 0 args λt=>tX C fn (ih (.code c) ⟨t,s.s,s.nx,fn.ntmps,[],s.lg,false⟩)
  |false=>none
 |none=>match C.X f with
  |true=>OJ s args
  |false=>none
variable (dr:(bg->S->R)->Array Oper->S->R)
def E5 (s:S):Code->R
 |.skip=>some (.normal,s)
 |.label _=>some (.normal,s)
 |.region _ ops false=>ih (.ops ops ops.toList) s
 |.region _ ops true=>dr ih ops s
 |.seq a b=>oP ih b (ih (.code a) s)
 |.cond c a b=>Na ih a b s (il C.gl s.tm c)
 |.block i b=>vS i (ih (.code b) s)
 |.loop b=>oP ih (.loop b) (ih (.code b) s)
 |.exit i=>some (.exit i,s)
 |.ret=>some (.ret,s)
 |.rangeFunc g ps az bd=>D6 C ih ps az bd s (il C.gl s.tm g)
 |_=>none
def step (s:S):bg->R
 |.code c=>E5 C ih dr s c
 |.ops all l=>Bc C ih all s l
 |.call f args=>match C.O f args with
  |some d=>some (.val d,⟨.e,s.s,s.nx,0,[],s.lg,false⟩)
  |none=>match C.F f with
   |some fn=>zZ C ih f args s fn
   |none=>none
def ev (n:Nat):bg->S->R:=Nat.rec (λ_ _=>none) (λ_ ih tk s=>step C ih dr s tk) n
theorem vF (n:Nat) (tk:bg) (s:S):ev C dr (n+1) tk s=step C (ev C dr n) dr s tk:=rfl
end
def MK (g:G):List Nat->List Deferred->Prop
 | [],ds=>ds=[]
 |j :: l,ds=>∃ loc d ds',ds=d :: ds'/\g.ah j=some loc/\d.target = .collected loc.b/\MK g l ds'
theorem MK.mono {g h:G} (le:Le g h):∀ (l:List Nat) (ds:List Deferred),MK g l ds->MK h l ds
 | [],_,H=>H
 |_ :: l,_,⟨loc,d,ds',h1,h2,h3,h4⟩=>⟨loc,d,ds',h1,le.ah _ _ h2,h3,MK.mono le l ds' h4⟩
structure St (C:Cx) (s:S) (g:G) (a:Act) (w:World):Prop where
 rel:Rel g (ax s.s) w
 tm:∀ t,VR g (bF s.tm t) (a.tmps.getD t undef)
 size:a.tmps.size=s.n
 fresh:∀ i,s.nx<=i->g.ah i=none
 gl:∀ i,VR g (C.gl i) (.pointer (some ⟨i,0,none⟩))
 ms:MK g s.ms a.defers
structure Ch (s s':S):Prop where
 nx:s.nx<=s'.nx
 lg:∀ i∈s.lg,i∈s'.lg
 same:∀ i,i ∉ s'.lg->aN s'.s i=aN s.s i
theorem Ch.refl (s:S):Ch s s:=⟨Nat.le_refl _,λ_ h=>h,λ_ _=>rfl⟩
theorem Ch.trans {a b c:S} (h:Ch a b) (k:Ch b c):Ch a c:=⟨Nat.le_trans h.nx k.nx,λi hi=>k.lg i (h.lg i hi),λi hi=>(k.same i hi).trans (h.same i λh'=>hi (k.lg i h'))⟩
abbrev Nw (s:S):Nat->Prop:=λi=>s.nx<=i
theorem St.get {C:Cx} {s:S} {g:G} {a:Act} {w:World} (h:St C s g a w) (x:Operand):VR g (il C.gl s.tm x) (a.eval x):=by
 cases x with
 |tmp t=>exact h.tm t
 |const v=>exact bM _ _
 |global i=>exact h.gl i
 |func f =>
  simp only[il,VR,CR,Act.eval];exact⟨[],[],rfl,by simp[ay],by simp[ay]⟩
theorem VR.mono {g h:G} (le:Le g h) {d:D} {v:Value} (H:VR g d v):VR h d v:=CR.mono le _ _ _ H
theorem vG {g:G} {t:Tr D} {a:Act} {n:Nat} {dst:Option Nat} {d:D} {v:Value} (hs:a.tmps.size=n) (H:∀ k,VR g (bF t k) (a.tmps.getD k undef)) (hd:VR g d v):∀ k,VR g (bF (fJ n t dst d) k) ((a.put dst v).tmps.getD k undef):=by
 intro k;cases dst with
 |none=>exact H k
 |some j =>
  simp only[fJ,Act.put];by_cases hj:j<n
  · have h1:Nat.blt j n=true:=Nat.ble_eq_true_of_le hj;simp only[h1,bF,iY];by_cases hk:k=j
    · subst hk;have:(a.tmps.setIfInBounds k v).getD k undef=v:=by
       simp[Array.getD,hs,hj]
      rw[if_pos rfl,this];exact hd
    · have:(a.tmps.setIfInBounds j v).getD k undef=a.tmps.getD k undef:=by
       simp only[Array.getD_eq_getD_getElem?,Array.getElem?_setIfInBounds,if_neg (Ne.symm hk)]
      rw[if_neg hk,this];exact H k
  · have h1:Nat.blt j n=false:=by
     cases hb:Nat.blt j n with
     |false=>rfl
     |true=>exact absurd (Nat.le_of_ble_eq_true hb) hj
    have:a.tmps.setIfInBounds j v=a.tmps:=by
     apply Array.ext_getElem?;intro i;rw[Array.getElem?_setIfInBounds];split
     · rename_i h;subst h;split
       · omega
       · rename_i h2;rw[Array.getElem?_eq_none (by omega)]
     · rfl
    simp only[h1,this];exact H k
end
end Go.Proofs.YtadecgbblajifaaGreatDoor.DV
namespace Go.Proofs.YtadecgbblajifaaGreatDoor
end Go.Proofs.YtadecgbblajifaaGreatDoor
