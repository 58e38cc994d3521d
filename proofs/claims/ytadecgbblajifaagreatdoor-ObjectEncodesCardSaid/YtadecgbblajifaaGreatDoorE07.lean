import Derived.Test.YtadecgbblajifaaGreatDoorE06
import Derived.RangeFuncNested
import Derived.RangeFuncLeaves
set_option linter.unusedSimpArgs false
set_option linter.unusedVariables false
set_option maxRecDepth 100000
set_option maxHeartbeats 25600000
namespace Go.Proofs.YtadecgbblajifaaGreatDoor
end Go.Proofs.YtadecgbblajifaaGreatDoor
namespace Go.Proofs.YtadecgbblajifaaGreatDoor.DV
open Go
abbrev Re:=Option (D × Eff)
def iG:Option D->Re
 |some d=>some (d,[])
 |none=>none
def QP (T:dA) (n t:Nat):Re:=match T t with
 |some y=>I6 y n
 |none=>none
def QQ (T:dA) (t:Nat) (l:List (Nat × D)):Re:=match T t with
 |some y=>iG (Jb y l)
 |none=>none
def Uw (T:dA) (n t len:Nat) (l:List (Nat × D)):Re:=match T t with
 |some y=>match T (gY y.k)with
  |some ye=>KI y ye len n l
  |none=>none
 |none=>none
def RP (T:dA) (σ:au) (t:Nat) (x:D):Re:=match T t with
 |some y=>iG (vL y σ x)
 |none=>none
def QR (T:dA) (σ:au) (t:Nat) (x v:D):Re:=match T t with
 |some y=>match I7 y σ x v with
  |some e=>some (.bZ,e)
  |none=>none
 |none=>none
def RQ (c a b:D):Re:=match c with
 |.lf (.bool true)=>some (a,[])
 |.lf (.bool false)=>some (b,[])
 |_=>none
def Tf (T:dA) (op:BinOp) (t:Nat) (z:Operand) (a b:D):Re:=match T t with
 |some y=>iG (JY y op z a b)
 |none=>none
def Jp (T:dA) (σ:au) (n:Nat) (ys yt:Ty) (x:D):Tk->Tk->Re
 |.sl _ _,.str=>match T (gY yt.k)with
  |some ye=>J2 yt ye n x
  |none=>none
 |.str,.sl _ _=>match T (gY ys.k),yO x with
  |some ye,true=>match wz ye.k with
   |true=>iG (Et ys yt σ x)
   |false=>none
  |_,_=>none
 |_,_=>iG (Jl ys yt x)
def J3 (T:dA) (σ:au) (n s t:Nat) (x:D):Re:=match T s,T t with
 |some ys,some yt=>Jp T σ n ys yt x yt.k ys.k
 |_,_=>none
def Ux (T:dA) (t:Nat) (x:D):Re:=match T t with
 |some y=>iG (KH y t x)
 |none=>none
def Uy (T:dA) (n t:Nat) (l c:D):Re:=match T t with
 |some y=>match T (gY y.k)with
  |some ye=>KJ y ye n l c
  |none=>none
 |none=>none
def cO (T:dA) (σ:au) (t:Nat) (x:D) (l h m:Option D):Re:=match T t with
 |some y=>iG (Ja y σ x l h m)
 |none=>none
def Uz (T:dA) (t:Nat) (x:D) (f:Nat):Re:=match T t with
 |some y=>iG (KF y f x)
 |none=>none
def UA (T:dA) (t:Nat) (x:D) (f:Nat):Re:=match T t with
 |some y=>iG (I9 y f x)
 |none=>none
def FV (T:dA) (σ:au) (t:Nat) (x i:D):Re:=match T t with
 |some y=>iG (Bv y σ x i)
 |none=>none
def UB (T:dA) (t:Nat) (x i:D):Re:=match T t with
 |some y=>match JS y x i with
  |some d=>some (d,[])
  |none=>match T (gY y.k)with
   |some ye=>iG (Jk y ye x i)
   |none=>none
 |none=>none
def FX (T:dA) (σ:au) (t:Nat) (m k v:D):Re:=match T t with
 |some y=>match T (yQ y.k)with
  |some yk=>match KL y yk σ m k v with
   |some e=>some (.bZ,e)
   |none=>none
  |none=>none
 |none=>none
def UC (T:dA) (σ:au) (t:Nat) (m k:D) (ok:Bool):Re:=match T t with
 |some y=>match T (yQ y.k),T (KN y.k)with
  |some yk,some ye=>iG (KM y yk ye σ m k ok)
  |_,_=>none
 |none=>none
def Tg (T:dA) (t:Nat) (x:D):Re:=match T t with
 |some y=>iG (JW y x)
 |none=>none
def Bz (T:dA) (σ:au) (n t t2:Nat) (x z:D):Re:=match T t,T t2 with
 |some y,some y2=>match nM y2,T (gY y.k)with
  |true,some ye=>xQ y ye σ n x z
  |_,_=>none
 |_,_=>none
def FY (f:Value->Value->Sem Value):D->D->Re
 |.lf a,.lf b=>match wm (f a b)with
  |some v=>some (.lf v,[])
  |none=>none
 |_,_=>none
def UD (T:dA) (σ:au) (t:Nat) (x z:D):Re:=match T t with
 |some y=>Jn y σ x z
 |none=>none
def BA (T:dA) (σ:au) (n:Nat) (get:Operand->D) (b:Builtin) (ts:List Nat) (az:List Operand):Re:=match b,ts,az with
 |.len,[t],[x]=>Tg T t (get x)
 |.append,[t,t2],[x,z]=>Bz T σ n t t2 (get x) (get z)
 |.copy,[t,_],[x,z]=>UD T σ t (get x) (get z)
 |.min,_,[x,z]=>FY Builtin.min2 (get x) (get z)
 |.max,_,[x,z]=>FY Builtin.max2 (get x) (get z)
 |_,_,_=>none
def Ba (T:dA) (σ:au) (n:Nat) (get:Operand->D) (c:Call):Re:=match c.callee with
 |.builtin b=>BA T σ n get b c.argTypes.toList c.args.toList
 |_=>none
def wC (get:Operand->D) (l:List (Nat × Operand)):List (Nat × D):=l.map λp=>(p.1,get p.2)
def fH (T:dA) (σ:au) (n:Nat) (get:Operand->D) (o:Op):Re:=match o with
 |.move x=>some (get x,[])
 |.assign x=>some (get x,[])
 |.pick c a b=>RQ (get c) (get a) (get b)
 |.alloc t=>QP T n t
 |.box _ x=>JR n (get x)
 |.build t parts=>QQ T t (wC get parts.toList)
 |.buildSlice t len parts=>Uw T n t len (wC get parts.toList)
 |.load t x=>RP T σ t (get x)
 |.store t x v=>QR T σ t (get x) (get v)
 |.nilCheck x=>iG (JV (get x))
 |.binOp op t x z _=>Tf T op t z (get x) (get z)
 |.unOp op _ x=>iG (KG op (get x))
 |.convert s t x=>J3 T σ n s t (get x)
 |.makeInterface t x=>Ux T t (get x)
 |.makeFunc f a b=>some (.fn f (dmap get a.toList) (dmap get b.toList),[])
 |.makeMap _ none=>some (.mp n,[(n,some (.mo [] 0))])
 |.makeSlice t l c=>Uy T n t (get l) (get c)
 |.slice t x lo hi mx=>cO T σ t (get x) (lo.map get) (hi.map get) (mx.map get)
 |.fieldAddr t x f=>Uz T t (get x) f
 |.field t x f=>UA T t (get x) f
 |.indexAddr t x i=>FV T σ t (get x) (get i)
 |.index t x i=>UB T t (get x) (get i)
 |.lookup t m k ok=>UC T σ t (get m) (get k) ok
 |.mapUpdate t m k v=>FX T σ t (get m) (get k) (get v)
 |.insert t m k v=>FX T σ t (get m) (get k) (get v)
 |.extract x k=>iG (JU (get x) k)
 |.call c=>Ba T σ n get c
 |_=>none
variable {P:Program} {T:dA}
theorem jR {o:Option D} {d:D} {e:Eff} (h:iG o=some (d,e)):o=some d/\e=[]:=by
 cases o <;> simp[iG]at h
 exact⟨by rw[h.1],h.2⟩
theorem Ab {o:Oper} {a:Act} {c:Call} {b:Builtin} {w w':World} {v:Value} (ho:o.op = .call c) (hb:c.callee = .builtin b)
 (hf:(builtin b c.argTypes o.type (c.args.map fun | .const _=>true|_=>false) (c.args.map a.eval)).run P w = .ok (.value v) w'):(execOp a.eval o).run P w = .ok (.value v) w':=by
 simp only[execOp,ho,resolve,hb,Sem.run_bind,Sem.run_pure,Result.andThen_ok,invoke]
 exact hf
theorem sH {α:Type} {x:Array α} {l:List α} (h:x.toList=l):x=⟨l⟩:=by cases x;simp at h;rw[h]
theorem Jq (hT:cZ P T) {g:G} {σ:au} {w:World} {a:Act} {o:Oper} {n:Nat} {get:Operand->D} {d:D} {e:Eff} (h:fH T σ n get o.op=some (d,e)) (R:Rel g σ w) (hn:g.ae n=none) (H:∀ x,VR g (get x) (a.eval x)) :
 Does P o a w (Out g σ w (· = n) d e):=by
 generalize ho:o.op=op at h
 unfold fH at h
 split at h
 · simp only[Option.some.injEq,Prod.mk.injEq]at h
   obtain⟨rfl,rfl⟩:=h
   exact Does.val (w':=w) (by simp[execOp,ho]) (Out.pure R (H _))
 · simp only[Option.some.injEq,Prod.mk.injEq]at h
   obtain⟨rfl,rfl⟩:=h
   exact Does.val (w':=w) (by simp[execOp,ho]) (Out.pure R (H _))
 · rename_i c x z
   have hc:=H c
   unfold RQ at h
   split at h <;> simp only[Option.some.injEq,Prod.mk.injEq,reduceCtorEq]at h <;> obtain⟨rfl,rfl⟩:=h <;> rename_i hq <;> rw[hq]at hc <;> have hc:=dh hc
   · exact Does.val (v:=a.eval x) (w':=w) (by simp[execOp,ho,hc,asBool]) (Out.pure R (H _))
   · exact Does.val (v:=a.eval z) (w':=w) (by simp[execOp,ho,hc,asBool]) (Out.pure R (H _))
 · unfold QP at h
   split at h
   · rename_i y hy;exact X4 (hT _ _ hy) ho h R hn
   · simp at h
 · exact Zq ho h R hn (H _)
 · unfold QQ at h
   split at h
   · rename_i y hy
     obtain⟨hp,rfl⟩:=jR h
     exact X8 (hT _ _ hy) ho hp R H
   · simp at h
 · unfold Uw at h
   split at h
   · rename_i y hy
     split at h
     · rename_i ye hye;exact _V (hT _ _ hy) (hT _ _ hye) ho h R hn H
     · simp at h
   · simp at h
 · unfold RP at h
   split at h
   · rename_i y hy
     obtain⟨hp,rfl⟩:=jR h
     exact YG (hT _ _ hy) ho hp R (H _)
   · simp at h
 · unfold QR at h
   split at h
   · rename_i y hy
     split at h
     · rename_i e' he
       simp only[Option.some.injEq,Prod.mk.injEq]at h
       obtain⟨rfl,rfl⟩:=h
       exact X5 (hT _ _ hy) ho he R (H _) (H _)
     · simp at h
   · simp at h
 · obtain⟨hp,rfl⟩:=jR h
   exact Zu ho hp R (H _)
 · unfold Tf at h
   split at h
   · rename_i y hy
     obtain⟨hp,rfl⟩:=jR h
     exact Zw (hT _ _ hy) ho hp R (H _) (H _)
   · simp at h
 · obtain⟨hp,rfl⟩:=jR h
   exact _R ho hp R (H _)
 · rename_i _ _ x0
   unfold J3 at h
   split at h
   · rename_i ys yt hys xe
     unfold Jp at h
     split at h
     · rename_i _ _ hk1 hk2
       split at h
       · rename_i ye hye;exact Zz (hT _ _ hys) (hT _ _ xe) (hT _ _ hye) hk2 ho h R hn (H _)
       · simp at h
     · rename_i _ _ hk1 hk2
       split at h
       · rename_i ye hye hsl
         split at h
         · rename_i wY
           obtain⟨hp,rfl⟩:=jR h
           refine Zy (hT _ _ hys) (hT _ _ xe) (hT _ _ hye) wY ho hp R (H _) ?_
           have hx:=H x0
           unfold yO at hsl
           split at hsl <;> rename_i hq <;> (try (simp at hsl;done)) <;> rw[hq]at hx
           · simp only[VR,CR,List.cons.injEq,and_true]at hx
             obtain⟨l,ad,c,_,hx,_⟩:=hx
             exact⟨_,_,_,hx⟩
           · simp only[VR,CR,List.cons.injEq,and_true]at hx
             obtain⟨ad,c,hx,_⟩:=hx
             exact⟨_,_,_,hx⟩
           · simp only[VR,CR,List.cons.injEq,and_true]at hx
             obtain⟨ad,hx⟩:=hx
             exact⟨_,_,_,hx⟩
           · exact⟨_,_,_,dh hx⟩
         · simp at h
       · simp at h
     · obtain⟨hp,rfl⟩:=jR h
       exact YL (hT _ _ hys) (hT _ _ xe) ho hp R (H _)
   · simp at h
 · unfold Ux at h
   split at h
   · rename_i y hy
     obtain⟨hp,rfl⟩:=jR h
     exact _T (hT _ _ hy) ho hp R (H _)
   · simp at h
 · simp only[Option.some.injEq,Prod.mk.injEq]at h
   obtain⟨rfl,rfl⟩:=h
   exact _U ho R H
 · simp only[Option.some.injEq,Prod.mk.injEq]at h
   obtain⟨rfl,rfl⟩:=h
   exact _0 ho R hn
 · unfold Uy at h
   split at h
   · rename_i y hy
     split at h
     · rename_i ye hye;exact _X (hT _ _ hy) (hT _ _ hye) ho h R hn (H _) (H _)
     · simp at h
   · simp at h
 · unfold cO at h
   split at h
   · rename_i y hy
     obtain⟨hp,rfl⟩:=jR h
     exact X7 (hT _ _ hy) ho hp R H
   · simp at h
 · unfold Uz at h
   split at h
   · rename_i y hy
     obtain⟨hp,rfl⟩:=jR h
     exact _J (hT _ _ hy) ho hp R (H _)
   · simp at h
 · unfold UA at h
   split at h
   · rename_i y hy
     obtain⟨hp,rfl⟩:=jR h
     exact X6 (hT _ _ hy) ho hp R (H _)
   · simp at h
 · unfold FV at h
   split at h
   · rename_i y hy
     obtain⟨hp,rfl⟩:=jR h
     exact _O (hT _ _ hy) ho hp R (H _) (H _)
   · simp at h
 · unfold UB at h
   split at h
   · rename_i y hy
     split at h
     · rename_i d' hd
       simp only[Option.some.injEq,Prod.mk.injEq]at h
       obtain⟨rfl,rfl⟩:=h
       exact Zr (hT _ _ hy) ho hd R (H _) (H _)
     · split at h
       · rename_i ye hye
         obtain⟨hp,rfl⟩:=jR h
         exact YH (hT _ _ hy) (hT _ _ hye) ho hp R (H _) (H _)
       · simp at h
   · simp at h
 · unfold UC at h
   split at h
   · rename_i y hy
     split at h
     · rename_i yk ye hyk hye
       obtain⟨hp,rfl⟩:=jR h
       exact _1 (hT _ _ hy) (hT _ _ hyk) (hT _ _ hye) ho hp R (H _) (H _)
     · simp at h
   · simp at h
 · unfold FX at h
   split at h
   · rename_i y hy
     split at h
     · rename_i yk hyk
       split at h
       · rename_i e' he
         simp only[Option.some.injEq,Prod.mk.injEq]at h
         obtain⟨rfl,rfl⟩:=h
         exact PM (hT _ _ hy) (hT _ _ hyk) (.inl ho) he R (H _) (H _) (H _)
       · simp at h
     · simp at h
   · simp at h
 · unfold FX at h
   split at h
   · rename_i y hy
     split at h
     · rename_i yk hyk
       split at h
       · rename_i e' he
         simp only[Option.some.injEq,Prod.mk.injEq]at h
         obtain⟨rfl,rfl⟩:=h
         exact PM (hT _ _ hy) (hT _ _ hyk) (.inr ho) he R (H _) (H _) (H _)
       · simp at h
     · simp at h
   · simp at h
 · obtain⟨hp,rfl⟩:=jR h
   exact Zt ho hp R (H _)
 · rename_i c
   unfold Ba at h
   split at h
   case h_2=>simp at h
   rename_i b hb
   unfold BA at h
   split at h
   · rename_i t x hts has
     unfold Tg at h
     split at h
     · rename_i y hy
       obtain⟨hp,rfl⟩:=jR h
       obtain⟨v,h1,h2⟩:=Zv (P:=P) (w:=w) (ty:=o.type) (hT _ _ hy) hp (H _)
       refine Does.val (v:=v) (w':=w) (Ab ho hb ?_) (Out.pure R h2)
       rw[sH hts,sH has]
       simp[builtin,h1]
     · simp at h
   · rename_i t t2 x z hts has
     unfold Bz at h
     split at h
     · rename_i y y2 hy hy2
       split at h
       · rename_i ye hni hye
         obtain⟨v,w',h1,h2⟩:=XK (P:=P) (ty:=o.type) (hT _ _ hy) (hT _ _ hy2) hni (hT _ _ hye) h R hn (H _) (H _)
         refine Does.val (v:=v) (w':=w') (Ab ho hb ?_) h2
         rw[sH hts,sH has]
         simp[builtin,h1]
       · simp at h
     · simp at h
   · rename_i t t2 x z hts has
     unfold UD at h
     split at h
     · rename_i y hy
       obtain⟨v,w',h1,h2⟩:=YN (P:=P) (ty:=o.type) (t2:=t2) (hT _ _ hy) h R (H _) (H _)
       refine Does.val (v:=v) (w':=w') (Ab ho hb ?_) h2
       rw[sH hts,sH has]
       simp[builtin,h1]
     · simp at h
   · rename_i x z has
     have hx:=H x
     have hz:=H z
     unfold FY at h
     split at h
     · rename_i p q hp hq
       split at h
       · rename_i v hv
         simp only[Option.some.injEq,Prod.mk.injEq]at h
         obtain⟨rfl,rfl⟩:=h
         rw[hp]at hx
         rw[hq]at hz
         have hx:=dh hx
         have hz:=dh hz
         refine Does.val (v:=v) (w':=w) (Ab ho hb ?_) (Out.pure R (fF _ _))
         rw[sH has]
         simp[builtin,Builtin.min_,hx,hz,xY hv]
       · simp at h
     · simp at h
   · rename_i x z has
     have hx:=H x
     have hz:=H z
     unfold FY at h
     split at h
     · rename_i p q hp hq
       split at h
       · rename_i v hv
         simp only[Option.some.injEq,Prod.mk.injEq]at h
         obtain⟨rfl,rfl⟩:=h
         rw[hp]at hx
         rw[hq]at hz
         have hx:=dh hx
         have hz:=dh hz
         refine Does.val (v:=v) (w':=w) (Ab ho hb ?_) (Out.pure R (fF _ _))
         rw[sH has]
         simp[builtin,Builtin.max_,hx,hz,xY hv]
       · simp at h
     · simp at h
   · simp at h
 · simp at h
end Go.Proofs.YtadecgbblajifaaGreatDoor.DV
namespace Go.Proofs.YtadecgbblajifaaGreatDoor
end Go.Proofs.YtadecgbblajifaaGreatDoor
namespace Go.Proofs.YtadecgbblajifaaGreatDoor.DV
open Go
noncomputable section
section
variable {α β:Type}
def l6 (l:List α):(List α->β)->β:=List.rec (motive:=λ_=>(List α->β)->β) (λk=>k []) (λv _ ih k=>ih λl=>k (v :: l)) l
theorem vM:∀ (l:List α) (k:List α->β),l6 l k=k l
 | [],_=>rfl
 |v :: l,k=>vM l λl=>k (v :: l)
def fL (f:α->(α->β)->β) (l:List α):(List α->β)->β:=List.rec (motive:=λ_=>(List α->β)->β) (λk=>k []) (λv _ ih k=>f v λv=>ih λl=>k (v :: l)) l
theorem Eu {f:α->(α->β)->β} (h:∀ a k,f a k=k a):∀ (l:List α) (k:List α->β),fL f l k=k l
 | [],_=>rfl
 |v :: l,k=>(h v _).trans (Eu h l λl=>k (v :: l))
def fI (i:Int) (k:Int->β):β:=Int.rec (λn=>fN n λn=>k (.ofNat n)) (λn=>fN n λn=>k (.negSucc n)) i
theorem ab4 (i:Int) (k:Int->β):fI i k=k i:=by cases i <;> simp only[fI,qW]
def fB (b:Bool) (k:Bool->β):β:=Bool.rec (k false) (k true) b
theorem J4 (b:Bool) (k:Bool->β):fB b k=k b:=by cases b <;> rfl
def UE (b:UInt8) (k:UInt8->β):β:=fN b.toNat λn=>k (UInt8.ofNat n)
theorem aa7 (b:UInt8) (k:UInt8->β):UE b k=k b:=(qW _ _).trans (by simp)
def fK (b:IntKind) (k:IntKind->β):β:=match b with
 |.i64=>k .i64
 |.u8=>k .u8
 |.u64=>k .u64
 |b=>k b
theorem ab5 (b:IntKind) (k:IntKind->β):fK b k=k b:=by cases b <;> rfl
def fV:Value->(Value->β)->β
 |.bool b,k=>fB b λb=>k (.bool b)
 |.int t i,k=>fK t λt=>fI i λi=>k (.int t i)
 |.string ⟨⟨l⟩⟩,k=>fL UE l λl=>k (.string ⟨⟨l⟩⟩)
 |v,k=>k v
theorem RU (v:Value) (k:Value->β):fV v k=k v:=by
 unfold fV
 split
 · exact J4 _ _
 · rw[ab5,ab4]
 · exact Eu aa7 _ _
 · rfl
def Lt (p:Nat × Nat) (k:Nat × Nat->β):β:=fN p.1 λa=>fN p.2 λb=>k (a,b)
theorem aa8 (p:Nat × Nat) (k:Nat × Nat->β):Lt p k=k p:=by simp[Lt,qW]
def fD:D->(D->β)->β
 |.lf v,k=>fV v λv=>k (.lf v)
 |.ref i p,k=>fN i λi=>fL Lt p λp=>k (.ref i p)
 |.own t i o n,k=>fB t λt=>fN i λi=>fN o λo=>fN n λn=>k (.own t i o n)
 |.sl t s xs,k=>fB t λt=>l6 xs λxs=>k (.sl t s xs)
 |.st s xs,k=>l6 xs λxs=>k (.st s xs)
 |.ar s xs,k=>l6 xs λxs=>k (.ar s xs)
 |.fn f a b,k=>l6 a λa=>l6 b λb=>k (.fn f a b)
 |.tu a,k=>l6 a λa=>k (.tu a)
 |.mo es c,k=>l6 es λes=>fN c λc=>k (.mo es c)
 |d,k=>k d
theorem vR (d:D) (k:D->β):fD d k=k d:=by
 unfold fD
 split <;> simp only[RU,qW,Eu aa8,J4,vM]
def Lu:D->(D->β)->β
 |.sl t s xs,k=>fB t λt=>fL fD xs λxs=>k (.sl t s xs)
 |.st s xs,k=>fL fD xs λxs=>k (.st s xs)
 |.ar s xs,k=>fL fD xs λxs=>k (.ar s xs)
 |.tu s,k=>fL fD s λxs=>k (.tu xs)
 |d,k=>fD d k
theorem aa9 (d:D) (k:D->β):Lu d k=k d:=by
 unfold Lu
 split <;> simp only[J4,Eu vR,vR]
end
structure S where
 tm:Tr D
 s:Tr D
 nx:Nat
 n:Nat
 ms:List Nat
 lg:List Nat
 rd:Bool
inductive Ex where
 |normal|ret|exit (i:Nat)|val (d:D)
inductive eH where
 |code (c:Code)
 |ops (all:Array Oper) (l:List Oper)
 |call (f:Nat) (args:List D)
abbrev R:=Option (Ex × S)
def aA (t:Tr D):au:=λi=>aX t i
def dK (t:Tr D) (k:Nat):D:=match aX t k with
 |some d=>d
 |none => .bZ
def ig (gl:Nat->D) (t:Tr D):Operand->D
 |.tmp k=>dK t k
 |.const v => .lf v
 |.global g=>gl g
 |.func f => .fn (.func f) [] []
def jW:Eff->Tr D->Tr D
 | [],t=>t
 |(i,d) :: e,t=>ed (jW e t) i d
def kS:Eff->List Nat->List Nat
 | [],l=>l
 |(i,_) :: e,l=>i :: kS e l
theorem mD:∀ (e:Eff) (t:Tr D),aA (jW e t)=app e (aA t)
 | [],t=>rfl
 |(i,d) :: e,t=>by
  funext k
  have ih:=congrFun (mD e t) k
  simp only[aA,jW,lG]at ih ⊢
  by_cases h:k=i
  · subst h
    rw[if_pos rfl]
    simp[app,aH]
  · rw[if_neg h,ih]
    simp only[app]
    rw[j5 _ _ h]
section
variable {β:Type}
def Ti (i:Nat) (d:Option D) (t:Tr D) (l:List Nat) (K:Tr D->List Nat->β):β:=match d with
 |some d=>fN i λi=>Lu d λd=>iU t i (some d) λt=>K t (i :: l)
 |none=>fN i λi=>iU t i none λt=>K t (i :: l)
def yR:Eff->Tr D->List Nat->(Tr D->List Nat->β)->β
 | [],t,l,K=>K t l
 |(i,d) :: e,t,l,K=>yR e t l λt l=>Ti i d t l K
theorem DU:∀ (e:Eff) (t:Tr D) (l:List Nat) (K:Tr D->List Nat->β),yR e t l K=K (jW e t) (kS e l)
 | [],_,_,_=>rfl
 |(i,d) :: e,t,l,K=>by
  rw[yR,DU e]
  cases d <;> simp only[Ti,qW,aa9,j6,jW,kS]
end
def tJ {β:Type} (n:Nat) (t:Tr D) (d:Option Nat) (v:D) (K:Tr D->β):β:=match d with
 |some d=>match Nat.blt d n with
  |true=>iU t d (some v) K
  |false=>K t
 |none=>K t
def gP (n:Nat) (t:Tr D) (d:Option Nat) (v:D):Tr D:=match d with
 |some d=>match Nat.blt d n with
  |true=>ed t d (some v)
  |false=>t
 |none=>t
theorem xZ {β:Type} (n:Nat) (t:Tr D) (d:Option Nat) (v:D) (K:Tr D->β):tJ n t d v K=K (gP n t d v):=by
 unfold tJ gP
 cases d with
 |none=>rfl
 |some d =>
  cases h:Nat.blt d n <;> simp only[h,j6]
def fill (t:Tr D):Nat->List D->Tr D
 |_,[]=>t
 |k,v :: l=>fill (ed t k (some v)) (k+1) l
def Bb {β:Type} (t:Tr D):Nat->List D->(Tr D->β)->β
 |_,[],K=>K t
 |k,v :: l,K=>iU t k (some v) λt=>Bb t (k+1) l K
theorem IE {β:Type} : ∀ (l:List D) (t:Tr D) (k:Nat) (K:Tr D->β),Bb t k l K=K (fill t k l)
 | [],_,_,_=>rfl
 |v :: l,t,k,K=>by rw[Bb,j6,IE l];rfl
def mV {α:Type} : List α->Nat->Option α
 | [],_=>none
 |a :: l,k=>match k with
  |0=>some a
  |k+1=>mV l k
theorem vF {α:Type} : ∀ (l:List α) (k:Nat),mV l k=l[k]?
 | [],_=>by simp[mV]
 |a :: l,0=>rfl
 |a :: l,k+1=>by simpa[mV]using vF l k
def yl (all:Array Oper) (t:Tr D) (j:Nat):Option (Option Bool):=match mV all.toList j with
 |some o=>match o.dst with
  |some d=>match dK t d with
   |.lf (.bool b)=>some (some b)
   |.tu _=>some none
   |_=>none
  |none=>none
 |none=>none
def want (all:Array Oper) (t:Tr D) (o:Oper):Option Bool:=match o.guard with
 |none=>some true
 |some (j,b)=>match yl all t j with
  |some (some c)=>some (c == b)
  |some none=>some false
  |none=>none
def jw (t:Tr D):Nat->Nat->List D
 |_,0=>[]
 |i,n+1=>dK t i :: jw t (i+1) n
structure Cx where
 T:dA
 gl:Nat->D
 F:Nat->Option Func
 X:Nat->Bool
 O:Nat->List D->Option D
 K:Nat->List D->D->Prop
 E:Nat->List D->au->Nat->D->Eff->Prop
section
variable (C:Cx) (ih:eH->S->R)
def tK (b:Code):R->R
 |some (.normal,s)=>ih (.code b) s
 |r=>r
def RV (a b:Code) (s:S):D->R
 |.lf (.bool true)=>ih (.code a) s
 |.lf (.bool false)=>ih (.code b) s
 |_=>none
def AR (i:Nat):R->R
 |some (.exit j,s)=>match Nat.beq j i with
  |true=>some (.normal,s)
  |false=>some (.exit j,s)
 |r=>r
def KO (t:Tr D) (n l:Nat) (mk:List Nat):R->R
 |some (.val _,⟨_,st,nx,_,_,lg,_⟩)=>match aX st l with
  |some (.lo _ _ _ _)=>iU st l none λst=>some (.normal,⟨t,st,nx,n,mk,l :: lg,false⟩)
  |some (.jK c)=>iU st l none λst=>ih (.code c) ⟨t,st,nx,n,mk,l :: lg,false⟩
  |_=>none
 |_=>none
def Ev (f:Nat):Bool:=match C.F f with
 |some fn=>fn.body.isSome
 |none=>false
def Jr (ps:Array Nat) (az bd:Code):S->D->R
 |⟨t,st,nx,n,mk,lg,false⟩,.fn (.func f) [] b=>match Ev C f with
  |true=>fN (Nat.succ nx) λl=>fN (Nat.succ l) λnx'=>l6 (jw t 0 n) λtl=>iU st nx (some .df) λst=>iU st l (some (.lo tl ps.toList az bd)) λst =>
   KO ih t n l (nx :: mk) (ih (.call f (.yd l :: b)) ⟨.e,st,nx',0,[],l :: nx :: lg,false⟩)
  |false=>none
 |_,_=>none
def sN (all:Array Oper) (l:List Oper) (d:Option Nat) (t:Tr D) (n:Nat) (mk:List Nat) (rd:Bool):R->R
 |some (.val v,⟨_,st,nx,_,_,lg,_⟩)=>tJ n t d v λt=>ih (.ops all l) ⟨t,st,nx,n,mk,lg,rd⟩
 |_=>none
def RX (all:Array Oper) (l:List Oper) (dst:Option Nat) (s:S):Re->R
 |some (d,e)=>match s with
  |⟨t,st,nx,n,mk,lg,rd⟩=>fD d λd=>yR e st lg λst lg=>tJ n t dst d λt=>fN (Nat.succ nx) λnx=>ih (.ops all l) ⟨t,st,nx,n,mk,lg,rd⟩
 |none=>none
def wD {β:Type} (t:Tr D) (n:Nat):List Nat->List D->(Tr D->β)->Option β
 | [],[],K=>some (K t)
 |p :: ps,d :: ds,K=>match Nat.blt p n with
  |true=>iU t p (some d) λt=>wD t n ps ds K
  |false=>none
 |_,_,_=>none
def x8 (i:Nat) (bd:Code):R->R
 |some (.normal,⟨t,st,nx,n,ms,lg,rd⟩)=>match aX st i with
  |some (.lo tl ps az b)=>iU st i (some (.lb tl ps az b)) λst=>ih (.code bd) ⟨t,st,nx,n,ms,i :: lg,rd⟩
  |_=>none
 |_=>none
def pO (i:Nat):R->R
 |some (ex,⟨_,st,nx,_,_,lg,_⟩)=>match aX st i with
  |some (.lb tl ps az bd)=>match ex with
   |.normal=>iU st i (some (.lo tl ps az bd)) λst=>some (.val (.lf (.bool true)),⟨.e,st,nx,0,[],i :: lg,false⟩)
   |.ret=>iU st i (some (.jK .ret)) λst=>some (.val (.lf (.bool false)),⟨.e,st,nx,0,[],i :: lg,false⟩)
   |.exit j=>iU st i (some (.jK (.exit j))) λst=>some (.val (.lf (.bool false)),⟨.e,st,nx,0,[],i :: lg,false⟩)
   |.val _=>none
  |_=>none
 |none=>none
end
end
end Go.Proofs.YtadecgbblajifaaGreatDoor.DV
namespace Go.Proofs.YtadecgbblajifaaGreatDoor
end Go.Proofs.YtadecgbblajifaaGreatDoor
namespace Go.Proofs.YtadecgbblajifaaGreatDoor.DV
open Go
noncomputable section
section
variable (C:Cx) (ih:eH->S->R)
def AU (args:List D) (i:Nat) (st:Tr D) (nx:Nat) (lg:List Nat):R:=match aX st i with
 |some (.lo tl ps az bd)=>l6 args λargs=>match Bb .e 0 tl λt0=>wD t0 tl.length ps args λt'=>pO i (x8 ih i bd (ih (.code az) ⟨t',st,nx,tl.length,[],lg,true⟩))with
  |some r=>r
  |none=>none
 |_=>none
def Js (all:Array Oper) (l:List Oper) (dst:Option Nat) (args:List D) (i:Nat):S->R
 |⟨t,st,nx,n,ms,lg,rd⟩=>sN ih all l dst t n ms rd (AU ih args i st nx lg)
def Jt (all:Array Oper) (l:List Oper) (dst:Option Nat) (f:Nat) (az:List D):S->R
 |⟨t,st,nx,n,ms,lg,rd⟩=>l6 az λaz=>sN ih all l dst t n ms rd (ih (.call f az) ⟨.e,st,nx,0,[],lg,false⟩)
def RY (all:Array Oper) (l:List Oper) (dst:Option Nat) (args:List D) (s:S):D->R
 |.fn (.func f) a b=>Jt ih all l dst f (a ++ args ++ b) s
 |.yd i=>Js ih all l dst args i s
 |_=>none
def Eg (all:Array Oper) (l:List Oper) (dst:Option Nat) (s:S) (o:Op):R:=RX ih all l dst s (fH C.T (aA s.s) s.nx (ig C.gl s.tm) o)
def Tj (all:Array Oper) (l:List Oper) (dst:Option Nat) (s:S) (c:Call):Callee->R
 |.value f=>RY ih all l dst (dmap (ig C.gl s.tm) c.args.toList) s (ig C.gl s.tm f)
 |_=>Eg C ih all l dst s (.call c)
def UF (all:Array Oper) (l:List Oper) (dst:Option Nat) (s:S):Op->R
 |.call c=>Tj C ih all l dst s c c.callee
 |o=>Eg C ih all l dst s o
def J5 (all:Array Oper) (l:List Oper) (dst:Option Nat):S->R
 |⟨t,st,nx,n,ms,lg,rd⟩=>tJ n t dst (.tu []) λt=>ih (.ops all l) ⟨t,st,nx,n,ms,lg,rd⟩
def EZ (all:Array Oper) (s:S):List Oper->R
 | []=>some (.normal,s)
 |o :: l=>match want all s.tm o with
  |some true=>UF C ih all l o.dst s o.op
  |some false=>J5 ih all l o.dst s
  |none=>none
def lT (T:dA) (σ t:Tr D):List ResultVar->Option (List D)
 | []=>some []
 |.tmp k :: l=>match lT T σ t l with
  |some r=>some (dK t k :: r)
  |none=>none
 |.cell a ty :: l=>match T ty with
  |some y=>match vL y (aA σ) (dK t a),lT T σ t l with
   |some d,some r=>some (d :: r)
   |_,_=>none
  |none=>none
def tN:List D->D
 | [d]=>d
 |ds => .tu ds
def Bc:List Nat->S->Option S
 | [],s=>some s
 |j :: l,⟨t,st,nx,n,ms,lg,rd⟩=>match aX st j with
  |some .df=>iU st j none λst=>Bc l ⟨t,st,nx,n,ms,j :: lg,rd⟩
  |_=>none
def Bd (fn:Func) (s:S):R:=match Bc s.ms s with
 |some ⟨t,st,nx,_,_,lg,_⟩=>match lT C.T st t fn.results.toList with
  |some ds=>fD (tN ds) λd=>some (.val d,⟨.e,st,nx,0,[],lg,false⟩)
  |none=>none
 |none=>none
def yS (fn:Func):R->R
 |some (.normal,s')=>Bd C fn s'
 |some (.ret,s')=>Bd C fn s'
 |_=>none
def Tm (s:S):List D->R
 | [.lf (.string b),.lf (.int .u8 c)]=>match wm (Extern.BytealgIndexByte.indexByte #[.string b,.int .u8 c])with
  |some v=>fV v λv=>some (.val (.lf v),⟨.e,s.s,s.nx,0,[],s.lg,false⟩)
  |none=>none
 |_=>none
def Ew (f:Nat) (args:List D) (s:S) (fn:Func):R:=match fn.body with
 |some c=>match Nat.ble args.length fn.ntmps with
  |true=>Bb .e 0 args λt=>yS C fn (ih (.code c) ⟨t,s.s,s.nx,fn.ntmps,[],s.lg,false⟩)
  |false=>none
 |none=>match C.X f with
  |true=>Tm s args
  |false=>none
variable (dr:(eH->S->R)->Array Oper->S->R)
def J6 (s:S):Code->R
 |.skip=>some (.normal,s)
 |.label _=>some (.normal,s)
 |.region _ ops false=>ih (.ops ops ops.toList) s
 |.region _ ops true=>dr ih ops s
 |.seq a b=>tK ih b (ih (.code a) s)
 |.cond c a b=>RV ih a b s (ig C.gl s.tm c)
 |.block i b=>AR i (ih (.code b) s)
 |.loop b=>tK ih (.loop b) (ih (.code b) s)
 |.exit i=>some (.exit i,s)
 |.ret=>some (.ret,s)
 |.rangeFunc g ps az bd=>Jr C ih ps az bd s (ig C.gl s.tm g)
 |_=>none
def step (s:S):eH->R
 |.code c=>J6 C ih dr s c
 |.ops all l=>EZ C ih all s l
 |.call f args=>match C.O f args with
  |some d=>some (.val d,⟨.e,s.s,s.nx,0,[],s.lg,false⟩)
  |none=>match C.F f with
   |some fn=>Ew C ih f args s fn
   |none=>none
def ev (n:Nat):eH->S->R:=Nat.rec (λ_ _=>none) (λ_ ih tk s=>step C ih dr s tk) n
theorem Ao (n:Nat) (tk:eH) (s:S):ev C dr (n+1) tk s=step C (ev C dr n) dr s tk:=rfl
end
def MK (g:G):List Nat->List Deferred->Prop
 | [],ds=>ds=[]
 |j :: l,ds=>∃ loc d ds',ds=d :: ds'/\g.ae j=some loc/\d.target = .collected loc.b/\MK g l ds'
theorem MK.mono {g h:G} (le:Le g h):∀ (l:List Nat) (ds:List Deferred),MK g l ds->MK h l ds
 | [],_,H=>H
 |_ :: l,_,⟨loc,d,ds',h1,h2,h3,h4⟩=>⟨loc,d,ds',h1,le.ae _ _ h2,h3,MK.mono le l ds' h4⟩
structure St (C:Cx) (s:S) (g:G) (a:Act) (w:World):Prop where
 rel:Rel g (aA s.s) w
 tm:∀ t,VR g (dK s.tm t) (a.tmps.getD t undef)
 size:a.tmps.size=s.n
 fresh:∀ i,s.nx<=i->g.ae i=none
 gl:∀ i,VR g (C.gl i) (.pointer (some ⟨i,0,none⟩))
 ms:MK g s.ms a.defers
structure Ch (s s':S):Prop where
 nx:s.nx<=s'.nx
 lg:∀ i∈s.lg,i∈s'.lg
 same:∀ i,i ∉ s'.lg->aX s'.s i=aX s.s i
theorem Ch.refl (s:S):Ch s s:=⟨Nat.le_refl _,λ_ h=>h,λ_ _=>rfl⟩
theorem Ch.trans {a b c:S} (h:Ch a b) (k:Ch b c):Ch a c:=⟨Nat.le_trans h.nx k.nx,λi hi=>k.lg i (h.lg i hi),λi hi=>(k.same i hi).trans (h.same i λh'=>hi (k.lg i h'))⟩
abbrev Nw (s:S):Nat->Prop:=λi=>s.nx<=i
theorem St.get {C:Cx} {s:S} {g:G} {a:Act} {w:World} (h:St C s g a w) (x:Operand):VR g (ig C.gl s.tm x) (a.eval x):=by
 cases x with
 |tmp t=>exact h.tm t
 |const v=>exact fF _ _
 |global i=>exact h.gl i
 |func f =>
  simp only[ig,VR,CR,Act.eval]
  exact⟨[],[],rfl,by simp[aC],by simp[aC]⟩
theorem VR.mono {g h:G} (le:Le g h) {d:D} {v:Value} (H:VR g d v):VR h d v:=CR.mono le _ _ _ H
theorem vG {g:G} {t:Tr D} {a:Act} {n:Nat} {dst:Option Nat} {d:D} {v:Value} (hs:a.tmps.size=n) (H:∀ k,VR g (dK t k) (a.tmps.getD k undef)) (hd:VR g d v):∀ k,VR g (dK (gP n t dst d) k) ((a.put dst v).tmps.getD k undef):=by
 intro k
 cases dst with
 |none=>exact H k
 |some j =>
  simp only[gP,Act.put]
  by_cases hj:j<n
  · have h1:Nat.blt j n=true:=Nat.ble_eq_true_of_le hj
    simp only[h1,dK,lG]
    by_cases hk:k=j
    · subst hk
      have:(a.tmps.setIfInBounds k v).getD k undef=v:=by
       simp[Array.getD,hs,hj]
      rw[if_pos rfl,this]
      exact hd
    · have:(a.tmps.setIfInBounds j v).getD k undef=a.tmps.getD k undef:=by
       simp only[Array.getD_eq_getD_getElem?,Array.getElem?_setIfInBounds,if_neg (Ne.symm hk)]
      rw[if_neg hk,this]
      exact H k
  · have h1:Nat.blt j n=false:=by
     cases hb:Nat.blt j n with
     |false=>rfl
     |true=>exact absurd (Nat.le_of_ble_eq_true hb) hj
    have:a.tmps.setIfInBounds j v=a.tmps:=by
     apply Array.ext_getElem?
     intro i
     rw[Array.getElem?_setIfInBounds]
     split
     · rename_i h;subst h
       split
       · omega
       · rename_i h2;rw[Array.getElem?_eq_none (by omega)]
     · rfl
    simp only[h1,this]
    exact H k
end
end Go.Proofs.YtadecgbblajifaaGreatDoor.DV
namespace Go.Proofs.YtadecgbblajifaaGreatDoor
end Go.Proofs.YtadecgbblajifaaGreatDoor
