import Derived.Test.YtadecgbblajifaaGreatDoorC06
import Derived.RangeFuncNested
import Derived.RangeFuncLeaves
set_option linter.unusedSimpArgs false
set_option linter.unusedVariables false
set_option maxRecDepth 100000
set_option maxHeartbeats 25600000
namespace Go.Proofs.YtadecgbblajifaaGreatDoor
end Go.Proofs.YtadecgbblajifaaGreatDoor
namespace Go.Proofs.YtadecgbblajifaaGreatDoor.DV
open Go
abbrev Re:=Option (D × Eff)
def eB:Option D->Re
 |some d=>some (d,[])
 |none=>none
def DC (T:bg) (n t:Nat):Re:=match T t with
 |some y=>xP y n
 |none=>none
def DD (T:bg) (t:Nat) (l:List (Nat × D)):Re:=match T t with
 |some y=>eB (xV y l)
 |none=>none
def Fv (T:bg) (n t len:Nat) (l:List (Nat × D)):Re:=match T t with
 |some y=>match T (fA y.k)with
  |some ye=>zA y ye len n l
  |none=>none
 |none=>none
def Ei (T:bg) (σ:ai) (t:Nat) (x:D):Re:=match T t with
 |some y=>eB (ng y σ x)
 |none=>none
def DF (T:bg) (σ:ai) (t:Nat) (x v:D):Re:=match T t with
 |some y=>match xQ y σ x v with
  |some e=>some (.aO,e)
  |none=>none
 |none=>none
def Ej (c a b:D):Re:=match c with
 |.lf (.bool true)=>some (a,[])
 |.lf (.bool false)=>some (b,[])
 |_=>none
def EI (T:bg) (op:BinOp) (t:Nat) (z:Operand) (a b:D):Re:=match T t with
 |some y=>eB (yY y op z a b)
 |none=>none
def DI (T:bg) (σ:ai) (n:Nat) (ys yt:Ty) (x:D):Tk->Tk->Re
 |.sl _ _,.str=>match T (fA yt.k)with
  |some ye=>y7 yt ye n x
  |none=>none
 |.str,.sl _ _=>match T (fA ys.k),ve x with
  |some ye,true=>match rP ye.k with
   |true=>eB (y5 ys yt σ x)
   |false=>none
  |_,_=>none
 |_,_=>eB (ym ys yt x)
def El (T:bg) (σ:ai) (n s t:Nat) (x:D):Re:=match T s,T t with
 |some ys,some yt=>DI T σ n ys yt x yt.k ys.k
 |_,_=>none
def Fw (T:bg) (t:Nat) (x:D):Re:=match T t with
 |some y=>eB (zz y t x)
 |none=>none
def Fx (T:bg) (n t:Nat) (l c:D):Re:=match T t with
 |some y=>match T (fA y.k)with
  |some ye=>zB y ye n l c
  |none=>none
 |none=>none
def Fy (T:bg) (σ:ai) (t:Nat) (x:D) (l h m:Option D):Re:=match T t with
 |some y=>eB (xU y σ x l h m)
 |none=>none
def FC (T:bg) (t:Nat) (x:D) (f:Nat):Re:=match T t with
 |some y=>eB (zx y f x)
 |none=>none
def FD (T:bg) (t:Nat) (x:D) (f:Nat):Re:=match T t with
 |some y=>eB (xS y f x)
 |none=>none
def vO (T:bg) (σ:ai) (t:Nat) (x i:D):Re:=match T t with
 |some y=>eB (rJ y σ x i)
 |none=>none
def FE (T:bg) (t:Nat) (x i:D):Re:=match T t with
 |some y=>match yS y x i with
  |some d=>some (d,[])
  |none=>match T (fA y.k)with
   |some ye=>eB (yj y ye x i)
   |none=>none
 |none=>none
def vP (T:bg) (σ:ai) (t:Nat) (m k v:D):Re:=match T t with
 |some y=>match T (pO y.k)with
  |some yk=>match zC y yk σ m k v with
   |some e=>some (.aO,e)
   |none=>none
  |none=>none
 |none=>none
def FH (T:bg) (σ:ai) (t:Nat) (m k:D) (ok:Bool):Re:=match T t with
 |some y=>match T (pO y.k),T (zF y.k)with
  |some yk,some ye=>eB (zD y yk ye σ m k ok)
  |_,_=>none
 |none=>none
def EJ (T:bg) (t:Nat) (x:D):Re:=match T t with
 |some y=>eB (yV y x)
 |none=>none
def EK (T:bg) (σ:ai) (n t t2:Nat) (x z:D):Re:=match T t,T t2 with
 |some y,some y2=>match o8 y2,T (fA y.k)with
  |true,some ye=>xw y ye σ n x z
  |_,_=>none
 |_,_=>none
def vQ (f:Value->Value->Sem Value):D->D->Re
 |.lf a,.lf b=>match nN (f a b)with
  |some v=>some (.lf v,[])
  |none=>none
 |_,_=>none
def FI (T:bg) (σ:ai) (t:Nat) (x z:D):Re:=match T t with
 |some y=>yu y σ x z
 |none=>none
def EL (T:bg) (σ:ai) (n:Nat) (get:Operand->D) (b:Builtin) (ts:List Nat) (az:List Operand):Re:=match b,ts,az with
 |.len,[t],[x]=>EJ T t (get x)
 |.append,[t,t2],[x,z]=>EK T σ n t t2 (get x) (get z)
 |.copy,[t,_],[x,z]=>FI T σ t (get x) (get z)
 |.min,_,[x,z]=>vQ Builtin.min2 (get x) (get z)
 |.max,_,[x,z]=>vQ Builtin.max2 (get x) (get z)
 |_,_,_=>none
def Em (T:bg) (σ:ai) (n:Nat) (get:Operand->D) (c:Call):Re:=match c.callee with
 |.builtin b=>EL T σ n get b c.argTypes.toList c.args.toList
 |_=>none
def EM (get:Operand->D) (l:List (Nat × Operand)):List (Nat × D):=l.map λp=>(p.1,get p.2)
def eT (T:bg) (σ:ai) (n:Nat) (get:Operand->D) (o:Op):Re:=match o with
 |.move x=>some (get x,[])
 |.assign x=>some (get x,[])
 |.pick c a b=>Ej (get c) (get a) (get b)
 |.alloc t=>DC T n t
 |.box _ x=>yR n (get x)
 |.build t parts=>DD T t (EM get parts.toList)
 |.buildSlice t len parts=>Fv T n t len (EM get parts.toList)
 |.load t x=>Ei T σ t (get x)
 |.store t x v=>DF T σ t (get x) (get v)
 |.nilCheck x=>eB (yU (get x))
 |.binOp op t x z _=>EI T op t z (get x) (get z)
 |.unOp op _ x=>eB (zy op (get x))
 |.convert s t x=>El T σ n s t (get x)
 |.makeInterface t x=>Fw T t (get x)
 |.makeFunc f a b=>some (.fn f (dmap get a.toList) (dmap get b.toList),[])
 |.makeMap _ none=>some (.mp n,[(n,some (.mo [] 0))])
 |.makeSlice t l c=>Fx T n t (get l) (get c)
 |.slice t x lo hi mx=>Fy T σ t (get x) (lo.map get) (hi.map get) (mx.map get)
 |.fieldAddr t x f=>FC T t (get x) f
 |.field t x f=>FD T t (get x) f
 |.indexAddr t x i=>vO T σ t (get x) (get i)
 |.index t x i=>FE T t (get x) (get i)
 |.lookup t m k ok=>FH T σ t (get m) (get k) ok
 |.mapUpdate t m k v=>vP T σ t (get m) (get k) (get v)
 |.insert t m k v=>vP T σ t (get m) (get k) (get v)
 |.extract x k=>eB (yT (get x) k)
 |.call c=>Em T σ n get c
 |_=>none
variable {P:Program} {T:bg}
theorem fU {o:Option D} {d:D} {e:Eff} (h:eB o=some (d,e)):o=some d/\e=[]:=by
 cases o <;> simp[eB]at h
 exact⟨by rw[h.1],h.2⟩
theorem qD {o:Oper} {a:Act} {c:Call} {b:Builtin} {w w':World} {v:Value} (ho:o.op = .call c) (hb:c.callee = .builtin b)
 (hf:(builtin b c.argTypes o.type (c.args.map fun | .const _=>true|_=>false) (c.args.map a.eval)).run P w = .ok (.value v) w'):(execOp a.eval o).run P w = .ok (.value v) w':=by
 simp only[execOp,ho,resolve,hb,Sem.run_bind,Sem.run_pure,Result.andThen_ok,invoke]
 exact hf
theorem lG {α:Type} {x:Array α} {l:List α} (h:x.toList=l):x=⟨l⟩:=by cases x;simp at h;rw[h]
theorem yx (hT:bZ P T) {g:G} {σ:ai} {w:World} {a:Act} {o:Oper} {n:Nat} {get:Operand->D} {d:D} {e:Eff} (h:eT T σ n get o.op=some (d,e)) (R:Rel g σ w) (hn:g.aa n=none) (H:∀ x,VR g (get x) (a.eval x)) :
 Does P o a w (Out g σ w (· = n) d e):=by
 generalize ho:o.op=op at h
 unfold eT at h
 split at h
 · simp only[Option.some.injEq,Prod.mk.injEq]at h
   obtain⟨rfl,rfl⟩:=h
   exact Does.val (w':=w) (by simp[execOp,ho]) (Out.pure R (H _))
 · simp only[Option.some.injEq,Prod.mk.injEq]at h
   obtain⟨rfl,rfl⟩:=h
   exact Does.val (w':=w) (by simp[execOp,ho]) (Out.pure R (H _))
 · rename_i c x z
   have hc:=H c
   unfold Ej at h
   split at h <;> simp only[Option.some.injEq,Prod.mk.injEq,reduceCtorEq]at h <;> obtain⟨rfl,rfl⟩:=h <;> rename_i hq <;> rw[hq]at hc <;> have hc:=aP hc
   · exact Does.val (v:=a.eval x) (w':=w) (by simp[execOp,ho,hc,asBool]) (Out.pure R (H _))
   · exact Does.val (v:=a.eval z) (w':=w) (by simp[execOp,ho,hc,asBool]) (Out.pure R (H _))
 · unfold DC at h
   split at h
   · rename_i y hy;exact I6 (hT _ _ hy) ho h R hn
   · simp at h
 · exact Ke ho h R hn (H _)
 · unfold DD at h
   split at h
   · rename_i y hy
     obtain⟨hp,rfl⟩:=fU h
     exact Ja (hT _ _ hy) ho hp R H
   · simp at h
 · unfold Fv at h
   split at h
   · rename_i y hy
     split at h
     · rename_i ye hye;exact Ld (hT _ _ hy) (hT _ _ hye) ho h R hn H
     · simp at h
   · simp at h
 · unfold Ei at h
   split at h
   · rename_i y hy
     obtain⟨hp,rfl⟩:=fU h
     exact Jv (hT _ _ hy) ho hp R (H _)
   · simp at h
 · unfold DF at h
   split at h
   · rename_i y hy
     split at h
     · rename_i e' he
       simp only[Option.some.injEq,Prod.mk.injEq]at h
       obtain⟨rfl,rfl⟩:=h
       exact I7 (hT _ _ hy) ho he R (H _) (H _)
     · simp at h
   · simp at h
 · obtain⟨hp,rfl⟩:=fU h
   exact Ki ho hp R (H _)
 · unfold EI at h
   split at h
   · rename_i y hy
     obtain⟨hp,rfl⟩:=fU h
     exact Kk (hT _ _ hy) ho hp R (H _) (H _)
   · simp at h
 · obtain⟨hp,rfl⟩:=fU h
   exact La ho hp R (H _)
 · rename_i _ _ x0
   unfold El at h
   split at h
   · rename_i ys yt hys zV
     unfold DI at h
     split at h
     · rename_i _ _ hk1 hk2
       split at h
       · rename_i ye hye;exact Kn (hT _ _ hys) (hT _ _ zV) (hT _ _ hye) hk2 ho h R hn (H _)
       · simp at h
     · rename_i _ _ hk1 hk2
       split at h
       · rename_i ye hye hsl
         split at h
         · rename_i zU
           obtain⟨hp,rfl⟩:=fU h
           refine Km (hT _ _ hys) (hT _ _ zV) (hT _ _ hye) zU ho hp R (H _) ?_
           have hx:=H x0
           unfold ve at hsl
           split at hsl <;> rename_i hq <;> (try (simp at hsl;done)) <;> rw[hq]at hx
           · simp only[VR,CR,List.cons.injEq,and_true]at hx
             obtain⟨l,ad,c,_,hx,_⟩:=hx
             exact⟨_,_,_,hx⟩
           · simp only[VR,CR,List.cons.injEq,and_true]at hx
             obtain⟨ad,c,hx,_⟩:=hx
             exact⟨_,_,_,hx⟩
           · simp only[VR,CR,List.cons.injEq,and_true]at hx
             obtain⟨ad,hx⟩:=hx
             exact⟨_,_,_,hx⟩
           · exact⟨_,_,_,aP hx⟩
         · simp at h
       · simp at h
     · obtain⟨hp,rfl⟩:=fU h
       exact JB (hT _ _ hys) (hT _ _ zV) ho hp R (H _)
   · simp at h
 · unfold Fw at h
   split at h
   · rename_i y hy
     obtain⟨hp,rfl⟩:=fU h
     exact Lb (hT _ _ hy) ho hp R (H _)
   · simp at h
 · simp only[Option.some.injEq,Prod.mk.injEq]at h
   obtain⟨rfl,rfl⟩:=h
   exact Lc ho R H
 · simp only[Option.some.injEq,Prod.mk.injEq]at h
   obtain⟨rfl,rfl⟩:=h
   exact Ll ho R hn
 · unfold Fx at h
   split at h
   · rename_i y hy
     split at h
     · rename_i ye hye;exact Lh (hT _ _ hy) (hT _ _ hye) ho h R hn (H _) (H _)
     · simp at h
   · simp at h
 · unfold Fy at h
   split at h
   · rename_i y hy
     obtain⟨hp,rfl⟩:=fU h
     exact I9 (hT _ _ hy) ho hp R H
   · simp at h
 · unfold FC at h
   split at h
   · rename_i y hy
     obtain⟨hp,rfl⟩:=fU h
     exact K7 (hT _ _ hy) ho hp R (H _)
   · simp at h
 · unfold FD at h
   split at h
   · rename_i y hy
     obtain⟨hp,rfl⟩:=fU h
     exact I8 (hT _ _ hy) ho hp R (H _)
   · simp at h
 · unfold vO at h
   split at h
   · rename_i y hy
     obtain⟨hp,rfl⟩:=fU h
     exact K8 (hT _ _ hy) ho hp R (H _) (H _)
   · simp at h
 · unfold FE at h
   split at h
   · rename_i y hy
     split at h
     · rename_i d' hd
       simp only[Option.some.injEq,Prod.mk.injEq]at h
       obtain⟨rfl,rfl⟩:=h
       exact Kg (hT _ _ hy) ho hd R (H _) (H _)
     · split at h
       · rename_i ye hye
         obtain⟨hp,rfl⟩:=fU h
         exact Jw (hT _ _ hy) (hT _ _ hye) ho hp R (H _) (H _)
       · simp at h
   · simp at h
 · unfold FH at h
   split at h
   · rename_i y hy
     split at h
     · rename_i yk ye hyk hye
       obtain⟨hp,rfl⟩:=fU h
       exact Lm (hT _ _ hy) (hT _ _ hyk) (hT _ _ hye) ho hp R (H _) (H _)
     · simp at h
   · simp at h
 · unfold vP at h
   split at h
   · rename_i y hy
     split at h
     · rename_i yk hyk
       split at h
       · rename_i e' he
         simp only[Option.some.injEq,Prod.mk.injEq]at h
         obtain⟨rfl,rfl⟩:=h
         exact CW (hT _ _ hy) (hT _ _ hyk) (.inl ho) he R (H _) (H _) (H _)
       · simp at h
     · simp at h
   · simp at h
 · unfold vP at h
   split at h
   · rename_i y hy
     split at h
     · rename_i yk hyk
       split at h
       · rename_i e' he
         simp only[Option.some.injEq,Prod.mk.injEq]at h
         obtain⟨rfl,rfl⟩:=h
         exact CW (hT _ _ hy) (hT _ _ hyk) (.inr ho) he R (H _) (H _) (H _)
       · simp at h
     · simp at h
   · simp at h
 · obtain⟨hp,rfl⟩:=fU h
   exact Kh ho hp R (H _)
 · rename_i c
   unfold Em at h
   split at h
   case h_2=>simp at h
   rename_i b hb
   unfold EL at h
   split at h
   · rename_i t x hts has
     unfold EJ at h
     split at h
     · rename_i y hy
       obtain⟨hp,rfl⟩:=fU h
       obtain⟨v,h1,h2⟩:=Kj (P:=P) (w:=w) (ty:=o.type) (hT _ _ hy) hp (H _)
       refine Does.val (v:=v) (w':=w) (qD ho hb ?_) (Out.pure R h2)
       rw[lG hts,lG has]
       simp[builtin,h1]
     · simp at h
   · rename_i t t2 x z hts has
     unfold EK at h
     split at h
     · rename_i y y2 hy hy2
       split at h
       · rename_i ye hni hye
         obtain⟨v,w',h1,h2⟩:=IK (P:=P) (ty:=o.type) (hT _ _ hy) (hT _ _ hy2) hni (hT _ _ hye) h R hn (H _) (H _)
         refine Does.val (v:=v) (w':=w') (qD ho hb ?_) h2
         rw[lG hts,lG has]
         simp[builtin,h1]
       · simp at h
     · simp at h
   · rename_i t t2 x z hts has
     unfold FI at h
     split at h
     · rename_i y hy
       obtain⟨v,w',h1,h2⟩:=JD (P:=P) (ty:=o.type) (t2:=t2) (hT _ _ hy) h R (H _) (H _)
       refine Does.val (v:=v) (w':=w') (qD ho hb ?_) h2
       rw[lG hts,lG has]
       simp[builtin,h1]
     · simp at h
   · rename_i x z has
     have hx:=H x
     have hz:=H z
     unfold vQ at h
     split at h
     · rename_i p q hp hq
       split at h
       · rename_i v hv
         simp only[Option.some.injEq,Prod.mk.injEq]at h
         obtain⟨rfl,rfl⟩:=h
         rw[hp]at hx
         rw[hq]at hz
         have hx:=aP hx
         have hz:=aP hz
         refine Does.val (v:=v) (w':=w) (qD ho hb ?_) (Out.pure R (cu _ _))
         rw[lG has]
         simp[builtin,Builtin.min_,hx,hz,oV hv]
       · simp at h
     · simp at h
   · rename_i x z has
     have hx:=H x
     have hz:=H z
     unfold vQ at h
     split at h
     · rename_i p q hp hq
       split at h
       · rename_i v hv
         simp only[Option.some.injEq,Prod.mk.injEq]at h
         obtain⟨rfl,rfl⟩:=h
         rw[hp]at hx
         rw[hq]at hz
         have hx:=aP hx
         have hz:=aP hz
         refine Does.val (v:=v) (w':=w) (qD ho hb ?_) (Out.pure R (cu _ _))
         rw[lG has]
         simp[builtin,Builtin.max_,hx,hz,oV hv]
       · simp at h
     · simp at h
   · simp at h
 · simp at h
end Go.Proofs.YtadecgbblajifaaGreatDoor.DV
namespace Go.Proofs.YtadecgbblajifaaGreatDoor
end Go.Proofs.YtadecgbblajifaaGreatDoor
namespace Go.Proofs.YtadecgbblajifaaGreatDoor.DV
open Go
noncomputable section
section
variable {α β:Type}
def iE (l:List α):(List α->β)->β:=List.rec (motive:=λ_=>(List α->β)->β) (λk=>k []) (λv _ ih k=>ih λl=>k (v :: l)) l
theorem nk:∀ (l:List α) (k:List α->β),iE l k=k l
 | [],_=>rfl
 |v :: l,k=>nk l λl=>k (v :: l)
def fL (f:α->(α->β)->β) (l:List α):(List α->β)->β:=List.rec (motive:=λ_=>(List α->β)->β) (λk=>k []) (λv _ ih k=>f v λv=>ih λl=>k (v :: l)) l
theorem uO {f:α->(α->β)->β} (h:∀ a k,f a k=k a):∀ (l:List α) (k:List α->β),fL f l k=k l
 | [],_=>rfl
 |v :: l,k=>(h v _).trans (uO h l λl=>k (v :: l))
def fI (i:Int) (k:Int->β):β:=Int.rec (λn=>fN n λn=>k (.ofNat n)) (λn=>fN n λn=>k (.negSucc n)) i
theorem NA (i:Int) (k:Int->β):fI i k=k i:=by cases i <;> simp only[fI,kM]
def fB (b:Bool) (k:Bool->β):β:=Bool.rec (k false) (k true) b
theorem y8 (b:Bool) (k:Bool->β):fB b k=k b:=by cases b <;> rfl
def FJ (b:UInt8) (k:UInt8->β):β:=fN b.toNat λn=>k (UInt8.ofNat n)
theorem MF (b:UInt8) (k:UInt8->β):FJ b k=k b:=(kM _ _).trans (by simp)
def fK (b:IntKind) (k:IntKind->β):β:=match b with
 |.i64=>k .i64
 |.u8=>k .u8
 |.u64=>k .u64
 |b=>k b
theorem NC (b:IntKind) (k:IntKind->β):fK b k=k b:=by cases b <;> rfl
def fV:Value->(Value->β)->β
 |.bool b,k=>fB b λb=>k (.bool b)
 |.int t i,k=>fK t λt=>fI i λi=>k (.int t i)
 |.string ⟨⟨l⟩⟩,k=>fL FJ l λl=>k (.string ⟨⟨l⟩⟩)
 |v,k=>k v
theorem En (v:Value) (k:Value->β):fV v k=k v:=by
 unfold fV
 split
 · exact y8 _ _
 · rw[NC,NA]
 · exact uO MF _ _
 · rfl
def zW (p:Nat × Nat) (k:Nat × Nat->β):β:=fN p.1 λa=>fN p.2 λb=>k (a,b)
theorem MG (p:Nat × Nat) (k:Nat × Nat->β):zW p k=k p:=by simp[zW,kM]
def fD:D->(D->β)->β
 |.lf v,k=>fV v λv=>k (.lf v)
 |.ref i p,k=>fN i λi=>fL zW p λp=>k (.ref i p)
 |.own t i o n,k=>fB t λt=>fN i λi=>fN o λo=>fN n λn=>k (.own t i o n)
 |.sl t s xs,k=>fB t λt=>iE xs λxs=>k (.sl t s xs)
 |.st s xs,k=>iE xs λxs=>k (.st s xs)
 |.ar s xs,k=>iE xs λxs=>k (.ar s xs)
 |.fn f a b,k=>iE a λa=>iE b λb=>k (.fn f a b)
 |.tu a,k=>iE a λa=>k (.tu a)
 |.mo es c,k=>iE es λes=>fN c λc=>k (.mo es c)
 |d,k=>k d
theorem nG (d:D) (k:D->β):fD d k=k d:=by
 unfold fD
 split <;> simp only[En,kM,uO MG,y8,nk]
def zX:D->(D->β)->β
 |.sl t s xs,k=>fB t λt=>fL fD xs λxs=>k (.sl t s xs)
 |.st s xs,k=>fL fD xs λxs=>k (.st s xs)
 |.ar s xs,k=>fL fD xs λxs=>k (.ar s xs)
 |.tu s,k=>fL fD s λxs=>k (.tu xs)
 |d,k=>fD d k
theorem MH (d:D) (k:D->β):zX d k=k d:=by
 unfold zX
 split <;> simp only[y8,uO nG,nG]
end
structure S where
 tm:Tr D
 s:Tr D
 nx:Nat
 n:Nat
 ms:List Nat
 lg:List Nat
 rd:Bool
inductive Ex where
 |normal|ret|exit (i:Nat)|val (d:D)
inductive bA where
 |code (c:Code)
 |ops (all:Array Oper) (l:List Oper)
 |call (f:Nat) (args:List D)
abbrev R:=Option (Ex × S)
def ak (t:Tr D):ai:=λi=>aG t i
def aV (t:Tr D) (k:Nat):D:=match aG t k with
 |some d=>d
 |none => .aO
def eD (gl:Nat->D) (t:Tr D):Operand->D
 |.tmp k=>aV t k
 |.const v => .lf v
 |.global g=>gl g
 |.func f => .fn (.func f) [] []
def gG:Eff->Tr D->Tr D
 | [],t=>t
 |(i,d) :: e,t=>bz (gG e t) i d
def iy:Eff->List Nat->List Nat
 | [],l=>l
 |(i,_) :: e,l=>i :: iy e l
theorem iJ:∀ (e:Eff) (t:Tr D),ak (gG e t)=app e (ak t)
 | [],t=>rfl
 |(i,d) :: e,t=>by
  funext k
  have ih:=congrFun (iJ e t) k
  simp only[ak,gG,ic]at ih ⊢
  by_cases h:k=i
  · subst h
    rw[if_pos rfl]
    simp[app,aB]
  · rw[if_neg h,ih]
    simp only[app]
    rw[gz _ _ h]
section
variable {β:Type}
def EN (i:Nat) (d:Option D) (t:Tr D) (l:List Nat) (K:Tr D->List Nat->β):β:=match d with
 |some d=>fN i λi=>zX d λd=>ek t i (some d) λt=>K t (i :: l)
 |none=>fN i λi=>ek t i none λt=>K t (i :: l)
def pQ:Eff->Tr D->List Nat->(Tr D->List Nat->β)->β
 | [],t,l,K=>K t l
 |(i,d) :: e,t,l,K=>pQ e t l λt l=>EN i d t l K
theorem um:∀ (e:Eff) (t:Tr D) (l:List Nat) (K:Tr D->List Nat->β),pQ e t l K=K (gG e t) (iy e l)
 | [],_,_,_=>rfl
 |(i,d) :: e,t,l,K=>by
  rw[pQ,um e]
  cases d <;> simp only[EN,kM,MH,gD,gG,iy]
end
def lU {β:Type} (n:Nat) (t:Tr D) (d:Option Nat) (v:D) (K:Tr D->β):β:=match d with
 |some d=>match Nat.blt d n with
  |true=>ek t d (some v) K
  |false=>K t
 |none=>K t
def dH (n:Nat) (t:Tr D) (d:Option Nat) (v:D):Tr D:=match d with
 |some d=>match Nat.blt d n with
  |true=>bz t d (some v)
  |false=>t
 |none=>t
theorem oW {β:Type} (n:Nat) (t:Tr D) (d:Option Nat) (v:D) (K:Tr D->β):lU n t d v K=K (dH n t d v):=by
 unfold lU dH
 cases d with
 |none=>rfl
 |some d =>
  cases h:Nat.blt d n <;> simp only[h,gD]
def fill (t:Tr D):Nat->List D->Tr D
 |_,[]=>t
 |k,v :: l=>fill (bz t k (some v)) (k+1) l
def ru {β:Type} (t:Tr D):Nat->List D->(Tr D->β)->β
 |_,[],K=>K t
 |k,v :: l,K=>ek t k (some v) λt=>ru t (k+1) l K
theorem xz {β:Type} : ∀ (l:List D) (t:Tr D) (k:Nat) (K:Tr D->β),ru t k l K=K (fill t k l)
 | [],_,_,_=>rfl
 |v :: l,t,k,K=>by rw[ru,gD,xz l];rfl
def iV {α:Type} : List α->Nat->Option α
 | [],_=>none
 |a :: l,k=>match k with
  |0=>some a
  |k+1=>iV l k
theorem mV {α:Type} : ∀ (l:List α) (k:Nat),iV l k=l[k]?
 | [],_=>by simp[iV]
 |a :: l,0=>rfl
 |a :: l,k+1=>by simpa[iV]using mV l k
def yl (all:Array Oper) (t:Tr D) (j:Nat):Option (Option Bool):=match iV all.toList j with
 |some o=>match o.dst with
  |some d=>match aV t d with
   |.lf (.bool b)=>some (some b)
   |.tu _=>some none
   |_=>none
  |none=>none
 |none=>none
def want (all:Array Oper) (t:Tr D) (o:Oper):Option Bool:=match o.guard with
 |none=>some true
 |some (j,b)=>match yl all t j with
  |some (some c)=>some (c == b)
  |some none=>some false
  |none=>none
def fE (t:Tr D):Nat->Nat->List D
 |_,0=>[]
 |i,n+1=>aV t i :: fE t (i+1) n
structure Cx where
 T:bg
 gl:Nat->D
 F:Nat->Option Func
 X:Nat->Bool
 O:Nat->List D->Option D
 K:Nat->List D->D->Prop
 E:Nat->List D->ai->Nat->D->Eff->Prop
section
variable (C:Cx) (ih:bA->S->R)
def lV (b:Code):R->R
 |some (.normal,s)=>ih (.code b) s
 |r=>r
def Eo (a b:Code) (s:S):D->R
 |.lf (.bool true)=>ih (.code a) s
 |.lf (.bool false)=>ih (.code b) s
 |_=>none
def qX (i:Nat):R->R
 |some (.exit j,s)=>match Nat.beq j i with
  |true=>some (.normal,s)
  |false=>some (.exit j,s)
 |r=>r
def zG (t:Tr D) (n l:Nat) (mk:List Nat):R->R
 |some (.val _,⟨_,st,nx,_,_,lg,_⟩)=>match aG st l with
  |some (.lo _ _ _ _)=>ek st l none λst=>some (.normal,⟨t,st,nx,n,mk,l :: lg,false⟩)
  |some (.fP c)=>ek st l none λst=>ih (.code c) ⟨t,st,nx,n,mk,l :: lg,false⟩
  |_=>none
 |_=>none
def uP (f:Nat):Bool:=match C.F f with
 |some fn=>fn.body.isSome
 |none=>false
def yz (ps:Array Nat) (az bd:Code):S->D->R
 |⟨t,st,nx,n,mk,lg,false⟩,.fn (.func f) [] b=>match uP C f with
  |true=>fN (Nat.succ nx) λl=>fN (Nat.succ l) λnx'=>iE (fE t 0 n) λtl=>ek st nx (some .df) λst=>ek st l (some (.lo tl ps.toList az bd)) λst =>
   zG ih t n l (nx :: mk) (ih (.call f (.yd l :: b)) ⟨.e,st,nx',0,[],l :: nx :: lg,false⟩)
  |false=>none
 |_,_=>none
def lL (all:Array Oper) (l:List Oper) (d:Option Nat) (t:Tr D) (n:Nat) (mk:List Nat) (rd:Bool):R->R
 |some (.val v,⟨_,st,nx,_,_,lg,_⟩)=>lU n t d v λt=>ih (.ops all l) ⟨t,st,nx,n,mk,lg,rd⟩
 |_=>none
def Ep (all:Array Oper) (l:List Oper) (dst:Option Nat) (s:S):Re->R
 |some (d,e)=>match s with
  |⟨t,st,nx,n,mk,lg,rd⟩=>fD d λd=>pQ e st lg λst lg=>lU n t dst d λt=>fN (Nat.succ nx) λnx=>ih (.ops all l) ⟨t,st,nx,n,mk,lg,rd⟩
 |none=>none
def nQ {β:Type} (t:Tr D) (n:Nat):List Nat->List D->(Tr D->β)->Option β
 | [],[],K=>some (K t)
 |p :: ps,d :: ds,K=>match Nat.blt p n with
  |true=>ek t p (some d) λt=>nQ t n ps ds K
  |false=>none
 |_,_,_=>none
def oZ (i:Nat) (bd:Code):R->R
 |some (.normal,⟨t,st,nx,n,ms,lg,rd⟩)=>match aG st i with
  |some (.lo tl ps az b)=>ek st i (some (.lb tl ps az b)) λst=>ih (.code bd) ⟨t,st,nx,n,ms,i :: lg,rd⟩
  |_=>none
 |_=>none
def jQ (i:Nat):R->R
 |some (ex,⟨_,st,nx,_,_,lg,_⟩)=>match aG st i with
  |some (.lb tl ps az bd)=>match ex with
   |.normal=>ek st i (some (.lo tl ps az bd)) λst=>some (.val (.lf (.bool true)),⟨.e,st,nx,0,[],i :: lg,false⟩)
   |.ret=>ek st i (some (.fP .ret)) λst=>some (.val (.lf (.bool false)),⟨.e,st,nx,0,[],i :: lg,false⟩)
   |.exit j=>ek st i (some (.fP (.exit j))) λst=>some (.val (.lf (.bool false)),⟨.e,st,nx,0,[],i :: lg,false⟩)
   |.val _=>none
  |_=>none
 |none=>none
end
end
end Go.Proofs.YtadecgbblajifaaGreatDoor.DV
namespace Go.Proofs.YtadecgbblajifaaGreatDoor
end Go.Proofs.YtadecgbblajifaaGreatDoor
namespace Go.Proofs.YtadecgbblajifaaGreatDoor.DV
open Go
noncomputable section
section
variable (C:Cx) (ih:bA->S->R)
def qY (args:List D) (i:Nat) (st:Tr D) (nx:Nat) (lg:List Nat):R:=match aG st i with
 |some (.lo tl ps az bd)=>iE args λargs=>match ru .e 0 tl λt0=>nQ t0 tl.length ps args λt'=>jQ i (oZ ih i bd (ih (.code az) ⟨t',st,nx,tl.length,[],lg,true⟩))with
  |some r=>r
  |none=>none
 |_=>none
def yA (all:Array Oper) (l:List Oper) (dst:Option Nat) (args:List D) (i:Nat):S->R
 |⟨t,st,nx,n,ms,lg,rd⟩=>lL ih all l dst t n ms rd (qY ih args i st nx lg)
def yB (all:Array Oper) (l:List Oper) (dst:Option Nat) (f:Nat) (az:List D):S->R
 |⟨t,st,nx,n,ms,lg,rd⟩=>iE az λaz=>lL ih all l dst t n ms rd (ih (.call f az) ⟨.e,st,nx,0,[],lg,false⟩)
def Er (all:Array Oper) (l:List Oper) (dst:Option Nat) (args:List D) (s:S):D->R
 |.fn (.func f) a b=>yB ih all l dst f (a ++ args ++ b) s
 |.yd i=>yA ih all l dst args i s
 |_=>none
def uF (all:Array Oper) (l:List Oper) (dst:Option Nat) (s:S) (o:Op):R:=Ep ih all l dst s (eT C.T (ak s.s) s.nx (eD C.gl s.tm) o)
def EO (all:Array Oper) (l:List Oper) (dst:Option Nat) (s:S) (c:Call):Callee->R
 |.value f=>Er ih all l dst (dmap (eD C.gl s.tm) c.args.toList) s (eD C.gl s.tm f)
 |_=>uF C ih all l dst s (.call c)
def FK (all:Array Oper) (l:List Oper) (dst:Option Nat) (s:S):Op->R
 |.call c=>EO C ih all l dst s c c.callee
 |o=>uF C ih all l dst s o
def y9 (all:Array Oper) (l:List Oper) (dst:Option Nat):S->R
 |⟨t,st,nx,n,ms,lg,rd⟩=>lU n t dst (.tu []) λt=>ih (.ops all l) ⟨t,st,nx,n,ms,lg,rd⟩
def vw (all:Array Oper) (s:S):List Oper->R
 | []=>some (.normal,s)
 |o :: l=>match want all s.tm o with
  |some true=>FK C ih all l o.dst s o.op
  |some false=>y9 ih all l o.dst s
  |none=>none
def iA (T:bg) (σ t:Tr D):List ResultVar->Option (List D)
 | []=>some []
 |.tmp k :: l=>match iA T σ t l with
  |some r=>some (aV t k :: r)
  |none=>none
 |.cell a ty :: l=>match T ty with
  |some y=>match ng y (ak σ) (aV t a),iA T σ t l with
   |some d,some r=>some (d :: r)
   |_,_=>none
  |none=>none
def lW:List D->D
 | [d]=>d
 |ds => .tu ds
def ry:List Nat->S->Option S
 | [],s=>some s
 |j :: l,⟨t,st,nx,n,ms,lg,rd⟩=>match aG st j with
  |some .df=>ek st j none λst=>ry l ⟨t,st,nx,n,ms,j :: lg,rd⟩
  |_=>none
def rz (fn:Func) (s:S):R:=match ry s.ms s with
 |some ⟨t,st,nx,_,_,lg,_⟩=>match iA C.T st t fn.results.toList with
  |some ds=>fD (lW ds) λd=>some (.val d,⟨.e,st,nx,0,[],lg,false⟩)
  |none=>none
 |none=>none
def pR (fn:Func):R->R
 |some (.normal,s')=>rz C fn s'
 |some (.ret,s')=>rz C fn s'
 |_=>none
def EP (s:S):List D->R
 | [.lf (.string b),.lf (.int .u8 c)]=>match nN (Extern.BytealgIndexByte.indexByte #[.string b,.int .u8 c])with
  |some v=>fV v λv=>some (.val (.lf v),⟨.e,s.s,s.nx,0,[],s.lg,false⟩)
  |none=>none
 |_=>none
def uQ (f:Nat) (args:List D) (s:S) (fn:Func):R:=match fn.body with
 |some c=>match Nat.ble args.length fn.ntmps with
  |true=>ru .e 0 args λt=>pR C fn (ih (.code c) ⟨t,s.s,s.nx,fn.ntmps,[],s.lg,false⟩)
  |false=>none
 |none=>match C.X f with
  |true=>EP s args
  |false=>none
variable (dr:(bA->S->R)->Array Oper->S->R)
def zb (s:S):Code->R
 |.skip=>some (.normal,s)
 |.label _=>some (.normal,s)
 |.region _ ops false=>ih (.ops ops ops.toList) s
 |.region _ ops true=>dr ih ops s
 |.seq a b=>lV ih b (ih (.code a) s)
 |.cond c a b=>Eo ih a b s (eD C.gl s.tm c)
 |.block i b=>qX i (ih (.code b) s)
 |.loop b=>lV ih (.loop b) (ih (.code b) s)
 |.exit i=>some (.exit i,s)
 |.ret=>some (.ret,s)
 |.rangeFunc g ps az bd=>yz C ih ps az bd s (eD C.gl s.tm g)
 |_=>none
def step (s:S):bA->R
 |.code c=>zb C ih dr s c
 |.ops all l=>vw C ih all s l
 |.call f args=>match C.O f args with
  |some d=>some (.val d,⟨.e,s.s,s.nx,0,[],s.lg,false⟩)
  |none=>match C.F f with
   |some fn=>uQ C ih f args s fn
   |none=>none
def ev (n:Nat):bA->S->R:=Nat.rec (λ_ _=>none) (λ_ ih tk s=>step C ih dr s tk) n
theorem qO (n:Nat) (tk:bA) (s:S):ev C dr (n+1) tk s=step C (ev C dr n) dr s tk:=rfl
end
def MK (g:G):List Nat->List Deferred->Prop
 | [],ds=>ds=[]
 |j :: l,ds=>∃ loc d ds',ds=d :: ds'/\g.aa j=some loc/\d.target = .collected loc.b/\MK g l ds'
theorem MK.mono {g h:G} (le:Le g h):∀ (l:List Nat) (ds:List Deferred),MK g l ds->MK h l ds
 | [],_,H=>H
 |_ :: l,_,⟨loc,d,ds',h1,h2,h3,h4⟩=>⟨loc,d,ds',h1,le.aa _ _ h2,h3,MK.mono le l ds' h4⟩
structure St (C:Cx) (s:S) (g:G) (a:Act) (w:World):Prop where
 rel:Rel g (ak s.s) w
 tm:∀ t,VR g (aV s.tm t) (a.tmps.getD t undef)
 size:a.tmps.size=s.n
 fresh:∀ i,s.nx<=i->g.aa i=none
 gl:∀ i,VR g (C.gl i) (.pointer (some ⟨i,0,none⟩))
 ms:MK g s.ms a.defers
structure Ch (s s':S):Prop where
 nx:s.nx<=s'.nx
 lg:∀ i∈s.lg,i∈s'.lg
 same:∀ i,i ∉ s'.lg->aG s'.s i=aG s.s i
theorem Ch.refl (s:S):Ch s s:=⟨Nat.le_refl _,λ_ h=>h,λ_ _=>rfl⟩
theorem Ch.trans {a b c:S} (h:Ch a b) (k:Ch b c):Ch a c:=⟨Nat.le_trans h.nx k.nx,λi hi=>k.lg i (h.lg i hi),λi hi=>(k.same i hi).trans (h.same i λh'=>hi (k.lg i h'))⟩
abbrev Nw (s:S):Nat->Prop:=λi=>s.nx<=i
theorem St.get {C:Cx} {s:S} {g:G} {a:Act} {w:World} (h:St C s g a w) (x:Operand):VR g (eD C.gl s.tm x) (a.eval x):=by
 cases x with
 |tmp t=>exact h.tm t
 |const v=>exact cu _ _
 |global i=>exact h.gl i
 |func f =>
  simp only[eD,VR,CR,Act.eval]
  exact⟨[],[],rfl,by simp[au],by simp[au]⟩
theorem VR.mono {g h:G} (le:Le g h) {d:D} {v:Value} (H:VR g d v):VR h d v:=CR.mono le _ _ _ H
theorem mW {g:G} {t:Tr D} {a:Act} {n:Nat} {dst:Option Nat} {d:D} {v:Value} (hs:a.tmps.size=n) (H:∀ k,VR g (aV t k) (a.tmps.getD k undef)) (hd:VR g d v):∀ k,VR g (aV (dH n t dst d) k) ((a.put dst v).tmps.getD k undef):=by
 intro k
 cases dst with
 |none=>exact H k
 |some j =>
  simp only[dH,Act.put]
  by_cases hj:j<n
  · have h1:Nat.blt j n=true:=Nat.ble_eq_true_of_le hj
    simp only[h1,aV,ic]
    by_cases hk:k=j
    · subst hk
      have:(a.tmps.setIfInBounds k v).getD k undef=v:=by
       simp[Array.getD,hs,hj]
      rw[if_pos rfl,this]
      exact hd
    · have:(a.tmps.setIfInBounds j v).getD k undef=a.tmps.getD k undef:=by
       simp only[Array.getD_eq_getD_getElem?,Array.getElem?_setIfInBounds,if_neg (Ne.symm hk)]
      rw[if_neg hk,this]
      exact H k
  · have h1:Nat.blt j n=false:=by
     cases hb:Nat.blt j n with
     |false=>rfl
     |true=>exact absurd (Nat.le_of_ble_eq_true hb) hj
    have:a.tmps.setIfInBounds j v=a.tmps:=by
     apply Array.ext_getElem?
     intro i
     rw[Array.getElem?_setIfInBounds]
     split
     · rename_i h;subst h
       split
       · omega
       · rename_i h2;rw[Array.getElem?_eq_none (by omega)]
     · rfl
    simp only[h1,this]
    exact H k
end
end Go.Proofs.YtadecgbblajifaaGreatDoor.DV
namespace Go.Proofs.YtadecgbblajifaaGreatDoor
end Go.Proofs.YtadecgbblajifaaGreatDoor
