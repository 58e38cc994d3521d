import Derived.Test.YtnobahchcongnaaGreatF05
set_option linter.unusedSimpArgs false
set_option linter.unusedVariables false
set_option maxRecDepth 100000
set_option maxHeartbeats 25600000
namespace Go.Proofs.YtnobahchcongnaaGreat
section
open Go.RowKit
inductive Sp where
 |c (v:Value)
 |p (f:Value->World->Prop)
 |n
 |al (st iv:Nat) (z:Array Value) (T:TypeId)
 |st (ia:Nat)
 |rs (R iv:Nat) (z:Array Value) (T:TypeId)
def Sp.k:Sp->Kd
 |.al a b z T => .al a b z T
 |.st a => .st a
 |.rs R b z T => .rs R b z T
 |_ => .op
def Sp.P:Sp->Value->World->Prop
 |.c v=>Pc v
 |.p f=>f
 |_=>dC
def sv:Sp->Value->Value
 |.c v,_=>v
 |_,u=>u
def rg:Nat->List (Option Tmp)->List Nat
 |_,[]=>[]
 |k,_ :: r=>k :: rg (k+1) r
theorem zS:((∀ P o a w R,Gives P o a w R=rC P R ((execOp a.eval o).run P w))/\(∀ ds vs a,aR ds vs [] a=a)/\(∀ ds vs j r a,aR ds vs (j :: r) a=aR ds vs r (a.put (ds.getD j none) (vs j)))/\(∀ (a:Act) (d:Tmp) v,a.put (some d) v = { a with tmps:=a.tmps.setIfInBounds d v })/\(∀ (a:Act) v,a.put none v=a)/\(∀ (α:Type) (x:α) l d,(x :: l).getD 0 d=x)/\(∀ (α:Type) (x:α) l n d,(x :: l).getD (n+1) d=l.getD n d)/\(∀ (α:Type) (l:List α) i a,l.toArray.setIfInBounds i a=(l.set i a).toArray)/\(∀ (α:Type) (x:α) l a,(x :: l).set 0 a=a :: l)/\(∀ (α:Type) (x:α) l n a,(x :: l).set (n+1) a=x :: l.set n a))/\(∀ v u,sv (.c v) u=v)/\(∀ f u,sv (.p f) u=u)/\(∀ u,sv .n u=u)/\(∀ a b z T u,sv (.al a b z T) u=u)/\(∀ a u,sv (.st a) u=u)/\(∀ a b z T u,sv (.rs a b z T) u=u)/\(∀ v,Sp.P (.c v)=Pc v)/\(∀ f,Sp.P (.p f)=f)/\Sp.P .n=dC/\(∀ k,rg k []=[])/\∀ k d r,rg k (d :: r)=k :: rg (k+1) r:=⟨⟨λ_ _ _ _ _=>rfl,λ_ _ _=>rfl,λ_ _ _ _ _=>rfl,λ_ _ _=>rfl,λ_ _=>rfl,λ_ _ _ _=>rfl,λ_ _ _ _ _=>rfl,λ_ l i a=>List.setIfInBounds_toArray l i a,λ_ _ _ _=>rfl,λ_ _ _ _ _=>rfl⟩,λ_ _=>rfl,λ_ _=>rfl,λ_=>rfl,λ_ _ _ _ _=>rfl,λ_ _=>rfl,λ_ _ _ _ _=>rfl,λ_=>rfl,λ_=>rfl,rfl,λ_=>rfl,λ_ _ _=>rfl⟩
def pJ (T:List Nat) (n:Nat):List Bool:=(List.range n).map T.contains
theorem Qh {T:List Nat} {n j:Nat} (h:T.contains j=false):(pJ T n).getD j false=false:=by
 unfold pJ;rcases Nat.lt_or_ge j n with hj|hj
 · simp[List.getD,hj];simpa using h
 · simp[List.getD,Nat.not_lt.2 hj]
def AS (Zs:List (Array Value × TypeId)) (T:List Nat):Nat->List Sp->Prop
 |_,[]=>True
 |i,.p f :: r=>(qd f/\(T.contains i=false->uF Zs f))/\AS Zs T (i+1) r
 |i,_ :: r=>AS Zs T (i+1) r
theorem AS.all {Zs:List (Array Value × TypeId)} {T:List Nat} : ∀ (l:List Sp) (i:Nat),AS Zs T i l->xL Zs ((List.range' i l.length).map T.contains) (l.map Sp.P)
 | [],_,_=>trivial
 |.p _ :: r,i,h=>⟨h.1,AS.all r (i+1) h.2⟩
 |.c v :: r,i,h=>⟨⟨iN v,λ_=>_C _ v⟩,AS.all r (i+1) h⟩
 |.n :: r,i,h=>⟨⟨xM,λ_=>Cc _⟩,AS.all r (i+1) h⟩
 |.al .. :: r,i,h=>⟨⟨xM,λ_=>Cc _⟩,AS.all r (i+1) h⟩
 |.st .. :: r,i,h=>⟨⟨xM,λ_=>Cc _⟩,AS.all r (i+1) h⟩
 |.rs .. :: r,i,h=>⟨⟨xM,λ_=>Cc _⟩,AS.all r (i+1) h⟩
theorem wO:∀ l:List Sp,KP (l.map Sp.k) (l.map Sp.P)
 | []=>trivial
 |.p _ :: r=>⟨Kr,wO r⟩
 |.c _ :: r=>⟨Kr,wO r⟩
 |.n :: r=>⟨Kr,wO r⟩
 |.al .. :: r=>⟨Kk,wO r⟩
 |.st .. :: r=>⟨Kk,wO r⟩
 |.rs .. :: r=>⟨Kk,wO r⟩
def rT (T:List Nat) (Ss:List Sp):Bool:=(List.range Ss.length).all λj=>match Ss.getD j .n with
 |.c _ => !T.contains j
 |_=>true
theorem QK {T:List Nat} {Ss:List Sp} (h:rT T Ss=true) {j:Nat} {v:Value} (hv:Ss.getD j .n = .c v):T.contains j=false/\j<Ss.length:=by
 have hj:j<Ss.length:=by
  rcases Nat.lt_or_ge j Ss.length with hj|hj
  · exact hj
  · rw[List.getD,List.getElem?_eq_none hj]at hv;cases hv
 have:=List.all_eq_true.1 h j (List.mem_range.2 hj);rw[hv]at this;exact⟨by simpa using this,hj⟩
theorem Cw (Ss:List Sp) (j:Nat):(Ss.map Sp.P).getD j dC=(Ss.getD j .n).P:=by
 simp only[List.getD,List.getElem?_map];cases Ss[j]? <;> rfl
theorem QU {s:Sp} {v:Value} {x:World} (h:∀ c,s = .c c->s.P v x):sv s v=v:=by
 cases s with
 |c u=>exact(h u rfl).symm
 |_=>rfl
section
variable {P:Program} {Q:Exit->Act->World->Prop}
structure GE (T:List Nat) (Ss:List Sp) (w:World) (vs:Nat->Value) (x:World):Prop where
 g:vZ (pJ T Ss.length) (Ss.map Sp.k) (Ss.map Sp.P) w vs x
 c:∀ j,sv (Ss.getD j .n) (vs j)=vs j
theorem GE.val {T:List Nat} {Ss:List Sp} {w:World} {vs:Nat->Value} {x:World} (h:GE T Ss w vs x) (j:Nat) (hj:j<(Ss.map Sp.k).length:=by simp) (hk:(pJ T Ss.length).getD j false=false:=by rfl):((Ss.map Sp.P).getD j dC) (vs j) x:=h.g.val j hj hk
theorem GE.box {T:List Nat} {Ss:List Sp} {w:World} {vs:Nat->Value} {x:World} (h:GE T Ss w vs x) (i:Nat) {st iv:Nat} {z:Array Value} {t:TypeId} (hi:(Ss.map Sp.k).getD i .op = .al st iv z t:=by rfl):∃ g,vs i = .pointer (some ⟨g,0,none⟩)/\w.heap.size<=g/\g<x.heap.size/\x.heap[g]? = some (.cells (bJ (sv (Ss.getD iv .n) (vs iv))) t (0,0)):=by
 rw[h.c];exact h.g.box i st iv z t hi
theorem GE.res {T:List Nat} {Ss:List Sp} {w:World} {vs:Nat->Value} {x:World} (h:GE T Ss w vs x) (i:Nat) {R iv:Nat} {z:Array Value} {t:TypeId} (hi:(Ss.map Sp.k).getD i .op = .rs R iv z t:=by rfl):x.heap[R]? = some (.cells (bJ (sv (Ss.getD iv .n) (vs iv))) t (0,0)):=by
 rw[h.c];exact h.g.res i R iv z t hi
theorem GE.jU {T:List Nat} {Ss:List Sp} {w:World} {vs:Nat->Value} {x:World} (h:GE T Ss w vs x) (hn:Dx (Ss.map Sp.k)=true:=by rfl):Grow w x:=h.g.grow hn
theorem GE.grow {T:List Nat} {Ss:List Sp} {w:World} {vs:Nat->Value} {x:World} (h:GE T Ss w.drew vs x) (hn:Dx (Ss.map Sp.k)=true:=by rfl):Grow w x:=kM (h.g.grow hn)
theorem GE.uJ {T:List Nat} {Ss:List Sp} {w:World} {vs:Nat->Value} {x:World} (h:GE T Ss w vs x) (n:Nat) {R iv:Nat} {z:Array Value} {t:TypeId} (hn:(Ss.map Sp.k).getD n .op = .rs R iv z t:=by rfl) (h1:((List.range (Ss.map Sp.k).length).all λj=>j == n || !((Ss.map Sp.k).getD j .op).oh)=true:=by rfl):Mv (λb=>b=R) w x:=h.g.last hn h1
theorem GE.last {T:List Nat} {Ss:List Sp} {w:World} {vs:Nat->Value} {x:World} (h:GE T Ss w.drew vs x) (n:Nat) {R iv:Nat} {z:Array Value} {t:TypeId} (hn:(Ss.map Sp.k).getD n .op = .rs R iv z t:=by rfl) (h1:((List.range (Ss.map Sp.k).length).all λj=>j == n || !((Ss.map Sp.k).getD j .op).oh)=true:=by rfl):Mv (λb=>b=R) w x:=Mv.trans ((Mv.refl _ _).drew) (h.g.last hn h1) (λ_ e => .inl e)
theorem GE.of {T:List Nat} {Ss:List Sp} {w:World} {vs:Nat->Value} {x:World} (h:vZ (pJ T Ss.length) (Ss.map Sp.k) (Ss.map Sp.P) w vs x) (hc:rT T Ss=true):GE T Ss w vs x :=
 ⟨h,λj=>QU (x:=x) λc e=>by
  obtain⟨h1,h2⟩:=QK hc e;have:=h.val j (by simpa using h2) (Qh h1);rwa[Cw]at this⟩
structure rH (P:Program) (ds:List (Option Tmp)) (ws ns:List (List Nat)) (T:List Nat) (Ss:List Sp) (w:World) (a:Act) (i:Nat) (o:Oper):Prop where
 s:GStep P ds ws ns (pJ T Ss.length) (Ss.map Sp.k) (Ss.map Sp.P) w a i o
theorem wg {id:Nat} {a:Act} {w:World} {l:List Oper} (N:Nat) (ds:List (Option Tmp)) (ns:List (List Nat)) (T:List Nat) (Ss:List Sp) (mD:AS ((Ss.map Sp.k).filterMap Kd.zero) T 0 Ss) (hR0:∀ i R iv z t,(Ss.map Sp.k).getD i .op = .rs R iv z t->R<w.drew.heap.size/\w.drew.heap[R]? = some (.cells z t (0,0)))
 (hstep:kP (rH P ds (dM l.toArray) ns T Ss w.drew a) 0 l)
 (hend:∀ (vs:Nat->Value) (x:World),GE T Ss w.drew vs x->Q .normal (aR ds (λj=>sv (Ss.getD j .n) (vs j)) (rg 0 ds) a) x)
 (hm:P.follows .mixedOrders=true:=by kernel_rfl) (hN:a.tmps.size=N:=by rfl) (hok:gB N l.toArray ds (dM l.toArray) ns []=true:=by kernel_rfl) (hkd:AV (dM l.toArray) (pJ T Ss.length) (Ss.map Sp.k)=true:=by kernel_rfl) (hlen:(Ss.map Sp.k).length=l.length:=by rfl) (hr:rg 0 ds=List.range l.length:=by rfl) (hc:rT T Ss=true:=by kernel_rfl):(Code.region id l.toArray true).wp P Q a w :=
 VN hm N ds (dM l.toArray) ns (pJ T Ss.length) (Ss.map Sp.k) (Ss.map Sp.P) hN hok hkd hlen (wO Ss) (by have:=mD.all;rwa[← List.range_eq_range']at this) hR0 (BH (λ_ _ h=>h.s) _ _ hstep) λvs x h=>by
  have h1:=GE.of h hc;have h2:=hend vs x h1;rwa[hr,Av _ _ λj _=>h1.c j]at h2
theorem fI {id:Nat} {a:Act} {w:World} {l:List Oper} (N:Nat) (ds:List (Option Tmp)) (ns:List (List Nat)) (T:List Nat) (Ss:List Sp) (mD:AS ((Ss.map Sp.k).filterMap Kd.zero) T 0 Ss) (hR0:∀ i R iv z t,(Ss.map Sp.k).getD i .op = .rs R iv z t->R<w.heap.size/\w.heap[R]? = some (.cells z t (0,0)))
 (hstep:kP (rH P ds (dM l.toArray) ns T Ss w a) 0 l)
 (hend:∀ (vs:Nat->Value) (x:World),GE T Ss w vs x->Q .normal (aR ds (λj=>sv (Ss.getD j .n) (vs j)) (rg 0 ds) a) x)
 (hN:a.tmps.size=N:=by rfl) (hok:gB N l.toArray ds (dM l.toArray) ns []=true:=by kernel_rfl) (hkd:AV (dM l.toArray) (pJ T Ss.length) (Ss.map Sp.k)=true:=by kernel_rfl) (hlen:(Ss.map Sp.k).length=l.length:=by rfl) (hr:rg 0 ds=List.range l.length:=by rfl) (hc:rT T Ss=true:=by kernel_rfl):(Code.region id l.toArray false).wp P Q a w :=
 VH N ds (dM l.toArray) ns (pJ T Ss.length) (Ss.map Sp.k) (Ss.map Sp.P) hN hok hkd hlen (wO Ss) (by have:=mD.all;rwa[← List.range_eq_range']at this) hR0 (BH (λ_ _ h=>h.s) _ _ hstep) λvs x h=>by
  have h1:=GE.of h hc;have h2:=hend vs x h1;rwa[hr,Av _ _ λj _=>h1.c j]at h2
end
theorem gw {w x:World} (h:Mv (λb=>w.drew.heap.size<=b) w.drew x):Grow w x:=kM (kQ h)
section
variable {P:Program} {ds:List (Option Tmp)} {ws ns:List (List Nat)} {T:List Nat} {Ss:List Sp} {w:World} {a:Act} {i:Nat} {o:Oper}
def uS (ws:List (List Nat)) (T:List Nat) (Ss:List Sp) (i:Nat) (vs:Nat->Value) (x:World):Prop:=∀ j∈ws.getD i [],((pJ T Ss.length).getD j false=true->Dw ws (Ss.map Sp.k) i=true)->((Ss.map Sp.P).getD j dC) (vs j) x
theorem uS.eq {vs:Nat->Value} {x:World} (h:uS ws T Ss i vs x) (hc:rT T Ss=true) (hs:((ns.getD i []).all λj=>(ws.getD i []).contains j)=true):aR ds vs (ns.getD i []) a=aR ds (λj=>sv (Ss.getD j .n) (vs j)) (ns.getD i []) a :=
 Av _ _ λj hj=>(QU (x:=x) λc e=>by
  have:=h j (by simpa using List.all_eq_true.1 hs j hj) (λhk=>by rw[Qh (QK hc e).1]at hk;cases hk);rwa[Cw]at this).symm
theorem pq {vs:Nat->Value} {x:World} (h:uS ws T Ss i vs x) (j:Nat) (m:(ws.getD i []).contains j=true:=by kernel_rfl) (k:(pJ T Ss.length).getD j false=true->Dw ws (Ss.map Sp.k) i=true:=by intro _;kernel_rfl):((Ss.map Sp.P).getD j dC) (vs j) x:=h j (by simpa using m) k
theorem ox (h:∀ (vs:Nat->Value) (x:World),(zF ws (Ss.map Sp.k) i=true->Mv (λb=>w.heap.size<=b) w x)->uS ws T Ss i vs x->Gives P o (aR ds (λj=>sv (Ss.getD j .n) (vs j)) (ns.getD i []) a) x (GR x (Ss.getD i .n).P)) (hk:(Ss.map Sp.k).getD i .op = .op:=by rfl) (hc:rT T Ss=true:=by kernel_rfl) (hs:((ns.getD i []).all λj=>(ws.getD i []).contains j)=true:=by kernel_rfl):rH P ds ws ns T Ss w a i o :=
 ⟨_e hk λvs x hx hP=>by rw[uS.eq hP hc hs,Cw];exact h vs x hx hP⟩
theorem oo (h:∀ (vs:Nat->Value) (x:World),uS ws T Ss i vs x->Gives P o (aR ds (λj=>sv (Ss.getD j .n) (vs j)) (ns.getD i []) a) x (GR x (Ss.getD i .n).P)) (hk:(Ss.map Sp.k).getD i .op = .op:=by rfl) (hc:rT T Ss=true:=by kernel_rfl) (hs:((ns.getD i []).all λj=>(ws.getD i []).contains j)=true:=by kernel_rfl):rH P ds ws ns T Ss w a i o:=ox (λvs x _=>h vs x) hk hc hs
theorem og (h:∀ (vs:Nat->Value) (x:World),Grow w x->uS ws T Ss i vs x->Gives P o (aR ds (λj=>sv (Ss.getD j .n) (vs j)) (ns.getD i []) a) x (GR x (Ss.getD i .n).P)) (hk:(Ss.map Sp.k).getD i .op = .op:=by rfl) (hr:zF ws (Ss.map Sp.k) i=true:=by kernel_rfl) (hc:rT T Ss=true:=by kernel_rfl) (hs:((ns.getD i []).all λj=>(ws.getD i []).contains j)=true:=by kernel_rfl):rH P ds ws ns T Ss w.drew a i o:=ox (λvs x hx=>h vs x (gw (hx hr))) hk hc hs
theorem om (h:∀ (vs:Nat->Value) (x:World),Grow w x->uS ws T Ss i vs x->Gives P o (aR ds (λj=>sv (Ss.getD j .n) (vs j)) (ns.getD i []) a) x (GR x (Ss.getD i .n).P)) (hk:(Ss.map Sp.k).getD i .op = .op:=by rfl) (hr:zF ws (Ss.map Sp.k) i=true:=by kernel_rfl) (hc:rT T Ss=true:=by kernel_rfl) (hs:((ns.getD i []).all λj=>(ws.getD i []).contains j)=true:=by kernel_rfl):rH P ds ws ns T Ss w a i o:=ox (λvs x hx=>h vs x (kQ (hx hr))) hk hc hs
theorem ok {K:World->Prop} (HK:RowKit.Hid (∀ y,Grow w y->K y)) (h:∀ (vs:Nat->Value) (x:World),Grow w x->RowKit.Hid (K x)->uS ws T Ss i vs x->Gives P o (aR ds (λj=>sv (Ss.getD j .n) (vs j)) (ns.getD i []) a) x (GR x (Ss.getD i .n).P)) (hk:(Ss.map Sp.k).getD i .op = .op:=by rfl) (hr:zF ws (Ss.map Sp.k) i=true:=by kernel_rfl) (hc:rT T Ss=true:=by kernel_rfl) (hs:((ns.getD i []).all λj=>(ws.getD i []).contains j)=true:=by kernel_rfl):rH P ds ws ns T Ss w.drew a i o:=og (λvs x hx=>h vs x hx (ł (HK.out x hx))) hk hr hc hs
theorem ok0 {K:World->Prop} (HK:RowKit.Hid (∀ y,Grow w y->K y)) (h:∀ (vs:Nat->Value) (x:World),Grow w x->RowKit.Hid (K x)->uS ws T Ss i vs x->Gives P o (aR ds (λj=>sv (Ss.getD j .n) (vs j)) (ns.getD i []) a) x (GR x (Ss.getD i .n).P)) (hk:(Ss.map Sp.k).getD i .op = .op:=by rfl) (hr:zF ws (Ss.map Sp.k) i=true:=by kernel_rfl) (hc:rT T Ss=true:=by kernel_rfl) (hs:((ns.getD i []).all λj=>(ws.getD i []).contains j)=true:=by kernel_rfl):rH P ds ws ns T Ss w a i o:=om (λvs x hx=>h vs x hx (ł (HK.out x hx))) hk hr hc hs
theorem os {ia st iv:Nat} {z:Array Value} {t:TypeId} (h:∀ (vs:Nat->Value) (x:World) (g:Nat),vs ia = .pointer (some ⟨g,0,none⟩)->x.heap[g]? = some (.cells z t (0,0))->(Ss.getD iv .n).P (vs iv) x->Gives P o (aR ds vs (ns.getD i []) a) x (λ_ y=>y.heap[g]? = some (.cells (bJ (vs iv)) t (0,0))/\Mv (λb=>b=g) x y)) (hk:(Ss.map Sp.k).getD i .op = .st ia:=by rfl) (hk2:(Ss.map Sp.k).getD ia .op = .al st iv z t:=by rfl):rH P ds ws ns T Ss w a i o :=
 ⟨_j hk hk2 (by simpa only[Cw]using h)⟩
theorem oz {st iv:Nat} {z:Array Value} {t:TypeId} (h:∀ (vs:Nat->Value) (x:World),Gives P o (aR ds vs (ns.getD i []) a) x (λv y=>v = .pointer (some ⟨x.heap.size,0,none⟩)/\y=x.alloc (.cells z t))) (hk:(Ss.map Sp.k).getD i .op = .al st iv z t:=by rfl):rH P ds ws ns T Ss w a i o:=⟨_i hk h⟩
theorem iQ {R iv:Nat} {z:Array Value} {t:TypeId} (h:∀ (vs:Nat->Value) (x:World),x.heap[R]? = some (.cells z t (0,0))->(Ss.getD iv .n).P (vs iv) x->Gives P o (aR ds vs (ns.getD i []) a) x (λ_ y=>y.heap[R]? = some (.cells (bJ (vs iv)) t (0,0))/\Mv (λb=>b=R) x y)) (hk:(Ss.map Sp.k).getD i .op = .rs R iv z t:=by rfl):rH P ds ws ns T Ss w a i o :=
 ⟨_k hk (by simpa only[Cw]using h)⟩
theorem gk {x:World} {v:Value} {p:Value->World->Prop} (h:p v x):rC P (GR x p) (.ok (.value v) x):=⟨Mv.refl _ _,h⟩
theorem gl {x:World} {v:Value} {p:Value->World->Prop} {B:Obj} (h:p v (x.alloc B)):rC P (GR x p) (.ok (.value v) (x.alloc B)):=⟨(Mv.refl _ _).alloc _,h⟩
theorem gc {x:World} {v c:Value} (h:v=c:=by rfl):GR x (Pc c) v x:=⟨Mv.refl _ _,h⟩
theorem sH {Zs:List (Array Value × TypeId)} {b:Bool} {F:Nat->Value} {B:Nat->Obj} (hb:b=true:=by rfl):qd (λv y=>∃ g,v=F g/\y.heap[g]? = some (B g))/\(b=false->uF Zs (λv y=>∃ g,v=F g/\y.heap[g]? = some (B g))):=⟨λv x y hg h=>by obtain⟨g,hv,hb⟩:=h;exact⟨g,hv,ai hb hg⟩,λh=>by rw[hb]at h;cases h⟩
theorem sR {Zs:List (Array Value × TypeId)} {b:Bool} {α:Type} {n:Nat} {f:α->List Value} {F U:Nat->Value} {l:List α} (hb:b=true:=by rfl):qd (λv y=>∃ g,v=F g/\ax n f y (U g) l)/\(b=false->uF Zs (λv y=>∃ g,v=F g/\ax n f y (U g) l)):=⟨λv x y hg h=>by obtain⟨g,hv,hb⟩:=h;exact⟨g,hv,hb.later hg⟩,λh=>by rw[hb]at h;cases h⟩
end
end
section
open Go.RowKit Go.Instr
inductive Tree where
 |mk (kind num:Int) (name:ByteArray) (kids:List Tree)
namespace Tree
def kind:Tree->Int | .mk k _ _ _=>k
def num:Tree->Int | .mk _ n _ _=>n
def name:Tree->ByteArray | .mk _ _ s _=>s
def kids:Tree->List Tree | .mk _ _ _ l=>l
end Tree
def eD (n:Int) (s:ByteArray):Bool:=n == 0 && s.size == 0
def fF (n:Int) (s:ByteArray):Bool:=n == 0 && mR s
mutual
def aM:Tree->Bool
 |.mk k n s l =>
  if k=1 then decide (0<=n) && (s.size == 0 && l.isEmpty)
  else if k=2\/k=4\/k=5 then fF n s && l.isEmpty
  else if k=3 then fF n s && (l.length == 1 && mf l)
  else if k=6\/k=7 then eD n s && (l.length == 1 && mf l)
  else if 8<=k/\k<=23 then eD n s && (l.length == 2 && mf l)
  else false
def mf:List Tree->Bool
 | []=>true
 |t :: l=>aM t && mf l
end
def ik (t:Tree):Bool:=(t.kind == 2 || t.kind == 3) && aM t
def mh (t:Tree):Bool:=t.kind == 2 && aM t
def bV (ps:List (Tree->Bool)) (l:List Tree):Bool:=match ps,l with
 | [],[]=>true
 |p :: ps,t :: l=>p t && bV ps l
 |_,_=>false
mutual
def bP:Tree->Bool
 |.mk k n s l =>
  if k=40\/k=41\/k=42\/k=56 then eD n s && bV [ik,aM] l
  else if k=43 then eD n s && bV [ik,ik] l
  else if k=44\/k=45 then fF n s && bV [ik] l
  else if k=46\/k=47\/k=48\/k=49 then eD n s && bV [ik] l
  else if k=50\/k=51 then fF n s && (decide (l.length<=8) && l.all mh)
  else if k=52\/k=53 then eD n s && (bV [aM,λ_=>true,λ_=>true,aM] l && ((qA l).getD 1 false && (qA l).getD 2 false))
  else if k=54 then fF n s && (bV [aM,λ_=>true,aM] l && (qA l).getD 1 false)
  else if k=55 then fF n s && (l.length == 1 && (qA l).getD 0 false)
  else false
def bW:Tree->Bool
 |.mk k n s l=>k == 57 && (eD n s && yR l)
def qA:List Tree->List Bool
 | []=>[]
 |t :: l=>bW t :: qA l
def yR:List Tree->Bool
 | []=>true
 |t :: l=>bP t && yR l
end
mutual
def bA:Tree->Nat
 |.mk _ _ _ l=>1+dz l
def dz:List Tree->Nat
 | []=>0
 |t :: l=>bA t+dz l
end
mutual
def iJ:Tree->Nat
 |.mk _ _ _ l=>jR l+1
def jR:List Tree->Nat
 | []=>0
 |t :: l=>max (iJ t) (jR l)
end
theorem Fh (l:List Tree):qA l=l.map bW:=by
 induction l with
 |nil=>rw[qA];rfl
 |cons t l ih=>rw[qA,ih];rfl
theorem I1 (l:List Tree):yR l=l.all bP:=by
 induction l with
 |nil=>rw[yR];rfl
 |cons t l ih=>rw[yR,ih];rfl
theorem Od (l:List Tree):mf l=l.all aM:=by
 induction l with
 |nil=>rw[mf];rfl
 |cons t l ih=>rw[mf,ih];rfl
inductive ae where
 |mk (kind num:Int) (name:ByteArray) (kv:Value) (kids:List ae)
def ae.cells:ae->List Value
 |.mk k n s kv _=>[.int .u8 k,.int .i64 n,.string s,kv]
def ae.kids:ae->List ae
 |.mk _ _ _ _ l=>l
def ae.val:ae->Value
 |.mk k n s kv _ => .agg #[.int .u8 k,.int .i64 n,.string s,kv]
mutual
def ae.t:ae->Tree
 |.mk k n s _ l => .mk k n s (ae.ts l)
def ae.ts:List ae->List Tree
 | []=>[]
 |x :: l=>x.t :: ae.ts l
end
theorem ae.ku (l:List ae):ae.ts l=l.map ae.t:=by
 induction l with
 |nil=>rw[ae.ts];rfl
 |cons t l ih=>rw[ae.ts,ih];rfl
theorem ae.bT (l:List ae):(ae.ts l).length=l.length:=by rw[ae.ku,List.length_map]
theorem ae.gm (l:List ae) (i:Nat) (h:i<l.length):(ae.ts l)[i]'(by rw[ae.bT];exact h)=l[i].t:=by simp[ae.ku]
inductive aS (w:World):ae->Prop
 |mk {k n:Int} {s:ByteArray} {kv:Value} {kids:List ae} (hk:0<=k/\k<=255) (hn:In64 n) (hs:s.size<=9223372036854775807) (row:ax 4 ae.cells w kv kids) (each:∀ x∈kids,aS w x):aS w (.mk k n s kv kids)
theorem aS.later {w w':World} {x:ae} (h:aS w x) (hm:Grow w w'):aS w' x:=by
 induction h with
 |mk hk hn hs row _ ih=>exact .mk hk hn hs (row.later hm) ih
theorem aS.row {w:World} {k n:Int} {s:ByteArray} {kv:Value} {kids:List ae} (h:aS w (.mk k n s kv kids)):(0<=k/\k<=255)/\In64 n/\s.size<=9223372036854775807/\ax 4 ae.cells w kv kids/\∀ x∈kids,aS w x:=by
 cases h with
 |mk hk hn hs row each=>exact⟨hk,hn,hs,row,each⟩
def iK (w:World) (b:Bool) (e:Ending) (w':World):Prop:=e = .returned (.bool b)/\Grow w w'
theorem NC {s:ByteArray} (h:s.size=0):s.toList.isEmpty=true:=by
 obtain rfl:=Nw (s:=s) (by omega);have h1:ByteArray.toList ⟨#[]⟩=[]:=by rw[ByteArray.toList_eq]
 rw[h1];rfl
theorem dF {w:World} {X:Nat} {c0 c1 c2 c3:Value} {t:TypeId} (h:w.heap[X]? = some (.cells #[c0,c1,c2,c3] t (0,0))):w.cell? ⟨X,0,none⟩=some c0/\w.cell? ⟨X,1,none⟩=some c1/\w.cell? ⟨X,2,none⟩=some c2/\w.cell? ⟨X,3,none⟩=some c3:=by
 simp[World.cell?,h]
theorem aS.form {w:World} {k n:Int} {s:ByteArray} {kv:Value} {l:List ae} (h:aS w (.mk k n s kv l)):∃ a cap,kv = .slice a l.length cap/\l.length<=cap/\l.length<=9223372036854775807:=h.row.2.2.2.1.form
theorem nA {k n:Int} {s:ByteArray} {kv:Value} {l:List ae} {x:ae} (h:x∈l):SizeOf.sizeOf x<SizeOf.sizeOf (ae.mk k n s kv l):=by
 have:=List.sizeOf_lt_of_mem h;simp;omega
theorem Jl:∀ (ps:List (Tree->Bool)) (l:List Tree),ps.length≠l.length->bV ps l=false
 | [],[],h=>absurd rfl h
 | [],_ :: _,_=>by simp[bV]
 |_ :: _,[],_=>by simp[bV]
 |p :: ps,t :: l,h=>by
  rw[bV,Jl ps l (by simpa using h),Bool.and_false]
theorem Oe:∀ (ps:List (Tree->Bool)) (l:List Tree),ps.length=l.length->(∀ i (h1:i<ps.length) (h2:i<l.length),ps[i] l[i]=true)->bV ps l=true
 | [],[],_,_=>by simp[bV]
 | [],_ :: _,h,_=>by simp at h
 |_ :: _,[],h,_=>by simp at h
 |p :: ps,t :: l,h,hh=>by
  have h0:=hh 0 (by simp) (by simp);simp at h0;rw[bV,h0,Oe ps l (by simpa using h) (λi h1 h2=>hh (i+1) (Nat.succ_lt_succ h1) (Nat.succ_lt_succ h2))];rfl
theorem IG:∀ (ps:List (Tree->Bool)) (l:List Tree) (i:Nat) (h1:i<ps.length) (h2:i<l.length),ps[i] l[i]=false->bV ps l=false
 |p :: ps,t :: l,0,_,_,h=>by
  simp at h;rw[bV,h,Bool.false_and]
 |p :: ps,t :: l,i+1,h1,h2,h=>by
  rw[bV,IG ps l i (Nat.lt_of_succ_lt_succ h1) (Nat.lt_of_succ_lt_succ h2) h,Bool.and_false]
theorem yM (k n:Int) (s:ByteArray) (a:Option Addr) (l:List ae) (cap:Nat) (w:World):Calls Tryz.prog 52 #[.agg #[.int .u8 k,.int .i64 n,.string s,.slice a l.length cap]] w (iK w (eD n s)):=by
 have HG:=ł (show Grow w (w.alloc (.cells #[.int .u8 k,.int .i64 n,.string s,.slice a l.length cap] 26))from(Mv.refl _ _).alloc _);by_cases hn:n=0
 · subst hn;by_cases hs:s.size=0
   · have hemp:=NC hs;have HR:=ł (show eD 0 s=true from by simp[eD,hs]);clear hs
     go_enter Tryz.func52,Tryz.ntmps52
     go_wp2_with fail;go_ret;exact⟨aL HR.out.symm,HG.out⟩
   · have hne:=BK (s:=s) (by omega);have HR:=ł (show eD 0 s=false from by simp[eD,hs]);clear hs
     go_enter Tryz.func52,Tryz.ntmps52
     go_wp2_with fail;go_ret;exact⟨aL HR.out.symm,HG.out⟩
 · have hn2:(n == 0)=false:=by simpa using hn
   have HR:=ł (show eD n s=false from by simp[eD,hn])
   go_enter Tryz.func52,Tryz.ntmps52
   go_wp2_with fail;go_ret;exact⟨aL HR.out.symm,HG.out⟩
theorem yN (k n:Int) (s:ByteArray) (a:Option Addr) (l:List ae) (cap:Nat) (w:World) (hs:s.size<=9223372036854775807):Calls Tryz.prog 77 #[.agg #[.int .u8 k,.int .i64 n,.string s,.slice a l.length cap]] w (iK w (fF n s)):=by
 have HG:=ł (show Grow w (w.alloc (.cells #[.int .u8 k,.int .i64 n,.string s,.slice a l.length cap] 26))from(Mv.refl _ _).alloc _);by_cases hn:n=0
 · subst hn;have HR:=ł (show fF 0 s=mR s from by simp[fF]);have HN:=ł (JK s (w.alloc (.cells #[.int .u8 k,.int .i64 0,.string s,.slice a l.length cap] 26)) hs)
   go_enter Tryz.func77,Tryz.ntmps77
   go_wp2_with fail;refine HN.out.mono ?_;rintro e w1 ⟨rfl,hg1⟩;have bg:=ł (Mv.trans HG.out hg1 (λ_ e=>e.elim));clear hg1;go_wp2_with fail;go_ret;exact⟨aL HR.out.symm,bg.out⟩
 · have hn2:(n == 0)=false:=by simpa using hn
   have HR:=ł (show fF n s=false from by simp[fF,hn])
   go_enter Tryz.func77,Tryz.ntmps77
   go_wp2_with fail;go_ret;exact⟨aL HR.out.symm,HG.out⟩
def fnC (f:Nat):List Value:=[.func (.func f) #[] #[]]
theorem uz (k n:Int) (s:ByteArray) (kv:Value) (l:List ae) (fs:List Nat) (ps:List (Tree->Bool)) (tv:Value) (w:World) (hx:aS w (.mk k n s kv l)) (ht:ax 1 fnC w tv fs) (hl:ps.length=fs.length)
 (hf3:∀ f∈fs,f=60\/f=76\/f=26)
 (hc:∀ i (hi:i<fs.length) (hk:i<l.length) (hp:i<ps.length) (w':World),Grow w w'->Calls Tryz.prog fs[i] #[l[i].val] w' (iK w' (ps[i] l[i].t))) :
 Calls Tryz.prog 75 #[ae.val (.mk k n s kv l),tv] w (iK w (bV ps (ae.ts l))):=by
 obtain⟨a,cap,rfl,hcap,hlen⟩:=hx.form;obtain⟨ta,acU,rfl,acP,acQ⟩:=ht.form;have HX:=ł hx;have HT:=ł ht;have HC:=ł hc;have Gx:=ł hl;have uT:=ł hf3;clear hx ht hc hl hf3;have HG:=ł (show Grow w (w.alloc (.cells #[.int .u8 k,.int .i64 n,.string s,.slice a l.length cap] 26))from(Mv.refl _ _).alloc _);have HB:=ł (heap_alloc_new w (.cells #[.int .u8 k,.int .i64 n,.string s,.slice a l.length cap] 26));simp only[ae.val];by_cases hle:l.length=fs.length
 case neg =>
  have h1:(l.length == fs.length)=false:=by simpa using hle
  have HR:=ł (show bV ps (ae.ts l)=false from Jl _ _ (by rw[ae.bT,Gx.out];omega))
  go_enter Tryz.func75,Tryz.ntmps75
  go_wp2_with fail;go_ret;exact⟨aL HR.out.symm,HG.out⟩
 have yx:=ł hle;rw[hle]at HB HG hcap;rw[hle];clear hle
 go_enter Tryz.func75,Tryz.ntmps75
 go_wp2_with fail;generalize w.alloc (.cells #[.int .u8 k,.int .i64 n,.string s,.slice a fs.length cap] 26)=w1 at *
 go_loopw [15] (λt wr=>∃ j:Nat,t = .int .i64 j/\j<=fs.length/\(∀ i (h1:i<ps.length) (h2:i<l.length),i<j->ps[i] l[i].t=true)/\Grow w1 wr) (λt _=>fs.length - (intOf t).toNat)
 case atStart=>exact⟨0,rfl,Nat.zero_le _,λi _ _ h=>by omega,Mv.refl _ _⟩
 obtain⟨j,rfl,hj,hall,hgr⟩:=hrel;have dP:=ł hall;have dh:=ł hgr;have bE:=ł (Mv.trans HG.out hgr (λ_ e=>e.elim));have hb:=ai HB.out hgr;obtain⟨m0,m1,m2,m3⟩:=dF hb;have hlb:=lt_of_block hb;clear hall hgr hb;by_cases hlt:j<fs.length
 · have hjl:j<l.length:=by rw[yx.out];exact hlt
   have hjp:j<ps.length:=by rw[Gx.out];exact hlt
   obtain⟨tb,acV,acR,e,_,htc⟩:=(HT.out.later bE.out).at hlt;simp only[Value.slice.injEq,true_and]at e;obtain⟨rfl,rfl⟩:=e;have f0:=htc 0 _ rfl;simp only[Nat.add_zero,Nat.mul_one]at f0;have acW:tb<wr.heap.size:=World.block_lt_of_cell? wr _ f0;obtain⟨b,off,cap',e,_,hcc⟩:=(HX.out.row.2.2.2.1.later bE.out).at hjl;rw[yx.out]at e;simp only[Value.slice.injEq,true_and]at e;obtain⟨rfl,rfl⟩:=e;have zH:=ł (HC.out j hlt hjl hjp wr bE.out);have hxo:=HX.out.row.2.2.2.2 l[j] (List.getElem_mem hjl);have HST:=ł (show(ps[j] l[j].t=true->∀ i (h1:i<ps.length) (h2:i<l.length),i<j+1->ps[i] l[i].t=true)from λh i h1 h2 hi=>by
    rcases Nat.lt_or_ge i j with h3|h3
    · exact dP.out i h1 h2 h3
    · obtain rfl:i=j:=by omega
      exact h)
   have dS:=ł (show(ps[j] l[j].t=false->bV ps (ae.ts l)=false)from λh=>IG ps (ae.ts l) j hjp (by rw[ae.bT];exact hjl) (by rw[ae.gm l j hjl];exact h));generalize hbv:ps[j] l[j].t=bv at *;generalize l[j]=x at zH hxo hcc;have hfj:=uT.out fs[j] (List.getElem_mem hlt);generalize fs[j]=fj at *;obtain⟨xk,xn,xs,xkv,xl⟩:=x;obtain⟨xa,KM,rfl,-,-⟩:=hxo.form;simp only[ae.val]at zH;have c0:=hcc 0 _ rfl;have c1:=hcc 1 _ rfl;have c2:=hcc 2 _ rfl;have c3:=hcc 3 _ rfl;simp only[Nat.add_zero]at c0;have hbl:b<wr.heap.size:=World.block_lt_of_cell? wr _ c0;clear htc hcc hxo hbv;rcases hfj with rfl|rfl|rfl
   all_goals
    go_wp2_with fail;refine zH.out.mono ?_;rintro e w2 ⟨rfl,hg2⟩;have HG2:=ł (Mv.trans dh.out hg2 (λ_ e=>e.elim));have eQ:=ł (Mv.trans bE.out hg2 (λ_ e=>e.elim));clear hg2;cases bv with
    |true =>
     have aY:=ł (HST.out rfl);go_wp2_with fail
     go_roundw
     case rel=>exact⟨j+1,by go_num,by omega,aY.out,HG2.out⟩
     case measure=>simp[intOf];omega
    |false =>
     have HR:=ł (dS.out rfl);go_wp2_with fail;go_ret;exact⟨aL HR.out.symm,eQ.out⟩
 obtain rfl:j=fs.length:=by omega
 have HR:=ł (show bV ps (ae.ts l)=true from Oe _ _ (by rw[ae.bT,Gx.out,yx.out]) (λi h1 h2=>by
  rw[ae.gm l i (by rw[ae.bT]at h2;exact h2)];exact dP.out i h1 (by rw[ae.bT]at h2;exact h2) (by rw[← Gx.out];exact h1)))
 go_wp2_with fail;go_ret;exact⟨aL HR.out.symm,bE.out⟩
theorem Jm (kv:Value) (l:List ae) (f:Nat) (p:Tree->Bool) (w:World) (hrow:ax 4 ae.cells w kv l) (hx:∀ x∈l,aS w x) (hf2:f=54\/f=78)
 (hc:∀ x∈l,∀ (w':World),Grow w w'->Calls Tryz.prog f #[x.val] w' (iK w' (p x.t))) :
 Calls Tryz.prog 53 #[kv,.func (.func f) #[] #[]] w (iK w ((ae.ts l).all p)):=by
 obtain⟨a,cap,rfl,hcap,hlen⟩:=hrow.form;have gU:=ł hrow;have HX:=ł hx;have HC:=ł hc;clear hrow hx hc;rcases hf2 with rfl|rfl
 all_goals
  go_enter Tryz.func53,Tryz.ntmps53
  go_wp2_with fail
  go_loopw [9] (λt wr=>∃ j:Nat,t = .int .i64 j/\j<=l.length/\(∀ i (h2:i<l.length),i<j->p l[i].t=true)/\Grow w wr) (λt _=>l.length - (intOf t).toNat)
  case atStart=>exact⟨0,rfl,Nat.zero_le _,λi _ h=>by omega,Mv.refl _ _⟩
  obtain⟨j,rfl,hj,hall,hgr⟩:=hrel;have dP:=ł hall;have dh:=ł hgr;clear hall hgr;by_cases hlt:j<l.length
  · obtain⟨b,off,cap',e,_,hcc⟩:=(gU.out.later dh.out).at hlt;simp only[Value.slice.injEq,true_and]at e;obtain⟨rfl,rfl⟩:=e;have hxo:=HX.out l[j] (List.getElem_mem hlt);have zH:=ł (λw' (h:Grow wr w')=>HC.out l[j] (List.getElem_mem hlt) w' (Mv.trans dh.out h (λ_ e=>e.elim)));have HST:=ł (show(p l[j].t=true->∀ i (h2:i<l.length),i<j+1->p l[i].t=true)from λh i h2 hi=>by
     rcases Nat.lt_or_ge i j with h3|h3
     · exact dP.out i h2 h3
     · obtain rfl:i=j:=by omega
       exact h)
    have dS:=ł (show(p l[j].t=false->(ae.ts l).all p=false)from λh=>List.all_eq_false.2 ⟨l[j].t,by rw[ae.ku];exact List.mem_map.2 ⟨l[j],List.getElem_mem hlt,rfl⟩,by rw[h];simp⟩);generalize hbv:p l[j].t=bv at *;generalize l[j]=x at zH hxo hcc;obtain⟨xk,xn,xs,xkv,xl⟩:=x;obtain⟨xa,KM,rfl,-,-⟩:=hxo.form;simp only[ae.val]at zH;have c0:=hcc 0 _ rfl;have c1:=hcc 1 _ rfl;have c2:=hcc 2 _ rfl;have c3:=hcc 3 _ rfl;simp only[Nat.add_zero]at c0;have hbl:b<wr.heap.size:=World.block_lt_of_cell? wr _ c0;have HCK:=ł (zH.out (wr.alloc (.cells #[.int .u8 xk,.int .i64 xn,.string xs,.slice xa xl.length KM] 26)) ((Mv.refl _ _).alloc _));have aK:=ł (dh.out.alloc (.cells #[.int .u8 xk,.int .i64 xn,.string xs,.slice xa xl.length KM] 26));clear hcc hxo hbv;go_wp2_with fail;refine HCK.out.mono ?_;rintro e w2 ⟨rfl,hg2⟩;have HG2:=ł (Mv.trans aK.out hg2 (λ_ e=>e.elim));clear hg2;cases bv with
    |true =>
     have aY:=ł (HST.out rfl);go_wp2_with fail
     go_roundw
     case rel=>exact⟨j+1,by go_num,by omega,aY.out,HG2.out⟩
     case measure=>simp[intOf];omega
    |false =>
     have HR:=ł (dS.out rfl);go_wp2_with fail;go_ret;exact⟨aL HR.out.symm,HG2.out⟩
  obtain rfl:j=l.length:=by omega
  have HR:=ł (show(ae.ts l).all p=true from List.all_eq_true.2 λt ht=>by
   rw[ae.ku]at ht;obtain⟨x,hx,rfl⟩:=List.mem_map.1 ht;obtain⟨i,hi,rfl⟩:=List.mem_iff_getElem.1 hx;exact dP.out i hi hi)
  go_wp2_with fail;go_ret;exact⟨aL HR.out.symm,dh.out⟩
end
end Go.Proofs.YtnobahchcongnaaGreat
