import Derived.Test.YtnobahchcongnaaGreatDoorQ06
set_option linter.unusedSimpArgs false
set_option linter.unusedVariables false
set_option maxRecDepth 100000
set_option maxHeartbeats 25600000
namespace Go.Proofs.YtnobahchcongnaaGreatDoor
section
open Go.RowKit
inductive Sp where
 | c (v:Value)
 | p (f:Value→World→Prop)
 | n
 | al (st iv:Nat) (z:Array Value) (T:TypeId)
 | st (ia:Nat)
 | rs (R iv:Nat) (z:Array Value) (T:TypeId)
def Sp.k:Sp→Kd
 | .al a b z T => .al a b z T
 | .st a => .st a
 | .rs R b z T => .rs R b z T
 | _ => .op
def Sp.P:Sp→Value→World→Prop
 | .c v=>Pc v
 | .p f=>f
 | _=>dH
def sv:Sp→Value→Value
 | .c v,_=>v
 | _,u=>u
def rg:Nat→List (Option Tmp)→List Nat
 | _,[]=>[]
 | k,_ :: r=>k :: rg (k+1) r
theorem zS:((∀ P o a w R,Gives P o a w R=uY P R ((execOp a.eval o).run P w))∧(∀ ds vs a,aZ ds vs [] a=a)∧(∀ ds vs j r a,aZ ds vs (j :: r) a=aZ ds vs r (a.put (ds.getD j none) (vs j)))∧(∀ (a:Act) (d:Tmp) v,a.put (some d) v = { a with tmps:=a.tmps.setIfInBounds d v })∧(∀ (a:Act) v,a.put none v=a)∧(∀ (α:Type) (x:α) l d,(x :: l).getD 0 d=x)∧(∀ (α:Type) (x:α) l n d,(x :: l).getD (n+1) d=l.getD n d)∧(∀ (α:Type) (l:List α) i a,l.toArray.setIfInBounds i a=(l.set i a).toArray)∧(∀ (α:Type) (x:α) l a,(x :: l).set 0 a=a :: l)∧(∀ (α:Type) (x:α) l n a,(x :: l).set (n+1) a=x :: l.set n a))∧(∀ v u,sv (.c v) u=v)∧(∀ f u,sv (.p f) u=u)∧(∀ u,sv .n u=u)∧(∀ a b z T u,sv (.al a b z T) u=u)∧(∀ a u,sv (.st a) u=u)∧(∀ a b z T u,sv (.rs a b z T) u=u)∧(∀ v,Sp.P (.c v)=Pc v)∧(∀ f,Sp.P (.p f)=f)∧Sp.P .n=dH∧(∀ k,rg k []=[])∧∀ k d r,rg k (d :: r)=k :: rg (k+1) r:=⟨⟨fun _ _ _ _ _=>rfl,fun _ _ _=>rfl,fun _ _ _ _ _=>rfl,fun _ _ _=>rfl,fun _ _=>rfl,fun _ _ _ _=>rfl,fun _ _ _ _ _=>rfl,fun _ l i a=>List.setIfInBounds_toArray l i a,fun _ _ _ _=>rfl,fun _ _ _ _ _=>rfl⟩,fun _ _=>rfl,fun _ _=>rfl,fun _=>rfl,fun _ _ _ _ _=>rfl,fun _ _=>rfl,fun _ _ _ _ _=>rfl,fun _=>rfl,fun _=>rfl,rfl,fun _=>rfl,fun _ _ _=>rfl⟩
def rf (T:List Nat) (n:Nat):List Bool:=(List.range n).map T.contains
theorem OJ {T:List Nat} {n j:Nat} (h:T.contains j=false):(rf T n).getD j false=false:=by
 unfold rf;rcases Nat.lt_or_ge j n with hj | hj
 · simp [List.getD,hj];simpa using h
 · simp [List.getD,Nat.not_lt.2 hj]
def AS (Zs:List (Array Value × TypeId)) (T:List Nat):Nat→List Sp→Prop
 | _,[]=>True
 | i,.p f :: r=>(oO f∧(T.contains i=false→tX Zs f))∧AS Zs T (i+1) r
 | i,_ :: r=>AS Zs T (i+1) r
theorem AS.all {Zs:List (Array Value × TypeId)} {T:List Nat} : ∀ (l:List Sp) (i:Nat),AS Zs T i l→wU Zs ((List.range' i l.length).map T.contains) (l.map Sp.P)
 | [],_,_=>trivial
 | .p _ :: r,i,h=>⟨h.1,AS.all r (i+1) h.2⟩
 | .c v :: r,i,h=>⟨⟨gZ v,fun _=>Zh _ v⟩,AS.all r (i+1) h⟩
 | .n :: r,i,h=>⟨⟨wW,fun _=>Bu _⟩,AS.all r (i+1) h⟩
 | .al .. :: r,i,h=>⟨⟨wW,fun _=>Bu _⟩,AS.all r (i+1) h⟩
 | .st .. :: r,i,h=>⟨⟨wW,fun _=>Bu _⟩,AS.all r (i+1) h⟩
 | .rs .. :: r,i,h=>⟨⟨wW,fun _=>Bu _⟩,AS.all r (i+1) h⟩
theorem xH:∀ l:List Sp,KP (l.map Sp.k) (l.map Sp.P)
 | []=>trivial
 | .p _ :: r=>⟨Jm,xH r⟩
 | .c _ :: r=>⟨Jm,xH r⟩
 | .n :: r=>⟨Jm,xH r⟩
 | .al .. :: r=>⟨Je,xH r⟩
 | .st .. :: r=>⟨Je,xH r⟩
 | .rs .. :: r=>⟨Je,xH r⟩
def sI (T:List Nat) (Ss:List Sp):Bool:=(List.range Ss.length).all fun j=>match Ss.getD j .n with
 | .c _ => !T.contains j
 | _=>true
theorem Pb {T:List Nat} {Ss:List Sp} (h:sI T Ss=true) {j:Nat} {v:Value} (hv:Ss.getD j .n = .c v):T.contains j=false∧j<Ss.length:=by
 have hj:j<Ss.length:=by
  rcases Nat.lt_or_ge j Ss.length with hj | hj
  · exact hj
  · rw [List.getD,List.getElem?_eq_none hj] at hv;cases hv
 have:=List.all_eq_true.1 h j (List.mem_range.2 hj);rw [hv] at this;exact ⟨by simpa using this,hj⟩
theorem BM (Ss:List Sp) (j:Nat):(Ss.map Sp.P).getD j dH=(Ss.getD j .n).P:=by
 simp only [List.getD,List.getElem?_map];cases Ss[j]? <;> rfl
theorem Pw {s:Sp} {v:Value} {x:World} (h:∀ c,s = .c c→s.P v x):sv s v=v:=by
 cases s with
 | c u=>exact (h u rfl).symm
 | _=>rfl
section
variable {P:Program} {Q:Exit→Act→World→Prop}
structure GE (T:List Nat) (Ss:List Sp) (w:World) (vs:Nat→Value) (x:World):Prop where
 g:vH (rf T Ss.length) (Ss.map Sp.k) (Ss.map Sp.P) w vs x
 c:∀ j,sv (Ss.getD j .n) (vs j)=vs j
theorem GE.val {T:List Nat} {Ss:List Sp} {w:World} {vs:Nat→Value} {x:World} (h:GE T Ss w vs x) (j:Nat) (hj:j<(Ss.map Sp.k).length:=by simp) (hk:(rf T Ss.length).getD j false=false:=by rfl):((Ss.map Sp.P).getD j dH) (vs j) x:=h.g.val j hj hk
theorem GE.box {T:List Nat} {Ss:List Sp} {w:World} {vs:Nat→Value} {x:World} (h:GE T Ss w vs x) (i:Nat) {st iv:Nat} {z:Array Value} {t:TypeId} (hi:(Ss.map Sp.k).getD i .op = .al st iv z t:=by rfl):∃ g,vs i = .pointer (some ⟨g,0,none⟩)∧w.heap.size≤g∧g<x.heap.size∧x.heap[g]? = some (.cells (bI (sv (Ss.getD iv .n) (vs iv))) t (0,0)):=by
 rw [h.c];exact h.g.box i st iv z t hi
theorem GE.res {T:List Nat} {Ss:List Sp} {w:World} {vs:Nat→Value} {x:World} (h:GE T Ss w vs x) (i:Nat) {R iv:Nat} {z:Array Value} {t:TypeId} (hi:(Ss.map Sp.k).getD i .op = .rs R iv z t:=by rfl):x.heap[R]? = some (.cells (bI (sv (Ss.getD iv .n) (vs iv))) t (0,0)):=by
 rw [h.c];exact h.g.res i R iv z t hi
theorem GE.jI {T:List Nat} {Ss:List Sp} {w:World} {vs:Nat→Value} {x:World} (h:GE T Ss w vs x) (hn:CK (Ss.map Sp.k)=true:=by rfl):Grow w x:=h.g.grow hn
theorem GE.grow {T:List Nat} {Ss:List Sp} {w:World} {vs:Nat→Value} {x:World} (h:GE T Ss w.drew vs x) (hn:CK (Ss.map Sp.k)=true:=by rfl):Grow w x:=jZ (h.g.grow hn)
theorem GE.uk {T:List Nat} {Ss:List Sp} {w:World} {vs:Nat→Value} {x:World} (h:GE T Ss w vs x) (n:Nat) {R iv:Nat} {z:Array Value} {t:TypeId} (hn:(Ss.map Sp.k).getD n .op = .rs R iv z t:=by rfl) (h1:((List.range (Ss.map Sp.k).length).all fun j=>j == n || !((Ss.map Sp.k).getD j .op).nC)=true:=by rfl):Mv (fun b=>b=R) w x:=h.g.last hn h1
theorem GE.last {T:List Nat} {Ss:List Sp} {w:World} {vs:Nat→Value} {x:World} (h:GE T Ss w.drew vs x) (n:Nat) {R iv:Nat} {z:Array Value} {t:TypeId} (hn:(Ss.map Sp.k).getD n .op = .rs R iv z t:=by rfl) (h1:((List.range (Ss.map Sp.k).length).all fun j=>j == n || !((Ss.map Sp.k).getD j .op).nC)=true:=by rfl):Mv (fun b=>b=R) w x:=Mv.trans ((Mv.refl _ _).drew) (h.g.last hn h1) (fun _ e => .inl e)
theorem GE.of {T:List Nat} {Ss:List Sp} {w:World} {vs:Nat→Value} {x:World} (h:vH (rf T Ss.length) (Ss.map Sp.k) (Ss.map Sp.P) w vs x) (hc:sI T Ss=true):GE T Ss w vs x :=
 ⟨h,fun j=>Pw (x:=x) fun c e=>by
  obtain ⟨h1,h2⟩:=Pb hc e;have:=h.val j (by simpa using h2) (OJ h1);rwa [BM] at this⟩
structure rT (P:Program) (ds:List (Option Tmp)) (ws ns:List (List Nat)) (T:List Nat) (Ss:List Sp) (w:World) (a:Act) (i:Nat) (o:Oper):Prop where
 s:GStep P ds ws ns (rf T Ss.length) (Ss.map Sp.k) (Ss.map Sp.P) w a i o
theorem wg {id:Nat} {a:Act} {w:World} {l:List Oper} (N:Nat) (ds:List (Option Tmp)) (ns:List (List Nat)) (T:List Nat) (Ss:List Sp) (mE:AS ((Ss.map Sp.k).filterMap Kd.zero) T 0 Ss) (hR0:∀ i R iv z t,(Ss.map Sp.k).getD i .op = .rs R iv z t→R<w.drew.heap.size∧w.drew.heap[R]? = some (.cells z t (0,0)))
 (hstep:mZ (rT P ds (oV l.toArray) ns T Ss w.drew a) 0 l)
 (hend:∀ (vs:Nat→Value) (x:World),GE T Ss w.drew vs x→Q .normal (aZ ds (fun j=>sv (Ss.getD j .n) (vs j)) (rg 0 ds) a) x)
 (hm:P.follows .mixedOrders=true:=by kernel_rfl) (hN:a.tmps.size=N:=by rfl) (hok:jm N l.toArray ds (oV l.toArray) ns []=true:=by kernel_rfl) (hkd:BL (oV l.toArray) (rf T Ss.length) (Ss.map Sp.k)=true:=by kernel_rfl) (hlen:(Ss.map Sp.k).length=l.length:=by rfl) (hr:rg 0 ds=List.range l.length:=by rfl) (hc:sI T Ss=true:=by kernel_rfl):(Code.region id l.toArray true).wp P Q a w :=
 Uv hm N ds (oV l.toArray) ns (rf T Ss.length) (Ss.map Sp.k) (Ss.map Sp.P) hN hok hkd hlen (xH Ss) (by have:=mE.all;rwa [← List.range_eq_range'] at this) hR0 (DX (fun _ _ h=>h.s) _ _ hstep) fun vs x h=>by
  have h1:=GE.of h hc;have h2:=hend vs x h1;rwa [hr,Be _ _ fun j _=>h1.c j] at h2
theorem fJ {id:Nat} {a:Act} {w:World} {l:List Oper} (N:Nat) (ds:List (Option Tmp)) (ns:List (List Nat)) (T:List Nat) (Ss:List Sp) (mE:AS ((Ss.map Sp.k).filterMap Kd.zero) T 0 Ss) (hR0:∀ i R iv z t,(Ss.map Sp.k).getD i .op = .rs R iv z t→R<w.heap.size∧w.heap[R]? = some (.cells z t (0,0)))
 (hstep:mZ (rT P ds (oV l.toArray) ns T Ss w a) 0 l)
 (hend:∀ (vs:Nat→Value) (x:World),GE T Ss w vs x→Q .normal (aZ ds (fun j=>sv (Ss.getD j .n) (vs j)) (rg 0 ds) a) x)
 (hN:a.tmps.size=N:=by rfl) (hok:jm N l.toArray ds (oV l.toArray) ns []=true:=by kernel_rfl) (hkd:BL (oV l.toArray) (rf T Ss.length) (Ss.map Sp.k)=true:=by kernel_rfl) (hlen:(Ss.map Sp.k).length=l.length:=by rfl) (hr:rg 0 ds=List.range l.length:=by rfl) (hc:sI T Ss=true:=by kernel_rfl):(Code.region id l.toArray false).wp P Q a w :=
 Uo N ds (oV l.toArray) ns (rf T Ss.length) (Ss.map Sp.k) (Ss.map Sp.P) hN hok hkd hlen (xH Ss) (by have:=mE.all;rwa [← List.range_eq_range'] at this) hR0 (DX (fun _ _ h=>h.s) _ _ hstep) fun vs x h=>by
  have h1:=GE.of h hc;have h2:=hend vs x h1;rwa [hr,Be _ _ fun j _=>h1.c j] at h2
end
theorem gw {w x:World} (h:Mv (fun b=>w.drew.heap.size≤b) w.drew x):Grow w x:=jZ (j4 h)
section
variable {P:Program} {ds:List (Option Tmp)} {ws ns:List (List Nat)} {T:List Nat} {Ss:List Sp} {w:World} {a:Act} {i:Nat} {o:Oper}
def uC (ws:List (List Nat)) (T:List Nat) (Ss:List Sp) (i:Nat) (vs:Nat→Value) (x:World):Prop:=∀ j∈ws.getD i [],((rf T Ss.length).getD j false=true→CJ ws (Ss.map Sp.k) i=true)→((Ss.map Sp.P).getD j dH) (vs j) x
theorem uC.eq {vs:Nat→Value} {x:World} (h:uC ws T Ss i vs x) (hc:sI T Ss=true) (hs:((ns.getD i []).all fun j=>(ws.getD i []).contains j)=true):aZ ds vs (ns.getD i []) a=aZ ds (fun j=>sv (Ss.getD j .n) (vs j)) (ns.getD i []) a :=
 Be _ _ fun j hj=>(Pw (x:=x) fun c e=>by
  have:=h j (by simpa using List.all_eq_true.1 hs j hj) (fun hk=>by rw [OJ (Pb hc e).1] at hk;cases hk);rwa [BM] at this).symm
theorem pq {vs:Nat→Value} {x:World} (h:uC ws T Ss i vs x) (j:Nat) (m:(ws.getD i []).contains j=true:=by kernel_rfl) (k:(rf T Ss.length).getD j false=true→CJ ws (Ss.map Sp.k) i=true:=by intro _;kernel_rfl):((Ss.map Sp.P).getD j dH) (vs j) x:=h j (by simpa using m) k
theorem ox (h:∀ (vs:Nat→Value) (x:World),(yS ws (Ss.map Sp.k) i=true→Mv (fun b=>w.heap.size≤b) w x)→uC ws T Ss i vs x→Gives P o (aZ ds (fun j=>sv (Ss.getD j .n) (vs j)) (ns.getD i []) a) x (GR x (Ss.getD i .n).P)) (hk:(Ss.map Sp.k).getD i .op = .op:=by rfl) (hc:sI T Ss=true:=by kernel_rfl) (hs:((ns.getD i []).all fun j=>(ws.getD i []).contains j)=true:=by kernel_rfl):rT P ds ws ns T Ss w a i o :=
 ⟨Y2 hk fun vs x hx hP=>by rw [uC.eq hP hc hs,BM];exact h vs x hx hP⟩
theorem oo (h:∀ (vs:Nat→Value) (x:World),uC ws T Ss i vs x→Gives P o (aZ ds (fun j=>sv (Ss.getD j .n) (vs j)) (ns.getD i []) a) x (GR x (Ss.getD i .n).P)) (hk:(Ss.map Sp.k).getD i .op = .op:=by rfl) (hc:sI T Ss=true:=by kernel_rfl) (hs:((ns.getD i []).all fun j=>(ws.getD i []).contains j)=true:=by kernel_rfl):rT P ds ws ns T Ss w a i o:=ox (fun vs x _=>h vs x) hk hc hs
theorem og (h:∀ (vs:Nat→Value) (x:World),Grow w x→uC ws T Ss i vs x→Gives P o (aZ ds (fun j=>sv (Ss.getD j .n) (vs j)) (ns.getD i []) a) x (GR x (Ss.getD i .n).P)) (hk:(Ss.map Sp.k).getD i .op = .op:=by rfl) (hr:yS ws (Ss.map Sp.k) i=true:=by kernel_rfl) (hc:sI T Ss=true:=by kernel_rfl) (hs:((ns.getD i []).all fun j=>(ws.getD i []).contains j)=true:=by kernel_rfl):rT P ds ws ns T Ss w.drew a i o:=ox (fun vs x hx=>h vs x (gw (hx hr))) hk hc hs
theorem nD (h:∀ (vs:Nat→Value) (x:World),Grow w x→uC ws T Ss i vs x→Gives P o (aZ ds (fun j=>sv (Ss.getD j .n) (vs j)) (ns.getD i []) a) x (GR x (Ss.getD i .n).P)) (hk:(Ss.map Sp.k).getD i .op = .op:=by rfl) (hr:yS ws (Ss.map Sp.k) i=true:=by kernel_rfl) (hc:sI T Ss=true:=by kernel_rfl) (hs:((ns.getD i []).all fun j=>(ws.getD i []).contains j)=true:=by kernel_rfl):rT P ds ws ns T Ss w a i o:=ox (fun vs x hx=>h vs x (j4 (hx hr))) hk hc hs
theorem ok {K:World→Prop} (HK:RowKit.Hid (∀ y,Grow w y→K y)) (h:∀ (vs:Nat→Value) (x:World),Grow w x→RowKit.Hid (K x)→uC ws T Ss i vs x→Gives P o (aZ ds (fun j=>sv (Ss.getD j .n) (vs j)) (ns.getD i []) a) x (GR x (Ss.getD i .n).P)) (hk:(Ss.map Sp.k).getD i .op = .op:=by rfl) (hr:yS ws (Ss.map Sp.k) i=true:=by kernel_rfl) (hc:sI T Ss=true:=by kernel_rfl) (hs:((ns.getD i []).all fun j=>(ws.getD i []).contains j)=true:=by kernel_rfl):rT P ds ws ns T Ss w.drew a i o:=og (fun vs x hx=>h vs x hx (ł (HK.out x hx))) hk hr hc hs
theorem ok0 {K:World→Prop} (HK:RowKit.Hid (∀ y,Grow w y→K y)) (h:∀ (vs:Nat→Value) (x:World),Grow w x→RowKit.Hid (K x)→uC ws T Ss i vs x→Gives P o (aZ ds (fun j=>sv (Ss.getD j .n) (vs j)) (ns.getD i []) a) x (GR x (Ss.getD i .n).P)) (hk:(Ss.map Sp.k).getD i .op = .op:=by rfl) (hr:yS ws (Ss.map Sp.k) i=true:=by kernel_rfl) (hc:sI T Ss=true:=by kernel_rfl) (hs:((ns.getD i []).all fun j=>(ws.getD i []).contains j)=true:=by kernel_rfl):rT P ds ws ns T Ss w a i o:=nD (fun vs x hx=>h vs x hx (ł (HK.out x hx))) hk hr hc hs
theorem os {ia st iv:Nat} {z:Array Value} {t:TypeId} (h:∀ (vs:Nat→Value) (x:World) (g:Nat),vs ia = .pointer (some ⟨g,0,none⟩)→x.heap[g]? = some (.cells z t (0,0))→(Ss.getD iv .n).P (vs iv) x→Gives P o (aZ ds vs (ns.getD i []) a) x (fun _ y=>y.heap[g]? = some (.cells (bI (vs iv)) t (0,0))∧Mv (fun b=>b=g) x y)) (hk:(Ss.map Sp.k).getD i .op = .st ia:=by rfl) (hk2:(Ss.map Sp.k).getD ia .op = .al st iv z t:=by rfl):rT P ds ws ns T Ss w a i o :=
 ⟨Y4 hk hk2 (by simpa only [BM] using h)⟩
theorem oz {st iv:Nat} {z:Array Value} {t:TypeId} (h:∀ (vs:Nat→Value) (x:World),Gives P o (aZ ds vs (ns.getD i []) a) x (fun v y=>v = .pointer (some ⟨x.heap.size,0,none⟩)∧y=x.alloc (.cells z t))) (hk:(Ss.map Sp.k).getD i .op = .al st iv z t:=by rfl):rT P ds ws ns T Ss w a i o:=⟨Y3 hk h⟩
theorem il {R iv:Nat} {z:Array Value} {t:TypeId} (h:∀ (vs:Nat→Value) (x:World),x.heap[R]? = some (.cells z t (0,0))→(Ss.getD iv .n).P (vs iv) x→Gives P o (aZ ds vs (ns.getD i []) a) x (fun _ y=>y.heap[R]? = some (.cells (bI (vs iv)) t (0,0))∧Mv (fun b=>b=R) x y)) (hk:(Ss.map Sp.k).getD i .op = .rs R iv z t:=by rfl):rT P ds ws ns T Ss w a i o :=
 ⟨Y5 hk (by simpa only [BM] using h)⟩
theorem gk {x:World} {v:Value} {p:Value→World→Prop} (h:p v x):uY P (GR x p) (.ok (.value v) x):=⟨Mv.refl _ _,h⟩
theorem gl {x:World} {v:Value} {p:Value→World→Prop} {B:Obj} (h:p v (x.alloc B)):uY P (GR x p) (.ok (.value v) (x.alloc B)):=⟨(Mv.refl _ _).alloc _,h⟩
theorem gc {x:World} {v c:Value} (h:v=c:=by rfl):GR x (Pc c) v x:=⟨Mv.refl _ _,h⟩
theorem sH {Zs:List (Array Value × TypeId)} {b:Bool} {F:Nat→Value} {B:Nat→Obj} (hb:b=true:=by rfl):oO (fun v y=>∃ g,v=F g∧y.heap[g]? = some (B g))∧(b=false→tX Zs (fun v y=>∃ g,v=F g∧y.heap[g]? = some (B g))):=⟨fun v x y hg h=>by obtain ⟨g,hv,hb⟩:=h;exact ⟨g,hv,ai hb hg⟩,fun h=>by rw [hb] at h;cases h⟩
theorem sR {Zs:List (Array Value × TypeId)} {b:Bool} {α:Type} {n:Nat} {f:α→List Value} {F U:Nat→Value} {l:List α} (hb:b=true:=by rfl):oO (fun v y=>∃ g,v=F g∧ax n f y (U g) l)∧(b=false→tX Zs (fun v y=>∃ g,v=F g∧ax n f y (U g) l)):=⟨fun v x y hg h=>by obtain ⟨g,hv,hb⟩:=h;exact ⟨g,hv,hb.later hg⟩,fun h=>by rw [hb] at h;cases h⟩
end
end
section
open Go.RowKit Go.Instr
inductive Tree where
 | mk (kind num:Int) (name:ByteArray) (kids:List Tree)
namespace Tree
def kind:Tree→Int | .mk k _ _ _=>k
def num:Tree→Int | .mk _ n _ _=>n
def name:Tree→ByteArray | .mk _ _ s _=>s
def kids:Tree→List Tree | .mk _ _ _ l=>l
end Tree
def bY (n:Int) (s:ByteArray):Bool:=n == 0 && s.size == 0
def dO (n:Int) (s:ByteArray):Bool:=n == 0 && rR s
mutual
def aI:Tree→Bool
 | .mk k n s l =>
  if k=1 then decide (0≤n) && (s.size == 0 && l.isEmpty)
  else if k=2∨k=4∨k=5 then dO n s && l.isEmpty
  else if k=3 then dO n s && (l.length == 1 && iV l)
  else if k=6∨k=7 then bY n s && (l.length == 1 && iV l)
  else if 8≤k∧k≤23 then bY n s && (l.length == 2 && iV l)
  else false
def iV:List Tree→Bool
 | []=>true
 | t :: l=>aI t && iV l
end
def dB (t:Tree):Bool:=(t.kind == 2 || t.kind == 3) && aI t
def qG (t:Tree):Bool:=t.kind == 2 && aI t
def bL (ps:List (Tree→Bool)) (l:List Tree):Bool:=match ps,l with
 | [],[]=>true
 | p :: ps,t :: l=>p t && bL ps l
 | _,_=>false
mutual
def bg:Tree→Bool
 | .mk k n s l =>
  if k=40∨k=41∨k=42∨k=56 then bY n s && bL [dB,aI] l
  else if k=43 then bY n s && bL [dB,dB] l
  else if k=44∨k=45 then dO n s && bL [dB] l
  else if k=46∨k=47∨k=48∨k=49 then bY n s && bL [dB] l
  else if k=50∨k=51 then dO n s && (decide (l.length≤8) && l.all qG)
  else if k=52∨k=53 then bY n s && (bL [aI,fun _=>true,fun _=>true,aI] l && ((lI l).getD 1 false && (lI l).getD 2 false))
  else if k=54 then dO n s && (bL [aI,fun _=>true,aI] l && (lI l).getD 1 false)
  else if k=55 then dO n s && (l.length == 1 && (lI l).getD 0 false)
  else false
def dw:Tree→Bool
 | .mk k n s l=>k == 57 && (bY n s && uV l)
def lI:List Tree→List Bool
 | []=>[]
 | t :: l=>dw t :: lI l
def uV:List Tree→Bool
 | []=>true
 | t :: l=>bg t && uV l
end
mutual
def aW:Tree→Nat
 | .mk _ _ _ l=>1+cu l
def cu:List Tree→Nat
 | []=>0
 | t :: l=>aW t+cu l
end
mutual
def gV:Tree→Nat
 | .mk _ _ _ l=>jD l+1
def jD:List Tree→Nat
 | []=>0
 | t :: l=>max (gV t) (jD l)
end
theorem EM (l:List Tree):lI l=l.map dw:=by
 induction l with
 | nil=>rw [lI];rfl
 | cons t l ih=>rw [lI,ih];rfl
theorem Ec (l:List Tree):uV l=l.all bg:=by
 induction l with
 | nil=>rw [uV];rfl
 | cons t l ih=>rw [uV,ih];rfl
theorem Vu (l:List Tree):iV l=l.all aI:=by
 induction l with
 | nil=>rw [iV];rfl
 | cons t l ih=>rw [iV,ih];rfl
inductive ae where
 | mk (kind num:Int) (name:ByteArray) (kv:Value) (kids:List ae)
def ae.cells:ae→List Value
 | .mk k n s kv _=>[.int .u8 k,.int .i64 n,.string s,kv]
def ae.kids:ae→List ae
 | .mk _ _ _ _ l=>l
def ae.val:ae→Value
 | .mk k n s kv _ => .agg #[.int .u8 k,.int .i64 n,.string s,kv]
mutual
def ae.t:ae→Tree
 | .mk k n s _ l => .mk k n s (ae.ts l)
def ae.ts:List ae→List Tree
 | []=>[]
 | x :: l=>x.t :: ae.ts l
end
theorem ae.dP (l:List ae):ae.ts l=l.map ae.t:=by
 induction l with
 | nil=>rw [ae.ts];rfl
 | cons t l ih=>rw [ae.ts,ih];rfl
theorem ae.cZ (l:List ae):(ae.ts l).length=l.length:=by rw [ae.dP,List.length_map]
theorem ae.gK (l:List ae) (i:Nat) (h:i<l.length):(ae.ts l)[i]'(by rw [ae.cZ];exact h)=l[i].t:=by simp [ae.dP]
inductive aV (w:World):ae→Prop
 | mk {k n:Int} {s:ByteArray} {kv:Value} {kids:List ae} (hk:0≤k∧k≤255) (hn:In64 n) (hs:s.size≤9223372036854775807) (row:ax 4 ae.cells w kv kids) (each:∀ x∈kids,aV w x):aV w (.mk k n s kv kids)
theorem aV.later {w w':World} {x:ae} (h:aV w x) (hm:Grow w w'):aV w' x:=by
 induction h with
 | mk hk hn hs row _ ih=>exact .mk hk hn hs (row.later hm) ih
theorem aV.row {w:World} {k n:Int} {s:ByteArray} {kv:Value} {kids:List ae} (h:aV w (.mk k n s kv kids)):(0≤k∧k≤255)∧In64 n∧s.size≤9223372036854775807∧ax 4 ae.cells w kv kids∧∀ x∈kids,aV w x:=by
 cases h with
 | mk hk hn hs row each=>exact ⟨hk,hn,hs,row,each⟩
def jN (w:World) (b:Bool) (e:Ending) (w':World):Prop:=e = .returned (.bool b)∧Grow w w'
theorem Mh {s:ByteArray} (h:s.size=0):s.toList.isEmpty=true:=by
 obtain rfl:=Ma (s:=s) (by omega);have h1:ByteArray.toList ⟨#[]⟩=[]:=by rw [ByteArray.toList_eq]
 rw [h1];rfl
theorem dm {w:World} {X:Nat} {c0 c1 c2 c3:Value} {t:TypeId} (h:w.heap[X]? = some (.cells #[c0,c1,c2,c3] t (0,0))):w.cell? ⟨X,0,none⟩=some c0∧w.cell? ⟨X,1,none⟩=some c1∧w.cell? ⟨X,2,none⟩=some c2∧w.cell? ⟨X,3,none⟩=some c3:=by
 simp [World.cell?,h]
theorem aV.form {w:World} {k n:Int} {s:ByteArray} {kv:Value} {l:List ae} (h:aV w (.mk k n s kv l)):∃ a cap,kv = .slice a l.length cap∧l.length≤cap∧l.length≤9223372036854775807:=h.row.2.2.2.1.form
theorem nV {k n:Int} {s:ByteArray} {kv:Value} {l:List ae} {x:ae} (h:x∈l):SizeOf.sizeOf x<SizeOf.sizeOf (ae.mk k n s kv l):=by
 have:=List.sizeOf_lt_of_mem h;simp;omega
theorem Ie:∀ (ps:List (Tree→Bool)) (l:List Tree),ps.length≠l.length→bL ps l=false
 | [],[],h=>absurd rfl h
 | [],_ :: _,_=>by simp [bL]
 | _ :: _,[],_=>by simp [bL]
 | p :: ps,t :: l,h=>by
  rw [bL,Ie ps l (by simpa using h),Bool.and_false]
theorem MK:∀ (ps:List (Tree→Bool)) (l:List Tree),ps.length=l.length→(∀ i (h1:i<ps.length) (h2:i<l.length),ps[i] l[i]=true)→bL ps l=true
 | [],[],_,_=>by simp [bL]
 | [],_ :: _,h,_=>by simp at h
 | _ :: _,[],h,_=>by simp at h
 | p :: ps,t :: l,h,hh=>by
  have h0:=hh 0 (by simp) (by simp);simp at h0;rw [bL,h0,MK ps l (by simpa using h) (fun i h1 h2=>hh (i+1) (Nat.succ_lt_succ h1) (Nat.succ_lt_succ h2))];rfl
theorem Hd:∀ (ps:List (Tree→Bool)) (l:List Tree) (i:Nat) (h1:i<ps.length) (h2:i<l.length),ps[i] l[i]=false→bL ps l=false
 | p :: ps,t :: l,0,_,_,h=>by
  simp at h;rw [bL,h,Bool.false_and]
 | p :: ps,t :: l,i+1,h1,h2,h=>by
  rw [bL,Hd ps l i (Nat.lt_of_succ_lt_succ h1) (Nat.lt_of_succ_lt_succ h2) h,Bool.and_false]
theorem mX (k n:Int) (s:ByteArray) (a:Option Addr) (l:List ae) (cap:Nat) (w:World):Calls Tryz.prog 43 #[.agg #[.int .u8 k,.int .i64 n,.string s,.slice a l.length cap]] w (jN w (bY n s)):=by
 have HG:=ł (show Grow w (w.alloc (.cells #[.int .u8 k,.int .i64 n,.string s,.slice a l.length cap] 24)) from (Mv.refl _ _).alloc _);by_cases hn:n=0
 · subst hn;by_cases hs:s.size=0
   · have hemp:=Mh hs;have HR:=ł (show bY 0 s=true from by simp [bY,hs]);clear hs
     go_enter Tryz.func43,Tryz.ntmps43
     go_wp2_with fail;go_ret;exact ⟨aD HR.out.symm,HG.out⟩
   · have hne:=Bg (s:=s) (by omega);have HR:=ł (show bY 0 s=false from by simp [bY,hs]);clear hs
     go_enter Tryz.func43,Tryz.ntmps43
     go_wp2_with fail;go_ret;exact ⟨aD HR.out.symm,HG.out⟩
 · have hn2:(n == 0)=false:=by simpa using hn
   have HR:=ł (show bY n s=false from by simp [bY,hn])
   go_enter Tryz.func43,Tryz.ntmps43
   go_wp2_with fail;go_ret;exact ⟨aD HR.out.symm,HG.out⟩
theorem tO (k n:Int) (s:ByteArray) (a:Option Addr) (l:List ae) (cap:Nat) (w:World) (hs:s.size≤9223372036854775807):Calls Tryz.prog 58 #[.agg #[.int .u8 k,.int .i64 n,.string s,.slice a l.length cap]] w (jN w (dO n s)):=by
 have HG:=ł (show Grow w (w.alloc (.cells #[.int .u8 k,.int .i64 n,.string s,.slice a l.length cap] 24)) from (Mv.refl _ _).alloc _);by_cases hn:n=0
 · subst hn;have HR:=ł (show dO 0 s=rR s from by simp [dO]);have HN:=ł (Xn s (w.alloc (.cells #[.int .u8 k,.int .i64 0,.string s,.slice a l.length cap] 24)) hs)
   go_enter Tryz.func58,Tryz.ntmps58
   go_wp2_with fail;refine HN.out.mono ?_;rintro e w1 ⟨rfl,hg1⟩;have bJ:=ł (Mv.trans HG.out hg1 (fun _ e=>e.elim));clear hg1;go_wp2_with fail;go_ret;exact ⟨aD HR.out.symm,bJ.out⟩
 · have hn2:(n == 0)=false:=by simpa using hn
   have HR:=ł (show dO n s=false from by simp [dO,hn])
   go_enter Tryz.func58,Tryz.ntmps58
   go_wp2_with fail;go_ret;exact ⟨aD HR.out.symm,HG.out⟩
def _Y (f:Nat):List Value:=[.func (.func f) #[] #[]]
theorem kL (k n:Int) (s:ByteArray) (kv:Value) (l:List ae) (fs:List Nat) (ps:List (Tree→Bool)) (tv:Value) (w:World) (hx:aV w (.mk k n s kv l)) (ht:ax 1 _Y w tv fs) (hl:ps.length=fs.length)
 (hf3:∀ f∈fs,f=57∨f=56∨f=20)
 (hc:∀ i (hi:i<fs.length) (hk:i<l.length) (hp:i<ps.length) (w':World),Grow w w'→Calls Tryz.prog fs[i] #[l[i].val] w' (jN w' (ps[i] l[i].t))) :
 Calls Tryz.prog 55 #[ae.val (.mk k n s kv l),tv] w (jN w (bL ps (ae.ts l))):=by
 obtain ⟨a,cap,rfl,hcap,hlen⟩:=hx.form;obtain ⟨ta,ab1,rfl,abP,abQ⟩:=ht.form;have HX:=ł hx;have HT:=ł ht;have HC:=ł hc;have Ga:=ł hl;have yU:=ł hf3;clear hx ht hc hl hf3;have HG:=ł (show Grow w (w.alloc (.cells #[.int .u8 k,.int .i64 n,.string s,.slice a l.length cap] 24)) from (Mv.refl _ _).alloc _);have HB:=ł (heap_alloc_new w (.cells #[.int .u8 k,.int .i64 n,.string s,.slice a l.length cap] 24));simp only [ae.val];by_cases hle:l.length=fs.length
 case neg =>
  have h1:(l.length == fs.length)=false:=by simpa using hle
  have HR:=ł (show bL ps (ae.ts l)=false from Ie _ _ (by rw [ae.cZ,Ga.out];omega))
  go_enter Tryz.func55,Tryz.ntmps55
  go_wp2_with fail;go_ret;exact ⟨aD HR.out.symm,HG.out⟩
 have xI:=ł hle;rw [hle] at HB HG hcap;rw [hle];clear hle
 go_enter Tryz.func55,Tryz.ntmps55
 go_wp2_with fail;generalize w.alloc (.cells #[.int .u8 k,.int .i64 n,.string s,.slice a fs.length cap] 24)=w1 at *
 go_loopw [15] (fun t wr=>∃ j:Nat,t = .int .i64 j∧j≤fs.length∧(∀ i (h1:i<ps.length) (h2:i<l.length),i<j→ps[i] l[i].t=true)∧Grow w1 wr) (fun t _=>fs.length - (intOf t).toNat)
 case atStart=>exact ⟨0,rfl,Nat.zero_le _,fun i _ _ h=>by omega,Mv.refl _ _⟩
 obtain ⟨j,rfl,hj,hall,hgr⟩:=hrel;have bT:=ł hall;have bV:=ł hgr;have aQ:=ł (Mv.trans HG.out hgr (fun _ e=>e.elim));have hb:=ai HB.out hgr;obtain ⟨m0,m1,m2,m3⟩:=dm hb;have hlb:=lt_of_block hb;clear hall hgr hb;by_cases hlt:j<fs.length
 · have hjl:j<l.length:=by rw [xI.out];exact hlt
   have hjp:j<ps.length:=by rw [Ga.out];exact hlt
   obtain ⟨tb,ab2,abR,e,_,htc⟩:=(HT.out.later aQ.out).at hlt;simp only [Value.slice.injEq,true_and] at e;obtain ⟨rfl,rfl⟩:=e;have f0:=htc 0 _ rfl;simp only [Nat.add_zero,Nat.mul_one] at f0;have ab3:tb<wr.heap.size:=World.block_lt_of_cell? wr _ f0;obtain ⟨b,off,cap',e,_,hcc⟩:=(HX.out.row.2.2.2.1.later aQ.out).at hjl;rw [xI.out] at e;simp only [Value.slice.injEq,true_and] at e;obtain ⟨rfl,rfl⟩:=e;have yV:=ł (HC.out j hlt hjl hjp wr aQ.out);have hxo:=HX.out.row.2.2.2.2 l[j] (List.getElem_mem hjl);have HST:=ł (show (ps[j] l[j].t=true→∀ i (h1:i<ps.length) (h2:i<l.length),i<j+1→ps[i] l[i].t=true) from fun h i h1 h2 hi=>by
    rcases Nat.lt_or_ge i j with h3 | h3
    · exact bT.out i h1 h2 h3
    · obtain rfl:i=j:=by omega
      exact h)
   have bF:=ł (show (ps[j] l[j].t=false→bL ps (ae.ts l)=false) from fun h=>Hd ps (ae.ts l) j hjp (by rw [ae.cZ];exact hjl) (by rw [ae.gK l j hjl];exact h));generalize hbv:ps[j] l[j].t=bv at *;generalize l[j]=x at yV hxo hcc;have hfj:=yU.out fs[j] (List.getElem_mem hlt);generalize fs[j]=fj at *;obtain ⟨xk,xn,xs,_Z,xl⟩:=x;obtain ⟨xa,JD,rfl,-,-⟩:=hxo.form;simp only [ae.val] at yV;have c0:=hcc 0 _ rfl;have c1:=hcc 1 _ rfl;have c2:=hcc 2 _ rfl;have c3:=hcc 3 _ rfl;simp only [Nat.add_zero] at c0;have hbl:b<wr.heap.size:=World.block_lt_of_cell? wr _ c0;clear htc hcc hxo hbv;rcases hfj with rfl | rfl | rfl
   all_goals
    go_wp2_with fail;refine yV.out.mono ?_;rintro e w2 ⟨rfl,hg2⟩;have HG2:=ł (Mv.trans bV.out hg2 (fun _ e=>e.elim));have fV:=ł (Mv.trans aQ.out hg2 (fun _ e=>e.elim));clear hg2;cases bv with
    | true =>
     have aU:=ł (HST.out rfl);go_wp2_with fail
     go_roundw
     case rel=>exact ⟨j+1,by go_num,by omega,aU.out,HG2.out⟩
     case measure=>simp [intOf];omega
    | false =>
     have HR:=ł (bF.out rfl);go_wp2_with fail;go_ret;exact ⟨aD HR.out.symm,fV.out⟩
 obtain rfl:j=fs.length:=by omega
 have HR:=ł (show bL ps (ae.ts l)=true from MK _ _ (by rw [ae.cZ,Ga.out,xI.out]) (fun i h1 h2=>by
  rw [ae.gK l i (by rw [ae.cZ] at h2;exact h2)];exact bT.out i h1 (by rw [ae.cZ] at h2;exact h2) (by rw [← Ga.out];exact h1)))
 go_wp2_with fail;go_ret;exact ⟨aD HR.out.symm,aQ.out⟩
theorem Ig (kv:Value) (l:List ae) (f:Nat) (p:Tree→Bool) (w:World) (hrow:ax 4 ae.cells w kv l) (hx:∀ x∈l,aV w x) (hf2:f=32∨f=59)
 (hc:∀ x∈l,∀ (w':World),Grow w w'→Calls Tryz.prog f #[x.val] w' (jN w' (p x.t))) :
 Calls Tryz.prog 44 #[kv,.func (.func f) #[] #[]] w (jN w ((ae.ts l).all p)):=by
 obtain ⟨a,cap,rfl,hcap,hlen⟩:=hrow.form;have iZ:=ł hrow;have HX:=ł hx;have HC:=ł hc;clear hrow hx hc;rcases hf2 with rfl | rfl
 all_goals
  go_enter Tryz.func44,Tryz.ntmps44
  go_wp2_with fail
  go_loopw [9] (fun t wr=>∃ j:Nat,t = .int .i64 j∧j≤l.length∧(∀ i (h2:i<l.length),i<j→p l[i].t=true)∧Grow w wr) (fun t _=>l.length - (intOf t).toNat)
  case atStart=>exact ⟨0,rfl,Nat.zero_le _,fun i _ h=>by omega,Mv.refl _ _⟩
  obtain ⟨j,rfl,hj,hall,hgr⟩:=hrel;have bT:=ł hall;have bV:=ł hgr;clear hall hgr;by_cases hlt:j<l.length
  · obtain ⟨b,off,cap',e,_,hcc⟩:=(iZ.out.later bV.out).at hlt;simp only [Value.slice.injEq,true_and] at e;obtain ⟨rfl,rfl⟩:=e;have hxo:=HX.out l[j] (List.getElem_mem hlt);have yV:=ł (fun w' (h:Grow wr w')=>HC.out l[j] (List.getElem_mem hlt) w' (Mv.trans bV.out h (fun _ e=>e.elim)));have HST:=ł (show (p l[j].t=true→∀ i (h2:i<l.length),i<j+1→p l[i].t=true) from fun h i h2 hi=>by
     rcases Nat.lt_or_ge i j with h3 | h3
     · exact bT.out i h2 h3
     · obtain rfl:i=j:=by omega
       exact h)
    have bF:=ł (show (p l[j].t=false→(ae.ts l).all p=false) from fun h=>List.all_eq_false.2 ⟨l[j].t,by rw [ae.dP];exact List.mem_map.2 ⟨l[j],List.getElem_mem hlt,rfl⟩,by rw [h];simp⟩);generalize hbv:p l[j].t=bv at *;generalize l[j]=x at yV hxo hcc;obtain ⟨xk,xn,xs,_Z,xl⟩:=x;obtain ⟨xa,JD,rfl,-,-⟩:=hxo.form;simp only [ae.val] at yV;have c0:=hcc 0 _ rfl;have c1:=hcc 1 _ rfl;have c2:=hcc 2 _ rfl;have c3:=hcc 3 _ rfl;simp only [Nat.add_zero] at c0;have hbl:b<wr.heap.size:=World.block_lt_of_cell? wr _ c0;have Kv:=ł (yV.out (wr.alloc (.cells #[.int .u8 xk,.int .i64 xn,.string xs,.slice xa xl.length JD] 24)) ((Mv.refl _ _).alloc _));have aA:=ł (bV.out.alloc (.cells #[.int .u8 xk,.int .i64 xn,.string xs,.slice xa xl.length JD] 24));clear hcc hxo hbv;go_wp2_with fail;refine Kv.out.mono ?_;rintro e w2 ⟨rfl,hg2⟩;have HG2:=ł (Mv.trans aA.out hg2 (fun _ e=>e.elim));clear hg2;cases bv with
    | true =>
     have aU:=ł (HST.out rfl);go_wp2_with fail
     go_roundw
     case rel=>exact ⟨j+1,by go_num,by omega,aU.out,HG2.out⟩
     case measure=>simp [intOf];omega
    | false =>
     have HR:=ł (bF.out rfl);go_wp2_with fail;go_ret;exact ⟨aD HR.out.symm,HG2.out⟩
  obtain rfl:j=l.length:=by omega
  have HR:=ł (show (ae.ts l).all p=true from List.all_eq_true.2 fun t ht=>by
   rw [ae.dP] at ht;obtain ⟨x,hx,rfl⟩:=List.mem_map.1 ht;obtain ⟨i,hi,rfl⟩:=List.mem_iff_getElem.1 hx;exact bT.out i hi hi)
  go_wp2_with fail;go_ret;exact ⟨aD HR.out.symm,bV.out⟩
end
end Go.Proofs.YtnobahchcongnaaGreatDoor
