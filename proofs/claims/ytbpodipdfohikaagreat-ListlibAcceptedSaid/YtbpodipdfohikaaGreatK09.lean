import Derived.Test.YtbpodipdfohikaaGreatK08
import Derived.Laws.IdiomCopy
import Derived.Deep.CutRange
import Derived.IntWalk
set_option linter.unusedSimpArgs false
set_option linter.unusedVariables false
set_option maxRecDepth 100000
set_option maxHeartbeats 25600000
namespace Go.Proofs.YtbpodipdfohikaaGreat
section
open Go.RowKit
inductive Sp where
 |c (v:Value)
 |p (f:Value->World->Prop)
 |n
 |al (st iv:Nat) (z:Array Value) (T:TypeId)
 |st (ia:Nat)
 |rs (R iv:Nat) (z:Array Value) (T:TypeId)
def Sp.k:Sp->Kd
 |.al a b z T => .al a b z T
 |.st a => .st a
 |.rs R b z T => .rs R b z T
 |_ => .op
def Sp.P:Sp->Value->World->Prop
 |.c v=>Pc v
 |.p f=>f
 |_=>cz
def sv:Sp->Value->Value
 |.c v,_=>v
 |_,u=>u
def rg:Nat->List (Option Tmp)->List Nat
 |_,[]=>[]
 |k,_ :: r=>k :: rg (k+1) r
theorem zS:((∀ P o a w R,Gives P o a w R=oV P R ((execOp a.eval o).run P w))/\(∀ ds vs a,aK ds vs [] a=a)/\(∀ ds vs j r a,aK ds vs (j :: r) a=aK ds vs r (a.put (ds.getD j none) (vs j)))/\(∀ (a:Act) (d:Tmp) v,a.put (some d) v = { a with tmps:=a.tmps.setIfInBounds d v })/\(∀ (a:Act) v,a.put none v=a)/\(∀ (α:Type) (x:α) l d,(x :: l).getD 0 d=x)/\(∀ (α:Type) (x:α) l n d,(x :: l).getD (n+1) d=l.getD n d)/\(∀ (α:Type) (l:List α) i a,l.toArray.setIfInBounds i a=(l.set i a).toArray)/\(∀ (α:Type) (x:α) l a,(x :: l).set 0 a=a :: l)/\(∀ (α:Type) (x:α) l n a,(x :: l).set (n+1) a=x :: l.set n a))/\(∀ v u,sv (.c v) u=v)/\(∀ f u,sv (.p f) u=u)/\(∀ u,sv .n u=u)/\(∀ a b z T u,sv (.al a b z T) u=u)/\(∀ a u,sv (.st a) u=u)/\(∀ a b z T u,sv (.rs a b z T) u=u)/\(∀ v,Sp.P (.c v)=Pc v)/\(∀ f,Sp.P (.p f)=f)/\Sp.P .n=cz/\(∀ k,rg k []=[])/\∀ k d r,rg k (d :: r)=k :: rg (k+1) r:=⟨⟨λ_ _ _ _ _=>rfl,λ_ _ _=>rfl,λ_ _ _ _ _=>rfl,λ_ _ _=>rfl,λ_ _=>rfl,λ_ _ _ _=>rfl,λ_ _ _ _ _=>rfl,λ_ l i a=>List.setIfInBounds_toArray l i a,λ_ _ _ _=>rfl,λ_ _ _ _ _=>rfl⟩,λ_ _=>rfl,λ_ _=>rfl,λ_=>rfl,λ_ _ _ _ _=>rfl,λ_ _=>rfl,λ_ _ _ _ _=>rfl,λ_=>rfl,λ_=>rfl,rfl,λ_=>rfl,λ_ _ _=>rfl⟩
def jF (T:List Nat) (n:Nat):List Bool:=(List.range n).map T.contains
theorem MW {T:List Nat} {n j:Nat} (h:T.contains j=false):(jF T n).getD j false=false:=by
 unfold jF
 rcases Nat.lt_or_ge j n with hj|hj
 · simp[List.getD,hj];simpa using h
 · simp[List.getD,Nat.not_lt.2 hj]
def AS (Zs:List (Array Value × TypeId)) (T:List Nat):Nat->List Sp->Prop
 |_,[]=>True
 |i,.p f :: r=>(qI f/\(T.contains i=false->sH Zs f))/\AS Zs T (i+1) r
 |i,_ :: r=>AS Zs T (i+1) r
theorem AS.all {Zs:List (Array Value × TypeId)} {T:List Nat} : ∀ (l:List Sp) (i:Nat),AS Zs T i l->sI Zs ((List.range' i l.length).map T.contains) (l.map Sp.P)
 | [],_,_=>trivial
 |.p _ :: r,i,h=>⟨h.1,AS.all r (i+1) h.2⟩
 |.c v :: r,i,h=>⟨⟨Ze v,λ_=>Zf _ v⟩,AS.all r (i+1) h⟩
 |.n :: r,i,h=>⟨⟨zR,λ_=>BI _⟩,AS.all r (i+1) h⟩
 |.al .. :: r,i,h=>⟨⟨zR,λ_=>BI _⟩,AS.all r (i+1) h⟩
 |.st .. :: r,i,h=>⟨⟨zR,λ_=>BI _⟩,AS.all r (i+1) h⟩
 |.rs .. :: r,i,h=>⟨⟨zR,λ_=>BI _⟩,AS.all r (i+1) h⟩
theorem pW:∀ l:List Sp,KP (l.map Sp.k) (l.map Sp.P)
 | []=>trivial
 |.p _ :: r=>⟨Ii,pW r⟩
 |.c _ :: r=>⟨Ii,pW r⟩
 |.n :: r=>⟨Ii,pW r⟩
 |.al .. :: r=>⟨Ht,pW r⟩
 |.st .. :: r=>⟨Ht,pW r⟩
 |.rs .. :: r=>⟨Ht,pW r⟩
def mi (T:List Nat) (Ss:List Sp):Bool:=(List.range Ss.length).all λj=>match Ss.getD j .n with
 |.c _ => !T.contains j
 |_=>true
theorem Nz {T:List Nat} {Ss:List Sp} (h:mi T Ss=true) {j:Nat} {v:Value} (hv:Ss.getD j .n = .c v):T.contains j=false/\j<Ss.length:=by
 have hj:j<Ss.length:=by
  rcases Nat.lt_or_ge j Ss.length with hj|hj
  · exact hj
  · rw[List.getD,List.getElem?_eq_none hj]at hv;cases hv
 have:=List.all_eq_true.1 h j (List.mem_range.2 hj)
 rw[hv]at this
 exact⟨by simpa using this,hj⟩
theorem Cj (Ss:List Sp) (j:Nat):(Ss.map Sp.P).getD j cz=(Ss.getD j .n).P:=by
 simp only[List.getD,List.getElem?_map]
 cases Ss[j]? <;> rfl
theorem NM {s:Sp} {v:Value} {x:World} (h:∀ c,s = .c c->s.P v x):sv s v=v:=by
 cases s with
 |c u=>exact(h u rfl).symm
 |_=>rfl
section
variable {P:Program} {Q:Exit->Act->World->Prop}
structure GE (T:List Nat) (Ss:List Sp) (w:World) (vs:Nat->Value) (x:World):Prop where
 g:qY (jF T Ss.length) (Ss.map Sp.k) (Ss.map Sp.P) w vs x
 c:∀ j,sv (Ss.getD j .n) (vs j)=vs j
theorem GE.val {T:List Nat} {Ss:List Sp} {w:World} {vs:Nat->Value} {x:World} (h:GE T Ss w vs x) (j:Nat) (hj:j<(Ss.map Sp.k).length:=by simp) (hk:(jF T Ss.length).getD j false=false:=by rfl):((Ss.map Sp.P).getD j cz) (vs j) x:=h.g.val j hj hk
theorem GE.box {T:List Nat} {Ss:List Sp} {w:World} {vs:Nat->Value} {x:World} (h:GE T Ss w vs x) (i:Nat) {st iv:Nat} {z:Array Value} {t:TypeId} (hi:(Ss.map Sp.k).getD i .op = .al st iv z t:=by rfl):∃ g,vs i = .pointer (some ⟨g,0,none⟩)/\w.heap.size<=g/\g<x.heap.size/\x.heap[g]? = some (.cells (gJ (sv (Ss.getD iv .n) (vs iv))) t (0,0)):=by
 rw[h.c];exact h.g.box i st iv z t hi
theorem GE.res {T:List Nat} {Ss:List Sp} {w:World} {vs:Nat->Value} {x:World} (h:GE T Ss w vs x) (i:Nat) {R iv:Nat} {z:Array Value} {t:TypeId} (hi:(Ss.map Sp.k).getD i .op = .rs R iv z t:=by rfl):x.heap[R]? = some (.cells (gJ (sv (Ss.getD iv .n) (vs iv))) t (0,0)):=by
 rw[h.c];exact h.g.res i R iv z t hi
theorem GE.zW {T:List Nat} {Ss:List Sp} {w:World} {vs:Nat->Value} {x:World} (h:GE T Ss w vs x) (hn:CQ (Ss.map Sp.k)=true:=by rfl):Grow w x:=h.g.grow hn
theorem GE.grow {T:List Nat} {Ss:List Sp} {w:World} {vs:Nat->Value} {x:World} (h:GE T Ss w.drew vs x) (hn:CQ (Ss.map Sp.k)=true:=by rfl):Grow w x:=Lt (h.g.grow hn)
theorem GE.last {T:List Nat} {Ss:List Sp} {w:World} {vs:Nat->Value} {x:World} (h:GE T Ss w.drew vs x) (n:Nat) {R iv:Nat} {z:Array Value} {t:TypeId} (hn:(Ss.map Sp.k).getD n .op = .rs R iv z t:=by rfl) (h1:((List.range (Ss.map Sp.k).length).all λj=>j == n || !((Ss.map Sp.k).getD j .op).jL)=true:=by rfl):Mv (λb=>b=R) w x:=Mv.trans ((Mv.refl _ _).drew) (h.g.last hn h1) (λ_ e => .inl e)
theorem GE.of {T:List Nat} {Ss:List Sp} {w:World} {vs:Nat->Value} {x:World} (h:qY (jF T Ss.length) (Ss.map Sp.k) (Ss.map Sp.P) w vs x) (hc:mi T Ss=true):GE T Ss w vs x :=
 ⟨h,λj=>NM (x:=x) λc e=>by
  obtain⟨h1,h2⟩:=Nz hc e
  have:=h.val j (by simpa using h2) (MW h1)
  rwa[Cj]at this⟩
structure lT (P:Program) (ds:List (Option Tmp)) (ws ns:List (List Nat)) (T:List Nat) (Ss:List Sp) (w:World) (a:Act) (i:Nat) (o:Oper):Prop where
 s:GStep P ds ws ns (jF T Ss.length) (Ss.map Sp.k) (Ss.map Sp.P) w a i o
theorem wg {id:Nat} {a:Act} {w:World} {l:List Oper} (N:Nat) (ds:List (Option Tmp)) (ns:List (List Nat)) (T:List Nat) (Ss:List Sp) (iJ:AS ((Ss.map Sp.k).filterMap Kd.zero) T 0 Ss) (hR0:∀ i R iv z t,(Ss.map Sp.k).getD i .op = .rs R iv z t->R<w.drew.heap.size/\w.drew.heap[R]? = some (.cells z t (0,0)))
 (hstep:iX (lT P ds (bK l.toArray) ns T Ss w.drew a) 0 l)
 (hend:∀ (vs:Nat->Value) (x:World),GE T Ss w.drew vs x->Q .normal (aK ds (λj=>sv (Ss.getD j .n) (vs j)) (rg 0 ds) a) x)
 (hm:P.follows .mixedOrders=true:=by kernel_rfl) (hN:a.tmps.size=N:=by rfl) (hok:fI N l.toArray ds (bK l.toArray) ns []=true:=by kernel_rfl) (hkd:tH (bK l.toArray) (jF T Ss.length) (Ss.map Sp.k)=true:=by kernel_rfl) (hlen:(Ss.map Sp.k).length=l.length:=by rfl) (hr:rg 0 ds=List.range l.length:=by rfl) (hc:mi T Ss=true:=by kernel_rfl):(Code.region id l.toArray true).wp P Q a w :=
 Ti hm N ds (bK l.toArray) ns (jF T Ss.length) (Ss.map Sp.k) (Ss.map Sp.P) hN hok hkd hlen (pW Ss) (by have:=iJ.all;rwa[← List.range_eq_range']at this) hR0 (zw (λ_ _ h=>h.s) _ _ hstep) λvs x h=>by
  have h1:=GE.of h hc
  have h2:=hend vs x h1
  rwa[hr,uP _ _ λj _=>h1.c j]at h2
theorem CR {id:Nat} {a:Act} {w:World} {l:List Oper} (N:Nat) (ds:List (Option Tmp)) (ns:List (List Nat)) (T:List Nat) (Ss:List Sp) (iJ:AS ((Ss.map Sp.k).filterMap Kd.zero) T 0 Ss) (hR0:∀ i R iv z t,(Ss.map Sp.k).getD i .op = .rs R iv z t->R<w.heap.size/\w.heap[R]? = some (.cells z t (0,0)))
 (hstep:iX (lT P ds (bK l.toArray) ns T Ss w a) 0 l)
 (hend:∀ (vs:Nat->Value) (x:World),GE T Ss w vs x->Q .normal (aK ds (λj=>sv (Ss.getD j .n) (vs j)) (rg 0 ds) a) x)
 (hN:a.tmps.size=N:=by rfl) (hok:fI N l.toArray ds (bK l.toArray) ns []=true:=by kernel_rfl) (hkd:tH (bK l.toArray) (jF T Ss.length) (Ss.map Sp.k)=true:=by kernel_rfl) (hlen:(Ss.map Sp.k).length=l.length:=by rfl) (hr:rg 0 ds=List.range l.length:=by rfl) (hc:mi T Ss=true:=by kernel_rfl):(Code.region id l.toArray false).wp P Q a w :=
 Tf N ds (bK l.toArray) ns (jF T Ss.length) (Ss.map Sp.k) (Ss.map Sp.P) hN hok hkd hlen (pW Ss) (by have:=iJ.all;rwa[← List.range_eq_range']at this) hR0 (zw (λ_ _ h=>h.s) _ _ hstep) λvs x h=>by
  have h1:=GE.of h hc
  have h2:=hend vs x h1
  rwa[hr,uP _ _ λj _=>h1.c j]at h2
end
theorem gw {w x:World} (h:Mv (λb=>w.drew.heap.size<=b) w.drew x):Grow w x:=Lt (MV h)
section
variable {P:Program} {ds:List (Option Tmp)} {ws ns:List (List Nat)} {T:List Nat} {Ss:List Sp} {w:World} {a:Act} {i:Nat} {o:Oper}
def ru (ws:List (List Nat)) (T:List Nat) (Ss:List Sp) (i:Nat) (vs:Nat->Value) (x:World):Prop:=∀ j∈ws.getD i [],((jF T Ss.length).getD j false=true->Aw ws (Ss.map Sp.k) i=true)->((Ss.map Sp.P).getD j cz) (vs j) x
theorem ru.eq {vs:Nat->Value} {x:World} (h:ru ws T Ss i vs x) (hc:mi T Ss=true) (hs:((ns.getD i []).all λj=>(ws.getD i []).contains j)=true):aK ds vs (ns.getD i []) a=aK ds (λj=>sv (Ss.getD j .n) (vs j)) (ns.getD i []) a :=
 uP _ _ λj hj=>(NM (x:=x) λc e=>by
  have:=h j (by simpa using List.all_eq_true.1 hs j hj) (λhk=>by rw[MW (Nz hc e).1]at hk;cases hk)
  rwa[Cj]at this).symm
theorem pq {vs:Nat->Value} {x:World} (h:ru ws T Ss i vs x) (j:Nat) (m:(ws.getD i []).contains j=true:=by kernel_rfl) (k:(jF T Ss.length).getD j false=true->Aw ws (Ss.map Sp.k) i=true:=by intro _;kernel_rfl):((Ss.map Sp.P).getD j cz) (vs j) x:=h j (by simpa using m) k
theorem ox (h:∀ (vs:Nat->Value) (x:World),(xX ws (Ss.map Sp.k) i=true->Mv (λb=>w.heap.size<=b) w x)->ru ws T Ss i vs x->Gives P o (aK ds (λj=>sv (Ss.getD j .n) (vs j)) (ns.getD i []) a) x (GR x (Ss.getD i .n).P)) (hk:(Ss.map Sp.k).getD i .op = .op:=by rfl) (hc:mi T Ss=true:=by kernel_rfl) (hs:((ns.getD i []).all λj=>(ws.getD i []).contains j)=true:=by kernel_rfl):lT P ds ws ns T Ss w a i o :=
 ⟨YU hk λvs x hx hP=>by rw[ru.eq hP hc hs,Cj];exact h vs x hx hP⟩
theorem oo (h:∀ (vs:Nat->Value) (x:World),ru ws T Ss i vs x->Gives P o (aK ds (λj=>sv (Ss.getD j .n) (vs j)) (ns.getD i []) a) x (GR x (Ss.getD i .n).P)) (hk:(Ss.map Sp.k).getD i .op = .op:=by rfl) (hc:mi T Ss=true:=by kernel_rfl) (hs:((ns.getD i []).all λj=>(ws.getD i []).contains j)=true:=by kernel_rfl):lT P ds ws ns T Ss w a i o:=ox (λvs x _=>h vs x) hk hc hs
theorem og (h:∀ (vs:Nat->Value) (x:World),Grow w x->ru ws T Ss i vs x->Gives P o (aK ds (λj=>sv (Ss.getD j .n) (vs j)) (ns.getD i []) a) x (GR x (Ss.getD i .n).P)) (hk:(Ss.map Sp.k).getD i .op = .op:=by rfl) (hr:xX ws (Ss.map Sp.k) i=true:=by kernel_rfl) (hc:mi T Ss=true:=by kernel_rfl) (hs:((ns.getD i []).all λj=>(ws.getD i []).contains j)=true:=by kernel_rfl):lT P ds ws ns T Ss w.drew a i o:=ox (λvs x hx=>h vs x (gw (hx hr))) hk hc hs
theorem iB (h:∀ (vs:Nat->Value) (x:World),Grow w x->ru ws T Ss i vs x->Gives P o (aK ds (λj=>sv (Ss.getD j .n) (vs j)) (ns.getD i []) a) x (GR x (Ss.getD i .n).P)) (hk:(Ss.map Sp.k).getD i .op = .op:=by rfl) (hr:xX ws (Ss.map Sp.k) i=true:=by kernel_rfl) (hc:mi T Ss=true:=by kernel_rfl) (hs:((ns.getD i []).all λj=>(ws.getD i []).contains j)=true:=by kernel_rfl):lT P ds ws ns T Ss w a i o:=ox (λvs x hx=>h vs x (MV (hx hr))) hk hc hs
theorem ok {K:World->Prop} (HK:RowKit.Hid (∀ y,Grow w y->K y)) (h:∀ (vs:Nat->Value) (x:World),Grow w x->RowKit.Hid (K x)->ru ws T Ss i vs x->Gives P o (aK ds (λj=>sv (Ss.getD j .n) (vs j)) (ns.getD i []) a) x (GR x (Ss.getD i .n).P)) (hk:(Ss.map Sp.k).getD i .op = .op:=by rfl) (hr:xX ws (Ss.map Sp.k) i=true:=by kernel_rfl) (hc:mi T Ss=true:=by kernel_rfl) (hs:((ns.getD i []).all λj=>(ws.getD i []).contains j)=true:=by kernel_rfl):lT P ds ws ns T Ss w.drew a i o:=og (λvs x hx=>h vs x hx (Lib.hid (HK.out x hx))) hk hr hc hs
theorem ok0 {K:World->Prop} (HK:RowKit.Hid (∀ y,Grow w y->K y)) (h:∀ (vs:Nat->Value) (x:World),Grow w x->RowKit.Hid (K x)->ru ws T Ss i vs x->Gives P o (aK ds (λj=>sv (Ss.getD j .n) (vs j)) (ns.getD i []) a) x (GR x (Ss.getD i .n).P)) (hk:(Ss.map Sp.k).getD i .op = .op:=by rfl) (hr:xX ws (Ss.map Sp.k) i=true:=by kernel_rfl) (hc:mi T Ss=true:=by kernel_rfl) (hs:((ns.getD i []).all λj=>(ws.getD i []).contains j)=true:=by kernel_rfl):lT P ds ws ns T Ss w a i o:=iB (λvs x hx=>h vs x hx (Lib.hid (HK.out x hx))) hk hr hc hs
theorem os {ia st iv:Nat} {z:Array Value} {t:TypeId} (h:∀ (vs:Nat->Value) (x:World) (g:Nat),vs ia = .pointer (some ⟨g,0,none⟩)->x.heap[g]? = some (.cells z t (0,0))->(Ss.getD iv .n).P (vs iv) x->Gives P o (aK ds vs (ns.getD i []) a) x (λ_ y=>y.heap[g]? = some (.cells (gJ (vs iv)) t (0,0))/\Mv (λb=>b=g) x y)) (hk:(Ss.map Sp.k).getD i .op = .st ia:=by rfl) (hk2:(Ss.map Sp.k).getD ia .op = .al st iv z t:=by rfl):lT P ds ws ns T Ss w a i o :=
 ⟨YW hk hk2 (by simpa only[Cj]using h)⟩
theorem oz {st iv:Nat} {z:Array Value} {t:TypeId} (h:∀ (vs:Nat->Value) (x:World),Gives P o (aK ds vs (ns.getD i []) a) x (λv y=>v = .pointer (some ⟨x.heap.size,0,none⟩)/\y=x.alloc (.cells z t))) (hk:(Ss.map Sp.k).getD i .op = .al st iv z t:=by rfl):lT P ds ws ns T Ss w a i o:=⟨YV hk h⟩
theorem Qr {R iv:Nat} {z:Array Value} {t:TypeId} (h:∀ (vs:Nat->Value) (x:World),x.heap[R]? = some (.cells z t (0,0))->(Ss.getD iv .n).P (vs iv) x->Gives P o (aK ds vs (ns.getD i []) a) x (λ_ y=>y.heap[R]? = some (.cells (gJ (vs iv)) t (0,0))/\Mv (λb=>b=R) x y)) (hk:(Ss.map Sp.k).getD i .op = .rs R iv z t:=by rfl):lT P ds ws ns T Ss w a i o :=
 ⟨YX hk (by simpa only[Cj]using h)⟩
theorem gk {x:World} {v:Value} {p:Value->World->Prop} (h:p v x):oV P (GR x p) (.ok (.value v) x):=⟨Mv.refl _ _,h⟩
theorem gl {x:World} {v:Value} {p:Value->World->Prop} {B:Obj} (h:p v (x.alloc B)):oV P (GR x p) (.ok (.value v) (x.alloc B)):=⟨(Mv.refl _ _).alloc _,h⟩
theorem gc {x:World} {v c:Value} (h:v=c:=by rfl):GR x (Pc c) v x:=⟨Mv.refl _ _,h⟩
theorem sR {Zs:List (Array Value × TypeId)} {b:Bool} {α:Type} {n:Nat} {f:α->List Value} {F U:Nat->Value} {l:List α} (hb:b=true:=by rfl):qI (λv y=>∃ g,v=F g/\ay n f y (U g) l)/\(b=false->sH Zs (λv y=>∃ g,v=F g/\ay n f y (U g) l)):=⟨λv x y hg h=>by obtain⟨g,hv,hb⟩:=h;exact⟨g,hv,hb.later hg⟩,λh=>by rw[hb]at h;cases h⟩
end
end
section
open Go.RowKit Go.Instr
def kZ (k n:Int):Bool:=if k=1\/k=3 then n == 0 else if k=2 then decide (1<=n) && decide (n<=16)else false
def au.okB (v:au):Bool:=kZ v.kind v.len
def oW (l:List au):Bool:=decide (l.length<=32) && l.all au.okB
theorem Tj (l:List au) (k:Nat) (h:k<l.length):(l.take (k+1)).all au.okB=((l.take k).all au.okB && l[k].okB):=by
 rw[List.take_succ_eq_append_getElem h,List.all_append];simp
theorem Uu (l:List au) (k:Nat) (h:k<l.length) (hf:l[k].okB=false):l.all au.okB=false:=by
 apply Bool.eq_false_iff.2
 intro ha
 have:=List.all_eq_true.1 ha l[k] (List.getElem_mem h)
 rw[hf]at this;cases this
set_option maxRecDepth 100000 in
set_option maxHeartbeats 6400000 in
theorem Uv (v:Value) (l:List au) (w:World) (h:ay 3 au.cells w v l):Calls Tryz.prog 110 #[v] w (eP w (oW l)):=by
 obtain⟨va,vc,rfl,oF,hvl⟩:=h.form
 have HR:=Lib.hid h
 clear h
 by_cases h32:l.length<=32
 · have HV:=Lib.hid (show oW l=l.all au.okB from by simp[oW,h32])
   go_enter Tryz.func110,Tryz.ntmps110
   go_wp2_with fail
   go_loopw [10] (λt wr=>∃ k:Nat,t = .int .i64 k/\k<=l.length/\Grow w wr/\(l.take k).all au.okB=true) (λt _=>l.length - (intOf t).toNat)
   case atStart=>exact⟨0,rfl,Nat.zero_le _,Mv.refl _ _,rfl⟩
   obtain⟨k,rfl,hk,hg,hall⟩:=hrel
   have HG:=Lib.hid hg
   have HA:=Lib.hid hall
   clear hall hg
   by_cases hlt:k<l.length
   · obtain⟨b,off,cap',e,_,hcc⟩:=(HR.out.later HG.out).at hlt
     simp only[Value.slice.injEq,true_and]at e
     obtain⟨rfl,rfl⟩:=e
     have c0:=hcc 0 _ rfl
     have c1:=hcc 1 _ rfl
     have c2:=hcc 2 _ rfl
     have HT:=Lib.hid (λ(h:l[k].okB=true)=>show(l.take (k+1)).all au.okB=true from by rw[Tj l k hlt,HA.out,h];rfl)
     have HF:=Lib.hid (λ(h:l[k].okB=false)=>show oW l=false from by rw[HV.out];exact Uu l k hlt h)
     have bJ:=Lib.hid (show l[k].okB=kZ l[k].kind l[k].len from rfl)
     generalize l[k]=x at *
     obtain⟨xs,xk,xn⟩:=x
     simp only[Nat.add_zero]at c0 c1 c2 bJ
     have hbl:b<wr.heap.size:=World.block_lt_of_cell? wr _ c0
     clear hcc
     have hcs:xk=1\/xk=3\/xk=2\/(xk≠1/\xk≠3/\xk≠2):=by omega
     rcases hcs with rfl|rfl|rfl|⟨n1,n3,n2⟩
     · by_cases hn:xn=0
       · subst hn
         have HX:=Lib.hid (HT.out (by rw[bJ.out];rfl))
         clear HT HF
         go_wp2_with fail
         go_roundw
         case rel=>exact⟨k+1,by go_num,by omega,HG.out.alloc _,HX.out⟩
         case measure=>(simp[intOf] <;> omega)
       · have HX:=Lib.hid (HF.out (by rw[bJ.out];simp[kZ,hn]))
         have hb:(xn != 0)=true:=by simpa using hn
         clear HT HF hn
         go_wp2_with fail
         go_ret
         exact⟨aV HX.out.symm,HG.out.alloc _⟩
     · by_cases hn:xn=0
       · subst hn
         have HX:=Lib.hid (HT.out (by rw[bJ.out];rfl))
         clear HT HF
         go_wp2_with fail
         go_roundw
         case rel=>exact⟨k+1,by go_num,by omega,HG.out.alloc _,HX.out⟩
         case measure=>(simp[intOf] <;> omega)
       · have HX:=Lib.hid (HF.out (by rw[bJ.out];simp[kZ,hn]))
         have hb:(xn != 0)=true:=by simpa using hn
         clear HT HF hn
         go_wp2_with fail
         go_ret
         exact⟨aV HX.out.symm,HG.out.alloc _⟩
     · by_cases h1:1<=xn
       · by_cases h16:xn<=16
         · have HX:=Lib.hid (HT.out (by rw[bJ.out];simp[kZ,h1,h16]))
           have hd1:decide (xn<1)=false:=by simp;omega
           have hd2:decide (16<xn)=false:=by simp;omega
           clear HT HF
           go_wp2_with fail
           go_roundw
           case rel=>exact⟨k+1,by go_num,by omega,HG.out.alloc _,HX.out⟩
           case measure=>(simp[intOf] <;> omega)
         · have HX:=Lib.hid (HF.out (by rw[bJ.out];simp[kZ];omega))
           have hd1:decide (xn<1)=false:=by simp;omega
           have hd2:decide (16<xn)=true:=by simp;omega
           clear HT HF
           go_wp2_with fail
           go_ret
           exact⟨aV HX.out.symm,HG.out.alloc _⟩
       · have HX:=Lib.hid (HF.out (by rw[bJ.out];simp[kZ];omega))
         have hd1:decide (xn<1)=true:=by simp;omega
         clear HT HF
         go_wp2_with fail
         go_ret
         exact⟨aV HX.out.symm,HG.out.alloc _⟩
     · have HX:=Lib.hid (HF.out (by rw[bJ.out];simp[kZ,n1,n2,n3]))
       have e1:(xk == 1)=false:=by simpa using n1
       have e2:(xk == 2)=false:=by simpa using n2
       have e3:(xk == 3)=false:=by simpa using n3
       clear HT HF n1 n2 n3
       go_wp2_with fail
       go_ret
       exact⟨aV HX.out.symm,HG.out.alloc _⟩
   · have HX:=Lib.hid (show oW l=true from by rw[HV.out,← HA.out,show k=l.length from by omega,List.take_length])
     go_wp2_with fail
     go_ret
     exact⟨aV HX.out.symm,HG.out⟩
 · have HV:=Lib.hid (show oW l=false from by simp[oW,h32])
   have hd:decide (32<(l.length:Int))=true:=by simp;omega
   go_enter Tryz.func110,Tryz.ntmps110
   go_wp2_with fail
   go_ret
   exact⟨aV HV.out.symm,Mv.refl _ _⟩
def Hu (v:au):Int:=if v.kind=1 then 1 else v.len
set_option maxRecDepth 100000 in
set_option maxHeartbeats 1600000 in
theorem abz (v:au) (w:World):Calls Tryz.prog 111 #[v.val] w λe w'=>e = .returned (.int .i64 (Hu v))/\Grow w w':=by
 obtain⟨s,k,n⟩:=v
 by_cases hk:k=1
 · subst hk
   go_enter Tryz.func111,Tryz.ntmps111
   go_wp2_with fail
   go_ret
   exact⟨rfl,(Mv.refl _ _).alloc _⟩
 · have e1:(k == 1)=false:=by simpa using hk
   have HF:=Lib.hid (show Hu ⟨s,k,n⟩=n from by simp[Hu,hk])
   clear hk
   go_enter Tryz.func111,Tryz.ntmps111
   go_wp2_with fail
   go_ret
   exact⟨dE HF.out.symm,(Mv.refl _ _).alloc _⟩
set_option maxRecDepth 100000 in
set_option maxHeartbeats 1600000 in
theorem zB (w:World):Calls Tryz.prog 22 #[.slice none 0 0] w λe w'=>e = .returned (.slice none 0 0)/\Grow w w':=by
 have heq:(binOp .eql 22 (.slice none 0 0) (.slice none 0 0)).run Tryz.prog w = .ok (.bool true) w:=by
  have:=Lib.run_eql_slice_nil (P:=Tryz.prog) w 22 3 none 0 0 0 0 Tryz.underlying22
  simpa using this
 go_enter Tryz.func22,Tryz.ntmps22
 go_wp2_with fail
 go_ret
 exact⟨rfl,Mv.refl _ _⟩
theorem az {w:World} {X:Nat} {c0 c1 c2 c3:Value} {t:TypeId} (h:w.heap[X]? = some (.cells #[c0,c1,c2,c3] t (0,0))):(w.cell? ⟨X,0,none⟩=some c0/\w.cell? ⟨X,1,none⟩=some c1)/\w.cell? ⟨X,2,none⟩=some c2/\w.cell? ⟨X,3,none⟩=some c3:=by simp[World.cell?,h]
mutual
def MX (f:sM):Tree->Bool
 |.mk k _ s l =>
  if k=2 then(qH f s 1).isSome && Bq f l
  else if k=3 then(qH f s 2).isSome && Bq f l
  else if k=4\/k=5 then(qH f s 3).isSome && Bq f l
  else Bq f l
def Bq (f:sM):List Tree->Bool
 | []=>true
 |t :: l=>MX f t && Bq f l
end
theorem nK {w:World} {X:Nat} {a b c d e:Value} {t:TypeId} (h:w.heap[X]? = some (.cells #[a,b,c,d,e] t (0,0))):((w.cell? ⟨X,0,none⟩=some a/\w.cell? ⟨X,1,none⟩=some b/\w.cell? ⟨X,2,none⟩=some c)/\w.cell? ⟨X,3,none⟩=some d/\w.cell? ⟨X,4,none⟩=some e):=by
 simp[World.cell?,h]
attribute [local go_sem ↓] gD
structure vz (C:Nat) (w:World) (cv:Value) (w':World) (cv':Value):Prop where
 mv:Mv (λb=>b=C\/cv.ownBlock=some b) w w'
 own:∀ g,cv'.ownBlock=some g->cv.ownBlock=some g\/w.heap.size<=g
theorem vz.refl (C:Nat) (w:World) (cv:Value):vz C w cv w cv:=⟨Mv.refl _ _,λ_ h => .inl h⟩
theorem vz.trans {C:Nat} {w w1 w2:World} {cv Qt E9:Value} (h:vz C w cv w1 Qt) (k:vz C w1 Qt w2 E9):vz C w cv w2 E9 :=
 ⟨h.mv.trans k.mv (λx e=>by
  rcases e with e|e
  · exact .inl (.inl e)
  · rcases h.own x e with e|e
    · exact .inl (.inr e)
    · exact .inr e),λg hg=>by
  rcases k.own g hg with e|e
  · exact h.own g e
  · exact .inr (Nat.le_trans h.mv.size e)⟩
theorem vz.grow {C:Nat} {w w1:World} {cv:Value} (h:Grow w w1):vz C w cv w1 cv:=⟨h.mono (λ_ e=>e.elim),λ_ h => .inl h⟩
mutual
def NN (f:sM):Tree->Int->List Ins
 |.mk k n s l,p =>
  if k=1 then[⟨6,1,n,0,0⟩,⟨12,1,0,0,0⟩]
  else if k=2 then[⟨10,1,((qH f s 1).getD noSlot).at',0,0⟩,⟨3,2,1,0,0⟩,⟨10,1,((qH f s 1).getD noSlot).at',0,0⟩,⟨12,2,0,0,0⟩]
  else if k=3 then(zT f l p).getD 0 [] ++ [⟨13,1,0,0,0⟩,⟨11,2,1,((qH f s 2).getD noSlot).at',((qH f s 2).getD noSlot).len⟩,⟨3,3,2,0,0⟩,⟨11,2,1,((qH f s 2).getD noSlot).at',((qH f s 2).getD noSlot).len⟩,⟨12,1,0,0,0⟩,⟨12,3,0,0,0⟩]
  else if k=4\/k=5 then[⟨if k=5 then 15 else 14,1,((qH f s 3).getD noSlot).at',0,0⟩,⟨12,1,0,0,0⟩]
  else if k=6 then(zT f l p).getD 0 [] ++ [⟨13,1,0,0,0⟩] ++ [⟨3,3,1,0,0⟩,⟨8,3,0,0,0⟩] ++ [⟨12,1,0,0,0⟩,⟨12,3,0,0,0⟩]
  else if k=7 then(zT f l p).getD 0 [] ++ [⟨13,1,0,0,0⟩] ++ [⟨9,3,1,2,16⟩] ++ [⟨12,1,0,0,0⟩,⟨12,3,0,0,0⟩]
  else(zT f l p).getD 0 [] ++ [⟨13,1,0,0,0⟩,⟨10,1,f.cells+p,0,0⟩] ++ (zT f l p).getD 1 [] ++ [⟨13,2,0,0,0⟩,⟨10,1,f.cells+p,0,0⟩,⟨9,3,1,2,k⟩,⟨12,1,0,0,0⟩,⟨12,2,0,0,0⟩,⟨12,3,0,0,0⟩]
def zT (f:sM):List Tree->Int->List (List Ins)
 | [],_=>[]
 |t :: l,p=>NN f t p :: zT f l (p+1)
end
end
section
open Go.RowKit
theorem Lu (a b:ByteArray):(a.toList == b.toList)=(a == b):=by
 have h1:a.toList=a.data.toList:=ByteArray.toList_eq a
 have h2:b.toList=b.data.toList:=ByteArray.toList_eq b
 rw[h1,h2,bytes_beq]
 cases a with|mk x=>cases b with|mk y =>
 by_cases h:x=y
 · subst h;simp
 · have h3:¬ (⟨x⟩:ByteArray)=⟨y⟩:=λe=>h (by simpa using congrArg ByteArray.data e)
   have h4:¬ x.toList=y.toList:=λe=>h (Array.toList_inj.1 e)
   simp[h3,h]
end
section
open Go.RowKit Go.Instr
structure nG where
 code:List Ins
 refs:List xB
def XD:nG:=⟨[],[]⟩
def YY (f:sM) (e:Tree):List Ins:=NN f e 0
def Yj:Tree := .mk 0 0 ⟨#[]⟩ []
def Tree.kid (t:Tree) (i:Nat):Tree:=t.kids.getD i Yj
attribute [local go_sem ↓] gD
theorem EN {w:World} {X:Nat} {a b c d e:Value} {t:TypeId} (h:w.heap[X]? = some (.cells #[a,b,c,d,e] t (0,0))) (p q r s u:Value) :
 (((((w.setCell ⟨X,0,none⟩ p).setCell ⟨X,1,none⟩ q).setCell ⟨X,2,none⟩ r).setCell ⟨X,3,none⟩ s).setCell ⟨X,4,none⟩ u).heap[X]? = some (.cells #[p,q,r,s,u] t (0,0))/\Mv (λb=>b=X) w (((((w.setCell ⟨X,0,none⟩ p).setCell ⟨X,1,none⟩ q).setCell ⟨X,2,none⟩ r).setCell ⟨X,3,none⟩ s).setCell ⟨X,4,none⟩ u):=by
 constructor
 · have h1:=block_setCell (p:=⟨X,0,none⟩) h rfl p
   have h2:=block_setCell (p:=⟨X,1,none⟩) h1 rfl q
   have h3:=block_setCell (p:=⟨X,2,none⟩) h2 rfl r
   have h4:=block_setCell (p:=⟨X,3,none⟩) h3 rfl s
   have h5:=block_setCell (p:=⟨X,4,none⟩) h4 rfl u
   simpa using h5
 · exact(((((Mv.refl (λb=>b=X) w).setCell (p:=⟨X,0,none⟩) (.inl rfl) p).setCell (p:=⟨X,1,none⟩) (.inl rfl) q).setCell (p:=⟨X,2,none⟩) (.inl rfl) r).setCell (p:=⟨X,3,none⟩) (.inl rfl) s).setCell (p:=⟨X,4,none⟩) (.inl rfl) u
theorem cell1 {w:World} {X:Nat} {a:Value} {t:TypeId} {z:Nat × Nat} (h:w.heap[X]? = some (.cells #[a] t z)):w.cell? ⟨X,0,none⟩=some a:=by simp[World.cell?,h]
theorem Ij {w:World} {X:Nat} {a b:Value} {t:TypeId} {z:Nat × Nat} (h:w.heap[X]? = some (.cells #[a,b] t z)):w.cell? ⟨X,0,none⟩=some a/\w.cell? ⟨X,1,none⟩=some b:=by simp[World.cell?,h]
theorem set1 {w:World} {X:Nat} {a:Value} {t:TypeId} (h:w.heap[X]? = some (.cells #[a] t (0,0))) (p:Value) :
 (w.setCell ⟨X,0,none⟩ p).heap[X]? = some (.cells #[p] t (0,0))/\Mv (λb=>b=X) w (w.setCell ⟨X,0,none⟩ p) :=
 ⟨by have h1:=block_setCell (p:=⟨X,0,none⟩) h rfl p;simpa using h1,(Mv.refl (λb=>b=X) w).setCell (.inl rfl) _⟩
theorem vB {w:World} {X:Nat} {a b c:Value} {t:TypeId} (h:w.heap[X]? = some (.cells #[a,b,c] t (0,0))) (p q r:Value) :
 (((w.setCell ⟨X,0,none⟩ p).setCell ⟨X,1,none⟩ q).setCell ⟨X,2,none⟩ r).heap[X]? = some (.cells #[p,q,r] t (0,0))/\Mv (λb=>b=X) w (((w.setCell ⟨X,0,none⟩ p).setCell ⟨X,1,none⟩ q).setCell ⟨X,2,none⟩ r) :=
 ⟨by
  have h1:=block_setCell (p:=⟨X,0,none⟩) h rfl p
  have h2:=block_setCell (p:=⟨X,1,none⟩) h1 rfl q
  have h3:=block_setCell (p:=⟨X,2,none⟩) h2 rfl r
  simpa using h3,(((Mv.refl (λb=>b=X) w).setCell (.inl rfl) _).setCell (.inl rfl) _).setCell (.inl rfl) _⟩
def jQ (w:World) (v:Value) (p:nG):Prop:=∃ ca cc ra rc,v = .agg #[.slice ca p.code.length cc,.slice ra p.refs.length rc]/\ay 5 Ins.cells w (.slice ca p.code.length cc) p.code/\ay 2 xB.cells w (.slice ra p.refs.length rc) p.refs
theorem jQ.mk {w:World} {cv rv:Value} {p:nG} (h1:ay 5 Ins.cells w cv p.code) (h2:ay 2 xB.cells w rv p.refs):jQ w (.agg #[cv,rv]) p:=by
 obtain⟨ca,cc,rfl,-,-⟩:=h1.form
 obtain⟨ra,rc,rfl,-,-⟩:=h2.form
 exact⟨ca,cc,ra,rc,rfl,h1,h2⟩
theorem jQ.later {w w':World} {v:Value} {p:nG} (h:jQ w v p) (hm:Grow w w'):jQ w' v p:=by
 obtain⟨ca,cc,ra,rc,hv,h1,h2⟩:=h
 exact⟨ca,cc,ra,rc,hv,h1.later hm,h2.later hm⟩
def Yk (p:Value × Value):List Value:=[p.1,p.2]
def xC (w:World) (v:Value) (l:List nG):Prop:=∃ vs:List (Value × Value),vs.length=l.length/\ay 2 Yk w v vs/\∀ i (h:i<vs.length) (h':i<l.length),jQ w (.agg #[vs[i].1,vs[i].2]) l[i]
theorem xC.later {w w':World} {v:Value} {l:List nG} (h:xC w v l) (hm:Grow w w'):xC w' v l:=by
 obtain⟨vs,h1,h2,h3⟩:=h
 exact⟨vs,h1,h2.later hm,λi hi hi'=>(h3 i hi hi').later hm⟩
theorem xC.form {w:World} {v:Value} {l:List nG} (h:xC w v l):∃ a c,v = .slice a l.length c/\l.length<=c/\l.length<=9223372036854775807:=by
 obtain⟨vs,h1,h2,h3⟩:=h
 obtain⟨a,c,e,h4,h5⟩:=h2.form
 exact⟨a,c,by rw[← h1];exact e,by omega,by omega⟩
theorem MZ {α:Type} {n:Nat} {f:α->List Value} {x y:World} {v:Value} {l:List α} {g:Nat} {a b:Option Addr × Nat × Nat} {t:TypeId} (h:ay n f x v l) (hf:∀ u,∃ c,(f u)[0]? = some c/\∀ a m k,c ≠ .slice a m k)
 (hb:x.heap[g]? = some (.cells #[.slice a.1 a.2.1 a.2.2,.slice b.1 b.2.1 b.2.2] t (0,0))) (hm:Mv (λb=>b=g) x y):ay n f y v l:=by
 cases l with
 |nil =>
  obtain⟨a,cap,e,h1,h2,_⟩:=h
  exact⟨a,cap,e,h1,h2,λi x hx=>by simp at hx⟩
 |cons u l =>
  refine h.stay hm (λq hq e => ?_)
  subst e
  obtain⟨b',off,cap,e,_,hc⟩:=h.at (i:=0) (by simp)
  rw[e]at hq
  simp only[Value.ownBlock,Option.some.injEq]at hq
  subst hq
  obtain⟨c,hc0,hns⟩:=hf u
  have h0:=hc 0 c (by simpa using hc0)
  simp only[World.cell?,hb]at h0
  rcases Nat.lt_or_ge (off+0 * n+0) 2 with h2|h2
  · have:off+0 * n+0=0\/off+0 * n+0=1:=by omega
    rcases this with e0|e0 <;> rw[e0]at h0 <;> simp at h0 <;> exact hns _ _ _ h0.symm
  · simp only[Array.getElem?_eq_none (show(#[Value.slice a.1 a.2.1 a.2.2,.slice b.1 b.2.1 b.2.2]:Array Value).size<=off+0 * n+0 from h2)]at h0
    cases h0
def Zh:Array Value:=#[.slice none 0 0,.slice none 0 0]
theorem jQ.box {x y:World} {v:Value} {p:nG} {g:Nat} {t:TypeId} (h:jQ x v p) (hb:x.heap[g]? = some (.cells #[.slice none 0 0,.slice none 0 0] t (0,0))) (hm:Mv (λb=>b=g) x y):jQ y v p:=by
 obtain⟨ca,cc,ra,rc,hv,h1,h2⟩:=h
 exact⟨ca,cc,ra,rc,hv,MZ (a:=(none,0,0)) (b:=(none,0,0)) h1 (λu=>⟨_,rfl,by simp⟩) hb hm,MZ (a:=(none,0,0)) (b:=(none,0,0)) h2 (λu=>⟨_,rfl,by simp⟩) hb hm⟩
theorem sP {Zs:List (Array Value × TypeId)} {b:Bool} {p:nG} (hz:∀ z∈Zs,z.1=Zh:=by intro z hz;simp[Kd.zero,Sp.k]at hz <;> (subst hz;rfl)):qI (λv y=>jQ y v p)/\(b=false->sH Zs (λv y=>jQ y v p)) :=
 ⟨λv x y hg h=>h.later hg,λ_ z h g v x y hb hm h'=>jQ.box h' (by rw[hz z h]at hb;exact hb) hm⟩
theorem sQ {Zs:List (Array Value × TypeId)} {b:Bool} {F U:Nat->Value} {l:List nG} (hb:b=true:=by rfl):qI (λv y=>∃ g,v=F g/\xC y (U g) l)/\(b=false->sH Zs (λv y=>∃ g,v=F g/\xC y (U g) l)):=⟨λv x y hg h=>by obtain⟨g,hv,hb⟩:=h;exact⟨g,hv,hb.later hg⟩,λh=>by rw[hb]at h;cases h⟩
theorem gtr {a b c:World} (h:Grow a b) (k:Grow b c):Grow a c:=Mv.trans h k (λ_ e=>e.elim)
attribute [local go_sem ↓] gD
theorem bW {α:Type} {f:α->List Value} {n e base:Nat} {w:World} {v:Value} {l:List α} {g:Nat} {cs:Array Value} {t:TypeId} {z:Nat × Nat} (h:w.ownsRow base e n v l.length (flat f l)) (hb:w.heap[g]? = some (.cells cs t z)) (ht:t≠e):v.ownBlock≠some g:=by
 intro e'
 rcases h.2 with⟨rfl,_⟩|⟨g',cap,cur,rfl,_,hg,_⟩
 · simp[Value.ownBlock]at e'
 · simp[Value.ownBlock]at e'
   subst e'
   rw[hb]at hg
   simp only[Option.some.injEq,Obj.cells.injEq]at hg
   exact ht hg.2.1
structure zX (w:World) (b o:Nat) (y:ae):Prop where
 at_:bD w y
 cell:∀ (j:Nat) (u:Value),y.cells[j]? = some u->w.cell? ⟨b,o+j,none⟩=some u
theorem zX.later {w w':World} {b o:Nat} {y:ae} (h:zX w b o y) (hm:Grow w w'):zX w' b o y:=by
 refine⟨h.at_.later hm,λj u hu => ?_⟩
 have h1:=h.cell j u hu
 have hb:=World.block_lt_of_cell? w _ h1
 rw[World.cell?_of_block (w:=w) (w':=w') (a:=⟨b,o+j,none⟩) (hm.block b hb (λe=>e))]
 exact h1
theorem zX.four {w:World} {b o:Nat} {k n:Int} {s:ByteArray} {kv:Value} {l:List ae} (h:zX w b o (.mk k n s kv l)):(w.cell? ⟨b,o,none⟩=some (.int .u8 k)/\w.cell? ⟨b,o+1,none⟩=some (.int .i64 n))/\w.cell? ⟨b,o+2,none⟩=some (.string s)/\w.cell? ⟨b,o+3,none⟩=some kv :=
 ⟨⟨h.cell 0 _ rfl,h.cell 1 _ rfl⟩,h.cell 2 _ rfl,h.cell 3 _ rfl⟩
theorem uW {w:World} {k n:Int} {s:ByteArray} {b off len cap:Nat} {l:List ae} (h:bD w (.mk k n s (.slice (some ⟨b,off,none⟩) len cap) l)) (i:Nat) (hi:i<l.length):zX w b (off+i * 4) l[i] :=
 ⟨h.row.2.2.2.2 _ (List.getElem_mem hi),λj u hu=>h.row.2.2.2.1.at' hi j u hu⟩
structure ab5 (f:sM) (t:Tree):Prop where
 e:aJ t=true
 s:MX f t=true
 d:Nw t<=10000
 l:(YY f t).length<=20000
def Fa (x:World):List (Value × Value)->List nG->Prop
 |a :: vs,p :: l=>jQ x (.agg #[a.1,a.2]) p/\Fa x vs l
 | [],[]=>True
 |_,_=>False
theorem Fa.at {x:World} : ∀ {vs:List (Value × Value)} {l:List nG},Fa x vs l->vs.length=l.length/\∀ i (h:i<vs.length) (h':i<l.length),jQ x (.agg #[vs[i].1,vs[i].2]) l[i]
 | [],[],_=>⟨rfl,λi h=>by simp at h⟩
 |a :: vs,p :: l,h=>by
  obtain⟨h1,h2⟩:=Fa.at h.2
  refine⟨by simp[h1],λi hi hi' => ?_⟩
  cases i with
  |zero=>exact h.1
  |succ i=>exact h2 i (by simpa using hi) (by simpa using hi')
theorem jQ.none (w:World):jQ w (.agg #[.slice none 0 0,.slice none 0 0]) XD:=jQ.mk (ay.nil _ _ _) (ay.nil _ _ _)
end
end Go.Proofs.YtbpodipdfohikaaGreat
