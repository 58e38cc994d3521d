import Derived.Test.YtadecgbblajifaaGreatDoorE32
set_option linter.unusedSimpArgs false
set_option linter.unusedVariables false
set_option maxRecDepth 100000
set_option maxHeartbeats 25600000
namespace Go.Proofs.YtadecgbblajifaaGreatDoor
open Go.RowKit
inductive Sp where
 |c (v:Value)
 |p (f:Value->World->Prop)
 |n
 |al (st iv:Nat) (z:Array Value) (T:TypeId)
 |st (ia:Nat)
 |rs (R iv:Nat) (z:Array Value) (T:TypeId)
def Sp.k:Sp->Kd
 |.al a b z T => .al a b z T
 |.st a => .st a
 |.rs R b z T => .rs R b z T
 |_ => .op
def Sp.P:Sp->Value->World->Prop
 |.c v=>Pc v
 |.p f=>f
 |_=>dJ
def sv:Sp->Value->Value
 |.c v,_=>v
 |_,u=>u
def rg:Nat->List (Option Tmp)->List Nat
 |_,[]=>[]
 |k,_ :: r=>k :: rg (k+1) r
theorem zS:((∀ P o a w R,Gives P o a w R=p9 P R ((execOp a.eval o).run P w))/\(∀ ds vs a,ai ds vs [] a=a)/\(∀ ds vs j r a,ai ds vs (j :: r) a=ai ds vs r (a.put (ds.getD j none) (vs j)))/\(∀ (a:Act) (d:Tmp) v,a.put (some d) v = { a with tmps:=a.tmps.setIfInBounds d v })/\(∀ (a:Act) v,a.put none v=a)/\(∀ (α:Type) (x:α) l d,(x :: l).getD 0 d=x)/\(∀ (α:Type) (x:α) l n d,(x :: l).getD (n+1) d=l.getD n d)/\(∀ (α:Type) (l:List α) i a,l.toArray.setIfInBounds i a=(l.set i a).toArray)/\(∀ (α:Type) (x:α) l a,(x :: l).set 0 a=a :: l)/\(∀ (α:Type) (x:α) l n a,(x :: l).set (n+1) a=x :: l.set n a))/\(∀ v u,sv (.c v) u=v)/\(∀ f u,sv (.p f) u=u)/\(∀ u,sv .n u=u)/\(∀ a b z T u,sv (.al a b z T) u=u)/\(∀ a u,sv (.st a) u=u)/\(∀ a b z T u,sv (.rs a b z T) u=u)/\(∀ v,Sp.P (.c v)=Pc v)/\(∀ f,Sp.P (.p f)=f)/\Sp.P .n=dJ/\(∀ k,rg k []=[])/\∀ k d r,rg k (d :: r)=k :: rg (k+1) r:=⟨⟨λ_ _ _ _ _=>rfl,λ_ _ _=>rfl,λ_ _ _ _ _=>rfl,λ_ _ _=>rfl,λ_ _=>rfl,λ_ _ _ _=>rfl,λ_ _ _ _ _=>rfl,λ_ l i a=>List.setIfInBounds_toArray l i a,λ_ _ _ _=>rfl,λ_ _ _ _ _=>rfl⟩,λ_ _=>rfl,λ_ _=>rfl,λ_=>rfl,λ_ _ _ _ _=>rfl,λ_ _=>rfl,λ_ _ _ _ _=>rfl,λ_=>rfl,λ_=>rfl,rfl,λ_=>rfl,λ_ _ _=>rfl⟩
def nE (T:List Nat) (n:Nat):List Bool:=(List.range n).map T.contains
theorem Qy {T:List Nat} {n j:Nat} (h:T.contains j=false):(nE T n).getD j false=false:=by
 unfold nE
 rcases Nat.lt_or_ge j n with hj|hj
 · simp[List.getD,hj];simpa using h
 · simp[List.getD,Nat.not_lt.2 hj]
def AS (Zs:List (Array Value × TypeId)) (T:List Nat):Nat->List Sp->Prop
 |_,[]=>True
 |i,.p f :: r=>(vD f/\(T.contains i=false->AJ Zs f))/\AS Zs T (i+1) r
 |i,_ :: r=>AS Zs T (i+1) r
theorem AS.all {Zs:List (Array Value × TypeId)} {T:List Nat} : ∀ (l:List Sp) (i:Nat),AS Zs T i l->vK Zs ((List.range' i l.length).map T.contains) (l.map Sp.P)
 | [],_,_=>trivial
 |.p _ :: r,i,h=>⟨h.1,AS.all r (i+1) h.2⟩
 |.c v :: r,i,h=>⟨⟨adx v,λ_=>ady _ v⟩,AS.all r (i+1) h⟩
 |.n :: r,i,h=>⟨⟨yx,λ_=>AZ _⟩,AS.all r (i+1) h⟩
 |.al .. :: r,i,h=>⟨⟨yx,λ_=>AZ _⟩,AS.all r (i+1) h⟩
 |.st .. :: r,i,h=>⟨⟨yx,λ_=>AZ _⟩,AS.all r (i+1) h⟩
 |.rs .. :: r,i,h=>⟨⟨yx,λ_=>AZ _⟩,AS.all r (i+1) h⟩
theorem uP:∀ l:List Sp,KP (l.map Sp.k) (l.map Sp.P)
 | []=>trivial
 |.p _ :: r=>⟨Ko,uP r⟩
 |.c _ :: r=>⟨Ko,uP r⟩
 |.n :: r=>⟨Ko,uP r⟩
 |.al .. :: r=>⟨JO,uP r⟩
 |.st .. :: r=>⟨JO,uP r⟩
 |.rs .. :: r=>⟨JO,uP r⟩
def rT (T:List Nat) (Ss:List Sp):Bool:=(List.range Ss.length).all λj=>match Ss.getD j .n with
 |.c _ => !T.contains j
 |_=>true
theorem Rq {T:List Nat} {Ss:List Sp} (h:rT T Ss=true) {j:Nat} {v:Value} (hv:Ss.getD j .n = .c v):T.contains j=false/\j<Ss.length:=by
 have hj:j<Ss.length:=by
  rcases Nat.lt_or_ge j Ss.length with hj|hj
  · exact hj
  · rw[List.getD,List.getElem?_eq_none hj]at hv;cases hv
 have:=List.all_eq_true.1 h j (List.mem_range.2 hj)
 rw[hv]at this
 exact⟨by simpa using this,hj⟩
theorem wC (Ss:List Sp) (j:Nat):(Ss.map Sp.P).getD j dJ=(Ss.getD j .n).P:=by
 simp only[List.getD,List.getElem?_map]
 cases Ss[j]? <;> rfl
theorem Sj {s:Sp} {v:Value} {x:World} (h:∀ c,s = .c c->s.P v x):sv s v=v:=by
 cases s with
 |c u=>exact(h u rfl).symm
 |_=>rfl
section
variable {P:Program} {Q:Exit->Act->World->Prop}
structure GE (T:List Nat) (Ss:List Sp) (w:World) (vs:Nat->Value) (x:World):Prop where
 g:ui (nE T Ss.length) (Ss.map Sp.k) (Ss.map Sp.P) w vs x
 c:∀ j,sv (Ss.getD j .n) (vs j)=vs j
theorem GE.val {T:List Nat} {Ss:List Sp} {w:World} {vs:Nat->Value} {x:World} (h:GE T Ss w vs x) (j:Nat) (hj:j<(Ss.map Sp.k).length:=by simp) (hk:(nE T Ss.length).getD j false=false:=by rfl):((Ss.map Sp.P).getD j dJ) (vs j) x:=h.g.val j hj hk
theorem GE.box {T:List Nat} {Ss:List Sp} {w:World} {vs:Nat->Value} {x:World} (h:GE T Ss w vs x) (i:Nat) {st iv:Nat} {z:Array Value} {t:TypeId} (hi:(Ss.map Sp.k).getD i .op = .al st iv z t:=by rfl):∃ g,vs i = .pointer (some ⟨g,0,none⟩)/\w.heap.size<=g/\g<x.heap.size/\x.heap[g]? = some (.cells (lM (sv (Ss.getD iv .n) (vs iv))) t (0,0)):=by
 rw[h.c];exact h.g.box i st iv z t hi
theorem GE.res {T:List Nat} {Ss:List Sp} {w:World} {vs:Nat->Value} {x:World} (h:GE T Ss w vs x) (i:Nat) {R iv:Nat} {z:Array Value} {t:TypeId} (hi:(Ss.map Sp.k).getD i .op = .rs R iv z t:=by rfl):x.heap[R]? = some (.cells (lM (sv (Ss.getD iv .n) (vs iv))) t (0,0)):=by
 rw[h.c];exact h.g.res i R iv z t hi
theorem GE.grow {T:List Nat} {Ss:List Sp} {w:World} {vs:Nat->Value} {x:World} (h:GE T Ss w.drew vs x) (hn:GH (Ss.map Sp.k)=true:=by rfl):Grow w x:=Oy (h.g.grow hn)
theorem GE.last {T:List Nat} {Ss:List Sp} {w:World} {vs:Nat->Value} {x:World} (h:GE T Ss w.drew vs x) (n:Nat) {R iv:Nat} {z:Array Value} {t:TypeId} (hn:(Ss.map Sp.k).getD n .op = .rs R iv z t:=by rfl) (h1:((List.range (Ss.map Sp.k).length).all λj=>j == n || !((Ss.map Sp.k).getD j .op).nC)=true:=by rfl):Mv (λb=>b=R) w x:=Mv.trans ((Mv.refl _ _).drew) (h.g.last hn h1) (λ_ e => .inl e)
theorem GE.of {T:List Nat} {Ss:List Sp} {w:World} {vs:Nat->Value} {x:World} (h:ui (nE T Ss.length) (Ss.map Sp.k) (Ss.map Sp.P) w vs x) (hc:rT T Ss=true):GE T Ss w vs x :=
 ⟨h,λj=>Sj (x:=x) λc e=>by
  obtain⟨h1,h2⟩:=Rq hc e
  have:=h.val j (by simpa using h2) (Qy h1)
  rwa[wC]at this⟩
structure tH (P:Program) (ds:List (Option Tmp)) (ws ns:List (List Nat)) (T:List Nat) (Ss:List Sp) (w:World) (a:Act) (i:Nat) (o:Oper):Prop where
 s:GStep P ds ws ns (nE T Ss.length) (Ss.map Sp.k) (Ss.map Sp.P) w a i o
theorem wg {id:Nat} {a:Act} {w:World} {l:List Oper} (N:Nat) (ds:List (Option Tmp)) (ns:List (List Nat)) (T:List Nat) (Ss:List Sp) (ru:AS ((Ss.map Sp.k).filterMap Kd.zero) T 0 Ss) (hR0:∀ i R iv z t,(Ss.map Sp.k).getD i .op = .rs R iv z t->R<w.drew.heap.size/\w.drew.heap[R]? = some (.cells z t (0,0)))
 (hstep:lJ (tH P ds (eZ l.toArray) ns T Ss w.drew a) 0 l)
 (hend:∀ (vs:Nat->Value) (x:World),GE T Ss w.drew vs x->Q .normal (ai ds (λj=>sv (Ss.getD j .n) (vs j)) (rg 0 ds) a) x)
 (hm:P.follows .mixedOrders=true:=by kernel_rfl) (hN:a.tmps.size=N:=by rfl) (hok:iR N l.toArray ds (eZ l.toArray) ns []=true:=by kernel_rfl) (hkd:Fu (eZ l.toArray) (nE T Ss.length) (Ss.map Sp.k)=true:=by kernel_rfl) (hlen:(Ss.map Sp.k).length=l.length:=by rfl) (hr:rg 0 ds=List.range l.length:=by rfl) (hc:rT T Ss=true:=by kernel_rfl):(Code.region id l.toArray true).wp P Q a w :=
 Xf hm N ds (eZ l.toArray) ns (nE T Ss.length) (Ss.map Sp.k) (Ss.map Sp.P) hN hok hkd hlen (uP Ss) (by have:=ru.all;rwa[← List.range_eq_range']at this) hR0 (Dk (λ_ _ h=>h.s) _ _ hstep) λvs x h=>by
  have h1:=GE.of h hc
  have h2:=hend vs x h1
  rwa[hr,Ad _ _ λj _=>h1.c j]at h2
end
theorem gw {w x:World} (h:Mv (λb=>w.drew.heap.size<=b) w.drew x):Grow w x:=Oy (qN h)
section
variable {P:Program} {ds:List (Option Tmp)} {ws ns:List (List Nat)} {T:List Nat} {Ss:List Sp} {w:World} {a:Act} {i:Nat} {o:Oper}
def uQ (ws:List (List Nat)) (T:List Nat) (Ss:List Sp) (i:Nat) (vs:Nat->Value) (x:World):Prop:=∀ j∈ws.getD i [],((nE T Ss.length).getD j false=true->CF ws (Ss.map Sp.k) i=true)->((Ss.map Sp.P).getD j dJ) (vs j) x
theorem uQ.eq {vs:Nat->Value} {x:World} (h:uQ ws T Ss i vs x) (hc:rT T Ss=true) (hs:((ns.getD i []).all λj=>(ws.getD i []).contains j)=true):ai ds vs (ns.getD i []) a=ai ds (λj=>sv (Ss.getD j .n) (vs j)) (ns.getD i []) a :=
 Ad _ _ λj hj=>(Sj (x:=x) λc e=>by
  have:=h j (by simpa using List.all_eq_true.1 hs j hj) (λhk=>by rw[Qy (Rq hc e).1]at hk;cases hk)
  rwa[wC]at this).symm
theorem pq {vs:Nat->Value} {x:World} (h:uQ ws T Ss i vs x) (j:Nat) (m:(ws.getD i []).contains j=true:=by kernel_rfl) (k:(nE T Ss.length).getD j false=true->CF ws (Ss.map Sp.k) i=true:=by intro _;kernel_rfl):((Ss.map Sp.P).getD j dJ) (vs j) x:=h j (by simpa using m) k
theorem ox (h:∀ (vs:Nat->Value) (x:World),(CE ws (Ss.map Sp.k) i=true->Mv (λb=>w.heap.size<=b) w x)->uQ ws T Ss i vs x->Gives P o (ai ds (λj=>sv (Ss.getD j .n) (vs j)) (ns.getD i []) a) x (GR x (Ss.getD i .n).P)) (hk:(Ss.map Sp.k).getD i .op = .op:=by rfl) (hc:rT T Ss=true:=by kernel_rfl) (hs:((ns.getD i []).all λj=>(ws.getD i []).contains j)=true:=by kernel_rfl):tH P ds ws ns T Ss w a i o :=
 ⟨acr hk λvs x hx hP=>by rw[uQ.eq hP hc hs,wC];exact h vs x hx hP⟩
theorem oo (h:∀ (vs:Nat->Value) (x:World),uQ ws T Ss i vs x->Gives P o (ai ds (λj=>sv (Ss.getD j .n) (vs j)) (ns.getD i []) a) x (GR x (Ss.getD i .n).P)) (hk:(Ss.map Sp.k).getD i .op = .op:=by rfl) (hc:rT T Ss=true:=by kernel_rfl) (hs:((ns.getD i []).all λj=>(ws.getD i []).contains j)=true:=by kernel_rfl):tH P ds ws ns T Ss w a i o:=ox (λvs x _=>h vs x) hk hc hs
theorem og (h:∀ (vs:Nat->Value) (x:World),Grow w x->uQ ws T Ss i vs x->Gives P o (ai ds (λj=>sv (Ss.getD j .n) (vs j)) (ns.getD i []) a) x (GR x (Ss.getD i .n).P)) (hk:(Ss.map Sp.k).getD i .op = .op:=by rfl) (hr:CE ws (Ss.map Sp.k) i=true:=by kernel_rfl) (hc:rT T Ss=true:=by kernel_rfl) (hs:((ns.getD i []).all λj=>(ws.getD i []).contains j)=true:=by kernel_rfl):tH P ds ws ns T Ss w.drew a i o:=ox (λvs x hx=>h vs x (gw (hx hr))) hk hc hs
theorem ok {K:World->Prop} (HK:RowKit.Hid (∀ y,Grow w y->K y)) (h:∀ (vs:Nat->Value) (x:World),Grow w x->RowKit.Hid (K x)->uQ ws T Ss i vs x->Gives P o (ai ds (λj=>sv (Ss.getD j .n) (vs j)) (ns.getD i []) a) x (GR x (Ss.getD i .n).P)) (hk:(Ss.map Sp.k).getD i .op = .op:=by rfl) (hr:CE ws (Ss.map Sp.k) i=true:=by kernel_rfl) (hc:rT T Ss=true:=by kernel_rfl) (hs:((ns.getD i []).all λj=>(ws.getD i []).contains j)=true:=by kernel_rfl):tH P ds ws ns T Ss w.drew a i o:=og (λvs x hx=>h vs x hx (Lib.hid (HK.out x hx))) hk hr hc hs
theorem os {ia st iv:Nat} {z:Array Value} {t:TypeId} (h:∀ (vs:Nat->Value) (x:World) (g:Nat),vs ia = .pointer (some ⟨g,0,none⟩)->x.heap[g]? = some (.cells z t (0,0))->(Ss.getD iv .n).P (vs iv) x->Gives P o (ai ds vs (ns.getD i []) a) x (λ_ y=>y.heap[g]? = some (.cells (lM (vs iv)) t (0,0))/\Mv (λb=>b=g) x y)) (hk:(Ss.map Sp.k).getD i .op = .st ia:=by rfl) (hk2:(Ss.map Sp.k).getD ia .op = .al st iv z t:=by rfl):tH P ds ws ns T Ss w a i o :=
 ⟨acu hk hk2 (by simpa only[wC]using h)⟩
theorem oz {st iv:Nat} {z:Array Value} {t:TypeId} (h:∀ (vs:Nat->Value) (x:World),Gives P o (ai ds vs (ns.getD i []) a) x (λv y=>v = .pointer (some ⟨x.heap.size,0,none⟩)/\y=x.alloc (.cells z t))) (hk:(Ss.map Sp.k).getD i .op = .al st iv z t:=by rfl):tH P ds ws ns T Ss w a i o:=⟨acs hk h⟩
theorem gl {x:World} {v:Value} {p:Value->World->Prop} {B:Obj} (h:p v (x.alloc B)):p9 P (GR x p) (.ok (.value v) (x.alloc B)):=⟨(Mv.refl _ _).alloc _,h⟩
theorem gc {x:World} {v c:Value} (h:v=c:=by rfl):GR x (Pc c) v x:=⟨Mv.refl _ _,h⟩
end
def cv (Cs:List (Option Value)) (j:Nat):Value:=(Cs.getD j none).getD undef
theorem Dm {ds:List (Option Tmp)} {vs us:Nat->Value} : ∀ (js:List Nat) (a:Act),(∀ j∈js,vs j=us j\/ds.getD j none=none)->ai ds vs js a=ai ds us js a
 | [],_,_=>rfl
 |j :: r,a,h=>by
  simp only[ai]
  rcases h j (by simp)with e|e
  · rw[e];exact Dm r _ (λk hk=>h k (by simp[hk]))
  · rw[e];exact Dm r _ (λk hk=>h k (by simp[hk]))
def Ms (ws:List (List Nat)) (W:List Nat) (i s:Nat):Bool:=(List.range W.length).all λr => !(ws.getD i []).contains (W.getD r 0) || decide (r<s)
def GJ (ws:List (List Nat)) (W:List Nat) (i s:Nat):Bool:=decide (s<=W.length) && (List.range W.length).all λr => !((ws.getD (W.getD r 0) []).contains i) || decide (s<=r)
section
variable {P:Program} {Q:Exit->Act->World->Prop}
structure acv (P:Program) (ds:List (Option Tmp)) (ws ns:List (List Nat)) (Cs:List (Option Value)) (W:List Nat) (M:Nat->World->Prop) (a:Act) (i:Nat) (o:Oper):Prop where
 c:W.contains i=false->∀ s x,Ms ws W i s=true->GJ ws W i s=true->M s x->Gives P o (ai ds (cv Cs) (ns.getD i []) a) x (λv y=>v=cv Cs i/\y=x)
 w:∀ r,r<W.length->W.getD r 0=i->∀ x,M r x->Gives P o (ai ds (cv Cs) (ns.getD i []) a) x (λ_ y=>M (r+1) y)
structure QI (Cs:List (Option Value)) (W:List Nat) (M:Nat->World->Prop) (L:Array Bool) (vs:Nat->Value) (x:World):Prop where
 st:∃ s,s<=W.length/\(∀ r,r<W.length->L.getD (W.getD r 0) false=decide (r<s))/\M s x
 val:∀ j,L.getD j false=true->∀ c,Cs.getD j none=some c->vs j=c
theorem Nh {W:List Nat} {i:Nat} (h:W.contains i=true):∃ r,r<W.length/\W.getD r 0=i:=by
 obtain⟨r,hr,e⟩:=List.mem_iff_getElem.1 (by simpa using h:i∈W)
 exact⟨r,hr,by simp[List.getD,hr,e]⟩
end
section
variable {P:Program} {ds:List (Option Tmp)} {ws ns:List (List Nat)} {Cs:List (Option Value)} {W:List Nat} {M:Nat->World->Prop} {a:Act} {i:Nat} {o:Oper}
theorem Sk {W:List Nat} {i r:Nat} (hw:W.contains i=false) (hr:r<W.length) (e:W.getD r 0=i):False:=by
 have:W.contains i=true:=by rw[← e];simp[List.getD,hr]
 rw[hw]at this;cases this
theorem qc (h:∀ (x:World),Gives P o (ai ds (cv Cs) (ns.getD i []) a) x (λv y=>v=cv Cs i/\y=x)) (hw:W.contains i=false:=by kernel_rfl):acv P ds ws ns Cs W M a i o :=
 ⟨λ_ _ x _ _ _=>h x,λ_ hr e=>(Sk hw hr e).elim⟩
end
def Jh (P:Program) (R:Value->World->Prop) (X:List PanicEntry->World->Prop):Result Next->Prop
 |.ok (.enter f args) w'=>Calls P f args w' λe w''=>(∃ v,e = .returned v/\R v w'')\/(∃ ch,e = .panicked ch/\X ch w'')
 |r=>p9 P R r
def lN (P:Program) (X:List PanicEntry->World->Prop) (o:Oper) (a:Act) (w:World) (R:Value->World->Prop):Prop:=Jh P R X ((execOp a.eval o).run P w)
theorem Gives.x {P:Program} {X:List PanicEntry->World->Prop} {o:Oper} {a:Act} {w:World} {R:Value->World->Prop} (h:Gives P o a w R):lN P X o a w R:=by
 unfold Gives at h
 unfold lN
 generalize (execOp a.eval o).run P w=r at *
 cases r with
 |ok n w' =>
  cases n
  case enter f args=>exact Calls.mono h λe w'' he => .inl he
  all_goals exact h
 |halt x w'=>exact h.elim
theorem lN.mono {P:Program} {X:List PanicEntry->World->Prop} {o:Oper} {a:Act} {w:World} {R R':Value->World->Prop} (h:lN P X o a w R) (hr:∀ v w',R v w'->R' v w'):lN P X o a w R':=by
 unfold lN at h ⊢
 generalize (execOp a.eval o).run P w=r at *
 cases r with
 |ok n w' =>
  cases n <;> simp only[Jh,p9]at h ⊢
  case value v=>exact hr _ _ h
  case skip=>exact hr _ _ h
  case enter f args =>
   refine Calls.mono h λe w'' he => ?_
   rcases he with⟨v,rfl,hv⟩|he
   · exact .inl ⟨v,rfl,hr _ _ hv⟩
   · exact .inr he
  case row row args=>exact Rows.mono h λv w'' hv=>hr _ _ hv
 |halt x w'=>exact h.elim
theorem lN.wp {P:Program} {X:List PanicEntry->World->Prop} {o:Oper} {a:Act} {w:World} {R:Value->World->Prop} {K:Act->World->Prop} {Q:Exit->Act->World->Prop} (h:lN P X o a w R) (hK:∀ v w',R v w'->K (a.put o.dst v) w') (hX:∀ ch w',X ch w'->Q (.panic ch) a w'):o.wp P a w K Q:=by
 unfold lN at h
 unfold Oper.wp
 generalize (execOp a.eval o).run P w=r at *
 cases r with
 |ok n w' =>
  cases n <;> simp only[Jh,p9,Oper.upon]at h ⊢
  case value v=>exact hK _ _ h
  case skip=>exact hK _ _ h
  case enter f args =>
   refine Calls.mono h λe w'' he => ?_
   rcases he with⟨v,rfl,hr⟩|⟨ch,rfl,hx⟩
   · exact hK _ _ hr
   · exact hX _ _ hx
  case row row args=>exact Rows.mono h λv w'' hr=>hK _ _ hr
 |halt x w'=>exact h.elim
theorem put_defers (a:Act) (d:Option Tmp) (v:Value):(a.put d v).defers=a.defers:=by cases d <;> rfl
section
variable {P:Program} {Q:Exit->Act->World->Prop} {ops:Array Oper}
theorem Yw {a:Act} {w:World} (X:List PanicEntry->World->Prop) (hX:∀ ch w' a',a'.defers=[]->X ch w'->Q (.panic ch) a' w') (hd:a.defers=[]) (N:Nat) (ds:List (Option Tmp)) (ws ns us:List (List Nat)) (hN:a.tmps.size=N) (hok:iR N ops ds ws ns us=true)
 (I:Array Bool->(Nat->Value)->World->Prop) (hI0:I (Array.replicate ops.size false) (λ_=>undef) w)
 (hstep:∀ i o,ops[i]? = some o->∀ (L:Array Bool) (vs:Nat->Value) (x:World),L.size=ops.size->L.getD i false=false->(∀ j∈ws.getD i [],L.getD j false=true)->qO ws L->I L vs x->lN P X o (ai ds vs (ns.getD i []) a) x (λv y=>I (L.setIfInBounds i true) (upd vs i v) y))
 (hend:∀ (L:Array Bool) (vs:Nat->Value) (x:World),(∀ j,j<ops.size->L.getD j false=true)->I L vs x->Q .normal (ai ds vs (List.range ops.size) a) x):wpAny P .any ops Q ops.size (Array.replicate ops.size false) a w :=
 (Qx (λfuel L a x=>a.defers=[]->wpAny P .any ops Q fuel L a x) (lN P X) (λ_ _ _ h1 h2 _=>⟨h1,h2⟩) (λfuel L a x h1 h2 hd=>⟨h1,λi hi=>by
  obtain⟨-,o,ho,-⟩:=mem_ready.1 hi
  unfold wpOp
  rw[ho]
  by_cases hgd:o.guard=none
  · have hw:Region.wanted o (yielded ops a.tmps)=true:=by simp[Region.wanted,hgd]
    simp only[hw,if_true]
    obtain⟨R,hg,hR⟩:=h2 i hi o ho hgd
    exact .inl (hg.wp (λv w' h=>hR v w' h (by rw[put_defers];exact hd)) (λch w' h=>hX ch w' a hd h))
  · exact(hgd (Qw hok ho)).elim⟩) (λo a a' x R e h=>by unfold lN at h ⊢;rw[e];exact h) N ds ws ns us hN hok I hI0 hstep hend) hd
end
def K8 (ds:List (Option Tmp)) (ws:List (List Nat)) (Cs:List (Option Value)) (W:List Nat):Bool :=
 (W.all λj=>decide (j<ws.length) && ((ds.getD j none).isNone || (Cs.getD j none).isSome)) && ((List.range (W.length - 1)).all λr=>(ws.getD (W.getD (r+1) 0) []).contains (W.getD r 0)) &&
 ((List.range ws.length).all λj=>(Cs.getD j none).isSome || W.contains j)
section
variable {P:Program} {Q:Exit->Act->World->Prop}
structure Kq (P:Program) (X:List PanicEntry->World->Prop) (ds:List (Option Tmp)) (ws ns:List (List Nat)) (Cs:List (Option Value)) (W:List Nat) (M:Nat->World->Prop) (a:Act) (i:Nat) (o:Oper):Prop where
 c:W.contains i=false->∀ s x,Ms ws W i s=true->GJ ws W i s=true->M s x->Gives P o (ai ds (cv Cs) (ns.getD i []) a) x (λv y=>v=cv Cs i/\y=x)
 w:∀ r,r<W.length->W.getD r 0=i->∀ x,M r x->lN P X o (ai ds (cv Cs) (ns.getD i []) a) x (λv y=>(∀ c,Cs.getD i none=some c->v=c)/\M (r+1) y)
structure XI (Cs:List (Option Value)) (W:List Nat) (M:Nat->World->Prop) (L:Array Bool) (vs:Nat->Value) (x:World):Prop where
 st:∃ s,s<=W.length/\(∀ r,r<W.length->L.getD (W.getD r 0) false=decide (r<s))/\M s x
 val:∀ j,L.getD j false=true->∀ c,Cs.getD j none=some c->vs j=c
theorem XC {a:Act} {w:World} {l:List Oper} (X:List PanicEntry->World->Prop) (hX:∀ ch w' a',a'.defers=[]->X ch w'->Q (.panic ch) a' w') (hd:a.defers=[]) (N:Nat) (ds:List (Option Tmp)) (ws ns:List (List Nat)) (Cs:List (Option Value)) (W:List Nat) (M:Nat->World->Prop) (hN:a.tmps.size=N) (hok:iR N l.toArray ds ws ns []=true) (hq:K8 ds ws Cs W=true) (hwl:ws.length=l.length) (hns:((List.range l.length).all λi=>(ns.getD i []).all λj=>(ws.getD i []).contains j && decide (j<l.length))=true)
 (hM:M 0 w) (hstep:lJ (Kq P X ds ws ns Cs W M a) 0 l)
 (hend:∀ (x:World),M W.length x->Q .normal (ai ds (cv Cs) (List.range l.length) a) x):wpAny P .any l.toArray Q l.toArray.size (Array.replicate l.toArray.size false) a w:=by
 simp only[K8,Bool.and_eq_true]at hq
 obtain⟨⟨q1,q2⟩,q3⟩:=hq
 have hWd:∀ r,r<W.length->W.getD r 0<l.length/\(ds.getD (W.getD r 0) none=none\/(Cs.getD (W.getD r 0) none).isSome=true):=λr hr=>by
  have:=List.all_eq_true.1 q1 (W.getD r 0) (by simp[List.getD,hr])
  simp only[Bool.and_eq_true,decide_eq_true_eq,Bool.or_eq_true]at this
  exact⟨by rw[← hwl];exact this.1,by simpa using this.2⟩
 have hWc:∀ r,r+1<W.length->W.getD r 0∈ws.getD (W.getD (r+1) 0) []:=λr hr=>by
  have:=List.all_eq_true.1 q2 r (List.mem_range.2 (by omega))
  simpa using this
 have hval:∀ j,j<l.length->(∃ c,Cs.getD j none=some c)\/∃ r,r<W.length/\W.getD r 0=j:=λj hj=>by
  have:=List.all_eq_true.1 q3 j (List.mem_range.2 (by omega))
  simp only[Bool.or_eq_true]at this
  rcases this with h|h
  · exact .inl (Option.isSome_iff_exists.1 h)
  · exact .inr (Nh h)
 have hcv:∀ (L:Array Bool) (vs:Nat->Value) (x:World),XI Cs W M L vs x->∀ j,j<l.length->L.getD j false=true->vs j=cv Cs j\/ds.getD j none=none:=λL vs x hI j hj hL=>by
  rcases hval j hj with⟨c,hc⟩|⟨r,hr,e⟩
  · exact .inl (by rw[hI.val j hL c hc];simp only[cv,hc];rfl)
  · rcases(hWd r hr).2 with h|h
    · exact .inr (by rw[← e];exact h)
    · obtain⟨c,hc⟩:=Option.isSome_iff_exists.1 h
      rw[e]at hc
      exact .inl (by rw[hI.val j hL c hc];simp only[cv,hc];rfl)
 refine Yw X hX hd N ds ws ns [] hN hok (XI Cs W M) ?_ ?_ ?_
 · have hf:∀ j,(Array.replicate l.toArray.size false).getD j false=false:=by
    intro j
    by_cases hj:j<l.toArray.size <;> simp[Array.getD,hj]
   exact⟨⟨0,Nat.zero_le _,λr _=>by rw[hf];simp,hM⟩,λj h=>by rw[hf]at h;cases h⟩
 · intro i o ho L vs x hsz oO bf hcl hI
   have hil:i<L.size:=by
    have:=(Array.getElem?_eq_some_iff.1 ho).1
    omega
   have adB:i<l.length:=by rw[hsz]at hil;simpa using hil
   have gm:=Ae l 0 hstep i o (by simpa using ho)
   rw[Nat.zero_add]at gm
   have hset:(L.setIfInBounds i true).getD i false=true:=by simp[hil]
   have hne:∀ j,j≠i->(L.setIfInBounds i true).getD j false=L.getD j false:=λj hj=>getD_set_ne false (λe=>hj e.symm)
   have hup:∀ (v:Value) j,j≠i->upd vs i v j=vs j:=λv j hj=>by simp[upd,hj]
   have wO:∀ (v:Value),upd vs i v i=v:=λv=>by simp[upd]
   have hact:ai ds vs (ns.getD i []) a=ai ds (cv Cs) (ns.getD i []) a:=Dm _ _ λj hj=>by
    have h1:=List.all_eq_true.1 (List.all_eq_true.1 hns i (List.mem_range.2 adB)) j hj
    simp only[Bool.and_eq_true,decide_eq_true_eq]at h1
    exact hcv L vs x hI j h1.2 (bf j (by simpa using h1.1))
   obtain⟨s,hs,hL,hMs⟩:=hI.st
   rw[hact]
   by_cases hw:W.contains i=true
   · obtain⟨r,hr,e⟩:=Nh hw
     have h1:¬ r<s:=λh=>by have:=hL r hr;rw[e,oO]at this;simp[h]at this
     have hsr:s=r:=by
      rcases Nat.eq_zero_or_pos r with h0|h0
      · omega
      · have h2:=hL (r - 1) (by omega)
        have h3:=hWc (r - 1) (by omega)
        rw[Nat.sub_add_cancel h0,e]at h3
        rw[bf _ h3]at h2
        have:r - 1<s:=by simpa using h2.symm
        omega
     subst hsr
     refine(gm.w s hr e x hMs).mono λv y hy=>⟨⟨s+1,hr,λr' hr' => ?_,hy.2⟩,λj hj c hc => ?_⟩
     · by_cases e2:W.getD r' 0=i
       · rw[e2,hset]
         have h5:¬ r'<s:=λh=>by have:=hL r' hr';rw[e2,oO]at this;simp[h]at this
         have h4:r'=s:=by
          rcases Nat.lt_or_ge s r' with h|h
          · exfalso
            have hr0:r'≠0:=by omega
            have h3:=hWc (r' - 1) (by omega)
            rw[Nat.sub_add_cancel (by omega),e2]at h3
            have h6:=hL (r' - 1) (by omega)
            rw[bf _ h3]at h6
            have:r' - 1<s:=by simpa using h6.symm
            omega
          · omega
         subst h4;simp
       · rw[hne _ e2,hL r' hr']
         have:r'≠s:=λh=>by subst h;exact e2 e
         by_cases h:r'<s
         · simp[h];omega
         · simp[h];omega
     · by_cases e2:j=i
       · subst e2;rw[wO];exact hy.1 c hc
       · rw[hne j e2]at hj;rw[hup v j e2];exact hI.val j hj c hc
   · have hw':W.contains i=false:=by simpa using hw
     have hlo:Ms ws W i s=true:=List.all_eq_true.2 λr hr=>by
      have hr:=List.mem_range.1 hr
      by_cases h:(ws.getD i []).contains (W.getD r 0)=true
      · have:=hL r hr
        rw[bf _ (by simpa using h)]at this
        rw[h];simpa using this.symm
      · rw[Bool.not_eq_true]at h;rw[h];rfl
     have hhi:GJ ws W i s=true:=by
      simp only[GJ,Bool.and_eq_true,decide_eq_true_eq]
      refine⟨hs,List.all_eq_true.2 λr hr => ?_⟩
      have hr:=List.mem_range.1 hr
      by_cases h:(ws.getD (W.getD r 0) []).contains i=true
      · rw[h]
        have:¬ r<s:=λhlt=>by
         have h2:=hL r hr
         simp only[hlt,decide_true]at h2
         have:=hcl _ h2 i (by simpa using h)
         rw[oO]at this;cases this
        simp;omega
      · rw[Bool.not_eq_true]at h;rw[h];rfl
     refine((gm.c hw' s x hlo hhi hMs).x).mono λv y hy => ?_
     obtain⟨rfl,rfl⟩:=hy
     refine⟨⟨s,hs,λr hr => ?_,hMs⟩,λj hj c hc => ?_⟩
     · rw[hne _ (λe=>by
        have:W.contains i=true:=by rw[← e];simp[List.getD,hr]
        rw[hw']at this;cases this)]
       exact hL r hr
     · by_cases e2:j=i
       · subst e2;rw[wO];simp only[cv,hc];rfl
       · rw[hne j e2]at hj;rw[hup _ j e2];exact hI.val j hj c hc
 · intro L vs x hall hI
   have ry:∀ j,j<l.length->L.getD j false=true:=λj hj=>hall j (by simpa using hj)
   obtain⟨s,hs,hL,hMs⟩:=hI.st
   have hse:s=W.length:=by
    rcases Nat.lt_or_ge s W.length with h|h
    · exfalso
      have h1:=hL s h
      rw[ry _ (hWd s h).1]at h1
      simp at h1
    · omega
   subst hse
   have:=hend x hMs
   rwa[← Dm (ds:=ds) (vs:=vs) (us:=cv Cs) _ _ (λj hj=>hcv L vs x hI j (List.mem_range.1 hj) (ry j (List.mem_range.1 hj)))]at this
theorem wx {id:Nat} {a:Act} {w:World} {l:List Oper} (X:List PanicEntry->World->Prop) (N:Nat) (ds:List (Option Tmp)) (ns:List (List Nat)) (Cs:List (Option Value)) (W:List Nat) (M:Nat->World->Prop) (hM:M 0 w.drew) (hstep:lJ (Kq P X ds (eZ l.toArray) ns Cs W M a) 0 l)
 (hend:∀ (x:World),M W.length x->Q .normal (ai ds (cv Cs) (rg 0 ds) a) x)
 (hX:∀ ch w' a',a'.defers=[]->X ch w'->Q (.panic ch) a' w') (hd:a.defers=[]:=by rfl) (hm:P.follows .mixedOrders=true:=by kernel_rfl) (hN:a.tmps.size=N:=by rfl) (hok:iR N l.toArray ds (eZ l.toArray) ns []=true:=by kernel_rfl) (hq:K8 ds (eZ l.toArray) Cs W=true:=by kernel_rfl) (hwl:(eZ l.toArray).length=l.length:=by kernel_rfl) (hns:((List.range l.length).all λi=>(ns.getD i []).all λj=>((eZ l.toArray).getD i []).contains j && decide (j<l.length))=true:=by kernel_rfl) (hr:rg 0 ds=List.range l.length:=by rfl):(Code.region id l.toArray true).wp P Q a w :=
 wp_region_any hm (XC X hX hd N ds (eZ l.toArray) ns Cs W M hN hok hq hwl hns hM hstep λx h=>by have:=hend x h;rwa[hr]at this)
end
section
variable {P:Program} {X:List PanicEntry->World->Prop} {ds:List (Option Tmp)} {ws ns:List (List Nat)} {Cs:List (Option Value)} {W:List Nat} {M:Nat->World->Prop} {a:Act} {i:Nat} {o:Oper}
theorem xc (h:∀ (x:World),Gives P o (ai ds (cv Cs) (ns.getD i []) a) x (λv y=>v=cv Cs i/\y=x)) (hw:W.contains i=false:=by kernel_rfl):Kq P X ds ws ns Cs W M a i o :=
 ⟨λ_ _ x _ _ _=>h x,λ_ hr e=>(Sk hw hr e).elim⟩
end
def Iw (p:Value->World->Prop):Prop:=∀ v x y,p v x->p v y
theorem abN:Iw dJ:=λ_ _ _ h=>h
def Fv:List Bool->List (Value->World->Prop)->Prop
 |b :: bs,p :: l=>(vD p/\(b=false->Iw p))/\Fv bs l
 | [],[]=>True
 |_,_=>False
theorem Fv.at:∀ {bs:List Bool} {l:List (Value->World->Prop)},Fv bs l->∀ j,vD (l.getD j dJ)/\(bs.getD j false=false->Iw (l.getD j dJ))
 | [],[],_,_=>⟨yx,λ_=>abN⟩
 |b :: _,_ :: _,h,0=>⟨h.1.1,λhb=>h.1.2 hb⟩
 |_ :: bs,_ :: l,h,j+1=>Fv.at (bs:=bs) (l:=l) h.2 j
def TL (ws:List (List Nat)) (e:Nat) (be:List Nat):Bool:=be.all λi=>decide (i<e) && ((ws.getD e []).contains i || be.any λm=>decide (i<m) && (ws.getD m []).contains i)
section
variable {P:Program} {Q:Exit->Act->World->Prop}
structure LI (ws:List (List Nat)) (e:Nat) (kl:List Bool) (Ps:List (Value->World->Prop)) (O:Nat->Prop) (Pl:Value->World->Prop) (w:World) (L:Array Bool) (vs:Nat->Value) (x:World):Prop where
 mv:Mv (λb=>w.heap.size<=b\/(O b/\L.getD e false=true)) w x
 val:∀ j,j≠e->L.getD j false=true->(kl.getD j false=true->L.getD e false=false\/e∈ws.getD j [])->(Ps.getD j dJ) (vs j) x
 last:L.getD e false=true->Pl (vs e) x
structure ag3 (ws:List (List Nat)) (e:Nat) (kl:List Bool) (Ps:List (Value->World->Prop)) (O:Nat->Prop) (Pl:Value->World->Prop) (w:World) (n:Nat) (vs:Nat->Value) (x:World):Prop where
 mv:Mv (λb=>w.heap.size<=b\/O b) w x
 val:∀ j,j<n->j≠e->(kl.getD j false=false\/e∈ws.getD j [])->(Ps.getD j dJ) (vs j) x
 last:Pl (vs e) x
end
end Go.Proofs.YtadecgbblajifaaGreatDoor
