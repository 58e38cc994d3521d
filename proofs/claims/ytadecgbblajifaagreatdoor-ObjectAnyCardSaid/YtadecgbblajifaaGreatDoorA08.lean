import Derived.Laws.BytesArg
import Derived.Test.YtadecgbblajifaaGreatDoorA05
import Derived.Laws.IdiomCopy
set_option linter.unusedSimpArgs false
set_option linter.unusedVariables false
set_option maxRecDepth 100000
set_option maxHeartbeats 25600000
namespace Go.Proofs.YtadecgbblajifaaGreatDoor
section
open Go.RowKit Go.Instr
theorem kT {w:World} {X:Nat} {a b:Value} {t:TypeId} {z:Nat × Nat} (h:w.heap[X]? = some (.cells #[a,b] t z)):w.cell? ⟨X,0,none⟩=some a/\w.cell? ⟨X,1,none⟩=some b:=by simp[World.cell?,h]
theorem kU {w:World} {X:Nat} {a b c:Value} {t:TypeId} {z:Nat × Nat} (h:w.heap[X]? = some (.cells #[a,b,c] t z)):w.cell? ⟨X,0,none⟩=some a/\w.cell? ⟨X,1,none⟩=some b/\w.cell? ⟨X,2,none⟩=some c:=by simp[World.cell?,h]
theorem gtr {a b c:World} (h:Grow a b) (k:Grow b c):Grow a c:=Mv.trans h k (λ_ e=>e.elim)
theorem wK {w:World} {X:Nat} {a b c d e:Value} {t:TypeId} (h:w.heap[X]? = some (.cells #[a,b,c,d,e] t (0,0))) (p q r s u:Value) :
 (((((w.setCell ⟨X,0,none⟩ p).setCell ⟨X,1,none⟩ q).setCell ⟨X,2,none⟩ r).setCell ⟨X,3,none⟩ s).setCell ⟨X,4,none⟩ u).heap[X]? = some (.cells #[p,q,r,s,u] t (0,0))/\Mv (λb=>b=X) w (((((w.setCell ⟨X,0,none⟩ p).setCell ⟨X,1,none⟩ q).setCell ⟨X,2,none⟩ r).setCell ⟨X,3,none⟩ s).setCell ⟨X,4,none⟩ u):=by
 constructor
 · have h1:=block_setCell (p:=⟨X,0,none⟩) h rfl p;have h2:=block_setCell (p:=⟨X,1,none⟩) h1 rfl q;have h3:=block_setCell (p:=⟨X,2,none⟩) h2 rfl r;have h4:=block_setCell (p:=⟨X,3,none⟩) h3 rfl s;have h5:=block_setCell (p:=⟨X,4,none⟩) h4 rfl u
   simpa using h5
 · exact(((((Mv.refl (λb=>b=X) w).setCell (p:=⟨X,0,none⟩) (.inl rfl) p).setCell (p:=⟨X,1,none⟩) (.inl rfl) q).setCell (p:=⟨X,2,none⟩) (.inl rfl) r).setCell (p:=⟨X,3,none⟩) (.inl rfl) s).setCell (p:=⟨X,4,none⟩) (.inl rfl) u
theorem mi {w:World} {X:Nat} {c0 c1 c2 c3:Value} {t:TypeId} (h:w.heap[X]? = some (.cells #[c0,c1,c2,c3] t (0,0))):(w.cell? ⟨X,0,none⟩=some c0/\w.cell? ⟨X,1,none⟩=some c1)/\w.cell? ⟨X,2,none⟩=some c2/\w.cell? ⟨X,3,none⟩=some c3:=by simp[World.cell?,h]
structure fA (w:World) (o:bX):Prop where
 params:ai 3 aL.cells w o.pv o.d.params
 slots:ai 4 aG.cells w o.sv o.d.slots
 code:ai 5 Ins.cells w o.cv o.d.code
 refs:ai 2 aI.cells w o.rv o.d.refs
theorem fA.later {w w':World} {o:bX} (h:fA w o) (hm:Grow w w'):fA w' o:=⟨h.params.later hm,h.slots.later hm,h.code.later hm,h.refs.later hm⟩
theorem fA.at {w:World} {o:bX} (h:fA w o) (hk:vU o.d):mF w o:=⟨hk,h.params,h.slots,h.code,h.refs⟩
def eu:aA:=⟨⟨#[]⟩,[],[],0,0,[],[]⟩
def nH:bX:=⟨eu,.slice none 0 0,.slice none 0 0,.slice none 0 0,.slice none 0 0⟩
theorem vM (w:World):fA w nH:=⟨ai.nil _ _ _,ai.nil _ _ _,ai.nil _ _ _,ai.nil _ _ _⟩
def Yo (w:World) (d:aA) (n:Int) (e:Ending) (w':World):Prop:=∃ o:bX,e = .returned (.tuple #[o.val,.int .i64 n])/\o.d=d/\fA w' o/\Grow w w'
theorem wL {w:World} {X:Nat} {a0 a1 a2 a3 a4 a5 a6:Value} {t:TypeId} (h:w.heap[X]? = some (.cells #[a0,a1,a2,a3,a4,a5,a6] t (0,0))) (b0 b1 b2 b3 b4 b5 b6:Value) :
 (((((((w.setCell ⟨X,0,none⟩ b0).setCell ⟨X,1,none⟩ b1).setCell ⟨X,2,none⟩ b2).setCell ⟨X,3,none⟩ b3).setCell ⟨X,4,none⟩ b4).setCell ⟨X,5,none⟩ b5).setCell ⟨X,6,none⟩ b6).heap[X]? = some (.cells #[b0,b1,b2,b3,b4,b5,b6] t (0,0)) /\
 Mv (λb=>b=X) w (((((((w.setCell ⟨X,0,none⟩ b0).setCell ⟨X,1,none⟩ b1).setCell ⟨X,2,none⟩ b2).setCell ⟨X,3,none⟩ b3).setCell ⟨X,4,none⟩ b4).setCell ⟨X,5,none⟩ b5).setCell ⟨X,6,none⟩ b6):=by
 constructor
 · have h1:=block_setCell (p:=⟨X,0,none⟩) h rfl b0;have h2:=block_setCell (p:=⟨X,1,none⟩) h1 rfl b1;have h3:=block_setCell (p:=⟨X,2,none⟩) h2 rfl b2;have h4:=block_setCell (p:=⟨X,3,none⟩) h3 rfl b3;have h5:=block_setCell (p:=⟨X,4,none⟩) h4 rfl b4;have h6:=block_setCell (p:=⟨X,5,none⟩) h5 rfl b5;have h7:=block_setCell (p:=⟨X,6,none⟩) h6 rfl b6
   simpa using h7
 · exact(((((((Mv.refl (λb=>b=X) w).setCell (p:=⟨X,0,none⟩) (.inl rfl) _).setCell (p:=⟨X,1,none⟩) (.inl rfl) _).setCell (p:=⟨X,2,none⟩) (.inl rfl) _).setCell (p:=⟨X,3,none⟩) (.inl rfl) _).setCell (p:=⟨X,4,none⟩) (.inl rfl) _).setCell (p:=⟨X,5,none⟩) (.inl rfl) _).setCell (p:=⟨X,6,none⟩) (.inl rfl) _
theorem aM {w:World} {X:Nat} {c0 c1 c2 c3 c4 c5 c6:Value} {t:TypeId} (h:w.heap[X]? = some (.cells #[c0,c1,c2,c3,c4,c5,c6] t (0,0))):(w.cell? ⟨X,0,none⟩=some c0/\w.cell? ⟨X,1,none⟩=some c1/\w.cell? ⟨X,2,none⟩=some c2)/\(w.cell? ⟨X,3,none⟩=some c3/\w.cell? ⟨X,4,none⟩=some c4)/\w.cell? ⟨X,5,none⟩=some c5/\w.cell? ⟨X,6,none⟩=some c6:=by
 simp[World.cell?,h]
theorem qf {α:Type} {n:Nat} {f:α->List Value} {x y:World} {v:Value} {l:List α} {g:Nat} {cs:Array Value} {t:TypeId} (h:ai n f x v l) (hno:∀ (u:α) (o:Nat),(∀ (j:Nat) (c:Value),(f u)[j]? = some c->cs[o+j]? = some c)->False)
 (hb:x.heap[g]? = some (.cells cs t (0,0))) (hm:Mv (λb=>b=g) x y):ai n f y v l:=by
 cases l with
 |nil =>
  obtain⟨a,cap,e,h1,h2,_⟩:=h;exact⟨a,cap,e,h1,h2,λi x hx=>by simp at hx⟩
 |cons u l =>
  refine h.stay hm (λq hq e => ?_);subst e;obtain⟨b',off,cap,e,_,hc⟩:=h.at (i:=0) (by simp);rw[e]at hq;simp only[Value.ownBlock,Option.some.injEq]at hq;subst hq;refine hno u (off+0 * n) (λj c hj => ?_);have h0:=hc j c (by simpa using hj)
  simpa[World.cell?,hb]using h0
theorem TD (u:aG) (o:Nat) (h:∀ (j:Nat) (c:Value),(aG.cells u)[j]? = some c->(#[.string ⟨#[]⟩,.slice none 0 0,.slice none 0 0,.int .i64 0,.int .i64 0,.slice none 0 0,.slice none 0 0]:Array Value)[o+j]? = some c):False:=by
 have h0:=h 0 _ rfl;have h1:=h 1 _ rfl;rcases o with _|_|_|_|_|_|_|o <;> simp at h0 h1
theorem Uo (u:Ins) (o:Nat) (h:∀ (j:Nat) (c:Value),(Ins.cells u)[j]? = some c->(#[.string ⟨#[]⟩,.slice none 0 0,.slice none 0 0,.int .i64 0,.int .i64 0,.slice none 0 0,.slice none 0 0]:Array Value)[o+j]? = some c):False:=by
 have h0:=h 0 _ rfl;rcases o with _|_|_|_|_|_|_|o <;> simp at h0
theorem Uq (u:aI) (o:Nat) (h:∀ (j:Nat) (c:Value),(aI.cells u)[j]? = some c->(#[.string ⟨#[]⟩,.slice none 0 0,.slice none 0 0,.int .i64 0,.int .i64 0,.slice none 0 0,.slice none 0 0]:Array Value)[o+j]? = some c):False:=by
 have h0:=h 0 _ rfl;have h1:=h 1 _ rfl;rcases o with _|_|_|_|_|_|_|o <;> simp at h0 h1
theorem Ur (u:aL) (o:Nat) (h:∀ (j:Nat) (c:Value),(aL.cells u)[j]? = some c->(#[.string ⟨#[]⟩,.slice none 0 0,.slice none 0 0,.int .i64 0,.int .i64 0,.slice none 0 0,.slice none 0 0]:Array Value)[o+j]? = some c):False:=by
 have h0:=h 0 _ rfl;have h1:=h 1 _ rfl;rcases o with _|_|_|_|_|_|_|o <;> simp at h0 h1
theorem fA.box {x y:World} {o:bX} {g:Nat} {t:TypeId} (h:fA x o) (hb:x.heap[g]? = some (.cells #[.string ⟨#[]⟩,.slice none 0 0,.slice none 0 0,.int .i64 0,.int .i64 0,.slice none 0 0,.slice none 0 0] t (0,0))) (hm:Mv (λb=>b=g) x y):fA y o :=
 ⟨qf h.params Ur hb hm,qf h.slots TD hb hm,qf h.code Uo hb hm,qf h.refs Uq hb hm⟩
theorem fA.form {w:World} {o:bX} (h:fA w o):∃ d a1 c1 a2 c2 a3 c3 a4 c4,o=⟨d,.slice a1 d.params.length c1,.slice a2 d.slots.length c2,.slice a3 d.code.length c3,.slice a4 d.refs.length c4⟩:=by
 obtain⟨d,p1,p2,p3,p4⟩:=o;obtain⟨a1,c1,h1,-,-⟩:=h.params.form;obtain⟨a2,c2,h2,-,-⟩:=h.slots.form;obtain⟨a3,c3,h3,-,-⟩:=h.code.form;obtain⟨a4,c4,h4,-,-⟩:=h.refs.form;simp only at h1 h2 h3 h4;subst h1 h2 h3 h4;exact⟨d,a1,c1,a2,c2,a3,c3,a4,c4,rfl⟩
theorem IV {w:World} {a:Option Addr} {cap:Nat} {l:List Int} (h:ai 1 aJ w (.slice a l.length cap) l) (k:Nat) (hk:k<=l.length) (a2:Option Addr) (ha:0<k->a2=a):ai 1 aJ w (.slice a2 k cap) (l.take k):=by
 obtain⟨a',cap',e,h1,h2,h3⟩:=h;simp only[Value.slice.injEq,true_and]at e;obtain⟨rfl,rfl⟩:=e;have hl:(l.take k).length=k:=by simp;omega
 refine⟨a2,cap,by rw[hl],by omega,by omega,λi x hx => ?_⟩;have hi:i<k:=by have:=(List.getElem?_eq_some_iff.1 hx).1;omega
 rw[ha (by omega)];exact h3 i x (by rw[List.getElem?_take_of_lt hi]at hx;exact hx)
theorem IW {w:World} {a:Option Addr} {cap:Nat} {l:List Int} (h:ai 1 aJ w (.slice a l.length cap) l) (k:Nat) (hk:k<=l.length) (a2:Option Addr) (ha:k<l.length->a2=a.map (·.add (k * 1))):ai 1 aJ w (.slice a2 (l.length - k) (cap - k)) (l.drop k):=by
 obtain⟨a',cap',e,h1,h2,h3⟩:=h;simp only[Value.slice.injEq,true_and]at e;obtain⟨rfl,rfl⟩:=e;have hl:(l.drop k).length=l.length - k:=by simp
 refine⟨a2,cap - k,by rw[hl],by omega,by omega,λi x hx => ?_⟩;have hi:i<l.length - k:=by have:=(List.getElem?_eq_some_iff.1 hx).1;omega
 obtain⟨b,off,rfl,hc⟩:=h3 (k+i) x (by rw[List.getElem?_drop]at hx;exact hx);refine⟨b,off+k,by rw[ha (by omega)];simp[Addr.add],λj u hu => ?_⟩;have:=hc j u hu;rw[show off+k+i * 1+j=off+(k+i) * 1+j by omega];exact this
theorem IA {w:World} {a:Option Addr} {cap:Nat} {l:List Int} (h:ai 1 aJ w (.slice a l.length cap) l) (k:Nat) (hk:k<=l.length) (a2:Option Addr) (c:Nat) (hc:l.length - k<=c) (ha:k<l.length->a2=a.map (·.add (k * 1))):ai 1 aJ w (.slice a2 (l.length - k) c) (l.drop k):=by
 obtain⟨a',cap',e,h1,h2,h3⟩:=IW h k hk a2 ha;simp only[Value.slice.injEq]at e;obtain⟨rfl,e2,rfl⟩:=e;exact⟨_,c,by rw[e2],by rw[← e2];exact hc,h2,h3⟩
def lh (v' v:Value):Prop:=∀ g,v'.ownBlock=some g->v.ownBlock=some g
theorem lh.trans {a b c:Value} (h:lh a b) (k:lh b c):lh a c:=λg e=>k g (h g e)
theorem Jm {a:Option Addr} {n m k c c':Nat} : lh (.slice (a.map (·.add k)) n c) (.slice a m c'):=λg e=>by
 cases a with
 |none=>simp[Value.ownBlock]at e
 |some a =>
  simp only[Option.map_some,Value.ownBlock,Option.some.injEq]at e ⊢;rw[← e];unfold Addr.add;split <;> rfl
theorem CQ {a:Option Addr} {n m c c':Nat} : lh (.slice a n c) (.slice a m c'):=λg e=>by
 cases a with
 |none=>simp[Value.ownBlock]at e
 |some a=>exact e
def xO (v:Value) (N:Nat):Prop:=∀ g,v.ownBlock=some g->g<N
def ko (v:Value) (N:Nat) (l:List Int):Prop:=l≠[]->xO v N
theorem xO.nil (N:Nat):xO (.slice none 0 0) N:=λg e=>by simp[Value.ownBlock]at e
def kr (w:World) (X N:Nat) (st:Option (List Int)):Prop:=∃ v,w.heap[X]? = some (.cells #[v,.bool st.isNone] 102 (0,0))/\∀ l,st=some l->ai 1 aJ w v l/\ko v N l
def rB:Option (List Int)->Nat->List Int × Option (List Int)
 |none,_=>([],none)
 |some l,n=>if l.length<n then([],none)else(l.take n,some (l.drop n))
theorem qg {l:List Int} {n:Nat} (h:l.length<n):rB (some l) n=([],none):=by show(if l.length<n then(([]:List Int),none)else(l.take n,some (l.drop n)))=_;rw[if_pos h]
theorem qA {l:List Int} {n:Nat} (h:¬ l.length<n):rB (some l) n=(l.take n,some (l.drop n)):=by show(if l.length<n then(([]:List Int),none)else(l.take n,some (l.drop n)))=_;rw[if_neg h]
def xP (X N:Nat) (w:World) (st:Option (List Int)) (P:Value->World->Prop) (e:Ending) (w':World):Prop:=∃ v,e = .returned v/\P v w'/\kr w' X N st/\Mv (λb=>b=X) w w'
theorem Xy {v:Value} {z:Bool} (u:Int) (o:Nat) (h:∀ (j:Nat) (c:Value),(aJ u)[j]? = some c->(#[v,.bool z]:Array Value)[o+j]? = some c) (hv:∀ k n,v ≠ .int k n):False:=by
 have h0:=h 0 _ rfl;rcases o with _|_|o
 · simp at h0;exact hv _ _ h0
 · simp at h0
 · simp at h0
theorem rY {w:World} {X:Nat} {v:Value} {z:Bool} (h:w.heap[X]? = some (.cells #[v,.bool z] 102 (0,0))):w.cell? ⟨X,0,none⟩=some v/\w.cell? ⟨X,1,none⟩=some (.bool z):=by
 simp[World.cell?,h]
theorem WK {X n N:Nat} {w:World} {l:List Int} {v rv:Value} {cap:Nat} {a:Option Addr} (hb:w.heap[X]? = some (.cells #[v,.bool false] 102 (0,0))) (hr:ai 1 aJ w (.slice a n cap) (l.take n)) (h2:ai 1 aJ w rv (l.drop n)) (hv:∀ k m,v ≠ .int k m) (h3:ko (.slice a n cap) N (l.take n)) (h4:ko rv N (l.drop n)) :
 xP X N w (some (l.drop n)) (λv w'=>ai 1 aJ w' v (l.take n)/\ko v N (l.take n)) (.returned (.slice a n cap)) (w.setCell ⟨X,0,none⟩ rv):=by
 have hm:Mv (λb=>b=X) w (w.setCell ⟨X,0,none⟩ rv):=(Mv.refl (λb=>b=X) w).setCell (p:=⟨X,0,none⟩) (.inl rfl) rv;have hst:∀ {q:Value} {m:List Int},ai 1 aJ w q m->ai 1 aJ (w.setCell ⟨X,0,none⟩ rv) q m:=λh=>qf h (λu o e=>Xy u o e hv) hb hm;exact⟨_,rfl,⟨hst hr,h3⟩,⟨rv,by simpa using block_setCell (p:=⟨X,0,none⟩) hb rfl rv,λm e=>by
  obtain rfl:=Option.some.inj e;exact⟨hst h2,h4⟩⟩,hm⟩
theorem Cz (X N:Nat) (st:Option (List Int)) (n:Nat) (w:World) (h:kr w X N st):Calls Tryz.prog 54 #[.pointer (some ⟨X,0,none⟩),.int .i64 n] w (xP X N w (rB st n).2 λv w'=>ai 1 aJ w' v (rB st n).1/\ko v N (rB st n).1):=by
 obtain⟨v,hb,hr⟩:=h;obtain⟨c0,c1⟩:=rY hb;have hX:=lt_of_block hb;have zt:=bC hb;rcases st with _|l
 · have HE:=ł (show kr (w.setCell ⟨X,1,none⟩ (.bool true)) X N none from⟨v,by simpa using block_setCell (p:=⟨X,1,none⟩) hb rfl (.bool true),λl e=>by cases e⟩);have HM:=ł ((Mv.refl (λb=>b=X) w).setCell (p:=⟨X,1,none⟩) (.inl rfl) (.bool true));simp only[Option.isNone_none]at c1;clear hb hr
   go_enter Tryz.func54,Tryz.ntmps54
   go_wp2_with fail;go_ret;exact⟨_,rfl,⟨ai.nil _ _ _,λ_=>xO.nil N⟩,HE.out,HM.out⟩
 obtain⟨hrow,hsm⟩:=hr l rfl;obtain⟨a,cap,rfl,hcap,Ad⟩:=hrow.form;simp only[Option.isNone_some]at c1 hb;by_cases hn:l.length<n
 · have hn':(l.length:Int)<(n:Int):=by omega
   have HE:=ł (show kr (w.setCell ⟨X,1,none⟩ (.bool true)) X N none from⟨_,by simpa using block_setCell (p:=⟨X,1,none⟩) hb rfl (.bool true),λl e=>by cases e⟩);have HM:=ł ((Mv.refl (λb=>b=X) w).setCell (p:=⟨X,1,none⟩) (.inl rfl) (.bool true));rw[qg hn];clear hb hr hrow
   go_enter Tryz.func54,Tryz.ntmps54
   go_wp2_with fail;go_ret;exact⟨_,rfl,⟨ai.nil _ _ _,λ_=>xO.nil N⟩,HE.out,HM.out⟩
 · have hn':¬ (l.length:Int)<(n:Int):=by omega
   have hnc:n<=cap:=by omega
   rw[qA hn];have HR:=ł hrow;have HB:=ł hb;have HN:=ł hn;have Ql:=ł hsm;clear hb hr hrow hn hsm
   go_enter Tryz.func54,Tryz.ntmps54
   go_wp2_with fail
   all_goals
    try subst_vars
    have hnn:=HN.out;go_ret;refine WK HB.out (IV HR.out _ (by omega) _ (λ_=>rfl)) (IA HR.out _ (by omega) _ _ (by omega) (λh => ?_)) (λk m e=>by cases e) (λhz g e=>Ql.out (λh0=>hz (by rw[h0];exact List.take_nil)) g (CQ g e)) (λhz g e=>Ql.out (λh0=>hz (by rw[h0];exact List.drop_nil)) g (by first|exact CQ g e|exact Jm g e))
    first|(exfalso;omega)|simp
theorem iy (X N:Nat) (st:Option (List Int)) (n:Nat) (w:World) (h:kr w X N st) (hB:∀ l,st=some l->aS l):Calls Tryz.prog 53 #[.pointer (some ⟨X,0,none⟩),.int .i64 n] w (xP X N w (rB st n).2 λv _=>v = .int .i64 (aF (rB st n).1)):=by
 have HC:=ł (Cz X N st n w h);have iP:=ł (show aS (rB st n).1 from by
  rcases st with _|l
  · intro c hc;cases hc
  · by_cases hl:l.length<n
    · rw[qg hl];intro c hc;cases hc
    · rw[qA hl];exact λc hc=>hB l rfl c (List.mem_of_mem_take hc))
 generalize (rB st n).1=out at *;generalize (rB st n).2=st' at *;clear h hB
 go_enter Tryz.func53,Tryz.ntmps53
 go_wp2_with fail;refine HC.out.mono ?_;rintro e w1 ⟨v,rfl,⟨hr,-⟩,hs,hm⟩;obtain⟨a,cap,rfl,hcap,Ad⟩:=hr.form;have HR:=ł hr;have Yp:=ł (show ∀ z,z=w1->xP X N w st' (λv _=>v = .int .i64 (aF out)) (.returned (.int .i64 (aF out))) z from λz e=>by
  subst e;exact⟨_,rfl,rfl,hs,hm⟩)
 clear hr hs hm HC;go_wp2_with fail
 go_loopw [5,12] (λnv t wr=>∃ k:Nat,t = .int .i64 k/\k<=out.length/\nv = .int .i64 (aF (out.take k))/\wr=w1) (λ_ t _=>out.length - (intOf t).toNat)
 case atStart=>exact⟨0,rfl,Nat.zero_le _,rfl,rfl⟩
 obtain⟨k,rfl,hk,rfl,rfl⟩:=hrel;by_cases hlt:k<out.length
 · have hkk:(k:Int)<(out.length:Nat):=by omega
   obtain⟨b,off,cap',e,_,hcc⟩:=HR.out.at hlt;simp only[Value.slice.injEq,true_and]at e;obtain⟨rfl,rfl⟩:=e;have c0:=hcc 0 _ rfl;simp only[Nat.add_zero,Nat.mul_one]at c0;have hbl:=World.block_lt_of_cell? _ _ c0;have hby:=iP.out out[k] (List.getElem_mem _);have HST:=ł (show aF (out.take (k+1))=iJ (aF (out.take k)) out[k]from by
    unfold aF;rw[List.take_succ_eq_append_getElem hlt,List.foldl_append];rfl)
   have Yq:=yT (out.take k);generalize aF (out.take k)=N at *;generalize out[k]=c at *;have Gw:=ł (λ(y:Int) h1 h2=>JM y c h1 h2 hby.1 hby.2);go_wp2_with fail;refine⟨⟨k+1,by go_num,by omega,?_,trivial⟩,by simp[intOf];omega⟩;have hw:wrap64 (N * 256)=(N * 256+9223372036854775808) % 18446744073709551616 - 9223372036854775808:=by unfold wrap64;rfl
   have hs:iJ N c=(N * 256+c+9223372036854775808) % 18446744073709551616 - 9223372036854775808:=rfl;rw[Gw.out _ (by omega) (by omega),HST.out,hs,hw];congr 1;omega
 · obtain rfl:k=out.length:=by omega
   have hlt':¬ ((out.length:Int)<(out.length:Nat)):=by omega
   rw[List.take_length]at *;go_wp2_with fail;go_ret;exact Yp.out _ rfl
def rS (st:Option (List Int)):List Int × Option (List Int):=rB (rB st 1).2 (aF (rB st 1).1).toNat
theorem dN {st:Option (List Int)} (h:∀ l,st=some l->aS l) (n:Nat):aS (rB st n).1/\∀ l,(rB st n).2=some l->aS l:=by
 rcases st with _|l
 · exact⟨(λc hc=>by cases hc),(λl e=>by cases e)⟩
 · by_cases hl:l.length<n
   · rw[qg hl];exact⟨(λc hc=>by cases hc),(λl e=>by cases e)⟩
   · rw[qA hl];exact⟨λc hc=>h l rfl c (List.mem_of_mem_take hc),λm e=>by obtain rfl:=Option.some.inj e;exact λc hc=>h l rfl c (List.mem_of_mem_drop hc)⟩
theorem DL (st:Option (List Int)) (n:Nat):(rB st n).1.length<=n:=by
 rcases st with _|l
 · exact Nat.zero_le _
 · by_cases hl:l.length<n
   · rw[qg hl];exact Nat.zero_le _
   · rw[qA hl];simp;omega
theorem yO {w:World} {v:Value} {l:List Int} (h:ai 1 aJ w v l):(convert 51 9 v).run Tryz.prog w = .ok (.string (eG l)) w:=by
 obtain⟨a,cap,rfl,hc,hl,hcc⟩:=h;have rz:Tryz.prog.underlying 5=some (.int .u8):=Tryz.underlying5;cases a with
 |none =>
  obtain rfl:l=[]:=by
   cases l with
   |nil=>rfl
   |cons x l=>obtain⟨b,off,e,_⟩:=hcc 0 x rfl;cases e
  rw[run_convert_bytes_nil w 51 5 Tryz.underlying51 rz _ _ 9 Tryz.underlying9];rfl
 |some a =>
  rcases Nat.eq_zero_or_pos l.length with h0|h0
  · obtain rfl:l=[]:=List.length_eq_zero_iff.1 h0;obtain⟨b,off,sp⟩:=a;have hl0:(loadCells ⟨b,off,sp⟩ 0).run Tryz.prog w = .ok (([]:List Int).map (Value.int .u8)).toArray w:=by
     have:=run_loadCells_list (P:=Tryz.prog) w ⟨b,off,sp⟩ [] (λj v hj=>by simp at hj)
     simpa using this
    show(convert 51 9 (.slice (some ⟨b,off,sp⟩) 0 cap)).run Tryz.prog w=_
    rw[run_convert_bytes_string w 51 9 5 _ 0 cap Tryz.underlying51 rz Tryz.underlying9,run_bytesToString w _ 0 cap [] hl0];rfl
  · obtain⟨b,off,e,-⟩:=hcc 0 _ (List.getElem?_eq_getElem h0);obtain rfl:=Option.some.inj e;rw[run_convert_bytes_arg w 51 5 Tryz.underlying51 rz b off l.length cap l rfl (λi hi => ?_) 9 Tryz.underlying9]
    · rfl
    · obtain⟨b',off',e2,hx⟩:=hcc i _ (List.getElem?_eq_getElem hi);simp only[Option.some.injEq,Addr.mk.injEq,and_true]at e2;obtain⟨rfl,rfl⟩:=e2;have:=hx 0 _ rfl;rw[Nat.mul_one,Nat.add_zero]at this;rw[this,List.getD_eq_getElem?_getD,List.getElem?_eq_getElem hi];rfl
attribute [local go_sem] yO
theorem yL (X N:Nat) (st:Option (List Int)) (w:World) (h:kr w X N st) (hB:∀ l,st=some l->aS l):Calls Tryz.prog 52 #[.pointer (some ⟨X,0,none⟩)] w (xP X N w (rS st).2 λv _=>v = .string (eG (rS st).1)):=by
 have HC:=ł (iy X N st 1 w h hB);have HE:=ł (rS.eq_1 st);have h0:0<=aF (rB st 1).1:=by
  have h1:=(dN hB 1).1;have h2:=DL st 1;rw[yU h1 (by omega)];exact(rW h1).1
 generalize rS st=R at *;generalize (rB st 1).2=st1 at *;generalize aF (rB st 1).1=n at *;obtain⟨k,rfl⟩:∃ k:Nat,n=k:=⟨n.toNat,by omega⟩;rw[Int.toNat_natCast]at HE;clear h hB h0
 go_enter Tryz.func52,Tryz.ntmps52
 go_wp2_with fail;refine HC.out.mono ?_;rintro e w1 ⟨v,rfl,rfl,hs,hm⟩;have HD:=ł (Cz X N st1 k w1 hs);rw[← HE.out]at HD;have HM:=ł hm;clear hs hm HC HE;go_wp2_with fail;refine HD.out.mono ?_;rintro e w2 ⟨v,rfl,⟨hr,-⟩,hs,hm⟩;have hcv:=yO hr;have HZ:=ł (And.intro hs (HM.out.trans hm (λ_ e => .inl e)));clear hr hs hm HD HM;go_wp2_with fail;go_ret;exact⟨_,rfl,rfl,HZ.out.1,HZ.out.2⟩
structure Xz where
 name:ByteArray
 params:List aL
 body:Tree
structure iH where
 name:ByteArray
 params:List aL
 pv:Value
 body:cO
def iH.d (p:iH):Xz:=⟨p.name,p.params,p.body.t⟩
def iH.cells (p:iH):List Value := .string p.name :: p.pv :: p.body.cells
def iH.val:iH->Value
 |⟨s,_,pv,.mk k n bs kv _⟩ => .agg #[.string s,pv,.int .u8 k,.int .i64 n,.string bs,kv]
structure sG (w:World) (p:iH):Prop where
 name:p.name.size<=9223372036854775807
 params:ai 3 aL.cells w p.pv p.params
 body:j5 w p.body
theorem sG.later {w w':World} {p:iH} (h:sG w p) (hm:Grow w w'):sG w' p:=⟨h.name,h.params.later hm,h.body.later hm⟩
structure zh (w:World) (v:Value) (l:List iH):Prop where
 row:ai 6 iH.cells w v l
 each:∀ p∈l,sG w p
theorem zh.later {w w':World} {v:Value} {l:List iH} (h:zh w v l) (hm:Grow w w'):zh w' v l:=⟨h.row.later hm,λp hp=>(h.each p hp).later hm⟩
theorem sG.form {w:World} {n:ByteArray} {p:List aL} {pv:Value} {b:cO} (h:sG w ⟨n,p,pv,b⟩):∃ a c,pv = .slice a p.length c/\p.length<=c/\p.length<=9223372036854775807:=h.params.form
attribute [local go_sem ↓] jG
theorem Tryz.Vu:(Tryz.prog.info? 69).map (λi=>(i.zero,i.size,i.bytes))=some (some (.agg #[.int .u8 0,.int .i64 0,.int .i64 0,.int .i64 0,.int .i64 0]),5,40):=by kernel_rfl
theorem Tryz.Vv:Elem Tryz.prog 34 69 5 40:=Elem.of Tryz.underlying34 Tryz.Vu rfl (by decide) (by decide)
theorem Vw {l:List Ins} : ∀ x∈l,∀ u∈x.cells,u.oneCell'=true:=by
 intro x _ u hu;simp[Ins.cells]at hu;rcases hu with rfl|rfl|rfl|rfl|rfl <;> rfl
abbrev mr (w:World) (base:Nat) (v:Value) (l:List Ins):Prop:=w.ownsRow base 69 5 v l.length (flat Ins.cells l)
structure wM (w0:World) (C:Nat) (sv:Value) (f:jN) (w:World) (cv:Value) (code:List Ins):Prop where
 g:Grow w0 w
 blk:w.heap[C]? = some (.cells #[sv,.int .i64 f.cells,.int .i64 f.stacks,cv] 279 (0,0))
 row:mr w w0.heap.size cv code
 hC:w0.heap.size<=C
structure oC (C:Nat) (w:World) (cv:Value) (w':World) (cv':Value):Prop where
 mv:Mv (λb=>b=C\/cv.ownBlock=some b) w w'
 own:∀ g,cv'.ownBlock=some g->cv.ownBlock=some g\/w.heap.size<=g
theorem oC.refl (C:Nat) (w:World) (cv:Value):oC C w cv w cv:=⟨Mv.refl _ _,λ_ h => .inl h⟩
theorem oC.trans {C:Nat} {w w1 w2:World} {cv Gx rA:Value} (h:oC C w cv w1 Gx) (k:oC C w1 Gx w2 rA):oC C w cv w2 rA :=
 ⟨h.mv.trans k.mv (λx e=>by
  rcases e with e|e
  · exact .inl (.inl e)
  · rcases h.own x e with e|e
    · exact .inl (.inr e)
    · exact .inr e),λg hg=>by
  rcases k.own g hg with e|e
  · exact h.own g e
  · exact .inr (Nat.le_trans h.mv.size e)⟩
theorem oC.grow {C:Nat} {w w1:World} {cv:Value} (h:Grow w w1):oC C w cv w1 cv:=⟨h.mono (λ_ e=>e.elim),λ_ h => .inl h⟩
theorem wM.grow {w0:World} {C:Nat} {sv:Value} {f:jN} {w w1:World} {cv:Value} {code:List Ins} (h:wM w0 C sv f w cv code) (hg:Grow w w1):wM w0 C sv f w1 cv code :=
 ⟨Mv.trans h.g hg (λ_ e=>e.elim),aD h.blk hg,aU h.row hg (λ_ _ e=>e),h.hC⟩
theorem wM.ne {w0:World} {C:Nat} {sv:Value} {f:jN} {w:World} {cv:Value} {code:List Ins} (h:wM w0 C sv f w cv code):cv.ownBlock≠some C:=by
 intro e;rcases h.row.2 with⟨rfl,_⟩|⟨g,cap,cur,rfl,_,hg,_⟩
 · simp[Value.ownBlock]at e
 · simp[Value.ownBlock]at e;subst e;have:=h.blk;rw[hg]at this;simp only[Option.some.injEq,Obj.cells.injEq]at this;exact absurd this.2.1 (by decide)
def nQ (n0:Nat) (P F NP NM:Value) (sl:aG) (b:Bool):Nat->List Value->World->Prop
 |0,[v],_=>v=P
 |1,[v],_=>v=P
 |2,[v],_=>v=P
 |3,[v],_=>v=F
 |4,[v],_=>v=NP
 |5,[v],_=>v=NM
 |6,[v],_=>v = .tuple #[sl.val,.bool b]
 |7,[v],_=>v = .tuple #[sl.val,.bool b]
 |8,[v],_=>v=sl.val
 |9,[v],_=>v = .bool b
 |10,[v],x=>∃ g,v = .pointer (some ⟨g,0,none⟩)/\n0<=g/\x.heap[g]? = some (.cells #[.string ⟨#[]⟩,.int .u8 0,.int .i64 0,.int .i64 0] 89 (0,0))
 |11,[v],x=>∃ g,v = .pointer (some ⟨g,0,none⟩)/\n0<=g/\x.heap[g]? = some (.cells #[.string sl.name,.int .u8 sl.kind,.int .i64 sl.len,.int .i64 sl.at'] 89 (0,0))
 |12,[v],_=>v = .bool b
 |_,_,_=>True
section
variable {n0:Nat} {P F NP NM:Value} {sl:aG} {b:Bool} {x y:World}
theorem nQ.grow (h:Grow x y):∀ j l,nQ n0 P F NP NM sl b j l x->nQ n0 P F NP NM sl b j l y:=by
 intro j l;unfold nQ;split
 case h_11=>rintro⟨g,h1,h2,h3⟩;exact⟨g,h1,h2,aD h3 h⟩
 case h_12=>rintro⟨g,h1,h2,h3⟩;exact⟨g,h1,h2,aD h3 h⟩
 all_goals exact id
theorem nQ.keep:∀ j l,¬ j=11->¬ j=10->nQ n0 P F NP NM sl b j l x->nQ n0 P F NP NM sl b j l y:=by
 intro j l h1 h2;unfold nQ;split
 case h_11=>exact absurd rfl h2
 case h_12=>exact absurd rfl h1
 all_goals exact id
end
end
section
open Go.RowKit
theorem qB {W w1:World} (hb:Grow W w1):(∀ b o,b<W.heap.size->w1.cell? ⟨b,o,none⟩=W.cell? ⟨b,o,none⟩)/\(∀ b o,b<W.heap.size->w1.frozen? ⟨b,o,none⟩=W.frozen? ⟨b,o,none⟩) :=
 ⟨λb o h=>World.cell?_of_block (w:=W) (w':=w1) (a:=⟨b,o,none⟩) (hb.block b h (λh=>h)),λb o h=>by simp[World.frozen?,hb.block b h (λh=>h)]⟩
theorem C8 (w:World) (cs:Array Value) (t:TypeId) (i:Nat):(w.alloc (.cells cs t)).cell? ⟨w.heap.size,i,none⟩=cs[i]? := by
 have h:=heap_alloc_new w (.cells cs t);simp only[World.cell?,h];rfl
theorem IX (a b:ByteArray):(a.toList == b.toList)=(a == b):=by
 have h1:a.toList=a.data.toList:=ByteArray.toList_eq a;have h2:b.toList=b.data.toList:=ByteArray.toList_eq b;rw[h1,h2,bytes_beq];cases a with|mk x=>cases b with|mk y =>
 by_cases h:x=y
 · subst h;simp
 · have h3:¬ (⟨x⟩:ByteArray)=⟨y⟩:=λe=>h (by simpa using congrArg ByteArray.data e);have h4:¬ x.toList=y.toList:=λe=>h (Array.toList_inj.1 e);simp[h3,h]
def tC (op:Int):Bool:=iO op || jo op
theorem TE (op:Int) (w:World):Calls Tryz.prog 84 #[.int .u8 op] w λe w'=>e = .returned (.bool (tC op))/\w=w':=by
 have HB:=ł (show tC op=(iO op || jo op)from rfl)
 go_enter Tryz.func84,Tryz.ntmps84
 go_wp2_with fail;refine(Iu op _).mono ?_;rintro e w' ⟨rfl,rfl⟩;generalize iO op=q at *;cases q
 · go_wp2_with fail;refine(Ib op _).mono ?_;rintro e w' ⟨rfl,rfl⟩;go_wp2_with fail;go_ret;exact⟨aC (by rw[HB.out];rfl),rfl⟩
 · go_wp2_with fail;go_ret;exact⟨aC (by rw[HB.out];rfl),rfl⟩
def nR (code:List Ins) (i:Nat):Bool :=
 match code[i]? with
 |none=>false
 |some x=>if x.target<0\/(code.length:Int)<=x.target then false else match code[x.target.toNat]? with
  |none=>false
  |some y=>if(iO x.op && !jo y.op) || (jo x.op && !iO y.op)then false else y.target == (i:Int)
theorem ai.ins {w:World} {b off len cap:Nat} {l:List Ins} (h:ai 5 Ins.cells w (.slice (some ⟨b,off,none⟩) len cap) l) {i:Nat} (hi:i<l.length) :
 (w.cell? ⟨b,off+i * 5,none⟩=some (.int .u8 l[i].op)/\w.cell? ⟨b,off+i * 5+1,none⟩=some (.int .i64 l[i].a)/\w.cell? ⟨b,off+i * 5+2,none⟩=some (.int .i64 l[i].b))/\w.cell? ⟨b,off+i * 5+3,none⟩=some (.int .i64 l[i].c)/\w.cell? ⟨b,off+i * 5+4,none⟩=some (.int .i64 l[i].d)/\b<w.heap.size:=by
 have hc:=h.at' hi;have c0:=hc 0 _ rfl;exact⟨⟨c0,hc 1 _ rfl,hc 2 _ rfl⟩,hc 3 _ rfl,hc 4 _ rfl,World.block_lt_of_cell? w _ c0⟩
theorem RZ (v:Value) (l:List Ins) (i:Nat) (w:World) (h:ai 5 Ins.cells w v l) (hi:i<l.length):Calls Tryz.prog 85 #[v,.int .i64 i] w λe w'=>e = .returned (.bool (nR l i))/\Grow w w':=by
 obtain⟨a,cap,rfl,hcap,hlen⟩:=h.form;obtain⟨b,off,cap',e,_,_⟩:=h.at hi;simp only[Value.slice.injEq,true_and]at e;obtain⟨rfl,rfl⟩:=e;obtain⟨⟨c0,c1,c2⟩,c3,c4,hbl⟩:=h.ins hi;have HR:=ł h;have HB:=ł (show nR l i=(if l[i].target<0\/(l.length:Int)<=l[i].target then false else match l[l[i].target.toNat]? with
  |none=>false
  |some y=>if(iO l[i].op && !jo y.op) || (jo l[i].op && !iO y.op)then false else y.target == (i:Int))from by simp[nR,hi])
 have HT:=ł (Iw l[i] w);generalize hx:l[i]=x at *;obtain⟨xo,xa,xb,xc,xd⟩:=x;simp only at c0 c1 c2 c3 c4;clear h hx
 go_enter Tryz.func85,Tryz.ntmps85
 go_wp2_with fail;refine HT.out.mono ?_;rintro e w1 ⟨rfl,hm1⟩;obtain⟨hc1,hf1⟩:=qB hm1;have hs1:=hm1.size;have o9:=ł hm1;generalize Ins.target ⟨xo,xa,xb,xc,xd⟩=t at *;generalize Ins.Fe ⟨xo,xa,xb,xc,xd⟩=am at *;have d0:w1.cell? ⟨b,off+i * 5,none⟩=some (.int .u8 xo):=by rw[hc1 _ _ hbl];exact c0
 clear hm1 hc1 hf1 c0 c1 c2 c3 c4;by_cases ht0:t<0
 · go_wp2_with fail;go_ret;exact⟨aC (by rw[HB.out,if_pos (.inl ht0)]),o9.out⟩
 · by_cases htl:(l.length:Int)<=t
   · have hd1:decide (t<0)=false:=by simpa using ht0
     go_wp2_with fail;go_ret;exact⟨aC (by rw[HB.out,if_pos (.inr htl)]),o9.out⟩
   · obtain⟨k,rfl⟩:∃ k:Nat,t=k:=⟨t.toNat,by omega⟩;have hkl:k<l.length:=by omega
     obtain⟨⟨e0,e1,e2⟩,e3,e4,aat⟩:=(HR.out.later o9.out).ins hkl;have HB2:=ł (show nR l i=(if(iO xo && !jo l[k].op) || (jo xo && !iO l[k].op)then false else l[k].target == (i:Int))from by
      rw[HB.out,if_neg (by omega)];simp[hkl])
     have HT2:=ł (λw=>Iw l[k] w);generalize hy:l[k]=y at *;obtain⟨yo,ya,yb,yc,yd⟩:=y;simp only at e0 e1 e2 e3 e4;clear hy;clear ht0 htl;cases Qm:iO xo <;> cases Qn:jo yo <;> cases hlx:jo xo <;> cases Qo:iO yo
     all_goals
      go_wp2_with (first
       |(go_at_call 126;refine(Iu _ _).mono ?_;rintro e w' ⟨rfl,rfl⟩)
       |(go_at_call 127;refine(Ib _ _).mono ?_;rintro e w' ⟨rfl,rfl⟩)
       |fail)
      first
       |(go_ret;exact⟨aC (by rw[HB2.out,Qm,Qn,hlx,Qo];rfl),o9.out.alloc _⟩)
       |(refine(HT2.out _).mono ?_;rintro e w2 ⟨rfl,hm2⟩;have mX:=ł hm2;clear hm2;go_wp2_with fail;go_ret;exact⟨aC (by rw[HB2.out,Qm,Qn,hlx,Qo];rfl),Mv.trans (o9.out.alloc _) mX.out (λ_ e=>e.elim)⟩)
end
end Go.Proofs.YtadecgbblajifaaGreatDoor
