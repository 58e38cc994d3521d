import Derived.Test.YtnobahchcongnaaGreatDoorR13
import Derived.Test.YtnobahchcongnaaGreatDoorR15
set_option linter.unusedSimpArgs false
set_option linter.unusedVariables false
set_option maxRecDepth 100000
set_option maxHeartbeats 25600000
namespace Go.Proofs.YtnobahchcongnaaGreatDoor
open Go.RowKit Go.Instr
theorem cell1 {w:World} {X:Nat} {a:Value} {t:TypeId} {z:Nat × Nat} (h:w.heap[X]? = some (.cells #[a] t z)):w.cell? ⟨X,0,none⟩=some a:=by simp[World.cell?,h]
theorem aA {w:World} {X:Nat} {a b:Value} {t:TypeId} {z:Nat × Nat} (h:w.heap[X]? = some (.cells #[a,b] t z)):w.cell? ⟨X,0,none⟩=some a/\w.cell? ⟨X,1,none⟩=some b:=by simp[World.cell?,h]
theorem cK {w:World} {X:Nat} {a b c:Value} {t:TypeId} {z:Nat × Nat} (h:w.heap[X]? = some (.cells #[a,b,c] t z)):w.cell? ⟨X,0,none⟩=some a/\w.cell? ⟨X,1,none⟩=some b/\w.cell? ⟨X,2,none⟩=some c:=by simp[World.cell?,h]
theorem set1 {w:World} {X:Nat} {a:Value} {t:TypeId} (h:w.heap[X]? = some (.cells #[a] t (0,0))) (p:Value) :
 (w.setCell ⟨X,0,none⟩ p).heap[X]? = some (.cells #[p] t (0,0))/\Mv (λb=>b=X) w (w.setCell ⟨X,0,none⟩ p) :=
 ⟨by have h1:=block_setCell (p:=⟨X,0,none⟩) h rfl p;simpa using h1,(Mv.refl (λb=>b=X) w).setCell (.inl rfl) _⟩
theorem set2 {w:World} {X:Nat} {a b:Value} {t:TypeId} (h:w.heap[X]? = some (.cells #[a,b] t (0,0))) (p q:Value) :
 ((w.setCell ⟨X,0,none⟩ p).setCell ⟨X,1,none⟩ q).heap[X]? = some (.cells #[p,q] t (0,0))/\Mv (λb=>b=X) w ((w.setCell ⟨X,0,none⟩ p).setCell ⟨X,1,none⟩ q) :=
 ⟨by
  have h1:=block_setCell (p:=⟨X,0,none⟩) h rfl p;have h2:=block_setCell (p:=⟨X,1,none⟩) h1 rfl q
  simpa using h2,((Mv.refl (λb=>b=X) w).setCell (.inl rfl) _).setCell (.inl rfl) _⟩
theorem Ml {w:World} {X:Nat} {a b c:Value} {t:TypeId} (h:w.heap[X]? = some (.cells #[a,b,c] t (0,0))) (p q r:Value) :
 (((w.setCell ⟨X,0,none⟩ p).setCell ⟨X,1,none⟩ q).setCell ⟨X,2,none⟩ r).heap[X]? = some (.cells #[p,q,r] t (0,0))/\Mv (λb=>b=X) w (((w.setCell ⟨X,0,none⟩ p).setCell ⟨X,1,none⟩ q).setCell ⟨X,2,none⟩ r) :=
 ⟨by
  have h1:=block_setCell (p:=⟨X,0,none⟩) h rfl p;have h2:=block_setCell (p:=⟨X,1,none⟩) h1 rfl q;have h3:=block_setCell (p:=⟨X,2,none⟩) h2 rfl r
  simpa using h3,(((Mv.refl (λb=>b=X) w).setCell (.inl rfl) _).setCell (.inl rfl) _).setCell (.inl rfl) _⟩
def ay (w:World) (v:Value) (p:aB):Prop:=∃ ca cc ra rc,v = .agg #[.slice ca p.code.length cc,.slice ra p.refs.length rc]/\az 5 Ins.cells w (.slice ca p.code.length cc) p.code/\az 2 aV.cells w (.slice ra p.refs.length rc) p.refs
theorem ay.mk {w:World} {cv rv:Value} {p:aB} (h1:az 5 Ins.cells w cv p.code) (h2:az 2 aV.cells w rv p.refs):ay w (.agg #[cv,rv]) p:=by
 obtain⟨ca,cc,rfl,-,-⟩:=h1.form;obtain⟨ra,rc,rfl,-,-⟩:=h2.form;exact⟨ca,cc,ra,rc,rfl,h1,h2⟩
theorem ay.later {w w':World} {v:Value} {p:aB} (h:ay w v p) (hm:Grow w w'):ay w' v p:=by
 obtain⟨ca,cc,ra,rc,hv,h1,h2⟩:=h;exact⟨ca,cc,ra,rc,hv,h1.later hm,h2.later hm⟩
def rW (p:Value × Value):List Value:=[p.1,p.2]
def iG (w:World) (v:Value) (l:List aB):Prop:=∃ vs:List (Value × Value),vs.length=l.length/\az 2 rW w v vs/\∀ i (h:i<vs.length) (h':i<l.length),ay w (.agg #[vs[i].1,vs[i].2]) l[i]
theorem iG.later {w w':World} {v:Value} {l:List aB} (h:iG w v l) (hm:Grow w w'):iG w' v l:=by
 obtain⟨vs,h1,h2,h3⟩:=h;exact⟨vs,h1,h2.later hm,λi hi hi'=>(h3 i hi hi').later hm⟩
theorem iG.form {w:World} {v:Value} {l:List aB} (h:iG w v l):∃ a c,v = .slice a l.length c/\l.length<=c/\l.length<=9223372036854775807:=by
 obtain⟨vs,h1,h2,h3⟩:=h;obtain⟨a,c,e,h4,h5⟩:=h2.form;exact⟨a,c,by rw[← h1];exact e,by omega,by omega⟩
def bP (w:World) (p:aB) (e:Ending) (w':World):Prop:=∃ v,e = .returned v/\ay w' v p/\Grow w w'
def qz (base:Nat) (w:World) (v:Value) (p:aB):Prop:=∃ ca cc ra rc,v = .agg #[.slice ca p.code.length cc,.slice ra p.refs.length rc]/\dO w base (.slice ca p.code.length cc) p.code/\az 2 aV.cells w (.slice ra p.refs.length rc) p.refs
theorem qz.at {base:Nat} {w:World} {v:Value} {p:aB} (h:qz base w v p):ay w v p:=by
 obtain⟨ca,cc,ra,rc,hv,h1,h2⟩:=h;exact⟨ca,cc,ra,rc,hv,fI (λ_=>rfl) h1,h2⟩
theorem qz.later {base:Nat} {w w':World} {v:Value} {p:aB} (h:qz base w v p) (hm:Grow w w'):qz base w' v p:=by
 obtain⟨ca,cc,ra,rc,hv,h1,h2⟩:=h;exact⟨ca,cc,ra,rc,hv,bg h1 hm (λ_ _ e=>e),h2.later hm⟩
theorem Hq {α:Type} {n:Nat} {f:α->List Value} {x y:World} {v:Value} {l:List α} {g:Nat} {a b:Option Addr × Nat × Nat} {t:TypeId} (h:az n f x v l) (hf:∀ u,∃ c,(f u)[0]? = some c/\∀ a m k,c ≠ .slice a m k)
 (hb:x.heap[g]? = some (.cells #[.slice a.1 a.2.1 a.2.2,.slice b.1 b.2.1 b.2.2] t (0,0))) (hm:Mv (λb=>b=g) x y):az n f y v l:=by
 cases l with
 |nil =>
  obtain⟨a,cap,e,h1,h2,_⟩:=h;exact⟨a,cap,e,h1,h2,λi x hx=>by simp at hx⟩
 |cons u l =>
  refine h.stay hm (λq hq e => ?_);subst e;obtain⟨b',off,cap,e,_,hc⟩:=h.at (i:=0) (by simp);rw[e]at hq;simp only[Value.ownBlock,Option.some.injEq]at hq;subst hq;obtain⟨c,hc0,hns⟩:=hf u;have h0:=hc 0 c (by simpa using hc0);simp only[World.cell?,hb]at h0;rcases Nat.lt_or_ge (off+0 * n+0) 2 with h2|h2
  · have:off+0 * n+0=0\/off+0 * n+0=1:=by omega
    rcases this with e0|e0 <;> rw[e0]at h0 <;> simp at h0 <;> exact hns _ _ _ h0.symm
  · simp only[Array.getElem?_eq_none (show(#[Value.slice a.1 a.2.1 a.2.2,.slice b.1 b.2.1 b.2.2]:Array Value).size<=off+0 * n+0 from h2)]at h0;cases h0
def aby:Array Value:=#[.slice none 0 0,.slice none 0 0]
theorem ay.box {x y:World} {v:Value} {p:aB} {g:Nat} {t:TypeId} (h:ay x v p) (hb:x.heap[g]? = some (.cells #[.slice none 0 0,.slice none 0 0] t (0,0))) (hm:Mv (λb=>b=g) x y):ay y v p:=by
 obtain⟨ca,cc,ra,rc,hv,h1,h2⟩:=h;exact⟨ca,cc,ra,rc,hv,Hq (a:=(none,0,0)) (b:=(none,0,0)) h1 (λu=>⟨_,rfl,by simp⟩) hb hm,Hq (a:=(none,0,0)) (b:=(none,0,0)) h2 (λu=>⟨_,rfl,by simp⟩) hb hm⟩
theorem sP {Zs:List (Array Value × TypeId)} {b:Bool} {p:aB} (hz:∀ z∈Zs,z.1=aby:=by intro z hz;simp[Kd.zero,Sp.k]at hz <;> (subst hz;rfl)):qx (λv y=>ay y v p)/\(b=false->vz Zs (λv y=>ay y v p)) :=
 ⟨λv x y hg h=>h.later hg,λ_ z h g v x y hb hm h'=>ay.box h' (by rw[hz z h]at hb;exact hb) hm⟩
theorem sQ {Zs:List (Array Value × TypeId)} {b:Bool} {F U:Nat->Value} {l:List aB} (hb:b=true:=by rfl):qx (λv y=>∃ g,v=F g/\iG y (U g) l)/\(b=false->vz Zs (λv y=>∃ g,v=F g/\iG y (U g) l)):=⟨λv x y hg h=>by obtain⟨g,hv,hb⟩:=h;exact⟨g,hv,hb.later hg⟩,λh=>by rw[hb]at h;cases h⟩
structure gX (w:World) (G:Nat) (sv pv:Value) (f:ax) (procs:List ak):Prop where
 blk:w.heap[G]? = some (.cells #[sv,.int .i64 f.cells,.int .i64 f.stacks,pv,.int .i64 0] 65 (0,0))
 fr:fE w sv f
 pr:mg w pv procs
theorem gX.later {w w':World} {G:Nat} {sv pv:Value} {f:ax} {procs:List ak} (h:gX w G sv pv f procs) (hm:Grow w w'):gX w' G sv pv f procs:=⟨ai h.blk hm,h.fr.later hm,h.pr.later hm⟩
theorem Du {F:World->Prop} {a b:World} (h:∀ x,Grow a x->F x) (g:Grow a b):∀ x,Grow b x->F x:=λx hx=>h x (Mv.trans g hx (λ_ e=>e.elim))
theorem Hr {w:World} {base base':Nat} {v:Value} {l:List Ins} (h:dO w base v l) (hb:base'<=base):dO w base' v l:=by
 refine⟨h.1,?_⟩;rcases h.2 with h2|⟨g,cap,cur,e,h3,h4⟩
 · exact .inl h2
 · exact .inr ⟨g,cap,cur,e,by omega,h4⟩
theorem gtr {a b c:World} (h:Grow a b) (k:Grow b c):Grow a c:=Mv.trans h k (λ_ e=>e.elim)
theorem PL (x:ae) (sv:Value) (f:ax) (w:World) (hf:fE w sv f) (hx:aR w x) (he:aN x.t=true) (hs:bK f x.t=true) (hc0:0<=f.cells) (hc1:f.cells<=1000) (hd:iL x.t<=10000) (hlen:(bW f x.t).length<=800000) :
 Calls Tryz.prog 38 #[x.val,.agg #[sv,.int .i64 f.cells,.int .i64 f.stacks]] w λe w'=>∃ v',e = .returned (.tuple #[v',.int .i64 0])/\lL w w' v' (bW f x.t):=by
 obtain⟨fa,fc,rfl,hfc,hfl⟩:=hf.row.form;obtain⟨k,n,s,kv,l⟩:=x;obtain⟨ka,kc,rfl,-,-⟩:=hx.form;have hg2:Grow w ((w.alloc (.cells #[.int .u8 k,.int .i64 n,.string s,.slice ka l.length kc] 24)).alloc (.cells #[.slice fa f.slots.length fc,.int .i64 f.cells,.int .i64 f.stacks] 27)):=((Mv.refl _ w).alloc _).alloc _;obtain⟨aF,wm,-⟩:=a2 w (.cells #[.int .u8 k,.int .i64 n,.string s,.slice ka l.length kc] 24) (.cells #[.slice fa f.slots.length fc,.int .i64 f.cells,.int .i64 f.stacks] 27);have HF:=ł hf;have HX:=ł hx;have ik:=ł hlen;have Ju:=ł (λ(y:World) (hy:Grow w y)=>(yx (.mk k n s (.slice ka l.length kc) l) y (HX.out.later hy)));have ry:=ł (λ(y:World) (hy:Grow w y)=>(Yr (.slice fa f.slots.length fc) f (.mk k n s (.slice ka l.length kc) l) y (HF.out.later hy) (HX.out.later hy)));have Tk:=ł (λ(y:World) (hy:Grow w y)=>(Zn (.mk k n s (.slice ka l.length kc) l) y (HX.out.later hy) (by omega)));rw[he]at Ju;rw[hs]at ry;have lF:=ł he;have HG2:=ł hg2;clear hf hx hlen hg2 he hs;generalize hD:iL (ae.t (.mk k n s (.slice ka l.length kc) l))=D at *;have HDD:=ł hD;clear hD;simp only[ae.val]at Ju ry ⊢
 go_enter Tryz.func38,Tryz.ntmps38
 go_upto_region 1 with fail;have hsz2:w.heap.size+2=((w.alloc (.cells #[.int .u8 k,.int .i64 n,.string s,.slice ka l.length kc] 24)).alloc (.cells #[.slice fa f.slots.length fc,.int .i64 f.cells,.int .i64 f.stacks] 27)).heap.size:=by simp
 generalize (w.alloc (.cells #[.int .u8 k,.int .i64 n,.string s,.slice ka l.length kc] 24)).alloc (.cells #[.slice fa f.slots.length fc,.int .i64 f.cells,.int .i64 f.stacks] 27)=w2 at *;have HK:=ł (λ(y:World) (hy:Grow w2 y)=>And.intro (ai aF.out hy) (ai wm.out hy));obtain⟨⟨n0,n1⟩,n2,n3⟩:=aC aF.out;have hl1:=lt_of_block aF.out;go_wp2_with fail;refine(Ju.out _ HG2.out).mono ?_;rintro e w3 ⟨he,hg⟩;subst he;have aH:=ł (gtr HG2.out hg);have dF:=ł (Du HK.out hg);obtain⟨⟨m0,m1⟩,m2,m3⟩:=aC (HK.out _ hg).1;obtain⟨f0,f1,f2⟩:=cK (HK.out _ hg).2;clear hg aF wm n0 n1 n2 n3 hl1;go_wp2_with fail;refine(ry.out _ aH.out).mono ?_;rintro e w4 ⟨he,hg⟩;subst he;have aP:=ł (gtr aH.out hg);have aY:=ł (Du dF.out hg);clear hg m0 m1 m2 m3 f0 f1 f2 hsz2;go_wp2_with fail;have EY:=ł (λ(y:World) (hy:Grow w4 y)=>Tk.out y (gtr aP.out hy));refine wg 26 [some 14,some 15,some 16,some 17,some 18,some 19] [[],[0],[],[2],[3],[1,4]] [] [.c (.pointer (some ⟨w.heap.size+1,1,none⟩)),.c (.int .i64 f.cells),.c (ae.val (.mk k n s (.slice ka l.length kc) l)),.c (.int .i64 D),.c (.int .i64 (16384 - D)),.c (.bool false)] trivial (dP rfl) ?steps ?done
 case steps =>
  refine⟨?s0,?s1,?s2,?s3,?s4,?s5,trivial⟩
  case s0 =>
   refine oo (λvs x hP => ?_);simp only[zS];go_simp;exact gc
  case s1 =>
   refine ok aY (λvs x hG HX hP => ?_);obtain⟨f0,f1,f2⟩:=cK HX.out.2;simp only[zS];go_simp;exact gc
  case s2 =>
   refine ok aY (λvs x hG HX hP => ?_);obtain⟨⟨n0,n1⟩,n2,n3⟩:=aC HX.out.1;simp only[zS];go_simp;exact gc
  case s3 =>
   refine ok aY (λvs x hG HX hP => ?_);have h2:vs 2=_:=pq hP 2;have HC:=ł (EY.out x hG);simp only[ae.val]at h2 HC;simp only[zS,h2];go_simp;refine(HC.out).mono ?_;rintro e y ⟨rfl,hg⟩;exact⟨_,rfl,aX hg rfl⟩
  case s4 =>
   refine ok aY (λvs x hG HX hP => ?_);have hw:IntKind.i64.wrap (16384 - (D:Int))=16384 - D:=IntWalk.i64_in _ (by omega);simp only[zS];go_simp;exact gc
  case s5 =>
   refine ok aY (λvs x hG HX hP => ?_);have hlt:decide (16384 - D<f.cells)=false:=by simp;omega
   simp only[zS];go_simp;exact gc
 case done =>
 intro vs wx hE;have hG:=hE.grow;simp only[zS,Nat.reduceAdd];have aU:=ł (gtr aP.out hG);have bE:=ł (aY.out _ hG);obtain⟨⟨m0,m1⟩,m2,m3⟩:=aC bE.out.1;obtain⟨f0,f1,f2⟩:=cK bE.out.2;have hl1:=lt_of_block bE.out.1;have hl2:=lt_of_block bE.out.2;clear hE hG Ju ry Tk EY HK dF aY;have HST:=ł (show bC wx wx.heap.size (.slice fa f.slots.length fc) f (wx.alloc (.cells #[.slice fa f.slots.length fc,.int .i64 f.cells,.int .i64 f.stacks,.slice none 0 0] 100)) (.slice none 0 0) []from
  ⟨(Mv.refl _ wx).alloc _,heap_alloc_new wx _,World.ownsRow_nil _ _ _ _,Nat.le_refl _⟩)
 have HC:=ł (Q6 wx wx.heap.size (.slice fa f.slots.length fc) f (HF.out.later aU.out) hc0 (by omega) _ (.mk k n s (.slice ka l.length kc) l) (Nat.le_refl _) lF.out (HX.out.later aU.out) 0 _ _ _ (by omega) (by rw[HDD.out];omega) (by have:=ik.out;simp only[bW]at this;simp;omega) HST.out);simp only[ae.val,List.nil_append]at HC;go_wp2_with fail;refine HC.out.mono ?_;rintro e w7 ⟨rfl,cv',hst,hto⟩;obtain⟨⟨q0,q1⟩,q2,q3⟩:=aC hst.blk;have HR:=ł (show lL w w7 cv' (bW f (ae.t (.mk k n s (.slice ka l.length kc) l)))from⟨gtr aU.out hst.g,Hr (by have:=hst.row;simp only[List.nil_append]at this;exact this) aU.out.size⟩);have hl3:=lt_of_block hst.blk;clear hst hto HC HST;go_wp2_with fail
 go_ret2
 exact⟨_,rfl,HR.out⟩
def kF (A us:List Ins):List Ins:=A ++ [⟨13,4,0,0,0⟩] ++ us ++ [⟨12,4,0,0,0⟩] ++ dC A
theorem Zq (f:ax):∀ (m:Nat) (t:Tree),SizeOf.sizeOf t<=m->aN t=true->∀ p,∀ i∈iP f t p,0<=i.op/\i.op<=255:=by
 intro m
 induction m with
 |zero=>intro t h;cases t;simp at h
 |succ m ih =>
  intro t hm he p i hi;obtain⟨k,n,s,l⟩:=t;have hk:=PK he;have hsub:∀ (j:Nat) (hj:j<l.length),SizeOf.sizeOf l[j]<=m:=λj hj=>by
   have h1:=List.sizeOf_lt_of_mem (List.getElem_mem hj);simp at hm;omega
  rcases hk with rfl|rfl|⟨rfl,hl⟩|hk|⟨hk,hl⟩|⟨⟨h8,h23⟩,hl⟩
  · rw[RB]at hi;simp at hi;rcases hi with rfl|rfl <;> simp
  · rw[RD]at hi;simp at hi;rcases hi with rfl|rfl|rfl|rfl <;> simp
  · have h0:0<l.length:=by omega
    rw[RF,BS f l p 0 h0]at hi;rcases List.mem_append.1 hi with hi|hi
    · exact ih _ (hsub 0 h0) (Dp he (.inl rfl) _ (List.getElem_mem h0)) _ i hi
    · simp at hi;rcases hi with rfl|rfl|rfl|rfl|rfl|rfl <;> simp
  · rw[Q4 f k n p s l hk]at hi;simp at hi;rcases hi with rfl|rfl
    · simp only;split <;> simp
    · simp
  · have h0:0<l.length:=by omega
    rw[Q5 f k n p s l hk,BS f l p 0 h0]at hi;simp only[List.mem_append]at hi;rcases hi with((hi|hi)|hi)|hi
    · exact ih _ (hsub 0 h0) (Dp he (by omega) _ (List.getElem_mem h0)) _ i hi
    · simp at hi;subst hi;simp
    · split at hi
      · simp at hi;rcases hi with rfl|rfl <;> simp
      · simp at hi;subst hi;simp
    · simp at hi;rcases hi with rfl|rfl <;> simp
  · have h0:0<l.length:=by omega
    have h1:1<l.length:=by omega
    rw[RG f k n p s l h8,BS f l p 0 h0,BS f l p 1 h1]at hi;simp only[List.mem_append]at hi;rcases hi with((hi|hi)|hi)|hi
    · exact ih _ (hsub 0 h0) (Dp he (by omega) _ (List.getElem_mem h0)) _ i hi
    · simp at hi;rcases hi with rfl|rfl <;> simp
    · exact ih _ (hsub 1 h1) (Dp he (by omega) _ (List.getElem_mem h1)) _ i hi
    · simp at hi;rcases hi with rfl|rfl|rfl|rfl|rfl|rfl <;> simp
theorem Zr (f:ax) (t:Tree) (h:aN t=true):∀ i∈bW f t,0<=i.op/\i.op<=255:=Zq f _ t (Nat.le_refl _) h 0
theorem Qp (x:ae) (sv uv:Value) (f:ax) (us:List Ins) (w:World) (hf:fE w sv f) (hx:aR w x) (hu:az 5 Ins.cells w uv us) (he:aN x.t=true) (hs:bK f x.t=true) (hc0:0<=f.cells) (hc1:f.cells<=1000) (hd:iL x.t<=10000) (hlen:(bW f x.t).length<=300000) (mX:us.length<=300000) :
 Calls Tryz.prog 17 #[x.val,.agg #[sv,.int .i64 f.cells,.int .i64 f.stacks],uv] w λe w'=>∃ v',e = .returned (.tuple #[v',.int .i64 0])/\lL w w' v' (kF (bW f x.t) us):=by
 obtain⟨fa,fc,rfl,hfc,hfl⟩:=hf.row.form;obtain⟨k,n,s,kv,l⟩:=x;obtain⟨ka,kc,rfl,-,-⟩:=hx.form;obtain⟨ua,uc,rfl,huc,hul⟩:=hu.form;have HCM:=ł (λ(y:World) (hy:Grow w y)=>PL (.mk k n s (.slice ka l.length kc) l) (.slice fa f.slots.length fc) f y (hf.later hy) (hx.later hy) he hs hc0 hc1 hd (by omega));have HU:=ł hu;have zA:=ł (Zr f _ he);clear hf hx hu he hs hd;have hg2:Grow w ((w.alloc (.cells #[.int .u8 k,.int .i64 n,.string s,.slice ka l.length kc] 24)).alloc (.cells #[.slice fa f.slots.length fc,.int .i64 f.cells,.int .i64 f.stacks] 27)):=((Mv.refl _ w).alloc _).alloc _;have HG2:=ł hg2;clear hg2;generalize bW f (ae.t (.mk k n s (.slice ka l.length kc) l))=A at *;simp only[ae.val]at HCM ⊢
 go_enter Tryz.func17,Tryz.ntmps17
 go_wp2_with fail;generalize (w.alloc (.cells #[.int .u8 k,.int .i64 n,.string s,.slice ka l.length kc] 24)).alloc (.cells #[.slice fa f.slots.length fc,.int .i64 f.cells,.int .i64 f.stacks] 27)=w2 at *;refine(HCM.out _ HG2.out).mono ?_;rintro e wC ⟨cv,rfl,hcv⟩;obtain⟨ca,cc,hcs⟩:=gF hcv.row;subst hcs;have HC:=ł hcv;have xP:=ł (gtr HG2.out hcv.g);have bD:=ł (show bC wC wC.heap.size (.slice none 0 0) iK (wC.alloc (.cells #[.slice none 0 0,.int .i64 0,.int .i64 0,.slice none 0 0] 100)) (.slice none 0 0) []from
  ⟨(Mv.refl _ wC).alloc _,heap_alloc_new wC _,World.ownsRow_nil _ _ _ _,Nat.le_refl _⟩)
 have HT1:=ł (cO.refl wC.heap.size (wC.alloc (.cells #[.slice none 0 0,.int .i64 0,.int .i64 0,.slice none 0 0] 100)) (.slice none 0 0));clear hcv HCM;have Vq:=ł (λ(y:World) (hy:Grow wC y)=>(fI (λ_=>rfl) HC.out.row:az 5 Ins.cells wC (.slice ca A.length cc) A).later hy);have HRU:=ł (λ(y:World) (hy:Grow wC y)=>(HU.out.later xP.out).later hy);have dU:=ł (lZ wC wC.heap.size (.slice none 0 0) iK _ (.slice none 0 0) [] (.slice ca A.length cc) A bD.out (Vq.out _ bD.out.g) (by first|omega|(simp;omega)));go_wp2_with fail;refine dU.out.mono ?_;rintro e u2 ⟨rfl,q2,hs,ht⟩;have HS2:=ł hs;have HT2:=ł (HT1.out.trans ht);clear hs ht dU bD HT1
 go_wp2_with fail;refine(iy 13 4 0 u2.heap.size _ _ (heap_alloc_new u2 _)).mono ?_;rintro e y20 ⟨rfl,hg⟩;simp only;have hg0:Grow u2 y20:=Mv.trans ((Mv.refl _ u2).alloc _) hg (λ_ e=>e.elim);clear hg;have hgz:Grow u2 (y20.alloc (.cells #[.int .u8 13,.int .i64 4,.int .i64 0,.int .i64 0,.int .i64 0] 57)):=hg0.alloc _;have dU:=ł (lZ wC wC.heap.size (.slice none 0 0) iK _ q2 ([] ++ A) (.slice (some ⟨y20.heap.size,0,none⟩) 1 1) ([⟨13,4,0,0,0⟩]:List Ins) (HS2.out.grow hgz) (az.bO (f:=Ins.cells) (l:=([⟨13,4,0,0,0⟩]:List Ins)) (λ_=>rfl) (heap_alloc_new y20 _) rfl (by simp)) (by simp;omega));have iW:=ł (HT2.out.trans (cO.grow hgz));clear hgz hg0;go_wp2_with fail;refine dU.out.mono ?_;rintro e u3 ⟨rfl,q3,hs,ht⟩;have mH:=ł hs;have HT3:=ł (iW.out.trans ht);clear hs ht dU iW HS2 HT2
 have dU:=ł (lZ wC wC.heap.size (.slice none 0 0) iK _ q3 ([] ++ A ++ ([⟨13,4,0,0,0⟩]:List Ins)) (.slice ua us.length uc) us mH.out (HRU.out _ mH.out.g) (by first|omega|(simp;omega)));go_wp2_with fail;refine dU.out.mono ?_;rintro e u4 ⟨rfl,q4,hs,ht⟩;have gM:=ł hs;have zB:=ł (HT3.out.trans ht);clear hs ht dU mH HT3
 go_wp2_with fail;refine(iy 12 4 0 u4.heap.size _ _ (heap_alloc_new u4 _)).mono ?_;rintro e Jv ⟨rfl,hg⟩;simp only;have hg0:Grow u4 Jv:=Mv.trans ((Mv.refl _ u4).alloc _) hg (λ_ e=>e.elim);clear hg;have hgz:Grow u4 (Jv.alloc (.cells #[.int .u8 12,.int .i64 4,.int .i64 0,.int .i64 0,.int .i64 0] 57)):=hg0.alloc _;have dU:=ł (lZ wC wC.heap.size (.slice none 0 0) iK _ q4 ([] ++ A ++ ([⟨13,4,0,0,0⟩]:List Ins) ++ us) (.slice (some ⟨Jv.heap.size,0,none⟩) 1 1) ([⟨12,4,0,0,0⟩]:List Ins) (gM.out.grow hgz) (az.bO (f:=Ins.cells) (l:=([⟨12,4,0,0,0⟩]:List Ins)) (λ_=>rfl) (heap_alloc_new Jv _) rfl (by simp)) (by simp;omega));have iW:=ł (zB.out.trans (cO.grow hgz));clear hgz hg0;go_wp2_with fail;refine dU.out.mono ?_;rintro e u5 ⟨rfl,q5,hs,ht⟩;have mF:=ł hs;have vZ:=ł (iW.out.trans ht);clear hs ht dU iW gM zB
 have Vr:=ł (Yv (.slice ca A.length cc) A u5 (Vq.out _ mF.out.g) hlen zA.out);go_wp2_with fail;refine Vr.out.mono ?_;rintro e w6 ⟨v6,rfl,hun⟩;obtain⟨da,dc,hds⟩:=gF hun.row;subst hds;have Vs:=ł (mF.out.grow hun.g);have Jw:=ł (vZ.out.trans (cO.grow hun.g));have HRD:=ł (fI (λ_=>rfl) hun.row:az 5 Ins.cells w6 (.slice da (dC A).length dc) (dC A));have Tm:(dC A).length=A.length:=BO A;have HUL:=ł Tm;clear hun Tm Vr mF vZ;have dU:=ł (lZ wC wC.heap.size (.slice none 0 0) iK _ q5 ([] ++ A ++ ([⟨13,4,0,0,0⟩]:List Ins) ++ us ++ ([⟨12,4,0,0,0⟩]:List Ins)) (.slice da (dC A).length dc) (dC A) Vs.out HRD.out (by rw[HUL.out];simp;omega));go_wp2_with fail;refine dU.out.mono ?_;rintro e u7 ⟨rfl,q7,hs,ht⟩;have xQ:=ł hs;have HT7:=ł (Jw.out.trans ht);clear hs ht dU Vs Jw
 obtain⟨⟨b0,b1⟩,b2,b3⟩:=aC xQ.out.blk;have HR:=ł (show lL w u7 q7 (kF A us)from⟨gtr xP.out xQ.out.g,Hr (by have:=xQ.out.row;simp only[List.nil_append]at this;exact this) xP.out.size⟩);have hl3:=lt_of_block xQ.out.blk;clear xQ HT7;go_wp2_with fail
 go_ret2
 exact⟨_,rfl,HR.out⟩
theorem vB (w:World) (G:Nat) (sv pv:Value) (f:ax) (procs:List ak) (hg:gX w G sv pv f procs) (s:ByteArray) (k:Int):Calls Tryz.prog 82 #[.pointer (some ⟨G,0,none⟩),.string s,.int .u8 k] w λe w'=>e = .returned (.int .i64 (aj f s k))/\Grow w w':=by
 obtain⟨fa,fc,rfl,hfc,hfl⟩:=hg.fr.row.form;obtain⟨pa,pc,rfl,-,-⟩:=hg.pr.row.form;have HC:=ł (oZ (.slice fa f.slots.length fc) f s k w hg.fr);obtain⟨⟨q0,q1,q2⟩,q3,q4⟩:=bJ hg.blk;have hl:=lt_of_block hg.blk;have HA:=ł (show aj f s k=((au f s k).getD noSlot).at' from rfl);clear hg
 go_enter Tryz.func82,Tryz.ntmps82
 go_wp2_with fail;refine HC.out.mono ?_;rintro e w1 ⟨rfl,hg1⟩;have HG:=ł hg1;clear hg1 q0 q1 q2 q3 q4 hl;generalize (au f s k).getD noSlot=sl at *;obtain⟨s0,s1,s2,s3⟩:=sl;go_wp2_with fail;go_ret;exact⟨iF HA.out.symm,HG.out.alloc _⟩
theorem iJ (v:Value) (l:List Ins) (w:World) (h:az 5 Ins.cells w v l):Calls Tryz.prog 101 #[v] w (bP w (ah l)):=by
 obtain⟨va,vc,rfl,Fa,hvl⟩:=h.form;have HP:=ł (show ay (w.alloc (.cells #[.slice va l.length vc,.slice none 0 0] 34)) (.agg #[.slice va l.length vc,.slice none 0 0]) (ah l)from ay.mk (h.later ((Mv.refl _ w).alloc _)) (az.nil _ _ _));clear h
 go_enter Tryz.func101,Tryz.ntmps101
 go_wp2_with fail;exact bodyPost_ret (v := .agg #[.slice va l.length vc,.slice none 0 0]) (by simp[results,Tryz.results101,go_sem]) rfl ⟨_,rfl,HP.out,(Mv.refl _ _).alloc _⟩
theorem GD (w:World) (G:Nat) (sv pv:Value) (f:ax) (procs:List ak) (hg:gX w G sv pv f procs) (x:ae) (r i:Int) (hx:aR w x):Calls Tryz.prog 102 #[.pointer (some ⟨G,0,none⟩),x.val,.int .i64 r,.int .i64 i] w λe w'=>e = .returned (bX f x.t r i).val/\Grow w w':=by
 obtain⟨fa,fc,rfl,hfc,hfl⟩:=hg.fr.row.form;obtain⟨pa,pc,rfl,-,-⟩:=hg.pr.row.form;obtain⟨k,n,s,kv,l⟩:=x;obtain⟨ka,kc,rfl,-,-⟩:=hx.form;have HP:=ł (show(bX f (ae.t (.mk k n s (.slice ka l.length kc) l)) r i)=⟨11,r,i,((au f s 2).getD noSlot).at',((au f s 2).getD noSlot).len⟩from rfl);have aM:=ł hg;obtain⟨aF,aZ,HG2⟩:=a2 w (.cells #[.int .u8 k,.int .i64 n,.string s,.slice ka l.length kc] 24) (.cells #[.int .u8 0,.int .i64 0,.int .i64 0,.int .i64 0,.int .i64 0] 57);clear hg hx;simp only[ae.val]
 go_enter Tryz.func102,Tryz.ntmps102
 go_wp2_with fail;generalize (w.alloc (.cells #[.int .u8 k,.int .i64 n,.string s,.slice ka l.length kc] 24)).alloc (.cells #[.int .u8 0,.int .i64 0,.int .i64 0,.int .i64 0,.int .i64 0] 57)=w2 at *;have HK:=ł (λ(y:World) (hy:Grow w2 y)=>And.intro (aM.out.later (gtr HG2.out hy)) (ai aF.out hy));refine wg 29 [some 12,some 13,some 14,some 15,some 16,some 17,some 18,some 11,some 19,some 20,some 9,none,some 10] [[],[0],[1],[2],[],[4],[3,5],[6],[7],[7],[],[10,8],[9]] [] [.c (.pointer (some ⟨G,0,none⟩)),.c (.pointer (some ⟨G,0,none⟩)),.c (.pointer (some ⟨G,0,none⟩)),.c (.agg #[.slice fa f.slots.length fc,.int .i64 f.cells,.int .i64 f.stacks]),.c (.pointer (some ⟨w.heap.size,2,none⟩)),.c (.string s),.c (.tuple #[((au f s 2).getD noSlot).val,.bool (au f s 2).isSome]),.c (.tuple #[((au f s 2).getD noSlot).val,.bool (au f s 2).isSome]),.c (((au f s 2).getD noSlot).val),.c (.bool (au f s 2).isSome),.al 11 8 #[.string ⟨#[]⟩,.int .u8 0,.int .i64 0,.int .i64 0] 95,.st 10,.c (.bool (au f s 2).isSome)] trivial (dP rfl) ?steps ?done
 case steps =>
  refine⟨?s0,?s1,?s2,?s3,?s4,?s5,?s6,?s7,?s8,?s9,?s10,?s11,?s12,trivial⟩
  case s0|s4|s7|s8|s9|s12 =>
   refine oo (λvs x hP => ?_);simp only[zS];go_simp;exact gc
  case s1|s2|s3 =>
   refine ok HK (λvs x hG HX hP => ?_);obtain⟨⟨q0,q1,q2⟩,q3,q4⟩:=bJ HX.out.1.blk;simp only[zS];go_simp;exact gc
  case s5 =>
   refine ok HK (λvs x hG HX hP => ?_);obtain⟨⟨n0,n1⟩,n2,n3⟩:=aC HX.out.2;simp only[zS];go_simp;exact gc
  case s6 =>
   refine ok HK (λvs x hG HX hP => ?_);have HC:=ł (oZ (.slice fa f.slots.length fc) f s 2 x HX.out.1.fr);simp only[zS];go_simp;refine(HC.out).mono ?_;rintro e y ⟨rfl,hg⟩;exact⟨_,rfl,aX hg rfl⟩
  case s10 =>
   refine oz (λvs x => ?_);simp only[zS];go_simp;exact⟨rfl,rfl⟩
  case s11 =>
   refine os (λvs x g hg hb hv => ?_);have h8:vs 8=_:=hv;obtain⟨c0,c1,c2,c3⟩:=dN hb;have zt:=aG hb;simp only[zS,hg,h8];go_simp;exact mh hb _ _ _ _
 case done =>
 intro vs wx hE;have hG:=hE.grow;obtain⟨g10,Bb,l10,m10,b10⟩:=hE.box 10;simp only[zS]at b10;simp only[zS,Nat.reduceAdd,Bb];generalize hsl:((au f s 2).getD noSlot)=sl at *;have lD:=ł hsl;clear hsl;have HB:=ł (show wx.heap[g10]? = some (.cells #[.string sl.name,.int .u8 sl.kind,.int .i64 sl.len,.int .i64 sl.at'] 95 (0,0))from b10);have NS:=ł (ai aZ.out hG);have kL:=ł (gtr HG2.out hG);clear hE hG HK aF aZ b10;obtain⟨z0,z1,z2,z3⟩:=dN HB.out;have xN:=lt_of_block HB.out;go_wp2_with fail;refine(J6 11 r i sl.at' sl.len wx.heap.size _ _ (heap_alloc_new wx _)).mono ?_;rintro e w3 ⟨rfl,hg3⟩;simp only;have hgr:=gtr ((Mv.refl _ wx).alloc _) hg3;obtain⟨hs,hm⟩:=j4 (ai NS.out hgr) (.int .u8 11) (.int .i64 r) (.int .i64 i) (.int .i64 sl.at') (.int .i64 sl.len);obtain⟨⟨r0,r1,r2⟩,r3,r4⟩:=bJ (ai NS.out hgr);have rt:=aG (ai NS.out hgr);have HS:=ł hs;have aJ:=ł (show Grow w _ from Mv.trans (gtr kL.out hgr) hm (λb e => .inr (by omega)));clear hs hm hg3 hgr z0 z1 z2 z3 xN;go_wp2_with fail;obtain⟨⟨t0,t1,t2⟩,t3,t4⟩:=bJ HS.out;refine bodyPost_ret (v := .agg #[.int .u8 11,.int .i64 r,.int .i64 i,.int .i64 sl.at',.int .i64 sl.len]) (by simp[results,Tryz.results102,go_sem,t0,t1,t2,t3,t4]) rfl ⟨by rw[HP.out],aJ.out⟩
end Go.Proofs.YtnobahchcongnaaGreatDoor
