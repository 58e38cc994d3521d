import Derived.Test.YtnobahchcongnaaGreatF16
set_option linter.unusedSimpArgs false
set_option linter.unusedVariables false
set_option maxRecDepth 100000
set_option maxHeartbeats 25600000
namespace Go.Proofs.YtnobahchcongnaaGreat
open Go.RowKit Go.Instr
theorem cell1 {w:World} {X:Nat} {a:Value} {t:TypeId} {z:Nat × Nat} (h:w.heap[X]? = some (.cells #[a] t z)):w.cell? ⟨X,0,none⟩=some a:=by simp[World.cell?,h]
theorem aC {w:World} {X:Nat} {a b:Value} {t:TypeId} {z:Nat × Nat} (h:w.heap[X]? = some (.cells #[a,b] t z)):w.cell? ⟨X,0,none⟩=some a/\w.cell? ⟨X,1,none⟩=some b:=by simp[World.cell?,h]
theorem di {w:World} {X:Nat} {a b c:Value} {t:TypeId} {z:Nat × Nat} (h:w.heap[X]? = some (.cells #[a,b,c] t z)):w.cell? ⟨X,0,none⟩=some a/\w.cell? ⟨X,1,none⟩=some b/\w.cell? ⟨X,2,none⟩=some c:=by simp[World.cell?,h]
theorem set1 {w:World} {X:Nat} {a:Value} {t:TypeId} (h:w.heap[X]? = some (.cells #[a] t (0,0))) (p:Value) :
 (w.setCell ⟨X,0,none⟩ p).heap[X]? = some (.cells #[p] t (0,0))/\Mv (λb=>b=X) w (w.setCell ⟨X,0,none⟩ p) :=
 ⟨by have h1:=block_setCell (p:=⟨X,0,none⟩) h rfl p;simpa using h1,(Mv.refl (λb=>b=X) w).setCell (.inl rfl) _⟩
theorem set2 {w:World} {X:Nat} {a b:Value} {t:TypeId} (h:w.heap[X]? = some (.cells #[a,b] t (0,0))) (p q:Value) :
 ((w.setCell ⟨X,0,none⟩ p).setCell ⟨X,1,none⟩ q).heap[X]? = some (.cells #[p,q] t (0,0))/\Mv (λb=>b=X) w ((w.setCell ⟨X,0,none⟩ p).setCell ⟨X,1,none⟩ q) :=
 ⟨by
  have h1:=block_setCell (p:=⟨X,0,none⟩) h rfl p;have h2:=block_setCell (p:=⟨X,1,none⟩) h1 rfl q
  simpa using h2,((Mv.refl (λb=>b=X) w).setCell (.inl rfl) _).setCell (.inl rfl) _⟩
theorem Cz {w:World} {X:Nat} {a b c:Value} {t:TypeId} (h:w.heap[X]? = some (.cells #[a,b,c] t (0,0))) (p q r:Value) :
 (((w.setCell ⟨X,0,none⟩ p).setCell ⟨X,1,none⟩ q).setCell ⟨X,2,none⟩ r).heap[X]? = some (.cells #[p,q,r] t (0,0))/\Mv (λb=>b=X) w (((w.setCell ⟨X,0,none⟩ p).setCell ⟨X,1,none⟩ q).setCell ⟨X,2,none⟩ r) :=
 ⟨by
  have h1:=block_setCell (p:=⟨X,0,none⟩) h rfl p;have h2:=block_setCell (p:=⟨X,1,none⟩) h1 rfl q;have h3:=block_setCell (p:=⟨X,2,none⟩) h2 rfl r
  simpa using h3,(((Mv.refl (λb=>b=X) w).setCell (.inl rfl) _).setCell (.inl rfl) _).setCell (.inl rfl) _⟩
def ay (w:World) (v:Value) (p:aI):Prop:=∃ ca cc ra rc,v = .agg #[.slice ca p.code.length cc,.slice ra p.refs.length rc]/\ax 5 Ins.cells w (.slice ca p.code.length cc) p.code/\ax 2 cO.cells w (.slice ra p.refs.length rc) p.refs
theorem ay.mk {w:World} {cv rv:Value} {p:aI} (h1:ax 5 Ins.cells w cv p.code) (h2:ax 2 cO.cells w rv p.refs):ay w (.agg #[cv,rv]) p:=by
 obtain⟨ca,cc,rfl,-,-⟩:=h1.form;obtain⟨ra,rc,rfl,-,-⟩:=h2.form;exact⟨ca,cc,ra,rc,rfl,h1,h2⟩
theorem ay.later {w w':World} {v:Value} {p:aI} (h:ay w v p) (hm:Grow w w'):ay w' v p:=by
 obtain⟨ca,cc,ra,rc,hv,h1,h2⟩:=h;exact⟨ca,cc,ra,rc,hv,h1.later hm,h2.later hm⟩
def rD (p:Value × Value):List Value:=[p.1,p.2]
def iw (w:World) (v:Value) (l:List aI):Prop:=∃ vs:List (Value × Value),vs.length=l.length/\ax 2 rD w v vs/\∀ i (h:i<vs.length) (h':i<l.length),ay w (.agg #[vs[i].1,vs[i].2]) l[i]
theorem iw.later {w w':World} {v:Value} {l:List aI} (h:iw w v l) (hm:Grow w w'):iw w' v l:=by
 obtain⟨vs,h1,h2,h3⟩:=h;exact⟨vs,h1,h2.later hm,λi hi hi'=>(h3 i hi hi').later hm⟩
theorem iw.form {w:World} {v:Value} {l:List aI} (h:iw w v l):∃ a c,v = .slice a l.length c/\l.length<=c/\l.length<=9223372036854775807:=by
 obtain⟨vs,h1,h2,h3⟩:=h;obtain⟨a,c,e,h4,h5⟩:=h2.form;exact⟨a,c,by rw[← h1];exact e,by omega,by omega⟩
def bQ (w:World) (p:aI) (e:Ending) (w':World):Prop:=∃ v,e = .returned v/\ay w' v p/\Grow w w'
def qg (base:Nat) (w:World) (v:Value) (p:aI):Prop:=∃ ca cc ra rc,v = .agg #[.slice ca p.code.length cc,.slice ra p.refs.length rc]/\dN w base (.slice ca p.code.length cc) p.code/\ax 2 cO.cells w (.slice ra p.refs.length rc) p.refs
theorem qg.at {base:Nat} {w:World} {v:Value} {p:aI} (h:qg base w v p):ay w v p:=by
 obtain⟨ca,cc,ra,rc,hv,h1,h2⟩:=h;exact⟨ca,cc,ra,rc,hv,iF (λ_=>rfl) h1,h2⟩
theorem qg.later {base:Nat} {w w':World} {v:Value} {p:aI} (h:qg base w v p) (hm:Grow w w'):qg base w' v p:=by
 obtain⟨ca,cc,ra,rc,hv,h1,h2⟩:=h;exact⟨ca,cc,ra,rc,hv,bM h1 hm (λ_ _ e=>e),h2.later hm⟩
theorem Fu {α:Type} {n:Nat} {f:α->List Value} {x y:World} {v:Value} {l:List α} {g:Nat} {a b:Option Addr × Nat × Nat} {t:TypeId} (h:ax n f x v l) (hf:∀ u,∃ c,(f u)[0]? = some c/\∀ a m k,c ≠ .slice a m k)
 (hb:x.heap[g]? = some (.cells #[.slice a.1 a.2.1 a.2.2,.slice b.1 b.2.1 b.2.2] t (0,0))) (hm:Mv (λb=>b=g) x y):ax n f y v l:=by
 cases l with
 |nil =>
  obtain⟨a,cap,e,h1,h2,_⟩:=h;exact⟨a,cap,e,h1,h2,λi x hx=>by simp at hx⟩
 |cons u l =>
  refine h.stay hm (λq hq e => ?_);subst e;obtain⟨b',off,cap,e,_,hc⟩:=h.at (i:=0) (by simp);rw[e]at hq;simp only[Value.ownBlock,Option.some.injEq]at hq;subst hq;obtain⟨c,hc0,hns⟩:=hf u;have h0:=hc 0 c (by simpa using hc0);simp only[World.cell?,hb]at h0;rcases Nat.lt_or_ge (off+0 * n+0) 2 with h2|h2
  · have:off+0 * n+0=0\/off+0 * n+0=1:=by omega
    rcases this with e0|e0 <;> rw[e0]at h0 <;> simp at h0 <;> exact hns _ _ _ h0.symm
  · simp only[Array.getElem?_eq_none (show(#[Value.slice a.1 a.2.1 a.2.2,.slice b.1 b.2.1 b.2.2]:Array Value).size<=off+0 * n+0 from h2)]at h0;cases h0
def _R:Array Value:=#[.slice none 0 0,.slice none 0 0]
theorem ay.box {x y:World} {v:Value} {p:aI} {g:Nat} {t:TypeId} (h:ay x v p) (hb:x.heap[g]? = some (.cells #[.slice none 0 0,.slice none 0 0] t (0,0))) (hm:Mv (λb=>b=g) x y):ay y v p:=by
 obtain⟨ca,cc,ra,rc,hv,h1,h2⟩:=h;exact⟨ca,cc,ra,rc,hv,Fu (a:=(none,0,0)) (b:=(none,0,0)) h1 (λu=>⟨_,rfl,by simp⟩) hb hm,Fu (a:=(none,0,0)) (b:=(none,0,0)) h2 (λu=>⟨_,rfl,by simp⟩) hb hm⟩
theorem sP {Zs:List (Array Value × TypeId)} {b:Bool} {p:aI} (hz:∀ z∈Zs,z.1=_R:=by intro z hz;simp[Kd.zero,Sp.k]at hz <;> (subst hz;rfl)):qd (λv y=>ay y v p)/\(b=false->uF Zs (λv y=>ay y v p)) :=
 ⟨λv x y hg h=>h.later hg,λ_ z h g v x y hb hm h'=>ay.box h' (by rw[hz z h]at hb;exact hb) hm⟩
theorem sQ {Zs:List (Array Value × TypeId)} {b:Bool} {F U:Nat->Value} {l:List aI} (hb:b=true:=by rfl):qd (λv y=>∃ g,v=F g/\iw y (U g) l)/\(b=false->uF Zs (λv y=>∃ g,v=F g/\iw y (U g) l)):=⟨λv x y hg h=>by obtain⟨g,hv,hb⟩:=h;exact⟨g,hv,hb.later hg⟩,λh=>by rw[hb]at h;cases h⟩
structure gD (w:World) (G:Nat) (sv pv:Value) (f:az) (procs:List ak):Prop where
 blk:w.heap[G]? = some (.cells #[sv,.int .i64 f.cells,.int .i64 f.stacks,pv,.int .i64 0] 88 (0,0))
 fr:fV w sv f
 pr:lC w pv procs
theorem gD.later {w w':World} {G:Nat} {sv pv:Value} {f:az} {procs:List ak} (h:gD w G sv pv f procs) (hm:Grow w w'):gD w' G sv pv f procs:=⟨ai h.blk hm,h.fr.later hm,h.pr.later hm⟩
theorem BR {F:World->Prop} {a b:World} (h:∀ x,Grow a x->F x) (g:Grow a b):∀ x,Grow b x->F x:=λx hx=>h x (Mv.trans g hx (λ_ e=>e.elim))
theorem Fv {w:World} {base base':Nat} {v:Value} {l:List Ins} (h:dN w base v l) (hb:base'<=base):dN w base' v l:=by
 refine⟨h.1,?_⟩;rcases h.2 with h2|⟨g,cap,cur,e,h3,h4⟩
 · exact .inl h2
 · exact .inr ⟨g,cap,cur,e,by omega,h4⟩
theorem gtr {a b c:World} (h:Grow a b) (k:Grow b c):Grow a c:=Mv.trans h k (λ_ e=>e.elim)
theorem NL (x:ae) (sv:Value) (f:az) (w:World) (hf:fV w sv f) (hx:aS w x) (he:aM x.t=true) (hs:bO f x.t=true) (hc0:0<=f.cells) (hc1:f.cells<=1000) (hd:iJ x.t<=10000) (hlen:(eP f x.t).length<=800000) :
 Calls Tryz.prog 34 #[x.val,.agg #[sv,.int .i64 f.cells,.int .i64 f.stacks]] w λe w'=>∃ v',e = .returned (.tuple #[v',.int .i64 0])/\lH w w' v' (eP f x.t):=by
 obtain⟨fa,fc,rfl,hfc,hfl⟩:=hf.row.form;obtain⟨k,n,s,kv,l⟩:=x;obtain⟨ka,kc,rfl,-,-⟩:=hx.form;have hg2:Grow w ((w.alloc (.cells #[.int .u8 k,.int .i64 n,.string s,.slice ka l.length kc] 26)).alloc (.cells #[.slice fa f.slots.length fc,.int .i64 f.cells,.int .i64 f.stacks] 38)):=((Mv.refl _ w).alloc _).alloc _;obtain⟨aJ,vg,-⟩:=a2 w (.cells #[.int .u8 k,.int .i64 n,.string s,.slice ka l.length kc] 26) (.cells #[.slice fa f.slots.length fc,.int .i64 f.cells,.int .i64 f.stacks] 38);have HF:=ł hf;have HX:=ł hx;have ni:=ł hlen;have GJ:=ł (λ(y:World) (hy:Grow w y)=>(xH (.mk k n s (.slice ka l.length kc) l) y (HX.out.later hy)));have yB:=ł (λ(y:World) (hy:Grow w y)=>(WU (.slice fa f.slots.length fc) f (.mk k n s (.slice ka l.length kc) l) y (HF.out.later hy) (HX.out.later hy)));have Rs:=ł (λ(y:World) (hy:Grow w y)=>(XX (.mk k n s (.slice ka l.length kc) l) y (HX.out.later hy) (by omega)));rw[he]at GJ;rw[hs]at yB;have mI:=ł he;have HG2:=ł hg2;clear hf hx hlen hg2 he hs;generalize hD:iJ (ae.t (.mk k n s (.slice ka l.length kc) l))=D at *;have GK:=ł hD;clear hD;simp only[ae.val]at GJ yB ⊢
 go_enter Tryz.func34,Tryz.ntmps34
 go_upto_region 1 with fail;have hsz2:w.heap.size+2=((w.alloc (.cells #[.int .u8 k,.int .i64 n,.string s,.slice ka l.length kc] 26)).alloc (.cells #[.slice fa f.slots.length fc,.int .i64 f.cells,.int .i64 f.stacks] 38)).heap.size:=by simp
 generalize (w.alloc (.cells #[.int .u8 k,.int .i64 n,.string s,.slice ka l.length kc] 26)).alloc (.cells #[.slice fa f.slots.length fc,.int .i64 f.cells,.int .i64 f.stacks] 38)=w2 at *;have HK:=ł (λ(y:World) (hy:Grow w2 y)=>And.intro (ai aJ.out hy) (ai vg.out hy));obtain⟨⟨n0,n1⟩,n2,n3⟩:=aF aJ.out;have hl1:=lt_of_block aJ.out;go_wp2_with fail;refine(GJ.out _ HG2.out).mono ?_;rintro e w3 ⟨he,hg⟩;subst he;have aG:=ł (gtr HG2.out hg);have bL:=ł (BR HK.out hg);obtain⟨⟨m0,m1⟩,m2,m3⟩:=aF (HK.out _ hg).1;obtain⟨f0,f1,f2⟩:=di (HK.out _ hg).2;clear hg aJ vg n0 n1 n2 n3 hl1;go_wp2_with fail;refine(yB.out _ aG.out).mono ?_;rintro e w4 ⟨he,hg⟩;subst he;have aN:=ł (gtr aG.out hg);have aW:=ł (BR bL.out hg);clear hg m0 m1 m2 m3 f0 f1 f2 hsz2;go_wp2_with fail;have zL:=ł (λ(y:World) (hy:Grow w4 y)=>Rs.out y (gtr aN.out hy));refine wg 26 [some 14,some 15,some 16,some 17,some 18,some 19] [[],[0],[],[2],[3],[1,4]] [] [.c (.pointer (some ⟨w.heap.size+1,1,none⟩)),.c (.int .i64 f.cells),.c (ae.val (.mk k n s (.slice ka l.length kc) l)),.c (.int .i64 D),.c (.int .i64 (16384 - D)),.c (.bool false)] trivial (cz rfl) ?steps ?done
 case steps =>
  refine⟨?s0,?s1,?s2,?s3,?s4,?s5,trivial⟩
  case s0 =>
   refine oo (λvs x hP => ?_);simp only[zS];go_simp;exact gc
  case s1 =>
   refine ok aW (λvs x hG HX hP => ?_);obtain⟨f0,f1,f2⟩:=di HX.out.2;simp only[zS];go_simp;exact gc
  case s2 =>
   refine ok aW (λvs x hG HX hP => ?_);obtain⟨⟨n0,n1⟩,n2,n3⟩:=aF HX.out.1;simp only[zS];go_simp;exact gc
  case s3 =>
   refine ok aW (λvs x hG HX hP => ?_);have h2:vs 2=_:=pq hP 2;have HC:=ł (zL.out x hG);simp only[ae.val]at h2 HC;simp only[zS,h2];go_simp;refine(HC.out).mono ?_;rintro e y ⟨rfl,hg⟩;exact⟨_,rfl,bu hg rfl⟩
  case s4 =>
   refine ok aW (λvs x hG HX hP => ?_);have hw:IntKind.i64.wrap (16384 - (D:Int))=16384 - D:=IntWalk.i64_in _ (by omega);simp only[zS];go_simp;exact gc
  case s5 =>
   refine ok aW (λvs x hG HX hP => ?_);have hlt:decide (16384 - D<f.cells)=false:=by simp;omega
   simp only[zS];go_simp;exact gc
 case done =>
 intro vs wx hE;have hG:=hE.grow;simp only[zS,Nat.reduceAdd];have aT:=ł (gtr aN.out hG);have bG:=ł (aW.out _ hG);obtain⟨⟨m0,m1⟩,m2,m3⟩:=aF bG.out.1;obtain⟨f0,f1,f2⟩:=di bG.out.2;have hl1:=lt_of_block bG.out.1;have hl2:=lt_of_block bG.out.2;clear hE hG GJ yB Rs zL HK bL aW;have HST:=ł (show bD wx wx.heap.size (.slice fa f.slots.length fc) f (wx.alloc (.cells #[.slice fa f.slots.length fc,.int .i64 f.cells,.int .i64 f.stacks,.slice none 0 0] 94)) (.slice none 0 0) []from
  ⟨(Mv.refl _ wx).alloc _,heap_alloc_new wx _,World.ownsRow_nil _ _ _ _,Nat.le_refl _⟩)
 have HC:=ł (PI wx wx.heap.size (.slice fa f.slots.length fc) f (HF.out.later aT.out) hc0 (by omega) _ (.mk k n s (.slice ka l.length kc) l) (Nat.le_refl _) mI.out (HX.out.later aT.out) 0 _ _ _ (by omega) (by rw[GK.out];omega) (by have:=ni.out;simp only[eP]at this;simp;omega) HST.out);simp only[ae.val,List.nil_append]at HC;go_wp2_with fail;refine HC.out.mono ?_;rintro e w7 ⟨rfl,cv',hst,hto⟩;obtain⟨⟨q0,q1⟩,q2,q3⟩:=aF hst.blk;have HR:=ł (show lH w w7 cv' (eP f (ae.t (.mk k n s (.slice ka l.length kc) l)))from⟨gtr aT.out hst.g,Fv (by have:=hst.row;simp only[List.nil_append]at this;exact this) aT.out.size⟩);have hl3:=lt_of_block hst.blk;clear hst hto HC HST;go_wp2_with fail
 go_ret2
 exact⟨_,rfl,HR.out⟩
def ky (A us:List Ins):List Ins:=A ++ [⟨13,4,0,0,0⟩] ++ us ++ [⟨12,4,0,0,0⟩] ++ kR A
theorem X5 (f:az):∀ (m:Nat) (t:Tree),SizeOf.sizeOf t<=m->aM t=true->∀ p,∀ i∈jq f t p,0<=i.op/\i.op<=255:=by
 intro m
 induction m with
 |zero=>intro t h;cases t;simp at h
 |succ m ih =>
  intro t hm he p i hi;obtain⟨k,n,s,l⟩:=t;have hk:=NK he;have hsub:∀ (j:Nat) (hj:j<l.length),SizeOf.sizeOf l[j]<=m:=λj hj=>by
   have h1:=List.sizeOf_lt_of_mem (List.getElem_mem hj);simp at hm;omega
  rcases hk with rfl|rfl|⟨rfl,hl⟩|hk|⟨hk,hl⟩|⟨⟨h8,h23⟩,hl⟩
  · rw[Qj]at hi;simp at hi;rcases hi with rfl|rfl <;> simp
  · rw[Qk]at hi;simp at hi;rcases hi with rfl|rfl|rfl|rfl <;> simp
  · have h0:0<l.length:=by omega
    rw[Ql,Ay f l p 0 h0]at hi;rcases List.mem_append.1 hi with hi|hi
    · exact ih _ (hsub 0 h0) (BL he (.inl rfl) _ (List.getElem_mem h0)) _ i hi
    · simp at hi;rcases hi with rfl|rfl|rfl|rfl|rfl|rfl <;> simp
  · rw[PG f k n p s l hk]at hi;simp at hi;rcases hi with rfl|rfl
    · simp only;split <;> simp
    · simp
  · have h0:0<l.length:=by omega
    rw[PH f k n p s l hk,Ay f l p 0 h0]at hi;simp only[List.mem_append]at hi;rcases hi with((hi|hi)|hi)|hi
    · exact ih _ (hsub 0 h0) (BL he (by omega) _ (List.getElem_mem h0)) _ i hi
    · simp at hi;subst hi;simp
    · split at hi
      · simp at hi;rcases hi with rfl|rfl <;> simp
      · simp at hi;subst hi;simp
    · simp at hi;rcases hi with rfl|rfl <;> simp
  · have h0:0<l.length:=by omega
    have h1:1<l.length:=by omega
    rw[Qm f k n p s l h8,Ay f l p 0 h0,Ay f l p 1 h1]at hi;simp only[List.mem_append]at hi;rcases hi with((hi|hi)|hi)|hi
    · exact ih _ (hsub 0 h0) (BL he (by omega) _ (List.getElem_mem h0)) _ i hi
    · simp at hi;rcases hi with rfl|rfl <;> simp
    · exact ih _ (hsub 1 h1) (BL he (by omega) _ (List.getElem_mem h1)) _ i hi
    · simp at hi;rcases hi with rfl|rfl|rfl|rfl|rfl|rfl <;> simp
theorem X6 (f:az) (t:Tree) (h:aM t=true):∀ i∈eP f t,0<=i.op/\i.op<=255:=X5 f _ t (Nat.le_refl _) h 0
theorem OP (x:ae) (sv uv:Value) (f:az) (us:List Ins) (w:World) (hf:fV w sv f) (hx:aS w x) (hu:ax 5 Ins.cells w uv us) (he:aM x.t=true) (hs:bO f x.t=true) (hc0:0<=f.cells) (hc1:f.cells<=1000) (hd:iJ x.t<=10000) (hlen:(eP f x.t).length<=300000) (mZ:us.length<=300000) :
 Calls Tryz.prog 13 #[x.val,.agg #[sv,.int .i64 f.cells,.int .i64 f.stacks],uv] w λe w'=>∃ v',e = .returned (.tuple #[v',.int .i64 0])/\lH w w' v' (ky (eP f x.t) us):=by
 obtain⟨fa,fc,rfl,hfc,hfl⟩:=hf.row.form;obtain⟨k,n,s,kv,l⟩:=x;obtain⟨ka,kc,rfl,-,-⟩:=hx.form;obtain⟨ua,uc,rfl,huc,hul⟩:=hu.form;have HCM:=ł (λ(y:World) (hy:Grow w y)=>NL (.mk k n s (.slice ka l.length kc) l) (.slice fa f.slots.length fc) f y (hf.later hy) (hx.later hy) he hs hc0 hc1 hd (by omega));have HU:=ł hu;have Gz:=ł (X6 f _ he);clear hf hx hu he hs hd;have hg2:Grow w ((w.alloc (.cells #[.int .u8 k,.int .i64 n,.string s,.slice ka l.length kc] 26)).alloc (.cells #[.slice fa f.slots.length fc,.int .i64 f.cells,.int .i64 f.stacks] 38)):=((Mv.refl _ w).alloc _).alloc _;have HG2:=ł hg2;clear hg2;generalize eP f (ae.t (.mk k n s (.slice ka l.length kc) l))=A at *;simp only[ae.val]at HCM ⊢
 go_enter Tryz.func13,Tryz.ntmps13
 go_wp2_with fail;generalize (w.alloc (.cells #[.int .u8 k,.int .i64 n,.string s,.slice ka l.length kc] 26)).alloc (.cells #[.slice fa f.slots.length fc,.int .i64 f.cells,.int .i64 f.stacks] 38)=w2 at *;refine(HCM.out _ HG2.out).mono ?_;rintro e wC ⟨cv,rfl,hcv⟩;obtain⟨ca,cc,hcs⟩:=gy hcv.row;subst hcs;have HC:=ł hcv;have wW:=ł (gtr HG2.out hcv.g);have bI:=ł (show bD wC wC.heap.size (.slice none 0 0) iI (wC.alloc (.cells #[.slice none 0 0,.int .i64 0,.int .i64 0,.slice none 0 0] 94)) (.slice none 0 0) []from
  ⟨(Mv.refl _ wC).alloc _,heap_alloc_new wC _,World.ownsRow_nil _ _ _ _,Nat.le_refl _⟩)
 have HT1:=ł (cK.refl wC.heap.size (wC.alloc (.cells #[.slice none 0 0,.int .i64 0,.int .i64 0,.slice none 0 0] 94)) (.slice none 0 0));clear hcv HCM;have Ua:=ł (λ(y:World) (hy:Grow wC y)=>(iF (λ_=>rfl) HC.out.row:ax 5 Ins.cells wC (.slice ca A.length cc) A).later hy);have HRU:=ł (λ(y:World) (hy:Grow wC y)=>(HU.out.later wW.out).later hy);have dJ:=ł (lZ wC wC.heap.size (.slice none 0 0) iI _ (.slice none 0 0) [] (.slice ca A.length cc) A bI.out (Ua.out _ bI.out.g) (by first|omega|(simp;omega)));go_wp2_with fail;refine dJ.out.mono ?_;rintro e u2 ⟨rfl,q2,hs,ht⟩;have HS2:=ł hs;have HT2:=ł (HT1.out.trans ht);clear hs ht dJ bI HT1
 go_wp2_with fail;refine(gK 13 4 0 u2.heap.size _ _ (heap_alloc_new u2 _)).mono ?_;rintro e y20 ⟨rfl,hg⟩;simp only;have hg0:Grow u2 y20:=Mv.trans ((Mv.refl _ u2).alloc _) hg (λ_ e=>e.elim);clear hg;have hgz:Grow u2 (y20.alloc (.cells #[.int .u8 13,.int .i64 4,.int .i64 0,.int .i64 0,.int .i64 0] 60)):=hg0.alloc _;have dJ:=ł (lZ wC wC.heap.size (.slice none 0 0) iI _ q2 ([] ++ A) (.slice (some ⟨y20.heap.size,0,none⟩) 1 1) ([⟨13,4,0,0,0⟩]:List Ins) (HS2.out.grow hgz) (ax.bN (f:=Ins.cells) (l:=([⟨13,4,0,0,0⟩]:List Ins)) (λ_=>rfl) (heap_alloc_new y20 _) rfl (by simp)) (by simp;omega));have iU:=ł (HT2.out.trans (cK.grow hgz));clear hgz hg0;go_wp2_with fail;refine dJ.out.mono ?_;rintro e u3 ⟨rfl,q3,hs,ht⟩;have oF:=ł hs;have HT3:=ł (iU.out.trans ht);clear hs ht dJ iU HS2 HT2
 have dJ:=ł (lZ wC wC.heap.size (.slice none 0 0) iI _ q3 ([] ++ A ++ ([⟨13,4,0,0,0⟩]:List Ins)) (.slice ua us.length uc) us oF.out (HRU.out _ oF.out.g) (by first|omega|(simp;omega)));go_wp2_with fail;refine dJ.out.mono ?_;rintro e u4 ⟨rfl,q4,hs,ht⟩;have gW:=ł hs;have yA:=ł (HT3.out.trans ht);clear hs ht dJ oF HT3
 go_wp2_with fail;refine(gK 12 4 0 u4.heap.size _ _ (heap_alloc_new u4 _)).mono ?_;rintro e GL ⟨rfl,hg⟩;simp only;have hg0:Grow u4 GL:=Mv.trans ((Mv.refl _ u4).alloc _) hg (λ_ e=>e.elim);clear hg;have hgz:Grow u4 (GL.alloc (.cells #[.int .u8 12,.int .i64 4,.int .i64 0,.int .i64 0,.int .i64 0] 60)):=hg0.alloc _;have dJ:=ł (lZ wC wC.heap.size (.slice none 0 0) iI _ q4 ([] ++ A ++ ([⟨13,4,0,0,0⟩]:List Ins) ++ us) (.slice (some ⟨GL.heap.size,0,none⟩) 1 1) ([⟨12,4,0,0,0⟩]:List Ins) (gW.out.grow hgz) (ax.bN (f:=Ins.cells) (l:=([⟨12,4,0,0,0⟩]:List Ins)) (λ_=>rfl) (heap_alloc_new GL _) rfl (by simp)) (by simp;omega));have iU:=ł (yA.out.trans (cK.grow hgz));clear hgz hg0;go_wp2_with fail;refine dJ.out.mono ?_;rintro e u5 ⟨rfl,q5,hs,ht⟩;have pM:=ł hs;have uZ:=ł (iU.out.trans ht);clear hs ht dJ iU gW yA
 have Ub:=ł (WY (.slice ca A.length cc) A u5 (Ua.out _ pM.out.g) hlen Gz.out);go_wp2_with fail;refine Ub.out.mono ?_;rintro e w6 ⟨v6,rfl,hun⟩;obtain⟨da,dc,hds⟩:=gy hun.row;subst hds;have Uc:=ł (pM.out.grow hun.g);have GM:=ł (uZ.out.trans (cK.grow hun.g));have HRD:=ł (iF (λ_=>rfl) hun.row:ax 5 Ins.cells w6 (.slice da (kR A).length dc) (kR A));have Rt:(kR A).length=A.length:=IK A;have HUL:=ł Rt;clear hun Rt Ub pM uZ;have dJ:=ł (lZ wC wC.heap.size (.slice none 0 0) iI _ q5 ([] ++ A ++ ([⟨13,4,0,0,0⟩]:List Ins) ++ us ++ ([⟨12,4,0,0,0⟩]:List Ins)) (.slice da (kR A).length dc) (kR A) Uc.out HRD.out (by rw[HUL.out];simp;omega));go_wp2_with fail;refine dJ.out.mono ?_;rintro e u7 ⟨rfl,q7,hs,ht⟩;have DN:=ł hs;have HT7:=ł (GM.out.trans ht);clear hs ht dJ Uc GM
 obtain⟨⟨b0,b1⟩,b2,b3⟩:=aF DN.out.blk;have HR:=ł (show lH w u7 q7 (ky A us)from⟨gtr wW.out DN.out.g,Fv (by have:=DN.out.row;simp only[List.nil_append]at this;exact this) wW.out.size⟩);have hl3:=lt_of_block DN.out.blk;clear DN HT7;go_wp2_with fail
 go_ret2
 exact⟨_,rfl,HR.out⟩
theorem uG (w:World) (G:Nat) (sv pv:Value) (f:az) (procs:List ak) (hg:gD w G sv pv f procs) (s:ByteArray) (k:Int):Calls Tryz.prog 85 #[.pointer (some ⟨G,0,none⟩),.string s,.int .u8 k] w λe w'=>e = .returned (.int .i64 (aj f s k))/\Grow w w':=by
 obtain⟨fa,fc,rfl,hfc,hfl⟩:=hg.fr.row.form;obtain⟨pa,pc,rfl,-,-⟩:=hg.pr.row.form;have HC:=ł (oV (.slice fa f.slots.length fc) f s k w hg.fr);obtain⟨⟨q0,q1,q2⟩,q3,q4⟩:=bR hg.blk;have hl:=lt_of_block hg.blk;have HA:=ł (show aj f s k=((au f s k).getD noSlot).at' from rfl);clear hg
 go_enter Tryz.func85,Tryz.ntmps85
 go_wp2_with fail;refine HC.out.mono ?_;rintro e w1 ⟨rfl,hg1⟩;have HG:=ł hg1;clear hg1 q0 q1 q2 q3 q4 hl;generalize (au f s k).getD noSlot=sl at *;obtain⟨s0,s1,s2,s3⟩:=sl;go_wp2_with fail;go_ret;exact⟨cB HA.out.symm,HG.out.alloc _⟩
theorem iG (v:Value) (l:List Ins) (w:World) (h:ax 5 Ins.cells w v l):Calls Tryz.prog 104 #[v] w (bQ w (ah l)):=by
 obtain⟨va,vc,rfl,oC,hvl⟩:=h.form;have HP:=ł (show ay (w.alloc (.cells #[.slice va l.length vc,.slice none 0 0] 45)) (.agg #[.slice va l.length vc,.slice none 0 0]) (ah l)from ay.mk (h.later ((Mv.refl _ w).alloc _)) (ax.nil _ _ _));clear h
 go_enter Tryz.func104,Tryz.ntmps104
 go_wp2_with fail;exact bodyPost_ret (v := .agg #[.slice va l.length vc,.slice none 0 0]) (by simp[results,Tryz.results104,go_sem]) rfl ⟨_,rfl,HP.out,(Mv.refl _ _).alloc _⟩
theorem ED (w:World) (G:Nat) (sv pv:Value) (f:az) (procs:List ak) (hg:gD w G sv pv f procs) (x:ae) (r i:Int) (hx:aS w x):Calls Tryz.prog 105 #[.pointer (some ⟨G,0,none⟩),x.val,.int .i64 r,.int .i64 i] w λe w'=>e = .returned (gQ f x.t r i).val/\Grow w w':=by
 obtain⟨fa,fc,rfl,hfc,hfl⟩:=hg.fr.row.form;obtain⟨pa,pc,rfl,-,-⟩:=hg.pr.row.form;obtain⟨k,n,s,kv,l⟩:=x;obtain⟨ka,kc,rfl,-,-⟩:=hx.form;have HP:=ł (show(gQ f (ae.t (.mk k n s (.slice ka l.length kc) l)) r i)=⟨11,r,i,((au f s 2).getD noSlot).at',((au f s 2).getD noSlot).len⟩from rfl);have aK:=ł hg;obtain⟨aJ,bB,HG2⟩:=a2 w (.cells #[.int .u8 k,.int .i64 n,.string s,.slice ka l.length kc] 26) (.cells #[.int .u8 0,.int .i64 0,.int .i64 0,.int .i64 0,.int .i64 0] 60);clear hg hx;simp only[ae.val]
 go_enter Tryz.func105,Tryz.ntmps105
 go_wp2_with fail;generalize (w.alloc (.cells #[.int .u8 k,.int .i64 n,.string s,.slice ka l.length kc] 26)).alloc (.cells #[.int .u8 0,.int .i64 0,.int .i64 0,.int .i64 0,.int .i64 0] 60)=w2 at *;have HK:=ł (λ(y:World) (hy:Grow w2 y)=>And.intro (aK.out.later (gtr HG2.out hy)) (ai aJ.out hy));refine wg 29 [some 12,some 13,some 14,some 15,some 16,some 17,some 18,some 11,some 19,some 20,some 9,none,some 10] [[],[0],[1],[2],[],[4],[3,5],[6],[7],[7],[],[10,8],[9]] [] [.c (.pointer (some ⟨G,0,none⟩)),.c (.pointer (some ⟨G,0,none⟩)),.c (.pointer (some ⟨G,0,none⟩)),.c (.agg #[.slice fa f.slots.length fc,.int .i64 f.cells,.int .i64 f.stacks]),.c (.pointer (some ⟨w.heap.size,2,none⟩)),.c (.string s),.c (.tuple #[((au f s 2).getD noSlot).val,.bool (au f s 2).isSome]),.c (.tuple #[((au f s 2).getD noSlot).val,.bool (au f s 2).isSome]),.c (((au f s 2).getD noSlot).val),.c (.bool (au f s 2).isSome),.al 11 8 #[.string ⟨#[]⟩,.int .u8 0,.int .i64 0,.int .i64 0] 81,.st 10,.c (.bool (au f s 2).isSome)] trivial (cz rfl) ?steps ?done
 case steps =>
  refine⟨?s0,?s1,?s2,?s3,?s4,?s5,?s6,?s7,?s8,?s9,?s10,?s11,?s12,trivial⟩
  case s0|s4|s7|s8|s9|s12 =>
   refine oo (λvs x hP => ?_);simp only[zS];go_simp;exact gc
  case s1|s2|s3 =>
   refine ok HK (λvs x hG HX hP => ?_);obtain⟨⟨q0,q1,q2⟩,q3,q4⟩:=bR HX.out.1.blk;simp only[zS];go_simp;exact gc
  case s5 =>
   refine ok HK (λvs x hG HX hP => ?_);obtain⟨⟨n0,n1⟩,n2,n3⟩:=aF HX.out.2;simp only[zS];go_simp;exact gc
  case s6 =>
   refine ok HK (λvs x hG HX hP => ?_);have HC:=ł (oV (.slice fa f.slots.length fc) f s 2 x HX.out.1.fr);simp only[zS];go_simp;refine(HC.out).mono ?_;rintro e y ⟨rfl,hg⟩;exact⟨_,rfl,bu hg rfl⟩
  case s10 =>
   refine oz (λvs x => ?_);simp only[zS];go_simp;exact⟨rfl,rfl⟩
  case s11 =>
   refine os (λvs x g hg hb hv => ?_);have h8:vs 8=_:=hv;obtain⟨c0,c1,c2,c3⟩:=dF hb;have zt:=aD hb;simp only[zS,hg,h8];go_simp;exact nW hb _ _ _ _
 case done =>
 intro vs wx hE;have hG:=hE.grow;obtain⟨g10,zT,l10,m10,b10⟩:=hE.box 10;simp only[zS]at b10;simp only[zS,Nat.reduceAdd,zT];generalize hsl:((au f s 2).getD noSlot)=sl at *;have ng:=ł hsl;clear hsl;have HB:=ł (show wx.heap[g10]? = some (.cells #[.string sl.name,.int .u8 sl.kind,.int .i64 sl.len,.int .i64 sl.at'] 81 (0,0))from b10);have DR:=ł (ai bB.out hG);have jW:=ł (gtr HG2.out hG);clear hE hG HK aJ bB b10;obtain⟨z0,z1,z2,z3⟩:=dF HB.out;have wU:=lt_of_block HB.out;go_wp2_with fail;refine(Im 11 r i sl.at' sl.len wx.heap.size _ _ (heap_alloc_new wx _)).mono ?_;rintro e w3 ⟨rfl,hg3⟩;simp only;have hgr:=gtr ((Mv.refl _ wx).alloc _) hg3;obtain⟨hs,hm⟩:=kC (ai DR.out hgr) (.int .u8 11) (.int .i64 r) (.int .i64 i) (.int .i64 sl.at') (.int .i64 sl.len);obtain⟨⟨r0,r1,r2⟩,r3,r4⟩:=bR (ai DR.out hgr);have rt:=aD (ai DR.out hgr);have HS:=ł hs;have aQ:=ł (show Grow w _ from Mv.trans (gtr jW.out hgr) hm (λb e => .inr (by omega)));clear hs hm hg3 hgr z0 z1 z2 z3 wU;go_wp2_with fail;obtain⟨⟨t0,t1,t2⟩,t3,t4⟩:=bR HS.out;refine bodyPost_ret (v := .agg #[.int .u8 11,.int .i64 r,.int .i64 i,.int .i64 sl.at',.int .i64 sl.len]) (by simp[results,Tryz.results105,go_sem,t0,t1,t2,t3,t4]) rfl ⟨by rw[HP.out],aQ.out⟩
end Go.Proofs.YtnobahchcongnaaGreat
