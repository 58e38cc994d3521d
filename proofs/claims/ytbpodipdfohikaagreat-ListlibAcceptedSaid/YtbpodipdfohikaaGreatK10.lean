import Derived.Test.YtbpodipdfohikaaGreatK09
set_option linter.unusedSimpArgs false
set_option linter.unusedVariables false
set_option maxRecDepth 100000
set_option maxHeartbeats 25600000
namespace Go.Proofs.YtbpodipdfohikaaGreat
open Go.RowKit Go.Instr
attribute [local go_sem ↓] gD
theorem Tryz.Na:(Tryz.prog.info? 3).map (λi=>(i.zero,i.size,i.bytes))=some (some (.int .i64 0),1,8):=by kernel_rfl
theorem Tryz.Mm:(Tryz.prog.info? 22).map (λi=>(i.zero,i.size,i.bytes))=some (some (.slice none 0 0),1,24):=by kernel_rfl
theorem Tryz.Wl:Elem Tryz.prog 52 22 1 24:=Elem.of Tryz.underlying52 Tryz.Mm rfl (by decide) (by decide)
def Oh (v:Value):List Value:=[v]
theorem XE {w:World} {X:Nat} {a b c:Value} {t:TypeId} (h:w.heap[X]? = some (.cells #[a,b,c] t (0,0))) (p:Value) :
 (w.setCell ⟨X,0,none⟩ p).heap[X]? = some (.cells #[p,b,c] t (0,0))/\Mv (λb=>b=X) w (w.setCell ⟨X,0,none⟩ p) :=
 ⟨by have h1:=block_setCell (p:=⟨X,0,none⟩) h rfl p;simpa using h1,(Mv.refl (λb=>b=X) w).setCell (.inl rfl) _⟩
abbrev Hw (w:World) (base:Nat) (v:Value) (l:List Value):Prop:=w.ownsRow base 22 1 v l.length (flat Oh l)
structure rz (w:World) (X:Nat) (x:World) (cv:Value) (l:List Value):Prop where
 g:Grow w x
 blk:x.heap[X]? = some (.cells #[cv,.slice none 0 0,.slice none 0 0] 54 (0,0))
 res:x.heap[w.heap.size]? = some (.cells #[.slice none 0 0,.slice none 0 0,.slice none 0 0] 54 (0,0))
 row:Hw x w.heap.size cv l
 hX:w.heap.size<X
theorem rz.grow {w x y:World} {X:Nat} {cv:Value} {l:List Value} (h:rz w X x cv l) (hm:Grow x y):rz w X y cv l:=⟨gtr h.g hm,ah h.blk hm,ah h.res hm,bu h.row hm (λ_ _ e=>e),h.hX⟩
theorem rz.drew {w x:World} {X:Nat} {cv:Value} {l:List Value} (h:rz w X x cv l):rz w X x.drew cv l:=⟨Mv.drew h.g,h.blk,h.res,h.row,h.hX⟩
def xD (w:World) (X:Nat) (y:World) (cv:Value):Prop:=Grow w y/\y.heap[X]? = some (.cells #[cv,.slice none 0 0,.slice none 0 0] 54 (0,0))/\y.heap[w.heap.size]? = some (.cells #[.slice none 0 0,.slice none 0 0,.slice none 0 0] 54 (0,0))/\w.heap.size<X
theorem rz.app {w x y:World} {X:Nat} {cv:Value} {l:List Value} (h:rz w X x cv l) (hm:Mv (λb=>cv.ownBlock=some b) x y):xD w X y cv :=
 ⟨h.g.trans hm (λb e => .inr (h.row.lt b e).1),by rw[hm.block _ (lt_of_block h.blk) (λe=>bW h.row h.blk (by decide) e)];exact h.blk,by rw[hm.block _ (lt_of_block h.res) (λe=>bW h.row h.res (by decide) e)];exact h.res,h.hX⟩
theorem xD.grow {w x y:World} {X:Nat} {cv:Value} (h:xD w X x cv) (hm:Grow x y):xD w X y cv:=⟨gtr h.1 hm,ah h.2.1 hm,ah h.2.2.1 hm,h.2.2.2⟩
theorem xD.store {w y:World} {X:Nat} {cv v:Value} {l:List Value} (h:xD w X y cv) (hr:Hw y w.heap.size v l):rz w X (y.setCell ⟨X,0,none⟩ v) v l:=by
 obtain⟨h1,h2,h3,h4⟩:=h
 obtain⟨hb,hm⟩:=XE h2 v
 exact⟨h1.trans hm (λb e => .inr (by omega)),hb,by rw[hm.block _ (lt_of_block h3) (λe=>by omega)];exact h3,bu hr hm (λg hg e=>by subst e;exact bW hr h2 (by decide) hg),h4⟩
def YN (X:Nat) (cv vv:Value) (fx:Int) (w:World) (cs:List Value):Nat->List Value->World->Prop
 |0,[v],_=>v = .pointer (some ⟨X,0,none⟩)
 |1,[v],_=>v=cv
 |2,[v],_=>v=vv
 |3,[v],_=>v = .int .i64 fx
 |4,[v],_=>∃ a n c,v = .slice a n c
 |5,[v],x=>∃ g u,v = .slice (some ⟨g,0,none⟩) 1 1/\u.oneCell'=true/\ay 1 Oh x (.slice (some ⟨g,0,none⟩) 1 1) [u]
 |6,[v],x=>∃ a c u,v = .slice a (cs.length+1) c/\Hw x w.heap.size (.slice a (cs.length+1) c) (cs ++ [u])/\xD w X x cv
 |7,[v],_=>v = .pointer (some ⟨X,0,none⟩)
 |8,_,x=>∃ E9 u,rz w X x E9 (cs ++ [u])
 |_,_,_=>True
section
variable {X:Nat} {cv vv:Value} {fx:Int} {w x y:World} {cs:List Value}
theorem YN.grow (h:Grow x y):∀ j l,YN X cv vv fx w cs j l x->YN X cv vv fx w cs j l y:=by
 intro j l hy
 unfold YN at hy ⊢
 split <;> first
  |(obtain⟨g,u,h1,h2,h3⟩:=hy;exact⟨g,u,h1,h2,h3.later h⟩)
  |(obtain⟨a,c,u,h1,h2,h3⟩:=hy;exact⟨a,c,u,h1,bu h2 h (λ_ _ e=>e),h3.grow h⟩)
  |(obtain⟨a,c,h1⟩:=hy;exact⟨a,c,h1.grow h⟩)
  |exact hy
  |trivial
theorem YN.keep:∀ j l,¬ j=4->¬ j=5->¬ j=6->¬ j=8->YN X cv vv fx w cs j l x->YN X cv vv fx w cs j l y:=by
 intro j l h4 h5 h6 h8 hy
 unfold YN at hy ⊢
 split <;> first
  |exact absurd rfl h4
  |exact absurd rfl h5
  |exact absurd rfl h6
  |exact absurd rfl h8
  |exact hy
  |trivial
end
attribute [local go_sem ↓] gD
theorem XF {w:World} {X:Nat} {a b c d:Value} {t:TypeId} (h:w.heap[X]? = some (.cells #[a,b,c,d] t (0,0))) (p:Value) :
 (w.setCell ⟨X,3,none⟩ p).heap[X]? = some (.cells #[a,b,c,p] t (0,0))/\Mv (λb=>b=X) w (w.setCell ⟨X,3,none⟩ p) :=
 ⟨by have h1:=block_setCell (p:=⟨X,3,none⟩) h rfl p;simpa using h1,(Mv.refl (λb=>b=X) w).setCell (.inl rfl) _⟩
attribute [local go_sem ↓] gD
theorem Tryz.Wm:(Tryz.prog.info? 40).map (λi=>(i.zero,i.size,i.bytes))=some (some (.agg #[.int .u8 0,.int .i64 0,.string ⟨#[]⟩,.slice none 0 0]),4,56):=by kernel_rfl
theorem Tryz.Mo:Elem Tryz.prog 38 40 4 56:=Elem.of Tryz.underlying38 Tryz.Wm rfl (by decide) (by decide)
abbrev Ev (w:World) (base:Nat) (v:Value) (l:List ae):Prop:=w.ownsRow base 40 4 v l.length (flat ae.cells l)
theorem bP {α:Type} {f:α->List Value} {n e base:Nat} {w:World} {v:Value} {l:List α} (h:w.ownsRow base e n v l.length (flat f l)):∀ b,v.ownBlock=some b->base<=b/\∃ cs z,w.heap[b]? = some (.cells cs e z):=by
 intro b hb
 rcases h.2 with⟨rfl,_⟩|⟨g',cap,cur,rfl,hg',hg,_⟩
 · simp[Value.ownBlock]at hb
 · simp[Value.ownBlock]at hb
   subst hb
   exact⟨hg',cur,_,hg⟩
theorem zL (x:ae):x.cells.length=4:=by cases x;rfl
inductive aL (P:Nat->Prop) (w:World):ae->Prop
 |mk {k n:Int} {s:ByteArray} {kv:Value} {kids:List ae} (hk:0<=k/\k<=255) (hn:In64 n) (hs:s.size<=9223372036854775807) (row:ay 4 ae.cells w kv kids) (blk:∀ b,kv.ownBlock=some b->P b/\∃ cs z,w.heap[b]? = some (.cells cs 40 z)) (each:∀ x∈kids,aL P w x):aL P w (.mk k n s kv kids)
theorem aL.at {P:Nat->Prop} {w:World} {x:ae} (h:aL P w x):bD w x:=by
 induction h with
 |mk hk hn hs row _ _ ih=>exact .mk hk hn hs row ih
theorem aL.stay {P O:Nat->Prop} {w w':World} {x:ae} (h:aL P w x) (hm:Mv O w w') (hO:∀ b cs z,P b->w.heap[b]? = some (.cells cs 40 z)->¬ O b):aL P w' x:=by
 induction h with
 |mk hk hn hs row blk _ ih =>
  refine .mk hk hn hs (row.stay hm λg hg => ?_) (λb hb => ?_) ih
  · obtain⟨hp,cs,z,hc⟩:=blk g hg
    exact hO g cs z hp hc
  · obtain⟨hp,cs,z,hc⟩:=blk b hb
    exact⟨hp,cs,z,by rw[hm.block b (lt_of_block hc) (hO b cs z hp hc)];exact hc⟩
theorem aL.weak {P P':Nat->Prop} {w:World} {x:ae} (h:aL P w x) (hP:∀ b,b<w.heap.size->P b->P' b):aL P' w x:=by
 induction h with
 |mk hk hn hs row blk _ ih =>
  refine .mk hk hn hs row (λb hb => ?_) ih
  obtain⟨hp,cs,z,hc⟩:=blk b hb
  exact⟨hP b (lt_of_block hc) hp,cs,z,hc⟩
theorem bD.form' {w:World} {k n:Int} {s:ByteArray} {kv:Value} {l:List ae} (h:bD w (.mk k n s kv l)):∃ a c,kv = .slice a l.length c:=by
 obtain⟨a,c,e,-,-⟩:=h.form
 exact⟨a,c,e⟩
theorem aL.one {P:Nat->Prop} {w:World} {x:ae} (h:aL P w x):∀ u∈x.cells,u.oneCell'=true:=by
 cases h with
 | @mk k n s kv kids hk hn hs row blk each =>
  intro u hu
  obtain⟨a,c,rfl,-,-⟩:=row.form
  simp[ae.cells]at hu
  rcases hu with rfl|rfl|rfl|rfl <;> rfl
def ae.fix:ae->ae
 |.mk k n s (.slice a m c) l => .mk k n s (.slice a m c) l
 |.mk k n s _ l => .mk k n s (.slice none 0 0) l
theorem ae.GV (x:ae):∃ k n s a m c l,x.fix = .mk k n s (.slice a m c) l/\x.t=ae.t (.mk k n s (.slice a m c) l):=by
 obtain⟨k,n,s,kv,l⟩:=x
 cases kv
 case slice a m c=>exact⟨k,n,s,a,m,c,l,rfl,rfl⟩
 all_goals exact⟨k,n,s,none,0,0,l,rfl,by rw[ae.t,ae.t]⟩
theorem aL.fix {P:Nat->Prop} {w:World} {x:ae} (h:aL P w x):x.fix=x:=by
 cases h with
 | @mk k n s kv kids hk hn hs row blk each =>
  obtain⟨a,c,rfl,-,-⟩:=row.form
  rfl
theorem Mq (v:Value) (x:ae) (xs:List ae) (base g:Nat) (w:World) (hrow:Ev w base v xs) (hb:base<=w.heap.size) (hlen:xs.length<=900000) (hone:∀ u∈x.cells,u.oneCell'=true) (hg:w.heap[g]? = some (.cells x.cells.toArray 40 (0,0))) :
 ∃ a' c' w2,(nJ Tryz.prog 38 38 v (.slice (some ⟨g,0,none⟩) 1 1) w /\
  lW Tryz.prog 38 38 v (.slice (some ⟨g,0,none⟩) 1 1) w = .slice a' (xs.length+1) c'/\appW Tryz.prog 38 38 v (.slice (some ⟨g,0,none⟩) 1 1) w=w2) /\
  Ev w2 base (.slice a' (xs.length+1) c') (xs ++ [x])/\Mv (λb=>v.ownBlock=some b) w w2/\(∀ g,(Value.slice a' (xs.length+1) c').ownBlock=some g->v.ownBlock=some g\/w.heap.size<=g) :=
 kz Tryz.Mo zL v _ xs [x] base w hrow (ay.dF (f:=ae.cells) (l:=[x]) zL hg (by simp[flat]) (by simp)) (λy hy=>by rw[List.mem_singleton.1 hy];exact hone) hb (by simp;omega)
def NA (w:World) (x:ae) (e:Ending) (w':World):Prop:=∃ y:ae,e = .returned y.val/\y.t=x.t/\aL (λb=>w.heap.size<=b) w' y/\Grow w w'
theorem Ej {k n:Int} {s:ByteArray} {kv:Value} {l:List ae} (i:Nat) (h:i<l.length):bL l[i].t<bL (ae.t (.mk k n s kv l))/\l.length<bL (ae.t (.mk k n s kv l)):=by
 have h1:∀ (l:List Tree) (i:Nat) (h:i<l.length),bL l[i]<=eX l:=by
  intro l
  induction l with
  |nil=>intro i h;simp at h
  |cons t l ih =>
   intro i h
   rw[eX]
   cases i with
   |zero=>simp
   |succ i=>have:=ih i (by simpa using h);simp;omega
 have h2:∀ l:List Tree,l.length<=eX l:=by
  intro l
  induction l with
  |nil=>simp
  |cons t l ih=>rw[eX,List.length_cons];cases t;rw[bL];omega
 have e1:=h1 (ae.ts l) i (by rw[ae.bX];exact h)
 have e2:=h2 (ae.ts l)
 rw[ae.jw l i h]at e1
 rw[ae.bX]at e2
 rw[ae.t,bL]
 omega
set_option maxRecDepth 100000 in
set_option maxHeartbeats 12800000 in
theorem Vj:∀ (m:Nat) (x:ae),SizeOf.sizeOf x<=m->bL x.t<=900000->∀ w:World,bD w x->Calls Tryz.prog 101 #[x.val] w (NA w x):=by
 intro m
 induction m with
 |zero=>intro x hm;cases x;simp at hm
 |succ m ih =>
  intro x hm hsz w hx
  obtain⟨k,n,s,kv,l⟩:=x
  obtain⟨ka,kc,rfl,hkc,hkl⟩:=hx.form
  have iM:=Lib.hid (λ(i:Nat) (hi:i<l.length) (z:World) (hz:Grow w z)=>ih l[i] (by
   have:=rX (k:=k) (n:=n) (s:=s) (kv := .slice ka l.length kc) (List.getElem_mem hi)
   omega) (by have:=Ej (k:=k) (n:=n) (s:=s) (kv := .slice ka l.length kc) i hi;omega) z ((hx.row.2.2.2.2 _ (List.getElem_mem hi)).later hz))
  have mX:=Lib.hid (λ(i:Nat) (hi:i<l.length)=>show l.length<=900000 from by have:=Ej (k:=k) (n:=n) (s:=s) (kv := .slice ka l.length kc) i hi;omega)
  have tY:=Lib.hid hx
  have rD:=Lib.hid (show((w.alloc (.cells #[.int .u8 k,.int .i64 n,.string s,.slice ka l.length kc] 40)).alloc (.cells #[.int .u8 0,.int .i64 0,.string ⟨#[]⟩,.slice none 0 0] 40)).heap[w.heap.size]? = some (.cells #[.int .u8 k,.int .i64 n,.string s,.slice ka l.length kc] 40 (0,0))from bS (heap_alloc_new w _) _)
  have oG:=Lib.hid (show((w.alloc (.cells #[.int .u8 k,.int .i64 n,.string s,.slice ka l.length kc] 40)).alloc (.cells #[.int .u8 0,.int .i64 0,.string ⟨#[]⟩,.slice none 0 0] 40)).heap[w.heap.size+1]? = some (.cells #[.int .u8 0,.int .i64 0,.string ⟨#[]⟩,.slice none 0 0] 40 (0,0))from by have:=heap_alloc_new (w.alloc (.cells #[.int .u8 k,.int .i64 n,.string s,.slice ka l.length kc] 40)) (.cells #[.int .u8 0,.int .i64 0,.string ⟨#[]⟩,.slice none 0 0] 40);rwa[World.size_alloc]at this)
  have HG2:=Lib.hid (show Grow w ((w.alloc (.cells #[.int .u8 k,.int .i64 n,.string s,.slice ka l.length kc] 40)).alloc (.cells #[.int .u8 0,.int .i64 0,.string ⟨#[]⟩,.slice none 0 0] 40))from((Mv.refl _ w).alloc _).alloc _)
  have HS2:=Lib.hid (show((w.alloc (.cells #[.int .u8 k,.int .i64 n,.string s,.slice ka l.length kc] 40)).alloc (.cells #[.int .u8 0,.int .i64 0,.string ⟨#[]⟩,.slice none 0 0] 40)).heap.size=w.heap.size+2 from by simp)
  clear hx hsz ih
  simp only[ae.val]
  go_enter Tryz.func101,Tryz.ntmps101
  obtain⟨⟨n0,n1⟩,n2,n3⟩:=az rD.out
  have hln:=lt_of_block rD.out
  go_wp2_with fail
  generalize ((w.alloc (.cells #[.int .u8 k,.int .i64 n,.string s,.slice ka l.length kc] 40)).alloc (.cells #[.int .u8 0,.int .i64 0,.string ⟨#[]⟩,.slice none 0 0] 40))=w2 at *
  clear n0 n1 n2 n3 hln
  go_loopw [3,9] (λcv t wr=>∃ (j:Nat) (xs:List ae),t = .int .i64 j/\j<=l.length/\xs.length=j/\Ev wr w2.heap.size cv xs/\(∀ i (h:i<xs.length) (h':i<l.length),xs[i].t=l[i].t)/\(∀ y∈xs,aL (λb=>w2.heap.size<=b/\cv.ownBlock≠some b) wr y)/\Grow w2 wr) (λ_ t _=>l.length - (intOf t).toNat)
  case atStart=>exact⟨0,[],rfl,Nat.zero_le _,rfl,World.ownsRow_nil _ _ _ _,by simp,by simp,Mv.refl _ _⟩
  obtain⟨j,xs,rfl,hj,hxl,hrow,hts,hno,hg⟩:=hrel
  have iy:=Lib.hid hrow
  have Qu:=Lib.hid hts
  have dC:=Lib.hid hno
  have HG:=Lib.hid hg
  obtain⟨ra,rc,fO⟩:=dX hrow
  rw[hxl]at fO
  subst fO
  clear hrow hts hno hg
  by_cases hlt:j<l.length
  · obtain⟨kb,ko,nQ,dz,-,-⟩:=tY.out.row.2.2.2.1.at (show 0<l.length by omega)
    simp only[Value.slice.injEq,true_and]at dz
    obtain⟨rfl,rfl⟩:=dz
    have fB:=(uW tY.out j hlt).later (gtr HG2.out HG.out)
    have HC:=Lib.hid (λz hz=>iM.out j hlt z hz)
    have vT:=Lib.hid (mX.out j hlt)
    have Qv:=Lib.hid (λ(y:ae) (hy:y.t=l[j].t)=>show ∀ i (h:i<(xs ++ [y]).length) (h':i<l.length),(xs ++ [y])[i].t=l[i].t from by
     intro i h h'
     by_cases hi:i<xs.length
     · rw[List.getElem_append_left hi];exact Qu.out i hi h'
     · simp at h
       obtain rfl:i=j:=by omega
       rw[List.getElem_append_right (by omega)];simpa using hy)
    generalize l[j]=y at *
    obtain⟨yk,yn,ys,yv,yl⟩:=y
    obtain⟨ya,yc,rfl,-,-⟩:=fB.at_.form
    obtain⟨⟨d0,d1⟩,d2,d3⟩:=fB.four
    simp only[ae.val]at HC
    have hbl:kb<wr.heap.size:=World.block_lt_of_cell? wr _ d0
    have kg:=Lib.hid (heap_alloc_new wr (.cells #[.int .u8 yk,.int .i64 yn,.string ys,.slice ya yl.length yc] 40))
    clear fB
    go_wp2_with fail
    refine(HC.out _ (gtr HG2.out (HG.out.alloc (.cells #[.int .u8 yk,.int .i64 yn,.string ys,.slice ya yl.length yc] 40)))).mono ?_
    rintro e w4 ⟨y2,rfl,hy2,xE,hg⟩
    have bA:=Lib.hid (gtr ((Mv.refl _ wr).alloc (.cells #[.int .u8 yk,.int .i64 yn,.string ys,.slice ya yl.length yc] 40)) hg)
    have Zi:=Lib.hid (Qv.out y2 hy2)
    have hs4:wr.heap.size+1<=w4.heap.size:=by have:=hg.size;simpa using this
    have HR4:=Lib.hid (bu iy.out bA.out (λ_ _ e=>e))
    have xY:=Lib.hid (λy (hy:y∈xs)=>(dC.out y hy).stay bA.out (λ_ _ _ _ _ e=>e))
    have Qw:=Lib.hid (λb (hb:(Value.slice ra j rc).ownBlock=some b)=>show b<wr.heap.size from(iy.out.lt b hb).2)
    have bV:=Lib.hid (xE.weak (P':=λb=>w2.heap.size<=b/\(Value.slice ra j rc).ownBlock≠some b) (λb _ hb=>⟨by have:=HG.out.size;simp only[World.size_alloc]at hb;omega,λe=>by have:=Qw.out b e;simp only[World.size_alloc]at hb;omega⟩))
    have hone:=xE.one
    obtain⟨zk,zn,zs,zv,zl⟩:=y2
    have _z:=xE.at.form'
    clear hg xE hbl d0 d1 d2 d3 kg HC Qv hy2
    have hg5:Grow w4 (w4.alloc (.cells #[.int .u8 zk,.int .i64 zn,.string zs,zv] 40)):=(Mv.refl _ w4).alloc _
    obtain⟨za,zc,rfl⟩:=_z
    obtain⟨a',c',y,⟨hok,hv,hw⟩,hrow2,lX,hnew⟩:=Mq _ (.mk zk zn zs (.slice za zl.length zc) zl) xs w2.heap.size w4.heap.size _ (bu HR4.out hg5 (λ_ _ e=>e)) (by have:=HG.out.size;have:=bA.out.size;simp only[World.size_alloc];omega) (by have:=vT.out;omega) hone (heap_alloc_new w4 _)
    have jB:=Lib.hid hnew
    have Oi:=Lib.hid hrow2
    have kr:=Lib.hid (((Mv.refl (λb=>(Value.slice ra j rc).ownBlock=some b) w4).alloc _).trans lX (λx e => .inl e))
    have hgrow:=(gtr HG.out bA.out).trans kr.out (λb e => .inr (by have:=(iy.out.lt b e).1;omega))
    have bQ:=Lib.hid hgrow
    simp only[hxl]at hok hv hw Oi jB
    clear hgrow hrow2 lX hnew hone hg5
    simp only[ae.val]
    go_wp2_with fail
    refine⟨⟨j+1,xs ++ [.mk zk zn zs (.slice za zl.length zc) zl],by simp,by omega,by simp[hxl],Oi.out,Zi.out,λx hx => ?_,bQ.out⟩,by simp[intOf] <;> omega⟩
    have hx4:aL (λb=>w2.heap.size<=b/\(Value.slice ra j rc).ownBlock≠some b) w4 x:=by
     rcases List.mem_append.1 hx with h|h
     · exact xY.out x h
     · rw[List.mem_singleton.1 h];exact bV.out
    have hx5:=hx4.weak (P':=λb=>(w2.heap.size<=b/\(Value.slice ra j rc).ownBlock≠some b)/\b<w4.heap.size) (λb hb hp=>⟨hp,hb⟩)
    refine(hx5.stay kr.out (λb cs z hp hc e=>hp.1.2 e)).weak (λb hb hp=>⟨hp.1.1,λe => ?_⟩)
    rcases jB.out b e with h|h
    · exact hp.1.2 h
    · simp only[World.size_alloc]at h;have:=hp.2;omega
  · obtain rfl:j=l.length:=by omega
    have hnb:=ah rD.out HG.out
    have hrb:=ah oG.out HG.out
    obtain⟨hs1,hs2⟩:=XF hnb (.slice ra l.length rc)
    have HY:=Lib.hid (show aL (λb=>w.heap.size+2<=b) wr (.mk k n s (.slice ra l.length rc) xs)from by
     have hr:=dW zL iy.out
     refine .mk tY.out.row.1 tY.out.row.2.1 tY.out.row.2.2.1 hr (λb hb => ?_) (λy hy=>(dC.out y hy).weak (λb _ h=>by have:=h.1;have:=HS2.out;omega))
     obtain⟨h1,h2⟩:=bP iy.out b hb
     exact⟨by have:=HS2.out;omega,h2⟩)
    have HT:=Lib.hid (show ae.t (.mk k n s (.slice ra l.length rc) xs)=ae.t (.mk k n s (.slice ka l.length kc) l)from by
     rw[ae.t,ae.t,ae.jv,ae.jv]
     congr 1
     refine List.ext_getElem (by simp[hxl]) (λi h1 h2 => ?_)
     simp only[List.getElem_map]
     exact Qu.out i (by simpa using h1) (by simpa using h2))
    obtain⟨⟨c0,c1⟩,c2,c3⟩:=az hnb
    have hlb:=lt_of_block hnb
    have zt:=bB hnb
    obtain⟨⟨q0,q1⟩,q2,q3⟩:=az hs1
    have Ck:(wr.setCell ⟨w.heap.size,3,none⟩ (.slice ra l.length rc)).heap[w.heap.size+1]? = some (.cells #[.int .u8 0,.int .i64 0,.string ⟨#[]⟩,.slice none 0 0] 40 (0,0)):=by rw[hs2.block _ (lt_of_block hrb) (by omega)];exact hrb
    obtain⟨⟨r0,r1⟩,r2,r3⟩:=az Ck
    have hlr:=lt_of_block Ck
    have zr:=bB Ck
    obtain⟨ht1,ht2⟩:=dH Ck (.int .u8 k) (.int .i64 n) (.string s) (.slice ra l.length rc)
    have kr:=Lib.hid (show Mv (λb=>b=w.heap.size\/b=w.heap.size+1) wr _ from(hs2.mono (λb e => .inl (.inl e))).trans ht2 (λb e => .inl (.inr e)))
    have HB:=Lib.hid ht1
    clear hs1 hs2 Ck ht1 ht2 hnb hrb
    go_wp2_with fail
    obtain⟨⟨t0,t1⟩,t2,t3⟩:=az HB.out
    refine bodyPost_ret (v:=ae.val (.mk k n s (.slice ra l.length rc) xs)) (by simp[results,Tryz.results101,go_sem,t0,t1,t2,t3,ae.val]) rfl ⟨_,rfl,HT.out,(HY.out.stay kr.out (λb cs z hp hc e=>by omega)).weak (λb _ h=>by omega),?_⟩
    exact(gtr HG2.out HG.out).trans kr.out (λb e => .inr (by omega))
theorem Lv (x:ae) (w:World) (hs:bL x.t<=900000) (h:bD w x):Calls Tryz.prog 101 #[x.val] w (NA w x):=Vj _ x (Nat.le_refl _) hs w h
end Go.Proofs.YtbpodipdfohikaaGreat
