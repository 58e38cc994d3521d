import Derived.Test.YtnobahchcongnaaGreatF38
import Derived.RangeFuncNested
import Derived.RangeFuncFrom
import Derived.RangeFuncBound
import Derived.RangeFuncLeaves
set_option linter.unusedSimpArgs false
set_option linter.unusedVariables false
set_option maxRecDepth 100000
set_option maxHeartbeats 25600000
namespace Go.Proofs.YtnobahchcongnaaGreat
section
open Go.RowKit Go.Instr
attribute [local go_sem ↓] lu
theorem Tryz.Zf:(Tryz.prog.info? 26).map (λi=>(i.zero,i.size,i.bytes))=some (some (.agg #[.int .u8 0,.int .i64 0,.string ⟨#[]⟩,.slice none 0 0]),4,56):=by kernel_rfl
theorem Tryz.Zg:Elem Tryz.prog 24 26 4 56:=Elem.of Tryz.underlying24 Tryz.Zf rfl (by decide) (by decide)
abbrev Kc (w:World) (base:Nat) (v:Value) (l:List ae):Prop:=w.ownsRow base 26 4 v l.length (flat ae.cells l)
theorem oW {α:Type} {f:α->List Value} {n e base:Nat} {w:World} {v:Value} {l:List α} (h:w.ownsRow base e n v l.length (flat f l)):∀ b,v.ownBlock=some b->base<=b/\∃ cs z,w.heap[b]? = some (.cells cs e z):=by
 intro b hb;rcases h.2 with⟨rfl,_⟩|⟨g',cap,cur,rfl,hg',hg,_⟩
 · simp[Value.ownBlock]at hb
 · simp[Value.ownBlock]at hb;subst hb;exact⟨hg',cur,_,hg⟩
theorem EZ (x:ae):x.cells.length=4:=by cases x;rfl
inductive iZ (P:Nat->Prop) (w:World):ae->Prop
 |mk {k n:Int} {s:ByteArray} {kv:Value} {kids:List ae} (hk:0<=k/\k<=255) (hn:In64 n) (hs:s.size<=9223372036854775807) (row:ax 4 ae.cells w kv kids) (blk:∀ b,kv.ownBlock=some b->P b/\∃ cs z,w.heap[b]? = some (.cells cs 26 z)) (each:∀ x∈kids,iZ P w x):iZ P w (.mk k n s kv kids)
theorem iZ.at {P:Nat->Prop} {w:World} {x:ae} (h:iZ P w x):aS w x:=by
 induction h with
 |mk hk hn hs row _ _ ih=>exact .mk hk hn hs row ih
theorem iZ.stay {P O:Nat->Prop} {w w':World} {x:ae} (h:iZ P w x) (hm:Mv O w w') (hO:∀ b cs z,P b->w.heap[b]? = some (.cells cs 26 z)->¬ O b):iZ P w' x:=by
 induction h with
 |mk hk hn hs row blk _ ih =>
  refine .mk hk hn hs (row.stay hm λg hg => ?_) (λb hb => ?_) ih
  · obtain⟨hp,cs,z,hc⟩:=blk g hg;exact hO g cs z hp hc
  · obtain⟨hp,cs,z,hc⟩:=blk b hb;exact⟨hp,cs,z,by rw[hm.block b (lt_of_block hc) (hO b cs z hp hc)];exact hc⟩
theorem iZ.weak {P P':Nat->Prop} {w:World} {x:ae} (h:iZ P w x) (hP:∀ b,b<w.heap.size->P b->P' b):iZ P' w x:=by
 induction h with
 |mk hk hn hs row blk _ ih =>
  refine .mk hk hn hs row (λb hb => ?_) ih;obtain⟨hp,cs,z,hc⟩:=blk b hb;exact⟨hP b (lt_of_block hc) hp,cs,z,hc⟩
theorem aS.form' {w:World} {k n:Int} {s:ByteArray} {kv:Value} {l:List ae} (h:aS w (.mk k n s kv l)):∃ a c,kv = .slice a l.length c:=by
 obtain⟨a,c,e,-,-⟩:=h.form;exact⟨a,c,e⟩
theorem iZ.one {P:Nat->Prop} {w:World} {x:ae} (h:iZ P w x):∀ u∈x.cells,u.oneCell'=true:=by
 cases h with
 | @mk k n s kv kids hk hn hs row blk each =>
  intro u hu;obtain⟨a,c,rfl,-,-⟩:=row.form;simp[ae.cells]at hu;rcases hu with rfl|rfl|rfl|rfl <;> rfl
def ae.fix:ae->ae
 |.mk k n s (.slice a m c) l => .mk k n s (.slice a m c) l
 |.mk k n s _ l => .mk k n s (.slice none 0 0) l
theorem ae.AA (x:ae):∃ k n s a m c l,x.fix = .mk k n s (.slice a m c) l/\x.t=ae.t (.mk k n s (.slice a m c) l):=by
 obtain⟨k,n,s,kv,l⟩:=x;cases kv
 case slice a m c=>exact⟨k,n,s,a,m,c,l,rfl,rfl⟩
 all_goals exact⟨k,n,s,none,0,0,l,rfl,by rw[ae.t,ae.t]⟩
theorem iZ.fix {P:Nat->Prop} {w:World} {x:ae} (h:iZ P w x):x.fix=x:=by
 cases h with
 | @mk k n s kv kids hk hn hs row blk each =>
  obtain⟨a,c,rfl,-,-⟩:=row.form;rfl
theorem Zh (v:Value) (x:ae) (xs:List ae) (base g:Nat) (w:World) (hrow:Kc w base v xs) (hb:base<=w.heap.size) (hlen:xs.length<=900000) (hone:∀ u∈x.cells,u.oneCell'=true) (hg:w.heap[g]? = some (.cells x.cells.toArray 26 (0,0))) :
 ∃ a' c' w2,(rG Tryz.prog 24 24 v (.slice (some ⟨g,0,none⟩) 1 1) w /\
  nV Tryz.prog 24 24 v (.slice (some ⟨g,0,none⟩) 1 1) w = .slice a' (xs.length+1) c'/\appW Tryz.prog 24 24 v (.slice (some ⟨g,0,none⟩) 1 1) w=w2) /\
  Kc w2 base (.slice a' (xs.length+1) c') (xs ++ [x])/\Mv (λb=>v.ownBlock=some b) w w2/\(∀ g,(Value.slice a' (xs.length+1) c').ownBlock=some g->v.ownBlock=some g\/w.heap.size<=g) :=
 oZ Tryz.Zg EZ v _ xs [x] base w hrow (ax.bN (f:=ae.cells) (l:=[x]) EZ hg (by simp[flat]) (by simp)) (λy hy=>by rw[List.mem_singleton.1 hy];exact hone) hb (by simp;omega)
def QM (w:World) (x:ae) (e:Ending) (w':World):Prop:=∃ y:ae,e = .returned y.val/\y.t=x.t/\iZ (λb=>w.heap.size<=b) w' y/\Grow w w'
theorem E5 {k n:Int} {s:ByteArray} {kv:Value} {l:List ae} (i:Nat) (h:i<l.length):bA l[i].t<bA (ae.t (.mk k n s kv l))/\l.length<bA (ae.t (.mk k n s kv l)):=by
 have h1:∀ (l:List Tree) (i:Nat) (h:i<l.length),bA l[i]<=dz l:=by
  intro l
  induction l with
  |nil=>intro i h;simp at h
  |cons t l ih =>
   intro i h;rw[dz];cases i with
   |zero=>simp
   |succ i=>have:=ih i (by simpa using h);simp;omega
 have h2:∀ l:List Tree,l.length<=dz l:=by
  intro l
  induction l with
  |nil=>simp
  |cons t l ih=>rw[dz,List.length_cons];cases t;rw[bA];omega
 have e1:=h1 (ae.ts l) i (by rw[ae.bT];exact h);have e2:=h2 (ae.ts l);rw[ae.gm l i h]at e1;rw[ae.bT]at e2;rw[ae.t,bA];omega
theorem Yh:∀ (m:Nat) (x:ae),SizeOf.sizeOf x<=m->bA x.t<=900000->∀ w:World,aS w x->Calls Tryz.prog 31 #[x.val] w (QM w x):=by
 intro m
 induction m with
 |zero=>intro x hm;cases x;simp at hm
 |succ m ih =>
  intro x hm hsz w hx;obtain⟨k,n,s,kv,l⟩:=x;obtain⟨ka,kc,rfl,hkc,hkl⟩:=hx.form;have fT:=ł (λ(i:Nat) (hi:i<l.length) (z:World) (hz:Grow w z)=>ih l[i] (by
   have:=nA (k:=k) (n:=n) (s:=s) (kv := .slice ka l.length kc) (List.getElem_mem hi)
   omega) (by have:=E5 (k:=k) (n:=n) (s:=s) (kv := .slice ka l.length kc) i hi;omega) z ((hx.row.2.2.2.2 _ (List.getElem_mem hi)).later hz))
  have ng:=ł (λ(i:Nat) (hi:i<l.length)=>show l.length<=900000 from by have:=E5 (k:=k) (n:=n) (s:=s) (kv := .slice ka l.length kc) i hi;omega);have ll:=ł hx;obtain⟨aJ,bB,HG2⟩:=a2 w (.cells #[.int .u8 k,.int .i64 n,.string s,.slice ka l.length kc] 26) (.cells #[.int .u8 0,.int .i64 0,.string ⟨#[]⟩,.slice none 0 0] 26);have HS2:=ł (show((w.alloc (.cells #[.int .u8 k,.int .i64 n,.string s,.slice ka l.length kc] 26)).alloc (.cells #[.int .u8 0,.int .i64 0,.string ⟨#[]⟩,.slice none 0 0] 26)).heap.size=w.heap.size+2 from by simp);clear hx hsz ih;simp only[ae.val]
  go_enter Tryz.func31,Tryz.ntmps31
  obtain⟨⟨n0,n1⟩,n2,n3⟩:=aF aJ.out;have hln:=lt_of_block aJ.out;go_wp2_with fail;generalize ((w.alloc (.cells #[.int .u8 k,.int .i64 n,.string s,.slice ka l.length kc] 26)).alloc (.cells #[.int .u8 0,.int .i64 0,.string ⟨#[]⟩,.slice none 0 0] 26))=w2 at *;clear n0 n1 n2 n3 hln
  go_loopw [3,9] (λcv t wr=>∃ (j:Nat) (xs:List ae),t = .int .i64 j/\j<=l.length/\xs.length=j/\Kc wr w2.heap.size cv xs/\(∀ i (h:i<xs.length) (h':i<l.length),xs[i].t=l[i].t)/\(∀ y∈xs,iZ (λb=>w2.heap.size<=b/\cv.ownBlock≠some b) wr y)/\Grow w2 wr) (λ_ t _=>l.length - (intOf t).toNat)
  case atStart=>exact⟨0,[],rfl,Nat.zero_le _,rfl,World.ownsRow_nil _ _ _ _,by simp,by simp,Mv.refl _ _⟩
  obtain⟨j,xs,rfl,hj,hxl,hrow,hts,hno,hg⟩:=hrel;have gU:=ł hrow;have Bt:=ł hts;have uX:=ł hno;have HG:=ł hg;obtain⟨ra,rc,tV⟩:=gy hrow;rw[hxl]at tV;subst tV;clear hrow hts hno hg;by_cases hlt:j<l.length
  · obtain⟨kb,ko,qE,bF,-,-⟩:=ll.out.row.2.2.2.1.at (show 0<l.length by omega);simp only[Value.slice.injEq,true_and]at bF;obtain⟨rfl,rfl⟩:=bF;have dH:=(dO ll.out j hlt).later (gtr HG2.out HG.out);have HC:=ł (λz hz=>fT.out j hlt z hz);have Bw:=ł (ng.out j hlt);have UL:=ł (λ(y:ae) (hy:y.t=l[j].t)=>show ∀ i (h:i<(xs ++ [y]).length) (h':i<l.length),(xs ++ [y])[i].t=l[i].t from by
     intro i h h';by_cases hi:i<xs.length
     · rw[List.getElem_append_left hi];exact Bt.out i hi h'
     · simp at h;obtain rfl:i=j:=by omega
       rw[List.getElem_append_right (by omega)];simpa using hy)
    generalize l[j]=y at *;obtain⟨yk,yn,ys,yv,yl⟩:=y;obtain⟨ya,yc,rfl,-,-⟩:=dH.at_.form;obtain⟨⟨d0,d1⟩,d2,d3⟩:=dH.four;simp only[ae.val]at HC;have hbl:kb<wr.heap.size:=World.block_lt_of_cell? wr _ d0;have oP:=ł (heap_alloc_new wr (.cells #[.int .u8 yk,.int .i64 yn,.string ys,.slice ya yl.length yc] 26));clear dH;go_wp2_with fail;refine(HC.out _ (gtr HG2.out (HG.out.alloc (.cells #[.int .u8 yk,.int .i64 yn,.string ys,.slice ya yl.length yc] 26)))).mono ?_;rintro e w4 ⟨y2,rfl,hy2,Gd,hg⟩;have aN:=ł (gtr ((Mv.refl _ wr).alloc (.cells #[.int .u8 yk,.int .i64 yn,.string ys,.slice ya yl.length yc] 26)) hg);have aam:=ł (UL.out y2 hy2);have hs4:wr.heap.size+1<=w4.heap.size:=by have:=hg.size;simpa using this
    have HR4:=ł (bM gU.out aN.out (λ_ _ e=>e));have pO:=ł (λy (hy:y∈xs)=>(uX.out y hy).stay aN.out (λ_ _ _ _ _ e=>e));have MJ:=ł (λb (hb:(Value.slice ra j rc).ownBlock=some b)=>show b<wr.heap.size from(gU.out.lt b hb).2);have iD:=ł (Gd.weak (P':=λb=>w2.heap.size<=b/\(Value.slice ra j rc).ownBlock≠some b) (λb _ hb=>⟨by have:=HG.out.size;simp only[World.size_alloc]at hb;omega,λe=>by have:=MJ.out b e;simp only[World.size_alloc]at hb;omega⟩));have hone:=Gd.one;obtain⟨zk,zn,zs,zv,zl⟩:=y2;have hyf:=Gd.at.form';clear hg Gd hbl d0 d1 d2 d3 oP HC UL hy2;have hg5:Grow w4 (w4.alloc (.cells #[.int .u8 zk,.int .i64 zn,.string zs,zv] 26)):=(Mv.refl _ w4).alloc _;obtain⟨za,zc,rfl⟩:=hyf;obtain⟨a',c',y,⟨hok,hv,hw⟩,hrow2,bK,hnew⟩:=Zh _ (.mk zk zn zs (.slice za zl.length zc) zl) xs w2.heap.size w4.heap.size _ (bM HR4.out hg5 (λ_ _ e=>e)) (by have:=HG.out.size;have:=aN.out.size;simp only[World.size_alloc];omega) (by have:=Bw.out;omega) hone (heap_alloc_new w4 _);have Df:=ł hnew;have yh:=ł hrow2;have lN:=ł (((Mv.refl (λb=>(Value.slice ra j rc).ownBlock=some b) w4).alloc _).trans bK (λx e => .inl e));have hgrow:=(gtr HG.out aN.out).trans lN.out (λb e => .inr (by have:=(gU.out.lt b e).1;omega));have dh:=ł hgrow;simp only[hxl]at hok hv hw yh Df;clear hgrow hrow2 bK hnew hone hg5;simp only[ae.val];go_wp2_with fail;refine⟨⟨j+1,xs ++ [.mk zk zn zs (.slice za zl.length zc) zl],by simp,by omega,by simp[hxl],yh.out,aam.out,λx hx => ?_,dh.out⟩,by simp[intOf] <;> omega⟩;have hx4:iZ (λb=>w2.heap.size<=b/\(Value.slice ra j rc).ownBlock≠some b) w4 x:=by
     rcases List.mem_append.1 hx with h|h
     · exact pO.out x h
     · rw[List.mem_singleton.1 h];exact iD.out
    have hx5:=hx4.weak (P':=λb=>(w2.heap.size<=b/\(Value.slice ra j rc).ownBlock≠some b)/\b<w4.heap.size) (λb hb hp=>⟨hp,hb⟩);refine(hx5.stay lN.out (λb cs z hp hc e=>hp.1.2 e)).weak (λb hb hp=>⟨hp.1.1,λe => ?_⟩);rcases Df.out b e with h|h
    · exact hp.1.2 h
    · simp only[World.size_alloc]at h;have:=hp.2;omega
  · obtain rfl:j=l.length:=by omega
    have hnb:=ai aJ.out HG.out;have hrb:=ai bB.out HG.out;obtain⟨hs1,hs2⟩:=Qw hnb (.slice ra l.length rc);have HY:=ł (show iZ (λb=>w.heap.size+2<=b) wr (.mk k n s (.slice ra l.length rc) xs)from by
     have hr:=iF EZ gU.out;refine .mk ll.out.row.1 ll.out.row.2.1 ll.out.row.2.2.1 hr (λb hb => ?_) (λy hy=>(uX.out y hy).weak (λb _ h=>by have:=h.1;have:=HS2.out;omega));obtain⟨h1,h2⟩:=oW gU.out b hb;exact⟨by have:=HS2.out;omega,h2⟩)
    have HT:=ł (show ae.t (.mk k n s (.slice ra l.length rc) xs)=ae.t (.mk k n s (.slice ka l.length kc) l)from by
     rw[ae.t,ae.t,ae.ku,ae.ku];congr 1;refine List.ext_getElem (by simp[hxl]) (λi h1 h2 => ?_);simp only[List.getElem_map];exact Bt.out i (by simpa using h1) (by simpa using h2))
    obtain⟨⟨c0,c1⟩,c2,c3⟩:=aF hnb;have hlb:=lt_of_block hnb;have zt:=aD hnb;obtain⟨⟨q0,q1⟩,q2,q3⟩:=aF hs1;have Dg:(wr.setCell ⟨w.heap.size,3,none⟩ (.slice ra l.length rc)).heap[w.heap.size+1]? = some (.cells #[.int .u8 0,.int .i64 0,.string ⟨#[]⟩,.slice none 0 0] 26 (0,0)):=by rw[hs2.block _ (lt_of_block hrb) (by omega)];exact hrb
    obtain⟨⟨r0,r1⟩,r2,r3⟩:=aF Dg;have hlr:=lt_of_block Dg;have zr:=aD Dg;obtain⟨ht1,ht2⟩:=nW Dg (.int .u8 k) (.int .i64 n) (.string s) (.slice ra l.length rc);have lN:=ł (show Mv (λb=>b=w.heap.size\/b=w.heap.size+1) wr _ from(hs2.mono (λb e => .inl (.inl e))).trans ht2 (λb e => .inl (.inr e)));have HB:=ł ht1;clear hs1 hs2 Dg ht1 ht2 hnb hrb;go_wp2_with fail;obtain⟨⟨t0,t1⟩,t2,t3⟩:=aF HB.out;refine bodyPost_ret (v:=ae.val (.mk k n s (.slice ra l.length rc) xs)) (by simp[results,Tryz.results31,go_sem,t0,t1,t2,t3,ae.val]) rfl ⟨_,rfl,HT.out,(HY.out.stay lN.out (λb cs z hp hc e=>by omega)).weak (λb _ h=>by omega),?_⟩;exact(gtr HG2.out HG.out).trans lN.out (λb e => .inr (by omega))
theorem Pb (x:ae) (w:World) (hs:bA x.t<=900000) (h:aS w x):Calls Tryz.prog 31 #[x.val] w (QM w x):=Yh _ x (Nat.le_refl _) hs w h
end
section
open Go.RowKit
def Ho (Ts:Nat->TypeId->Bool) (B:Nat) (W:World) (b:Nat):Prop:=b<B\/∃ cs t z,W.heap[b]? = some (.cells cs t z)/\Ts b t=true
def rA (W:World) (b:Nat):Prop:=∃ o,W.heap[b]? = some o/\o.isCells=false
def nO (Ts:Nat->TypeId->Bool) (W:World) (b:Nat):Prop:=∃ cs t z,W.heap[b]? = some (.cells cs t z)/\Ts b t=false
abbrev uO (Ts:Nat->TypeId->Bool) (B:Nat) (W W':World):Prop:=Mv (λb=>¬ Ho Ts B W b) W W'
abbrev xV (Ts:Nat->TypeId->Bool) (B:Nat) (W W':World):Prop:=Mv (λb=>¬ (Ho Ts B W b\/rA W b)) W W'
abbrev kE (Ts:Nat->TypeId->Bool) (W W':World):Prop:=Mv (λb=>¬ nO Ts W b) W W'
abbrev jT (Ts:Nat->TypeId->Bool) (B:Nat) (W W':World):Prop:=Mv (λb=>¬ (nO Ts W b\/(B<=b/\rA W b))) W W'
theorem V6 {p:World->Nat->Prop} (hp:∀ A B b,B.heap[b]? = A.heap[b]? -> p A b->p B b) {A B C:World} (h:Mv (λb=>¬ p A b) A B) (k:Mv (λb=>¬ p B b) B C):Mv (λb=>¬ p A b) A C :=
 h.trans k (λb hb=>by
  rcases Nat.lt_or_ge b A.heap.size with hl|hl
  · exact .inl λha=>hb (hp A B b (h.block b hl (λe=>e ha)) ha)
  · exact .inr hl)
theorem Zi {Ts:Nat->TypeId->Bool} (X Y:World) (b:Nat) (h:Y.heap[b]? = X.heap[b]?):nO Ts X b->nO Ts Y b
 |⟨cs,t,z,hc,ht⟩=>⟨cs,t,z,by rw[h];exact hc,ht⟩
theorem uq {Ts:Nat->TypeId->Bool} {X Y Z:World} (h:kE Ts X Y) (k:kE Ts Y Z):kE Ts X Z:=V6 (p:=nO Ts) Zi h k
theorem Mv.putObj {O:Nat->Prop} (W:World) (l:Nat) (o:Obj) (hO:O l):Mv O W (W.putObj l o):=(Mv.refl O W).grown (grownBy_putObj' W l o) (λk e=>by cases e;exact .inl hO)
theorem yK {Ts:Nat->TypeId->Bool} {B:Nat} {W:World} {l:Nat} {o:Obj} (hB:B<=l) (hl:W.heap[l]? = some o) (ho:o.isCells=false) (o':Obj):uO Ts B W (W.putObj l o') :=
 Mv.putObj W l o' (by
  rintro(h|⟨cs,t,z,hc,-⟩)
  · omega
  · rw[hl]at hc;cases hc;cases ho)
theorem NR {Ts:Nat->TypeId->Bool} {W:World} {l:Nat} {o:Obj} (hl:W.heap[l]? = some o) (ho:o.isCells=false) (o':Obj):kE Ts W (W.putObj l o') :=
 Mv.putObj W l o' (by
  rintro⟨cs,t,z,hc,-⟩;rw[hl]at hc;cases hc;cases ho)
theorem jT.bd {Ts:Nat->TypeId->Bool} {B:Nat} {W W':World} (h:jT Ts B W W'):kE Ts W W':=h.mono (λ_ hb => .inl λe=>hb (.inl e))
theorem jT.same {Ts:Nat->TypeId->Bool} {B:Nat} {W W':World} (h:jT Ts B W W') {l:Nat} {o:Obj} (hl:W.heap[l]? = some o) (ho:o.isCells=false) (hB:B<=l):W'.heap[l]? = some o :=
 (h.block l (Array.getElem?_eq_some_iff.1 hl).1 (λe=>e (.inr ⟨hB,o,hl,ho⟩))).trans hl
theorem xV.same {Ts:Nat->TypeId->Bool} {B:Nat} {W W':World} (h:xV Ts B W W') {l:Nat} {o:Obj} (hl:W.heap[l]? = some o) (ho:o.isCells=false):W'.heap[l]? = some o :=
 (h.block l (Array.getElem?_eq_some_iff.1 hl).1 (λe=>e (.inr ⟨o,hl,ho⟩))).trans hl
def PS {α:Type} (P:Program) (Ts:Nat->TypeId->Bool) (g:Nat) (lb:Array Value) (encs:α->Array Value) (S Sp:List α->Prop) (w:World):Prop :=
 ∀ (l:Nat) (J Jx:List α->World->Prop) (W:World),Mv (λb=>False) w W->(∀ s X Y,J s X->xV Ts W.heap.size X Y->J s Y)->(∀ s X Y,Jx s X->xV Ts W.heap.size X Y->Jx s Y) ->
  (∀ pre x W1,J pre W1->Sp (pre ++ [x])->YieldAt Fence.wide 10 P l (encs x) W1 λe W' =>
   (e = .returned (.bool true)/\J (pre ++ [x]) W'/\kE Ts W1 W')\/(e = .returned (.bool false)/\Jx (pre ++ [x]) W')) ->
  J [] W->Calls P g (#[.func (.yield l) #[] #[]] ++ lb) W λe W'=>(∃ v,e = .returned v)/\((∃ xs,S xs/\J xs W')\/(∃ pre,Sp pre/\Jx pre W'))
def bodyPostC {α:Type} (Ts:Nat->TypeId->Bool) (B:Nat) (I:List α->World->Prop) (Ix:Code->List α->World->Prop) (xs:List α) (W:World):Exit->Act->World->Prop
 |.normal,_,W'=>jT Ts B W W'/\I xs W'
 |.ret,_,W'=>jT Ts B W W'/\Ix .ret xs W'
 |.exit id,_,W'=>jT Ts B W W'/\Ix (.exit id) xs W'
 |.goto t,_,W'=>jT Ts B W W'/\Ix (.goto t) xs W'
 |.panic _,_,_=>False
 |.outgrown,_,_=>False
theorem Ik {α:Type} {P:Program} (Ts:Nat->TypeId->Bool) {g:Operand} {ps:Array Tmp} {assign body:Code} {Q:Exit->Act->World->Prop} {a:Act} {w:World} {gf:Nat} {lb:Array Value} (hg:a.eval g = .func (.func gf) #[] lb) (eg:∀ args w,(callFunc gf args).run P w = .ok (.enter gf args) w)
 {encs:α->Array Value} {S Sp:List α->Prop} {w0:World} (hseq:PS P Ts gf lb encs S Sp w0) (hb0:Mv (λ_=>False) w0 w) (hps:∀ x,(encs x).size=ps.size)
 (I:List α->World->Prop) (Ix:Code->List α->World->Prop) (hI:∀ s X Y,I s X->uO Ts w.heap.size X Y->I s Y) (hIx:∀ c s X Y,Ix c s X->uO Ts w.heap.size X Y->Ix c s Y) (h0:I [] w)
 (Ax:Act->α->Act->World->Prop) (hAx:∀ x a' X l o o',Ax a x a' X->X.heap[l]? = some o->o.isCells=false->Ax a x a' (X.putObj l o'))
 (hassign:∀ (l:Nat) (pre:List α) (x:α) (W:World) (K:Act->World->Prop),I pre W->(∀ a' W',Mv (λ_=>False) W W'->I pre W'->Ax a x a' W'->K a' W') ->
  assign.wpIn (Fence.wide.inRound l) 10 P (Exit.then K (λ_ _ _=>False)) { tmps:=(ps.zip (encs x)).foldl (λt (p,v)=>t.setIfInBounds p v) a.tmps,defers:=[] } W)
 (hbody:∀ (l:Nat) (pre:List α) (x:α) (a':Act) (W:World),I pre W->Ax a x a' W->Sp (pre ++ [x])->body.wpIn (Fence.wide.inRound l) 10 P (bodyPostC Ts w.heap.size I Ix (pre ++ [x]) W) a' W)
 (hdone:∀ (D:Nat) (xs:List α) (W:World),w.heap.size<=D->S xs->I xs W->W.heap[D]? = some (.deferred (some []))->Q .normal { a with defers := { target := .collected D,args:=#[] } :: a.defers } W)
 (hstop:∀ (D:Nat) (c:Code) (pre:List α) (W:World),w.heap.size<=D->Sp pre->Ix c pre W->W.heap[D]? = some (.deferred (some []))->c.wp P Q { a with defers := { target := .collected D,args:=#[] } :: a.defers } W) :
 (Code.rangeFunc g ps assign body).wp P Q a w:=by
 refine(wpIn_wide (n:=0)).1 (wpIn_rangeFunc ?_);intro fn hfn;rw[Fence.wide_round];obtain⟨rec,hrec⟩:∃ rec:LoopState->Option Code->Loop,rec=λst pe => { state:=st,pending:=pe,fn,tmps:=a.tmps,params:=ps,assign,body,defers:=w.heap.size } := ⟨_,rfl⟩;obtain⟨W1,hW1⟩:∃ W1,(w.alloc (.deferred (some []))).alloc (.loop (rec .ready none))=W1:=⟨_,rfl⟩;have hL1:W1.heap[w.heap.size+1]? = some (.loop (rec .ready none)):=by
  rw[← hW1];have:=World.alloc_heap_new (w.alloc (.deferred (some []))) (.loop (rec .ready none));rwa[World.size_alloc]at this
 have hK1:W1.heap[w.heap.size]? = some (.deferred (some [])):=by
  rw[← hW1];exact(Below.heap_alloc _ _ _ (by simp)).trans (World.alloc_heap_new w _)
 have hS1:W1.heap.size=w.heap.size+2:=by rw[← hW1];simp
 have hI1:I [] W1:=by rw[← hW1];exact hI _ _ _ h0 (((Mv.refl _ w).alloc _).alloc _)
 have hb1:Mv (λ_=>False) w0 W1:=by rw[← hW1];exact(hb0.alloc _).alloc _
 refine⟨w.heap.size+1,[{ target := .collected w.heap.size,args:=#[] }],W1,{ target := .fn (.func gf) lb,args:=#[.func (.yield (w.heap.size+1)) #[] #[]] },W1,gf,
  #[.func (.yield (w.heap.size+1)) #[] #[]] ++ lb,W1,?_,?_,λ_ _=>trivial,?_,λe=>by simp[Fence.wide]at e,?_⟩
 · rw[← hW1,hrec];exact run_enterLoop_outer _ _ _ _ _
 · simp only[resolve,hg];simp[go_sem]
 · simp[invoke,go_sem,eg]
 · have hnw:∀ {X Y:World},xV Ts W1.heap.size X Y->uO Ts w.heap.size X Y:=λh=>h.mono (λb hb => .inl λe=>hb (.inl (e.elim (λh => .inl (by omega)) .inr)));refine callsIn_wide.2 ((hseq (w.heap.size+1)
    (λpre W=>I pre W/\W.heap[w.heap.size+1]? = some (.loop (rec .ready none))/\W.heap[w.heap.size]? = some (.deferred (some [])))
    (λpre W=>∃ c,Ix c pre W/\W.heap[w.heap.size+1]? = some (.loop (rec .done (some c)))/\W.heap[w.heap.size]? = some (.deferred (some [])))
    W1 hb1 (λs X Y hs hm=>⟨hI s X Y hs.1 (hnw hm),hm.same hs.2.1 rfl,hm.same hs.2.2 rfl⟩)
    (λs X Y hs hm=>by obtain⟨c,hc,hl,hk⟩:=hs;exact⟨c,hIx c s X Y hc (hnw hm),hm.same hl rfl,hm.same hk rfl⟩)
    ?_ ⟨hI1,hL1,hK1⟩).mono ?_)
   · rintro pre x W ⟨hi,hl,hk⟩ hsp;have hy:=run_yield (P:=P) (args:=encs x) hl (by rw[hrec];exact hps x);rw[hrec]at hy;refine⟨fn,_,assign,body,hy,roundIn_of_wpIn hfn (hassign _ pre x W _ hi ?_)⟩;clear hy;intro a' Wa hga hia hax;have hla:=(hga.block _ (Array.getElem?_eq_some_iff.1 hl).1 (λe=>e)).trans hl;have hka:=(hga.block _ (Array.getElem?_eq_some_iff.1 hk).1 (λe=>e)).trans hk;have hlt:w.heap.size+1<Wa.heap.size:=(Array.getElem?_eq_some_iff.1 hla).1;refine⟨_,run_beginRound hla (by rw[hrec]),?_⟩;have hl2:(Wa.putObj (w.heap.size+1) (.loop { rec .ready none with state := .busy })).heap[w.heap.size+1]? = some (.loop { rec .ready none with state := .busy }):=World.putObj_heap_same hlt;have hk2:(Wa.putObj (w.heap.size+1) (.loop { rec .ready none with state := .busy })).heap[w.heap.size]? = some (.deferred (some [])):=(World.putObj_heap_other (by omega)).trans hka;have hw2:kE Ts W (Wa.putObj (w.heap.size+1) (.loop { rec .ready none with state := .busy })):=uq (hga.mono (λ_ e=>e.elim)) (NR hla rfl _);refine wpIn_mono (hbody _ pre x a' _ (hI _ _ _ hia (yK (by omega) hla rfl _)) (hAx _ _ _ _ _ _ hax hla rfl) hsp) ?_;have fin:∀ (jump:Option Code) (W3:World),jT Ts w.heap.size (Wa.putObj (w.heap.size+1) (.loop { rec .ready none with state := .busy })) W3 ->
      (Instr.endRound (w.heap.size+1) jump).run P W3 = .ok (.bool jump.isNone) (W3.putObj (w.heap.size+1) (.loop (rec (if jump.isNone then .ready else .done) jump))) /\
      W3.heap[w.heap.size+1]? = some (.loop { rec .ready none with state := .busy }) /\
      (W3.putObj (w.heap.size+1) (.loop (rec (if jump.isNone then .ready else .done) jump))).heap[w.heap.size+1]? = some (.loop (rec (if jump.isNone then .ready else .done) jump)) /\
      (W3.putObj (w.heap.size+1) (.loop (rec (if jump.isNone then .ready else .done) jump))).heap[w.heap.size]? = some (.deferred (some [])):=λjump W3 hk3=>by
      have hl3:=hk3.same hl2 rfl (by omega);have:=run_endRound (P:=P) jump hl3;rw[hrec]at this ⊢;exact⟨this,by rw[hrec]at hl3;exact hl3,World.putObj_heap_same (Array.getElem?_eq_some_iff.1 hl3).1,(World.putObj_heap_other (by omega)).trans (hk3.same hk2 rfl (Nat.le_refl _))⟩
     rintro e a3 W3 hp;cases e with
     |normal =>
      obtain⟨hk3,hi3⟩:=hp;obtain⟨hr,hl3,hl4,hk4⟩:=fin none W3 hk3;exact⟨_,_,hr,.inl ⟨rfl,⟨hI _ _ _ hi3 (yK (by omega) hl3 rfl _),hl4,hk4⟩,uq (uq hw2 hk3.bd) (NR hl3 rfl _)⟩⟩
     |ret =>
      obtain⟨hk3,hi3⟩:=hp;obtain⟨hr,hl3,hl4,hk4⟩:=fin (some .ret) W3 hk3;exact⟨_,_,hr,.inr ⟨rfl,.ret,hIx _ _ _ _ hi3 (yK (by omega) hl3 rfl _),hl4,hk4⟩⟩
     |exit id =>
      obtain⟨hk3,hi3⟩:=hp;obtain⟨hr,hl3,hl4,hk4⟩:=fin (some (.exit id)) W3 hk3;exact⟨_,_,hr,.inr ⟨rfl,.exit id,hIx _ _ _ _ hi3 (yK (by omega) hl3 rfl _),hl4,hk4⟩⟩
     |goto t =>
      obtain⟨hk3,hi3⟩:=hp;obtain⟨hr,hl3,hl4,hk4⟩:=fin (some (.goto t)) W3 hk3;exact⟨_,_,hr,.inr ⟨rfl,.goto t,hIx _ _ _ _ hi3 (yK (by omega) hl3 rfl _),hl4,hk4⟩⟩
     |panic ch=>exact hp.elim
     |outgrown=>exact hp.elim
   · rintro e W2 ⟨⟨v,rfl⟩,(⟨xs,hS,hi,hl,hk⟩|⟨pre,hSp,c,hi,hl,hk⟩)⟩
     · exact⟨none,_,by have:=run_endLoop (P:=P) hl (by rw[hrec];simp);rw[hrec]at this;exact this,hdone _ xs _ (Nat.le_refl _) hS (hI _ _ _ hi (yK (by omega) hl rfl _)) ((World.putObj_heap_other (by omega)).trans hk)⟩
     · exact⟨some c,_,by have:=run_endLoop (P:=P) hl (by rw[hrec];simp);rw[hrec]at this;exact this,wpIn_wide.2 (hstop _ c pre _ (Nat.le_refl _) hSp (hIx c _ _ _ hi (yK (by omega) hl rfl _)) ((World.putObj_heap_other (by omega)).trans hk))⟩
theorem NS {P:Program} {f:FuncId} {fn:Func} {c:Code} {args:Array Value} {w:World} {R:Ending->World->Prop} (hf:P.funcs[f]? = some fn) (hb:fn.body=some c)
 (h:c.wp P (bodyPostM Fence.wide 10 P fn R) { tmps:=args ++ Array.replicate (fn.ntmps - args.size) undef,defers:=[] } w):Calls P f args w R :=
 callsIn_wide.1 (callsIn_of_wp_marks (n:=10) hf hb trivial (wpIn_wide.2 h))
theorem uy {P:Program} {fn:Func} {a:Act} {w:World} {v:Value} {R:Ending->World->Prop} (h:(results fn a.tmps).run P w = .ok v w) (hd:a.defers=[]) (hR:R (.returned v) w):bodyPostM Fence.wide 10 P fn R .ret a w:=by
 unfold bodyPostM;simp only[hd];exact⟨v,h,hR⟩
theorem Ez {P:Program} {fn:Func} {a:Act} {w:World} {v:Value} {D:Nat} {R:Ending->World->Prop} (hK:w.heap[D]? = some (.deferred (some []))) (h:(results fn a.tmps).run P (w.putObj D (.deferred none)) = .ok v (w.putObj D (.deferred none))) (hd:a.defers=[{ target := .collected D,args:=#[] }]) (hR:R (.returned v) (w.putObj D (.deferred none))):bodyPostM Fence.wide 10 P fn R .ret a w:=by
 unfold bodyPostM;simp only[hd];exact⟨by simp,.inl ⟨D,_,rfl,run_takeDeferred hK,v,h,hR⟩⟩
end
end Go.Proofs.YtnobahchcongnaaGreat
