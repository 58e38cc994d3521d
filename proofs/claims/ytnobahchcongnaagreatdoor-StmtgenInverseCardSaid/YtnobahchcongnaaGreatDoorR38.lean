import Derived.Test.YtnobahchcongnaaGreatDoorR37
import Derived.RangeFuncNested
import Derived.RangeFuncFrom
import Derived.RangeFuncBound
import Derived.RangeFuncLeaves
set_option linter.unusedSimpArgs false
set_option linter.unusedVariables false
set_option maxRecDepth 100000
set_option maxHeartbeats 25600000
namespace Go.Proofs.YtnobahchcongnaaGreatDoor
section
open Go.RowKit Go.Instr
attribute [local go_sem ↓] ni
theorem Tryz.Rk:(Tryz.prog.info? 24).map (λi=>(i.zero,i.size,i.bytes))=some (some (.agg #[.int .u8 0,.int .i64 0,.string ⟨#[]⟩,.slice none 0 0]),4,56):=by kernel_rfl
theorem Tryz._O:Elem Tryz.prog 22 24 4 56:=Elem.of Tryz.underlying22 Tryz.Rk rfl (by decide) (by decide)
abbrev gQ (w:World) (base:Nat) (v:Value) (l:List ae):Prop:=w.ownsRow base 24 4 v l.length (flat ae.cells l)
theorem tJ {α:Type} {f:α->List Value} {n e base:Nat} {w:World} {v:Value} {l:List α} (h:w.ownsRow base e n v l.length (flat f l)):∀ b,v.ownBlock=some b->base<=b/\∃ cs z,w.heap[b]? = some (.cells cs e z):=by
 intro b hb;rcases h.2 with⟨rfl,_⟩|⟨g',cap,cur,rfl,hg',hg,_⟩
 · simp[Value.ownBlock]at hb
 · simp[Value.ownBlock]at hb;subst hb;exact⟨hg',cur,_,hg⟩
theorem tK (x:ae):x.cells.length=4:=by cases x;rfl
inductive dG (P:Nat->Prop) (w:World):ae->Prop
 |mk {k n:Int} {s:ByteArray} {kv:Value} {kids:List ae} (hk:0<=k/\k<=255) (hn:In64 n) (hs:s.size<=9223372036854775807) (row:az 4 ae.cells w kv kids) (blk:∀ b,kv.ownBlock=some b->P b/\∃ cs z,w.heap[b]? = some (.cells cs 24 z)) (each:∀ x∈kids,dG P w x):dG P w (.mk k n s kv kids)
theorem dG.at {P:Nat->Prop} {w:World} {x:ae} (h:dG P w x):aR w x:=by
 induction h with
 |mk hk hn hs row _ _ ih=>exact .mk hk hn hs row ih
theorem dG.stay {P O:Nat->Prop} {w w':World} {x:ae} (h:dG P w x) (hm:Mv O w w') (hO:∀ b cs z,P b->w.heap[b]? = some (.cells cs 24 z)->¬ O b):dG P w' x:=by
 induction h with
 |mk hk hn hs row blk _ ih =>
  refine .mk hk hn hs (row.stay hm λg hg => ?_) (λb hb => ?_) ih
  · obtain⟨hp,cs,z,hc⟩:=blk g hg;exact hO g cs z hp hc
  · obtain⟨hp,cs,z,hc⟩:=blk b hb;exact⟨hp,cs,z,by rw[hm.block b (lt_of_block hc) (hO b cs z hp hc)];exact hc⟩
theorem dG.weak {P P':Nat->Prop} {w:World} {x:ae} (h:dG P w x) (hP:∀ b,b<w.heap.size->P b->P' b):dG P' w x:=by
 induction h with
 |mk hk hn hs row blk _ ih =>
  refine .mk hk hn hs row (λb hb => ?_) ih;obtain⟨hp,cs,z,hc⟩:=blk b hb;exact⟨hP b (lt_of_block hc) hp,cs,z,hc⟩
theorem aR.form' {w:World} {k n:Int} {s:ByteArray} {kv:Value} {l:List ae} (h:aR w (.mk k n s kv l)):∃ a c,kv = .slice a l.length c:=by
 obtain⟨a,c,e,-,-⟩:=h.form;exact⟨a,c,e⟩
theorem dG.one {P:Nat->Prop} {w:World} {x:ae} (h:dG P w x):∀ u∈x.cells,u.oneCell'=true:=by
 cases h with
 | @mk k n s kv kids hk hn hs row blk each =>
  intro u hu;obtain⟨a,c,rfl,-,-⟩:=row.form;simp[ae.cells]at hu;rcases hu with rfl|rfl|rfl|rfl <;> rfl
def ae.fix:ae->ae
 |.mk k n s (.slice a m c) l => .mk k n s (.slice a m c) l
 |.mk k n s _ l => .mk k n s (.slice none 0 0) l
theorem ae.Rl (x:ae):∃ k n s a m c l,x.fix = .mk k n s (.slice a m c) l/\x.t=ae.t (.mk k n s (.slice a m c) l):=by
 obtain⟨k,n,s,kv,l⟩:=x;cases kv
 case slice a m c=>exact⟨k,n,s,a,m,c,l,rfl,rfl⟩
 all_goals exact⟨k,n,s,none,0,0,l,rfl,by rw[ae.t,ae.t]⟩
theorem dG.fix {P:Nat->Prop} {w:World} {x:ae} (h:dG P w x):x.fix=x:=by
 cases h with
 | @mk k n s kv kids hk hn hs row blk each =>
  obtain⟨a,c,rfl,-,-⟩:=row.form;rfl
theorem _Q (v:Value) (x:ae) (xs:List ae) (base g:Nat) (w:World) (hrow:gQ w base v xs) (hb:base<=w.heap.size) (hlen:xs.length<=900000) (hone:∀ u∈x.cells,u.oneCell'=true) (hg:w.heap[g]? = some (.cells x.cells.toArray 24 (0,0))) :
 ∃ a' c' w2,(qG Tryz.prog 22 22 v (.slice (some ⟨g,0,none⟩) 1 1) w /\
  nA Tryz.prog 22 22 v (.slice (some ⟨g,0,none⟩) 1 1) w = .slice a' (xs.length+1) c'/\appW Tryz.prog 22 22 v (.slice (some ⟨g,0,none⟩) 1 1) w=w2) /\
  gQ w2 base (.slice a' (xs.length+1) c') (xs ++ [x])/\Mv (λb=>v.ownBlock=some b) w w2/\(∀ g,(Value.slice a' (xs.length+1) c').ownBlock=some g->v.ownBlock=some g\/w.heap.size<=g) :=
 qA Tryz._O tK v _ xs [x] base w hrow (az.bO (f:=ae.cells) (l:=[x]) tK hg (by simp[flat]) (by simp)) (λy hy=>by rw[List.mem_singleton.1 hy];exact hone) hb (by simp;omega)
def Sc (w:World) (x:ae) (e:Ending) (w':World):Prop:=∃ y:ae,e = .returned y.val/\y.t=x.t/\dG (λb=>w.heap.size<=b) w' y/\Grow w w'
theorem Dw {k n:Int} {s:ByteArray} {kv:Value} {l:List ae} (i:Nat) (h:i<l.length):aI l[i].t<aI (ae.t (.mk k n s kv l))/\l.length<aI (ae.t (.mk k n s kv l)):=by
 have h1:∀ (l:List Tree) (i:Nat) (h:i<l.length),aI l[i]<=cu l:=by
  intro l
  induction l with
  |nil=>intro i h;simp at h
  |cons t l ih =>
   intro i h;rw[cu];cases i with
   |zero=>simp
   |succ i=>have:=ih i (by simpa using h);simp;omega
 have h2:∀ l:List Tree,l.length<=cu l:=by
  intro l
  induction l with
  |nil=>simp
  |cons t l ih=>rw[cu,List.length_cons];cases t;rw[aI];omega
 have e1:=h1 (ae.ts l) i (by rw[ae.cz];exact h);have e2:=h2 (ae.ts l);rw[ae.gW l i h]at e1;rw[ae.cz]at e2;rw[ae.t,aI];omega
theorem ZC:∀ (m:Nat) (x:ae),SizeOf.sizeOf x<=m->aI x.t<=900000->∀ w:World,aR w x->Calls Tryz.prog 60 #[x.val] w (Sc w x):=by
 intro m
 induction m with
 |zero=>intro x hm;cases x;simp at hm
 |succ m ih =>
  intro x hm hsz w hx;obtain⟨k,n,s,kv,l⟩:=x;obtain⟨ka,kc,rfl,hkc,hkl⟩:=hx.form;have iB:=ł (λ(i:Nat) (hi:i<l.length) (z:World) (hz:Grow w z)=>ih l[i] (by
   have:=ng (k:=k) (n:=n) (s:=s) (kv := .slice ka l.length kc) (List.getElem_mem hi)
   omega) (by have:=Dw (k:=k) (n:=n) (s:=s) (kv := .slice ka l.length kc) i hi;omega) z ((hx.row.2.2.2.2 _ (List.getElem_mem hi)).later hz))
  have lD:=ł (λ(i:Nat) (hi:i<l.length)=>show l.length<=900000 from by have:=Dw (k:=k) (n:=n) (s:=s) (kv := .slice ka l.length kc) i hi;omega);have jR:=ł hx;obtain⟨aF,aZ,HG2⟩:=a2 w (.cells #[.int .u8 k,.int .i64 n,.string s,.slice ka l.length kc] 24) (.cells #[.int .u8 0,.int .i64 0,.string ⟨#[]⟩,.slice none 0 0] 24);have HS2:=ł (show((w.alloc (.cells #[.int .u8 k,.int .i64 n,.string s,.slice ka l.length kc] 24)).alloc (.cells #[.int .u8 0,.int .i64 0,.string ⟨#[]⟩,.slice none 0 0] 24)).heap.size=w.heap.size+2 from by simp);clear hx hsz ih;simp only[ae.val]
  go_enter Tryz.func60,Tryz.ntmps60
  obtain⟨⟨n0,n1⟩,n2,n3⟩:=aC aF.out;have hln:=lt_of_block aF.out;go_wp2_with fail;generalize ((w.alloc (.cells #[.int .u8 k,.int .i64 n,.string s,.slice ka l.length kc] 24)).alloc (.cells #[.int .u8 0,.int .i64 0,.string ⟨#[]⟩,.slice none 0 0] 24))=w2 at *;clear n0 n1 n2 n3 hln
  go_loopw [3,9] (λcv t wr=>∃ (j:Nat) (xs:List ae),t = .int .i64 j/\j<=l.length/\xs.length=j/\gQ wr w2.heap.size cv xs/\(∀ i (h:i<xs.length) (h':i<l.length),xs[i].t=l[i].t)/\(∀ y∈xs,dG (λb=>w2.heap.size<=b/\cv.ownBlock≠some b) wr y)/\Grow w2 wr) (λ_ t _=>l.length - (intOf t).toNat)
  case atStart=>exact⟨0,[],rfl,Nat.zero_le _,rfl,World.ownsRow_nil _ _ _ _,by simp,by simp,Mv.refl _ _⟩
  obtain⟨j,xs,rfl,hj,hxl,hrow,hts,hno,hg⟩:=hrel;have gK:=ł hrow;have uR:=ł hts;have kJ:=ł hno;have HG:=ł hg;obtain⟨ra,rc,zG⟩:=gF hrow;rw[hxl]at zG;subst zG;clear hrow hts hno hg;by_cases hlt:j<l.length
  · obtain⟨kb,ko,y9,bU,-,-⟩:=jR.out.row.2.2.2.1.at (show 0<l.length by omega);simp only[Value.slice.injEq,true_and]at bU;obtain⟨rfl,rfl⟩:=bU;have fT:=(fe jR.out j hlt).later (gtr HG2.out HG.out);have HC:=ł (λz hz=>iB.out j hlt z hz);have OE:=ł (lD.out j hlt);have V6:=ł (λ(y:ae) (hy:y.t=l[j].t)=>show ∀ i (h:i<(xs ++ [y]).length) (h':i<l.length),(xs ++ [y])[i].t=l[i].t from by
     intro i h h';by_cases hi:i<xs.length
     · rw[List.getElem_append_left hi];exact uR.out i hi h'
     · simp at h;obtain rfl:i=j:=by omega
       rw[List.getElem_append_right (by omega)];simpa using hy)
    generalize l[j]=y at *;obtain⟨yk,yn,ys,yv,yl⟩:=y;obtain⟨ya,yc,rfl,-,-⟩:=fT.at_.form;obtain⟨⟨d0,d1⟩,d2,d3⟩:=fT.four;simp only[ae.val]at HC;have hbl:kb<wr.heap.size:=World.block_lt_of_cell? wr _ d0;have CW:=ł (heap_alloc_new wr (.cells #[.int .u8 yk,.int .i64 yn,.string ys,.slice ya yl.length yc] 24));clear fT;go_wp2_with fail;refine(HC.out _ (gtr HG2.out (HG.out.alloc (.cells #[.int .u8 yk,.int .i64 yn,.string ys,.slice ya yl.length yc] 24)))).mono ?_;rintro e w4 ⟨y2,rfl,hy2,I8,hg⟩;have aP:=ł (gtr ((Mv.refl _ wr).alloc (.cells #[.int .u8 yk,.int .i64 yn,.string ys,.slice ya yl.length yc] 24)) hg);have ab2:=ł (V6.out y2 hy2);have hs4:wr.heap.size+1<=w4.heap.size:=by have:=hg.size;simpa using this
    have HR4:=ł (bg gK.out aP.out (λ_ _ e=>e));have ru:=ł (λy (hy:y∈xs)=>(kJ.out y hy).stay aP.out (λ_ _ _ _ _ e=>e));have Ou:=ł (λb (hb:(Value.slice ra j rc).ownBlock=some b)=>show b<wr.heap.size from(gK.out.lt b hb).2);have sW:=ł (I8.weak (P':=λb=>w2.heap.size<=b/\(Value.slice ra j rc).ownBlock≠some b) (λb _ hb=>⟨by have:=HG.out.size;simp only[World.size_alloc]at hb;omega,λe=>by have:=Ou.out b e;simp only[World.size_alloc]at hb;omega⟩));have hone:=I8.one;obtain⟨zk,zn,zs,zv,zl⟩:=y2;have hyf:=I8.at.form';clear hg I8 hbl d0 d1 d2 d3 CW HC V6 hy2;have hg5:Grow w4 (w4.alloc (.cells #[.int .u8 zk,.int .i64 zn,.string zs,zv] 24)):=(Mv.refl _ w4).alloc _;obtain⟨za,zc,rfl⟩:=hyf;obtain⟨a',c',y,⟨hok,hv,hw⟩,hrow2,bz,hnew⟩:=_Q _ (.mk zk zn zs (.slice za zl.length zc) zl) xs w2.heap.size w4.heap.size _ (bg HR4.out hg5 (λ_ _ e=>e)) (by have:=HG.out.size;have:=aP.out.size;simp only[World.size_alloc];omega) (by have:=OE.out;omega) hone (heap_alloc_new w4 _);have EK:=ł hnew;have zh:=ł hrow2;have j5:=ł (((Mv.refl (λb=>(Value.slice ra j rc).ownBlock=some b) w4).alloc _).trans bz (λx e => .inl e));have hgrow:=(gtr HG.out aP.out).trans j5.out (λb e => .inr (by have:=(gK.out.lt b e).1;omega));have bS:=ł hgrow;simp only[hxl]at hok hv hw zh EK;clear hgrow hrow2 bz hnew hone hg5;simp only[ae.val];go_wp2_with fail;refine⟨⟨j+1,xs ++ [.mk zk zn zs (.slice za zl.length zc) zl],by simp,by omega,by simp[hxl],zh.out,ab2.out,λx hx => ?_,bS.out⟩,by simp[intOf] <;> omega⟩;have hx4:dG (λb=>w2.heap.size<=b/\(Value.slice ra j rc).ownBlock≠some b) w4 x:=by
     rcases List.mem_append.1 hx with h|h
     · exact ru.out x h
     · rw[List.mem_singleton.1 h];exact sW.out
    have hx5:=hx4.weak (P':=λb=>(w2.heap.size<=b/\(Value.slice ra j rc).ownBlock≠some b)/\b<w4.heap.size) (λb hb hp=>⟨hp,hb⟩);refine(hx5.stay j5.out (λb cs z hp hc e=>hp.1.2 e)).weak (λb hb hp=>⟨hp.1.1,λe => ?_⟩);rcases EK.out b e with h|h
    · exact hp.1.2 h
    · simp only[World.size_alloc]at h;have:=hp.2;omega
  · obtain rfl:j=l.length:=by omega
    have hnb:=ai aF.out HG.out;have hrb:=ai aZ.out HG.out;obtain⟨hs1,hs2⟩:=RQ hnb (.slice ra l.length rc);have HY:=ł (show dG (λb=>w.heap.size+2<=b) wr (.mk k n s (.slice ra l.length rc) xs)from by
     have hr:=fI tK gK.out;refine .mk jR.out.row.1 jR.out.row.2.1 jR.out.row.2.2.1 hr (λb hb => ?_) (λy hy=>(kJ.out y hy).weak (λb _ h=>by have:=h.1;have:=HS2.out;omega));obtain⟨h1,h2⟩:=tJ gK.out b hb;exact⟨by have:=HS2.out;omega,h2⟩)
    have HT:=ł (show ae.t (.mk k n s (.slice ra l.length rc) xs)=ae.t (.mk k n s (.slice ka l.length kc) l)from by
     rw[ae.t,ae.t,ae.gV,ae.gV];congr 1;refine List.ext_getElem (by simp[hxl]) (λi h1 h2 => ?_);simp only[List.getElem_map];exact uR.out i (by simpa using h1) (by simpa using h2))
    obtain⟨⟨c0,c1⟩,c2,c3⟩:=aC hnb;have hlb:=lt_of_block hnb;have zt:=aG hnb;obtain⟨⟨q0,q1⟩,q2,q3⟩:=aC hs1;have EL:(wr.setCell ⟨w.heap.size,3,none⟩ (.slice ra l.length rc)).heap[w.heap.size+1]? = some (.cells #[.int .u8 0,.int .i64 0,.string ⟨#[]⟩,.slice none 0 0] 24 (0,0)):=by rw[hs2.block _ (lt_of_block hrb) (by omega)];exact hrb
    obtain⟨⟨r0,r1⟩,r2,r3⟩:=aC EL;have hlr:=lt_of_block EL;have zr:=aG EL;obtain⟨ht1,ht2⟩:=mh EL (.int .u8 k) (.int .i64 n) (.string s) (.slice ra l.length rc);have j5:=ł (show Mv (λb=>b=w.heap.size\/b=w.heap.size+1) wr _ from(hs2.mono (λb e => .inl (.inl e))).trans ht2 (λb e => .inl (.inr e)));have HB:=ł ht1;clear hs1 hs2 EL ht1 ht2 hnb hrb;go_wp2_with fail;obtain⟨⟨t0,t1⟩,t2,t3⟩:=aC HB.out;refine bodyPost_ret (v:=ae.val (.mk k n s (.slice ra l.length rc) xs)) (by simp[results,Tryz.results60,go_sem,t0,t1,t2,t3,ae.val]) rfl ⟨_,rfl,HT.out,(HY.out.stay j5.out (λb cs z hp hc e=>by omega)).weak (λb _ h=>by omega),?_⟩;exact(gtr HG2.out HG.out).trans j5.out (λb e => .inr (by omega))
theorem KO (x:ae) (w:World) (hs:aI x.t<=900000) (h:aR w x):Calls Tryz.prog 60 #[x.val] w (Sc w x):=ZC _ x (Nat.le_refl _) hs w h
end
section
open Go.RowKit
def JR (Ts:TypeId->Bool) (B:Nat) (W:World) (b:Nat):Prop:=b<B\/∃ cs t z,W.heap[b]? = some (.cells cs t z)/\Ts t=true
def Cf (W:World) (b:Nat):Prop:=∃ o,W.heap[b]? = some o/\o.isCells=false
def wN (Ts:TypeId->Bool) (W:World) (b:Nat):Prop:=∃ cs t z,W.heap[b]? = some (.cells cs t z)/\Ts t=false
abbrev CB (Ts:TypeId->Bool) (B:Nat) (W W':World):Prop:=Mv (λb=>¬ JR Ts B W b) W W'
abbrev yV (Ts:TypeId->Bool) (B:Nat) (W W':World):Prop:=Mv (λb=>¬ (JR Ts B W b\/Cf W b)) W W'
abbrev kI (Ts:TypeId->Bool) (W W':World):Prop:=Mv (λb=>¬ wN Ts W b) W W'
abbrev ny (Ts:TypeId->Bool) (B:Nat) (W W':World):Prop:=Mv (λb=>¬ (wN Ts W b\/(B<=b/\Cf W b))) W W'
theorem Xy {p:World->Nat->Prop} (hp:∀ A B b,B.heap[b]? = A.heap[b]? -> p A b->p B b) {A B C:World} (h:Mv (λb=>¬ p A b) A B) (k:Mv (λb=>¬ p B b) B C):Mv (λb=>¬ p A b) A C :=
 h.trans k (λb hb=>by
  rcases Nat.lt_or_ge b A.heap.size with hl|hl
  · exact .inl λha=>hb (hp A B b (h.block b hl (λe=>e ha)) ha)
  · exact .inr hl)
theorem _R {Ts:TypeId->Bool} (X Y:World) (b:Nat) (h:Y.heap[b]? = X.heap[b]?):wN Ts X b->wN Ts Y b
 |⟨cs,t,z,hc,ht⟩=>⟨cs,t,z,by rw[h];exact hc,ht⟩
theorem uU {Ts:TypeId->Bool} {X Y Z:World} (h:kI Ts X Y) (k:kI Ts Y Z):kI Ts X Z:=Xy (p:=wN Ts) _R h k
theorem Mv.putObj {O:Nat->Prop} (W:World) (l:Nat) (o:Obj) (hO:O l):Mv O W (W.putObj l o):=(Mv.refl O W).grown (grownBy_putObj' W l o) (λk e=>by cases e;exact .inl hO)
theorem zV {Ts:TypeId->Bool} {B:Nat} {W:World} {l:Nat} {o:Obj} (hB:B<=l) (hl:W.heap[l]? = some o) (ho:o.isCells=false) (o':Obj):CB Ts B W (W.putObj l o') :=
 Mv.putObj W l o' (by
  rintro(h|⟨cs,t,z,hc,-⟩)
  · omega
  · rw[hl]at hc;cases hc;cases ho)
theorem PQ {Ts:TypeId->Bool} {W:World} {l:Nat} {o:Obj} (hl:W.heap[l]? = some o) (ho:o.isCells=false) (o':Obj):kI Ts W (W.putObj l o') :=
 Mv.putObj W l o' (by
  rintro⟨cs,t,z,hc,-⟩;rw[hl]at hc;cases hc;cases ho)
theorem ny.bd {Ts:TypeId->Bool} {B:Nat} {W W':World} (h:ny Ts B W W'):kI Ts W W':=h.mono (λ_ hb => .inl λe=>hb (.inl e))
theorem ny.same {Ts:TypeId->Bool} {B:Nat} {W W':World} (h:ny Ts B W W') {l:Nat} {o:Obj} (hl:W.heap[l]? = some o) (ho:o.isCells=false) (hB:B<=l):W'.heap[l]? = some o :=
 (h.block l (Array.getElem?_eq_some_iff.1 hl).1 (λe=>e (.inr ⟨hB,o,hl,ho⟩))).trans hl
theorem yV.same {Ts:TypeId->Bool} {B:Nat} {W W':World} (h:yV Ts B W W') {l:Nat} {o:Obj} (hl:W.heap[l]? = some o) (ho:o.isCells=false):W'.heap[l]? = some o :=
 (h.block l (Array.getElem?_eq_some_iff.1 hl).1 (λe=>e (.inr ⟨o,hl,ho⟩))).trans hl
def Rm {α:Type} (P:Program) (Ts:TypeId->Bool) (g:Nat) (lb:Array Value) (encs:α->Array Value) (S Sp:List α->Prop) (w:World):Prop :=
 ∀ (l:Nat) (J Jx:List α->World->Prop) (W:World),Mv (λb=>False) w W->(∀ s X Y,J s X->yV Ts W.heap.size X Y->J s Y)->(∀ s X Y,Jx s X->yV Ts W.heap.size X Y->Jx s Y) ->
  (∀ pre x W1,J pre W1->Sp (pre ++ [x])->YieldAt Fence.wide 10 P l (encs x) W1 λe W' =>
   (e = .returned (.bool true)/\J (pre ++ [x]) W'/\kI Ts W1 W')\/(e = .returned (.bool false)/\Jx (pre ++ [x]) W')) ->
  J [] W->Calls P g (#[.func (.yield l) #[] #[]] ++ lb) W λe W'=>(∃ v,e = .returned v)/\((∃ xs,S xs/\J xs W')\/(∃ pre,Sp pre/\Jx pre W'))
def bodyPostC {α:Type} (Ts:TypeId->Bool) (B:Nat) (I:List α->World->Prop) (Ix:Code->List α->World->Prop) (xs:List α) (W:World):Exit->Act->World->Prop
 |.normal,_,W'=>ny Ts B W W'/\I xs W'
 |.ret,_,W'=>ny Ts B W W'/\Ix .ret xs W'
 |.exit id,_,W'=>ny Ts B W W'/\Ix (.exit id) xs W'
 |.goto t,_,W'=>ny Ts B W W'/\Ix (.goto t) xs W'
 |.panic _,_,_=>False
 |.outgrown,_,_=>False
theorem WR {α:Type} {P:Program} (Ts:TypeId->Bool) {g:Operand} {ps:Array Tmp} {assign body:Code} {Q:Exit->Act->World->Prop} {a:Act} {w:World} {gf:Nat} {lb:Array Value} (hg:a.eval g = .func (.func gf) #[] lb) (eg:∀ args w,(callFunc gf args).run P w = .ok (.enter gf args) w)
 {encs:α->Array Value} {S Sp:List α->Prop} {w0:World} (hseq:Rm P Ts gf lb encs S Sp w0) (hb0:Mv (λ_=>False) w0 w) (hps:∀ x,(encs x).size=ps.size)
 (I:List α->World->Prop) (Ix:Code->List α->World->Prop) (hI:∀ s X Y,I s X->CB Ts w.heap.size X Y->I s Y) (hIx:∀ c s X Y,Ix c s X->CB Ts w.heap.size X Y->Ix c s Y) (h0:I [] w)
 (Ax:Act->α->Act->World->Prop) (hAx:∀ x a' X l o o',Ax a x a' X->X.heap[l]? = some o->o.isCells=false->Ax a x a' (X.putObj l o'))
 (hassign:∀ (l:Nat) (pre:List α) (x:α) (W:World) (K:Act->World->Prop),I pre W->(∀ a' W',Mv (λ_=>False) W W'->I pre W'->Ax a x a' W'->K a' W') ->
  assign.wpIn (Fence.wide.inRound l) 10 P (Exit.then K (λ_ _ _=>False)) { tmps:=(ps.zip (encs x)).foldl (λt (p,v)=>t.setIfInBounds p v) a.tmps,defers:=[] } W)
 (hbody:∀ (l:Nat) (pre:List α) (x:α) (a':Act) (W:World),I pre W->Ax a x a' W->Sp (pre ++ [x])->body.wpIn (Fence.wide.inRound l) 10 P (bodyPostC Ts w.heap.size I Ix (pre ++ [x]) W) a' W)
 (hdone:∀ (D:Nat) (xs:List α) (W:World),w.heap.size<=D->S xs->I xs W->W.heap[D]? = some (.deferred (some []))->Q .normal { a with defers := { target := .collected D,args:=#[] } :: a.defers } W)
 (hstop:∀ (D:Nat) (c:Code) (pre:List α) (W:World),w.heap.size<=D->Sp pre->Ix c pre W->W.heap[D]? = some (.deferred (some []))->c.wp P Q { a with defers := { target := .collected D,args:=#[] } :: a.defers } W) :
 (Code.rangeFunc g ps assign body).wp P Q a w:=by
 refine(wpIn_wide (n:=0)).1 (wpIn_rangeFunc ?_);intro fn hfn;rw[Fence.wide_round];obtain⟨rec,hrec⟩:∃ rec:LoopState->Option Code->Loop,rec=λst pe => { state:=st,pending:=pe,fn,tmps:=a.tmps,params:=ps,assign,body,defers:=w.heap.size } := ⟨_,rfl⟩;obtain⟨W1,hW1⟩:∃ W1,(w.alloc (.deferred (some []))).alloc (.loop (rec .ready none))=W1:=⟨_,rfl⟩;have hL1:W1.heap[w.heap.size+1]? = some (.loop (rec .ready none)):=by
  rw[← hW1];have:=World.alloc_heap_new (w.alloc (.deferred (some []))) (.loop (rec .ready none));rwa[World.size_alloc]at this
 have hK1:W1.heap[w.heap.size]? = some (.deferred (some [])):=by
  rw[← hW1];exact(Below.heap_alloc _ _ _ (by simp)).trans (World.alloc_heap_new w _)
 have hS1:W1.heap.size=w.heap.size+2:=by rw[← hW1];simp
 have hI1:I [] W1:=by rw[← hW1];exact hI _ _ _ h0 (((Mv.refl _ w).alloc _).alloc _)
 have hb1:Mv (λ_=>False) w0 W1:=by rw[← hW1];exact(hb0.alloc _).alloc _
 refine⟨w.heap.size+1,[{ target := .collected w.heap.size,args:=#[] }],W1,{ target := .fn (.func gf) lb,args:=#[.func (.yield (w.heap.size+1)) #[] #[]] },W1,gf,
  #[.func (.yield (w.heap.size+1)) #[] #[]] ++ lb,W1,?_,?_,λ_ _=>trivial,?_,λe=>by simp[Fence.wide]at e,?_⟩
 · rw[← hW1,hrec];exact run_enterLoop_outer _ _ _ _ _
 · simp only[resolve,hg];simp[go_sem]
 · simp[invoke,go_sem,eg]
 · have hnw:∀ {X Y:World},yV Ts W1.heap.size X Y->CB Ts w.heap.size X Y:=λh=>h.mono (λb hb => .inl λe=>hb (.inl (e.elim (λh => .inl (by omega)) .inr)));refine callsIn_wide.2 ((hseq (w.heap.size+1)
    (λpre W=>I pre W/\W.heap[w.heap.size+1]? = some (.loop (rec .ready none))/\W.heap[w.heap.size]? = some (.deferred (some [])))
    (λpre W=>∃ c,Ix c pre W/\W.heap[w.heap.size+1]? = some (.loop (rec .done (some c)))/\W.heap[w.heap.size]? = some (.deferred (some [])))
    W1 hb1 (λs X Y hs hm=>⟨hI s X Y hs.1 (hnw hm),hm.same hs.2.1 rfl,hm.same hs.2.2 rfl⟩)
    (λs X Y hs hm=>by obtain⟨c,hc,hl,hk⟩:=hs;exact⟨c,hIx c s X Y hc (hnw hm),hm.same hl rfl,hm.same hk rfl⟩)
    ?_ ⟨hI1,hL1,hK1⟩).mono ?_)
   · rintro pre x W ⟨hi,hl,hk⟩ hsp;have hy:=run_yield (P:=P) (args:=encs x) hl (by rw[hrec];exact hps x);rw[hrec]at hy;refine⟨fn,_,assign,body,hy,roundIn_of_wpIn hfn (hassign _ pre x W _ hi ?_)⟩;clear hy;intro a' Wa hga hia hax;have hla:=(hga.block _ (Array.getElem?_eq_some_iff.1 hl).1 (λe=>e)).trans hl;have hka:=(hga.block _ (Array.getElem?_eq_some_iff.1 hk).1 (λe=>e)).trans hk;have hlt:w.heap.size+1<Wa.heap.size:=(Array.getElem?_eq_some_iff.1 hla).1;refine⟨_,run_beginRound hla (by rw[hrec]),?_⟩;have hl2:(Wa.putObj (w.heap.size+1) (.loop { rec .ready none with state := .busy })).heap[w.heap.size+1]? = some (.loop { rec .ready none with state := .busy }):=World.putObj_heap_same hlt;have hk2:(Wa.putObj (w.heap.size+1) (.loop { rec .ready none with state := .busy })).heap[w.heap.size]? = some (.deferred (some [])):=(World.putObj_heap_other (by omega)).trans hka;have hw2:kI Ts W (Wa.putObj (w.heap.size+1) (.loop { rec .ready none with state := .busy })):=uU (hga.mono (λ_ e=>e.elim)) (PQ hla rfl _);refine wpIn_mono (hbody _ pre x a' _ (hI _ _ _ hia (zV (by omega) hla rfl _)) (hAx _ _ _ _ _ _ hax hla rfl) hsp) ?_;have fin:∀ (jump:Option Code) (W3:World),ny Ts w.heap.size (Wa.putObj (w.heap.size+1) (.loop { rec .ready none with state := .busy })) W3 ->
      (Instr.endRound (w.heap.size+1) jump).run P W3 = .ok (.bool jump.isNone) (W3.putObj (w.heap.size+1) (.loop (rec (if jump.isNone then .ready else .done) jump))) /\
      W3.heap[w.heap.size+1]? = some (.loop { rec .ready none with state := .busy }) /\
      (W3.putObj (w.heap.size+1) (.loop (rec (if jump.isNone then .ready else .done) jump))).heap[w.heap.size+1]? = some (.loop (rec (if jump.isNone then .ready else .done) jump)) /\
      (W3.putObj (w.heap.size+1) (.loop (rec (if jump.isNone then .ready else .done) jump))).heap[w.heap.size]? = some (.deferred (some [])):=λjump W3 hk3=>by
      have hl3:=hk3.same hl2 rfl (by omega);have:=run_endRound (P:=P) jump hl3;rw[hrec]at this ⊢;exact⟨this,by rw[hrec]at hl3;exact hl3,World.putObj_heap_same (Array.getElem?_eq_some_iff.1 hl3).1,(World.putObj_heap_other (by omega)).trans (hk3.same hk2 rfl (Nat.le_refl _))⟩
     rintro e a3 W3 hp;cases e with
     |normal =>
      obtain⟨hk3,hi3⟩:=hp;obtain⟨hr,hl3,hl4,hk4⟩:=fin none W3 hk3;exact⟨_,_,hr,.inl ⟨rfl,⟨hI _ _ _ hi3 (zV (by omega) hl3 rfl _),hl4,hk4⟩,uU (uU hw2 hk3.bd) (PQ hl3 rfl _)⟩⟩
     |ret =>
      obtain⟨hk3,hi3⟩:=hp;obtain⟨hr,hl3,hl4,hk4⟩:=fin (some .ret) W3 hk3;exact⟨_,_,hr,.inr ⟨rfl,.ret,hIx _ _ _ _ hi3 (zV (by omega) hl3 rfl _),hl4,hk4⟩⟩
     |exit id =>
      obtain⟨hk3,hi3⟩:=hp;obtain⟨hr,hl3,hl4,hk4⟩:=fin (some (.exit id)) W3 hk3;exact⟨_,_,hr,.inr ⟨rfl,.exit id,hIx _ _ _ _ hi3 (zV (by omega) hl3 rfl _),hl4,hk4⟩⟩
     |goto t =>
      obtain⟨hk3,hi3⟩:=hp;obtain⟨hr,hl3,hl4,hk4⟩:=fin (some (.goto t)) W3 hk3;exact⟨_,_,hr,.inr ⟨rfl,.goto t,hIx _ _ _ _ hi3 (zV (by omega) hl3 rfl _),hl4,hk4⟩⟩
     |panic ch=>exact hp.elim
     |outgrown=>exact hp.elim
   · rintro e W2 ⟨⟨v,rfl⟩,(⟨xs,hS,hi,hl,hk⟩|⟨pre,hSp,c,hi,hl,hk⟩)⟩
     · exact⟨none,_,by have:=run_endLoop (P:=P) hl (by rw[hrec];simp);rw[hrec]at this;exact this,hdone _ xs _ (Nat.le_refl _) hS (hI _ _ _ hi (zV (by omega) hl rfl _)) ((World.putObj_heap_other (by omega)).trans hk)⟩
     · exact⟨some c,_,by have:=run_endLoop (P:=P) hl (by rw[hrec];simp);rw[hrec]at this;exact this,wpIn_wide.2 (hstop _ c pre _ (Nat.le_refl _) hSp (hIx c _ _ _ hi (zV (by omega) hl rfl _)) ((World.putObj_heap_other (by omega)).trans hk))⟩
theorem X5 {P:Program} {f:FuncId} {fn:Func} {c:Code} {args:Array Value} {w:World} {R:Ending->World->Prop} (hf:P.funcs[f]? = some fn) (hb:fn.body=some c)
 (h:c.wp P (bodyPostM Fence.wide 10 P fn R) { tmps:=args ++ Array.replicate (fn.ntmps - args.size) undef,defers:=[] } w):Calls P f args w R :=
 callsIn_wide.1 (callsIn_of_wp_marks (n:=10) hf hb trivial (wpIn_wide.2 h))
theorem KQ {P:Program} {fn:Func} {a:Act} {w:World} {v:Value} {R:Ending->World->Prop} (h:(results fn a.tmps).run P w = .ok v w) (hd:a.defers=[]) (hR:R (.returned v) w):bodyPostM Fence.wide 10 P fn R .ret a w:=by
 unfold bodyPostM;simp only[hd];exact⟨v,h,hR⟩
theorem Qe {P:Program} {fn:Func} {a:Act} {w:World} {v:Value} {D:Nat} {R:Ending->World->Prop} (hK:w.heap[D]? = some (.deferred (some []))) (h:(results fn a.tmps).run P (w.putObj D (.deferred none)) = .ok v (w.putObj D (.deferred none))) (hd:a.defers=[{ target := .collected D,args:=#[] }]) (hR:R (.returned v) (w.putObj D (.deferred none))):bodyPostM Fence.wide 10 P fn R .ret a w:=by
 unfold bodyPostM;simp only[hd];exact⟨by simp,.inl ⟨D,_,rfl,run_takeDeferred hK,v,h,hR⟩⟩
end
section
open Go.RowKit Go.Instr
attribute [local go_sem ↓] ni
def zi (i:Int):List Value:=[.int .i64 i]
theorem Tryz.SV:Elem Tryz.prog 84 3 1 8:=Elem.of Tryz.underlying84 Tryz.RI rfl (by decide) (by decide)
abbrev Ih (w:World) (base:Nat) (v:Value) (l:List Int):Prop:=w.ownsRow base 3 1 v l.length (flat zi l)
theorem YT (v:Value) (l:List Int) (w:World) (h:az 1 zi w v l) (hb:l.length * 8<=140737488355328) :
 Calls Tryz.prog 64 #[v] w (aaL 1 zi w l):=by
 obtain⟨a,cap,rfl,hc,hl⟩:=h.form;cases a with
 |none =>
  obtain rfl:l=[]:=by
   cases l with
   |nil=>rfl
   |cons x l=>obtain⟨b,off,c,e,_⟩:=h.at (i:=0) (by simp);simp at e
  have heq:(binOp .eql 84 (.slice none 0 cap) (.slice none 0 0)).run Tryz.prog w = .ok (.bool true) w:=by
   have:=Lib.run_eql_slice_nil (P:=Tryz.prog) w 84 3 none 0 cap 0 0 Tryz.underlying84
   simpa using this
  go_enter Tryz.func64,Tryz.ntmps64
  go_wp2_with fail;go_ret;exact⟨_,rfl,az.nil _ _ _,λg hg=>by simp[Value.ownBlock]at hg,Mv.refl _ _⟩
 |some a =>
  obtain⟨v',w2,⟨hok,hv,hw⟩,⟨hrow,hown⟩,hg⟩:=Zi Tryz.SV (λ_=>rfl) _ l w.heap.size (w.alloc (.cells #[] 3)) (heap_alloc_new w _) (h.later ((Mv.refl _ _).alloc _)) hb;have heq:(binOp .eql 84 (.slice (some a) l.length cap) (.slice none 0 0)).run Tryz.prog w = .ok (.bool false) w:=by
   have:=Lib.run_eql_slice_nil (P:=Tryz.prog) w 84 3 (some a) l.length cap 0 0 Tryz.underlying84
   simpa using this
  have HR:=ł hrow;have HW:=ł (λg hg=>(show w.heap.size<=g/\g<w2.heap.size from⟨by rcases(hown g hg).1 with h|h;omega;simp at h;omega,(hown g hg).2⟩));have HG:=ł (Mv.trans ((Mv.refl (λ_=>False) w).alloc (.cells #[] 3)) hg (λ_ e=>e.elim));clear h hrow hown hg
  go_enter Tryz.func64,Tryz.ntmps64
  go_wp2_with fail;go_ret;exact⟨_,rfl,HR.out,HW.out,HG.out⟩
theorem aau {α:Type} {f:α->List Value} {n e base:Nat} {w:World} {a:Option Addr} {c:Nat} {l:List α} {x:α} (hf:∀ x,(f x).length=n) (h:w.ownsRow base e n (.slice a (l.length+1) c) (l ++ [x]).length (flat f (l ++ [x]))) :
 w.ownsRow base e n (.slice a l.length c) l.length (flat f l):=by
 obtain⟨h1,h2⟩:=h;refine⟨qp f n hf l,.inr ?_⟩;rcases h2 with⟨e1,-⟩|⟨g,cap,cur,e1,hb,hg,hc,hm,hs,ht⟩
 · simp at e1
 · simp only[Value.slice.injEq]at e1;obtain⟨rfl,e2,rfl⟩:=e1;simp only[List.length_append,List.length_cons,List.length_nil,Nat.zero_add]at hc ht;refine⟨g,c,cur,rfl,hb,hg,by omega,hm,hs,?_⟩;have:=congrArg (List.take (l.length * n)) ht;rw[List.take_take,PG,List.take_append_of_le_length (by rw[qp f n hf];exact Nat.le_refl _)]at this;rw[Nat.min_eq_left (Nat.mul_le_mul_right n (by omega)),List.take_of_length_le (l:=flat f l) (by rw[qp f n hf];exact Nat.le_refl _)]at this;exact this
theorem aav (v:Value) (x:Int) (xs:List Int) (base g:Nat) (w:World) (hrow:Ih w base v xs) (hb:base<=w.heap.size) (hlen:xs.length<=900000) (hg:w.heap[g]? = some (.cells #[.int .i64 x] 3 (0,0))) :
 ∃ a' c' w2,(qG Tryz.prog 84 84 v (.slice (some ⟨g,0,none⟩) 1 1) w /\
  nA Tryz.prog 84 84 v (.slice (some ⟨g,0,none⟩) 1 1) w = .slice a' (xs.length+1) c'/\appW Tryz.prog 84 84 v (.slice (some ⟨g,0,none⟩) 1 1) w=w2) /\
  Ih w2 base (.slice a' (xs.length+1) c') (xs ++ [x])/\Mv (λb=>v.ownBlock=some b) w w2/\(∀ g,(Value.slice a' (xs.length+1) c').ownBlock=some g->v.ownBlock=some g\/w.heap.size<=g) :=
 qA Tryz.SV (f:=zi) (λ_=>rfl) v _ xs [x] base w hrow (az.bO (f:=zi) (l:=[x]) (λ_=>rfl) hg (by simp[flat,zi]) (by simp)) (λy hy u hu=>by simp[zi]at hu;subst hu;rfl) hb (by simp;omega)
mutual
def jF:Tree->List Tree
 |.mk k n s l => .mk k n s l :: lM l
def lM:List Tree->List Tree
 | []=>[]
 |t :: l=>jF t ++ lM l
end
theorem J8:∀ (a b:List Tree),lM (a ++ b)=lM a ++ lM b
 | [],b=>by simp[lM]
 |t :: a,b=>by simp[lM,J8 a b]
theorem Qf (l:List Tree) (i:Nat) (h:i<l.length):lM (l.take (i+1))=lM (l.take i) ++ jF l[i]:=by
 rw[List.take_succ_eq_append_getElem h,J8];simp[lM]
theorem Xz (l:List Tree) (i:Nat) (h:i<l.length):lM (l.take i) ++ jF l[i] <+: lM l:=by
 rw[← Qf l i h]
 conv=>rhs;rw[← List.take_append_drop (i+1) l,J8]
 exact List.prefix_append _ _
structure DW (Ts:TypeId->Bool):Prop where
 node:Ts 24=false
 int:Ts 3=false
 ints:Ts 84=false
 yf:Ts 125=false
 vf:Ts 44=false
def wH (Ts:TypeId->Bool) (t:TypeId):Bool:=Ts t || t == 3 || t == 84
theorem kI.ts2 {Ts:TypeId->Bool} {W W':World} (h:kI Ts W W'):kI (wH Ts) W W':=h.mono (λb hb => .inl λ⟨cs,t,z,hc,ht⟩=>hb ⟨cs,t,z,hc,by simp[wH]at ht;exact ht.1.1⟩)
theorem qB {Ts:TypeId->Bool} {W W':World} (h:Grow W W'):kI Ts W W':=h.mono (λ_ e=>e.elim)
theorem G7 {Ts:TypeId->Bool} {B:Nat} {W W':World} (h:Grow W W'):yV Ts B W W':=h.mono (λ_ e=>e.elim)
theorem kI.cells {Ts:TypeId->Bool} {W W':World} (h:kI Ts W W') {b:Nat} {cs:Array Value} {t:TypeId} {z:Nat × Nat} (hb:W.heap[b]? = some (.cells cs t z)) (ht:Ts t=false):W'.heap[b]? = some (.cells cs t z) :=
 (h.block b (lt_of_block hb) (λe=>e ⟨cs,t,z,hb,ht⟩)).trans hb
structure qK (n0 l Y P V:Nat) (W:World) (path:Value) (ps:List Int):Prop where
 y:W.heap[Y]? = some (.cells #[.func (.yield l) #[] #[]] 125 (0,0))
 p:W.heap[P]? = some (.cells #[path] 84 (0,0))
 v:W.heap[V]? = some (.cells #[.func (.func 67) #[] #[.pointer (some ⟨Y,0,none⟩),.pointer (some ⟨P,0,none⟩),.pointer (some ⟨V,0,none⟩)]] 44 (0,0))
 hP:n0<=P
 row:Ih W n0 path ps
theorem qK.bd {Ts:TypeId->Bool} (hT:DW Ts) {n0 l Y P V:Nat} {W W':World} {path:Value} {ps:List Int} (h:qK n0 l Y P V W path ps) (hm:kI Ts W W'):qK n0 l Y P V W' path ps :=
 ⟨hm.cells h.y hT.yf,hm.cells h.p hT.ints,hm.cells h.v hT.vf,h.hP,bg h.row hm (λg hg e=>by
  obtain⟨-,cs,z,hc⟩:=tJ h.row g hg;exact e ⟨cs,_,z,hc,hT.int⟩)⟩
theorem qK.step {n0 l Y P V:Nat} {W W':World} {path path':Value} {ps ps':List Int} (h:qK n0 l Y P V W path ps) (hm:Mv (λb=>b=P\/path.ownBlock=some b) W W') (hp:W'.heap[P]? = some (.cells #[path'] 84 (0,0))) (hr:Ih W' n0 path' ps'):qK n0 l Y P V W' path' ps':=by
 have hne:∀ {b:Nat} {cs:Array Value} {t:TypeId} {z:Nat × Nat},W.heap[b]? = some (.cells cs t z)->t≠3->t≠84->W'.heap[b]? = some (.cells cs t z):=fun {b cs t z} hb h1 h2=>by
  refine(hm.block b (lt_of_block hb) (λe => ?_)).trans hb;rcases e with rfl|e
  · rw[h.p]at hb;simp at hb;exact h2 hb.2.1.symm
  · obtain⟨-,cs',z',hc⟩:=tJ h.row b e;rw[hc]at hb;simp at hb;exact h1 hb.2.1.symm
 exact⟨hne h.y (by decide) (by decide),hp,hne h.v (by decide) (by decide),h.hP,hr⟩
theorem qK.own {n0 l Y P V:Nat} {W:World} {path:Value} {ps:List Int} (h:qK n0 l Y P V W path ps) {b:Nat} (hb:b=P\/path.ownBlock=some b):n0<=b/\∃ cs t z,W.heap[b]? = some (.cells cs t z)/\(t=3\/t=84):=by
 rcases hb with rfl|hb
 · exact⟨h.hP,_,_,_,h.p,.inr rfl⟩
 · obtain⟨h1,cs,z,hc⟩:=tJ h.row b hb;exact⟨h1,cs,_,z,hc,.inl rfl⟩
theorem RS {Ts:TypeId->Bool} (hT:DW Ts) {n0:Nat} {W W':World} {O:Nat->Prop} (hm:Mv O W W') (hO:∀ b,O b->n0<=b/\∃ cs t z,W.heap[b]? = some (.cells cs t z)/\(t=3\/t=84)):yV Ts n0 W W'/\kI (wH Ts) W W':=by
 refine⟨hm.mono λb hb => .inl ?_,hm.mono λb hb => .inl ?_⟩
 · obtain⟨h1,cs,t,z,hc,ht⟩:=hO b hb;rintro((h|⟨cs',t',z',hc',ht'⟩)|⟨o,ho,hn⟩)
   · omega
   · rw[hc]at hc';simp only[Option.some.injEq,Obj.cells.injEq]at hc';obtain⟨-,rfl,-⟩:=hc';rcases ht with rfl|rfl
     · rw[hT.int]at ht';cases ht'
     · rw[hT.ints]at ht';cases ht'
   · rw[hc]at ho;cases ho;cases hn
 · obtain⟨h1,cs,t,z,hc,ht⟩:=hO b hb;rintro⟨cs',t',z',hc',ht'⟩;rw[hc]at hc';simp only[Option.some.injEq,Obj.cells.injEq]at hc';obtain⟨-,rfl,-⟩:=hc';rcases ht with rfl|rfl <;> simp[wH]at ht'
theorem dG.bd {Ts:TypeId->Bool} (hN:Ts 24=false) {P:Nat->Prop} {W W':World} {x:ae} (h:dG P W x) (hm:kI Ts W W'):dG P W' x:=h.stay hm (λb cs z _ hc e=>e ⟨cs,_,z,hc,hN⟩)
def came (ys:List (Value × ae)):List Tree:=ys.map λz=>z.2.t
def aaw (Ts:TypeId->Bool) (J Jx:List (Value × ae)->World->Prop) (pre:List (Value × ae)) (n0 l Y P V:Nat) (ps:List Int) (x:ae) (W:World) (e:Ending) (W':World):Prop :=
 (e = .returned (.bool true)/\∃ path' ys,came ys=jF x.t/\J (pre ++ ys) W'/\qK n0 l Y P V W' path' ps/\kI (wH Ts) W W')\/(e = .returned (.bool false)/\∃ ys,came ys <+: jF x.t/\Jx (pre ++ ys) W')
def VI (J Jx:List (Value × ae)->World->Prop) (Ts:TypeId->Bool) (pre:List (Value × ae)) (l:Nat) (path xv:Value) (xt:Tree) (W:World) (L:Array Bool) (vs:Nat->Value) (y:World):Prop :=
 (L.getD 5 false=false->L.getD 6 false=false/\Grow W y/\(L.getD 0 false=true->vs 0 = .func (.yield l) #[] #[])/\(L.getD 1 false=true->vs 1=path)/\(L.getD 3 false=true->vs 3=xv)/\(L.getD 4 false=true->∃ y':ae,vs 4=y'.fix.val/\y'.t=xt)) /\
 (L.getD 5 false=true->∃ z:Value × ae,z.2.t=xt/\((vs 5 = .bool true/\J (pre ++ [z]) y/\kI Ts W y)\/(vs 5 = .bool false/\Jx (pre ++ [z]) y))) /\
 (L.getD 6 false=true->∃ b,vs 5 = .bool b/\vs 6 = .bool (!b))
section
variable {J Jx:List (Value × ae)->World->Prop} {Ts:TypeId->Bool} {pre:List (Value × ae)} {l:Nat} {path xv:Value} {xt:Tree} {W y y2:World} {L:Array Bool} {vs:Nat->Value}
theorem VI.put (h:VI J Jx Ts pre l path xv xt W L vs y) (hs:L.size=7) (i:Nat) (hi:i<5) (h5:L.getD 5 false=false) (v:Value) (hg:Grow y y2) (h0:i=0->v = .func (.yield l) #[] #[]) (h1:i=1->v=path) (h3:i=3->v=xv) (h4:i=4->∃ y':ae,v=y'.fix.val/\y'.t=xt) :
 VI J Jx Ts pre l path xv xt W (L.setIfInBounds i true) (upd vs i v) y2:=by
 obtain⟨ha,hb,hc⟩:=h;obtain⟨a6,ag,a0,a1,a3,a4⟩:=ha h5;have hset:∀ j,(L.setIfInBounds i true).getD j false=if i=j then true else L.getD j false:=λj=>Me (by omega) j;have key:∀ (j:Nat) (p:Value->Prop),(i=j->p v)->(L.getD j false=true->p (vs j))->(L.setIfInBounds i true).getD j false=true->p (upd vs i v j):=by
  intro j p hv hold e;rw[hset]at e;unfold upd;by_cases hij:j=i
  · rw[if_pos hij];exact hv hij.symm
  · rw[if_neg hij];rw[if_neg (λe=>hij e.symm)]at e;exact hold e
 refine⟨λ_=>⟨by rw[hset,if_neg (by omega)];exact a6,gtr ag hg,key 0 (λv=>v = .func (.yield l) #[] #[]) h0 a0,key 1 (λv=>v=path) h1 a1,key 3 (λv=>v=xv) h3 a3,key 4 (λv=>∃ y':ae,v=y'.fix.val/\y'.t=xt) h4 a4⟩,λe => ?_,λe => ?_⟩
 · rw[hset,if_neg (by omega),h5]at e;cases e
 · rw[hset,if_neg (by omega),a6]at e;cases e
theorem VI.TU (h:VI J Jx Ts pre l path xv xt W L vs y) (hs:L.size=7) (h5:L.getD 5 false=false) (v:Value) (hz:∃ z:Value × ae,z.2.t=xt/\((v = .bool true/\J (pre ++ [z]) y2/\kI Ts W y2)\/(v = .bool false/\Jx (pre ++ [z]) y2))) :
 VI J Jx Ts pre l path xv xt W (L.setIfInBounds 5 true) (upd vs 5 v) y2:=by
 have hset:∀ j,(L.setIfInBounds 5 true).getD j false=if 5=j then true else L.getD j false:=λj=>Me (by omega) j;refine⟨λe => ?_,λ_ => ?_,λe => ?_⟩
 · rw[hset,if_pos rfl]at e;cases e
 · simpa[upd]using hz
 · rw[hset,if_neg (by decide),((h.1 h5).1)]at e;cases e
theorem VI.ab3 (h:VI J Jx Ts pre l path xv xt W L vs y) (hs:L.size=7) (h5:L.getD 5 false=true) (b:Bool) (hb:vs 5 = .bool b) :
 VI J Jx Ts pre l path xv xt W (L.setIfInBounds 6 true) (upd vs 6 (.bool (!b))) y:=by
 have hset:∀ j,(L.setIfInBounds 6 true).getD j false=if 6=j then true else L.getD j false:=λj=>Me (by omega) j;refine⟨λe => ?_,λ_ => ?_,λe=>⟨b,by simp[upd,hb],by simp[upd]⟩⟩
 · rw[hset,if_neg (by decide),h5]at e;cases e
 · simpa[upd]using h.2.1 h5
end
end
end Go.Proofs.YtnobahchcongnaaGreatDoor
