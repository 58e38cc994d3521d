import Derived.Test.YtnobahchcongnaaGreatDoorQ41
import Derived.RangeFuncNested
import Derived.RangeFuncFrom
import Derived.RangeFuncBound
import Derived.RangeFuncLeaves
set_option linter.unusedSimpArgs false
set_option linter.unusedVariables false
set_option maxRecDepth 100000
set_option maxHeartbeats 25600000
namespace Go.Proofs.YtnobahchcongnaaGreatDoor
section
open Go.RowKit Go.Instr
attribute [local go_sem ↓] mY
theorem Tryz.XT:(Tryz.prog.info? 24).map (fun i=>(i.zero,i.size,i.bytes))=some (some (.agg #[.int .u8 0,.int .i64 0,.string ⟨#[]⟩,.slice none 0 0]),4,56):=by kernel_rfl
theorem Tryz.XU:Elem Tryz.prog 22 24 4 56:=Elem.of Tryz.underlying22 Tryz.XT rfl (by decide) (by decide)
abbrev I9 (w:World) (base:Nat) (v:Value) (l:List ae):Prop:=w.ownsRow base 24 4 v l.length (flat ae.cells l)
theorem tT {α:Type} {f:α→List Value} {n e base:Nat} {w:World} {v:Value} {l:List α} (h:w.ownsRow base e n v l.length (flat f l)):∀ b,v.ownBlock=some b→base≤b∧∃ cs z,w.heap[b]? = some (.cells cs e z):=by
 intro b hb;rcases h.2 with ⟨rfl,_⟩ | ⟨g',cap,cur,rfl,hg',hg,_⟩
 · simp [Value.ownBlock] at hb
 · simp [Value.ownBlock] at hb;subst hb;exact ⟨hg',cur,_,hg⟩
theorem EC (x:ae):x.cells.length=4:=by cases x;rfl
inductive iF (P:Nat→Prop) (w:World):ae→Prop
 | mk {k n:Int} {s:ByteArray} {kv:Value} {kids:List ae} (hk:0≤k∧k≤255) (hn:In64 n) (hs:s.size≤9223372036854775807) (row:ax 4 ae.cells w kv kids) (blk:∀ b,kv.ownBlock=some b→P b∧∃ cs z,w.heap[b]? = some (.cells cs 24 z)) (each:∀ x∈kids,iF P w x):iF P w (.mk k n s kv kids)
theorem iF.at {P:Nat→Prop} {w:World} {x:ae} (h:iF P w x):aV w x:=by
 induction h with
 | mk hk hn hs row _ _ ih=>exact .mk hk hn hs row ih
theorem iF.stay {P O:Nat→Prop} {w w':World} {x:ae} (h:iF P w x) (hm:Mv O w w') (hO:∀ b cs z,P b→w.heap[b]? = some (.cells cs 24 z)→¬ O b):iF P w' x:=by
 induction h with
 | mk hk hn hs row blk _ ih =>
  refine .mk hk hn hs (row.stay hm fun g hg => ?_) (fun b hb => ?_) ih
  · obtain ⟨hp,cs,z,hc⟩:=blk g hg;exact hO g cs z hp hc
  · obtain ⟨hp,cs,z,hc⟩:=blk b hb;exact ⟨hp,cs,z,by rw [hm.block b (lt_of_block hc) (hO b cs z hp hc)];exact hc⟩
theorem iF.weak {P P':Nat→Prop} {w:World} {x:ae} (h:iF P w x) (hP:∀ b,b<w.heap.size→P b→P' b):iF P' w x:=by
 induction h with
 | mk hk hn hs row blk _ ih =>
  refine .mk hk hn hs row (fun b hb => ?_) ih;obtain ⟨hp,cs,z,hc⟩:=blk b hb;exact ⟨hP b (lt_of_block hc) hp,cs,z,hc⟩
theorem aV.form' {w:World} {k n:Int} {s:ByteArray} {kv:Value} {l:List ae} (h:aV w (.mk k n s kv l)):∃ a c,kv = .slice a l.length c:=by
 obtain ⟨a,c,e,-,-⟩:=h.form;exact ⟨a,c,e⟩
theorem iF.one {P:Nat→Prop} {w:World} {x:ae} (h:iF P w x):∀ u∈x.cells,u.oneCell'=true:=by
 cases h with
 | @mk k n s kv kids hk hn hs row blk each =>
  intro u hu;obtain ⟨a,c,rfl,-,-⟩:=row.form;simp [ae.cells] at hu;rcases hu with rfl | rfl | rfl | rfl <;> rfl
def ae.fix:ae→ae
 | .mk k n s (.slice a m c) l => .mk k n s (.slice a m c) l
 | .mk k n s _ l => .mk k n s (.slice none 0 0) l
theorem ae.Ou (x:ae):∃ k n s a m c l,x.fix = .mk k n s (.slice a m c) l∧x.t=ae.t (.mk k n s (.slice a m c) l):=by
 obtain ⟨k,n,s,kv,l⟩:=x;cases kv
 case slice a m c=>exact ⟨k,n,s,a,m,c,l,rfl,rfl⟩
 all_goals exact ⟨k,n,s,none,0,0,l,rfl,by rw [ae.t,ae.t]⟩
theorem iF.fix {P:Nat→Prop} {w:World} {x:ae} (h:iF P w x):x.fix=x:=by
 cases h with
 | @mk k n s kv kids hk hn hs row blk each =>
  obtain ⟨a,c,rfl,-,-⟩:=row.form;rfl
theorem XV (v:Value) (x:ae) (xs:List ae) (base g:Nat) (w:World) (hrow:I9 w base v xs) (hb:base≤w.heap.size) (hlen:xs.length≤900000) (hone:∀ u∈x.cells,u.oneCell'=true) (hg:w.heap[g]? = some (.cells x.cells.toArray 24 (0,0))) :
 ∃ a' c' w2,(qL Tryz.prog 22 22 v (.slice (some ⟨g,0,none⟩) 1 1) w ∧
  nk Tryz.prog 22 22 v (.slice (some ⟨g,0,none⟩) 1 1) w = .slice a' (xs.length+1) c'∧appW Tryz.prog 22 22 v (.slice (some ⟨g,0,none⟩) 1 1) w=w2) ∧
  I9 w2 base (.slice a' (xs.length+1) c') (xs ++ [x])∧Mv (fun b=>v.ownBlock=some b) w w2∧(∀ g,(Value.slice a' (xs.length+1) c').ownBlock=some g→v.ownBlock=some g∨w.heap.size≤g) :=
 oW Tryz.XU EC v _ xs [x] base w hrow (ax.bH (f:=ae.cells) (l:=[x]) EC hg (by simp [flat]) (by simp)) (fun y hy=>by rw [List.mem_singleton.1 hy];exact hone) hb (by simp;omega)
def Pe (w:World) (x:ae) (e:Ending) (w':World):Prop:=∃ y:ae,e = .returned y.val∧y.t=x.t∧iF (fun b=>w.heap.size≤b) w' y∧Grow w w'
theorem IV {k n:Int} {s:ByteArray} {kv:Value} {l:List ae} (i:Nat) (h:i<l.length):aW l[i].t<aW (ae.t (.mk k n s kv l))∧l.length<aW (ae.t (.mk k n s kv l)):=by
 have h1:∀ (l:List Tree) (i:Nat) (h:i<l.length),aW l[i]≤cu l:=by
  intro l
  induction l with
  | nil=>intro i h;simp at h
  | cons t l ih =>
   intro i h;rw [cu];cases i with
   | zero=>simp
   | succ i=>have:=ih i (by simpa using h);simp;omega
 have h2:∀ l:List Tree,l.length≤cu l:=by
  intro l
  induction l with
  | nil=>simp
  | cons t l ih=>rw [cu,List.length_cons];cases t;rw [aW];omega
 have e1:=h1 (ae.ts l) i (by rw [ae.cZ];exact h);have e2:=h2 (ae.ts l);rw [ae.gK l i h] at e1;rw [ae.cZ] at e2;rw [ae.t,aW];omega
theorem WU:∀ (m:Nat) (x:ae),SizeOf.sizeOf x≤m→aW x.t≤900000→∀ w:World,aV w x→Calls Tryz.prog 60 #[x.val] w (Pe w x):=by
 intro m
 induction m with
 | zero=>intro x hm;cases x;simp at hm
 | succ m ih =>
  intro x hm hsz w hx;obtain ⟨k,n,s,kv,l⟩:=x;obtain ⟨ka,kc,rfl,hkc,hkl⟩:=hx.form;have fG:=ł (fun (i:Nat) (hi:i<l.length) (z:World) (hz:Grow w z)=>ih l[i] (by
   have:=nV (k:=k) (n:=n) (s:=s) (kv := .slice ka l.length kc) (List.getElem_mem hi)
   omega) (by have:=IV (k:=k) (n:=n) (s:=s) (kv := .slice ka l.length kc) i hi;omega) z ((hx.row.2.2.2.2 _ (List.getElem_mem hi)).later hz))
  have kG:=ł (fun (i:Nat) (hi:i<l.length)=>show l.length≤900000 from by have:=IV (k:=k) (n:=n) (s:=s) (kv := .slice ka l.length kc) i hi;omega);have mU:=ł hx;obtain ⟨aL,bC,HG2⟩:=a2 w (.cells #[.int .u8 k,.int .i64 n,.string s,.slice ka l.length kc] 24) (.cells #[.int .u8 0,.int .i64 0,.string ⟨#[]⟩,.slice none 0 0] 24);have HS2:=ł (show ((w.alloc (.cells #[.int .u8 k,.int .i64 n,.string s,.slice ka l.length kc] 24)).alloc (.cells #[.int .u8 0,.int .i64 0,.string ⟨#[]⟩,.slice none 0 0] 24)).heap.size=w.heap.size+2 from by simp);clear hx hsz ih;simp only [ae.val]
  go_enter Tryz.func60,Tryz.ntmps60
  obtain ⟨⟨n0,n1⟩,n2,n3⟩:=aF aL.out;have hln:=lt_of_block aL.out;go_wp2_with fail;generalize ((w.alloc (.cells #[.int .u8 k,.int .i64 n,.string s,.slice ka l.length kc] 24)).alloc (.cells #[.int .u8 0,.int .i64 0,.string ⟨#[]⟩,.slice none 0 0] 24))=w2 at *;clear n0 n1 n2 n3 hln
  go_loopw [3,9] (fun cv t wr=>∃ (j:Nat) (xs:List ae),t = .int .i64 j∧j≤l.length∧xs.length=j∧I9 wr w2.heap.size cv xs∧(∀ i (h:i<xs.length) (h':i<l.length),xs[i].t=l[i].t)∧(∀ y∈xs,iF (fun b=>w2.heap.size≤b∧cv.ownBlock≠some b) wr y)∧Grow w2 wr) (fun _ t _=>l.length - (intOf t).toNat)
  case atStart=>exact ⟨0,[],rfl,Nat.zero_le _,rfl,World.ownsRow_nil _ _ _ _,by simp,by simp,Mv.refl _ _⟩
  obtain ⟨j,xs,rfl,hj,hxl,hrow,hts,hno,hg⟩:=hrel;have iZ:=ł hrow;have AY:=ł hts;have mM:=ł hno;have HG:=ł hg;obtain ⟨ra,rc,AL⟩:=gz hrow;rw [hxl] at AL;subst AL;clear hrow hts hno hg;by_cases hlt:j<l.length
  · obtain ⟨kb,ko,yG,cz,-,-⟩:=mU.out.row.2.2.2.1.at (show 0<l.length by omega);simp only [Value.slice.injEq,true_and] at cz;obtain ⟨rfl,rfl⟩:=cz;have iO:=(eY mU.out j hlt).later (gtr HG2.out HG.out);have HC:=ł (fun z hz=>fG.out j hlt z hz);have Dw:=ł (kG.out j hlt);have Ty:=ł (fun (y:ae) (hy:y.t=l[j].t)=>show ∀ i (h:i<(xs ++ [y]).length) (h':i<l.length),(xs ++ [y])[i].t=l[i].t from by
     intro i h h';by_cases hi:i<xs.length
     · rw [List.getElem_append_left hi];exact AY.out i hi h'
     · simp at h;obtain rfl:i=j:=by omega
       rw [List.getElem_append_right (by omega)];simpa using hy)
    generalize l[j]=y at *;obtain ⟨yk,yn,ys,yv,yl⟩:=y;obtain ⟨ya,yc,rfl,-,-⟩:=iO.at_.form;obtain ⟨⟨d0,d1⟩,d2,d3⟩:=iO.four;simp only [ae.val] at HC;have hbl:kb<wr.heap.size:=World.block_lt_of_cell? wr _ d0;have xP:=ł (heap_alloc_new wr (.cells #[.int .u8 yk,.int .i64 yn,.string ys,.slice ya yl.length yc] 24));clear iO;go_wp2_with fail;refine (HC.out _ (gtr HG2.out (HG.out.alloc (.cells #[.int .u8 yk,.int .i64 yn,.string ys,.slice ya yl.length yc] 24)))).mono ?_;rintro e w4 ⟨y2,rfl,hy2,FY,hg⟩;have aN:=ł (gtr ((Mv.refl _ wr).alloc (.cells #[.int .u8 yk,.int .i64 yn,.string ys,.slice ya yl.length yc] 24)) hg);have Z6:=ł (Ty.out y2 hy2);have hs4:wr.heap.size+1≤w4.heap.size:=by have:=hg.size;simpa using this
    have HR4:=ł (bQ iZ.out aN.out (fun _ _ e=>e));have uI:=ł (fun y (hy:y∈xs)=>(mM.out y hy).stay aN.out (fun _ _ _ _ _ e=>e));have Ld:=ł (fun b (hb:(Value.slice ra j rc).ownBlock=some b)=>show b<wr.heap.size from (iZ.out.lt b hb).2);have rE:=ł (FY.weak (P':=fun b=>w2.heap.size≤b∧(Value.slice ra j rc).ownBlock≠some b) (fun b _ hb=>⟨by have:=HG.out.size;simp only [World.size_alloc] at hb;omega,fun e=>by have:=Ld.out b e;simp only [World.size_alloc] at hb;omega⟩));have hone:=FY.one;obtain ⟨zk,zn,zs,zv,zl⟩:=y2;have hyf:=FY.at.form';clear hg FY hbl d0 d1 d2 d3 xP HC Ty hy2;have hg5:Grow w4 (w4.alloc (.cells #[.int .u8 zk,.int .i64 zn,.string zs,zv] 24)):=(Mv.refl _ w4).alloc _;obtain ⟨za,zc,rfl⟩:=hyf;obtain ⟨a',c',y,⟨hok,hv,hw⟩,hrow2,bE,hnew⟩:=XV _ (.mk zk zn zs (.slice za zl.length zc) zl) xs w2.heap.size w4.heap.size _ (bQ HR4.out hg5 (fun _ _ e=>e)) (by have:=HG.out.size;have:=aN.out.size;simp only [World.size_alloc];omega) (by have:=Dw.out;omega) hone (heap_alloc_new w4 _);have Cv:=ł hnew;have xA:=ł hrow2;have mO:=ł (((Mv.refl (fun b=>(Value.slice ra j rc).ownBlock=some b) w4).alloc _).trans bE (fun x e => .inl e));have hgrow:=(gtr HG.out aN.out).trans mO.out (fun b e => .inr (by have:=(iZ.out.lt b e).1;omega));have bV:=ł hgrow;simp only [hxl] at hok hv hw xA Cv;clear hgrow hrow2 bE hnew hone hg5;simp only [ae.val];go_wp2_with fail;refine ⟨⟨j+1,xs ++ [.mk zk zn zs (.slice za zl.length zc) zl],by simp,by omega,by simp [hxl],xA.out,Z6.out,fun x hx => ?_,bV.out⟩,by simp [intOf] <;> omega⟩;have hx4:iF (fun b=>w2.heap.size≤b∧(Value.slice ra j rc).ownBlock≠some b) w4 x:=by
     rcases List.mem_append.1 hx with h | h
     · exact uI.out x h
     · rw [List.mem_singleton.1 h];exact rE.out
    have hx5:=hx4.weak (P':=fun b=>(w2.heap.size≤b∧(Value.slice ra j rc).ownBlock≠some b)∧b<w4.heap.size) (fun b hb hp=>⟨hp,hb⟩);refine (hx5.stay mO.out (fun b cs z hp hc e=>hp.1.2 e)).weak (fun b hb hp=>⟨hp.1.1,fun e => ?_⟩);rcases Cv.out b e with h | h
    · exact hp.1.2 h
    · simp only [World.size_alloc] at h;have:=hp.2;omega
  · obtain rfl:j=l.length:=by omega
    have hnb:=ai aL.out HG.out;have hrb:=ai bC.out HG.out;obtain ⟨hs1,hs2⟩:=O0 hnb (.slice ra l.length rc);have HY:=ł (show iF (fun b=>w.heap.size+2≤b) wr (.mk k n s (.slice ra l.length rc) xs) from by
     have hr:=gP EC iZ.out;refine .mk mU.out.row.1 mU.out.row.2.1 mU.out.row.2.2.1 hr (fun b hb => ?_) (fun y hy=>(mM.out y hy).weak (fun b _ h=>by have:=h.1;have:=HS2.out;omega));obtain ⟨h1,h2⟩:=tT iZ.out b hb;exact ⟨by have:=HS2.out;omega,h2⟩)
    have HT:=ł (show ae.t (.mk k n s (.slice ra l.length rc) xs)=ae.t (.mk k n s (.slice ka l.length kc) l) from by
     rw [ae.t,ae.t,ae.dP,ae.dP];congr 1;refine List.ext_getElem (by simp [hxl]) (fun i h1 h2 => ?_);simp only [List.getElem_map];exact AY.out i (by simpa using h1) (by simpa using h2))
    obtain ⟨⟨c0,c1⟩,c2,c3⟩:=aF hnb;have hlb:=lt_of_block hnb;have zt:=aJ hnb;obtain ⟨⟨q0,q1⟩,q2,q3⟩:=aF hs1;have Cw:(wr.setCell ⟨w.heap.size,3,none⟩ (.slice ra l.length rc)).heap[w.heap.size+1]? = some (.cells #[.int .u8 0,.int .i64 0,.string ⟨#[]⟩,.slice none 0 0] 24 (0,0)):=by rw [hs2.block _ (lt_of_block hrb) (by omega)];exact hrb
    obtain ⟨⟨r0,r1⟩,r2,r3⟩:=aF Cw;have hlr:=lt_of_block Cw;have zr:=aJ Cw;obtain ⟨ht1,ht2⟩:=qU Cw (.int .u8 k) (.int .i64 n) (.string s) (.slice ra l.length rc);have mO:=ł (show Mv (fun b=>b=w.heap.size∨b=w.heap.size+1) wr _ from (hs2.mono (fun b e => .inl (.inl e))).trans ht2 (fun b e => .inl (.inr e)));have HB:=ł ht1;clear hs1 hs2 Cw ht1 ht2 hnb hrb;go_wp2_with fail;obtain ⟨⟨t0,t1⟩,t2,t3⟩:=aF HB.out;refine bodyPost_ret (v:=ae.val (.mk k n s (.slice ra l.length rc) xs)) (by simp [results,Tryz.results60,go_sem,t0,t1,t2,t3,ae.val]) rfl ⟨_,rfl,HT.out,(HY.out.stay mO.out (fun b cs z hp hc e=>by omega)).weak (fun b _ h=>by omega),?_⟩;exact (gtr HG2.out HG.out).trans mO.out (fun b e => .inr (by omega))
theorem NJ (x:ae) (w:World) (hs:aW x.t≤900000) (h:aV w x):Calls Tryz.prog 60 #[x.val] w (Pe w x):=WU _ x (Nat.le_refl _) hs w h
end
section
open Go.RowKit
def GM (Ts:TypeId→Bool) (B:Nat) (W:World) (b:Nat):Prop:=b<B∨∃ cs t z,W.heap[b]? = some (.cells cs t z)∧Ts t=true
def Ac (W:World) (b:Nat):Prop:=∃ o,W.heap[b]? = some o∧o.isCells=false
def uU (Ts:TypeId→Bool) (W:World) (b:Nat):Prop:=∃ cs t z,W.heap[b]? = some (.cells cs t z)∧Ts t=false
abbrev Aw (Ts:TypeId→Bool) (B:Nat) (W W':World):Prop:=Mv (fun b=>¬ GM Ts B W b) W W'
abbrev xm (Ts:TypeId→Bool) (B:Nat) (W W':World):Prop:=Mv (fun b=>¬ (GM Ts B W b∨Ac W b)) W W'
abbrev jS (Ts:TypeId→Bool) (W W':World):Prop:=Mv (fun b=>¬ uU Ts W b) W W'
abbrev mD (Ts:TypeId→Bool) (B:Nat) (W W':World):Prop:=Mv (fun b=>¬ (uU Ts W b∨(B≤b∧Ac W b))) W W'
theorem UN {p:World→Nat→Prop} (hp:∀ A B b,B.heap[b]? = A.heap[b]? → p A b→p B b) {A B C:World} (h:Mv (fun b=>¬ p A b) A B) (k:Mv (fun b=>¬ p B b) B C):Mv (fun b=>¬ p A b) A C :=
 h.trans k (fun b hb=>by
  rcases Nat.lt_or_ge b A.heap.size with hl | hl
  · exact .inl fun ha=>hb (hp A B b (h.block b hl (fun e=>e ha)) ha)
  · exact .inr hl)
theorem XW {Ts:TypeId→Bool} (X Y:World) (b:Nat) (h:Y.heap[b]? = X.heap[b]?):uU Ts X b→uU Ts Y b
 | ⟨cs,t,z,hc,ht⟩=>⟨cs,t,z,by rw [h];exact hc,ht⟩
theorem tQ {Ts:TypeId→Bool} {X Y Z:World} (h:jS Ts X Y) (k:jS Ts Y Z):jS Ts X Z:=UN (p:=uU Ts) XW h k
theorem Mv.putObj {O:Nat→Prop} (W:World) (l:Nat) (o:Obj) (hO:O l):Mv O W (W.putObj l o):=(Mv.refl O W).grown (grownBy_putObj' W l o) (fun k e=>by cases e;exact .inl hO)
theorem xW {Ts:TypeId→Bool} {B:Nat} {W:World} {l:Nat} {o:Obj} (hB:B≤l) (hl:W.heap[l]? = some o) (ho:o.isCells=false) (o':Obj):Aw Ts B W (W.putObj l o') :=
 Mv.putObj W l o' (by
  rintro (h | ⟨cs,t,z,hc,-⟩)
  · omega
  · rw [hl] at hc;cases hc;cases ho)
theorem ME {Ts:TypeId→Bool} {W:World} {l:Nat} {o:Obj} (hl:W.heap[l]? = some o) (ho:o.isCells=false) (o':Obj):jS Ts W (W.putObj l o') :=
 Mv.putObj W l o' (by
  rintro ⟨cs,t,z,hc,-⟩;rw [hl] at hc;cases hc;cases ho)
theorem mD.bd {Ts:TypeId→Bool} {B:Nat} {W W':World} (h:mD Ts B W W'):jS Ts W W':=h.mono (fun _ hb => .inl fun e=>hb (.inl e))
theorem mD.same {Ts:TypeId→Bool} {B:Nat} {W W':World} (h:mD Ts B W W') {l:Nat} {o:Obj} (hl:W.heap[l]? = some o) (ho:o.isCells=false) (hB:B≤l):W'.heap[l]? = some o :=
 (h.block l (Array.getElem?_eq_some_iff.1 hl).1 (fun e=>e (.inr ⟨hB,o,hl,ho⟩))).trans hl
theorem xm.same {Ts:TypeId→Bool} {B:Nat} {W W':World} (h:xm Ts B W W') {l:Nat} {o:Obj} (hl:W.heap[l]? = some o) (ho:o.isCells=false):W'.heap[l]? = some o :=
 (h.block l (Array.getElem?_eq_some_iff.1 hl).1 (fun e=>e (.inr ⟨o,hl,ho⟩))).trans hl
def Ov {α:Type} (P:Program) (Ts:TypeId→Bool) (g:Nat) (lb:Array Value) (encs:α→Array Value) (S Sp:List α→Prop) (w:World):Prop :=
 ∀ (l:Nat) (J Jx:List α→World→Prop) (W:World),Mv (fun b=>False) w W→(∀ s X Y,J s X→xm Ts W.heap.size X Y→J s Y)→(∀ s X Y,Jx s X→xm Ts W.heap.size X Y→Jx s Y) →
  (∀ pre x W1,J pre W1→Sp (pre ++ [x])→YieldAt Fence.wide 10 P l (encs x) W1 fun e W' =>
   (e = .returned (.bool true)∧J (pre ++ [x]) W'∧jS Ts W1 W')∨(e = .returned (.bool false)∧Jx (pre ++ [x]) W')) →
  J [] W→Calls P g (#[.func (.yield l) #[] #[]] ++ lb) W fun e W'=>(∃ v,e = .returned v)∧((∃ xs,S xs∧J xs W')∨(∃ pre,Sp pre∧Jx pre W'))
def bodyPostC {α:Type} (Ts:TypeId→Bool) (B:Nat) (I:List α→World→Prop) (Ix:Code→List α→World→Prop) (xs:List α) (W:World):Exit→Act→World→Prop
 | .normal,_,W'=>mD Ts B W W'∧I xs W'
 | .ret,_,W'=>mD Ts B W W'∧Ix .ret xs W'
 | .exit id,_,W'=>mD Ts B W W'∧Ix (.exit id) xs W'
 | .goto t,_,W'=>mD Ts B W W'∧Ix (.goto t) xs W'
 | .panic _,_,_=>False
 | .outgrown,_,_=>False
theorem Uj {α:Type} {P:Program} (Ts:TypeId→Bool) {g:Operand} {ps:Array Tmp} {assign body:Code} {Q:Exit→Act→World→Prop} {a:Act} {w:World} {gf:Nat} {lb:Array Value} (hg:a.eval g = .func (.func gf) #[] lb) (eg:∀ args w,(callFunc gf args).run P w = .ok (.enter gf args) w)
 {encs:α→Array Value} {S Sp:List α→Prop} {w0:World} (hseq:Ov P Ts gf lb encs S Sp w0) (hb0:Mv (fun _=>False) w0 w) (hps:∀ x,(encs x).size=ps.size)
 (I:List α→World→Prop) (Ix:Code→List α→World→Prop) (hI:∀ s X Y,I s X→Aw Ts w.heap.size X Y→I s Y) (hIx:∀ c s X Y,Ix c s X→Aw Ts w.heap.size X Y→Ix c s Y) (h0:I [] w)
 (Ax:Act→α→Act→World→Prop) (hAx:∀ x a' X l o o',Ax a x a' X→X.heap[l]? = some o→o.isCells=false→Ax a x a' (X.putObj l o'))
 (hassign:∀ (l:Nat) (pre:List α) (x:α) (W:World) (K:Act→World→Prop),I pre W→(∀ a' W',Mv (fun _=>False) W W'→I pre W'→Ax a x a' W'→K a' W') →
  assign.wpIn (Fence.wide.inRound l) 10 P (Exit.then K (fun _ _ _=>False)) { tmps:=(ps.zip (encs x)).foldl (fun t (p,v)=>t.setIfInBounds p v) a.tmps,defers:=[] } W)
 (hbody:∀ (l:Nat) (pre:List α) (x:α) (a':Act) (W:World),I pre W→Ax a x a' W→Sp (pre ++ [x])→body.wpIn (Fence.wide.inRound l) 10 P (bodyPostC Ts w.heap.size I Ix (pre ++ [x]) W) a' W)
 (hdone:∀ (D:Nat) (xs:List α) (W:World),w.heap.size≤D→S xs→I xs W→W.heap[D]? = some (.deferred (some []))→Q .normal { a with defers := { target := .collected D,args:=#[] } :: a.defers } W)
 (hstop:∀ (D:Nat) (c:Code) (pre:List α) (W:World),w.heap.size≤D→Sp pre→Ix c pre W→W.heap[D]? = some (.deferred (some []))→c.wp P Q { a with defers := { target := .collected D,args:=#[] } :: a.defers } W) :
 (Code.rangeFunc g ps assign body).wp P Q a w:=by
 refine (wpIn_wide (n:=0)).1 (wpIn_rangeFunc ?_);intro fn hfn;rw [Fence.wide_round];obtain ⟨rec,hrec⟩:∃ rec:LoopState→Option Code→Loop,rec=fun st pe => { state:=st,pending:=pe,fn,tmps:=a.tmps,params:=ps,assign,body,defers:=w.heap.size } := ⟨_,rfl⟩;obtain ⟨W1,hW1⟩:∃ W1,(w.alloc (.deferred (some []))).alloc (.loop (rec .ready none))=W1:=⟨_,rfl⟩;have hL1:W1.heap[w.heap.size+1]? = some (.loop (rec .ready none)):=by
  rw [← hW1];have:=World.alloc_heap_new (w.alloc (.deferred (some []))) (.loop (rec .ready none));rwa [World.size_alloc] at this
 have hK1:W1.heap[w.heap.size]? = some (.deferred (some [])):=by
  rw [← hW1];exact (Below.heap_alloc _ _ _ (by simp)).trans (World.alloc_heap_new w _)
 have hS1:W1.heap.size=w.heap.size+2:=by rw [← hW1];simp
 have hI1:I [] W1:=by rw [← hW1];exact hI _ _ _ h0 (((Mv.refl _ w).alloc _).alloc _)
 have hb1:Mv (fun _=>False) w0 W1:=by rw [← hW1];exact (hb0.alloc _).alloc _
 refine ⟨w.heap.size+1,[{ target := .collected w.heap.size,args:=#[] }],W1,{ target := .fn (.func gf) lb,args:=#[.func (.yield (w.heap.size+1)) #[] #[]] },W1,gf,
  #[.func (.yield (w.heap.size+1)) #[] #[]] ++ lb,W1,?_,?_,fun _ _=>trivial,?_,fun e=>by simp [Fence.wide] at e,?_⟩
 · rw [← hW1,hrec];exact run_enterLoop_outer _ _ _ _ _
 · simp only [resolve,hg];simp [go_sem]
 · simp [invoke,go_sem,eg]
 · have hnw:∀ {X Y:World},xm Ts W1.heap.size X Y→Aw Ts w.heap.size X Y:=fun h=>h.mono (fun b hb => .inl fun e=>hb (.inl (e.elim (fun h => .inl (by omega)) .inr)));refine callsIn_wide.2 ((hseq (w.heap.size+1)
    (fun pre W=>I pre W∧W.heap[w.heap.size+1]? = some (.loop (rec .ready none))∧W.heap[w.heap.size]? = some (.deferred (some [])))
    (fun pre W=>∃ c,Ix c pre W∧W.heap[w.heap.size+1]? = some (.loop (rec .done (some c)))∧W.heap[w.heap.size]? = some (.deferred (some [])))
    W1 hb1 (fun s X Y hs hm=>⟨hI s X Y hs.1 (hnw hm),hm.same hs.2.1 rfl,hm.same hs.2.2 rfl⟩)
    (fun s X Y hs hm=>by obtain ⟨c,hc,hl,hk⟩:=hs;exact ⟨c,hIx c s X Y hc (hnw hm),hm.same hl rfl,hm.same hk rfl⟩)
    ?_ ⟨hI1,hL1,hK1⟩).mono ?_)
   · rintro pre x W ⟨hi,hl,hk⟩ hsp;have hy:=run_yield (P:=P) (args:=encs x) hl (by rw [hrec];exact hps x);rw [hrec] at hy;refine ⟨fn,_,assign,body,hy,roundIn_of_wpIn hfn (hassign _ pre x W _ hi ?_)⟩;clear hy;intro a' Wa hga hia hax;have hla:=(hga.block _ (Array.getElem?_eq_some_iff.1 hl).1 (fun e=>e)).trans hl;have hka:=(hga.block _ (Array.getElem?_eq_some_iff.1 hk).1 (fun e=>e)).trans hk;have hlt:w.heap.size+1<Wa.heap.size:=(Array.getElem?_eq_some_iff.1 hla).1;refine ⟨_,run_beginRound hla (by rw [hrec]),?_⟩;have hl2:(Wa.putObj (w.heap.size+1) (.loop { rec .ready none with state := .busy })).heap[w.heap.size+1]? = some (.loop { rec .ready none with state := .busy }):=World.putObj_heap_same hlt;have hk2:(Wa.putObj (w.heap.size+1) (.loop { rec .ready none with state := .busy })).heap[w.heap.size]? = some (.deferred (some [])):=(World.putObj_heap_other (by omega)).trans hka;have hw2:jS Ts W (Wa.putObj (w.heap.size+1) (.loop { rec .ready none with state := .busy })):=tQ (hga.mono (fun _ e=>e.elim)) (ME hla rfl _);refine wpIn_mono (hbody _ pre x a' _ (hI _ _ _ hia (xW (by omega) hla rfl _)) (hAx _ _ _ _ _ _ hax hla rfl) hsp) ?_;have fin:∀ (jump:Option Code) (W3:World),mD Ts w.heap.size (Wa.putObj (w.heap.size+1) (.loop { rec .ready none with state := .busy })) W3 →
      (Instr.endRound (w.heap.size+1) jump).run P W3 = .ok (.bool jump.isNone) (W3.putObj (w.heap.size+1) (.loop (rec (if jump.isNone then .ready else .done) jump))) ∧
      W3.heap[w.heap.size+1]? = some (.loop { rec .ready none with state := .busy }) ∧
      (W3.putObj (w.heap.size+1) (.loop (rec (if jump.isNone then .ready else .done) jump))).heap[w.heap.size+1]? = some (.loop (rec (if jump.isNone then .ready else .done) jump)) ∧
      (W3.putObj (w.heap.size+1) (.loop (rec (if jump.isNone then .ready else .done) jump))).heap[w.heap.size]? = some (.deferred (some [])):=fun jump W3 hk3=>by
      have hl3:=hk3.same hl2 rfl (by omega);have:=run_endRound (P:=P) jump hl3;rw [hrec] at this ⊢;exact ⟨this,by rw [hrec] at hl3;exact hl3,World.putObj_heap_same (Array.getElem?_eq_some_iff.1 hl3).1,(World.putObj_heap_other (by omega)).trans (hk3.same hk2 rfl (Nat.le_refl _))⟩
     rintro e a3 W3 hp;cases e with
     | normal =>
      obtain ⟨hk3,hi3⟩:=hp;obtain ⟨hr,hl3,hl4,hk4⟩:=fin none W3 hk3;exact ⟨_,_,hr,.inl ⟨rfl,⟨hI _ _ _ hi3 (xW (by omega) hl3 rfl _),hl4,hk4⟩,tQ (tQ hw2 hk3.bd) (ME hl3 rfl _)⟩⟩
     | ret =>
      obtain ⟨hk3,hi3⟩:=hp;obtain ⟨hr,hl3,hl4,hk4⟩:=fin (some .ret) W3 hk3;exact ⟨_,_,hr,.inr ⟨rfl,.ret,hIx _ _ _ _ hi3 (xW (by omega) hl3 rfl _),hl4,hk4⟩⟩
     | exit id =>
      obtain ⟨hk3,hi3⟩:=hp;obtain ⟨hr,hl3,hl4,hk4⟩:=fin (some (.exit id)) W3 hk3;exact ⟨_,_,hr,.inr ⟨rfl,.exit id,hIx _ _ _ _ hi3 (xW (by omega) hl3 rfl _),hl4,hk4⟩⟩
     | goto t =>
      obtain ⟨hk3,hi3⟩:=hp;obtain ⟨hr,hl3,hl4,hk4⟩:=fin (some (.goto t)) W3 hk3;exact ⟨_,_,hr,.inr ⟨rfl,.goto t,hIx _ _ _ _ hi3 (xW (by omega) hl3 rfl _),hl4,hk4⟩⟩
     | panic ch=>exact hp.elim
     | outgrown=>exact hp.elim
   · rintro e W2 ⟨⟨v,rfl⟩,(⟨xs,hS,hi,hl,hk⟩ | ⟨pre,hSp,c,hi,hl,hk⟩)⟩
     · exact ⟨none,_,by have:=run_endLoop (P:=P) hl (by rw [hrec];simp);rw [hrec] at this;exact this,hdone _ xs _ (Nat.le_refl _) hS (hI _ _ _ hi (xW (by omega) hl rfl _)) ((World.putObj_heap_other (by omega)).trans hk)⟩
     · exact ⟨some c,_,by have:=run_endLoop (P:=P) hl (by rw [hrec];simp);rw [hrec] at this;exact this,wpIn_wide.2 (hstop _ c pre _ (Nat.le_refl _) hSp (hIx c _ _ _ hi (xW (by omega) hl rfl _)) ((World.putObj_heap_other (by omega)).trans hk))⟩
theorem Vb {P:Program} {f:FuncId} {fn:Func} {c:Code} {args:Array Value} {w:World} {R:Ending→World→Prop} (hf:P.funcs[f]? = some fn) (hb:fn.body=some c)
 (h:c.wp P (bodyPostM Fence.wide 10 P fn R) { tmps:=args ++ Array.replicate (fn.ntmps - args.size) undef,defers:=[] } w):Calls P f args w R :=
 callsIn_wide.1 (callsIn_of_wp_marks (n:=10) hf hb trivial (wpIn_wide.2 h))
theorem Ir {P:Program} {fn:Func} {a:Act} {w:World} {v:Value} {R:Ending→World→Prop} (h:(results fn a.tmps).run P w = .ok v w) (hd:a.defers=[]) (hR:R (.returned v) w):bodyPostM Fence.wide 10 P fn R .ret a w:=by
 unfold bodyPostM;simp only [hd];exact ⟨v,h,hR⟩
theorem MU {P:Program} {fn:Func} {a:Act} {w:World} {v:Value} {D:Nat} {R:Ending→World→Prop} (hK:w.heap[D]? = some (.deferred (some []))) (h:(results fn a.tmps).run P (w.putObj D (.deferred none)) = .ok v (w.putObj D (.deferred none))) (hd:a.defers=[{ target := .collected D,args:=#[] }]) (hR:R (.returned v) (w.putObj D (.deferred none))):bodyPostM Fence.wide 10 P fn R .ret a w:=by
 unfold bodyPostM;simp only [hd];exact ⟨by simp,.inl ⟨D,_,rfl,run_takeDeferred hK,v,h,hR⟩⟩
end
end Go.Proofs.YtnobahchcongnaaGreatDoor
