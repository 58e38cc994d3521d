import Derived.Test.YtnobahchcongnaaGreatDoorR46
import Derived.Deep.AppendLies
import Derived.ProofKit
import Derived.OpenShut
import Derived.Deep.Slices
import Derived.Below
set_option linter.unusedSimpArgs false
set_option linter.unusedVariables false
set_option maxRecDepth 100000
set_option maxHeartbeats 25600000
namespace Go.Proofs.YtnobahchcongnaaGreatDoor
section
open Go.RowKit
attribute [local go_sem ↓] ni
theorem Tryz._3:(Tryz.prog.info? 106).map (λi=>(i.zero,i.size,i.bytes))=some (some (.agg #[.int .i64 0,.int .i64 0]),2,16):=by kernel_rfl
theorem Li (v:Value) (x:eB) (xs:List eB) (base:Nat) (w:World) (hrow:mV w base v xs) (hb:base<=w.heap.size) (hlen:xs.length<=4398046511104) :
 ∃ a' c' w2,(qG Tryz.prog 104 104 v (.slice (some ⟨w.heap.size,0,none⟩) 1 1) (w.alloc (.cells #[.int .i64 x.1,.int .i64 x.2] 106)) /\
  nA Tryz.prog 104 104 v (.slice (some ⟨w.heap.size,0,none⟩) 1 1) (w.alloc (.cells #[.int .i64 x.1,.int .i64 x.2] 106)) = .slice a' (xs.length+1) c'/\appW Tryz.prog 104 104 v (.slice (some ⟨w.heap.size,0,none⟩) 1 1) (w.alloc (.cells #[.int .i64 x.1,.int .i64 x.2] 106))=w2) /\
  mV w2 base (.slice a' (xs.length+1) c') (xs ++ [x])/\Mv (λb=>v.ownBlock=some b) w w2/\(∀ g,(Value.slice a' (xs.length+1) c').ownBlock=some g->v.ownBlock=some g\/w.heap.size<=g):=by
 obtain⟨i0,hi,hz0,hz1,hz2⟩:=info_parts Tryz._3;obtain⟨v',w2,hr,hown1,hgrow,_,hnew⟩:=Pe (P:=Tryz.prog) (w.alloc (.cells #[.int .i64 x.1,.int .i64 x.2] 106)) base 104 104 106 i0 (.agg #[.int .i64 0,.int .i64 0]) 2 16 Tryz.underlying104 hi hz0 hz1 hz2 rfl (by decide) v _ _ (hrow.alloc _) ⟨w.heap.size,0,none⟩ 1 1 [.int .i64 x.1,.int .i64 x.2] rfl
  (World.news_of_block (cs:=#[.int .i64 x.1,.int .i64 x.2]) (t:=106) (fr:=(0,0)) (heap_alloc_new w _)) (by simp[Value.oneCell']) (by unfold maxLen;omega) (by omega) (by simp;omega)
 have hform:∃ a' c',v' = .slice a' (xs.length+1) c':=by
  rcases hown1.2 with⟨_,h0⟩|⟨g,cap,cur,rfl,_⟩
  · omega
  · exact⟨_,_,rfl⟩
 obtain⟨a',c',rfl⟩:=hform;obtain⟨hok,hv,hw2⟩:=wR hr;refine⟨a',c',w2,⟨hok,hv,hw2⟩,?_,((Mv.refl _ _).alloc _).grown hgrow (λk hk => .inl hk),λg hg => ?_⟩
 · rw[mV,Xn];simpa using hown1
 · rcases hnew g hg with h1|h1
   · exact .inl h1
   · exact .inr (by simp at h1;omega)
def wV (p:List eB × List eB) (s:dA):Option (List eB × List eB) :=
 if s.kind=1 then some (p.1 ++ [(s.at',1)],p.2)else if s.kind=2 then some (p.1 ++ [(s.at',s.len)],p.2)else if s.kind=3 then some (p.1,p.2 ++ [(s.at',1)])else none
def qD (l:List dA) (k:Nat):Option (List eB × List eB):=(l.take k).foldlM wV ([],[])
def wY (l:List dA) (cells stacks:Int):Bool:=match qD l l.length with
 |none=>false
 |some p=>o9 p.1 0 cells && o9 p.2 1 stacks
theorem Px (l:List dA) (k:Nat) (h:k<l.length):qD l (k+1)=(qD l k).bind λp=>wV p l[k]:=by
 unfold qD;rw[List.take_succ_eq_append_getElem h,List.foldlM_append];simp
theorem Py (l:List dA):∀ (d k:Nat),k+d<=l.length->qD l k=none->qD l (k+d)=none
 |0,_,_,h=>h
 |d+1,k,hk,h=>by
  have:=Py l d (k+1) (by omega) (by rw[Px l k (by omega),h];rfl);rwa[show k+1+d=k+(d+1) by omega]at this
structure vK (w w1:World) (cv sv:Value) (cs ss:List eB):Prop where
 g:Grow w1 w
 c:mV w w1.heap.size cv cs
 s:mV w w1.heap.size sv ss
 d:∀ g,cv.ownBlock=some g->sv.ownBlock≠some g
theorem mV.stay {w w':World} {base:Nat} {v:Value} {l:List eB} {O:Nat->Prop} (h:mV w base v l) (hm:Mv O w w') (hO:∀ g,v.ownBlock=some g->¬ O g):mV w' base v l:=by
 refine⟨h.1,?_⟩;rcases h.2 with h1|⟨g,cap,cur,rfl,hb,hg,rest⟩
 · exact .inl h1
 · exact .inr ⟨g,cap,cur,rfl,hb,by rw[hm.block g (lt_of_block hg) (hO g rfl)];exact hg,rest⟩
theorem mV.slice {w:World} {base:Nat} {v:Value} {l:List eB} (h:mV w base v l):∃ a c,v = .slice a l.length c:=by
 rcases h.2 with⟨rfl,hl⟩|⟨g,cap,cur,rfl,_⟩
 · exact⟨none,0,by rw[hl]⟩
 · exact⟨_,_,rfl⟩
theorem vK.Uo {w w1 w2:World} {cv sv xM:Value} {cs cs2 ss:List eB} (h:vK w w1 cv sv cs ss) (h2:mV w2 w1.heap.size xM cs2) (hm:Mv (λb=>cv.ownBlock=some b) w w2) (hn:∀ g,xM.ownBlock=some g->cv.ownBlock=some g\/w.heap.size<=g):vK w2 w1 xM sv cs2 ss:=by
 refine⟨h.g.trans hm (λx e => .inr (h.c.lt x e).1),h2,h.s.stay hm (λg hg e=>h.d g e hg),λg hg e => ?_⟩;rcases hn g hg with h3|h3
 · exact h.d g h3 e
 · have:=(h.s.lt g e).2;omega
theorem vK.acv {w w1 w2:World} {cv sv yh:Value} {cs ss WH:List eB} (h:vK w w1 cv sv cs ss) (h2:mV w2 w1.heap.size yh WH) (hm:Mv (λb=>sv.ownBlock=some b) w w2) (hn:∀ g,yh.ownBlock=some g->sv.ownBlock=some g\/w.heap.size<=g):vK w2 w1 cv yh cs WH:=by
 refine⟨h.g.trans hm (λx e => .inr (h.s.lt x e).1),h.c.stay hm (λg hg e=>h.d g hg e),h2,λg hg e => ?_⟩;rcases hn g e with h3|h3
 · exact h.d g hg h3
 · have:=(h.c.lt g hg).2;omega
theorem vK.alloc {w w1:World} {cv sv:Value} {cs ss:List eB} (h:vK w w1 cv sv cs ss) (o:Obj):vK (w.alloc o) w1 cv sv cs ss:=⟨h.g.alloc o,h.c.alloc o,h.s.alloc o,h.d⟩
theorem XE (fv:Value) (l:List dA) (cells stacks:Int) (w:World) (h:az 4 dA.cells w fv l) (afw:l.length<=4398046511104) :
 Calls Tryz.prog 19 #[.agg #[fv,.int .i64 cells,.int .i64 stacks]] w λe w'=>e = .returned (.bool (wY l cells stacks))/\Grow w w':=by
 obtain⟨fa,EO,rfl,aeI,aeJ⟩:=h.form;have HR:=ł h;have hg0:Grow w (w.alloc (.cells #[.slice fa l.length EO,.int .i64 cells,.int .i64 stacks] 27)):=(Mv.refl _ _).alloc _;have Uq:=heap_alloc_new w (.cells #[.slice fa l.length EO,.int .i64 cells,.int .i64 stacks] 27);have FY:=ł hg0;have IB:=ł Uq;clear h hg0 Uq
 go_enter Tryz.func19,Tryz.ntmps19
 go_wp2_with fail;have hsz1:w.heap.size<(w.alloc (.cells #[.slice fa l.length EO,.int .i64 cells,.int .i64 stacks] 27)).heap.size:=by simp
 generalize w.alloc (.cells #[.slice fa l.length EO,.int .i64 cells,.int .i64 stacks] 27)=w1 at *
 go_loopw [3,4,10] (λcv sv t wr=>∃ (k:Nat) (cs ss:List eB),t = .int .i64 k/\k<=l.length/\qD l k=some (cs,ss)/\cs.length<=k/\ss.length<=k/\vK wr w1 cv sv cs ss) (λ_ _ t _=>l.length - (intOf t).toNat)
 case atStart=>exact⟨0,[],[],rfl,Nat.zero_le _,rfl,Nat.le_refl _,Nat.le_refl _,Mv.refl _ _,World.ownsRow_nil _ _ _ _,World.ownsRow_nil _ _ _ _,by simp[Value.ownBlock]⟩
 obtain⟨k,cs,ss,rfl,hk,hsk,hcl,hsl,hp⟩:=hrel;have BH:=ł hsk;clear hsk;by_cases hlt:k<l.length
 · obtain⟨b,off,cap',e,_,hcc⟩:=(HR.out.later (Mv.trans FY.out hp.g (λ_ e=>e.elim))).at hlt;simp only[Value.slice.injEq,true_and]at e;obtain⟨rfl,rfl⟩:=e;have c0:=hcc 0 _ rfl;have c1:=hcc 1 _ rfl;have c2:=hcc 2 _ rfl;have c3:=hcc 3 _ rfl;simp only[Nat.add_zero]at c0;have hbl:b<wr.heap.size:=World.block_lt_of_cell? wr _ c0;have HS:=ł (Px l k hlt);have Ny:=ł (λhn=>Py l (l.length - (k+1)) (k+1) (by omega) hn);generalize hx:l[k]=x at *;obtain⟨xs,xk,xl,xt⟩:=x;simp only at c0 c1 c2 c3;clear hcc hx;by_cases hk1:xk=1
   · subst hk1;have nS:=hp.alloc (.cells #[.string xs,.int .u8 1,.int .i64 xl,.int .i64 xt] 95);obtain⟨a',c',w2,⟨hok,hv,hw⟩,hrow2,bz,yY⟩:=Li _ (xt,1) _ _ _ nS.c nS.g.size (by omega);rw[World.size_alloc]at hok hv hw;have ym:=ł (nS.Uo hrow2 bz yY);have zM:=ł (show qD l (k+1)=some (cs ++ [(xt,1)],ss)from by rw[HS.out,BH.out];simp[wV]);obtain⟨va,vc,FZ⟩:=hp.c.slice;subst FZ;clear hp nS hrow2 bz yY;go_wp2_with fail
     go_roundw
     case rel=>exact⟨k+1,_,_,by go_num,by omega,zM.out,by first|omega|(simp;omega),by first|omega|(simp;omega),by simpa using ym.out⟩
     case measure=>simp[intOf];omega
   · have n1:(xk == 1)=false:=by simpa using hk1
     by_cases hk2:xk=2
     · subst hk2;have nS:=hp.alloc (.cells #[.string xs,.int .u8 2,.int .i64 xl,.int .i64 xt] 95);obtain⟨a',c',w2,⟨hok,hv,hw⟩,hrow2,bz,yY⟩:=Li _ (xt,xl) _ _ _ nS.c nS.g.size (by omega);rw[World.size_alloc]at hok hv hw;have ym:=ł (nS.Uo hrow2 bz yY);have zM:=ł (show qD l (k+1)=some (cs ++ [(xt,xl)],ss)from by rw[HS.out,BH.out];simp[wV]);obtain⟨va,vc,FZ⟩:=hp.c.slice;subst FZ;clear hp nS hrow2 bz yY;go_wp2_with fail
       go_roundw
       case rel=>exact⟨k+1,_,_,by go_num,by omega,zM.out,by first|omega|(simp;omega),by first|omega|(simp;omega),by simpa using ym.out⟩
       case measure=>simp[intOf];omega
     · have n2:(xk == 2)=false:=by simpa using hk2
       by_cases hk3:xk=3
       · subst hk3;have nS:=hp.alloc (.cells #[.string xs,.int .u8 3,.int .i64 xl,.int .i64 xt] 95);obtain⟨a',c',w2,⟨hok,hv,hw⟩,hrow2,bz,yY⟩:=Li _ (xt,1) _ _ _ nS.s nS.g.size (by omega);rw[World.size_alloc]at hok hv hw;have ym:=ł (nS.acv hrow2 bz yY);have zM:=ł (show qD l (k+1)=some (cs,ss ++ [(xt,1)])from by rw[HS.out,BH.out];simp[wV]);obtain⟨va,vc,FZ⟩:=hp.s.slice;subst FZ;clear hp nS hrow2 bz yY;go_wp2_with fail
         go_roundw
         case rel=>exact⟨k+1,_,_,by go_num,by omega,zM.out,by first|omega|(simp;omega),by first|omega|(simp;omega),by simpa using ym.out⟩
         case measure=>simp[intOf];omega
       · have n3:(xk == 3)=false:=by simpa using hk3
         have HF:=ł (show wY l cells stacks=false from by
          have h1:qD l (k+1)=none:=by rw[HS.out,BH.out];simp[wV,hk1,hk2,hk3]
          have h2:=Ny.out h1;rw[show k+1+(l.length - (k+1))=l.length by omega]at h2;simp[wY,h2])
         have wh:=ł (Mv.trans FY.out hp.g (λ_ e=>e.elim));clear hk1 hk2 hk3 hp;go_wp2_with fail;go_ret;exact⟨aK (by rw[HF.out]),wh.out.alloc _⟩
 · obtain rfl:k=l.length:=by omega
   have F3:=ł (show wY l cells stacks=(o9 cs 0 cells && o9 ss 1 stacks)from by simp[wY,BH.out]);have hbr:wr.heap[w.heap.size]? = some (.cells #[.slice fa l.length EO,.int .i64 cells,.int .i64 stacks] 27 (0,0)):=by
    rw[hp.g.block _ hsz1 (λh=>h)];exact IB.out
   have b1:wr.cell? ⟨w.heap.size,1,none⟩=some (.int .i64 cells):=by simp[World.cell?,hbr]
   have abv:=hp.g.size;have HBR:=ł hbr;have HP:=ł hp;have HA1:=ł (QR _ _ cs 0 cells wr hp.c (by omega));obtain⟨ca,cc,hcf⟩:=hp.c.slice;obtain⟨sa,sc,hsf⟩:=hp.s.slice;subst hcf;subst hsf;clear hbr hp;go_wp2_with fail;refine HA1.out.mono ?_;rintro e w2 ⟨rfl,hm2⟩;have Ej:Grow w w2:=(Mv.trans FY.out HP.out.g (λ_ e=>e.elim)).trans hm2 (λx e => .inr (by have:=(HP.out.c.lt x e).1;have:=FY.out.size;omega));have hne:Value.ownBlock (.slice ca cs.length cc)≠some w.heap.size:=λe=>by have:=(HP.out.c.lt _ e).1;omega
   have b2:w2.cell? ⟨w.heap.size,2,none⟩=some (.int .i64 stacks):=by
    have h1:w2.heap[w.heap.size]? = wr.heap[w.heap.size]? := hm2.block _ (by omega) hne;simp[World.cell?,h1,HBR.out]
   have HA2:=ł (QR _ _ ss 1 stacks w2 (HP.out.s.stay hm2 (λg hg e=>HP.out.d g e hg)) (by omega));have HS2:=ł (show ∀ x,Value.ownBlock (.slice sa ss.length sc)=some x->w.heap.size<=x from λx e=>by have:=(HP.out.s.lt x e).1;have:=FY.out.size;omega);have sI:=ł Ej;generalize o9 cs 0 cells=q at *;clear hm2 Ej hne b1;cases q
   · go_wp2_with fail;go_ret;exact⟨aK (by rw[F3.out];rfl),sI.out⟩
   · go_wp2_with fail;refine HA2.out.mono ?_;rintro e w3 ⟨rfl,jL⟩;have IG:=ł (show Grow w w3 from sI.out.trans jL (λx e => .inr (HS2.out x e)));clear jL;go_wp2_with fail;go_ret;exact⟨aK (by rw[F3.out];rfl),IG.out⟩
end
section
open Go.RowKit Go.Instr
structure oO (f:ax) (procs:List ak) (t:Tree):Prop where
 sz:0<=lN t 80
 ns:f.slots.length<=30
 c0:0<=f.cells
 c1:f.cells<=500
 s0:0<=f.stacks
 s1:f.stacks<=100
 np:procs.length<=8
 dj:wY f.slots f.cells f.stacks=true
 pr:pY procs
theorem aaH (w:World) (x:ae) (sv pv:Value) (f:ax) (procs:List ak) (hx:aR w x) (hf:fE w sv f) (hp:mg w pv procs) :
 Calls Tryz.prog 6 #[x.val,.agg #[sv,.int .i64 f.cells,.int .i64 f.stacks],pv] w (Ni w (oO f procs x.t)):=by
 obtain⟨k,n,s,kv,l⟩:=x;obtain⟨ka,kc,rfl,-,-⟩:=hx.form;obtain⟨fa,fc,rfl,hfc,hfl⟩:=hf.row.form;obtain⟨pa,pc,rfl,-,hpl⟩:=hp.row.form;obtain⟨HB0,HB1,HG2⟩:=a2 w (.cells #[.int .u8 k,.int .i64 n,.string s,.slice ka l.length kc] 24) (.cells #[.slice fa f.slots.length fc,.int .i64 f.cells,.int .i64 f.stacks] 27);have jq:=ł (λ(z:World) (hz:Grow w z)=>_Y (.mk k n s (.slice ka l.length kc) l) 80 z (hx.later hz) (by decide) (by decide));have F3:=ł (λ(hns:f.slots.length<=30) (z:World) (hz:Grow w z)=>XE (.slice fa f.slots.length fc) f.slots f.cells f.stacks z (hf.later hz).row (by omega));have fZ:=ł hp;have Fy:=ł hfl;clear hx hf hp;simp only[ae.val]at jq ⊢;obtain⟨⟨n0,n1⟩,n2,n3⟩:=aC HB0.out;have hl0:=lt_of_block HB0.out
 go_enter Tryz.func6,Tryz.ntmps6
 go_wp2_with fail;generalize ((w.alloc (.cells #[.int .u8 k,.int .i64 n,.string s,.slice ka l.length kc] 24)).alloc (.cells #[.slice fa f.slots.length fc,.int .i64 f.cells,.int .i64 f.stacks] 27))=w2 at *;refine(jq.out _ HG2.out).mono ?_;clear n0 n1 n2 n3 hl0 jq;rintro e w4 ⟨rfl,hg4⟩;have aP:=ł (gtr HG2.out hg4);obtain⟨f0,f1,f2⟩:=cK (ai HB1.out hg4);have hl1:=lt_of_block (ai HB1.out hg4);clear hg4 HB0 HB1 HG2;have HT:=ł (show oO f procs (ae.t (.mk k n s (.slice ka l.length kc) l))->oO f procs (ae.t (.mk k n s (.slice ka l.length kc) l))from id);generalize ae.t (.mk k n s (.slice ka l.length kc) l)=t at *;generalize hsl:lN t 80=S at *;have lD:=ł hsl;clear hsl HT;by_cases h1:S<0
 · have g1:decide (S<0)=true:=by simp;omega
   have HX:=ł (λ(h:oO f procs t)=>show False from by have:=h.sz;have:=lD.out;omega);clear h1;go_wp2_with fail;go_ret;exact⟨false,rfl,⟨λh=>(by cases h),λh=>(HX.out h).elim⟩,aP.out⟩
 have g1:decide (S<0)=false:=by simp;omega
 by_cases h2:30<f.slots.length
 · have g2:decide ((30:Int)<(f.slots.length:Int))=true:=by simp;omega
   have HX:=ł (λ(h:oO f procs t)=>show False from by have:=h.ns;omega);clear h2;go_wp2_with fail;go_ret;exact⟨false,rfl,⟨λh=>(by cases h),λh=>(HX.out h).elim⟩,aP.out⟩
 have g2:decide ((30:Int)<(f.slots.length:Int))=false:=by simp;omega
 by_cases h3:f.cells<0
 · have g3:decide (f.cells<0)=true:=by simp;omega
   have HX:=ł (λ(h:oO f procs t)=>show False from by have:=h.c0;omega);clear h3;go_wp2_with fail;go_ret;exact⟨false,rfl,⟨λh=>(by cases h),λh=>(HX.out h).elim⟩,aP.out⟩
 have g3:decide (f.cells<0)=false:=by simp;omega
 by_cases h4:500<f.cells
 · have g4:decide (500<f.cells)=true:=by simp;omega
   have HX:=ł (λ(h:oO f procs t)=>show False from by have:=h.c1;omega);clear h4;go_wp2_with fail;go_ret;exact⟨false,rfl,⟨λh=>(by cases h),λh=>(HX.out h).elim⟩,aP.out⟩
 have g4:decide (500<f.cells)=false:=by simp;omega
 by_cases h5:f.stacks<0
 · have g5:decide (f.stacks<0)=true:=by simp;omega
   have HX:=ł (λ(h:oO f procs t)=>show False from by have:=h.s0;omega);clear h5;go_wp2_with fail;go_ret;exact⟨false,rfl,⟨λh=>(by cases h),λh=>(HX.out h).elim⟩,aP.out⟩
 have g5:decide (f.stacks<0)=false:=by simp;omega
 by_cases h6:100<f.stacks
 · have g6:decide (100<f.stacks)=true:=by simp;omega
   have HX:=ł (λ(h:oO f procs t)=>show False from by have:=h.s1;omega);clear h6;go_wp2_with fail;go_ret;exact⟨false,rfl,⟨λh=>(by cases h),λh=>(HX.out h).elim⟩,aP.out⟩
 have g6:decide (100<f.stacks)=false:=by simp;omega
 by_cases h7:8<procs.length
 · have g7:decide ((8:Int)<(procs.length:Int))=true:=by simp;omega
   have HX:=ł (λ(h:oO f procs t)=>show False from by have:=h.np;omega);clear h7;go_wp2_with fail;go_ret;exact⟨false,rfl,⟨λh=>(by cases h),λh=>(HX.out h).elim⟩,aP.out⟩
 have g7:decide ((8:Int)<(procs.length:Int))=false:=by simp;omega
 have HB:=ł (And.intro h1 (And.intro h2 (And.intro h3 (And.intro h4 (And.intro h5 (And.intro h6 h7))))));have HD:=ł (F3.out (by omega) w4 aP.out);clear h1 h2 h3 h4 h5 h6 h7 F3;go_wp2_with fail;refine HD.out.mono ?_;clear HD f0 f1 f2 hl1;rintro e w5 ⟨rfl,hg5⟩;have aU:=ł (gtr aP.out hg5);clear hg5;cases hdj:wY f.slots f.cells f.stacks with
 |false =>
  have HX:=ł (λ(h:oO f procs t)=>show False from by have:=h.dj;rw[hdj]at this;cases this);clear hdj;go_wp2_with fail;go_ret;exact⟨false,rfl,⟨λh=>(by cases h),λh=>(HX.out h).elim⟩,aU.out⟩
 |true =>
  have HJ:=ł hdj;clear hdj;have hpb:procs.length<=8:=by have:=HB.out.2.2.2.2.2.2;omega
  go_wp2_with fail;clear g1 g2 g3 g4 g5 g6 g7
  go_loopw [52] (λu wr=>∃ j:Nat,u = .int .i64 j/\j<=procs.length/\(∀ i (h:i<procs.length),i<j->jf procs[i].params=0)/\Grow w wr) (λu _=>procs.length - (intOf u).toNat)
  case atStart=>exact⟨0,rfl,Nat.zero_le _,λi _ h=>absurd h (Nat.not_lt_zero _),aU.out⟩
  obtain⟨j,rfl,hj,hall,hg⟩:=hrel;have dE:=ł hall;have HG:=ł hg;clear hall hg;by_cases hlt:j<procs.length
  · obtain⟨b,off,cap',e,_,hcc⟩:=(fZ.out.row.later HG.out).at hlt;simp only[Value.slice.injEq,true_and]at e;obtain⟨rfl,rfl⟩:=e;have hxo:=(fZ.out.each procs[j] (List.getElem_mem hlt)).later HG.out;have HST:=ł (λ(e:jf procs[j].params=0) (i:Nat) (h:i<procs.length) (hi:i<j+1)=>show jf procs[i].params=0 from by
     rcases Nat.lt_or_ge i j with h3|h3
     · exact dE.out i h h3
     · obtain rfl:i=j:=by omega
       exact e)
    have kJ:=ł (λ(e:jf procs[j].params≠0) (h:oO f procs t)=>show False from e (h.pr _ (List.getElem_mem hlt)));generalize procs[j]=x at HST kJ hxo hcc;obtain⟨xn,xp,Vk,xb⟩:=x;obtain⟨xa,xc,rfl,-,-⟩:=hxo.form;have uC:=hxo.body;obtain⟨bk,bn,bs,Jk,bl⟩:=xb;simp only at uC;obtain⟨ba,bc,rfl,-,-⟩:=uC.form;have c0:=hcc 0 _ rfl;have c1:=hcc 1 _ rfl;have c2:=hcc 2 _ rfl;have c3:=hcc 3 _ rfl;have c4:=hcc 4 _ rfl;have c5:=hcc 5 _ rfl;simp only[Nat.add_zero]at c0;simp only at HST kJ;have hbl:b<wr.heap.size:=World.block_lt_of_cell? wr _ c0;have hga:Grow wr (wr.alloc (.cells #[.string xn,.slice xa xp.length xc,.int .u8 bk,.int .i64 bn,.string bs,.slice ba bl.length bc] 60)):=(Mv.refl _ _).alloc _;have aM:=ł hga;have uM:=ł (G8 _ xp _ (hxo.params.later hga));have hyb:=heap_alloc_new wr (.cells #[.string xn,.slice xa xp.length xc,.int .u8 bk,.int .i64 bn,.string bs,.slice ba bl.length bc] 60);obtain⟨⟨y0,y1,y2⟩,y3,y4,y5⟩:=yz hyb;have lV:=lt_of_block hyb;simp only[Ib]at uM;clear hcc hxo uC hga hyb;go_wp2_with fail;refine uM.out.mono ?_;clear uM c0 c1 c2 c3 c4 c5 hbl y0 y1 y2 y3 y4 y5 lV;rintro e w6 ⟨yh,rfl,hfa,WI⟩;have di:=ł (gtr (gtr HG.out aM.out) WI);obtain⟨qa,qc,rfl,-,-⟩:=hfa.row.form;clear hfa WI;generalize (if jf xp=0 then frameC xp else iK)=fr at *;generalize jf xp=E at *;by_cases hE:E=0
    · subst hE;have HX:=ł (HST.out rfl);have gL:=ł (di.out.alloc (.cells #[.slice qa fr.slots.length qc,.int .i64 fr.cells,.int .i64 fr.stacks] 27));clear HST kJ;go_wp2_with fail
      go_roundw
      case rel=>exact⟨j+1,by go_num,by omega,HX.out,gL.out⟩
      case measure=>(simp[intOf] <;> omega)
    · have HX:=ł (kJ.out hE);have hb:(E != 0)=true:=by simpa using hE
      have gL:=ł (di.out.alloc (.cells #[.slice qa fr.slots.length qc,.int .i64 fr.cells,.int .i64 fr.stacks] 27));clear HST kJ hE;go_wp2_with fail;go_ret;exact⟨false,rfl,⟨λh=>(by cases h),λh=>(HX.out h).elim⟩,gL.out⟩
  · have HX:=ł (show oO f procs t from by
     obtain⟨h1,h2,h3,h4,h5,h6,h7⟩:=HB.out;refine⟨by have:=lD.out;omega,by omega,by omega,by omega,by omega,by omega,by omega,HJ.out,λp hp => ?_⟩;obtain⟨i,hi,rfl⟩:=List.mem_iff_getElem.1 hp;exact dE.out i hi (by omega))
    go_wp2_with fail;go_ret;exact⟨true,rfl,⟨λ_=>HX.out,λ_=>rfl⟩,HG.out⟩
end
section
open Go.RowKit Go.Deep Go.Instr
theorem Hd (b off k:Nat):(⟨b,off,none⟩:Addr).add k=⟨b,off+k,none⟩:=by unfold Addr.add;split <;> simp_all
section
variable {H:Type} {enc:TypeId × Value->H} {W:World}
abbrev Wt (t:TypeId) (d:DataW H):Prop:=(d.weights Tryz.prog t).all (· <= reachBytes)=true
theorem J7 {e:TypeId} : ∀ {l:List (DataW H)} {d:DataW H},d∈l->(DataW.weightsAll Tryz.prog e l).all (· <= reachBytes)=true->Wt e d
 | [],d,h,_=>by cases h
 |x :: r,d,h,hw=>by
  simp only[DataW.weightsAll,List.all_append,Bool.and_eq_true]at hw;rcases List.mem_cons.1 h with rfl|h
  · exact hw.1
  · exact J7 h hw.2
theorem open_row {α:Type} (f:α->List Value) (n:Nat) {t e:TypeId} (ht:Tryz.prog.underlying t=some (.slice e)) (hc:Tryz.prog.cellsOf e=n) (hn:0<n) (hfl:∀ a,(f a).length=n) (Ok:α->Prop)
 (hopen:∀ (fuel:Nat) (cs:List Value) (y:DataW H × List MemPlace),DataW.trod enc Tryz.prog W 0 (λ_=>true) true fuel e cs=some y->Wt e y.1->∃ a,cs=f a/\Ok a)
 {fuel:Nat} {cs:List Value} {x:DataW H × List MemPlace} (h:DataW.trod enc Tryz.prog W 0 (λ_=>true) true fuel t cs=some x) (hw:Wt t x.1) :
 ∃ v l,cs=[v]/\az n f W v l/\(∀ a∈l,Ok a)/\l.length * Tryz.prog.bytesOf e<=reachBytes:=by
 rcases open_slice ht h with⟨hcs,hx⟩|⟨a,len,cap,m,k,D,Pl,hcs,_,hl,hm,hme,hx,hel⟩
 · exact⟨_,[],hcs,az.nil _ _ _,by simp,by simp⟩
 · simp only[if_true]at hme;subst hme;subst hx;simp only[Wt,DataW.weights,ht,List.all_cons,List.all_append,Bool.and_eq_true,decide_eq_true_eq,List.length_map,List.length_range]at hw;obtain⟨hw1,hw2,hw3⟩:=hw;rw[hc]at hel;have Nq:∀ i:Fin len,∃ o:α,W.cells? 0 (a.add (i.1 * n)) n=some (f o)/\Ok o:=by
    intro i;obtain⟨cs',hc1,ht1⟩:=hel i.1 (by have:=i.2;omega);obtain⟨o,rfl,hok⟩:=hopen _ _ _ ht1 (J7 (List.mem_map.2 ⟨i.1,List.mem_range.2 i.2,rfl⟩) hw2);exact⟨o,hc1,hok⟩
   obtain⟨o,ho⟩:=Classical.axiomOfChoice Nq;refine⟨_,List.ofFn o,hcs,⟨some a,m,by simp,by simpa using hl,by unfold maxLen at hm;simp;omega,λi x hx => ?_⟩,λx hx => ?_,?_⟩
   · have hi:i<len:=by have:=(List.getElem?_eq_some_iff.1 hx).1;simpa using this
     simp[hi]at hx;subst hx;have hcell:∀ j (hj:j<len) r (u:Value),(f (o ⟨j,hj⟩))[r]? = some u->W.cell? ((a.add (j * n)).add r)=some u:=by
      intro j hj r u hu;obtain⟨_,_,hcc⟩:=World.cells?_some (ho ⟨j,hj⟩).1;have hr:r<n:=by rw[← hfl (o ⟨j,hj⟩)];exact(List.getElem?_eq_some_iff.1 hu).1
      rw[hcc r hr];exact hu
     have hsp:a.spot=none:=by
      have hz:0<len:=by omega
      have h0:(f (o ⟨0,hz⟩))[0]? = some ((f (o ⟨0,hz⟩))[0]'(by rw[hfl];exact hn)):=List.getElem?_eq_getElem _;have:=World.cell?_spot (hcell 0 hz 0 _ h0)
      simpa[Addr.add]using this
     obtain⟨b,off,spot⟩:=a;simp only at hsp;subst hsp;refine⟨b,off,rfl,λr u hu => ?_⟩;have:=hcell i hi r u hu;rw[Hd,Hd]at this;exact this
   · obtain⟨i,rfl⟩:=(List.mem_ofFn).1 hx;exact(ho i).2
   · simp only[List.length_ofFn];refine Nat.le_trans ?_ hw1;exact Nat.mul_le_mul_right _ (by omega)
theorem ZU {α:Type} (f:α->List Value) (n:Nat) {t e:TypeId} (ht:Tryz.prog.underlying t=some (.slice e)) (hc:Tryz.prog.cellsOf e=n) (hn:0<n) (hfl:∀ a,(f a).length=n) (Ok:α->Prop)
 {x:DataW H × List MemPlace} (hopen:∀ (fuel:Nat) (cs:List Value) (y:DataW H × List MemPlace),SizeOf.sizeOf y.1<SizeOf.sizeOf x.1->DataW.trod enc Tryz.prog W 0 (λ_=>true) true fuel e cs=some y->Wt e y.1->∃ a,cs=f a/\Ok a)
 {fuel:Nat} {cs:List Value} (h:DataW.trod enc Tryz.prog W 0 (λ_=>true) true fuel t cs=some x) (hw:Wt t x.1) :
 ∃ v l,cs=[v]/\az n f W v l/\(∀ a∈l,Ok a)/\l.length * Tryz.prog.bytesOf e<=reachBytes:=by
 rcases open_slice ht h with⟨hcs,hx⟩|⟨a,len,cap,m,k,D,Pl,hcs,_,hl,hm,hme,hx,hel⟩
 · exact⟨_,[],hcs,az.nil _ _ _,by simp,by simp⟩
 · simp only[if_true]at hme;subst hme;subst hx;simp only[Wt,DataW.weights,ht,List.all_cons,List.all_append,Bool.and_eq_true,decide_eq_true_eq,List.length_map,List.length_range]at hw;obtain⟨hw1,hw2,hw3⟩:=hw;rw[hc]at hel;have Nq:∀ i:Fin len,∃ o:α,W.cells? 0 (a.add (i.1 * n)) n=some (f o)/\Ok o:=by
    intro i;obtain⟨cs',hc1,ht1⟩:=hel i.1 (by have:=i.2;omega);have hsz:SizeOf.sizeOf (D i.1)<SizeOf.sizeOf (DataW.slice ((List.range len).map D) ((List.range (m - len)).map λj=>D (len+j))):=by
     have:=List.sizeOf_lt_of_mem (List.mem_map.2 ⟨i.1,List.mem_range.2 i.2,rfl⟩:D i.1∈(List.range len).map D);simp only[DataW.slice.sizeOf_spec];omega
    obtain⟨o,rfl,hok⟩:=hopen _ _ _ hsz ht1 (J7 (List.mem_map.2 ⟨i.1,List.mem_range.2 i.2,rfl⟩) hw2);exact⟨o,hc1,hok⟩
   obtain⟨o,ho⟩:=Classical.axiomOfChoice Nq;refine⟨_,List.ofFn o,hcs,⟨some a,m,by simp,by simpa using hl,by unfold maxLen at hm;simp;omega,λi x hx => ?_⟩,λx hx => ?_,?_⟩
   · have hi:i<len:=by have:=(List.getElem?_eq_some_iff.1 hx).1;simpa using this
     simp[hi]at hx;subst hx;have hcell:∀ j (hj:j<len) r (u:Value),(f (o ⟨j,hj⟩))[r]? = some u->W.cell? ((a.add (j * n)).add r)=some u:=by
      intro j hj r u hu;obtain⟨_,_,hcc⟩:=World.cells?_some (ho ⟨j,hj⟩).1;have hr:r<n:=by rw[← hfl (o ⟨j,hj⟩)];exact(List.getElem?_eq_some_iff.1 hu).1
      rw[hcc r hr];exact hu
     have hsp:a.spot=none:=by
      have hz:0<len:=by omega
      have h0:(f (o ⟨0,hz⟩))[0]? = some ((f (o ⟨0,hz⟩))[0]'(by rw[hfl];exact hn)):=List.getElem?_eq_getElem _;have:=World.cell?_spot (hcell 0 hz 0 _ h0)
      simpa[Addr.add]using this
     obtain⟨b,off,spot⟩:=a;simp only at hsp;subst hsp;refine⟨b,off,rfl,λr u hu => ?_⟩;have:=hcell i hi r u hu;rw[Hd,Hd]at this;exact this
   · obtain⟨i,rfl⟩:=(List.mem_ofFn).1 hx;exact(ho i).2
   · simp only[List.length_ofFn];refine Nat.le_trans ?_ hw1;exact Nat.mul_le_mul_right _ (by omega)
theorem He {n:Int} (h:(Lit.int .i64 n).wf=true):In64 n:=by
 simp only[Lit.wf,Bool.and_eq_true,decide_eq_true_eq]at h;have e1:IntKind.i64.min = -9223372036854775808:=by decide
 have e2:IntKind.i64.max=9223372036854775807:=by decide
 rw[e1,e2]at h;exact h
theorem abg {n:Int} (h:(Lit.int .u8 n).wf=true):0<=n/\n<=255:=by
 simp only[Lit.wf,Bool.and_eq_true,decide_eq_true_eq]at h;have e1:IntKind.u8.min=0:=by decide
 have e2:IntKind.u8.max=255:=by decide
 rw[e1,e2]at h;exact h
theorem Tryz.Hf:Tryz.prog.cellsOf 9=1:=by kernel_rfl
theorem Tryz.DD:Tryz.prog.cellsOf 3=1:=by kernel_rfl
theorem Tryz.Lx:Tryz.prog.cellsOf 5=1:=by kernel_rfl
theorem Tryz.Ru:Tryz.prog.cellsOf 50=3:=by kernel_rfl
theorem Tryz.QS:Tryz.prog.cellsOf 95=4:=by kernel_rfl
theorem Tryz.ZV:Tryz.prog.cellsOf 51=1:=by kernel_rfl
theorem Tryz.Y5:Tryz.prog.cellsOf 25=1:=by kernel_rfl
theorem Tryz.Y6:Tryz.prog.cellsOf 27=3:=by kernel_rfl
theorem Tryz.KW:Tryz.prog.cellsOf 24=4:=by kernel_rfl
theorem Tryz.Y7:Tryz.prog.cellsOf 22=1:=by kernel_rfl
theorem Tryz.QT:Tryz.prog.cellsOf 60=6:=by kernel_rfl
theorem _4 (fuel:Nat) (cs:List Value) (y:DataW H × List MemPlace) (h:DataW.trod enc Tryz.prog W 0 (λ_=>true) true fuel 50 cs=some y) (_:Wt 50 y.1):∃ a:bu,cs=a.cells/\(a.name.size<=9223372036854775807/\In64 a.len):=by
 obtain⟨xs,m,rfl,rfl,hcl,hxl,hf⟩:=DataW.trod_struct Tryz.underlying50 h;rw[Tryz.Ru]at hcl
 match cs,hcl with
 | [c0,c1,c2],_ =>
  match xs,hxl with
  | [x0,x1,x2],_ =>
   have f0:=hf 0 _ rfl;have f1:=hf 1 _ rfl;have f2:=hf 2 _ rfl;simp[Tryz.Hf,Tryz.DD,Tryz.Lx]at f0 f1 f2;obtain⟨s,e0,_,hs⟩:=DataW.trod_string Tryz.underlying9 f0;obtain⟨k,e1,_,_⟩:=DataW.trod_int Tryz.underlying5 f1;obtain⟨n,e2,_,hn⟩:=DataW.trod_int Tryz.underlying3 f2;simp at e0 e1 e2;subst e0 e1 e2;exact⟨⟨s,k,n⟩,rfl,by unfold maxLen at hs;exact hs,He hn⟩
theorem ZW (fuel:Nat) (cs:List Value) (y:DataW H × List MemPlace) (h:DataW.trod enc Tryz.prog W 0 (λ_=>true) true fuel 95 cs=some y) (_:Wt 95 y.1):∃ a:dA,cs=a.cells/\(a.name.size<=9223372036854775807/\In64 a.len/\In64 a.at'):=by
 obtain⟨xs,m,rfl,rfl,hcl,hxl,hf⟩:=DataW.trod_struct Tryz.underlying95 h;rw[Tryz.QS]at hcl
 match cs,hcl with
 | [c0,c1,c2,c3],_ =>
  match xs,hxl with
  | [x0,x1,x2,x3],_ =>
   have f0:=hf 0 _ rfl;have f1:=hf 1 _ rfl;have f2:=hf 2 _ rfl;have f3:=hf 3 _ rfl;simp[Tryz.Hf,Tryz.DD,Tryz.Lx]at f0 f1 f2 f3;obtain⟨s,e0,_,hs⟩:=DataW.trod_string Tryz.underlying9 f0;obtain⟨k,e1,_,_⟩:=DataW.trod_int Tryz.underlying5 f1;obtain⟨n,e2,_,hn⟩:=DataW.trod_int Tryz.underlying3 f2;obtain⟨q,e3,_,hq⟩:=DataW.trod_int Tryz.underlying3 f3;simp at e0 e1 e2 e3;subst e0 e1 e2 e3;exact⟨⟨s,k,n,q⟩,rfl,by unfold maxLen at hs;exact hs,He hn,He hq⟩
theorem KX:∀ (m:Nat) (fuel:Nat) (cs:List Value) (y:DataW H × List MemPlace),SizeOf.sizeOf y.1<=m->DataW.trod enc Tryz.prog W 0 (λ_=>true) true fuel 24 cs=some y->Wt 24 y.1->∃ x:ae,cs=x.cells/\aR W x
 |0,_,_,y,hm,_,_=>by
  obtain⟨y,z⟩:=y;cases y <;> simp at hm
 |m+1,fuel,cs,y,hm,h,hw=>by
  obtain⟨xs,n',rfl,rfl,hcl,hxl,hf⟩:=DataW.trod_struct Tryz.underlying24 h;rw[Tryz.KW]at hcl
  match cs,hcl with
  | [c0,c1,c2,c3],_ =>
   match xs,hxl with
   | [x0,x1,x2,x3],_ =>
    have f0:=hf 0 _ rfl;have f1:=hf 1 _ rfl;have f2:=hf 2 _ rfl;have f3:=hf 3 _ rfl;simp[Tryz.Hf,Tryz.DD,Tryz.Lx,Tryz.Y7]at f0 f1 f2 f3;simp only[Wt,DataW.weights,Tryz.underlying24,List.map_cons,List.map_nil,DataW.weightsEach,List.all_append,Bool.and_eq_true]at hw;obtain⟨_,_,_,hw3,_⟩:=hw;obtain⟨k,e0,_,hk⟩:=DataW.trod_int Tryz.underlying5 f0;obtain⟨n,e1,_,hn⟩:=DataW.trod_int Tryz.underlying3 f1;obtain⟨s,e2,_,hs⟩:=DataW.trod_string Tryz.underlying9 f2;have jL:SizeOf.sizeOf x3.1<=m:=by
     simp only[List.map_cons,List.map_nil,DataW.agg.sizeOf_spec,List.cons.sizeOf_spec]at hm;omega
    obtain⟨kv,kids,e3,hr,ho,_⟩:=ZU ae.cells 4 Tryz.underlying22 Tryz.KW (by decide) (λa=>by cases a;rfl) (aR W) (λfuel cs y hlt h1 h2=>KX m fuel cs y (by omega) h1 h2) f3 hw3;simp at e0 e1 e2 e3;subst e0 e1 e2 e3;exact⟨.mk k n s _ kids,rfl,.mk (abg hk) (He hn) (by unfold maxLen at hs;exact hs) hr ho⟩
theorem Y8 (fuel:Nat) (cs:List Value) (y:DataW H × List MemPlace) (h:DataW.trod enc Tryz.prog W 0 (λ_=>true) true fuel 27 cs=some y) (hw:Wt 27 y.1):∃ (sv:Value) (f:ax),cs=[sv,.int .i64 f.cells,.int .i64 f.stacks]/\fE W sv f/\∀ s∈f.slots,In64 s.at':=by
 obtain⟨xs,m,rfl,rfl,hcl,hxl,hf⟩:=DataW.trod_struct Tryz.underlying27 h;rw[Tryz.Y6]at hcl
 match cs,hcl with
 | [c0,c1,c2],_ =>
  match xs,hxl with
  | [x0,x1,x2],_ =>
   have f0:=hf 0 _ rfl;have f1:=hf 1 _ rfl;have f2:=hf 2 _ rfl;simp[Tryz.DD,Tryz.Y5]at f0 f1 f2;simp only[Wt,DataW.weights,Tryz.underlying27,List.map_cons,List.map_nil,DataW.weightsEach,List.all_append,Bool.and_eq_true]at hw;obtain⟨sv,ss,e0,hsl,hso,_⟩:=open_row dA.cells 4 Tryz.underlying25 Tryz.QS (by decide) (λ_=>rfl) _ ZW f0 hw.1;obtain⟨cl,e1,_,_⟩:=DataW.trod_int Tryz.underlying3 f1;obtain⟨st,e2,_,_⟩:=DataW.trod_int Tryz.underlying3 f2;simp at e0 e1 e2;subst e0 e1 e2;exact⟨_,⟨ss,cl,st⟩,rfl,⟨hsl⟩,λs hs=>(hso s hs).2.2⟩
theorem ZX (fuel:Nat) (cs:List Value) (y:DataW H × List MemPlace) (h:DataW.trod enc Tryz.prog W 0 (λ_=>true) true fuel 60 cs=some y) (hw:Wt 60 y.1):∃ p:ak,cs=p.cells/\wT W p:=by
 obtain⟨xs,m,rfl,rfl,hcl,hxl,hf⟩:=DataW.trod_struct Tryz.underlying60 h;rw[Tryz.QT]at hcl
 match cs,hcl with
 | [c0,c1,c2,c3,c4,c5],_ =>
  match xs,hxl with
  | [x0,x1,x2],_ =>
   have f0:=hf 0 _ rfl;have f1:=hf 1 _ rfl;have f2:=hf 2 _ rfl;simp[Tryz.Hf,Tryz.ZV,Tryz.KW]at f0 f1 f2;simp only[Wt,DataW.weights,Tryz.underlying60,List.map_cons,List.map_nil,DataW.weightsEach,List.all_append,Bool.and_eq_true]at hw;obtain⟨s,e0,_,hs⟩:=DataW.trod_string Tryz.underlying9 f0;obtain⟨pv,ps,e1,hp,hpo,_⟩:=open_row bu.cells 3 Tryz.underlying51 Tryz.Ru (by decide) (λ_=>rfl) _ _4 f1 hw.2.1;obtain⟨x,e2,hx⟩:=KX _ _ _ _ (Nat.le_refl _) f2 hw.2.2.1;simp at e0 e1;subst e0 e1;exact⟨⟨s,ps,_,x⟩,by rw[ak.cells,← e2],⟨by unfold maxLen at hs;exact hs,hp,hx⟩⟩
theorem Y9 (fuel:Nat) (cs:List Value) (y:DataW H × List MemPlace) (h:DataW.trod enc Tryz.prog W 0 (λ_=>true) true fuel 28 cs=some y) (hw:Wt 28 y.1):∃ v l,cs=[v]/\mg W v l:=by
 obtain⟨v,l,e,hr,ho,_⟩:=open_row ak.cells 6 Tryz.underlying28 Tryz.QT (by decide) (λp=>by obtain⟨s,ps,pv,b⟩:=p;cases b;rfl) _ ZX h hw;exact⟨v,l,e,hr,ho⟩
end
end
section
open Go.RowKit Go.Instr Go.Sort
theorem Za (l:List eB) (x:eB) (h:x∈l):x∈rX l:=by
 have hp:=(pdq_sorts (ltOf pz) Iu l.toArray 0 l.length (Lib.bitLen l.length) true true (Nat.zero_le _) (by simp) (Or.inl rfl)).1;have hs:(pdq (ltOf pz) l.toArray 0 l.length (Lib.bitLen l.length) true true).size=l.length:=by simpa using hp.1
 have h2:=hp.2.2;rw[show(l.toArray.extract 0 l.length)=l.toArray from by simp,Array.extract_eq_self_of_le (by omega)]at h2;exact h2.symm.subset h
theorem Yc (l:List eB) (x:eB) (h:x∈rX l):x∈l:=by
 have hp:=(pdq_sorts (ltOf pz) Iu l.toArray 0 l.length (Lib.bitLen l.length) true true (Nat.zero_le _) (by simp) (Or.inl rfl)).1;have hs:(pdq (ltOf pz) l.toArray 0 l.length (Lib.bitLen l.length) true true).size=l.length:=by simpa using hp.1
 have h2:=hp.2.2;rw[show(l.toArray.extract 0 l.length)=l.toArray from by simp,Array.extract_eq_self_of_le (by omega)]at h2;exact h2.subset h
theorem Qk (first count:Int) (hf:0<=first/\first<=1) (hc:count<=500):∀ (l:List eB) (used:Int),0<=used->vJ first count used l=true->(∀ x∈l,In64 x.1)->∀ x∈l,(first<=x.1/\x.1<first+count)/\1<=x.2/\x.2<=500
 | [],_,_,_,_,x,hx=>by cases hx
 |y :: l,used,hu,h,h64,x,hx=>by
  have hy:=h64 y (by simp);simp only[vJ]at h;split at h
  · cases h
  · rename_i h1;have hw:wrap64 (y.1 - first)=y.1 - first:=mO (by simp only[In64]at *;omega)
    rw[hw]at h;split at h
    · cases h
    · rename_i h2;simp only[not_or]at h2;obtain⟨a1,a2,a3,a4⟩:=h2;have hw2:wrap64 (count - (y.1 - first))=count - (y.1 - first):=mO (by simp only[In64]at *;omega);rw[hw2]at a4;have hw3:wrap64 (y.1 - first+y.2)=y.1 - first+y.2:=mO (by simp only[In64]at *;omega)
      rw[hw3]at h;rcases List.mem_cons.1 hx with rfl|hx
      · omega
      · exact Qk first count hf hc l _ (by omega) h (λz hz=>h64 z (by simp[hz])) x hx
theorem QU {l:List eB} {first count:Int} (hf:0<=first/\first<=1) (hc:count<=500) (h:o9 l first count=true) (h64:∀ x∈l,In64 x.1):∀ x∈l,(first<=x.1/\x.1<first+count)/\1<=x.2/\x.2<=500:=λx hx =>
 Qk first count hf hc _ 0 (by decide) h (λy hy=>h64 y (Yc l y hy)) x (Za l x hx)
theorem Sk:∀ (l:List dA) (p q:List eB × List eB),l.foldlM wV p=some q ->
 ((∀ x∈p.1,x∈q.1)/\(∀ x∈p.2,x∈q.2))/\(∀ s∈l,(s.kind=1/\(s.at',1)∈q.1)\/(s.kind=2/\(s.at',s.len)∈q.1)\/(s.kind=3/\(s.at',1)∈q.2)) /\
 (∀ x∈q.1,x∈p.1\/∃ s∈l,x.1=s.at')/\(∀ x∈q.2,x∈p.2\/∃ s∈l,x.1=s.at')
 | [],p,q,h=>by
  simp only[List.foldlM_nil,Option.pure_def,Option.some.injEq]at h;subst h;exact⟨⟨λ_ h=>h,λ_ h=>h⟩,λs hs=>(by cases hs),λx h => .inl h,λx h => .inl h⟩
 |s :: l,p,q,h=>by
  rw[List.foldlM_cons]at h;rcases hp:wV p s with _|p'
  · rw[hp]at h;cases h
  · rw[hp]at h;obtain⟨⟨i1,i2⟩,i3,i4,i5⟩:=Sk l p' q h;have hst:((∀ x∈p.1,x∈p'.1)/\(∀ x∈p.2,x∈p'.2))/\((s.kind=1/\(s.at',1)∈p'.1)\/(s.kind=2/\(s.at',s.len)∈p'.1)\/(s.kind=3/\(s.at',1)∈p'.2))/\(∀ x∈p'.1,x∈p.1\/x.1=s.at')/\(∀ x∈p'.2,x∈p.2\/x.1=s.at'):=by
     unfold wV at hp;split at hp
     · rename_i hk;simp only[Option.some.injEq]at hp;subst hp;refine⟨⟨λx hx=>by simp[hx],λx hx=>hx⟩,.inl ⟨hk,by simp⟩,λx hx => ?_,λx hx => .inl hx⟩;simp only[List.mem_append,List.mem_singleton]at hx;rcases hx with hx|rfl
       · exact .inl hx
       · exact .inr rfl
     · split at hp
       · rename_i hk;simp only[Option.some.injEq]at hp;subst hp;refine⟨⟨λx hx=>by simp[hx],λx hx=>hx⟩,.inr (.inl ⟨hk,by simp⟩),λx hx => ?_,λx hx => .inl hx⟩;simp only[List.mem_append,List.mem_singleton]at hx;rcases hx with hx|rfl
         · exact .inl hx
         · exact .inr rfl
       · split at hp
         · rename_i hk;simp only[Option.some.injEq]at hp;subst hp;refine⟨⟨λx hx=>hx,λx hx=>by simp[hx]⟩,.inr (.inr ⟨hk,by simp⟩),λx hx => .inl hx,λx hx => ?_⟩;simp only[List.mem_append,List.mem_singleton]at hx;rcases hx with hx|rfl
           · exact .inl hx
           · exact .inr rfl
         · cases hp
    obtain⟨⟨s1,s2⟩,s3,s4,s5⟩:=hst;refine⟨⟨λx hx=>i1 x (s1 x hx),λx hx=>i2 x (s2 x hx)⟩,λt ht => ?_,λx hx => ?_,λx hx => ?_⟩
    · rcases List.mem_cons.1 ht with rfl|ht
      · rcases s3 with⟨a,b⟩|⟨a,b⟩|⟨a,b⟩
        · exact .inl ⟨a,i1 _ b⟩
        · exact .inr (.inl ⟨a,i1 _ b⟩)
        · exact .inr (.inr ⟨a,i2 _ b⟩)
      · exact i3 t ht
    · rcases i4 x hx with h|⟨t,ht,e⟩
      · rcases s4 x h with h|h
        · exact .inl h
        · exact .inr ⟨s,by simp,h⟩
      · exact .inr ⟨t,by simp[ht],e⟩
    · rcases i5 x hx with h|⟨t,ht,e⟩
      · rcases s5 x h with h|h
        · exact .inl h
        · exact .inr ⟨s,by simp,h⟩
      · exact .inr ⟨t,by simp[ht],e⟩
theorem aaI {f:ax} (h:wY f.slots f.cells f.stacks=true) (hc:f.cells<=500) (hs:f.stacks<=100) (h64:∀ s∈f.slots,In64 s.at'):∀ s∈f.slots,(0<=s.at'/\s.at'<=500)/\(s.kind=2->0<=s.len/\s.len<=500):=λs hsm=>by
 unfold wY at h;rcases hq:qD f.slots f.slots.length with _|q
 · rw[hq]at h;cases h
 · rw[hq]at h;simp only[Bool.and_eq_true]at h;unfold qD at hq;rw[List.take_length]at hq;obtain⟨-,h2,h3,h4⟩:=Sk _ _ _ hq;have a1:=QU (by omega) hc h.1 (λx hx=>by
    rcases h3 x hx with h|⟨t,ht,e⟩
    · cases h
    · rw[e];exact h64 t ht)
   have a2:=QU (by omega) (by omega) h.2 (λx hx=>by
    rcases h4 x hx with h|⟨t,ht,e⟩
    · cases h
    · rw[e];exact h64 t ht)
   rcases h2 s hsm with⟨hk,hm⟩|⟨hk,hm⟩|⟨hk,hm⟩
   · have:=a1 _ hm;exact⟨by omega,λe=>by omega⟩
   · have:=a1 _ hm;exact⟨by omega,λe=>by omega⟩
   · have:=a2 _ hm;exact⟨by omega,λe=>by omega⟩
theorem oO.fr {f:ax} {procs:List ak} {t:Tree} (h:oO f procs t) (h64:∀ s∈f.slots,In64 s.at'):eP f/\BD f:=by
 have hb:=aaI h.dj h.c1 h.s1 h64;have hat:∀ s k,0<=aj f s k/\aj f s k<=500:=λs k=>by
  unfold aj;rcases hf:au f s k with _|x
  · simp[noSlot]
  · exact(hb x (List.mem_of_find?_eq_some hf)).1
 refine⟨⟨⟨h.c0,h.c1⟩,⟨h.s0,h.s1⟩,λs k=>by have:=hat s k;omega,λs => ?_⟩,⟨h.c0,by have:=h.c1;omega,h.s0,by have:=h.s1;omega,λs k=>by have:=hat s k;omega⟩⟩;rcases hf:au f s 2 with _|x
 · simp[noSlot]
 · have hk:x.kind=2:=by
    have:=List.find?_some hf;simp only[jW,Bool.and_eq_true,beq_iff_eq]at this;exact this.2
   have:=(hb x (List.mem_of_find?_eq_some hf)).2 hk;simp only[Option.getD_some];omega
end
section
open Go.RowKit Go.Instr
structure Parts (f:ax) (procs:List bQ) (P P1 P2:aB):Prop where
 j:P=aL [P1,P2]
 c1:kG P1.code P1.refs=(-1,0)
 c2:kG P2.code P2.refs=(-1,0)
 o1:∀ x∈P1.code,0<=x.op/\x.op<=255
 o2:∀ x∈P2.code,0<=x.op/\x.op<=255
 tc:aO [P1,P2]<=65536
 tr:bV [P1,P2]<=1000
 r:P.refs.length<=1000
end
end Go.Proofs.YtnobahchcongnaaGreatDoor
