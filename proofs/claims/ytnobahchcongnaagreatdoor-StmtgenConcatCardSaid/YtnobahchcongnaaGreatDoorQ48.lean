import Derived.Test.YtnobahchcongnaaGreatDoorQ47
import Derived.Deep.AppendLies
set_option linter.unusedSimpArgs false
set_option linter.unusedVariables false
set_option maxRecDepth 100000
set_option maxHeartbeats 25600000
namespace Go.Proofs.YtnobahchcongnaaGreatDoor
section
open Go.RowKit
attribute [local go_sem ↓] mY
theorem Tryz.X0:(Tryz.prog.info? 106).map (fun i=>(i.zero,i.size,i.bytes))=some (some (.agg #[.int .i64 0,.int .i64 0]),2,16):=by kernel_rfl
theorem IY (v:Value) (x:eB) (xs:List eB) (base:Nat) (w:World) (hrow:lX w base v xs) (hb:base≤w.heap.size) (hlen:xs.length≤4398046511104) :
 ∃ a' c' w2,(qL Tryz.prog 104 104 v (.slice (some ⟨w.heap.size,0,none⟩) 1 1) (w.alloc (.cells #[.int .i64 x.1,.int .i64 x.2] 106)) ∧
  nk Tryz.prog 104 104 v (.slice (some ⟨w.heap.size,0,none⟩) 1 1) (w.alloc (.cells #[.int .i64 x.1,.int .i64 x.2] 106)) = .slice a' (xs.length+1) c'∧appW Tryz.prog 104 104 v (.slice (some ⟨w.heap.size,0,none⟩) 1 1) (w.alloc (.cells #[.int .i64 x.1,.int .i64 x.2] 106))=w2) ∧
  lX w2 base (.slice a' (xs.length+1) c') (xs ++ [x])∧Mv (fun b=>v.ownBlock=some b) w w2∧(∀ g,(Value.slice a' (xs.length+1) c').ownBlock=some g→v.ownBlock=some g∨w.heap.size≤g):=by
 obtain ⟨i0,hi,hz0,hz1,hz2⟩:=info_parts Tryz.X0;obtain ⟨v',w2,hr,hown1,hgrow,_,hnew⟩:=L6 (P:=Tryz.prog) (w.alloc (.cells #[.int .i64 x.1,.int .i64 x.2] 106)) base 104 104 106 i0 (.agg #[.int .i64 0,.int .i64 0]) 2 16 Tryz.underlying104 hi hz0 hz1 hz2 rfl (by decide) v _ _ (hrow.alloc _) ⟨w.heap.size,0,none⟩ 1 1 [.int .i64 x.1,.int .i64 x.2] rfl
  (World.news_of_block (cs:=#[.int .i64 x.1,.int .i64 x.2]) (t:=106) (fr:=(0,0)) (heap_alloc_new w _)) (by simp [Value.oneCell']) (by unfold maxLen;omega) (by omega) (by simp;omega)
 have hform:∃ a' c',v' = .slice a' (xs.length+1) c':=by
  rcases hown1.2 with ⟨_,h0⟩ | ⟨g,cap,cur,rfl,_⟩
  · omega
  · exact ⟨_,_,rfl⟩
 obtain ⟨a',c',rfl⟩:=hform;obtain ⟨hok,hv,hw2⟩:=uZ hr;refine ⟨a',c',w2,⟨hok,hv,hw2⟩,?_,((Mv.refl _ _).alloc _).grown hgrow (fun k hk => .inl hk),fun g hg => ?_⟩
 · rw [lX,UB];simpa using hown1
 · rcases hnew g hg with h1 | h1
   · exact .inl h1
   · exact .inr (by simp at h1;omega)
def vz (p:List eB × List eB) (s:dF):Option (List eB × List eB) :=
 if s.kind=1 then some (p.1 ++ [(s.at',1)],p.2) else if s.kind=2 then some (p.1 ++ [(s.at',s.len)],p.2) else if s.kind=3 then some (p.1,p.2 ++ [(s.at',1)]) else none
def o5 (l:List dF) (k:Nat):Option (List eB × List eB):=(l.take k).foldlM vz ([],[])
def vF (l:List dF) (cells stacks:Int):Bool:=match o5 l l.length with
 | none=>false
 | some p=>oh p.1 0 cells && oh p.2 1 stacks
theorem Mk (l:List dF) (k:Nat) (h:k<l.length):o5 l (k+1)=(o5 l k).bind fun p=>vz p l[k]:=by
 unfold o5;rw [List.take_succ_eq_append_getElem h,List.foldlM_append];simp
theorem Ml (l:List dF):∀ (d k:Nat),k+d≤l.length→o5 l k=none→o5 l (k+d)=none
 | 0,_,_,h=>h
 | d+1,k,hk,h=>by
  have:=Ml l d (k+1) (by omega) (by rw [Mk l k (by omega),h];rfl);rwa [show k+1+d=k+(d+1) by omega] at this
structure ui (w w1:World) (cv sv:Value) (cs ss:List eB):Prop where
 g:Grow w1 w
 c:lX w w1.heap.size cv cs
 s:lX w w1.heap.size sv ss
 d:∀ g,cv.ownBlock=some g→sv.ownBlock≠some g
theorem lX.stay {w w':World} {base:Nat} {v:Value} {l:List eB} {O:Nat→Prop} (h:lX w base v l) (hm:Mv O w w') (hO:∀ g,v.ownBlock=some g→¬ O g):lX w' base v l:=by
 refine ⟨h.1,?_⟩;rcases h.2 with h1 | ⟨g,cap,cur,rfl,hb,hg,rest⟩
 · exact .inl h1
 · exact .inr ⟨g,cap,cur,rfl,hb,by rw [hm.block g (lt_of_block hg) (hO g rfl)];exact hg,rest⟩
theorem lX.slice {w:World} {base:Nat} {v:Value} {l:List eB} (h:lX w base v l):∃ a c,v = .slice a l.length c:=by
 rcases h.2 with ⟨rfl,hl⟩ | ⟨g,cap,cur,rfl,_⟩
 · exact ⟨none,0,by rw [hl]⟩
 · exact ⟨_,_,rfl⟩
theorem ui.Q5 {w w1 w2:World} {cv sv vY:Value} {cs cs2 ss:List eB} (h:ui w w1 cv sv cs ss) (h2:lX w2 w1.heap.size vY cs2) (hm:Mv (fun b=>cv.ownBlock=some b) w w2) (hn:∀ g,vY.ownBlock=some g→cv.ownBlock=some g∨w.heap.size≤g):ui w2 w1 vY sv cs2 ss:=by
 refine ⟨h.g.trans hm (fun x e => .inr (h.c.lt x e).1),h2,h.s.stay hm (fun g hg e=>h.d g e hg),fun g hg e => ?_⟩;rcases hn g hg with h3 | h3
 · exact h.d g h3 e
 · have:=(h.s.lt g e).2;omega
theorem ui._E {w w1 w2:World} {cv sv wK:Value} {cs ss TU:List eB} (h:ui w w1 cv sv cs ss) (h2:lX w2 w1.heap.size wK TU) (hm:Mv (fun b=>sv.ownBlock=some b) w w2) (hn:∀ g,wK.ownBlock=some g→sv.ownBlock=some g∨w.heap.size≤g):ui w2 w1 cv wK cs TU:=by
 refine ⟨h.g.trans hm (fun x e => .inr (h.s.lt x e).1),h.c.stay hm (fun g hg e=>h.d g hg e),h2,fun g hg e => ?_⟩;rcases hn g e with h3 | h3
 · exact h.d g hg h3
 · have:=(h.c.lt g hg).2;omega
theorem ui.alloc {w w1:World} {cv sv:Value} {cs ss:List eB} (h:ui w w1 cv sv cs ss) (o:Obj):ui (w.alloc o) w1 cv sv cs ss:=⟨h.g.alloc o,h.c.alloc o,h.s.alloc o,h.d⟩
theorem UR (fv:Value) (l:List dF) (cells stacks:Int) (w:World) (h:ax 4 dF.cells w fv l) (acJ:l.length≤4398046511104) :
 Calls Tryz.prog 19 #[.agg #[fv,.int .i64 cells,.int .i64 stacks]] w fun e w'=>e = .returned (.bool (vF l cells stacks))∧Grow w w':=by
 obtain ⟨fa,CB,rfl,abY,abZ⟩:=h.form;have HR:=ł h;have hg0:Grow w (w.alloc (.cells #[.slice fa l.length CB,.int .i64 cells,.int .i64 stacks] 27)):=(Mv.refl _ _).alloc _;have Q6:=heap_alloc_new w (.cells #[.slice fa l.length CB,.int .i64 cells,.int .i64 stacks] 27);have DD:=ł hg0;have Fz:=ł Q6;clear h hg0 Q6
 go_enter Tryz.func19,Tryz.ntmps19
 go_wp2_with fail;have hsz1:w.heap.size<(w.alloc (.cells #[.slice fa l.length CB,.int .i64 cells,.int .i64 stacks] 27)).heap.size:=by simp
 generalize w.alloc (.cells #[.slice fa l.length CB,.int .i64 cells,.int .i64 stacks] 27)=w1 at *
 go_loopw [3,4,10] (fun cv sv t wr=>∃ (k:Nat) (cs ss:List eB),t = .int .i64 k∧k≤l.length∧o5 l k=some (cs,ss)∧cs.length≤k∧ss.length≤k∧ui wr w1 cv sv cs ss) (fun _ _ t _=>l.length - (intOf t).toNat)
 case atStart=>exact ⟨0,[],[],rfl,Nat.zero_le _,rfl,Nat.le_refl _,Nat.le_refl _,Mv.refl _ _,World.ownsRow_nil _ _ _ _,World.ownsRow_nil _ _ _ _,by simp [Value.ownBlock]⟩
 obtain ⟨k,cs,ss,rfl,hk,hsk,hcl,hsl,hp⟩:=hrel;have zL:=ł hsk;clear hsk;by_cases hlt:k<l.length
 · obtain ⟨b,off,cap',e,_,hcc⟩:=(HR.out.later (Mv.trans DD.out hp.g (fun _ e=>e.elim))).at hlt;simp only [Value.slice.injEq,true_and] at e;obtain ⟨rfl,rfl⟩:=e;have c0:=hcc 0 _ rfl;have c1:=hcc 1 _ rfl;have c2:=hcc 2 _ rfl;have c3:=hcc 3 _ rfl;simp only [Nat.add_zero] at c0;have hbl:b<wr.heap.size:=World.block_lt_of_cell? wr _ c0;have HS:=ł (Mk l k hlt);have Kt:=ł (fun hn=>Ml l (l.length - (k+1)) (k+1) (by omega) hn);generalize hx:l[k]=x at *;obtain ⟨xs,xk,xl,xt⟩:=x;simp only at c0 c1 c2 c3;clear hcc hx;by_cases hk1:xk=1
   · subst hk1;have mW:=hp.alloc (.cells #[.string xs,.int .u8 1,.int .i64 xl,.int .i64 xt] 95);obtain ⟨a',c',w2,⟨hok,hv,hw⟩,hrow2,bE,xq⟩:=IY _ (xt,1) _ _ _ mW.c mW.g.size (by omega);rw [World.size_alloc] at hok hv hw;have rM:=ł (mW.Q5 hrow2 bE xq);have xR:=ł (show o5 l (k+1)=some (cs ++ [(xt,1)],ss) from by rw [HS.out,zL.out];simp [vz]);obtain ⟨va,vc,DF⟩:=hp.c.slice;subst DF;clear hp mW hrow2 bE xq;go_wp2_with fail
     go_roundw
     case rel=>exact ⟨k+1,_,_,by go_num,by omega,xR.out,by first | omega | (simp;omega),by first | omega | (simp;omega),by simpa using rM.out⟩
     case measure=>simp [intOf];omega
   · have n1:(xk == 1)=false:=by simpa using hk1
     by_cases hk2:xk=2
     · subst hk2;have mW:=hp.alloc (.cells #[.string xs,.int .u8 2,.int .i64 xl,.int .i64 xt] 95);obtain ⟨a',c',w2,⟨hok,hv,hw⟩,hrow2,bE,xq⟩:=IY _ (xt,xl) _ _ _ mW.c mW.g.size (by omega);rw [World.size_alloc] at hok hv hw;have rM:=ł (mW.Q5 hrow2 bE xq);have xR:=ł (show o5 l (k+1)=some (cs ++ [(xt,xl)],ss) from by rw [HS.out,zL.out];simp [vz]);obtain ⟨va,vc,DF⟩:=hp.c.slice;subst DF;clear hp mW hrow2 bE xq;go_wp2_with fail
       go_roundw
       case rel=>exact ⟨k+1,_,_,by go_num,by omega,xR.out,by first | omega | (simp;omega),by first | omega | (simp;omega),by simpa using rM.out⟩
       case measure=>simp [intOf];omega
     · have n2:(xk == 2)=false:=by simpa using hk2
       by_cases hk3:xk=3
       · subst hk3;have mW:=hp.alloc (.cells #[.string xs,.int .u8 3,.int .i64 xl,.int .i64 xt] 95);obtain ⟨a',c',w2,⟨hok,hv,hw⟩,hrow2,bE,xq⟩:=IY _ (xt,1) _ _ _ mW.s mW.g.size (by omega);rw [World.size_alloc] at hok hv hw;have rM:=ł (mW._E hrow2 bE xq);have xR:=ł (show o5 l (k+1)=some (cs,ss ++ [(xt,1)]) from by rw [HS.out,zL.out];simp [vz]);obtain ⟨va,vc,DF⟩:=hp.s.slice;subst DF;clear hp mW hrow2 bE xq;go_wp2_with fail
         go_roundw
         case rel=>exact ⟨k+1,_,_,by go_num,by omega,xR.out,by first | omega | (simp;omega),by first | omega | (simp;omega),by simpa using rM.out⟩
         case measure=>simp [intOf];omega
       · have n3:(xk == 3)=false:=by simpa using hk3
         have HF:=ł (show vF l cells stacks=false from by
          have h1:o5 l (k+1)=none:=by rw [HS.out,zL.out];simp [vz,hk1,hk2,hk3]
          have h2:=Kt.out h1;rw [show k+1+(l.length - (k+1))=l.length by omega] at h2;simp [vF,h2])
         have KA:=ł (Mv.trans DD.out hp.g (fun _ e=>e.elim));clear hk1 hk2 hk3 hp;go_wp2_with fail;go_ret;exact ⟨aD (by rw [HF.out]),KA.out.alloc _⟩
 · obtain rfl:k=l.length:=by omega
   have DI:=ł (show vF l cells stacks=(oh cs 0 cells && oh ss 1 stacks) from by simp [vF,zL.out]);have hbr:wr.heap[w.heap.size]? = some (.cells #[.slice fa l.length CB,.int .i64 cells,.int .i64 stacks] 27 (0,0)):=by
    rw [hp.g.block _ hsz1 (fun h=>h)];exact Fz.out
   have b1:wr.cell? ⟨w.heap.size,1,none⟩=some (.int .i64 cells):=by simp [World.cell?,hbr]
   have Zt:=hp.g.size;have HBR:=ł hbr;have HP:=ł hp;have HA1:=ł (NQ _ _ cs 0 cells wr hp.c (by omega));obtain ⟨ca,cc,hcf⟩:=hp.c.slice;obtain ⟨sa,sc,hsf⟩:=hp.s.slice;subst hcf;subst hsf;clear hbr hp;go_wp2_with fail;refine HA1.out.mono ?_;rintro e w2 ⟨rfl,hm2⟩;have BQ:Grow w w2:=(Mv.trans DD.out HP.out.g (fun _ e=>e.elim)).trans hm2 (fun x e => .inr (by have:=(HP.out.c.lt x e).1;have:=DD.out.size;omega));have hne:Value.ownBlock (.slice ca cs.length cc)≠some w.heap.size:=fun e=>by have:=(HP.out.c.lt _ e).1;omega
   have b2:w2.cell? ⟨w.heap.size,2,none⟩=some (.int .i64 stacks):=by
    have h1:w2.heap[w.heap.size]? = wr.heap[w.heap.size]? := hm2.block _ (by omega) hne;simp [World.cell?,h1,HBR.out]
   have HA2:=ł (NQ _ _ ss 1 stacks w2 (HP.out.s.stay hm2 (fun g hg e=>HP.out.d g e hg)) (by omega));have HS2:=ł (show ∀ x,Value.ownBlock (.slice sa ss.length sc)=some x→w.heap.size≤x from fun x e=>by have:=(HP.out.s.lt x e).1;have:=DD.out.size;omega);have qW:=ł BQ;generalize oh cs 0 cells=q at *;clear hm2 BQ hne b1;cases q
   · go_wp2_with fail;go_ret;exact ⟨aD (by rw [DI.out];rfl),qW.out⟩
   · go_wp2_with fail;refine HA2.out.mono ?_;rintro e w3 ⟨rfl,jq⟩;have FD:=ł (show Grow w w3 from qW.out.trans jq (fun x e => .inr (HS2.out x e)));clear jq;go_wp2_with fail;go_ret;exact ⟨aD (by rw [DI.out];rfl),FD.out⟩
end
section
open Go.RowKit Go.Instr
mutual
def kX:Tree→Int→Int
 | .mk _ _ _ l,r=>ni l (r - 1)
def ni:List Tree→Int→Int
 | [],r=>r
 | t :: l,r=>if 0≤r then ni l (kX t r) else r
end
theorem V6 (l:List Tree) (r:Int) (h:r<0):ni l r=r:=by
 cases l with
 | nil=>rw [ni]
 | cons t l=>rw [ni,if_neg (by omega)]
mutual
theorem IZ:∀ (t:Tree) (r:Int),0≤r → -1≤kX t r∧kX t r≤r∧(0≤kX t r→(aW t:Int)=r - kX t r)
 | .mk _ _ _ l,r,h=>by
  have:=NR l (r - 1) (by omega);simp only [kX,aW];omega
theorem NR:∀ (l:List Tree) (r:Int),-1≤r → -1≤ni l r∧ni l r≤r∧(0≤ni l r→(cu l:Int)=r - ni l r)
 | [],r,h=>by simp only [ni,cu];omega
 | t :: l,r,h=>by
  simp only [ni,cu];split
  · rename_i h0;have h1:=IZ t r h0;have h2:=NR l (kX t r) h1.1;refine ⟨h2.1,by omega,fun h3 => ?_⟩;have h4:=h1.2.2 (by omega);have h5:=h2.2.2 h3;omega
  · omega
end
def iK (l:List Tree) (r:Int):Nat→Int
 | 0=>r
 | j+1=>match l[j]? with
  | none=>iK l r j
  | some t=>kX t (iK l r j)
theorem Vf (l:List Tree) (r:Int) (j:Nat) (h:j<l.length):iK l r (j+1)=kX l[j] (iK l r j):=by simp only [iK,List.getElem?_eq_getElem h]
theorem D9 (t:Tree) (l:List Tree) (r:Int):∀ j,iK (t :: l) r (j+1)=iK l (kX t r) j
 | 0=>by simp [iK]
 | j+1=>by
  have ih:=D9 t l r j
  show (match (t :: l)[j+1]? with | none=>iK (t :: l) r (j+1) | some u=>kX u (iK (t :: l) r (j+1)))=_
  rw [List.getElem?_cons_succ,ih];rfl
theorem Iz:∀ (l:List Tree) (r:Int) (j:Nat),j≤l.length→(∀ i,i<j→0≤iK l r i)→(j=l.length∨iK l r j<0)→ni l r=iK l r j
 | [],r,j,hj,_,_=>by
  obtain rfl:j=0:=by simpa using hj
  simp [ni,iK]
 | t :: l,r,0,_,_,h=>by
  rcases h with h | h
  · simp at h
  · exact V6 _ _ h
 | t :: l,r,j+1,hj,hp,h=>by
  have h0:0≤r:=hp 0 (by omega);rw [ni,if_pos h0,D9];refine Iz l (kX t r) j (by simpa using hj) (fun i hi => ?_) ?_
  · have:=hp (i+1) (by omega);rwa [D9] at this
  · rw [D9] at h;rcases h with h | h
    · exact .inl (by simpa using h)
    · exact .inr h
theorem X3:∀ (m:Nat) (x:ae),SizeOf.sizeOf x≤m→∀ (r:Int),0≤r→r≤1000000→∀ w:World,aV w x→Calls Tryz.prog 18 #[x.val,.int .i64 r] w fun e w'=>e = .returned (.int .i64 (kX x.t r))∧Grow w w':=by
 intro m
 induction m with
 | zero=>intro x hm;cases x;simp at hm
 | succ m ih =>
  intro x hm r hr0 hr1 w hx;obtain ⟨k,n,s,kv,l⟩:=x;obtain ⟨a,cap,rfl,hcap,hlen⟩:=hx.form;have fG:=ł (fun (y:ae) (hy:y∈l) (q:Int) (h0:0≤q) (h1:q≤1000000) (w':World) (hg:Grow w w')=>ih y (by have:=nV (k:=k) (n:=n) (s:=s) (kv := .slice a l.length cap) hy;omega) q h0 h1 w' ((hx.row.2.2.2.2 y hy).later hg));have HE:=ł (show kX (ae.mk k n s (.slice a l.length cap) l).t r=ni (ae.ts l) (r - 1) from by simp only [ae.t,kX]);have HX:=ł hx;clear ih hm hx;simp only [ae.val];have HG:=ł (show Grow w (w.alloc (.cells #[.int .u8 k,.int .i64 n,.string s,.slice a l.length cap] 24)) from (Mv.refl _ _).alloc _);have HB:=ł (heap_alloc_new w (.cells #[.int .u8 k,.int .i64 n,.string s,.slice a l.length cap] 24))
  go_enter Tryz.func18,Tryz.ntmps18
  go_wp2_with fail;generalize w.alloc (.cells #[.int .u8 k,.int .i64 n,.string s,.slice a l.length cap] 24)=w1 at *
  go_loopw [1,5] (fun rv t wr=>∃ j:Nat,rv = .int .i64 (iK (ae.ts l) (r - 1) j)∧t = .int .i64 j∧j≤l.length∧(∀ i,i<j→0≤iK (ae.ts l) (r - 1) i)∧(-1≤iK (ae.ts l) (r - 1) j∧iK (ae.ts l) (r - 1) j≤r)∧Grow w1 wr) (fun _ t _=>l.length - (intOf t).toNat)
  case atStart=>exact ⟨0,by simp [iK],rfl,Nat.zero_le _,fun i h=>by omega,by simp only [iK];omega,Mv.refl _ _⟩
  obtain ⟨j,rfl,rfl,hj,hpos,⟨hb1,hb2⟩,hgr⟩:=hrel;have Kk:=ł hpos;have bV:=ł hgr;have aQ:=ł (Mv.trans HG.out hgr (fun _ e=>e.elim));obtain ⟨⟨n0,n1⟩,n2,n3⟩:=aF (ai HB.out hgr);have hln:=lt_of_block (ai HB.out hgr);clear hpos hgr;by_cases hlt:j<l.length
  · by_cases h0:0≤iK (ae.ts l) (r - 1) j
    · obtain ⟨b,off,cap',e,_,hcc⟩:=(HX.out.row.2.2.2.1.later aQ.out).at hlt;simp only [Value.slice.injEq,true_and] at e;obtain ⟨rfl,rfl⟩:=e;have aX:=HX.out.row.2.2.2.2 l[j] (List.getElem_mem hlt);have HC:=ł (fG.out l[j] (List.getElem_mem hlt) _ h0 (by omega) wr aQ.out);have LB:=ł (by have:=Vf (ae.ts l) (r - 1) j (by rw [ae.cZ];exact hlt);rw [ae.gK l j hlt] at this;exact this);have mV:=ł (IZ l[j].t _ h0);have rM:=ł (show ∀ i,i<j+1→0≤iK (ae.ts l) (r - 1) i from fun i hi=>by
       rcases Nat.lt_or_ge i j with h3 | h3
       · exact Kk.out i h3
       · obtain rfl:i=j:=by omega
         exact h0)
      generalize iK (ae.ts l) (r - 1) j=lj at *;generalize l[j]=y at HC LB mV aX hcc;obtain ⟨yk,yn,ys,jf,yl⟩:=y;obtain ⟨ya,yc,rfl,-,-⟩:=aX.form;simp only [ae.val] at HC;have c0:=hcc 0 _ rfl;have c1:=hcc 1 _ rfl;have c2:=hcc 2 _ rfl;have c3:=hcc 3 _ rfl;simp only [Nat.add_zero] at c0;have hbl:b<wr.heap.size:=World.block_lt_of_cell? wr _ c0;generalize kX (ae.mk yk yn ys (.slice ya yl.length yc) yl).t lj=rj at *;clear hcc aX;go_wp2_with fail;refine HC.out.mono ?_;rintro e w5 ⟨rfl,hg5⟩;have aS:=ł (Mv.trans bV.out hg5 (fun _ e=>e.elim));clear hg5;go_wp2_with fail
      go_roundw
      case rel=>exact ⟨j+1,by rw [LB.out],by go_num,by omega,rM.out,by rw [LB.out];have:=mV.out;omega,aS.out⟩
      case measure=>simp [intOf];omega
    · have HR:=ł (Iz (ae.ts l) (r - 1) j (by rw [ae.cZ];omega) Kk.out (.inr (by omega)));generalize iK (ae.ts l) (r - 1) j=lj at *;have h0':lj<0:=by omega
      go_wp2_with fail;go_ret;exact ⟨gT (by rw [HE.out,HR.out]),aQ.out⟩
  obtain rfl:j=l.length:=by omega
  have HR:=ł (Iz (ae.ts l) (r - 1) l.length (by rw [ae.cZ];omega) Kk.out (.inl (by rw [ae.cZ])));generalize iK (ae.ts l) (r - 1) l.length=lj at *;go_wp2_with fail;go_ret;exact ⟨gT (by rw [HE.out,HR.out]),aQ.out⟩
theorem X4 (x:ae) (r:Int) (w:World) (h:aV w x) (h0:0≤r) (h1:r≤1000000):Calls Tryz.prog 18 #[x.val,.int .i64 r] w fun e w'=>e = .returned (.int .i64 (kX x.t r))∧Grow w w':=X3 _ x (Nat.le_refl _) r h0 h1 w h
structure nU (f:az) (procs:List aj) (t:Tree):Prop where
 sz:0≤kX t 80
 ns:f.slots.length≤30
 c0:0≤f.cells
 c1:f.cells≤500
 s0:0≤f.stacks
 s1:f.stacks≤100
 np:procs.length≤8
 dj:vF f.slots f.cells f.stacks=true
 pr:oK procs
theorem YE (w:World) (x:ae) (sv pv:Value) (f:az) (procs:List aj) (hx:aV w x) (hf:fF w sv f) (hp:lQ w pv procs) :
 Calls Tryz.prog 6 #[x.val,.agg #[sv,.int .i64 f.cells,.int .i64 f.stacks],pv] w (Kg w (nU f procs x.t)):=by
 obtain ⟨k,n,s,kv,l⟩:=x;obtain ⟨ka,kc,rfl,-,-⟩:=hx.form;obtain ⟨fa,fc,rfl,hfc,hfl⟩:=hf.row.form;obtain ⟨pa,pc,rfl,-,hpl⟩:=hp.row.form;obtain ⟨HB0,HB1,HG2⟩:=a2 w (.cells #[.int .u8 k,.int .i64 n,.string s,.slice ka l.length kc] 24) (.cells #[.slice fa f.slots.length fc,.int .i64 f.cells,.int .i64 f.stacks] 27);have iU:=ł (fun (z:World) (hz:Grow w z)=>X4 (.mk k n s (.slice ka l.length kc) l) 80 z (hx.later hz) (by decide) (by decide));have DI:=ł (fun (hns:f.slots.length≤30) (z:World) (hz:Grow w z)=>UR (.slice fa f.slots.length fc) f.slots f.cells f.stacks z (hf.later hz).row (by omega));have fK:=ł hp;have Dm:=ł hfl;clear hx hf hp;simp only [ae.val] at iU ⊢;obtain ⟨⟨n0,n1⟩,n2,n3⟩:=aF HB0.out;have hl0:=lt_of_block HB0.out
 go_enter Tryz.func6,Tryz.ntmps6
 go_wp2_with fail;generalize ((w.alloc (.cells #[.int .u8 k,.int .i64 n,.string s,.slice ka l.length kc] 24)).alloc (.cells #[.slice fa f.slots.length fc,.int .i64 f.cells,.int .i64 f.stacks] 27))=w2 at *;refine (iU.out _ HG2.out).mono ?_;clear n0 n1 n2 n3 hl0 iU;rintro e w4 ⟨rfl,hg4⟩;have aN:=ł (gtr HG2.out hg4);obtain ⟨f0,f1,f2⟩:=cK (ai HB1.out hg4);have hl1:=lt_of_block (ai HB1.out hg4);clear hg4 HB0 HB1 HG2;have HT:=ł (show nU f procs (ae.t (.mk k n s (.slice ka l.length kc) l))→nU f procs (ae.t (.mk k n s (.slice ka l.length kc) l)) from id);generalize ae.t (.mk k n s (.slice ka l.length kc) l)=t at *;generalize hsl:kX t 80=S at *;have kG:=ł hsl;clear hsl HT;by_cases h1:S<0
 · have g1:decide (S<0)=true:=by simp;omega
   have HX:=ł (fun (h:nU f procs t)=>show False from by have:=h.sz;have:=kG.out;omega);clear h1;go_wp2_with fail;go_ret;exact ⟨false,rfl,⟨fun h=>(by cases h),fun h=>(HX.out h).elim⟩,aN.out⟩
 have g1:decide (S<0)=false:=by simp;omega
 by_cases h2:30<f.slots.length
 · have g2:decide ((30:Int)<(f.slots.length:Int))=true:=by simp;omega
   have HX:=ł (fun (h:nU f procs t)=>show False from by have:=h.ns;omega);clear h2;go_wp2_with fail;go_ret;exact ⟨false,rfl,⟨fun h=>(by cases h),fun h=>(HX.out h).elim⟩,aN.out⟩
 have g2:decide ((30:Int)<(f.slots.length:Int))=false:=by simp;omega
 by_cases h3:f.cells<0
 · have g3:decide (f.cells<0)=true:=by simp;omega
   have HX:=ł (fun (h:nU f procs t)=>show False from by have:=h.c0;omega);clear h3;go_wp2_with fail;go_ret;exact ⟨false,rfl,⟨fun h=>(by cases h),fun h=>(HX.out h).elim⟩,aN.out⟩
 have g3:decide (f.cells<0)=false:=by simp;omega
 by_cases h4:500<f.cells
 · have g4:decide (500<f.cells)=true:=by simp;omega
   have HX:=ł (fun (h:nU f procs t)=>show False from by have:=h.c1;omega);clear h4;go_wp2_with fail;go_ret;exact ⟨false,rfl,⟨fun h=>(by cases h),fun h=>(HX.out h).elim⟩,aN.out⟩
 have g4:decide (500<f.cells)=false:=by simp;omega
 by_cases h5:f.stacks<0
 · have g5:decide (f.stacks<0)=true:=by simp;omega
   have HX:=ł (fun (h:nU f procs t)=>show False from by have:=h.s0;omega);clear h5;go_wp2_with fail;go_ret;exact ⟨false,rfl,⟨fun h=>(by cases h),fun h=>(HX.out h).elim⟩,aN.out⟩
 have g5:decide (f.stacks<0)=false:=by simp;omega
 by_cases h6:100<f.stacks
 · have g6:decide (100<f.stacks)=true:=by simp;omega
   have HX:=ł (fun (h:nU f procs t)=>show False from by have:=h.s1;omega);clear h6;go_wp2_with fail;go_ret;exact ⟨false,rfl,⟨fun h=>(by cases h),fun h=>(HX.out h).elim⟩,aN.out⟩
 have g6:decide (100<f.stacks)=false:=by simp;omega
 by_cases h7:8<procs.length
 · have g7:decide ((8:Int)<(procs.length:Int))=true:=by simp;omega
   have HX:=ł (fun (h:nU f procs t)=>show False from by have:=h.np;omega);clear h7;go_wp2_with fail;go_ret;exact ⟨false,rfl,⟨fun h=>(by cases h),fun h=>(HX.out h).elim⟩,aN.out⟩
 have g7:decide ((8:Int)<(procs.length:Int))=false:=by simp;omega
 have HB:=ł (And.intro h1 (And.intro h2 (And.intro h3 (And.intro h4 (And.intro h5 (And.intro h6 h7))))));have HD:=ł (DI.out (by omega) w4 aN.out);clear h1 h2 h3 h4 h5 h6 h7 DI;go_wp2_with fail;refine HD.out.mono ?_;clear HD f0 f1 f2 hl1;rintro e w5 ⟨rfl,hg5⟩;have aS:=ł (gtr aN.out hg5);clear hg5;cases hdj:vF f.slots f.cells f.stacks with
 | false =>
  have HX:=ł (fun (h:nU f procs t)=>show False from by have:=h.dj;rw [hdj] at this;cases this);clear hdj;go_wp2_with fail;go_ret;exact ⟨false,rfl,⟨fun h=>(by cases h),fun h=>(HX.out h).elim⟩,aS.out⟩
 | true =>
  have HJ:=ł hdj;clear hdj;have hpb:procs.length≤8:=by have:=HB.out.2.2.2.2.2.2;omega
  go_wp2_with fail;clear g1 g2 g3 g4 g5 g6 g7
  go_loopw [52] (fun u wr=>∃ j:Nat,u = .int .i64 j∧j≤procs.length∧(∀ i (h:i<procs.length),i<j→iE procs[i].params=0)∧Grow w wr) (fun u _=>procs.length - (intOf u).toNat)
  case atStart=>exact ⟨0,rfl,Nat.zero_le _,fun i _ h=>absurd h (Nat.not_lt_zero _),aS.out⟩
  obtain ⟨j,rfl,hj,hall,hg⟩:=hrel;have bT:=ł hall;have HG:=ł hg;clear hall hg;by_cases hlt:j<procs.length
  · obtain ⟨b,off,cap',e,_,hcc⟩:=(fK.out.row.later HG.out).at hlt;simp only [Value.slice.injEq,true_and] at e;obtain ⟨rfl,rfl⟩:=e;have hxo:=(fK.out.each procs[j] (List.getElem_mem hlt)).later HG.out;have HST:=ł (fun (e:iE procs[j].params=0) (i:Nat) (h:i<procs.length) (hi:i<j+1)=>show iE procs[i].params=0 from by
     rcases Nat.lt_or_ge i j with h3 | h3
     · exact bT.out i h h3
     · obtain rfl:i=j:=by omega
       exact e)
    have mM:=ł (fun (e:iE procs[j].params≠0) (h:nU f procs t)=>show False from e (h.pr _ (List.getElem_mem hlt)));generalize procs[j]=x at HST mM hxo hcc;obtain ⟨xn,xp,Sl,xb⟩:=x;obtain ⟨xa,xc,rfl,-,-⟩:=hxo.form;have sN:=hxo.body;obtain ⟨bk,bn,bs,Gc,bl⟩:=xb;simp only at sN;obtain ⟨ba,bc,rfl,-,-⟩:=sN.form;have c0:=hcc 0 _ rfl;have c1:=hcc 1 _ rfl;have c2:=hcc 2 _ rfl;have c3:=hcc 3 _ rfl;have c4:=hcc 4 _ rfl;have c5:=hcc 5 _ rfl;simp only [Nat.add_zero] at c0;simp only at HST mM;have hbl:b<wr.heap.size:=World.block_lt_of_cell? wr _ c0;have hga:Grow wr (wr.alloc (.cells #[.string xn,.slice xa xp.length xc,.int .u8 bk,.int .i64 bn,.string bs,.slice ba bl.length bc] 60)):=(Mv.refl _ _).alloc _;have aA:=ł hga;have tC:=ł (EE _ xp _ (hxo.params.later hga));have hyb:=heap_alloc_new wr (.cells #[.string xn,.slice xa xp.length xc,.int .u8 bk,.int .i64 bn,.string bs,.slice ba bl.length bc] 60);obtain ⟨⟨y0,y1,y2⟩,y3,y4,y5⟩:=wO hyb;have mf:=lt_of_block hyb;simp only [E5] at tC;clear hcc hxo sN hga hyb;go_wp2_with fail;refine tC.out.mono ?_;clear tC c0 c1 c2 c3 c4 c5 hbl y0 y1 y2 y3 y4 y5 mf;rintro e w6 ⟨wK,rfl,hfa,TV⟩;have bP:=ł (gtr (gtr HG.out aA.out) TV);obtain ⟨qa,qc,rfl,-,-⟩:=hfa.row.form;clear hfa TV;generalize (if iE xp=0 then frameC xp else gU)=fr at *;generalize iE xp=E at *;by_cases hE:E=0
    · subst hE;have HX:=ł (HST.out rfl);have fV:=ł (bP.out.alloc (.cells #[.slice qa fr.slots.length qc,.int .i64 fr.cells,.int .i64 fr.stacks] 27));clear HST mM;go_wp2_with fail
      go_roundw
      case rel=>exact ⟨j+1,by go_num,by omega,HX.out,fV.out⟩
      case measure=>(simp [intOf] <;> omega)
    · have HX:=ł (mM.out hE);have hb:(E != 0)=true:=by simpa using hE
      have fV:=ł (bP.out.alloc (.cells #[.slice qa fr.slots.length qc,.int .i64 fr.cells,.int .i64 fr.stacks] 27));clear HST mM hE;go_wp2_with fail;go_ret;exact ⟨false,rfl,⟨fun h=>(by cases h),fun h=>(HX.out h).elim⟩,fV.out⟩
  · have HX:=ł (show nU f procs t from by
     obtain ⟨h1,h2,h3,h4,h5,h6,h7⟩:=HB.out;refine ⟨by have:=kG.out;omega,by omega,by omega,by omega,by omega,by omega,by omega,HJ.out,fun p hp => ?_⟩;obtain ⟨i,hi,rfl⟩:=List.mem_iff_getElem.1 hp;exact bT.out i hi (by omega))
    go_wp2_with fail;go_ret;exact ⟨true,rfl,⟨fun _=>HX.out,fun _=>rfl⟩,HG.out⟩
end
end Go.Proofs.YtnobahchcongnaaGreatDoor
