import Derived.Test.YtadecgbblajifaaGreatDoorC18
import Derived.Deep.AppendLies
set_option linter.unusedSimpArgs false
set_option linter.unusedVariables false
set_option maxRecDepth 100000
set_option maxHeartbeats 25600000
namespace Go.Proofs.YtadecgbblajifaaGreatDoor
section
open Go.RowKit
attribute [local go_sem ↓] BH
theorem Tryz.KH:(Tryz.prog.info? 155).map (λi=>(i.zero,i.size,i.bytes))=some (some (.agg #[.int .i64 0,.int .i64 0]),2,16):=by kernel_rfl
theorem xM (v:Value) (x:aX) (xs:List aX) (base:Nat) (w:World) (hrow:fJ w base v xs) (hb:base<=w.heap.size) (hlen:xs.length<=4398046511104) :
 ∃ a' c' w2,(rF Tryz.prog 153 153 v (.slice (some ⟨w.heap.size,0,none⟩) 1 1) (w.alloc (.cells #[.int .i64 x.1,.int .i64 x.2] 155)) /\
  nU Tryz.prog 153 153 v (.slice (some ⟨w.heap.size,0,none⟩) 1 1) (w.alloc (.cells #[.int .i64 x.1,.int .i64 x.2] 155)) = .slice a' (xs.length+1) c'/\appW Tryz.prog 153 153 v (.slice (some ⟨w.heap.size,0,none⟩) 1 1) (w.alloc (.cells #[.int .i64 x.1,.int .i64 x.2] 155))=w2) /\
  fJ w2 base (.slice a' (xs.length+1) c') (xs ++ [x])/\Mv (λb=>v.ownBlock=some b) w w2/\(∀ g,(Value.slice a' (xs.length+1) c').ownBlock=some g->v.ownBlock=some g\/w.heap.size<=g):=by
 obtain⟨i0,hi,hz0,hz1,hz2⟩:=info_parts Tryz.KH
 obtain⟨v',w2,hr,hown1,hgrow,_,hnew⟩:=AX (P:=Tryz.prog) (w.alloc (.cells #[.int .i64 x.1,.int .i64 x.2] 155)) base 153 153 155 i0 (.agg #[.int .i64 0,.int .i64 0]) 2 16 Tryz.underlying153 hi hz0 hz1 hz2 rfl (by decide) v _ _ (hrow.alloc _) ⟨w.heap.size,0,none⟩ 1 1 [.int .i64 x.1,.int .i64 x.2] rfl
  (World.news_of_block (cs:=#[.int .i64 x.1,.int .i64 x.2]) (t:=155) (fr:=(0,0)) (heap_alloc_new w _)) (by simp[Value.oneCell']) (by unfold maxLen;omega) (by omega) (by simp;omega)
 have hform:∃ a' c',v' = .slice a' (xs.length+1) c':=by
  rcases hown1.2 with⟨_,h0⟩|⟨g,cap,cur,rfl,_⟩
  · omega
  · exact⟨_,_,rfl⟩
 obtain⟨a',c',rfl⟩:=hform
 obtain⟨hok,hv,hw2⟩:=yM hr
 refine⟨a',c',w2,⟨hok,hv,hw2⟩,?_,((Mv.refl _ _).alloc _).grown hgrow (λk hk => .inl hk),λg hg => ?_⟩
 · rw[fJ,Ip];simpa using hown1
 · rcases hnew g hg with h1|h1
   · exact .inl h1
   · exact .inr (by simp at h1;omega)
def kK (p:List aX × List aX) (s:ay):Option (List aX × List aX) :=
 if s.kind=1 then some (p.1 ++ [(s.at',1)],p.2)else if s.kind=2 then some (p.1 ++ [(s.at',s.len)],p.2)else if s.kind=3 then some (p.1,p.2 ++ [(s.at',1)])else none
def ig (l:List ay) (k:Nat):Option (List aX × List aX):=(l.take k).foldlM kK ([],[])
def dZ (l:List ay) (cells stacks:Int):Bool:=match ig l l.length with
 |none=>false
 |some p=>il p.1 0 cells && il p.2 1 stacks
theorem Bb (l:List ay) (k:Nat) (h:k<l.length):ig l (k+1)=(ig l k).bind λp=>kK p l[k]:=by
 unfold ig
 rw[List.take_succ_eq_append_getElem h,List.foldlM_append]
 simp
theorem Bc (l:List ay):∀ (d k:Nat),k+d<=l.length->ig l k=none->ig l (k+d)=none
 |0,_,_,h=>h
 |d+1,k,hk,h=>by
  have:=Bc l d (k+1) (by omega) (by rw[Bb l k (by omega),h];rfl)
  rwa[show k+1+d=k+(d+1) by omega]at this
structure jW (w w1:World) (cv sv:Value) (cs ss:List aX):Prop where
 g:Grow w1 w
 c:fJ w w1.heap.size cv cs
 s:fJ w w1.heap.size sv ss
 d:∀ g,cv.ownBlock=some g->sv.ownBlock≠some g
theorem fJ.stay {w w':World} {base:Nat} {v:Value} {l:List aX} {O:Nat->Prop} (h:fJ w base v l) (hm:Mv O w w') (hO:∀ g,v.ownBlock=some g->¬ O g):fJ w' base v l:=by
 refine⟨h.1,?_⟩
 rcases h.2 with h1|⟨g,cap,cur,rfl,hb,hg,rest⟩
 · exact .inl h1
 · exact .inr ⟨g,cap,cur,rfl,hb,by rw[hm.block g (lt_of_block hg) (hO g rfl)];exact hg,rest⟩
theorem fJ.slice {w:World} {base:Nat} {v:Value} {l:List aX} (h:fJ w base v l):∃ a c,v = .slice a l.length c:=by
 rcases h.2 with⟨rfl,hl⟩|⟨g,cap,cur,rfl,_⟩
 · exact⟨none,0,by rw[hl]⟩
 · exact⟨_,_,rfl⟩
theorem jW.Fe {w w1 w2:World} {cv sv Ar:Value} {cs cs2 ss:List aX} (h:jW w w1 cv sv cs ss) (h2:fJ w2 w1.heap.size Ar cs2) (hm:Mv (λb=>cv.ownBlock=some b) w w2) (hn:∀ g,Ar.ownBlock=some g->cv.ownBlock=some g\/w.heap.size<=g):jW w2 w1 Ar sv cs2 ss:=by
 refine⟨h.g.trans hm (λx e => .inr (h.c.lt x e).1),h2,h.s.stay hm (λg hg e=>h.d g e hg),λg hg e => ?_⟩
 rcases hn g hg with h3|h3
 · exact h.d g h3 e
 · have:=(h.s.lt g e).2;omega
theorem jW.Ou {w w1 w2:World} {cv sv Au:Value} {cs ss GY:List aX} (h:jW w w1 cv sv cs ss) (h2:fJ w2 w1.heap.size Au GY) (hm:Mv (λb=>sv.ownBlock=some b) w w2) (hn:∀ g,Au.ownBlock=some g->sv.ownBlock=some g\/w.heap.size<=g):jW w2 w1 cv Au cs GY:=by
 refine⟨h.g.trans hm (λx e => .inr (h.s.lt x e).1),h.c.stay hm (λg hg e=>h.d g hg e),h2,λg hg e => ?_⟩
 rcases hn g e with h3|h3
 · exact h.d g hg h3
 · have:=(h.c.lt g hg).2;omega
theorem jW.alloc {w w1:World} {cv sv:Value} {cs ss:List aX} (h:jW w w1 cv sv cs ss) (o:Obj):jW (w.alloc o) w1 cv sv cs ss:=⟨h.g.alloc o,h.c.alloc o,h.s.alloc o,h.d⟩
set_option maxRecDepth 100000 in
set_option maxHeartbeats 3200000 in
theorem Bd (fv:Value) (l:List ay) (cells stacks:Int) (w:World) (h:aA 4 ay.cells w fv l) (Ff:l.length<=4398046511104) :
 Calls Tryz.prog 42 #[.agg #[fv,.int .i64 cells,.int .i64 stacks]] w λe w'=>e = .returned (.bool (dZ l cells stacks))/\Grow w w':=by
 obtain⟨fa,iX,rfl,NN,NP⟩:=h.form
 have HR:=Lib.hid h
 have hg0:Grow w (w.alloc (.cells #[.slice fa l.length iX,.int .i64 cells,.int .i64 stacks] 33)):=(Mv.refl _ _).alloc _
 have l9:=heap_alloc_new w (.cells #[.slice fa l.length iX,.int .i64 cells,.int .i64 stacks] 33)
 have iH:=Lib.hid hg0
 have l8:=Lib.hid l9
 clear h hg0 l9
 go_enter Tryz.func42,Tryz.ntmps42
 go_wp2_with fail
 have hsz1:w.heap.size<(w.alloc (.cells #[.slice fa l.length iX,.int .i64 cells,.int .i64 stacks] 33)).heap.size:=by simp
 generalize w.alloc (.cells #[.slice fa l.length iX,.int .i64 cells,.int .i64 stacks] 33)=w1 at *
 go_loopw [3,4,10] (λcv sv t wr=>∃ (k:Nat) (cs ss:List aX),t = .int .i64 k/\k<=l.length/\ig l k=some (cs,ss)/\cs.length<=k/\ss.length<=k/\jW wr w1 cv sv cs ss) (λ_ _ t _=>l.length - (intOf t).toNat)
 case atStart=>exact⟨0,[],[],rfl,Nat.zero_le _,rfl,Nat.le_refl _,Nat.le_refl _,Mv.refl _ _,World.ownsRow_nil _ _ _ _,World.ownsRow_nil _ _ _ _,by simp[Value.ownBlock]⟩
 obtain⟨k,cs,ss,rfl,hk,hsk,hcl,hsl,hp⟩:=hrel
 have sQ:=Lib.hid hsk
 clear hsk
 by_cases hlt:k<l.length
 · obtain⟨b,off,cap',e,_,hcc⟩:=(HR.out.later (Mv.trans iH.out hp.g (λ_ e=>e.elim))).at hlt
   simp only[Value.slice.injEq,true_and]at e
   obtain⟨rfl,rfl⟩:=e
   have c0:=hcc 0 _ rfl
   have c1:=hcc 1 _ rfl
   have c2:=hcc 2 _ rfl
   have c3:=hcc 3 _ rfl
   simp only[Nat.add_zero]at c0
   have hbl:b<wr.heap.size:=World.block_lt_of_cell? wr _ c0
   have HS:=Lib.hid (Bb l k hlt)
   have Ah:=Lib.hid (λhn=>Bc l (l.length - (k+1)) (k+1) (by omega) hn)
   generalize hx:l[k]=x at *
   obtain⟨xs,xk,xl,xt⟩:=x
   simp only at c0 c1 c2 c3
   clear hcc hx
   by_cases hk1:xk=1
   · subst hk1
     have ib:=hp.alloc (.cells #[.string xs,.int .u8 1,.int .i64 xl,.int .i64 xt] 89)
     obtain⟨a',c',w2,⟨hok,hv,hw⟩,hrow2,jC,lT⟩:=xM _ (xt,1) _ _ _ ib.c ib.g.size (by omega)
     rw[World.size_alloc]at hok hv hw
     have sS:=Lib.hid (ib.Fe hrow2 jC lT)
     have sU:=Lib.hid (show ig l (k+1)=some (cs ++ [(xt,1)],ss)from by rw[HS.out,sQ.out];simp[kK])
     obtain⟨va,vc,sV⟩:=hp.c.slice
     subst sV
     clear hp ib hrow2 jC lT
     go_wp2_with fail
     go_roundw
     case rel=>exact⟨k+1,_,_,by go_num,by omega,sU.out,by first|omega|(simp;omega),by first|omega|(simp;omega),by simpa using sS.out⟩
     case measure=>simp[intOf];omega
   · have n1:(xk == 1)=false:=by simpa using hk1
     by_cases hk2:xk=2
     · subst hk2
       have ib:=hp.alloc (.cells #[.string xs,.int .u8 2,.int .i64 xl,.int .i64 xt] 89)
       obtain⟨a',c',w2,⟨hok,hv,hw⟩,hrow2,jC,lT⟩:=xM _ (xt,xl) _ _ _ ib.c ib.g.size (by omega)
       rw[World.size_alloc]at hok hv hw
       have sS:=Lib.hid (ib.Fe hrow2 jC lT)
       have sU:=Lib.hid (show ig l (k+1)=some (cs ++ [(xt,xl)],ss)from by rw[HS.out,sQ.out];simp[kK])
       obtain⟨va,vc,sV⟩:=hp.c.slice
       subst sV
       clear hp ib hrow2 jC lT
       go_wp2_with fail
       go_roundw
       case rel=>exact⟨k+1,_,_,by go_num,by omega,sU.out,by first|omega|(simp;omega),by first|omega|(simp;omega),by simpa using sS.out⟩
       case measure=>simp[intOf];omega
     · have n2:(xk == 2)=false:=by simpa using hk2
       by_cases hk3:xk=3
       · subst hk3
         have ib:=hp.alloc (.cells #[.string xs,.int .u8 3,.int .i64 xl,.int .i64 xt] 89)
         obtain⟨a',c',w2,⟨hok,hv,hw⟩,hrow2,jC,lT⟩:=xM _ (xt,1) _ _ _ ib.s ib.g.size (by omega)
         rw[World.size_alloc]at hok hv hw
         have sS:=Lib.hid (ib.Ou hrow2 jC lT)
         have sU:=Lib.hid (show ig l (k+1)=some (cs,ss ++ [(xt,1)])from by rw[HS.out,sQ.out];simp[kK])
         obtain⟨va,vc,sV⟩:=hp.s.slice
         subst sV
         clear hp ib hrow2 jC lT
         go_wp2_with fail
         go_roundw
         case rel=>exact⟨k+1,_,_,by go_num,by omega,sU.out,by first|omega|(simp;omega),by first|omega|(simp;omega),by simpa using sS.out⟩
         case measure=>simp[intOf];omega
       · have n3:(xk == 3)=false:=by simpa using hk3
         have HF:=Lib.hid (show dZ l cells stacks=false from by
          have h1:ig l (k+1)=none:=by rw[HS.out,sQ.out];simp[kK,hk1,hk2,hk3]
          have h2:=Ah.out h1
          rw[show k+1+(l.length - (k+1))=l.length by omega]at h2
          simp[dZ,h2])
         have Aj:=Lib.hid (Mv.trans iH.out hp.g (λ_ e=>e.elim))
         clear hk1 hk2 hk3 hp
         go_wp2_with fail
         go_ret
         exact⟨aj (by rw[HF.out]),Aj.out.alloc _⟩
 · obtain rfl:k=l.length:=by omega
   have GZ:=Lib.hid (show dZ l cells stacks=(il cs 0 cells && il ss 1 stacks)from by simp[dZ,sQ.out])
   have hbr:wr.heap[w.heap.size]? = some (.cells #[.slice fa l.length iX,.int .i64 cells,.int .i64 stacks] 33 (0,0)):=by
    rw[hp.g.block _ hsz1 (λh=>h)];exact l8.out
   have b1:wr.cell? ⟨w.heap.size,1,none⟩=some (.int .i64 cells):=by simp[World.cell?,hbr]
   have E8:=hp.g.size
   have G5:=Lib.hid hbr
   have HP:=Lib.hid hp
   have HA1:=Lib.hid (BL _ _ cs 0 cells wr hp.c (by omega))
   obtain⟨ca,cc,hcf⟩:=hp.c.slice
   obtain⟨sa,sc,Pn⟩:=hp.s.slice
   subst hcf
   subst Pn
   clear hbr hp
   go_wp2_with fail
   refine HA1.out.mono ?_
   rintro e w2 ⟨rfl,hm2⟩
   have rY:Grow w w2:=(Mv.trans iH.out HP.out.g (λ_ e=>e.elim)).trans hm2 (λx e => .inr (by have:=(HP.out.c.lt x e).1;have:=iH.out.size;omega))
   have hne:Value.ownBlock (.slice ca cs.length cc)≠some w.heap.size:=λe=>by have:=(HP.out.c.lt _ e).1;omega
   have b2:w2.cell? ⟨w.heap.size,2,none⟩=some (.int .i64 stacks):=by
    have h1:w2.heap[w.heap.size]? = wr.heap[w.heap.size]? := hm2.block _ (by omega) hne
    simp[World.cell?,h1,G5.out]
   have HA2:=Lib.hid (BL _ _ ss 1 stacks w2 (HP.out.s.stay hm2 (λg hg e=>HP.out.d g e hg)) (by omega))
   have HS2:=Lib.hid (show ∀ x,Value.ownBlock (.slice sa ss.length sc)=some x->w.heap.size<=x from λx e=>by have:=(HP.out.s.lt x e).1;have:=iH.out.size;omega)
   have gW:=Lib.hid rY
   generalize il cs 0 cells=q at *
   clear hm2 rY hne b1
   cases q
   · go_wp2_with fail
     go_ret
     exact⟨aj (by rw[GZ.out];rfl),gW.out⟩
   · go_wp2_with fail
     refine HA2.out.mono ?_
     rintro e w3 ⟨rfl,gy⟩
     have vK:=Lib.hid (show Grow w w3 from gW.out.trans gy (λx e => .inr (HS2.out x e)))
     clear gy
     go_wp2_with fail
     go_ret
     exact⟨aj (by rw[GZ.out];rfl),vK.out⟩
end
end Go.Proofs.YtadecgbblajifaaGreatDoor
namespace Go.Proofs.YtadecgbblajifaaGreatDoor.DV
open Go
theorem row_of {α:Type} {n:Nat} {enc:α->D} {f:α->List Value} {g:G} {w:World} {v:Value} {l:List α} (hfm:∀ b c,g.fm b=some c->mem w b=some c) (he:∀ x,cellsD (enc x)=some (f x)) (hl:l.length<=9223372036854775807) (h:VR g (.sl false n (l.map enc)) v):aA n f w v l:=by
 simp only[VR,CR,List.cons.injEq,and_true,List.length_map]at h
 obtain⟨a,c,rfl,h1,h2⟩:=h
 refine⟨a,c,rfl,h1.1,hl,λi x hx => ?_⟩
 rcases h2 with h2|⟨b,o,blk,rfl,h3,h4,h5⟩
 · have:l=[]:=by simpa using h2
   subst this
   simp at hx
 · refine⟨b,o,rfl,λj u hu => ?_⟩
   have h4':o+(l.map enc).length * n<=blk.length:=by simpa using h4
   have h5':ah g (List.replicate (l.map enc).length n) (l.map enc) ((blk.drop o).take ((l.map enc).length * n)):=by simpa using h5
   have h6:=Dv (n:=i) (e:=enc x) h4' h5' (by rw[List.getElem?_map,hx];rfl)
   have h7:=ll _ _ _ (he x) h6.2
   rw[mO (hfm _ _ h3)]
   rw[← h7,List.getElem?_take]at hu
   split at hu
   · rwa[List.getElem?_drop]at hu
   · simp at hu
theorem Eb {α:Type} {n:Nat} {enc:α->D} {f:α->List Value} {g:G} {blk:List Value} (hcr:∀ x,CR g false (enc x) (f x)) (hn:∀ x,(f x).length=n):∀ (l:List α) (o:Nat),(∀ i x,l[i]? = some x->∀ j u,(f x)[j]? = some u->blk[o+i * n+j]? = some u)->o+l.length * n<=blk.length->ah g (List.replicate l.length n) (l.map enc) ((blk.drop o).take (l.length * n))
 | [],o,_,_=>by simp[ah]
 |x :: l,o,h,hl=>by
  simp only[List.length_cons,Nat.succ_mul]at hl
  have ih:=Eb hcr hn l (o+n) (λi y hy j u hu=>by
   have:=h (i+1) y (by simpa using hy) j u hu
   rw[show o+n+i * n+j=o+(i+1) * n+j by rw[Nat.succ_mul];omega]
   exact this) (by omega)
  simp only[List.length_cons,List.replicate_succ,List.map_cons,ah]
  have e1:((blk.drop o).take ((l.length+1) * n)).take n=f x:=by
   rw[List.take_take,Nat.min_eq_left (by rw[Nat.succ_mul];omega)]
   apply List.ext_getElem?
   intro j
   rw[List.getElem?_take]
   split
   · rename_i hj
     rw[List.getElem?_drop]
     have hj':j<(f x).length:=by rw[hn];exact hj
     have:=h 0 x rfl j _ (List.getElem?_eq_getElem hj')
     rw[List.getElem?_eq_getElem hj',← this]
     congr 1;omega
   · rw[List.getElem?_eq_none (by rw[hn];omega)]
  refine⟨by simp[Nat.succ_mul];omega,by rw[e1];exact hcr x,?_⟩
  rw[List.drop_take,List.drop_drop,Nat.succ_mul,Nat.add_sub_cancel]
  exact ih
theorem uL {α:Type} {n:Nat} {enc:α->D} {f:α->List Value} {w:World} {v:Value} {l:List α} (hcr:∀ x,CR (gH w) false (enc x) (f x)) (hn:∀ x,(f x).length=n) (h0:0<n) (h:aA n f w v l):VR (gH w) (.sl false n (l.map enc)) v:=by
 obtain⟨a,c,rfl,h1,_,h3⟩:=h
 simp only[VR,CR,List.cons.injEq,and_true,List.length_map]
 refine⟨a,c,rfl,⟨h1,λh=>by simp at h⟩,?_⟩
 cases l with
 |nil=>exact .inl rfl
 |cons x l =>
  right
  obtain⟨b,o,rfl,h4⟩:=h3 0 x rfl
  have hcell:∀ i y,(x :: l)[i]? = some y->∀ j u,(f y)[j]? = some u->w.cell? ⟨b,o+i * n+j,none⟩=some u:=by
   intro i y hy j u hu
   obtain⟨b',o',hb,h5⟩:=h3 i y hy
   simp only[Option.some.injEq,Addr.mk.injEq,and_true]at hb
   obtain⟨rfl,rfl⟩:=hb
   exact h5 j u hu
  have hm:∃ blk,mem w b=some blk:=by
   have h5:=hcell 0 x rfl 0 _ (List.getElem?_eq_getElem (by rw[hn];exact h0))
   unfold World.cell? at h5
   unfold mem
   split at h5
   · rename_i c0 e0 z0 hb
     simp only at hb
     exact⟨_,by rw[hb]⟩
   all_goals simp at h5
  obtain⟨blk,hm⟩:=hm
  have hblk:∀ i y,(x :: l)[i]? = some y->∀ j u,(f y)[j]? = some u->blk[o+i * n+j]? = some u:=by
   intro i y hy j u hu
   have:=hcell i y hy j u hu
   rwa[mO hm]at this
  have hlen:o+(x :: l).length * n<=blk.length:=by
   have h5:l.length<(x :: l).length:=by simp
   have h6:=hblk l.length _ (List.getElem?_eq_getElem h5) (n - 1) _ (List.getElem?_eq_getElem (by rw[hn];omega))
   have h7:=(List.getElem?_eq_some_iff.1 h6).1
   simp only[List.length_cons,Nat.succ_mul]
   omega
  exact⟨b,o,blk,rfl,hm,hlen,Eb hcr hn _ _ hblk hlen⟩
theorem zu {g:G} {ss:List Nat} {ds:List D} {v:Value} (h:VR g (.st ss ds) v):∃ cs,v = .agg ⟨cs⟩/\ah g ss ds cs:=by
 simp only[VR,CR,wrap,if_true,List.cons.injEq,and_true]at h
 obtain⟨c,rfl,h⟩:=h
 exact⟨c,rfl,h⟩
theorem KI {g:G} {w:World} {l:List ay} {a b:Int} {v:Value} (hfm:∀ b c,g.fm b=some c->mem w b=some c) (hl:l.length<=9223372036854775807) (h:VR g (jm l a b) v):∃ fv,v = .agg #[fv,.int .i64 a,.int .i64 b]/\aA 4 ay.cells w fv l:=by
 obtain⟨cs,rfl,hc⟩:=zu h
 simp only[ah]at hc
 obtain⟨h0,h1,h2,h3,h4,h5,h6⟩:=hc
 have e1:=(CR.len _ _ h1).1
 match cs,h0 with
 |c :: cs,_ =>
  simp only[List.take_succ_cons,List.take_zero,List.drop_succ_cons,List.drop_zero]at h1 h2 h3 h4 h5 h6
  match cs,h2 with
  |c2 :: cs,_ =>
   simp only[List.take_succ_cons,List.take_zero,List.drop_succ_cons,List.drop_zero]at h3 h4 h5 h6
   match cs,h4 with
   |c3 :: cs,_ =>
    simp only[List.take_succ_cons,List.take_zero,List.drop_succ_cons,List.drop_zero]at h5 h6
    have e2:=ll _ _ _ (rfl:cellsD (iD a)=some [.int .i64 a]) h3
    have e3:=ll _ _ _ (rfl:cellsD (iD b)=some [.int .i64 b]) h5
    simp only[List.cons.injEq,and_true]at e2 e3
    subst e2 e3 h6
    refine⟨c,rfl,row_of (enc:=iN) hfm (λx=>rfl) hl ?_⟩
    simpa only[VR,CR]using h1
theorem MZ (l:List ay) (a b:Int) (hl:l.length<=4398046511104):Pure Tryz.prog bB 42 [jm l a b] (bD (dZ l a b)):=tT _ (by kernel_rfl) λg w vs hfm _ h=>by
 simp only[au]at h
 obtain⟨v,vs',rfl,h1,rfl⟩:=h
 obtain⟨fv,rfl,hr⟩:=KI hfm (by omega) h1
 exact(Bd fv l a b w hr hl).mono λe w' h=>⟨h.1,uA h.2⟩
end Go.Proofs.YtadecgbblajifaaGreatDoor.DV
namespace Go.Proofs.YtadecgbblajifaaGreatDoor
end Go.Proofs.YtadecgbblajifaaGreatDoor
