import Derived.Test.YtadecgbblajifaaGreatDoorE19
import Derived.Deep.AppendLies
set_option linter.unusedSimpArgs false
set_option linter.unusedVariables false
set_option maxRecDepth 100000
set_option maxHeartbeats 25600000
namespace Go.Proofs.YtadecgbblajifaaGreatDoor
section
open Go.RowKit
attribute [local go_sem ↓] qH
theorem Tryz.ZR:(Tryz.prog.info? 155).map (λi=>(i.zero,i.size,i.bytes))=some (some (.agg #[.int .i64 0,.int .i64 0]),2,16):=by kernel_rfl
theorem IW (v:Value) (x:dM) (xs:List dM) (base:Nat) (w:World) (hrow:jF w base v xs) (hb:base<=w.heap.size) (hlen:xs.length<=4398046511104) :
 ∃ a' c' w2,(yG Tryz.prog 153 153 v (.slice (some ⟨w.heap.size,0,none⟩) 1 1) (w.alloc (.cells #[.int .i64 x.1,.int .i64 x.2] 155)) /\
  tX Tryz.prog 153 153 v (.slice (some ⟨w.heap.size,0,none⟩) 1 1) (w.alloc (.cells #[.int .i64 x.1,.int .i64 x.2] 155)) = .slice a' (xs.length+1) c'/\appW Tryz.prog 153 153 v (.slice (some ⟨w.heap.size,0,none⟩) 1 1) (w.alloc (.cells #[.int .i64 x.1,.int .i64 x.2] 155))=w2) /\
  jF w2 base (.slice a' (xs.length+1) c') (xs ++ [x])/\Mv (λb=>v.ownBlock=some b) w w2/\(∀ g,(Value.slice a' (xs.length+1) c').ownBlock=some g->v.ownBlock=some g\/w.heap.size<=g):=by
 obtain⟨i0,hi,hz0,hz1,hz2⟩:=info_parts Tryz.ZR
 obtain⟨v',w2,hr,hown1,hgrow,_,hnew⟩:=MZ (P:=Tryz.prog) (w.alloc (.cells #[.int .i64 x.1,.int .i64 x.2] 155)) base 153 153 155 i0 (.agg #[.int .i64 0,.int .i64 0]) 2 16 Tryz.underlying153 hi hz0 hz1 hz2 rfl (by decide) v _ _ (hrow.alloc _) ⟨w.heap.size,0,none⟩ 1 1 [.int .i64 x.1,.int .i64 x.2] rfl
  (World.news_of_block (cs:=#[.int .i64 x.1,.int .i64 x.2]) (t:=155) (fr:=(0,0)) (heap_alloc_new w _)) (by simp[Value.oneCell']) (by unfold maxLen;omega) (by omega) (by simp;omega)
 have hform:∃ a' c',v' = .slice a' (xs.length+1) c':=by
  rcases hown1.2 with⟨_,h0⟩|⟨g,cap,cur,rfl,_⟩
  · omega
  · exact⟨_,_,rfl⟩
 obtain⟨a',c',rfl⟩:=hform
 obtain⟨hok,hv,hw2⟩:=JG hr
 refine⟨a',c',w2,⟨hok,hv,hw2⟩,?_,((Mv.refl _ _).alloc _).grown hgrow (λk hk => .inl hk),λg hg => ?_⟩
 · rw[jF,Xk];simpa using hown1
 · rcases hnew g hg with h1|h1
   · exact .inl h1
   · exact .inr (by simp at h1;omega)
def qQ (p:List dM × List dM) (s:aI):Option (List dM × List dM) :=
 if s.kind=1 then some (p.1 ++ [(s.at',1)],p.2)else if s.kind=2 then some (p.1 ++ [(s.at',s.len)],p.2)else if s.kind=3 then some (p.1,p.2 ++ [(s.at',1)])else none
def lH (l:List aI) (k:Nat):Option (List dM × List dM):=(l.take k).foldlM qQ ([],[])
def iQ (l:List aI) (cells stacks:Int):Bool:=match lH l l.length with
 |none=>false
 |some p=>lL p.1 0 cells && lL p.2 1 stacks
theorem Nl (l:List aI) (k:Nat) (h:k<l.length):lH l (k+1)=(lH l k).bind λp=>qQ p l[k]:=by
 unfold lH
 rw[List.take_succ_eq_append_getElem h,List.foldlM_append]
 simp
theorem Nn (l:List aI):∀ (d k:Nat),k+d<=l.length->lH l k=none->lH l (k+d)=none
 |0,_,_,h=>h
 |d+1,k,hk,h=>by
  have:=Nn l d (k+1) (by omega) (by rw[Nl l k (by omega),h];rfl)
  rwa[show k+1+d=k+(d+1) by omega]at this
structure p8 (w w1:World) (cv sv:Value) (cs ss:List dM):Prop where
 g:Grow w1 w
 c:jF w w1.heap.size cv cs
 s:jF w w1.heap.size sv ss
 d:∀ g,cv.ownBlock=some g->sv.ownBlock≠some g
theorem jF.stay {w w':World} {base:Nat} {v:Value} {l:List dM} {O:Nat->Prop} (h:jF w base v l) (hm:Mv O w w') (hO:∀ g,v.ownBlock=some g->¬ O g):jF w' base v l:=by
 refine⟨h.1,?_⟩
 rcases h.2 with h1|⟨g,cap,cur,rfl,hb,hg,rest⟩
 · exact .inl h1
 · exact .inr ⟨g,cap,cur,rfl,hb,by rw[hm.block g (lt_of_block hg) (hO g rfl)];exact hg,rest⟩
theorem jF.slice {w:World} {base:Nat} {v:Value} {l:List dM} (h:jF w base v l):∃ a c,v = .slice a l.length c:=by
 rcases h.2 with⟨rfl,hl⟩|⟨g,cap,cur,rfl,_⟩
 · exact⟨none,0,by rw[hl]⟩
 · exact⟨_,_,rfl⟩
theorem p8.TE {w w1 w2:World} {cv sv zG:Value} {cs cs2 ss:List dM} (h:p8 w w1 cv sv cs ss) (h2:jF w2 w1.heap.size zG cs2) (hm:Mv (λb=>cv.ownBlock=some b) w w2) (hn:∀ g,zG.ownBlock=some g->cv.ownBlock=some g\/w.heap.size<=g):p8 w2 w1 zG sv cs2 ss:=by
 refine⟨h.g.trans hm (λx e => .inr (h.c.lt x e).1),h2,h.s.stay hm (λg hg e=>h.d g e hg),λg hg e => ?_⟩
 rcases hn g hg with h3|h3
 · exact h.d g h3 e
 · have:=(h.s.lt g e).2;omega
theorem p8.adg {w w1 w2:World} {cv sv Ma:Value} {cs ss VF:List dM} (h:p8 w w1 cv sv cs ss) (h2:jF w2 w1.heap.size Ma VF) (hm:Mv (λb=>sv.ownBlock=some b) w w2) (hn:∀ g,Ma.ownBlock=some g->sv.ownBlock=some g\/w.heap.size<=g):p8 w2 w1 cv Ma cs VF:=by
 refine⟨h.g.trans hm (λx e => .inr (h.s.lt x e).1),h.c.stay hm (λg hg e=>h.d g hg e),h2,λg hg e => ?_⟩
 rcases hn g e with h3|h3
 · exact h.d g hg h3
 · have:=(h.c.lt g hg).2;omega
theorem p8.alloc {w w1:World} {cv sv:Value} {cs ss:List dM} (h:p8 w w1 cv sv cs ss) (o:Obj):p8 (w.alloc o) w1 cv sv cs ss:=⟨h.g.alloc o,h.c.alloc o,h.s.alloc o,h.d⟩
set_option maxRecDepth 100000 in
set_option maxHeartbeats 3200000 in
theorem Np (fv:Value) (l:List aI) (cells stacks:Int) (w:World) (h:aB 4 aI.cells w fv l) (TF:l.length<=4398046511104) :
 Calls Tryz.prog 42 #[.agg #[fv,.int .i64 cells,.int .i64 stacks]] w λe w'=>e = .returned (.bool (iQ l cells stacks))/\Grow w w':=by
 obtain⟨fa,mY,rfl,aci,acj⟩:=h.form
 have HR:=Lib.hid h
 have hg0:Grow w (w.alloc (.cells #[.slice fa l.length mY,.int .i64 cells,.int .i64 stacks] 33)):=(Mv.refl _ _).alloc _
 have tZ:=heap_alloc_new w (.cells #[.slice fa l.length mY,.int .i64 cells,.int .i64 stacks] 33)
 have ma:=Lib.hid hg0
 have tY:=Lib.hid tZ
 clear h hg0 tZ
 go_enter Tryz.func42,Tryz.ntmps42
 go_wp2_with fail
 have hsz1:w.heap.size<(w.alloc (.cells #[.slice fa l.length mY,.int .i64 cells,.int .i64 stacks] 33)).heap.size:=by simp
 generalize w.alloc (.cells #[.slice fa l.length mY,.int .i64 cells,.int .i64 stacks] 33)=w1 at *
 go_loopw [3,4,10] (λcv sv t wr=>∃ (k:Nat) (cs ss:List dM),t = .int .i64 k/\k<=l.length/\lH l k=some (cs,ss)/\cs.length<=k/\ss.length<=k/\p8 wr w1 cv sv cs ss) (λ_ _ t _=>l.length - (intOf t).toNat)
 case atStart=>exact⟨0,[],[],rfl,Nat.zero_le _,rfl,Nat.le_refl _,Nat.le_refl _,Mv.refl _ _,World.ownsRow_nil _ _ _ _,World.ownsRow_nil _ _ _ _,by simp[Value.ownBlock]⟩
 obtain⟨k,cs,ss,rfl,hk,hsk,hcl,hsl,hp⟩:=hrel
 have Cq:=Lib.hid hsk
 clear hsk
 by_cases hlt:k<l.length
 · obtain⟨b,off,cap',e,_,hcc⟩:=(HR.out.later (Mv.trans ma.out hp.g (λ_ e=>e.elim))).at hlt
   simp only[Value.slice.injEq,true_and]at e
   obtain⟨rfl,rfl⟩:=e
   have c0:=hcc 0 _ rfl
   have c1:=hcc 1 _ rfl
   have c2:=hcc 2 _ rfl
   have c3:=hcc 3 _ rfl
   simp only[Nat.add_zero]at c0
   have hbl:b<wr.heap.size:=World.block_lt_of_cell? wr _ c0
   have HS:=Lib.hid (Nl l k hlt)
   have LU:=Lib.hid (λhn=>Nn l (l.length - (k+1)) (k+1) (by omega) hn)
   generalize hx:l[k]=x at *
   obtain⟨xs,xk,xl,xt⟩:=x
   simp only at c0 c1 c2 c3
   clear hcc hx
   by_cases hk1:xk=1
   · subst hk1
     have lu:=hp.alloc (.cells #[.string xs,.int .u8 1,.int .i64 xl,.int .i64 xt] 89)
     obtain⟨a',c',w2,⟨hok,hv,hw⟩,hrow2,eG,sU⟩:=IW _ (xt,1) _ _ _ lu.c lu.g.size (by omega)
     rw[World.size_alloc]at hok hv hw
     have xq:=Lib.hid (lu.TE hrow2 eG sU)
     have Cr:=Lib.hid (show lH l (k+1)=some (cs ++ [(xt,1)],ss)from by rw[HS.out,Cq.out];simp[qQ])
     obtain⟨va,vc,uG⟩:=hp.c.slice
     subst uG
     clear hp lu hrow2 eG sU
     go_wp2_with fail
     go_roundw
     case rel=>exact⟨k+1,_,_,by go_num,by omega,Cr.out,by first|omega|(simp;omega),by first|omega|(simp;omega),by simpa using xq.out⟩
     case measure=>simp[intOf];omega
   · have n1:(xk == 1)=false:=by simpa using hk1
     by_cases hk2:xk=2
     · subst hk2
       have lu:=hp.alloc (.cells #[.string xs,.int .u8 2,.int .i64 xl,.int .i64 xt] 89)
       obtain⟨a',c',w2,⟨hok,hv,hw⟩,hrow2,eG,sU⟩:=IW _ (xt,xl) _ _ _ lu.c lu.g.size (by omega)
       rw[World.size_alloc]at hok hv hw
       have xq:=Lib.hid (lu.TE hrow2 eG sU)
       have Cr:=Lib.hid (show lH l (k+1)=some (cs ++ [(xt,xl)],ss)from by rw[HS.out,Cq.out];simp[qQ])
       obtain⟨va,vc,uG⟩:=hp.c.slice
       subst uG
       clear hp lu hrow2 eG sU
       go_wp2_with fail
       go_roundw
       case rel=>exact⟨k+1,_,_,by go_num,by omega,Cr.out,by first|omega|(simp;omega),by first|omega|(simp;omega),by simpa using xq.out⟩
       case measure=>simp[intOf];omega
     · have n2:(xk == 2)=false:=by simpa using hk2
       by_cases hk3:xk=3
       · subst hk3
         have lu:=hp.alloc (.cells #[.string xs,.int .u8 3,.int .i64 xl,.int .i64 xt] 89)
         obtain⟨a',c',w2,⟨hok,hv,hw⟩,hrow2,eG,sU⟩:=IW _ (xt,1) _ _ _ lu.s lu.g.size (by omega)
         rw[World.size_alloc]at hok hv hw
         have xq:=Lib.hid (lu.adg hrow2 eG sU)
         have Cr:=Lib.hid (show lH l (k+1)=some (cs,ss ++ [(xt,1)])from by rw[HS.out,Cq.out];simp[qQ])
         obtain⟨va,vc,uG⟩:=hp.s.slice
         subst uG
         clear hp lu hrow2 eG sU
         go_wp2_with fail
         go_roundw
         case rel=>exact⟨k+1,_,_,by go_num,by omega,Cr.out,by first|omega|(simp;omega),by first|omega|(simp;omega),by simpa using xq.out⟩
         case measure=>simp[intOf];omega
       · have n3:(xk == 3)=false:=by simpa using hk3
         have HF:=Lib.hid (show iQ l cells stacks=false from by
          have h1:lH l (k+1)=none:=by rw[HS.out,Cq.out];simp[qQ,hk1,hk2,hk3]
          have h2:=LU.out h1
          rw[show k+1+(l.length - (k+1))=l.length by omega]at h2
          simp[iQ,h2])
         have LW:=Lib.hid (Mv.trans ma.out hp.g (λ_ e=>e.elim))
         clear hk1 hk2 hk3 hp
         go_wp2_with fail
         go_ret
         exact⟨ax (by rw[HF.out]),LW.out.alloc _⟩
 · obtain rfl:k=l.length:=by omega
   have VG:=Lib.hid (show iQ l cells stacks=(lL cs 0 cells && lL ss 1 stacks)from by simp[iQ,Cq.out])
   have hbr:wr.heap[w.heap.size]? = some (.cells #[.slice fa l.length mY,.int .i64 cells,.int .i64 stacks] 33 (0,0)):=by
    rw[hp.g.block _ hsz1 (λh=>h)];exact tY.out
   have b1:wr.cell? ⟨w.heap.size,1,none⟩=some (.int .i64 cells):=by simp[World.cell?,hbr]
   have TA:=hp.g.size
   have uH:=Lib.hid hbr
   have HP:=Lib.hid hp
   have HA1:=Lib.hid (Om _ _ cs 0 cells wr hp.c (by omega))
   obtain⟨ca,cc,hcf⟩:=hp.c.slice
   obtain⟨sa,sc,hsf⟩:=hp.s.slice
   subst hcf
   subst hsf
   clear hbr hp
   go_wp2_with fail
   refine HA1.out.mono ?_
   rintro e w2 ⟨rfl,hm2⟩
   have BL:Grow w w2:=(Mv.trans ma.out HP.out.g (λ_ e=>e.elim)).trans hm2 (λx e => .inr (by have:=(HP.out.c.lt x e).1;have:=ma.out.size;omega))
   have hne:Value.ownBlock (.slice ca cs.length cc)≠some w.heap.size:=λe=>by have:=(HP.out.c.lt _ e).1;omega
   have b2:w2.cell? ⟨w.heap.size,2,none⟩=some (.int .i64 stacks):=by
    have h1:w2.heap[w.heap.size]? = wr.heap[w.heap.size]? := hm2.block _ (by omega) hne
    simp[World.cell?,h1,uH.out]
   have HA2:=Lib.hid (Om _ _ ss 1 stacks w2 (HP.out.s.stay hm2 (λg hg e=>HP.out.d g e hg)) (by omega))
   have HS2:=Lib.hid (show ∀ x,Value.ownBlock (.slice sa ss.length sc)=some x->w.heap.size<=x from λx e=>by have:=(HP.out.s.lt x e).1;have:=ma.out.size;omega)
   have kY:=Lib.hid BL
   generalize lL cs 0 cells=q at *
   clear hm2 BL hne b1
   cases q
   · go_wp2_with fail
     go_ret
     exact⟨ax (by rw[VG.out];rfl),kY.out⟩
   · go_wp2_with fail
     refine HA2.out.mono ?_
     rintro e w3 ⟨rfl,dR⟩
     have Fh:=Lib.hid (show Grow w w3 from kY.out.trans dR (λx e => .inr (HS2.out x e)))
     clear dR
     go_wp2_with fail
     go_ret
     exact⟨ax (by rw[VG.out];rfl),Fh.out⟩
end
end Go.Proofs.YtadecgbblajifaaGreatDoor
namespace Go.Proofs.YtadecgbblajifaaGreatDoor.DV
open Go
theorem row_of {α:Type} {n:Nat} {enc:α->D} {f:α->List Value} {g:G} {w:World} {v:Value} {l:List α} (hfm:∀ b c,g.fm b=some c->mem w b=some c) (he:∀ x,cellsD (enc x)=some (f x)) (hl:l.length<=9223372036854775807) (h:VR g (.sl false n (l.map enc)) v):aB n f w v l:=by
 simp only[VR,CR,List.cons.injEq,and_true,List.length_map]at h
 obtain⟨a,c,rfl,h1,h2⟩:=h
 refine⟨a,c,rfl,h1.1,hl,λi x hx => ?_⟩
 rcases h2 with h2|⟨b,o,blk,rfl,h3,h4,h5⟩
 · have:l=[]:=by simpa using h2
   subst this
   simp at hx
 · refine⟨b,o,rfl,λj u hu => ?_⟩
   have h4':o+(l.map enc).length * n<=blk.length:=by simpa using h4
   have h5':aj g (List.replicate (l.map enc).length n) (l.map enc) ((blk.drop o).take ((l.map enc).length * n)):=by simpa using h5
   have h6:=QK (n:=i) (e:=enc x) h4' h5' (by rw[List.getElem?_map,hx];rfl)
   have h7:=rV _ _ _ (he x) h6.2
   rw[vg (hfm _ _ h3)]
   rw[← h7,List.getElem?_take]at hu
   split at hu
   · rwa[List.getElem?_drop]at hu
   · simp at hu
theorem Rh {α:Type} {n:Nat} {enc:α->D} {f:α->List Value} {g:G} {blk:List Value} (hcr:∀ x,CR g false (enc x) (f x)) (hn:∀ x,(f x).length=n):∀ (l:List α) (o:Nat),(∀ i x,l[i]? = some x->∀ j u,(f x)[j]? = some u->blk[o+i * n+j]? = some u)->o+l.length * n<=blk.length->aj g (List.replicate l.length n) (l.map enc) ((blk.drop o).take (l.length * n))
 | [],o,_,_=>by simp[aj]
 |x :: l,o,h,hl=>by
  simp only[List.length_cons,Nat.succ_mul]at hl
  have ih:=Rh hcr hn l (o+n) (λi y hy j u hu=>by
   have:=h (i+1) y (by simpa using hy) j u hu
   rw[show o+n+i * n+j=o+(i+1) * n+j by rw[Nat.succ_mul];omega]
   exact this) (by omega)
  simp only[List.length_cons,List.replicate_succ,List.map_cons,aj]
  have e1:((blk.drop o).take ((l.length+1) * n)).take n=f x:=by
   rw[List.take_take,Nat.min_eq_left (by rw[Nat.succ_mul];omega)]
   apply List.ext_getElem?
   intro j
   rw[List.getElem?_take]
   split
   · rename_i hj
     rw[List.getElem?_drop]
     have hj':j<(f x).length:=by rw[hn];exact hj
     have:=h 0 x rfl j _ (List.getElem?_eq_getElem hj')
     rw[List.getElem?_eq_getElem hj',← this]
     congr 1;omega
   · rw[List.getElem?_eq_none (by rw[hn];omega)]
  refine⟨by simp[Nat.succ_mul];omega,by rw[e1];exact hcr x,?_⟩
  rw[List.drop_take,List.drop_drop,Nat.succ_mul,Nat.add_sub_cancel]
  exact ih
theorem Em {α:Type} {n:Nat} {enc:α->D} {f:α->List Value} {w:World} {v:Value} {l:List α} (hcr:∀ x,CR (ku w) false (enc x) (f x)) (hn:∀ x,(f x).length=n) (h0:0<n) (h:aB n f w v l):VR (ku w) (.sl false n (l.map enc)) v:=by
 obtain⟨a,c,rfl,h1,_,h3⟩:=h
 simp only[VR,CR,List.cons.injEq,and_true,List.length_map]
 refine⟨a,c,rfl,⟨h1,λh=>by simp at h⟩,?_⟩
 cases l with
 |nil=>exact .inl rfl
 |cons x l =>
  right
  obtain⟨b,o,rfl,h4⟩:=h3 0 x rfl
  have hcell:∀ i y,(x :: l)[i]? = some y->∀ j u,(f y)[j]? = some u->w.cell? ⟨b,o+i * n+j,none⟩=some u:=by
   intro i y hy j u hu
   obtain⟨b',o',hb,h5⟩:=h3 i y hy
   simp only[Option.some.injEq,Addr.mk.injEq,and_true]at hb
   obtain⟨rfl,rfl⟩:=hb
   exact h5 j u hu
  have hm:∃ blk,mem w b=some blk:=by
   have h5:=hcell 0 x rfl 0 _ (List.getElem?_eq_getElem (by rw[hn];exact h0))
   unfold World.cell? at h5
   unfold mem
   split at h5
   · rename_i c0 e0 z0 hb
     simp only at hb
     exact⟨_,by rw[hb]⟩
   all_goals simp at h5
  obtain⟨blk,hm⟩:=hm
  have hblk:∀ i y,(x :: l)[i]? = some y->∀ j u,(f y)[j]? = some u->blk[o+i * n+j]? = some u:=by
   intro i y hy j u hu
   have:=hcell i y hy j u hu
   rwa[vg hm]at this
  have hlen:o+(x :: l).length * n<=blk.length:=by
   have h5:l.length<(x :: l).length:=by simp
   have h6:=hblk l.length _ (List.getElem?_eq_getElem h5) (n - 1) _ (List.getElem?_eq_getElem (by rw[hn];omega))
   have h7:=(List.getElem?_eq_some_iff.1 h6).1
   simp only[List.length_cons,Nat.succ_mul]
   omega
  exact⟨b,o,blk,rfl,hm,hlen,Rh hcr hn _ _ hblk hlen⟩
theorem Ki {g:G} {ss:List Nat} {ds:List D} {v:Value} (h:VR g (.st ss ds) v):∃ cs,v = .agg ⟨cs⟩/\aj g ss ds cs:=by
 simp only[VR,CR,wrap,if_true,List.cons.injEq,and_true]at h
 obtain⟨c,rfl,h⟩:=h
 exact⟨c,rfl,h⟩
theorem ZT {g:G} {w:World} {l:List aI} {a b:Int} {v:Value} (hfm:∀ b c,g.fm b=some c->mem w b=some c) (hl:l.length<=9223372036854775807) (h:VR g (nP l a b) v):∃ fv,v = .agg #[fv,.int .i64 a,.int .i64 b]/\aB 4 aI.cells w fv l:=by
 obtain⟨cs,rfl,hc⟩:=Ki h
 simp only[aj]at hc
 obtain⟨h0,h1,h2,h3,h4,h5,h6⟩:=hc
 have e1:=(CR.len _ _ h1).1
 match cs,h0 with
 |c :: cs,_ =>
  simp only[List.take_succ_cons,List.take_zero,List.drop_succ_cons,List.drop_zero]at h1 h2 h3 h4 h5 h6
  match cs,h2 with
  |c2 :: cs,_ =>
   simp only[List.take_succ_cons,List.take_zero,List.drop_succ_cons,List.drop_zero]at h3 h4 h5 h6
   match cs,h4 with
   |c3 :: cs,_ =>
    simp only[List.take_succ_cons,List.take_zero,List.drop_succ_cons,List.drop_zero]at h5 h6
    have e2:=rV _ _ _ (rfl:cellsD (iD a)=some [.int .i64 a]) h3
    have e3:=rV _ _ _ (rfl:cellsD (iD b)=some [.int .i64 b]) h5
    simp only[List.cons.injEq,and_true]at e2 e3
    subst e2 e3 h6
    refine⟨c,rfl,row_of (enc:=kg) hfm (λx=>rfl) hl ?_⟩
    simpa only[VR,CR]using h1
theorem abt (l:List aI) (a b:Int) (hl:l.length<=4398046511104):Pure Tryz.prog dL 42 [nP l a b] (bD (iQ l a b)):=Im _ (by kernel_rfl) λg w vs hfm _ h=>by
 simp only[aC]at h
 obtain⟨v,vs',rfl,h1,rfl⟩:=h
 obtain⟨fv,rfl,hr⟩:=ZT hfm (by omega) h1
 exact(Np fv l a b w hr hl).mono λe w' h=>⟨h.1,qN h.2⟩
end Go.Proofs.YtadecgbblajifaaGreatDoor.DV
namespace Go.Proofs.YtadecgbblajifaaGreatDoor
end Go.Proofs.YtadecgbblajifaaGreatDoor
