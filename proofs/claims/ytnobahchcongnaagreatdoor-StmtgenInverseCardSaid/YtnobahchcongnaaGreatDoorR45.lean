import Derived.Test.YtnobahchcongnaaGreatDoorR44
import Derived.Laws.StructEq
set_option linter.unusedSimpArgs false
set_option linter.unusedVariables false
set_option maxRecDepth 100000
set_option maxHeartbeats 25600000
namespace Go.Proofs.YtnobahchcongnaaGreatDoor
open Go.RowKit Go.Instr
theorem Xg {t:Tree} (h:bF t=true):bq t=false:=by
 obtain⟨k,n,s,l⟩:=t;rw[bF]at h;simp only[Bool.and_eq_true,beq_iff_eq]at h;obtain⟨rfl,-⟩:=h;simp[bq]
theorem Ya (x:ae) (w:World) (hb:bF x.t=true) (hs:aI x.t<=100000) (h:aR w x):Calls Tryz.prog 13 #[x.val] w λe w'=>∃ y:ae,e = .returned (.tuple #[y.val,.int .i64 0])/\y.t=bY x.t/\aR w' y/\Grow w w':=by
 obtain⟨k,n,s,kv,l⟩:=x;obtain⟨ka,kc,rfl,-,-⟩:=h.form;obtain⟨aF,aZ,HG2⟩:=a2 w (.cells #[.int .u8 k,.int .i64 n,.string s,.slice ka l.length kc] 24) (.cells #[.int .u8 0,.int .i64 0,.string ⟨#[]⟩,.slice none 0 0] 24);have HS2:=ł (show w.heap.size+1<((w.alloc (.cells #[.int .u8 k,.int .i64 n,.string s,.slice ka l.length kc] 24)).alloc (.cells #[.int .u8 0,.int .i64 0,.string ⟨#[]⟩,.slice none 0 0] 24)).heap.size from by simp);have HIS:=ł (λ(z:World) (hz:Grow w z)=>Yo (.mk k n s (.slice ka l.length kc) l) z (h.later hz));have dZ:=ł (λ(z:World) (hz:Grow w z)=>Kc (.mk k n s (.slice ka l.length kc) l) z (h.later hz));have BL:=ł (λ(z:World) (hz:Grow w z)=>aaC (.mk k n s (.slice ka l.length kc) l) z (.inr hb) hs (h.later hz));rw[Xg hb]at HIS;rw[hb]at dZ;clear h hb hs;generalize bY (ae.t (.mk k n s (.slice ka l.length kc) l))=it at *;simp only[ae.val]at HIS dZ BL ⊢
 go_enter Tryz.func13,Tryz.ntmps13
 go_wp2_with fail;generalize ((w.alloc (.cells #[.int .u8 k,.int .i64 n,.string s,.slice ka l.length kc] 24)).alloc (.cells #[.int .u8 0,.int .i64 0,.string ⟨#[]⟩,.slice none 0 0] 24))=w2 at *;refine(HIS.out _ HG2.out).mono ?_;rintro e w3 ⟨rfl,hg3⟩;have aH:=ł (gtr HG2.out hg3);have pO:=ł (ai aF.out hg3);have HR3:=ł (ai aZ.out hg3);have mH:=ł (Nat.lt_of_lt_of_le HS2.out hg3.size);clear hg3 HIS aF aZ HG2 HS2;obtain⟨⟨n0,n1⟩,n2,n3⟩:=aC pO.out;have hl3:=lt_of_block pO.out;go_wp2_with fail;refine(dZ.out _ aH.out).mono ?_;clear n0 n1 n2 n3 hl3;rintro e w4 ⟨rfl,hg4⟩;have aP:=ł (gtr aH.out hg4);have ru:=ł (ai pO.out hg4);have HR4:=ł (ai HR3.out hg4);have gM:=ł (Nat.lt_of_lt_of_le mH.out hg4.size);clear hg4 dZ pO HR3 aH mH;obtain⟨⟨n0,n1⟩,n2,n3⟩:=aC ru.out;have hl4:=lt_of_block ru.out;go_wp2_with fail;refine(BL.out _ aP.out).mono ?_;clear n0 n1 n2 n3 hl4 BL;rintro e w5 ⟨y,rfl,nQ,bM,hg5⟩;obtain⟨yk,yn,ys,yv,yl⟩:=y;obtain⟨ya,yc,rfl⟩:=bM.at.form';have qZ:=ai HR4.out hg5;obtain⟨⟨r0,r1⟩,r2,r3⟩:=aC qZ;have hl5:=lt_of_block qZ;have zr:=aG qZ;obtain⟨hs1,hs2⟩:=mh qZ (.int .u8 yk) (.int .i64 yn) (.string ys) (.slice ya yl.length yc);have HB:=ł hs1;have HYO:=ł (show aR _ _ from(bM.stay hs2 (λb cs z hp _ e=>by have:=gM.out;omega)).at);have gL:=ł (show Grow w _ from(gtr aP.out hg5).trans hs2 (λb e => .inr (by omega)));have HYT:=ł nQ;clear hs1 hs2 qZ bM hg5 nQ;simp only[ae.val];go_wp2_with fail;obtain⟨⟨t0,t1⟩,t2,t3⟩:=aC HB.out;exact bodyPost_ret (v := .tuple #[ae.val (.mk yk yn ys (.slice ya yl.length yc) yl),.int .i64 0]) (by simp[results,Tryz.results13,go_sem,t0,t1,t2,t3,ae.val]) rfl ⟨_,rfl,HYT.out,HYO.out,gL.out⟩
attribute [local go_sem ↓] ni
theorem toList_inj (a b:ByteArray):a.toList=b.toList↔a=b:=by
 have:=Eg a b;constructor
 · intro e;rw[e]at this;simpa using this.symm
 · intro e;rw[e]
def Ni (w:World) (P:Prop) (e:Ending) (w':World):Prop:=∃ b:Bool,e = .returned (.bool b)/\(b=true↔P)/\Grow w w'
theorem Yb (av pv bv qv:Value) (a b:List Ins) (p q:List aV) (w:World) (ha:az 5 Ins.cells w av a) (hp:az 2 aV.cells w pv p) (hb:az 5 Ins.cells w bv b) (hq:az 2 aV.cells w qv q) :
 Calls Tryz.prog 24 #[av,pv,bv,qv] w (Ni w (a=b/\p=q)):=by
 obtain⟨aa,ac,rfl,-,hal⟩:=ha.form;obtain⟨pa,pc,rfl,-,hpl⟩:=hp.form;obtain⟨ba,bc,rfl,-,hbl⟩:=hb.form;obtain⟨qa,qc,rfl,-,ll⟩:=hq.form;have HA:=ł ha;have HP:=ł hp;have HB:=ł hb;have HQ:=ł hq;clear ha hp hb hq;by_cases hab:a.length=b.length
 · by_cases hpq:p.length=q.length
   · have e1:((a.length:Int) != (b.length:Int))=false:=by simp[hab]
     have e2:((p.length:Int) != (q.length:Int))=false:=by simp[hpq]
     have Wx:=ł hab;have JZ:=ł hpq;clear hab hpq
     go_enter Tryz.func24,Tryz.ntmps24
     go_wp2_with fail
     go_loopw [9] (λt wr=>∃ j:Nat,t = .int .i64 j/\j<=a.length/\(∀ i,i<j->a[i]? = b[i]?)/\Grow w wr) (λt _=>a.length - (intOf t).toNat)
     case atStart=>exact⟨0,rfl,Nat.zero_le _,λi hi=>absurd hi (Nat.not_lt_zero _),Mv.refl _ _⟩
     obtain⟨j,rfl,hj,hall,hg⟩:=hrel;have dE:=ł hall;have HG:=ł hg;clear hall hg;by_cases hlt:j<a.length
     · have hlb:j<b.length:=by have:=Wx.out;omega
       obtain⟨g1,o1,k1,v1,_,hc1⟩:=(HA.out.later HG.out).at hlt;obtain⟨g2,o2,k2,v2,_,hc2⟩:=(HB.out.later HG.out).at hlb;simp only[Value.slice.injEq,true_and]at v1 v2;obtain⟨rfl,rfl⟩:=v1;obtain⟨rfl,rfl⟩:=v2;have c0:=hc1 0 _ rfl;have c1:=hc1 1 _ rfl;have c2:=hc1 2 _ rfl;have c3:=hc1 3 _ rfl;have c4:=hc1 4 _ rfl;have d0:=hc2 0 _ rfl;have d1:=hc2 1 _ rfl;have d2:=hc2 2 _ rfl;have d3:=hc2 3 _ rfl;have d4:=hc2 4 _ rfl;have HS:=ł (λ(e:a[j]=b[j]) (i:Nat) (hi:i<j+1)=>show a[i]? = b[i]? from by
        rcases Nat.lt_or_ge i j with h|h
        · exact dE.out i h
        · obtain rfl:i=j:=by omega
          rw[List.getElem?_eq_getElem hlt,List.getElem?_eq_getElem hlb,e])
       have HI:=ł (λ(e:a[j]≠b[j]) (h:a=b)=>show False from e (by subst h;rfl));clear hc1 hc2;have hl1:g1<wr.heap.size:=World.block_lt_of_cell? wr _ c0;have hl2:g2<wr.heap.size:=World.block_lt_of_cell? wr _ d0;generalize a[j]=x at *;generalize b[j]=y at *;obtain⟨x0,x1,x2,x3,x4⟩:=x;obtain⟨y0,y1,y2,y3,y4⟩:=y;simp only[Nat.add_zero]at c0 d0;by_cases h0:x0=y0
       rotate_left
       · have HX:=ł (HI.out (by intro e;injection e;contradiction));go_wp2_with fail
         go_region
         go_wp2_with fail;go_ret;exact⟨false,rfl,⟨λh=>(by cases h),λh=>(HX.out h.1).elim⟩,HG.out.drew⟩
       by_cases h1:x1=y1
       rotate_left
       · have HX:=ł (HI.out (by intro e;injection e;contradiction));go_wp2_with fail
         go_region
         go_wp2_with fail;go_ret;exact⟨false,rfl,⟨λh=>(by cases h),λh=>(HX.out h.1).elim⟩,HG.out.drew⟩
       by_cases h2:x2=y2
       rotate_left
       · have HX:=ł (HI.out (by intro e;injection e;contradiction));go_wp2_with fail
         go_region
         go_wp2_with fail;go_ret;exact⟨false,rfl,⟨λh=>(by cases h),λh=>(HX.out h.1).elim⟩,HG.out.drew⟩
       by_cases h3:x3=y3
       rotate_left
       · have HX:=ł (HI.out (by intro e;injection e;contradiction));go_wp2_with fail
         go_region
         go_wp2_with fail;go_ret;exact⟨false,rfl,⟨λh=>(by cases h),λh=>(HX.out h.1).elim⟩,HG.out.drew⟩
       by_cases h4:x4=y4
       rotate_left
       · have HX:=ł (HI.out (by intro e;injection e;contradiction));go_wp2_with fail
         go_region
         go_wp2_with fail;go_ret;exact⟨false,rfl,⟨λh=>(by cases h),λh=>(HX.out h.1).elim⟩,HG.out.drew⟩
       subst h0;subst h1;subst h2;subst h3;subst h4;have HX:=ł (HS.out rfl);go_wp2_with fail
       go_region
       go_wp2_with fail
       go_roundw
       case rel=>exact⟨j+1,by go_num,by omega,HX.out,HG.out.drew⟩
       case measure=>(simp[intOf] <;> omega)
     · have EW:=ł (show a=b from List.ext_getElem? λi=>by
        rcases Nat.lt_or_ge i a.length with h|h
        · exact dE.out i (by omega)
        · rw[List.getElem?_eq_none h,List.getElem?_eq_none (by have:=Wx.out;omega)])
       have df:=ł HG.out;clear dE;go_wp2_with fail;clear HG
       go_loopw [10] (λt wr=>∃ j:Nat,t = .int .i64 j/\j<=p.length/\(∀ i,i<j->p[i]? = q[i]?)/\Grow w wr) (λt _=>p.length - (intOf t).toNat)
       case atStart=>exact⟨0,rfl,Nat.zero_le _,λi hi=>absurd hi (Nat.not_lt_zero _),df.out⟩
       obtain⟨j,rfl,hj,hall,hg⟩:=hrel;have dE:=ł hall;have HG:=ł hg;clear hall hg;by_cases hlt:j<p.length
       · have hlb:j<q.length:=by have:=JZ.out;omega
         obtain⟨g1,o1,k1,v1,_,hc1⟩:=(HP.out.later HG.out).at hlt;obtain⟨g2,o2,k2,v2,_,hc2⟩:=(HQ.out.later HG.out).at hlb;simp only[Value.slice.injEq,true_and]at v1 v2;obtain⟨rfl,rfl⟩:=v1;obtain⟨rfl,rfl⟩:=v2;have c0:=hc1 0 _ rfl;have c1:=hc1 1 _ rfl;have d0:=hc2 0 _ rfl;have d1:=hc2 1 _ rfl;have HS:=ł (λ(e:p[j]=q[j]) (i:Nat) (hi:i<j+1)=>show p[i]? = q[i]? from by
          rcases Nat.lt_or_ge i j with h|h
          · exact dE.out i h
          · obtain rfl:i=j:=by omega
            rw[List.getElem?_eq_getElem hlt,List.getElem?_eq_getElem hlb,e])
         have HI:=ł (λ(e:p[j]≠q[j]) (h:p=q)=>show False from e (by subst h;rfl));clear hc1 hc2;have hl1:g1<wr.heap.size:=World.block_lt_of_cell? wr _ c0;have hl2:g2<wr.heap.size:=World.block_lt_of_cell? wr _ d0;generalize p[j]=x at *;generalize q[j]=y at *;obtain⟨x0,x1⟩:=x;obtain⟨y0,y1⟩:=y;simp only[Nat.add_zero]at c0 d0;by_cases h0:x0=y0
         rotate_left
         · have HX:=ł (HI.out (by intro e;injection e;contradiction));go_wp2_with fail
           go_region
           go_wp2_with fail;go_ret;exact⟨false,rfl,⟨λh=>(by cases h),λh=>(HX.out h.2).elim⟩,HG.out.drew⟩
         by_cases h1:x1=y1
         rotate_left
         · have HX:=ł (HI.out (by intro e;injection e;contradiction));have hdn:¬ x1.toList=y1.toList:=λe=>h1 ((toList_inj _ _).1 e);go_wp2_with fail
           go_region
           go_wp2_with fail;go_ret;exact⟨false,rfl,⟨λh=>(by cases h),λh=>(HX.out h.2).elim⟩,HG.out.drew⟩
         subst h0;subst h1;have HX:=ł (HS.out rfl);go_wp2_with fail
         go_region
         go_wp2_with fail
         go_roundw
         case rel=>exact⟨j+1,by go_num,by omega,HX.out,HG.out.drew⟩
         case measure=>(simp[intOf] <;> omega)
       · have HPQ:=ł (show p=q from List.ext_getElem? λi=>by
          rcases Nat.lt_or_ge i p.length with h|h
          · exact dE.out i (by omega)
          · rw[List.getElem?_eq_none h,List.getElem?_eq_none (by have:=JZ.out;omega)])
         clear dE;go_wp2_with fail;go_ret;exact⟨true,rfl,⟨λ_=>⟨EW.out,HPQ.out⟩,λ_=>rfl⟩,HG.out⟩
   · have e1:((a.length:Int) != (b.length:Int))=false:=by simp[hab]
     have e2:((p.length:Int) != (q.length:Int))=true:=by simp;omega
     go_enter Tryz.func24,Tryz.ntmps24
     go_wp2_with fail;go_ret;exact⟨false,rfl,⟨λh=>(by cases h),λh=>absurd (congrArg List.length h.2) hpq⟩,Mv.refl _ _⟩
 · have e1:((a.length:Int) != (b.length:Int))=true:=by simp;omega
   go_enter Tryz.func24,Tryz.ntmps24
   go_wp2_with fail;go_ret;exact⟨false,rfl,⟨λh=>(by cases h),λh=>absurd (congrArg List.length h.1) hab⟩,Mv.refl _ _⟩
attribute [local go_sem ↓] ni
def S9 (P:Prop) (v:Value):Prop:=∃ b:Bool,v = .bool b/\(b=true↔P)
theorem Tryz.ZO:(Tryz.prog.info? 111).map (λi=>(i.zero,i.size,i.bytes))=some (some (.agg #[.int .i64 0,.string ⟨#[]⟩]),2,24):=by kernel_rfl
theorem Tryz.ZP:Elem Tryz.prog 70 111 2 24:=Elem.of Tryz.underlying70 Tryz.ZO rfl (by decide) (by decide)
abbrev Lh (w:World) (base:Nat) (v:Value) (l:List aV):Prop:=w.ownsRow base 111 2 v l.length (flat aV.cells l)
theorem ZQ (v:Value) (x:aV) (xs:List aV) (base g:Nat) (w:World) (hrow:Lh w base v xs) (hb:base<=w.heap.size) (hlen:xs.length<=900000) (hg:w.heap[g]? = some (.cells #[.int .i64 x.at',.string x.name] 111 (0,0))) :
 ∃ a' c' w2,(qG Tryz.prog 70 70 v (.slice (some ⟨g,0,none⟩) 1 1) w /\
  nA Tryz.prog 70 70 v (.slice (some ⟨g,0,none⟩) 1 1) w = .slice a' (xs.length+1) c'/\appW Tryz.prog 70 70 v (.slice (some ⟨g,0,none⟩) 1 1) w=w2) /\
  Lh w2 base (.slice a' (xs.length+1) c') (xs ++ [x])/\Mv (λb=>v.ownBlock=some b) w w2/\(∀ g,(Value.slice a' (xs.length+1) c').ownBlock=some g->v.ownBlock=some g\/w.heap.size<=g) :=
 qA Tryz.ZP (f:=aV.cells) (λ_=>rfl) v _ xs [x] base w hrow (az.bO (f:=aV.cells) (l:=[x]) (λ_=>rfl) hg (by simp[flat,aV.cells]) (by simp)) RH hb (by simp;omega)
theorem QP (cv rv:Value) (p:aB) (w:World) (h:ay w (.agg #[cv,rv]) p) (hl:p.refs.length<=200000) :
 Calls Tryz.prog 25 #[.agg #[cv,rv]] w λe w'=>∃ a c,e = .returned (.slice a p.refs.length c)/\az 2 aV.cells w' (.slice a p.refs.length c) p.refs/\Grow w w':=by
 obtain⟨cs,rs⟩:=p;dsimp only at hl ⊢;obtain⟨ca,cc,ra,rc,hpe,h1,h2⟩:=h;dsimp only at hpe h1 h2;simp only[Value.agg.injEq,Array.mk.injEq,List.cons.injEq,and_true]at hpe;obtain⟨rfl,rfl⟩:=hpe;have HR:=ł h2;have OE:=ł hl;have hb0:=heap_alloc_new w (.cells #[.slice ca cs.length cc,.slice ra rs.length rc] 34);obtain⟨b0,b1⟩:=aA hb0;have hlb:=lt_of_block hb0;have HG2:=ł (show Grow w (w.alloc (.cells #[.slice ca cs.length cc,.slice ra rs.length rc] 34))from(Mv.refl _ _).alloc _);clear h1 h2 hl hb0
 go_enter Tryz.func25,Tryz.ntmps25
 go_wp2_with fail;generalize w.alloc (.cells #[.slice ca cs.length cc,.slice ra rs.length rc] 34)=w2 at *;clear b0 b1 hlb
 go_loopw [3,9] (λcv t wr=>∃ j:Nat,t = .int .i64 j/\j<=rs.length/\Lh wr w2.heap.size cv (rs.take j)/\Grow w2 wr) (λ_ t _=>rs.length - (intOf t).toNat)
 case atStart=>exact⟨0,rfl,Nat.zero_le _,World.ownsRow_nil _ _ _ _,Mv.refl _ _⟩
 obtain⟨j,rfl,hj,hrow,hg⟩:=hrel;have gK:=ł hrow;have HG:=ł hg;obtain⟨na,nc,pQ⟩:=gF hrow;have hnl:(rs.take j).length=j:=by simp;omega
 rw[hnl]at pQ;subst pQ;clear hrow hg;by_cases hlt:j<rs.length
 · obtain⟨b,off,cap',e,_,hcc⟩:=(HR.out.later (gtr HG2.out HG.out)).at hlt;simp only[Value.slice.injEq,true_and]at e;obtain⟨rfl,rfl⟩:=e;have c0:=hcc 0 _ rfl;have c1:=hcc 1 _ rfl;have mG:=ł (show rs.take (j+1)=rs.take j ++ [rs[j]]from List.take_succ_eq_append_getElem hlt);have hjb:j<200000:=by have:=OE.out;omega
   clear hcc;generalize rs[j]=x at *;obtain⟨xa,xs⟩:=x;simp only[Nat.add_zero]at c0;have hbl:b<wr.heap.size:=World.block_lt_of_cell? wr _ c0;have hga:Grow wr ((wr.alloc (.cells #[.int .i64 xa,.string xs] 78)).alloc (.cells #[.int .i64 xa,.string xs] 111)):=((Mv.refl _ _).alloc _).alloc _;have hxb:=heap_alloc_new wr (.cells #[.int .i64 xa,.string xs] 78);obtain⟨x0,x1⟩:=aA hxb;have hlx:=lt_of_block hxb;have hyb:=heap_alloc_new (wr.alloc (.cells #[.int .i64 xa,.string xs] 78)) (.cells #[.int .i64 xa,.string xs] 111);rw[World.size_alloc]at hyb;obtain⟨a',c',w4,⟨hok,hv,hw⟩,hrow2,bz,-⟩:=ZQ _ ⟨xa,xs⟩ (rs.take j) w2.heap.size _ _ (bg gK.out hga (λ_ _ e=>e)) (by have:=HG.out.size;have:=hga.size;omega) (by omega) hyb;have HRW:=ł hrow2;have gL:=ł ((gtr HG.out hga).trans bz (λx e => .inr (by have:=(gK.out.lt x e).1;omega)));simp only[hnl]at hok hv hw HRW;clear hga hxb hyb hrow2 bz;go_wp2_with fail;exact⟨⟨j+1,by simp,by omega,by rw[mG.out];exact HRW.out,gL.out⟩,by simp[intOf] <;> omega⟩
 · obtain rfl:j=rs.length:=by omega
   have HRW:=ł (show az 2 aV.cells wr (.slice na rs.length nc) rs from by have:=gK.out;rw[List.take_length]at this;exact fI (λ_=>rfl) this);go_wp2_with fail;go_ret;exact⟨_,_,rfl,HRW.out,gtr HG2.out HG.out⟩
theorem aB.iff (p q:aB):(p.code=q.code/\p.refs=q.refs)↔p=q:=by
 obtain⟨a,b⟩:=p;obtain⟨c,d⟩:=q;simp
theorem G9 (pv qv:Value) (p q:aB) (w:World) (hp:ay w pv p) (hq:ay w qv q) (hlp:p.refs.length<=200000) (hlq:q.refs.length<=200000) :
 Calls Tryz.prog 9 #[pv,qv] w (Ni w (p=q)):=by
 have hp':=hp;have hq':=hq;obtain⟨pa,pc,pe,pf,rfl,-,-⟩:=hp;obtain⟨qa,qc,qe,qf,rfl,-,-⟩:=hq;have fZ:=ł hp';have rE:=ł hq';have JZ:=ł hlp;have HLQ:=ł hlq;have aci:=ł (aB.iff p q);obtain⟨HB0,HB1,-⟩:=a2 w (.cells #[.slice pa p.code.length pc,.slice pe p.refs.length pf] 34) (.cells #[.slice qa q.code.length qc,.slice qe q.refs.length qf] 34);have HG2:=ł (show Grow w ((w.alloc (.cells #[.slice pa p.code.length pc,.slice pe p.refs.length pf] 34)).alloc (.cells #[.slice qa q.code.length qc,.slice qe q.refs.length qf] 34))from((Mv.refl _ _).alloc _).alloc _);clear hp' hq' hlp hlq
 go_enter Tryz.func9,Tryz.ntmps9
 go_upto_region 1 with fail;generalize ((w.alloc (.cells #[.slice pa p.code.length pc,.slice pe p.refs.length pf] 34)).alloc (.cells #[.slice qa q.code.length qc,.slice qe q.refs.length qf] 34))=w2 at *;have HK:=ł (λ(y:World) (hy:Grow w2 y)=>And.intro (ai HB0.out hy) (ai HB1.out hy));refine wg 14 [some 5,some 6,some 7,some 8,some 9,some 10,some 11,some 12,some 13,some 4] [[],[0],[],[2],[],[4],[],[6],[1,3,5,7],[8]] [3,7] [.c (.pointer (some ⟨w.heap.size,0,none⟩)),.c (.slice pa (p).code.length pc),.c (.agg #[.slice pa (p).code.length pc,.slice pe (p).refs.length pf]),.p (λv y=>∃ a d,v = .slice a (p).refs.length d/\az 2 aV.cells y (.slice a (p).refs.length d) (p).refs),.c (.pointer (some ⟨(w.heap.size+1),0,none⟩)),.c (.slice qa (q).code.length qc),.c (.agg #[.slice qa (q).code.length qc,.slice qe (q).refs.length qf]),.p (λv y=>∃ a d,v = .slice a (q).refs.length d/\az 2 aV.cells y (.slice a (q).refs.length d) (q).refs),.p (λv y=>S9 (p=q) v),.p (λv y=>S9 (p=q) v)] ⟨⟨(λv x y hg h=>by obtain⟨a,d,hv,hb⟩:=h;exact⟨a,d,hv,hb.later hg⟩),by simp⟩,⟨(λv x y hg h=>by obtain⟨a,d,hv,hb⟩:=h;exact⟨a,d,hv,hb.later hg⟩),by simp⟩,⟨(λv x y hg h=>h),λ_=>(λz hz g v x y hb hm h=>h)⟩,⟨(λv x y hg h=>h),λ_=>(λz hz g v x y hb hm h=>h)⟩,trivial⟩ (dP rfl) ?steps ?done
 case steps =>
  refine⟨?s0,?s1,?s2,?s3,?s4,?s5,?s6,?s7,?s8,?s9,trivial⟩
  case s0|s4 =>
   refine oo (λvs x hP => ?_);simp only[zS];go_simp;exact gc
  case s1|s2 =>
   refine ok HK (λvs x hG HX hP => ?_);obtain⟨k0,k1⟩:=aA (HX.out.1);simp only[zS];go_simp;exact gc
  case s3 =>
   refine ok HK (λvs x hG HX hP => ?_);have HC:=ł (QP _ _ (p) x (ay.later fZ.out (gtr HG2.out hG)) JZ.out);simp only[zS];go_simp;refine(HC.out).mono ?_;rintro e y ⟨a,d,rfl,hp,hg⟩;exact⟨_,rfl,aW hg ⟨a,d,rfl,hp⟩⟩
  case s5|s6 =>
   refine ok HK (λvs x hG HX hP => ?_);obtain⟨k0,k1⟩:=aA (HX.out.2);simp only[zS];go_simp;exact gc
  case s7 =>
   refine ok HK (λvs x hG HX hP => ?_);have HC:=ł (QP _ _ (q) x (ay.later rE.out (gtr HG2.out hG)) HLQ.out);simp only[zS];go_simp;refine(HC.out).mono ?_;rintro e y ⟨a,d,rfl,hp,hg⟩;exact⟨_,rfl,aW hg ⟨a,d,rfl,hp⟩⟩
  case s8 =>
   refine ok HK (λvs x hG HX hP => ?_);obtain⟨nM,rd3,h3,rr3⟩:=pq hP 3;obtain⟨jG,rd7,h7,rr7⟩:=pq hP 7;have hp1:=fZ.out.later (gtr HG2.out hG);have hq1:=rE.out.later (gtr HG2.out hG);obtain⟨_,_,_,_,e1,u1,-⟩:=hp1;obtain⟨_,_,_,_,e2,u2,-⟩:=hq1;simp only[Value.agg.injEq,Array.mk.injEq,List.cons.injEq,and_true]at e1 e2;rw[← e1.1]at u1;rw[← e2.1]at u2;have HC:=ł (Yb _ _ _ _ p.code q.code p.refs q.refs x u1 rr3 u2 rr7);clear e1 e2 u1 u2;simp only[zS,h3,h7];go_simp;refine(HC.out).mono ?_;rintro e y ⟨b,rfl,hiff,hg⟩;exact⟨_,rfl,aW hg ⟨b,rfl,hiff.trans aci.out⟩⟩
  case s9 =>
   refine oo (λvs x hP => ?_);obtain⟨b8,h8,Uj⟩:=pq hP 8;simp only[zS,h8];go_simp;exact gk ⟨_,rfl,Uj⟩
 case done =>
 intro vs w3 hE;have hG:=hE.grow;obtain⟨b8,h8,Uj⟩:=hE.val 8;obtain⟨b9,h9,acj⟩:=hE.val 9;simp only[zS,Nat.reduceAdd,h8,h9];have aJ:=ł (gtr HG2.out hG);clear hE hG;go_wp2_with fail;go_ret;exact⟨_,rfl,acj,aJ.out⟩
def Ha (s:ByteArray):ae := .mk 2 0 s (.slice none 0 0) []
def DC (n:Int):ae := .mk 1 n ⟨#[]⟩ (.slice none 0 0) []
theorem aaV (s:ByteArray) (w:World):Calls Tryz.prog 15 #[.string s] w λe w'=>e = .returned (Ha s).val/\Grow w w':=by
 go_enter Tryz.func15,Tryz.ntmps15
 go_wp2_with fail;obtain⟨⟨t0,t1⟩,t2,t3⟩:=aC (heap_alloc_new w (.cells #[.int .u8 2,.int .i64 0,.string s,.slice none 0 0] 24));exact bodyPost_ret (v := .agg #[.int .u8 2,.int .i64 0,.string s,.slice none 0 0]) (by simp[results,Tryz.results15,go_sem]) rfl ⟨rfl,(Mv.refl _ _).alloc _⟩
theorem Rs (n:Int) (w:World):Calls Tryz.prog 16 #[.int .i64 n] w λe w'=>e = .returned (DC n).val/\Grow w w':=by
 go_enter Tryz.func16,Tryz.ntmps16
 go_wp2_with fail;obtain⟨⟨t0,t1⟩,t2,t3⟩:=aC (heap_alloc_new w (.cells #[.int .u8 1,.int .i64 n,.string ⟨#[]⟩,.slice none 0 0] 24));exact bodyPost_ret (v := .agg #[.int .u8 1,.int .i64 n,.string ⟨#[]⟩,.slice none 0 0]) (by simp[results,Tryz.results16,go_sem]) rfl ⟨rfl,(Mv.refl _ _).alloc _⟩
theorem DN (w:World) (k n:Int) (s:ByteArray) (hk:0<=k/\k<=255) (hn:In64 n) (hs:s.size<=9223372036854775807):aR w (.mk k n s (.slice none 0 0) []) := .mk hk hn hs (az.nil _ _ _) (by simp)
theorem GU {w:World} {b:Nat} {cs:Array Value} {t:TypeId} {z:Nat × Nat} {k n:Int} {s:ByteArray} {l:List ae} {m:Nat} (hk:0<=k/\k<=255) (hn:In64 n) (hs:s.size<=9223372036854775807) (hb:w.heap[b]? = some (.cells cs t z)) (hm:l.length=m) (hc:cs.toList=flat ae.cells l) (hl:m<=1000000) (he:∀ x∈l,aR w x):aR w (.mk k n s (.slice (some ⟨b,0,none⟩) m m) l):=by
 subst hm;exact .mk hk hn hs (az.bO tK hb hc (by omega)) he
def FX:List bu:=[⟨⟨#[120]⟩,1,0⟩,⟨⟨#[121]⟩,1,0⟩]
def ky:ax:=⟨[⟨⟨#[120]⟩,1,0,0⟩,⟨⟨#[121]⟩,1,0,1⟩],2,0⟩
theorem Si:frameC FX=ky/\jf FX=0:=⟨by kernel_rfl,by kernel_rfl⟩
def Iq:Tree := .mk 57 0 ⟨#[]⟩ [.mk 40 0 ⟨#[]⟩ [.mk 2 0 ⟨#[120]⟩ [],.mk 1 1 ⟨#[]⟩ []]]
def Ir:Tree := .mk 57 0 ⟨#[]⟩ [.mk 43 0 ⟨#[]⟩ [.mk 2 0 ⟨#[120]⟩ [],.mk 2 0 ⟨#[121]⟩ []]]
theorem aaD:nI ky [] Iq=0:=by kernel_rfl
theorem aaE:nI ky [] Ir=0:=by kernel_rfl
theorem aaF:pK ky [] Iq=⟨kF (bW ky (.mk 1 1 ⟨#[]⟩ [])) [⟨10,5,0,0,0⟩,⟨1,5,4,0,0⟩,⟨10,5,0,0,0⟩],[]⟩:=by kernel_rfl
theorem aaG:pK ky [] Ir=⟨[⟨10,5,0,0,0⟩,⟨10,5,1,0,0⟩,⟨10,5,0,0,0⟩],[]⟩:=by kernel_rfl
def zT:Tree := .mk 1 1 ⟨#[]⟩ []
theorem Ij:aN zT=true/\bK ky zT=true/\iL zT<=10000/\(bW ky zT).length<=300000 :=
 ⟨by kernel_rfl,by kernel_rfl,Nat.le_trans (K6 zT) (show aI zT<=10000 by decide),Nat.le_trans (nk ky zT) (show 10 * aI zT<=300000 by decide)⟩
theorem Sj:BD ky:=by
 refine⟨by decide,by decide,by decide,by decide,λs k => ?_⟩;have h:∀ x∈ky.slots,0<=x.at'/\x.at'<=100000:=by decide
 unfold aj au;rcases hf:ky.slots.find? (jW s k)with _|x
 · simp[noSlot]
 · exact h x (List.mem_of_find?_eq_some hf)
end Go.Proofs.YtnobahchcongnaaGreatDoor
