import Derived.Test.YtadecgbblajifaaGreatDoorA15
import Derived.Laws.StructEq
set_option linter.unusedSimpArgs false
set_option linter.unusedVariables false
set_option maxRecDepth 100000
set_option maxHeartbeats 25600000
namespace Go.Proofs.YtadecgbblajifaaGreatDoor
open Go.RowKit Go.Instr
structure EK (o:aA):Prop where
 bT:o.bT=0
 asm:dO o.code=0
 ok:vU o
 file:xE o (wA o.code)
 sm:LF o
theorem EK.err {o:aA} (h:EK o):lu o=0:=by
 unfold lu;rw[if_neg (by rw[h.bT];simp),if_neg (λe=>e.elim (λe=>e h.asm) (λe=>by have:=h.file.ns;omega)),if_pos];exact List.all_eq_true.2 λr hr=>by have:=(h.file.refs r hr).2;unfold jv at this;simp;omega
theorem Jo {o:aA} {co r:List Int} {c:List Ins} (hp:dQ co=some c) (hr:r=[]) (hk:aA.bT { o with code:=c } = 0):dh (some ((o,co),r))=(0,{ o with code:=c }):=by
 subst hr;unfold dh;simp only[hp,if_true,hk]
theorem IB {o:aA} {co r:List Int} : dQ co=none->dh (some ((o,co),r))=(3,eu):=λhp=>by
 unfold dh;simp only[hp]
theorem IC {o:aA} {co r:List Int} {c:List Ins} (hp:dQ co=some c) (hr:r≠[]):dh (some ((o,co),r))=(3,eu):=by
 unfold dh;simp only[hp,hr,if_false]
theorem I6 {o:aA} {co r:List Int} {c:List Ins} (hp:dQ co=some c) (hr:r=[]) (hk:aA.bT { o with code:=c } ≠ 0):dh (some ((o,co),r))=(aA.bT { o with code:=c },eu):=by
 subst hr;unfold dh;simp only[hp,if_true,hk,if_false]
theorem UB {b:List Int} (hB:aS b) (h:iL b=0):(fG b).bT=0/\dO (fG b).code=0/\vU (fG b)/\xE (fG b) (wA (fG b).code)/\jg (fG b)=b:=by
 have hd:dh (iG b)=(iL b,fG b):=by rw[iL,fG]
 rw[h]at hd;cases hp:iG b with
 |none=>rw[hp]at hd;simp[dh]at hd
 |some x =>
  obtain⟨⟨o,co⟩,r⟩:=x;rw[hp]at hd;obtain⟨hf,hok,hc0,hcb⟩:=Jj _ _ _ hB hp;simp only at hf hok hc0 hcb;cases ha:dQ co with
  |none=>rw[IB ha]at hd;simp at hd
  |some c =>
   obtain⟨hw,hcl,hci⟩:=JR hcb ha;by_cases hr:r=[]
   case neg=>rw[IC ha hr]at hd;simp at hd
   by_cases hk:aA.bT { o with code:=c } = 0
   case neg=>rw[I6 ha hr hk]at hd;simp only[Prod.mk.injEq]at hd;exact absurd hd.1 hk
   rw[Jo ha hr hk]at hd;simp only[Prod.mk.injEq,true_and]at hd;rw[← hd];have hcz:dO c=0:=by
    unfold dO;rw[if_neg (by omega),if_pos (List.all_eq_true.2 λi hi=>(hci i hi).1)]
   refine⟨hk,hcz,I5 hok (λi hi=>(hci i hi).2),?_,?_⟩
   · simp only[hw];exact⟨hok.name,hok.np,hok.params,hok.cells,hok.stacks,hok.ns,hok.slots,hok.nc,hok.nr,hok.refs⟩
   · rw[hr,List.append_nil]at hf;rw[← hf];simp only[jg,hw];rfl
theorem UC {b:List Int} (h:iL b≠0):fG b=eu:=by
 have hd:dh (iG b)=(iL b,fG b):=by rw[iL,fG]
 cases hp:iG b with
 |none=>rw[hp]at hd;simp only[dh,Prod.mk.injEq]at hd;exact hd.2.symm
 |some x =>
  obtain⟨⟨o,co⟩,r⟩:=x;rw[hp]at hd;cases ha:dQ co with
  |none=>rw[IB ha]at hd;simp only[Prod.mk.injEq]at hd;exact hd.2.symm
  |some c =>
   by_cases hr:r=[]
   case neg=>rw[IC ha hr]at hd;simp only[Prod.mk.injEq]at hd;exact hd.2.symm
   by_cases hk:aA.bT { o with code:=c } = 0
   · rw[Jo ha hr hk]at hd;simp only[Prod.mk.injEq]at hd;exact absurd hd.1.symm h
   · rw[I6 ha hr hk]at hd;simp only[Prod.mk.injEq]at hd;exact hd.2.symm
theorem zz (a b:ByteArray):a.toList=b.toList↔a=b:=by
 have:=Yf a b;constructor
 · intro e;rw[e]at this;simpa using this.symm
 · intro e;rw[e]
def xu (w:World) (P:Prop) (e:Ending) (w':World):Prop:=∃ b:Bool,e = .returned (.bool b)/\(b=true↔P)/\Grow w w'
theorem TI (av bv:Value) (a b:List aL) (w:World) (ha:ai 3 aL.cells w av a) (hb:ai 3 aL.cells w bv b) :
 Calls Tryz.prog 56 #[av,bv] w (xu w (a=b)):=by
 obtain⟨aa,ac,rfl,-,hal⟩:=ha.form;obtain⟨ba,bc,rfl,-,hbl⟩:=hb.form;have HA:=ł ha;have HB:=ł hb;clear ha hb
 go_enter Tryz.func56,Tryz.ntmps56
 by_cases hab:a.length=b.length
 · have e1:((a.length:Int) != (b.length:Int))=false:=by simp[hab]
   have pR:=ł hab;clear hab;go_wp2_with fail
   go_loopw [13] (λt wr=>∃ j:Nat,t = .int .i64 j/\j<=a.length/\(∀ i,i<j->a[i]? = b[i]?)/\Grow w wr) (λt _=>a.length - (intOf t).toNat)
   case atStart=>exact⟨0,rfl,Nat.zero_le _,λi hi=>absurd hi (Nat.not_lt_zero _),Mv.refl _ _⟩
   obtain⟨j,rfl,hj,hall,hg⟩:=hrel;have gD:=ł hall;have HG:=ł hg;clear hall hg;by_cases hlt:j<a.length
   · have hlb:j<b.length:=by have:=pR.out;omega
     obtain⟨g1,o1,k1,v1,_,hc1⟩:=(HA.out.later HG.out).at hlt;obtain⟨g2,o2,k2,v2,_,hc2⟩:=(HB.out.later HG.out).at hlb;simp only[Value.slice.injEq,true_and]at v1 v2;obtain⟨rfl,rfl⟩:=v1;obtain⟨rfl,rfl⟩:=v2;have c0:=hc1 0 _ rfl;have c1:=hc1 1 _ rfl;have c2:=hc1 2 _ rfl;have d0:=hc2 0 _ rfl;have d1:=hc2 1 _ rfl;have d2:=hc2 2 _ rfl;have HS:=ł (λ(e:a[j]=b[j]) (i:Nat) (hi:i<j+1)=>show a[i]? = b[i]? from by
      rcases Nat.lt_or_ge i j with h|h
      · exact gD.out i h
      · obtain rfl:i=j:=by omega
        rw[List.getElem?_eq_getElem hlt,List.getElem?_eq_getElem hlb,e])
     have HI:=ł (λ(e:a[j]≠b[j]) (h:a=b)=>show False from e (by subst h;rfl));clear hc1 hc2;have hl1:g1<wr.heap.size:=World.block_lt_of_cell? wr _ c0;have hl2:g2<wr.heap.size:=World.block_lt_of_cell? wr _ d0;generalize a[j]=x at *;generalize b[j]=y at *;obtain⟨x0,x1,x2⟩:=x;obtain⟨y0,y1,y2⟩:=y;simp only[Nat.add_zero]at c0 d0;by_cases h0:x0=y0
     rotate_left
     · have HX:=ł (HI.out (by intro e;injection e;contradiction));have hdn:¬ x0.toList=y0.toList:=λe=>h0 ((zz _ _).1 e);go_wp2_with fail
       go_region
       go_wp2_with fail;go_ret;exact⟨false,rfl,⟨λh=>(by cases h),λh=>(HX.out h).elim⟩,HG.out.drew⟩
     by_cases h1:x1=y1
     rotate_left
     · have HX:=ł (HI.out (by intro e;injection e;contradiction));go_wp2_with fail
       go_region
       go_wp2_with fail;go_ret;exact⟨false,rfl,⟨λh=>(by cases h),λh=>(HX.out h).elim⟩,HG.out.drew⟩
     by_cases h2:x2=y2
     rotate_left
     · have HX:=ł (HI.out (by intro e;injection e;contradiction));go_wp2_with fail
       go_region
       go_wp2_with fail;go_ret;exact⟨false,rfl,⟨λh=>(by cases h),λh=>(HX.out h).elim⟩,HG.out.drew⟩
     subst h0;subst h1;subst h2;have HX:=ł (HS.out rfl);go_wp2_with fail
     go_region
     go_wp2_with fail
     go_roundw
     case rel=>exact⟨j+1,by go_num,by omega,HX.out,HG.out.drew⟩
     case measure=>(simp[intOf] <;> omega)
   · have iT:=ł (show a=b from List.ext_getElem? λi=>by
      rcases Nat.lt_or_ge i a.length with h|h
      · exact gD.out i (by omega)
      · rw[List.getElem?_eq_none h,List.getElem?_eq_none (by have:=pR.out;omega)])
     go_wp2_with fail;go_ret;exact⟨true,rfl,⟨λ_=>iT.out,λ_=>rfl⟩,HG.out⟩
 · have e1:((a.length:Int) != (b.length:Int))=true:=by simp;omega
   have HX:=ł (λ(e:a=b)=>hab (by rw[e]));clear hab;go_wp2_with fail;go_ret;exact⟨false,rfl,⟨λh=>(by cases h),λh=>(HX.out h).elim⟩,Mv.refl _ _⟩
theorem Ta (av bv:Value) (a b:jN) (w:World) (ha:si w av a) (hb:si w bv b) :
 Calls Tryz.prog 57 #[.agg #[av,.int .i64 a.cells,.int .i64 a.stacks],.agg #[bv,.int .i64 b.cells,.int .i64 b.stacks]] w (xu w (a=b)):=by
 obtain⟨aa,ac,rfl,-,hal⟩:=ha.row.form;obtain⟨ba,bc,rfl,-,hbl⟩:=hb.row.form;obtain⟨-,-,HG2⟩:=a2 w (.cells #[.slice aa a.slots.length ac,.int .i64 a.cells,.int .i64 a.stacks] 33) (.cells #[.slice ba b.slots.length bc,.int .i64 b.cells,.int .i64 b.stacks] 33);have bA:=ł (show((w.alloc (.cells #[.slice aa a.slots.length ac,.int .i64 a.cells,.int .i64 a.stacks] 33)).alloc (.cells #[.slice ba b.slots.length bc,.int .i64 b.cells,.int .i64 b.stacks] 33)).heap[w.heap.size]? = some (.cells #[.slice aa a.slots.length ac,.int .i64 a.cells,.int .i64 a.stacks] 33 (0,0))from aD (heap_alloc_new w (.cells #[.slice aa a.slots.length ac,.int .i64 a.cells,.int .i64 a.stacks] 33)) ((Mv.refl _ _).alloc _));obtain⟨-,bK,-⟩:=a2 w (.cells #[.slice aa a.slots.length ac,.int .i64 a.cells,.int .i64 a.stacks] 33) (.cells #[.slice ba b.slots.length bc,.int .i64 b.cells,.int .i64 b.stacks] 33);have HA:=ł (ha.row.later HG2.out);have HB:=ł (hb.row.later HG2.out);clear ha hb
 go_enter Tryz.func57,Tryz.ntmps57
 go_upto_region 1 with fail;generalize ((w.alloc (.cells #[.slice aa a.slots.length ac,.int .i64 a.cells,.int .i64 a.stacks] 33)).alloc (.cells #[.slice ba b.slots.length bc,.int .i64 b.cells,.int .i64 b.stacks] 33))=w2 at *;obtain⟨p0,p1,p2⟩:=kU bA.out;obtain⟨q0,q1,q2⟩:=kU bK.out;have hpl:=lt_of_block bA.out;have fU:=lt_of_block bK.out;by_cases hcc:a.cells=b.cells
 rotate_left
 · have HX:=ł (λ(e:a=b)=>hcc (by rw[e]));have e1:(a.cells != b.cells)=true:=by simpa using hcc
   have e2:(a.cells == b.cells)=false:=by simpa using hcc
   clear hcc;go_wp2_with fail;go_ret;exact⟨false,rfl,⟨λh=>(by cases h),λh=>(HX.out h).elim⟩,HG2.out⟩
 by_cases hss:a.stacks=b.stacks
 rotate_left
 · have HX:=ł (λ(e:a=b)=>hss (by rw[e]));have e1:(a.stacks != b.stacks)=true:=by simpa using hss
   have e2:(a.stacks == b.stacks)=false:=by simpa using hss
   clear hss;go_wp2_with fail;go_ret;exact⟨false,rfl,⟨λh=>(by cases h),λh=>(HX.out h).elim⟩,HG2.out⟩
 by_cases hab:a.slots.length=b.slots.length
 rotate_left
 · have HX:=ł (λ(e:a=b)=>hab (by rw[e]));have e1:((a.slots.length:Int) != (b.slots.length:Int))=true:=by simp;omega
   clear hab;go_wp2_with fail;go_ret;exact⟨false,rfl,⟨λh=>(by cases h),λh=>(HX.out h).elim⟩,HG2.out⟩
 have e1:((a.slots.length:Int) != (b.slots.length:Int))=false:=by simp[hab]
 have pR:=ł hab;clear hab;obtain⟨sa,a1,a2⟩:=a;obtain⟨sb,b1,b2⟩:=b;simp only at *;subst hcc hss;have BU:=ł (λ(e:jN.mk sa a1 a2=jN.mk sb a1 a2)=>show sa=sb from by injection e);go_upto_region 4 with fail;clear p0 p1 p2 q0 q1 q2 hpl fU
 go_loopw [30] (λt wr=>∃ j:Nat,t = .int .i64 j/\j<=sa.length/\(∀ i,i<j->sa[i]? = sb[i]?)/\Grow w2 wr) (λt _=>sa.length - (intOf t).toNat)
 case atStart=>exact⟨0,rfl,Nat.zero_le _,λi hi=>absurd hi (Nat.not_lt_zero _),Mv.refl _ _⟩
 obtain⟨j,rfl,hj,hall,hg⟩:=hrel;have gD:=ł hall;have HG:=ł hg;clear hall hg;obtain⟨p0,p1,p2⟩:=kU (aD bA.out HG.out);obtain⟨q0,q1,q2⟩:=kU (aD bK.out HG.out);have hpl:=lt_of_block (aD bA.out HG.out);have fU:=lt_of_block (aD bK.out HG.out);by_cases hlt:j<sa.length
 · have hlb:j<sb.length:=by have:=pR.out;omega
   obtain⟨g1,o1,k1,v1,_,hc1⟩:=(HA.out.later HG.out).at hlt;obtain⟨g2,o2,k2,v2,_,hc2⟩:=(HB.out.later HG.out).at hlb;simp only[Value.slice.injEq,true_and]at v1 v2;obtain⟨rfl,rfl⟩:=v1;obtain⟨rfl,rfl⟩:=v2;have c0:=hc1 0 _ rfl;have c1:=hc1 1 _ rfl;have c2:=hc1 2 _ rfl;have c3:=hc1 3 _ rfl;have d0:=hc2 0 _ rfl;have d1:=hc2 1 _ rfl;have d2:=hc2 2 _ rfl;have d3:=hc2 3 _ rfl;have HS:=ł (λ(e:sa[j]=sb[j]) (i:Nat) (hi:i<j+1)=>show sa[i]? = sb[i]? from by
    rcases Nat.lt_or_ge i j with h|h
    · exact gD.out i h
    · obtain rfl:i=j:=by omega
      rw[List.getElem?_eq_getElem hlt,List.getElem?_eq_getElem hlb,e])
   have HI:=ł (λ(e:sa[j]≠sb[j]) (h:sa=sb)=>show False from e (by subst h;rfl));clear hc1 hc2;have hl1:g1<wr.heap.size:=World.block_lt_of_cell? wr _ c0;have hl2:g2<wr.heap.size:=World.block_lt_of_cell? wr _ d0;generalize sa[j]=x at *;generalize sb[j]=y at *;obtain⟨x0,x1,x2,x3⟩:=x;obtain⟨y0,y1,y2,y3⟩:=y;simp only[Nat.add_zero]at c0 d0;by_cases h0:x0=y0
   rotate_left
   · have HX:=ł (HI.out (by intro e;injection e;contradiction));have hdn:¬ x0.toList=y0.toList:=λe=>h0 ((zz _ _).1 e);go_wp2_with fail
     go_region
     go_wp2_with fail;go_ret;exact⟨false,rfl,⟨λh=>(by cases h),λh=>(HX.out (BU.out h)).elim⟩,(gtr HG2.out HG.out).drew⟩
   by_cases h1:x1=y1
   rotate_left
   · have HX:=ł (HI.out (by intro e;injection e;contradiction));go_wp2_with fail
     go_region
     go_wp2_with fail;go_ret;exact⟨false,rfl,⟨λh=>(by cases h),λh=>(HX.out (BU.out h)).elim⟩,(gtr HG2.out HG.out).drew⟩
   by_cases h2:x2=y2
   rotate_left
   · have HX:=ł (HI.out (by intro e;injection e;contradiction));go_wp2_with fail
     go_region
     go_wp2_with fail;go_ret;exact⟨false,rfl,⟨λh=>(by cases h),λh=>(HX.out (BU.out h)).elim⟩,(gtr HG2.out HG.out).drew⟩
   by_cases h3:x3=y3
   rotate_left
   · have HX:=ł (HI.out (by intro e;injection e;contradiction));go_wp2_with fail
     go_region
     go_wp2_with fail;go_ret;exact⟨false,rfl,⟨λh=>(by cases h),λh=>(HX.out (BU.out h)).elim⟩,(gtr HG2.out HG.out).drew⟩
   subst h0;subst h1;subst h2;subst h3;have HX:=ł (HS.out rfl);go_wp2_with fail
   go_region
   go_wp2_with fail
   go_roundw
   case rel=>exact⟨j+1,by go_num,by omega,HX.out,HG.out.drew⟩
   case measure=>(simp[intOf] <;> omega)
 · have iT:=ł (show sa=sb from List.ext_getElem? λi=>by
    rcases Nat.lt_or_ge i sa.length with h|h
    · exact gD.out i (by omega)
    · rw[List.getElem?_eq_none h,List.getElem?_eq_none (by have:=pR.out;omega)])
   go_wp2_with fail;go_ret;exact⟨true,rfl,⟨λ_=>by rw[iT.out],λ_=>rfl⟩,gtr HG2.out HG.out⟩
theorem Tc (ca da ra sa:Option Addr) (cc dc rc sc:Nat) (a b:fC) (w:World) (h1:ai 5 Ins.cells w (.slice ca a.code.length cc) a.code) (h2:ai 2 aI.cells w (.slice ra a.refs.length rc) a.refs) (h3:ai 5 Ins.cells w (.slice da b.code.length dc) b.code) (h4:ai 2 aI.cells w (.slice sa b.refs.length sc) b.refs) :
 Calls Tryz.prog 58 #[.agg #[.slice ca a.code.length cc,.slice ra a.refs.length rc],.agg #[.slice da b.code.length dc,.slice sa b.refs.length sc]] w (xu w (a=b)):=by
 obtain⟨-,-,-,-,hl1⟩:=h1.form;obtain⟨-,-,-,-,hl2⟩:=h2.form;obtain⟨-,-,-,-,hl3⟩:=h3.form;obtain⟨-,-,-,-,hl4⟩:=h4.form;obtain⟨-,-,HG2⟩:=a2 w (.cells #[.slice ca a.code.length cc,.slice ra a.refs.length rc] 37) (.cells #[.slice da b.code.length dc,.slice sa b.refs.length sc] 37);have bA:=ł (show((w.alloc (.cells #[.slice ca a.code.length cc,.slice ra a.refs.length rc] 37)).alloc (.cells #[.slice da b.code.length dc,.slice sa b.refs.length sc] 37)).heap[w.heap.size]? = some (.cells #[.slice ca a.code.length cc,.slice ra a.refs.length rc] 37 (0,0))from aD (heap_alloc_new w (.cells #[.slice ca a.code.length cc,.slice ra a.refs.length rc] 37)) ((Mv.refl _ _).alloc _));obtain⟨-,bK,-⟩:=a2 w (.cells #[.slice ca a.code.length cc,.slice ra a.refs.length rc] 37) (.cells #[.slice da b.code.length dc,.slice sa b.refs.length sc] 37);have HA:=ł (h1.later HG2.out);have HP:=ł (h2.later HG2.out);have HB:=ł (h3.later HG2.out);have HQ:=ł (h4.later HG2.out);clear h1 h2 h3 h4
 go_enter Tryz.func58,Tryz.ntmps58
 go_upto_region 1 with fail;generalize ((w.alloc (.cells #[.slice ca a.code.length cc,.slice ra a.refs.length rc] 37)).alloc (.cells #[.slice da b.code.length dc,.slice sa b.refs.length sc] 37))=w2 at *;obtain⟨p0,p1⟩:=kT bA.out;obtain⟨q0,q1⟩:=kT bK.out;have hpl:=lt_of_block bA.out;have fU:=lt_of_block bK.out;by_cases hab:a.code.length=b.code.length
 rotate_left
 · have HX:=ł (λ(e:a=b)=>hab (by rw[e]));have e1:((a.code.length:Int) != (b.code.length:Int))=true:=by simp;omega
   clear hab;go_wp2_with fail;go_ret;exact⟨false,rfl,⟨λh=>(by cases h),λh=>(HX.out h).elim⟩,HG2.out⟩
 by_cases hpq:a.refs.length=b.refs.length
 rotate_left
 · have HX:=ł (λ(e:a=b)=>hpq (by rw[e]));have e0:((a.code.length:Int) != (b.code.length:Int))=false:=by simp[hab]
   have e1:((a.refs.length:Int) != (b.refs.length:Int))=true:=by simp;omega
   clear hab hpq;go_wp2_with fail;go_ret;exact⟨false,rfl,⟨λh=>(by cases h),λh=>(HX.out h).elim⟩,HG2.out⟩
 have e0:((a.code.length:Int) != (b.code.length:Int))=false:=by simp[hab]
 have e1:((a.refs.length:Int) != (b.refs.length:Int))=false:=by simp[hpq]
 have pR:=ł hab;have xI:=ł hpq;clear hab hpq;obtain⟨ig,ik⟩:=a;obtain⟨kz,kC⟩:=b;simp only at *;have yx:=ł (λ(e:fC.mk ig ik=fC.mk kz kC)=>show ig=kz from by injection e);have Q5:=ł (λ(e:fC.mk ig ik=fC.mk kz kC)=>show ik=kC from by injection e);go_upto_region 4 with fail;clear p0 p1 q0 q1 hpl fU
 go_loopw [26] (λt wr=>∃ j:Nat,t = .int .i64 j/\j<=ig.length/\(∀ i,i<j->ig[i]? = kz[i]?)/\Grow w2 wr) (λt _=>ig.length - (intOf t).toNat)
 case atStart=>exact⟨0,rfl,Nat.zero_le _,λi hi=>absurd hi (Nat.not_lt_zero _),Mv.refl _ _⟩
 obtain⟨j,rfl,hj,hall,hg⟩:=hrel;have gD:=ł hall;have HG:=ł hg;clear hall hg;obtain⟨p0,p1⟩:=kT (aD bA.out HG.out);obtain⟨q0,q1⟩:=kT (aD bK.out HG.out);have hpl:=lt_of_block (aD bA.out HG.out);have fU:=lt_of_block (aD bK.out HG.out);by_cases hlt:j<ig.length
 · have hlb:j<kz.length:=by have:=pR.out;omega
   obtain⟨g1,o1,k1,v1,_,hc1⟩:=(HA.out.later HG.out).at hlt;obtain⟨g2,o2,k2,v2,_,hc2⟩:=(HB.out.later HG.out).at hlb;simp only[Value.slice.injEq,true_and]at v1 v2;obtain⟨rfl,rfl⟩:=v1;obtain⟨rfl,rfl⟩:=v2;have c0:=hc1 0 _ rfl;have c1:=hc1 1 _ rfl;have c2:=hc1 2 _ rfl;have c3:=hc1 3 _ rfl;have c4:=hc1 4 _ rfl;have d0:=hc2 0 _ rfl;have d1:=hc2 1 _ rfl;have d2:=hc2 2 _ rfl;have d3:=hc2 3 _ rfl;have d4:=hc2 4 _ rfl;have HS:=ł (λ(e:ig[j]=kz[j]) (i:Nat) (hi:i<j+1)=>show ig[i]? = kz[i]? from by
    rcases Nat.lt_or_ge i j with h|h
    · exact gD.out i h
    · obtain rfl:i=j:=by omega
      rw[List.getElem?_eq_getElem hlt,List.getElem?_eq_getElem hlb,e])
   have HI:=ł (λ(e:ig[j]≠kz[j]) (h:ig=kz)=>show False from e (by subst h;rfl));clear hc1 hc2;have hl1:g1<wr.heap.size:=World.block_lt_of_cell? wr _ c0;have hl2:g2<wr.heap.size:=World.block_lt_of_cell? wr _ d0;generalize ig[j]=x at *;generalize kz[j]=y at *;obtain⟨x0,x1,x2,x3,x4⟩:=x;obtain⟨y0,y1,y2,y3,y4⟩:=y;simp only[Nat.add_zero]at c0 d0;by_cases h0:x0=y0
   rotate_left
   · have HX:=ł (HI.out (by intro e;injection e;contradiction));go_wp2_with fail
     go_region
     go_wp2_with fail;go_ret;exact⟨false,rfl,⟨λh=>(by cases h),λh=>(HX.out (yx.out h)).elim⟩,(gtr HG2.out HG.out).drew⟩
   by_cases h1:x1=y1
   rotate_left
   · have HX:=ł (HI.out (by intro e;injection e;contradiction));go_wp2_with fail
     go_region
     go_wp2_with fail;go_ret;exact⟨false,rfl,⟨λh=>(by cases h),λh=>(HX.out (yx.out h)).elim⟩,(gtr HG2.out HG.out).drew⟩
   by_cases h2:x2=y2
   rotate_left
   · have HX:=ł (HI.out (by intro e;injection e;contradiction));go_wp2_with fail
     go_region
     go_wp2_with fail;go_ret;exact⟨false,rfl,⟨λh=>(by cases h),λh=>(HX.out (yx.out h)).elim⟩,(gtr HG2.out HG.out).drew⟩
   by_cases h3:x3=y3
   rotate_left
   · have HX:=ł (HI.out (by intro e;injection e;contradiction));go_wp2_with fail
     go_region
     go_wp2_with fail;go_ret;exact⟨false,rfl,⟨λh=>(by cases h),λh=>(HX.out (yx.out h)).elim⟩,(gtr HG2.out HG.out).drew⟩
   by_cases h4:x4=y4
   rotate_left
   · have HX:=ł (HI.out (by intro e;injection e;contradiction));go_wp2_with fail
     go_region
     go_wp2_with fail;go_ret;exact⟨false,rfl,⟨λh=>(by cases h),λh=>(HX.out (yx.out h)).elim⟩,(gtr HG2.out HG.out).drew⟩
   subst h0;subst h1;subst h2;subst h3;subst h4;have HX:=ł (HS.out rfl);go_wp2_with fail
   go_region
   go_wp2_with fail
   go_roundw
   case rel=>exact⟨j+1,by go_num,by omega,HX.out,HG.out.drew⟩
   case measure=>(simp[intOf] <;> omega)
 · have iT:=ł (show ig=kz from List.ext_getElem? λi=>by
    rcases Nat.lt_or_ge i ig.length with h|h
    · exact gD.out i (by omega)
    · rw[List.getElem?_eq_none h,List.getElem?_eq_none (by have:=pR.out;omega)])
   have fP:=ł (gtr HG2.out HG.out);have bA:=ł (aD bA.out HG.out);have bK:=ł (aD bK.out HG.out);have HP:=ł (HP.out.later HG.out);have HQ:=ł (HQ.out.later HG.out);have xJ:=ł iT.out;clear HG gD iT HA HB HG2;go_wp2_with fail;clear p0 p1 q0 q1 hpl fU;generalize wr=w5 at *
   go_loopw [44] (λt wr=>∃ j:Nat,t = .int .i64 j/\j<=ik.length/\(∀ i,i<j->ik[i]? = kC[i]?)/\Grow w5 wr) (λt _=>ik.length - (intOf t).toNat)
   case atStart=>exact⟨0,rfl,Nat.zero_le _,λi hi=>absurd hi (Nat.not_lt_zero _),Mv.refl _ _⟩
   obtain⟨j,rfl,hj,hall,hg⟩:=hrel;have gD:=ł hall;have HG:=ł hg;clear hall hg;obtain⟨p0,p1⟩:=kT (aD bA.out HG.out);obtain⟨q0,q1⟩:=kT (aD bK.out HG.out);have hpl:=lt_of_block (aD bA.out HG.out);have fU:=lt_of_block (aD bK.out HG.out);by_cases hlt:j<ik.length
   · have hlb:j<kC.length:=by have:=xI.out;omega
     obtain⟨g1,o1,k1,v1,_,hc1⟩:=(HP.out.later HG.out).at hlt;obtain⟨g2,o2,k2,v2,_,hc2⟩:=(HQ.out.later HG.out).at hlb;simp only[Value.slice.injEq,true_and]at v1 v2;obtain⟨rfl,rfl⟩:=v1;obtain⟨rfl,rfl⟩:=v2;have c0:=hc1 0 _ rfl;have c1:=hc1 1 _ rfl;have d0:=hc2 0 _ rfl;have d1:=hc2 1 _ rfl;have HS:=ł (λ(e:ik[j]=kC[j]) (i:Nat) (hi:i<j+1)=>show ik[i]? = kC[i]? from by
      rcases Nat.lt_or_ge i j with h|h
      · exact gD.out i h
      · obtain rfl:i=j:=by omega
        rw[List.getElem?_eq_getElem hlt,List.getElem?_eq_getElem hlb,e])
     have HI:=ł (λ(e:ik[j]≠kC[j]) (h:ik=kC)=>show False from e (by subst h;rfl));clear hc1 hc2;have hl1:g1<wr.heap.size:=World.block_lt_of_cell? wr _ c0;have hl2:g2<wr.heap.size:=World.block_lt_of_cell? wr _ d0;generalize ik[j]=x at *;generalize kC[j]=y at *;obtain⟨x0,x1⟩:=x;obtain⟨y0,y1⟩:=y;simp only[Nat.add_zero]at c0 d0;by_cases h0:x0=y0
     rotate_left
     · have HX:=ł (HI.out (by intro e;injection e;contradiction));go_wp2_with fail
       go_region
       go_wp2_with fail;go_ret;exact⟨false,rfl,⟨λh=>(by cases h),λh=>(HX.out (Q5.out h)).elim⟩,(gtr fP.out HG.out).drew⟩
     by_cases h1:x1=y1
     rotate_left
     · have HX:=ł (HI.out (by intro e;injection e;contradiction));have hdn:¬ x1.toList=y1.toList:=λe=>h1 ((zz _ _).1 e);go_wp2_with fail
       go_region
       go_wp2_with fail;go_ret;exact⟨false,rfl,⟨λh=>(by cases h),λh=>(HX.out (Q5.out h)).elim⟩,(gtr fP.out HG.out).drew⟩
     subst h0;subst h1;have HX:=ł (HS.out rfl);go_wp2_with fail
     go_region
     go_wp2_with fail
     go_roundw
     case rel=>exact⟨j+1,by go_num,by omega,HX.out,HG.out.drew⟩
     case measure=>(simp[intOf] <;> omega)
   · have iT:=ł (show ik=kC from List.ext_getElem? λi=>by
      rcases Nat.lt_or_ge i ik.length with h|h
      · exact gD.out i (by omega)
      · rw[List.getElem?_eq_none h,List.getElem?_eq_none (by have:=xI.out;omega)])
     go_wp2_with fail;go_ret;exact⟨true,rfl,⟨λ_=>by rw[xJ.out,iT.out],λ_=>rfl⟩,gtr fP.out HG.out⟩
theorem UD (o q:bX) (w:World) (ho:fA w o) (hq:fA w q):Calls Tryz.prog 25 #[o.val,q.val] w (xu w (o.d=q.d)):=by
 have HO:=ł ho;have HQ:=ł hq;obtain⟨od,ea1,b1,ea2,b2,ea3,b3,ea4,b4,rfl⟩:=ho.form;obtain⟨qd,c1,d1,c2,d2,c3,d3,c4,d4,rfl⟩:=hq.form;clear ho hq;have HD:=ł (λz (hz:Grow w z)=>TI _ _ _ _ z (HO.out.later hz).params (HQ.out.later hz).params);have HF:=ł (λz (hz:Grow w z)=>Ta _ _ ⟨od.slots,od.cells,od.stacks⟩ ⟨qd.slots,qd.cells,qd.stacks⟩ z ⟨(HO.out.later hz).slots⟩ ⟨(HQ.out.later hz).slots⟩);have HP:=ł (λz (hz:Grow w z)=>Tc ea3 c3 ea4 c4 b3 d3 b4 d4 ⟨od.code,od.refs⟩ ⟨qd.code,qd.refs⟩ z (HO.out.later hz).code (HO.out.later hz).refs (HQ.out.later hz).code (HQ.out.later hz).refs);obtain⟨-,-,HG⟩:=a2 w (.cells #[.string od.name,.slice ea1 od.params.length b1,.slice ea2 od.slots.length b2,.int .i64 od.cells,.int .i64 od.stacks,.slice ea3 od.code.length b3,.slice ea4 od.refs.length b4] 39) (.cells #[.string qd.name,.slice c1 qd.params.length d1,.slice c2 qd.slots.length d2,.int .i64 qd.cells,.int .i64 qd.stacks,.slice c3 qd.code.length d3,.slice c4 qd.refs.length d4] 39);have bA:=ł (show((w.alloc (.cells #[.string od.name,.slice ea1 od.params.length b1,.slice ea2 od.slots.length b2,.int .i64 od.cells,.int .i64 od.stacks,.slice ea3 od.code.length b3,.slice ea4 od.refs.length b4] 39)).alloc (.cells #[.string qd.name,.slice c1 qd.params.length d1,.slice c2 qd.slots.length d2,.int .i64 qd.cells,.int .i64 qd.stacks,.slice c3 qd.code.length d3,.slice c4 qd.refs.length d4] 39)).heap[w.heap.size]? = some (.cells #[.string od.name,.slice ea1 od.params.length b1,.slice ea2 od.slots.length b2,.int .i64 od.cells,.int .i64 od.stacks,.slice ea3 od.code.length b3,.slice ea4 od.refs.length b4] 39 (0,0))from aD (heap_alloc_new w (.cells #[.string od.name,.slice ea1 od.params.length b1,.slice ea2 od.slots.length b2,.int .i64 od.cells,.int .i64 od.stacks,.slice ea3 od.code.length b3,.slice ea4 od.refs.length b4] 39)) ((Mv.refl _ _).alloc _));obtain⟨-,bK,-⟩:=a2 w (.cells #[.string od.name,.slice ea1 od.params.length b1,.slice ea2 od.slots.length b2,.int .i64 od.cells,.int .i64 od.stacks,.slice ea3 od.code.length b3,.slice ea4 od.refs.length b4] 39) (.cells #[.string qd.name,.slice c1 qd.params.length d1,.slice c2 qd.slots.length d2,.int .i64 qd.cells,.int .i64 qd.stacks,.slice c3 qd.code.length d3,.slice c4 qd.refs.length d4] 39);clear HO HQ;simp only at HD HF HP
 go_enter Tryz.func25,Tryz.ntmps25
 go_upto_region 1 with fail;generalize ((w.alloc (.cells #[.string od.name,.slice ea1 od.params.length b1,.slice ea2 od.slots.length b2,.int .i64 od.cells,.int .i64 od.stacks,.slice ea3 od.code.length b3,.slice ea4 od.refs.length b4] 39)).alloc (.cells #[.string qd.name,.slice c1 qd.params.length d1,.slice c2 qd.slots.length d2,.int .i64 qd.cells,.int .i64 qd.stacks,.slice c3 qd.code.length d3,.slice c4 qd.refs.length d4] 39))=w2 at *;by_cases hn:od.name=qd.name
 rotate_left
 · have hdn:¬ od.name.toList=qd.name.toList:=λe=>hn ((zz _ _).1 e);have HX:=ł (λ(e:od=qd)=>hn (by rw[e]));obtain⟨⟨p0,p1,p2⟩,⟨p3,p4⟩,p5,p6⟩:=aM bA.out;obtain⟨⟨q0,q1,q2⟩,⟨q3,q4⟩,q5,q6⟩:=aM bK.out;have hpl:=lt_of_block bA.out;have fU:=lt_of_block bK.out;go_wp2_with fail;go_ret;exact⟨false,rfl,⟨λh=>(by cases h),λh=>(HX.out h).elim⟩,HG.out⟩
 have hnn:od.name.toList=qd.name.toList:=by rw[hn]
 obtain⟨⟨p0,p1,p2⟩,⟨p3,p4⟩,p5,p6⟩:=aM bA.out;obtain⟨⟨q0,q1,q2⟩,⟨q3,q4⟩,q5,q6⟩:=aM bK.out;have hpl:=lt_of_block bA.out;have fU:=lt_of_block bK.out;go_wp2_with fail;refine(HD.out _ HG.out).mono ?_;clear p0 p1 p2 p3 p4 p5 p6 q0 q1 q2 q3 q4 q5 q6 hpl fU;rintro e w3 ⟨bb,rfl,hiff,hg⟩;have HG:=ł (gtr HG.out hg);have bA:=ł (aD bA.out hg);have bK:=ł (aD bK.out hg);clear hg;cases bb with
 |false =>
  have HX:=ł (λ(e:od=qd)=>show False from by have:=hiff.2 (by rw[e]);cases this);clear hiff;go_wp2_with fail;go_ret;exact⟨false,rfl,⟨λh=>(by cases h),λh=>(HX.out h).elim⟩,HG.out⟩
 |true =>
 have _V:=ł (hiff.1 rfl);clear hiff;obtain⟨⟨p0,p1,p2⟩,⟨p3,p4⟩,p5,p6⟩:=aM bA.out;obtain⟨⟨q0,q1,q2⟩,⟨q3,q4⟩,q5,q6⟩:=aM bK.out;have hpl:=lt_of_block bA.out;have fU:=lt_of_block bK.out;go_wp2_with fail;refine(HF.out _ HG.out).mono ?_;clear p0 p1 p2 p3 p4 p5 p6 q0 q1 q2 q3 q4 q5 q6 hpl fU;rintro e w4 ⟨bb,rfl,hiff,hg⟩;have HG:=ł (gtr HG.out hg);have bA:=ł (aD bA.out hg);have bK:=ł (aD bK.out hg);clear hg;cases bb with
 |false =>
  have HX:=ł (λ(e:od=qd)=>show False from by have:=hiff.2 (by rw[e]);cases this);clear hiff;go_wp2_with fail;go_ret;exact⟨false,rfl,⟨λh=>(by cases h),λh=>(HX.out h).elim⟩,HG.out⟩
 |true =>
 have HE2:=ł (hiff.1 rfl);clear hiff;obtain⟨⟨p0,p1,p2⟩,⟨p3,p4⟩,p5,p6⟩:=aM bA.out;obtain⟨⟨q0,q1,q2⟩,⟨q3,q4⟩,q5,q6⟩:=aM bK.out;have hpl:=lt_of_block bA.out;have fU:=lt_of_block bK.out;go_wp2_with fail;refine(HP.out _ HG.out).mono ?_;clear p0 p1 p2 p3 p4 p5 p6 q0 q1 q2 q3 q4 q5 q6 hpl fU;rintro e w5 ⟨bb,rfl,hiff,hg⟩;have HG:=ł (gtr HG.out hg);have bA:=ł (aD bA.out hg);have bK:=ł (aD bK.out hg);clear hg;cases bb with
 |false =>
  have HX:=ł (λ(e:od=qd)=>show False from by have:=hiff.2 (by rw[e]);cases this);clear hiff;go_wp2_with fail;go_ret;exact⟨false,rfl,⟨λh=>(by cases h),λh=>(HX.out h).elim⟩,HG.out⟩
 |true =>
 have _W:=ł (hiff.1 rfl);clear hiff;have G8:=ł (show od=qd from by
  have h2:=HE2.out;have h3:=_W.out;have h1:=_V.out;obtain⟨x0,x1,x2,x3,x4,x5,x6⟩:=od;obtain⟨y0,y1,y2,y3,y4,y5,y6⟩:=qd;simp only[jN.mk.injEq,fC.mk.injEq]at h1 h2 h3 hn;obtain⟨h2,h4,h5⟩:=h2;obtain⟨h3,h6⟩:=h3;subst h1 h2 h3 h4 h5 h6 hn
  rfl)
 go_wp2_with fail;go_ret;exact⟨true,rfl,⟨λ_=>G8.out,λ_=>rfl⟩,HG.out⟩
theorem UE (o:bX) (w:World) (ho:fA w o):Calls Tryz.prog 16 #[o.val] w (xu w (o.d=eu)):=by
 have HS:=ł (λz (hz:Grow w z)=>UD o nH z (ho.later hz) (vM z));obtain⟨od,ea1,b1,ea2,b2,ea3,b3,ea4,b4,rfl⟩:=ho.form;clear ho;simp only[show nH.val = .agg #[.string ⟨#[]⟩,.slice none 0 0,.slice none 0 0,.int .i64 0,.int .i64 0,.slice none 0 0,.slice none 0 0]from rfl,show nH.d=eu from rfl]at HS;have HG:=ł (show Grow w (w.alloc (.cells #[.string od.name,.slice ea1 od.params.length b1,.slice ea2 od.slots.length b2,.int .i64 od.cells,.int .i64 od.stacks,.slice ea3 od.code.length b3,.slice ea4 od.refs.length b4] 39))from(Mv.refl _ w).alloc _);have bA:=ł (heap_alloc_new w (.cells #[.string od.name,.slice ea1 od.params.length b1,.slice ea2 od.slots.length b2,.int .i64 od.cells,.int .i64 od.stacks,.slice ea3 od.code.length b3,.slice ea4 od.refs.length b4] 39))
 go_enter Tryz.func16,Tryz.ntmps16
 go_upto_region 1 with fail;generalize w.alloc (.cells #[.string od.name,.slice ea1 od.params.length b1,.slice ea2 od.slots.length b2,.int .i64 od.cells,.int .i64 od.stacks,.slice ea3 od.code.length b3,.slice ea4 od.refs.length b4] 39)=w2 at *;obtain⟨⟨p0,p1,p2⟩,⟨p3,p4⟩,p5,p6⟩:=aM bA.out;have hpl:=lt_of_block bA.out;go_wp2_with fail;refine(HS.out _ HG.out).mono ?_;rintro e w3 ⟨bb,rfl,hiff,hg⟩;have HG:=ł (gtr HG.out hg);have HI:=ł hiff;clear hg hiff;go_wp2_with fail;go_ret;exact⟨bb,rfl,HI.out,HG.out⟩
theorem TJ {l:List Int} (hB:aS l) (hl:l.length<=700000) (h:iL l=0):EK (fG l)/\jg (fG l)=l:=by
 obtain⟨h1,h2,h3,h4,h5⟩:=UB hB h;refine⟨⟨h1,h2,h3,h4,⟨by rw[h5];exact hl,?_,λv hv => ?_,λv hv => ?_,λv hv => ?_⟩⟩,h5⟩
 · have:=h4.name;unfold jv at this;omega
 · have:=(h4.params v hv).1;unfold jv at this;omega
 · have:=(h4.slots v hv).1;unfold jv at this;omega
 · have:=(h4.refs v hv).2;unfold jv at this;omega
theorem VN (v:Value) (l:List Int) (w:World) (h:ai 1 aJ w v l) (hB:aS l) (haw:Calls Tryz.prog 11 #[] w (Ei w true)) (ht:bW w):Calls Tryz.prog 7 #[v] w (Ei w true):=by
 obtain⟨va,vc,rfl,-,-⟩:=h.form;have Q6:=ł haw;have HR:=ł h;have HT:=ł ht;have iP:=ł hB;clear h hB haw ht
 go_enter Tryz.func7,Tryz.ntmps7
 go_wp2_with fail;refine Q6.out.mono ?_;rintro e w2 ⟨rfl,hg⟩;have HG2:=ł hg;clear hg Q6;by_cases hbig:3000<l.length
 · have hb:(3000:Int)<(l.length:Nat):=by omega
   go_wp2_with fail;go_ret;exact⟨rfl,HG2.out⟩
 have hb:¬ (3000:Int)<(l.length:Nat):=by omega
 have rO:=ł (UA _ l w2 (HR.out.later HG2.out) iP.out (HT.out.later HG2.out) (by omega));go_wp2_with fail;refine rO.out.mono ?_;rintro e w3 ⟨ov,rfl,hd,hrw,hg⟩;obtain⟨od,a1,a2,a3,a4,a5,a6,a7,a8,rfl⟩:=hrw.form;simp only at hd;have Q7:=ł hd;have hga:Grow w3 (w3.alloc (.cells #[.string od.name,.slice a1 od.params.length a2,.slice a3 od.slots.length a4,.int .i64 od.cells,.int .i64 od.stacks,.slice a5 od.code.length a6,.slice a7 od.refs.length a8] 39)):=(Mv.refl _ _).alloc _;have lU:=ł (heap_alloc_new w3 (.cells #[.string od.name,.slice a1 od.params.length a2,.slice a3 od.slots.length a4,.int .i64 od.cells,.int .i64 od.stacks,.slice a5 od.code.length a6,.slice a7 od.refs.length a8] 39));have HR4:=ł (hrw.later hga);have lT:=ł (dw HG2.out (dw hg hga));clear hd hrw hg hga rO HG2;go_upto_region 6 with fail;generalize (w3.alloc (.cells #[.string od.name,.slice a1 od.params.length a2,.slice a3 od.slots.length a4,.int .i64 od.cells,.int .i64 od.stacks,.slice a5 od.code.length a6,.slice a7 od.refs.length a8] 39))=w4 at *;generalize w3.heap.size=AO at *;by_cases h0:iL l=0
 case neg =>
  have hn:=Q7.out.trans (UC h0);have d0:(iL l != 0)=true:=by simpa using h0
  have d1:(iL l == 0)=false:=by simpa using h0
  have HZ:=ł (UE _ w4 HR4.out)
  (skip);obtain⟨⟨o0,o1,o2⟩,⟨o3,o4⟩,o5,o6⟩:=aM lU.out;have hol:=lt_of_block lU.out
  have HN:=ł hn;clear h0 hn;go_wp2_with fail;refine HZ.out.mono ?_;clear o0 o1 o2 o3 o4 o5 o6 hol;rintro e w5 ⟨bb,rfl,hiff,hg⟩;obtain rfl:bb=true:=hiff.2 HN.out;have BD:=ł (dw lT.out hg);clear hg hiff;go_wp2_with fail;go_ret;exact⟨rfl,BD.out⟩
 obtain⟨hok,heq⟩:=TJ iP.out (by omega) h0;rw[← Q7.out]at hok heq;have lS:=ł hok;have G8:=ł heq;rw[h0];clear h0 hok heq;have uh:=ł (Uv ⟨od,.slice a1 od.params.length a2,.slice a3 od.slots.length a4,.slice a5 od.code.length a6,.slice a7 od.refs.length a8⟩ w4 (HR4.out.at lS.out.ok) (HT.out.later lT.out) lS.out.sm)
 (skip);obtain⟨⟨o0,o1,o2⟩,⟨o3,o4⟩,o5,o6⟩:=aM lU.out;have hol:=lt_of_block lU.out
 go_wp2_with fail;refine uh.out.mono ?_;clear o0 o1 o2 o3 o4 o5 o6 hol;clear uh;rintro e w7 (⟨h0,-,-⟩|⟨h0,ba,bc,rfl,hrow,hg⟩)
 · exact absurd lS.out.err h0
 have ku:=ł (pY ma hrow);have BA:=ł (dw lT.out hg);have rF:=ł (aD lU.out hg);have ry:=ł (HR4.out.later hg);clear h0 hrow hg lT lU HR4;have ng:=ł (CB ⟨od,.slice a1 od.params.length a2,.slice a3 od.slots.length a4,.slice a5 od.code.length a6,.slice a7 od.refs.length a8⟩ w7 (HT.out.later BA.out) (ry.out.at lS.out.ok));simp only[lS.out.bT]at ng;rw[G8.out]at ku ⊢
 (skip);obtain⟨⟨o0,o1,o2⟩,⟨o3,o4⟩,o5,o6⟩:=aM rF.out;have hol:=lt_of_block rF.out
 go_wp2_with fail;refine ng.out.mono ?_;clear o0 o1 o2 o3 o4 o5 o6 hol;rintro e w8 ⟨rfl,hg⟩;have uu:=ł (dw BA.out hg);have Gx:=yO (HR.out.later uu.out);have rA:=yO (ku.out.later hg);clear hg;go_wp2_with fail;go_ret;exact⟨rfl,uu.out⟩
attribute [local go_sem ↓] jG
def xw:List ByteArray:=[⟨#[]⟩,⟨#[]⟩,⟨#[]⟩,⟨#[]⟩,⟨#[]⟩,⟨#[]⟩,⟨#[45]⟩,⟨#[33]⟩,⟨#[43]⟩,⟨#[45]⟩,⟨#[42]⟩,⟨#[47]⟩,⟨#[37]⟩,⟨#[38]⟩,⟨#[124]⟩,⟨#[94]⟩,⟨#[61,61]⟩,⟨#[33,61]⟩,⟨#[60]⟩,⟨#[60,61]⟩,⟨#[62]⟩,⟨#[62,61]⟩,⟨#[38,38]⟩,⟨#[124,124]⟩,⟨#[]⟩,⟨#[]⟩,⟨#[]⟩,⟨#[]⟩,⟨#[]⟩,⟨#[]⟩,⟨#[]⟩,⟨#[]⟩,⟨#[]⟩,⟨#[]⟩,⟨#[]⟩,⟨#[]⟩,⟨#[]⟩,⟨#[]⟩,⟨#[]⟩,⟨#[]⟩,⟨#[43,61]⟩,⟨#[45,61]⟩,⟨#[94,61]⟩]
def zW (w:World):Prop:=∀ k,k<43->w.cell? ⟨1,k,none⟩=some (.string (xw.getD k ⟨#[]⟩))
theorem zW.later {w w':World} (h:zW w) (hm:Mv (λ_=>False) w w'):zW w':=λk hk=>by
 have h1:=h k hk;have h2:=World.block_lt_of_cell? w _ h1;unfold World.cell? at h1 ⊢;rw[hm.block _ h2 (λe=>e)];exact h1
end Go.Proofs.YtadecgbblajifaaGreatDoor
