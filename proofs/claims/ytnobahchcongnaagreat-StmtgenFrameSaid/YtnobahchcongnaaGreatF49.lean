import Derived.Test.YtnobahchcongnaaGreatF48
import Derived.Laws.StructEq
set_option linter.unusedSimpArgs false
set_option linter.unusedVariables false
set_option maxRecDepth 100000
set_option maxHeartbeats 25600000
namespace Go.Proofs.YtnobahchcongnaaGreat
open Go.RowKit Go.Instr
def uR (f:az) (procs:List aU) (t:Tree):Int:=if bW t then eT f procs t else 3
def qM (f:az) (procs:List aU) (t:Tree):aI:=if uR f procs t=0 then aV f procs t else fP
def Z5 (w:World) (p:aI) (n:Int) (e:Ending) (w':World):Prop:=∃ v,e = .returned (.tuple #[v,.int .i64 n])/\ay w' v p/\Grow w w'
theorem _y {w:World} {X:Nat} {a b c d e:Value} {t:TypeId} (h:w.heap[X]? = some (.cells #[a,b,c,d,e] t (0,0))):w.cell? ⟨X,4,none⟩=some e:=by simp[World.cell?,h]
theorem JG (w:World) (x:ae) (sv pv:Value) (f:az) (procs:List ak) (hx:aS w x) (hf:fV w sv f) (hp:lC w pv procs) (hok:yG f) (hpo:sj procs) (hs:bA x.t<=80) :
 Calls Tryz.prog 9 #[x.val,.agg #[sv,.int .i64 f.cells,.int .i64 f.stacks],pv] w (Z5 w (qM f (procs.map ak.d) x.t) (uR f (procs.map ak.d) x.t)):=by
 obtain⟨k,n,s,kv,l⟩:=x;obtain⟨ka,kc,rfl,-,-⟩:=hx.form;obtain⟨fa,fc,rfl,hfc,hfl⟩:=hf.row.form;obtain⟨pa,pc,rfl,-,-⟩:=hp.row.form;have hgA:Grow w (((w.alloc (.cells #[.int .u8 k,.int .i64 n,.string s,.slice ka l.length kc] 26)).alloc (.cells #[.slice fa f.slots.length fc,.int .i64 f.cells,.int .i64 f.stacks] 38)).alloc (.cells #[.slice none 0 0,.slice none 0 0] 45)):=(((Mv.refl _ w).alloc _).alloc _).alloc _;have aG:=ł hgA;have HB0:=ł (show(((w.alloc (.cells #[.int .u8 k,.int .i64 n,.string s,.slice ka l.length kc] 26)).alloc (.cells #[.slice fa f.slots.length fc,.int .i64 f.cells,.int .i64 f.stacks] 38)).alloc (.cells #[.slice none 0 0,.slice none 0 0] 45)).heap[w.heap.size]? = _ from aO (aO (heap_alloc_new w _) _) _);have Ic:=ł (show(((w.alloc (.cells #[.int .u8 k,.int .i64 n,.string s,.slice ka l.length kc] 26)).alloc (.cells #[.slice fa f.slots.length fc,.int .i64 f.cells,.int .i64 f.stacks] 38)).alloc (.cells #[.slice none 0 0,.slice none 0 0] 45)).heap[w.heap.size+1]? = some (.cells #[.slice fa f.slots.length fc,.int .i64 f.cells,.int .i64 f.stacks] 38 (0,0))from aO (by have:=heap_alloc_new (w.alloc (.cells #[.int .u8 k,.int .i64 n,.string s,.slice ka l.length kc] 26)) (.cells #[.slice fa f.slots.length fc,.int .i64 f.cells,.int .i64 f.stacks] 38);rwa[World.size_alloc]at this) _);have qZ:=ł (show(((w.alloc (.cells #[.int .u8 k,.int .i64 n,.string s,.slice ka l.length kc] 26)).alloc (.cells #[.slice fa f.slots.length fc,.int .i64 f.cells,.int .i64 f.stacks] 38)).alloc (.cells #[.slice none 0 0,.slice none 0 0] 45)).heap[w.heap.size+1+1]? = some (.cells #[.slice none 0 0,.slice none 0 0] 45 (0,0))from by have:=heap_alloc_new ((w.alloc (.cells #[.int .u8 k,.int .i64 n,.string s,.slice ka l.length kc] 26)).alloc (.cells #[.slice fa f.slots.length fc,.int .i64 f.cells,.int .i64 f.stacks] 38)) (.cells #[.slice none 0 0,.slice none 0 0] 45);rwa[World.size_alloc,World.size_alloc]at this);have HIS:=ł (λ(z:World) (hz:Grow w z)=>II (.mk k n s (.slice ka l.length kc) l) z (hx.later hz));have Nh:=ł (λ(z:World) (hz:Grow w z)=>Xg JY (.slice fa f.slots.length fc) (.slice pa procs.length pc) f procs (.mk k n s (.slice ka l.length kc) l) z (hf.later hz) (hp.later hz) (hx.later hz));have dS:=ł hf;have bY:=ł hp;have HXA:=ł hx;have HS:=ł hs;clear hgA hx hf hp hs;simp only[ae.val]at HIS Nh ⊢;obtain⟨⟨n0,n1⟩,n2,n3⟩:=aF HB0.out;have hl0:=lt_of_block HB0.out
 go_enter Tryz.func9,Tryz.ntmps9
 go_wp2_with fail;generalize (((w.alloc (.cells #[.int .u8 k,.int .i64 n,.string s,.slice ka l.length kc] 26)).alloc (.cells #[.slice fa f.slots.length fc,.int .i64 f.cells,.int .i64 f.stacks] 38)).alloc (.cells #[.slice none 0 0,.slice none 0 0] 45))=w3 at *;refine(HIS.out _ aG.out).mono ?_;clear n0 n1 n2 n3 hl0 HIS;rintro e w4 ⟨rfl,hg4⟩;have aN:=ł hg4;clear hg4;cases hib:bW (ae.t (.mk k n s (.slice ka l.length kc) l))with
 |false =>
  have HE:=ł (show uR f (procs.map ak.d) (ae.t (.mk k n s (.slice ka l.length kc) l))=3 from by simp[uR,hib]);have HC:=ł (show qM f (procs.map ak.d) (ae.t (.mk k n s (.slice ka l.length kc) l))=fP from by simp[qM,HE.out]);have hr:=ai qZ.out aN.out;obtain⟨c0,c1⟩:=aC hr;have hlr:=lt_of_block hr;have zr:=aD hr;obtain⟨hs1,hs2⟩:=set2 hr (.slice none 0 0) (.slice none 0 0);have lq:=ł hs1;have eQ:=ł (show Grow w _ from(gtr aG.out aN.out).trans hs2 (λb e => .inr (by omega)));clear hs1 hs2 hr hib;go_wp2_with fail;obtain⟨t0,t1⟩:=aC lq.out;exact bodyPost_ret (v := .tuple #[.agg #[.slice none 0 0,.slice none 0 0],.int .i64 3]) (by simp[results,Tryz.results9,go_sem,t0,t1]) rfl ⟨_,by rw[HE.out],by rw[HC.out];exact ay.none _,eQ.out⟩
 |true =>
  have ed:=ł hib;have HE:=ł (show uR f (procs.map ak.d) (ae.t (.mk k n s (.slice ka l.length kc) l))=eT f (procs.map ak.d) (ae.t (.mk k n s (.slice ka l.length kc) l))from by simp[uR,hib]);clear hib;obtain⟨⟨n0,n1⟩,n2,n3⟩:=aF (ai HB0.out aN.out);obtain⟨f0,f1,f2⟩:=di (ai Ic.out aN.out);have hl0:=lt_of_block (ai HB0.out aN.out);have hl1:=lt_of_block (ai Ic.out aN.out);go_wp2_with fail;refine(Nh.out _ (gtr aG.out aN.out)).mono ?_;clear n0 n1 n2 n3 f0 f1 f2 hl0 hl1 Nh;rintro e w5 ⟨rfl,hg5⟩;have aT:=ł (gtr aN.out hg5);clear hg5;have Ni:=ł (show eT f (procs.map ak.d) (ae.t (.mk k n s (.slice ka l.length kc) l))=0->∀ (G:Nat) (z:World),gD z G (.slice fa f.slots.length fc) (.slice pa procs.length pc) f procs->Grow w z->Calls Tryz.prog 30 #[.pointer (some ⟨G,0,none⟩),ae.val (.mk k n s (.slice ka l.length kc) l)] z (bQ z (aV f (procs.map ak.d) (ae.t (.mk k n s (.slice ka l.length kc) l))))from
   λhu G z hg hz=>Xn JY G _ _ f procs hok hpo _ z hg (HXA.out.later hz) ed.out hu HS.out)
  by_cases hu:eT f (procs.map ak.d) (ae.t (.mk k n s (.slice ka l.length kc) l))=0
  · have nJ:=ł (show qM f (procs.map ak.d) (ae.t (.mk k n s (.slice ka l.length kc) l))=aV f (procs.map ak.d) (ae.t (.mk k n s (.slice ka l.length kc) l))from by rw[qM,HE.out,hu];rfl);have hE0:=HE.out.trans hu;have wV:=ł hE0;rw[hu];have hgg:Grow w5 (w5.alloc (.cells #[.slice fa f.slots.length fc,.int .i64 f.cells,.int .i64 f.stacks,.slice pa procs.length pc,.int .i64 0] 88)):=(Mv.refl _ _).alloc _;have dw:=ł (gtr aT.out hgg);have Vf:=ł (heap_alloc_new w5 (.cells #[.slice fa f.slots.length fc,.int .i64 f.cells,.int .i64 f.stacks,.slice pa procs.length pc,.int .i64 0] 88));have HC:=ł (Ni.out hu w5.heap.size _ ⟨Vf.out,dS.out.later (gtr aG.out dw.out),bY.out.later (gtr aG.out dw.out)⟩ (gtr aG.out dw.out));simp only[ae.val]at HC;clear hgg hu hE0;obtain⟨⟨n0,n1⟩,n2,n3⟩:=aF (ai HB0.out aT.out);obtain⟨f0,f1,f2⟩:=di (ai Ic.out aT.out);have hl0:=lt_of_block (ai HB0.out aT.out);have hl1:=lt_of_block (ai Ic.out aT.out);go_wp2_with fail;refine HC.out.mono ?_;clear n0 n1 n2 n3 f0 f1 f2 hl0 hl1 HC Ni;rintro e w7 ⟨v,rfl,hpv,tZ⟩;obtain⟨ja,jc,jr,bz,rfl,hr1,hr2⟩:=hpv;generalize aV f (procs.map ak.d) (ae.t (.mk k n s (.slice ka l.length kc) l))=P at *;have vC:=ł (gtr dw.out tZ);have hgn:=ai Vf.out tZ;have hr:=ai qZ.out vC.out;have g4:=_y hgn;have wU:=lt_of_block hgn;obtain⟨c0,c1⟩:=aC hr;have hlr:=lt_of_block hr;have zr:=aD hr;obtain⟨hs1,hs2⟩:=set2 hr (.slice ja P.code.length jc) (.slice jr P.refs.length bz);have lq:=ł (aO hs1 (.cells #[.slice ja P.code.length jc,.slice jr P.refs.length bz] 45));have eQ:=ł (show Grow w _ from((gtr aG.out vC.out).trans hs2 (λb e => .inr (by omega))).alloc (.cells #[.slice ja P.code.length jc,.slice jr P.refs.length bz] 45));have bC:=ł ((ay.box (show ay w7 (.agg #[.slice ja P.code.length jc,.slice jr P.refs.length bz]) P from⟨_,_,_,_,rfl,hr1,hr2⟩) hr hs2).later ((Mv.refl _ _).alloc (.cells #[.slice ja P.code.length jc,.slice jr P.refs.length bz] 45)));clear hs1 hs2 hr hgn tZ hr1 hr2;go_wp2_with fail;obtain⟨t0,t1⟩:=aC lq.out;exact bodyPost_ret (v := .tuple #[.agg #[.slice ja P.code.length jc,.slice jr P.refs.length bz],.int .i64 0]) (by simp[results,Tryz.results9,go_sem,t0,t1]) rfl ⟨_,by rw[wV.out],by rw[nJ.out];exact bC.out,eQ.out⟩
  · have nJ:=ł (show qM f (procs.map ak.d) (ae.t (.mk k n s (.slice ka l.length kc) l))=fP from by rw[qM,HE.out,if_neg hu]);have hb:(eT f (procs.map ak.d) (ae.t (.mk k n s (.slice ka l.length kc) l)) != 0)=true:=by simpa using hu
    generalize eT f (procs.map ak.d) (ae.t (.mk k n s (.slice ka l.length kc) l))=E at *;have hr:=ai qZ.out aT.out;obtain⟨c0,c1⟩:=aC hr;have hlr:=lt_of_block hr;have zr:=aD hr;obtain⟨hs1,hs2⟩:=set2 hr (.slice none 0 0) (.slice none 0 0);have lq:=ł hs1;have eQ:=ł (show Grow w _ from(gtr aG.out aT.out).trans hs2 (λb e => .inr (by omega)));clear hs1 hs2 hr hu Ni;go_wp2_with fail;obtain⟨t0,t1⟩:=aC lq.out;exact bodyPost_ret (v := .tuple #[.agg #[.slice none 0 0,.slice none 0 0],.int .i64 E]) (by simp[results,Tryz.results9,go_sem,t0,t1]) rfl ⟨_,by rw[HE.out],by rw[nJ.out];exact ay.none _,eQ.out⟩
attribute [local go_sem ↓] lu
theorem toList_inj (a b:ByteArray):a.toList=b.toList↔a=b:=by
 have:=y7 a b;constructor
 · intro e;rw[e]at this;simpa using this.symm
 · intro e;rw[e]
def Su (w:World) (P:Prop) (e:Ending) (w':World):Prop:=∃ b:Bool,e = .returned (.bool b)/\(b=true↔P)/\Grow w w'
theorem WJ (av pv bv qv:Value) (a b:List Ins) (p q:List cO) (w:World) (ha:ax 5 Ins.cells w av a) (hp:ax 2 cO.cells w pv p) (hb:ax 5 Ins.cells w bv b) (hq:ax 2 cO.cells w qv q) :
 Calls Tryz.prog 38 #[av,pv,bv,qv] w (Su w (a=b/\p=q)):=by
 obtain⟨aa,ac,rfl,-,hal⟩:=ha.form;obtain⟨pa,pc,rfl,-,hpl⟩:=hp.form;obtain⟨ba,bc,rfl,-,hbl⟩:=hb.form;obtain⟨qa,qc,rfl,-,pK⟩:=hq.form;have HA:=ł ha;have HP:=ł hp;have HB:=ł hb;have HQ:=ł hq;clear ha hp hb hq;by_cases hab:a.length=b.length
 · by_cases hpq:p.length=q.length
   · have e1:((a.length:Int) != (b.length:Int))=false:=by simp[hab]
     have e2:((p.length:Int) != (q.length:Int))=false:=by simp[hpq]
     have Vg:=ł hab;have Ie:=ł hpq;clear hab hpq
     go_enter Tryz.func38,Tryz.ntmps38
     go_wp2_with fail
     go_loopw [9] (λt wr=>∃ j:Nat,t = .int .i64 j/\j<=a.length/\(∀ i,i<j->a[i]? = b[i]?)/\Grow w wr) (λt _=>a.length - (intOf t).toNat)
     case atStart=>exact⟨0,rfl,Nat.zero_le _,λi hi=>absurd hi (Nat.not_lt_zero _),Mv.refl _ _⟩
     obtain⟨j,rfl,hj,hall,hg⟩:=hrel;have dP:=ł hall;have HG:=ł hg;clear hall hg;by_cases hlt:j<a.length
     · have hlb:j<b.length:=by have:=Vg.out;omega
       obtain⟨g1,o1,k1,v1,_,hc1⟩:=(HA.out.later HG.out).at hlt;obtain⟨g2,o2,k2,v2,_,hc2⟩:=(HB.out.later HG.out).at hlb;simp only[Value.slice.injEq,true_and]at v1 v2;obtain⟨rfl,rfl⟩:=v1;obtain⟨rfl,rfl⟩:=v2;have c0:=hc1 0 _ rfl;have c1:=hc1 1 _ rfl;have c2:=hc1 2 _ rfl;have c3:=hc1 3 _ rfl;have c4:=hc1 4 _ rfl;have d0:=hc2 0 _ rfl;have d1:=hc2 1 _ rfl;have d2:=hc2 2 _ rfl;have d3:=hc2 3 _ rfl;have d4:=hc2 4 _ rfl;have HS:=ł (λ(e:a[j]=b[j]) (i:Nat) (hi:i<j+1)=>show a[i]? = b[i]? from by
        rcases Nat.lt_or_ge i j with h|h
        · exact dP.out i h
        · obtain rfl:i=j:=by omega
          rw[List.getElem?_eq_getElem hlt,List.getElem?_eq_getElem hlb,e])
       have HI:=ł (λ(e:a[j]≠b[j]) (h:a=b)=>show False from e (by subst h;rfl));clear hc1 hc2;have hl1:g1<wr.heap.size:=World.block_lt_of_cell? wr _ c0;have hl2:g2<wr.heap.size:=World.block_lt_of_cell? wr _ d0;generalize a[j]=x at *;generalize b[j]=y at *;obtain⟨x0,x1,x2,x3,x4⟩:=x;obtain⟨y0,y1,y2,y3,y4⟩:=y;simp only[Nat.add_zero]at c0 d0;by_cases h0:x0=y0
       rotate_left
       · have HX:=ł (HI.out (by intro e;injection e;contradiction));go_wp2_with fail
         go_region
         go_wp2_with fail;go_ret;exact⟨false,rfl,⟨λh=>(by cases h),λh=>(HX.out h.1).elim⟩,HG.out.drew⟩
       by_cases h1:x1=y1
       rotate_left
       · have HX:=ł (HI.out (by intro e;injection e;contradiction));go_wp2_with fail
         go_region
         go_wp2_with fail;go_ret;exact⟨false,rfl,⟨λh=>(by cases h),λh=>(HX.out h.1).elim⟩,HG.out.drew⟩
       by_cases h2:x2=y2
       rotate_left
       · have HX:=ł (HI.out (by intro e;injection e;contradiction));go_wp2_with fail
         go_region
         go_wp2_with fail;go_ret;exact⟨false,rfl,⟨λh=>(by cases h),λh=>(HX.out h.1).elim⟩,HG.out.drew⟩
       by_cases h3:x3=y3
       rotate_left
       · have HX:=ł (HI.out (by intro e;injection e;contradiction));go_wp2_with fail
         go_region
         go_wp2_with fail;go_ret;exact⟨false,rfl,⟨λh=>(by cases h),λh=>(HX.out h.1).elim⟩,HG.out.drew⟩
       by_cases h4:x4=y4
       rotate_left
       · have HX:=ł (HI.out (by intro e;injection e;contradiction));go_wp2_with fail
         go_region
         go_wp2_with fail;go_ret;exact⟨false,rfl,⟨λh=>(by cases h),λh=>(HX.out h.1).elim⟩,HG.out.drew⟩
       subst h0;subst h1;subst h2;subst h3;subst h4;have HX:=ł (HS.out rfl);go_wp2_with fail
       go_region
       go_wp2_with fail
       go_roundw
       case rel=>exact⟨j+1,by go_num,by omega,HX.out,HG.out.drew⟩
       case measure=>(simp[intOf] <;> omega)
     · have Dy:=ł (show a=b from List.ext_getElem? λi=>by
        rcases Nat.lt_or_ge i a.length with h|h
        · exact dP.out i (by omega)
        · rw[List.getElem?_eq_none h,List.getElem?_eq_none (by have:=Vg.out;omega)])
       have bg:=ł HG.out;clear dP;go_wp2_with fail;clear HG
       go_loopw [10] (λt wr=>∃ j:Nat,t = .int .i64 j/\j<=p.length/\(∀ i,i<j->p[i]? = q[i]?)/\Grow w wr) (λt _=>p.length - (intOf t).toNat)
       case atStart=>exact⟨0,rfl,Nat.zero_le _,λi hi=>absurd hi (Nat.not_lt_zero _),bg.out⟩
       obtain⟨j,rfl,hj,hall,hg⟩:=hrel;have dP:=ł hall;have HG:=ł hg;clear hall hg;by_cases hlt:j<p.length
       · have hlb:j<q.length:=by have:=Ie.out;omega
         obtain⟨g1,o1,k1,v1,_,hc1⟩:=(HP.out.later HG.out).at hlt;obtain⟨g2,o2,k2,v2,_,hc2⟩:=(HQ.out.later HG.out).at hlb;simp only[Value.slice.injEq,true_and]at v1 v2;obtain⟨rfl,rfl⟩:=v1;obtain⟨rfl,rfl⟩:=v2;have c0:=hc1 0 _ rfl;have c1:=hc1 1 _ rfl;have d0:=hc2 0 _ rfl;have d1:=hc2 1 _ rfl;have HS:=ł (λ(e:p[j]=q[j]) (i:Nat) (hi:i<j+1)=>show p[i]? = q[i]? from by
          rcases Nat.lt_or_ge i j with h|h
          · exact dP.out i h
          · obtain rfl:i=j:=by omega
            rw[List.getElem?_eq_getElem hlt,List.getElem?_eq_getElem hlb,e])
         have HI:=ł (λ(e:p[j]≠q[j]) (h:p=q)=>show False from e (by subst h;rfl));clear hc1 hc2;have hl1:g1<wr.heap.size:=World.block_lt_of_cell? wr _ c0;have hl2:g2<wr.heap.size:=World.block_lt_of_cell? wr _ d0;generalize p[j]=x at *;generalize q[j]=y at *;obtain⟨x0,x1⟩:=x;obtain⟨y0,y1⟩:=y;simp only[Nat.add_zero]at c0 d0;by_cases h0:x0=y0
         rotate_left
         · have HX:=ł (HI.out (by intro e;injection e;contradiction));go_wp2_with fail
           go_region
           go_wp2_with fail;go_ret;exact⟨false,rfl,⟨λh=>(by cases h),λh=>(HX.out h.2).elim⟩,HG.out.drew⟩
         by_cases h1:x1=y1
         rotate_left
         · have HX:=ł (HI.out (by intro e;injection e;contradiction));have hdn:¬ x1.toList=y1.toList:=λe=>h1 ((toList_inj _ _).1 e);go_wp2_with fail
           go_region
           go_wp2_with fail;go_ret;exact⟨false,rfl,⟨λh=>(by cases h),λh=>(HX.out h.2).elim⟩,HG.out.drew⟩
         subst h0;subst h1;have HX:=ł (HS.out rfl);go_wp2_with fail
         go_region
         go_wp2_with fail
         go_roundw
         case rel=>exact⟨j+1,by go_num,by omega,HX.out,HG.out.drew⟩
         case measure=>(simp[intOf] <;> omega)
       · have Eh:=ł (show p=q from List.ext_getElem? λi=>by
          rcases Nat.lt_or_ge i p.length with h|h
          · exact dP.out i (by omega)
          · rw[List.getElem?_eq_none h,List.getElem?_eq_none (by have:=Ie.out;omega)])
         clear dP;go_wp2_with fail;go_ret;exact⟨true,rfl,⟨λ_=>⟨Dy.out,Eh.out⟩,λ_=>rfl⟩,HG.out⟩
   · have e1:((a.length:Int) != (b.length:Int))=false:=by simp[hab]
     have e2:((p.length:Int) != (q.length:Int))=true:=by simp;omega
     go_enter Tryz.func38,Tryz.ntmps38
     go_wp2_with fail;go_ret;exact⟨false,rfl,⟨λh=>(by cases h),λh=>absurd (congrArg List.length h.2) hpq⟩,Mv.refl _ _⟩
 · have e1:((a.length:Int) != (b.length:Int))=true:=by simp;omega
   go_enter Tryz.func38,Tryz.ntmps38
   go_wp2_with fail;go_ret;exact⟨false,rfl,⟨λh=>(by cases h),λh=>absurd (congrArg List.length h.1) hab⟩,Mv.refl _ _⟩
attribute [local go_sem ↓] lu
def Rl (P:Prop) (v:Value):Prop:=∃ b:Bool,v = .bool b/\(b=true↔P)
theorem Tryz.Yz:(Tryz.prog.info? 128).map (λi=>(i.zero,i.size,i.bytes))=some (some (.agg #[.int .i64 0,.string ⟨#[]⟩]),2,24):=by kernel_rfl
theorem Tryz.YB:Elem Tryz.prog 99 128 2 24:=Elem.of Tryz.underlying99 Tryz.Yz rfl (by decide) (by decide)
abbrev JZ (w:World) (base:Nat) (v:Value) (l:List cO):Prop:=w.ownsRow base 128 2 v l.length (flat cO.cells l)
theorem YD (v:Value) (x:cO) (xs:List cO) (base g:Nat) (w:World) (hrow:JZ w base v xs) (hb:base<=w.heap.size) (hlen:xs.length<=900000) (hg:w.heap[g]? = some (.cells #[.int .i64 x.at',.string x.name] 128 (0,0))) :
 ∃ a' c' w2,(rG Tryz.prog 99 99 v (.slice (some ⟨g,0,none⟩) 1 1) w /\
  nV Tryz.prog 99 99 v (.slice (some ⟨g,0,none⟩) 1 1) w = .slice a' (xs.length+1) c'/\appW Tryz.prog 99 99 v (.slice (some ⟨g,0,none⟩) 1 1) w=w2) /\
  JZ w2 base (.slice a' (xs.length+1) c') (xs ++ [x])/\Mv (λb=>v.ownBlock=some b) w w2/\(∀ g,(Value.slice a' (xs.length+1) c').ownBlock=some g->v.ownBlock=some g\/w.heap.size<=g) :=
 oZ Tryz.YB (f:=cO.cells) (λ_=>rfl) v _ xs [x] base w hrow (ax.bN (f:=cO.cells) (l:=[x]) (λ_=>rfl) hg (by simp[flat,cO.cells]) (by simp)) Qn hb (by simp;omega)
theorem Po (cv rv:Value) (p:aI) (w:World) (h:ay w (.agg #[cv,rv]) p) (hl:p.refs.length<=200000) :
 Calls Tryz.prog 39 #[.agg #[cv,rv]] w λe w'=>∃ a c,e = .returned (.slice a p.refs.length c)/\ax 2 cO.cells w' (.slice a p.refs.length c) p.refs/\Grow w w':=by
 obtain⟨cs,rs⟩:=p;dsimp only at hl ⊢;obtain⟨ca,cc,ra,rc,hpe,h1,h2⟩:=h;dsimp only at hpe h1 h2;simp only[Value.agg.injEq,Array.mk.injEq,List.cons.injEq,and_true]at hpe;obtain⟨rfl,rfl⟩:=hpe;have HR:=ł h2;have Bw:=ł hl;have hb0:=heap_alloc_new w (.cells #[.slice ca cs.length cc,.slice ra rs.length rc] 45);obtain⟨b0,b1⟩:=aC hb0;have hlb:=lt_of_block hb0;have HG2:=ł (show Grow w (w.alloc (.cells #[.slice ca cs.length cc,.slice ra rs.length rc] 45))from(Mv.refl _ _).alloc _);clear h1 h2 hl hb0
 go_enter Tryz.func39,Tryz.ntmps39
 go_wp2_with fail;generalize w.alloc (.cells #[.slice ca cs.length cc,.slice ra rs.length rc] 45)=w2 at *;clear b0 b1 hlb
 go_loopw [3,9] (λcv t wr=>∃ j:Nat,t = .int .i64 j/\j<=rs.length/\JZ wr w2.heap.size cv (rs.take j)/\Grow w2 wr) (λ_ t _=>rs.length - (intOf t).toNat)
 case atStart=>exact⟨0,rfl,Nat.zero_le _,World.ownsRow_nil _ _ _ _,Mv.refl _ _⟩
 obtain⟨j,rfl,hj,hrow,hg⟩:=hrel;have gU:=ł hrow;have HG:=ł hg;obtain⟨na,nc,rV⟩:=gy hrow;have hnl:(rs.take j).length=j:=by simp;omega
 rw[hnl]at rV;subst rV;clear hrow hg;by_cases hlt:j<rs.length
 · obtain⟨b,off,cap',e,_,hcc⟩:=(HR.out.later (gtr HG2.out HG.out)).at hlt;simp only[Value.slice.injEq,true_and]at e;obtain⟨rfl,rfl⟩:=e;have c0:=hcc 0 _ rfl;have c1:=hcc 1 _ rfl;have ve:=ł (show rs.take (j+1)=rs.take j ++ [rs[j]]from List.take_succ_eq_append_getElem hlt);have hjb:j<200000:=by have:=Bw.out;omega
   clear hcc;generalize rs[j]=x at *;obtain⟨xa,xs⟩:=x;simp only[Nat.add_zero]at c0;have hbl:b<wr.heap.size:=World.block_lt_of_cell? wr _ c0;have hga:Grow wr ((wr.alloc (.cells #[.int .i64 xa,.string xs] 129)).alloc (.cells #[.int .i64 xa,.string xs] 128)):=((Mv.refl _ _).alloc _).alloc _;have hxb:=heap_alloc_new wr (.cells #[.int .i64 xa,.string xs] 129);obtain⟨x0,x1⟩:=aC hxb;have hlx:=lt_of_block hxb;have hyb:=heap_alloc_new (wr.alloc (.cells #[.int .i64 xa,.string xs] 129)) (.cells #[.int .i64 xa,.string xs] 128);rw[World.size_alloc]at hyb;obtain⟨a',c',w4,⟨hok,hv,hw⟩,hrow2,bK,-⟩:=YD _ ⟨xa,xs⟩ (rs.take j) w2.heap.size _ _ (bM gU.out hga (λ_ _ e=>e)) (by have:=HG.out.size;have:=hga.size;omega) (by omega) hyb;have HRW:=ł hrow2;have eQ:=ł ((gtr HG.out hga).trans bK (λx e => .inr (by have:=(gU.out.lt x e).1;omega)));simp only[hnl]at hok hv hw HRW;clear hga hxb hyb hrow2 bK;go_wp2_with fail;exact⟨⟨j+1,by simp,by omega,by rw[ve.out];exact HRW.out,eQ.out⟩,by simp[intOf] <;> omega⟩
 · obtain rfl:j=rs.length:=by omega
   have HRW:=ł (show ax 2 cO.cells wr (.slice na rs.length nc) rs from by have:=gU.out;rw[List.take_length]at this;exact iF (λ_=>rfl) this);go_wp2_with fail;go_ret;exact⟨_,_,rfl,HRW.out,gtr HG2.out HG.out⟩
theorem aI.iff (p q:aI):(p.code=q.code/\p.refs=q.refs)↔p=q:=by
 obtain⟨a,b⟩:=p;obtain⟨c,d⟩:=q;simp
theorem P7 (pv qv:Value) (p q:aI) (w:World) (hp:ay w pv p) (hq:ay w qv q) (hlp:p.refs.length<=200000) (hlq:q.refs.length<=200000) :
 Calls Tryz.prog 14 #[pv,qv] w (Su w (p=q)):=by
 have hp':=hp;have hq':=hq;obtain⟨pa,pc,pe,pf,rfl,-,-⟩:=hp;obtain⟨qa,qc,qe,qf,rfl,-,-⟩:=hq;have bY:=ł hp';have qX:=ł hq';have Ie:=ł hlp;have HLQ:=ł hlq;have aaH:=ł (aI.iff p q);obtain⟨HB0,HB1,-⟩:=a2 w (.cells #[.slice pa p.code.length pc,.slice pe p.refs.length pf] 45) (.cells #[.slice qa q.code.length qc,.slice qe q.refs.length qf] 45);have HG2:=ł (show Grow w ((w.alloc (.cells #[.slice pa p.code.length pc,.slice pe p.refs.length pf] 45)).alloc (.cells #[.slice qa q.code.length qc,.slice qe q.refs.length qf] 45))from((Mv.refl _ _).alloc _).alloc _);clear hp' hq' hlp hlq
 go_enter Tryz.func14,Tryz.ntmps14
 go_upto_region 1 with fail;generalize ((w.alloc (.cells #[.slice pa p.code.length pc,.slice pe p.refs.length pf] 45)).alloc (.cells #[.slice qa q.code.length qc,.slice qe q.refs.length qf] 45))=w2 at *;have HK:=ł (λ(y:World) (hy:Grow w2 y)=>And.intro (ai HB0.out hy) (ai HB1.out hy));refine wg 14 [some 5,some 6,some 7,some 8,some 9,some 10,some 11,some 12,some 13,some 4] [[],[0],[],[2],[],[4],[],[6],[1,3,5,7],[8]] [3,7] [.c (.pointer (some ⟨w.heap.size,0,none⟩)),.c (.slice pa (p).code.length pc),.c (.agg #[.slice pa (p).code.length pc,.slice pe (p).refs.length pf]),.p (λv y=>∃ a d,v = .slice a (p).refs.length d/\ax 2 cO.cells y (.slice a (p).refs.length d) (p).refs),.c (.pointer (some ⟨(w.heap.size+1),0,none⟩)),.c (.slice qa (q).code.length qc),.c (.agg #[.slice qa (q).code.length qc,.slice qe (q).refs.length qf]),.p (λv y=>∃ a d,v = .slice a (q).refs.length d/\ax 2 cO.cells y (.slice a (q).refs.length d) (q).refs),.p (λv y=>Rl (p=q) v),.p (λv y=>Rl (p=q) v)] ⟨⟨(λv x y hg h=>by obtain⟨a,d,hv,hb⟩:=h;exact⟨a,d,hv,hb.later hg⟩),by simp⟩,⟨(λv x y hg h=>by obtain⟨a,d,hv,hb⟩:=h;exact⟨a,d,hv,hb.later hg⟩),by simp⟩,⟨(λv x y hg h=>h),λ_=>(λz hz g v x y hb hm h=>h)⟩,⟨(λv x y hg h=>h),λ_=>(λz hz g v x y hb hm h=>h)⟩,trivial⟩ (cz rfl) ?steps ?done
 case steps =>
  refine⟨?s0,?s1,?s2,?s3,?s4,?s5,?s6,?s7,?s8,?s9,trivial⟩
  case s0|s4 =>
   refine oo (λvs x hP => ?_);simp only[zS];go_simp;exact gc
  case s1|s2 =>
   refine ok HK (λvs x hG HX hP => ?_);obtain⟨k0,k1⟩:=aC (HX.out.1);simp only[zS];go_simp;exact gc
  case s3 =>
   refine ok HK (λvs x hG HX hP => ?_);have HC:=ł (Po _ _ (p) x (ay.later bY.out (gtr HG2.out hG)) Ie.out);simp only[zS];go_simp;refine(HC.out).mono ?_;rintro e y ⟨a,d,rfl,hp,hg⟩;exact⟨_,rfl,aZ hg ⟨a,d,rfl,hp⟩⟩
  case s5|s6 =>
   refine ok HK (λvs x hG HX hP => ?_);obtain⟨k0,k1⟩:=aC (HX.out.2);simp only[zS];go_simp;exact gc
  case s7 =>
   refine ok HK (λvs x hG HX hP => ?_);have HC:=ł (Po _ _ (q) x (ay.later qX.out (gtr HG2.out hG)) HLQ.out);simp only[zS];go_simp;refine(HC.out).mono ?_;rintro e y ⟨a,d,rfl,hp,hg⟩;exact⟨_,rfl,aZ hg ⟨a,d,rfl,hp⟩⟩
  case s8 =>
   refine ok HK (λvs x hG HX hP => ?_);obtain⟨nL,rd3,h3,rr3⟩:=pq hP 3;obtain⟨jC,rd7,h7,rr7⟩:=pq hP 7;have hp1:=bY.out.later (gtr HG2.out hG);have hq1:=qX.out.later (gtr HG2.out hG);obtain⟨_,_,_,_,e1,u1,-⟩:=hp1;obtain⟨_,_,_,_,e2,u2,-⟩:=hq1;simp only[Value.agg.injEq,Array.mk.injEq,List.cons.injEq,and_true]at e1 e2;rw[← e1.1]at u1;rw[← e2.1]at u2;have HC:=ł (WJ _ _ _ _ p.code q.code p.refs q.refs x u1 rr3 u2 rr7);clear e1 e2 u1 u2;simp only[zS,h3,h7];go_simp;refine(HC.out).mono ?_;rintro e y ⟨b,rfl,hiff,hg⟩;exact⟨_,rfl,aZ hg ⟨b,rfl,hiff.trans aaH.out⟩⟩
  case s9 =>
   refine oo (λvs x hP => ?_);obtain⟨b8,h8,Sv⟩:=pq hP 8;simp only[zS,h8];go_simp;exact gk ⟨_,rfl,Sv⟩
 case done =>
 intro vs w3 hE;have hG:=hE.grow;obtain⟨b8,h8,Sv⟩:=hE.val 8;obtain⟨b9,h9,aaI⟩:=hE.val 9;simp only[zS,Nat.reduceAdd,h8,h9];have aQ:=ł (gtr HG2.out hG);clear hE hG;go_wp2_with fail;go_ret;exact⟨_,rfl,aaI,aQ.out⟩
def Ff (s:ByteArray):ae := .mk 2 0 s (.slice none 0 0) []
def BS (n:Int):ae := .mk 1 n ⟨#[]⟩ (.slice none 0 0) []
theorem Z6 (s:ByteArray) (w:World):Calls Tryz.prog 11 #[.string s] w λe w'=>e = .returned (Ff s).val/\Grow w w':=by
 go_enter Tryz.func11,Tryz.ntmps11
 go_wp2_with fail;obtain⟨⟨t0,t1⟩,t2,t3⟩:=aF (heap_alloc_new w (.cells #[.int .u8 2,.int .i64 0,.string s,.slice none 0 0] 26));exact bodyPost_ret (v := .agg #[.int .u8 2,.int .i64 0,.string s,.slice none 0 0]) (by simp[results,Tryz.results11,go_sem]) rfl ⟨rfl,(Mv.refl _ _).alloc _⟩
theorem P8 (n:Int) (w:World):Calls Tryz.prog 12 #[.int .i64 n] w λe w'=>e = .returned (BS n).val/\Grow w w':=by
 go_enter Tryz.func12,Tryz.ntmps12
 go_wp2_with fail;obtain⟨⟨t0,t1⟩,t2,t3⟩:=aF (heap_alloc_new w (.cells #[.int .u8 1,.int .i64 n,.string ⟨#[]⟩,.slice none 0 0] 26));exact bodyPost_ret (v := .agg #[.int .u8 1,.int .i64 n,.string ⟨#[]⟩,.slice none 0 0]) (by simp[results,Tryz.results12,go_sem]) rfl ⟨rfl,(Mv.refl _ _).alloc _⟩
theorem Ca (w:World) (k n:Int) (s:ByteArray) (hk:0<=k/\k<=255) (hn:In64 n) (hs:s.size<=9223372036854775807):aS w (.mk k n s (.slice none 0 0) []) := .mk hk hn hs (ax.nil _ _ _) (by simp)
theorem EO {w:World} {b:Nat} {cs:Array Value} {t:TypeId} {z:Nat × Nat} {k n:Int} {s:ByteArray} {l:List ae} {m:Nat} (hk:0<=k/\k<=255) (hn:In64 n) (hs:s.size<=9223372036854775807) (hb:w.heap[b]? = some (.cells cs t z)) (hm:l.length=m) (hc:cs.toList=flat ae.cells l) (hl:m<=1000000) (he:∀ x∈l,aS w x):aS w (.mk k n s (.slice (some ⟨b,0,none⟩) m m) l):=by
 subst hm;exact .mk hk hn hs (ax.bN EZ hb hc (by omega)) he
def El:List aA:=[⟨⟨#[120]⟩,1,0⟩,⟨⟨#[121]⟩,1,0⟩]
def jY:az:=⟨[⟨⟨#[120]⟩,1,0,0⟩,⟨⟨#[121]⟩,1,0,1⟩],2,0⟩
theorem QS:frameC El=jY/\jX El=0:=⟨by kernel_rfl,by kernel_rfl⟩
def FM:Tree := .mk 57 0 ⟨#[]⟩ [.mk 40 0 ⟨#[]⟩ [.mk 2 0 ⟨#[120]⟩ [],.mk 1 1 ⟨#[]⟩ []]]
def FN:Tree := .mk 57 0 ⟨#[]⟩ [.mk 43 0 ⟨#[]⟩ [.mk 2 0 ⟨#[120]⟩ [],.mk 2 0 ⟨#[121]⟩ []]]
theorem ZM:uR jY [] FM=0:=by kernel_rfl
theorem ZN:uR jY [] FN=0:=by kernel_rfl
theorem ZO:qM jY [] FM=⟨ky (eP jY (.mk 1 1 ⟨#[]⟩ [])) [⟨10,5,0,0,0⟩,⟨1,5,4,0,0⟩,⟨10,5,0,0,0⟩],[]⟩:=by kernel_rfl
theorem ZP:qM jY [] FN=⟨[⟨10,5,0,0,0⟩,⟨10,5,1,0,0⟩,⟨10,5,0,0,0⟩],[]⟩:=by kernel_rfl
def yI:Tree := .mk 1 1 ⟨#[]⟩ []
theorem FC:aM yI=true/\bO jY yI=true/\iJ yI<=10000/\(eP jY yI).length<=300000 :=
 ⟨by kernel_rfl,by kernel_rfl,Nat.le_trans (JO yI) (show bA yI<=10000 by decide),Nat.le_trans (uE jY yI) (show 10 * bA yI<=300000 by decide)⟩
theorem QT:yG jY:=by
 refine⟨by decide,by decide,by decide,by decide,λs k => ?_⟩;have h:∀ x∈jY.slots,0<=x.at'/\x.at'<=100000:=by decide
 unfold aj au;rcases hf:jY.slots.find? (je s k)with _|x
 · simp[noSlot]
 · exact h x (List.mem_of_find?_eq_some hf)
end Go.Proofs.YtnobahchcongnaaGreat
