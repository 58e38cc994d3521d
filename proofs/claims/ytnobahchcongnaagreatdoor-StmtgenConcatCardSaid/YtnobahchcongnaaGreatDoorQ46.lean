import Derived.Test.YtnobahchcongnaaGreatDoorQ45
import Derived.Laws.StructEq
set_option linter.unusedSimpArgs false
set_option linter.unusedVariables false
set_option maxRecDepth 100000
set_option maxHeartbeats 25600000
namespace Go.Proofs.YtnobahchcongnaaGreatDoor
open Go.RowKit Go.Instr
def lJ (f:az) (procs:List cB) (t:Tree):Int:=if dw t then fQ f procs t else 3
def oG (f:az) (procs:List cB) (t:Tree):aC:=if lJ f procs t=0 then aR f procs t else cO
def Ji (w:World) (p:aC) (n:Int) (e:Ending) (w':World):Prop:=∃ v,e = .returned (.tuple #[v,.int .i64 n])∧ay w' v p∧Grow w w'
theorem Zd {w:World} {X:Nat} {a b c d e:Value} {t:TypeId} (h:w.heap[X]? = some (.cells #[a,b,c,d,e] t (0,0))):w.cell? ⟨X,4,none⟩=some e:=by simp [World.cell?,h]
theorem Iy (w:World) (x:ae) (sv pv:Value) (f:az) (procs:List aj) (hx:aV w x) (hf:fF w sv f) (hp:lQ w pv procs) (hok:zH f) (hpo:oK procs) (hs:aW x.t≤80) :
 Calls Tryz.prog 7 #[x.val,.agg #[sv,.int .i64 f.cells,.int .i64 f.stacks],pv] w (Ji w (oG f (procs.map aj.d) x.t) (lJ f (procs.map aj.d) x.t)):=by
 obtain ⟨k,n,s,kv,l⟩:=x;obtain ⟨ka,kc,rfl,-,-⟩:=hx.form;obtain ⟨fa,fc,rfl,hfc,hfl⟩:=hf.row.form;obtain ⟨pa,pc,rfl,-,-⟩:=hp.row.form;have hgA:Grow w (((w.alloc (.cells #[.int .u8 k,.int .i64 n,.string s,.slice ka l.length kc] 24)).alloc (.cells #[.slice fa f.slots.length fc,.int .i64 f.cells,.int .i64 f.stacks] 27)).alloc (.cells #[.slice none 0 0,.slice none 0 0] 34)):=(((Mv.refl _ w).alloc _).alloc _).alloc _;have aG:=ł hgA;have HB0:=ł (show (((w.alloc (.cells #[.int .u8 k,.int .i64 n,.string s,.slice ka l.length kc] 24)).alloc (.cells #[.slice fa f.slots.length fc,.int .i64 f.cells,.int .i64 f.stacks] 27)).alloc (.cells #[.slice none 0 0,.slice none 0 0] 34)).heap[w.heap.size]? = _ from aT (aT (heap_alloc_new w _) _) _);have GV:=ł (show (((w.alloc (.cells #[.int .u8 k,.int .i64 n,.string s,.slice ka l.length kc] 24)).alloc (.cells #[.slice fa f.slots.length fc,.int .i64 f.cells,.int .i64 f.stacks] 27)).alloc (.cells #[.slice none 0 0,.slice none 0 0] 34)).heap[w.heap.size+1]? = some (.cells #[.slice fa f.slots.length fc,.int .i64 f.cells,.int .i64 f.stacks] 27 (0,0)) from aT (by have:=heap_alloc_new (w.alloc (.cells #[.int .u8 k,.int .i64 n,.string s,.slice ka l.length kc] 24)) (.cells #[.slice fa f.slots.length fc,.int .i64 f.cells,.int .i64 f.stacks] 27);rwa [World.size_alloc] at this) _);have nT:=ł (show (((w.alloc (.cells #[.int .u8 k,.int .i64 n,.string s,.slice ka l.length kc] 24)).alloc (.cells #[.slice fa f.slots.length fc,.int .i64 f.cells,.int .i64 f.stacks] 27)).alloc (.cells #[.slice none 0 0,.slice none 0 0] 34)).heap[w.heap.size+1+1]? = some (.cells #[.slice none 0 0,.slice none 0 0] 34 (0,0)) from by have:=heap_alloc_new ((w.alloc (.cells #[.int .u8 k,.int .i64 n,.string s,.slice ka l.length kc] 24)).alloc (.cells #[.slice fa f.slots.length fc,.int .i64 f.cells,.int .i64 f.stacks] 27)) (.cells #[.slice none 0 0,.slice none 0 0] 34);rwa [World.size_alloc,World.size_alloc] at this);have HIS:=ł (fun (z:World) (hz:Grow w z)=>Mq (.mk k n s (.slice ka l.length kc) l) z (hx.later hz));have Lt:=ł (fun (z:World) (hz:Grow w z)=>VN EE (.slice fa f.slots.length fc) (.slice pa procs.length pc) f procs (.mk k n s (.slice ka l.length kc) l) z (hf.later hz) (hp.later hz) (hx.later hz));have bF:=ł hf;have fK:=ł hp;have zM:=ł hx;have HS:=ł hs;clear hgA hx hf hp hs;simp only [ae.val] at HIS Lt ⊢;obtain ⟨⟨n0,n1⟩,n2,n3⟩:=aF HB0.out;have hl0:=lt_of_block HB0.out
 go_enter Tryz.func7,Tryz.ntmps7
 go_wp2_with fail;generalize (((w.alloc (.cells #[.int .u8 k,.int .i64 n,.string s,.slice ka l.length kc] 24)).alloc (.cells #[.slice fa f.slots.length fc,.int .i64 f.cells,.int .i64 f.stacks] 27)).alloc (.cells #[.slice none 0 0,.slice none 0 0] 34))=w3 at *;refine (HIS.out _ aG.out).mono ?_;clear n0 n1 n2 n3 hl0 HIS;rintro e w4 ⟨rfl,hg4⟩;have aN:=ł hg4;clear hg4;cases hib:dw (ae.t (.mk k n s (.slice ka l.length kc) l)) with
 | false =>
  have HE:=ł (show lJ f (procs.map aj.d) (ae.t (.mk k n s (.slice ka l.length kc) l))=3 from by simp [lJ,hib]);have HC:=ł (show oG f (procs.map aj.d) (ae.t (.mk k n s (.slice ka l.length kc) l))=cO from by simp [oG,HE.out]);have hr:=ai nT.out aN.out;obtain ⟨c0,c1⟩:=aB hr;have hlr:=lt_of_block hr;have zr:=aJ hr;obtain ⟨hs1,hs2⟩:=set2 hr (.slice none 0 0) (.slice none 0 0);have jJ:=ł hs1;have fV:=ł (show Grow w _ from (gtr aG.out aN.out).trans hs2 (fun b e => .inr (by omega)));clear hs1 hs2 hr hib;go_wp2_with fail;obtain ⟨t0,t1⟩:=aB jJ.out;exact bodyPost_ret (v := .tuple #[.agg #[.slice none 0 0,.slice none 0 0],.int .i64 3]) (by simp [results,Tryz.results7,go_sem,t0,t1]) rfl ⟨_,by rw [HE.out],by rw [HC.out];exact ay.none _,fV.out⟩
 | true =>
  have eU:=ł hib;have HE:=ł (show lJ f (procs.map aj.d) (ae.t (.mk k n s (.slice ka l.length kc) l))=fQ f (procs.map aj.d) (ae.t (.mk k n s (.slice ka l.length kc) l)) from by simp [lJ,hib]);clear hib;obtain ⟨⟨n0,n1⟩,n2,n3⟩:=aF (ai HB0.out aN.out);obtain ⟨f0,f1,f2⟩:=cK (ai GV.out aN.out);have hl0:=lt_of_block (ai HB0.out aN.out);have hl1:=lt_of_block (ai GV.out aN.out);go_wp2_with fail;refine (Lt.out _ (gtr aG.out aN.out)).mono ?_;clear n0 n1 n2 n3 f0 f1 f2 hl0 hl1 Lt;rintro e w5 ⟨rfl,hg5⟩;have aS:=ł (gtr aN.out hg5);clear hg5;have Lu:=ł (show fQ f (procs.map aj.d) (ae.t (.mk k n s (.slice ka l.length kc) l))=0→∀ (G:Nat) (z:World),gm z G (.slice fa f.slots.length fc) (.slice pa procs.length pc) f procs→Grow w z→Calls Tryz.prog 22 #[.pointer (some ⟨G,0,none⟩),ae.val (.mk k n s (.slice ka l.length kc) l)] z (bN z (aR f (procs.map aj.d) (ae.t (.mk k n s (.slice ka l.length kc) l)))) from
   fun hu G z hg hz=>VV EE G _ _ f procs hok hpo _ z hg (zM.out.later hz) eU.out hu HS.out)
  by_cases hu:fQ f (procs.map aj.d) (ae.t (.mk k n s (.slice ka l.length kc) l))=0
  · have nK:=ł (show oG f (procs.map aj.d) (ae.t (.mk k n s (.slice ka l.length kc) l))=aR f (procs.map aj.d) (ae.t (.mk k n s (.slice ka l.length kc) l)) from by rw [oG,HE.out,hu];rfl);have hE0:=HE.out.trans hu;have rC:=ł hE0;rw [hu];have hgg:Grow w5 (w5.alloc (.cells #[.slice fa f.slots.length fc,.int .i64 f.cells,.int .i64 f.stacks,.slice pa procs.length pc,.int .i64 0] 65)):=(Mv.refl _ _).alloc _;have bP:=ł (gtr aS.out hgg);have TI:=ł (heap_alloc_new w5 (.cells #[.slice fa f.slots.length fc,.int .i64 f.cells,.int .i64 f.stacks,.slice pa procs.length pc,.int .i64 0] 65));have HC:=ł (Lu.out hu w5.heap.size _ ⟨TI.out,bF.out.later (gtr aG.out bP.out),fK.out.later (gtr aG.out bP.out)⟩ (gtr aG.out bP.out));simp only [ae.val] at HC;clear hgg hu hE0;obtain ⟨⟨n0,n1⟩,n2,n3⟩:=aF (ai HB0.out aS.out);obtain ⟨f0,f1,f2⟩:=cK (ai GV.out aS.out);have hl0:=lt_of_block (ai HB0.out aS.out);have hl1:=lt_of_block (ai GV.out aS.out);go_wp2_with fail;refine HC.out.mono ?_;clear n0 n1 n2 n3 f0 f1 f2 hl0 hl1 HC Lu;rintro e w7 ⟨v,rfl,hpv,AV⟩;obtain ⟨ja,jc,jr,bW,rfl,hr1,hr2⟩:=hpv;generalize aR f (procs.map aj.d) (ae.t (.mk k n s (.slice ka l.length kc) l))=P at *;have tF:=ł (gtr bP.out AV);have hgn:=ai TI.out AV;have hr:=ai nT.out tF.out;have g4:=Zd hgn;have vZ:=lt_of_block hgn;obtain ⟨c0,c1⟩:=aB hr;have hlr:=lt_of_block hr;have zr:=aJ hr;obtain ⟨hs1,hs2⟩:=set2 hr (.slice ja P.code.length jc) (.slice jr P.refs.length bW);have jJ:=ł (aT hs1 (.cells #[.slice ja P.code.length jc,.slice jr P.refs.length bW] 34));have fV:=ł (show Grow w _ from ((gtr aG.out tF.out).trans hs2 (fun b e => .inr (by omega))).alloc (.cells #[.slice ja P.code.length jc,.slice jr P.refs.length bW] 34));have bu:=ł ((ay.box (show ay w7 (.agg #[.slice ja P.code.length jc,.slice jr P.refs.length bW]) P from ⟨_,_,_,_,rfl,hr1,hr2⟩) hr hs2).later ((Mv.refl _ _).alloc (.cells #[.slice ja P.code.length jc,.slice jr P.refs.length bW] 34)));clear hs1 hs2 hr hgn AV hr1 hr2;go_wp2_with fail;obtain ⟨t0,t1⟩:=aB jJ.out;exact bodyPost_ret (v := .tuple #[.agg #[.slice ja P.code.length jc,.slice jr P.refs.length bW],.int .i64 0]) (by simp [results,Tryz.results7,go_sem,t0,t1]) rfl ⟨_,by rw [rC.out],by rw [nK.out];exact bu.out,fV.out⟩
  · have nK:=ł (show oG f (procs.map aj.d) (ae.t (.mk k n s (.slice ka l.length kc) l))=cO from by rw [oG,HE.out,if_neg hu]);have hb:(fQ f (procs.map aj.d) (ae.t (.mk k n s (.slice ka l.length kc) l)) != 0)=true:=by simpa using hu
    generalize fQ f (procs.map aj.d) (ae.t (.mk k n s (.slice ka l.length kc) l))=E at *;have hr:=ai nT.out aS.out;obtain ⟨c0,c1⟩:=aB hr;have hlr:=lt_of_block hr;have zr:=aJ hr;obtain ⟨hs1,hs2⟩:=set2 hr (.slice none 0 0) (.slice none 0 0);have jJ:=ł hs1;have fV:=ł (show Grow w _ from (gtr aG.out aS.out).trans hs2 (fun b e => .inr (by omega)));clear hs1 hs2 hr hu Lu;go_wp2_with fail;obtain ⟨t0,t1⟩:=aB jJ.out;exact bodyPost_ret (v := .tuple #[.agg #[.slice none 0 0,.slice none 0 0],.int .i64 E]) (by simp [results,Tryz.results7,go_sem,t0,t1]) rfl ⟨_,by rw [HE.out],by rw [nK.out];exact ay.none _,fV.out⟩
theorem MX (v:Value) (ps:List aC) (w:World) (ht:qM w) (h:gG w v ps) (hck:∀ p∈ps,kZ p.code p.refs=(-1,0)) (hop:∀ p∈ps,∀ x∈p.code,0≤x.op∧x.op≤255) (hC:aP ps≤65536) (hR:bS ps≤200000) (hl:ps.length≤200000) :
 Calls Tryz.prog 8 #[v] w (Ji w (aK ps) 0):=by
 obtain ⟨pa,pc,rfl,-,-⟩:=h.form;have nT:=ł (heap_alloc_new w (.cells #[.slice none 0 0,.slice none 0 0] 34));have HG2:=ł (show Grow w (w.alloc (.cells #[.slice none 0 0,.slice none 0 0] 34)) from (Mv.refl _ _).alloc _);have pX:=ł h;have HT:=ł ht;have HJ:=ł (fun (z:World) (hz:Grow w z)=>uT _ _ z (h.later hz) (by omega) hR hl);have Kv:=ł hck;have xJ:=ł hop;have TJ:=ł hC;have Dw:=ł hl;clear h ht hck hop hC hR hl
 go_enter Tryz.func8,Tryz.ntmps8
 go_wp2_with fail;generalize w.alloc (.cells #[.slice none 0 0,.slice none 0 0] 34)=w2 at *
 go_loopw [4,11] (fun sz t wr=>∃ j:Nat,sz = .int .i64 (aP (ps.take j):Nat)∧t = .int .i64 j∧j≤ps.length∧Grow w2 wr) (fun _ t _=>ps.length - (intOf t).toNat)
 case atStart=>exact ⟨0,rfl,rfl,Nat.zero_le _,Mv.refl _ _⟩
 obtain ⟨j,rfl,rfl,hj,hg⟩:=hrel;have HG:=ł hg;clear hg;by_cases hlt:j<ps.length
 · obtain ⟨vs,hvl,TK,hva⟩:=pX.out.later (gtr HG2.out HG.out);have TL:j<vs.length:=by omega
   obtain ⟨b,off,cap',e,_,hcc⟩:=TK.at TL;simp only [Value.slice.injEq] at e;obtain ⟨rfl,-,rfl⟩:=e;have c0:=hcc 0 _ rfl;have c1:=hcc 1 _ rfl;have hp:=hva j TL hlt;obtain ⟨ca,cc,ra,rc,hpe,hp1,hp2⟩:=hp;simp only [Value.agg.injEq,Array.mk.injEq,List.cons.injEq,and_true] at hpe;have HT1:=ł (MB ps j hlt);have hbl:b<wr.heap.size:=World.block_lt_of_cell? wr _ c0;rw [hpe.1] at c0;rw [hpe.2] at c1;simp only [Nat.add_zero] at c0;have Lv:=ł (fun (z:World) (hz:Grow wr z)=>Vz _ _ ps[j].code ps[j].refs z (HT.out.later (gtr (gtr HG2.out HG.out) hz)) (hp1.later hz) (hp2.later hz) (xJ.out ps[j] (List.getElem_mem hlt)));have nS:=ł (Kv.out ps[j] (List.getElem_mem hlt));rw [nS.out] at Lv;clear nS hcc TK hva hp1 hp2 hpe;generalize ps[j]=p at *;have hyb:=heap_alloc_new wr (.cells #[.slice ca p.code.length cc,.slice ra p.refs.length rc] 34);have xP:=ł hyb;have hjb:j<200000:=by have:=Dw.out;omega
   clear hyb;go_wp2_with fail;refine (Lv.out _ ((Mv.refl _ wr).alloc (.cells #[.slice ca p.code.length cc,.slice ra p.refs.length rc] 34))).mono ?_;clear c0 c1 hbl Lv;rintro e w5 ⟨rfl,hg5⟩;have Lx:=ai xP.out hg5;obtain ⟨y0,y1⟩:=aB Lx;have mf:=lt_of_block Lx;have aS:=ł (gtr HG.out (gtr ((Mv.refl _ wr).alloc (.cells #[.slice ca p.code.length cc,.slice ra p.refs.length rc] 34)) hg5));have hTC:=TJ.out;obtain ⟨hT1,hT2⟩:=HT1.out;have i1:IntKind.i64.wrap ((aP (ps.take j):Int)+(p.code.length:Int))=(aP (ps.take j):Int)+(p.code.length:Int):=IntWalk.i64_in _ (by omega);clear hg5 Lx;go_wp2_with fail;exact ⟨⟨j+1,by rw [hT1];simp,by simp,by omega,aS.out⟩,by simp [intOf] <;> omega⟩
 · obtain rfl:j=ps.length:=by omega
   rw [List.take_length];have hTC:=TJ.out;have hgt:decide ((65536:Int)<(aP ps:Int))=false:=by simp;omega
   go_wp2_with fail;refine (HJ.out _ (gtr HG2.out HG.out)).mono ?_;clear hgt HJ;rintro e w5 ⟨v',rfl,hpo,hg5⟩;obtain ⟨ja,jc,jr,bW,rfl,hr1,hr2⟩:=hpo.at;generalize aK ps=P at *;have hr:=ai nT.out (gtr HG.out hg5);obtain ⟨c0,c1⟩:=aB hr;have hlr:=lt_of_block hr;have zr:=aJ hr;obtain ⟨hs1,hs2⟩:=set2 hr (.slice ja P.code.length jc) (.slice jr P.refs.length bW);have jJ:=ł hs1;have fV:=ł (show Grow w _ from (gtr HG2.out (gtr HG.out hg5)).trans hs2 (fun b e => .inr (by omega)));have bu:=ł (ay.box (show ay w5 (.agg #[.slice ja P.code.length jc,.slice jr P.refs.length bW]) P from ⟨_,_,_,_,rfl,hr1,hr2⟩) hr hs2);clear hs1 hs2 hr hg5 hr1 hr2 hpo;go_wp2_with fail;obtain ⟨t0,t1⟩:=aB jJ.out;exact bodyPost_ret (v := .tuple #[.agg #[.slice ja P.code.length jc,.slice jr P.refs.length bW],.int .i64 0]) (by simp [results,Tryz.results8,go_sem,t0,t1]) rfl ⟨_,rfl,bu.out,fV.out⟩
attribute [local go_sem ↓] mY
theorem toList_inj (a b:ByteArray):a.toList=b.toList↔a=b:=by
 have:=BN a b;constructor
 · intro e;rw [e] at this;simpa using this.symm
 · intro e;rw [e]
def Kg (w:World) (P:Prop) (e:Ending) (w':World):Prop:=∃ b:Bool,e = .returned (.bool b)∧(b=true↔P)∧Grow w w'
theorem Ve (av pv bv qv:Value) (a b:List Ins) (p q:List bD) (w:World) (ha:ax 5 Ins.cells w av a) (hp:ax 2 bD.cells w pv p) (hb:ax 5 Ins.cells w bv b) (hq:ax 2 bD.cells w qv q) :
 Calls Tryz.prog 24 #[av,pv,bv,qv] w (Kg w (a=b∧p=q)):=by
 obtain ⟨aa,ac,rfl,-,hal⟩:=ha.form;obtain ⟨pa,pc,rfl,-,hpl⟩:=hp.form;obtain ⟨ba,bc,rfl,-,hbl⟩:=hb.form;obtain ⟨qa,qc,rfl,-,pV⟩:=hq.form;have HA:=ł ha;have HP:=ł hp;have HB:=ł hb;have HQ:=ł hq;clear ha hp hb hq;by_cases hab:a.length=b.length
 · by_cases hpq:p.length=q.length
   · have e1:((a.length:Int) != (b.length:Int))=false:=by simp [hab]
     have e2:((p.length:Int) != (q.length:Int))=false:=by simp [hpq]
     have TM:=ł hab;have GX:=ł hpq;clear hab hpq
     go_enter Tryz.func24,Tryz.ntmps24
     go_wp2_with fail
     go_loopw [9] (fun t wr=>∃ j:Nat,t = .int .i64 j∧j≤a.length∧(∀ i,i<j→a[i]? = b[i]?)∧Grow w wr) (fun t _=>a.length - (intOf t).toNat)
     case atStart=>exact ⟨0,rfl,Nat.zero_le _,fun i hi=>absurd hi (Nat.not_lt_zero _),Mv.refl _ _⟩
     obtain ⟨j,rfl,hj,hall,hg⟩:=hrel;have bT:=ł hall;have HG:=ł hg;clear hall hg;by_cases hlt:j<a.length
     · have hlb:j<b.length:=by have:=TM.out;omega
       obtain ⟨g1,o1,k1,v1,_,hc1⟩:=(HA.out.later HG.out).at hlt;obtain ⟨g2,o2,k2,v2,_,hc2⟩:=(HB.out.later HG.out).at hlb;simp only [Value.slice.injEq,true_and] at v1 v2;obtain ⟨rfl,rfl⟩:=v1;obtain ⟨rfl,rfl⟩:=v2;have c0:=hc1 0 _ rfl;have c1:=hc1 1 _ rfl;have c2:=hc1 2 _ rfl;have c3:=hc1 3 _ rfl;have c4:=hc1 4 _ rfl;have d0:=hc2 0 _ rfl;have d1:=hc2 1 _ rfl;have d2:=hc2 2 _ rfl;have d3:=hc2 3 _ rfl;have d4:=hc2 4 _ rfl;have HS:=ł (fun (e:a[j]=b[j]) (i:Nat) (hi:i<j+1)=>show a[i]? = b[i]? from by
        rcases Nat.lt_or_ge i j with h | h
        · exact bT.out i h
        · obtain rfl:i=j:=by omega
          rw [List.getElem?_eq_getElem hlt,List.getElem?_eq_getElem hlb,e])
       have HI:=ł (fun (e:a[j]≠b[j]) (h:a=b)=>show False from e (by subst h;rfl));clear hc1 hc2;have hl1:g1<wr.heap.size:=World.block_lt_of_cell? wr _ c0;have hl2:g2<wr.heap.size:=World.block_lt_of_cell? wr _ d0;generalize a[j]=x at *;generalize b[j]=y at *;obtain ⟨x0,x1,x2,x3,x4⟩:=x;obtain ⟨y0,y1,y2,y3,y4⟩:=y;simp only [Nat.add_zero] at c0 d0;by_cases h0:x0=y0
       rotate_left
       · have HX:=ł (HI.out (by intro e;injection e;contradiction));go_wp2_with fail
         go_region
         go_wp2_with fail;go_ret;exact ⟨false,rfl,⟨fun h=>(by cases h),fun h=>(HX.out h.1).elim⟩,HG.out.drew⟩
       by_cases h1:x1=y1
       rotate_left
       · have HX:=ł (HI.out (by intro e;injection e;contradiction));go_wp2_with fail
         go_region
         go_wp2_with fail;go_ret;exact ⟨false,rfl,⟨fun h=>(by cases h),fun h=>(HX.out h.1).elim⟩,HG.out.drew⟩
       by_cases h2:x2=y2
       rotate_left
       · have HX:=ł (HI.out (by intro e;injection e;contradiction));go_wp2_with fail
         go_region
         go_wp2_with fail;go_ret;exact ⟨false,rfl,⟨fun h=>(by cases h),fun h=>(HX.out h.1).elim⟩,HG.out.drew⟩
       by_cases h3:x3=y3
       rotate_left
       · have HX:=ł (HI.out (by intro e;injection e;contradiction));go_wp2_with fail
         go_region
         go_wp2_with fail;go_ret;exact ⟨false,rfl,⟨fun h=>(by cases h),fun h=>(HX.out h.1).elim⟩,HG.out.drew⟩
       by_cases h4:x4=y4
       rotate_left
       · have HX:=ł (HI.out (by intro e;injection e;contradiction));go_wp2_with fail
         go_region
         go_wp2_with fail;go_ret;exact ⟨false,rfl,⟨fun h=>(by cases h),fun h=>(HX.out h.1).elim⟩,HG.out.drew⟩
       subst h0;subst h1;subst h2;subst h3;subst h4;have HX:=ł (HS.out rfl);go_wp2_with fail
       go_region
       go_wp2_with fail
       go_roundw
       case rel=>exact ⟨j+1,by go_num,by omega,HX.out,HG.out.drew⟩
       case measure=>(simp [intOf] <;> omega)
     · have CL:=ł (show a=b from List.ext_getElem? fun i=>by
        rcases Nat.lt_or_ge i a.length with h | h
        · exact bT.out i (by omega)
        · rw [List.getElem?_eq_none h,List.getElem?_eq_none (by have:=TM.out;omega)])
       have bJ:=ł HG.out;clear bT;go_wp2_with fail;clear HG
       go_loopw [10] (fun t wr=>∃ j:Nat,t = .int .i64 j∧j≤p.length∧(∀ i,i<j→p[i]? = q[i]?)∧Grow w wr) (fun t _=>p.length - (intOf t).toNat)
       case atStart=>exact ⟨0,rfl,Nat.zero_le _,fun i hi=>absurd hi (Nat.not_lt_zero _),bJ.out⟩
       obtain ⟨j,rfl,hj,hall,hg⟩:=hrel;have bT:=ł hall;have HG:=ł hg;clear hall hg;by_cases hlt:j<p.length
       · have hlb:j<q.length:=by have:=GX.out;omega
         obtain ⟨g1,o1,k1,v1,_,hc1⟩:=(HP.out.later HG.out).at hlt;obtain ⟨g2,o2,k2,v2,_,hc2⟩:=(HQ.out.later HG.out).at hlb;simp only [Value.slice.injEq,true_and] at v1 v2;obtain ⟨rfl,rfl⟩:=v1;obtain ⟨rfl,rfl⟩:=v2;have c0:=hc1 0 _ rfl;have c1:=hc1 1 _ rfl;have d0:=hc2 0 _ rfl;have d1:=hc2 1 _ rfl;have HS:=ł (fun (e:p[j]=q[j]) (i:Nat) (hi:i<j+1)=>show p[i]? = q[i]? from by
          rcases Nat.lt_or_ge i j with h | h
          · exact bT.out i h
          · obtain rfl:i=j:=by omega
            rw [List.getElem?_eq_getElem hlt,List.getElem?_eq_getElem hlb,e])
         have HI:=ł (fun (e:p[j]≠q[j]) (h:p=q)=>show False from e (by subst h;rfl));clear hc1 hc2;have hl1:g1<wr.heap.size:=World.block_lt_of_cell? wr _ c0;have hl2:g2<wr.heap.size:=World.block_lt_of_cell? wr _ d0;generalize p[j]=x at *;generalize q[j]=y at *;obtain ⟨x0,x1⟩:=x;obtain ⟨y0,y1⟩:=y;simp only [Nat.add_zero] at c0 d0;by_cases h0:x0=y0
         rotate_left
         · have HX:=ł (HI.out (by intro e;injection e;contradiction));go_wp2_with fail
           go_region
           go_wp2_with fail;go_ret;exact ⟨false,rfl,⟨fun h=>(by cases h),fun h=>(HX.out h.2).elim⟩,HG.out.drew⟩
         by_cases h1:x1=y1
         rotate_left
         · have HX:=ł (HI.out (by intro e;injection e;contradiction));have hdn:¬ x1.toList=y1.toList:=fun e=>h1 ((toList_inj _ _).1 e);go_wp2_with fail
           go_region
           go_wp2_with fail;go_ret;exact ⟨false,rfl,⟨fun h=>(by cases h),fun h=>(HX.out h.2).elim⟩,HG.out.drew⟩
         subst h0;subst h1;have HX:=ł (HS.out rfl);go_wp2_with fail
         go_region
         go_wp2_with fail
         go_roundw
         case rel=>exact ⟨j+1,by go_num,by omega,HX.out,HG.out.drew⟩
         case measure=>(simp [intOf] <;> omega)
       · have GY:=ł (show p=q from List.ext_getElem? fun i=>by
          rcases Nat.lt_or_ge i p.length with h | h
          · exact bT.out i (by omega)
          · rw [List.getElem?_eq_none h,List.getElem?_eq_none (by have:=GX.out;omega)])
         clear bT;go_wp2_with fail;go_ret;exact ⟨true,rfl,⟨fun _=>⟨CL.out,GY.out⟩,fun _=>rfl⟩,HG.out⟩
   · have e1:((a.length:Int) != (b.length:Int))=false:=by simp [hab]
     have e2:((p.length:Int) != (q.length:Int))=true:=by simp;omega
     go_enter Tryz.func24,Tryz.ntmps24
     go_wp2_with fail;go_ret;exact ⟨false,rfl,⟨fun h=>(by cases h),fun h=>absurd (congrArg List.length h.2) hpq⟩,Mv.refl _ _⟩
 · have e1:((a.length:Int) != (b.length:Int))=true:=by simp;omega
   go_enter Tryz.func24,Tryz.ntmps24
   go_wp2_with fail;go_ret;exact ⟨false,rfl,⟨fun h=>(by cases h),fun h=>absurd (congrArg List.length h.1) hab⟩,Mv.refl _ _⟩
attribute [local go_sem ↓] mY
def P8 (P:Prop) (v:Value):Prop:=∃ b:Bool,v = .bool b∧(b=true↔P)
theorem Tryz.WZ:(Tryz.prog.info? 111).map (fun i=>(i.zero,i.size,i.bytes))=some (some (.agg #[.int .i64 0,.string ⟨#[]⟩]),2,24):=by kernel_rfl
theorem Tryz.W9:Elem Tryz.prog 70 111 2 24:=Elem.of Tryz.underlying70 Tryz.WZ rfl (by decide) (by decide)
abbrev IX (w:World) (base:Nat) (v:Value) (l:List bD):Prop:=w.ownsRow base 111 2 v l.length (flat bD.cells l)
theorem Xa (v:Value) (x:bD) (xs:List bD) (base g:Nat) (w:World) (hrow:IX w base v xs) (hb:base≤w.heap.size) (hlen:xs.length≤900000) (hg:w.heap[g]? = some (.cells #[.int .i64 x.at',.string x.name] 111 (0,0))) :
 ∃ a' c' w2,(qL Tryz.prog 70 70 v (.slice (some ⟨g,0,none⟩) 1 1) w ∧
  nk Tryz.prog 70 70 v (.slice (some ⟨g,0,none⟩) 1 1) w = .slice a' (xs.length+1) c'∧appW Tryz.prog 70 70 v (.slice (some ⟨g,0,none⟩) 1 1) w=w2) ∧
  IX w2 base (.slice a' (xs.length+1) c') (xs ++ [x])∧Mv (fun b=>v.ownBlock=some b) w w2∧(∀ g,(Value.slice a' (xs.length+1) c').ownBlock=some g→v.ownBlock=some g∨w.heap.size≤g) :=
 oW Tryz.W9 (f:=bD.cells) (fun _=>rfl) v _ xs [x] base w hrow (ax.bH (f:=bD.cells) (l:=[x]) (fun _=>rfl) hg (by simp [flat,bD.cells]) (by simp)) OQ hb (by simp;omega)
theorem NL (cv rv:Value) (p:aC) (w:World) (h:ay w (.agg #[cv,rv]) p) (hl:p.refs.length≤200000) :
 Calls Tryz.prog 25 #[.agg #[cv,rv]] w fun e w'=>∃ a c,e = .returned (.slice a p.refs.length c)∧ax 2 bD.cells w' (.slice a p.refs.length c) p.refs∧Grow w w':=by
 obtain ⟨cs,rs⟩:=p;dsimp only at hl ⊢;obtain ⟨ca,cc,ra,rc,hpe,h1,h2⟩:=h;dsimp only at hpe h1 h2;simp only [Value.agg.injEq,Array.mk.injEq,List.cons.injEq,and_true] at hpe;obtain ⟨rfl,rfl⟩:=hpe;have HR:=ł h2;have Dw:=ł hl;have hb0:=heap_alloc_new w (.cells #[.slice ca cs.length cc,.slice ra rs.length rc] 34);obtain ⟨b0,b1⟩:=aB hb0;have hlb:=lt_of_block hb0;have HG2:=ł (show Grow w (w.alloc (.cells #[.slice ca cs.length cc,.slice ra rs.length rc] 34)) from (Mv.refl _ _).alloc _);clear h1 h2 hl hb0
 go_enter Tryz.func25,Tryz.ntmps25
 go_wp2_with fail;generalize w.alloc (.cells #[.slice ca cs.length cc,.slice ra rs.length rc] 34)=w2 at *;clear b0 b1 hlb
 go_loopw [3,9] (fun cv t wr=>∃ j:Nat,t = .int .i64 j∧j≤rs.length∧IX wr w2.heap.size cv (rs.take j)∧Grow w2 wr) (fun _ t _=>rs.length - (intOf t).toNat)
 case atStart=>exact ⟨0,rfl,Nat.zero_le _,World.ownsRow_nil _ _ _ _,Mv.refl _ _⟩
 obtain ⟨j,rfl,hj,hrow,hg⟩:=hrel;have iZ:=ł hrow;have HG:=ł hg;obtain ⟨na,nc,rA⟩:=gz hrow;have hnl:(rs.take j).length=j:=by simp;omega
 rw [hnl] at rA;subst rA;clear hrow hg;by_cases hlt:j<rs.length
 · obtain ⟨b,off,cap',e,_,hcc⟩:=(HR.out.later (gtr HG2.out HG.out)).at hlt;simp only [Value.slice.injEq,true_and] at e;obtain ⟨rfl,rfl⟩:=e;have c0:=hcc 0 _ rfl;have c1:=hcc 1 _ rfl;have uH:=ł (show rs.take (j+1)=rs.take j ++ [rs[j]] from List.take_succ_eq_append_getElem hlt);have hjb:j<200000:=by have:=Dw.out;omega
   clear hcc;generalize rs[j]=x at *;obtain ⟨xa,xs⟩:=x;simp only [Nat.add_zero] at c0;have hbl:b<wr.heap.size:=World.block_lt_of_cell? wr _ c0;have hga:Grow wr ((wr.alloc (.cells #[.int .i64 xa,.string xs] 78)).alloc (.cells #[.int .i64 xa,.string xs] 111)):=((Mv.refl _ _).alloc _).alloc _;have hxb:=heap_alloc_new wr (.cells #[.int .i64 xa,.string xs] 78);obtain ⟨x0,x1⟩:=aB hxb;have hlx:=lt_of_block hxb;have hyb:=heap_alloc_new (wr.alloc (.cells #[.int .i64 xa,.string xs] 78)) (.cells #[.int .i64 xa,.string xs] 111);rw [World.size_alloc] at hyb;obtain ⟨a',c',w4,⟨hok,hv,hw⟩,hrow2,bE,-⟩:=Xa _ ⟨xa,xs⟩ (rs.take j) w2.heap.size _ _ (bQ iZ.out hga (fun _ _ e=>e)) (by have:=HG.out.size;have:=hga.size;omega) (by omega) hyb;have HRW:=ł hrow2;have fV:=ł ((gtr HG.out hga).trans bE (fun x e => .inr (by have:=(iZ.out.lt x e).1;omega)));simp only [hnl] at hok hv hw HRW;clear hga hxb hyb hrow2 bE;go_wp2_with fail;exact ⟨⟨j+1,by simp,by omega,by rw [uH.out];exact HRW.out,fV.out⟩,by simp [intOf] <;> omega⟩
 · obtain rfl:j=rs.length:=by omega
   have HRW:=ł (show ax 2 bD.cells wr (.slice na rs.length nc) rs from by have:=iZ.out;rw [List.take_length] at this;exact gP (fun _=>rfl) this);go_wp2_with fail;go_ret;exact ⟨_,_,rfl,HRW.out,gtr HG2.out HG.out⟩
theorem aC.iff (p q:aC):(p.code=q.code∧p.refs=q.refs)↔p=q:=by
 obtain ⟨a,b⟩:=p;obtain ⟨c,d⟩:=q;simp
theorem EF (pv qv:Value) (p q:aC) (w:World) (hp:ay w pv p) (hq:ay w qv q) (hlp:p.refs.length≤200000) (hlq:q.refs.length≤200000) :
 Calls Tryz.prog 9 #[pv,qv] w (Kg w (p=q)):=by
 have hp':=hp;have hq':=hq;obtain ⟨pa,pc,pe,pf,rfl,-,-⟩:=hp;obtain ⟨qa,qc,qe,qf,rfl,-,-⟩:=hq;have fK:=ł hp';have qg:=ł hq';have GX:=ł hlp;have HLQ:=ł hlq;have _t:=ł (aC.iff p q);obtain ⟨HB0,HB1,-⟩:=a2 w (.cells #[.slice pa p.code.length pc,.slice pe p.refs.length pf] 34) (.cells #[.slice qa q.code.length qc,.slice qe q.refs.length qf] 34);have HG2:=ł (show Grow w ((w.alloc (.cells #[.slice pa p.code.length pc,.slice pe p.refs.length pf] 34)).alloc (.cells #[.slice qa q.code.length qc,.slice qe q.refs.length qf] 34)) from ((Mv.refl _ _).alloc _).alloc _);clear hp' hq' hlp hlq
 go_enter Tryz.func9,Tryz.ntmps9
 go_upto_region 1 with fail;generalize ((w.alloc (.cells #[.slice pa p.code.length pc,.slice pe p.refs.length pf] 34)).alloc (.cells #[.slice qa q.code.length qc,.slice qe q.refs.length qf] 34))=w2 at *;have HK:=ł (fun (y:World) (hy:Grow w2 y)=>And.intro (ai HB0.out hy) (ai HB1.out hy));refine wg 14 [some 5,some 6,some 7,some 8,some 9,some 10,some 11,some 12,some 13,some 4] [[],[0],[],[2],[],[4],[],[6],[1,3,5,7],[8]] [3,7] [.c (.pointer (some ⟨w.heap.size,0,none⟩)),.c (.slice pa (p).code.length pc),.c (.agg #[.slice pa (p).code.length pc,.slice pe (p).refs.length pf]),.p (fun v y=>∃ a d,v = .slice a (p).refs.length d∧ax 2 bD.cells y (.slice a (p).refs.length d) (p).refs),.c (.pointer (some ⟨(w.heap.size+1),0,none⟩)),.c (.slice qa (q).code.length qc),.c (.agg #[.slice qa (q).code.length qc,.slice qe (q).refs.length qf]),.p (fun v y=>∃ a d,v = .slice a (q).refs.length d∧ax 2 bD.cells y (.slice a (q).refs.length d) (q).refs),.p (fun v y=>P8 (p=q) v),.p (fun v y=>P8 (p=q) v)] ⟨⟨(fun v x y hg h=>by obtain ⟨a,d,hv,hb⟩:=h;exact ⟨a,d,hv,hb.later hg⟩),by simp⟩,⟨(fun v x y hg h=>by obtain ⟨a,d,hv,hb⟩:=h;exact ⟨a,d,hv,hb.later hg⟩),by simp⟩,⟨(fun v x y hg h=>h),fun _=>(fun z hz g v x y hb hm h=>h)⟩,⟨(fun v x y hg h=>h),fun _=>(fun z hz g v x y hb hm h=>h)⟩,trivial⟩ (dJ rfl) ?steps ?done
 case steps =>
  refine ⟨?s0,?s1,?s2,?s3,?s4,?s5,?s6,?s7,?s8,?s9,trivial⟩
  case s0 | s4 =>
   refine oo (fun vs x hP => ?_);simp only [zS];go_simp;exact gc
  case s1 | s2 =>
   refine ok HK (fun vs x hG HX hP => ?_);obtain ⟨k0,k1⟩:=aB (HX.out.1);simp only [zS];go_simp;exact gc
  case s3 =>
   refine ok HK (fun vs x hG HX hP => ?_);have HC:=ł (NL _ _ (p) x (ay.later fK.out (gtr HG2.out hG)) GX.out);simp only [zS];go_simp;refine (HC.out).mono ?_;rintro e y ⟨a,d,rfl,hp,hg⟩;exact ⟨_,rfl,aY hg ⟨a,d,rfl,hp⟩⟩
  case s5 | s6 =>
   refine ok HK (fun vs x hG HX hP => ?_);obtain ⟨k0,k1⟩:=aB (HX.out.2);simp only [zS];go_simp;exact gc
  case s7 =>
   refine ok HK (fun vs x hG HX hP => ?_);have HC:=ł (NL _ _ (q) x (ay.later qg.out (gtr HG2.out hG)) HLQ.out);simp only [zS];go_simp;refine (HC.out).mono ?_;rintro e y ⟨a,d,rfl,hp,hg⟩;exact ⟨_,rfl,aY hg ⟨a,d,rfl,hp⟩⟩
  case s8 =>
   refine ok HK (fun vs x hG HX hP => ?_);obtain ⟨mQ,rd3,h3,rr3⟩:=pq hP 3;obtain ⟨jh,rd7,h7,rr7⟩:=pq hP 7;have hp1:=fK.out.later (gtr HG2.out hG);have hq1:=qg.out.later (gtr HG2.out hG);obtain ⟨_,_,_,_,e1,u1,-⟩:=hp1;obtain ⟨_,_,_,_,e2,u2,-⟩:=hq1;simp only [Value.agg.injEq,Array.mk.injEq,List.cons.injEq,and_true] at e1 e2;rw [← e1.1] at u1;rw [← e2.1] at u2;have HC:=ł (Ve _ _ _ _ p.code q.code p.refs q.refs x u1 rr3 u2 rr7);clear e1 e2 u1 u2;simp only [zS,h3,h7];go_simp;refine (HC.out).mono ?_;rintro e y ⟨b,rfl,hiff,hg⟩;exact ⟨_,rfl,aY hg ⟨b,rfl,hiff.trans _t.out⟩⟩
  case s9 =>
   refine oo (fun vs x hP => ?_);obtain ⟨b8,h8,QY⟩:=pq hP 8;simp only [zS,h8];go_simp;exact gk ⟨_,rfl,QY⟩
 case done =>
 intro vs w3 hE;have hG:=hE.grow;obtain ⟨b8,h8,QY⟩:=hE.val 8;obtain ⟨b9,h9,_u⟩:=hE.val 9;simp only [zS,Nat.reduceAdd,h8,h9];have aM:=ł (gtr HG2.out hG);clear hE hG;go_wp2_with fail;go_ret;exact ⟨_,rfl,_u,aM.out⟩
def EG (s:ByteArray):ae := .mk 2 0 s (.slice none 0 0) []
def Bn (n:Int):ae := .mk 1 n ⟨#[]⟩ (.slice none 0 0) []
theorem YS (s:ByteArray) (w:World):Calls Tryz.prog 15 #[.string s] w fun e w'=>e = .returned (EG s).val∧Grow w w':=by
 go_enter Tryz.func15,Tryz.ntmps15
 go_wp2_with fail;obtain ⟨⟨t0,t1⟩,t2,t3⟩:=aF (heap_alloc_new w (.cells #[.int .u8 2,.int .i64 0,.string s,.slice none 0 0] 24));exact bodyPost_ret (v := .agg #[.int .u8 2,.int .i64 0,.string s,.slice none 0 0]) (by simp [results,Tryz.results15,go_sem]) rfl ⟨rfl,(Mv.refl _ _).alloc _⟩
theorem Ow (n:Int) (w:World):Calls Tryz.prog 16 #[.int .i64 n] w fun e w'=>e = .returned (Bn n).val∧Grow w w':=by
 go_enter Tryz.func16,Tryz.ntmps16
 go_wp2_with fail;obtain ⟨⟨t0,t1⟩,t2,t3⟩:=aF (heap_alloc_new w (.cells #[.int .u8 1,.int .i64 n,.string ⟨#[]⟩,.slice none 0 0] 24));exact bodyPost_ret (v := .agg #[.int .u8 1,.int .i64 n,.string ⟨#[]⟩,.slice none 0 0]) (by simp [results,Tryz.results16,go_sem]) rfl ⟨rfl,(Mv.refl _ _).alloc _⟩
theorem Br (w:World) (k n:Int) (s:ByteArray) (hk:0≤k∧k≤255) (hn:In64 n) (hs:s.size≤9223372036854775807):aV w (.mk k n s (.slice none 0 0) []) := .mk hk hn hs (ax.nil _ _ _) (by simp)
theorem Et {w:World} {b:Nat} {cs:Array Value} {t:TypeId} {z:Nat × Nat} {k n:Int} {s:ByteArray} {l:List ae} {m:Nat} (hk:0≤k∧k≤255) (hn:In64 n) (hs:s.size≤9223372036854775807) (hb:w.heap[b]? = some (.cells cs t z)) (hm:l.length=m) (hc:cs.toList=flat ae.cells l) (hl:m≤1000000) (he:∀ x∈l,aV w x):aV w (.mk k n s (.slice (some ⟨b,0,none⟩) m m) l):=by
 subst hm;exact .mk hk hn hs (ax.bH EC hb hc (by omega)) he
def Dz:List bq:=[⟨⟨#[120]⟩,1,0⟩,⟨⟨#[121]⟩,1,0⟩]
def jK:az:=⟨[⟨⟨#[120]⟩,1,0,0⟩,⟨⟨#[121]⟩,1,0,1⟩],2,0⟩
theorem Pf:frameC Dz=jK∧iE Dz=0:=⟨by kernel_rfl,by kernel_rfl⟩
def Fj:Tree := .mk 57 0 ⟨#[]⟩ [.mk 40 0 ⟨#[]⟩ [.mk 2 0 ⟨#[120]⟩ [],.mk 1 1 ⟨#[]⟩ []]]
def Fp:Tree := .mk 57 0 ⟨#[]⟩ [.mk 43 0 ⟨#[]⟩ [.mk 2 0 ⟨#[120]⟩ [],.mk 2 0 ⟨#[121]⟩ []]]
theorem Yy:lJ jK [] Fj=0:=by kernel_rfl
theorem Yz:lJ jK [] Fp=0:=by kernel_rfl
theorem YB:oG jK [] Fj=⟨jP (dC jK (.mk 1 1 ⟨#[]⟩ [])) [⟨10,5,0,0,0⟩,⟨1,5,4,0,0⟩,⟨10,5,0,0,0⟩],[]⟩:=by kernel_rfl
theorem YD:oG jK [] Fp=⟨[⟨10,5,0,0,0⟩,⟨10,5,1,0,0⟩,⟨10,5,0,0,0⟩],[]⟩:=by kernel_rfl
def xU:Tree := .mk 1 1 ⟨#[]⟩ []
theorem Fa:aI xU=true∧bM jK xU=true∧gV xU≤10000∧(dC jK xU).length≤300000 :=
 ⟨by kernel_rfl,by kernel_rfl,Nat.le_trans (IL xU) (show aW xU≤10000 by decide),Nat.le_trans (oU jK xU) (show 10 * aW xU≤300000 by decide)⟩
theorem Pg:zH jK:=by
 refine ⟨by decide,by decide,by decide,by decide,fun s k => ?_⟩;have h:∀ x∈jK.slots,0≤x.at'∧x.at'≤100000:=by decide
 unfold ak au;rcases hf:jK.slots.find? (jF s k) with _ | x
 · simp [noSlot]
 · exact h x (List.mem_of_find?_eq_some hf)
end Go.Proofs.YtnobahchcongnaaGreatDoor
