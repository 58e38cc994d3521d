import Derived.Test.YtnobahchcongnaaGreatDoorR47
import Derived.Test.YtnobahchcongnaaGreatDoorTie
import Derived.LaidMore
import Derived.JoinedTies
import Derived.ChangeSame
import Derived.JoinedOf
import Derived.Stop.Joined
set_option linter.unusedSimpArgs false
set_option linter.unusedVariables false
set_option maxRecDepth 100000
set_option maxHeartbeats 25600000
namespace Go.Proofs.YtnobahchcongnaaGreatDoor
section
open Go.RowKit Go.Instr
structure abh (f:ax) (procs:List bQ) (t:Tree) (P:aB):Prop where
 op:∀ x∈P.code,0<=x.op/\x.op<=255
 ck:kG P.code P.refs=(-1,0)
 c:P.code.length<=65536
 r:P.refs.length<=65536
 WJ:∀ x∈(bL P).code,0<=x.op/\x.op<=255
 ck2:kG (bL P).code (bL P).refs=(-1,0)
 twice:bL (bL P)=P
 sim:iR t=true->nI f procs (bY t)=0/\aQ f procs (bY t)=bL P/\aI (bY t)<=80
 blk:bF t=true
def Sl:Prop:=∀ (f:ax) (procs:List bQ) (t:Tree),eP f->uS procs->aI t<=80->nI f procs t=0->abh f procs t (aQ f procs t)
theorem ay.rows {w:World} {a b:Value} {p:aB} (h:ay w (.agg #[a,b]) p):az 5 Ins.cells w a p.code/\az 2 aV.cells w b p.refs:=by
 obtain⟨ca,cc,ra,rc,e,h1,h2⟩:=h;simp only[Value.agg.injEq,Array.mk.injEq,List.cons.injEq,and_true]at e;rw[e.1,e.2];exact⟨h1,h2⟩
theorem XF (Ur:Sl) (w:World) (x:ae) (sv pv:Value) (f:ax) (procs:List ak) (ht:qH w) (hx:aR w x) (hf:fE w sv f) (h64:∀ s∈f.slots,In64 s.at') (hp:mg w pv procs) :
 Calls Tryz.prog 4 #[x.val,.agg #[sv,.int .i64 f.cells,.int .i64 f.stacks],pv] w λe w'=>e = .returned (.bool true)/\Grow w w':=by
 obtain⟨k,n,s,kv,l⟩:=x;obtain⟨ka,kc,rfl,hkc,hkl⟩:=hx.form;obtain⟨fa,fc,rfl,hfc,hfl⟩:=hf.row.form;obtain⟨pa,pc,rfl,-,hpl⟩:=hp.row.form;obtain⟨HB0,HB1,HG2⟩:=a2 w (.cells #[.int .u8 k,.int .i64 n,.string s,.slice ka l.length kc] 24) (.cells #[.slice fa f.slots.length fc,.int .i64 f.cells,.int .i64 f.stacks] 27);have WK:=ł (λ(z:World) (hz:Grow w z)=>Y3 z (ht.later hz));have O8:=ł (λ(z:World) (hz:Grow w z)=>aaH z (.mk k n s (.slice ka l.length kc) l) _ _ f procs (hx.later hz) (hf.later hz) (hp.later hz));have zK:=ł ht;have FM:=ł hx;have dV:=ł hf;have fZ:=ł hp;have H64:=ł h64;clear ht hx hf hp h64;simp only[ae.val]at O8 ⊢
 go_enter Tryz.func4,Tryz.ntmps4
 go_wp2_with fail;generalize ((w.alloc (.cells #[.int .u8 k,.int .i64 n,.string s,.slice ka l.length kc] 24)).alloc (.cells #[.slice fa f.slots.length fc,.int .i64 f.cells,.int .i64 f.stacks] 27))=w2 at *;refine(WK.out _ HG2.out).mono ?_;rintro e w3 ⟨rfl,hg3⟩;have aH:=ł (gtr HG2.out hg3);obtain⟨⟨n0,n1⟩,n2,n3⟩:=aC (ai HB0.out hg3);obtain⟨f0,f1,f2⟩:=cK (ai HB1.out hg3);have hl0:=lt_of_block (ai HB0.out hg3);have hl1:=lt_of_block (ai HB1.out hg3);have HB0:=ł (ai HB0.out hg3);have HB1:=ł (ai HB1.out hg3);clear hg3;go_wp2_with fail;refine(O8.out _ aH.out).mono ?_;clear n0 n1 n2 n3 f0 f1 f2 hl0 hl1 O8;rintro e w4 ⟨b,rfl,hb,hg4⟩;have aP:=ł (gtr aH.out hg4);have HB0:=ł (ai HB0.out hg4);have HB1:=ł (ai HB1.out hg4);have HBF:=ł hb;clear hg4 hb;cases b with
 |false =>
  go_wp2_with fail;refine(WK.out _ aP.out).mono ?_;rintro e w5 ⟨rfl,hg5⟩;have aU:=ł (gtr aP.out hg5);clear hg5;go_wp2_with fail;go_ret;exact⟨rfl,aU.out⟩
 |true =>
  have Jf:=ł (HBF.out.1 rfl);obtain⟨⟨n0,n1⟩,n2,n3⟩:=aC HB0.out;have hl0:=lt_of_block HB0.out;have FL:=ł (Jf.out.fr H64.out);have hst:aI (ae.t (.mk k n s (.slice ka l.length kc) l))<=80:=by
   have h1:=Jf.out.sz;have:=(Lf (ae.t (.mk k n s (.slice ka l.length kc) l)) 80 (by decide)).2.2 h1;omega
  have O9:=ł (λ(h:nI f (procs.map ak.d) (ae.t (.mk k n s (.slice ka l.length kc) l))=0)=>Ur f (procs.map ak.d) (ae.t (.mk k n s (.slice ka l.length kc) l)) FL.out.1 Jf.out.pr.prb hst h);have WM:=ł (λ(x:ae) (hs:aI x.t<=80) (z:World) (hz:Grow w z) (hx:aR z x)=>KU z x (.slice fa f.slots.length fc) (.slice pa procs.length pc) f procs hx (dV.out.later hz) (fZ.out.later hz) FL.out.2 Jf.out.pr hs);have pV:=ł (WM.out (.mk k n s (.slice ka l.length kc) l) hst w4 aP.out (FM.out.later aP.out));have rq:=ł (λ(h:nI f (procs.map ak.d) (ae.t (.mk k n s (.slice ka l.length kc) l))=0)=>show pK f (procs.map ak.d) (ae.t (.mk k n s (.slice ka l.length kc) l))=aQ f (procs.map ak.d) (ae.t (.mk k n s (.slice ka l.length kc) l))from by rw[pK,if_pos h]);have pR:=ł (λ(z:World) (hz:Grow w z)=>Y0 (.mk k n s (.slice ka l.length kc) l) z (FM.out.later hz));have BL:=ł (λ(hb:bF (ae.t (.mk k n s (.slice ka l.length kc) l))=true) (z:World) (hz:Grow w z)=>Ya (.mk k n s (.slice ka l.length kc) l) z hb (by omega) (FM.out.later hz));simp only[ae.val]at pV pR BL;obtain⟨f0,f1,f2⟩:=cK HB1.out;have hl1:=lt_of_block HB1.out;clear hst;go_wp2_with fail;refine pV.out.mono ?_;clear n0 n1 n2 n3 f0 f1 f2 hl0 hl1 pV Ur;rintro e w5 ⟨v,rfl,hpv,hg5⟩;generalize hTe:(ae.t (.mk k n s (.slice ka l.length kc) l))=tt at *;generalize nI f (procs.map ak.d) tt=E at *;generalize pK f (procs.map ak.d) tt=P0 at *;clear hTe;obtain⟨ja,jb,jc,jd,rfl,hr1,hr2⟩:=hpv;have hga:Grow w5 (w5.alloc (.cells #[.slice ja P0.code.length jb,.slice jc P0.refs.length jd] 34)):=(Mv.refl _ _).alloc _;have di:=ł (gtr aP.out (gtr hg5 hga));have oP:=ł (heap_alloc_new w5 (.cells #[.slice ja P0.code.length jb,.slice jc P0.refs.length jd] 34));have yu:=ł (ay.later (show ay w5 (.agg #[.slice ja P0.code.length jb,.slice jc P0.refs.length jd]) P0 from⟨_,_,_,_,rfl,hr1,hr2⟩) hga);have HB0:=ł (ai HB0.out (gtr hg5 hga));have HB1:=ł (ai HB1.out (gtr hg5 hga));clear hr1 hr2 hg5 hga;by_cases hE:E=0
  · subst hE;have hP:=rq.out rfl;have HL:=ł (O9.out rfl);rw[← hP]at HL;clear rq O9 hP;have HEE:=ł (rfl:(0:Int)=0);have HI1:=ł (λ(z:World) (hz:Grow w z) (v:Value) (hv:ay z v P0)=>Qh v P0 z (zK.out.later hz) hv HL.out.ck HL.out.op HL.out.c HL.out.r);have hq2:(bL P0).code.length=P0.code.length/\(bL P0).refs.length=P0.refs.length:=by simp[bL]
    have zD:=ł hq2;have HI2:=ł (λ(z:World) (hz:Grow w z) (v:Value) (hv:ay z v (bL P0))=>Qh v (bL P0) z (zK.out.later hz) hv HL.out.ck2 HL.out.WJ (by rw[hq2.1];exact HL.out.c) (by rw[hq2.2];exact HL.out.r));rw[HL.out.twice]at HI2;have EU:=ł (λ(z:World) (hz:Grow w z) (cv rv:Value) (h1:az 5 Ins.cells z cv (bL P0).code) (h2:az 2 aV.cells z rv (bL P0).refs)=>PY cv rv (bL P0).code (bL P0).refs z (zK.out.later hz) h1 h2 HL.out.WJ);rw[HL.out.ck2]at EU;have Ba:=ł (λ(h:iR tt=true)=>HL.out.sim h);have Bo:=ł HL.out.blk;have dY:=ł HL.out.r;clear hq2 HL;generalize bL P0=Q at *;obtain⟨oQ,oU⟩:=aA oP.out;have hk0:=lt_of_block oP.out;go_wp2_with fail;refine(HI1.out _ di.out _ yu.out).mono ?_;clear oQ oU hk0 HI1;rintro e w7 ⟨v,rfl,hpv,hg5⟩;obtain⟨qa,qb,qc,qd,rfl,hr1,hr2⟩:=hpv;have hga:Grow w7 (w7.alloc (.cells #[.slice qa Q.code.length qb,.slice qc Q.refs.length qd] 34)):=(Mv.refl _ _).alloc _;have mI:=ł (gtr di.out (gtr hg5 hga));have kC:=ł (heap_alloc_new w7 (.cells #[.slice qa Q.code.length qb,.slice qc Q.refs.length qd] 34));have oV:=ł (ay.later (show ay w7 (.agg #[.slice qa Q.code.length qb,.slice qc Q.refs.length qd]) Q from⟨_,_,_,_,rfl,hr1,hr2⟩) hga);have HB0:=ł (ai HB0.out (gtr hg5 hga));have HB1:=ł (ai HB1.out (gtr hg5 hga));have oP:=ł (ai oP.out (gtr hg5 hga));have yu:=ł (yu.out.later (gtr hg5 hga));clear hr1 hr2 hg5 hga;obtain⟨oQ,oU⟩:=aA kC.out;have hk0:=lt_of_block kC.out;go_wp2_with fail;refine(HI2.out _ mI.out _ oV.out).mono ?_;clear oQ oU hk0 HI2;rintro e w9 ⟨v,rfl,hpv,hg5⟩;obtain⟨ra,rb,rc,rd,rfl,hr1,hr2⟩:=hpv;have hga:Grow w9 (w9.alloc (.cells #[.slice ra P0.code.length rb,.slice rc P0.refs.length rd] 34)):=(Mv.refl _ _).alloc _;have Us:=ł (gtr mI.out (gtr hg5 hga));have F4:=ł (heap_alloc_new w9 (.cells #[.slice ra P0.code.length rb,.slice rc P0.refs.length rd] 34));have J3:=ł (ay.later (show ay w9 (.agg #[.slice ra P0.code.length rb,.slice rc P0.refs.length rd]) P0 from⟨_,_,_,_,rfl,hr1,hr2⟩) hga);have HB0:=ł (ai HB0.out (gtr hg5 hga));have HB1:=ł (ai HB1.out (gtr hg5 hga));have oP:=ł (ai oP.out (gtr hg5 hga));have kC:=ł (ai kC.out (gtr hg5 hga));have yu:=ł (yu.out.later (gtr hg5 hga));have oV:=ł (oV.out.later (gtr hg5 hga));clear hr1 hr2 hg5 hga;obtain⟨oQ,oU⟩:=aA kC.out;have hk0:=lt_of_block kC.out;obtain⟨hq1,hq2⟩:=ay.rows oV.out;have rC:=ł (EU.out _ Us.out _ _ hq1 hq2);clear hq1 hq2 EU;go_wp2_with fail;refine rC.out.mono ?_;clear oQ oU hk0 rC;rintro e xJ ⟨rfl,hg5⟩;have Nk:=ł (gtr Us.out hg5);have HB0:=ł (ai HB0.out hg5);have HB1:=ł (ai HB1.out hg5);have oP:=ł (ai oP.out hg5);have kC:=ł (ai kC.out hg5);have F4:=ł (ai F4.out hg5);have yu:=ł (yu.out.later hg5);have oV:=ł (oV.out.later hg5);have J3:=ł (J3.out.later hg5);clear hg5;obtain⟨oQ,oU⟩:=aA oP.out;have hk0:=lt_of_block oP.out;obtain⟨k10,k11⟩:=aA kC.out;have hk1:=lt_of_block kC.out;obtain⟨k20,k21⟩:=aA F4.out;have hk2:=lt_of_block F4.out;have bD:=ł (G9 _ _ P0 P0 xJ J3.out yu.out (by have:=dY.out;omega) (by have:=dY.out;omega));have hlen:((Q.code.length:Int) == (P0.code.length:Int))=true:=by rw[zD.out.1];simp
    have LK:((Q.code.length:Int) != (P0.code.length:Int))=false:=by rw[zD.out.1];simp
    go_wp2_with fail;refine bD.out.mono ?_;clear oQ oU hk0 k10 k11 hk1 k20 k21 hk2 bD;rintro e Nw ⟨b,rfl,hb,hg5⟩;obtain rfl:b=true:=hb.2 trivial;have AO:=ł (gtr Nk.out hg5);have HB0:=ł (ai HB0.out hg5);have HB1:=ł (ai HB1.out hg5);have oP:=ł (ai oP.out hg5);have kC:=ł (ai kC.out hg5);have oV:=ł (oV.out.later hg5);clear hg5 hb F4 J3 yu;obtain⟨⟨oQ,oU⟩,F5,F6⟩:=aC HB0.out;have hk0:=lt_of_block HB0.out;obtain⟨k10,k11⟩:=aA oP.out;have hk1:=lt_of_block oP.out;obtain⟨k20,k21⟩:=aA kC.out;have hk2:=lt_of_block kC.out;go_wp2_with fail;refine(pR.out _ AO.out).mono ?_;clear oQ oU F5 F6 hk0 k10 k11 hk1 k20 k21 hk2 pR hlen LK;rintro e AP ⟨rfl,hg5⟩;have Nr:=ł (gtr AO.out hg5);have HB0:=ł (ai HB0.out hg5);have HB1:=ł (ai HB1.out hg5);have kC:=ł (ai kC.out hg5);have oV:=ł (oV.out.later hg5);clear hg5 oP;generalize iR tt=sb at *;cases sb with
    |false =>
     go_wp2_with fail;go_ret;exact⟨rfl,Nr.out⟩
    |true =>
     obtain⟨hs1,hs2,hs3⟩:=Ba.out rfl;have Ut:=ł (BL.out Bo.out _ Nr.out);obtain⟨⟨oQ,oU⟩,F5,F6⟩:=aC HB0.out;have hk0:=lt_of_block HB0.out;go_wp2_with fail;refine Ut.out.mono ?_;clear oQ oU F5 F6 hk0 Ut BL Ba;rintro e CG ⟨y,rfl,nQ,hya,hg5⟩;have rD:=ł (λ(z:World) (hz:Grow w z) (hx:aR z y)=>WM.out y (by rw[nQ];exact hs3) z hz hx);rw[nQ,show pK f (procs.map ak.d) (bY tt)=Q from by rw[pK,if_pos hs1];exact hs2,hs1]at rD;obtain⟨yk,yn,ys,yv,yl⟩:=y;obtain⟨ya,yc,rfl,-,-⟩:=hya.form;have hga:Grow CG (CG.alloc (.cells #[.int .u8 yk,.int .i64 yn,.string ys,.slice ya yl.length yc] 24)):=(Mv.refl _ _).alloc _;have Je:=ł (gtr Nr.out (gtr hg5 hga));have WN:=ł (heap_alloc_new CG (.cells #[.int .u8 yk,.int .i64 yn,.string ys,.slice ya yl.length yc] 24));have HYA:=ł (hya.later hga);have HB1:=ł (ai HB1.out (gtr hg5 hga));have kC:=ł (ai kC.out (gtr hg5 hga));have oV:=ł (oV.out.later (gtr hg5 hga));clear nQ hya hga hg5 hs1 hs2 hs3 HB0;have pV:=ł (rD.out _ Je.out HYA.out);obtain⟨⟨oQ,oU⟩,F5,F6⟩:=aC WN.out;have hk0:=lt_of_block WN.out;obtain⟨k10,k11,k12⟩:=cK HB1.out;have hk1:=lt_of_block HB1.out;simp only[ae.val]at pV ⊢;go_wp2_with fail;refine pV.out.mono ?_;clear oQ oU F5 F6 hk0 k10 k11 k12 hk1 pV rD;rintro e w16 ⟨v,rfl,hpv,hg5⟩;obtain⟨za,zb,zc,zd,rfl,hr1,hr2⟩:=hpv;have hga:Grow w16 (w16.alloc (.cells #[.slice za Q.code.length zb,.slice zc Q.refs.length zd] 34)):=(Mv.refl _ _).alloc _;have Nn:=ł (gtr Je.out (gtr hg5 hga));have WO:=ł (heap_alloc_new w16 (.cells #[.slice za Q.code.length zb,.slice zc Q.refs.length zd] 34));have sO:=ł (ay.later (show ay w16 (.agg #[.slice za Q.code.length zb,.slice zc Q.refs.length zd]) Q from⟨_,_,_,_,rfl,hr1,hr2⟩) hga);have kC:=ł (ai kC.out (gtr hg5 hga));have oV:=ł (oV.out.later (gtr hg5 hga));clear hr1 hr2 hg5 hga;obtain⟨oQ,oU⟩:=aA WO.out;have hk0:=lt_of_block WO.out;obtain⟨k10,k11⟩:=aA kC.out;have hk1:=lt_of_block kC.out;have HS2:=ł (G9 _ _ Q Q _ sO.out oV.out (by rw[zD.out.2];have:=dY.out;omega) (by rw[zD.out.2];have:=dY.out;omega));go_wp2_with fail;refine HS2.out.mono ?_;clear oQ oU hk0 k10 k11 hk1 HS2;rintro e w18 ⟨b,rfl,hb,hg5⟩;obtain rfl:b=true:=hb.2 trivial;have acw:=ł (gtr Nn.out hg5);clear hg5 hb;go_wp2_with fail;go_ret;exact⟨rfl,acw.out⟩
  · have g1:(E != 0)=true:=by simpa using hE
    clear rq O9;go_wp2_with fail;go_ret;exact⟨rfl,di.out⟩
theorem QV (l:List Tree):cu l=(l.map aI).sum:=by
 induction l with
 |nil=>rw[cu];rfl
 |cons t l ih=>rw[cu,ih];rfl
theorem _5 {f:ax} {procs:List bQ} {k:Int} {n:Int} {s:ByteArray} {l:List Tree} (hk:k=40\/k=41\/k=42\/k=43\/k=44\/k=45\/k=46\/k=47\/k=48\/k=49):dz f procs (.mk (lY k) n s l)=dz f procs (.mk k n s l):=by
 rcases hk with rfl|rfl|rfl|rfl|rfl|rfl|rfl|rfl|rfl|rfl <;> (rw[dz,dz];rfl)
theorem Gl {f:ax} {procs:List bQ} {k n:Int} {s:ByteArray} {l:List Tree} (hs:sw k=true):iM f procs (.mk k n s l)=0↔k≠56/\dz f procs (.mk k n s l)=true/\∀ t∈l,t.kind=57->fw f procs t=0:=by
 simp only[sw,Bool.not_eq_true',Bool.or_eq_false_iff,beq_eq_false_iff_ne]at hs;rw[iM];by_cases h1:k=56
 · rw[if_pos h1];simp[h1]
 rw[if_neg h1];by_cases h2:dz f procs (.mk k n s l)=false
 · rw[if_pos h2];simp[h2]
 rw[if_neg h2,if_neg (by omega)];have h2':dz f procs (.mk k n s l)=true:=by simpa using h2
 rw[GJ];constructor
 · intro h;refine⟨h1,h2',λt ht hk => ?_⟩;obtain⟨i,hi,rfl⟩:=List.mem_iff_getElem.1 ht;have:=Dj _ h i (by simpa using hi);simp only[List.getElem_map,hk,if_true]at this;exact this
 · rintro⟨-,-,h⟩;refine Dh _ λj hj => ?_;simp only[List.getElem_map];split
   · rename_i hk;exact h _ (List.getElem_mem _) hk
   · rfl
theorem Pz {f:ax} {procs:List bQ} {k n:Int} {s:ByteArray} {l:List Tree} : fw f procs (.mk k n s l)=0↔∀ t∈l,iM f procs t=0:=by
 rw[fw,Kl];constructor
 · intro h t ht;obtain⟨i,hi,rfl⟩:=List.mem_iff_getElem.1 ht;have:=Dj _ h i (by simpa using hi)
   simpa using this
 · intro h;exact Dh _ λj hj=>by simp only[List.getElem_map];exact h _ (List.getElem_mem _)
structure GoodS (f:ax) (procs:List bQ) (t:Tree):Prop where
 s:bq (bY t)=true
 u:iM f procs (bY t)=0
 z:aI (bY t)=aI t
 n:yP t=true
structure Ta (f:ax) (procs:List bQ) (t:Tree):Prop where
 s:bF (bY t)=true
 u:fw f procs (bY t)=0
 z:aI (bY t)=aI t
 n:Ci t=true
theorem ZY {f:ax} {procs:List bQ} (k n:Int) (s:ByteArray) (l:List Tree) (hb:bq (.mk k n s l)=true) (AL:sw k=true) (hu:iM f procs (.mk k n s l)=0)
 (ih:∀ t∈l,bF t=true->fw f procs t=0->Ta f procs t):GoodS f procs (.mk k n s l):=by
 obtain⟨pM,hnm,fT⟩:=(Gl AL).1 hu;have aeK:=AL;simp only[sw,Bool.not_eq_true',Bool.or_eq_false_iff,beq_eq_false_iff_ne]at AL;obtain⟨s1,s2,s3,s4⟩:=AL;have plain:(k=40\/k=41\/k=42\/k=43\/k=44\/k=45\/k=46\/k=47\/k=48\/k=49)->(∀ t∈l,t.kind≠57)->bq (.mk (lY k) n s l)=true->GoodS f procs (.mk k n s l):=λhk h57 h=>by
  have hT:=Gu (k:=k) (n:=n) (s:=s) (l:=l) (by omega) (by omega) h57;have hs':sw (lY k)=true:=by rcases hk with rfl|rfl|rfl|rfl|rfl|rfl|rfl|rfl|rfl|rfl <;> rfl
  have acx:lY k≠56:=by rcases hk with rfl|rfl|rfl|rfl|rfl|rfl|rfl|rfl|rfl|rfl <;> decide
  refine⟨by rw[hT];exact h,?_,by rw[hT,aI,aI],?_⟩
  · rw[hT];exact(Gl hs').2 ⟨acx,by rw[_5 hk];exact hnm,λt ht e=>absurd e (h57 t ht)⟩
  · rw[yP,Gi,Bool.and_eq_true];refine⟨by simpa using pM,List.all_eq_true.2 λt ht => ?_⟩;have:=h57 t ht;simp[this]
 rw[bq]at hb;split at hb
 · rename_i hk;have hb0:=hb;rw[Bool.and_eq_true]at hb;obtain⟨a,b,rfl,ha,hbb⟩:=Ip hb.2;refine plain (by omega) (λt ht=>by
    simp only[List.mem_cons,List.not_mem_nil,or_false]at ht;rcases ht with rfl|rfl
    · exact qh ha
    · exact qj hbb) ?_
   rcases hk with rfl|rfl|rfl|rfl
   · rw[bq];exact hb0
   · rw[bq];exact hb0
   · rw[bq];exact hb0
   · exact absurd rfl pM
 · split at hb
   · rename_i hk;have hb0:=hb;rw[Bool.and_eq_true]at hb;obtain⟨a,b,rfl,ha,hbb⟩:=Ip hb.2;subst hk;refine plain (by omega) (λt ht=>by
      simp only[List.mem_cons,List.not_mem_nil,or_false]at ht;rcases ht with rfl|rfl
      · exact qh ha
      · exact qh hbb) ?_
     rw[bq];exact hb0
   · split at hb
     · rename_i hk;have hb0:=hb;rw[Bool.and_eq_true]at hb;obtain⟨a,rfl,ha⟩:=L9 hb.2;refine plain (by omega) (λt ht=>by rw[List.mem_singleton.1 ht];exact qh ha) ?_;rcases hk with rfl|rfl
       · rw[bq];exact hb0
       · rw[bq];exact hb0
     · split at hb
       · rename_i hk;have hb0:=hb;rw[Bool.and_eq_true]at hb;obtain⟨a,rfl,ha⟩:=L9 hb.2;refine plain (by omega) (λt ht=>by rw[List.mem_singleton.1 ht];exact qh ha) ?_;rcases hk with rfl|rfl|rfl|rfl
         · rw[bq];exact hb0
         · rw[bq];exact hb0
         · rw[bq];exact hb0
         · rw[bq];exact hb0
       · rw[if_neg (by omega),if_neg (by omega)]at hb;split at hb
         · rename_i hk;subst hk;simp only[Bool.and_eq_true]at hb;obtain⟨hn,hk3,hbl⟩:=hb;have hl3:=tC _ _ hk3;obtain⟨a,b,c,rfl⟩:=Ud hl3;simp only[bI,Bool.and_eq_true]at hk3;have hbb:bF b=true:=by simpa[jC]using hbl
           have hg:=ih b (by simp) hbb (fT b (by simp) (tF hbb));have ka:=qj hk3.1;have kc:=qj hk3.2.2.1;have kb:=tF hbb;have Pb:=tF hg.s;have hT:bY (.mk 54 n s [a,b,c]) = .mk 54 n s [c,bY b,a]:=by
            rw[bY,if_neg (by decide),if_pos (by decide),yH];simp only[List.map_cons,List.map_nil,DK ka,DK kc,Ia kb];rfl
           refine⟨?_,?_,?_,?_⟩
           · rw[hT,bq];simp only[show ¬ ((54:Int)=40\/(54:Int)=41\/(54:Int)=42\/(54:Int)=56) by decide,show ¬ ((54:Int)=43) by decide,show ¬ ((54:Int)=44\/(54:Int)=45) by decide,show ¬ ((54:Int)=46\/(54:Int)=47\/(54:Int)=48\/(54:Int)=49) by decide,show ¬ ((54:Int)=50\/(54:Int)=51) by decide,show ¬ ((54:Int)=52\/(54:Int)=53) by decide,if_false,if_true,Bool.and_eq_true];refine⟨hn,?_,?_⟩
             · simp only[bI,hk3.1,hk3.2.2.1,Bool.and_self]
             · simp[jC,hg.s]
           · rw[hT];refine(Gl (by decide)).2 ⟨by decide,?_,λt ht e => ?_⟩
             · rw[dz,if_pos (by decide),Bool.and_eq_true,zU]at hnm ⊢;refine⟨hnm.1,?_⟩;have h2:=hnm.2;simp only[List.all_cons,List.all_nil,Bool.and_eq_true,Bool.and_true,kb,Pb,BEq.rfl,Bool.true_or,true_and,and_true]at h2 ⊢;exact⟨h2.2,h2.1⟩
             · simp only[List.mem_cons,List.not_mem_nil,or_false]at ht;rcases ht with rfl|rfl|rfl
               · exact absurd e kc
               · exact hg.u
               · exact absurd e ka
           · rw[hT,aI,aI];simp only[cu,hg.z];omega
           · rw[yP,Gi];simp[ka,kc,kb,hg.n]
         · split at hb
           · rename_i hk;subst hk;simp only[Bool.and_eq_true,beq_iff_eq]at hb;obtain⟨hn,hl1,hbl⟩:=hb;obtain⟨b,rfl⟩:=List.length_eq_one_iff.1 hl1;have hbb:bF b=true:=by simpa[jC]using hbl
             have hg:=ih b (by simp) hbb (fT b (by simp) (tF hbb));have kb:=tF hbb;have Pb:=tF hg.s;have hT:bY (.mk 55 n s [b]) = .mk 55 n s [bY b]:=by
              rw[bY,if_neg (by decide),if_neg (by decide),yH];simp only[List.map_cons,List.map_nil,Ia kb];rfl
             refine⟨?_,?_,?_,?_⟩
             · rw[hT,bq];simp only[show ¬ ((55:Int)=40\/(55:Int)=41\/(55:Int)=42\/(55:Int)=56) by decide,show ¬ ((55:Int)=43) by decide,show ¬ ((55:Int)=44\/(55:Int)=45) by decide,show ¬ ((55:Int)=46\/(55:Int)=47\/(55:Int)=48\/(55:Int)=49) by decide,show ¬ ((55:Int)=50\/(55:Int)=51) by decide,show ¬ ((55:Int)=52\/(55:Int)=53) by decide,show ¬ ((55:Int)=54) by decide,if_false,if_true,Bool.and_eq_true];exact⟨hn,by simp,by simp[jC,hg.s]⟩
             · rw[hT];refine(Gl (by decide)).2 ⟨by decide,?_,λt ht e => ?_⟩
               · rw[dz,if_neg (by decide),if_neg (by decide),if_pos (by decide),Bool.and_eq_true,zU]at hnm ⊢;exact⟨hnm.1,by simp[Pb]⟩
               · rw[List.mem_singleton.1 ht];exact hg.u
             · rw[hT,aI,aI];simp only[cu,hg.z]
             · rw[yP,Gi];simp[kb,hg.n]
           · cases hb
theorem _6 {f:ax} {procs:List bQ} : ∀ (m:Nat),
 (∀ t:Tree,aI t<=m->bq t=true->iR t=true->iM f procs t=0->GoodS f procs t) /\
 (∀ t:Tree,aI t<=m->bF t=true->iR t=true->fw f procs t=0->Ta f procs t):=by
 intro m
 induction m with
 |zero =>
  refine⟨λt h => ?_,λt h => ?_⟩ <;> (obtain⟨k,n,s,l⟩:=t;rw[aI]at h;omega)
 |succ m ih =>
  refine⟨λt h hst hsi hu => ?_,λt h hb hsi hu => ?_⟩
  · obtain⟨k,n,s,l⟩:=t;rw[iR,Bool.and_eq_true,Dt]at hsi;have hsz:cu l+1=aI (.mk k n s l):=by rw[aI];omega
    refine ZY k n s l hst hsi.1 hu λt ht hb hu' => ?_;obtain⟨i,hi,rfl⟩:=List.mem_iff_getElem.1 ht;have:=vg l i hi;exact ih.2 _ (by omega) hb (List.all_eq_true.1 hsi.2 _ ht) hu'
  · obtain⟨k,n,s,l⟩:=t;rw[iR,Bool.and_eq_true,Dt]at hsi;have hsz:cu l+1=aI (.mk k n s l):=by rw[aI];omega
    have hk:k=57:=by have:=tF hb;simpa[Tree.kind]using this
    subst hk;rw[bF,Bool.and_eq_true,Bool.and_eq_true,BP]at hb;have hz:=Pz.1 hu;have hg:∀ t∈l,GoodS f procs t:=λt ht=>by
     obtain⟨i,hi,rfl⟩:=List.mem_iff_getElem.1 ht;have:=vg l i hi;exact ih.1 _ (by omega) (List.all_eq_true.1 hb.2.2 _ ht) (List.all_eq_true.1 hsi.2 _ ht) (hz _ ht)
    have hT:bY (.mk 57 n s l) = .mk 57 n s (l.map bY).reverse:=by
     rw[bY,if_pos rfl,yH];rw[List.map_congr_left (g:=bY) λt _=>by simp[invK]];rfl
    have hm:∀ t∈(l.map bY).reverse,∃ u∈l,t=bY u:=λt ht=>by
     obtain⟨u,hu,rfl⟩:=List.mem_map.1 (List.mem_reverse.1 ht);exact⟨u,hu,rfl⟩
    refine⟨?_,?_,?_,?_⟩
    · rw[hT,bF,Bool.and_eq_true,Bool.and_eq_true,BP];refine⟨by simp,hb.2.1,List.all_eq_true.2 λt ht => ?_⟩;obtain⟨u,hu,rfl⟩:=hm t ht;exact(hg u hu).s
    · rw[hT];refine Pz.2 λt ht => ?_;obtain⟨u,hu,rfl⟩:=hm t ht;exact(hg u hu).u
    · rw[hT,aI,aI,QV,QV,List.map_reverse,List.sum_reverse,List.map_map];rw[show l.map (aI ∘ bY)=l.map aI from List.map_congr_left λt ht=>(hg t ht).z]
    · rw[Ci,Qj];exact List.all_eq_true.2 λt ht=>(hg t ht).n
theorem aaJ:Sl:=λf procs t hf hp hs he=>by
 have hb:bF t=true:=by
  cases h:bF t with
  |true=>rfl
  |false=>rw[nI,h]at he;simp at he
 have hu:fw f procs t=0:=by rw[nI,if_pos hb]at he;exact he
 have hok:=Lr hf procs hp t hb hs;have hle:=GM f procs hp.ok t;have hl:(aQ f procs t).code.length<=65536:=by omega
 have hoi:=hok.inv hl;refine⟨λx hx=>by have:=hok.op x hx;omega,hok.check,hl,by omega,λx hx=>by have:=hoi.op x hx;omega,hoi.check,hok.twice hl,λhsi => ?_,hb⟩;have hg:=(_6 (f:=f) (procs:=procs) _).2 t (Nat.le_refl _) hb hsi hu;exact⟨by rw[nI,if_pos hg.s];exact hg.u,((aaz hf procs hp _).2 t (Nat.le_refl _) hb hs hsi hg.n).symm,by rw[hg.z];exact hs⟩
theorem Yd (w:World) (x:ae) (sv pv:Value) (f:ax) (procs:List ak) (ht:qH w) (hx:aR w x) (hf:fE w sv f) (h64:∀ s∈f.slots,In64 s.at') (hp:mg w pv procs) :
 Calls Tryz.prog 4 #[x.val,.agg #[sv,.int .i64 f.cells,.int .i64 f.stacks],pv] w λe w'=>e = .returned (.bool true)/\Grow w w':=XF aaJ w x sv pv f procs ht hx hf h64 hp
end
section
open Go.ChangeShapes Go.WideShapes Go.RowKit Go.Instr
abbrev Ca : List (String × DataW Unit) := [("backstep/isa.table", Rows.laid_backstep_isa_table)]
theorem Tryz.aaW : Tryz.prog.globalNamed "backstep/isa.table" = some 0 := by kernel_rfl
theorem Tryz.aaX:(Tryz.prog.globals[0]?).map (·.type)=some 116:=by kernel_rfl
theorem Tryz._7:Tryz.prog.cellsOf 115=2:=by kernel_rfl
theorem ZZ {H:Type} : ∃ l:List (DataW H),Rows.laid_backstep_isa_table = .agg l/\∀ i,i<35->∃ s,l[i]? = some (.agg [.lit (.string s),.lit (.int .i64 (mP.getD i 0))]):=by
 refine⟨_,rfl,λi hi => ?_⟩
 match i,hi with
 |0,_=>exact⟨_,rfl⟩
 |1,_=>exact⟨_,rfl⟩
 |2,_=>exact⟨_,rfl⟩
 |3,_=>exact⟨_,rfl⟩
 |4,_=>exact⟨_,rfl⟩
 |5,_=>exact⟨_,rfl⟩
 |6,_=>exact⟨_,rfl⟩
 |7,_=>exact⟨_,rfl⟩
 |8,_=>exact⟨_,rfl⟩
 |9,_=>exact⟨_,rfl⟩
 |10,_=>exact⟨_,rfl⟩
 |11,_=>exact⟨_,rfl⟩
 |12,_=>exact⟨_,rfl⟩
 |13,_=>exact⟨_,rfl⟩
 |14,_=>exact⟨_,rfl⟩
 |15,_=>exact⟨_,rfl⟩
 |16,_=>exact⟨_,rfl⟩
 |17,_=>exact⟨_,rfl⟩
 |18,_=>exact⟨_,rfl⟩
 |19,_=>exact⟨_,rfl⟩
 |20,_=>exact⟨_,rfl⟩
 |21,_=>exact⟨_,rfl⟩
 |22,_=>exact⟨_,rfl⟩
 |23,_=>exact⟨_,rfl⟩
 |24,_=>exact⟨_,rfl⟩
 |25,_=>exact⟨_,rfl⟩
 |26,_=>exact⟨_,rfl⟩
 |27,_=>exact⟨_,rfl⟩
 |28,_=>exact⟨_,rfl⟩
 |29,_=>exact⟨_,rfl⟩
 |30,_=>exact⟨_,rfl⟩
 |31,_=>exact⟨_,rfl⟩
 |32,_=>exact⟨_,rfl⟩
 |33,_=>exact⟨_,rfl⟩
 |34,_=>exact⟨_,rfl⟩
 |n+35,h=>exact absurd h (by omega)
theorem Ye {W:World} (h:laidMetH Tryz.prog Ca W):qH W:=by
 rw[MakeChecks.laidMetH_plain _ _ _ (by kernel_rfl)]at h;obtain⟨ps,⟨g0,t0,cs0,f0,p0,q0,hg0,ht0,hv0,hd0,_,_⟩,_⟩:=h;obtain rfl:=Option.some.inj (Tryz.aaW.symm.trans hg0);obtain rfl:=Option.some.inj (Tryz.aaX.symm.trans ht0);obtain⟨l,hl,OA⟩:=ZZ (H:=Unit);rw[hl]at hd0;obtain⟨xs,m1,rfl,hx1,hlen,hn3,hel⟩:=DataW.trod_array Tryz.underlying116 hd0;simp only[Prod.mk.injEq,DataW.agg.injEq]at hx1;intro k hk;obtain⟨s,hs⟩:=OA k hk;have WQ:=hel k hk;rw[hx1.1,List.getElem?_map]at hs;cases hxk:xs[k]? with
 |none=>rw[hxk]at hs;simp at hs
 |some x =>
  rw[hxk]at hs WQ;simp only[Option.map_some,Option.some.injEq]at hs;obtain⟨ys,m2,rfl,hx2,hcl,hyl,hf⟩:=DataW.trod_struct Tryz.underlying115 WQ
  match ys,hyl with
  | [y0,y1],_ =>
   have f1:=hf 1 _ rfl;obtain⟨n,e1,e2,_⟩:=DataW.trod_int Tryz.underlying3 (show DataW.trod _ _ _ _ _ _ _ _ _=some y1 from f1);rw[hx2]at hs;simp only[List.map_cons,List.map_nil,DataW.agg.injEq,List.cons.injEq,and_true]at hs;have hn:n=mP.getD k 0:=by
    have:=hs.2;rw[e2]at this
    simpa using this
   rw[World.var?_cell hg0 hv0 (k * 2+1)];have c1:Tryz.prog.cellsOf 3=1:=Tryz.DD;have h3:(cs0.toList.drop (k * 2))[1]? = some (.int .i64 n):=by
    have h4:=congrArg (λt=>t[0]?) e1;simp only[Tryz._7,c1]at h4;simp[List.getElem?_drop,List.getElem?_take]at h4
    simpa[List.getElem?_drop]using h4.2
   rw[List.getElem?_drop]at h3;rw[← hn]
   simpa using h3
theorem _8 (os:Os) (args:Array Value):laidMetH Tryz.prog Ca ((World.doorLaid Tryz.prog 400 os).forCall (λ_ _=>0) ⟨#[],args,[]⟩).memory :=
 laidMetH_of_parts3 (fuel:=8) (laidMet_of_run' 8 (by kernel_rfl) (by kernel_rfl)) (by kernel_rfl) (by kernel_rfl)
end
end Go.Proofs.YtnobahchcongnaaGreatDoor
