import Derived.Test.YtnobahchcongnaaGreatDoorQ26
set_option linter.unusedSimpArgs false
set_option linter.unusedVariables false
set_option maxRecDepth 100000
set_option maxHeartbeats 25600000
namespace Go.Proofs.YtnobahchcongnaaGreatDoor
open Go.RowKit Go.Instr
def AQ (x:World):List (Value × Value)→List aC→Prop
 | a :: vs,p :: l=>ay x (.agg #[a.1,a.2]) p∧AQ x vs l
 | [],[]=>True
 | _,_=>False
theorem AQ.at {x:World} : ∀ {vs:List (Value × Value)} {l:List aC},AQ x vs l→vs.length=l.length∧∀ i (h:i<vs.length) (h':i<l.length),ay x (.agg #[vs[i].1,vs[i].2]) l[i]
 | [],[],_=>⟨rfl,fun i h=>by simp at h⟩
 | a :: vs,p :: l,h=>by
  obtain ⟨h1,h2⟩:=AQ.at h.2;refine ⟨by simp [h1],fun i hi hi' => ?_⟩;cases i with
  | zero=>exact h.1
  | succ i=>exact h2 i (by simpa using hi) (by simpa using hi')
theorem qB {x:World} {g:Nat} {cs:Array Value} {t:TypeId} {fr:Nat × Nat} {vs:List (Value × Value)} {l:List aC} (hb:x.heap[g]? = some (.cells cs t fr)) (hc:cs.toList=flat qI vs) (h:AQ x vs l) (hl:l.length≤1000000:=by simp):gG x (.slice (some ⟨g,0,none⟩) l.length l.length) l:=by
 obtain ⟨h1,h2⟩:=AQ.at h;refine ⟨vs,h1,?_,h2⟩;have:=ax.bH (n:=2) (f:=qI) (l:=vs) (fun _=>rfl) hb hc (by omega);rwa [h1] at this
theorem kK (f:az) (e:Tree) (u:aC):(aH f e u).code.length=2 * (dC f e).length+2+u.code.length∧(aH f e u).refs.length=0:=by
 constructor
 · rw [Oj];simp [ah,jP,D7,uS];omega
 · rfl
theorem wT (w:World) (G:Nat) (sv pv:Value) (f:az) (procs:List aj) (hg:gm w G sv pv f procs) (x:ae) (hx:aV w x) (he:mH f x.t) (hc0:0≤f.cells) (hc1:f.cells≤1000):∀ (z:World),Grow w z→∀ (uv:Value) (use:aC),ay z uv use→use.code.length≤200000→Calls Tryz.prog 100 #[.pointer (some ⟨G,0,none⟩),x.val,uv] z (bN z (aH f x.t use)) :=
 fun z hz uv use hu hl=>Em z G sv pv f procs (hg.later hz) x uv use (hx.later hz) hu he.e he.s hc0 hc1 he.d (Nat.le_trans he.l (by decide)) hl
theorem IK (w:World) (G:Nat) (sv pv:Value) (f:az) (procs:List aj) (hg:gm w G sv pv f procs) (x:ae) (op:Int) (hx:aV w x) (hl:1<(x.t).kids.length) (hp:xy f (x.t.kid 0)) (he:mH f (x.t.kid 1)) (hc0:0≤f.cells) (hc1:f.cells≤1000) :
 Calls Tryz.prog 78 #[.pointer (some ⟨G,0,none⟩),x.val,.int .u8 op] w (bN w (lS f (x.t.kid 0) (x.t.kid 1) op)):=by
 obtain ⟨fa,fc,rfl,hfc,hfl⟩:=hg.fr.row.form;obtain ⟨xN,xO,rfl,-,-⟩:=hg.pr.row.form;obtain ⟨k,n,s,kv,l⟩:=x
 replace hl:1<l.length:=by rw [← ae.cZ];exact hl
 have h0:0<l.length:=by omega
 obtain ⟨kb,ko,kc,cz,-,-⟩:=hx.row.2.2.2.1.at h0;subst cz;have hk0:=eY hx 0 h0;have hk1:=eY hx 1 hl;rw [gY 0 h0] at hp ⊢;rw [gY 1 hl] at he ⊢;simp only [Nat.zero_mul,Nat.one_mul,Nat.add_zero] at hk0 hk1;generalize l[0]=pp at *;generalize l[1]=ee at *;have BV:=ł (wT w G _ _ f procs hg ee hk1.at_ he hc0 hc1);have lM:=ł he;obtain ⟨pk,pn,ps,pv,pl⟩:=pp;obtain ⟨pa,pc,rfl,-,-⟩:=hk0.at_.form;obtain ⟨ek,en,es,ev,el⟩:=ee;obtain ⟨ea,ec,rfl,-,-⟩:=hk1.at_.form;simp only [ae.val] at BV ⊢;have aA:=ł hg;have fK:=ł hk0.at_;have ji:=ł hk0;have nO:=ł hk1;have fH:=ł hl;obtain ⟨aL,bC,HG2⟩:=a2 w (.cells #[.int .u8 k,.int .i64 n,.string s,.slice (some ⟨kb,ko,none⟩) l.length kc] 24) (.cells #[.slice none 0 0,.slice none 0 0] 34);have AR:=ł hp;clear hg hx hk0 hk1 he hp h0
 go_enter Tryz.func78,Tryz.ntmps78
 go_wp2_with fail;generalize ((w.alloc (.cells #[.int .u8 k,.int .i64 n,.string s,.slice (some ⟨kb,ko,none⟩) l.length kc] 24)).alloc (.cells #[.slice none 0 0,.slice none 0 0] 34))=w2 at *;have HK:=ł (fun (y:World) (hy:Grow w2 y)=>And.intro (aA.out.later (gtr HG2.out hy)) (And.intro (ai aL.out hy) (And.intro (ji.out.later (gtr HG2.out hy)) (nO.out.later (gtr HG2.out hy)))));refine wg 68 [some 13,some 14,some 15,some 16,some 17,some 18,some 19,some 20,some 7,some 8,none,none] [[],[0],[1],[2],[],[4],[5],[6],[],[],[8,3],[9,7]] [] [.c (.pointer (some ⟨w.heap.size,3,none⟩)),.c (.slice (some ⟨kb,ko,none⟩) l.length kc),.c (.pointer (some ⟨kb,ko,none⟩)),.c (.agg #[.int .u8 pk,.int .i64 pn,.string ps,.slice pa pl.length pc]),.c (.pointer (some ⟨w.heap.size,3,none⟩)),.c (.slice (some ⟨kb,ko,none⟩) l.length kc),.c (.pointer (some ⟨kb,(ko+4),none⟩)),.c (.agg #[.int .u8 ek,.int .i64 en,.string es,.slice ea el.length ec]),.al 10 3 #[.int .u8 0,.int .i64 0,.string ⟨#[]⟩,.slice none 0 0] 24,.al 11 7 #[.int .u8 0,.int .i64 0,.string ⟨#[]⟩,.slice none 0 0] 24,.st 8,.st 9] trivial (dJ rfl) ?steps ?done
 case steps =>
  refine ⟨?s0,?s1,?s2,?s3,?s4,?s5,?s6,?s7,?s8,?s9,?s10,?s11,trivial⟩
  case s0 | s4 =>
   refine oo (fun vs x hP => ?_);simp only [zS];go_simp;exact gc
  case s1 | s5 =>
   refine ok HK (fun vs x hG HX hP => ?_);obtain ⟨⟨n0,n1⟩,n2,n3⟩:=aF (HX.out.2.1);simp only [zS];go_simp;exact gc
  case s2 =>
   refine ok HK (fun vs x hG HX hP => ?_);have hbd:0<l.length:=by have:=fH.out;omega
   simp only [zS];go_simp;exact gc
  case s3 =>
   refine ok HK (fun vs x hG HX hP => ?_);obtain ⟨⟨d0,d1⟩,d2,d3⟩:=(HX.out.2.2.1).four;simp only [zS];go_simp;exact gc
  case s6 =>
   refine ok HK (fun vs x hG HX hP => ?_);have hbd:(1:Int)<(l.length:Nat):=by have:=fH.out;omega
   simp only [zS];go_simp;exact gc
  case s7 =>
   refine ok HK (fun vs x hG HX hP => ?_);obtain ⟨⟨d0,d1⟩,d2,d3⟩:=(HX.out.2.2.2).four;simp only [zS];go_simp;exact gc
  case s8 | s9 =>
   refine oz (fun vs x => ?_);simp only [zS];go_simp;exact ⟨rfl,rfl⟩
  case s10 =>
   refine os (fun vs x g hg hb hv => ?_);have h3:vs 3=_:=hv;obtain ⟨c0,c1,c2,c3⟩:=dm hb;have zt:=aJ hb;simp only [zS,hg,h3];go_simp;exact qU hb _ _ _ _
  case s11 =>
   refine os (fun vs x g hg hb hv => ?_);have h7:vs 7=_:=hv;obtain ⟨c0,c1,c2,c3⟩:=dm hb;have zt:=aJ hb;simp only [zS,hg,h7];go_simp;exact qU hb _ _ _ _
 case done =>
 intro vs w3 hE;have hG:=hE.grow;obtain ⟨g8,a8,l8,m8,b8⟩:=hE.box 8;obtain ⟨g9,a9,l9,m9,b9⟩:=hE.box 9;simp only [zS] at b8;simp only [zS] at b9;simp only [zS,Nat.reduceAdd,a8,a9];have sZ:=ł b8;have AU:=ł b9;simp only [bI] at sZ AU;have aG:=ł (gtr HG2.out hG);have Aq:=ł (ai bC.out hG);have dI:=ł (fun (y:World) (hy:Grow w3 y)=>And.intro (aA.out.later (gtr aG.out hy)) (And.intro (ai sZ.out hy) (ai AU.out hy)));obtain ⟨⟨n0,n1⟩,n2,n3⟩:=aF sZ.out;have hl1:=lt_of_block sZ.out;clear hE hG b8 b9 HK aL bC ji nO hl;rcases AR.out with hk | ⟨hk,h0,hex⟩
 · have hk2:pk=2:=hk;subst hk2;go_upto_region 3 with fail;clear n0 n1 n2 n3 hl1 hk;refine fJ 68 [some 24,some 25,some 26,some 27,some 28,some 29,some 9,none] [[],[],[1],[0,2],[3],[4],[],[6,5]] [4] [.c (.pointer (some ⟨G,0,none⟩)),.c (.pointer (some ⟨g8,2,none⟩)),.c (.string ps),.c (.int .i64 (ak f ps 1)),.p (fun v y=>∃ g,v = .slice (some ⟨g,0,none⟩) 2 2∧y.heap[g]? = some (.cells #[.int .i64 5,.int .i64 (ak f ps 1)] 3 (0,0))),.c (.agg #[.int .u8 10,.int .i64 5,.int .i64 (ak f ps 1),.int .i64 0,.int .i64 0]),.al 7 5 #[.int .u8 0,.int .i64 0,.int .i64 0,.int .i64 0,.int .i64 0] 57,.st 6] ⟨sH,trivial⟩ (dJ rfl) ?steps ?done
   case steps =>
    refine ⟨?s0,?s1,?s2,?s3,?s4,?s5,?s6,?s7,trivial⟩
    case s0 | s1 =>
     refine oo (fun vs x hP => ?_);simp only [zS];go_simp;exact gc
    case s2 =>
     refine ok0 dI (fun vs x hG HX hP => ?_);obtain ⟨⟨n0,n1⟩,n2,n3⟩:=aF HX.out.2.1;simp only [zS];go_simp;exact gc
    case s3 =>
     refine ok0 dI (fun vs x hG HX hP => ?_);have HC:=ł (tY x G _ _ f procs HX.out.1 ps 1);simp only [zS];go_simp;refine (HC.out).mono ?_;rintro e y ⟨rfl,hg⟩;exact ⟨_,rfl,bz hg rfl⟩
    case s4 =>
     refine oo (fun vs x hP => ?_);simp only [zS];go_simp;exact gl ⟨_,rfl,heap_alloc_new x _⟩
    case s5 =>
     refine ok0 dI (fun vs x hG HX hP => ?_);obtain ⟨g4,h4,b4⟩:=pq hP 4;have HC:=ł (fO 10 (5) ((ak f ps 1)) g4 _ x b4);simp only [zS,h4];go_simp;refine (HC.out).mono ?_;rintro e y ⟨rfl,hg⟩;exact ⟨_,rfl,bz hg rfl⟩
    case s6 =>
     refine oz (fun vs x => ?_);simp only [zS];go_simp;exact ⟨rfl,rfl⟩
    case s7 =>
     refine os (fun vs x g hg hb hv => ?_);have h5:vs 5=_:=hv;obtain ⟨⟨c0,c1,c2⟩,c3,c4⟩:=bR hb;have zt:=aJ hb;simp only [zS,hg,h5];go_simp;exact jQ hb _ _ _ _ _
   case done =>
   intro vs w4 hE;have hG:=hE.jI;obtain ⟨g6,a6,l6,m6,b6⟩:=hE.box 6;simp only [zS] at b6;simp only [zS,Nat.reduceAdd,a6];have gI:=ł b6;simp only [bI] at gI;have wh:=ł (gtr aG.out hG);have ku:=ł (ai Aq.out hG);have zi:=ł (fun (z:World) (hz:Grow w z)=>BV.out z hz);have bf:=ł (fun (y:World) (hy:Grow w4 y)=>And.intro trivial (And.intro (ai AU.out (gtr hG hy)) (ai gI.out hy)));clear hE hG b6 dI BV;go_upto_region 4 with fail;refine wg 68 [some 30,some 31,some 32,some 33,some 34,some 35,some 36,some 37,some 38,some 39,none] [[],[],[],[],[],[3,4],[],[2,5,6],[7],[0,1,8],[9]] [4,7] [.c (.pointer (some ⟨G,0,none⟩)),.c (.agg #[.int .u8 ek,.int .i64 en,.string es,.slice ea el.length ec]),.c (.agg #[.int .u8 10,.int .i64 5,.int .i64 (ak f ps 1),.int .i64 0,.int .i64 0]),.c (.int .u8 op),.p (fun v y=>∃ g,v = .slice (some ⟨g,0,none⟩) 2 2∧y.heap[g]? = some (.cells #[.int .i64 5,.int .i64 4] 3 (0,0))),.c (.agg #[.int .u8 op,.int .i64 5,.int .i64 4,.int .i64 0,.int .i64 0]),.c (.agg #[.int .u8 10,.int .i64 5,.int .i64 (ak f ps 1),.int .i64 0,.int .i64 0]),.p (fun v y=>∃ g,v = .slice (some ⟨g,0,none⟩) 3 3∧ax 5 Ins.cells y (.slice (some ⟨g,0,none⟩) 3 3) ([⟨10,5,ak f ps 1,0,0⟩,⟨op,5,4,0,0⟩,⟨10,5,ak f ps 1,0,0⟩]:List Ins)),.p (fun v y=>ay y v (ah ([⟨10,5,ak f ps 1,0,0⟩,⟨op,5,4,0,0⟩,⟨10,5,ak f ps 1,0,0⟩]:List Ins))),.p (fun v y=>ay y v (aH f (ae.t (.mk ek en es (.slice ea el.length ec) el)) (ah ([⟨10,5,ak f ps 1,0,0⟩,⟨op,5,4,0,0⟩,⟨10,5,ak f ps 1,0,0⟩]:List Ins)))),.rs (w.heap.size+1) 9 #[.slice none 0 0,.slice none 0 0] 34] ⟨sH,sR,sP,sP,trivial⟩ (ik (n:=10) rfl rfl (ku.out)) ?steps ?done
   case steps =>
    refine ⟨?s0,?s1,?s2,?s3,?s4,?s5,?s6,?s7,?s8,?s9,?s10,trivial⟩
    case s0 | s3 =>
     refine oo (fun vs x hP => ?_);simp only [zS];go_simp;exact gc
    case s1 =>
     refine ok bf (fun vs x hG HX hP => ?_);obtain ⟨⟨n0,n1⟩,n2,n3⟩:=aF HX.out.2.1;simp only [zS];go_simp;exact gc
    case s2 | s6 =>
     refine ok bf (fun vs x hG HX hP => ?_);obtain ⟨⟨i0,i1,i2⟩,i3,i4⟩:=bR HX.out.2.2;simp only [zS];go_simp;exact gc
    case s4 =>
     refine oo (fun vs x hP => ?_);simp only [zS];go_simp;exact gl ⟨_,rfl,heap_alloc_new x _⟩
    case s5 =>
     refine ok bf (fun vs x hG HX hP => ?_);obtain ⟨g4,h4,b4⟩:=pq hP 4;have HC:=ł (fO op (5) (4) g4 _ x b4);simp only [zS,h4];go_simp;refine (HC.out).mono ?_;rintro e y ⟨rfl,hg⟩;exact ⟨_,rfl,bz hg rfl⟩
    case s7 =>
     refine oo (fun vs x hP => ?_);simp only [zS];go_simp;exact gl ⟨_,rfl,ax.bH (f:=Ins.cells) (l:=([⟨10,5,ak f ps 1,0,0⟩,⟨op,5,4,0,0⟩,⟨10,5,ak f ps 1,0,0⟩]:List Ins)) (fun _=>rfl) (heap_alloc_new x _) rfl (by simp)⟩
    case s8 =>
     refine ok bf (fun vs x hG HX hP => ?_);obtain ⟨g7,h7,b7⟩:=pq hP 7;have HC:=ł (gQ _ _ x b7);simp only [zS,h7];go_simp;refine (HC.out).mono ?_;rintro e y ⟨v,rfl,hp,hg⟩;exact ⟨_,rfl,aY hg hp⟩
    case s9 =>
     refine ok bf (fun vs x hG HX hP => ?_);have p8:=pq hP 8;have jk:=p8;obtain ⟨ca8,nL,nM,nN,h8,c8,f8⟩:=p8;rw [h8] at jk;have HC:=ł (zi.out x (gtr wh.out hG) _ _ jk (by simp [ah]));simp only [zS,h8];go_simp;refine (HC.out).mono ?_;rintro e y ⟨v,rfl,hp,hg⟩;exact ⟨_,rfl,aY hg hp⟩
    case s10 =>
     refine il (fun vs x hb hv => ?_);obtain ⟨dM,dN,dV,dW,h9,c9,f9⟩:=hv;obtain ⟨c0,c1⟩:=aB hb;have zt:=aJ hb;simp only [zS,h9];go_simp;exact set2 hb _ _
   case done =>
   intro vs w5 hE;have p8:=hE.val 8;have jk:=p8;obtain ⟨ca8,nL,nM,nN,h8,c8,f8⟩:=p8;rw [h8] at jk;obtain ⟨dM,dN,dV,dW,h9,c9,f9⟩:=hE.val 9;have b10:=hE.res 10;simp only [zS,h9] at b10;simp only [zS,Nat.reduceAdd,h8,h9];have HM:=ł (hE.last 10);have aM:=ł (show Grow w w5 from Mv.trans wh.out HM.out (fun b e => .inr (by omega)));have bu:=ł (show ay w5 (.agg #[.slice dM (aH f (ae.t (.mk ek en es (.slice ea el.length ec) el)) (ah ([⟨10,5,ak f ps 1,0,0⟩,⟨op,5,4,0,0⟩,⟨10,5,ak f ps 1,0,0⟩]:List Ins))).code.length dN,.slice dV (aH f (ae.t (.mk ek en es (.slice ea el.length ec) el)) (ah ([⟨10,5,ak f ps 1,0,0⟩,⟨op,5,4,0,0⟩,⟨10,5,ak f ps 1,0,0⟩]:List Ins))).refs.length dW]) (aH f (ae.t (.mk ek en es (.slice ea el.length ec) el)) (ah ([⟨10,5,ak f ps 1,0,0⟩,⟨op,5,4,0,0⟩,⟨10,5,ak f ps 1,0,0⟩]:List Ins))) from ⟨dM,dN,dV,dW,rfl,c9,f9⟩);have HB:=ł b10;clear hE b10 HM c9 f9;simp only [bI] at HB;go_wp2_with fail;obtain ⟨t0,t1⟩:=aB HB.out;exact bodyPost_ret (v := .agg #[.slice dM (aH f (ae.t (.mk ek en es (.slice ea el.length ec) el)) (ah ([⟨10,5,ak f ps 1,0,0⟩,⟨op,5,4,0,0⟩,⟨10,5,ak f ps 1,0,0⟩]:List Ins))).code.length dN,.slice dV (aH f (ae.t (.mk ek en es (.slice ea el.length ec) el)) (ah ([⟨10,5,ak f ps 1,0,0⟩,⟨op,5,4,0,0⟩,⟨10,5,ak f ps 1,0,0⟩]:List Ins))).refs.length dW]) (by simp [results,Tryz.results78,go_sem,t0,t1]) rfl ⟨_,rfl,bu.out,aM.out⟩
 · have hk3:pk=3:=hk;subst hk3
   replace h0:0<pl.length:=by rw [← ae.cZ];exact h0
   rw [gY 0 h0] at hex;have KU:=ł h0;have SQ:=ł (gY (k:=3) (n:=pn) (s:=ps) (kv := .slice pa pl.length pc) 0 h0);obtain ⟨pb,po,pc',hpv,-,-⟩:=fK.out.row.2.2.2.1.at h0;simp only [Value.slice.injEq,true_and] at hpv;obtain ⟨rfl,rfl⟩:=hpv;have Df:=eY fK.out 0 h0;simp only [Nat.zero_mul,Nat.add_zero] at Df;have Gx:=ł (show lS f (ae.t (.mk 3 pn ps (.slice (some ⟨pb,po,none⟩) pl.length pc) pl)) (ae.t (.mk ek en es (.slice ea el.length ec) el)) op=aH f (Tree.kid (ae.t (.mk 3 pn ps (.slice (some ⟨pb,po,none⟩) pl.length pc) pl)) 0) (aK [kT,aH f (ae.t (.mk ek en es (.slice ea el.length ec) el)) (ah [eF f (ae.t (.mk 3 pn ps (.slice (some ⟨pb,po,none⟩) pl.length pc) pl)) 6 5,⟨op,6,4,0,0⟩,eF f (ae.t (.mk 3 pn ps (.slice (some ⟨pb,po,none⟩) pl.length pc) pl)) 6 5]),kT]) from rfl);rw [SQ.out] at Gx;generalize pl[0]=yy at *;have SS:=ł (wT w G _ _ f procs aA.out yy Df.at_ hex hc0 hc1);obtain ⟨yk,yn,ys,yv,yl⟩:=yy;obtain ⟨ya,yc,rfl,-,-⟩:=Df.at_.form;simp only [ae.val] at SS;have HKY:=ł Df;have HIT:=ł (show eF f (ae.t (.mk 3 pn ps (.slice (some ⟨pb,po,none⟩) pl.length pc) pl)) 6 5=⟨11,6,5,((au f ps 2).getD noSlot).at',((au f ps 2).getD noSlot).len⟩ from rfl);rw [HIT.out] at Gx;have Gt:=ł (show Ins.val (eF f (ae.t (.mk 3 pn ps (.slice (some ⟨pb,po,none⟩) pl.length pc) pl)) 6 5) = .agg #[.int .u8 11,.int .i64 6,.int .i64 5,.int .i64 ((au f ps 2).getD noSlot).at',.int .i64 ((au f ps 2).getD noSlot).len] from rfl);generalize (au f ps 2).getD noSlot=sp at *;generalize lS f (ae.t (.mk 3 pn ps (.slice (some ⟨pb,po,none⟩) pl.length pc) pl)) (ae.t (.mk ek en es (.slice ea el.length ec) el)) op=UC at *;have huc:=Gx.out;subst huc;have gM:=ł (show aP [ah ([⟨7,4,5,0,0⟩]:List Ins),aH f (ae.t (.mk ek en es (.slice ea el.length ec) el)) (ah ([⟨11,6,5,sp.at',sp.len⟩,⟨op,6,4,0,0⟩,⟨11,6,5,sp.at',sp.len⟩]:List Ins)),ah ([⟨7,4,5,0,0⟩]:List Ins)]≤200000∧bS [ah ([⟨7,4,5,0,0⟩]:List Ins),aH f (ae.t (.mk ek en es (.slice ea el.length ec) el)) (ah ([⟨11,6,5,sp.at',sp.len⟩,⟨op,6,4,0,0⟩,⟨11,6,5,sp.at',sp.len⟩]:List Ins)),ah ([⟨7,4,5,0,0⟩]:List Ins)]≤200000 from by
    have h1:=kK f (ae.t (.mk ek en es (.slice ea el.length ec) el)) (ah ([⟨11,6,5,sp.at',sp.len⟩,⟨op,6,4,0,0⟩,⟨11,6,5,sp.at',sp.len⟩]:List Ins));have h2:=lM.out.l;simp only [aP,bS,List.map_cons,List.map_nil,List.sum_cons,List.sum_nil,h1.1,h1.2];simp only [ah,List.length_cons,List.length_nil]
    omega)
   have KV:=ł (show (aK [ah ([⟨7,4,5,0,0⟩]:List Ins),aH f (ae.t (.mk ek en es (.slice ea el.length ec) el)) (ah ([⟨11,6,5,sp.at',sp.len⟩,⟨op,6,4,0,0⟩,⟨11,6,5,sp.at',sp.len⟩]:List Ins)),ah ([⟨7,4,5,0,0⟩]:List Ins)]).code.length≤200000 from by rw [(dY _).1];exact gM.out.1);go_upto_region 5 with fail;clear n0 n1 n2 n3 hl1 hk h0 hex Df HIT SQ Gx;refine fJ 68 [some 40,some 41,some 42,some 10,none] [[],[],[0,1],[],[3,2]] [] [.c (.pointer (some ⟨G,0,none⟩)),.c (.agg #[.int .u8 3,.int .i64 pn,.string ps,.slice (some ⟨pb,po,none⟩) pl.length pc]),.c (.agg #[.int .u8 11,.int .i64 6,.int .i64 5,.int .i64 sp.at',.int .i64 sp.len]),.al 4 2 #[.int .u8 0,.int .i64 0,.int .i64 0,.int .i64 0,.int .i64 0] 57,.st 3] trivial (dJ rfl) ?steps ?done
   case steps =>
    refine ⟨?s0,?s1,?s2,?s3,?s4,trivial⟩
    case s0 =>
     refine oo (fun vs x hP => ?_);simp only [zS];go_simp;exact gc
    case s1 =>
     refine ok0 dI (fun vs x hG HX hP => ?_);obtain ⟨⟨n0,n1⟩,n2,n3⟩:=aF HX.out.2.1;simp only [zS];go_simp;exact gc
    case s2 =>
     refine ok0 dI (fun vs x hG HX hP => ?_);have HC:=ł (El x G _ _ f procs HX.out.1 (.mk 3 pn ps (.slice (some ⟨pb,po,none⟩) pl.length pc) pl) 6 5 (fK.out.later (gtr aG.out hG)));simp only [ae.val,Gt.out] at HC;simp only [zS];go_simp;refine (HC.out).mono ?_;rintro e y ⟨rfl,hg⟩;exact ⟨_,rfl,bz hg rfl⟩
    case s3 =>
     refine oz (fun vs x => ?_);simp only [zS];go_simp;exact ⟨rfl,rfl⟩
    case s4 =>
     refine os (fun vs x g hg hb hv => ?_);have h2:vs 2=_:=hv;obtain ⟨⟨c0,c1,c2⟩,c3,c4⟩:=bR hb;have zt:=aJ hb;simp only [zS,hg,h2];go_simp;exact jQ hb _ _ _ _ _
   case done =>
   intro vs w4 hE;have hG:=hE.jI;obtain ⟨g3,a3,l3,m3,b3⟩:=hE.box 3;simp only [zS] at b3;simp only [zS,Nat.reduceAdd,a3];have HB3:=ł b3;simp only [bI] at HB3;have wh:=ł (gtr aG.out hG);have ku:=ł (ai Aq.out hG);have BX:=ł hG;have zi:=ł (fun (z:World) (hz:Grow w z)=>BV.out z hz);have bf:=ł (fun (y:World) (hy:Grow w4 y)=>And.intro trivial (And.intro (ai AU.out (gtr hG hy)) (ai HB3.out hy)));clear hE hG b3 dI BV;go_upto_region 6 with fail;refine wg 68 [some 43,some 44,some 45,some 46,some 47,some 48,some 49,some 50,some 51,some 52,some 11,none] [[],[],[],[],[],[3,4],[],[2,5,6],[7],[0,1,8],[],[10,9]] [4,7] [.c (.pointer (some ⟨G,0,none⟩)),.c (.agg #[.int .u8 ek,.int .i64 en,.string es,.slice ea el.length ec]),.c (.agg #[.int .u8 11,.int .i64 6,.int .i64 5,.int .i64 sp.at',.int .i64 sp.len]),.c (.int .u8 op),.p (fun v y=>∃ g,v = .slice (some ⟨g,0,none⟩) 2 2∧y.heap[g]? = some (.cells #[.int .i64 6,.int .i64 4] 3 (0,0))),.c (.agg #[.int .u8 op,.int .i64 6,.int .i64 4,.int .i64 0,.int .i64 0]),.c (.agg #[.int .u8 11,.int .i64 6,.int .i64 5,.int .i64 sp.at',.int .i64 sp.len]),.p (fun v y=>∃ g,v = .slice (some ⟨g,0,none⟩) 3 3∧ax 5 Ins.cells y (.slice (some ⟨g,0,none⟩) 3 3) ([⟨11,6,5,sp.at',sp.len⟩,⟨op,6,4,0,0⟩,⟨11,6,5,sp.at',sp.len⟩]:List Ins)),.p (fun v y=>ay y v (ah ([⟨11,6,5,sp.at',sp.len⟩,⟨op,6,4,0,0⟩,⟨11,6,5,sp.at',sp.len⟩]:List Ins))),.p (fun v y=>ay y v (aH f (ae.t (.mk ek en es (.slice ea el.length ec) el)) (ah ([⟨11,6,5,sp.at',sp.len⟩,⟨op,6,4,0,0⟩,⟨11,6,5,sp.at',sp.len⟩]:List Ins)))),.al 11 9 #[.slice none 0 0,.slice none 0 0] 34,.st 10] ⟨sH,sR,sP,sP,trivial⟩ (dJ rfl) ?steps ?done
   case steps =>
    refine ⟨?s0,?s1,?s2,?s3,?s4,?s5,?s6,?s7,?s8,?s9,?s10,?s11,trivial⟩
    case s0 | s3 =>
     refine oo (fun vs x hP => ?_);simp only [zS];go_simp;exact gc
    case s1 =>
     refine ok bf (fun vs x hG HX hP => ?_);obtain ⟨⟨n0,n1⟩,n2,n3⟩:=aF HX.out.2.1;simp only [zS];go_simp;exact gc
    case s2 | s6 =>
     refine ok bf (fun vs x hG HX hP => ?_);obtain ⟨⟨i0,i1,i2⟩,i3,i4⟩:=bR HX.out.2.2;simp only [zS];go_simp;exact gc
    case s4 =>
     refine oo (fun vs x hP => ?_);simp only [zS];go_simp;exact gl ⟨_,rfl,heap_alloc_new x _⟩
    case s5 =>
     refine ok bf (fun vs x hG HX hP => ?_);obtain ⟨g4,h4,b4⟩:=pq hP 4;have HC:=ł (fO op (6) (4) g4 _ x b4);simp only [zS,h4];go_simp;refine (HC.out).mono ?_;rintro e y ⟨rfl,hg⟩;exact ⟨_,rfl,bz hg rfl⟩
    case s7 =>
     refine oo (fun vs x hP => ?_);simp only [zS];go_simp;exact gl ⟨_,rfl,ax.bH (f:=Ins.cells) (l:=([⟨11,6,5,sp.at',sp.len⟩,⟨op,6,4,0,0⟩,⟨11,6,5,sp.at',sp.len⟩]:List Ins)) (fun _=>rfl) (heap_alloc_new x _) rfl (by simp)⟩
    case s8 =>
     refine ok bf (fun vs x hG HX hP => ?_);obtain ⟨g7,h7,b7⟩:=pq hP 7;have HC:=ł (gQ _ _ x b7);simp only [zS,h7];go_simp;refine (HC.out).mono ?_;rintro e y ⟨v,rfl,hp,hg⟩;exact ⟨_,rfl,aY hg hp⟩
    case s9 =>
     refine ok bf (fun vs x hG HX hP => ?_);have p8:=pq hP 8;have jk:=p8;obtain ⟨ca8,nL,nM,nN,h8,c8,f8⟩:=p8;rw [h8] at jk;have HC:=ł (zi.out x (gtr wh.out hG) _ _ jk (by simp [ah]));simp only [zS,h8];go_simp;refine (HC.out).mono ?_;rintro e y ⟨v,rfl,hp,hg⟩;exact ⟨_,rfl,aY hg hp⟩
    case s10 =>
     refine oz (fun vs x => ?_);simp only [zS];go_simp;exact ⟨rfl,rfl⟩
    case s11 =>
     refine os (fun vs x g hg hb hv => ?_);obtain ⟨dM,dN,dV,dW,h9,c9,f9⟩:=hv;obtain ⟨c0,c1⟩:=aB hb;have zt:=aJ hb;simp only [zS,hg,h9];go_simp;exact set2 hb _ _
   case done =>
   intro vs w5 hE;have hG:=hE.grow;have p8:=hE.val 8;have jk:=p8;obtain ⟨ca8,nL,nM,nN,h8,c8,f8⟩:=p8;rw [h8] at jk;obtain ⟨dM,dN,dV,dW,h9,c9,f9⟩:=hE.val 9;obtain ⟨g10,y9,l10,m10,b10⟩:=hE.box 10;simp only [zS,h9] at b10;simp only [zS,Nat.reduceAdd,h8,h9,y9];have yJ:=ł b10;simp only [bI] at yJ;have zo:=ł (show ay w5 (.agg #[.slice dM (aH f (ae.t (.mk ek en es (.slice ea el.length ec) el)) (ah ([⟨11,6,5,sp.at',sp.len⟩,⟨op,6,4,0,0⟩,⟨11,6,5,sp.at',sp.len⟩]:List Ins))).code.length dN,.slice dV (aH f (ae.t (.mk ek en es (.slice ea el.length ec) el)) (ah ([⟨11,6,5,sp.at',sp.len⟩,⟨op,6,4,0,0⟩,⟨11,6,5,sp.at',sp.len⟩]:List Ins))).refs.length dW]) (aH f (ae.t (.mk ek en es (.slice ea el.length ec) el)) (ah ([⟨11,6,5,sp.at',sp.len⟩,⟨op,6,4,0,0⟩,⟨11,6,5,sp.at',sp.len⟩]:List Ins))) from ⟨dM,dN,dV,dW,rfl,c9,f9⟩);have aS:=ł (gtr wh.out hG);have Qo:=ł (gtr BX.out hG);have jR:=ł (ai ku.out hG);clear hE hG b10 c9 f9 bf zi BX;go_upto_region 7 with fail;refine fJ 68 [some 53,some 54,some 55,some 56,some 12,none] [[],[0],[1],[2],[],[4,3]] [0,2] [.p (fun v y=>∃ g,v = .slice (some ⟨g,0,none⟩) 2 2∧y.heap[g]? = some (.cells #[.int .i64 4,.int .i64 5] 3 (0,0))),.c (.agg #[.int .u8 7,.int .i64 4,.int .i64 5,.int .i64 0,.int .i64 0]),.p (fun v y=>∃ g,v = .slice (some ⟨g,0,none⟩) 1 1∧ax 5 Ins.cells y (.slice (some ⟨g,0,none⟩) 1 1) ([⟨7,4,5,0,0⟩]:List Ins)),.p (fun v y=>ay y v (ah ([⟨7,4,5,0,0⟩]:List Ins))),.al 5 3 #[.slice none 0 0,.slice none 0 0] 34,.st 4] ⟨sH,sR,sP,trivial⟩ (dJ rfl) ?steps ?done
   case steps =>
    refine ⟨?s0,?s1,?s2,?s3,?s4,?s5,trivial⟩
    case s0 =>
     refine oo (fun vs x hP => ?_);simp only [zS];go_simp;exact gl ⟨_,rfl,heap_alloc_new x _⟩
    case s1 =>
     refine nD (fun vs x hG hP => ?_);obtain ⟨g0,h0,b0⟩:=pq hP 0;have HX:=ł hG;have HC:=ł (fO 7 (4) (5) g0 _ x b0);simp only [zS,h0];go_simp;refine (HC.out).mono ?_;rintro e y ⟨rfl,hg⟩;exact ⟨_,rfl,bz hg rfl⟩
    case s2 =>
     refine oo (fun vs x hP => ?_);simp only [zS];go_simp;exact gl ⟨_,rfl,ax.bH (f:=Ins.cells) (l:=([⟨7,4,5,0,0⟩]:List Ins)) (fun _=>rfl) (heap_alloc_new x _) rfl (by simp)⟩
    case s3 =>
     refine nD (fun vs x hG hP => ?_);obtain ⟨g2,h2,b2⟩:=pq hP 2;have HX:=ł hG;have HC:=ł (gQ _ _ x b2);simp only [zS,h2];go_simp;refine (HC.out).mono ?_;rintro e y ⟨v,rfl,hp,hg⟩;exact ⟨_,rfl,aY hg hp⟩
    case s4 =>
     refine oz (fun vs x => ?_);simp only [zS];go_simp;exact ⟨rfl,rfl⟩
    case s5 =>
     refine os (fun vs x g hg hb hv => ?_);obtain ⟨nP,nQ,mQ,nR,h3,c3,f3⟩:=hv;obtain ⟨c0,c1⟩:=aB hb;have zt:=aJ hb;simp only [zS,hg,h3];go_simp;exact set2 hb _ _
   case done =>
   intro vs w6 hE;have hG:=hE.jI;obtain ⟨nP,nQ,mQ,nR,h3,c3,f3⟩:=hE.val 3;obtain ⟨g4,a4,l4,m4,b4⟩:=hE.box 4;simp only [zS,h3] at b4;simp only [zS,Nat.reduceAdd,h3,a4];have uM:=ł b4;simp only [bI] at uM;have CP:=ł (show ay w6 (.agg #[.slice nP (ah ([⟨7,4,5,0,0⟩]:List Ins)).code.length nQ,.slice mQ (ah ([⟨7,4,5,0,0⟩]:List Ins)).refs.length nR]) (ah ([⟨7,4,5,0,0⟩]:List Ins)) from ⟨nP,nQ,mQ,nR,rfl,c3,f3⟩);have bP:=ł (gtr aS.out hG);have ZB:=ł (gtr Qo.out hG);have yI:=ł (ai jR.out hG);have fA:=ł (fun (y:World) (hy:Grow w6 y)=>And.intro (ai sZ.out (gtr ZB.out hy)) (And.intro (ai uM.out hy) (And.intro (ai yJ.out (gtr hG hy)) (And.intro (CP.out.later hy) (And.intro (zo.out.later (gtr hG hy)) (HKY.out.later (gtr bP.out hy)))))));clear hE hG b4 c3 f3 Qo;go_upto_region 8 with fail;refine wg 68 [some 57,some 58,some 59,some 60,some 61,some 62,some 63,some 64,some 65,some 66,some 67,none] [[],[],[1],[2],[3],[],[],[],[5,6,7],[8],[0,4,9],[10]] [8] [.c (.pointer (some ⟨G,0,none⟩)),.c (.pointer (some ⟨g8,3,none⟩)),.c (.slice (some ⟨pb,po,none⟩) pl.length pc),.c (.pointer (some ⟨pb,po,none⟩)),.c (.agg #[.int .u8 yk,.int .i64 yn,.string ys,.slice ya yl.length yc]),.c (.agg #[.slice nP (ah ([⟨7,4,5,0,0⟩]:List Ins)).code.length nQ,.slice mQ (ah ([⟨7,4,5,0,0⟩]:List Ins)).refs.length nR]),.c (.agg #[.slice dM (aH f (ae.t (.mk ek en es (.slice ea el.length ec) el)) (ah ([⟨11,6,5,sp.at',sp.len⟩,⟨op,6,4,0,0⟩,⟨11,6,5,sp.at',sp.len⟩]:List Ins))).code.length dN,.slice dV (aH f (ae.t (.mk ek en es (.slice ea el.length ec) el)) (ah ([⟨11,6,5,sp.at',sp.len⟩,⟨op,6,4,0,0⟩,⟨11,6,5,sp.at',sp.len⟩]:List Ins))).refs.length dW]),.c (.agg #[.slice nP (ah ([⟨7,4,5,0,0⟩]:List Ins)).code.length nQ,.slice mQ (ah ([⟨7,4,5,0,0⟩]:List Ins)).refs.length nR]),.p (fun v y=>∃ g,v = .slice (some ⟨g,0,none⟩) 3 3∧gG y (.slice (some ⟨g,0,none⟩) 3 3) [ah ([⟨7,4,5,0,0⟩]:List Ins),aH f (ae.t (.mk ek en es (.slice ea el.length ec) el)) (ah ([⟨11,6,5,sp.at',sp.len⟩,⟨op,6,4,0,0⟩,⟨11,6,5,sp.at',sp.len⟩]:List Ins)),ah ([⟨7,4,5,0,0⟩]:List Ins)]),.p (fun v y=>ay y v (aK [ah ([⟨7,4,5,0,0⟩]:List Ins),aH f (ae.t (.mk ek en es (.slice ea el.length ec) el)) (ah ([⟨11,6,5,sp.at',sp.len⟩,⟨op,6,4,0,0⟩,⟨11,6,5,sp.at',sp.len⟩]:List Ins)),ah ([⟨7,4,5,0,0⟩]:List Ins)])),.p (fun v y=>ay y v (aH f (ae.t (.mk yk yn ys (.slice ya yl.length yc) yl)) (aK [ah ([⟨7,4,5,0,0⟩]:List Ins),aH f (ae.t (.mk ek en es (.slice ea el.length ec) el)) (ah ([⟨11,6,5,sp.at',sp.len⟩,⟨op,6,4,0,0⟩,⟨11,6,5,sp.at',sp.len⟩]:List Ins)),ah ([⟨7,4,5,0,0⟩]:List Ins)]))),.rs (w.heap.size+1) 10 #[.slice none 0 0,.slice none 0 0] 34] ⟨sQ,sP,sP,trivial⟩ (ik (n:=11) rfl rfl (yI.out)) ?steps ?done
   case steps =>
    refine ⟨?s0,?s1,?s2,?s3,?s4,?s5,?s6,?s7,?s8,?s9,?s10,?s11,trivial⟩
    case s0 | s1 =>
     refine oo (fun vs x hP => ?_);simp only [zS];go_simp;exact gc
    case s2 =>
     refine ok fA (fun vs x hG HX hP => ?_);obtain ⟨⟨n0,n1⟩,n2,n3⟩:=aF (HX.out.1);simp only [zS];go_simp;exact gc
    case s3 =>
     refine ok fA (fun vs x hG HX hP => ?_);have hbd:0<pl.length:=by have:=KU.out;omega
     simp only [zS];go_simp;exact gc
    case s4 =>
     refine ok fA (fun vs x hG HX hP => ?_);obtain ⟨⟨d0,d1⟩,d2,d3⟩:=(HX.out.2.2.2.2.2).four;simp only [zS];go_simp;exact gc
    case s5 | s7 =>
     refine ok fA (fun vs x hG HX hP => ?_);obtain ⟨i0,i1⟩:=aB HX.out.2.1;simp only [zS];go_simp;exact gc
    case s6 =>
     refine ok fA (fun vs x hG HX hP => ?_);obtain ⟨i0,i1⟩:=aB HX.out.2.2.1;simp only [zS];go_simp;exact gc
    case s8 =>
     refine ok fA (fun vs x hG HX hP => ?_);simp only [zS];go_simp;exact gl ⟨_,rfl,qB (vs:=[(.slice nP (ah ([⟨7,4,5,0,0⟩]:List Ins)).code.length nQ,.slice mQ (ah ([⟨7,4,5,0,0⟩]:List Ins)).refs.length nR),(.slice dM (aH f (ae.t (.mk ek en es (.slice ea el.length ec) el)) (ah ([⟨11,6,5,sp.at',sp.len⟩,⟨op,6,4,0,0⟩,⟨11,6,5,sp.at',sp.len⟩]:List Ins))).code.length dN,.slice dV (aH f (ae.t (.mk ek en es (.slice ea el.length ec) el)) (ah ([⟨11,6,5,sp.at',sp.len⟩,⟨op,6,4,0,0⟩,⟨11,6,5,sp.at',sp.len⟩]:List Ins))).refs.length dW),(.slice nP (ah ([⟨7,4,5,0,0⟩]:List Ins)).code.length nQ,.slice mQ (ah ([⟨7,4,5,0,0⟩]:List Ins)).refs.length nR)]) (heap_alloc_new x _) rfl ⟨ay.later (HX.out.2.2.2.1) ((Mv.refl _ _).alloc _),ay.later (HX.out.2.2.2.2.1) ((Mv.refl _ _).alloc _),ay.later (HX.out.2.2.2.1) ((Mv.refl _ _).alloc _),trivial⟩⟩
    case s9 =>
     refine ok fA (fun vs x hG HX hP => ?_);obtain ⟨g8,h8,b8⟩:=pq hP 8;have HC:=ł (uT _ _ x b8 gM.out.1 gM.out.2 (by simp));simp only [zS,h8];go_simp;refine (HC.out).mono ?_;rintro e y ⟨v,rfl,hp,hg⟩;exact ⟨_,rfl,aY hg hp.at⟩
    case s10 =>
     refine ok fA (fun vs x hG HX hP => ?_);have p9:=pq hP 9;have wB:=p9;obtain ⟨dM,dN,dV,dW,h9,c9,f9⟩:=p9;rw [h9] at wB;have HC:=ł (SS.out x (gtr bP.out hG) _ _ wB KV.out);simp only [zS,h9];go_simp;refine (HC.out).mono ?_;rintro e y ⟨v,rfl,hp,hg⟩;exact ⟨_,rfl,aY hg hp⟩
    case s11 =>
     refine il (fun vs x hb hv => ?_);obtain ⟨pG,pI,rY,rZ,h10,c10,f10⟩:=hv;obtain ⟨c0,c1⟩:=aB hb;have zt:=aJ hb;simp only [zS,h10];go_simp;exact set2 hb _ _
   case done =>
   intro vs w7 hE;have p9:=hE.val 9;have wB:=p9;obtain ⟨dM,dN,dV,dW,h9,c9,f9⟩:=p9;rw [h9] at wB;obtain ⟨pG,pI,rY,rZ,h10,c10,f10⟩:=hE.val 10;have b11:=hE.res 11;simp only [zS,h10] at b11;simp only [zS,Nat.reduceAdd,h9,h10];have HM:=ł (hE.last 11);have aM:=ł (show Grow w w7 from Mv.trans bP.out HM.out (fun b e => .inr (by omega)));have bu:=ł (show ay w7 (.agg #[.slice pG (aH f (ae.t (.mk yk yn ys (.slice ya yl.length yc) yl)) (aK [ah ([⟨7,4,5,0,0⟩]:List Ins),aH f (ae.t (.mk ek en es (.slice ea el.length ec) el)) (ah ([⟨11,6,5,sp.at',sp.len⟩,⟨op,6,4,0,0⟩,⟨11,6,5,sp.at',sp.len⟩]:List Ins)),ah ([⟨7,4,5,0,0⟩]:List Ins)])).code.length pI,.slice rY (aH f (ae.t (.mk yk yn ys (.slice ya yl.length yc) yl)) (aK [ah ([⟨7,4,5,0,0⟩]:List Ins),aH f (ae.t (.mk ek en es (.slice ea el.length ec) el)) (ah ([⟨11,6,5,sp.at',sp.len⟩,⟨op,6,4,0,0⟩,⟨11,6,5,sp.at',sp.len⟩]:List Ins)),ah ([⟨7,4,5,0,0⟩]:List Ins)])).refs.length rZ]) (aH f (ae.t (.mk yk yn ys (.slice ya yl.length yc) yl)) (aK [ah ([⟨7,4,5,0,0⟩]:List Ins),aH f (ae.t (.mk ek en es (.slice ea el.length ec) el)) (ah ([⟨11,6,5,sp.at',sp.len⟩,⟨op,6,4,0,0⟩,⟨11,6,5,sp.at',sp.len⟩]:List Ins)),ah ([⟨7,4,5,0,0⟩]:List Ins)])) from ⟨pG,pI,rY,rZ,rfl,c10,f10⟩);have HB:=ł b11;clear hE b11 HM c10 f10;simp only [bI] at HB;go_wp2_with fail;obtain ⟨t0,t1⟩:=aB HB.out;exact bodyPost_ret (v := .agg #[.slice pG (aH f (ae.t (.mk yk yn ys (.slice ya yl.length yc) yl)) (aK [ah ([⟨7,4,5,0,0⟩]:List Ins),aH f (ae.t (.mk ek en es (.slice ea el.length ec) el)) (ah ([⟨11,6,5,sp.at',sp.len⟩,⟨op,6,4,0,0⟩,⟨11,6,5,sp.at',sp.len⟩]:List Ins)),ah ([⟨7,4,5,0,0⟩]:List Ins)])).code.length pI,.slice rY (aH f (ae.t (.mk yk yn ys (.slice ya yl.length yc) yl)) (aK [ah ([⟨7,4,5,0,0⟩]:List Ins),aH f (ae.t (.mk ek en es (.slice ea el.length ec) el)) (ah ([⟨11,6,5,sp.at',sp.len⟩,⟨op,6,4,0,0⟩,⟨11,6,5,sp.at',sp.len⟩]:List Ins)),ah ([⟨7,4,5,0,0⟩]:List Ins)])).refs.length rZ]) (by simp [results,Tryz.results78,go_sem,t0,t1]) rfl ⟨_,rfl,bu.out,aM.out⟩
end Go.Proofs.YtnobahchcongnaaGreatDoor
