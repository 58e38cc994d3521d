import Derived.Test.YtnobahchcongnaaGreatDoorR21
set_option linter.unusedSimpArgs false
set_option linter.unusedVariables false
set_option maxRecDepth 100000
set_option maxHeartbeats 25600000
namespace Go.Proofs.YtnobahchcongnaaGreatDoor
open Go.RowKit Go.Instr
def CP (x:World):List (Value × Value)->List aB->Prop
 |a :: vs,p :: l=>ay x (.agg #[a.1,a.2]) p/\CP x vs l
 | [],[]=>True
 |_,_=>False
theorem CP.at {x:World} : ∀ {vs:List (Value × Value)} {l:List aB},CP x vs l->vs.length=l.length/\∀ i (h:i<vs.length) (h':i<l.length),ay x (.agg #[vs[i].1,vs[i].2]) l[i]
 | [],[],_=>⟨rfl,λi h=>by simp at h⟩
 |a :: vs,p :: l,h=>by
  obtain⟨h1,h2⟩:=CP.at h.2;refine⟨by simp[h1],λi hi hi' => ?_⟩;cases i with
  |zero=>exact h.1
  |succ i=>exact h2 i (by simpa using hi) (by simpa using hi')
theorem tu {x:World} {g:Nat} {cs:Array Value} {t:TypeId} {fr:Nat × Nat} {vs:List (Value × Value)} {l:List aB} (hb:x.heap[g]? = some (.cells cs t fr)) (hc:cs.toList=flat rW vs) (h:CP x vs l) (hl:l.length<=1000000:=by simp):iG x (.slice (some ⟨g,0,none⟩) l.length l.length) l:=by
 obtain⟨h1,h2⟩:=CP.at h;refine⟨vs,h1,?_,h2⟩;have:=az.bO (n:=2) (f:=rW) (l:=vs) (λ_=>rfl) hb hc (by omega);rwa[h1]at this
theorem kT (f:ax) (e:Tree) (u:aB):(aD f e u).code.length=2 * (bW f e).length+2+u.code.length/\(aD f e u).refs.length=0:=by
 constructor
 · rw[Q7];simp[ah,kF,BO,tq];omega
 · rfl
theorem yF (w:World) (G:Nat) (sv pv:Value) (f:ax) (procs:List ak) (hg:gX w G sv pv f procs) (x:ae) (hx:aR w x) (he:nE f x.t) (hc0:0<=f.cells) (hc1:f.cells<=1000):∀ (z:World),Grow w z->∀ (uv:Value) (use:aB),ay z uv use->use.code.length<=200000->Calls Tryz.prog 100 #[.pointer (some ⟨G,0,none⟩),x.val,uv] z (bP z (aD f x.t use)) :=
 λz hz uv use hu hl=>GG z G sv pv f procs (hg.later hz) x uv use (hx.later hz) hu he.e he.s hc0 hc1 he.d (Nat.le_trans he.l (by decide)) hl
theorem K5 (w:World) (G:Nat) (sv pv:Value) (f:ax) (procs:List ak) (hg:gX w G sv pv f procs) (x:ae) (op:Int) (hx:aR w x) (hl:1<(x.t).kids.length) (hp:y8 f (x.t.kid 0)) (he:nE f (x.t.kid 1)) (hc0:0<=f.cells) (hc1:f.cells<=1000) :
 Calls Tryz.prog 78 #[.pointer (some ⟨G,0,none⟩),x.val,.int .u8 op] w (bP w (kU f (x.t.kid 0) (x.t.kid 1) op)):=by
 obtain⟨fa,fc,rfl,hfc,hfl⟩:=hg.fr.row.form;obtain⟨zH,zI,rfl,-,-⟩:=hg.pr.row.form;obtain⟨k,n,s,kv,l⟩:=x
 replace hl:1<l.length:=by rw[← ae.cz];exact hl
 have h0:0<l.length:=by omega
 obtain⟨kb,ko,kc,bU,-,-⟩:=hx.row.2.2.2.1.at h0;subst bU;have hk0:=fe hx 0 h0;have hk1:=fe hx 1 hl;rw[iQ 0 h0]at hp ⊢;rw[iQ 1 hl]at he ⊢;simp only[Nat.zero_mul,Nat.one_mul,Nat.add_zero]at hk0 hk1;generalize l[0]=pp at *;generalize l[1]=ee at *;have Eo:=ł (yF w G _ _ f procs hg ee hk1.at_ he hc0 hc1);have lF:=ł he;obtain⟨pk,pn,ps,pv,pl⟩:=pp;obtain⟨pa,pc,rfl,-,-⟩:=hk0.at_.form;obtain⟨ek,en,es,ev,el⟩:=ee;obtain⟨ea,ec,rfl,-,-⟩:=hk1.at_.form;simp only[ae.val]at Eo ⊢;have aM:=ł hg;have fZ:=ł hk0.at_;have jH:=ł hk0;have oJ:=ł hk1;have fM:=ł hl;obtain⟨aF,aZ,HG2⟩:=a2 w (.cells #[.int .u8 k,.int .i64 n,.string s,.slice (some ⟨kb,ko,none⟩) l.length kc] 24) (.cells #[.slice none 0 0,.slice none 0 0] 34);have CQ:=ł hp;clear hg hx hk0 hk1 he hp h0
 go_enter Tryz.func78,Tryz.ntmps78
 go_wp2_with fail;generalize ((w.alloc (.cells #[.int .u8 k,.int .i64 n,.string s,.slice (some ⟨kb,ko,none⟩) l.length kc] 24)).alloc (.cells #[.slice none 0 0,.slice none 0 0] 34))=w2 at *;have HK:=ł (λ(y:World) (hy:Grow w2 y)=>And.intro (aM.out.later (gtr HG2.out hy)) (And.intro (ai aF.out hy) (And.intro (jH.out.later (gtr HG2.out hy)) (oJ.out.later (gtr HG2.out hy)))));refine wg 68 [some 13,some 14,some 15,some 16,some 17,some 18,some 19,some 20,some 7,some 8,none,none] [[],[0],[1],[2],[],[4],[5],[6],[],[],[8,3],[9,7]] [] [.c (.pointer (some ⟨w.heap.size,3,none⟩)),.c (.slice (some ⟨kb,ko,none⟩) l.length kc),.c (.pointer (some ⟨kb,ko,none⟩)),.c (.agg #[.int .u8 pk,.int .i64 pn,.string ps,.slice pa pl.length pc]),.c (.pointer (some ⟨w.heap.size,3,none⟩)),.c (.slice (some ⟨kb,ko,none⟩) l.length kc),.c (.pointer (some ⟨kb,(ko+4),none⟩)),.c (.agg #[.int .u8 ek,.int .i64 en,.string es,.slice ea el.length ec]),.al 10 3 #[.int .u8 0,.int .i64 0,.string ⟨#[]⟩,.slice none 0 0] 24,.al 11 7 #[.int .u8 0,.int .i64 0,.string ⟨#[]⟩,.slice none 0 0] 24,.st 8,.st 9] trivial (dP rfl) ?steps ?done
 case steps =>
  refine⟨?s0,?s1,?s2,?s3,?s4,?s5,?s6,?s7,?s8,?s9,?s10,?s11,trivial⟩
  case s0|s4 =>
   refine oo (λvs x hP => ?_);simp only[zS];go_simp;exact gc
  case s1|s5 =>
   refine ok HK (λvs x hG HX hP => ?_);obtain⟨⟨n0,n1⟩,n2,n3⟩:=aC (HX.out.2.1);simp only[zS];go_simp;exact gc
  case s2 =>
   refine ok HK (λvs x hG HX hP => ?_);have hbd:0<l.length:=by have:=fM.out;omega
   simp only[zS];go_simp;exact gc
  case s3 =>
   refine ok HK (λvs x hG HX hP => ?_);obtain⟨⟨d0,d1⟩,d2,d3⟩:=(HX.out.2.2.1).four;simp only[zS];go_simp;exact gc
  case s6 =>
   refine ok HK (λvs x hG HX hP => ?_);have hbd:(1:Int)<(l.length:Nat):=by have:=fM.out;omega
   simp only[zS];go_simp;exact gc
  case s7 =>
   refine ok HK (λvs x hG HX hP => ?_);obtain⟨⟨d0,d1⟩,d2,d3⟩:=(HX.out.2.2.2).four;simp only[zS];go_simp;exact gc
  case s8|s9 =>
   refine oz (λvs x => ?_);simp only[zS];go_simp;exact⟨rfl,rfl⟩
  case s10 =>
   refine os (λvs x g hg hb hv => ?_);have h3:vs 3=_:=hv;obtain⟨c0,c1,c2,c3⟩:=dN hb;have zt:=aG hb;simp only[zS,hg,h3];go_simp;exact mh hb _ _ _ _
  case s11 =>
   refine os (λvs x g hg hb hv => ?_);have h7:vs 7=_:=hv;obtain⟨c0,c1,c2,c3⟩:=dN hb;have zt:=aG hb;simp only[zS,hg,h7];go_simp;exact mh hb _ _ _ _
 case done =>
 intro vs w3 hE;have hG:=hE.grow;obtain⟨g8,a8,l8,m8,b8⟩:=hE.box 8;obtain⟨g9,a9,l9,m9,b9⟩:=hE.box 9;simp only[zS]at b8;simp only[zS]at b9;simp only[zS,Nat.reduceAdd,a8,a9];have nL:=ł b8;have CR:=ł b9;simp only[bG]at nL CR;have aH:=ł (gtr HG2.out hG);have Cw:=ł (ai aZ.out hG);have dF:=ł (λ(y:World) (hy:Grow w3 y)=>And.intro (aM.out.later (gtr aH.out hy)) (And.intro (ai nL.out hy) (ai CR.out hy)));obtain⟨⟨n0,n1⟩,n2,n3⟩:=aC nL.out;have hl1:=lt_of_block nL.out;clear hE hG b8 b9 HK aF aZ jH oJ hl;rcases CQ.out with hk|⟨hk,h0,hex⟩
 · have hk2:pk=2:=hk;subst hk2;go_upto_region 3 with fail;clear n0 n1 n2 n3 hl1 hk;refine fV 68 [some 24,some 25,some 26,some 27,some 28,some 29,some 9,none] [[],[],[1],[0,2],[3],[4],[],[6,5]] [4] [.c (.pointer (some ⟨G,0,none⟩)),.c (.pointer (some ⟨g8,2,none⟩)),.c (.string ps),.c (.int .i64 (aj f ps 1)),.p (λv y=>∃ g,v = .slice (some ⟨g,0,none⟩) 2 2/\y.heap[g]? = some (.cells #[.int .i64 5,.int .i64 (aj f ps 1)] 3 (0,0))),.c (.agg #[.int .u8 10,.int .i64 5,.int .i64 (aj f ps 1),.int .i64 0,.int .i64 0]),.al 7 5 #[.int .u8 0,.int .i64 0,.int .i64 0,.int .i64 0,.int .i64 0] 57,.st 6] ⟨sH,trivial⟩ (dP rfl) ?steps ?done
   case steps =>
    refine⟨?s0,?s1,?s2,?s3,?s4,?s5,?s6,?s7,trivial⟩
    case s0|s1 =>
     refine oo (λvs x hP => ?_);simp only[zS];go_simp;exact gc
    case s2 =>
     refine ok0 dF (λvs x hG HX hP => ?_);obtain⟨⟨n0,n1⟩,n2,n3⟩:=aC HX.out.2.1;simp only[zS];go_simp;exact gc
    case s3 =>
     refine ok0 dF (λvs x hG HX hP => ?_);have HC:=ł (vB x G _ _ f procs HX.out.1 ps 1);simp only[zS];go_simp;refine(HC.out).mono ?_;rintro e y ⟨rfl,hg⟩;exact⟨_,rfl,aX hg rfl⟩
    case s4 =>
     refine oo (λvs x hP => ?_);simp only[zS];go_simp;exact gl ⟨_,rfl,heap_alloc_new x _⟩
    case s5 =>
     refine ok0 dF (λvs x hG HX hP => ?_);obtain⟨g4,h4,b4⟩:=pq hP 4;have HC:=ł (gu 10 (5) ((aj f ps 1)) g4 _ x b4);simp only[zS,h4];go_simp;refine(HC.out).mono ?_;rintro e y ⟨rfl,hg⟩;exact⟨_,rfl,aX hg rfl⟩
    case s6 =>
     refine oz (λvs x => ?_);simp only[zS];go_simp;exact⟨rfl,rfl⟩
    case s7 =>
     refine os (λvs x g hg hb hv => ?_);have h5:vs 5=_:=hv;obtain⟨⟨c0,c1,c2⟩,c3,c4⟩:=bJ hb;have zt:=aG hb;simp only[zS,hg,h5];go_simp;exact j4 hb _ _ _ _ _
   case done =>
   intro vs w4 hE;have hG:=hE.jZ;obtain⟨g6,a6,l6,m6,b6⟩:=hE.box 6;simp only[zS]at b6;simp only[zS,Nat.reduceAdd,a6];have il:=ł b6;simp only[bG]at il;have xP:=ł (gtr aH.out hG);have kX:=ł (ai Cw.out hG);have Bh:=ł (λ(z:World) (hz:Grow w z)=>Eo.out z hz);have aY:=ł (λ(y:World) (hy:Grow w4 y)=>And.intro trivial (And.intro (ai CR.out (gtr hG hy)) (ai il.out hy)));clear hE hG b6 dF Eo;go_upto_region 4 with fail;refine wg 68 [some 30,some 31,some 32,some 33,some 34,some 35,some 36,some 37,some 38,some 39,none] [[],[],[],[],[],[3,4],[],[2,5,6],[7],[0,1,8],[9]] [4,7] [.c (.pointer (some ⟨G,0,none⟩)),.c (.agg #[.int .u8 ek,.int .i64 en,.string es,.slice ea el.length ec]),.c (.agg #[.int .u8 10,.int .i64 5,.int .i64 (aj f ps 1),.int .i64 0,.int .i64 0]),.c (.int .u8 op),.p (λv y=>∃ g,v = .slice (some ⟨g,0,none⟩) 2 2/\y.heap[g]? = some (.cells #[.int .i64 5,.int .i64 4] 3 (0,0))),.c (.agg #[.int .u8 op,.int .i64 5,.int .i64 4,.int .i64 0,.int .i64 0]),.c (.agg #[.int .u8 10,.int .i64 5,.int .i64 (aj f ps 1),.int .i64 0,.int .i64 0]),.p (λv y=>∃ g,v = .slice (some ⟨g,0,none⟩) 3 3/\az 5 Ins.cells y (.slice (some ⟨g,0,none⟩) 3 3) ([⟨10,5,aj f ps 1,0,0⟩,⟨op,5,4,0,0⟩,⟨10,5,aj f ps 1,0,0⟩]:List Ins)),.p (λv y=>ay y v (ah ([⟨10,5,aj f ps 1,0,0⟩,⟨op,5,4,0,0⟩,⟨10,5,aj f ps 1,0,0⟩]:List Ins))),.p (λv y=>ay y v (aD f (ae.t (.mk ek en es (.slice ea el.length ec) el)) (ah ([⟨10,5,aj f ps 1,0,0⟩,⟨op,5,4,0,0⟩,⟨10,5,aj f ps 1,0,0⟩]:List Ins)))),.rs (w.heap.size+1) 9 #[.slice none 0 0,.slice none 0 0] 34] ⟨sH,sR,sP,sP,trivial⟩ (iT (n:=10) rfl rfl (kX.out)) ?steps ?done
   case steps =>
    refine⟨?s0,?s1,?s2,?s3,?s4,?s5,?s6,?s7,?s8,?s9,?s10,trivial⟩
    case s0|s3 =>
     refine oo (λvs x hP => ?_);simp only[zS];go_simp;exact gc
    case s1 =>
     refine ok aY (λvs x hG HX hP => ?_);obtain⟨⟨n0,n1⟩,n2,n3⟩:=aC HX.out.2.1;simp only[zS];go_simp;exact gc
    case s2|s6 =>
     refine ok aY (λvs x hG HX hP => ?_);obtain⟨⟨i0,i1,i2⟩,i3,i4⟩:=bJ HX.out.2.2;simp only[zS];go_simp;exact gc
    case s4 =>
     refine oo (λvs x hP => ?_);simp only[zS];go_simp;exact gl ⟨_,rfl,heap_alloc_new x _⟩
    case s5 =>
     refine ok aY (λvs x hG HX hP => ?_);obtain⟨g4,h4,b4⟩:=pq hP 4;have HC:=ł (gu op (5) (4) g4 _ x b4);simp only[zS,h4];go_simp;refine(HC.out).mono ?_;rintro e y ⟨rfl,hg⟩;exact⟨_,rfl,aX hg rfl⟩
    case s7 =>
     refine oo (λvs x hP => ?_);simp only[zS];go_simp;exact gl ⟨_,rfl,az.bO (f:=Ins.cells) (l:=([⟨10,5,aj f ps 1,0,0⟩,⟨op,5,4,0,0⟩,⟨10,5,aj f ps 1,0,0⟩]:List Ins)) (λ_=>rfl) (heap_alloc_new x _) rfl (by simp)⟩
    case s8 =>
     refine ok aY (λvs x hG HX hP => ?_);obtain⟨g7,h7,b7⟩:=pq hP 7;have HC:=ł (iJ _ _ x b7);simp only[zS,h7];go_simp;refine(HC.out).mono ?_;rintro e y ⟨v,rfl,hp,hg⟩;exact⟨_,rfl,aW hg hp⟩
    case s9 =>
     refine ok aY (λvs x hG HX hP => ?_);have p8:=pq hP 8;have jI:=p8;obtain⟨ca8,oG,oH,oI,h8,c8,f8⟩:=p8;rw[h8]at jI;have HC:=ł (Bh.out x (gtr xP.out hG) _ _ jI (by simp[ah]));simp only[zS,h8];go_simp;refine(HC.out).mono ?_;rintro e y ⟨v,rfl,hp,hg⟩;exact⟨_,rfl,aW hg hp⟩
    case s10 =>
     refine iU (λvs x hb hv => ?_);obtain⟨gp,gq,gN,gP,h9,c9,f9⟩:=hv;obtain⟨c0,c1⟩:=aA hb;have zt:=aG hb;simp only[zS,h9];go_simp;exact set2 hb _ _
   case done =>
   intro vs w5 hE;have p8:=hE.val 8;have jI:=p8;obtain⟨ca8,oG,oH,oI,h8,c8,f8⟩:=p8;rw[h8]at jI;obtain⟨gp,gq,gN,gP,h9,c9,f9⟩:=hE.val 9;have b10:=hE.res 10;simp only[zS,h9]at b10;simp only[zS,Nat.reduceAdd,h8,h9];have HM:=ł (hE.last 10);have aJ:=ł (show Grow w w5 from Mv.trans xP.out HM.out (λb e => .inr (by omega)));have bB:=ł (show ay w5 (.agg #[.slice gp (aD f (ae.t (.mk ek en es (.slice ea el.length ec) el)) (ah ([⟨10,5,aj f ps 1,0,0⟩,⟨op,5,4,0,0⟩,⟨10,5,aj f ps 1,0,0⟩]:List Ins))).code.length gq,.slice gN (aD f (ae.t (.mk ek en es (.slice ea el.length ec) el)) (ah ([⟨10,5,aj f ps 1,0,0⟩,⟨op,5,4,0,0⟩,⟨10,5,aj f ps 1,0,0⟩]:List Ins))).refs.length gP]) (aD f (ae.t (.mk ek en es (.slice ea el.length ec) el)) (ah ([⟨10,5,aj f ps 1,0,0⟩,⟨op,5,4,0,0⟩,⟨10,5,aj f ps 1,0,0⟩]:List Ins)))from⟨gp,gq,gN,gP,rfl,c9,f9⟩);have HB:=ł b10;clear hE b10 HM c9 f9;simp only[bG]at HB;go_wp2_with fail;obtain⟨t0,t1⟩:=aA HB.out;exact bodyPost_ret (v := .agg #[.slice gp (aD f (ae.t (.mk ek en es (.slice ea el.length ec) el)) (ah ([⟨10,5,aj f ps 1,0,0⟩,⟨op,5,4,0,0⟩,⟨10,5,aj f ps 1,0,0⟩]:List Ins))).code.length gq,.slice gN (aD f (ae.t (.mk ek en es (.slice ea el.length ec) el)) (ah ([⟨10,5,aj f ps 1,0,0⟩,⟨op,5,4,0,0⟩,⟨10,5,aj f ps 1,0,0⟩]:List Ins))).refs.length gP]) (by simp[results,Tryz.results78,go_sem,t0,t1]) rfl ⟨_,rfl,bB.out,aJ.out⟩
 · have hk3:pk=3:=hk;subst hk3
   replace h0:0<pl.length:=by rw[← ae.cz];exact h0
   rw[iQ 0 h0]at hex;have HPN:=ł h0;have Fq:=ł (iQ (k:=3) (n:=pn) (s:=ps) (kv := .slice pa pl.length pc) 0 h0);obtain⟨pb,po,pc',hpv,-,-⟩:=fZ.out.row.2.2.2.1.at h0;simp only[Value.slice.injEq,true_and]at hpv;obtain⟨rfl,rfl⟩:=hpv;have Bi:=fe fZ.out 0 h0;simp only[Nat.zero_mul,Nat.add_zero]at Bi;have JF:=ł (show kU f (ae.t (.mk 3 pn ps (.slice (some ⟨pb,po,none⟩) pl.length pc) pl)) (ae.t (.mk ek en es (.slice ea el.length ec) el)) op=aD f (Tree.kid (ae.t (.mk 3 pn ps (.slice (some ⟨pb,po,none⟩) pl.length pc) pl)) 0) (aL [fP,aD f (ae.t (.mk ek en es (.slice ea el.length ec) el)) (ah [bX f (ae.t (.mk 3 pn ps (.slice (some ⟨pb,po,none⟩) pl.length pc) pl)) 6 5,⟨op,6,4,0,0⟩,bX f (ae.t (.mk 3 pn ps (.slice (some ⟨pb,po,none⟩) pl.length pc) pl)) 6 5]),fP])from rfl);rw[Fq.out]at JF;generalize pl[0]=yy at *;have VD:=ł (yF w G _ _ f procs aM.out yy Bi.at_ hex hc0 hc1);obtain⟨yk,yn,ys,yv,yl⟩:=yy;obtain⟨ya,yc,rfl,-,-⟩:=Bi.at_.form;simp only[ae.val]at VD;have HKY:=ł Bi;have HIT:=ł (show bX f (ae.t (.mk 3 pn ps (.slice (some ⟨pb,po,none⟩) pl.length pc) pl)) 6 5=⟨11,6,5,((au f ps 2).getD noSlot).at',((au f ps 2).getD noSlot).len⟩from rfl);rw[HIT.out]at JF;have CO:=ł (show Ins.val (bX f (ae.t (.mk 3 pn ps (.slice (some ⟨pb,po,none⟩) pl.length pc) pl)) 6 5) = .agg #[.int .u8 11,.int .i64 6,.int .i64 5,.int .i64 ((au f ps 2).getD noSlot).at',.int .i64 ((au f ps 2).getD noSlot).len]from rfl);generalize (au f ps 2).getD noSlot=sp at *;generalize kU f (ae.t (.mk 3 pn ps (.slice (some ⟨pb,po,none⟩) pl.length pc) pl)) (ae.t (.mk ek en es (.slice ea el.length ec) el)) op=UC at *;have huc:=JF.out;subst huc;have iI:=ł (show aO [ah ([⟨7,4,5,0,0⟩]:List Ins),aD f (ae.t (.mk ek en es (.slice ea el.length ec) el)) (ah ([⟨11,6,5,sp.at',sp.len⟩,⟨op,6,4,0,0⟩,⟨11,6,5,sp.at',sp.len⟩]:List Ins)),ah ([⟨7,4,5,0,0⟩]:List Ins)]<=200000/\bV [ah ([⟨7,4,5,0,0⟩]:List Ins),aD f (ae.t (.mk ek en es (.slice ea el.length ec) el)) (ah ([⟨11,6,5,sp.at',sp.len⟩,⟨op,6,4,0,0⟩,⟨11,6,5,sp.at',sp.len⟩]:List Ins)),ah ([⟨7,4,5,0,0⟩]:List Ins)]<=200000 from by
    have h1:=kT f (ae.t (.mk ek en es (.slice ea el.length ec) el)) (ah ([⟨11,6,5,sp.at',sp.len⟩,⟨op,6,4,0,0⟩,⟨11,6,5,sp.at',sp.len⟩]:List Ins));have h2:=lF.out.l;simp only[aO,bV,List.map_cons,List.map_nil,List.sum_cons,List.sum_nil,h1.1,h1.2];simp only[ah,List.length_cons,List.length_nil]
    omega)
   have NZ:=ł (show(aL [ah ([⟨7,4,5,0,0⟩]:List Ins),aD f (ae.t (.mk ek en es (.slice ea el.length ec) el)) (ah ([⟨11,6,5,sp.at',sp.len⟩,⟨op,6,4,0,0⟩,⟨11,6,5,sp.at',sp.len⟩]:List Ins)),ah ([⟨7,4,5,0,0⟩]:List Ins)]).code.length<=200000 from by rw[(dI _).1];exact iI.out.1);go_upto_region 5 with fail;clear n0 n1 n2 n3 hl1 hk h0 hex Bi HIT Fq JF;refine fV 68 [some 40,some 41,some 42,some 10,none] [[],[],[0,1],[],[3,2]] [] [.c (.pointer (some ⟨G,0,none⟩)),.c (.agg #[.int .u8 3,.int .i64 pn,.string ps,.slice (some ⟨pb,po,none⟩) pl.length pc]),.c (.agg #[.int .u8 11,.int .i64 6,.int .i64 5,.int .i64 sp.at',.int .i64 sp.len]),.al 4 2 #[.int .u8 0,.int .i64 0,.int .i64 0,.int .i64 0,.int .i64 0] 57,.st 3] trivial (dP rfl) ?steps ?done
   case steps =>
    refine⟨?s0,?s1,?s2,?s3,?s4,trivial⟩
    case s0 =>
     refine oo (λvs x hP => ?_);simp only[zS];go_simp;exact gc
    case s1 =>
     refine ok0 dF (λvs x hG HX hP => ?_);obtain⟨⟨n0,n1⟩,n2,n3⟩:=aC HX.out.2.1;simp only[zS];go_simp;exact gc
    case s2 =>
     refine ok0 dF (λvs x hG HX hP => ?_);have HC:=ł (GD x G _ _ f procs HX.out.1 (.mk 3 pn ps (.slice (some ⟨pb,po,none⟩) pl.length pc) pl) 6 5 (fZ.out.later (gtr aH.out hG)));simp only[ae.val,CO.out]at HC;simp only[zS];go_simp;refine(HC.out).mono ?_;rintro e y ⟨rfl,hg⟩;exact⟨_,rfl,aX hg rfl⟩
    case s3 =>
     refine oz (λvs x => ?_);simp only[zS];go_simp;exact⟨rfl,rfl⟩
    case s4 =>
     refine os (λvs x g hg hb hv => ?_);have h2:vs 2=_:=hv;obtain⟨⟨c0,c1,c2⟩,c3,c4⟩:=bJ hb;have zt:=aG hb;simp only[zS,hg,h2];go_simp;exact j4 hb _ _ _ _ _
   case done =>
   intro vs w4 hE;have hG:=hE.jZ;obtain⟨g3,a3,l3,m3,b3⟩:=hE.box 3;simp only[zS]at b3;simp only[zS,Nat.reduceAdd,a3];have HB3:=ł b3;simp only[bG]at HB3;have xP:=ł (gtr aH.out hG);have kX:=ł (ai Cw.out hG);have Ep:=ł hG;have Bh:=ł (λ(z:World) (hz:Grow w z)=>Eo.out z hz);have aY:=ł (λ(y:World) (hy:Grow w4 y)=>And.intro trivial (And.intro (ai CR.out (gtr hG hy)) (ai HB3.out hy)));clear hE hG b3 dF Eo;go_upto_region 6 with fail;refine wg 68 [some 43,some 44,some 45,some 46,some 47,some 48,some 49,some 50,some 51,some 52,some 11,none] [[],[],[],[],[],[3,4],[],[2,5,6],[7],[0,1,8],[],[10,9]] [4,7] [.c (.pointer (some ⟨G,0,none⟩)),.c (.agg #[.int .u8 ek,.int .i64 en,.string es,.slice ea el.length ec]),.c (.agg #[.int .u8 11,.int .i64 6,.int .i64 5,.int .i64 sp.at',.int .i64 sp.len]),.c (.int .u8 op),.p (λv y=>∃ g,v = .slice (some ⟨g,0,none⟩) 2 2/\y.heap[g]? = some (.cells #[.int .i64 6,.int .i64 4] 3 (0,0))),.c (.agg #[.int .u8 op,.int .i64 6,.int .i64 4,.int .i64 0,.int .i64 0]),.c (.agg #[.int .u8 11,.int .i64 6,.int .i64 5,.int .i64 sp.at',.int .i64 sp.len]),.p (λv y=>∃ g,v = .slice (some ⟨g,0,none⟩) 3 3/\az 5 Ins.cells y (.slice (some ⟨g,0,none⟩) 3 3) ([⟨11,6,5,sp.at',sp.len⟩,⟨op,6,4,0,0⟩,⟨11,6,5,sp.at',sp.len⟩]:List Ins)),.p (λv y=>ay y v (ah ([⟨11,6,5,sp.at',sp.len⟩,⟨op,6,4,0,0⟩,⟨11,6,5,sp.at',sp.len⟩]:List Ins))),.p (λv y=>ay y v (aD f (ae.t (.mk ek en es (.slice ea el.length ec) el)) (ah ([⟨11,6,5,sp.at',sp.len⟩,⟨op,6,4,0,0⟩,⟨11,6,5,sp.at',sp.len⟩]:List Ins)))),.al 11 9 #[.slice none 0 0,.slice none 0 0] 34,.st 10] ⟨sH,sR,sP,sP,trivial⟩ (dP rfl) ?steps ?done
   case steps =>
    refine⟨?s0,?s1,?s2,?s3,?s4,?s5,?s6,?s7,?s8,?s9,?s10,?s11,trivial⟩
    case s0|s3 =>
     refine oo (λvs x hP => ?_);simp only[zS];go_simp;exact gc
    case s1 =>
     refine ok aY (λvs x hG HX hP => ?_);obtain⟨⟨n0,n1⟩,n2,n3⟩:=aC HX.out.2.1;simp only[zS];go_simp;exact gc
    case s2|s6 =>
     refine ok aY (λvs x hG HX hP => ?_);obtain⟨⟨i0,i1,i2⟩,i3,i4⟩:=bJ HX.out.2.2;simp only[zS];go_simp;exact gc
    case s4 =>
     refine oo (λvs x hP => ?_);simp only[zS];go_simp;exact gl ⟨_,rfl,heap_alloc_new x _⟩
    case s5 =>
     refine ok aY (λvs x hG HX hP => ?_);obtain⟨g4,h4,b4⟩:=pq hP 4;have HC:=ł (gu op (6) (4) g4 _ x b4);simp only[zS,h4];go_simp;refine(HC.out).mono ?_;rintro e y ⟨rfl,hg⟩;exact⟨_,rfl,aX hg rfl⟩
    case s7 =>
     refine oo (λvs x hP => ?_);simp only[zS];go_simp;exact gl ⟨_,rfl,az.bO (f:=Ins.cells) (l:=([⟨11,6,5,sp.at',sp.len⟩,⟨op,6,4,0,0⟩,⟨11,6,5,sp.at',sp.len⟩]:List Ins)) (λ_=>rfl) (heap_alloc_new x _) rfl (by simp)⟩
    case s8 =>
     refine ok aY (λvs x hG HX hP => ?_);obtain⟨g7,h7,b7⟩:=pq hP 7;have HC:=ł (iJ _ _ x b7);simp only[zS,h7];go_simp;refine(HC.out).mono ?_;rintro e y ⟨v,rfl,hp,hg⟩;exact⟨_,rfl,aW hg hp⟩
    case s9 =>
     refine ok aY (λvs x hG HX hP => ?_);have p8:=pq hP 8;have jI:=p8;obtain⟨ca8,oG,oH,oI,h8,c8,f8⟩:=p8;rw[h8]at jI;have HC:=ł (Bh.out x (gtr xP.out hG) _ _ jI (by simp[ah]));simp only[zS,h8];go_simp;refine(HC.out).mono ?_;rintro e y ⟨v,rfl,hp,hg⟩;exact⟨_,rfl,aW hg hp⟩
    case s10 =>
     refine oz (λvs x => ?_);simp only[zS];go_simp;exact⟨rfl,rfl⟩
    case s11 =>
     refine os (λvs x g hg hb hv => ?_);obtain⟨gp,gq,gN,gP,h9,c9,f9⟩:=hv;obtain⟨c0,c1⟩:=aA hb;have zt:=aG hb;simp only[zS,hg,h9];go_simp;exact set2 hb _ _
   case done =>
   intro vs w5 hE;have hG:=hE.grow;have p8:=hE.val 8;have jI:=p8;obtain⟨ca8,oG,oH,oI,h8,c8,f8⟩:=p8;rw[h8]at jI;obtain⟨gp,gq,gN,gP,h9,c9,f9⟩:=hE.val 9;obtain⟨g10,Bb,l10,m10,b10⟩:=hE.box 10;simp only[zS,h9]at b10;simp only[zS,Nat.reduceAdd,h8,h9,Bb];have Ar:=ł b10;simp only[bG]at Ar;have Bj:=ł (show ay w5 (.agg #[.slice gp (aD f (ae.t (.mk ek en es (.slice ea el.length ec) el)) (ah ([⟨11,6,5,sp.at',sp.len⟩,⟨op,6,4,0,0⟩,⟨11,6,5,sp.at',sp.len⟩]:List Ins))).code.length gq,.slice gN (aD f (ae.t (.mk ek en es (.slice ea el.length ec) el)) (ah ([⟨11,6,5,sp.at',sp.len⟩,⟨op,6,4,0,0⟩,⟨11,6,5,sp.at',sp.len⟩]:List Ins))).refs.length gP]) (aD f (ae.t (.mk ek en es (.slice ea el.length ec) el)) (ah ([⟨11,6,5,sp.at',sp.len⟩,⟨op,6,4,0,0⟩,⟨11,6,5,sp.at',sp.len⟩]:List Ins)))from⟨gp,gq,gN,gP,rfl,c9,f9⟩);have aU:=ł (gtr xP.out hG);have Tq:=ł (gtr Ep.out hG);have kH:=ł (ai kX.out hG);clear hE hG b10 c9 f9 aY Bh Ep;go_upto_region 7 with fail;refine fV 68 [some 53,some 54,some 55,some 56,some 12,none] [[],[0],[1],[2],[],[4,3]] [0,2] [.p (λv y=>∃ g,v = .slice (some ⟨g,0,none⟩) 2 2/\y.heap[g]? = some (.cells #[.int .i64 4,.int .i64 5] 3 (0,0))),.c (.agg #[.int .u8 7,.int .i64 4,.int .i64 5,.int .i64 0,.int .i64 0]),.p (λv y=>∃ g,v = .slice (some ⟨g,0,none⟩) 1 1/\az 5 Ins.cells y (.slice (some ⟨g,0,none⟩) 1 1) ([⟨7,4,5,0,0⟩]:List Ins)),.p (λv y=>ay y v (ah ([⟨7,4,5,0,0⟩]:List Ins))),.al 5 3 #[.slice none 0 0,.slice none 0 0] 34,.st 4] ⟨sH,sR,sP,trivial⟩ (dP rfl) ?steps ?done
   case steps =>
    refine⟨?s0,?s1,?s2,?s3,?s4,?s5,trivial⟩
    case s0 =>
     refine oo (λvs x hP => ?_);simp only[zS];go_simp;exact gl ⟨_,rfl,heap_alloc_new x _⟩
    case s1 =>
     refine om (λvs x hG hP => ?_);obtain⟨g0,h0,b0⟩:=pq hP 0;have HX:=ł hG;have HC:=ł (gu 7 (4) (5) g0 _ x b0);simp only[zS,h0];go_simp;refine(HC.out).mono ?_;rintro e y ⟨rfl,hg⟩;exact⟨_,rfl,aX hg rfl⟩
    case s2 =>
     refine oo (λvs x hP => ?_);simp only[zS];go_simp;exact gl ⟨_,rfl,az.bO (f:=Ins.cells) (l:=([⟨7,4,5,0,0⟩]:List Ins)) (λ_=>rfl) (heap_alloc_new x _) rfl (by simp)⟩
    case s3 =>
     refine om (λvs x hG hP => ?_);obtain⟨g2,h2,b2⟩:=pq hP 2;have HX:=ł hG;have HC:=ł (iJ _ _ x b2);simp only[zS,h2];go_simp;refine(HC.out).mono ?_;rintro e y ⟨v,rfl,hp,hg⟩;exact⟨_,rfl,aW hg hp⟩
    case s4 =>
     refine oz (λvs x => ?_);simp only[zS];go_simp;exact⟨rfl,rfl⟩
    case s5 =>
     refine os (λvs x g hg hb hv => ?_);obtain⟨oK,oL,nM,oM,h3,c3,f3⟩:=hv;obtain⟨c0,c1⟩:=aA hb;have zt:=aG hb;simp only[zS,hg,h3];go_simp;exact set2 hb _ _
   case done =>
   intro vs w6 hE;have hG:=hE.jZ;obtain⟨oK,oL,nM,oM,h3,c3,f3⟩:=hE.val 3;obtain⟨g4,a4,l4,m4,b4⟩:=hE.box 4;simp only[zS,h3]at b4;simp only[zS,Nat.reduceAdd,h3,a4];have wD:=ł b4;simp only[bG]at wD;have q8:=ł (show ay w6 (.agg #[.slice oK (ah ([⟨7,4,5,0,0⟩]:List Ins)).code.length oL,.slice nM (ah ([⟨7,4,5,0,0⟩]:List Ins)).refs.length oM]) (ah ([⟨7,4,5,0,0⟩]:List Ins))from⟨oK,oL,nM,oM,rfl,c3,f3⟩);have di:=ł (gtr aU.out hG);have abC:=ł (gtr Tq.out hG);have Aq:=ł (ai kH.out hG);have iq:=ł (λ(y:World) (hy:Grow w6 y)=>And.intro (ai nL.out (gtr abC.out hy)) (And.intro (ai wD.out hy) (And.intro (ai Ar.out (gtr hG hy)) (And.intro (q8.out.later hy) (And.intro (Bj.out.later (gtr hG hy)) (HKY.out.later (gtr di.out hy)))))));clear hE hG b4 c3 f3 Tq;go_upto_region 8 with fail;refine wg 68 [some 57,some 58,some 59,some 60,some 61,some 62,some 63,some 64,some 65,some 66,some 67,none] [[],[],[1],[2],[3],[],[],[],[5,6,7],[8],[0,4,9],[10]] [8] [.c (.pointer (some ⟨G,0,none⟩)),.c (.pointer (some ⟨g8,3,none⟩)),.c (.slice (some ⟨pb,po,none⟩) pl.length pc),.c (.pointer (some ⟨pb,po,none⟩)),.c (.agg #[.int .u8 yk,.int .i64 yn,.string ys,.slice ya yl.length yc]),.c (.agg #[.slice oK (ah ([⟨7,4,5,0,0⟩]:List Ins)).code.length oL,.slice nM (ah ([⟨7,4,5,0,0⟩]:List Ins)).refs.length oM]),.c (.agg #[.slice gp (aD f (ae.t (.mk ek en es (.slice ea el.length ec) el)) (ah ([⟨11,6,5,sp.at',sp.len⟩,⟨op,6,4,0,0⟩,⟨11,6,5,sp.at',sp.len⟩]:List Ins))).code.length gq,.slice gN (aD f (ae.t (.mk ek en es (.slice ea el.length ec) el)) (ah ([⟨11,6,5,sp.at',sp.len⟩,⟨op,6,4,0,0⟩,⟨11,6,5,sp.at',sp.len⟩]:List Ins))).refs.length gP]),.c (.agg #[.slice oK (ah ([⟨7,4,5,0,0⟩]:List Ins)).code.length oL,.slice nM (ah ([⟨7,4,5,0,0⟩]:List Ins)).refs.length oM]),.p (λv y=>∃ g,v = .slice (some ⟨g,0,none⟩) 3 3/\iG y (.slice (some ⟨g,0,none⟩) 3 3) [ah ([⟨7,4,5,0,0⟩]:List Ins),aD f (ae.t (.mk ek en es (.slice ea el.length ec) el)) (ah ([⟨11,6,5,sp.at',sp.len⟩,⟨op,6,4,0,0⟩,⟨11,6,5,sp.at',sp.len⟩]:List Ins)),ah ([⟨7,4,5,0,0⟩]:List Ins)]),.p (λv y=>ay y v (aL [ah ([⟨7,4,5,0,0⟩]:List Ins),aD f (ae.t (.mk ek en es (.slice ea el.length ec) el)) (ah ([⟨11,6,5,sp.at',sp.len⟩,⟨op,6,4,0,0⟩,⟨11,6,5,sp.at',sp.len⟩]:List Ins)),ah ([⟨7,4,5,0,0⟩]:List Ins)])),.p (λv y=>ay y v (aD f (ae.t (.mk yk yn ys (.slice ya yl.length yc) yl)) (aL [ah ([⟨7,4,5,0,0⟩]:List Ins),aD f (ae.t (.mk ek en es (.slice ea el.length ec) el)) (ah ([⟨11,6,5,sp.at',sp.len⟩,⟨op,6,4,0,0⟩,⟨11,6,5,sp.at',sp.len⟩]:List Ins)),ah ([⟨7,4,5,0,0⟩]:List Ins)]))),.rs (w.heap.size+1) 10 #[.slice none 0 0,.slice none 0 0] 34] ⟨sQ,sP,sP,trivial⟩ (iT (n:=11) rfl rfl (Aq.out)) ?steps ?done
   case steps =>
    refine⟨?s0,?s1,?s2,?s3,?s4,?s5,?s6,?s7,?s8,?s9,?s10,?s11,trivial⟩
    case s0|s1 =>
     refine oo (λvs x hP => ?_);simp only[zS];go_simp;exact gc
    case s2 =>
     refine ok iq (λvs x hG HX hP => ?_);obtain⟨⟨n0,n1⟩,n2,n3⟩:=aC (HX.out.1);simp only[zS];go_simp;exact gc
    case s3 =>
     refine ok iq (λvs x hG HX hP => ?_);have hbd:0<pl.length:=by have:=HPN.out;omega
     simp only[zS];go_simp;exact gc
    case s4 =>
     refine ok iq (λvs x hG HX hP => ?_);obtain⟨⟨d0,d1⟩,d2,d3⟩:=(HX.out.2.2.2.2.2).four;simp only[zS];go_simp;exact gc
    case s5|s7 =>
     refine ok iq (λvs x hG HX hP => ?_);obtain⟨i0,i1⟩:=aA HX.out.2.1;simp only[zS];go_simp;exact gc
    case s6 =>
     refine ok iq (λvs x hG HX hP => ?_);obtain⟨i0,i1⟩:=aA HX.out.2.2.1;simp only[zS];go_simp;exact gc
    case s8 =>
     refine ok iq (λvs x hG HX hP => ?_);simp only[zS];go_simp;exact gl ⟨_,rfl,tu (vs:=[(.slice oK (ah ([⟨7,4,5,0,0⟩]:List Ins)).code.length oL,.slice nM (ah ([⟨7,4,5,0,0⟩]:List Ins)).refs.length oM),(.slice gp (aD f (ae.t (.mk ek en es (.slice ea el.length ec) el)) (ah ([⟨11,6,5,sp.at',sp.len⟩,⟨op,6,4,0,0⟩,⟨11,6,5,sp.at',sp.len⟩]:List Ins))).code.length gq,.slice gN (aD f (ae.t (.mk ek en es (.slice ea el.length ec) el)) (ah ([⟨11,6,5,sp.at',sp.len⟩,⟨op,6,4,0,0⟩,⟨11,6,5,sp.at',sp.len⟩]:List Ins))).refs.length gP),(.slice oK (ah ([⟨7,4,5,0,0⟩]:List Ins)).code.length oL,.slice nM (ah ([⟨7,4,5,0,0⟩]:List Ins)).refs.length oM)]) (heap_alloc_new x _) rfl ⟨ay.later (HX.out.2.2.2.1) ((Mv.refl _ _).alloc _),ay.later (HX.out.2.2.2.2.1) ((Mv.refl _ _).alloc _),ay.later (HX.out.2.2.2.1) ((Mv.refl _ _).alloc _),trivial⟩⟩
    case s9 =>
     refine ok iq (λvs x hG HX hP => ?_);obtain⟨g8,h8,b8⟩:=pq hP 8;have HC:=ł (yE _ _ x b8 iI.out.1 iI.out.2 (by simp));simp only[zS,h8];go_simp;refine(HC.out).mono ?_;rintro e y ⟨v,rfl,hp,hg⟩;exact⟨_,rfl,aW hg hp.at⟩
    case s10 =>
     refine ok iq (λvs x hG HX hP => ?_);have p9:=pq hP 9;have xS:=p9;obtain⟨gp,gq,gN,gP,h9,c9,f9⟩:=p9;rw[h9]at xS;have HC:=ł (VD.out x (gtr di.out hG) _ _ xS NZ.out);simp only[zS,h9];go_simp;refine(HC.out).mono ?_;rintro e y ⟨v,rfl,hp,hg⟩;exact⟨_,rfl,aW hg hp⟩
    case s11 =>
     refine iU (λvs x hb hv => ?_);obtain⟨qP,qQ,ug,uh,h10,c10,f10⟩:=hv;obtain⟨c0,c1⟩:=aA hb;have zt:=aG hb;simp only[zS,h10];go_simp;exact set2 hb _ _
   case done =>
   intro vs w7 hE;have p9:=hE.val 9;have xS:=p9;obtain⟨gp,gq,gN,gP,h9,c9,f9⟩:=p9;rw[h9]at xS;obtain⟨qP,qQ,ug,uh,h10,c10,f10⟩:=hE.val 10;have b11:=hE.res 11;simp only[zS,h10]at b11;simp only[zS,Nat.reduceAdd,h9,h10];have HM:=ł (hE.last 11);have aJ:=ł (show Grow w w7 from Mv.trans di.out HM.out (λb e => .inr (by omega)));have bB:=ł (show ay w7 (.agg #[.slice qP (aD f (ae.t (.mk yk yn ys (.slice ya yl.length yc) yl)) (aL [ah ([⟨7,4,5,0,0⟩]:List Ins),aD f (ae.t (.mk ek en es (.slice ea el.length ec) el)) (ah ([⟨11,6,5,sp.at',sp.len⟩,⟨op,6,4,0,0⟩,⟨11,6,5,sp.at',sp.len⟩]:List Ins)),ah ([⟨7,4,5,0,0⟩]:List Ins)])).code.length qQ,.slice ug (aD f (ae.t (.mk yk yn ys (.slice ya yl.length yc) yl)) (aL [ah ([⟨7,4,5,0,0⟩]:List Ins),aD f (ae.t (.mk ek en es (.slice ea el.length ec) el)) (ah ([⟨11,6,5,sp.at',sp.len⟩,⟨op,6,4,0,0⟩,⟨11,6,5,sp.at',sp.len⟩]:List Ins)),ah ([⟨7,4,5,0,0⟩]:List Ins)])).refs.length uh]) (aD f (ae.t (.mk yk yn ys (.slice ya yl.length yc) yl)) (aL [ah ([⟨7,4,5,0,0⟩]:List Ins),aD f (ae.t (.mk ek en es (.slice ea el.length ec) el)) (ah ([⟨11,6,5,sp.at',sp.len⟩,⟨op,6,4,0,0⟩,⟨11,6,5,sp.at',sp.len⟩]:List Ins)),ah ([⟨7,4,5,0,0⟩]:List Ins)]))from⟨qP,qQ,ug,uh,rfl,c10,f10⟩);have HB:=ł b11;clear hE b11 HM c10 f10;simp only[bG]at HB;go_wp2_with fail;obtain⟨t0,t1⟩:=aA HB.out;exact bodyPost_ret (v := .agg #[.slice qP (aD f (ae.t (.mk yk yn ys (.slice ya yl.length yc) yl)) (aL [ah ([⟨7,4,5,0,0⟩]:List Ins),aD f (ae.t (.mk ek en es (.slice ea el.length ec) el)) (ah ([⟨11,6,5,sp.at',sp.len⟩,⟨op,6,4,0,0⟩,⟨11,6,5,sp.at',sp.len⟩]:List Ins)),ah ([⟨7,4,5,0,0⟩]:List Ins)])).code.length qQ,.slice ug (aD f (ae.t (.mk yk yn ys (.slice ya yl.length yc) yl)) (aL [ah ([⟨7,4,5,0,0⟩]:List Ins),aD f (ae.t (.mk ek en es (.slice ea el.length ec) el)) (ah ([⟨11,6,5,sp.at',sp.len⟩,⟨op,6,4,0,0⟩,⟨11,6,5,sp.at',sp.len⟩]:List Ins)),ah ([⟨7,4,5,0,0⟩]:List Ins)])).refs.length uh]) (by simp[results,Tryz.results78,go_sem,t0,t1]) rfl ⟨_,rfl,bB.out,aJ.out⟩
end Go.Proofs.YtnobahchcongnaaGreatDoor
