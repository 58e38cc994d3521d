import Derived.Test.YtnobahchcongnaaGreatF23
set_option linter.unusedSimpArgs false
set_option linter.unusedVariables false
set_option maxRecDepth 100000
set_option maxHeartbeats 25600000
namespace Go.Proofs.YtnobahchcongnaaGreat
open Go.RowKit Go.Instr
def Bo (x:World):List (Value × Value)->List aI->Prop
 |a :: vs,p :: l=>ay x (.agg #[a.1,a.2]) p/\Bo x vs l
 | [],[]=>True
 |_,_=>False
theorem Bo.at {x:World} : ∀ {vs:List (Value × Value)} {l:List aI},Bo x vs l->vs.length=l.length/\∀ i (h:i<vs.length) (h':i<l.length),ay x (.agg #[vs[i].1,vs[i].2]) l[i]
 | [],[],_=>⟨rfl,λi h=>by simp at h⟩
 |a :: vs,p :: l,h=>by
  obtain⟨h1,h2⟩:=Bo.at h.2;refine⟨by simp[h1],λi hi hi' => ?_⟩;cases i with
  |zero=>exact h.1
  |succ i=>exact h2 i (by simpa using hi) (by simpa using hi')
theorem sw {x:World} {g:Nat} {cs:Array Value} {t:TypeId} {fr:Nat × Nat} {vs:List (Value × Value)} {l:List aI} (hb:x.heap[g]? = some (.cells cs t fr)) (hc:cs.toList=flat rD vs) (h:Bo x vs l) (hl:l.length<=1000000:=by simp):iw x (.slice (some ⟨g,0,none⟩) l.length l.length) l:=by
 obtain⟨h1,h2⟩:=Bo.at h;refine⟨vs,h1,?_,h2⟩;have:=ax.bN (n:=2) (f:=rD) (l:=vs) (λ_=>rfl) hb hc (by omega);rwa[h1]at this
theorem mP (f:az) (e:Tree) (u:aI):(aH f e u).code.length=2 * (eP f e).length+2+u.code.length/\(aH f e u).refs.length=0:=by
 constructor
 · rw[PK];simp[ah,ky,IK,xI];omega
 · rfl
theorem xK (w:World) (G:Nat) (sv pv:Value) (f:az) (procs:List ak) (hg:gD w G sv pv f procs) (x:ae) (hx:aS w x) (he:nG f x.t) (hc0:0<=f.cells) (hc1:f.cells<=1000):∀ (z:World),Grow w z->∀ (uv:Value) (use:aI),ay z uv use->use.code.length<=200000->Calls Tryz.prog 103 #[.pointer (some ⟨G,0,none⟩),x.val,uv] z (bQ z (aH f x.t use)) :=
 λz hz uv use hu hl=>EE z G sv pv f procs (hg.later hz) x uv use (hx.later hz) hu he.e he.s hc0 hc1 he.d (Nat.le_trans he.l (by decide)) hl
theorem JN (w:World) (G:Nat) (sv pv:Value) (f:az) (procs:List ak) (hg:gD w G sv pv f procs) (x:ae) (op:Int) (hx:aS w x) (hl:1<(x.t).kids.length) (hp:x9 f (x.t.kid 0)) (he:nG f (x.t.kid 1)) (hc0:0<=f.cells) (hc1:f.cells<=1000) :
 Calls Tryz.prog 81 #[.pointer (some ⟨G,0,none⟩),x.val,.int .u8 op] w (bQ w (nQ f (x.t.kid 0) (x.t.kid 1) op)):=by
 obtain⟨fa,fc,rfl,hfc,hfl⟩:=hg.fr.row.form;obtain⟨yD,yE,rfl,-,-⟩:=hg.pr.row.form;obtain⟨k,n,s,kv,l⟩:=x
 replace hl:1<l.length:=by rw[← ae.bT];exact hl
 have h0:0<l.length:=by omega
 obtain⟨kb,ko,kc,bF,-,-⟩:=hx.row.2.2.2.1.at h0;subst bF;have hk0:=dO hx 0 h0;have hk1:=dO hx 1 hl;rw[iM 0 h0]at hp ⊢;rw[iM 1 hl]at he ⊢;simp only[Nat.zero_mul,Nat.one_mul,Nat.add_zero]at hk0 hk1;generalize l[0]=pp at *;generalize l[1]=ee at *;have CE:=ł (xK w G _ _ f procs hg ee hk1.at_ he hc0 hc1);have mI:=ł he;obtain⟨pk,pn,ps,pv,pl⟩:=pp;obtain⟨pa,pc,rfl,-,-⟩:=hk0.at_.form;obtain⟨ek,en,es,ev,el⟩:=ee;obtain⟨ea,ec,rfl,-,-⟩:=hk1.at_.form;simp only[ae.val]at CE ⊢;have aK:=ł hg;have bY:=ł hk0.at_;have jD:=ł hk0;have lV:=ł hk1;have fD:=ł hl;obtain⟨aJ,bB,HG2⟩:=a2 w (.cells #[.int .u8 k,.int .i64 n,.string s,.slice (some ⟨kb,ko,none⟩) l.length kc] 26) (.cells #[.slice none 0 0,.slice none 0 0] 45);have xe:=ł hp;clear hg hx hk0 hk1 he hp h0
 go_enter Tryz.func81,Tryz.ntmps81
 go_wp2_with fail;generalize ((w.alloc (.cells #[.int .u8 k,.int .i64 n,.string s,.slice (some ⟨kb,ko,none⟩) l.length kc] 26)).alloc (.cells #[.slice none 0 0,.slice none 0 0] 45))=w2 at *;have HK:=ł (λ(y:World) (hy:Grow w2 y)=>And.intro (aK.out.later (gtr HG2.out hy)) (And.intro (ai aJ.out hy) (And.intro (jD.out.later (gtr HG2.out hy)) (lV.out.later (gtr HG2.out hy)))));refine wg 68 [some 13,some 14,some 15,some 16,some 17,some 18,some 19,some 20,some 7,some 8,none,none] [[],[0],[1],[2],[],[4],[5],[6],[],[],[8,3],[9,7]] [] [.c (.pointer (some ⟨w.heap.size,3,none⟩)),.c (.slice (some ⟨kb,ko,none⟩) l.length kc),.c (.pointer (some ⟨kb,ko,none⟩)),.c (.agg #[.int .u8 pk,.int .i64 pn,.string ps,.slice pa pl.length pc]),.c (.pointer (some ⟨w.heap.size,3,none⟩)),.c (.slice (some ⟨kb,ko,none⟩) l.length kc),.c (.pointer (some ⟨kb,(ko+4),none⟩)),.c (.agg #[.int .u8 ek,.int .i64 en,.string es,.slice ea el.length ec]),.al 10 3 #[.int .u8 0,.int .i64 0,.string ⟨#[]⟩,.slice none 0 0] 26,.al 11 7 #[.int .u8 0,.int .i64 0,.string ⟨#[]⟩,.slice none 0 0] 26,.st 8,.st 9] trivial (cz rfl) ?steps ?done
 case steps =>
  refine⟨?s0,?s1,?s2,?s3,?s4,?s5,?s6,?s7,?s8,?s9,?s10,?s11,trivial⟩
  case s0|s4 =>
   refine oo (λvs x hP => ?_);simp only[zS];go_simp;exact gc
  case s1|s5 =>
   refine ok HK (λvs x hG HX hP => ?_);obtain⟨⟨n0,n1⟩,n2,n3⟩:=aF (HX.out.2.1);simp only[zS];go_simp;exact gc
  case s2 =>
   refine ok HK (λvs x hG HX hP => ?_);have hbd:0<l.length:=by have:=fD.out;omega
   simp only[zS];go_simp;exact gc
  case s3 =>
   refine ok HK (λvs x hG HX hP => ?_);obtain⟨⟨d0,d1⟩,d2,d3⟩:=(HX.out.2.2.1).four;simp only[zS];go_simp;exact gc
  case s6 =>
   refine ok HK (λvs x hG HX hP => ?_);have hbd:(1:Int)<(l.length:Nat):=by have:=fD.out;omega
   simp only[zS];go_simp;exact gc
  case s7 =>
   refine ok HK (λvs x hG HX hP => ?_);obtain⟨⟨d0,d1⟩,d2,d3⟩:=(HX.out.2.2.2).four;simp only[zS];go_simp;exact gc
  case s8|s9 =>
   refine oz (λvs x => ?_);simp only[zS];go_simp;exact⟨rfl,rfl⟩
  case s10 =>
   refine os (λvs x g hg hb hv => ?_);have h3:vs 3=_:=hv;obtain⟨c0,c1,c2,c3⟩:=dF hb;have zt:=aD hb;simp only[zS,hg,h3];go_simp;exact nW hb _ _ _ _
  case s11 =>
   refine os (λvs x g hg hb hv => ?_);have h7:vs 7=_:=hv;obtain⟨c0,c1,c2,c3⟩:=dF hb;have zt:=aD hb;simp only[zS,hg,h7];go_simp;exact nW hb _ _ _ _
 case done =>
 intro vs w3 hE;have hG:=hE.grow;obtain⟨g8,a8,l8,m8,b8⟩:=hE.box 8;obtain⟨g9,a9,l9,m9,b9⟩:=hE.box 9;simp only[zS]at b8;simp only[zS]at b9;simp only[zS,Nat.reduceAdd,a8,a9];have tX:=ł b8;have Bp:=ł b9;simp only[bJ]at tX Bp;have aG:=ł (gtr HG2.out hG);have sO:=ł (ai bB.out hG);have bL:=ł (λ(y:World) (hy:Grow w3 y)=>And.intro (aK.out.later (gtr aG.out hy)) (And.intro (ai tX.out hy) (ai Bp.out hy)));obtain⟨⟨n0,n1⟩,n2,n3⟩:=aF tX.out;have hl1:=lt_of_block tX.out;clear hE hG b8 b9 HK aJ bB jD lV hl;rcases xe.out with hk|⟨hk,h0,hex⟩
 · have hk2:pk=2:=hk;subst hk2;go_upto_region 3 with fail;clear n0 n1 n2 n3 hl1 hk;refine fI 68 [some 24,some 25,some 26,some 27,some 28,some 29,some 9,none] [[],[],[1],[0,2],[3],[4],[],[6,5]] [4] [.c (.pointer (some ⟨G,0,none⟩)),.c (.pointer (some ⟨g8,2,none⟩)),.c (.string ps),.c (.int .i64 (aj f ps 1)),.p (λv y=>∃ g,v = .slice (some ⟨g,0,none⟩) 2 2/\y.heap[g]? = some (.cells #[.int .i64 5,.int .i64 (aj f ps 1)] 3 (0,0))),.c (.agg #[.int .u8 10,.int .i64 5,.int .i64 (aj f ps 1),.int .i64 0,.int .i64 0]),.al 7 5 #[.int .u8 0,.int .i64 0,.int .i64 0,.int .i64 0,.int .i64 0] 60,.st 6] ⟨sH,trivial⟩ (cz rfl) ?steps ?done
   case steps =>
    refine⟨?s0,?s1,?s2,?s3,?s4,?s5,?s6,?s7,trivial⟩
    case s0|s1 =>
     refine oo (λvs x hP => ?_);simp only[zS];go_simp;exact gc
    case s2 =>
     refine ok0 bL (λvs x hG HX hP => ?_);obtain⟨⟨n0,n1⟩,n2,n3⟩:=aF HX.out.2.1;simp only[zS];go_simp;exact gc
    case s3 =>
     refine ok0 bL (λvs x hG HX hP => ?_);have HC:=ł (uG x G _ _ f procs HX.out.1 ps 1);simp only[zS];go_simp;refine(HC.out).mono ?_;rintro e y ⟨rfl,hg⟩;exact⟨_,rfl,bu hg rfl⟩
    case s4 =>
     refine oo (λvs x hP => ?_);simp only[zS];go_simp;exact gl ⟨_,rfl,heap_alloc_new x _⟩
    case s5 =>
     refine ok0 bL (λvs x hG HX hP => ?_);obtain⟨g4,h4,b4⟩:=pq hP 4;have HC:=ł (fO 10 (5) ((aj f ps 1)) g4 _ x b4);simp only[zS,h4];go_simp;refine(HC.out).mono ?_;rintro e y ⟨rfl,hg⟩;exact⟨_,rfl,bu hg rfl⟩
    case s6 =>
     refine oz (λvs x => ?_);simp only[zS];go_simp;exact⟨rfl,rfl⟩
    case s7 =>
     refine os (λvs x g hg hb hv => ?_);have h5:vs 5=_:=hv;obtain⟨⟨c0,c1,c2⟩,c3,c4⟩:=bR hb;have zt:=aD hb;simp only[zS,hg,h5];go_simp;exact kC hb _ _ _ _ _
   case done =>
   intro vs w4 hE;have hG:=hE.jU;obtain⟨g6,a6,l6,m6,b6⟩:=hE.box 6;simp only[zS]at b6;simp only[zS,Nat.reduceAdd,a6];have gJ:=ł b6;simp only[bJ]at gJ;have wW:=ł (gtr aG.out hG);have jg:=ł (ai sO.out hG);have zX:=ł (λ(z:World) (hz:Grow w z)=>CE.out z hz);have aW:=ł (λ(y:World) (hy:Grow w4 y)=>And.intro trivial (And.intro (ai Bp.out (gtr hG hy)) (ai gJ.out hy)));clear hE hG b6 bL CE;go_upto_region 4 with fail;refine wg 68 [some 30,some 31,some 32,some 33,some 34,some 35,some 36,some 37,some 38,some 39,none] [[],[],[],[],[],[3,4],[],[2,5,6],[7],[0,1,8],[9]] [4,7] [.c (.pointer (some ⟨G,0,none⟩)),.c (.agg #[.int .u8 ek,.int .i64 en,.string es,.slice ea el.length ec]),.c (.agg #[.int .u8 10,.int .i64 5,.int .i64 (aj f ps 1),.int .i64 0,.int .i64 0]),.c (.int .u8 op),.p (λv y=>∃ g,v = .slice (some ⟨g,0,none⟩) 2 2/\y.heap[g]? = some (.cells #[.int .i64 5,.int .i64 4] 3 (0,0))),.c (.agg #[.int .u8 op,.int .i64 5,.int .i64 4,.int .i64 0,.int .i64 0]),.c (.agg #[.int .u8 10,.int .i64 5,.int .i64 (aj f ps 1),.int .i64 0,.int .i64 0]),.p (λv y=>∃ g,v = .slice (some ⟨g,0,none⟩) 3 3/\ax 5 Ins.cells y (.slice (some ⟨g,0,none⟩) 3 3) ([⟨10,5,aj f ps 1,0,0⟩,⟨op,5,4,0,0⟩,⟨10,5,aj f ps 1,0,0⟩]:List Ins)),.p (λv y=>ay y v (ah ([⟨10,5,aj f ps 1,0,0⟩,⟨op,5,4,0,0⟩,⟨10,5,aj f ps 1,0,0⟩]:List Ins))),.p (λv y=>ay y v (aH f (ae.t (.mk ek en es (.slice ea el.length ec) el)) (ah ([⟨10,5,aj f ps 1,0,0⟩,⟨op,5,4,0,0⟩,⟨10,5,aj f ps 1,0,0⟩]:List Ins)))),.rs (w.heap.size+1) 9 #[.slice none 0 0,.slice none 0 0] 45] ⟨sH,sR,sP,sP,trivial⟩ (iP (n:=10) rfl rfl (jg.out)) ?steps ?done
   case steps =>
    refine⟨?s0,?s1,?s2,?s3,?s4,?s5,?s6,?s7,?s8,?s9,?s10,trivial⟩
    case s0|s3 =>
     refine oo (λvs x hP => ?_);simp only[zS];go_simp;exact gc
    case s1 =>
     refine ok aW (λvs x hG HX hP => ?_);obtain⟨⟨n0,n1⟩,n2,n3⟩:=aF HX.out.2.1;simp only[zS];go_simp;exact gc
    case s2|s6 =>
     refine ok aW (λvs x hG HX hP => ?_);obtain⟨⟨i0,i1,i2⟩,i3,i4⟩:=bR HX.out.2.2;simp only[zS];go_simp;exact gc
    case s4 =>
     refine oo (λvs x hP => ?_);simp only[zS];go_simp;exact gl ⟨_,rfl,heap_alloc_new x _⟩
    case s5 =>
     refine ok aW (λvs x hG HX hP => ?_);obtain⟨g4,h4,b4⟩:=pq hP 4;have HC:=ł (fO op (5) (4) g4 _ x b4);simp only[zS,h4];go_simp;refine(HC.out).mono ?_;rintro e y ⟨rfl,hg⟩;exact⟨_,rfl,bu hg rfl⟩
    case s7 =>
     refine oo (λvs x hP => ?_);simp only[zS];go_simp;exact gl ⟨_,rfl,ax.bN (f:=Ins.cells) (l:=([⟨10,5,aj f ps 1,0,0⟩,⟨op,5,4,0,0⟩,⟨10,5,aj f ps 1,0,0⟩]:List Ins)) (λ_=>rfl) (heap_alloc_new x _) rfl (by simp)⟩
    case s8 =>
     refine ok aW (λvs x hG HX hP => ?_);obtain⟨g7,h7,b7⟩:=pq hP 7;have HC:=ł (iG _ _ x b7);simp only[zS,h7];go_simp;refine(HC.out).mono ?_;rintro e y ⟨v,rfl,hp,hg⟩;exact⟨_,rfl,aZ hg hp⟩
    case s9 =>
     refine ok aW (λvs x hG HX hP => ?_);have p8:=pq hP 8;have jE:=p8;obtain⟨ca8,oG,oH,oI,h8,c8,f8⟩:=p8;rw[h8]at jE;have HC:=ł (zX.out x (gtr wW.out hG) _ _ jE (by simp[ah]));simp only[zS,h8];go_simp;refine(HC.out).mono ?_;rintro e y ⟨v,rfl,hp,hg⟩;exact⟨_,rfl,aZ hg hp⟩
    case s10 =>
     refine iQ (λvs x hb hv => ?_);obtain⟨fK,fM,gq,gu,h9,c9,f9⟩:=hv;obtain⟨c0,c1⟩:=aC hb;have zt:=aD hb;simp only[zS,h9];go_simp;exact set2 hb _ _
   case done =>
   intro vs w5 hE;have p8:=hE.val 8;have jE:=p8;obtain⟨ca8,oG,oH,oI,h8,c8,f8⟩:=p8;rw[h8]at jE;obtain⟨fK,fM,gq,gu,h9,c9,f9⟩:=hE.val 9;have b10:=hE.res 10;simp only[zS,h9]at b10;simp only[zS,Nat.reduceAdd,h8,h9];have HM:=ł (hE.last 10);have aQ:=ł (show Grow w w5 from Mv.trans wW.out HM.out (λb e => .inr (by omega)));have bC:=ł (show ay w5 (.agg #[.slice fK (aH f (ae.t (.mk ek en es (.slice ea el.length ec) el)) (ah ([⟨10,5,aj f ps 1,0,0⟩,⟨op,5,4,0,0⟩,⟨10,5,aj f ps 1,0,0⟩]:List Ins))).code.length fM,.slice gq (aH f (ae.t (.mk ek en es (.slice ea el.length ec) el)) (ah ([⟨10,5,aj f ps 1,0,0⟩,⟨op,5,4,0,0⟩,⟨10,5,aj f ps 1,0,0⟩]:List Ins))).refs.length gu]) (aH f (ae.t (.mk ek en es (.slice ea el.length ec) el)) (ah ([⟨10,5,aj f ps 1,0,0⟩,⟨op,5,4,0,0⟩,⟨10,5,aj f ps 1,0,0⟩]:List Ins)))from⟨fK,fM,gq,gu,rfl,c9,f9⟩);have HB:=ł b10;clear hE b10 HM c9 f9;simp only[bJ]at HB;go_wp2_with fail;obtain⟨t0,t1⟩:=aC HB.out;exact bodyPost_ret (v := .agg #[.slice fK (aH f (ae.t (.mk ek en es (.slice ea el.length ec) el)) (ah ([⟨10,5,aj f ps 1,0,0⟩,⟨op,5,4,0,0⟩,⟨10,5,aj f ps 1,0,0⟩]:List Ins))).code.length fM,.slice gq (aH f (ae.t (.mk ek en es (.slice ea el.length ec) el)) (ah ([⟨10,5,aj f ps 1,0,0⟩,⟨op,5,4,0,0⟩,⟨10,5,aj f ps 1,0,0⟩]:List Ins))).refs.length gu]) (by simp[results,Tryz.results81,go_sem,t0,t1]) rfl ⟨_,rfl,bC.out,aQ.out⟩
 · have hk3:pk=3:=hk;subst hk3
   replace h0:0<pl.length:=by rw[← ae.bT];exact h0
   rw[iM 0 h0]at hex;have Mo:=ł h0;have Um:=ł (iM (k:=3) (n:=pn) (s:=ps) (kv := .slice pa pl.length pc) 0 h0);obtain⟨pb,po,pc',hpv,-,-⟩:=bY.out.row.2.2.2.1.at h0;simp only[Value.slice.injEq,true_and]at hpv;obtain⟨rfl,rfl⟩:=hpv;have DX:=dO bY.out 0 h0;simp only[Nat.zero_mul,Nat.add_zero]at DX;have GZ:=ł (show nQ f (ae.t (.mk 3 pn ps (.slice (some ⟨pb,po,none⟩) pl.length pc) pl)) (ae.t (.mk ek en es (.slice ea el.length ec) el)) op=aH f (Tree.kid (ae.t (.mk 3 pn ps (.slice (some ⟨pb,po,none⟩) pl.length pc) pl)) 0) (aP [o8,aH f (ae.t (.mk ek en es (.slice ea el.length ec) el)) (ah [gQ f (ae.t (.mk 3 pn ps (.slice (some ⟨pb,po,none⟩) pl.length pc) pl)) 6 5,⟨op,6,4,0,0⟩,gQ f (ae.t (.mk 3 pn ps (.slice (some ⟨pb,po,none⟩) pl.length pc) pl)) 6 5]),o8])from rfl);rw[Um.out]at GZ;generalize pl[0]=yy at *;have Un:=ł (xK w G _ _ f procs aK.out yy DX.at_ hex hc0 hc1);obtain⟨yk,yn,ys,yv,yl⟩:=yy;obtain⟨ya,yc,rfl,-,-⟩:=DX.at_.form;simp only[ae.val]at Un;have HKY:=ł DX;have HIT:=ł (show gQ f (ae.t (.mk 3 pn ps (.slice (some ⟨pb,po,none⟩) pl.length pc) pl)) 6 5=⟨11,6,5,((au f ps 2).getD noSlot).at',((au f ps 2).getD noSlot).len⟩from rfl);rw[HIT.out]at GZ;have GV:=ł (show Ins.val (gQ f (ae.t (.mk 3 pn ps (.slice (some ⟨pb,po,none⟩) pl.length pc) pl)) 6 5) = .agg #[.int .u8 11,.int .i64 6,.int .i64 5,.int .i64 ((au f ps 2).getD noSlot).at',.int .i64 ((au f ps 2).getD noSlot).len]from rfl);generalize (au f ps 2).getD noSlot=sp at *;generalize nQ f (ae.t (.mk 3 pn ps (.slice (some ⟨pb,po,none⟩) pl.length pc) pl)) (ae.t (.mk ek en es (.slice ea el.length ec) el)) op=UC at *;have huc:=GZ.out;subst huc;have iA:=ł (show bH [ah ([⟨7,4,5,0,0⟩]:List Ins),aH f (ae.t (.mk ek en es (.slice ea el.length ec) el)) (ah ([⟨11,6,5,sp.at',sp.len⟩,⟨op,6,4,0,0⟩,⟨11,6,5,sp.at',sp.len⟩]:List Ins)),ah ([⟨7,4,5,0,0⟩]:List Ins)]<=200000/\bX [ah ([⟨7,4,5,0,0⟩]:List Ins),aH f (ae.t (.mk ek en es (.slice ea el.length ec) el)) (ah ([⟨11,6,5,sp.at',sp.len⟩,⟨op,6,4,0,0⟩,⟨11,6,5,sp.at',sp.len⟩]:List Ins)),ah ([⟨7,4,5,0,0⟩]:List Ins)]<=200000 from by
    have h1:=mP f (ae.t (.mk ek en es (.slice ea el.length ec) el)) (ah ([⟨11,6,5,sp.at',sp.len⟩,⟨op,6,4,0,0⟩,⟨11,6,5,sp.at',sp.len⟩]:List Ins));have h2:=mI.out.l;simp only[bH,bX,List.map_cons,List.map_nil,List.sum_cons,List.sum_nil,h1.1,h1.2];simp only[ah,List.length_cons,List.length_nil]
    omega)
   have Mq:=ł (show(aP [ah ([⟨7,4,5,0,0⟩]:List Ins),aH f (ae.t (.mk ek en es (.slice ea el.length ec) el)) (ah ([⟨11,6,5,sp.at',sp.len⟩,⟨op,6,4,0,0⟩,⟨11,6,5,sp.at',sp.len⟩]:List Ins)),ah ([⟨7,4,5,0,0⟩]:List Ins)]).code.length<=200000 from by rw[(iH _).1];exact iA.out.1);go_upto_region 5 with fail;clear n0 n1 n2 n3 hl1 hk h0 hex DX HIT Um GZ;refine fI 68 [some 40,some 41,some 42,some 10,none] [[],[],[0,1],[],[3,2]] [] [.c (.pointer (some ⟨G,0,none⟩)),.c (.agg #[.int .u8 3,.int .i64 pn,.string ps,.slice (some ⟨pb,po,none⟩) pl.length pc]),.c (.agg #[.int .u8 11,.int .i64 6,.int .i64 5,.int .i64 sp.at',.int .i64 sp.len]),.al 4 2 #[.int .u8 0,.int .i64 0,.int .i64 0,.int .i64 0,.int .i64 0] 60,.st 3] trivial (cz rfl) ?steps ?done
   case steps =>
    refine⟨?s0,?s1,?s2,?s3,?s4,trivial⟩
    case s0 =>
     refine oo (λvs x hP => ?_);simp only[zS];go_simp;exact gc
    case s1 =>
     refine ok0 bL (λvs x hG HX hP => ?_);obtain⟨⟨n0,n1⟩,n2,n3⟩:=aF HX.out.2.1;simp only[zS];go_simp;exact gc
    case s2 =>
     refine ok0 bL (λvs x hG HX hP => ?_);have HC:=ł (ED x G _ _ f procs HX.out.1 (.mk 3 pn ps (.slice (some ⟨pb,po,none⟩) pl.length pc) pl) 6 5 (bY.out.later (gtr aG.out hG)));simp only[ae.val,GV.out]at HC;simp only[zS];go_simp;refine(HC.out).mono ?_;rintro e y ⟨rfl,hg⟩;exact⟨_,rfl,bu hg rfl⟩
    case s3 =>
     refine oz (λvs x => ?_);simp only[zS];go_simp;exact⟨rfl,rfl⟩
    case s4 =>
     refine os (λvs x g hg hb hv => ?_);have h2:vs 2=_:=hv;obtain⟨⟨c0,c1,c2⟩,c3,c4⟩:=bR hb;have zt:=aD hb;simp only[zS,hg,h2];go_simp;exact kC hb _ _ _ _ _
   case done =>
   intro vs w4 hE;have hG:=hE.jU;obtain⟨g3,a3,l3,m3,b3⟩:=hE.box 3;simp only[zS]at b3;simp only[zS,Nat.reduceAdd,a3];have HB3:=ł b3;simp only[bJ]at HB3;have wW:=ł (gtr aG.out hG);have jg:=ł (ai sO.out hG);have qF:=ł hG;have zX:=ł (λ(z:World) (hz:Grow w z)=>CE.out z hz);have aW:=ł (λ(y:World) (hy:Grow w4 y)=>And.intro trivial (And.intro (ai Bp.out (gtr hG hy)) (ai HB3.out hy)));clear hE hG b3 bL CE;go_upto_region 6 with fail;refine wg 68 [some 43,some 44,some 45,some 46,some 47,some 48,some 49,some 50,some 51,some 52,some 11,none] [[],[],[],[],[],[3,4],[],[2,5,6],[7],[0,1,8],[],[10,9]] [4,7] [.c (.pointer (some ⟨G,0,none⟩)),.c (.agg #[.int .u8 ek,.int .i64 en,.string es,.slice ea el.length ec]),.c (.agg #[.int .u8 11,.int .i64 6,.int .i64 5,.int .i64 sp.at',.int .i64 sp.len]),.c (.int .u8 op),.p (λv y=>∃ g,v = .slice (some ⟨g,0,none⟩) 2 2/\y.heap[g]? = some (.cells #[.int .i64 6,.int .i64 4] 3 (0,0))),.c (.agg #[.int .u8 op,.int .i64 6,.int .i64 4,.int .i64 0,.int .i64 0]),.c (.agg #[.int .u8 11,.int .i64 6,.int .i64 5,.int .i64 sp.at',.int .i64 sp.len]),.p (λv y=>∃ g,v = .slice (some ⟨g,0,none⟩) 3 3/\ax 5 Ins.cells y (.slice (some ⟨g,0,none⟩) 3 3) ([⟨11,6,5,sp.at',sp.len⟩,⟨op,6,4,0,0⟩,⟨11,6,5,sp.at',sp.len⟩]:List Ins)),.p (λv y=>ay y v (ah ([⟨11,6,5,sp.at',sp.len⟩,⟨op,6,4,0,0⟩,⟨11,6,5,sp.at',sp.len⟩]:List Ins))),.p (λv y=>ay y v (aH f (ae.t (.mk ek en es (.slice ea el.length ec) el)) (ah ([⟨11,6,5,sp.at',sp.len⟩,⟨op,6,4,0,0⟩,⟨11,6,5,sp.at',sp.len⟩]:List Ins)))),.al 11 9 #[.slice none 0 0,.slice none 0 0] 45,.st 10] ⟨sH,sR,sP,sP,trivial⟩ (cz rfl) ?steps ?done
   case steps =>
    refine⟨?s0,?s1,?s2,?s3,?s4,?s5,?s6,?s7,?s8,?s9,?s10,?s11,trivial⟩
    case s0|s3 =>
     refine oo (λvs x hP => ?_);simp only[zS];go_simp;exact gc
    case s1 =>
     refine ok aW (λvs x hG HX hP => ?_);obtain⟨⟨n0,n1⟩,n2,n3⟩:=aF HX.out.2.1;simp only[zS];go_simp;exact gc
    case s2|s6 =>
     refine ok aW (λvs x hG HX hP => ?_);obtain⟨⟨i0,i1,i2⟩,i3,i4⟩:=bR HX.out.2.2;simp only[zS];go_simp;exact gc
    case s4 =>
     refine oo (λvs x hP => ?_);simp only[zS];go_simp;exact gl ⟨_,rfl,heap_alloc_new x _⟩
    case s5 =>
     refine ok aW (λvs x hG HX hP => ?_);obtain⟨g4,h4,b4⟩:=pq hP 4;have HC:=ł (fO op (6) (4) g4 _ x b4);simp only[zS,h4];go_simp;refine(HC.out).mono ?_;rintro e y ⟨rfl,hg⟩;exact⟨_,rfl,bu hg rfl⟩
    case s7 =>
     refine oo (λvs x hP => ?_);simp only[zS];go_simp;exact gl ⟨_,rfl,ax.bN (f:=Ins.cells) (l:=([⟨11,6,5,sp.at',sp.len⟩,⟨op,6,4,0,0⟩,⟨11,6,5,sp.at',sp.len⟩]:List Ins)) (λ_=>rfl) (heap_alloc_new x _) rfl (by simp)⟩
    case s8 =>
     refine ok aW (λvs x hG HX hP => ?_);obtain⟨g7,h7,b7⟩:=pq hP 7;have HC:=ł (iG _ _ x b7);simp only[zS,h7];go_simp;refine(HC.out).mono ?_;rintro e y ⟨v,rfl,hp,hg⟩;exact⟨_,rfl,aZ hg hp⟩
    case s9 =>
     refine ok aW (λvs x hG HX hP => ?_);have p8:=pq hP 8;have jE:=p8;obtain⟨ca8,oG,oH,oI,h8,c8,f8⟩:=p8;rw[h8]at jE;have HC:=ł (zX.out x (gtr wW.out hG) _ _ jE (by simp[ah]));simp only[zS,h8];go_simp;refine(HC.out).mono ?_;rintro e y ⟨v,rfl,hp,hg⟩;exact⟨_,rfl,aZ hg hp⟩
    case s10 =>
     refine oz (λvs x => ?_);simp only[zS];go_simp;exact⟨rfl,rfl⟩
    case s11 =>
     refine os (λvs x g hg hb hv => ?_);obtain⟨fK,fM,gq,gu,h9,c9,f9⟩:=hv;obtain⟨c0,c1⟩:=aC hb;have zt:=aD hb;simp only[zS,hg,h9];go_simp;exact set2 hb _ _
   case done =>
   intro vs w5 hE;have hG:=hE.grow;have p8:=hE.val 8;have jE:=p8;obtain⟨ca8,oG,oH,oI,h8,c8,f8⟩:=p8;rw[h8]at jE;obtain⟨fK,fM,gq,gu,h9,c9,f9⟩:=hE.val 9;obtain⟨g10,zT,l10,m10,b10⟩:=hE.box 10;simp only[zS,h9]at b10;simp only[zS,Nat.reduceAdd,h8,h9,zT];have zh:=ł b10;simp only[bJ]at zh;have zY:=ł (show ay w5 (.agg #[.slice fK (aH f (ae.t (.mk ek en es (.slice ea el.length ec) el)) (ah ([⟨11,6,5,sp.at',sp.len⟩,⟨op,6,4,0,0⟩,⟨11,6,5,sp.at',sp.len⟩]:List Ins))).code.length fM,.slice gq (aH f (ae.t (.mk ek en es (.slice ea el.length ec) el)) (ah ([⟨11,6,5,sp.at',sp.len⟩,⟨op,6,4,0,0⟩,⟨11,6,5,sp.at',sp.len⟩]:List Ins))).refs.length gu]) (aH f (ae.t (.mk ek en es (.slice ea el.length ec) el)) (ah ([⟨11,6,5,sp.at',sp.len⟩,⟨op,6,4,0,0⟩,⟨11,6,5,sp.at',sp.len⟩]:List Ins)))from⟨fK,fM,gq,gu,rfl,c9,f9⟩);have aT:=ł (gtr wW.out hG);have Rw:=ł (gtr qF.out hG);have kD:=ł (ai jg.out hG);clear hE hG b10 c9 f9 aW zX qF;go_upto_region 7 with fail;refine fI 68 [some 53,some 54,some 55,some 56,some 12,none] [[],[0],[1],[2],[],[4,3]] [0,2] [.p (λv y=>∃ g,v = .slice (some ⟨g,0,none⟩) 2 2/\y.heap[g]? = some (.cells #[.int .i64 4,.int .i64 5] 3 (0,0))),.c (.agg #[.int .u8 7,.int .i64 4,.int .i64 5,.int .i64 0,.int .i64 0]),.p (λv y=>∃ g,v = .slice (some ⟨g,0,none⟩) 1 1/\ax 5 Ins.cells y (.slice (some ⟨g,0,none⟩) 1 1) ([⟨7,4,5,0,0⟩]:List Ins)),.p (λv y=>ay y v (ah ([⟨7,4,5,0,0⟩]:List Ins))),.al 5 3 #[.slice none 0 0,.slice none 0 0] 45,.st 4] ⟨sH,sR,sP,trivial⟩ (cz rfl) ?steps ?done
   case steps =>
    refine⟨?s0,?s1,?s2,?s3,?s4,?s5,trivial⟩
    case s0 =>
     refine oo (λvs x hP => ?_);simp only[zS];go_simp;exact gl ⟨_,rfl,heap_alloc_new x _⟩
    case s1 =>
     refine om (λvs x hG hP => ?_);obtain⟨g0,h0,b0⟩:=pq hP 0;have HX:=ł hG;have HC:=ł (fO 7 (4) (5) g0 _ x b0);simp only[zS,h0];go_simp;refine(HC.out).mono ?_;rintro e y ⟨rfl,hg⟩;exact⟨_,rfl,bu hg rfl⟩
    case s2 =>
     refine oo (λvs x hP => ?_);simp only[zS];go_simp;exact gl ⟨_,rfl,ax.bN (f:=Ins.cells) (l:=([⟨7,4,5,0,0⟩]:List Ins)) (λ_=>rfl) (heap_alloc_new x _) rfl (by simp)⟩
    case s3 =>
     refine om (λvs x hG hP => ?_);obtain⟨g2,h2,b2⟩:=pq hP 2;have HX:=ł hG;have HC:=ł (iG _ _ x b2);simp only[zS,h2];go_simp;refine(HC.out).mono ?_;rintro e y ⟨v,rfl,hp,hg⟩;exact⟨_,rfl,aZ hg hp⟩
    case s4 =>
     refine oz (λvs x => ?_);simp only[zS];go_simp;exact⟨rfl,rfl⟩
    case s5 =>
     refine os (λvs x g hg hb hv => ?_);obtain⟨oJ,oK,nL,oL,h3,c3,f3⟩:=hv;obtain⟨c0,c1⟩:=aC hb;have zt:=aD hb;simp only[zS,hg,h3];go_simp;exact set2 hb _ _
   case done =>
   intro vs w6 hE;have hG:=hE.jU;obtain⟨oJ,oK,nL,oL,h3,c3,f3⟩:=hE.val 3;obtain⟨g4,a4,l4,m4,b4⟩:=hE.box 4;simp only[zS,h3]at b4;simp only[zS,Nat.reduceAdd,h3,a4];have pR:=ł b4;simp only[bJ]at pR;have wR:=ł (show ay w6 (.agg #[.slice oJ (ah ([⟨7,4,5,0,0⟩]:List Ins)).code.length oK,.slice nL (ah ([⟨7,4,5,0,0⟩]:List Ins)).refs.length oL]) (ah ([⟨7,4,5,0,0⟩]:List Ins))from⟨oJ,oK,nL,oL,rfl,c3,f3⟩);have dw:=ł (gtr aT.out hG);have _X:=ł (gtr Rw.out hG);have uN:=ł (ai kD.out hG);have fE:=ł (λ(y:World) (hy:Grow w6 y)=>And.intro (ai tX.out (gtr _X.out hy)) (And.intro (ai pR.out hy) (And.intro (ai zh.out (gtr hG hy)) (And.intro (wR.out.later hy) (And.intro (zY.out.later (gtr hG hy)) (HKY.out.later (gtr dw.out hy)))))));clear hE hG b4 c3 f3 Rw;go_upto_region 8 with fail;refine wg 68 [some 57,some 58,some 59,some 60,some 61,some 62,some 63,some 64,some 65,some 66,some 67,none] [[],[],[1],[2],[3],[],[],[],[5,6,7],[8],[0,4,9],[10]] [8] [.c (.pointer (some ⟨G,0,none⟩)),.c (.pointer (some ⟨g8,3,none⟩)),.c (.slice (some ⟨pb,po,none⟩) pl.length pc),.c (.pointer (some ⟨pb,po,none⟩)),.c (.agg #[.int .u8 yk,.int .i64 yn,.string ys,.slice ya yl.length yc]),.c (.agg #[.slice oJ (ah ([⟨7,4,5,0,0⟩]:List Ins)).code.length oK,.slice nL (ah ([⟨7,4,5,0,0⟩]:List Ins)).refs.length oL]),.c (.agg #[.slice fK (aH f (ae.t (.mk ek en es (.slice ea el.length ec) el)) (ah ([⟨11,6,5,sp.at',sp.len⟩,⟨op,6,4,0,0⟩,⟨11,6,5,sp.at',sp.len⟩]:List Ins))).code.length fM,.slice gq (aH f (ae.t (.mk ek en es (.slice ea el.length ec) el)) (ah ([⟨11,6,5,sp.at',sp.len⟩,⟨op,6,4,0,0⟩,⟨11,6,5,sp.at',sp.len⟩]:List Ins))).refs.length gu]),.c (.agg #[.slice oJ (ah ([⟨7,4,5,0,0⟩]:List Ins)).code.length oK,.slice nL (ah ([⟨7,4,5,0,0⟩]:List Ins)).refs.length oL]),.p (λv y=>∃ g,v = .slice (some ⟨g,0,none⟩) 3 3/\iw y (.slice (some ⟨g,0,none⟩) 3 3) [ah ([⟨7,4,5,0,0⟩]:List Ins),aH f (ae.t (.mk ek en es (.slice ea el.length ec) el)) (ah ([⟨11,6,5,sp.at',sp.len⟩,⟨op,6,4,0,0⟩,⟨11,6,5,sp.at',sp.len⟩]:List Ins)),ah ([⟨7,4,5,0,0⟩]:List Ins)]),.p (λv y=>ay y v (aP [ah ([⟨7,4,5,0,0⟩]:List Ins),aH f (ae.t (.mk ek en es (.slice ea el.length ec) el)) (ah ([⟨11,6,5,sp.at',sp.len⟩,⟨op,6,4,0,0⟩,⟨11,6,5,sp.at',sp.len⟩]:List Ins)),ah ([⟨7,4,5,0,0⟩]:List Ins)])),.p (λv y=>ay y v (aH f (ae.t (.mk yk yn ys (.slice ya yl.length yc) yl)) (aP [ah ([⟨7,4,5,0,0⟩]:List Ins),aH f (ae.t (.mk ek en es (.slice ea el.length ec) el)) (ah ([⟨11,6,5,sp.at',sp.len⟩,⟨op,6,4,0,0⟩,⟨11,6,5,sp.at',sp.len⟩]:List Ins)),ah ([⟨7,4,5,0,0⟩]:List Ins)]))),.rs (w.heap.size+1) 10 #[.slice none 0 0,.slice none 0 0] 45] ⟨sQ,sP,sP,trivial⟩ (iP (n:=11) rfl rfl (uN.out)) ?steps ?done
   case steps =>
    refine⟨?s0,?s1,?s2,?s3,?s4,?s5,?s6,?s7,?s8,?s9,?s10,?s11,trivial⟩
    case s0|s1 =>
     refine oo (λvs x hP => ?_);simp only[zS];go_simp;exact gc
    case s2 =>
     refine ok fE (λvs x hG HX hP => ?_);obtain⟨⟨n0,n1⟩,n2,n3⟩:=aF (HX.out.1);simp only[zS];go_simp;exact gc
    case s3 =>
     refine ok fE (λvs x hG HX hP => ?_);have hbd:0<pl.length:=by have:=Mo.out;omega
     simp only[zS];go_simp;exact gc
    case s4 =>
     refine ok fE (λvs x hG HX hP => ?_);obtain⟨⟨d0,d1⟩,d2,d3⟩:=(HX.out.2.2.2.2.2).four;simp only[zS];go_simp;exact gc
    case s5|s7 =>
     refine ok fE (λvs x hG HX hP => ?_);obtain⟨i0,i1⟩:=aC HX.out.2.1;simp only[zS];go_simp;exact gc
    case s6 =>
     refine ok fE (λvs x hG HX hP => ?_);obtain⟨i0,i1⟩:=aC HX.out.2.2.1;simp only[zS];go_simp;exact gc
    case s8 =>
     refine ok fE (λvs x hG HX hP => ?_);simp only[zS];go_simp;exact gl ⟨_,rfl,sw (vs:=[(.slice oJ (ah ([⟨7,4,5,0,0⟩]:List Ins)).code.length oK,.slice nL (ah ([⟨7,4,5,0,0⟩]:List Ins)).refs.length oL),(.slice fK (aH f (ae.t (.mk ek en es (.slice ea el.length ec) el)) (ah ([⟨11,6,5,sp.at',sp.len⟩,⟨op,6,4,0,0⟩,⟨11,6,5,sp.at',sp.len⟩]:List Ins))).code.length fM,.slice gq (aH f (ae.t (.mk ek en es (.slice ea el.length ec) el)) (ah ([⟨11,6,5,sp.at',sp.len⟩,⟨op,6,4,0,0⟩,⟨11,6,5,sp.at',sp.len⟩]:List Ins))).refs.length gu),(.slice oJ (ah ([⟨7,4,5,0,0⟩]:List Ins)).code.length oK,.slice nL (ah ([⟨7,4,5,0,0⟩]:List Ins)).refs.length oL)]) (heap_alloc_new x _) rfl ⟨ay.later (HX.out.2.2.2.1) ((Mv.refl _ _).alloc _),ay.later (HX.out.2.2.2.2.1) ((Mv.refl _ _).alloc _),ay.later (HX.out.2.2.2.1) ((Mv.refl _ _).alloc _),trivial⟩⟩
    case s9 =>
     refine ok fE (λvs x hG HX hP => ?_);obtain⟨g8,h8,b8⟩:=pq hP 8;have HC:=ł (xJ _ _ x b8 iA.out.1 iA.out.2 (by simp));simp only[zS,h8];go_simp;refine(HC.out).mono ?_;rintro e y ⟨v,rfl,hp,hg⟩;exact⟨_,rfl,aZ hg hp.at⟩
    case s10 =>
     refine ok fE (λvs x hG HX hP => ?_);have p9:=pq hP 9;have xg:=p9;obtain⟨fK,fM,gq,gu,h9,c9,f9⟩:=p9;rw[h9]at xg;have HC:=ł (Un.out x (gtr dw.out hG) _ _ xg Mq.out);simp only[zS,h9];go_simp;refine(HC.out).mono ?_;rintro e y ⟨v,rfl,hp,hg⟩;exact⟨_,rfl,aZ hg hp⟩
    case s11 =>
     refine iQ (λvs x hb hv => ?_);obtain⟨qC,qD,sS,sU,h10,c10,f10⟩:=hv;obtain⟨c0,c1⟩:=aC hb;have zt:=aD hb;simp only[zS,h10];go_simp;exact set2 hb _ _
   case done =>
   intro vs w7 hE;have p9:=hE.val 9;have xg:=p9;obtain⟨fK,fM,gq,gu,h9,c9,f9⟩:=p9;rw[h9]at xg;obtain⟨qC,qD,sS,sU,h10,c10,f10⟩:=hE.val 10;have b11:=hE.res 11;simp only[zS,h10]at b11;simp only[zS,Nat.reduceAdd,h9,h10];have HM:=ł (hE.last 11);have aQ:=ł (show Grow w w7 from Mv.trans dw.out HM.out (λb e => .inr (by omega)));have bC:=ł (show ay w7 (.agg #[.slice qC (aH f (ae.t (.mk yk yn ys (.slice ya yl.length yc) yl)) (aP [ah ([⟨7,4,5,0,0⟩]:List Ins),aH f (ae.t (.mk ek en es (.slice ea el.length ec) el)) (ah ([⟨11,6,5,sp.at',sp.len⟩,⟨op,6,4,0,0⟩,⟨11,6,5,sp.at',sp.len⟩]:List Ins)),ah ([⟨7,4,5,0,0⟩]:List Ins)])).code.length qD,.slice sS (aH f (ae.t (.mk yk yn ys (.slice ya yl.length yc) yl)) (aP [ah ([⟨7,4,5,0,0⟩]:List Ins),aH f (ae.t (.mk ek en es (.slice ea el.length ec) el)) (ah ([⟨11,6,5,sp.at',sp.len⟩,⟨op,6,4,0,0⟩,⟨11,6,5,sp.at',sp.len⟩]:List Ins)),ah ([⟨7,4,5,0,0⟩]:List Ins)])).refs.length sU]) (aH f (ae.t (.mk yk yn ys (.slice ya yl.length yc) yl)) (aP [ah ([⟨7,4,5,0,0⟩]:List Ins),aH f (ae.t (.mk ek en es (.slice ea el.length ec) el)) (ah ([⟨11,6,5,sp.at',sp.len⟩,⟨op,6,4,0,0⟩,⟨11,6,5,sp.at',sp.len⟩]:List Ins)),ah ([⟨7,4,5,0,0⟩]:List Ins)]))from⟨qC,qD,sS,sU,rfl,c10,f10⟩);have HB:=ł b11;clear hE b11 HM c10 f10;simp only[bJ]at HB;go_wp2_with fail;obtain⟨t0,t1⟩:=aC HB.out;exact bodyPost_ret (v := .agg #[.slice qC (aH f (ae.t (.mk yk yn ys (.slice ya yl.length yc) yl)) (aP [ah ([⟨7,4,5,0,0⟩]:List Ins),aH f (ae.t (.mk ek en es (.slice ea el.length ec) el)) (ah ([⟨11,6,5,sp.at',sp.len⟩,⟨op,6,4,0,0⟩,⟨11,6,5,sp.at',sp.len⟩]:List Ins)),ah ([⟨7,4,5,0,0⟩]:List Ins)])).code.length qD,.slice sS (aH f (ae.t (.mk yk yn ys (.slice ya yl.length yc) yl)) (aP [ah ([⟨7,4,5,0,0⟩]:List Ins),aH f (ae.t (.mk ek en es (.slice ea el.length ec) el)) (ah ([⟨11,6,5,sp.at',sp.len⟩,⟨op,6,4,0,0⟩,⟨11,6,5,sp.at',sp.len⟩]:List Ins)),ah ([⟨7,4,5,0,0⟩]:List Ins)])).refs.length sU]) (by simp[results,Tryz.results81,go_sem,t0,t1]) rfl ⟨_,rfl,bC.out,aQ.out⟩
end Go.Proofs.YtnobahchcongnaaGreat
