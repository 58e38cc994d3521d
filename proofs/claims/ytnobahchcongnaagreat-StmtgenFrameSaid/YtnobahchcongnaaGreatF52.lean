import Derived.Test.YtnobahchcongnaaGreatF47
import Derived.Test.YtnobahchcongnaaGreatF50
import Derived.Test.YtnobahchcongnaaGreatF51
set_option linter.unusedSimpArgs false
set_option linter.unusedVariables false
set_option maxRecDepth 100000
set_option maxHeartbeats 25600000
namespace Go.Proofs.YtnobahchcongnaaGreat
open Go.RowKit Go.Instr
def gp (M:Nat) (b:Nat) (t:TypeId):Bool:=(b == M && t == 3) || t == 4
theorem Pq (M n0:Nat) (h:M<n0):vT (gp M) n0:=⟨λb=>by simp[gp],λb hb=>by simp[gp];omega,λb=>by simp[gp],λb=>by simp[gp],λb=>by simp[gp]⟩
structure oQ (w:World) (X G H M:Nat) (pc:Array Value) (E:Int) (pre:List (Value × ae)) (W:World):Prop where
 x:W.heap[X]? = some (.cells #[.bool false] 4 (0,0))
 p:W.heap[G]? = some (.cells pc 45 (0,0))
 e:W.heap[H]? = some (.cells #[.int .i64 E] 39 (0,0))
 m:W.heap[M]? = some (.cells #[.int .i64 (((came pre).countP fQ:Nat):Int)] 3 (0,0))
 g:Grow w W
 n:((came pre).any λt=>t.kind == 56)=false
structure Dn (w:World) (X:Nat) (b:Bool) (c:Code) (pre:List (Value × ae)) (W:World):Prop where
 c:c = .ret
 x:W.heap[X]? = some (.cells #[.bool b] 4 (0,0))
 g:Grow w W
 n:((came pre).any λt=>t.kind == 56)=true
theorem Cb {Ts:Nat->TypeId->Bool} {B:Nat} {X Y:World} (hm:uO Ts B X Y) {b:Nat} {o:Obj} (h:X.heap[b]? = some o) (hb:b<B):Y.heap[b]? = some o:=(hm.block b (lt_of_block h) (λe=>e (.inl hb))).trans h
theorem QF {Ts:Nat->TypeId->Bool} {B:Nat} {w X Y:World} (hm:uO Ts B X Y) (h:Grow w X) (hB:w.heap.size<=B):Grow w Y:=Mv.trans h hm (λb e => .inr (by
 rcases Nat.lt_or_ge b B with h1|h1
 · exact(e (.inl h1)).elim
 · omega))
theorem oQ.it {w:World} {X G H M:Nat} {pc:Array Value} {E:Int} {pre:List (Value × ae)} {W Y:World} {Ts:Nat->TypeId->Bool} {B:Nat} (h:oQ w X G H M pc E pre W) (hm:uO Ts B W Y) (hw:w.heap.size<=B) (h1:X<B) (h2:G<B) (h3:H<B) (h4:M<B):oQ w X G H M pc E pre Y :=
 ⟨Cb hm h.x h1,Cb hm h.p h2,Cb hm h.e h3,Cb hm h.m h4,QF hm h.g hw,h.n⟩
theorem Dn.it {w:World} {X:Nat} {b:Bool} {c:Code} {pre:List (Value × ae)} {W Y:World} {Ts:Nat->TypeId->Bool} {B:Nat} (h:Dn w X b c pre W) (hm:uO Ts B W Y) (hw:w.heap.size<=B) (h1:X<B):Dn w X b c pre Y:=⟨h.c,Cb hm h.x h1,QF hm h.g hw,h.n⟩
theorem Oc (ys:List (Value × ae)) (z:Value × ae):(came (ys ++ [z])).countP fQ=(came ys).countP fQ+(if fQ z.2.t then 1 else 0):=by rw[ry,List.countP_append];simp[List.countP_cons]
theorem Qb (ys:List (Value × ae)) (z:Value × ae):((came (ys ++ [z])).any λt=>t.kind == 56)=(((came ys).any λt=>t.kind == 56) || z.2.t.kind == 56):=by rw[ry,List.any_append];simp
theorem Jh (P:List aU):∀ (l:List aU) (i:Nat),mr P i l=0->∀ q∈l,gG [] q.params=0/\gP P q.body q.params=0
 | [],_,_,q,hq=>by cases hq
 |p :: l,i,h,q,hq=>by
  rw[mr,yZ]at h;rcases List.mem_cons.1 hq with rfl|hq
  · omega
  · exact Jh P l (i+1) (by omega) q hq
theorem ZQ (P:List aU) (ho:P.all aU.okB=true) (h:mr P 0 P=0):Ct P:=λq hq=>by
 have h1:=(Jh P P 0 h q hq).1;have h2:=List.all_eq_true.1 ho q hq;simp only[aU.okB,Bool.and_eq_true]at h2;have h3:gN q.params=true:=Jg h2.2.2.1 (of_decide_eq_true h2.2.1) (by decide);have h4:=JB q.params [] h1;rw[List.map_nil]at h4;rw[jX,h3,h4];rfl
theorem Z7 {l:List ak} (h:Ct (l.map ak.d)):sj l:=λp hp=>h p.d (List.mem_map.2 ⟨p,hp,rfl⟩)
theorem Z8 {t:Tree} (h:0<=iq t 80):bA t<=80:=by
 have:=(J2 t 80 (by decide)).2.2 h;omega
theorem NI {t:Tree} (h:lF t=true):bW t=true:=by
 simp only[lF,Bool.and_eq_true]at h;exact h.2
attribute [local go_sem] Oper.semAt_some
theorem YG (p:cu) (proc:Int) (w:World) (hp:qj w p) (h64:In64 proc):Calls Tryz.prog 3 #[p.val,.int .i64 proc] w λe w'=>e = .returned (.bool true)/\Grow w w':=by
 have ny:=ł (λz (hz:Grow w z)=>Ox p z (hp.later hz));have Np:=ł (λz (hz:Grow w z)=>YF p z (hp.later hz));obtain⟨vars,U5,procs,U6,⟨mk,mn,ms,mv,ml⟩⟩:=p;obtain⟨⟨va,vc,rfl⟩,⟨pa,pc,rfl⟩,hm⟩:=hp.form;obtain⟨ma,mc,rfl,-,-⟩:=hm.form;have iB:=ł hp;have hpl:procs.length<=9223372036854775807:=by obtain⟨_,_,_,_,h⟩:=hp.procs.row.form;exact h
 clear hp hm;have wP:=ł (show(cu.d ⟨vars,.slice va vars.length vc,procs,.slice pa procs.length pc,.mk mk mn ms (.slice ma ml.length mc) ml⟩).faults=if(cu.d ⟨vars,.slice va vars.length vc,procs,.slice pa procs.length pc,.mk mk mn ms (.slice ma ml.length mc) ml⟩).okB then gG [] vars+(mr (procs.map ak.d) 0 (procs.map ak.d)+gP (procs.map ak.d) (ae.t (.mk mk mn ms (.slice ma ml.length mc) ml)) vars)else 0 from rfl);have iC:=ł (JA vars (.slice va vars.length vc) procs (.slice pa procs.length pc) (.mk mk mn ms (.slice ma ml.length mc) ml));generalize (cu.d ⟨vars,.slice va vars.length vc,procs,.slice pa procs.length pc,.mk mk mn ms (.slice ma ml.length mc) ml⟩).faults=FA at *;generalize (cu.d ⟨vars,.slice va vars.length vc,procs,.slice pa procs.length pc,.mk mk mn ms (.slice ma ml.length mc) ml⟩).okB=ok at *;have iE:=ł (λz (hz:Grow w z)=>P9 (.mk mk mn ms (.slice ma ml.length mc) ml) 80 z (iB.out.main.later hz) (by decide) (by decide));simp only[cu.val,ae.val]at ny Np iE ⊢;obtain⟨lY,-,HG2⟩:=a2 w (.cells #[.slice va vars.length vc,.slice pa procs.length pc,.int .u8 mk,.int .i64 mn,.string ms,.slice ma ml.length mc] 28) (.cells #[.bool false] 4);have bZ:=ł (show((w.alloc (.cells #[.slice va vars.length vc,.slice pa procs.length pc,.int .u8 mk,.int .i64 mn,.string ms,.slice ma ml.length mc] 28)).alloc (.cells #[.bool false] 4)).heap[w.heap.size+1]? = some (.cells #[.bool false] 4 (0,0))from by
  have:=heap_alloc_new (w.alloc (.cells #[.slice va vars.length vc,.slice pa procs.length pc,.int .u8 mk,.int .i64 mn,.string ms,.slice ma ml.length mc] 28)) (.cells #[.bool false] 4)
  simpa using this)
 have Gq:=ł (show((w.alloc (.cells #[.slice va vars.length vc,.slice pa procs.length pc,.int .u8 mk,.int .i64 mn,.string ms,.slice ma ml.length mc] 28)).alloc (.cells #[.bool false] 4)).heap.size=w.heap.size+2 from by simp);refine NS Tryz.func3 rfl ?_;simp only[Tryz.ntmps3,List.size_toArray,List.length_cons,List.length_nil,Nat.reduceAdd,Nat.reduceSub,Array.replicate_succ,Array.replicate_zero,List.push_toArray,List.append_toArray,List.nil_append,List.cons_append];go_wp2_with fail;generalize ((w.alloc (.cells #[.slice va vars.length vc,.slice pa procs.length pc,.int .u8 mk,.int .i64 mn,.string ms,.slice ma ml.length mc] 28)).alloc (.cells #[.bool false] 4))=w2 at *;refine(yL _).mono ?_;rintro e w3 ⟨rfl,hg3⟩;have aG:=ł hg3;obtain⟨⟨x0,x1,x2⟩,x3,x4,x5⟩:=dK (ai lY.out hg3);have hxl:=lt_of_block (ai lY.out hg3);clear hg3;by_cases h6:procs.length<=6
 case neg =>
  have d6:decide (6<(procs.length:Int))=true:=by simp;omega
  go_wp2_with fail;refine(yL _).mono ?_;rintro e wq ⟨rfl,uk⟩;have hgz:=gtr aG.out uk;have hX:=ai bZ.out hgz;have wQ:=cell1 hX;have hxz:=aD hX 0;have hxl:=lt_of_block hX;obtain⟨hs1,hs2⟩:=set1 hX (.bool true);have HB:=ł hs1;have HF:=ł (show Grow w _ from jG (gtr HG2.out hgz) hs2 (λb e=>by omega));clear hgz hX hs1 hs2;go_wp2_with fail;have t0:=cell1 HB.out;exact uy (v := .bool true) (by simp[results,Tryz.results3,go_sem,t0]) rfl ⟨rfl,HF.out⟩
 have d6:decide (6<(procs.length:Int))=false:=by simp;omega
 go_wp2_with fail;refine(iE.out _ (gtr HG2.out aG.out)).mono ?_;rintro e w4 ⟨rfl,hg4⟩;have aN:=ł (gtr aG.out hg4);obtain⟨⟨x0,x1,x2⟩,x3,x4,x5⟩:=dK (ai lY.out (gtr aG.out hg4));have hxl:=lt_of_block (ai lY.out (gtr aG.out hg4));clear hg4;by_cases hsz:0<=iq (ae.t (.mk mk mn ms (.slice ma ml.length mc) ml)) 80
 case neg =>
  have Vr:decide (iq (ae.t (.mk mk mn ms (.slice ma ml.length mc) ml)) 80<0)=true:=by simp;omega
  go_wp2_with fail;refine(yL _).mono ?_;rintro e wq ⟨rfl,uk⟩;have hgz:=gtr aN.out uk;have hX:=ai bZ.out hgz;have wQ:=cell1 hX;have hxz:=aD hX 0;have hxl:=lt_of_block hX;obtain⟨hs1,hs2⟩:=set1 hX (.bool true);have HB:=ł hs1;have HF:=ł (show Grow w _ from jG (gtr HG2.out hgz) hs2 (λb e=>by omega));clear hgz hX hs1 hs2;go_wp2_with fail;have t0:=cell1 HB.out;exact uy (v := .bool true) (by simp[results,Tryz.results3,go_sem,t0]) rfl ⟨rfl,HF.out⟩
 have Vr:decide (iq (ae.t (.mk mk mn ms (.slice ma ml.length mc) ml)) 80<0)=false:=by simp;omega
 have TZ:=ł hsz;clear hsz;generalize iq (ae.t (.mk mk mn ms (.slice ma ml.length mc) ml)) 80=SL at *;by_cases hp1 : -1<=proc
 case neg =>
  have Vs:decide (proc < -1)=true:=by simp;omega
  go_wp2_with fail;refine(yL _).mono ?_;rintro e wq ⟨rfl,uk⟩;have hgz:=gtr aN.out uk;have hX:=ai bZ.out hgz;have wQ:=cell1 hX;have hxz:=aD hX 0;have hxl:=lt_of_block hX;obtain⟨hs1,hs2⟩:=set1 hX (.bool true);have HB:=ł hs1;have HF:=ł (show Grow w _ from jG (gtr HG2.out hgz) hs2 (λb e=>by omega));clear hgz hX hs1 hs2;go_wp2_with fail;have t0:=cell1 HB.out;exact uy (v := .bool true) (by simp[results,Tryz.results3,go_sem,t0]) rfl ⟨rfl,HF.out⟩
 have Vs:decide (proc < -1)=false:=by simp;omega
 by_cases hp2:proc<procs.length
 case neg =>
  have Vt:decide (((procs.length:Nat):Int)<=proc)=true:=by simp;omega
  go_wp2_with fail;refine(yL _).mono ?_;rintro e wq ⟨rfl,uk⟩;have hgz:=gtr aN.out uk;have hX:=ai bZ.out hgz;have wQ:=cell1 hX;have hxz:=aD hX 0;have hxl:=lt_of_block hX;obtain⟨hs1,hs2⟩:=set1 hX (.bool true);have HB:=ł hs1;have HF:=ł (show Grow w _ from jG (gtr HG2.out hgz) hs2 (λb e=>by omega));clear hgz hX hs1 hs2;go_wp2_with fail;have t0:=cell1 HB.out;exact uy (v := .bool true) (by simp[results,Tryz.results3,go_sem,t0]) rfl ⟨rfl,HF.out⟩
 have Vt:decide (((procs.length:Nat):Int)<=proc)=false:=by simp;omega
 go_wp2_with fail;refine(ny.out _ (gtr HG2.out aN.out)).mono ?_;rintro e w4b ⟨rfl,hg4⟩;have LH:=ł (gtr aN.out hg4);obtain⟨⟨x0,x1,x2⟩,x3,x4,x5⟩:=dK (ai lY.out (gtr aN.out hg4));have hxl:=lt_of_block (ai lY.out (gtr aN.out hg4));clear hg4;cases ok with
 |false =>
  go_wp2_with fail;refine(yL _).mono ?_;rintro e wq ⟨rfl,uk⟩;have hgz:=gtr LH.out uk;have hX:=ai bZ.out hgz;have wQ:=cell1 hX;have hxz:=aD hX 0;have hxl:=lt_of_block hX;obtain⟨hs1,hs2⟩:=set1 hX (.bool true);have HB:=ł hs1;have HF:=ł (show Grow w _ from jG (gtr HG2.out hgz) hs2 (λb e=>by omega));clear hgz hX hs1 hs2;go_wp2_with fail;have t0:=cell1 HB.out;exact uy (v := .bool true) (by simp[results,Tryz.results3,go_sem,t0]) rfl ⟨rfl,HF.out⟩
 |true =>
  go_wp2_with fail;refine(Np.out _ (gtr HG2.out LH.out)).mono ?_;rintro e w5 ⟨fa,fc,rfl,hg4⟩;have aT:=ł (gtr LH.out hg4);have Ih:=ai lY.out aT.out;obtain⟨⟨x0,x1,x2⟩,x3,x4,x5⟩:=dK Ih;have hxl:=lt_of_block Ih;have oM:=ł Ih;clear hg4 Ih;by_cases hfa:FA=0
  case neg =>
   have dfa:decide (0<(FA:Int))=true:=by simp;omega
   go_wp2_with fail;refine(yL _).mono ?_;rintro e wq ⟨rfl,uk⟩;have hgz:=gtr aT.out uk;have hX:=ai bZ.out hgz;have wQ:=cell1 hX;have hxz:=aD hX 0;have hxl:=lt_of_block hX;obtain⟨hs1,hs2⟩:=set1 hX (.bool true);have HB:=ł hs1;have HF:=ł (show Grow w _ from jG (gtr HG2.out hgz) hs2 (λb e=>by omega));clear hgz hX hs1 hs2;go_wp2_with fail;have t0:=cell1 HB.out;exact uy (v := .bool true) (by simp[results,Tryz.results3,go_sem,t0]) rfl ⟨rfl,HF.out⟩
  subst hfa;have HF:=ł (show gG [] vars=0/\mr (procs.map ak.d) 0 (procs.map ak.d)=0/\gP (procs.map ak.d) (ae.t (.mk mk mn ms (.slice ma ml.length mc) ml)) vars=0 from by
   have h:=wP.out;simp only[if_true]at h
   omega)
  have bG:=ł (λ(y:World) (hy:Grow w5 y)=>And.intro (ai oM.out hy) True.intro);clear ny Np wP Vr d6 Vs Vt x0 x1 x2 x3 x4 x5 hxl;go_upto_region 3 with fail;refine wg 124 [some 51,some 52,some 53,some 54,some 6,some 5,none] [[],[0],[],[2],[],[1],[4,3]] [] [.c (.pointer (some ⟨w.heap.size,0,none⟩)),.c (.slice va vars.length vc),.c (.pointer (some ⟨w.heap.size,2,none⟩)),.c (.agg #[.int .u8 mk,.int .i64 mn,.string ms,.slice ma ml.length mc]),.al 6 3 #[.int .u8 0,.int .i64 0,.string ⟨#[]⟩,.slice none 0 0] 26,.c (.slice va vars.length vc),.st 4] trivial (cz rfl) ?steps ?done
  case steps =>
   refine⟨?s0,?s1,?s2,?s3,?s4,?s5,?s6,trivial⟩
   case s0|s2|s5 =>
    refine oo (λvs x hP => ?_);simp only[zS];go_simp;exact gc
   case s1|s3 =>
    refine ok bG (λvs x hG HX hP => ?_);obtain⟨⟨x0,x1,x2⟩,x3,x4,x5⟩:=dK HX.out.1;simp only[zS];go_simp;exact gc
   case s4 =>
    refine oz (λvs x => ?_);simp only[zS];go_simp;exact⟨rfl,rfl⟩
   case s6 =>
    refine os (λvs x g hg hb hv => ?_);have h3:vs 3 = .agg #[.int .u8 mk,.int .i64 mn,.string ms,.slice ma ml.length mc]:=hv;obtain⟨c0,c1,c2,c3⟩:=dF hb;have zt:=aD hb;simp only[zS,hg,h3];go_simp;exact⟨(nW hb _ _ _ _).1,(nW hb _ _ _ _).2⟩
  case done =>
  intro vs w6 hE;have hG:=hE.grow;obtain⟨g4,a4,l4,m4,b4⟩:=hE.box 4;have gJ:=ł b4;have dw:=ł (gtr aT.out hG);have hg4:w.heap.size+1<g4:=by have h1:=aT.out.size;have h2:=Gq.out;have h3:w5.heap.size<=g4:=l4;omega
  simp only[bJ,zS]at gJ;clear hE hG b4 m4;simp only[zS,Nat.reduceAdd,a4];have Gr:=ł (gtr HG2.out dw.out);have eZ:=ł iC.out.symm;have bY:=ł (show(vars.length<=32/\vars.all aA.decl=true)/\((procs.map ak.d).all aU.okB=true/\lF (ae.t (.mk mk mn ms (.slice ma ml.length mc) ml))=true)from by
   have h:=eZ.out;simp only[Bool.and_eq_true]at h;exact⟨⟨of_decide_eq_true h.1.1,h.1.2.2⟩,h.2⟩)
  have pQ:=ł (ZQ _ bY.out.2.1 HF.out.2.1);generalize hbd:decide (0<=proc)=bd at *;have jP:=ł hbd;clear hbd
  go_upto_if 56 with fail
  go_cut [5]from 14 (λv wc=>∃ (us:List aA) (ua:Option Addr) (uc:Nat) (y:ae),v = .slice ua us.length uc/\ax 3 aA.cells wc (.slice ua us.length uc) us/\aS wc y/\wc.heap[g4]? = some (.cells y.cells.toArray 26 (0,0))/\Mv (λb=>b=g4) w6 wc/\gN us=true/\bW y.t=true/\gG [] us=0/\gP (procs.map ak.d) y.t us=0)
  case first =>
   have hbd:=jP.out;cases bd with
   |true =>
    obtain⟨j,rfl⟩:∃ j:Nat,proc=j:=⟨proc.toNat,by have:=of_decide_eq_true jP.out;omega⟩;have hlt:j<procs.length:=by omega
    have Ii:=ł (iB.out.procs.each _ (List.getElem_mem hlt));obtain⟨kb,ko,qE,bF,-,-⟩:=iB.out.procs.row.at hlt;simp only[Value.slice.injEq,true_and]at bF;obtain⟨rfl,rfl⟩:=bF;have nJ:=ł (λ(y:World) (hy:Grow w y)=>lC.cells (iB.out.procs.later hy) hlt rfl);have dV:=ł (show aU.okB procs[j].d=true from List.all_eq_true.1 bY.out.2.1 procs[j].d (List.mem_map.2 ⟨_,List.getElem_mem hlt,rfl⟩));have Vu:=ł (Jh _ _ 0 HF.out.2.1 procs[j].d (List.mem_map.2 ⟨_,List.getElem_mem hlt,rfl⟩));generalize procs[j]=q at *;obtain⟨qs,aX,qv,⟨bk,bn,bs,bv,bl⟩⟩:=q;obtain⟨qa,qc,rfl,-,aaQ⟩:=Ii.out.form;obtain⟨ba,bc,rfl,-,-⟩:=Ii.out.body.form;have fE:=ł (λ(y:World) (hy:Grow w6 y)=>And.intro (ai lY.out (gtr dw.out hy)) (nJ.out y (gtr Gr.out hy)));go_upto_region 5 with fail;refine xB 13 124 [some 57,some 58,some 59,some 60,some 61,some 62,some 63,some 64,some 65,some 66,some 67,some 68,some 5] [[],[0],[],[1,2],[3],[4],[],[6],[],[7,8],[9],[10],[5]] [] [.c (.pointer (some ⟨w.heap.size,1,none⟩)),.c (.slice (some ⟨kb,ko,none⟩) procs.length pc),.c (.int .i64 j),.c (.pointer (some ⟨kb,ko+j * 6,none⟩)),.c (.pointer (some ⟨kb,ko+j * 6+1,none⟩)),.c (.slice qa aX.length qc),.c (.pointer (some ⟨w.heap.size,1,none⟩)),.c (.slice (some ⟨kb,ko,none⟩) procs.length pc),.c (.int .i64 j),.c (.pointer (some ⟨kb,ko+j * 6,none⟩)),.c (.pointer (some ⟨kb,ko+j * 6+2,none⟩)),.c (.agg #[.int .u8 bk,.int .i64 bn,.string bs,.slice ba bl.length bc]),.c (.slice qa aX.length qc)] trivial (cz rfl) ?steps ?done
    case steps =>
     refine⟨?s0,?s1,?s2,?s3,?s4,?s5,?s6,?s7,?s8,?s9,?s10,?s11,?s12,trivial⟩
     case s0|s2|s3|s4|s6|s8|s9|s10|s12 =>
      refine oo (λvs x hP => ?_);simp only[zS];go_simp;exact gc
     case s1|s7 =>
      refine ok fE (λvs x hG HX hP => ?_);obtain⟨⟨x0,x1,x2⟩,x3,x4,x5⟩:=dK HX.out.1;simp only[zS];go_simp;exact gc
     case s5 =>
      refine ok fE (λvs x hG HX hP => ?_);have c1:=HX.out.2 1 _ rfl;simp only[zS];go_simp;exact gc
     case s11 =>
      refine ok fE (λvs x hG HX hP => ?_);have c3:=HX.out.2 2 _ rfl;have c4:=HX.out.2 3 _ rfl;have c5:=HX.out.2 4 _ rfl;have c6:=HX.out.2 5 _ rfl;simp only[zS];go_simp;exact gc
    case done =>
    intro vs wy hE;have hG:=hE.grow;have Vv:=ł hG;have yF:=ł (ai gJ.out hG);clear hE hG;simp only[zS,Nat.reduceAdd,List.drop_succ_cons,List.drop_zero];obtain⟨hs1,hs2⟩:=nW yF.out (.int .u8 bk) (.int .i64 bn) (.string bs) (.slice ba bl.length bc);obtain⟨⟨c0,c1⟩,c2,c3⟩:=aF yF.out;have zt:=aD yF.out;have hgl:=lt_of_block yF.out;have bI:=ł hs1;have eQ:=ł (jG (gtr Gr.out Vv.out) hs2 (λb e=>by omega));have Ak:=ł (show Mv (λb=>b=g4) w6 _ from Mv.trans (O:=λb=>b=g4) (Vv.out.mono (λ_ e=>e.elim)) hs2 (λb e => .inl e));clear hs1 hs2;go_wp2_with fail
    go_meet
    case rel=>exact⟨aX,qa,qc,.mk bk bn bs (.slice ba bl.length bc) bl,rfl,Ii.out.params.later eQ.out,Ii.out.body.later eQ.out,bI.out,Ak.out,by
     have h:=dV.out;simp only[aU.okB,ak.d,Bool.and_eq_true]at h;exact⟨Jg h.2.2.1 (of_decide_eq_true h.2.1) (by decide),NI h.2.2.2,Vu.out.1,Vu.out.2⟩⟩
   |false =>
    rw[hbd];go_wp2_with fail
    go_meet
    case rel=>exact⟨vars,va,vc,.mk mk mn ms (.slice ma ml.length mc) ml,rfl,iB.out.vars.later Gr.out,iB.out.main.later Gr.out,gJ.out,Mv.refl _ _,Jg bY.out.1.2 bY.out.1.1 (by decide),NI bY.out.2.2,HF.out.1,HF.out.2.2⟩
  case rest =>
   obtain⟨us,ua,uc,y,rfl,tV,hny,hbx,hmv,hvv,hbl,oC,SG⟩:=hcut;obtain⟨yk,yn,ys,yv,yl⟩:=y;obtain⟨ya,yc,rfl,-,-⟩:=hny.form;have En:=ł (And.intro hvv (And.intro hbl (And.intro oC SG)));have nz:=ł (show Grow w2 wc from jG dw.out hmv (λb e=>by have:=Gq.out;omega));have HRV:=ł tV;have Ij:=ł hny;have bS:=ł (show wc.heap[g4]? = some (.cells #[.int .u8 yk,.int .i64 yn,.string ys,.slice ya yl.length yc] 26 (0,0))from hbx);clear tV hny hbx hmv hvv hbl oC SG gJ jP bG oM;obtain⟨⟨n0,n1⟩,n2,n3⟩:=aF bS.out;have hl0:=lt_of_block bS.out;have LJ:=P9 (.mk yk yn ys (.slice ya yl.length yc) yl) 80 wc Ij.out (by decide) (by decide);simp only[ae.val]at LJ;have Vw:=ł LJ;clear LJ;go_wp2_with fail;refine Vw.out.mono ?_;clear n0 n1 n2 n3 hl0 Vw;rintro e w9 ⟨rfl,xC⟩;have Gs:=ł xC;have q9:=ł (gtr nz.out xC);clear xC;by_cases SH:0<=iq (ae.t (.mk yk yn ys (.slice ya yl.length yc) yl)) 80
   case neg =>
    have Vx:decide (iq (ae.t (.mk yk yn ys (.slice ya yl.length yc) yl)) 80<0)=true:=by simp;omega
    generalize iq (ae.t (.mk yk yn ys (.slice ya yl.length yc) yl)) 80=SL2 at *;have hgz:=q9.out;have hX:=ai bZ.out hgz;have wQ:=cell1 hX;have hxz:=aD hX 0;have hxl:=lt_of_block hX;obtain⟨hs1,hs2⟩:=set1 hX (.bool true);have HB:=ł hs1;have HF:=ł (show Grow w _ from jG (gtr HG2.out hgz) hs2 (λb e=>by omega));clear hgz hX hs1 hs2;go_wp2_with fail;have t0:=cell1 HB.out;exact uy (v := .bool true) (by simp[results,Tryz.results3,go_sem,t0]) rfl ⟨rfl,HF.out⟩
   have Vx:decide (iq (ae.t (.mk yk yn ys (.slice ya yl.length yc) yl)) 80<0)=false:=by simp;omega
   have yt:=ł (Z8 SH);generalize iq (ae.t (.mk yk yn ys (.slice ya yl.length yc) yl)) 80=SL2 at *;have Eo:=ł (Yv (procs.map ak.d) pQ.out us (ae.t (.mk yk yn ys (.slice ya yl.length yc) yl)) En.out.1 En.out.2.1 En.out.2.2.1 En.out.2.2.2 yt.out);have hof:=QR (.slice ua us.length uc) us (.mk yk yn ys (.slice ya yl.length yc) yl) w9 (HRV.out.later Gs.out) (Ij.out.later Gs.out) (by have:=yt.out;omega);unfold UQ at hof;rw[Eo.out.1]at hof;simp only[ae.val,if_true]at hof;have vB:=ł hof;have Gl:=ł (ai bS.out Gs.out);obtain⟨⟨n0,n1⟩,n2,n3⟩:=aF Gl.out;have hl0:=lt_of_block Gl.out;clear hof SH;go_wp2_with fail;refine vB.out.mono ?_;clear n0 n1 n2 n3 hl0 vB Vx;rintro e Bg ⟨sv,rfl,hfr,Dl⟩;obtain⟨sa,sc,rfl,-,-⟩:=hfr.row.form;have Ib:=ł hfr;have aK:=ł (gtr q9.out Dl);have KG:=ł (gtr Gs.out Dl);clear hfr Dl;generalize mK us (ae.t (.mk yk yn ys (.slice ya yl.length yc) yl))=fr at *;obtain⟨⟨n0,n1⟩,n2,n3⟩:=aF (ai bS.out KG.out);have hl0:=lt_of_block (ai bS.out KG.out);obtain⟨⟨x0,x1,x2⟩,x3,x4,x5⟩:=dK (ai lY.out aK.out);have hxl:=lt_of_block (ai lY.out aK.out);have tZ:Grow Bg (Bg.alloc (.cells #[.slice sa fr.slots.length sc,.int .i64 fr.cells,.int .i64 fr.stacks] 38)):=(Mv.refl _ _).alloc _;have vC:=ł (gtr aK.out tZ);have SI:=ł (gtr KG.out tZ);have aaX:=ł (gtr HG2.out vC.out);have hbc:=JG (Bg.alloc (.cells #[.slice sa fr.slots.length sc,.int .i64 fr.cells,.int .i64 fr.stacks] 38)) (.mk yk yn ys (.slice ya yl.length yc) yl) (.slice sa fr.slots.length sc) (.slice pa procs.length pc) fr procs (Ij.out.later SI.out) (Ib.out.later tZ) (iB.out.procs.later aaX.out) Eo.out.2.1 (Z7 pQ.out) yt.out;simp only[ae.val]at hbc;have xu:=ł hbc;have Nq:=ł (show uR fr (procs.map ak.d) (ae.t (.mk yk yn ys (.slice ya yl.length yc) yl))=if dZ (ae.t (.mk yk yn ys (.slice ya yl.length yc) yl))then 9 else 0 from by rw[uR,if_pos En.out.2.1];exact Eo.out.2.2.1);have Vy:=ł (show dZ (ae.t (.mk yk yn ys (.slice ya yl.length yc) yl))=false->qM fr (procs.map ak.d) (ae.t (.mk yk yn ys (.slice ya yl.length yc) yl))=aV fr (procs.map ak.d) (ae.t (.mk yk yn ys (.slice ya yl.length yc) yl))from λh=>by rw[qM,Nq.out,h];rfl);have fU:=ł Eo.out.2.2.2;clear tZ hbc Eo;go_wp2_with fail;refine xu.out.mono ?_;clear n0 n1 n2 n3 hl0 x0 x1 x2 x3 x4 x5 hxl xu;rintro e bf ⟨v,rfl,hpv,LK⟩;have Be:=ł (gtr vC.out LK);have FP:=ł (gtr SI.out LK);clear LK;rw[Nq.out];obtain⟨ja,jc,jr,bz,rfl,-,-⟩:=hpv;have HCN:=ł (show dZ (ae.t (.mk yk yn ys (.slice ya yl.length yc) yl))=false->(qM fr (procs.map ak.d) (ae.t (.mk yk yn ys (.slice ya yl.length yc) yl))).refs.length=sG (ae.t (.mk yk yn ys (.slice ya yl.length yc) yl))from λh=>by rw[Vy.out h];exact fU.out h);generalize qM fr (procs.map ak.d) (ae.t (.mk yk yn ys (.slice ya yl.length yc) yl))=PC at *;clear Nq Vy fU;have Ep:=ł (λ(z:World) (hz:Grow wc z)=>PT (.mk yk yn ys (.slice ya yl.length yc) yl) z (Ij.out.later hz) (by have:=yt.out;omega));simp only[ae.val]at Ep;generalize Vz:(if dZ (ae.t (.mk yk yn ys (.slice ya yl.length yc) yl))then(9:Int)else 0)=E at *;have Nr:=ł Vz;clear Vz;obtain⟨⟨n0,n1⟩,n2,n3⟩:=aF (ai bS.out FP.out);have hl0:=lt_of_block (ai bS.out FP.out);have Gm:g4<bf.heap.size+1:=by omega
   have Gn:g4<bf.heap.size+1+1:=by omega
   rcases(show E=0\/E=9 from by rw[← Nr.out];split <;> simp)with rfl|rfl
   case inr =>
    go_wp2_with fail;have KH:=ł (show(((bf.alloc (.cells #[.slice ja PC.code.length jc,.slice jr PC.refs.length bz] 45)).alloc (.cells #[.int .i64 9] 39)).alloc (.cells #[.int .i64 0] 3)).heap.size=bf.heap.size+3 from by simp);have LM:=ł (show(((bf.alloc (.cells #[.slice ja PC.code.length jc,.slice jr PC.refs.length bz] 45)).alloc (.cells #[.int .i64 9] 39)).alloc (.cells #[.int .i64 0] 3)).heap[bf.heap.size]? = some (.cells #[.slice ja PC.code.length jc,.slice jr PC.refs.length bz] 45 (0,0))from aO (aO (heap_alloc_new bf _) _) _);have LP:=ł (show(((bf.alloc (.cells #[.slice ja PC.code.length jc,.slice jr PC.refs.length bz] 45)).alloc (.cells #[.int .i64 9] 39)).alloc (.cells #[.int .i64 0] 3)).heap[bf.heap.size+1]? = some (.cells #[.int .i64 9] 39 (0,0))from aO (by have:=heap_alloc_new (bf.alloc (.cells #[.slice ja PC.code.length jc,.slice jr PC.refs.length bz] 45)) (.cells #[.int .i64 9] 39);rwa[World.size_alloc]at this) _);have LQ:=ł (show(((bf.alloc (.cells #[.slice ja PC.code.length jc,.slice jr PC.refs.length bz] 45)).alloc (.cells #[.int .i64 9] 39)).alloc (.cells #[.int .i64 0] 3)).heap[bf.heap.size+1+1]? = some (.cells #[.int .i64 0] 3 (0,0))from by have:=heap_alloc_new ((bf.alloc (.cells #[.slice ja PC.code.length jc,.slice jr PC.refs.length bz] 45)).alloc (.cells #[.int .i64 9] 39)) (.cells #[.int .i64 0] 3);rwa[World.size_alloc,World.size_alloc]at this);have zD:Grow bf (((bf.alloc (.cells #[.slice ja PC.code.length jc,.slice jr PC.refs.length bz] 45)).alloc (.cells #[.int .i64 9] 39)).alloc (.cells #[.int .i64 0] 3)):=(((Mv.refl _ bf).alloc _).alloc _).alloc _;have yj:=ł (gtr Be.out zD);have HC:=ł (Ep.out (((bf.alloc (.cells #[.slice ja PC.code.length jc,.slice jr PC.refs.length bz] 45)).alloc (.cells #[.int .i64 9] 39)).alloc (.cells #[.int .i64 0] 3)) (gtr FP.out zD));clear zD;generalize (((bf.alloc (.cells #[.slice ja PC.code.length jc,.slice jr PC.refs.length bz] 45)).alloc (.cells #[.int .i64 9] 39)).alloc (.cells #[.int .i64 0] 3))=Gw at *;refine HC.out.mono ?_;clear HC Ep n0 n1 n2 n3 hl0 Gm Gn;rintro e gV ⟨R,z,rfl,hrb,hno,vF,qN⟩;have Dp:=ł (gtr yj.out qN);have dB:=ł (show w.heap.size+4<=bf.heap.size+2/\bf.heap.size+3<=gV.heap.size from by have h1:=KH.out;have h2:=qN.size;have h3:=Be.out.size;have h4:=Gq.out;omega);have HI0:=ł (show oQ w (w.heap.size+1) bf.heap.size (bf.heap.size+1) (bf.heap.size+1+1) #[.slice ja PC.code.length jc,.slice jr PC.refs.length bz] 9 [] gV from⟨ai bZ.out Dp.out,ai LM.out qN,ai LP.out qN,ai LQ.out qN,gtr HG2.out Dp.out,rfl⟩);have vG:=ł (JU (gp (bf.heap.size+1+1)) R z gV (Pq _ _ (by have:=dB.out;omega)) hrb hno (by rw[vF];have:=yt.out;omega));rw[vF]at vG;clear hrb hno qN vF;go_wp2_with fail;refine Ik (gp (bf.heap.size+1+1)) (gf:=32) (lb:=#[.pointer (some ⟨R,0,none⟩)]) rfl (enters_of Tryz.func32 (by kernel_rfl) rfl) vG.out (Mv.refl _ _) (λ_=>rfl)
     (oQ w (w.heap.size+1) bf.heap.size (bf.heap.size+1) (bf.heap.size+1+1) #[.slice ja PC.code.length jc,.slice jr PC.refs.length bz] 9) (Dn w (w.heap.size+1) true) (λpre X Y hi hm=>hi.it hm (by have:=dB.out;omega) (by have:=dB.out;omega) (by have:=dB.out;omega) (by have:=dB.out;omega) (by have:=dB.out;omega)) (λc pre X Y hi hm=>hi.it hm (by have:=dB.out;omega) (by have:=dB.out;omega)) HI0.out
     (λa x a' W=>∃ b,W.heap[b]? = some (.cells x.2.fix.cells.toArray 26 (0,0))/\a' = { tmps:=((a.tmps.setIfInBounds 98 x.1).setIfInBounds 99 x.2.fix.val).setIfInBounds 13 (.pointer (some ⟨b,0,none⟩)),defers:=[] }) ?hAx ?assign ?body ?done ?stop
    case hAx =>
     rintro x a' X l' o o' ⟨b,hb,rfl⟩ hl' ho;exact⟨b,by rw[World.putObj_heap_other (λe=>by subst e;rw[hb]at hl';cases hl';cases ho)];exact hb,rfl⟩
    case assign =>
     intro l' pre x W K hi hK;obtain⟨xp,xn⟩:=x;obtain⟨zk,zn,zs,za,zm,zc,zl,hfx,hft⟩:=ae.AA xn;simp only[hfx]at hK ⊢;have HK:=ł (hK _ (W.alloc (.cells #[.int .u8 zk,.int .i64 zn,.string zs,.slice za zm zc] 26)) ((Mv.refl _ _).alloc _) (oQ.it (Ts:=gp 0) (B:=gV.heap.size) hi ((Mv.refl _ _).alloc _) (by have:=dB.out;omega) (by have:=dB.out;omega) (by have:=dB.out;omega) (by have:=dB.out;omega) (by have:=dB.out;omega)) ⟨W.heap.size,heap_alloc_new W _,rfl⟩);clear hK hi;simp only[ae.val];simp only[List.setIfInBounds_toArray,List.set_cons_zero,List.set_cons_succ,ae.val]at HK
     gi_wp2
     exact HK.out
    case body =>
     rintro l' pre x a' W hi ⟨b,hb,rfl⟩ hsp;obtain⟨xp,xn⟩:=x;obtain⟨zk,zn,zs,za,zm,zc,zl,hfx,hft⟩:=ae.AA xn;simp only[hfx,ae.val,ae.cells]at hb ⊢;obtain⟨⟨n0,n1⟩,n2,n3⟩:=aF hb;have hlb:=lt_of_block hb;have HI:=ł hi;have q8:=ł (show(came (pre ++ [(xp,xn)])).countP fQ=(came pre).countP fQ+(if(zk == 50 || zk == 51)then 1 else 0)from by rw[Oc,hft];rfl);have HAS:=ł (show((came (pre ++ [(xp,xn)])).any λt=>t.kind == 56)=(((came pre).any λt=>t.kind == 56) || zk == 56)from by rw[Qb,hft];rfl);have fC:=ł (show(came pre).countP fQ<=80 from by
      have h1:=hsp.length_le;rw[ry,AB]at h1;have h2:=yt.out;have h3:=List.countP_le_length (p:=fQ) (l:=came pre);simp at h1;omega)
     clear hb hi hsp;simp only[List.setIfInBounds_toArray,List.set_cons_zero,List.set_cons_succ];rcases(show zk=56\/zk=50\/zk=51\/(zk≠56/\zk≠50/\zk≠51)from by omega)with hz|hz|hz|⟨hz1,hz2,hz3⟩
     · subst hz;have e0:=cell1 HI.out.e;have x0:=cell1 HI.out.x;have hle:=lt_of_block HI.out.e;have hlx:=lt_of_block HI.out.x;have zx:=aD HI.out.x;obtain⟨hs1,hs2⟩:=set1 HI.out.x (.bool true);have lS:=ł hs1;have eQ:=ł (show Grow w _ from jG HI.out.g hs2 (λb e=>by omega));have gZ:=ł (show jT (gp (bf.heap.size+1+1)) gV.heap.size W _ from(hs2.mono (λb e => .inl (show ¬ (nO (gp (bf.heap.size+1+1)) W b\/(gV.heap.size<=b/\rA W b))from by
        rintro(⟨cs,t,z,hc,ht⟩|⟨hb,-⟩)
        · rw[e,HI.out.x]at hc;simp at hc;rw[← hc.2.1]at ht;simp[gp]at ht
        · have:=dB.out;omega))))
       clear hs1 hs2
       gi_wp2
       exact⟨gZ.out,rfl,lS.out,eQ.out,by rw[HAS.out];simp⟩
     · subst hz;have lX:=ł (show(came (pre ++ [(xp,xn)])).countP fQ=(came pre).countP fQ+1 from by rw[q8.out];simp);have HA1:=ł (show((came (pre ++ [(xp,xn)])).any λt=>t.kind == 56)=false from by rw[HAS.out,HI.out.n];rfl);obtain⟨ix,ip,ie,im,ig,-⟩:=HI.out;have hcb:=fC.out;generalize (came pre).countP fQ=C at *;have m0:=cell1 im;have hlm:=lt_of_block im;have Ns:=aD im;obtain⟨hs1,hs2⟩:=set1 im (.int .i64 ((C:Int)+1));have kL:=ł (show oQ w (w.heap.size+1) bf.heap.size (bf.heap.size+1) (bf.heap.size+1+1) #[.slice ja PC.code.length jc,.slice jr PC.refs.length bz] 9 (pre ++ [(xp,xn)]) _ from⟨(hs2.block _ (lt_of_block ix) (λe=>by have:=dB.out;omega)).trans ix,(hs2.block _ (lt_of_block ip) (λe=>by omega)).trans ip,(hs2.block _ (lt_of_block ie) (λe=>by omega)).trans ie,by rw[lX.out];exact hs1,jG ig hs2 (λb e=>by have:=dB.out;omega),HA1.out⟩);have gZ:=ł (show jT (gp (bf.heap.size+1+1)) gV.heap.size W _ from(hs2.mono (λb e => .inl (show ¬ (nO (gp (bf.heap.size+1+1)) W b\/(gV.heap.size<=b/\rA W b))from by
        rintro(⟨cs,t,z,hc,ht⟩|⟨hb,-⟩)
        · rw[e,im]at hc;simp at hc;rw[← hc.2.1,e]at ht;simp[gp]at ht
        · have:=dB.out;omega))))
       clear hs1 hs2 ix ip ie im ig HI q8 HAS fC
       gi_wp2
       exact⟨gZ.out,kL.out⟩
     · subst hz;have lX:=ł (show(came (pre ++ [(xp,xn)])).countP fQ=(came pre).countP fQ+1 from by rw[q8.out];simp);have HA1:=ł (show((came (pre ++ [(xp,xn)])).any λt=>t.kind == 56)=false from by rw[HAS.out,HI.out.n];rfl);obtain⟨ix,ip,ie,im,ig,-⟩:=HI.out;have hcb:=fC.out;generalize (came pre).countP fQ=C at *;have m0:=cell1 im;have hlm:=lt_of_block im;have Ns:=aD im;obtain⟨hs1,hs2⟩:=set1 im (.int .i64 ((C:Int)+1));have kL:=ł (show oQ w (w.heap.size+1) bf.heap.size (bf.heap.size+1) (bf.heap.size+1+1) #[.slice ja PC.code.length jc,.slice jr PC.refs.length bz] 9 (pre ++ [(xp,xn)]) _ from⟨(hs2.block _ (lt_of_block ix) (λe=>by have:=dB.out;omega)).trans ix,(hs2.block _ (lt_of_block ip) (λe=>by omega)).trans ip,(hs2.block _ (lt_of_block ie) (λe=>by omega)).trans ie,by rw[lX.out];exact hs1,jG ig hs2 (λb e=>by have:=dB.out;omega),HA1.out⟩);have gZ:=ł (show jT (gp (bf.heap.size+1+1)) gV.heap.size W _ from(hs2.mono (λb e => .inl (show ¬ (nO (gp (bf.heap.size+1+1)) W b\/(gV.heap.size<=b/\rA W b))from by
        rintro(⟨cs,t,z,hc,ht⟩|⟨hb,-⟩)
        · rw[e,im]at hc;simp at hc;rw[← hc.2.1,e]at ht;simp[gp]at ht
        · have:=dB.out;omega))))
       clear hs1 hs2 ix ip ie im ig HI q8 HAS fC
       gi_wp2
       exact⟨gZ.out,kL.out⟩
     · have kL:=ł (show oQ w (w.heap.size+1) bf.heap.size (bf.heap.size+1) (bf.heap.size+1+1) #[.slice ja PC.code.length jc,.slice jr PC.refs.length bz] 9 (pre ++ [(xp,xn)]) W from⟨HI.out.x,HI.out.p,HI.out.e,by rw[q8.out];rw[show(zk == 50 || zk == 51)=false from by simp[hz2,hz3]];exact HI.out.m,HI.out.g,by rw[HAS.out,HI.out.n];simpa using hz1⟩);have d1:(zk == 56)=false:=by simpa using hz1
       have d2:(zk == 50)=false:=by simpa using hz2
       have d3:(zk == 51)=false:=by simpa using hz3
       clear hz1 hz2 hz3
       gi_wp2
       exact⟨Mv.refl _ _,kL.out⟩
    case done =>
     intro D xs W hD hS hi hK;exfalso;have h1:=Nr.out;have h2:=hi.n;rw[hS]at h2;rw[show dZ (ae.t (.mk yk yn ys (.slice ya yl.length yc) yl))=false from h2]at h1;cases h1
    case stop =>
     rintro D c xs W hD hS ⟨rfl,hx,hgw,hn⟩ hK;have lS:=ł hx;have eQ:=ł hgw;have hne:w.heap.size+1≠D:=by have:=dB.out;omega
     have oO:=ł hK;clear hx hgw hn hK hS;go_wp2_with fail;have g1:=(World.putObj_heap_other (o := .deferred none) hne).trans lS.out;have t0:=cell1 g1;refine Ez oO.out (v := .bool true) (by simp[results,Tryz.results3,go_sem,t0]) rfl ⟨rfl,?_⟩;exact Mv.trans eQ.out (Mv.putObj (O:=λb=>b=D) _ D _ rfl) (λb e => .inr (by subst e;have:=dB.out;omega))
   go_wp2_with fail;have KH:=ł (show(((bf.alloc (.cells #[.slice ja PC.code.length jc,.slice jr PC.refs.length bz] 45)).alloc (.cells #[.int .i64 0] 39)).alloc (.cells #[.int .i64 0] 3)).heap.size=bf.heap.size+3 from by simp);have LM:=ł (show(((bf.alloc (.cells #[.slice ja PC.code.length jc,.slice jr PC.refs.length bz] 45)).alloc (.cells #[.int .i64 0] 39)).alloc (.cells #[.int .i64 0] 3)).heap[bf.heap.size]? = some (.cells #[.slice ja PC.code.length jc,.slice jr PC.refs.length bz] 45 (0,0))from aO (aO (heap_alloc_new bf _) _) _);have LP:=ł (show(((bf.alloc (.cells #[.slice ja PC.code.length jc,.slice jr PC.refs.length bz] 45)).alloc (.cells #[.int .i64 0] 39)).alloc (.cells #[.int .i64 0] 3)).heap[bf.heap.size+1]? = some (.cells #[.int .i64 0] 39 (0,0))from aO (by have:=heap_alloc_new (bf.alloc (.cells #[.slice ja PC.code.length jc,.slice jr PC.refs.length bz] 45)) (.cells #[.int .i64 0] 39);rwa[World.size_alloc]at this) _);have LQ:=ł (show(((bf.alloc (.cells #[.slice ja PC.code.length jc,.slice jr PC.refs.length bz] 45)).alloc (.cells #[.int .i64 0] 39)).alloc (.cells #[.int .i64 0] 3)).heap[bf.heap.size+1+1]? = some (.cells #[.int .i64 0] 3 (0,0))from by have:=heap_alloc_new ((bf.alloc (.cells #[.slice ja PC.code.length jc,.slice jr PC.refs.length bz] 45)).alloc (.cells #[.int .i64 0] 39)) (.cells #[.int .i64 0] 3);rwa[World.size_alloc,World.size_alloc]at this);have zD:Grow bf (((bf.alloc (.cells #[.slice ja PC.code.length jc,.slice jr PC.refs.length bz] 45)).alloc (.cells #[.int .i64 0] 39)).alloc (.cells #[.int .i64 0] 3)):=(((Mv.refl _ bf).alloc _).alloc _).alloc _;have yj:=ł (gtr Be.out zD);have HC:=ł (Ep.out (((bf.alloc (.cells #[.slice ja PC.code.length jc,.slice jr PC.refs.length bz] 45)).alloc (.cells #[.int .i64 0] 39)).alloc (.cells #[.int .i64 0] 3)) (gtr FP.out zD));clear zD;generalize (((bf.alloc (.cells #[.slice ja PC.code.length jc,.slice jr PC.refs.length bz] 45)).alloc (.cells #[.int .i64 0] 39)).alloc (.cells #[.int .i64 0] 3))=Gw at *;refine HC.out.mono ?_;clear HC Ep n0 n1 n2 n3 hl0 Gm Gn;rintro e gV ⟨R,z,rfl,hrb,hno,vF,qN⟩;have Dp:=ł (gtr yj.out qN);have dB:=ł (show w.heap.size+4<=bf.heap.size+2/\bf.heap.size+3<=gV.heap.size from by have h1:=KH.out;have h2:=qN.size;have h3:=Be.out.size;have h4:=Gq.out;omega);have HI0:=ł (show oQ w (w.heap.size+1) bf.heap.size (bf.heap.size+1) (bf.heap.size+1+1) #[.slice ja PC.code.length jc,.slice jr PC.refs.length bz] 0 [] gV from⟨ai bZ.out Dp.out,ai LM.out qN,ai LP.out qN,ai LQ.out qN,gtr HG2.out Dp.out,rfl⟩);have vG:=ł (JU (gp (bf.heap.size+1+1)) R z gV (Pq _ _ (by have:=dB.out;omega)) hrb hno (by rw[vF];have:=yt.out;omega));rw[vF]at vG;clear hrb hno qN vF;go_wp2_with fail;refine Ik (gp (bf.heap.size+1+1)) (gf:=32) (lb:=#[.pointer (some ⟨R,0,none⟩)]) rfl (enters_of Tryz.func32 (by kernel_rfl) rfl) vG.out (Mv.refl _ _) (λ_=>rfl)
    (oQ w (w.heap.size+1) bf.heap.size (bf.heap.size+1) (bf.heap.size+1+1) #[.slice ja PC.code.length jc,.slice jr PC.refs.length bz] 0) (Dn w (w.heap.size+1) false) (λpre X Y hi hm=>hi.it hm (by have:=dB.out;omega) (by have:=dB.out;omega) (by have:=dB.out;omega) (by have:=dB.out;omega) (by have:=dB.out;omega)) (λc pre X Y hi hm=>hi.it hm (by have:=dB.out;omega) (by have:=dB.out;omega)) HI0.out
    (λa x a' W=>∃ b,W.heap[b]? = some (.cells x.2.fix.cells.toArray 26 (0,0))/\a' = { tmps:=((a.tmps.setIfInBounds 98 x.1).setIfInBounds 99 x.2.fix.val).setIfInBounds 13 (.pointer (some ⟨b,0,none⟩)),defers:=[] }) ?hAx ?assign ?body ?done ?stop
   case hAx =>
    rintro x a' X l' o o' ⟨b,hb,rfl⟩ hl' ho;exact⟨b,by rw[World.putObj_heap_other (λe=>by subst e;rw[hb]at hl';cases hl';cases ho)];exact hb,rfl⟩
   case assign =>
    intro l' pre x W K hi hK;obtain⟨xp,xn⟩:=x;obtain⟨zk,zn,zs,za,zm,zc,zl,hfx,hft⟩:=ae.AA xn;simp only[hfx]at hK ⊢;have HK:=ł (hK _ (W.alloc (.cells #[.int .u8 zk,.int .i64 zn,.string zs,.slice za zm zc] 26)) ((Mv.refl _ _).alloc _) (oQ.it (Ts:=gp 0) (B:=gV.heap.size) hi ((Mv.refl _ _).alloc _) (by have:=dB.out;omega) (by have:=dB.out;omega) (by have:=dB.out;omega) (by have:=dB.out;omega) (by have:=dB.out;omega)) ⟨W.heap.size,heap_alloc_new W _,rfl⟩);clear hK hi;simp only[ae.val];simp only[List.setIfInBounds_toArray,List.set_cons_zero,List.set_cons_succ,ae.val]at HK
    gi_wp2
    exact HK.out
   case body =>
    rintro l' pre x a' W hi ⟨b,hb,rfl⟩ hsp;obtain⟨xp,xn⟩:=x;obtain⟨zk,zn,zs,za,zm,zc,zl,hfx,hft⟩:=ae.AA xn;simp only[hfx,ae.val,ae.cells]at hb ⊢;obtain⟨⟨n0,n1⟩,n2,n3⟩:=aF hb;have hlb:=lt_of_block hb;have HI:=ł hi;have q8:=ł (show(came (pre ++ [(xp,xn)])).countP fQ=(came pre).countP fQ+(if(zk == 50 || zk == 51)then 1 else 0)from by rw[Oc,hft];rfl);have HAS:=ł (show((came (pre ++ [(xp,xn)])).any λt=>t.kind == 56)=(((came pre).any λt=>t.kind == 56) || zk == 56)from by rw[Qb,hft];rfl);have fC:=ł (show(came pre).countP fQ<=80 from by
     have h1:=hsp.length_le;rw[ry,AB]at h1;have h2:=yt.out;have h3:=List.countP_le_length (p:=fQ) (l:=came pre);simp at h1;omega)
    clear hb hi hsp;simp only[List.setIfInBounds_toArray,List.set_cons_zero,List.set_cons_succ];rcases(show zk=56\/zk=50\/zk=51\/(zk≠56/\zk≠50/\zk≠51)from by omega)with hz|hz|hz|⟨hz1,hz2,hz3⟩
    · subst hz;have e0:=cell1 HI.out.e;have x0:=cell1 HI.out.x;have hle:=lt_of_block HI.out.e;have hlx:=lt_of_block HI.out.x;have zx:=aD HI.out.x;obtain⟨hs1,hs2⟩:=set1 HI.out.x (.bool false);have lS:=ł hs1;have eQ:=ł (show Grow w _ from jG HI.out.g hs2 (λb e=>by omega));have gZ:=ł (show jT (gp (bf.heap.size+1+1)) gV.heap.size W _ from(hs2.mono (λb e => .inl (show ¬ (nO (gp (bf.heap.size+1+1)) W b\/(gV.heap.size<=b/\rA W b))from by
       rintro(⟨cs,t,z,hc,ht⟩|⟨hb,-⟩)
       · rw[e,HI.out.x]at hc;simp at hc;rw[← hc.2.1]at ht;simp[gp]at ht
       · have:=dB.out;omega))))
      clear hs1 hs2
      gi_wp2
      exact⟨gZ.out,rfl,lS.out,eQ.out,by rw[HAS.out];simp⟩
    · subst hz;have lX:=ł (show(came (pre ++ [(xp,xn)])).countP fQ=(came pre).countP fQ+1 from by rw[q8.out];simp);have HA1:=ł (show((came (pre ++ [(xp,xn)])).any λt=>t.kind == 56)=false from by rw[HAS.out,HI.out.n];rfl);obtain⟨ix,ip,ie,im,ig,-⟩:=HI.out;have hcb:=fC.out;generalize (came pre).countP fQ=C at *;have m0:=cell1 im;have hlm:=lt_of_block im;have Ns:=aD im;obtain⟨hs1,hs2⟩:=set1 im (.int .i64 ((C:Int)+1));have kL:=ł (show oQ w (w.heap.size+1) bf.heap.size (bf.heap.size+1) (bf.heap.size+1+1) #[.slice ja PC.code.length jc,.slice jr PC.refs.length bz] 0 (pre ++ [(xp,xn)]) _ from⟨(hs2.block _ (lt_of_block ix) (λe=>by have:=dB.out;omega)).trans ix,(hs2.block _ (lt_of_block ip) (λe=>by omega)).trans ip,(hs2.block _ (lt_of_block ie) (λe=>by omega)).trans ie,by rw[lX.out];exact hs1,jG ig hs2 (λb e=>by have:=dB.out;omega),HA1.out⟩);have gZ:=ł (show jT (gp (bf.heap.size+1+1)) gV.heap.size W _ from(hs2.mono (λb e => .inl (show ¬ (nO (gp (bf.heap.size+1+1)) W b\/(gV.heap.size<=b/\rA W b))from by
       rintro(⟨cs,t,z,hc,ht⟩|⟨hb,-⟩)
       · rw[e,im]at hc;simp at hc;rw[← hc.2.1,e]at ht;simp[gp]at ht
       · have:=dB.out;omega))))
      clear hs1 hs2 ix ip ie im ig HI q8 HAS fC
      gi_wp2
      exact⟨gZ.out,kL.out⟩
    · subst hz;have lX:=ł (show(came (pre ++ [(xp,xn)])).countP fQ=(came pre).countP fQ+1 from by rw[q8.out];simp);have HA1:=ł (show((came (pre ++ [(xp,xn)])).any λt=>t.kind == 56)=false from by rw[HAS.out,HI.out.n];rfl);obtain⟨ix,ip,ie,im,ig,-⟩:=HI.out;have hcb:=fC.out;generalize (came pre).countP fQ=C at *;have m0:=cell1 im;have hlm:=lt_of_block im;have Ns:=aD im;obtain⟨hs1,hs2⟩:=set1 im (.int .i64 ((C:Int)+1));have kL:=ł (show oQ w (w.heap.size+1) bf.heap.size (bf.heap.size+1) (bf.heap.size+1+1) #[.slice ja PC.code.length jc,.slice jr PC.refs.length bz] 0 (pre ++ [(xp,xn)]) _ from⟨(hs2.block _ (lt_of_block ix) (λe=>by have:=dB.out;omega)).trans ix,(hs2.block _ (lt_of_block ip) (λe=>by omega)).trans ip,(hs2.block _ (lt_of_block ie) (λe=>by omega)).trans ie,by rw[lX.out];exact hs1,jG ig hs2 (λb e=>by have:=dB.out;omega),HA1.out⟩);have gZ:=ł (show jT (gp (bf.heap.size+1+1)) gV.heap.size W _ from(hs2.mono (λb e => .inl (show ¬ (nO (gp (bf.heap.size+1+1)) W b\/(gV.heap.size<=b/\rA W b))from by
       rintro(⟨cs,t,z,hc,ht⟩|⟨hb,-⟩)
       · rw[e,im]at hc;simp at hc;rw[← hc.2.1,e]at ht;simp[gp]at ht
       · have:=dB.out;omega))))
      clear hs1 hs2 ix ip ie im ig HI q8 HAS fC
      gi_wp2
      exact⟨gZ.out,kL.out⟩
    · have kL:=ł (show oQ w (w.heap.size+1) bf.heap.size (bf.heap.size+1) (bf.heap.size+1+1) #[.slice ja PC.code.length jc,.slice jr PC.refs.length bz] 0 (pre ++ [(xp,xn)]) W from⟨HI.out.x,HI.out.p,HI.out.e,by rw[q8.out];rw[show(zk == 50 || zk == 51)=false from by simp[hz2,hz3]];exact HI.out.m,HI.out.g,by rw[HAS.out,HI.out.n];simpa using hz1⟩);have d1:(zk == 56)=false:=by simpa using hz1
      have d2:(zk == 50)=false:=by simpa using hz2
      have d3:(zk == 51)=false:=by simpa using hz3
      clear hz1 hz2 hz3
      gi_wp2
      exact⟨Mv.refl _ _,kL.out⟩
   case done =>
    intro D xs W hD hS hi hK;have HIS:=ł hi;have aaY:=ł (show dZ (ae.t (.mk yk yn ys (.slice ya yl.length yc) yl))=false from by have h2:=hi.n;rw[hS]at h2;exact h2);have nJ:=ł (show PC.refs.length=(came xs).countP fQ from by rw[HCN.out aaY.out,hS];rfl);have e0:=cell1 hi.e;have x0:=cell1 hi.x;obtain⟨p0,p1⟩:=aC hi.p;have hmm:=hi.m;rw[← nJ.out]at hmm;have m0:=cell1 hmm;have hle:=lt_of_block hi.e;have hlx:=lt_of_block hi.x;have hlp:=lt_of_block hi.p;have hlm:=lt_of_block hi.m;have zx:=aD hi.x;obtain⟨hs1,hs2⟩:=set1 hi.x (.bool true);have lS:=ł hs1;have eQ:=ł (show Grow w _ from jG hi.g hs2 (λb e=>by omega));have hne:w.heap.size+1≠D:=by have:=dB.out;omega
    have oO:=ł ((hs2.block D (lt_of_block hK) (λe=>hne e.symm)).trans hK);clear hs1 hs2 hmm hK hS hi;go_wp2_with fail;have g1:=(World.putObj_heap_other (o := .deferred none) hne).trans lS.out;have t0:=cell1 g1;refine Ez oO.out (v := .bool true) (by simp[results,Tryz.results3,go_sem,t0]) rfl ⟨rfl,?_⟩;exact Mv.trans eQ.out (Mv.putObj (O:=λb=>b=D) _ D _ rfl) (λb e => .inr (by subst e;have:=dB.out;omega))
   case stop =>
    rintro D c xs W hD hS ⟨rfl,hx,hgw,hn⟩ hK;exfalso;obtain⟨t,ht,hk⟩:=List.any_eq_true.1 hn;have h1:=Nr.out;rw[show dZ (ae.t (.mk yk yn ys (.slice ya yl.length yc) yl))=true from List.any_eq_true.2 ⟨t,hS.subset ht,hk⟩]at h1;cases h1
end Go.Proofs.YtnobahchcongnaaGreat
