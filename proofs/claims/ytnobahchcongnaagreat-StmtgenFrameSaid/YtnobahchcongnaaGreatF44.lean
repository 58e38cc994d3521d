import Derived.Test.YtnobahchcongnaaGreatF43
set_option linter.unusedSimpArgs false
set_option linter.unusedVariables false
set_option maxRecDepth 100000
set_option maxHeartbeats 25600000
namespace Go.Proofs.YtnobahchcongnaaGreat
open Go.RowKit Go.Instr
attribute [local go_sem ↓] lu
theorem Yl (k n:Int) (s:ByteArray) (ka:Option Addr) (l:List ae) (kc:Nat) (i:Nat) (v:Value) (aB:List aA) (w:World) (hr:ax 3 aA.cells w v aB) (hvs:aB.length<=900000):Calls Tryz.prog 49 #[.agg #[.int .u8 k,.int .i64 n,.string s,.slice ka l.length kc],.int .i64 i,v] w (Sd 3 aA.cells 54 v aB (kT (ae.t (.mk k n s (.slice ka l.length kc) l)) i aB) w):=by
 obtain⟨va,vc,rfl,oC,hvl⟩:=hr.form;have HV:=ł hr;clear hr;have bg:=ł (show Grow w (w.alloc (.cells #[.int .u8 k,.int .i64 n,.string s,.slice ka l.length kc] 26))from(Mv.refl _ w).alloc _);have xz:=ł (heap_alloc_new w (.cells #[.int .u8 k,.int .i64 n,.string s,.slice ka l.length kc] 26));have hnl:w.heap.size<(w.alloc (.cells #[.int .u8 k,.int .i64 n,.string s,.slice ka l.length kc] 26)).heap.size:=by simp
 have HR:=ł (show kT (ae.t (.mk k n s (.slice ka l.length kc) l)) i aB=if k=54/\i=1 then aB ++ [⟨s,1,0⟩]else if k=55/\i=0 then aB ++ [⟨s,3,0⟩]else aB from rfl);generalize kT (ae.t (.mk k n s (.slice ka l.length kc) l)) i aB=R at *;by_cases h1:k=54/\i=1
 · obtain⟨rfl,rfl⟩:=h1;have HR2:=ł (show R=aB ++ [⟨s,1,0⟩]from by rw[HR.out];simp)
   go_enter Tryz.func49,Tryz.ntmps49
   go_upto_region 2 with fail;generalize (w.alloc (.cells #[.int .u8 54,.int .i64 n,.string s,.slice ka l.length kc] 26))=w1 at *;have HK:=ł (λ(y:World) (hy:Grow w1 y)=>ai xz.out hy);refine xB 6 38 [some 15,some 16,some 17,some 18,some 19,some 20] [[],[0],[],[2],[3],[4]] [] [.c (.slice va aB.length vc),.c (.slice va aB.length aB.length),.c (.pointer (some ⟨w.heap.size,2,none⟩)),.c (.string s),.c (.agg #[.string s,.int .u8 1,.int .i64 0]),.p (λv y=>∃ g,v = .slice (some ⟨g,0,none⟩) 1 1/\y.heap[g]? = some (.cells #[.string s,.int .u8 1,.int .i64 0] 54 (0,0)))] ⟨⟨(λv x y hg h=>by obtain⟨g,hv,hb⟩:=h;exact⟨g,hv,ai hb hg⟩),λ_=>mg⟩,trivial⟩ (cz rfl) ?steps ?done
   case steps =>
    refine⟨?s0,?s1,?s2,?s3,?s4,?s5,trivial⟩
    case s0|s2|s4 =>
     refine oo (λvs x hP => ?_);simp only[zS];go_simp;exact gc
    case s1 =>
     refine ok HK (λvs x hG HX hP => ?_);have HC:=ł (QA va aB.length vc x oC hvl);simp only[zS];go_simp;refine(HC.out).mono ?_;rintro e y ⟨rfl,rfl⟩;exact⟨_,rfl,gc⟩
    case s3 =>
     refine ok HK (λvs x hG HX hP => ?_);obtain⟨⟨n0,n1⟩,n2,n3⟩:=aF HX.out;simp only[zS];go_simp;exact gc
    case s5 =>
     refine oo (λvs x hP => ?_);simp only[zS];go_simp;exact gl ⟨_,rfl,heap_alloc_new x _⟩
   case done =>
   intro vs wx hE;have hG:=hE.grow;have p5:=hE.val 5;obtain⟨g5,h5,b5⟩:=p5;obtain⟨a',c',w2,⟨hok,hv,hw⟩,hrow,hg2⟩:=JW Tryz.QP QQ va aB ⟨s,1,0⟩ g5 wx ((JX HV.out).later (gtr bg.out hG)) b5 (by simp[aA.cells,Value.oneCell']) hvs;have HRW:=ł hrow;have HG2:=ł (gtr (gtr bg.out hG) hg2);clear hrow hg2 hE hG;simp only[zS,Nat.reduceAdd,h5,List.drop_succ_cons,List.drop_zero];go_wp2_with fail;go_ret;exact⟨_,rfl,⟨by rw[HR2.out];exact HRW.out.1,.inr HRW.out.2⟩,HG2.out⟩
 · by_cases h2:k=55/\i=0
   · obtain⟨rfl,rfl⟩:=h2;have HR2:=ł (show R=aB ++ [⟨s,3,0⟩]from by rw[HR.out];simp)
     go_enter Tryz.func49,Tryz.ntmps49
     go_upto_region 4 with fail;generalize (w.alloc (.cells #[.int .u8 55,.int .i64 n,.string s,.slice ka l.length kc] 26))=w1 at *;have HK:=ł (λ(y:World) (hy:Grow w1 y)=>ai xz.out hy);refine xB 6 38 [some 30,some 31,some 32,some 33,some 34,some 35] [[],[0],[],[2],[3],[4]] [] [.c (.slice va aB.length vc),.c (.slice va aB.length aB.length),.c (.pointer (some ⟨w.heap.size,2,none⟩)),.c (.string s),.c (.agg #[.string s,.int .u8 3,.int .i64 0]),.p (λv y=>∃ g,v = .slice (some ⟨g,0,none⟩) 1 1/\y.heap[g]? = some (.cells #[.string s,.int .u8 3,.int .i64 0] 54 (0,0)))] ⟨⟨(λv x y hg h=>by obtain⟨g,hv,hb⟩:=h;exact⟨g,hv,ai hb hg⟩),λ_=>mg⟩,trivial⟩ (cz rfl) ?steps ?done
     case steps =>
      refine⟨?s0,?s1,?s2,?s3,?s4,?s5,trivial⟩
      case s0|s2|s4 =>
       refine oo (λvs x hP => ?_);simp only[zS];go_simp;exact gc
      case s1 =>
       refine ok HK (λvs x hG HX hP => ?_);have HC:=ł (QA va aB.length vc x oC hvl);simp only[zS];go_simp;refine(HC.out).mono ?_;rintro e y ⟨rfl,rfl⟩;exact⟨_,rfl,gc⟩
      case s3 =>
       refine ok HK (λvs x hG HX hP => ?_);obtain⟨⟨n0,n1⟩,n2,n3⟩:=aF HX.out;simp only[zS];go_simp;exact gc
      case s5 =>
       refine oo (λvs x hP => ?_);simp only[zS];go_simp;exact gl ⟨_,rfl,heap_alloc_new x _⟩
     case done =>
     intro vs wx hE;have hG:=hE.grow;have p5:=hE.val 5;obtain⟨g5,h5,b5⟩:=p5;obtain⟨a',c',w2,⟨hok,hv,hw⟩,hrow,hg2⟩:=JW Tryz.QP QQ va aB ⟨s,3,0⟩ g5 wx ((JX HV.out).later (gtr bg.out hG)) b5 (by simp[aA.cells,Value.oneCell']) hvs;have HRW:=ł hrow;have HG2:=ł (gtr (gtr bg.out hG) hg2);clear hrow hg2 hE hG;simp only[zS,Nat.reduceAdd,h5,List.drop_succ_cons,List.drop_zero];go_wp2_with fail;go_ret;exact⟨_,rfl,⟨by rw[HR2.out];exact HRW.out.1,.inr HRW.out.2⟩,HG2.out⟩
   · have HR2:=ł (show R=aB from by rw[HR.out,if_neg h1,if_neg h2])
     go_enter Tryz.func49,Tryz.ntmps49
     by_cases k1:k=54
     · subst k1;have e1:((i:Int) == 1)=false:=by simp;omega
       go_wp2_with fail;go_ret;exact⟨_,rfl,⟨by rw[HR2.out];exact HV.out.later bg.out,.inl ⟨rfl,by rw[HR2.out]⟩⟩,bg.out⟩
     · have e1:(k == 54)=false:=by simpa using k1
       by_cases k2:k=55
       · subst k2;have e2:((i:Int) == 0)=false:=by simp;omega
         go_wp2_with fail;go_ret;exact⟨_,rfl,⟨by rw[HR2.out];exact HV.out.later bg.out,.inl ⟨rfl,by rw[HR2.out]⟩⟩,bg.out⟩
       · have e2:(k == 55)=false:=by simpa using k2
         go_wp2_with fail;go_ret;exact⟨_,rfl,⟨by rw[HR2.out];exact HV.out.later bg.out,.inl ⟨rfl,by rw[HR2.out]⟩⟩,bg.out⟩
theorem IV (P:List aU) (s:ByteArray):(mq P s = -1/\P.find? (λq=>q.name == s)=none)\/∃ j,∃ hj:j<P.length,mq P s=j/\P.find? (λq=>q.name == s)=some P[j]:=by
 cases h:P.findIdx? (λq=>q.name == s)with
 |none =>
  refine .inl ⟨by unfold mq;rw[h],List.find?_eq_none.2 λx hx => ?_⟩;have:=List.findIdx?_eq_none_iff.1 h x hx;simp[this]
 |some j =>
  obtain⟨hj,h1,h2⟩:=List.findIdx?_eq_some_iff_getElem.1 h;refine .inr ⟨j,hj,by unfold mq;rw[h],?_⟩;rw[List.find?_eq_some_iff_getElem];exact⟨h1,j,hj,rfl,λi hi=>by have:=h2 i hi;simpa using this⟩
def fu (P:List aU) (k:Int) (s:ByteArray) (n:Nat) (aB:List aA):Int :=
 if k=2 then nH aB s 1
 else if k=3 then nH aB s 2
 else if k=4\/k=5\/k=44\/k=45 then nH aB s 3
 else if k=54\/k=55 then mi aB s
 else if k=50\/k=51 then match P.find? (λq=>q.name == s)with
  |none=>6
  |some q=>if n=q.params.length then 0 else 7
 else 0
theorem Ym (p:cu) (k n:Int) (s:ByteArray) (ka:Option Addr) (l:List ae) (kc:Nat) (v:Value) (aB:List aA) (w:World) (hp:qj w p) (hx:aS w (.mk k n s (.slice ka l.length kc) l)) (hv:ax 3 aA.cells w v aB):Calls Tryz.prog 46 #[p.val,.agg #[.int .u8 k,.int .i64 n,.string s,.slice ka l.length kc],v] w (AU w (fu p.d.procs k s l.length aB)):=by
 obtain⟨vars,vv,procs,pv,⟨mk,mn,ms,mv,ml⟩⟩:=p;obtain⟨⟨va,vc,rfl⟩,⟨pa,pc,rfl⟩,hm⟩:=hp.form;obtain⟨ma,mc,rfl,-,-⟩:=hm.form;have hpl:procs.length<=9223372036854775807:=by obtain⟨_,_,_,_,h⟩:=hp.procs.row.form;exact h
 have hll:l.length<=9223372036854775807:=by obtain⟨_,_,_,_,h⟩:=hx.form;exact h
 have HP:=ł hp;have HV:=ł hv;obtain⟨HX,-,-⟩:=a2 w (.cells #[.slice va vars.length vc,.slice pa procs.length pc,.int .u8 mk,.int .i64 mn,.string ms,.slice ma ml.length mc] 28) (.cells #[.int .u8 k,.int .i64 n,.string s,.slice ka l.length kc] 26);have HN:=ł (show((w.alloc (.cells #[.slice va vars.length vc,.slice pa procs.length pc,.int .u8 mk,.int .i64 mn,.string ms,.slice ma ml.length mc] 28)).alloc (.cells #[.int .u8 k,.int .i64 n,.string s,.slice ka l.length kc] 26)).heap[w.heap.size+1]? = some (.cells #[.int .u8 k,.int .i64 n,.string s,.slice ka l.length kc] 26 (0,0))from by
  have:=heap_alloc_new (w.alloc (.cells #[.slice va vars.length vc,.slice pa procs.length pc,.int .u8 mk,.int .i64 mn,.string ms,.slice ma ml.length mc] 28)) (.cells #[.int .u8 k,.int .i64 n,.string s,.slice ka l.length kc] 26)
  simpa using this)
 obtain⟨-,-,HG⟩:=a2 w (.cells #[.slice va vars.length vc,.slice pa procs.length pc,.int .u8 mk,.int .i64 mn,.string ms,.slice ma ml.length mc] 28) (.cells #[.int .u8 k,.int .i64 n,.string s,.slice ka l.length kc] 26);have HR:=ł (show fu (cu.d ⟨vars,.slice va vars.length vc,procs,.slice pa procs.length pc,.mk mk mn ms (.slice ma ml.length mc) ml⟩).procs k s l.length aB=fu (procs.map ak.d) k s l.length aB from rfl);generalize fu (cu.d ⟨vars,.slice va vars.length vc,procs,.slice pa procs.length pc,.mk mk mn ms (.slice ma ml.length mc) ml⟩).procs k s l.length aB=R at *;clear hp hv hm hx;simp only[cu.val];have hcs:k=2\/k=3\/k=4\/k=5\/k=44\/k=45\/k=54\/k=55\/k=50\/k=51\/(k≠2/\k≠3/\k≠4/\k≠5/\k≠44/\k≠45/\k≠54/\k≠55/\k≠50/\k≠51):=by omega
 obtain⟨⟨x0,x1,x2⟩,x3,x4,x5⟩:=dK HX.out;obtain⟨⟨n0,n1⟩,n2,n3⟩:=aF HN.out;have hxl:=lt_of_block HX.out;have hnl:=lt_of_block HN.out;rcases hcs with hk|hk|hk|hk|hk|hk|hk|hk|hk|hk|⟨m2,m3,m4,m5,UW,UX,UY,UZ,U0,U1⟩
 · subst hk;have HE:=ł (show R=nH aB s 1 from by rw[HR.out];simp[fu])
   go_enter Tryz.func46,Tryz.ntmps46
   go_wp2_with fail;refine(AJ _ aB s 1 _ (HV.out.later HG.out)).mono ?_;rintro e w2 ⟨rfl,hg⟩;have HG2:=ł (gtr HG.out hg);clear hg;go_wp2_with fail;go_ret;exact⟨cB HE.out.symm,HG2.out⟩
 · subst hk;have HE:=ł (show R=nH aB s 2 from by rw[HR.out];simp[fu])
   go_enter Tryz.func46,Tryz.ntmps46
   go_wp2_with fail;refine(AJ _ aB s 2 _ (HV.out.later HG.out)).mono ?_;rintro e w2 ⟨rfl,hg⟩;have HG2:=ł (gtr HG.out hg);clear hg;go_wp2_with fail;go_ret;exact⟨cB HE.out.symm,HG2.out⟩
 · subst hk;have HE:=ł (show R=nH aB s 3 from by rw[HR.out];simp[fu])
   go_enter Tryz.func46,Tryz.ntmps46
   go_wp2_with fail;refine(AJ _ aB s 3 _ (HV.out.later HG.out)).mono ?_;rintro e w2 ⟨rfl,hg⟩;have HG2:=ł (gtr HG.out hg);clear hg;go_wp2_with fail;go_ret;exact⟨cB HE.out.symm,HG2.out⟩
 · subst hk;have HE:=ł (show R=nH aB s 3 from by rw[HR.out];simp[fu])
   go_enter Tryz.func46,Tryz.ntmps46
   go_wp2_with fail;refine(AJ _ aB s 3 _ (HV.out.later HG.out)).mono ?_;rintro e w2 ⟨rfl,hg⟩;have HG2:=ł (gtr HG.out hg);clear hg;go_wp2_with fail;go_ret;exact⟨cB HE.out.symm,HG2.out⟩
 · subst hk;have HE:=ł (show R=nH aB s 3 from by rw[HR.out];simp[fu])
   go_enter Tryz.func46,Tryz.ntmps46
   go_wp2_with fail;refine(AJ _ aB s 3 _ (HV.out.later HG.out)).mono ?_;rintro e w2 ⟨rfl,hg⟩;have HG2:=ł (gtr HG.out hg);clear hg;go_wp2_with fail;go_ret;exact⟨cB HE.out.symm,HG2.out⟩
 · subst hk;have HE:=ł (show R=nH aB s 3 from by rw[HR.out];simp[fu])
   go_enter Tryz.func46,Tryz.ntmps46
   go_wp2_with fail;refine(AJ _ aB s 3 _ (HV.out.later HG.out)).mono ?_;rintro e w2 ⟨rfl,hg⟩;have HG2:=ł (gtr HG.out hg);clear hg;go_wp2_with fail;go_ret;exact⟨cB HE.out.symm,HG2.out⟩
 · subst hk;have HE:=ł (show R=mi aB s from by rw[HR.out];simp[fu])
   go_enter Tryz.func46,Tryz.ntmps46
   go_wp2_with fail;refine(EK _ aB s _ (HV.out.later HG.out)).mono ?_;rintro e w2 ⟨rfl,hg⟩;have HG2:=ł (gtr HG.out hg);clear hg;go_wp2_with fail;go_ret;exact⟨cB HE.out.symm,HG2.out⟩
 · subst hk;have HE:=ł (show R=mi aB s from by rw[HR.out];simp[fu])
   go_enter Tryz.func46,Tryz.ntmps46
   go_wp2_with fail;refine(EK _ aB s _ (HV.out.later HG.out)).mono ?_;rintro e w2 ⟨rfl,hg⟩;have HG2:=ł (gtr HG.out hg);clear hg;go_wp2_with fail;go_ret;exact⟨cB HE.out.symm,HG2.out⟩
 · subst hk;have HE:=ł (show R=match (procs.map ak.d).find? (λq=>q.name == s)with
    |none=>6
    |some q=>if l.length=q.params.length then 0 else 7 from by rw[HR.out];simp[fu])
   have pV:=ł (EL ⟨vars,.slice va vars.length vc,procs,.slice pa procs.length pc,.mk mk mn ms (.slice ma ml.length mc) ml⟩ s _ (HP.out.later HG.out));simp only[cu.val,cu.d]at pV
   go_enter Tryz.func46,Tryz.ntmps46
   go_wp2_with fail;refine pV.out.mono ?_;rintro e w2 ⟨rfl,hg⟩;have HG2:=ł (gtr HG.out hg);have bZ:=ł (ai HX.out hg);have iD:=ł (ai HN.out hg);clear hg pV x0 x1 x2 x3 x4 x5 n0 n1 n2 n3 hxl hnl;rcases IV (procs.map ak.d) s with⟨hi,hf⟩|⟨j,hj,hi,hf⟩
   · rw[hi];rw[hf]at HE;clear hi hf;go_wp2_with fail;go_ret;exact⟨cB HE.out.symm,HG2.out⟩
   · rw[hi];rw[hf]at HE;simp only[List.length_map]at hj;simp only[List.getElem_map]at HE;clear hi hf;obtain⟨pb,po,Gf,hpv,-,hcc⟩:=(HP.out.procs.later HG2.out).row.at hj;simp only[Value.slice.injEq,true_and]at hpv;obtain⟨rfl,rfl⟩:=hpv;have bY:=ł (HP.out.procs.each _ (List.getElem_mem hj));generalize procs[j]=q at *;obtain⟨qs,aX,qv,qb⟩:=q;obtain⟨qa,qc,rfl,-,-⟩:=bY.out.form;have HE2:=ł (show R=if l.length=aX.length then 0 else 7 from HE.out);have lX:=ł (hcc 1 _ rfl);clear hcc HE;have hge:decide ((j:Int)<0)=false:=by simp
     go_upto_region 19 with fail;have HK:=ł (λ(y:World) (hy:Grow w2 y)=>And.intro (ai bZ.out hy) (And.intro (ai iD.out hy) (show y.cell? ⟨pb,po+j * 6+1,none⟩=some (.slice qa aX.length qc)from by
      rw[← lX.out];exact World.cell?_of_block (w:=w2) (w':=y) (a:=⟨pb,po+j * 6+1,none⟩) (hy.block _ (World.block_lt_of_cell? w2 _ lX.out) (λe=>e)))))
     have aas:=hpl;refine wg 58 [some 47,some 48,some 49,some 50,some 51,some 52,some 53,some 54,some 55,some 56,some 57] [[],[0],[1],[],[3],[],[4,5],[6],[7],[8],[2,9]] [] [.c (.pointer (some ⟨w.heap.size+1,3,none⟩)),.c (.slice ka l.length kc),.c (.int .i64 l.length),.c (.pointer (some ⟨w.heap.size,1,none⟩)),.c (.slice (some ⟨pb,po,none⟩) procs.length pc),.c (.int .i64 j),.c (.pointer (some ⟨pb,po+j * 6,none⟩)),.c (.pointer (some ⟨pb,po+j * 6+1,none⟩)),.c (.slice qa aX.length qc),.c (.int .i64 aX.length),.c (.bool (((l.length:Nat):Int) != (aX.length:Nat)))] trivial (cz rfl) ?steps ?done
     case steps =>
      refine⟨?s0,?s1,?s2,?s3,?s4,?s5,?s6,?s7,?s8,?s9,?s10,trivial⟩
      case s0|s2|s3|s5|s6|s7|s9|s10 =>
       refine oo (λvs x hP => ?_);simp only[zS];go_simp;exact gc
      case s1 =>
       refine ok HK (λvs x hG HX hP => ?_);obtain⟨⟨n0,n1⟩,n2,n3⟩:=aF HX.out.2.1;simp only[zS];go_simp;exact gc
      case s4 =>
       refine ok HK (λvs x hG HX hP => ?_);obtain⟨⟨x0,x1,x2⟩,x3,x4,x5⟩:=dK HX.out.1;simp only[zS];go_simp;exact gc
      case s8 =>
       refine ok HK (λvs x hG HX hP => ?_);have c1:=HX.out.2.2;simp only[zS];go_simp;exact gc
     case done =>
     intro vs wx hE;have hG:=hE.grow;have aG:=ł (gtr HG2.out hG);clear hE hG;simp only[zS,Nat.reduceAdd];by_cases hq:l.length=aX.length
     · have HF:=ł (show R=0 from by rw[HE2.out,if_pos hq]);have eb:(((l.length:Nat):Int) != (aX.length:Nat))=false:=by simp[hq]
       clear hq;go_wp2_with fail;go_ret;exact⟨cB HF.out.symm,aG.out⟩
     · have HF:=ł (show R=7 from by rw[HE2.out,if_neg hq]);have eb:(((l.length:Nat):Int) != (aX.length:Nat))=true:=by simp;omega
       clear hq;go_wp2_with fail;go_ret;exact⟨cB HF.out.symm,aG.out⟩
 · subst hk;have HE:=ł (show R=match (procs.map ak.d).find? (λq=>q.name == s)with
    |none=>6
    |some q=>if l.length=q.params.length then 0 else 7 from by rw[HR.out];simp[fu])
   have pV:=ł (EL ⟨vars,.slice va vars.length vc,procs,.slice pa procs.length pc,.mk mk mn ms (.slice ma ml.length mc) ml⟩ s _ (HP.out.later HG.out));simp only[cu.val,cu.d]at pV
   go_enter Tryz.func46,Tryz.ntmps46
   go_wp2_with fail;refine pV.out.mono ?_;rintro e w2 ⟨rfl,hg⟩;have HG2:=ł (gtr HG.out hg);have bZ:=ł (ai HX.out hg);have iD:=ł (ai HN.out hg);clear hg pV x0 x1 x2 x3 x4 x5 n0 n1 n2 n3 hxl hnl;rcases IV (procs.map ak.d) s with⟨hi,hf⟩|⟨j,hj,hi,hf⟩
   · rw[hi];rw[hf]at HE;clear hi hf;go_wp2_with fail;go_ret;exact⟨cB HE.out.symm,HG2.out⟩
   · rw[hi];rw[hf]at HE;simp only[List.length_map]at hj;simp only[List.getElem_map]at HE;clear hi hf;obtain⟨pb,po,Gf,hpv,-,hcc⟩:=(HP.out.procs.later HG2.out).row.at hj;simp only[Value.slice.injEq,true_and]at hpv;obtain⟨rfl,rfl⟩:=hpv;have bY:=ł (HP.out.procs.each _ (List.getElem_mem hj));generalize procs[j]=q at *;obtain⟨qs,aX,qv,qb⟩:=q;obtain⟨qa,qc,rfl,-,-⟩:=bY.out.form;have HE2:=ł (show R=if l.length=aX.length then 0 else 7 from HE.out);have lX:=ł (hcc 1 _ rfl);clear hcc HE;have hge:decide ((j:Int)<0)=false:=by simp
     go_upto_region 19 with fail;have HK:=ł (λ(y:World) (hy:Grow w2 y)=>And.intro (ai bZ.out hy) (And.intro (ai iD.out hy) (show y.cell? ⟨pb,po+j * 6+1,none⟩=some (.slice qa aX.length qc)from by
      rw[← lX.out];exact World.cell?_of_block (w:=w2) (w':=y) (a:=⟨pb,po+j * 6+1,none⟩) (hy.block _ (World.block_lt_of_cell? w2 _ lX.out) (λe=>e)))))
     have aas:=hpl;refine wg 58 [some 47,some 48,some 49,some 50,some 51,some 52,some 53,some 54,some 55,some 56,some 57] [[],[0],[1],[],[3],[],[4,5],[6],[7],[8],[2,9]] [] [.c (.pointer (some ⟨w.heap.size+1,3,none⟩)),.c (.slice ka l.length kc),.c (.int .i64 l.length),.c (.pointer (some ⟨w.heap.size,1,none⟩)),.c (.slice (some ⟨pb,po,none⟩) procs.length pc),.c (.int .i64 j),.c (.pointer (some ⟨pb,po+j * 6,none⟩)),.c (.pointer (some ⟨pb,po+j * 6+1,none⟩)),.c (.slice qa aX.length qc),.c (.int .i64 aX.length),.c (.bool (((l.length:Nat):Int) != (aX.length:Nat)))] trivial (cz rfl) ?steps ?done
     case steps =>
      refine⟨?s0,?s1,?s2,?s3,?s4,?s5,?s6,?s7,?s8,?s9,?s10,trivial⟩
      case s0|s2|s3|s5|s6|s7|s9|s10 =>
       refine oo (λvs x hP => ?_);simp only[zS];go_simp;exact gc
      case s1 =>
       refine ok HK (λvs x hG HX hP => ?_);obtain⟨⟨n0,n1⟩,n2,n3⟩:=aF HX.out.2.1;simp only[zS];go_simp;exact gc
      case s4 =>
       refine ok HK (λvs x hG HX hP => ?_);obtain⟨⟨x0,x1,x2⟩,x3,x4,x5⟩:=dK HX.out.1;simp only[zS];go_simp;exact gc
      case s8 =>
       refine ok HK (λvs x hG HX hP => ?_);have c1:=HX.out.2.2;simp only[zS];go_simp;exact gc
     case done =>
     intro vs wx hE;have hG:=hE.grow;have aG:=ł (gtr HG2.out hG);clear hE hG;simp only[zS,Nat.reduceAdd];by_cases hq:l.length=aX.length
     · have HF:=ł (show R=0 from by rw[HE2.out,if_pos hq]);have eb:(((l.length:Nat):Int) != (aX.length:Nat))=false:=by simp[hq]
       clear hq;go_wp2_with fail;go_ret;exact⟨cB HF.out.symm,aG.out⟩
     · have HF:=ł (show R=7 from by rw[HE2.out,if_neg hq]);have eb:(((l.length:Nat):Int) != (aX.length:Nat))=true:=by simp;omega
       clear hq;go_wp2_with fail;go_ret;exact⟨cB HF.out.symm,aG.out⟩
 · have HE:=ł (show R=0 from by rw[HR.out];simp[fu,m2,m3,m4,m5,UW,UX,UY,UZ,U0,U1]);have e2:(k == 2)=false:=by simpa using m2
   have e3:(k == 3)=false:=by simpa using m3
   have e4:(k == 4)=false:=by simpa using m4
   have e5:(k == 5)=false:=by simpa using m5
   have e44:(k == 44)=false:=by simpa using UW
   have e45:(k == 45)=false:=by simpa using UX
   have e54:(k == 54)=false:=by simpa using UY
   have e55:(k == 55)=false:=by simpa using UZ
   have e50:(k == 50)=false:=by simpa using U0
   have e51:(k == 51)=false:=by simpa using U1
   go_enter Tryz.func46,Tryz.ntmps46
   go_wp2_with fail;go_ret;exact⟨cB HE.out.symm,HG.out⟩
def pg (P:List aU) (s:ByteArray) (n:Nat) (a:ByteArray) (i:Nat) (aB:List aA):Int:=match fZ aB a with
 |none=>6
 |some v=>match P.find? (λq=>q.name == s)with
  |none=>0
  |some q=>if n=q.params.length then(if v.kind=(q.params.getD i o9).kind/\v.len=(q.params.getD i o9).len then 0 else 7)else 0
theorem Wd (p:cu) (k n:Int) (s:ByteArray) (kb ko:Nat) (l:List ae) (kc:Nat) (i:Nat) (hi:i<l.length) (v:Value) (aB:List aA) (w:World) (hp:qj w p) (hx:aS w (.mk k n s (.slice (some ⟨kb,ko,none⟩) l.length kc) l)) (hv:ax 3 aA.cells w v aB):Calls Tryz.prog 48 #[p.val,.agg #[.int .u8 k,.int .i64 n,.string s,.slice (some ⟨kb,ko,none⟩) l.length kc],.int .i64 i,v] w (AU w (pg p.d.procs s l.length l[i].t.name i aB)):=by
 obtain⟨vars,vv,procs,pv,⟨mk,mn,ms,mv,ml⟩⟩:=p;obtain⟨⟨va,vc,rfl⟩,⟨pa,pc,rfl⟩,hm⟩:=hp.form;obtain⟨ma,mc,rfl,-,-⟩:=hm.form;have hpl:procs.length<=9223372036854775807:=by obtain⟨_,_,_,_,h⟩:=hp.procs.row.form;exact h
 have hll:l.length<=9223372036854775807:=by obtain⟨_,_,_,_,h⟩:=hx.form;exact h
 have HP:=ł hp;have HV:=ł hv;obtain⟨HX,-,-⟩:=a2 w (.cells #[.slice va vars.length vc,.slice pa procs.length pc,.int .u8 mk,.int .i64 mn,.string ms,.slice ma ml.length mc] 28) (.cells #[.int .u8 k,.int .i64 n,.string s,.slice (some ⟨kb,ko,none⟩) l.length kc] 26);have HN:=ł (show((w.alloc (.cells #[.slice va vars.length vc,.slice pa procs.length pc,.int .u8 mk,.int .i64 mn,.string ms,.slice ma ml.length mc] 28)).alloc (.cells #[.int .u8 k,.int .i64 n,.string s,.slice (some ⟨kb,ko,none⟩) l.length kc] 26)).heap[w.heap.size+1]? = some (.cells #[.int .u8 k,.int .i64 n,.string s,.slice (some ⟨kb,ko,none⟩) l.length kc] 26 (0,0))from by
  have:=heap_alloc_new (w.alloc (.cells #[.slice va vars.length vc,.slice pa procs.length pc,.int .u8 mk,.int .i64 mn,.string ms,.slice ma ml.length mc] 28)) (.cells #[.int .u8 k,.int .i64 n,.string s,.slice (some ⟨kb,ko,none⟩) l.length kc] 26)
  simpa using this)
 obtain⟨-,-,HG⟩:=a2 w (.cells #[.slice va vars.length vc,.slice pa procs.length pc,.int .u8 mk,.int .i64 mn,.string ms,.slice ma ml.length mc] 28) (.cells #[.int .u8 k,.int .i64 n,.string s,.slice (some ⟨kb,ko,none⟩) l.length kc] 26);have dH:=(dO hx i hi).later HG.out;have HR:=ł (show pg (cu.d ⟨vars,.slice va vars.length vc,procs,.slice pa procs.length pc,.mk mk mn ms (.slice ma ml.length mc) ml⟩).procs s l.length l[i].t.name i aB=pg (procs.map ak.d) s l.length l[i].t.name i aB from rfl);generalize pg (cu.d ⟨vars,.slice va vars.length vc,procs,.slice pa procs.length pc,.mk mk mn ms (.slice ma ml.length mc) ml⟩).procs s l.length l[i].t.name i aB=R at *;generalize l[i]=y at *;obtain⟨yk,yn,ys,yv,yl⟩:=y;obtain⟨ya,yc,rfl,-,-⟩:=dH.at_.form;obtain⟨⟨d0,d1⟩,d2,d3⟩:=dH.four;have HR1:=ł (show R=pg (procs.map ak.d) s l.length ys i aB from HR.out);have hbl:kb<((w.alloc (.cells #[.slice va vars.length vc,.slice pa procs.length pc,.int .u8 mk,.int .i64 mn,.string ms,.slice ma ml.length mc] 28)).alloc (.cells #[.int .u8 k,.int .i64 n,.string s,.slice (some ⟨kb,ko,none⟩) l.length kc] 26)).heap.size:=World.block_lt_of_cell? _ _ d0;have HNI:=ł hx;clear hp hv hm hx dH HR;simp only[cu.val];obtain⟨⟨n0,n1⟩,n2,n3⟩:=aF HN.out;have hnl:=lt_of_block HN.out;have U2:=ł (JV _ aB ys _ (HV.out.later HG.out))
 go_enter Tryz.func48,Tryz.ntmps48
 go_wp2_with fail;refine U2.out.mono ?_;rintro e w2 ⟨rfl,hg⟩;have HG2:=ł (gtr HG.out hg);have bZ:=ł (ai HX.out hg);have iD:=ł (ai HN.out hg);clear hg U2 d0 d1 d2 d3 n0 n1 n2 n3 hbl hnl;generalize Hy:fZ aB ys=fd at *;cases fd with
 |none =>
  have HE:=ł (show R=6 from by rw[HR1.out];unfold pg;rw[Hy]);simp only[Option.getD_none,Option.isSome_none,o9];clear Hy;go_wp2_with fail;go_ret;exact⟨cB HE.out.symm,HG2.out.alloc _⟩
 |some fv =>
  obtain⟨fs,fk,fn⟩:=fv;simp only[Option.getD_some,Option.isSome_some];have HE:=ł (show R=match (procs.map ak.d).find? (λq=>q.name == s)with
   |none=>0
   |some q=>if l.length=q.params.length then(if fk=(q.params.getD i o9).kind/\fn=(q.params.getD i o9).len then 0 else 7)else 0 from by rw[HR1.out];unfold pg;rw[Hy])
  clear Hy HR1;have aG:=ł (show Grow w (w2.alloc (.cells #[.string fs,.int .u8 fk,.int .i64 fn] 54))from HG2.out.alloc _);have lS:=ł (aO bZ.out (.cells #[.string fs,.int .u8 fk,.int .i64 fn] 54));have nI:=ł (aO iD.out (.cells #[.string fs,.int .u8 fk,.int .i64 fn] 54));have uT:=ł (heap_alloc_new w2 (.cells #[.string fs,.int .u8 fk,.int .i64 fn] 54));have pV:=ł (EL ⟨vars,.slice va vars.length vc,procs,.slice pa procs.length pc,.mk mk mn ms (.slice ma ml.length mc) ml⟩ s _ (HP.out.later aG.out));simp only[cu.val,cu.d]at pV;obtain⟨⟨x0,x1,x2⟩,x3,x4,x5⟩:=dK bZ.out;obtain⟨⟨n0,n1⟩,n2,n3⟩:=aF iD.out;have hxl:=lt_of_block bZ.out;have hnl:=lt_of_block iD.out;go_wp2_with fail;generalize (w2.alloc (.cells #[.string fs,.int .u8 fk,.int .i64 fn] 54))=w3 at *;refine pV.out.mono ?_;rintro e w4 ⟨rfl,hg⟩;have aN:=ł (gtr aG.out hg);have Bj:=ł (ai lS.out hg);have pO:=ł (ai nI.out hg);have Hz:=ł (ai uT.out hg);clear hg pV x0 x1 x2 x3 x4 x5 n0 n1 n2 n3 hxl hnl lS nI uT bZ iD;obtain⟨⟨x0,x1,x2⟩,x3,x4,x5⟩:=dK Bj.out;obtain⟨⟨n0,n1⟩,n2,n3⟩:=aF pO.out;obtain⟨f0,f1,f2⟩:=yO Hz.out;have hxl:=lt_of_block Bj.out;have hnl:=lt_of_block pO.out;have hfl:=lt_of_block Hz.out;rcases IV (procs.map ak.d) s with⟨hj,hf⟩|⟨j,hjl,hj,hf⟩
  · rw[hj];rw[hf]at HE;clear hj hf;go_wp2_with fail
    go_region
    all_goals
     go_wp2_with fail;go_ret;exact⟨cB HE.out.symm,aN.out.drew⟩
  · rw[hj];rw[hf]at HE;simp only[List.length_map]at hjl;simp only[List.getElem_map]at HE;clear hj hf;obtain⟨pb,po,Gf,hpv,-,hcc⟩:=(HP.out.procs.later aN.out).row.at hjl;simp only[Value.slice.injEq,true_and]at hpv;obtain⟨rfl,rfl⟩:=hpv;have bY:=ł ((HP.out.procs.later aN.out).each _ (List.getElem_mem hjl));generalize procs[j]=q at *;obtain⟨qs,aX,qv,qb⟩:=q;obtain⟨qa,qc,rfl,-,pK⟩:=bY.out.form;have HE2:=ł (show R=if l.length=aX.length then(if fk=(aX.getD i o9).kind/\fn=(aX.getD i o9).len then 0 else 7)else 0 from HE.out);have c1:=hcc 1 _ rfl;have hpb:pb<w4.heap.size:=World.block_lt_of_cell? w4 _ c1;have hge:decide ((j:Int)<0)=false:=by simp
    clear hcc HE;go_wp2_with fail;by_cases hq:l.length=aX.length
    · have eb:(((l.length:Nat):Int) != (aX.length:Nat))=false:=by simp[hq]
      have Ea:=ł (show R=if fk=(aX.getD i o9).kind/\fn=(aX.getD i o9).len then 0 else 7 from by rw[HE2.out,if_pos hq]);have Eh:=ł bY.out.params;simp only at Eh
      go_region
      have aT:=ł (aN.out.drew);have Hr:=ł (show(w4.drew).heap[w.heap.size]? = some (.cells #[.slice va vars.length vc,.slice (some ⟨pb,po,none⟩) procs.length pc,.int .u8 mk,.int .i64 mn,.string ms,.slice ma ml.length mc] 28 (0,0))from Bj.out);have U3:=ł (show(w4.drew).heap[w2.heap.size]? = some (.cells #[.string fs,.int .u8 fk,.int .i64 fn] 54 (0,0))from Hz.out);have oM:=ł (Eh.out.later ((Mv.refl (λ_=>False) w4).drew));have c15:(w4.drew).cell? ⟨pb,po+j * 6+1,none⟩=some (.slice qa aX.length qc):=c1;have adx:pb<(w4.drew).heap.size:=hpb;generalize w4.drew=w5 at *;clear x0 x1 x2 x3 x4 x5 n0 n1 n2 n3 hxl hnl f0 f1 f2 hfl c1 hpb Hz Bj pO HP bY Eh;have U4:i<aX.length:=by omega
      obtain⟨qb2,qo,ady,vz,-,hcc⟩:=oM.out.at U4;simp only[Value.slice.injEq,true_and]at vz;obtain⟨rfl,rfl⟩:=vz;have Ac:=ł (show R=if fk=aX[i].kind/\fn=aX[i].len then 0 else 7 from by
       rw[Ea.out,show aX.getD i o9=aX[i] by simp[List.getD,U4]])
      generalize aX[i]=pr at *;obtain⟨rs,rk,rn⟩:=pr;have e0:=hcc 0 _ rfl;have e1:=hcc 1 _ rfl;have e2:=hcc 2 _ rfl;simp only[Nat.add_zero]at e0;have hqb:qb2<w5.heap.size:=World.block_lt_of_cell? w5 _ e0;obtain⟨⟨x0,x1,x2⟩,x3,x4,x5⟩:=dK Hr.out;obtain⟨f0,f1,f2⟩:=yO U3.out;have hxl:=lt_of_block Hr.out;have hfl:=lt_of_block U3.out;simp only at Ac;clear hcc;by_cases hk1:fk=rk
      · subst hk1;by_cases hk2:fn=rn
        · subst hk2;have HF:=ł (show R=0 from by rw[Ac.out];simp);go_wp2_with fail;go_ret;exact⟨cB HF.out.symm,aT.out.alloc _⟩
        · have HF:=ł (show R=7 from by rw[Ac.out];simp[hk2]);have en:(fn != rn)=true:=by simpa using hk2
          clear hk2;go_wp2_with fail;go_ret;exact⟨cB HF.out.symm,aT.out.alloc _⟩
      · have HF:=ł (show R=7 from by rw[Ac.out];simp[hk1]);have en:(fk != rk)=true:=by simpa using hk1
        clear hk1;go_wp2_with fail;go_ret;exact⟨cB HF.out.symm,aT.out.alloc _⟩
    · have eb:(((l.length:Nat):Int) != (aX.length:Nat))=true:=by simp;omega
      have HF:=ł (show R=0 from by rw[HE2.out,if_neg hq])
      go_region
      all_goals
       go_wp2_with fail;go_ret;exact⟨cB HF.out.symm,aN.out.drew⟩
attribute [local go_sem ↓] lu
def Ls (f:Int × Value × Int × ByteArray):List Value:=[.int .i64 f.1,f.2.1,.int .i64 f.2.2.1,.string f.2.2.2]
theorem QB (f:Int × Value × Int × ByteArray):(Ls f).length=4:=rfl
theorem Tryz.ZI:(Tryz.prog.info? 67).map (λi=>(i.zero,i.size,i.bytes))=some (some (.agg #[.int .i64 0,.slice none 0 0,.int .i64 0,.string ⟨#[]⟩]),4,56):=by kernel_rfl
theorem Tryz.ZJ:Elem Tryz.prog 32 67 4 56:=Elem.of Tryz.underlying32 Tryz.ZI rfl (by decide) (by decide)
theorem PV {α:Type} {f:α->List Value} {n e base:Nat} {w:World} {v:Value} {l:List α} (h:w.ownsRow base e n v l.length (flat f l)) (b:Nat) (hb:v.ownBlock=some b):base<=b:=(oW h b hb).1
def FO (wb:World) (B:Nat) (w:World) (b:Nat):Prop:=wb.heap.size<=b/\(b=B\/∃ cs z,w.heap[b]? = some (.cells cs 67 z))
abbrev dA (wb:World) (B:Nat) (w w':World):Prop:=Mv (FO wb B w) w w'
theorem dA.trans {wb w1 w2 w3:World} {B:Nat} (h:dA wb B w1 w2) (k:dA wb B w2 w3):dA wb B w1 w3:=Mv.trans h k λb hb=>by
 by_cases hlt:b<w1.heap.size
 · left;by_cases hf:FO wb B w1 b
   · exact hf
   · have he:=h.block b hlt hf;refine⟨hb.1,?_⟩;rw[← he];exact hb.2
 · exact .inr (by omega)
theorem dA.rF {wb w w':World} {B:Nat} (h:Grow w w'):dA wb B w w':=h.mono (λ_ e=>e.elim)
theorem dA._x {wb w w':World} {B:Nat} (h:Mv (λb=>b=B) w w') (hB:wb.heap.size<=B):dA wb B w w':=h.mono (λb e => .inl ⟨by omega,.inl e⟩)
theorem dA.ofRow {wb w w':World} {B:Nat} {f:(Int × Value × Int × ByteArray)->List Value} {v:Value} {l:List (Int × Value × Int × ByteArray)} (hr:w.ownsRow wb.heap.size 67 4 v l.length (flat f l)) (h:Mv (λb=>v.ownBlock=some b) w w'):dA wb B w w':=h.mono (λb e => .inl ⟨PV hr b e,.inr (oW hr b e).2⟩)
theorem dA.keep {wb w w':World} {B b:Nat} {cs cs':Array Value} {t t':TypeId} {z z':Nat × Nat} (h:dA wb B w w') (hb:w.heap[b]? = some (.cells cs t z)) (hB:w.heap[B]? = some (.cells cs' t' z')) (ht:t≠67) (BD:t≠t'):w'.heap[b]? = some (.cells cs t z):=by
 rw[h.block b (lt_of_block hb) ?_];exact hb;rintro⟨-,rfl|⟨cs2,z2,h2⟩⟩
 · rw[hb]at hB;simp only[Option.some.injEq,Obj.cells.injEq]at hB;exact BD hB.2.1
 · rw[hb]at h2;simp only[Option.some.injEq,Obj.cells.injEq]at h2;exact ht h2.2.1
structure mO (wb:World) (B:Nat) (w:World) (c:Nat):Prop where
 g:Grow wb w
 blk:∃ v l,w.heap[B]? = some (.cells #[v] 32 (0,0))/\w.ownsRow wb.heap.size 67 4 v l.length (flat Ls l)/\l.length=c
 low:wb.heap.size<=B
theorem mO.grow {wb:World} {B:Nat} {w w':World} {c:Nat} (h:mO wb B w c) (hg:Grow w w'):mO wb B w' c:=by
 obtain⟨v,l,h1,h2,h3⟩:=h.blk;exact⟨gtr h.g hg,⟨v,l,ai h1 hg,bM h2 hg (λ_ _ e=>e),h3⟩,h.low⟩
def lL (e:Int):Nat:=if e=0 then 0 else 1
def Kh (wb:World) (B:Nat) (w:World) (c:Nat) (e:Ending) (w':World):Prop:=e = .returned (.tuple #[])/\mO wb B w' c/\dA wb B w w'
theorem BM (wb:World) (B:Nat) (i:Int) (pv:Value) (path:List Int) (s:ByteArray) (e:Int) (c:Nat) (w:World) (hst:mO wb B w c) (hpt:ax 1 kW w pv path) (hpl:path.length * 8<=140737488355328) (hc:c<=900000) :
 Calls Tryz.prog 18 #[.int .i64 i,pv,.string s,.int .i64 e,.pointer (some ⟨B,0,none⟩)] w (Kh wb B w (c+lL e)):=by
 by_cases he:e=0
 · subst he
   go_enter Tryz.func18,Tryz.ntmps18
   go_wp2_with fail
   go_end0
   exact⟨rfl,hst,Mv.refl _ _⟩
 · have e1:(e != 0)=true:=by simpa using he
   have e2:lL e=1:=by simp[lL,he]
   rw[e2];obtain⟨fv,l,hbx,hrw,rfl⟩:=hst.blk;have bS:=ł hbx;have HRW:=ł hrw;have eB:=ł hst.g;have hBl:=hst.low;have rZ:=ł hpt;have HK:=ł (λ(y:World) (hy:Grow w y)=>ai bS.out hy);clear he e2 hst hpt hbx hrw
   go_enter Tryz.func18,Tryz.ntmps18
   go_upto_region 1 with fail;refine xB 8 20 [some 11,some 12,some 13,some 14,some 15,some 16,some 17,some 18] [[],[],[],[2],[],[],[1,3,4,5],[6]] [] [.c (fv),.c (.int .i64 i),.c (pv),.p (λv y=>∃ a n c,v = .slice a n c),.c (.int .i64 e),.c (.string s),.p (λv y=>∃ a n c,v = .agg #[.int .i64 i,.slice a n c,.int .i64 e,.string s]),.p (λv y=>∃ g,v = .slice (some ⟨g,0,none⟩) 1 1/\∃ a n c,y.heap[g]? = some (.cells #[.int .i64 i,.slice a n c,.int .i64 e,.string s] 67 (0,0)))] ⟨⟨(λ_ _ _ _ h=>h),λ_=>mg⟩,⟨(λ_ _ _ _ h=>h),λ_=>mg⟩,⟨(λv x y hg h=>by obtain⟨g,hv,a,n,c,hb⟩:=h;exact⟨g,hv,a,n,c,ai hb hg⟩),λ_=>mg⟩,trivial⟩ (cz rfl) ?steps ?done
   case steps =>
    refine⟨?s0,?s1,?s2,?s3,?s4,?s5,?s6,?s7,trivial⟩
    case s0 =>
     refine ok HK (λvs x hG HX hP => ?_);have c0:=cell1 HX.out;simp only[zS];go_simp;exact gc
    case s1|s2|s4|s5 =>
     refine oo (λvs x hP => ?_);simp only[zS];go_simp;exact gc
    case s3 =>
     refine ok HK (λvs x hG HX hP => ?_);have HC:=ł (Ot pv path x (rZ.out.later hG) hpl);simp only[zS];go_simp;refine(HC.out).mono ?_;rintro e y ⟨v',rfl,hr,_,hg⟩;exact⟨_,rfl,aZ hg (by obtain⟨a,c,h,_⟩:=hr;exact⟨a,_,c,h⟩)⟩
    case s6 =>
     refine oo (λvs x hP => ?_);have p3:=pq hP 3;obtain⟨a3,n3,k3,h3⟩:=p3;simp only[zS,h3];go_simp;exact gk ⟨_,_,_,rfl⟩
    case s7 =>
     refine oo (λvs x hP => ?_);have p6:=pq hP 6;obtain⟨a6,n6,k6,h6⟩:=p6;simp only[zS,h6];go_simp;exact gl ⟨_,rfl,_,_,_,heap_alloc_new x _⟩
   case done =>
   intro vs wx hE;have hG:=hE.grow;have p3:=hE.val 3;obtain⟨a3,n3,k3,h3⟩:=p3;have p6:=hE.val 6;obtain⟨a6,n6,k6,h6⟩:=p6;have p7:=hE.val 7;obtain⟨g7,h7,a7,n7,k7,b7⟩:=p7;have hrx:=bM HRW.out hG (λ_ _ e=>e);obtain⟨a',c',w2,⟨hok,hv,hw⟩,hrow,hmv,hnew⟩:=oZ Tryz.ZJ QB fv (.slice (some ⟨g7,0,none⟩) 1 1) l [(i,.slice a7 n7 k7,e,s)] wb.heap.size wx hrx (ax.bN (l:=[(i,.slice a7 n7 k7,e,s)]) QB b7 rfl (by simp)) (by simp[Ls,Value.oneCell']) (by have:=hG.size;have:=eB.out.size;omega) (by simp;omega);have hbx:=ai bS.out hG;have uY:¬ fv.ownBlock=some B:=λh=>by obtain⟨_,cs,z,h1⟩:=oW hrx B h;rw[hbx]at h1;simp at h1
   have hb2:w2.heap[B]? = some (.cells #[fv] 32 (0,0)):=by rw[hmv.block B (lt_of_block hbx) uY];exact hbx
   obtain⟨hs1,hs2⟩:=set1 hb2 (.slice a' (l.length+1) c');have c2:=cell1 hb2;have z2:=aD hb2 0;have l2:=lt_of_block hb2;have hnb:¬ (Value.slice a' (l.length+1) c').ownBlock=some B:=λh=>by obtain⟨_,cs,z,h1⟩:=oW hrow B h;rw[hb2]at h1;simp at h1
   have aQ:=ł (show mO wb B (w2.setCell ⟨B,0,none⟩ (.slice a' (l.length+1) c')) (l.length+1)from⟨jG (jG (gtr eB.out hG) hmv (λb hb=>(PV hrx b hb))) hs2 (λb e=>by omega),⟨_,l ++ [(i,.slice a7 n7 k7,e,s)],hs1,bM hrow hs2 (λg hg e=>hnb (by rw[← e];exact hg)),by simp⟩,hBl⟩);have aat:=ł (show dA wb B w (w2.setCell ⟨B,0,none⟩ (.slice a' (l.length+1) c'))from(dA.rF hG).trans ((dA.ofRow hrx hmv).trans (dA._x hs2 hBl)));simp only[List.length_cons,List.length_nil,Nat.zero_add]at hv;clear hrx hrow hmv hnew hbx hb2 hs1 hs2 uY hnb hE hG;simp only[zS,Nat.reduceAdd,h3,h6,h7,List.drop_succ_cons,List.drop_zero];go_wp2_with fail
   go_end0
   exact⟨rfl,aQ.out,aat.out⟩
end Go.Proofs.YtnobahchcongnaaGreat
