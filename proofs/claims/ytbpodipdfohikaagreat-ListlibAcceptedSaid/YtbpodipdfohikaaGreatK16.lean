import Derived.Test.YtbpodipdfohikaaGreatK15
set_option linter.unusedSimpArgs false
set_option linter.unusedVariables false
set_option maxRecDepth 100000
set_option maxHeartbeats 25600000
namespace Go.Proofs.YtbpodipdfohikaaGreat
open Go.RowKit Go.Instr
theorem Gj (P:List bC) (s:ByteArray):(ja P s = -1/\P.find? (λq=>q.name == s)=none)\/∃ j,∃ hj:j<P.length,ja P s=j/\P.find? (λq=>q.name == s)=some P[j]:=by
 cases h:P.findIdx? (λq=>q.name == s)with
 |none =>
  refine .inl ⟨by unfold ja;rw[h],List.find?_eq_none.2 λx hx => ?_⟩
  have:=List.findIdx?_eq_none_iff.1 h x hx
  simp[this]
 |some j =>
  obtain⟨hj,h1,h2⟩:=List.findIdx?_eq_some_iff_getElem.1 h
  refine .inr ⟨j,hj,by unfold ja;rw[h],?_⟩
  rw[List.find?_eq_some_iff_getElem]
  exact⟨h1,j,hj,rfl,λi hi=>by have:=h2 i hi;simpa using this⟩
def gW (P:List bC) (k:Int) (s:ByteArray) (n:Nat) (aF:List au):Int :=
 if k=2 then nT aF s 1
 else if k=3 then nT aF s 2
 else if k=4\/k=5\/k=44\/k=45 then nT aF s 3
 else if k=54\/k=55 then lN aF s
 else if k=50\/k=51 then match P.find? (λq=>q.name == s)with
  |none=>6
  |some q=>if n=q.params.length then 0 else 7
 else 0
set_option maxRecDepth 100000 in
set_option maxHeartbeats 6400000 in
theorem Vo (p:aB) (k n:Int) (s:ByteArray) (ka:Option Addr) (l:List ae) (kc:Nat) (v:Value) (aF:List au) (w:World) (hp:jm w p) (hx:bD w (.mk k n s (.slice ka l.length kc) l)) (hv:ay 3 au.cells w v aF):Calls Tryz.prog 76 #[p.val,.agg #[.int .u8 k,.int .i64 n,.string s,.slice ka l.length kc],v] w (u6 w (gW p.d.procs k s l.length aF)):=by
 obtain⟨vars,vv,procs,pv,⟨mk,mn,ms,mv,ml⟩⟩:=p
 obtain⟨⟨va,vc,rfl⟩,⟨pa,pc,rfl⟩,hm⟩:=hp.form
 obtain⟨ma,mc,rfl,-,-⟩:=hm.form
 have hpl:procs.length<=9223372036854775807:=by obtain⟨_,_,_,_,h⟩:=hp.procs.row.form;exact h
 have hll:l.length<=9223372036854775807:=by obtain⟨_,_,_,_,h⟩:=hx.form;exact h
 have HP:=Lib.hid hp
 have HV:=Lib.hid hv
 have HX:=Lib.hid (show((w.alloc (.cells #[.slice va vars.length vc,.slice pa procs.length pc,.int .u8 mk,.int .i64 mn,.string ms,.slice ma ml.length mc] 42)).alloc (.cells #[.int .u8 k,.int .i64 n,.string s,.slice ka l.length kc] 40)).heap[w.heap.size]? = some (.cells #[.slice va vars.length vc,.slice pa procs.length pc,.int .u8 mk,.int .i64 mn,.string ms,.slice ma ml.length mc] 42 (0,0))from bS (heap_alloc_new w _) _)
 have HN:=Lib.hid (show((w.alloc (.cells #[.slice va vars.length vc,.slice pa procs.length pc,.int .u8 mk,.int .i64 mn,.string ms,.slice ma ml.length mc] 42)).alloc (.cells #[.int .u8 k,.int .i64 n,.string s,.slice ka l.length kc] 40)).heap[w.heap.size+1]? = some (.cells #[.int .u8 k,.int .i64 n,.string s,.slice ka l.length kc] 40 (0,0))from by
  have:=heap_alloc_new (w.alloc (.cells #[.slice va vars.length vc,.slice pa procs.length pc,.int .u8 mk,.int .i64 mn,.string ms,.slice ma ml.length mc] 42)) (.cells #[.int .u8 k,.int .i64 n,.string s,.slice ka l.length kc] 40)
  simpa using this)
 have HG:=Lib.hid (show Grow w ((w.alloc (.cells #[.slice va vars.length vc,.slice pa procs.length pc,.int .u8 mk,.int .i64 mn,.string ms,.slice ma ml.length mc] 42)).alloc (.cells #[.int .u8 k,.int .i64 n,.string s,.slice ka l.length kc] 40))from((Mv.refl _ w).alloc _).alloc _)
 have HR:=Lib.hid (show gW (aB.d ⟨vars,.slice va vars.length vc,procs,.slice pa procs.length pc,.mk mk mn ms (.slice ma ml.length mc) ml⟩).procs k s l.length aF=gW (procs.map aN.d) k s l.length aF from rfl)
 generalize gW (aB.d ⟨vars,.slice va vars.length vc,procs,.slice pa procs.length pc,.mk mk mn ms (.slice ma ml.length mc) ml⟩).procs k s l.length aF=R at *
 clear hp hv hm hx
 simp only[aB.val]
 have hcs:k=2\/k=3\/k=4\/k=5\/k=44\/k=45\/k=54\/k=55\/k=50\/k=51\/(k≠2/\k≠3/\k≠4/\k≠5/\k≠44/\k≠45/\k≠54/\k≠55/\k≠50/\k≠51):=by omega
 obtain⟨⟨x0,x1,x2⟩,x3,x4,x5⟩:=bI HX.out
 obtain⟨⟨n0,n1⟩,n2,n3⟩:=az HN.out
 have hxl:=lt_of_block HX.out
 have hnl:=lt_of_block HN.out
 rcases hcs with hk|hk|hk|hk|hk|hk|hk|hk|hk|hk|⟨m2,m3,m4,m5,QG,QH,QJ,QK,QL,QM⟩
 · subst hk
   have HE:=Lib.hid (show R=nT aF s 1 from by rw[HR.out];simp[gW])
   go_enter Tryz.func76,Tryz.ntmps76
   go_wp2_with fail
   refine(zM _ aF s 1 _ (HV.out.later HG.out)).mono ?_
   rintro e w2 ⟨rfl,hg⟩
   have HG2:=Lib.hid (gtr HG.out hg)
   clear hg
   go_wp2_with fail
   go_ret
   exact⟨dE HE.out.symm,HG2.out⟩
 · subst hk
   have HE:=Lib.hid (show R=nT aF s 2 from by rw[HR.out];simp[gW])
   go_enter Tryz.func76,Tryz.ntmps76
   go_wp2_with fail
   refine(zM _ aF s 2 _ (HV.out.later HG.out)).mono ?_
   rintro e w2 ⟨rfl,hg⟩
   have HG2:=Lib.hid (gtr HG.out hg)
   clear hg
   go_wp2_with fail
   go_ret
   exact⟨dE HE.out.symm,HG2.out⟩
 · subst hk
   have HE:=Lib.hid (show R=nT aF s 3 from by rw[HR.out];simp[gW])
   go_enter Tryz.func76,Tryz.ntmps76
   go_wp2_with fail
   refine(zM _ aF s 3 _ (HV.out.later HG.out)).mono ?_
   rintro e w2 ⟨rfl,hg⟩
   have HG2:=Lib.hid (gtr HG.out hg)
   clear hg
   go_wp2_with fail
   go_ret
   exact⟨dE HE.out.symm,HG2.out⟩
 · subst hk
   have HE:=Lib.hid (show R=nT aF s 3 from by rw[HR.out];simp[gW])
   go_enter Tryz.func76,Tryz.ntmps76
   go_wp2_with fail
   refine(zM _ aF s 3 _ (HV.out.later HG.out)).mono ?_
   rintro e w2 ⟨rfl,hg⟩
   have HG2:=Lib.hid (gtr HG.out hg)
   clear hg
   go_wp2_with fail
   go_ret
   exact⟨dE HE.out.symm,HG2.out⟩
 · subst hk
   have HE:=Lib.hid (show R=nT aF s 3 from by rw[HR.out];simp[gW])
   go_enter Tryz.func76,Tryz.ntmps76
   go_wp2_with fail
   refine(zM _ aF s 3 _ (HV.out.later HG.out)).mono ?_
   rintro e w2 ⟨rfl,hg⟩
   have HG2:=Lib.hid (gtr HG.out hg)
   clear hg
   go_wp2_with fail
   go_ret
   exact⟨dE HE.out.symm,HG2.out⟩
 · subst hk
   have HE:=Lib.hid (show R=nT aF s 3 from by rw[HR.out];simp[gW])
   go_enter Tryz.func76,Tryz.ntmps76
   go_wp2_with fail
   refine(zM _ aF s 3 _ (HV.out.later HG.out)).mono ?_
   rintro e w2 ⟨rfl,hg⟩
   have HG2:=Lib.hid (gtr HG.out hg)
   clear hg
   go_wp2_with fail
   go_ret
   exact⟨dE HE.out.symm,HG2.out⟩
 · subst hk
   have HE:=Lib.hid (show R=lN aF s from by rw[HR.out];simp[gW])
   go_enter Tryz.func76,Tryz.ntmps76
   go_wp2_with fail
   refine(Eb _ aF s _ (HV.out.later HG.out)).mono ?_
   rintro e w2 ⟨rfl,hg⟩
   have HG2:=Lib.hid (gtr HG.out hg)
   clear hg
   go_wp2_with fail
   go_ret
   exact⟨dE HE.out.symm,HG2.out⟩
 · subst hk
   have HE:=Lib.hid (show R=lN aF s from by rw[HR.out];simp[gW])
   go_enter Tryz.func76,Tryz.ntmps76
   go_wp2_with fail
   refine(Eb _ aF s _ (HV.out.later HG.out)).mono ?_
   rintro e w2 ⟨rfl,hg⟩
   have HG2:=Lib.hid (gtr HG.out hg)
   clear hg
   go_wp2_with fail
   go_ret
   exact⟨dE HE.out.symm,HG2.out⟩
 · subst hk
   have HE:=Lib.hid (show R=match (procs.map aN.d).find? (λq=>q.name == s)with
    |none=>6
    |some q=>if l.length=q.params.length then 0 else 7 from by rw[HR.out];simp[gW])
   have dD:=Lib.hid (Br ⟨vars,.slice va vars.length vc,procs,.slice pa procs.length pc,.mk mk mn ms (.slice ma ml.length mc) ml⟩ s _ (HP.out.later HG.out))
   simp only[aB.val,aB.d]at dD
   go_enter Tryz.func76,Tryz.ntmps76
   go_wp2_with fail
   refine dD.out.mono ?_
   rintro e w2 ⟨rfl,hg⟩
   have HG2:=Lib.hid (gtr HG.out hg)
   have fo:=Lib.hid (ah HX.out hg)
   have bV:=Lib.hid (ah HN.out hg)
   clear hg dD x0 x1 x2 x3 x4 x5 n0 n1 n2 n3 hxl hnl
   rcases Gj (procs.map aN.d) s with⟨hi,hf⟩|⟨j,hj,hi,hf⟩
   · rw[hi]
     rw[hf]at HE
     clear hi hf
     go_wp2_with fail
     go_ret
     exact⟨dE HE.out.symm,HG2.out⟩
   · rw[hi]
     rw[hf]at HE
     simp only[List.length_map]at hj
     simp only[List.getElem_map]at HE
     clear hi hf
     obtain⟨pb,po,jd,hpv,-,hcc⟩:=(HP.out.procs.later HG2.out).row.at hj
     simp only[Value.slice.injEq,true_and]at hpv
     obtain⟨rfl,rfl⟩:=hpv
     have fP:=Lib.hid (HP.out.procs.each _ (List.getElem_mem hj))
     generalize procs[j]=q at *
     obtain⟨qs,aT,qv,qb⟩:=q
     obtain⟨qa,qc,rfl,-,-⟩:=fP.out.form
     have HE2:=Lib.hid (show R=if l.length=aT.length then 0 else 7 from HE.out)
     have gG:=Lib.hid (hcc 1 _ rfl)
     clear hcc HE
     have hge:decide ((j:Int)<0)=false:=by simp
     go_upto_region 19 with fail
     have HK:=Lib.hid (λ(y:World) (hy:Grow w2 y)=>And.intro (ah fo.out hy) (And.intro (ah bV.out hy) (show y.cell? ⟨pb,po+j * 6+1,none⟩=some (.slice qa aT.length qc)from by
      rw[← gG.out]
      exact World.cell?_of_block (w:=w2) (w':=y) (a:=⟨pb,po+j * 6+1,none⟩) (hy.block _ (World.block_lt_of_cell? w2 _ gG.out) (λe=>e)))))
     have Zp:=hpl
     refine wg 58 [some 47,some 48,some 49,some 50,some 51,some 52,some 53,some 54,some 55,some 56,some 57] [[],[0],[1],[],[3],[],[4,5],[6],[7],[8],[2,9]] [] [.c (.pointer (some ⟨w.heap.size+1,3,none⟩)),.c (.slice ka l.length kc),.c (.int .i64 l.length),.c (.pointer (some ⟨w.heap.size,1,none⟩)),.c (.slice (some ⟨pb,po,none⟩) procs.length pc),.c (.int .i64 j),.c (.pointer (some ⟨pb,po+j * 6,none⟩)),.c (.pointer (some ⟨pb,po+j * 6+1,none⟩)),.c (.slice qa aT.length qc),.c (.int .i64 aT.length),.c (.bool (((l.length:Nat):Int) != (aT.length:Nat)))] trivial (dm rfl) ?steps ?done
     case steps =>
      refine⟨?s0,?s1,?s2,?s3,?s4,?s5,?s6,?s7,?s8,?s9,?s10,trivial⟩
      case s0 =>
       refine oo (λvs x hP => ?_)
       simp only[zS]
       go_simp
       exact gc
      case s1 =>
       refine ok HK (λvs x hG HX hP => ?_)
       obtain⟨⟨n0,n1⟩,n2,n3⟩:=az HX.out.2.1
       simp only[zS]
       go_simp
       exact gc
      case s2 =>
       refine oo (λvs x hP => ?_)
       simp only[zS]
       go_simp
       exact gc
      case s3 =>
       refine oo (λvs x hP => ?_)
       simp only[zS]
       go_simp
       exact gc
      case s4 =>
       refine ok HK (λvs x hG HX hP => ?_)
       obtain⟨⟨x0,x1,x2⟩,x3,x4,x5⟩:=bI HX.out.1
       simp only[zS]
       go_simp
       exact gc
      case s5 =>
       refine oo (λvs x hP => ?_)
       simp only[zS]
       go_simp
       exact gc
      case s6 =>
       refine oo (λvs x hP => ?_)
       simp only[zS]
       go_simp
       exact gc
      case s7 =>
       refine oo (λvs x hP => ?_)
       simp only[zS]
       go_simp
       exact gc
      case s8 =>
       refine ok HK (λvs x hG HX hP => ?_)
       have c1:=HX.out.2.2
       simp only[zS]
       go_simp
       exact gc
      case s9 =>
       refine oo (λvs x hP => ?_)
       simp only[zS]
       go_simp
       exact gc
      case s10 =>
       refine oo (λvs x hP => ?_)
       simp only[zS]
       go_simp
       exact gc
     case done =>
     intro vs wx hE
     have hG:=hE.grow
     have aA:=Lib.hid (gtr HG2.out hG)
     clear hE hG
     simp only[zS,Nat.reduceAdd]
     by_cases hq:l.length=aT.length
     · have HF:=Lib.hid (show R=0 from by rw[HE2.out,if_pos hq])
       have eb:(((l.length:Nat):Int) != (aT.length:Nat))=false:=by simp[hq]
       clear hq
       go_wp2_with fail
       go_ret
       exact⟨dE HF.out.symm,aA.out⟩
     · have HF:=Lib.hid (show R=7 from by rw[HE2.out,if_neg hq])
       have eb:(((l.length:Nat):Int) != (aT.length:Nat))=true:=by simp;omega
       clear hq
       go_wp2_with fail
       go_ret
       exact⟨dE HF.out.symm,aA.out⟩
 · subst hk
   have HE:=Lib.hid (show R=match (procs.map aN.d).find? (λq=>q.name == s)with
    |none=>6
    |some q=>if l.length=q.params.length then 0 else 7 from by rw[HR.out];simp[gW])
   have dD:=Lib.hid (Br ⟨vars,.slice va vars.length vc,procs,.slice pa procs.length pc,.mk mk mn ms (.slice ma ml.length mc) ml⟩ s _ (HP.out.later HG.out))
   simp only[aB.val,aB.d]at dD
   go_enter Tryz.func76,Tryz.ntmps76
   go_wp2_with fail
   refine dD.out.mono ?_
   rintro e w2 ⟨rfl,hg⟩
   have HG2:=Lib.hid (gtr HG.out hg)
   have fo:=Lib.hid (ah HX.out hg)
   have bV:=Lib.hid (ah HN.out hg)
   clear hg dD x0 x1 x2 x3 x4 x5 n0 n1 n2 n3 hxl hnl
   rcases Gj (procs.map aN.d) s with⟨hi,hf⟩|⟨j,hj,hi,hf⟩
   · rw[hi]
     rw[hf]at HE
     clear hi hf
     go_wp2_with fail
     go_ret
     exact⟨dE HE.out.symm,HG2.out⟩
   · rw[hi]
     rw[hf]at HE
     simp only[List.length_map]at hj
     simp only[List.getElem_map]at HE
     clear hi hf
     obtain⟨pb,po,jd,hpv,-,hcc⟩:=(HP.out.procs.later HG2.out).row.at hj
     simp only[Value.slice.injEq,true_and]at hpv
     obtain⟨rfl,rfl⟩:=hpv
     have fP:=Lib.hid (HP.out.procs.each _ (List.getElem_mem hj))
     generalize procs[j]=q at *
     obtain⟨qs,aT,qv,qb⟩:=q
     obtain⟨qa,qc,rfl,-,-⟩:=fP.out.form
     have HE2:=Lib.hid (show R=if l.length=aT.length then 0 else 7 from HE.out)
     have gG:=Lib.hid (hcc 1 _ rfl)
     clear hcc HE
     have hge:decide ((j:Int)<0)=false:=by simp
     go_upto_region 19 with fail
     have HK:=Lib.hid (λ(y:World) (hy:Grow w2 y)=>And.intro (ah fo.out hy) (And.intro (ah bV.out hy) (show y.cell? ⟨pb,po+j * 6+1,none⟩=some (.slice qa aT.length qc)from by
      rw[← gG.out]
      exact World.cell?_of_block (w:=w2) (w':=y) (a:=⟨pb,po+j * 6+1,none⟩) (hy.block _ (World.block_lt_of_cell? w2 _ gG.out) (λe=>e)))))
     have Zp:=hpl
     refine wg 58 [some 47,some 48,some 49,some 50,some 51,some 52,some 53,some 54,some 55,some 56,some 57] [[],[0],[1],[],[3],[],[4,5],[6],[7],[8],[2,9]] [] [.c (.pointer (some ⟨w.heap.size+1,3,none⟩)),.c (.slice ka l.length kc),.c (.int .i64 l.length),.c (.pointer (some ⟨w.heap.size,1,none⟩)),.c (.slice (some ⟨pb,po,none⟩) procs.length pc),.c (.int .i64 j),.c (.pointer (some ⟨pb,po+j * 6,none⟩)),.c (.pointer (some ⟨pb,po+j * 6+1,none⟩)),.c (.slice qa aT.length qc),.c (.int .i64 aT.length),.c (.bool (((l.length:Nat):Int) != (aT.length:Nat)))] trivial (dm rfl) ?steps ?done
     case steps =>
      refine⟨?s0,?s1,?s2,?s3,?s4,?s5,?s6,?s7,?s8,?s9,?s10,trivial⟩
      case s0 =>
       refine oo (λvs x hP => ?_)
       simp only[zS]
       go_simp
       exact gc
      case s1 =>
       refine ok HK (λvs x hG HX hP => ?_)
       obtain⟨⟨n0,n1⟩,n2,n3⟩:=az HX.out.2.1
       simp only[zS]
       go_simp
       exact gc
      case s2 =>
       refine oo (λvs x hP => ?_)
       simp only[zS]
       go_simp
       exact gc
      case s3 =>
       refine oo (λvs x hP => ?_)
       simp only[zS]
       go_simp
       exact gc
      case s4 =>
       refine ok HK (λvs x hG HX hP => ?_)
       obtain⟨⟨x0,x1,x2⟩,x3,x4,x5⟩:=bI HX.out.1
       simp only[zS]
       go_simp
       exact gc
      case s5 =>
       refine oo (λvs x hP => ?_)
       simp only[zS]
       go_simp
       exact gc
      case s6 =>
       refine oo (λvs x hP => ?_)
       simp only[zS]
       go_simp
       exact gc
      case s7 =>
       refine oo (λvs x hP => ?_)
       simp only[zS]
       go_simp
       exact gc
      case s8 =>
       refine ok HK (λvs x hG HX hP => ?_)
       have c1:=HX.out.2.2
       simp only[zS]
       go_simp
       exact gc
      case s9 =>
       refine oo (λvs x hP => ?_)
       simp only[zS]
       go_simp
       exact gc
      case s10 =>
       refine oo (λvs x hP => ?_)
       simp only[zS]
       go_simp
       exact gc
     case done =>
     intro vs wx hE
     have hG:=hE.grow
     have aA:=Lib.hid (gtr HG2.out hG)
     clear hE hG
     simp only[zS,Nat.reduceAdd]
     by_cases hq:l.length=aT.length
     · have HF:=Lib.hid (show R=0 from by rw[HE2.out,if_pos hq])
       have eb:(((l.length:Nat):Int) != (aT.length:Nat))=false:=by simp[hq]
       clear hq
       go_wp2_with fail
       go_ret
       exact⟨dE HF.out.symm,aA.out⟩
     · have HF:=Lib.hid (show R=7 from by rw[HE2.out,if_neg hq])
       have eb:(((l.length:Nat):Int) != (aT.length:Nat))=true:=by simp;omega
       clear hq
       go_wp2_with fail
       go_ret
       exact⟨dE HF.out.symm,aA.out⟩
 · have HE:=Lib.hid (show R=0 from by rw[HR.out];simp[gW,m2,m3,m4,m5,QG,QH,QJ,QK,QL,QM])
   have e2:(k == 2)=false:=by simpa using m2
   have e3:(k == 3)=false:=by simpa using m3
   have e4:(k == 4)=false:=by simpa using m4
   have e5:(k == 5)=false:=by simpa using m5
   have e44:(k == 44)=false:=by simpa using QG
   have e45:(k == 45)=false:=by simpa using QH
   have e54:(k == 54)=false:=by simpa using QJ
   have e55:(k == 55)=false:=by simpa using QK
   have e50:(k == 50)=false:=by simpa using QL
   have e51:(k == 51)=false:=by simpa using QM
   go_enter Tryz.func76,Tryz.ntmps76
   go_wp2_with fail
   go_ret
   exact⟨dE HE.out.symm,HG.out⟩
theorem su {O:Nat->Prop} {w w':World} (h:Mv O w w') (n:Nat):Mv O w (w'.drewN n):=⟨h.os,h.tape,h.output,h.size,h.block⟩
def nL (P:List bC) (s:ByteArray) (n:Nat) (a:ByteArray) (i:Nat) (aF:List au):Int:=match gK aF a with
 |none=>6
 |some v=>match P.find? (λq=>q.name == s)with
  |none=>0
  |some q=>if n=q.params.length then(if v.kind=(q.params.getD i lU).kind/\v.len=(q.params.getD i lU).len then 0 else 7)else 0
set_option maxRecDepth 100000 in
set_option maxHeartbeats 6400000 in
theorem TD (p:aB) (k n:Int) (s:ByteArray) (kb ko:Nat) (l:List ae) (kc:Nat) (i:Nat) (hi:i<l.length) (v:Value) (aF:List au) (w:World) (hp:jm w p) (hx:bD w (.mk k n s (.slice (some ⟨kb,ko,none⟩) l.length kc) l)) (hv:ay 3 au.cells w v aF):Calls Tryz.prog 78 #[p.val,.agg #[.int .u8 k,.int .i64 n,.string s,.slice (some ⟨kb,ko,none⟩) l.length kc],.int .i64 i,v] w (u6 w (nL p.d.procs s l.length l[i].t.name i aF)):=by
 obtain⟨vars,vv,procs,pv,⟨mk,mn,ms,mv,ml⟩⟩:=p
 obtain⟨⟨va,vc,rfl⟩,⟨pa,pc,rfl⟩,hm⟩:=hp.form
 obtain⟨ma,mc,rfl,-,-⟩:=hm.form
 have hpl:procs.length<=9223372036854775807:=by obtain⟨_,_,_,_,h⟩:=hp.procs.row.form;exact h
 have hll:l.length<=9223372036854775807:=by obtain⟨_,_,_,_,h⟩:=hx.form;exact h
 have HP:=Lib.hid hp
 have HV:=Lib.hid hv
 have HX:=Lib.hid (show((w.alloc (.cells #[.slice va vars.length vc,.slice pa procs.length pc,.int .u8 mk,.int .i64 mn,.string ms,.slice ma ml.length mc] 42)).alloc (.cells #[.int .u8 k,.int .i64 n,.string s,.slice (some ⟨kb,ko,none⟩) l.length kc] 40)).heap[w.heap.size]? = some (.cells #[.slice va vars.length vc,.slice pa procs.length pc,.int .u8 mk,.int .i64 mn,.string ms,.slice ma ml.length mc] 42 (0,0))from bS (heap_alloc_new w _) _)
 have HN:=Lib.hid (show((w.alloc (.cells #[.slice va vars.length vc,.slice pa procs.length pc,.int .u8 mk,.int .i64 mn,.string ms,.slice ma ml.length mc] 42)).alloc (.cells #[.int .u8 k,.int .i64 n,.string s,.slice (some ⟨kb,ko,none⟩) l.length kc] 40)).heap[w.heap.size+1]? = some (.cells #[.int .u8 k,.int .i64 n,.string s,.slice (some ⟨kb,ko,none⟩) l.length kc] 40 (0,0))from by
  have:=heap_alloc_new (w.alloc (.cells #[.slice va vars.length vc,.slice pa procs.length pc,.int .u8 mk,.int .i64 mn,.string ms,.slice ma ml.length mc] 42)) (.cells #[.int .u8 k,.int .i64 n,.string s,.slice (some ⟨kb,ko,none⟩) l.length kc] 40)
  simpa using this)
 have HG:=Lib.hid (show Grow w ((w.alloc (.cells #[.slice va vars.length vc,.slice pa procs.length pc,.int .u8 mk,.int .i64 mn,.string ms,.slice ma ml.length mc] 42)).alloc (.cells #[.int .u8 k,.int .i64 n,.string s,.slice (some ⟨kb,ko,none⟩) l.length kc] 40))from((Mv.refl _ w).alloc _).alloc _)
 have fB:=(uW hx i hi).later HG.out
 have HR:=Lib.hid (show nL (aB.d ⟨vars,.slice va vars.length vc,procs,.slice pa procs.length pc,.mk mk mn ms (.slice ma ml.length mc) ml⟩).procs s l.length l[i].t.name i aF=nL (procs.map aN.d) s l.length l[i].t.name i aF from rfl)
 generalize nL (aB.d ⟨vars,.slice va vars.length vc,procs,.slice pa procs.length pc,.mk mk mn ms (.slice ma ml.length mc) ml⟩).procs s l.length l[i].t.name i aF=R at *
 generalize l[i]=y at *
 obtain⟨yk,yn,ys,yv,yl⟩:=y
 obtain⟨ya,yc,rfl,-,-⟩:=fB.at_.form
 obtain⟨⟨d0,d1⟩,d2,d3⟩:=fB.four
 have HR1:=Lib.hid (show R=nL (procs.map aN.d) s l.length ys i aF from HR.out)
 have hbl:kb<((w.alloc (.cells #[.slice va vars.length vc,.slice pa procs.length pc,.int .u8 mk,.int .i64 mn,.string ms,.slice ma ml.length mc] 42)).alloc (.cells #[.int .u8 k,.int .i64 n,.string s,.slice (some ⟨kb,ko,none⟩) l.length kc] 40)).heap.size:=World.block_lt_of_cell? _ _ d0
 have AB:=Lib.hid hx
 clear hp hv hm hx fB HR
 simp only[aB.val]
 obtain⟨⟨n0,n1⟩,n2,n3⟩:=az HN.out
 have hnl:=lt_of_block HN.out
 have QN:=Lib.hid (Em _ aF ys _ (HV.out.later HG.out))
 go_enter Tryz.func78,Tryz.ntmps78
 go_wp2_with fail
 refine QN.out.mono ?_
 rintro e w2 ⟨rfl,hg⟩
 have HG2:=Lib.hid (gtr HG.out hg)
 have fo:=Lib.hid (ah HX.out hg)
 have bV:=Lib.hid (ah HN.out hg)
 clear hg QN d0 d1 d2 d3 n0 n1 n2 n3 hbl hnl
 generalize vX:gK aF ys=fd at *
 cases fd with
 |none =>
  have HE:=Lib.hid (show R=6 from by rw[HR1.out];unfold nL;rw[vX])
  simp only[Option.getD_none,Option.isSome_none,lU]
  clear vX
  go_wp2_with fail
  go_ret
  exact⟨dE HE.out.symm,HG2.out.alloc _⟩
 |some fv =>
  obtain⟨fs,fk,fn⟩:=fv
  simp only[Option.getD_some,Option.isSome_some]
  have HE:=Lib.hid (show R=match (procs.map aN.d).find? (λq=>q.name == s)with
   |none=>0
   |some q=>if l.length=q.params.length then(if fk=(q.params.getD i lU).kind/\fn=(q.params.getD i lU).len then 0 else 7)else 0 from by rw[HR1.out];unfold nL;rw[vX])
  clear vX HR1
  have aA:=Lib.hid (show Grow w (w2.alloc (.cells #[.string fs,.int .u8 fk,.int .i64 fn] 50))from HG2.out.alloc _)
  have jN:=Lib.hid (bS fo.out (.cells #[.string fs,.int .u8 fk,.int .i64 fn] 50))
  have fQ:=Lib.hid (bS bV.out (.cells #[.string fs,.int .u8 fk,.int .i64 fn] 50))
  have Ar:=Lib.hid (heap_alloc_new w2 (.cells #[.string fs,.int .u8 fk,.int .i64 fn] 50))
  have dD:=Lib.hid (Br ⟨vars,.slice va vars.length vc,procs,.slice pa procs.length pc,.mk mk mn ms (.slice ma ml.length mc) ml⟩ s _ (HP.out.later aA.out))
  simp only[aB.val,aB.d]at dD
  obtain⟨⟨x0,x1,x2⟩,x3,x4,x5⟩:=bI fo.out
  obtain⟨⟨n0,n1⟩,n2,n3⟩:=az bV.out
  have hxl:=lt_of_block fo.out
  have hnl:=lt_of_block bV.out
  go_wp2_with fail
  generalize (w2.alloc (.cells #[.string fs,.int .u8 fk,.int .i64 fn] 50))=w3 at *
  refine dD.out.mono ?_
  rintro e w4 ⟨rfl,hg⟩
  have bA:=Lib.hid (gtr aA.out hg)
  have dw:=Lib.hid (ah jN.out hg)
  have xY:=Lib.hid (ah fQ.out hg)
  have Fg:=Lib.hid (ah Ar.out hg)
  clear hg dD x0 x1 x2 x3 x4 x5 n0 n1 n2 n3 hxl hnl jN fQ Ar fo bV
  obtain⟨⟨x0,x1,x2⟩,x3,x4,x5⟩:=bI dw.out
  obtain⟨⟨n0,n1⟩,n2,n3⟩:=az xY.out
  obtain⟨f0,f1,f2⟩:=dR Fg.out
  have hxl:=lt_of_block dw.out
  have hnl:=lt_of_block xY.out
  have hfl:=lt_of_block Fg.out
  rcases Gj (procs.map aN.d) s with⟨hj,hf⟩|⟨j,hjl,hj,hf⟩
  · rw[hj]
    rw[hf]at HE
    clear hj hf
    go_wp2_with fail
    go_region
    all_goals
     go_wp2_with fail
     go_ret
     exact⟨dE HE.out.symm,bA.out.drew⟩
  · rw[hj]
    rw[hf]at HE
    simp only[List.length_map]at hjl
    simp only[List.getElem_map]at HE
    clear hj hf
    obtain⟨pb,po,jd,hpv,-,hcc⟩:=(HP.out.procs.later bA.out).row.at hjl
    simp only[Value.slice.injEq,true_and]at hpv
    obtain⟨rfl,rfl⟩:=hpv
    have fP:=Lib.hid ((HP.out.procs.later bA.out).each _ (List.getElem_mem hjl))
    generalize procs[j]=q at *
    obtain⟨qs,aT,qv,qb⟩:=q
    obtain⟨qa,qc,rfl,-,yu⟩:=fP.out.form
    have HE2:=Lib.hid (show R=if l.length=aT.length then(if fk=(aT.getD i lU).kind/\fn=(aT.getD i lU).len then 0 else 7)else 0 from HE.out)
    have c1:=hcc 1 _ rfl
    have hpb:pb<w4.heap.size:=World.block_lt_of_cell? w4 _ c1
    have hge:decide ((j:Int)<0)=false:=by simp
    clear hcc HE
    go_wp2_with fail
    by_cases hq:l.length=aT.length
    · have eb:(((l.length:Nat):Int) != (aT.length:Nat))=false:=by simp[hq]
      have _W:=Lib.hid (show R=if fk=(aT.getD i lU).kind/\fn=(aT.getD i lU).len then 0 else 7 from by rw[HE2.out,if_pos hq])
      have Jq:=Lib.hid fP.out.params
      simp only at Jq
      go_region
      have bG:=Lib.hid (bA.out.drew)
      have gP:=Lib.hid (show(w4.drew).heap[w.heap.size]? = some (.cells #[.slice va vars.length vc,.slice (some ⟨pb,po,none⟩) procs.length pc,.int .u8 mk,.int .i64 mn,.string ms,.slice ma ml.length mc] 42 (0,0))from dw.out)
      have QO:=Lib.hid (show(w4.drew).heap[w2.heap.size]? = some (.cells #[.string fs,.int .u8 fk,.int .i64 fn] 50 (0,0))from Fg.out)
      have yx:=Lib.hid (Jq.out.later ((Mv.refl (λ_=>False) w4).drew))
      have c15:(w4.drew).cell? ⟨pb,po+j * 6+1,none⟩=some (.slice qa aT.length qc):=c1
      have ab7:pb<(w4.drew).heap.size:=hpb
      generalize w4.drew=w5 at *
      clear x0 x1 x2 x3 x4 x5 n0 n1 n2 n3 hxl hnl f0 f1 f2 hfl c1 hpb Fg dw xY HP fP Jq
      have QP:i<aT.length:=by omega
      obtain⟨_X,qo,Zq,yo,-,hcc⟩:=yx.out.at QP
      simp only[Value.slice.injEq,true_and]at yo
      obtain⟨rfl,rfl⟩:=yo
      have Fh:=Lib.hid (show R=if fk=aT[i].kind/\fn=aT[i].len then 0 else 7 from by
       rw[_W.out,show aT.getD i lU=aT[i] by simp[List.getD,QP]])
      generalize aT[i]=pr at *
      obtain⟨rs,rk,rn⟩:=pr
      have e0:=hcc 0 _ rfl
      have e1:=hcc 1 _ rfl
      have e2:=hcc 2 _ rfl
      simp only[Nat.add_zero]at e0
      have yz:_X<w5.heap.size:=World.block_lt_of_cell? w5 _ e0
      obtain⟨⟨x0,x1,x2⟩,x3,x4,x5⟩:=bI gP.out
      obtain⟨f0,f1,f2⟩:=dR QO.out
      have hxl:=lt_of_block gP.out
      have hfl:=lt_of_block QO.out
      simp only at Fh
      clear hcc
      by_cases hk1:fk=rk
      · subst hk1
        by_cases hk2:fn=rn
        · subst hk2
          have HF:=Lib.hid (show R=0 from by rw[Fh.out];simp)
          go_wp2_with fail
          go_ret
          exact⟨dE HF.out.symm,bG.out.alloc _⟩
        · have HF:=Lib.hid (show R=7 from by rw[Fh.out];simp[hk2])
          have en:(fn != rn)=true:=by simpa using hk2
          clear hk2
          go_wp2_with fail
          go_ret
          exact⟨dE HF.out.symm,bG.out.alloc _⟩
      · have HF:=Lib.hid (show R=7 from by rw[Fh.out];simp[hk1])
        have en:(fk != rk)=true:=by simpa using hk1
        clear hk1
        go_wp2_with fail
        go_ret
        exact⟨dE HF.out.symm,bG.out.alloc _⟩
    · have eb:(((l.length:Nat):Int) != (aT.length:Nat))=true:=by simp;omega
      have HF:=Lib.hid (show R=0 from by rw[HE2.out,if_neg hq])
      go_region
      all_goals
       go_wp2_with fail
       go_ret
       exact⟨dE HF.out.symm,bA.out.drew⟩
attribute [local go_sem ↓] gD
def Ah (f:Int × Value × Int × ByteArray):List Value:=[.int .i64 f.1,f.2.1,.int .i64 f.2.2.1,.string f.2.2.2]
theorem zN (f:Int × Value × Int × ByteArray):(Ah f).length=4:=rfl
theorem Tryz.XJ:(Tryz.prog.info? 86).map (λi=>(i.zero,i.size,i.bytes))=some (some (.agg #[.int .i64 0,.slice none 0 0,.int .i64 0,.string ⟨#[]⟩]),4,56):=by kernel_rfl
theorem Tryz.XK:Elem Tryz.prog 66 86 4 56:=Elem.of Tryz.underlying66 Tryz.XJ rfl (by decide) (by decide)
theorem Bw {α:Type} {f:α->List Value} {n e base:Nat} {w:World} {v:Value} {l:List α} (h:w.ownsRow base e n v l.length (flat f l)) (b:Nat) (hb:v.ownBlock=some b):base<=b:=(bP h b hb).1
def FO (wb:World) (B:Nat) (w:World) (b:Nat):Prop:=wb.heap.size<=b/\(b=B\/∃ cs z,w.heap[b]? = some (.cells cs 86 z))
abbrev cB (wb:World) (B:Nat) (w w':World):Prop:=Mv (FO wb B w) w w'
theorem cB.trans {wb w1 w2 w3:World} {B:Nat} (h:cB wb B w1 w2) (k:cB wb B w2 w3):cB wb B w1 w3:=Mv.trans h k λb hb=>by
 by_cases hlt:b<w1.heap.size
 · left
   by_cases hf:FO wb B w1 b
   · exact hf
   · have he:=h.block b hlt hf
     refine⟨hb.1,?_⟩
     rw[← he]
     exact hb.2
 · exact .inr (by omega)
theorem cB.nH {wb w w':World} {B:Nat} (h:Grow w w'):cB wb B w w':=h.mono (λ_ e=>e.elim)
theorem cB.Y0 {wb w w':World} {B:Nat} (h:Mv (λb=>b=B) w w') (hB:wb.heap.size<=B):cB wb B w w':=h.mono (λb e => .inl ⟨by omega,.inl e⟩)
theorem cB.ofRow {wb w w':World} {B:Nat} {f:(Int × Value × Int × ByteArray)->List Value} {v:Value} {l:List (Int × Value × Int × ByteArray)} (hr:w.ownsRow wb.heap.size 86 4 v l.length (flat f l)) (h:Mv (λb=>v.ownBlock=some b) w w'):cB wb B w w':=h.mono (λb e => .inl ⟨Bw hr b e,.inr (bP hr b e).2⟩)
theorem cB.keep {wb w w':World} {B b:Nat} {cs cs':Array Value} {t t':TypeId} {z z':Nat × Nat} (h:cB wb B w w') (hb:w.heap[b]? = some (.cells cs t z)) (hB:w.heap[B]? = some (.cells cs' t' z')) (ht:t≠86) (AJ:t≠t'):w'.heap[b]? = some (.cells cs t z):=by
 rw[h.block b (lt_of_block hb) ?_];exact hb
 rintro⟨-,rfl|⟨cs2,z2,h2⟩⟩
 · rw[hb]at hB;simp only[Option.some.injEq,Obj.cells.injEq]at hB;exact AJ hB.2.1
 · rw[hb]at h2;simp only[Option.some.injEq,Obj.cells.injEq]at h2;exact ht h2.2.1
structure jO (wb:World) (B:Nat) (w:World) (c:Nat):Prop where
 g:Grow wb w
 blk:∃ v l,w.heap[B]? = some (.cells #[v] 66 (0,0))/\w.ownsRow wb.heap.size 86 4 v l.length (flat Ah l)/\l.length=c
 low:wb.heap.size<=B
theorem jO.grow {wb:World} {B:Nat} {w w':World} {c:Nat} (h:jO wb B w c) (hg:Grow w w'):jO wb B w' c:=by
 obtain⟨v,l,h1,h2,h3⟩:=h.blk
 exact⟨gtr h.g hg,⟨v,l,ah h1 hg,bu h2 hg (λ_ _ e=>e),h3⟩,h.low⟩
def kI (e:Int):Nat:=if e=0 then 0 else 1
def Hg (wb:World) (B:Nat) (w:World) (c:Nat) (e:Ending) (w':World):Prop:=e = .returned (.tuple #[])/\jO wb B w' c/\cB wb B w w'
set_option maxRecDepth 100000 in
set_option maxHeartbeats 6400000 in
theorem Bl (wb:World) (B:Nat) (i:Int) (pv:Value) (path:List Int) (s:ByteArray) (e:Int) (c:Nat) (w:World) (hst:jO wb B w c) (hpt:ay 1 aU w pv path) (hpl:path.length * 8<=140737488355328) (hc:c<=900000) :
 Calls Tryz.prog 50 #[.int .i64 i,pv,.string s,.int .i64 e,.pointer (some ⟨B,0,none⟩)] w (Hg wb B w (c+kI e)):=by
 by_cases he:e=0
 · subst he
   go_enter Tryz.func50,Tryz.ntmps50
   go_wp2_with fail
   go_end0
   exact⟨rfl,hst,Mv.refl _ _⟩
 · have e1:(e != 0)=true:=by simpa using he
   have e2:kI e=1:=by simp[kI,he]
   rw[e2]
   obtain⟨fv,l,hbx,hrw,rfl⟩:=hst.blk
   have dZ:=Lib.hid hbx
   have HRW:=Lib.hid hrw
   have oH:=Lib.hid hst.g
   have hBl:=hst.low
   have vW:=Lib.hid hpt
   have HK:=Lib.hid (λ(y:World) (hy:Grow w y)=>ah dZ.out hy)
   clear he e2 hst hpt hbx hrw
   go_enter Tryz.func50,Tryz.ntmps50
   go_upto_region 1 with fail
   refine kK 8 20 [some 11,some 12,some 13,some 14,some 15,some 16,some 17,some 18] [[],[],[],[2],[],[],[1,3,4,5],[6]] [] [.c (fv),.c (.int .i64 i),.c (pv),.p (λv y=>∃ a n c,v = .slice a n c),.c (.int .i64 e),.c (.string s),.p (λv y=>∃ a n c,v = .agg #[.int .i64 i,.slice a n c,.int .i64 e,.string s]),.p (λv y=>∃ g,v = .slice (some ⟨g,0,none⟩) 1 1/\∃ a n c,y.heap[g]? = some (.cells #[.int .i64 i,.slice a n c,.int .i64 e,.string s] 86 (0,0)))] ⟨⟨(λ_ _ _ _ h=>h),λ_=>bg⟩,⟨(λ_ _ _ _ h=>h),λ_=>bg⟩,⟨(λv x y hg h=>by obtain⟨g,hv,a,n,c,hb⟩:=h;exact⟨g,hv,a,n,c,ah hb hg⟩),λ_=>bg⟩,trivial⟩ (dm rfl) ?steps ?done
   case steps =>
    refine⟨?s0,?s1,?s2,?s3,?s4,?s5,?s6,?s7,trivial⟩
    case s0 =>
     refine ok HK (λvs x hG HX hP => ?_)
     have c0:=cell1 HX.out
     simp only[zS]
     go_simp
     exact gc
    case s1 =>
     refine oo (λvs x hP => ?_)
     simp only[zS]
     go_simp
     exact gc
    case s2 =>
     refine oo (λvs x hP => ?_)
     simp only[zS]
     go_simp
     exact gc
    case s3 =>
     refine ok HK (λvs x hG HX hP => ?_)
     have HC:=Lib.hid (Gr pv path x (vW.out.later hG) hpl)
     simp only[zS]
     go_simp
     refine(HC.out).mono ?_
     rintro e y ⟨v',rfl,hr,_,hg⟩
     exact⟨_,rfl,EM hg (by obtain⟨a,c,h,_⟩:=hr;exact⟨a,_,c,h⟩)⟩
    case s4 =>
     refine oo (λvs x hP => ?_)
     simp only[zS]
     go_simp
     exact gc
    case s5 =>
     refine oo (λvs x hP => ?_)
     simp only[zS]
     go_simp
     exact gc
    case s6 =>
     refine oo (λvs x hP => ?_)
     have p3:=pq hP 3
     obtain⟨a3,n3,k3,h3⟩:=p3
     simp only[zS,h3]
     go_simp
     exact gk ⟨_,_,_,rfl⟩
    case s7 =>
     refine oo (λvs x hP => ?_)
     have p6:=pq hP 6
     obtain⟨a6,n6,k6,h6⟩:=p6
     simp only[zS,h6]
     go_simp
     exact gl ⟨_,rfl,_,_,_,heap_alloc_new x _⟩
   case done =>
   intro vs wx hE
   have hG:=hE.grow
   have p3:=hE.val 3
   obtain⟨a3,n3,k3,h3⟩:=p3
   have p6:=hE.val 6
   obtain⟨a6,n6,k6,h6⟩:=p6
   have p7:=hE.val 7
   obtain⟨g7,h7,a7,n7,k7,b7⟩:=p7
   have hrx:=bu HRW.out hG (λ_ _ e=>e)
   obtain⟨a',c',w2,⟨hok,hv,hw⟩,hrow,hmv,hnew⟩:=kz Tryz.XK zN fv (.slice (some ⟨g7,0,none⟩) 1 1) l [(i,.slice a7 n7 k7,e,s)] wb.heap.size wx hrx (ay.dF (l:=[(i,.slice a7 n7 k7,e,s)]) zN b7 rfl (by simp)) (by simp[Ah,Value.oneCell']) (by have:=hG.size;have:=oH.out.size;omega) (by simp;omega)
   have hbx:=ah dZ.out hG
   have CX:¬ fv.ownBlock=some B:=λh=>by obtain⟨_,cs,z,h1⟩:=bP hrx B h;rw[hbx]at h1;simp at h1
   have hb2:w2.heap[B]? = some (.cells #[fv] 66 (0,0)):=by rw[hmv.block B (lt_of_block hbx) CX];exact hbx
   obtain⟨hs1,hs2⟩:=set1 hb2 (.slice a' (l.length+1) c')
   have c2:=cell1 hb2
   have z2:=bB hb2 0
   have l2:=lt_of_block hb2
   have hnb:¬ (Value.slice a' (l.length+1) c').ownBlock=some B:=λh=>by obtain⟨_,cs,z,h1⟩:=bP hrow B h;rw[hb2]at h1;simp at h1
   have jZ:=Lib.hid (show jO wb B (w2.setCell ⟨B,0,none⟩ (.slice a' (l.length+1) c')) (l.length+1)from⟨bM (bM (gtr oH.out hG) hmv (λb hb=>(Bw hrx b hb))) hs2 (λb e=>by omega),⟨_,l ++ [(i,.slice a7 n7 k7,e,s)],hs1,bu hrow hs2 (λg hg e=>hnb (by rw[← e];exact hg)),by simp⟩,hBl⟩)
   have Zr:=Lib.hid (show cB wb B w (w2.setCell ⟨B,0,none⟩ (.slice a' (l.length+1) c'))from(cB.nH hG).trans ((cB.ofRow hrx hmv).trans (cB.Y0 hs2 hBl)))
   simp only[List.length_cons,List.length_nil,Nat.zero_add]at hv
   clear hrx hrow hmv hnew hbx hb2 hs1 hs2 CX hnb hE hG
   simp only[zS,Nat.reduceAdd,h3,h6,h7,List.drop_succ_cons,List.drop_zero]
   go_wp2_with fail
   go_end0
   exact⟨rfl,jZ.out,Zr.out⟩
end Go.Proofs.YtbpodipdfohikaaGreat
