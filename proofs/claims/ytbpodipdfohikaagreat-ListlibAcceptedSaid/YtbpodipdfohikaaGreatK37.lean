import Derived.Test.YtbpodipdfohikaaGreatK36
set_option linter.unusedSimpArgs false
set_option linter.unusedVariables false
set_option maxRecDepth 100000
set_option maxHeartbeats 25600000
namespace Go.Proofs.YtbpodipdfohikaaGreat
open Go.RowKit Go.Instr
theorem aG.LZ {w0:World} {vars:List au} {vv:Value} {procs:List aN} {pv:Value} {mk mn:Int} {ms:ByteArray} {mv:Value} {ml:List ae} {fuel k:Nat} {w:World} {x:aM} {s:ai} (h:aG w0 ⟨vars,vv,procs,pv,.mk mk mn ms mv ml⟩ fuel k w x s) :
 ((w.cell? ⟨x.R,0,none⟩=some vv/\w.cell? ⟨x.R,1,none⟩=some pv)/\(w.cell? ⟨x.R,2,none⟩=some (.int .u8 mk)/\w.cell? ⟨x.R,3,none⟩=some (.int .i64 mn))/\w.cell? ⟨x.R,4,none⟩=some (.string ms)/\w.cell? ⟨x.R,5,none⟩=some mv)/\x.R<w.heap.size:=by
 have hr:=h.run
 simp only[aB.cells,ae.cells]at hr
 exact⟨by simp[World.cell?,hr],lt_of_block hr⟩
set_option maxRecDepth 100000 in
set_option maxHeartbeats 12800000 in
theorem VU {w0:World} {p:aB} {fuel k g:Nat} (hp:jm w0 p) (hpb:∀ q∈p.procs,aL (λ_=>True) w0 q.body) (hpl:∀ q∈p.procs,q.params.length<=k) (IH:∀ g',g'<g->uY w0 p fuel k g') (w:World) (x:aM) (s:ai) (res:Except Int ai) (nk nn:Int) (ns:ByteArray) (nv:Value) (nl:List ae) (b:Bool) (hk:nk=50\/nk=51) (h:aG w0 p fuel k w x s) (hno:aL (λ_=>True) w0 (.mk nk nn ns nv nl)) (hex:exec (p.procs.map aN.d) fuel g (.stmt (ae.t (.mk nk nn ns nv nl))) b s=some res) :
 Calls Tryz.prog 122 #[.pointer (some ⟨x.R,0,none⟩),ae.val (.mk nk nn ns nv nl),.bool (b != (nk == 51))] w (dx w0 p fuel k x w res):=by
 obtain⟨x1,hr1,ho,h1⟩:=h.fresh
 rw[show x.R=x1.R from hr1.R.symm]
 refine Calls.mono ?_ (λe w' (hq:dx w0 p fuel k x1 w res e w')=>hq.of hr1)
 clear hr1 h
 revert h1 ho
 generalize x1=x
 intro ho h
 have hsh:=qy hex
 rw[ae.t]at hsh hex
 have vG:=Xb hk hsh
 rw[ae.bX]at vG
 obtain⟨g',rfl,d,vX,rf⟩:=VS hk hex
 clear hsh hex
 generalize (b != (nk == 51))=bb at *
 obtain⟨i,hi,hix,hpi⟩:=VT vX
 have hi2:i<p.procs.length:=by simpa using hi
 have hk1:=h.bd.2.2.2.2.2
 have hqm:=List.getElem_mem hi2
 have yz:=hpb _ hqm
 have yu:=hpl _ hqm
 have FV:=hp.procs.each _ hqm
 have hqc:=hp.procs.row.at hi2
 rw[List.getElem_map]at hpi
 obtain⟨vars,vv,procs,pv,⟨mk,mn,ms,mv,ml⟩⟩:=p
 simp only at hi2 hqm yz yu FV hqc hpi hpb hpl rf hix vX hi
 obtain⟨pb,po,jd,hpv,-,hqc⟩:=hqc
 subst hpv
 generalize hqq:procs[i]=qq at *
 obtain⟨qn,aT,qv,⟨bk,bn,bs,bv,bl⟩⟩:=qq
 obtain⟨qa,qc,yo,-,-⟩:=FV.params.form
 simp only at yo
 subst yo
 obtain⟨ba,bc,rfl,-,-⟩:=yz.at.form
 simp only[aN.cells,ae.cells]at hqc
 subst hpi
 have J9:=Lib.hid (λz (hz:Grow w0 z)=>And.intro (And.intro (And.intro (cZ (hqc 0 _ rfl) hz) (cZ (hqc 1 _ rfl) hz)) (And.intro (cZ (hqc 2 _ rfl) hz) (cZ (hqc 3 _ rfl) hz))) (And.intro (cZ (hqc 4 _ rfl) hz) (cZ (hqc 5 _ rfl) hz)))
 simp only[Nat.add_zero]at J9
 have IP:=Lib.hid (λz (hz:Grow w0 z)=>(Br _ ns z (hp.later hz)).mono (R':=λe w'=>e = .returned (.int .i64 (i:Nat))/\Grow z w') (λe w' hq=>by
  obtain⟨rfl,hg⟩:=hq
  exact⟨by rw[show jW.procs (aB.d ⟨vars,vv,procs,.slice (some ⟨pb,po,none⟩) procs.length jd,.mk mk mn ms mv ml⟩)=procs.map aN.d from rfl,hix],hg⟩))
 have RX:=Lib.hid (λz (hz:Grow w0 z)=>FV.params.later hz)
 have FW:=Lib.hid (And.intro hk1 yu)
 have nu:=Lib.hid (λz x' s' lZ (hz:aG w0 ⟨vars,vv,procs,.slice (some ⟨pb,po,none⟩) procs.length jd,.mk mk mn ms mv ml⟩ fuel k z x' s') (he:exec (procs.map aN.d) fuel g' (.stmts (turned bb (ae.t (.mk bk bn bs (.slice ba bl.length bc) bl)).kids)) bb s'=some lZ)=>IH g' (by omega) z x' s' lZ (.mk bk bn bs (.slice ba bl.length bc) bl) bb hz yz he)
 obtain⟨na,nc,rfl,-,-⟩:=hno.at.form
 have dC:=Lib.hid hno
 have jM:=Lib.hid h.g
 have aj:=Lib.hid (show Grow w (w.alloc (.cells #[.int .u8 nk,.int .i64 nn,.string ns,.slice na nl.length nc] 40))from(Mv.refl _ w).alloc _)
 have bf:=Lib.hid (heap_alloc_new w (.cells #[.int .u8 nk,.int .i64 nn,.string ns,.slice na nl.length nc] 40))
 have HS:=Lib.hid h
 have iE:=Lib.hid rf
 have HI:=Lib.hid hi2
 have HO:=Lib.hid ho
 have IQ:=Lib.hid vG
 clear hno rf h ho hk IH yz yu FV hqc hqm hpb hpl hp hk1 hix vX hi hi2 vG hqq
 simp only[ae.val,aB.val]at nu IP ⊢
 go_enter Tryz.func122,Tryz.ntmps122
 go_upto_region 1 with fail
 generalize (w.alloc (.cells #[.int .u8 nk,.int .i64 nn,.string ns,.slice na nl.length nc] 40))=w1 at *
 obtain⟨⟨n0,n1⟩,n2,n3⟩:=az bf.out
 have hbl:=lt_of_block bf.out
 have hmk:=Xd nl.length w1 (by have:=IQ.out;omega)
 go_wp2_with fail
 have RY:=Lib.hid (show(w1.alloc (.cells (Array.replicate nl.length (.string ⟨#[]⟩)) 9)).heap[w1.heap.size]? = some (.cells (kE nl 0) 9 (0,0))from by rw[Ud];exact heap_alloc_new _ _)
 have oH:=Lib.hid (show Grow w1 (w1.alloc (.cells (Array.replicate nl.length (.string ⟨#[]⟩)) 9))from(Mv.refl _ _).alloc _)
 clear hmk n0 n1 n2 n3 hbl
 generalize (w1.alloc (.cells (Array.replicate nl.length (.string ⟨#[]⟩)) 9))=w2 at *
 go_loopw [18] (λt wr=>∃ j:Nat,t = .int .i64 j/\j<=nl.length/\Grow w1 wr/\wr.heap[w1.heap.size]? = some (.cells (kE nl j) 9 (0,0))) (λt _=>nl.length - (intOf t).toNat)
 case atStart=>exact⟨0,rfl,Nat.zero_le _,oH.out,RY.out⟩
 obtain⟨j,rfl,hj,hgr,har⟩:=hrel
 have bQ:=Lib.hid hgr
 have A9:=Lib.hid har
 clear hgr har oH RY
 rcases Nat.lt_or_ge j nl.length with hlt|hge
 · have EX:decide ((j:Int)<nl.length)=true:=by simp;omega
   have HRW:=Lib.hid ((dC.out.up (gtr jM.out (gtr aj.out bQ.out))).at.row.2.2.2.1)
   have AB:=Lib.hid (dC.out.kids)
   obtain⟨kb,ko,cap,e,_,-⟩:=HRW.out.at hlt
   simp only[Value.slice.injEq,true_and]at e
   obtain⟨rfl,rfl⟩:=e
   obtain⟨kk,kn,ks,ka,kc,kl,hke,hcell⟩:=BA HRW.out (λy hy=>(AB.out y hy).at.later (gtr jM.out (gtr aj.out bQ.out))) hlt
   have lF:=Lib.hid hcell
   have Z0:=Lib.hid (show(kE nl j).setIfInBounds j (.string ks)=kE nl (j+1)from by have:=UZ nl j hlt;rw[hke,ae.t]at this;exact this)
   have HJ:=Lib.hid hlt
   have HK:=Lib.hid (λ(y:World) (hy:Grow wr y)=>And.intro (And.intro (cZ hcell.1.1 hy) (cZ hcell.1.2 hy)) (And.intro (cZ hcell.2.1 hy) (cZ hcell.2.2 hy)))
   clear hcell hke AB HRW hj
   go_upto_region 4 with fail
   refine CR 79 [some 20,some 21,some 22,some 8,some 7,none] [[],[],[1],[],[0],[3,2]] [] [.c (.int .i64 (j:Nat)),.c (.pointer (some ⟨kb,ko+j * 4,none⟩)),.c (.agg #[.int .u8 kk,.int .i64 kn,.string ks,.slice ka kl.length kc]),.al 5 2 #[.int .u8 0,.int .i64 0,.string ⟨#[]⟩,.slice none 0 0] 40,.c (.int .i64 (j:Nat)),.st 3] trivial (dm rfl) ?steps ?done
   case steps =>
    refine⟨?s0,?s1,?s2,?s3,?s4,?s5,trivial⟩
    case s0 =>
     refine oo (λvs x hP => ?_)
     simp only[zS]
     go_simp
     exact gc
    case s1 =>
     refine ok0 HK (λvs x hG HX hP => ?_)
     have hbd:(j:Int)<(nl.length:Nat):=by have:=HJ.out;omega
     simp only[zS]
     go_simp
     exact gc
    case s2 =>
     refine ok0 HK (λvs x hG HX hP => ?_)
     obtain⟨⟨d0,d1⟩,d2,d3⟩:=HX.out
     simp only[zS]
     go_simp
     exact gc
    case s3 =>
     refine oz (λvs x => ?_)
     simp only[zS]
     go_simp
     exact⟨rfl,rfl⟩
    case s4 =>
     refine oo (λvs x hP => ?_)
     simp only[zS]
     go_simp
     exact gc
    case s5 =>
     refine os (λvs x g hg hb hv => ?_)
     have h2:vs 2 = .agg #[.int .u8 kk,.int .i64 kn,.string ks,.slice ka kl.length kc]:=hv
     obtain⟨c0,c1,c2,c3⟩:=fV hb
     have zt:=bB hb
     simp only[zS,hg,h2]
     go_simp
     exact⟨(dH hb _ _ _ _).1,(dH hb _ _ _ _).2⟩
   case done =>
   intro vs wz hE
   have hG:=hE.zW
   obtain⟨g3,a3,l3,m3,b3⟩:=hE.box 3
   simp only[zS,Nat.reduceAdd,a3]
   have HB3:=Lib.hid b3
   have aO:=Lib.hid hG
   simp only[gJ,zS]at HB3
   clear hE hG b3 l3 m3 HK lF
   have DF:=ah A9.out aO.out
   have hsz:=Bg nl j (by have:=HJ.out;omega)
   have fU:wz.cell? ⟨w1.heap.size,j,none⟩=some ((kE nl j)[j]'(by rw[hsz];exact HJ.out)):=by
    simp only[World.cell?,DF]
    rw[Array.getElem?_eq_getElem (by rw[hsz];exact HJ.out)]
    rfl
   have hfz:=bB DF
   have hal:=lt_of_block DF
   have hbd:(j:Int)<(nl.length:Nat):=by have:=HJ.out;omega
   obtain⟨⟨n0,n1⟩,n2,n3⟩:=az HB3.out
   have hbl:=lt_of_block HB3.out
   have hb':=block_setCell (p:=⟨w1.heap.size,j,none⟩) DF rfl (.string ks)
   have hset:=Z0.out
   simp only[hset]at hb'
   have HQ:=Lib.hid (And.intro (show Grow w1 (wz.setCell ⟨w1.heap.size,j,none⟩ (.string ks))from bM (gtr bQ.out aO.out) ((Mv.refl (λb=>b=w1.heap.size) wz).setCell (p:=⟨w1.heap.size,j,none⟩) (.inl rfl) _) (λb e=>by omega)) hb')
   have hj8:j<=8:=by have:=HJ.out;have:=IQ.out;omega
   clear DF hb' hset HB3 aO
   go_wp2_with fail
   go_roundw
   case rel=>exact⟨j+1,by go_num,by have:=HJ.out;omega,HQ.out.1,HQ.out.2⟩
   case measure=>simp[intOf];have:=HJ.out;omega
 obtain rfl:j=nl.length:=by omega
 have Z4:decide ((nl.length:Int)<nl.length)=false:=by simp
 have rP:=Lib.hid (HS.out.later (gtr aj.out bQ.out))
 have ni:=Lib.hid (ah bf.out bQ.out)
 have eY:=Lib.hid (λz (hz:Grow wr z)=>IP.out z (gtr rP.out.g hz))
 have HK:=Lib.hid (λ(y:World) (hy:Grow wr y)=>And.intro (ah ni.out hy) (rP.out.later hy).LZ)
 have HW0:=Lib.hid (gtr aj.out bQ.out)
 have HW1:=Lib.hid aj.out.size
 clear hj hge IP HS jM bf
 go_upto_region 7 with fail
 refine wg 79 [some 29,some 30,some 31,some 32,some 33,some 34,some 35,some 9] [[],[0],[1],[2],[],[4],[3,5],[6]] [] [.c (.pointer (some ⟨x.R,0,none⟩)),.c (.pointer (some ⟨x.R,0,none⟩)),.c (.pointer (some ⟨x.R,0,none⟩)),.c (.agg #[vv,.slice (some ⟨pb,po,none⟩) procs.length jd,.int .u8 mk,.int .i64 mn,.string ms,mv]),.c (.pointer (some ⟨w.heap.size,2,none⟩)),.c (.string ns),.c (.int .i64 (i:Nat)),.c (.int .i64 (i:Nat))] trivial (dm rfl) ?steps ?done
 case steps =>
  refine⟨?s0,?s1,?s2,?s3,?s4,?s5,?s6,?s7,trivial⟩
  case s0 =>
   refine oo (λvs x hP => ?_)
   simp only[zS]
   go_simp
   exact gc
  case s1 =>
   refine oo (λvs x hP => ?_)
   simp only[zS]
   go_simp
   exact gc
  case s2 =>
   refine oo (λvs x hP => ?_)
   simp only[zS]
   go_simp
   exact gc
  case s3 =>
   refine ok HK (λvs x hG HX hP => ?_)
   obtain⟨⟨r0,r1⟩,⟨r2,r3⟩,r4,r5⟩:=HX.out.2.1
   have hrl:=HX.out.2.2
   simp only[zS]
   go_simp
   exact gc
  case s4 =>
   refine oo (λvs x hP => ?_)
   simp only[zS]
   go_simp
   exact gc
  case s5 =>
   refine ok HK (λvs x hG HX hP => ?_)
   obtain⟨⟨n0,n1⟩,n2,n3⟩:=az HX.out.1
   have hbl:=lt_of_block HX.out.1
   simp only[zS]
   go_simp
   exact gc
  case s6 =>
   refine ok HK (λvs x hG HX hP => ?_)
   simp only[zS]
   go_simp
   refine(eY.out x hG).mono ?_
   rintro e y ⟨rfl,hg⟩
   exact⟨_,rfl,gq hg rfl⟩
  case s7 =>
   refine oo (λvs x hP => ?_)
   simp only[zS]
   go_simp
   exact gc
 case done =>
 intro vs w5 hE
 have hG:=hE.grow
 simp only[zS,Nat.reduceAdd]
 have bG:=Lib.hid hG
 have gB:=Lib.hid (rP.out.later hG)
 have RZ:=Lib.hid (ah A9.out hG)
 have eH:=Lib.hid (ah ni.out hG)
 have Ka:=Lib.hid (gtr HW0.out hG)
 clear hE hG HK eY rP A9 ni bQ HW0 bG Z4
 have HK:=Lib.hid (λ(y:World) (hy:Grow w5 y)=>And.intro (J9.out y (gtr gB.out.g hy)) (gB.out.later hy).LZ)
 go_upto_region 8 with fail
 refine CR 79 [some 36,some 37,some 38,some 39,some 40,some 41,some 42,some 43,some 10,none] [[],[0],[1],[2],[3],[],[4,5],[6],[],[8,7]] [] [.c (.pointer (some ⟨x.R,0,none⟩)),.c (.pointer (some ⟨x.R,0,none⟩)),.c (.pointer (some ⟨x.R,0,none⟩)),.c (.pointer (some ⟨x.R,1,none⟩)),.c (.slice (some ⟨pb,po,none⟩) procs.length jd),.c (.int .i64 (i:Nat)),.c (.pointer (some ⟨pb,po+i * 6,none⟩)),.c (.agg #[.string qn,.slice qa aT.length qc,.int .u8 bk,.int .i64 bn,.string bs,.slice ba bl.length bc]),.al 9 7 #[.string ⟨#[]⟩,.slice none 0 0,.int .u8 0,.int .i64 0,.string ⟨#[]⟩,.slice none 0 0] 48,.st 8] trivial (dm rfl) ?steps ?done
 case steps =>
  refine⟨?s0,?s1,?s2,?s3,?s4,?s5,?s6,?s7,?s8,?s9,trivial⟩
  case s0 =>
   refine oo (λvs x hP => ?_)
   simp only[zS]
   go_simp
   exact gc
  case s1 =>
   refine oo (λvs x hP => ?_)
   simp only[zS]
   go_simp
   exact gc
  case s2 =>
   refine oo (λvs x hP => ?_)
   simp only[zS]
   go_simp
   exact gc
  case s3 =>
   refine oo (λvs x hP => ?_)
   simp only[zS]
   go_simp
   exact gc
  case s4 =>
   refine ok0 HK (λvs x hG HX hP => ?_)
   obtain⟨⟨r0,r1⟩,⟨r2,r3⟩,r4,r5⟩:=HX.out.2.1
   have hrl:=HX.out.2.2
   simp only[zS]
   go_simp
   exact gc
  case s5 =>
   refine oo (λvs x hP => ?_)
   simp only[zS]
   go_simp
   exact gc
  case s6 =>
   refine ok0 HK (λvs x hG HX hP => ?_)
   have hbd:(i:Int)<(procs.length:Nat):=by have:=HI.out;omega
   simp only[zS]
   go_simp
   exact gc
  case s7 =>
   refine ok0 HK (λvs x hG HX hP => ?_)
   obtain⟨⟨⟨q0,q1⟩,q2,q3⟩,q4,q5⟩:=HX.out.1
   simp only[zS]
   go_simp
   exact gc
  case s8 =>
   refine oz (λvs x => ?_)
   simp only[zS]
   go_simp
   exact⟨rfl,rfl⟩
  case s9 =>
   refine os (λvs x g hg hb hv => ?_)
   have h7:vs 7 = .agg #[.string qn,.slice qa aT.length qc,.int .u8 bk,.int .i64 bn,.string bs,.slice ba bl.length bc]:=hv
   obtain⟨⟨c0,c1,c2⟩,c3,c4,c5⟩:=bI hb
   have zt:=bB hb
   simp only[zS,hg,h7]
   go_simp
   exact⟨(Ch hb _ _ _ _ _ _).1,(Ch hb _ _ _ _ _ _).2⟩
 case done =>
 intro vs w6 hE
 have hG:=hE.zW
 obtain⟨g8,a8,l8,m8,b8⟩:=hE.box 8
 simp only[zS,Nat.reduceAdd,a8]
 have wJ:=Lib.hid b8
 simp only[gJ,zS]at wJ
 have ji:=Lib.hid (gB.out.later hG)
 have Kb:=Lib.hid (ah RZ.out hG)
 have Bb:=Lib.hid (gtr Ka.out hG)
 have DI:=Lib.hid (And.intro (HO.out g8 (Nat.le_trans Ka.out.size l8)) (HO.out w1.heap.size HW1.out))
 clear hE hG b8 l8 m8 HK gB RZ eH Ka J9
 have dD:=Lib.hid (uS w0 ⟨vars,vv,procs,.slice (some ⟨pb,po,none⟩) procs.length jd,.mk mk mn ms mv ml⟩ fuel k w6 x s ji.out)
 obtain⟨hbad,hok⟩:=oP iE.out
 have HBAD:=Lib.hid hbad
 have bJ:=Lib.hid hok
 clear hbad hok iE
 go_wp2_with fail
 refine dD.out.mono ?_
 clear dD
 intro e w4 hq
 cases hs1:s.step fuel with
 |error n =>
  rw[hs1]at hq
  have hre:=HBAD.out n hs1
  obtain⟨⟨rfl,hn0⟩,hg⟩:=hq
  refine⟨rfl,?_⟩
  rw[hre]
  exact⟨⟨rfl,hn0⟩,(by first|exact hg|exact .of (ax.grow aj.out) hg|exact .of (ax.grow HG2.out) hg|exact .of (ax.grow aA.out) hg|exact .of (ax.grow bA.out) hg|exact .of (ax.grow bG.out) hg|exact .of (ax.grow aO.out) hg|exact .of (ax.grow Bb.out) hg|exact .of iV.out hg|exact .of fu.out hg|exact .of dA.out hg|exact .of cK.out hg|exact .of fw.out hg|exact .of HR4.out hg|exact .of HR3.out hg|exact .of HR2.out hg|exact .of HR1.out hg|exact .of HR.out hg|exact .of ((ax.grow aj.out).trans HR.out) hg)⟩
 |ok s1 =>
 rw[hs1]at hq
 have hnext:=bJ.out s1 hs1
 obtain⟨rfl,x4,hr4,mf⟩:=hq
 have dw:=Lib.hid (And.intro hr4.R hr4.S)
 have HR4:=Lib.hid ((ax.grow Bb.out).trans hr4)
 have dU:=Lib.hid mf
 have uK:=Lib.hid (And.intro (hr4.keep wJ.out DI.out.1) (hr4.o _ (lt_of_block wJ.out) DI.out.1))
 have uI:=Lib.hid (And.intro (hr4.keep Kb.out DI.out.2) (hr4.o _ (lt_of_block Kb.out) DI.out.2))
 obtain⟨hbad,hok⟩:=oP hnext
 clear HBAD bJ
 have HBAD:=Lib.hid hbad
 have bJ:=Lib.hid hok
 clear hr4 mf hnext hbad hok wJ Kb DI Bb ji hs1
 have iy:=Lib.hid (λ(y:World) (hy:y.heap[w1.heap.size]? = some (.cells (kE nl nl.length) 9 (0,0)))=>(show ay 1 pO y (.slice (some ⟨w1.heap.size,0,none⟩) nl.length nl.length) ((ae.ts nl).map Tree.name)from by
  have hle:((ae.ts nl).map Tree.name).length=nl.length:=by simp[ae.bX]
  have:=ay.dF (f:=pO) (l:=(ae.ts nl).map Tree.name) (λ_=>rfl) hy (UY nl) (by have:=IQ.out;omega)
  rwa[hle]at this))
 have iD:=Lib.hid (λy hM=>wX (w0:=w0) (X:=ErrX w0 x4 w4 res) (vok:=True) (p:=⟨vars,vv,procs,.slice (some ⟨pb,po,none⟩) procs.length jd,.mk mk mn ms mv ml⟩) (fuel:=fuel) (k:=k) (xx:=x4) (wA:=w4) (s1:=s1) (m:=0) (r2:=s1.enter aT ((ae.ts nl).map Tree.name)) y hM (λx' hr hst _=>by
  have:=Vx w0 ⟨vars,vv,procs,.slice (some ⟨pb,po,none⟩) procs.length jd,.mk mk mn ms mv ml⟩ fuel k y x' s1 (.slice qa aT.length qc) (.slice (some ⟨w1.heap.size,0,none⟩) nl.length nl.length) aT ((ae.ts nl).map Tree.name) hst (RX.out y hst.g) (iy.out y (hr.keep uI.out.1 uI.out.2)) (by have:=FW.out;omega) FW.out.2
  rw[hr.S,dw.out.2]at this
  exact this))
 have jf:=Lib.hid (λy hM=>zA (w0:=w0) (p:=⟨vars,vv,procs,.slice (some ⟨pb,po,none⟩) procs.length jd,.mk mk mn ms mv ml⟩) (fuel:=fuel) (k:=k) (xx:=x4) (wA:=w4) (s1:=s1) (vok:=True) (r2:=s1.enter aT ((ae.ts nl).map Tree.name)) (res:=res) (m:=0) (λe _ he=>HBAD.out e he) (.pointer (some ⟨x.R,0,none⟩)) y hM)
 go_upto_region 10 with fail
 refine wy (ErrX w0 x4 w4 res) 79 [some 46,some 47,some 48,some 49,some 50,some 51,some 52,some 53,some 54,some 55] [[],[],[1],[2],[3],[],[5],[],[4,6,7],[0,8]] [some (.pointer (some ⟨x.R,0,none⟩)),some (.pointer (some ⟨x.R,0,none⟩)),some (.pointer (some ⟨x.R,0,none⟩)),some (.pointer (some ⟨x.R,6,none⟩)),some (.pointer (some ⟨x.S,0,none⟩)),some (.pointer (some ⟨g8,1,none⟩)),some (.slice qa aT.length qc),some (.slice (some ⟨w1.heap.size,0,none⟩) nl.length nl.length),some (.int .i64 (kF (s1.enter aT ((ae.ts nl).map Tree.name)))),some (.tuple #[])] [8,9] (dV w0 ⟨vars,vv,procs,.slice (some ⟨pb,po,none⟩) procs.length jd,.mk mk mn ms mv ml⟩ fuel k x4 w4 s1 True (s1.enter aT ((ae.ts nl).map Tree.name)) 0) (dV.zero dU.out) ⟨?s0,?s1,?s2,?s3,?s4,?s5,?s6,?s7,?s8,?s9,trivial⟩ ?fin (λch w9 a9 ny nC=>And.intro ny (nC.run HR4.out))
 case s0 =>
  refine yc (λy => ?_)
  simp only[zS,cv,List.getD_cons_zero,List.getD_cons_succ,Option.getD_some]
  go_simp
  exact⟨rfl,rfl⟩
 case s1 =>
  refine yc (λy => ?_)
  simp only[zS,cv,List.getD_cons_zero,List.getD_cons_succ,Option.getD_some]
  go_simp
  exact⟨rfl,rfl⟩
 case s2 =>
  refine yc (λy => ?_)
  simp only[zS,cv,List.getD_cons_zero,List.getD_cons_succ,Option.getD_some]
  go_simp
  exact⟨rfl,rfl⟩
 case s3 =>
  refine yc (λy => ?_)
  simp only[zS,cv,List.getD_cons_zero,List.getD_cons_succ,Option.getD_some]
  go_simp
  exact⟨rfl,rfl⟩
 case s4 =>
  refine yl 0 (λt y ht hM => ?_)
  obtain⟨x9,aZ,bN⟩:=hM.read ht
  have c6:=bN.cells.1.1
  rw[aZ.R.trans dw.out.1,aZ.S.trans dw.out.2]at c6
  have hrl:=lt_of_block bN.run
  rw[aZ.R.trans dw.out.1]at hrl
  clear hM aZ bN
  simp only[zS,cv,List.getD_cons_zero,List.getD_cons_succ,Option.getD_some]
  go_simp
  exact⟨rfl,rfl⟩
 case s5 =>
  refine yc (λy => ?_)
  simp only[zS,cv,List.getD_cons_zero,List.getD_cons_succ,Option.getD_some]
  go_simp
  exact⟨rfl,rfl⟩
 case s6 =>
  refine yl 0 (λt y ht hM => ?_)
  obtain⟨x9,aZ,bN⟩:=hM.read ht
  obtain⟨⟨q0,q1,q2⟩,q3,q4,q5⟩:=bI (aZ.keep uK.out.1 uK.out.2)
  have yu:=lt_of_block (aZ.keep uK.out.1 uK.out.2)
  clear hM aZ bN
  simp only[zS,cv,List.getD_cons_zero,List.getD_cons_succ,Option.getD_some]
  go_simp
  exact⟨rfl,rfl⟩
 case s7 =>
  refine yc (λy => ?_)
  simp only[zS,cv,List.getD_cons_zero,List.getD_cons_succ,Option.getD_some]
  go_simp
  exact⟨rfl,rfl⟩
 case s8 =>
  refine yw 0 (λy hM => ?_)
  have HC:=Lib.hid (iD.out y hM)
  clear hM
  unfold eB
  simp only[zS,cv,List.getD_cons_zero,List.getD_cons_succ,Option.getD_some]
  go_simp
  exact iG.kM HC.out
 case s9 =>
  refine yw 1 (λy hM => ?_)
  have HC:=Lib.hid (jf.out y hM)
  clear hM
  unfold eB
  simp only[zS,cv,List.getD_cons_zero,List.getD_cons_succ,Option.getD_some]
  go_simp
  exact iG.kM HC.out
 case fin =>
 intro wf hM
 have HM:=Lib.hid hM.fin
 clear hM
 simp only[zS,Nat.reduceAdd,cv,List.getD_cons_zero,List.getD_cons_succ,Option.getD_some]
 obtain⟨-,s2,hs2,x5,fK,dP⟩:=HM.out
 have hnx:=bJ.out s2 hs2
 have gP:=Lib.hid (And.intro (fK.R.trans dw.out.1) (fK.S.trans dw.out.2))
 have fw:=Lib.hid (HR4.out.trans fK)
 have gB:=Lib.hid dP
 have yx:=Lib.hid (And.intro (fK.keep uK.out.1 uK.out.2) (fK.o _ (lt_of_block uK.out.1) uK.out.2))
 have HE:=Lib.hid (zK hnx)
 obtain⟨eg,acA,⟨hev,hil,hcap⟩,⟨ea,fU⟩,⟨hlt,hfz⟩,hup⟩:=dP.Y8 HI.out
 have lI:=Lib.hid hup
 have c9:=dP.cells.2.2
 rw[hev,gP.out.1]at c9
 have hrl:=lt_of_block dP.run
 rw[gP.out.1]at hrl
 have hbd:(i:Int)<(x5.el.length:Nat):=by omega
 clear hs2 fK dP hnx HM iD jf iy dw HR4 dU uK uI HBAD bJ RX HI hev hil hup
 generalize x5.el.length=en at *
 go_upto_region 12 with fail
 obtain⟨x6,eZ,mg⟩:=lI.out (wrap64 (ea+1))
 have iP:=Lib.hid (And.intro (eZ.R.trans gP.out.1) (eZ.S.trans gP.out.2))
 have cK:=Lib.hid (fw.out.trans eZ)
 have ji:=Lib.hid mg
 have wJ:=Lib.hid (And.intro (eZ.keep yx.out.1 yx.out.2) (eZ.o _ (lt_of_block yx.out.1) yx.out.2))
 clear eZ mg lI gP fw gB yx c9 hrl hbd hcap fU hlt hfz
 generalize (wf.setCell ⟨eg,i,none⟩ (.int .i64 (wrap64 (ea+1))))=w6 at *
 obtain⟨⟨q0,q1,q2⟩,q3,q4,q5⟩:=bI wJ.out.1
 have yu:=lt_of_block wJ.out.1
 rcases HE.out with⟨e,hx,hre⟩|⟨s3,hx,hrest⟩
 · have HST:=Lib.hid (nu.out w6 x6 s2 _ ji.out hx)
   rw[iP.out.1]at HST
   have df:=Lib.hid hre
   clear hx hre HE
   go_wp2_with fail
   refine HST.out.mono ?_
   rintro e2 w7 ⟨⟨rfl,hn0⟩,hg⟩
   refine⟨rfl,?_⟩
   rw[df.out]
   exact⟨⟨rfl,hn0⟩,(by first|exact hg|exact .of (ax.grow aj.out) hg|exact .of (ax.grow HG2.out) hg|exact .of (ax.grow aA.out) hg|exact .of (ax.grow bA.out) hg|exact .of (ax.grow bG.out) hg|exact .of (ax.grow aO.out) hg|exact .of (ax.grow Bb.out) hg|exact .of iV.out hg|exact .of fu.out hg|exact .of dA.out hg|exact .of cK.out hg|exact .of fw.out hg|exact .of HR4.out hg|exact .of HR3.out hg|exact .of HR2.out hg|exact .of HR1.out hg|exact .of HR.out hg|exact .of ((ax.grow aj.out).trans HR.out) hg)⟩
 have HST:=Lib.hid (nu.out w6 x6 s2 _ ji.out hx)
 rw[iP.out.1]at HST
 obtain⟨hbad,hok⟩:=oP hrest
 have HBAD:=Lib.hid hbad
 have bJ:=Lib.hid hok
 clear hx hrest hbad hok HE
 go_wp2_with fail
 refine HST.out.mono ?_
 rintro e2 w7 ⟨rfl,x7,fG,mh⟩
 have dD:=Lib.hid (uS w0 ⟨vars,vv,procs,.slice (some ⟨pb,po,none⟩) procs.length jd,.mk mk mn ms mv ml⟩ fuel k w7 x7 s3 mh)
 rw[fG.R,iP.out.1]at dD
 have iW:=Lib.hid (And.intro (fG.R.trans iP.out.1) (fG.S.trans iP.out.2))
 have dA:=Lib.hid (cK.out.trans fG)
 clear fG mh HST q0 q1 q2 q3 q4 q5 yu iP cK ji wJ nu
 go_wp2_with fail
 refine dD.out.mono ?_
 clear dD
 intro e w8 hq
 cases hs1:s3.step fuel with
 |error n =>
  rw[hs1]at hq
  have hre:=HBAD.out n hs1
  obtain⟨⟨rfl,hn0⟩,hg⟩:=hq
  refine⟨rfl,?_⟩
  rw[hre]
  exact⟨⟨rfl,hn0⟩,(by first|exact hg|exact .of (ax.grow aj.out) hg|exact .of (ax.grow HG2.out) hg|exact .of (ax.grow aA.out) hg|exact .of (ax.grow bA.out) hg|exact .of (ax.grow bG.out) hg|exact .of (ax.grow aO.out) hg|exact .of (ax.grow Bb.out) hg|exact .of iV.out hg|exact .of fu.out hg|exact .of dA.out hg|exact .of cK.out hg|exact .of fw.out hg|exact .of HR4.out hg|exact .of HR3.out hg|exact .of HR2.out hg|exact .of HR1.out hg|exact .of HR.out hg|exact .of ((ax.grow aj.out).trans HR.out) hg)⟩
 |ok s4 =>
 rw[hs1]at hq
 have hnext:=bJ.out s4 hs1
 obtain⟨rfl,x8,iU,nW⟩:=hq
 have FX:=Lib.hid (Vw w0 ⟨vars,vv,procs,.slice (some ⟨pb,po,none⟩) procs.length jd,.mk mk mn ms mv ml⟩ fuel k w8 x8 s4 nW)
 rw[iU.S,iW.out.2]at FX
 have fu:=Lib.hid (dA.out.trans iU)
 have c6:=nW.cells.1.1
 rw[iU.R,iU.S,iW.out.1,iW.out.2]at c6
 have hrl:=lt_of_block nW.run
 rw[iU.R,iW.out.1]at hrl
 have bT:=Lib.hid (Option.some.inj hnext)
 clear iU nW hnext HBAD bJ hs1 iW dA
 rw[bT.out]at FX
 go_wp2_with fail
 refine FX.out.mono ?_
 clear FX c6 hrl
 intro e w9 hq
 have hck:=DZ (.pointer (some ⟨x.R,0,none⟩)) (kF res) w9
 have HQ:=Lib.hid (eT.trans fu.out hq)
 cases res with
 |error n =>
  obtain⟨⟨rfl,hn0⟩,hg⟩:=hq
  simp only[kF,hn0,if_false]at hck
  go_wp2_with fail
  refine hck.mono ?_
  rintro e CG ⟨rfl,rfl⟩
  refine⟨rfl,?_⟩
  exact⟨⟨rfl,hn0⟩,(by first|exact hg|exact .of (ax.grow aj.out) hg|exact .of (ax.grow HG2.out) hg|exact .of (ax.grow aA.out) hg|exact .of (ax.grow bA.out) hg|exact .of (ax.grow bG.out) hg|exact .of (ax.grow aO.out) hg|exact .of (ax.grow Bb.out) hg|exact .of iV.out hg|exact .of fu.out hg|exact .of dA.out hg|exact .of cK.out hg|exact .of fw.out hg|exact .of HR4.out hg|exact .of HR3.out hg|exact .of HR2.out hg|exact .of HR1.out hg|exact .of HR.out hg|exact .of ((ax.grow aj.out).trans HR.out) hg)⟩
 |ok s9 =>
  obtain⟨rfl,hx⟩:=hq
  simp only[kF,if_true]at hck
  have Fb:=Lib.hid HQ.out.2
  clear hx HQ
  go_wp2_with fail
  refine hck.mono ?_
  rintro e CG ⟨rfl,rfl⟩
  go_wp2_with fail
  go_end0
  exact⟨rfl,Fb.out⟩
end Go.Proofs.YtbpodipdfohikaaGreat
