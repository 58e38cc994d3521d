import Derived.Test.YtbpodipdfohikaaGreatK35
import Derived.Deep.LoopGhost
set_option linter.unusedSimpArgs false
set_option linter.unusedVariables false
set_option maxRecDepth 100000
set_option maxHeartbeats 25600000
namespace Go.Proofs.YtbpodipdfohikaaGreat
open Go.RowKit Go.Instr
theorem UX {k nn:Int} {ns:ByteArray} {nl:List ae} (hk:k=53) (h:aW (.mk k nn ns (ae.ts nl))=true):∃ f c d z,nl=[f,c,d,z]:=by
 subst hk
 rw[aW]at h
 match nl with
 | []=>simp[ae.ts,aY]at h
 | [_]=>simp[ae.ts,aY]at h
 | [_,_]=>simp[ae.ts,aY]at h
 | [_,_,_]=>simp[ae.ts,aY]at h
 | [f,c,d,z]=>exact⟨f,c,d,z,rfl⟩
 |_ :: _ :: _ :: _ :: _ :: _=>simp[ae.ts,aY]at h
theorem VQ {P:List bC} {fuel g:Nat} {nn:Int} {ns:ByteArray} {f c d z:Tree} {b:Bool} {s:ai} {res:Except Int ai} (h:exec P fuel g (.stmt (.mk 53 nn ns [f,c,d,z])) b s=some res):∃ g',g=g'+1 /\
 aI (s.holds fuel (if b then z else f)) (λx=>if x.1=true then exec P fuel g' (.round (.mk 53 nn ns [f,c,d,z])) b x.2 else some (.error 15))=some res:=by
 cases g with
 |zero=>cases h
 |succ g =>
  refine⟨g,rfl,?_⟩
  have he:=qy h
  rw[exec,if_neg (by rw[he];decide),if_pos (show Tree.kind (.mk 53 nn ns [f,c,d,z])=53 from rfl)]at h
  cases b <;> exact h
theorem Xa {P:List bC} {fuel g:Nat} {nn:Int} {ns:ByteArray} {f c d z:Tree} {b:Bool} {s:ai} {res:Except Int ai} (h:exec P fuel g (.round (.mk 53 nn ns [f,c,d,z])) b s=some res):∃ g',g=g'+1 /\
 aI (exec P fuel g' (.stmts (turned b c.kids)) b s) (λs=>aI (s.holds fuel (if b then f else z)) λx=>if x.1=true then some (.ok x.2)else aI (exec P fuel g' (.stmts (turned b d.kids)) b x.2) λs=>aI (s.holds fuel (if b then z else f)) λy=>if y.1=true then some (.error 15)else exec P fuel g' (.round (.mk 53 nn ns [f,c,d,z])) b y.2)=some res:=by
 cases g with
 |zero=>cases h
 |succ g =>
  refine⟨g,rfl,?_⟩
  rw[exec]at h
  cases b <;> exact h
theorem Gl {s:ai} {fuel:Nat} {t:Tree} {H:Bool × ai->Option (Except Int ai)} {res:Except Int ai} (h:aI (s.holds fuel t) H=some res):∃ rr,s.holds fuel t=some rr/\(∀ e,rr = .error e->res = .error e)/\∀ x,rr = .ok x->H x=some res:=by
 cases hv:s.holds fuel t with
 |none=>rw[hv]at h;cases h
 |some rr =>
  rw[hv]at h
  refine⟨rr,rfl,λe he => ?_,λv he => ?_⟩
  · subst he;exact(Option.some.inj h).symm
  · subst he;exact h
theorem Tw {s:ai} {fuel:Nat} {t:Tree} {H:ai->Option (Except Int ai)} {res:Except Int ai} (h:aI (s.holds fuel t) (λx=>if x.1=true then H x.2 else some (.error 15))=some res):∃ rr,s.holds fuel t=some rr/\(∀ e,sJ true rr = .error e->res = .error e)/\∀ s1,sJ true rr = .ok s1->H s1=some res:=by
 obtain⟨rr,h1,h2,h3⟩:=Gl h
 refine⟨rr,h1,?_,?_⟩
 · rcases rr with e|⟨b,s1⟩
   · exact λe' he=>h2 e' (by cases he;rfl)
   · cases b
     · intro e he
       have:=h3 _ rfl
       simp only[Bool.false_eq_true,if_false,Option.some.injEq]at this
       rw[← this];exact he
     · intro e he;cases he
 · rcases rr with e|⟨b,s1⟩
   · intro s2 he;cases he
   · cases b
     · intro s2 he;cases he
     · intro s2 he
       cases he
       exact h3 _ rfl
theorem Tx {s:ai} {fuel:Nat} {t:Tree} {H:ai->Option (Except Int ai)} {res:Except Int ai} (h:aI (s.holds fuel t) (λx=>if x.1=true then some (.error 15)else H x.2)=some res):∃ rr,s.holds fuel t=some rr/\(∀ e,sJ false rr = .error e->res = .error e)/\∀ s1,sJ false rr = .ok s1->H s1=some res:=by
 obtain⟨rr,h1,h2,h3⟩:=Gl h
 refine⟨rr,h1,?_,?_⟩
 · rcases rr with e|⟨b,s1⟩
   · exact λe' he=>h2 e' (by cases he;rfl)
   · cases b
     · intro e he;cases he
     · intro e he
       have:=h3 _ rfl
       simp only[if_true,Option.some.injEq]at this
       rw[← this];exact he
 · rcases rr with e|⟨b,s1⟩
   · intro s2 he;cases he
   · cases b
     · intro s2 he
       cases he
       exact h3 _ rfl
     · intro s2 he;cases he
set_option maxRecDepth 100000 in
set_option maxHeartbeats 12800000 in
theorem VR {w0:World} {p:aB} {fuel k g:Nat} (IH:∀ g',g'<g->uY w0 p fuel k g') (w:World) (x:aM) (s:ai) (res:Except Int ai) (nk nn:Int) (ns:ByteArray) (nv:Value) (nl:List ae) (b:Bool) (hk:nk=53) (h:aG w0 p fuel k w x s) (hno:aL (λ_=>True) w0 (.mk nk nn ns nv nl)) (hex:exec (p.procs.map aN.d) fuel g (.stmt (ae.t (.mk nk nn ns nv nl))) b s=some res) :
 Calls Tryz.prog 116 #[.pointer (some ⟨x.R,0,none⟩),ae.val (.mk nk nn ns nv nl),.bool b] w (dx w0 p fuel k x w res):=by
 subst hk
 obtain⟨x1,hr1,ho,h1⟩:=h.fresh
 rw[show x.R=x1.R from hr1.R.symm]
 refine Calls.mono ?_ (λe w' (hq:dx w0 p fuel k x1 w res e w')=>hq.of hr1)
 clear hr1 h
 revert h1 ho
 generalize x1=x
 intro ho h
 have hsh:=qy hex
 rw[ae.t]at hsh
 obtain⟨nf,nq,nd,nz,rfl⟩:=UX rfl hsh
 rw[ae.t,ae.ts,ae.ts,ae.ts,ae.ts,ae.ts]at hex
 obtain⟨g',rfl,rf⟩:=VQ hex
 clear hsh hex
 revert rf
 intro hex
 have iO:=hno.kids nf (by simp)
 have hkq:=hno.kids nq (by simp)
 have hkd:=hno.kids nd (by simp)
 have hkz:=hno.kids nz (by simp)
 have xO:=Lib.hid (λz (hz:Grow w0 z)=>(MC z (.mk 53 nn ns nv [nf,nq,nd,nz]) 53 nn ns nv [nf,nq,nd,nz] rfl (hno.at.later hz) (by simp) b).mono (R':=λe w'=>e = .returned (.tuple #[(if b then nz else nf).val,(if b then nf else nz).val])/\Grow z w') (λe w' hq=>by
  obtain⟨a,c,⟨e1,e2⟩,rfl,hg⟩:=hq
  simp only[List.getElem?_cons_zero,List.length_cons,List.length_nil,Option.some.injEq]at e1 e2
  simp only[Nat.zero_add,Nat.reduceAdd,Nat.add_one_sub_one,List.getElem?_cons_succ,List.getElem?_cons_zero,Option.some.injEq]at e2
  subst e1 e2
  exact⟨rfl,hg⟩))
 obtain⟨nA,hA⟩:∃ n:ae,n=if b then nz else nf:=⟨_,rfl⟩
 obtain⟨nZ,hZ⟩:∃ n:ae,n=if b then nf else nz:=⟨_,rfl⟩
 have wH:aL (λ_=>True) w0 nA:=by rw[hA];cases b <;> assumption
 have y8:aL (λ_=>True) w0 nZ:=by rw[hZ];cases b <;> assumption
 have tA:(if b then nz.t else nf.t)=nA.t:=by rw[hA];cases b <;> rfl
 have tZ:(if b then nf.t else nz.t)=nZ.t:=by rw[hZ];cases b <;> rfl
 rw[← hA,← hZ]at xO
 have RN:=Lib.hid (λ(gg:Nat) (s':ai) (hh:exec (p.procs.map aN.d) fuel gg (.round (.mk 53 nn ns [nf.t,nq.t,nd.t,nz.t])) b s'=some res)=>Xa hh)
 rw[tA]at hex
 simp only[tA,tZ]at RN
 generalize hRT:Tree.mk 53 nn ns [nf.t,nq.t,nd.t,nz.t]=RT at *
 have hrow:=hno.at.row.2.2.2.1
 obtain⟨na,nc,rfl,-,-⟩:=hno.at.form
 obtain⟨FP,FQ,abH,Pg,_,vH⟩:=hrow.at (i:=1) (by simp)
 obtain⟨qk,qn,qs,qv,ql⟩:=nq
 obtain⟨qa,qc,rfl,-,-⟩:=hkq.at.form
 have q0:=vH 0 (.int .u8 qk) (by rfl)
 have q1:=vH 1 (.int .i64 qn) (by rfl)
 have q2:=vH 2 (.string qs) (by rfl)
 have q3:=vH 3 (.slice qa ql.length qc) (by rfl)
 obtain⟨kb2,ko2,abI,IL,_,Al⟩:=hrow.at (i:=2) (by simp)
 obtain⟨dk,dn,ds,dv,dl⟩:=nd
 obtain⟨da,dc,rfl,-,-⟩:=hkd.at.form
 have d0:=Al 0 (.int .u8 dk) (by rfl)
 have d1:=Al 1 (.int .i64 dn) (by rfl)
 have d2:=Al 2 (.string ds) (by rfl)
 have d3:=Al 3 (.slice da dl.length dc) (by rfl)
 simp only[Value.slice.injEq,true_and]at Pg IL
 obtain⟨rfl,rfl⟩:=Pg
 simp only[Option.some.injEq,Addr.mk.injEq,and_true]at IL
 obtain⟨⟨rfl,rfl⟩,-⟩:=IL
 simp only[Nat.add_zero,Nat.one_mul,Nat.reduceMul]at q0 q1 q2 q3 d0 d1 d2 d3
 have HKQ:=Lib.hid (λz (hz:Grow w0 z)=>And.intro (And.intro (cZ q0 hz) (cZ q1 hz)) (And.intro (cZ q2 hz) (cZ q3 hz)))
 have iC:=Lib.hid (λz (hz:Grow w0 z)=>And.intro (And.intro (cZ d0 hz) (cZ d1 hz)) (And.intro (cZ d2 hz) (cZ d3 hz)))
 clear vH Al q0 q1 q2 q3 d0 d1 d2 d3
 have AQ:=Lib.hid (λ(g1:Nat) (h1:g1<g'+1) z x' s' lZ (hz:aG w0 p fuel k z x' s') (he:exec (p.procs.map aN.d) fuel g1 (.stmts (turned b (ae.t (.mk qk qn qs (.slice qa ql.length qc) ql)).kids)) b s'=some lZ)=>IH g1 h1 z x' s' lZ (.mk qk qn qs (.slice qa ql.length qc) ql) b hz hkq he)
 have rF:=Lib.hid (λ(g1:Nat) (h1:g1<g'+1) z x' s' lZ (hz:aG w0 p fuel k z x' s') (he:exec (p.procs.map aN.d) fuel g1 (.stmts (turned b (ae.t (.mk dk dn ds (.slice da dl.length dc) dl)).kids)) b s'=some lZ)=>IH g1 h1 z x' s' lZ (.mk dk dn ds (.slice da dl.length dc) dl) b hz hkd he)
 generalize hnl:[nf,(.mk qk qn qs (.slice qa ql.length qc) ql),(.mk dk dn ds (.slice da dl.length dc) dl),nz]=nl at *
 have CS:=Lib.hid (show nl.length=4 from by rw[← hnl];rfl)
 obtain⟨ak,an,oL,av,al⟩:=nA
 obtain⟨aa,ac,rfl,-,-⟩:=wH.at.form
 obtain⟨zk,zn,zs,zv,zl⟩:=nZ
 obtain⟨za,zc,rfl,-,-⟩:=y8.at.form
 have J5:=Lib.hid wH
 have J6:=Lib.hid y8
 have jM:=Lib.hid h.g
 have aj:=Lib.hid (show Grow w (w.alloc (.cells #[.int .u8 53,.int .i64 nn,.string ns,.slice (some ⟨FP,FQ,none⟩) nl.length nc] 40))from(Mv.refl _ w).alloc _)
 have bf:=Lib.hid (heap_alloc_new w (.cells #[.int .u8 53,.int .i64 nn,.string ns,.slice (some ⟨FP,FQ,none⟩) nl.length nc] 40))
 have HS:=Lib.hid h
 obtain⟨rr,hrr,hbad,hok⟩:=Tw (H:=λs=>exec (p.procs.map aN.d) fuel g' (.round RT) b s) hex
 have IM:=Lib.hid (λz (hz:Grow w z)=>KL w0 p fuel k z x s (.mk ak an oL (.slice aa al.length ac) al) true rr (h.later hz) (wH.up (gtr h.g hz)) hrr)
 have y9:=Lib.hid (λz (hz:Grow w z)=>xO.out z (gtr jM.out hz))
 clear hno hex h ho iO hkq hkd hkz hA hZ tA tZ wH y8 hrow IH xO hnl hRT hrr
 simp only[ae.val]at y9 AQ rF IM ⊢
 go_enter Tryz.func116,Tryz.ntmps116
 go_upto_region 1 with fail
 generalize (w.alloc (.cells #[.int .u8 53,.int .i64 nn,.string ns,.slice (some ⟨FP,FQ,none⟩) nl.length nc] 40))=w1 at *
 have HK:=Lib.hid (λ(y:World) (hy:Grow w1 y)=>ah bf.out hy)
 refine CR 37 [some 9,some 10,some 11,some 8,some 12,some 13,some 6,some 7,none,none] [[],[],[0,1],[2],[3],[3],[],[],[6,4],[7,5]] [] [.c (.agg #[.int .u8 53,.int .i64 nn,.string ns,.slice (some ⟨FP,FQ,none⟩) nl.length nc]),.c (.bool b),.c (.tuple #[.agg #[.int .u8 ak,.int .i64 an,.string oL,.slice aa al.length ac],.agg #[.int .u8 zk,.int .i64 zn,.string zs,.slice za zl.length zc]]),.c (.tuple #[.agg #[.int .u8 ak,.int .i64 an,.string oL,.slice aa al.length ac],.agg #[.int .u8 zk,.int .i64 zn,.string zs,.slice za zl.length zc]]),.c (.agg #[.int .u8 ak,.int .i64 an,.string oL,.slice aa al.length ac]),.c (.agg #[.int .u8 zk,.int .i64 zn,.string zs,.slice za zl.length zc]),.al 8 4 #[.int .u8 0,.int .i64 0,.string ⟨#[]⟩,.slice none 0 0] 40,.al 9 5 #[.int .u8 0,.int .i64 0,.string ⟨#[]⟩,.slice none 0 0] 40,.st 6,.st 7] trivial (dm rfl) ?steps ?done
 case steps =>
  refine⟨?s0,?s1,?s2,?s3,?s4,?s5,?s6,?s7,?s8,?s9,trivial⟩
  case s0 =>
   refine ok0 HK (λvs x hG HX hP => ?_)
   obtain⟨⟨n0,n1⟩,n2,n3⟩:=az HX.out
   have hbl:=lt_of_block HX.out
   simp only[zS]
   go_simp
   exact gc
  case s1 =>
   refine oo (λvs x hP => ?_)
   simp only[zS]
   go_simp
   exact gc
  case s2 =>
   refine ok0 HK (λvs x hG HX hP => ?_)
   simp only[zS]
   go_simp
   refine(y9.out x (gtr aj.out hG)).mono ?_
   rintro e y ⟨rfl,hg⟩
   exact⟨_,rfl,gq hg rfl⟩
  case s3 =>
   refine oo (λvs x hP => ?_)
   simp only[zS]
   go_simp
   exact gc
  case s4 =>
   refine oo (λvs x hP => ?_)
   simp only[zS]
   go_simp
   exact gc
  case s5 =>
   refine oo (λvs x hP => ?_)
   simp only[zS]
   go_simp
   exact gc
  case s6 =>
   refine oz (λvs x => ?_)
   simp only[zS]
   go_simp
   exact⟨rfl,rfl⟩
  case s7 =>
   refine oz (λvs x => ?_)
   simp only[zS]
   go_simp
   exact⟨rfl,rfl⟩
  case s8 =>
   refine os (λvs x g hg hb hv => ?_)
   have h4:vs 4 = .agg #[.int .u8 ak,.int .i64 an,.string oL,.slice aa al.length ac]:=hv
   obtain⟨c0,c1,c2,c3⟩:=fV hb
   have zt:=bB hb
   simp only[zS,hg,h4]
   go_simp
   exact⟨(dH hb _ _ _ _).1,(dH hb _ _ _ _).2⟩
  case s9 =>
   refine os (λvs x g hg hb hv => ?_)
   have h5:vs 5 = .agg #[.int .u8 zk,.int .i64 zn,.string zs,.slice za zl.length zc]:=hv
   obtain⟨c0,c1,c2,c3⟩:=fV hb
   have zt:=bB hb
   simp only[zS,hg,h5]
   go_simp
   exact⟨(dH hb _ _ _ _).1,(dH hb _ _ _ _).2⟩
 case done =>
 intro vs w3 hE
 have hG:=hE.zW
 obtain⟨g6,a6,l6,m6,b6⟩:=hE.box 6
 obtain⟨g7,a7,l7,m7,b7⟩:=hE.box 7
 simp only[zS,Nat.reduceAdd,a6,a7]
 have aO:=Lib.hid (gtr aj.out hG)
 have uH:=Lib.hid b6
 have HZ3:=Lib.hid b7
 have HB3:=Lib.hid (ah bf.out hG)
 clear hE hG b6 b7 l6 l7 m6 m7 HK
 simp only[gJ,zS]at uH HZ3
 have A9:=Lib.hid (IM.out w3 aO.out)
 clear y9 aj bf HS IM jM
 obtain⟨⟨n0,n1⟩,n2,n3⟩:=az uH.out
 have hbl:=lt_of_block uH.out
 have HBAD:=Lib.hid hbad
 have bJ:=Lib.hid hok
 clear hbad hok
 go_wp2_with fail
 refine A9.out.mono ?_
 clear A9 n0 n1 n2 n3 hbl
 intro e w4 hq
 cases hs1:sJ true rr with
 |error n =>
  rw[hs1]at hq
  have hre:=HBAD.out n hs1
  obtain⟨⟨rfl,hn0⟩,hg⟩:=hq
  refine⟨rfl,?_⟩
  rw[hre]
  exact⟨⟨rfl,hn0⟩,(by first|exact hg|exact .of (ax.grow aj.out) hg|exact .of (ax.grow HG2.out) hg|exact .of (ax.grow aA.out) hg|exact .of (ax.grow bA.out) hg|exact .of (ax.grow bG.out) hg|exact .of (ax.grow aO.out) hg|exact .of iV.out hg|exact .of fu.out hg|exact .of dA.out hg|exact .of cK.out hg|exact .of fw.out hg|exact .of HR4.out hg|exact .of HR3.out hg|exact .of HR2.out hg|exact .of HR1.out hg|exact .of HR.out hg|exact .of (HR4.out.trans ze.out) hg|exact .of (HR4.out.trans cK.out) hg|exact .of (HR4.out.trans dA.out) hg|exact .of (HR4.out.trans fu.out) hg)⟩
 |ok s1 =>
 rw[hs1]at hq
 have hnext:=bJ.out s1 hs1
 obtain⟨rfl,x4,hr4,mf⟩:=hq
 have HR4:=Lib.hid ((ax.grow aO.out).trans hr4)
 have ug:=Lib.hid (And.intro hr4.R hr4.S)
 have dU:=Lib.hid mf
 have dw:=Lib.hid hnext
 have uI:=Lib.hid (hr4.n _ _ _ uH.out)
 have yU:=Lib.hid (hr4.n _ _ _ HZ3.out)
 have bY:=Lib.hid (hr4.n _ _ _ HB3.out)
 clear hr4 mf hnext HBAD bJ hs1 aO uH HZ3 HB3
 go_wp2_with fail
 go_loopg [] g' (λgk wr=>∃ xi si,ax x4 xi w4 wr/\aG w0 p fuel k wr xi si/\exec (p.procs.map aN.d) fuel gk (.round RT) b si=some res/\gk<=g')
 case atStart=>exact⟨x4,s1,ax.refl _ _,dU.out,dw.out,Nat.le_refl _⟩
 obtain⟨xi,si,wG,hsi,hxi,hgi⟩:=hrel
 obtain⟨g1,hg1,hrest⟩:=RN.out _ _ hxi
 have Ba:=Lib.hid (And.intro hg1 hgi)
 have uq:=Lib.hid (And.intro ((wG.trans (ax.refl _ _)).R.trans ug.out.1) (wG.S.trans ug.out.2))
 have ze:=Lib.hid wG
 have J8:=Lib.hid hsi
 have FR:=Lib.hid (wG.n _ _ _ bY.out)
 have HE:=Lib.hid (zK hrest)
 have FT:=Lib.hid (HKQ.out wr hsi.g)
 clear wG hsi hxi hgi hg1 hrest
 obtain⟨⟨n0,n1⟩,n2,n3⟩:=az FR.out
 have hbl:=lt_of_block FR.out
 obtain⟨⟨d0,d1⟩,d2,d3⟩:=FT.out
 have hkl:=World.block_lt_of_cell? wr _ d0
 simp only at hkl
 have hbd:(1:Int)<(nl.length:Nat):=by have:=CS.out;omega
 rcases HE.out with⟨e,hx,hre⟩|⟨s3,hx,hrest⟩
 · have HST:=Lib.hid (AQ.out g1 (by have:=Ba.out;omega) wr xi si _ J8.out hx)
   rw[uq.out.1]at HST
   have df:=Lib.hid hre
   clear hx hre HE
   go_wp2_with fail
   refine HST.out.mono ?_
   rintro e2 w6 ⟨⟨rfl,hn0⟩,hg⟩
   refine⟨rfl,?_⟩
   rw[df.out]
   exact⟨⟨rfl,hn0⟩,(by first|exact hg|exact .of (ax.grow aj.out) hg|exact .of (ax.grow HG2.out) hg|exact .of (ax.grow aA.out) hg|exact .of (ax.grow bA.out) hg|exact .of (ax.grow bG.out) hg|exact .of (ax.grow aO.out) hg|exact .of iV.out hg|exact .of fu.out hg|exact .of dA.out hg|exact .of cK.out hg|exact .of fw.out hg|exact .of HR4.out hg|exact .of HR3.out hg|exact .of HR2.out hg|exact .of HR1.out hg|exact .of HR.out hg|exact .of (HR4.out.trans ze.out) hg|exact .of (HR4.out.trans cK.out) hg|exact .of (HR4.out.trans dA.out) hg|exact .of (HR4.out.trans fu.out) hg)⟩
 have HST:=Lib.hid (AQ.out g1 (by have:=Ba.out;omega) wr xi si _ J8.out hx)
 rw[uq.out.1]at HST
 obtain⟨rh,RO,hbad,hok⟩:=Gl hrest
 have HBAD:=Lib.hid hbad
 have bJ:=Lib.hid hok
 have DC:=Lib.hid RO
 clear hx hrest hbad hok RO HE
 go_wp2_with fail
 refine HST.out.mono ?_
 rintro e2 w6 ⟨rfl,x6,eZ,mg⟩
 have FU:=Lib.hid (LM w0 p fuel k w6 x6 s3 (.mk zk zn zs (.slice za zl.length zc) zl) rh mg (J6.out.up mg.g) DC.out)
 rw[eZ.R,uq.out.1]at FU
 have iP:=Lib.hid (And.intro (eZ.R.trans uq.out.1) (eZ.S.trans uq.out.2))
 have cK:=Lib.hid (ze.out.trans eZ)
 have jG:=Lib.hid (eZ.n _ _ _ FR.out)
 have rT:=Lib.hid (cK.out.n _ _ _ yU.out)
 clear eZ mg HST n0 n1 n2 n3 hbl d0 d1 d2 d3 hkl uq ze J8 FR FT
 obtain⟨⟨n0,n1⟩,n2,n3⟩:=az rT.out
 have hbl:=lt_of_block rT.out
 simp only[ae.val]at FU
 go_wp2_with fail
 refine FU.out.mono ?_
 clear FU n0 n1 n2 n3 hbl
 intro e w7 hq
 unfold tL at hq
 cases rh with
 |error n =>
  have hre:=HBAD.out n rfl
  obtain⟨⟨rfl,hn0⟩,hg⟩:=hq
  refine⟨rfl,?_⟩
  rw[hre]
  exact⟨⟨rfl,hn0⟩,(by first|exact hg|exact .of (ax.grow aj.out) hg|exact .of (ax.grow HG2.out) hg|exact .of (ax.grow aA.out) hg|exact .of (ax.grow bA.out) hg|exact .of (ax.grow bG.out) hg|exact .of (ax.grow aO.out) hg|exact .of iV.out hg|exact .of fu.out hg|exact .of dA.out hg|exact .of cK.out hg|exact .of fw.out hg|exact .of HR4.out hg|exact .of HR3.out hg|exact .of HR2.out hg|exact .of HR1.out hg|exact .of HR.out hg|exact .of (HR4.out.trans ze.out) hg|exact .of (HR4.out.trans cK.out) hg|exact .of (HR4.out.trans dA.out) hg|exact .of (HR4.out.trans fu.out) hg)⟩
 |ok yy =>
 obtain⟨bb,s4⟩:=yy
 have hnext:=bJ.out _ rfl
 obtain⟨rfl,x7,fG,mh⟩:=hq
 cases bb with
 |true =>
  simp only[if_true,Option.some.injEq]at hnext
  have HQ:=Lib.hid (show dx w0 p fuel k x w res (.returned (.tuple #[])) w7 from by
   rw[← hnext]
   exact⟨rfl,x7,HR4.out.trans (cK.out.trans fG),mh⟩)
  clear hnext fG mh
  go_wp2_with fail
  go_end0
  exact HQ.out
 |false =>
 simp only[Bool.false_eq_true,if_false]at hnext
 have iW:=Lib.hid (And.intro (fG.R.trans iP.out.1) (fG.S.trans iP.out.2))
 have dA:=Lib.hid (cK.out.trans fG)
 have zb:=Lib.hid mh
 have uJ:=Lib.hid (fG.n _ _ _ jG.out)
 have RP:=Lib.hid (dA.out.n _ _ _ uI.out)
 have RU:=Lib.hid (iC.out w7 mh.g)
 have HE:=Lib.hid (zK hnext)
 clear hnext fG mh HBAD bJ DC cK iP jG rT
 obtain⟨⟨n0,n1⟩,n2,n3⟩:=az uJ.out
 have hbl:=lt_of_block uJ.out
 obtain⟨⟨d0,d1⟩,d2,d3⟩:=RU.out
 have hkl:=World.block_lt_of_cell? w7 _ d0
 simp only at hkl
 have Zj:(2:Int)<(nl.length:Nat):=by have:=CS.out;omega
 rcases HE.out with⟨e,hx,hre⟩|⟨s5,hx,hrest⟩
 · have HST:=Lib.hid (rF.out g1 (by have:=Ba.out;omega) w7 x7 s4 _ zb.out hx)
   rw[iW.out.1]at HST
   have df:=Lib.hid hre
   clear hx hre HE
   go_wp2_with fail
   refine HST.out.mono ?_
   rintro e2 w8 ⟨⟨rfl,hn0⟩,hg⟩
   refine⟨rfl,?_⟩
   rw[df.out]
   exact⟨⟨rfl,hn0⟩,(by first|exact hg|exact .of (ax.grow aj.out) hg|exact .of (ax.grow HG2.out) hg|exact .of (ax.grow aA.out) hg|exact .of (ax.grow bA.out) hg|exact .of (ax.grow bG.out) hg|exact .of (ax.grow aO.out) hg|exact .of iV.out hg|exact .of fu.out hg|exact .of dA.out hg|exact .of cK.out hg|exact .of fw.out hg|exact .of HR4.out hg|exact .of HR3.out hg|exact .of HR2.out hg|exact .of HR1.out hg|exact .of HR.out hg|exact .of (HR4.out.trans ze.out) hg|exact .of (HR4.out.trans cK.out) hg|exact .of (HR4.out.trans dA.out) hg|exact .of (HR4.out.trans fu.out) hg)⟩
 have HST:=Lib.hid (rF.out g1 (by have:=Ba.out;omega) w7 x7 s4 _ zb.out hx)
 rw[iW.out.1]at HST
 obtain⟨ra,hra,hbad,hok⟩:=Tx (H:=λs=>exec (p.procs.map aN.d) fuel g1 (.round RT) b s) hrest
 have HBAD:=Lib.hid hbad
 have bJ:=Lib.hid hok
 have DC:=Lib.hid hra
 clear hx hrest hbad hok hra HE
 go_wp2_with fail
 refine HST.out.mono ?_
 rintro e2 w8 ⟨rfl,x8,iU,nW⟩
 have HAS:=Lib.hid (KL w0 p fuel k w8 x8 s5 (.mk ak an oL (.slice aa al.length ac) al) false ra nW (J5.out.up nW.g) DC.out)
 rw[iU.R,iW.out.1]at HAS
 have fu:=Lib.hid (dA.out.trans iU)
 have RV:=Lib.hid (iU.n _ _ _ RP.out)
 clear iU nW HST n0 n1 n2 n3 hbl d0 d1 d2 d3 hkl iW dA zb uJ RU RP
 obtain⟨⟨n0,n1⟩,n2,n3⟩:=az RV.out
 have hbl:=lt_of_block RV.out
 simp only[ae.val]at HAS
 go_wp2_with fail
 refine HAS.out.mono ?_
 clear HAS n0 n1 n2 n3 hbl
 intro e w9 hq
 cases hs1:sJ false ra with
 |error n =>
  rw[hs1]at hq
  have hre:=HBAD.out n hs1
  obtain⟨⟨rfl,hn0⟩,hg⟩:=hq
  refine⟨rfl,?_⟩
  rw[hre]
  exact⟨⟨rfl,hn0⟩,(by first|exact hg|exact .of (ax.grow aj.out) hg|exact .of (ax.grow HG2.out) hg|exact .of (ax.grow aA.out) hg|exact .of (ax.grow bA.out) hg|exact .of (ax.grow bG.out) hg|exact .of (ax.grow aO.out) hg|exact .of iV.out hg|exact .of fu.out hg|exact .of dA.out hg|exact .of cK.out hg|exact .of fw.out hg|exact .of HR4.out hg|exact .of HR3.out hg|exact .of HR2.out hg|exact .of HR1.out hg|exact .of HR.out hg|exact .of (HR4.out.trans ze.out) hg|exact .of (HR4.out.trans cK.out) hg|exact .of (HR4.out.trans dA.out) hg|exact .of (HR4.out.trans fu.out) hg)⟩
 |ok s6 =>
 rw[hs1]at hq
 have hnext:=bJ.out s6 hs1
 obtain⟨rfl,x9,aZ,bN⟩:=hq
 have HQ:=Lib.hid (show ∃ xi si,ax x4 xi w4 w9/\aG w0 p fuel k w9 xi si/\exec (p.procs.map aN.d) fuel g1 (.round RT) b si=some res/\g1<=g' from⟨x9,s6,fu.out.trans aZ,bN,hnext,by have:=Ba.out;omega⟩)
 clear hnext aZ bN HBAD bJ DC hs1
 go_wp2_with fail
 go_roundg g1
 case measure=>have:=Ba.out;omega
 case rel=>exact HQ.out
theorem VS {P:List bC} {fuel g:Nat} {k nn:Int} {ns:ByteArray} {l:List Tree} {b:Bool} {s:ai} {res:Except Int ai} (hk:k=50\/k=51) (h:exec P fuel g (.stmt (.mk k nn ns l)) b s=some res):∃ g',g=g'+1/\∃ d,P.find? (λp=>p.name == ns)=some d /\
 aI (some (s.step fuel)) (λs=>aI (some (s.enter d.params (l.map Tree.name))) λs=>aI (exec P fuel g' (.stmts (turned (b != (k == 51)) d.body.kids)) (b != (k == 51)) s) λs=>aI (some (s.step fuel)) λs=>some s.leave)=some res:=by
 cases g with
 |zero=>cases h
 |succ g =>
  refine⟨g,rfl,?_⟩
  have he:=qy h
  rw[exec,if_neg (by rw[he];decide),if_neg (show ¬ Tree.kind (.mk k nn ns l)=53 from by show ¬ k=53;omega),if_neg (show ¬ Tree.kind (.mk k nn ns l)=54 from by show ¬ k=54;omega),if_neg (show ¬ Tree.kind (.mk k nn ns l)=55 from by show ¬ k=55;omega),if_pos (show Tree.kind (.mk k nn ns l)=50\/Tree.kind (.mk k nn ns l)=51 from hk)]at h
  rw[show Tree.name (.mk k nn ns l)=ns from rfl]at h
  cases hf:P.find? (λp=>p.name == ns)with
  |none=>rw[hf]at h;cases h
  |some d=>rw[hf]at h;exact⟨d,rfl,h⟩
theorem Xb {k nn:Int} {ns:ByteArray} {l:List Tree} (hk:k=50\/k=51) (h:aW (.mk k nn ns l)=true):l.length<=8:=by
 rw[aW,if_neg (by omega),if_neg (by omega),if_neg (by omega),if_neg (by omega),if_pos (by omega)]at h
 simp only[Bool.and_eq_true,decide_eq_true_eq]at h
 exact h.2.1
theorem VT {P:List bC} {s:ByteArray} {d:bC} (h:P.find? (λp=>p.name == s)=some d):∃ i,∃ hi:i<P.length,ja P s=i/\P[i]=d:=by
 obtain⟨i,h1⟩:∃ i,P.findIdx? (λp=>p.name == s)=some i:=by
  cases hq:P.findIdx? (λp=>p.name == s)with
  |some i=>exact⟨i,rfl⟩
  |none =>
   have:=List.find?_some h
   have hm:=List.mem_of_find?_eq_some h
   rw[List.findIdx?_eq_none_iff]at hq
   rw[hq d hm]at this;cases this
 obtain⟨hi,h2,h3⟩:=List.findIdx?_eq_some_iff_getElem.1 h1
 refine⟨i,hi,by unfold ja;rw[h1],?_⟩
 have h4:=List.find?_eq_some_iff_getElem.1 h
 obtain⟨h5,j,hj,h6,h7⟩:=h4
 rcases Nat.lt_trichotomy i j with hlt|heq|hgt
 · have:=h7 i hlt
   rw[h2]at this;simp at this
 · subst heq;exact h6
 · have:=h3 j hgt
   rw[h6]at this
   rw[h5]at this;simp at this
theorem LY (l:List Int):flat aU l=l.map (Value.int .i64):=by
 induction l with
 |nil=>rfl
 |cons a l ih=>simp only[flat,List.map_cons,List.flatten_cons]at ih ⊢;rw[ih];rfl
theorem Xc {e base:Nat} {w w':World} {g cap:Nat} {l:List Int} {cs:Array Value} {t:TypeId} (h:w.ownsRow base e 1 (.slice (some ⟨g,0,none⟩) l.length cap) l.length (flat aU l)) (hb:w.heap[g]? = some (.cells cs t (0,0))) (v:Int) (i:Nat)
 (hb':w'.heap[g]? = some (.cells (cs.setIfInBounds i (.int .i64 v)) t (0,0))):w'.ownsRow base e 1 (.slice (some ⟨g,0,none⟩) l.length cap) (l.set i v).length (flat aU (l.set i v)):=by
 refine⟨by simp[oN aU 1 jk],.inr ?_⟩
 rcases h.2 with⟨e1,-⟩|⟨g',cap',cur,e1,h1,h2,h3,h4,h5,h6⟩
 · cases e1
 · simp only[Value.slice.injEq,Option.some.injEq,Addr.mk.injEq,true_and,and_true]at e1
   obtain⟨rfl,rfl⟩:=e1
   rw[hb]at h2
   simp only[Option.some.injEq,Obj.cells.injEq,and_true]at h2
   obtain⟨rfl,rfl⟩:=h2
   refine⟨g,cap,_,by simp,h1,hb',by simpa using h3,h4,by simpa using h5,?_⟩
   rw[LY]at h6 ⊢
   simp only[Array.toList_setIfInBounds,List.length_set]
   rw[List.take_set,h6,List.map_set]
theorem X0 {e base:Nat} {w:World} {v:Value} {l:List Int} (h:w.ownsRow base e 1 v l.length (flat aU l)) (hl:0<l.length):∃ g cap cs,v = .slice (some ⟨g,0,none⟩) l.length cap/\base<=g/\w.heap[g]? = some (.cells cs e (0,0)):=by
 rcases h.2 with⟨-,e1⟩|⟨g',cap',cur,e1,h1,h2,h3,h4,h5,h6⟩
 · omega
 · exact⟨g',cap',cur,e1,h1,h2⟩
theorem aG.Y8 {w0:World} {p:aB} {fuel k:Nat} {w:World} {x:aM} {s:ai} (h:aG w0 p fuel k w x s) {i:Nat} (hi:i<p.procs.length):∃ g cap,(x.ev = .slice (some ⟨g,0,none⟩) x.el.length cap/\(i<x.el.length/\x.el.length<=cap))/\(∃ a,w.cell? ⟨g,i,none⟩=some (.int .i64 a))/\(g<w.heap.size/\∀ j,w.frozen? ⟨g,j,none⟩=false)/\∀ v:Int,∃ x',ax x x' w (w.setCell ⟨g,i,none⟩ (.int .i64 v))/\aG w0 p fuel k (w.setCell ⟨g,i,none⟩ (.int .i64 v)) x' s:=by
 have hl:i<x.el.length:=by rw[h.pK];exact hi
 obtain⟨g,cap,cs,hv,hlow,hb⟩:=X0 h.gQ (by omega)
 have hrow:=dW jk h.gQ
 have hc:w.cell? ⟨g,i,none⟩=some (.int .i64 x.el[i]):=by
  rw[hv]at hrow
  have:=hrow.at' hl 0 (.int .i64 x.el[i]) rfl
  simpa using this
 refine⟨g,cap,⟨hv,hl,by rw[hv]at hrow;exact hrow.cap⟩,⟨_,hc⟩,⟨lt_of_block hb,λj=>bB hb j⟩,λv => ?_⟩
 have rg:x.ρ g = .gQ:=h.re g (by rw[hv];rfl)
 have hm:Mv (λb=>b=g) w (w.setCell ⟨g,i,none⟩ (.int .i64 v)):=(Mv.refl (λb=>b=g) w).setCell (p:=⟨g,i,none⟩) (.inl rfl) _
 have st:=h.stays hm (λr=>r = .gQ) (λb e _=>by subst e;exact rg)
 have hb':=block_setCell (p:=⟨g,i,none⟩) hb rfl (.int .i64 v)
 have hrow':=Xc (by rw[← hv];exact h.gQ) hb v i hb'
 refine⟨{ x with el:=x.el.set i v },⟨rfl,rfl,λ_ _ e=>e,hm.mono λb e => .inl (by subst e;rw[rg];exact λe=>by cases e),λb cs' z hg => ?_⟩,bM h.g hm (λb e=>by subst e;exact hlow),st.run (λe=>by cases e),st.store (λe=>by cases e),st.tape (λe=>by cases e),h.kL,λj hj hj'=>(st.fr j hj hj' (λe=>by cases e) (λe=>by cases e)).ext (λ_ _=>rfl) (λ_ _=>rfl) (Nat.le_refl _),st.calls (λe=>by cases e),λj hj=>(st.cell j hj (λe=>by cases e) (λe=>by cases e)).ext (λ_ _=>rfl) rfl rfl,?_,by simp[h.pK],h.low,h.dY,h.re,h.rl,h.bd⟩
 · rw[hm.block b (lt_of_block hg) (λe => ?_)]
   · exact hg
   · subst e;rw[hb]at hg;simp only[Option.some.injEq,Obj.cells.injEq]at hg;exact absurd hg.2.1 (by decide)
 · show World.ownsRow _ _ _ _ x.ev _ _
   rw[hv];exact hrow'
theorem Tryz.X3:(Tryz.prog.info? 9).map (λi=>(i.zero,i.size,i.bytes))=some (some (.string ⟨#[]⟩),1,16):=by kernel_rfl
theorem Xd (n:Nat) (w:World) (hn:n<=1000000):(Instr.makeSlice 44 (.int .i64 n) (.int .i64 n)).run Tryz.prog w = .ok (.slice (some ⟨w.heap.size,0,none⟩) n n) (w.alloc (.cells (Array.replicate n (.string ⟨#[]⟩)) 9)):=by
 obtain⟨i0,hi,hz0,hz1,hz2⟩:=info_parts Tryz.X3
 have:=run_make (P:=Tryz.prog) w 44 9 i0 _ Tryz.underlying44 hi hz0 .i64 .i64 n n (by omega) (Int.le_refl _) (by rw[hz2];omega) (by omega)
 have hm:madeCells (Value.string ⟨#[]⟩).cells (n * i0.size)=Array.replicate n (.string ⟨#[]⟩):=by
  rw[hz1,Nat.mul_one]
  apply Array.ext
  · simp[madeCells]
  · intro j h1 h2
    simp[madeCells,Value.cells,Nat.mod_one]
 simp only[Int.toNat_natCast]at this
 rw[hm]at this
 exact this
def kE (l:List ae) (i:Nat):Array Value:=(((ae.ts l).map Tree.name).take i |>.map Value.string).toArray ++ Array.replicate (l.length - i) (.string ⟨#[]⟩)
theorem Ud (l:List ae):kE l 0=Array.replicate l.length (.string ⟨#[]⟩):=by simp[kE]
theorem UY (l:List ae):(kE l l.length).toList=flat pO ((ae.ts l).map Tree.name):=by
 have h:((ae.ts l).map Tree.name).length=l.length:=by simp[ae.bX]
 have h2:∀ m:List ByteArray,flat pO m=m.map Value.string:=λm=>by
  induction m with
  |nil=>rfl
  |cons a m ih=>simp only[flat,List.map_cons,List.flatten_cons]at ih ⊢;rw[ih];rfl
 rw[h2]
 unfold kE
 rw[List.take_of_length_le (by omega)]
 simp
theorem Bg (l:List ae) (i:Nat) (hi:i<=l.length):(kE l i).size=l.length:=by
 unfold kE
 simp[ae.bX]
 omega
theorem UZ (l:List ae) (i:Nat) (hi:i<l.length):(kE l i).setIfInBounds i (.string l[i].t.name)=kE l (i+1):=by
 have ht:((ae.ts l).map Tree.name).length=l.length:=by simp[ae.bX]
 apply Array.ext
 · rw[Array.size_setIfInBounds,Bg l i (by omega),Bg l (i+1) (by omega)]
 · intro j h1 h2
   rw[Array.size_setIfInBounds,Bg l i (by omega)]at h1
   rw[Array.getElem_setIfInBounds (by rw[Bg l i (by omega)];exact h1)]
   by_cases hij:i=j
   · subst hij
     rw[if_pos rfl]
     simp only[kE]
     rw[Array.getElem_append_left (by simp[ae.bX];omega)]
     simp[ae.jw l i hi]
   · rw[if_neg hij]
     simp only[kE]
     by_cases hlt:j<i
     · rw[Array.getElem_append_left (by simp[ae.bX];omega),Array.getElem_append_left (by simp[ae.bX];omega)]
       simp
     · rw[Array.getElem_append_right (by simp[ae.bX];omega),Array.getElem_append_right (by simp[ae.bX];omega)]
       simp
end Go.Proofs.YtbpodipdfohikaaGreat
