import Derived.Test.YtbpodipdfohikaaGreatK30
import Derived.Test.YtbpodipdfohikaaGreatK31
set_option linter.unusedSimpArgs false
set_option linter.unusedVariables false
set_option maxRecDepth 100000
set_option maxHeartbeats 25600000
namespace Go.Proofs.YtbpodipdfohikaaGreat
open Go.RowKit Go.Instr
def dG (B:Nat) (T:Tree) (v:Value) (y:World):Prop:=∃ n:ae,v=n.val/\aL (λb=>B<=b) y n/\n.t=T
theorem dG.later {B:Nat} {T:Tree} {v:Value} {x y:World} (h:dG B T v x) (hg:Grow x y):dG B T v y:=h.imp λ_ h=>⟨h.1,h.2.1.later hg,h.2.2⟩
def om (B n:Nat) (Ts:List Tree) (v:Value) (y:World):Prop:=∃ g kids,v = .slice (some ⟨g,0,none⟩) n n/\aL (λb=>B<=b) y (.mk 57 0 ⟨#[]⟩ (.slice (some ⟨g,0,none⟩) n n) kids)/\ae.ts kids=Ts/\B<=g/\∃ cs,y.heap[g]? = some (.cells cs 40 (0,0))
theorem om.later {B n:Nat} {Ts:List Tree} {v:Value} {x y:World} (h:om B n Ts v x) (hg:Grow x y):om B n Ts v y:=by
 obtain⟨g,kids,h1,h2,h3,h4,cs,h5⟩:=h
 exact⟨g,kids,h1,h2.later hg,h3,h4,cs,ah h5 hg⟩
def pU (B:Nat) (T:Tree) (v:Value) (y:World):Prop:=∃ g q cs,v = .agg #[.int .u8 57,.int .i64 0,.string ⟨#[]⟩,.slice (some ⟨g,0,none⟩) 1 1]/\aL (λb=>B<=b) y (.mk 57 0 ⟨#[]⟩ (.slice (some ⟨g,0,none⟩) 1 1) q)/\ae.t (.mk 57 0 ⟨#[]⟩ (.slice (some ⟨g,0,none⟩) 1 1) q)=T/\B<=g/\y.heap[g]? = some (.cells cs 40 (0,0))
theorem pU.later {B:Nat} {T:Tree} {v:Value} {x y:World} (h:pU B T v x) (hg:Grow x y):pU B T v y:=by
 obtain⟨g,q,cs,h1,h2,h3,h4,h5⟩:=h
 exact⟨g,q,cs,h1,h2.later hg,h3,h4,ah h5 hg⟩
theorem pU.weak {B B':Nat} {T:Tree} {v:Value} {x:World} (h:pU B T v x) (hb:B'<=B):pU B' T v x:=by
 obtain⟨g,q,cs,h1,h2,h3,h4,h5⟩:=h
 exact⟨g,q,cs,h1,h2.from hb,h3,Nat.le_trans hb h4,h5⟩
def O4 (w:World) (T:Tree) (e:Ending) (w':World):Prop:=∃ v,e = .returned v/\pU w.heap.size T v w'/\Grow w w'
theorem aL.YD {P:Nat->Prop} {w:World} {k n:Int} {s:ByteArray} {kv:Value} {l:List ae} (h:aL P w (.mk k n s kv l)) (k':Int) (s':ByteArray) (hk:0<=k'/\k'<=255) (hs:s'.size<=9223372036854775807):aL P w (.mk k' n s' kv l):=by
 cases h with
 |mk h1 h2 h3 h4 h5 h6=>exact .mk hk h2 hs h4 h5 h6
set_option maxRecDepth 100000 in
set_option maxHeartbeats 12800000 in
theorem Tm (w:World):Calls Tryz.prog 27 #[] w (O4 w BL):=by
 have HB1:=Lib.hid (heap_alloc_new w (.cells #[.int .u8 0,.int .i64 0,.string ⟨#[]⟩,.slice none 0 0] 40))
 have aj:=Lib.hid (show Grow w (w.alloc (.cells #[.int .u8 0,.int .i64 0,.string ⟨#[]⟩,.slice none 0 0] 40))from(Mv.refl _ _).alloc _)
 have HZ:=Lib.hid (show w.heap.size+1<=(w.alloc (.cells #[.int .u8 0,.int .i64 0,.string ⟨#[]⟩,.slice none 0 0] 40)).heap.size from by simp)
 obtain⟨B,hB⟩:∃ B,B=w.heap.size+1:=⟨_,rfl⟩
 rw[← hB]at HZ
 have hB1:w.heap.size<B:=by omega
 clear hB
 go_enter Tryz.func27,Tryz.ntmps27
 go_upto_region 1 with fail
 generalize (w.alloc (.cells #[.int .u8 0,.int .i64 0,.string ⟨#[]⟩,.slice none 0 0] 40))=w1 at *
 refine ZP 16 17 [some 1,some 2,some 3,some 4,some 5,some 6,some 7,some 8,some 9,some 10,some 11,some 12,some 13,some 14,some 15,some 16] [[],[],[],[],[2,3],[],[],[5,6],[],[8],[4,7,9],[],[10,11],[0,1,12],[13],[14]] [] [.p (dG B (aS sA)),.p (dG B (aC 0)),.p (dG B (aS sA)),.p (dG B (bR sN)),.p (dG B (aX (aS sA) (bR sN))),.p (dG B (aS sA)),.p (dG B (aC 0)),.p (dG B (aX (aS sA) (aC 0))),.p (dG B (dN sA sG)),.p (om B 1 [dN sA sG]),.p (dG B (cO (aX (aS sA) (bR sN)) (aX (aS sA) (aC 0)) [dN sA sG])),.p (dG B (psT sN sG)),.p (om B 2 [cO (aX (aS sA) (bR sN)) (aX (aS sA) (aC 0)) [dN sA sG],psT sN sG]),.p (dG B (dK sN (aS sA) [cO (aX (aS sA) (bR sN)) (aX (aS sA) (aC 0)) [dN sA sG],psT sN sG] (aC 0))),.p (om B 1 [dK sN (aS sA) [cO (aX (aS sA) (bR sN)) (aX (aS sA) (aC 0)) [dN sA sG],psT sN sG] (aC 0)]),.p (pU B (gz [dK sN (aS sA) [cO (aX (aS sA) (bR sN)) (aX (aS sA) (aC 0)) [dN sA sG],psT sN sG] (aC 0)]))] ⟨⟨(λv x y hg h=>h.later hg),λ_=>bg⟩,⟨(λv x y hg h=>h.later hg),λ_=>bg⟩,⟨(λv x y hg h=>h.later hg),λ_=>bg⟩,⟨(λv x y hg h=>h.later hg),λ_=>bg⟩,⟨(λv x y hg h=>h.later hg),λ_=>bg⟩,⟨(λv x y hg h=>h.later hg),λ_=>bg⟩,⟨(λv x y hg h=>h.later hg),λ_=>bg⟩,⟨(λv x y hg h=>h.later hg),λ_=>bg⟩,⟨(λv x y hg h=>h.later hg),λ_=>bg⟩,⟨(λv x y hg h=>h.later hg),λ_=>bg⟩,⟨(λv x y hg h=>h.later hg),λ_=>bg⟩,⟨(λv x y hg h=>h.later hg),λ_=>bg⟩,⟨(λv x y hg h=>h.later hg),λ_=>bg⟩,⟨(λv x y hg h=>h.later hg),λ_=>bg⟩,⟨(λv x y hg h=>h.later hg),λ_=>bg⟩,⟨(λv x y hg h=>h.later hg),λ_=>bg⟩,trivial⟩ (dm rfl) ?steps ?done
 case steps =>
  refine⟨?s0,?s1,?s2,?s3,?s4,?s5,?s6,?s7,?s8,?s9,?s10,?s11,?s12,?s13,?s14,?s15,trivial⟩
  case s0 =>
   refine iB (λvs x hG hP => ?_)
   have hZ:=bH hG HZ.out
   have HC:=Lib.hid (wS sA x (by decide))
   try simp only[ae.val]at HC
   simp only[zS]
   go_simp
   refine(HC.out).mono ?_
   rintro e y ⟨n,rfl,hn,ht,hg⟩
   exact⟨_,rfl,hg,n,rfl,hn.from hZ,ht⟩
  case s1 =>
   refine iB (λvs x hG hP => ?_)
   have hZ:=bH hG HZ.out
   have HC:=Lib.hid (oM 0 x ⟨by decide,by decide⟩)
   try simp only[ae.val]at HC
   simp only[zS]
   go_simp
   refine(HC.out).mono ?_
   rintro e y ⟨n,rfl,hn,ht,hg⟩
   exact⟨_,rfl,hg,n,rfl,hn.from hZ,ht⟩
  case s2 =>
   refine iB (λvs x hG hP => ?_)
   have hZ:=bH hG HZ.out
   have HC:=Lib.hid (wS sA x (by decide))
   try simp only[ae.val]at HC
   simp only[zS]
   go_simp
   refine(HC.out).mono ?_
   rintro e y ⟨n,rfl,hn,ht,hg⟩
   exact⟨_,rfl,hg,n,rfl,hn.from hZ,ht⟩
  case s3 =>
   refine iB (λvs x hG hP => ?_)
   have hZ:=bH hG HZ.out
   have HC:=Lib.hid (DV sN x (by decide))
   try simp only[ae.val]at HC
   simp only[zS]
   go_simp
   refine(HC.out).mono ?_
   rintro e y ⟨n,rfl,hn,ht,hg⟩
   exact⟨_,rfl,hg,n,rfl,hn.from hZ,ht⟩
  case s4 =>
   refine iB (λvs x hG hP => ?_)
   have p2:=pq hP 2
   obtain⟨⟨k2,m2,s2,v2,l2⟩,h2,o2,t2⟩:=p2
   obtain⟨a2,c2,rfl,-,-⟩:=o2.at.form
   simp only[ae.val]at h2
   have p3:=pq hP 3
   obtain⟨⟨k3,m3,s3,v3,l3⟩,h3,o3,t3⟩:=p3
   obtain⟨a3,c3,rfl,-,-⟩:=o3.at.form
   simp only[ae.val]at h3
   have hZ:=bH hG HZ.out
   have HC:=Lib.hid (zF B (.mk k2 m2 s2 (.slice a2 l2.length c2) l2) (.mk k3 m3 s3 (.slice a3 l3.length c3) l3) x hZ o2 o3)
   try simp only[ae.val]at HC
   simp only[zS,h2,h3]
   go_simp
   refine(HC.out).mono ?_
   rintro e y ⟨n,rfl,hn,ht,hg⟩
   exact⟨_,rfl,hg,n,rfl,hn,by rw[ht,t2,t3];rfl⟩
  case s5 =>
   refine iB (λvs x hG hP => ?_)
   have hZ:=bH hG HZ.out
   have HC:=Lib.hid (wS sA x (by decide))
   try simp only[ae.val]at HC
   simp only[zS]
   go_simp
   refine(HC.out).mono ?_
   rintro e y ⟨n,rfl,hn,ht,hg⟩
   exact⟨_,rfl,hg,n,rfl,hn.from hZ,ht⟩
  case s6 =>
   refine iB (λvs x hG hP => ?_)
   have hZ:=bH hG HZ.out
   have HC:=Lib.hid (oM 0 x ⟨by decide,by decide⟩)
   try simp only[ae.val]at HC
   simp only[zS]
   go_simp
   refine(HC.out).mono ?_
   rintro e y ⟨n,rfl,hn,ht,hg⟩
   exact⟨_,rfl,hg,n,rfl,hn.from hZ,ht⟩
  case s7 =>
   refine iB (λvs x hG hP => ?_)
   have p5:=pq hP 5
   obtain⟨⟨k5,m5,s5,v5,l5⟩,h5,o5,t5⟩:=p5
   obtain⟨a5,c5,rfl,-,-⟩:=o5.at.form
   simp only[ae.val]at h5
   have p6:=pq hP 6
   obtain⟨⟨k6,m6,s6,v6,l6⟩,h6,o6,t6⟩:=p6
   obtain⟨a6,c6,rfl,-,-⟩:=o6.at.form
   simp only[ae.val]at h6
   have hZ:=bH hG HZ.out
   have HC:=Lib.hid (zF B (.mk k5 m5 s5 (.slice a5 l5.length c5) l5) (.mk k6 m6 s6 (.slice a6 l6.length c6) l6) x hZ o5 o6)
   try simp only[ae.val]at HC
   simp only[zS,h5,h6]
   go_simp
   refine(HC.out).mono ?_
   rintro e y ⟨n,rfl,hn,ht,hg⟩
   exact⟨_,rfl,hg,n,rfl,hn,by rw[ht,t5,t6];rfl⟩
  case s8 =>
   refine iB (λvs x hG hP => ?_)
   have hZ:=bH hG HZ.out
   have HC:=Lib.hid (LX sA sG x (by decide) (by decide))
   try simp only[ae.val]at HC
   simp only[zS]
   go_simp
   refine(HC.out).mono ?_
   rintro e y ⟨n,rfl,hn,ht,hg⟩
   exact⟨_,rfl,hg,n,rfl,hn.from hZ,ht⟩
  case s9 =>
   refine iB (λvs x hG hP => ?_)
   have p8:=pq hP 8
   obtain⟨⟨k8,m8,s8,v8,l8⟩,h8,o8,t8⟩:=p8
   obtain⟨a8,c8,rfl,-,-⟩:=o8.at.form
   simp only[ae.val]at h8
   have hZ:=bH hG HZ.out
   simp only[zS,h8]
   go_simp
   exact gl ⟨_,[.mk k8 m8 s8 (.slice a8 l8.length c8) l8],rfl,iZ ⟨by decide,by decide⟩ ⟨by decide,by decide⟩ (by decide) (heap_alloc_new x _) hZ rfl (by decide) (λy hy=>by rw[List.mem_singleton.1 hy];exact o8.later ((Mv.refl _ _).alloc _)),by simp[ae.ts,t8],hZ,_,heap_alloc_new x _⟩
  case s10 =>
   refine iB (λvs x hG hP => ?_)
   have p4:=pq hP 4
   obtain⟨⟨k4,m4,s4,v4,l4⟩,h4,o4,t4⟩:=p4
   obtain⟨a4,c4,rfl,-,-⟩:=o4.at.form
   simp only[ae.val]at h4
   have p7:=pq hP 7
   obtain⟨⟨k7,m7,s7,v7,l7⟩,h7,o7,t7⟩:=p7
   obtain⟨a7,c7,rfl,-,-⟩:=o7.at.form
   simp only[ae.val]at h7
   have p9:=pq hP 9
   obtain⟨g9,q9,h9,o9,t9,z9,cs9,b9⟩:=p9
   have hZ:=bH hG HZ.out
   have HC:=Lib.hid (GL B (.mk k4 m4 s4 (.slice a4 l4.length c4) l4) (.mk k7 m7 s7 (.slice a7 l7.length c7) l7) _ _ x hZ o4 o7 o9)
   try simp only[ae.val]at HC
   simp only[zS,h4,h7,h9]
   go_simp
   refine(HC.out).mono ?_
   rintro e y ⟨n,rfl,hn,ht,hg⟩
   exact⟨_,rfl,hg,n,rfl,hn,by rw[ht,t4,t7,t9];rfl⟩
  case s11 =>
   refine iB (λvs x hG hP => ?_)
   have hZ:=bH hG HZ.out
   have HC:=Lib.hid (Ee sN sG x (by decide) (by decide))
   try simp only[ae.val]at HC
   simp only[zS]
   go_simp
   refine(HC.out).mono ?_
   rintro e y ⟨n,rfl,hn,ht,hg⟩
   exact⟨_,rfl,hg,n,rfl,hn.from hZ,ht⟩
  case s12 =>
   refine iB (λvs x hG hP => ?_)
   have qi:=pq hP 10
   obtain⟨⟨k10,m10,s10,v10,l10⟩,h10,uE,t10⟩:=qi
   obtain⟨yK,c10,rfl,-,-⟩:=uE.at.form
   simp only[ae.val]at h10
   have yV:=pq hP 11
   obtain⟨⟨k11,m11,s11,v11,Dj⟩,h11,wF,t11⟩:=yV
   obtain⟨FE,c11,rfl,-,-⟩:=wF.at.form
   simp only[ae.val]at h11
   have hZ:=bH hG HZ.out
   simp only[zS,h10,h11]
   go_simp
   exact gl ⟨_,[.mk k10 m10 s10 (.slice yK l10.length c10) l10,.mk k11 m11 s11 (.slice FE Dj.length c11) Dj],rfl,iZ ⟨by decide,by decide⟩ ⟨by decide,by decide⟩ (by decide) (heap_alloc_new x _) hZ rfl (by decide) (λy hy=>by simp only[List.mem_cons,List.mem_nil_iff,or_false]at hy;rcases hy with rfl|rfl <;> first|exact uE.later ((Mv.refl _ _).alloc _)|exact wF.later ((Mv.refl _ _).alloc _)),by simp[ae.ts,t10,t11],hZ,_,heap_alloc_new x _⟩
  case s13 =>
   refine iB (λvs x hG hP => ?_)
   have p0:=pq hP 0
   obtain⟨⟨k0,m0,s0,v0,l0⟩,h0,o0,t0⟩:=p0
   obtain⟨a0,c0,rfl,-,-⟩:=o0.at.form
   simp only[ae.val]at h0
   have p1:=pq hP 1
   obtain⟨⟨k1,m1,s1,v1,l1⟩,h1,o1,t1⟩:=p1
   obtain⟨a1,c1,rfl,-,-⟩:=o1.at.form
   simp only[ae.val]at h1
   have Dk:=pq hP 12
   obtain⟨g12,Ri,h12,FH,t12,z12,acs,b12⟩:=Dk
   have hZ:=bH hG HZ.out
   have HC:=Lib.hid (D6 B sN (.mk k0 m0 s0 (.slice a0 l0.length c0) l0) (.mk k1 m1 s1 (.slice a1 l1.length c1) l1) _ _ x (by decide) hZ o0 o1 FH)
   try simp only[ae.val]at HC
   simp only[zS,h0,h1,h12]
   go_simp
   refine(HC.out).mono ?_
   rintro e y ⟨n,rfl,hn,ht,hg⟩
   exact⟨_,rfl,hg,n,rfl,hn,by rw[ht,t0,t1,t12];rfl⟩
  case s14 =>
   refine iB (λvs x hG hP => ?_)
   have JQ:=pq hP 13
   obtain⟨⟨k13,m13,s13,v13,yF⟩,wB,Dl,t13⟩:=JQ
   obtain⟨Da,c13,rfl,-,-⟩:=Dl.at.form
   simp only[ae.val]at wB
   have hZ:=bH hG HZ.out
   simp only[zS,wB]
   go_simp
   exact gl ⟨_,[.mk k13 m13 s13 (.slice Da yF.length c13) yF],rfl,iZ ⟨by decide,by decide⟩ ⟨by decide,by decide⟩ (by decide) (heap_alloc_new x _) hZ rfl (by decide) (λy hy=>by rw[List.mem_singleton.1 hy];exact Dl.later ((Mv.refl _ _).alloc _)),by simp[ae.ts,t13],hZ,_,heap_alloc_new x _⟩
  case s15 =>
   refine iB (λvs x hG hP => ?_)
   have JR:=pq hP 14
   obtain⟨g14,q14,yM,FI,t14,z14,ZQ,b14⟩:=JR
   have hZ:=bH hG HZ.out
   have HC:=Lib.hid (zG (some ⟨g14,0,none⟩) 1 1 x)
   try simp only[ae.val]at HC
   simp only[zS,yM]
   go_simp
   refine(HC.out).mono ?_
   rintro e y ⟨rfl,hg⟩
   exact⟨_,rfl,hg,g14,q14,ZQ,rfl,FI.later hg,by rw[ae.t,t14];rfl,z14,ah b14 hg⟩
 case done =>
 intro vs wx hE
 have hG:=hE.zW
 have JS:=hE.val 15
 obtain⟨g15,q15,ZR,uw,Dm,t15,z15,b15⟩:=JS
 have aO:=Lib.hid hG
 have JU:=Lib.hid t15
 have JV:=Lib.hid Dm
 have dZ:=Lib.hid b15
 clear hE hG t15 Dm b15
 simp only[zS,Nat.reduceAdd,uw,List.drop_succ_cons,List.drop_zero]
 have dU:=Lib.hid (dH (ah HB1.out aO.out) (.int .u8 57) (.int .i64 0) (.string ⟨#[]⟩) (.slice (some ⟨g15,0,none⟩) 1 1))
 obtain⟨⟨n0,n1⟩,n2,n3⟩:=az (ah HB1.out aO.out)
 have hbl:=lt_of_block (ah HB1.out aO.out)
 have zt:=bB (ah HB1.out aO.out)
 go_wp2_with fail
 obtain⟨⟨t0,t1⟩,t2,t3⟩:=az dU.out.1
 exact bodyPost_ret (v := .agg #[.int .u8 57,.int .i64 0,.string ⟨#[]⟩,.slice (some ⟨g15,0,none⟩) 1 1]) (by simp[results,Tryz.results27,go_sem,t0,t1,t2,t3]) rfl ⟨_,rfl,⟨g15,q15,ZR,rfl,JV.out.fill dU.out.2 (by omega),JU.out,by omega,(dU.out.2.block _ (lt_of_block dZ.out) (λe=>by omega)).trans dZ.out⟩,bM (gtr aj.out aO.out) dU.out.2 (λb e=>by omega)⟩
set_option maxRecDepth 100000 in
set_option maxHeartbeats 12800000 in
theorem Tv (w:World):Calls Tryz.prog 26 #[] w (O4 w Ca):=by
 have HB1:=Lib.hid (heap_alloc_new w (.cells #[.int .u8 0,.int .i64 0,.string ⟨#[]⟩,.slice none 0 0] 40))
 have aj:=Lib.hid (show Grow w (w.alloc (.cells #[.int .u8 0,.int .i64 0,.string ⟨#[]⟩,.slice none 0 0] 40))from(Mv.refl _ _).alloc _)
 have HZ:=Lib.hid (show w.heap.size+1<=(w.alloc (.cells #[.int .u8 0,.int .i64 0,.string ⟨#[]⟩,.slice none 0 0] 40)).heap.size from by simp)
 obtain⟨B,hB⟩:∃ B,B=w.heap.size+1:=⟨_,rfl⟩
 rw[← hB]at HZ
 have hB1:w.heap.size<B:=by omega
 clear hB
 go_enter Tryz.func26,Tryz.ntmps26
 go_upto_region 1 with fail
 generalize (w.alloc (.cells #[.int .u8 0,.int .i64 0,.string ⟨#[]⟩,.slice none 0 0] 40))=w1 at *
 have ku:=Lib.hid (Mv.refl (λ_=>False) w1)
 have HC:=Lib.hid (DV sX w1 (by decide))
 try simp only[ae.val]at HC
 go_wp2_with fail
 refine HC.out.mono ?_
 clear HC
 rintro e y1 ⟨⟨kP,mP,sP,vP,lP⟩,rfl,o,t,hg⟩
 obtain⟨aP,cP,rfl,-,-⟩:=o.at.form
 simp only[ae.val]
 have iD:=Lib.hid (o.from (bH ku.out HZ.out))
 have HTP:=Lib.hid t
 have O5:=Lib.hid (gtr ku.out hg)
 clear o t hg
 have HC:=Lib.hid (oM 0 y1 ⟨by decide,by decide⟩)
 try simp only[ae.val]at HC
 go_wp2_with fail
 refine HC.out.mono ?_
 clear HC
 rintro e y2 ⟨⟨kQ,mQ,sQ,vQ,lQ⟩,rfl,o,t,hg⟩
 obtain⟨aQ,cQ,rfl,-,-⟩:=o.at.form
 simp only[ae.val]
 have Dn:=Lib.hid (o.from (bH O5.out HZ.out))
 have HTQ:=Lib.hid t
 have O6:=Lib.hid (gtr O5.out hg)
 have iD:=Lib.hid (iD.out.later hg)
 clear o t hg
 have HC:=Lib.hid (Ee sY sB y2 (by decide) (by decide))
 try simp only[ae.val]at HC
 go_wp2_with fail
 refine HC.out.mono ?_
 clear HC
 rintro e y3 ⟨⟨kR,mR,sR,vR,lR⟩,rfl,o,t,hg⟩
 obtain⟨aR,cR,rfl,-,-⟩:=o.at.form
 simp only[ae.val]
 have Rk:=Lib.hid (o.from (bH O6.out HZ.out))
 have HTR:=Lib.hid t
 have O7:=Lib.hid (gtr O6.out hg)
 have iD:=Lib.hid (iD.out.later hg)
 have Dn:=Lib.hid (Dn.out.later hg)
 clear o t hg
 have hgr:Grow y3 (y3.alloc (.cells #[.int .u8 kR,.int .i64 mR,.string sR,.slice aR lR.length cR] 40)):=(Mv.refl _ _).alloc _
 have HOW:=Lib.hid (iZ (k:=57) (n:=0) (s:=⟨#[]⟩) (P:=λb=>B<=b) (l:=[.mk kR mR sR (.slice aR lR.length cR) lR]) (m:=1) ⟨by decide,by decide⟩ ⟨by decide,by decide⟩ (by decide) (heap_alloc_new y3 _) (bH O7.out HZ.out) rfl (by decide) (λy hy=>by rw[List.mem_singleton.1 hy];exact Rk.out.later hgr))
 have iD:=Lib.hid (iD.out.later hgr)
 have Dn:=Lib.hid (Dn.out.later hgr)
 have O8:=Lib.hid (gtr O7.out hgr)
 clear hgr Rk
 have HC:=Lib.hid (D6 B sY (.mk kP mP sP (.slice aP lP.length cP) lP) (.mk kQ mQ sQ (.slice aQ lQ.length cQ) lQ) _ _ (y3.alloc (.cells #[.int .u8 kR,.int .i64 mR,.string sR,.slice aR lR.length cR] 40)) (by decide) (bH O8.out HZ.out) iD.out Dn.out HOW.out)
 try simp only[ae.val]at HC
 go_wp2_with fail
 refine HC.out.mono ?_
 clear HC
 rintro e w2 ⟨⟨kD,mD,sD,vD,lD⟩,rfl,o,t,hg⟩
 obtain⟨aD,cD,rfl,-,-⟩:=o.at.form
 simp only[ae.val]
 have Rl:=Lib.hid (o)
 have JW:=Lib.hid t
 have ZT:=Lib.hid (gtr O8.out hg)
 clear o t hg
 have JW:=Lib.hid (show ae.t (.mk kD mD sD (.slice aD lD.length cD) lD)=dK sY (bR sX) [psT sY sB] (aC 0)from by rw[JW.out,HTP.out,HTQ.out];simp only[ae.ts,HTR.out];rfl)
 have HG2:=Lib.hid ZT.out
 have rF:=Lib.hid (heap_alloc_new w2 (.cells #[.int .u8 kD,.int .i64 mD,.string sD,.slice aD lD.length cD] 40))
 have JX:=Lib.hid (show Grow w2 (w2.alloc (.cells #[.int .u8 kD,.int .i64 mD,.string sD,.slice aD lD.length cD] 40))from(Mv.refl _ _).alloc _)
 go_upto_region 2 with fail
 have ZU:=Lib.hid (Rl.out.later JX.out)
 have aA:=Lib.hid (gtr HG2.out JX.out)
 have HZ:=Lib.hid (bH aA.out HZ.out)
 clear HG2 JX Rl
 generalize (w2.alloc (.cells #[.int .u8 kD,.int .i64 mD,.string sD,.slice aD lD.length cD] 40))=w3 at *
 have HK:=Lib.hid (λ(y:World) (hy:Grow w3 y)=>And.intro (ah rF.out hy) (ZU.out.later hy))
 refine kK 30 37 [some 7,some 8,some 9,some 10,some 11,some 12,some 13,some 14,some 15,some 16,some 17,some 18,some 19,some 20,some 21,some 22,some 23,some 24,some 25,some 26,some 27,some 28,some 29,some 30,some 31,some 32,some 33,some 34,some 35,some 36] [[],[],[0,1],[],[],[3,4],[],[6],[2,5,7],[],[],[9,10],[],[],[12,13],[],[],[],[],[],[17,18,19],[15,16,20],[21],[11,14,22],[8,23],[24],[25],[26],[27],[28]] [] [.p (dG B (aS sT)),.p (dG B (aC 0)),.p (dG B (aX (aS sT) (aC 0))),.p (dG B (aS sA)),.p (dG B (aC 0)),.p (dG B (aX (aS sA) (aC 0))),.p (dG B (dN sA sT)),.p (om B 1 [dN sA sT]),.p (dG B (cO (aX (aS sT) (aC 0)) (aX (aS sA) (aC 0)) [dN sA sT])),.p (dG B (aS sA)),.p (dG B (aC 0)),.p (dG B (aX (aS sA) (aC 0))),.p (dG B (aS sT)),.p (dG B (aC 0)),.p (dG B (aX (aS sT) (aC 0))),.p (dG B (aC 0)),.p (dG B (aC 0)),.p (dG B (fT sX sT)),.c (.agg #[.int .u8 kD,.int .i64 mD,.string sD,.slice aD lD.length cD]),.p (dG B (psT sX sA)),.p (om B 3 [fT sX sT,dK sY (bR sX) [psT sY sB] (aC 0),psT sX sA]),.p (dG B (dK sX (aC 0) [fT sX sT,dK sY (bR sX) [psT sY sB] (aC 0),psT sX sA] (aC 0))),.p (om B 1 [dK sX (aC 0) [fT sX sT,dK sY (bR sX) [psT sY sB] (aC 0),psT sX sA] (aC 0)]),.p (dG B (cO (aX (aS sA) (aC 0)) (aX (aS sT) (aC 0)) [dK sX (aC 0) [fT sX sT,dK sY (bR sX) [psT sY sB] (aC 0),psT sX sA] (aC 0)])),.p (om B 2 [cO (aX (aS sT) (aC 0)) (aX (aS sA) (aC 0)) [dN sA sT],cO (aX (aS sA) (aC 0)) (aX (aS sT) (aC 0)) [dK sX (aC 0) [fT sX sT,dK sY (bR sX) [psT sY sB] (aC 0),psT sX sA] (aC 0)]]),.p (dG B (gz [cO (aX (aS sT) (aC 0)) (aX (aS sA) (aC 0)) [dN sA sT],cO (aX (aS sA) (aC 0)) (aX (aS sT) (aC 0)) [dK sX (aC 0) [fT sX sT,dK sY (bR sX) [psT sY sB] (aC 0),psT sX sA] (aC 0)]])),.p (om B 1 [gz [cO (aX (aS sT) (aC 0)) (aX (aS sA) (aC 0)) [dN sA sT],cO (aX (aS sA) (aC 0)) (aX (aS sT) (aC 0)) [dK sX (aC 0) [fT sX sT,dK sY (bR sX) [psT sY sB] (aC 0),psT sX sA] (aC 0)]]]),.p (dG B (Tree.mk 55 0 sT [gz [cO (aX (aS sT) (aC 0)) (aX (aS sA) (aC 0)) [dN sA sT],cO (aX (aS sA) (aC 0)) (aX (aS sT) (aC 0)) [dK sX (aC 0) [fT sX sT,dK sY (bR sX) [psT sY sB] (aC 0),psT sX sA] (aC 0)]]])),.p (om B 1 [Tree.mk 55 0 sT [gz [cO (aX (aS sT) (aC 0)) (aX (aS sA) (aC 0)) [dN sA sT],cO (aX (aS sA) (aC 0)) (aX (aS sT) (aC 0)) [dK sX (aC 0) [fT sX sT,dK sY (bR sX) [psT sY sB] (aC 0),psT sX sA] (aC 0)]]]]),.p (pU B (gz [Tree.mk 55 0 sT [gz [cO (aX (aS sT) (aC 0)) (aX (aS sA) (aC 0)) [dN sA sT],cO (aX (aS sA) (aC 0)) (aX (aS sT) (aC 0)) [dK sX (aC 0) [fT sX sT,dK sY (bR sX) [psT sY sB] (aC 0),psT sX sA] (aC 0)]]]]))] ⟨⟨(λv x y hg h=>h.later hg),λ_=>bg⟩,⟨(λv x y hg h=>h.later hg),λ_=>bg⟩,⟨(λv x y hg h=>h.later hg),λ_=>bg⟩,⟨(λv x y hg h=>h.later hg),λ_=>bg⟩,⟨(λv x y hg h=>h.later hg),λ_=>bg⟩,⟨(λv x y hg h=>h.later hg),λ_=>bg⟩,⟨(λv x y hg h=>h.later hg),λ_=>bg⟩,⟨(λv x y hg h=>h.later hg),λ_=>bg⟩,⟨(λv x y hg h=>h.later hg),λ_=>bg⟩,⟨(λv x y hg h=>h.later hg),λ_=>bg⟩,⟨(λv x y hg h=>h.later hg),λ_=>bg⟩,⟨(λv x y hg h=>h.later hg),λ_=>bg⟩,⟨(λv x y hg h=>h.later hg),λ_=>bg⟩,⟨(λv x y hg h=>h.later hg),λ_=>bg⟩,⟨(λv x y hg h=>h.later hg),λ_=>bg⟩,⟨(λv x y hg h=>h.later hg),λ_=>bg⟩,⟨(λv x y hg h=>h.later hg),λ_=>bg⟩,⟨(λv x y hg h=>h.later hg),λ_=>bg⟩,⟨(λv x y hg h=>h.later hg),λ_=>bg⟩,⟨(λv x y hg h=>h.later hg),λ_=>bg⟩,⟨(λv x y hg h=>h.later hg),λ_=>bg⟩,⟨(λv x y hg h=>h.later hg),λ_=>bg⟩,⟨(λv x y hg h=>h.later hg),λ_=>bg⟩,⟨(λv x y hg h=>h.later hg),λ_=>bg⟩,⟨(λv x y hg h=>h.later hg),λ_=>bg⟩,⟨(λv x y hg h=>h.later hg),λ_=>bg⟩,⟨(λv x y hg h=>h.later hg),λ_=>bg⟩,⟨(λv x y hg h=>h.later hg),λ_=>bg⟩,⟨(λv x y hg h=>h.later hg),λ_=>bg⟩,trivial⟩ (dm rfl) ?steps ?done
 case steps =>
  refine⟨?s0,?s1,?s2,?s3,?s4,?s5,?s6,?s7,?s8,?s9,?s10,?s11,?s12,?s13,?s14,?s15,?s16,?s17,?s18,?s19,?s20,?s21,?s22,?s23,?s24,?s25,?s26,?s27,?s28,?s29,trivial⟩
  case s0 =>
   refine ok HK (λvs x hG HX hP => ?_)
   have hZ:=bH hG HZ.out
   have HC:=Lib.hid (wS sT x (by decide))
   try simp only[ae.val]at HC
   simp only[zS]
   go_simp
   refine(HC.out).mono ?_
   rintro e y ⟨n,rfl,hn,ht,hg⟩
   exact⟨_,rfl,hg,n,rfl,hn.from hZ,ht⟩
  case s1 =>
   refine ok HK (λvs x hG HX hP => ?_)
   have hZ:=bH hG HZ.out
   have HC:=Lib.hid (oM 0 x ⟨by decide,by decide⟩)
   try simp only[ae.val]at HC
   simp only[zS]
   go_simp
   refine(HC.out).mono ?_
   rintro e y ⟨n,rfl,hn,ht,hg⟩
   exact⟨_,rfl,hg,n,rfl,hn.from hZ,ht⟩
  case s2 =>
   refine ok HK (λvs x hG HX hP => ?_)
   have p0:=pq hP 0
   obtain⟨⟨k0,m0,s0,v0,l0⟩,h0,o0,t0⟩:=p0
   obtain⟨a0,c0,rfl,-,-⟩:=o0.at.form
   simp only[ae.val]at h0
   have p1:=pq hP 1
   obtain⟨⟨k1,m1,s1,v1,l1⟩,h1,o1,t1⟩:=p1
   obtain⟨a1,c1,rfl,-,-⟩:=o1.at.form
   simp only[ae.val]at h1
   have hZ:=bH hG HZ.out
   have HC:=Lib.hid (zF B (.mk k0 m0 s0 (.slice a0 l0.length c0) l0) (.mk k1 m1 s1 (.slice a1 l1.length c1) l1) x hZ o0 o1)
   try simp only[ae.val]at HC
   simp only[zS,h0,h1]
   go_simp
   refine(HC.out).mono ?_
   rintro e y ⟨n,rfl,hn,ht,hg⟩
   exact⟨_,rfl,hg,n,rfl,hn,by rw[ht,t0,t1];rfl⟩
  case s3 =>
   refine ok HK (λvs x hG HX hP => ?_)
   have hZ:=bH hG HZ.out
   have HC:=Lib.hid (wS sA x (by decide))
   try simp only[ae.val]at HC
   simp only[zS]
   go_simp
   refine(HC.out).mono ?_
   rintro e y ⟨n,rfl,hn,ht,hg⟩
   exact⟨_,rfl,hg,n,rfl,hn.from hZ,ht⟩
  case s4 =>
   refine ok HK (λvs x hG HX hP => ?_)
   have hZ:=bH hG HZ.out
   have HC:=Lib.hid (oM 0 x ⟨by decide,by decide⟩)
   try simp only[ae.val]at HC
   simp only[zS]
   go_simp
   refine(HC.out).mono ?_
   rintro e y ⟨n,rfl,hn,ht,hg⟩
   exact⟨_,rfl,hg,n,rfl,hn.from hZ,ht⟩
  case s5 =>
   refine ok HK (λvs x hG HX hP => ?_)
   have p3:=pq hP 3
   obtain⟨⟨k3,m3,s3,v3,l3⟩,h3,o3,t3⟩:=p3
   obtain⟨a3,c3,rfl,-,-⟩:=o3.at.form
   simp only[ae.val]at h3
   have p4:=pq hP 4
   obtain⟨⟨k4,m4,s4,v4,l4⟩,h4,o4,t4⟩:=p4
   obtain⟨a4,c4,rfl,-,-⟩:=o4.at.form
   simp only[ae.val]at h4
   have hZ:=bH hG HZ.out
   have HC:=Lib.hid (zF B (.mk k3 m3 s3 (.slice a3 l3.length c3) l3) (.mk k4 m4 s4 (.slice a4 l4.length c4) l4) x hZ o3 o4)
   try simp only[ae.val]at HC
   simp only[zS,h3,h4]
   go_simp
   refine(HC.out).mono ?_
   rintro e y ⟨n,rfl,hn,ht,hg⟩
   exact⟨_,rfl,hg,n,rfl,hn,by rw[ht,t3,t4];rfl⟩
  case s6 =>
   refine ok HK (λvs x hG HX hP => ?_)
   have hZ:=bH hG HZ.out
   have HC:=Lib.hid (LX sA sT x (by decide) (by decide))
   try simp only[ae.val]at HC
   simp only[zS]
   go_simp
   refine(HC.out).mono ?_
   rintro e y ⟨n,rfl,hn,ht,hg⟩
   exact⟨_,rfl,hg,n,rfl,hn.from hZ,ht⟩
  case s7 =>
   refine ok HK (λvs x hG HX hP => ?_)
   have p6:=pq hP 6
   obtain⟨⟨k6,m6,s6,v6,l6⟩,h6,o6,t6⟩:=p6
   obtain⟨a6,c6,rfl,-,-⟩:=o6.at.form
   simp only[ae.val]at h6
   have hZ:=bH hG HZ.out
   simp only[zS,h6]
   go_simp
   exact gl ⟨_,[.mk k6 m6 s6 (.slice a6 l6.length c6) l6],rfl,iZ ⟨by decide,by decide⟩ ⟨by decide,by decide⟩ (by decide) (heap_alloc_new x _) hZ rfl (by decide) (λy hy=>by rw[List.mem_singleton.1 hy];exact o6.later ((Mv.refl _ _).alloc _)),by simp[ae.ts,t6],hZ,_,heap_alloc_new x _⟩
  case s8 =>
   refine ok HK (λvs x hG HX hP => ?_)
   have p2:=pq hP 2
   obtain⟨⟨k2,m2,s2,v2,l2⟩,h2,o2,t2⟩:=p2
   obtain⟨a2,c2,rfl,-,-⟩:=o2.at.form
   simp only[ae.val]at h2
   have p5:=pq hP 5
   obtain⟨⟨k5,m5,s5,v5,l5⟩,h5,o5,t5⟩:=p5
   obtain⟨a5,c5,rfl,-,-⟩:=o5.at.form
   simp only[ae.val]at h5
   have p7:=pq hP 7
   obtain⟨g7,q7,h7,o7,t7,z7,cs7,b7⟩:=p7
   have hZ:=bH hG HZ.out
   have HC:=Lib.hid (GL B (.mk k2 m2 s2 (.slice a2 l2.length c2) l2) (.mk k5 m5 s5 (.slice a5 l5.length c5) l5) _ _ x hZ o2 o5 o7)
   try simp only[ae.val]at HC
   simp only[zS,h2,h5,h7]
   go_simp
   refine(HC.out).mono ?_
   rintro e y ⟨n,rfl,hn,ht,hg⟩
   exact⟨_,rfl,hg,n,rfl,hn,by rw[ht,t2,t5,t7];rfl⟩
  case s9 =>
   refine ok HK (λvs x hG HX hP => ?_)
   have hZ:=bH hG HZ.out
   have HC:=Lib.hid (wS sA x (by decide))
   try simp only[ae.val]at HC
   simp only[zS]
   go_simp
   refine(HC.out).mono ?_
   rintro e y ⟨n,rfl,hn,ht,hg⟩
   exact⟨_,rfl,hg,n,rfl,hn.from hZ,ht⟩
  case s10 =>
   refine ok HK (λvs x hG HX hP => ?_)
   have hZ:=bH hG HZ.out
   have HC:=Lib.hid (oM 0 x ⟨by decide,by decide⟩)
   try simp only[ae.val]at HC
   simp only[zS]
   go_simp
   refine(HC.out).mono ?_
   rintro e y ⟨n,rfl,hn,ht,hg⟩
   exact⟨_,rfl,hg,n,rfl,hn.from hZ,ht⟩
  case s11 =>
   refine ok HK (λvs x hG HX hP => ?_)
   have p9:=pq hP 9
   obtain⟨⟨k9,m9,s9,v9,l9⟩,h9,o9,t9⟩:=p9
   obtain⟨a9,c9,rfl,-,-⟩:=o9.at.form
   simp only[ae.val]at h9
   have qi:=pq hP 10
   obtain⟨⟨k10,m10,s10,v10,l10⟩,h10,uE,t10⟩:=qi
   obtain⟨yK,c10,rfl,-,-⟩:=uE.at.form
   simp only[ae.val]at h10
   have hZ:=bH hG HZ.out
   have HC:=Lib.hid (zF B (.mk k9 m9 s9 (.slice a9 l9.length c9) l9) (.mk k10 m10 s10 (.slice yK l10.length c10) l10) x hZ o9 uE)
   try simp only[ae.val]at HC
   simp only[zS,h9,h10]
   go_simp
   refine(HC.out).mono ?_
   rintro e y ⟨n,rfl,hn,ht,hg⟩
   exact⟨_,rfl,hg,n,rfl,hn,by rw[ht,t9,t10];rfl⟩
  case s12 =>
   refine ok HK (λvs x hG HX hP => ?_)
   have hZ:=bH hG HZ.out
   have HC:=Lib.hid (wS sT x (by decide))
   try simp only[ae.val]at HC
   simp only[zS]
   go_simp
   refine(HC.out).mono ?_
   rintro e y ⟨n,rfl,hn,ht,hg⟩
   exact⟨_,rfl,hg,n,rfl,hn.from hZ,ht⟩
  case s13 =>
   refine ok HK (λvs x hG HX hP => ?_)
   have hZ:=bH hG HZ.out
   have HC:=Lib.hid (oM 0 x ⟨by decide,by decide⟩)
   try simp only[ae.val]at HC
   simp only[zS]
   go_simp
   refine(HC.out).mono ?_
   rintro e y ⟨n,rfl,hn,ht,hg⟩
   exact⟨_,rfl,hg,n,rfl,hn.from hZ,ht⟩
  case s14 =>
   refine ok HK (λvs x hG HX hP => ?_)
   have Dk:=pq hP 12
   obtain⟨⟨k12,m12,s12,v12,uy⟩,h12,FH,t12⟩:=Dk
   obtain⟨a12,c12,rfl,-,-⟩:=FH.at.form
   simp only[ae.val]at h12
   have JQ:=pq hP 13
   obtain⟨⟨k13,m13,s13,v13,yF⟩,wB,Dl,t13⟩:=JQ
   obtain⟨Da,c13,rfl,-,-⟩:=Dl.at.form
   simp only[ae.val]at wB
   have hZ:=bH hG HZ.out
   have HC:=Lib.hid (zF B (.mk k12 m12 s12 (.slice a12 uy.length c12) uy) (.mk k13 m13 s13 (.slice Da yF.length c13) yF) x hZ FH Dl)
   try simp only[ae.val]at HC
   simp only[zS,h12,wB]
   go_simp
   refine(HC.out).mono ?_
   rintro e y ⟨n,rfl,hn,ht,hg⟩
   exact⟨_,rfl,hg,n,rfl,hn,by rw[ht,t12,t13];rfl⟩
  case s15 =>
   refine ok HK (λvs x hG HX hP => ?_)
   have hZ:=bH hG HZ.out
   have HC:=Lib.hid (oM 0 x ⟨by decide,by decide⟩)
   try simp only[ae.val]at HC
   simp only[zS]
   go_simp
   refine(HC.out).mono ?_
   rintro e y ⟨n,rfl,hn,ht,hg⟩
   exact⟨_,rfl,hg,n,rfl,hn.from hZ,ht⟩
  case s16 =>
   refine ok HK (λvs x hG HX hP => ?_)
   have hZ:=bH hG HZ.out
   have HC:=Lib.hid (oM 0 x ⟨by decide,by decide⟩)
   try simp only[ae.val]at HC
   simp only[zS]
   go_simp
   refine(HC.out).mono ?_
   rintro e y ⟨n,rfl,hn,ht,hg⟩
   exact⟨_,rfl,hg,n,rfl,hn.from hZ,ht⟩
  case s17 =>
   refine ok HK (λvs x hG HX hP => ?_)
   have hZ:=bH hG HZ.out
   have HC:=Lib.hid (MJ sX sT x (by decide) (by decide))
   try simp only[ae.val]at HC
   simp only[zS]
   go_simp
   refine(HC.out).mono ?_
   rintro e y ⟨n,rfl,hn,ht,hg⟩
   exact⟨_,rfl,hg,n,rfl,hn.from hZ,ht⟩
  case s18 =>
   refine ok HK (λvs x hG HX hP => ?_)
   obtain⟨⟨n0,n1⟩,n2,n3⟩:=az HX.out.1
   simp only[zS]
   go_simp
   exact gc
  case s19 =>
   refine ok HK (λvs x hG HX hP => ?_)
   have hZ:=bH hG HZ.out
   have HC:=Lib.hid (Ee sX sA x (by decide) (by decide))
   try simp only[ae.val]at HC
   simp only[zS]
   go_simp
   refine(HC.out).mono ?_
   rintro e y ⟨n,rfl,hn,ht,hg⟩
   exact⟨_,rfl,hg,n,rfl,hn.from hZ,ht⟩
  case s20 =>
   refine ok HK (λvs x hG HX hP => ?_)
   have p17:=pq hP 17
   obtain⟨⟨k17,m17,s17,v17,Rm⟩,Dc,Rn,t17⟩:=p17
   obtain⟨a17,c17,rfl,-,-⟩:=Rn.at.form
   simp only[ae.val]at Dc
   have p19:=pq hP 19
   obtain⟨⟨k19,m19,s19,v19,Ro⟩,h19,Rp,t19⟩:=p19
   obtain⟨a19,c19,rfl,-,-⟩:=Rp.at.form
   simp only[ae.val]at h19
   have hZ:=bH hG HZ.out
   have oD:=HX.out.2
   simp only[zS,Dc,h19]
   go_simp
   exact gl ⟨_,[.mk k17 m17 s17 (.slice a17 Rm.length c17) Rm,.mk kD mD sD (.slice aD lD.length cD) lD,.mk k19 m19 s19 (.slice a19 Ro.length c19) Ro],rfl,iZ ⟨by decide,by decide⟩ ⟨by decide,by decide⟩ (by decide) (heap_alloc_new x _) hZ rfl (by decide) (λy hy=>by simp only[List.mem_cons,List.mem_nil_iff,or_false]at hy;rcases hy with rfl|rfl|rfl <;> first|exact Rn.later ((Mv.refl _ _).alloc _)|exact oD.later ((Mv.refl _ _).alloc _)|exact Rp.later ((Mv.refl _ _).alloc _)),by simp[ae.ts,t17,JW.out,t19],hZ,_,heap_alloc_new x _⟩
  case s21 =>
   refine ok HK (λvs x hG HX hP => ?_)
   have JS:=pq hP 15
   obtain⟨⟨k15,m15,s15,v15,Rq⟩,uw,Dm,t15⟩:=JS
   obtain⟨a15,c15,rfl,-,-⟩:=Dm.at.form
   simp only[ae.val]at uw
   have p16:=pq hP 16
   obtain⟨⟨k16,m16,s16,v16,Rs⟩,h16,o16,t16⟩:=p16
   obtain⟨a16,c16,rfl,-,-⟩:=o16.at.form
   simp only[ae.val]at h16
   have p20:=pq hP 20
   obtain⟨g20,q20,h20,o20,t20,z20,acu,b20⟩:=p20
   have hZ:=bH hG HZ.out
   have HC:=Lib.hid (D6 B sX (.mk k15 m15 s15 (.slice a15 Rq.length c15) Rq) (.mk k16 m16 s16 (.slice a16 Rs.length c16) Rs) _ _ x (by decide) hZ Dm o16 o20)
   try simp only[ae.val]at HC
   simp only[zS,uw,h16,h20]
   go_simp
   refine(HC.out).mono ?_
   rintro e y ⟨n,rfl,hn,ht,hg⟩
   exact⟨_,rfl,hg,n,rfl,hn,by rw[ht,t15,t16,t20];rfl⟩
  case s22 =>
   refine ok HK (λvs x hG HX hP => ?_)
   have p21:=pq hP 21
   obtain⟨⟨k21,m21,s21,v21,Rt⟩,h21,Ru,t21⟩:=p21
   obtain⟨a21,c21,rfl,-,-⟩:=Ru.at.form
   simp only[ae.val]at h21
   have hZ:=bH hG HZ.out
   simp only[zS,h21]
   go_simp
   exact gl ⟨_,[.mk k21 m21 s21 (.slice a21 Rt.length c21) Rt],rfl,iZ ⟨by decide,by decide⟩ ⟨by decide,by decide⟩ (by decide) (heap_alloc_new x _) hZ rfl (by decide) (λy hy=>by rw[List.mem_singleton.1 hy];exact Ru.later ((Mv.refl _ _).alloc _)),by simp[ae.ts,t21],hZ,_,heap_alloc_new x _⟩
  case s23 =>
   refine ok HK (λvs x hG HX hP => ?_)
   have yV:=pq hP 11
   obtain⟨⟨k11,m11,s11,v11,Dj⟩,h11,wF,t11⟩:=yV
   obtain⟨FE,c11,rfl,-,-⟩:=wF.at.form
   simp only[ae.val]at h11
   have JR:=pq hP 14
   obtain⟨⟨k14,m14,s14,v14,Rv⟩,yM,FI,t14⟩:=JR
   obtain⟨a14,c14,rfl,-,-⟩:=FI.at.form
   simp only[ae.val]at yM
   have p22:=pq hP 22
   obtain⟨g22,q22,h22,o22,t22,z22,acv,b22⟩:=p22
   have hZ:=bH hG HZ.out
   have HC:=Lib.hid (GL B (.mk k11 m11 s11 (.slice FE Dj.length c11) Dj) (.mk k14 m14 s14 (.slice a14 Rv.length c14) Rv) _ _ x hZ wF FI o22)
   try simp only[ae.val]at HC
   simp only[zS,h11,yM,h22]
   go_simp
   refine(HC.out).mono ?_
   rintro e y ⟨n,rfl,hn,ht,hg⟩
   exact⟨_,rfl,hg,n,rfl,hn,by rw[ht,t11,t14,t22];rfl⟩
  case s24 =>
   refine ok HK (λvs x hG HX hP => ?_)
   have p8:=pq hP 8
   obtain⟨⟨k8,m8,s8,v8,l8⟩,h8,o8,t8⟩:=p8
   obtain⟨a8,c8,rfl,-,-⟩:=o8.at.form
   simp only[ae.val]at h8
   have p23:=pq hP 23
   obtain⟨⟨k23,m23,s23,v23,Rw⟩,h23,Rx,t23⟩:=p23
   obtain⟨a23,c23,rfl,-,-⟩:=Rx.at.form
   simp only[ae.val]at h23
   have hZ:=bH hG HZ.out
   simp only[zS,h8,h23]
   go_simp
   exact gl ⟨_,[.mk k8 m8 s8 (.slice a8 l8.length c8) l8,.mk k23 m23 s23 (.slice a23 Rw.length c23) Rw],rfl,iZ ⟨by decide,by decide⟩ ⟨by decide,by decide⟩ (by decide) (heap_alloc_new x _) hZ rfl (by decide) (λy hy=>by simp only[List.mem_cons,List.mem_nil_iff,or_false]at hy;rcases hy with rfl|rfl <;> first|exact o8.later ((Mv.refl _ _).alloc _)|exact Rx.later ((Mv.refl _ _).alloc _)),by simp[ae.ts,t8,t23],hZ,_,heap_alloc_new x _⟩
  case s25 =>
   refine ok HK (λvs x hG HX hP => ?_)
   have p24:=pq hP 24
   obtain⟨g24,q24,h24,o24,t24,z24,acw,b24⟩:=p24
   have hZ:=bH hG HZ.out
   have HC:=Lib.hid (zG (some ⟨g24,0,none⟩) 2 2 x)
   try simp only[ae.val]at HC
   simp only[zS,h24]
   go_simp
   refine(HC.out).mono ?_
   rintro e y ⟨rfl,hg⟩
   exact⟨_,rfl,hg,.mk 57 0 ⟨#[]⟩ (.slice (some ⟨g24,0,none⟩) 2 2) q24,rfl,o24.later hg,by rw[ae.t,t24];rfl⟩
  case s26 =>
   refine ok HK (λvs x hG HX hP => ?_)
   have p25:=pq hP 25
   obtain⟨⟨k25,m25,s25,v25,Ry⟩,Rz,RA,t25⟩:=p25
   obtain⟨a25,c25,rfl,-,-⟩:=RA.at.form
   simp only[ae.val]at Rz
   have hZ:=bH hG HZ.out
   simp only[zS,Rz]
   go_simp
   exact gl ⟨_,[.mk k25 m25 s25 (.slice a25 Ry.length c25) Ry],rfl,iZ ⟨by decide,by decide⟩ ⟨by decide,by decide⟩ (by decide) (heap_alloc_new x _) hZ rfl (by decide) (λy hy=>by rw[List.mem_singleton.1 hy];exact RA.later ((Mv.refl _ _).alloc _)),by simp[ae.ts,t25],hZ,_,heap_alloc_new x _⟩
  case s27 =>
   refine ok HK (λvs x hG HX hP => ?_)
   have p26:=pq hP 26
   obtain⟨FJ,q26,Dp,o26,t26,z26,acx,JY⟩:=p26
   have hZ:=bH hG HZ.out
   have HC:=Lib.hid (zI 55 sT (some ⟨FJ,0,none⟩) 1 1 x)
   try simp only[ae.val]at HC
   simp only[zS,Dp]
   go_simp
   refine(HC.out).mono ?_
   rintro e y ⟨rfl,hg⟩
   exact⟨_,rfl,hg,.mk 55 0 sT (.slice (some ⟨FJ,0,none⟩) 1 1) q26,rfl,(o26.later hg).YD 55 sT ⟨by decide,by decide⟩ (by decide),by rw[ae.t,t26]⟩
  case s28 =>
   refine ok HK (λvs x hG HX hP => ?_)
   have p27:=pq hP 27
   obtain⟨⟨k27,m27,s27,v27,RB⟩,h27,RD,t27⟩:=p27
   obtain⟨a27,c27,rfl,-,-⟩:=RD.at.form
   simp only[ae.val]at h27
   have hZ:=bH hG HZ.out
   simp only[zS,h27]
   go_simp
   exact gl ⟨_,[.mk k27 m27 s27 (.slice a27 RB.length c27) RB],rfl,iZ ⟨by decide,by decide⟩ ⟨by decide,by decide⟩ (by decide) (heap_alloc_new x _) hZ rfl (by decide) (λy hy=>by rw[List.mem_singleton.1 hy];exact RD.later ((Mv.refl _ _).alloc _)),by simp[ae.ts,t27],hZ,_,heap_alloc_new x _⟩
  case s29 =>
   refine ok HK (λvs x hG HX hP => ?_)
   have p28:=pq hP 28
   obtain⟨FK,q28,Dq,o28,t28,z28,ZV,Dr⟩:=p28
   have hZ:=bH hG HZ.out
   have HC:=Lib.hid (zG (some ⟨FK,0,none⟩) 1 1 x)
   try simp only[ae.val]at HC
   simp only[zS,Dq]
   go_simp
   refine(HC.out).mono ?_
   rintro e y ⟨rfl,hg⟩
   exact⟨_,rfl,hg,FK,q28,ZV,rfl,o28.later hg,by rw[ae.t,t28];rfl,z28,ah Dr hg⟩
 case done =>
 intro vs wx hE
 have hG:=hE.grow
 have p29:=hE.val 29
 obtain⟨J2,q29,ZW,h29,RF,t29,z29,RG⟩:=p29
 have aO:=Lib.hid (gtr aA.out hG)
 have JU:=Lib.hid t29
 have JV:=Lib.hid RF
 have dZ:=Lib.hid RG
 clear hE hG t29 RF RG
 simp only[zS,Nat.reduceAdd,h29,List.drop_succ_cons,List.drop_zero]
 have dU:=Lib.hid (dH (ah HB1.out aO.out) (.int .u8 57) (.int .i64 0) (.string ⟨#[]⟩) (.slice (some ⟨J2,0,none⟩) 1 1))
 obtain⟨⟨n0,n1⟩,n2,n3⟩:=az (ah HB1.out aO.out)
 have hbl:=lt_of_block (ah HB1.out aO.out)
 have zt:=bB (ah HB1.out aO.out)
 go_wp2_with fail
 obtain⟨⟨t0,t1⟩,t2,t3⟩:=az dU.out.1
 exact bodyPost_ret (v := .agg #[.int .u8 57,.int .i64 0,.string ⟨#[]⟩,.slice (some ⟨J2,0,none⟩) 1 1]) (by simp[results,Tryz.results26,go_sem,t0,t1,t2,t3]) rfl ⟨_,rfl,⟨J2,q29,ZW,rfl,JV.out.fill dU.out.2 (by omega),JU.out,by omega,(dU.out.2.block _ (lt_of_block dZ.out) (λe=>by omega)).trans dZ.out⟩,bM (gtr aj.out aO.out) dU.out.2 (λb e=>by omega)⟩
end Go.Proofs.YtbpodipdfohikaaGreat
